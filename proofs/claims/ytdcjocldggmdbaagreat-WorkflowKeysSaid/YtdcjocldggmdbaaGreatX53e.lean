/- Layer 53: the reference's Valid, walked. -/
import Derived.Test.YtdcjocldggmdbaaGreatW53z
import Derived.Great.BuildSlice
set_option linter.unusedSimpArgs false
namespace Go.Proofs.YtdcjocldggmdbaaGreat
open Go.RowKit Go

set_option maxRecDepth 20000 in
set_option maxHeartbeats 4000000 in
theorem rvalid53 {S : Nat → Prop} (w : World) (a : Option Addr) (len cap : Nat) (xs : List taskT.den) (hx : Rd (.sl taskT) S w [.slice a len cap] xs) (hS : ∀ b, S b → b < w.heap.size) :
    Calls Tryz.prog 46 #[.slice a len cap] w (ValidP (xs.map tk) w) := by
  obtain ⟨hl, hlc, hcm, -⟩ := id hx.sl_flat
  have HX := Lib.hid hx
  have HS := Lib.hid hS
  have HL := Lib.hid (show (xs.map tk).length = len by rw [List.length_map]; exact hl)
  clear hx hl hS
  go_enter Tryz.func46, Tryz.ntmps46
  by_cases e1 : (len : Int) < 1
  · go_wp2_with fail
    go_ret
    exact ⟨false, rfl, Below.refl _ _, fun h => (by cases h), fun h => absurd h fun hv => by have := hv.1; rw [HL.out] at this; omega⟩
  by_cases e2 : (20 : Int) < (len : Int)
  · go_wp2_with fail
    go_ret
    exact ⟨false, rfl, Below.refl _ _, fun h => (by cases h), fun h => absurd h fun hv => by have := hv.2.1; rw [HL.out] at this; omega⟩
  have HE := Lib.hid (show 1 ≤ len ∧ len ≤ 20 by omega)
  go_wp2_with fail
  clear e1 e2
  go_loopw [3] (fun i wr => ∃ k : Nat, k ≤ len ∧ i = .int .i64 k ∧ (∀ j, j < k → RTask (xs.map tk) j) ∧ Below w.heap.size w wr) (fun i _ => len - (intOf i).toNat)
  case atStart => exact ⟨0, Nat.zero_le _, rfl, fun j hj => absurd hj (by omega), Below.refl _ _⟩
  case round =>
    obtain ⟨k, hk, rfl, hall, hB⟩ := hrel
    have HALL := Lib.hid hall
    have HB := Lib.hid hB
    clear hall hB
    by_cases hlt : k < len
    · have hkI : (k : Int) < (len : Int) := by omega
      have hkx : k < xs.length := by have := HL.out; rw [List.length_map] at this; omega
      have hkm : k < (xs.map tk).length := by rw [List.length_map]; exact hkx
      have HXW := Lib.hid (HX.out.below HB.out HS.out)
      have HSW := Lib.hid (show ∀ b, S b → b < wr.heap.size from fun b hb => Nat.lt_of_lt_of_le (HS.out b hb) HB.out.size)
      obtain ⟨b, o, na, nl, nc, rfl, -, m0, m1, m2, m3, hnd, hnm⟩ := task_at HXW.out k hkx
      have hget : (xs.map tk)[k] = tk xs[k] := List.getElem_map _
      have HBAD := Lib.hid (show ¬ RTask (xs.map tk) k → ¬ ValidT (xs.map tk) from fun h hv => h (((rval_iff _).2 hv).2.2 k hkm))
      have HGOOD := Lib.hid (show nameB (tk xs[k]).name = true → plc (xs.map tk) (tk xs[k]).name = k → (∀ q, q < (tk xs[k]).needs.length → NeedAt (xs.map tk) k (tk xs[k]).needs q) → ∀ j, j < k + 1 → RTask (xs.map tk) j from fun h1 h2 h3 j hj => by
        by_cases e : j = k
        · subst e; intro hi; rw [hget]; exact ⟨h1, h2, h3⟩
        · exact HALL.out j (by omega))
      have HRT := Lib.hid (show RTask (xs.map tk) k → nameB (tk xs[k]).name = true ∧ plc (xs.map tk) (tk xs[k]).name = k ∧ ∀ q, q < (tk xs[k]).needs.length → NeedAt (xs.map tk) k (tk xs[k]).needs q from fun h => by have := h hkm; rw [hget] at this; exact this)
      have hpq := plcI_eq (ts := xs.map tk) (n := (tk xs[k]).name) hkm
      have HPQ := Lib.hid hpq
      have HLT := Lib.hid hlt
      have HKM := Lib.hid hkm
      clear hpq hget
      generalize tk xs[k] = t at m0 m1 m2 m3 hnd hnm HGOOD HRT HPQ
      obtain ⟨tnm, tnd, tg, ta⟩ := t
      simp only at m0 m1 m2 m3 hnd hnm HGOOD HRT HPQ
      have HNM := Lib.hid hnm
      have HND := Lib.hid hnd
      have hrz := heap_alloc_new wr (.cells #[.string ⟨#[]⟩, .slice none 0 0, .bool false, .bool false] 104)
      have HRZ := Lib.hid hrz
      have hrow := setRow_heap _ _ _ #[.string tnm, .slice na nl nc, .bool tg, .bool ta] _ _ hrz
      have hBs := below_setRow (n := wr.heap.size) (p := wr.heap.size) ((Below.refl wr.heap.size wr).alloc (Nat.le_refl _) (.cells #[.string ⟨#[]⟩, .slice none 0 0, .bool false, .bool false] 104)) (Nat.le_refl _) #[.string tnm, .slice na nl nc, .bool tg, .bool ta]
      have x0 := blk_cell hrow 0
      have x1 := blk_cell hrow 1
      simp at x0 x1
      have HROW := Lib.hid hrow
      have HBS := Lib.hid hBs
      clear hrz hrow hBs hkx hkm hlt hnd hnm
      go_wp2_with (refine wpList_store_row rfl _ _ _ rfl (wr.heap.size) #[.string tnm, .slice na nl nc, .bool tg, .bool ta] rfl rfl 104 _ HRZ.out (by kernel_rfl) (by rfl) (by simp [Value.oneCell']) ?_)
      generalize hw5 : World.setRow (wr.alloc _) _ _ = w5 at HROW HBS ⊢
      clear hw5 HRZ m0 m1 m2 m3 x0 x1
      have HB5 := Lib.hid (below_step HB.out HBS.out)
      have HX5 := Lib.hid (HXW.out.below HBS.out HSW.out)
      have HND5 := Lib.hid (HND.out.below HBS.out HSW.out)
      have HS5 := Lib.hid (show ∀ b, S b → b < w5.heap.size from fun b hb => Nat.lt_of_lt_of_le (HSW.out b hb) HBS.out.size)
      obtain ⟨tb, htb⟩ : ∃ q, wr.heap.size = q := ⟨_, rfl⟩
      rw [htb] at HROW ⊢
      clear htb
      obtain ⟨-, hnc, hncm, hat⟩ := Rd.sl1 (e := .str) rfl HND5.out
      have HAT := Lib.hid hat
      have HNL := Lib.hid (show tnd.length = nl from HND5.out.sl_flat.1)
      clear hat
      have x0 := blk_cell HROW.out 0
      have x1 := blk_cell HROW.out 1
      simp at x0 x1
      refine (rname53 w5 tnm HNM.out).mono ?_
      rintro e w6 ⟨rfl, rfl⟩
      generalize hnb : nameB tnm = nb
      have HNB := Lib.hid hnb
      clear hnb
      cases nb
      · go_wp2_with fail
        go_ret
        exact ⟨false, rfl, HB5.out, fun h => (by cases h), fun h => absurd h (HBAD.out fun hr => by have := (HRT.out hr).1; rw [HNB.out] at this; cases this)⟩
      go_wp2_with fail
      refine (rplace53 w6 (some ⟨b, o, none⟩) len cap xs HX5.out tnm).mono ?_
      rintro e w7 ⟨rfl, rfl⟩
      obtain ⟨pv, hpv⟩ : ∃ q, plcI (xs.map tk) tnm = q := ⟨_, rfl⟩
      rw [hpv]
      have HPV := Lib.hid (show pv = (k : Int) ↔ plc (xs.map tk) tnm = k from by rw [← hpv]; exact HPQ.out)
      clear hpv
      by_cases hpk : pv = (k : Int)
      · subst hpk
        have HPL := Lib.hid (HPV.out.1 rfl)
        have hl1 := HLT.out
        go_wp2_with fail
        go_loopw [5] (fun i wr => ∃ q : Nat, q ≤ nl ∧ i = .int .i64 q ∧ (∀ q', q' < q → NeedAt (xs.map tk) k tnd q') ∧ Below w7.heap.size w7 wr) (fun i _ => nl - (intOf i).toNat)
        case atStart => exact ⟨0, Nat.zero_le _, rfl, fun j hj => absurd hj (by omega), Below.refl _ _⟩
        case round =>
          obtain ⟨q, hq, rfl, hqa, hB7⟩ := hrel
          have HQA := Lib.hid hqa
          have HB7 := Lib.hid hB7
          have hr7 := (hB7.block _ (blk_lt HROW.out)).trans HROW.out
          have y1 := blk_cell hr7 1
          simp at y1
          clear hqa hB7 hr7
          by_cases hlt2 : q < nl
          · have hqI : (q : Int) < (nl : Int) := by omega
            have hqx : q < tnd.length := by rw [HNL.out]; exact hlt2
            obtain ⟨nb, no, nv, rfl, hSb, z0, hz⟩ := HAT.out q hqx
            obtain ⟨he, hsz⟩ := hz
            simp only [List.cons.injEq, and_true] at he
            subst he
            have z := (World.cell?_of_block (w := w7) (w' := wr) (a := ⟨nb, no + q, none⟩) (HB7.out.block nb (HS5.out nb hSb))).trans z0
            have HNA := Lib.hid (show NeedAt (xs.map tk) k tnd q → plc (xs.map tk) (tnd[q]'hqx) < k ∧ ∀ j (hj : j < q) (hj' : j < tnd.length), tnd[j] ≠ tnd[q]'hqx from fun h => ⟨(h hqx).1, fun j hj _ => (h hqx).2 j hj⟩)
            have HNG := Lib.hid (show plc (xs.map tk) (tnd[q]'hqx) < k → (∀ j (hj : j < q) (hj' : j < tnd.length), tnd[j] ≠ tnd[q]'hqx) → ∀ q', q' < q + 1 → NeedAt (xs.map tk) k tnd q' from fun h1 h2 q' hq' => by
              by_cases e : q' = q
              · subst e; intro _; exact ⟨h1, fun j hj => h2 j hj _⟩
              · exact HQA.out q' (by omega))
            have HQX := Lib.hid hqx
            generalize tnd[q] = s at z z0 hsz HNA HNG
            have HZ0 := Lib.hid z0
            clear z0
            have HPP := Lib.hid (plcI_lt (ts := xs.map tk) (n := s) (i := k) (Nat.le_of_lt HKM.out))
            have HBQ := Lib.hid (show ¬ NeedAt (xs.map tk) k tnd q → ¬ ValidT (xs.map tk) from fun h => HBAD.out fun hr => h ((HRT.out hr).2.2 q HQX.out))
            clear hqx
            go_wp2_with fail
            refine (rplace53 wr (some ⟨b, o, none⟩) len cap xs (HX5.out.below HB7.out HS5.out) s).mono ?_
            rintro e w8 ⟨rfl, rfl⟩
            generalize plcI (xs.map tk) s = pv2 at HPP ⊢
            by_cases hp0 : pv2 < 0
            · go_wp2_with fail
              go_ret
              exact ⟨false, rfl, below_step HB5.out HB7.out, fun h => (by cases h), fun h => absurd h (HBQ.out fun hn => by have := HPP.out.2 (HNA.out hn).1; omega)⟩
            by_cases hp1 : (k : Int) ≤ pv2
            · go_wp2_with fail
              go_ret
              exact ⟨false, rfl, below_step HB5.out HB7.out, fun h => (by cases h), fun h => absurd h (HBQ.out fun hn => by have := HPP.out.2 (HNA.out hn).1; omega)⟩
            have HPK := Lib.hid (HPP.out.1 ⟨by omega, by omega⟩)
            go_wp2_with fail
            go_loopw [7] (fun i wr => ∃ j : Nat, j ≤ q ∧ i = .int .i64 j ∧ (∀ j' (hj : j' < j) (hjx : j' < tnd.length), tnd[j'] ≠ s) ∧ Below w7.heap.size w7 wr) (fun i _ => q - (intOf i).toNat)
            case atStart => exact ⟨0, Nat.zero_le _, rfl, fun j hj => absurd hj (by omega), HB7.out⟩
            case round =>
              obtain ⟨j, hj, rfl, hja, hB9⟩ := hrel
              have HJA := Lib.hid hja
              have HB9 := Lib.hid hB9
              clear hja hB9
              by_cases hlt3 : j < q
              · have hjI : (j : Int) < (q : Int) := by omega
                have hjx : j < tnd.length := by have := HQX.out; omega
                obtain ⟨nb2, no2, nv2, hnb2, hSb2, u0, hu⟩ := HAT.out j hjx
                simp only [Option.some.injEq, Addr.mk.injEq, and_true] at hnb2
                obtain ⟨rfl, rfl⟩ := hnb2
                obtain ⟨he2, hsz2⟩ := hu
                simp only [List.cons.injEq, and_true] at he2
                subst he2
                have v1 := (World.cell?_of_block (w := w7) (w' := wr) (a := ⟨nb, no + j, none⟩) (HB9.out.block nb (HS5.out nb hSb))).trans u0
                have v2 := (World.cell?_of_block (w := w7) (w' := wr) (a := ⟨nb, no + q, none⟩) (HB9.out.block nb (HS5.out nb hSb))).trans HZ0.out
                have hr9 := (HB9.out.block _ (blk_lt HROW.out)).trans HROW.out
                have y9 := blk_cell hr9 1
                simp at y9
                have HNJ := Lib.hid (show tnd[j] ≠ s → ∀ j' (hj : j' < j + 1) (hjx : j' < tnd.length), tnd[j'] ≠ s from fun h j' hj' hjx' => by
                  by_cases e : j' = j
                  · subst e; exact h
                  · exact HJA.out j' (by omega) hjx')
                have HNE := Lib.hid (show tnd[j] = s → ¬ ValidT (xs.map tk) from fun h => HBQ.out fun hn => (HNA.out hn).2 j hlt3 hjx h)
                clear u0 hr9 hsz2 hSb2 z y1
                generalize tnd[j] = s2 at v1 HNJ HNE
                clear hjx
                have hlt3' := hlt3
                have hqn := hlt2
                by_cases hes : s2 = s
                · have hq0 : (s2.toList == s.toList) = true := by rw [strB]; exact decide_eq_true hes
                  have HES := Lib.hid hes
                  clear hes
                  go_wp2_with fail
                  go_quiet (fail)
                  go_wp2_with fail
                  go_ret
                  exact ⟨false, rfl, below_drewN (below_step HB5.out HB9.out) _, fun h => (by cases h), fun h => absurd h (HNE.out HES.out)⟩
                · have hq0 : (s2.toList == s.toList) = false := by rw [strB]; exact decide_eq_false hes
                  have HES := Lib.hid hes
                  clear hes
                  go_wp2_with fail
                  go_quiet (fail)
                  go_wp2_with fail
                  go_roundw
                  case rel => exact ⟨j + 1, by omega, by go_num, HNJ.out HES.out, below_drewN HB9.out _⟩
                  case measure => simp [intOf]; try omega
              · obtain rfl : j = q := by omega
                go_wp2_with fail
                go_roundw
                case rel => exact ⟨j + 1, by omega, by go_num, HNG.out HPK.out (fun j' hj' hjx' => HJA.out j' hj' hjx'), HB9.out⟩
                case measure => simp [intOf]; try omega
          · obtain rfl : q = nl := by omega
            have hl1 := HLT.out
            go_wp2_with fail
            go_roundw
            case rel => exact ⟨k + 1, HLT.out, by go_num, HGOOD.out HNB.out HPL.out (fun q' hq' => HQA.out q' (by rw [HNL.out] at hq'; exact hq')), below_step HB5.out HB7.out⟩
            case measure => simp [intOf]; try omega
      · have b1 : (pv == (k : Int)) = false := beq_false_of_ne hpk
        go_wp2_with fail
        go_ret
        exact ⟨false, rfl, HB5.out, fun h => (by cases h), fun h => absurd h (HBAD.out fun hr => hpk (HPV.out.2 (HRT.out hr).2.1))⟩
    · obtain rfl : k = len := by omega
      go_wp2_with fail
      go_ret
      exact ⟨true, rfl, HB.out, fun _ => (rval_iff _).1 ⟨by rw [HL.out]; exact HE.out.1, by rw [HL.out]; exact HE.out.2, fun i hi => HALL.out i (by rw [HL.out] at hi; exact hi)⟩, fun _ => rfl⟩
end Go.Proofs.YtdcjocldggmdbaaGreat

/- Layer 53: own. -/
set_option linter.unusedSimpArgs false
namespace Go.Proofs.YtdcjocldggmdbaaGreat
open Go.RowKit Go

theorem info_str53 : (Tryz.prog.info? 9).map (fun i => (i.zero, i.size, i.bytes)) = some (some (.string ⟨#[]⟩), Ty.str.sz, 16) := by kernel_rfl
theorem Owns.wider53 {e : Ty} {te : TypeId} {base : Nat} {S S' : Nat → Prop} {w : World} {v : Value} {xs : List e.den} (h : Owns e te base S w v xs) (hs : ∀ b, S b → S' b) (hb : ∀ b, S' b → v.ownBlock ≠ some b ∧ b < w.heap.size) : Owns e te base S' w v xs := by
  obtain ⟨vs, h1, h2, -⟩ := h
  exact ⟨vs, h1, h2.keep (fun _ _ => rfl) hs, hb⟩
def OwnP (w : World) (xs : List taskT.den) (e : Ending) (w' : World) : Prop := ∃ (a : Option Addr) (len cap : Nat) (S : Nat → Prop), e = .returned (.slice a len cap) ∧ Rd (.sl taskT) S w' [.slice a len cap] xs ∧ (∀ b, S b → b < w'.heap.size) ∧ Below w.heap.size w w'
set_option maxRecDepth 20000 in
set_option maxHeartbeats 4000000 in
theorem own53 {T : Nat → Prop} (w : World) (a : Option Addr) (len cap : Nat) (xs : List taskT.den) (hx : Rd (.sl taskT) T w [.slice a len cap] xs) (hT : ∀ b, T b → b < w.heap.size) (hlen : len ≤ 1000) (hns : ∀ i (hi : i < xs.length), (tk xs[i]).needs.length ≤ 1000) :
    Calls Tryz.prog 22 #[.slice a len cap] w (OwnP w xs) := by
  obtain ⟨hl, hlc, hcm, -⟩ := id hx.sl_flat
  have HX := Lib.hid hx
  have HT := Lib.hid hT
  have HL := Lib.hid hl
  have HNS := Lib.hid hns
  clear hx hl hT hns
  go_enter Tryz.func22, Tryz.ntmps22
  go_wp2_with fail
  go_loopw [3, 4] (fun v i wr => ∃ (k : Nat) (SS : Nat → Prop), k ≤ len ∧ i = .int .i64 k ∧ Owns taskT 68 w.heap.size SS wr v (xs.take k) ∧ Below w.heap.size w wr) (fun _ i _ => len - (intOf i).toNat)
  case atStart => exact ⟨0, fun _ => False, Nat.zero_le _, rfl, Owns.nil _ _ _ _, Below.refl _ _⟩
  case round =>
    obtain ⟨k, SS, hk, rfl, hO, hB⟩ := hrel
    obtain ⟨va, vl, vc, rfl, -⟩ := hO.slice
    have HO := Lib.hid hO
    have HB := Lib.hid hB
    clear hO hB
    by_cases hlt : k < len
    · have hkI : (k : Int) < (len : Int) := by omega
      have hkx : k < xs.length := by rw [HL.out]; exact hlt
      have HXW := Lib.hid (HX.out.below HB.out HT.out)
      have HTW := Lib.hid (show ∀ b, T b → b < wr.heap.size from fun b hb => Nat.lt_of_lt_of_le (HT.out b hb) HB.out.size)
      obtain ⟨b, o, na, nl, nc, rfl, -, m0, m1, m2, m3, hnd, hnm⟩ := task_at HXW.out k hkx
      have hsucc : xs.take (k + 1) = xs.take k ++ [Tk.d (tk xs[k])] := by rw [d_tk]; exact List.take_succ_eq_append_getElem hkx
      have hnn := HNS.out k hkx
      have HK1 := Lib.hid (show (xs.take k).length = k by rw [List.length_take]; omega)
      have HSU := Lib.hid hsucc
      have HLT := Lib.hid hlt
      generalize tk xs[k] = t at m0 m1 m2 m3 hnd hnm hnn HSU
      obtain ⟨tnm, tnd, tg, ta⟩ := t
      simp only at m0 m1 m2 m3 hnd hnm hnn
      have HNM := Lib.hid hnm
      have hnl : tnd.length = nl := hnd.sl_flat.1
      have HNL := Lib.hid hnl
      have HND := Lib.hid hnd
      have hnlb : nl ≤ 1000 := by omega
      have HC0 : Cells [(⟨b, o + k * 4, none⟩, .string tnm), (⟨b, o + k * 4 + 1, none⟩, .slice na nl nc), (⟨b, o + k * 4 + 2, none⟩, .bool tg), (⟨b, o + k * 4 + 3, none⟩, .bool ta)] wr := ⟨m0, m1, m2, m3, trivial⟩
      clear hsucc hkx hlt hnd hnm hnl hnn
      go_wp2_with fail
      refine wp_region_T (Cells [(⟨b, o + k * 4, none⟩, .string tnm), (⟨b, o + k * 4 + 1, none⟩, .slice na nl nc), (⟨b, o + k * 4 + 2, none⟩, .bool tg), (⟨b, o + k * 4 + 3, none⟩, .bool ta)]) (fun i => i == 25) (by kernel_rfl) ?_
      have hSss1 := Cells.drew HC0
      have hB_0_s1 : Below wr.heap.size wr wr.drew := below_drew _
      generalize wr.drew = s1 at hSss1 hB_0_s1 ⊢
      have hB_s1_s1 := Below.refl s1.heap.size s1
      refine wpAnyT_pure (i := 0) (v := ?_) rfl (by kernel_rfl) (by kernel_rfl) (by kernel_rfl) (fun _ _ _ h => h) (by rfl) ?_ ?_
      rotate_left
      · intro w; go_simp; try with_reducible rfl
      simp only [Act.put, rgA, rgB, rgC, rgD, rgE, rgF]
      refine wpAnyT_pure (i := 1) (v := ?_) rfl (by kernel_rfl) (by kernel_rfl) (by kernel_rfl) (fun _ _ _ h => h) (by rfl) ?_ ?_
      rotate_left
      · intro w; go_simp; try with_reducible rfl
      simp only [Act.put, rgA, rgB, rgC, rgD, rgE, rgF]
      refine wpAnyT_pure (i := 2) (v := ?_) rfl (by kernel_rfl) (by kernel_rfl) (by kernel_rfl) (fun _ _ _ h => h) (by rfl) ?_ ?_
      rotate_left
      · intro w; go_simp; try with_reducible rfl
      simp only [Act.put, rgA, rgB, rgC, rgD, rgE, rgF]
      refine wpAnyT_pure (i := 3) (v := ?_) rfl (by kernel_rfl) (by kernel_rfl) (by kernel_rfl) (fun _ _ _ h => h) (by rfl) ?_ ?_
      rotate_left
      · intro w; go_simp; try with_reducible rfl
      simp only [Act.put, rgA, rgB, rgC, rgD, rgE, rgF]
      refine wpAnyT_pure (i := 4) (v := ?_) rfl (by kernel_rfl) (by kernel_rfl) (by kernel_rfl) (fun _ _ _ h => h) (by rfl) ?_ ?_
      rotate_left
      · intro w; go_simp; try with_reducible rfl
      simp only [Act.put, rgA, rgB, rgC, rgD, rgE, rgF]
      refine wpAnyT_pure (i := 7) (v := ?_) rfl (by kernel_rfl) (by kernel_rfl) (by kernel_rfl) (fun _ _ _ h => h) (by rfl) ?_ ?_
      rotate_left
      · intro w; go_simp; try with_reducible rfl
      simp only [Act.put, rgA, rgB, rgC, rgD, rgE, rgF]
      refine wpAnyT_pure (i := 8) (v := ?_) rfl (by kernel_rfl) (by kernel_rfl) (by kernel_rfl) (fun _ _ _ h => h) (by rfl) ?_ ?_
      rotate_left
      · intro w; go_simp; try with_reducible rfl
      simp only [Act.put, rgA, rgB, rgC, rgD, rgE, rgF]
      refine wpAnyT_pure (i := 9) (v := ?_) rfl (by kernel_rfl) (by kernel_rfl) (by kernel_rfl) (fun _ _ _ h => h) (by rfl) ?_ ?_
      rotate_left
      · intro w; go_simp; try with_reducible rfl
      simp only [Act.put, rgA, rgB, rgC, rgD, rgE, rgF]
      refine wpAnyT_pure (i := 10) (v := ?_) rfl (by kernel_rfl) (by kernel_rfl) (by kernel_rfl) (fun _ _ _ h => h) (by rfl) ?_ ?_
      rotate_left
      · intro w; go_simp; try with_reducible rfl
      simp only [Act.put, rgA, rgB, rgC, rgD, rgE, rgF]
      refine wpAnyT_pure (i := 13) (v := ?_) rfl (by kernel_rfl) (by kernel_rfl) (by kernel_rfl) (fun _ _ _ h => h) (by rfl) ?_ ?_
      rotate_left
      · intro w; go_simp; try with_reducible rfl
      simp only [Act.put, rgA, rgB, rgC, rgD, rgE, rgF]
      refine wpAnyT_pure (i := 14) (v := ?_) rfl (by kernel_rfl) (by kernel_rfl) (by kernel_rfl) (fun _ _ _ h => h) (by rfl) ?_ ?_
      rotate_left
      · intro w; go_simp; try with_reducible rfl
      simp only [Act.put, rgA, rgB, rgC, rgD, rgE, rgF]
      refine wpAnyT_pure (i := 15) (v := ?_) rfl (by kernel_rfl) (by kernel_rfl) (by kernel_rfl) (fun _ _ _ h => h) (by rfl) ?_ ?_
      rotate_left
      · intro w; go_simp; try with_reducible rfl
      simp only [Act.put, rgA, rgB, rgC, rgD, rgE, rgF]
      refine wpAnyT_pure (i := 16) (v := ?_) rfl (by kernel_rfl) (by kernel_rfl) (by kernel_rfl) (fun _ _ _ h => h) (by rfl) ?_ ?_
      rotate_left
      · intro w; go_simp; try with_reducible rfl
      simp only [Act.put, rgA, rgB, rgC, rgD, rgE, rgF]
      refine wpAnyT_pure (i := 18) (v := ?_) rfl (by kernel_rfl) (by kernel_rfl) (by kernel_rfl) (fun _ _ _ h => h) (by rfl) ?_ ?_
      rotate_left
      · intro w; go_simp; try with_reducible rfl
      simp only [Act.put, rgA, rgB, rgC, rgD, rgE, rgF]
      refine wpAnyT_pure (i := 19) (v := ?_) rfl (by kernel_rfl) (by kernel_rfl) (by kernel_rfl) (fun _ _ _ h => h) (by rfl) ?_ ?_
      rotate_left
      · intro w; go_simp; try with_reducible rfl
      simp only [Act.put, rgA, rgB, rgC, rgD, rgE, rgF]
      refine wpAnyT_pure (i := 20) (v := ?_) rfl (by kernel_rfl) (by kernel_rfl) (by kernel_rfl) (fun _ _ _ h => h) (by rfl) ?_ ?_
      rotate_left
      · intro w; go_simp; try with_reducible rfl
      simp only [Act.put, rgA, rgB, rgC, rgD, rgE, rgF]
      refine wpAnyT_pure (i := 21) (v := ?_) rfl (by kernel_rfl) (by kernel_rfl) (by kernel_rfl) (fun _ _ _ h => h) (by rfl) ?_ ?_
      rotate_left
      · intro w; go_simp; try with_reducible rfl
      simp only [Act.put, rgA, rgB, rgC, rgD, rgE, rgF]
      refine wpAnyT_loadW (i := 5) (v := ?_) rfl (by kernel_rfl) (by kernel_rfl) (by kernel_rfl) (by kernel_rfl) (by kernel_rfl) (fun _ _ _ h => h) (Or.inl ⟨by rfl, ?_⟩) hSss1 ?_
      rotate_left
      · intro w hSw; obtain ⟨e0, e1, e2, e3, -⟩ := hSw; go_simp; try with_reducible rfl
      simp only [Act.put, rgA, rgB, rgC, rgD, rgE, rgF]
      refine wpAnyT_loadW (i := 11) (v := ?_) rfl (by kernel_rfl) (by kernel_rfl) (by kernel_rfl) (by kernel_rfl) (by kernel_rfl) (fun _ _ _ h => h) (Or.inl ⟨by rfl, ?_⟩) hSss1 ?_
      rotate_left
      · intro w hSw; obtain ⟨e0, e1, e2, e3, -⟩ := hSw; go_simp; try with_reducible rfl
      simp only [Act.put, rgA, rgB, rgC, rgD, rgE, rgF]
      refine wpAnyT_loadW (i := 17) (v := ?_) rfl (by kernel_rfl) (by kernel_rfl) (by kernel_rfl) (by kernel_rfl) (by kernel_rfl) (fun _ _ _ h => h) (Or.inl ⟨by rfl, ?_⟩) hSss1 ?_
      rotate_left
      · intro w hSw; obtain ⟨e0, e1, e2, e3, -⟩ := hSw; go_simp; try with_reducible rfl
      simp only [Act.put, rgA, rgB, rgC, rgD, rgE, rgF]
      refine wpAnyT_loadW (i := 22) (v := ?_) rfl (by kernel_rfl) (by kernel_rfl) (by kernel_rfl) (by kernel_rfl) (by kernel_rfl) (fun _ _ _ h => h) (Or.inl ⟨by rfl, ?_⟩) hSss1 ?_
      rotate_left
      · intro w hSw; obtain ⟨e0, e1, e2, e3, -⟩ := hSw; go_simp; try with_reducible rfl
      simp only [Act.put, rgA, rgB, rgC, rgD, rgE, rgF]
      refine wpAnyT_one (i := 6) (by kernel_rfl) rfl (by rfl) ?_
      obtain ⟨b6, hb6⟩ : ∃ b, s1.heap.size = b := ⟨_, rfl⟩
      have hge6 : s1.heap.size ≤ b6 := hb6 ▸ (hB_s1_s1).size
      refine wp_newrow (v := .slice (some ⟨b6, 0, none⟩) 0 0) (cs := #[]) (te := 9) (by rw [← hb6]; go_simp) ?_
      intro w102 hX hN6
      rw [hb6] at hN6
      have hB_s1_w102 := below_step hB_s1_s1 hX
      have hB_w102_w102 := Below.refl w102.heap.size w102
      have hSsw102 := Cells.below hB_s1_w102 hSss1
      clear hX
      refine ⟨fun _ _ => hSsw102, ?_⟩
      try simp only [Act.put, rgA, rgB, rgC, rgD, rgE, rgF]
      refine wpAnyT_one (i := 12) (by kernel_rfl) rfl (by rfl) ?_
      have hq6 := ((hB_w102_w102).block _ (blk_lt hN6)).trans hN6
      have hbP : Below wr.heap.size wr w102 := hB_0_s1.trans ((hB_s1_w102).mono hB_0_s1.size)
      refine wp_appLit (.tmp 17) (.tmp 22) 66 rfl (e := .str) (te := 9) info_str53 Tryz.underlying66 rfl (by decide) (S := T) (base := s1.heap.size) (b := b6) (by kernel_rfl) hq6 hge6 (sv := .slice na nl nc) (by kernel_rfl) (ys := tnd) (HND.out.below hbP HTW.out) (fun x hx => ⟨by have h1 := HTW.out x hx; have h2 := (hB_0_s1).size; omega, Nat.lt_of_lt_of_le (HTW.out x hx) hbP.size⟩) (by rw [HNL.out]; omega) (by rw [HNL.out]; omega) ?_
      intro ca12 cl12 cc12 w103 O12 hX
      have HO12 := Lib.hid (Owns.flat (e := .str) rfl O12)
      clear O12 hbP hq6
      have hB_s1_w103 := below_step hB_s1_w102 hX
      have hB_w102_w103 := below_step hB_w102_w102 hX
      have hB_w103_w103 := Below.refl w103.heap.size w103
      have hSsw103 := Cells.below hB_s1_w103 hSss1
      clear hX
      refine ⟨fun _ _ => hSsw103, ?_⟩
      try simp only [Act.put, rgA, rgB, rgC, rgD, rgE, rgF]
      refine wpAnyT_pure (i := 23) (v := ?_) rfl (by kernel_rfl) (by kernel_rfl) (by kernel_rfl) (fun _ _ _ h => h) (by rfl) ?_ ?_
      rotate_left
      · intro w; go_simp; try with_reducible rfl
      simp only [Act.put, rgA, rgB, rgC, rgD, rgE, rgF]
      refine wpAnyT_one (i := 24) (by kernel_rfl) rfl (by rfl) ?_
      obtain ⟨b24, hb24⟩ : ∃ b, w103.heap.size = b := ⟨_, rfl⟩
      refine wp_newrow (v := .slice (some ⟨b24, 0, none⟩) 1 1) (cs := #[.string tnm, .slice ca12 cl12 cc12, .bool tg, .bool ta]) (te := 68) (by rw [← hb24]; go_simp) ?_
      intro w104 hX hN24
      rw [hb24] at hN24
      have hB_s1_w104 := below_step hB_s1_w103 hX
      have hB_w102_w104 := below_step hB_w102_w103 hX
      have hB_w103_w104 := below_step hB_w103_w103 hX
      have hB_w104_w104 := Below.refl w104.heap.size w104
      have hSsw104 := Cells.below hB_s1_w104 hSss1
      clear hX
      refine ⟨fun _ _ => hSsw104, ?_⟩
      try simp only [Act.put, rgA, rgB, rgC, rgD, rgE, rgF]
      refine wpAnyT_one (i := 25) (by kernel_rfl) rfl (by rfl) ?_
      have hbP : Below wr.heap.size wr w104 := hB_0_s1.trans ((hB_s1_w104).mono (hB_0_s1).size)
      have hO12 := HO12.out.below hB_w103_w104
      have hOP := (HO.out.below hbP).wider53 (S' := fun b => SS b ∨ (Value.slice ca12 cl12 cc12).ownBlock = some b) (fun _ h => .inl h) (fun b hb => hb.elim (fun h => ⟨((HO.out.below hbP).bound b h).1, ((HO.out.below hbP).bound b h).2⟩) (fun e => ⟨fun e' => by
        have h1 := (hO12.own b e).1
        have h2 := (HO.out.own b e').2
        have h3 := (hB_0_s1).size
        omega, (hO12.own b e).2⟩))
      have HBP := Lib.hid hbP
      refine wp_app (.tmp 11) (.tmp 35) 69 rfl (e := taskT) (te := 68) info_task Tryz.underlying69 rfl (by decide) (base := w.heap.size) (S := fun b => SS b ∨ (Value.slice ca12 cl12 cc12).ownBlock = some b) (v := .slice va vl vc) (xs := xs.take k) (by kernel_rfl) hOP (Nat.le_trans HB.out.size hbP.size) (sv := .slice (some ⟨b24, 0, none⟩) 1 1) (by kernel_rfl) (ys := [Tk.d ⟨tnm, tnd, tg, ta⟩]) (Src.of_cells (news := [.string tnm, .slice ca12 cl12 cc12, .bool tg, .bool ta]) (fun j u hu => by rw [Nat.zero_add, blk_cell hN24]; simpa using hu)) (RdL.one (e := taskT) (task_rd (t := ⟨tnm, tnd, tg, ta⟩) HNM.out (hO12.rd _ (fun _ h => h.elim) (fun b hb => .inr hb)))) (by have h1 := HK1.out; have h2 := HLT.out; rw [h1]; simp only [List.length_singleton]; omega) (by have h1 := HK1.out; have h2 := HLT.out; rw [h1]; simp only [List.length_singleton]; omega) ?_
      intro ca9 cl9 cc9 w105 O9 g9 ob9
      have hgr9 : Below w.heap.size w w105 := (HB.out.trans (hbP.mono HB.out.size)).grown g9 (by have := HB.out.size; have := hbP.size; omega) (fun c hc => (HO.out.own c hc).1)
      refine ⟨fun h => absurd h (by decide), ?_⟩
      try simp only [Act.put, rgA, rgB, rgC, rgD, rgE, rgF]
      refine wpAnyT_pure (i := 26) (v := ?_) rfl (by kernel_rfl) (by kernel_rfl) (by kernel_rfl) (fun _ _ _ h => h) (by rfl) ?_ ?_
      rotate_left
      · intro w; go_simp; try with_reducible rfl
      simp only [Act.put, rgA, rgB, rgC, rgD, rgE, rgF]
      refine wpAnyT_done (by kernel_rfl) ?_ _
      obtain ⟨w9, rfl⟩ : ∃ x, x = w105 := ⟨_, rfl⟩
      have HO9 := Lib.hid O9
      have HB9 := Lib.hid hgr9
      have hl1 := HLT.out
      clear O9 g9 ob9 hgr9 hOP hO12 hbP
      go_wp2_with fail
      go_roundw
      case rel => exact ⟨k + 1, _, HLT.out, by go_num, by rw [HSU.out]; exact HO9.out, HB9.out⟩
      case measure => simp [intOf]; try omega
    · obtain rfl : k = len := by omega
      have hall : xs.take k = xs := List.take_of_length_le (by rw [HL.out]; exact Nat.le_refl _)
      rw [hall] at HO
      clear hlt hall
      go_wp2_with fail
      go_ret
      exact ⟨_, _, _, fun b => SS b ∨ (Value.slice va vl vc).ownBlock = some b, rfl, HO.out.rd _ (fun b hb => .inl hb) (fun b hb => .inr hb), fun b hb => hb.elim (fun h => (HO.out.bound b h).2) (fun h => (HO.out.own b h).2), HB.out⟩
end Go.Proofs.YtdcjocldggmdbaaGreat

/- Layer 53: group. -/
set_option linter.unusedSimpArgs false
namespace Go.Proofs.YtdcjocldggmdbaaGreat
open Go.RowKit Go

abbrev entC : Ty := .pr .str (.pr .str (.pr (.sl (.int .i64)) (.pr (.sl (.int .i64)) (.pr .bool .un))))
theorem info_ent : (Tryz.prog.info? 98).map (fun i => (i.zero, i.size, i.bytes)) = some (some (.agg #[.string ⟨#[]⟩, .string ⟨#[]⟩, .slice none 0 0, .slice none 0 0, .bool false]), entC.sz, 88) := by kernel_rfl
theorem ent_rd {S : Nat → Prop} {w : World} : Rd entC S w [.string ⟨#[]⟩, .string ⟨#[]⟩, .slice none 0 0, .slice none 0 0, .bool false] (⟨#[]⟩, ⟨#[]⟩, [], [], false, ()) := by
  have rn : Rd (.sl (.int .i64)) S w [.slice none 0 0] [] := ⟨none, 0, 0, rfl, rfl, Nat.le_refl _, by decide, .inl rfl⟩
  exact ⟨[_], _, rfl, ⟨rfl, by decide⟩, [_], _, rfl, ⟨rfl, by decide⟩, [_], _, rfl, rn, [_], _, rfl, rn, [_], _, rfl, rfl, rfl⟩
def gN (n : Int) : Nat := min n.toNat 14
abbrev grpE (pe : Int) (ea : Option Addr) (el ec : Nat) : Array Value := grpV ⟨#[]⟩ 2026 1 pe none 0 0 (fun _ => 0) ea el ec
def GroupP (n pe : Int) (w : World) (e : Ending) (w' : World) : Prop := ∃ ea ec, e = .returned (.agg (grpE pe ea (gN n) ec)) ∧ Below w.heap.size w w'
set_option maxRecDepth 20000 in
set_option maxHeartbeats 4000000 in
theorem group53 (w : World) (n pe : Int) : Calls Tryz.prog 18 #[.int .i64 n, .int .i64 pe] w (GroupP n pe w) := by
  have hB1 := (Below.refl w.heap.size w).alloc (Nat.le_refl _) (.cells #[.string ⟨#[]⟩, .int .i64 0, .int .i64 0, .int .i64 0, .slice none 0 0, .int .i64 0, .int .i64 0, .int .i64 0, .int .i64 0, .int .i64 0, .int .i64 0, .int .i64 0, .int .i64 0, .int .i64 0, .int .i64 0, .int .i64 0, .int .i64 0, .int .i64 0, .int .i64 0, .int .i64 0, .slice none 0 0] 64)
  have hB2 := hB1.alloc (by simp) (.cells #[.string ⟨#[]⟩, .int .i64 0, .int .i64 0, .int .i64 0, .slice none 0 0, .int .i64 0, .int .i64 0, .int .i64 0, .int .i64 0, .int .i64 0, .int .i64 0, .int .i64 0, .int .i64 0, .int .i64 0, .int .i64 0, .int .i64 0, .int .i64 0, .int .i64 0, .int .i64 0, .int .i64 0, .slice none 0 0] 64)
  have hr0 := alloc_old' (o := .cells #[.string ⟨#[]⟩, .int .i64 0, .int .i64 0, .int .i64 0, .slice none 0 0, .int .i64 0, .int .i64 0, .int .i64 0, .int .i64 0, .int .i64 0, .int .i64 0, .int .i64 0, .int .i64 0, .int .i64 0, .int .i64 0, .int .i64 0, .int .i64 0, .int .i64 0, .int .i64 0, .int .i64 0, .slice none 0 0] 64) (alloc_new' (w := w) (o := .cells #[.string ⟨#[]⟩, .int .i64 0, .int .i64 0, .int .i64 0, .slice none 0 0, .int .i64 0, .int .i64 0, .int .i64 0, .int .i64 0, .int .i64 0, .int .i64 0, .int .i64 0, .int .i64 0, .int .i64 0, .int .i64 0, .int .i64 0, .int .i64 0, .int .i64 0, .int .i64 0, .int .i64 0, .slice none 0 0] 64) rfl)
  have hz := alloc_new' (w := w.alloc (.cells #[.string ⟨#[]⟩, .int .i64 0, .int .i64 0, .int .i64 0, .slice none 0 0, .int .i64 0, .int .i64 0, .int .i64 0, .int .i64 0, .int .i64 0, .int .i64 0, .int .i64 0, .int .i64 0, .int .i64 0, .int .i64 0, .int .i64 0, .int .i64 0, .int .i64 0, .int .i64 0, .int .i64 0, .slice none 0 0] 64)) (o := .cells #[.string ⟨#[]⟩, .int .i64 0, .int .i64 0, .int .i64 0, .slice none 0 0, .int .i64 0, .int .i64 0, .int .i64 0, .int .i64 0, .int .i64 0, .int .i64 0, .int .i64 0, .int .i64 0, .int .i64 0, .int .i64 0, .int .i64 0, .int .i64 0, .int .i64 0, .int .i64 0, .int .i64 0, .slice none 0 0] 64) (n := w.heap.size + 1) (by simp)
  have HZ := Lib.hid hz
  have hg := setRow_heap _ _ _ (grpE pe none 0 0) _ _ hz
  have hBG := below_setRow (n := w.heap.size) (p := w.heap.size + 1) hB2 (by omega) (grpE pe none 0 0)
  have hr := (setRow_other _ (w.heap.size + 1) w.heap.size (grpE pe none 0 0) (by omega)).trans hr0
  have HG := Lib.hid hg
  have HBG := Lib.hid hBG
  have HR := Lib.hid hr
  clear hB1 hB2 hr0 hz hg hBG hr
  go_enter Tryz.func18, Tryz.ntmps18
  go_wp2_with (first | refine wpList_buildTo rfl 64 _ rfl _ rfl (grpE pe none 0 0) (by kernel_rfl) ?_ | refine wpList_store_row rfl _ _ _ rfl (w.heap.size + 1) (grpE pe none 0 0) rfl rfl 64 _ HZ.out (by kernel_rfl) (by rfl) (by kernel_rfl) ?_)
  generalize hw3 : World.setRow (World.alloc (w.alloc _) _) _ _ = w3 at HG HBG HR ⊢
  clear hw3 HZ
  obtain ⟨rb, hrb⟩ : ∃ q, w.heap.size = q := ⟨_, rfl⟩
  have HRB := Lib.hid hrb
  rw [hrb] at HG HR ⊢
  clear hrb
  have hlt3 := blk_lt HG.out
  go_loopw [6] (fun i wr => ∃ (k : Nat) (va : Option Addr) (vl vc : Nat) (zs : List entC.den), k ≤ gN n ∧ i = .int .i64 k ∧ zs.length = k ∧ wr.heap[rb + 1]? = some (.cells (grpE pe va vl vc) 64 (0, 0)) ∧ Owns entC 98 w3.heap.size (fun _ => False) wr (.slice va vl vc) zs ∧ Gr (fun b => b = rb + 1 ∨ w3.heap.size ≤ b) w3 wr) (fun i _ => 14 - (intOf i).toNat)
  case atStart => exact ⟨0, none, 0, 0, [], Nat.zero_le _, rfl, rfl, HG.out, Owns.nil _ _ _ _, Gr.refl _ _⟩
  case round =>
    obtain ⟨k, va, vl, vc, zs, hk, rfl, hzl, hrow, hO, hGr⟩ := hrel
    have HROW := Lib.hid hrow
    have HO := Lib.hid hO
    have HGR := Lib.hid hGr
    have HZL := Lib.hid hzl
    have hvl : vl = k := by
      obtain ⟨a', l', c', he, hl', -⟩ := hO.slice
      simp only [Value.slice.injEq] at he
      omega
    clear hrow hO hGr hzl
    subst hvl
    have hk14 : vl ≤ 14 := by unfold gN at hk; omega
    by_cases hlt : vl < gN n
    · have hn1 : (vl : Int) < n := by unfold gN at hlt; omega
      have hn2 : (vl : Int) < 14 := by unfold gN at hlt; omega
      have g20 := blk_cell HROW.out 20
      rw [show (grpE pe va vl vc)[20]? = some (.slice va vl vc) from rfl] at g20
      go_wp2_with (at_builtin; go_must (refine wpList_app _ rfl _ _ 62 rfl (e := entC) (te := 98) info_ent Tryz.underlying62 rfl (by decide) (base := w3.heap.size) (S := fun _ => False) (v := .slice va vl vc) (xs := zs) rfl (HO.out.alloc _) (by have := HGR.out.size; simp only [World.size_alloc]; omega) rfl (ys := [(⟨#[]⟩, ⟨#[]⟩, [], [], false, ())]) (Src.new _ [_, _, _, _, _] _ _ _) (RdL.one (e := entC) ent_rd) (by have := HZL.out; simp only [List.length_singleton]; omega) (by have := HZL.out; simp only [List.length_singleton]; omega) ?_; intro v' w2 O2 g2 _ ob2; obtain ⟨xa, xl, xc, rfl, hxl, -⟩ := O2.slice; have hvg : (Value.slice va vl vc).ownBlock ≠ some (rb + 1) := (fun e => by have := (HO.out.own _ e).1; omega); have hr9 := blk_gr (Gr.of_grown g2) (alloc_old' (o := .cells #[.string ⟨#[]⟩, .string ⟨#[]⟩, .slice none 0 0, .slice none 0 0, .bool false] 98) HROW.out) hvg; have f9 := blk_frozen hr9 20; have q9 := (blk_cell hr9 20).trans (show (grpE pe va vl vc)[20]? = some (.slice va vl vc) from rfl); have HR9 := Lib.hid hr9; have HO9 := Lib.hid O2; have HXL := Lib.hid hxl; have HG9 := Lib.hid ((HGR.out.alloc (.cells #[.string ⟨#[]⟩, .string ⟨#[]⟩, .slice none 0 0, .slice none 0 0, .bool false] 98)).trans (Gr.of_grown g2) (fun x e => .inl (.inr (HO.out.own x e).1))); clear O2 g2 ob2 hxl hr9 hvg))
      have hgs : Gr (fun b => b = rb + 1) w2 (w2.setCell ⟨rb + 1, 20, none⟩ (.slice xa xl xc)) := (Gr.refl (fun b => b = rb + 1) w2).setCell (.inl rfl) _
      have hset : (w2.setCell ⟨rb + 1, 20, none⟩ (.slice xa xl xc)).heap[rb + 1]? = some (.cells (grpE pe xa xl xc) 64 (0, 0)) := blk_set (i := 20) HR9.out (.slice xa xl xc)
      refine ⟨⟨vl + 1, xa, xl, xc, zs ++ [(⟨#[]⟩, ⟨#[]⟩, [], [], false, ())], by omega, by go_num, by rw [List.length_append, HZL.out]; rfl, hset, HO9.out.gr hgs (fun _ h => h.elim) (fun b e1 e2 => by have := (HO9.out.own b e1).1; omega), HG9.out.trans hgs (fun x e => .inl (.inl e))⟩, by simp [intOf]; try omega⟩
    · obtain rfl : vl = gN n := by omega
      have hrr := (HGR.out.block _ (blk_lt HR.out) (fun e => by have := blk_lt HR.out; omega)).trans HR.out
      have HRR := Lib.hid hrr
      have HSET := Lib.hid (setRow_heap _ _ _ (grpE pe va (gN n) vc) _ _ hrr)
      have HB9 := Lib.hid ((gr_setRow wr rb (grpE pe va (gN n) vc)).below (n := rb) (fun b e => by omega) (by have := blk_lt hrr; omega))
      have hlt' := hlt
      clear hrr hlt
      by_cases hn1 : ((gN n : Nat) : Int) < n
      · have hn2 : ¬ ((gN n : Nat) : Int) < 14 := by
          unfold gN at hn1 ⊢
          omega
        generalize hgn : gN n = g at *
        go_wp2_with (first | refine wpList_load_row rfl 64 _ rfl (rb + 1) rfl 64 _ (0, 0) _ HROW.out Tryz.underlying64 rfl (by kernel_rfl) ?_ | refine wpList_store_row rfl _ _ _ rfl rb (grpE pe va g vc) rfl rfl 64 _ HRR.out (by kernel_rfl) (by rfl) (by kernel_rfl) ?_)
        refine bodyPost_ret (results_cell_row rfl _ _ rb 64 _ (0, 0) _ rfl HSET.out Tryz.underlying64 rfl (by kernel_rfl)) rfl ?_
        refine ⟨va, vc, by rw [hgn], ?_⟩
        have h1 : Below w.heap.size w w3 := HBG.out
        have h2 := HGR.out.below (n := rb) (fun b e => by omega) (by omega)
        rw [HRB.out] at h1 ⊢
        exact (h1.trans h2).trans HB9.out
      · generalize hgn : gN n = g at *
        go_wp2_with (first | refine wpList_load_row rfl 64 _ rfl (rb + 1) rfl 64 _ (0, 0) _ HROW.out Tryz.underlying64 rfl (by kernel_rfl) ?_ | refine wpList_store_row rfl _ _ _ rfl rb (grpE pe va g vc) rfl rfl 64 _ HRR.out (by kernel_rfl) (by rfl) (by kernel_rfl) ?_)
        refine bodyPost_ret (results_cell_row rfl _ _ rb 64 _ (0, 0) _ rfl HSET.out Tryz.underlying64 rfl (by kernel_rfl)) rfl ?_
        refine ⟨va, vc, by rw [hgn], ?_⟩
        have h1 : Below w.heap.size w w3 := HBG.out
        have h2 := HGR.out.below (n := rb) (fun b e => by omega) (by omega)
        rw [HRB.out] at h1 ⊢
        exact (h1.trans h2).trans HB9.out
end Go.Proofs.YtdcjocldggmdbaaGreat

/- Layer 53: the reference's New. -/
set_option linter.unusedSimpArgs false
namespace Go.Proofs.YtdcjocldggmdbaaGreat
open Go.RowKit Go

theorem results_cell_tmp {P : Program} {fn : Func} {p t : Tmp} {ty : TypeId} (h : fn.results = #[.cell p ty, .tmp t]) (tmps : Array Value) (w : World) (g : Nat) (te : TypeId) (cs : Array Value) (fr : Nat × Nat) (d : TypeDesc)
    (hp : tmps.getD p undef = .pointer (some ⟨g, 0, none⟩)) (hg : w.heap[g]? = some (.cells cs te fr))
    (hu : P.underlying ty = some d) (hd : (match d with | .struct _ | .array _ _ => true | _ => false) = true) (hi : (P.info? ty).map (·.size) = some cs.size) :
    (results fn tmps).run P w = .ok (.tuple #[.agg cs, tmps.getD t undef]) w := by
  have hp' : tmps[p]?.getD undef = .pointer (some ⟨g, 0, none⟩) := by simpa using hp
  simp [results, h, hp', asAddr, run_loadVar_row w g te ty cs fr d hg hu hd hi]
def RNewP (ts : List Tk) (el : Nat) (a0 : Option Addr) (l0 c0 : Nat) (w : World) (e : Ending) (w' : World) : Prop :=
  ∃ (x1 x2 er : Int) (a : Option Addr) (l c : Nat), e = .returned (.tuple #[.agg #[.int .i64 x1, .int .i64 x2, .slice a l c, .slice none 0 0], .int .i64 er]) ∧ Below w.heap.size w w' ∧ ((1 ≤ el ∧ el ≤ 12 ∧ ValidT ts) ∧ er = 0 ∧ x1 = (el : Int) ∧ x2 = 12 ∧ a = a0 ∧ l = l0 ∧ c = c0 ∨ ¬ (1 ≤ el ∧ el ≤ 12 ∧ ValidT ts) ∧ er = 1)
set_option maxRecDepth 20000 in
set_option maxHeartbeats 4000000 in
theorem rnew53 {S : Nat → Prop} (w : World) (ea : Option Addr) (el ec : Nat) (hel : el ≤ 9223372036854775807) (a : Option Addr) (len cap : Nat) (xs : List taskT.den) (hx : Rd (.sl taskT) S w [.slice a len cap] xs) (hS : ∀ b, S b → b < w.heap.size) :
    Calls Tryz.prog 23 #[.agg (grpE 12 ea el ec), .slice a len cap] w (RNewP (xs.map tk) el a len cap w) := by
  have hB1 := (Below.refl w.heap.size w).alloc (Nat.le_refl _) (.cells (grpE 12 ea el ec) 64)
  have hB2 := hB1.alloc (by simp) (.cells #[.int .i64 0, .int .i64 0, .slice none 0 0, .slice none 0 0] 35)
  have hg := alloc_old' (o := .cells #[.int .i64 0, .int .i64 0, .slice none 0 0, .slice none 0 0] 35) (alloc_new' (w := w) (o := .cells (grpE 12 ea el ec) 64) rfl)
  have hr := alloc_new' (w := w.alloc (.cells (grpE 12 ea el ec) 64)) (o := .cells #[.int .i64 0, .int .i64 0, .slice none 0 0, .slice none 0 0] 35) (n := w.heap.size + 1) (by simp)
  have g20 := blk_cell hg 20
  rw [show (grpE 12 ea el ec)[20]? = some (.slice ea el ec) from rfl] at g20
  have g1 := blk_cell hg 1
  rw [show (grpE 12 ea el ec)[1]? = some (.int .i64 2026) from rfl] at g1
  have g2 := blk_cell hg 2
  rw [show (grpE 12 ea el ec)[2]? = some (.int .i64 1) from rfl] at g2
  have g3 := blk_cell hg 3
  rw [show (grpE 12 ea el ec)[3]? = some (.int .i64 12) from rfl] at g3
  have HX := Lib.hid hx
  have HS := Lib.hid hS
  have HG := Lib.hid hg
  have HR := Lib.hid hr
  have HB := Lib.hid hB2
  clear hx hS hg hr hB1 hB2
  go_enter Tryz.func23, Tryz.ntmps23
  go_wp2_with fail
  generalize hw1 : World.alloc (w.alloc _) _ = w1 at HG HR HB g20 g1 g2 g3 ⊢
  clear hw1
  obtain ⟨gb, hgb⟩ : ∃ q, w.heap.size = q := ⟨_, rfl⟩
  have HGB := Lib.hid hgb
  rw [hgb] at HG HR g20 g1 g2 g3 ⊢
  clear hgb
  refine (rcal53 w1).mono ?_
  rintro e w2 ⟨rfl, hB2⟩
  have HB2 := Lib.hid (below_step HB.out hB2)
  have HG2 := Lib.hid ((hB2.block _ (blk_lt HG.out)).trans HG.out)
  have HR2 := Lib.hid ((hB2.block _ (blk_lt HR.out)).trans HR.out)
  clear hB2 HG HR HB g20 g1 g2 g3
  have hle := blk_lt HR2.out
  by_cases e1 : (el : Int) < 1
  · have HH := Lib.hid (show ¬ 1 ≤ el by omega)
    have HSET := Lib.hid (setRow_heap _ _ _ #[.int .i64 0, .int .i64 0, .slice none 0 0, .slice none 0 0] _ _ HR2.out)
    have HBS := Lib.hid ((gr_setRow w2 (gb + 1) #[.int .i64 0, .int .i64 0, .slice none 0 0, .slice none 0 0]).below (n := gb) (fun b e => by omega) (by have := blk_lt HR2.out; omega))
    go_wp2_with (refine wpList_store_row rfl _ _ _ rfl (gb + 1) #[.int .i64 0, .int .i64 0, .slice none 0 0, .slice none 0 0] rfl rfl 35 _ HR2.out (by kernel_rfl) (by rfl) (by simp [Value.oneCell']) ?_)
    refine bodyPost_ret (results_cell_tmp rfl _ _ (gb + 1) 35 _ (0, 0) _ rfl HSET.out Tryz.underlying35 rfl (by kernel_rfl)) rfl ?_
    refine ⟨0, 0, 1, none, 0, 0, rfl, HB2.out.trans (HBS.out.mono (by rw [HGB.out]; exact Nat.le_refl _)), .inr ⟨fun h => HH.out h.1, rfl⟩⟩
  by_cases e2 : (12 : Int) < (el : Int)
  · have HH := Lib.hid (show ¬ el ≤ 12 by omega)
    have HSET := Lib.hid (setRow_heap _ _ _ #[.int .i64 0, .int .i64 0, .slice none 0 0, .slice none 0 0] _ _ HR2.out)
    have HBS := Lib.hid ((gr_setRow w2 (gb + 1) #[.int .i64 0, .int .i64 0, .slice none 0 0, .slice none 0 0]).below (n := gb) (fun b e => by omega) (by have := blk_lt HR2.out; omega))
    go_wp2_with (refine wpList_store_row rfl _ _ _ rfl (gb + 1) #[.int .i64 0, .int .i64 0, .slice none 0 0, .slice none 0 0] rfl rfl 35 _ HR2.out (by kernel_rfl) (by rfl) (by simp [Value.oneCell']) ?_)
    refine bodyPost_ret (results_cell_tmp rfl _ _ (gb + 1) 35 _ (0, 0) _ rfl HSET.out Tryz.underlying35 rfl (by kernel_rfl)) rfl ?_
    refine ⟨0, 0, 1, none, 0, 0, rfl, HB2.out.trans (HBS.out.mono (by rw [HGB.out]; exact Nat.le_refl _)), .inr ⟨fun h => HH.out h.2.1, rfl⟩⟩
  have HEL := Lib.hid (show 1 ≤ el ∧ el ≤ 12 by omega)
  go_wp2_with fail
  refine (rvalid53 w2 a len cap xs (HX.out.below HB2.out HS.out) (fun b hb => Nat.lt_of_lt_of_le (HS.out b hb) HB2.out.size)).mono ?_
  rintro e w3 ⟨bv, rfl, hB3, hbv⟩
  have HB3 := Lib.hid (below_step HB2.out hB3)
  have HG3 := Lib.hid ((hB3.block _ (blk_lt HG2.out)).trans HG2.out)
  have HR3 := Lib.hid ((hB3.block _ (blk_lt HR2.out)).trans HR2.out)
  have HBV := Lib.hid hbv
  clear hB3 hbv HG2 HR2
  cases bv
  · skip
    have HSET := Lib.hid (setRow_heap _ _ _ #[.int .i64 0, .int .i64 0, .slice none 0 0, .slice none 0 0] _ _ HR3.out)
    have HBS := Lib.hid ((gr_setRow w3 (gb + 1) #[.int .i64 0, .int .i64 0, .slice none 0 0, .slice none 0 0]).below (n := gb) (fun b e => by omega) (by have := blk_lt HR3.out; omega))
    go_wp2_with (refine wpList_store_row rfl _ _ _ rfl (gb + 1) #[.int .i64 0, .int .i64 0, .slice none 0 0, .slice none 0 0] rfl rfl 35 _ HR3.out (by kernel_rfl) (by rfl) (by simp [Value.oneCell']) ?_)
    refine bodyPost_ret (results_cell_tmp rfl _ _ (gb + 1) 35 _ (0, 0) _ rfl HSET.out Tryz.underlying35 rfl (by kernel_rfl)) rfl ?_
    refine ⟨0, 0, 1, none, 0, 0, rfl, HB3.out.trans (HBS.out.mono (by rw [HGB.out]; exact Nat.le_refl _)), .inr ⟨fun h => (by have := HBV.out.2 h.2.2; cases this), rfl⟩⟩
  have g3 := blk_cell HG3.out 3
  rw [show (grpE 12 ea el ec)[3]? = some (.int .i64 12) from rfl] at g3
  have HSET := Lib.hid (setRow_heap _ _ _ #[.int .i64 (el : Nat), .int .i64 12, .slice a len cap, .slice none 0 0] _ _ HR3.out)
  have HBS := Lib.hid ((gr_setRow w3 (gb + 1) #[.int .i64 (el : Nat), .int .i64 12, .slice a len cap, .slice none 0 0]).below (n := gb) (fun b e => by omega) (by have := blk_lt HR3.out; omega))
  go_wp2_with (refine wpList_store_row rfl _ _ _ rfl (gb + 1) #[.int .i64 (el : Nat), .int .i64 12, .slice a len cap, .slice none 0 0] rfl rfl 35 _ HR3.out (by kernel_rfl) (by rfl) (by simp [Value.oneCell']) ?_)
  refine bodyPost_ret (results_cell_tmp rfl _ _ (gb + 1) 35 _ (0, 0) _ rfl HSET.out Tryz.underlying35 rfl (by kernel_rfl)) rfl ?_
  exact ⟨_, _, 0, _, _, _, rfl, HB3.out.trans (HBS.out.mono (by rw [HGB.out]; exact Nat.le_refl _)), .inl ⟨⟨HEL.out.1, HEL.out.2, HBV.out.1 (by first | rfl | trivial)⟩, rfl, rfl, rfl, rfl, rfl, rfl⟩⟩
end Go.Proofs.YtdcjocldggmdbaaGreat

/- Layer 53: few, start. -/
set_option linter.unusedSimpArgs false
namespace Go.Proofs.YtdcjocldggmdbaaGreat
open Go.RowKit Go

end Go.Proofs.YtdcjocldggmdbaaGreat
