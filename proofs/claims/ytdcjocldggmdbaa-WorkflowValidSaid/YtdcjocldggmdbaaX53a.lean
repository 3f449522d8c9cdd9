/- Layer 53: the reference's Valid, walked. -/
import Derived.Test.YtdcjocldggmdbaaW53z
set_option linter.unusedSimpArgs false
namespace Go.Proofs.Ytdcjocldggmdbaa
open Go.RowKit Go

set_option maxRecDepth 20000 in
set_option maxHeartbeats 4000000 in
theorem rvalid53 {S : Nat → Prop} (w : World) (a : Option Addr) (len cap : Nat) (xs : List taskT.den) (hx : Rd (.sl taskT) S w [.slice a len cap] xs) (hS : ∀ b, S b → b < w.heap.size) :
    Calls Try.prog 15 #[.slice a len cap] w (ValidP (xs.map tk) w) := by
  obtain ⟨hl, hlc, hcm, -⟩ := id hx.sl_flat
  have HX := Lib.hid hx
  have HS := Lib.hid hS
  have HL := Lib.hid (show (xs.map tk).length = len by rw [List.length_map]; exact hl)
  clear hx hl hS
  go_enter Try.func15, Try.ntmps15
  by_cases e1 : (len : Int) < 1
  · go_wp2_with fail
    go_ret
    exact ⟨false, rfl, Below.refl _ _, fun h => (by cases h), fun h => absurd h fun hv => by have := hv.1; rw [HL.out] at this; omega⟩
  by_cases e2 : (20 : Int) < (len : Int)
  · go_wp2_with fail
    go_ret
    exact ⟨false, rfl, Below.refl _ _, fun h => (by cases h), fun h => absurd h fun hv => by have := hv.2.1; rw [HL.out] at this; omega⟩
  have HE := Lib.hid (show 1 ≤ len ∧ len ≤ 20 by omega)
  go_wp2_with fail
  clear e1 e2
  go_loopw [3] (fun i wr => ∃ k : Nat, k ≤ len ∧ i = .int .i64 k ∧ (∀ j, j < k → RTask (xs.map tk) j) ∧ Below w.heap.size w wr) (fun i _ => len - (intOf i).toNat)
  case atStart => exact ⟨0, Nat.zero_le _, rfl, fun j hj => absurd hj (by omega), Below.refl _ _⟩
  case round =>
    obtain ⟨k, hk, rfl, hall, hB⟩ := hrel
    have HALL := Lib.hid hall
    have HB := Lib.hid hB
    clear hall hB
    by_cases hlt : k < len
    · have hkI : (k : Int) < (len : Int) := by omega
      have hkx : k < xs.length := by have := HL.out; rw [List.length_map] at this; omega
      have hkm : k < (xs.map tk).length := by rw [List.length_map]; exact hkx
      have HXW := Lib.hid (HX.out.below HB.out HS.out)
      have HSW := Lib.hid (show ∀ b, S b → b < wr.heap.size from fun b hb => Nat.lt_of_lt_of_le (HS.out b hb) HB.out.size)
      obtain ⟨b, o, na, nl, nc, rfl, -, m0, m1, m2, m3, hnd, hnm⟩ := task_at HXW.out k hkx
      have hget : (xs.map tk)[k] = tk xs[k] := List.getElem_map _
      have HBAD := Lib.hid (show ¬ RTask (xs.map tk) k → ¬ ValidT (xs.map tk) from fun h hv => h (((rval_iff _).2 hv).2.2 k hkm))
      have HGOOD := Lib.hid (show nameB (tk xs[k]).name = true → plc (xs.map tk) (tk xs[k]).name = k → (∀ q, q < (tk xs[k]).needs.length → NeedAt (xs.map tk) k (tk xs[k]).needs q) → ∀ j, j < k + 1 → RTask (xs.map tk) j from fun h1 h2 h3 j hj => by
        by_cases e : j = k
        · subst e; intro hi; rw [hget]; exact ⟨h1, h2, h3⟩
        · exact HALL.out j (by omega))
      have HRT := Lib.hid (show RTask (xs.map tk) k → nameB (tk xs[k]).name = true ∧ plc (xs.map tk) (tk xs[k]).name = k ∧ ∀ q, q < (tk xs[k]).needs.length → NeedAt (xs.map tk) k (tk xs[k]).needs q from fun h => by have := h hkm; rw [hget] at this; exact this)
      have hpq := plcI_eq (ts := xs.map tk) (n := (tk xs[k]).name) hkm
      have HPQ := Lib.hid hpq
      have HLT := Lib.hid hlt
      have HKM := Lib.hid hkm
      clear hpq hget
      generalize tk xs[k] = t at m0 m1 m2 m3 hnd hnm HGOOD HRT HPQ
      obtain ⟨tnm, tnd, tg, ta⟩ := t
      simp only at m0 m1 m2 m3 hnd hnm HGOOD HRT HPQ
      have HNM := Lib.hid hnm
      have HND := Lib.hid hnd
      have hrz := heap_alloc_new wr (.cells #[.string ⟨#[]⟩, .slice none 0 0, .bool false, .bool false] 39)
      have HRZ := Lib.hid hrz
      have hrow := setRow_heap _ _ _ #[.string tnm, .slice na nl nc, .bool tg, .bool ta] _ _ hrz
      have hBs := below_setRow (n := wr.heap.size) (p := wr.heap.size) ((Below.refl wr.heap.size wr).alloc (Nat.le_refl _) (.cells #[.string ⟨#[]⟩, .slice none 0 0, .bool false, .bool false] 39)) (Nat.le_refl _) #[.string tnm, .slice na nl nc, .bool tg, .bool ta]
      have x0 := blk_cell hrow 0
      have x1 := blk_cell hrow 1
      simp at x0 x1
      have HROW := Lib.hid hrow
      have HBS := Lib.hid hBs
      clear hrz hrow hBs hkx hkm hlt hnd hnm
      go_wp2_with (refine wpList_store_row rfl _ _ _ rfl (wr.heap.size) #[.string tnm, .slice na nl nc, .bool tg, .bool ta] rfl rfl 39 _ HRZ.out (by kernel_rfl) (by rfl) (by simp [Value.oneCell']) ?_)
      generalize hw5 : World.setRow (wr.alloc _) _ _ = w5 at HROW HBS ⊢
      clear hw5 HRZ m0 m1 m2 m3 x0 x1
      have HB5 := Lib.hid (below_step HB.out HBS.out)
      have HX5 := Lib.hid (HXW.out.below HBS.out HSW.out)
      have HND5 := Lib.hid (HND.out.below HBS.out HSW.out)
      have HS5 := Lib.hid (show ∀ b, S b → b < w5.heap.size from fun b hb => Nat.lt_of_lt_of_le (HSW.out b hb) HBS.out.size)
      obtain ⟨tb, htb⟩ : ∃ q, wr.heap.size = q := ⟨_, rfl⟩
      rw [htb] at HROW ⊢
      clear htb
      obtain ⟨-, hnc, hncm, hat⟩ := Rd.sl1 (e := .str) rfl HND5.out
      have HAT := Lib.hid hat
      have HNL := Lib.hid (show tnd.length = nl from HND5.out.sl_flat.1)
      clear hat
      have x0 := blk_cell HROW.out 0
      have x1 := blk_cell HROW.out 1
      simp at x0 x1
      refine (rname53 w5 tnm HNM.out).mono ?_
      rintro e w6 ⟨rfl, rfl⟩
      generalize hnb : nameB tnm = nb
      have HNB := Lib.hid hnb
      clear hnb
      cases nb
      · go_wp2_with fail
        go_ret
        exact ⟨false, rfl, HB5.out, fun h => (by cases h), fun h => absurd h (HBAD.out fun hr => by have := (HRT.out hr).1; rw [HNB.out] at this; cases this)⟩
      go_wp2_with fail
      refine (rplace53 w6 (some ⟨b, o, none⟩) len cap xs HX5.out tnm).mono ?_
      rintro e w7 ⟨rfl, rfl⟩
      obtain ⟨pv, hpv⟩ : ∃ q, plcI (xs.map tk) tnm = q := ⟨_, rfl⟩
      rw [hpv]
      have HPV := Lib.hid (show pv = (k : Int) ↔ plc (xs.map tk) tnm = k from by rw [← hpv]; exact HPQ.out)
      clear hpv
      by_cases hpk : pv = (k : Int)
      · subst hpk
        have HPL := Lib.hid (HPV.out.1 rfl)
        have hl1 := HLT.out
        go_wp2_with fail
        go_loopw [5] (fun i wr => ∃ q : Nat, q ≤ nl ∧ i = .int .i64 q ∧ (∀ q', q' < q → NeedAt (xs.map tk) k tnd q') ∧ Below w7.heap.size w7 wr) (fun i _ => nl - (intOf i).toNat)
        case atStart => exact ⟨0, Nat.zero_le _, rfl, fun j hj => absurd hj (by omega), Below.refl _ _⟩
        case round =>
          obtain ⟨q, hq, rfl, hqa, hB7⟩ := hrel
          have HQA := Lib.hid hqa
          have HB7 := Lib.hid hB7
          have hr7 := (hB7.block _ (blk_lt HROW.out)).trans HROW.out
          have y1 := blk_cell hr7 1
          simp at y1
          clear hqa hB7 hr7
          by_cases hlt2 : q < nl
          · have hqI : (q : Int) < (nl : Int) := by omega
            have hqx : q < tnd.length := by rw [HNL.out]; exact hlt2
            obtain ⟨nb, no, nv, rfl, hSb, z0, hz⟩ := HAT.out q hqx
            obtain ⟨he, hsz⟩ := hz
            simp only [List.cons.injEq, and_true] at he
            subst he
            have z := (World.cell?_of_block (w := w7) (w' := wr) (a := ⟨nb, no + q, none⟩) (HB7.out.block nb (HS5.out nb hSb))).trans z0
            have HNA := Lib.hid (show NeedAt (xs.map tk) k tnd q → plc (xs.map tk) (tnd[q]'hqx) < k ∧ ∀ j (hj : j < q) (hj' : j < tnd.length), tnd[j] ≠ tnd[q]'hqx from fun h => ⟨(h hqx).1, fun j hj _ => (h hqx).2 j hj⟩)
            have HNG := Lib.hid (show plc (xs.map tk) (tnd[q]'hqx) < k → (∀ j (hj : j < q) (hj' : j < tnd.length), tnd[j] ≠ tnd[q]'hqx) → ∀ q', q' < q + 1 → NeedAt (xs.map tk) k tnd q' from fun h1 h2 q' hq' => by
              by_cases e : q' = q
              · subst e; intro _; exact ⟨h1, fun j hj => h2 j hj _⟩
              · exact HQA.out q' (by omega))
            have HQX := Lib.hid hqx
            generalize tnd[q] = s at z z0 hsz HNA HNG
            have HZ0 := Lib.hid z0
            clear z0
            have HPP := Lib.hid (plcI_lt (ts := xs.map tk) (n := s) (i := k) (Nat.le_of_lt HKM.out))
            have HBQ := Lib.hid (show ¬ NeedAt (xs.map tk) k tnd q → ¬ ValidT (xs.map tk) from fun h => HBAD.out fun hr => h ((HRT.out hr).2.2 q HQX.out))
            clear hqx
            go_wp2_with fail
            refine (rplace53 wr (some ⟨b, o, none⟩) len cap xs (HX5.out.below HB7.out HS5.out) s).mono ?_
            rintro e w8 ⟨rfl, rfl⟩
            generalize plcI (xs.map tk) s = pv2 at HPP ⊢
            by_cases hp0 : pv2 < 0
            · go_wp2_with fail
              go_ret
              exact ⟨false, rfl, below_step HB5.out HB7.out, fun h => (by cases h), fun h => absurd h (HBQ.out fun hn => by have := HPP.out.2 (HNA.out hn).1; omega)⟩
            by_cases hp1 : (k : Int) ≤ pv2
            · go_wp2_with fail
              go_ret
              exact ⟨false, rfl, below_step HB5.out HB7.out, fun h => (by cases h), fun h => absurd h (HBQ.out fun hn => by have := HPP.out.2 (HNA.out hn).1; omega)⟩
            have HPK := Lib.hid (HPP.out.1 ⟨by omega, by omega⟩)
            go_wp2_with fail
            go_loopw [7] (fun i wr => ∃ j : Nat, j ≤ q ∧ i = .int .i64 j ∧ (∀ j' (hj : j' < j) (hjx : j' < tnd.length), tnd[j'] ≠ s) ∧ Below w7.heap.size w7 wr) (fun i _ => q - (intOf i).toNat)
            case atStart => exact ⟨0, Nat.zero_le _, rfl, fun j hj => absurd hj (by omega), HB7.out⟩
            case round =>
              obtain ⟨j, hj, rfl, hja, hB9⟩ := hrel
              have HJA := Lib.hid hja
              have HB9 := Lib.hid hB9
              clear hja hB9
              by_cases hlt3 : j < q
              · have hjI : (j : Int) < (q : Int) := by omega
                have hjx : j < tnd.length := by have := HQX.out; omega
                obtain ⟨nb2, no2, nv2, hnb2, hSb2, u0, hu⟩ := HAT.out j hjx
                simp only [Option.some.injEq, Addr.mk.injEq, and_true] at hnb2
                obtain ⟨rfl, rfl⟩ := hnb2
                obtain ⟨he2, hsz2⟩ := hu
                simp only [List.cons.injEq, and_true] at he2
                subst he2
                have v1 := (World.cell?_of_block (w := w7) (w' := wr) (a := ⟨nb, no + j, none⟩) (HB9.out.block nb (HS5.out nb hSb))).trans u0
                have v2 := (World.cell?_of_block (w := w7) (w' := wr) (a := ⟨nb, no + q, none⟩) (HB9.out.block nb (HS5.out nb hSb))).trans HZ0.out
                have hr9 := (HB9.out.block _ (blk_lt HROW.out)).trans HROW.out
                have y9 := blk_cell hr9 1
                simp at y9
                have HNJ := Lib.hid (show tnd[j] ≠ s → ∀ j' (hj : j' < j + 1) (hjx : j' < tnd.length), tnd[j'] ≠ s from fun h j' hj' hjx' => by
                  by_cases e : j' = j
                  · subst e; exact h
                  · exact HJA.out j' (by omega) hjx')
                have HNE := Lib.hid (show tnd[j] = s → ¬ ValidT (xs.map tk) from fun h => HBQ.out fun hn => (HNA.out hn).2 j hlt3 hjx h)
                clear u0 hr9 hsz2 hSb2 z y1
                generalize tnd[j] = s2 at v1 HNJ HNE
                clear hjx
                have hlt3' := hlt3
                have hqn := hlt2
                by_cases hes : s2 = s
                · have hq0 : (s2.toList == s.toList) = true := by rw [strB]; exact decide_eq_true hes
                  have HES := Lib.hid hes
                  clear hes
                  go_wp2_with fail
                  go_quiet (fail)
                  go_wp2_with fail
                  go_ret
                  exact ⟨false, rfl, below_drewN (below_step HB5.out HB9.out) _, fun h => (by cases h), fun h => absurd h (HNE.out HES.out)⟩
                · have hq0 : (s2.toList == s.toList) = false := by rw [strB]; exact decide_eq_false hes
                  have HES := Lib.hid hes
                  clear hes
                  go_wp2_with fail
                  go_quiet (fail)
                  go_wp2_with fail
                  go_roundw
                  case rel => exact ⟨j + 1, by omega, by go_num, HNJ.out HES.out, below_drewN HB9.out _⟩
                  case measure => simp [intOf]; try omega
              · obtain rfl : j = q := by omega
                go_wp2_with fail
                go_roundw
                case rel => exact ⟨j + 1, by omega, by go_num, HNG.out HPK.out (fun j' hj' hjx' => HJA.out j' hj' hjx'), HB9.out⟩
                case measure => simp [intOf]; try omega
          · obtain rfl : q = nl := by omega
            have hl1 := HLT.out
            go_wp2_with fail
            go_roundw
            case rel => exact ⟨k + 1, HLT.out, by go_num, HGOOD.out HNB.out HPL.out (fun q' hq' => HQA.out q' (by rw [HNL.out] at hq'; exact hq')), below_step HB5.out HB7.out⟩
            case measure => simp [intOf]; try omega
      · have b1 : (pv == (k : Int)) = false := beq_false_of_ne hpk
        go_wp2_with fail
        go_ret
        exact ⟨false, rfl, HB5.out, fun h => (by cases h), fun h => absurd h (HBAD.out fun hr => hpk (HPV.out.2 (HRT.out hr).2.1))⟩
    · obtain rfl : k = len := by omega
      go_wp2_with fail
      go_ret
      exact ⟨true, rfl, HB.out, fun _ => (rval_iff _).1 ⟨by rw [HL.out]; exact HE.out.1, by rw [HL.out]; exact HE.out.2, fun i hi => HALL.out i (by rw [HL.out] at hi; exact hi)⟩, fun _ => rfl⟩
end Go.Proofs.Ytdcjocldggmdbaa
