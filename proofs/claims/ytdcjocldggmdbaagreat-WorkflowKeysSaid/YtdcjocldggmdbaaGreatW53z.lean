/- Layer 53: New. -/
import Derived.Test.YtdcjocldggmdbaaGreatW53q
set_option linter.unusedSimpArgs false
namespace Go.Proofs.YtdcjocldggmdbaaGreat
open Go.RowKit Go

def NewP (ts : List Tk) (el : Nat) (pe : Nat) (w : World) (e : Ending) (w' : World) : Prop :=
  (¬ (1 ≤ el ∧ el ≤ 12 ∧ ValidT ts) ∧ e = .returned (.tuple #[.pointer none, .int .i64 1]) ∧ Below w.heap.size w w') ∨
  ((1 ≤ el ∧ el ≤ 12 ∧ ValidT ts) ∧ ∃ S p m, e = .returned (.tuple #[.pointer (some ⟨p, 0, none⟩), .int .i64 0]) ∧ Below w.heap.size w w' ∧ w.heap.size ≤ m ∧ WfIn S w' p ts el pe m 0 (fun _ => none) ∧ w.heap.size ≤ p ∧ ∀ b, S b → w.heap.size ≤ b)
set_option maxRecDepth 20000 in
set_option maxHeartbeats 4000000 in
theorem new53 {T : Nat → Prop} (w : World) (cur : ByteArray) (y mo : Int) (pe : Nat) (ca : Option Addr) (cl cc : Nat) (r : Fin 15 → Int) (ea : Option Addr) (el ec : Nat) (hel : el ≤ 9223372036854775807) (h1 : 1900 ≤ y) (h2 : y ≤ 2199) (h3 : 1 ≤ mo) (h4 : mo ≤ 12) (h5 : 1 ≤ pe) (h6 : pe ≤ 120) (h7 : 12 * y + mo - 1 + ((pe : Int) - 1) < 26400)
    (a : Option Addr) (len cap : Nat) (xs : List taskT.den) (hx : Rd (.sl taskT) T w [.slice a len cap] xs) (hT : ∀ b, T b → b < w.heap.size) (hlen : len ≤ 1000000) (hns : ∀ i (hi : i < xs.length), (tk xs[i]).needs.length ≤ 1000000) :
    Calls Tryz.prog 17 #[.agg (grpV cur y mo pe ca cl cc r ea el ec), .slice a len cap] w (NewP (xs.map tk) el pe w) := by
  have hgb := heap_alloc_new w (.cells (grpV cur y mo pe ca cl cc r ea el ec) 64)
  have hB1 := (Below.refl w.heap.size w).alloc (Nat.le_refl _) (.cells (grpV cur y mo pe ca cl cc r ea el ec) 64)
  have HX := Lib.hid hx
  have HT := Lib.hid hT
  have HGB := Lib.hid hgb
  have HB1 := Lib.hid hB1
  have HCV := Lib.hid fun W => calValid53 W y mo pe h1 h2 h3 h4 (by omega) (by omega) h7
  have HVA := Lib.hid fun W (hB : Below w.heap.size w W) => valid53 W a len cap xs (hx.below hB hT) (fun b hb => Nat.lt_of_lt_of_le (hT b hb) hB.size) hlen hns
  have HLEN := Lib.hid hlen
  have HNS := Lib.hid hns
  have HL := Lib.hid (show xs.length = len from hx.sl_flat.1)
  have hmm := fun w => @run_makeMap Tryz.prog w
  have g1 := blk_cell hgb 1
  have g2 := blk_cell hgb 2
  have g3 := blk_cell hgb 3
  have g20 := blk_cell hgb 20
  unfold grpV at g1 g2 g3 g20 HGB HB1 ⊢
  simp at g1 g2 g3 g20
  clear hx hT hgb hB1 h1 h2 h3 h4 h5 h6 h7 hlen hns
  go_enter Tryz.func17, Tryz.ntmps17
  go_wp2_with fail
  generalize hw1 : w.alloc (.cells _ _) = w1 at HGB HB1 g1 g2 g3 g20 ⊢
  clear hw1
  refine (HCV.out _).mono ?_
  rintro e w2 ⟨rfl, hB2⟩
  have HB2 := Lib.hid (below_step HB1.out hB2)
  have HGB2 := Lib.hid ((hB2.block _ (blk_lt HGB.out)).trans HGB.out)
  clear hB2 g1 g2 g3 g20 HCV HGB
  by_cases e1 : (el : Int) < 1
  · have HH := Lib.hid (show ¬ 1 ≤ el by omega)
    go_wp2_with fail
    refine bodyPost_ret (results_tmp2 rfl _ _ _) rfl ?_
    exact .inl ⟨fun h => HH.out h.1, rfl, HB2.out⟩
  by_cases e2 : (12 : Int) < (el : Int)
  · have HH := Lib.hid (show ¬ el ≤ 12 by omega)
    go_wp2_with fail
    refine bodyPost_ret (results_tmp2 rfl _ _ _) rfl ?_
    exact .inl ⟨fun h => HH.out h.2.1, rfl, HB2.out⟩
  have HEL := Lib.hid (show 1 ≤ el ∧ el ≤ 12 by omega)
  go_wp2_with fail
  refine (HVA.out w2 HB2.out).mono ?_
  rintro e w3 ⟨bv, rfl, hB3, hbv⟩
  have HB3 := Lib.hid (below_step HB2.out hB3)
  have HGB3 := Lib.hid ((hB3.block _ (blk_lt HGB2.out)).trans HGB2.out)
  have HBV := Lib.hid hbv
  clear hB3 hbv HVA HGB2
  cases bv
  · go_wp2_with fail
    refine bodyPost_ret (results_tmp2 rfl _ _ _) rfl ?_
    exact .inl ⟨fun h => (by have := HBV.out.2 h.2.2; cases this), rfl, HB3.out⟩
  have HVT := Lib.hid (HBV.out.1 rfl)
  have z3 := blk_cell HGB3.out 3
  simp at z3
  have hsm : (w3.alloc (.map #[] 0)).heap.size = w3.heap.size + 1 := by simp
  have hBm := (Below.refl w3.heap.size w3).alloc (Nat.le_refl _) (.map #[] 0)
  have hM := MapG.made (Ks := keyK) (Es := strE) w3
  have hBp := (Below.refl (w3.alloc (.map #[] 0)).heap.size (w3.alloc (.map #[] 0))).alloc (Nat.le_refl _) (.cells #[.slice none 0 0, .int .i64 el, .int .i64 pe, .map (some w3.heap.size)] 92)
  have hp := heap_alloc_new (w3.alloc (.map #[] 0)) (.cells #[.slice none 0 0, .int .i64 el, .int .i64 pe, .map (some w3.heap.size)] 92)
  rw [hsm] at hp
  have HWB := Lib.hid (show WfB w3.heap.size _ (w3.heap.size + 1) w3.heap.size el pe [] (.slice none 0 0) (fun _ => False) from ⟨hp, Owns.nil _ _ _ _, (MapG.congr hM (fun _ _ => rfl)).below hBp, fun b hb => by simp [Value.ownBlock] at hb, fun _ h => h.elim, by omega, by omega, fun _ h => h.elim⟩)
  have HB4 := Lib.hid (below_step hBm hBp)
  clear hsm hBm hM hBp hp HBV HGB3
  go_wp2_with fail
  generalize hw4 : World.alloc (w3.alloc _) _ = w4 at HWB HB4 ⊢
  clear hw4
  generalize hp5 : w3.heap.size + 1 = p at HWB ⊢
  have HZ := Lib.hid (show w.heap.size ≤ w3.heap.size from HB3.out.size)
  clear hp5 e1 e2 z3
  generalize hm5 : w3.heap.size = m at HWB HB4 HZ ⊢
  have HM5 := Lib.hid hm5
  clear hm5
  go_loopw [39] (fun i wr => ∃ (k : Nat) (v : Value) (SS : Nat → Prop), k ≤ len ∧ i = .int .i64 k ∧ WfB m wr p m el pe (xs.take k) v SS ∧ Below m w3 wr) (fun i _ => len - (intOf i).toNat)
  case atStart => exact ⟨0, _, _, Nat.zero_le _, rfl, HWB.out, HB4.out⟩
  case round =>
    obtain ⟨k, v, SS, hk, rfl, hW, hB⟩ := hrel
    obtain ⟨va, vl, vc, rfl, -⟩ := hW.own.slice
    have HW := Lib.hid hW
    have HB := Lib.hid hB
    have HBw := Lib.hid (show Below w.heap.size w wr from HB3.out.trans (hB.mono HZ.out))
    clear hB
    by_cases hlt : k < len
    · have hkI : (k : Int) < (len : Int) := by omega
      have hkx : k < xs.length := by rw [HL.out]; exact hlt
      obtain ⟨b, o, na, nl, nc, rfl, -, m0, m1, m2, m3, hnd, hnm⟩ := task_at (HX.out.below HBw.out HT.out) k hkx
      have hsucc : xs.take (k + 1) = xs.take k ++ [Tk.d (tk xs[k])] := by rw [d_tk]; exact List.take_succ_eq_append_getElem hkx
      have hnn := HNS.out k hkx
      have hk1 : (xs.take k).length = k := by rw [List.length_take]; omega
      have HK1 := Lib.hid hk1
      have HSU := Lib.hid hsucc
      have HLT := Lib.hid hlt
      generalize tk xs[k] = t at m0 m2 m3 hnd hnm hnn HSU
      obtain ⟨tnm, tnd, tg, ta⟩ := t
      simp only at m0 m2 m3 hnd hnm hnn
      have HNM := Lib.hid hnm
      have hnl : tnd.length = nl := hnd.sl_flat.1
      have HCL := Lib.hid fun W (hB : Below wr.heap.size wr W) => cloneS53 W na nl nc tnd (hnd.below hB (fun b hb => Nat.lt_of_lt_of_le (HT.out b hb) HBw.out.size)) (fun b hb => Nat.lt_of_lt_of_le (HT.out b hb) (Nat.le_trans HBw.out.size hB.size)) (by omega)
      have hrz := heap_alloc_new wr (.cells #[.string ⟨#[]⟩, .slice none 0 0, .bool false, .bool false] 68)
      have hBz := (Below.refl wr.heap.size wr).alloc (Nat.le_refl _) (.cells #[.string ⟨#[]⟩, .slice none 0 0, .bool false, .bool false] 68)
      have HRZ := Lib.hid hrz
      have hrow := setRow_heap _ _ _ #[.string tnm, .slice na nl nc, .bool tg, .bool ta] _ _ hrz
      have hBs := below_setRow (n := wr.heap.size) hBz (Nat.le_refl _) #[.string tnm, .slice na nl nc, .bool tg, .bool ta]
      have x1 := blk_cell hrow 1
      simp at x1
      have HROW := Lib.hid hrow
      have HBS := Lib.hid hBs
      clear hrz hBz hrow hBs hkx hlt hnd hnm hnl hnn hsucc hk1
      go_wp2_with (refine wpList_store_row rfl _ _ _ rfl (wr.heap.size) #[.string tnm, .slice na nl nc, .bool tg, .bool ta] rfl rfl 68 _ HRZ.out (by kernel_rfl) (by rfl) (by simp [Value.oneCell']) ?_)
      have hrow := HROW.out
      have hBs := HBS.out
      generalize hw5 : World.setRow (wr.alloc _) _ _ = w5 at hrow hBs x1 ⊢
      clear hw5 HROW HBS m0 m1 m2 m3 x1
      have HROW := Lib.hid hrow
      have HBS := Lib.hid hBs
      generalize htb : wr.heap.size = tb at hrow HROW ⊢
      have HTB := Lib.hid htb
      refine (HCL.out w5 hBs).mono ?_
      rintro e w6 ⟨cv, rfl, hO6, hB6⟩
      obtain ⟨da, dl, dc, rfl, -⟩ := hO6.slice
      have hr6 := (hB6.block _ (blk_lt hrow)).trans hrow
      have q8 := blk_cell hr6 1
      have f8 := blk_frozen hr6 1
      simp at q8
      have hset := blk_set (i := 1) hr6 (.slice da dl dc)
      simp at hset
      have hg6 : Gr (fun b => b = tb) w6 (w6.setCell ⟨tb, 1, none⟩ (.slice da dl dc)) := (Gr.refl (fun b => b = tb) w6).setCell (.inl rfl) _
      have HO6 := Lib.hid hO6
      have HB6 := Lib.hid (below_step hBs hB6)
      have HSET := Lib.hid hset
      have HG6 := Lib.hid hg6
      clear hO6 hB6 hr6 hset hg6 hrow hBs htb HCL
      go_wp2_with fail
      have hB7 : Below wr.heap.size wr (w6.setCell ⟨tb, 1, none⟩ (.slice da dl dc)) := HB6.out.trans (HG6.out.below (fun b e => by rw [e, HTB.out]; exact Nat.le_refl _) HB6.out.size)
      have htb5 : tb < w5.heap.size := blk_lt HROW.out
      have hO7 := HO6.out.gr HG6.out (fun _ h => h.elim) (fun b hb e => by have := (HO6.out.own b hb).1; omega)
      have HSET7 := Lib.hid HSET.out
      have HB7 := Lib.hid hB7
      have HO7 := Lib.hid hO7
      have HTB5 := Lib.hid htb5
      clear q8 f8 hB7 hO7 htb5 HSET HG6 HB6 HO6 HROW HBS
      generalize w6.setCell ⟨tb, 1, none⟩ (.slice da dl dc) = w7 at HSET7 HB7 HO7 ⊢
      have HW7 := Lib.hid (HW.out.below HB7.out)
      have HM7 := Lib.hid (show Below m w3 w7 from HB.out.trans (HB7.out.mono (HM5.out ▸ HB.out.size)))
      have HC0 : Cells [(⟨p, 0, none⟩, .slice va vl vc), (⟨tb, 0, none⟩, .string tnm), (⟨tb, 1, none⟩, .slice da dl dc), (⟨tb, 2, none⟩, .bool tg), (⟨tb, 3, none⟩, .bool ta)] w7 := ⟨blk_cell HW7.out.row 0, blk_cell HSET7.out 0, blk_cell HSET7.out 1, blk_cell HSET7.out 2, blk_cell HSET7.out 3, trivial⟩
      refine wp_region_T (Cells [(⟨p, 0, none⟩, .slice va vl vc), (⟨tb, 0, none⟩, .string tnm), (⟨tb, 1, none⟩, .slice da dl dc), (⟨tb, 2, none⟩, .bool tg), (⟨tb, 3, none⟩, .bool ta)]) (fun i => i == 7 || i == 10) (by kernel_rfl) ?_
      have hSss1 := Cells.drew HC0
      have hB_0_s1 : Below w7.heap.size w7 w7.drew := below_drew _
      generalize w7.drew = s1 at hSss1 hB_0_s1 ⊢
      have hB_s1_s1 := Below.refl s1.heap.size s1
      refine wpAnyT_pure (i := 0) (v := ?_) rfl (by kernel_rfl) (by kernel_rfl) (by kernel_rfl) (fun _ _ _ h => h) (by rfl) ?_ ?_
      rotate_left
      · intro w; go_simp; try with_reducible rfl
      simp only [Act.put, rgA, rgB, rgC, rgD, rgE, rgF]
      refine wpAnyT_pure (i := 1) (v := ?_) rfl (by kernel_rfl) (by kernel_rfl) (by kernel_rfl) (fun _ _ _ h => h) (by rfl) ?_ ?_
      rotate_left
      · intro w; go_simp; try with_reducible rfl
      simp only [Act.put, rgA, rgB, rgC, rgD, rgE, rgF]
      refine wpAnyT_pure (i := 2) (v := ?_) rfl (by kernel_rfl) (by kernel_rfl) (by kernel_rfl) (fun _ _ _ h => h) (by rfl) ?_ ?_
      rotate_left
      · intro w; go_simp; try with_reducible rfl
      simp only [Act.put, rgA, rgB, rgC, rgD, rgE, rgF]
      refine wpAnyT_pure (i := 3) (v := ?_) rfl (by kernel_rfl) (by kernel_rfl) (by kernel_rfl) (fun _ _ _ h => h) (by rfl) ?_ ?_
      rotate_left
      · intro w; go_simp; try with_reducible rfl
      simp only [Act.put, rgA, rgB, rgC, rgD, rgE, rgF]
      refine wpAnyT_loadW (i := 4) (v := ?_) rfl (by kernel_rfl) (by kernel_rfl) (by kernel_rfl) (by kernel_rfl) (by kernel_rfl) (fun _ _ _ h => h) (Or.inl ⟨by rfl, ?_⟩) hSss1 ?_
      rotate_left
      · intro w hSw; obtain ⟨e0, e1, e2, e3, e4, -⟩ := hSw; go_simp; try with_reducible rfl
      simp only [Act.put, rgA, rgB, rgC, rgD, rgE, rgF]
      refine wpAnyT_loadW (i := 5) (v := ?_) rfl (by kernel_rfl) (by kernel_rfl) (by kernel_rfl) (by kernel_rfl) (by kernel_rfl) (fun _ _ _ h => h) (Or.inl ⟨by rfl, ?_⟩) hSss1 ?_
      rotate_left
      · intro w hSw; obtain ⟨e0, e1, e2, e3, e4, -⟩ := hSw; go_simp; try with_reducible rfl
      simp only [Act.put, rgA, rgB, rgC, rgD, rgE, rgF]
      refine wpAnyT_one (i := 6) (by kernel_rfl) rfl (by rfl) ?_
      obtain ⟨b20, hb20⟩ : ∃ b, (s1).heap.size = b := ⟨_, rfl⟩
      refine wp_newrow (v := .slice (some ⟨b20, 0, none⟩) 1 1) (cs := #[.string tnm, .slice da dl dc, .bool tg, .bool ta]) (te := 68) (by rw [← hb20]; go_simp) ?_
      intro w102 hX hN20
      rw [hb20] at hN20
      have hB_s1_w102 := below_step hB_s1_s1 hX
      have hB_w102_w102 := Below.refl w102.heap.size w102
      have hSsw102 := Cells.below hB_s1_w102 hSss1
      clear hX
      refine ⟨fun _ _ => hSsw102, ?_⟩
      try simp only [Act.put, rgA, rgB, rgC, rgD, rgE, rgF]
      refine wpAnyT_one (i := 7) (by kernel_rfl) rfl (by rfl) ?_
      have hq20 := ((hB_w102_w102).block _ (blk_lt hN20)).trans hN20
      have hbP : Below w7.heap.size w7 w102 := hB_0_s1.trans ((hB_s1_w102).mono (hB_0_s1).size)
      have hPP0 := HW7.out.below hbP
      have hOP := HO7.out.below hbP
      have hPP := hPP0.wider (SS' := fun b => SS b ∨ (Value.slice da dl dc).ownBlock = some b) (fun _ h => .inl h) (fun b hb => hb.elim .inl (fun e => .inr (by
        have h1 := hOP.own b e
        have h2 := HTB5.out
        have h3 := HTB.out
        have h4 := blk_lt HW.out.row
        have h5 := HW.out.mp.lt
        exact ⟨h1.2, by omega, by omega, fun e' => by have := (HW.out.own.own b e').2; omega, by omega⟩)))
      have HPP := Lib.hid hPP
      have HNP := Lib.hid (show m ≤ (w102).heap.size from Nat.le_trans (HM5.out ▸ HM7.out.size) hbP.size)
      have HMP := Lib.hid (HM7.out.trans (hbP.mono (HM5.out ▸ HM7.out.size)))
      refine wp_app (.tmp 51) (.tmp 53) 69 rfl (e := taskT) (te := 68) info_task Tryz.underlying69 rfl (by decide) (base := m) (S := fun b => SS b ∨ (Value.slice da dl dc).ownBlock = some b) (v := .slice va vl vc) (xs := xs.take k) (by kernel_rfl) HPP.out.own HNP.out (sv := .slice (some ⟨b20, 0, none⟩) 1 1) (by kernel_rfl) (ys := [Tk.d ⟨tnm, tnd, tg, ta⟩]) (Src.of_cells (news := [.string tnm, .slice da dl dc, .bool tg, .bool ta]) (fun j u hu => by rw [Nat.zero_add, blk_cell hq20]; simpa using hu)) (RdL.one (e := taskT) (task_rd (t := ⟨tnm, tnd, tg, ta⟩) HNM.out (hOP.rd _ (fun _ h => h.elim) (fun b hb => .inr hb)))) (by have h1 := HK1.out; have h2 := HLT.out; have h3 := HLEN.out; rw [h1]; simp only [List.length_singleton]; omega) (by have h1 := HK1.out; have h2 := HLT.out; have h3 := HLEN.out; rw [h1]; simp only [List.length_singleton]; omega) ?_
      intro ca9 cl9 cc9 w103 O8 g8 ob8
      have hput := HPP.out.put g8 O8 ob8
      have hvs := fun e => (HPP.out.hv p e).1 rfl
      have hr8 := blk_gr (Gr.of_grown g8) HPP.out.row hvs
      have f8 := blk_frozen hr8 0
      have q8 := blk_cell hr8 0
      simp at q8
      clear O8 g8 ob8 hvs hr8 hbP hq20 hPP0 hOP hPP
      refine ⟨fun h => absurd h (by decide), ?_⟩
      try simp only [Act.put, rgA, rgB, rgC, rgD, rgE, rgF]
      refine wpAnyT_pure (i := 8) (v := ?_) rfl (by kernel_rfl) (by kernel_rfl) (by kernel_rfl) (fun _ _ _ h => h) (by rfl) ?_ ?_
      rotate_left
      · intro w; go_simp; try with_reducible rfl
      simp only [Act.put, rgA, rgB, rgC, rgD, rgE, rgF]
      refine wpAnyT_pure (i := 9) (v := ?_) rfl (by kernel_rfl) (by kernel_rfl) (by kernel_rfl) (fun _ _ _ h => h) (by rfl) ?_ ?_
      rotate_left
      · intro w; go_simp; try with_reducible rfl
      simp only [Act.put, rgA, rgB, rgC, rgD, rgE, rgF]
      refine wpAnyT_one (i := 10) (by kernel_rfl) rfl (by rfl) ?_
      refine wp_store1 (w' := (w103).setCell ⟨p, 0, none⟩ (.slice ca9 cl9 cc9)) 69 (.tmp 56) (.tmp 54) rfl ⟨p, 0, none⟩ (.slice ca9 cl9 cc9) (by kernel_rfl) (by kernel_rfl) (by go_simp) ?_
      clear f8 q8
      generalize (w103).setCell ⟨p, 0, none⟩ (.slice ca9 cl9 cc9) = w104 at hput ⊢
      refine ⟨fun h => absurd h (by decide), ?_⟩
      try simp only [Act.put, rgA, rgB, rgC, rgD, rgE, rgF]
      refine wpAnyT_done (by kernel_rfl) ?_ _
      obtain ⟨w9, rfl⟩ : ∃ x, x = w104 := ⟨_, rfl⟩
      obtain ⟨hP9, hG9⟩ := hput
      have HP9 := Lib.hid hP9
      have HM9 := Lib.hid (HMP.out.trans (HPP.out.below0 hG9 HNP.out))
      clear hP9 hG9 HPP HNP HMP
      have hl1 := HLT.out
      have hl2 := HLEN.out
      go_wp2_with fail
      go_roundw
      case rel => exact ⟨k + 1, _, _, HLT.out, by go_num, by rw [HSU.out]; exact HP9.out, HM9.out⟩
      case measure => have h1 := HLT.out; have h2 := HLEN.out; simp [intOf]; try omega
    · obtain rfl : len = k := by omega
      have hall : xs.take len = xs := List.take_of_length_le (by rw [HL.out]; exact Nat.le_refl _)
      rw [hall] at HW
      clear hW hlt hall
      go_wp2_with fail
      refine bodyPost_ret (results_tmp2 rfl _ _ _) rfl ?_
      exact .inr ⟨⟨HEL.out.1, HEL.out.2, HVT.out⟩, _, p, m, rfl, HBw.out, by rw [← HM5.out]; exact HB3.out.size, HW.out.done, Nat.le_trans (by rw [← HM5.out]; exact HB3.out.size) HW.out.h0, fun b hb => Nat.le_trans (show w.heap.size ≤ m by rw [← HM5.out]; exact HB3.out.size) (hb.elim (HW.out.hl b) (fun h => (HW.out.own.own b h).1))⟩
end Go.Proofs.YtdcjocldggmdbaaGreat

/- Layer 53: Default. -/
set_option linter.unusedSimpArgs false
namespace Go.Proofs.YtdcjocldggmdbaaGreat
open Go.RowKit Go

theorem rd_strs {S : Nat → Prop} {w : World} (l : List ByteArray) (h : ∀ s ∈ l, s.size ≤ maxLen) : RdL .str S w (l.map Value.string) l := by
  induction l with
  | nil => rfl
  | cons s l ih => exact ⟨[.string s], l.map Value.string, rfl, ⟨rfl, h s List.mem_cons_self⟩, ih fun x hx => h x (List.mem_cons_of_mem _ hx)⟩
theorem alloc_new' {w : World} {o : Obj} {n : Nat} (h : w.heap.size = n) : (w.alloc o).heap[n]? = some o := by subst h; exact heap_alloc_new w o
theorem alloc_old' {w : World} {o x : Obj} {n : Nat} (h : w.heap[n]? = some x) : (w.alloc o).heap[n]? = some x := (((Below.refl w.heap.size w).alloc (Nat.le_refl _) o).block _ (blk_lt h)).trans h
end Go.Proofs.YtdcjocldggmdbaaGreat

/- Layer 53, plain: the default tasks, and what is signed in their workflow. -/
set_option linter.unusedSimpArgs false
namespace Go.Proofs.YtdcjocldggmdbaaGreat
open Go.RowKit Go

/-- What is signed is a key of the workflow, and its prerequisites are signed. -/
def InvS (ts : List Tk) (ne np : Nat) (f : Ky → Option ByteArray) : Prop := ∀ k, (f k).isSome = true → checkI ts ne np k = 0 ∧ readyB ts ne f k = true
theorem InvS.none (ts : List Tk) (ne np : Nat) : InvS ts ne np (fun _ => Option.none) := fun k h => by cases h
theorem signF_some {f : Ky → Option ByteArray} {k : Ky} {who : ByteArray} {x : Ky} (h : (f x).isSome = true) : (signF f k who x).isSome = true := by
  unfold signF
  split
  · rfl
  · exact h
theorem ready_mono {ts : List Tk} {ne : Nat} {f : Ky → Option ByteArray} {k : Ky} {who : ByteArray} {x : Ky} (h : readyB ts ne f x = true) : readyB ts ne (signF f k who) x = true := by
  unfold readyB at *
  rw [List.all_eq_true] at *
  exact fun n hn => signF_some (h n hn)
theorem InvS.sign {ts : List Tk} {ne np : Nat} {f : Ky → Option ByteArray} (h : InvS ts ne np f) {k : Ky} {who : ByteArray} : InvS ts ne np (if signI ts ne np f k who = 0 then signF f k who else f) := by
  split
  · rename_i hs
    intro x hx
    by_cases e : x = k
    · subst e
      unfold signI at hs
      by_cases hc : checkI ts ne np x = 0
      · rw [if_pos hc] at hs
        refine ⟨hc, ready_mono ?_⟩
        split at hs
        · split at hs
          · cases hs
          · split at hs
            · assumption
            · cases hs
        · cases hs
      · rw [if_neg hc] at hs
        exact absurd hs hc
    · have hx' : (f x).isSome = true := by simpa [signF, e] using hx
      exact ⟨(h x hx').1, ready_mono (h x hx').2⟩
  · exact h
theorem InvS.need {ts : List Tk} {ne np : Nat} {f : Ky → Option ByteArray} (h : InvS ts ne np f) {k x : Ky} (hk : (f k).isSome = true) (hx : x ∈ rawNeeds ts ne k) : (f x).isSome = true := by
  have := (h k hk).2
  unfold readyB at this
  rw [List.all_eq_true] at this
  exact this x hx
end Go.Proofs.YtdcjocldggmdbaaGreat

/- Layer 53: the reference's calendar (of the year 2026). -/
set_option linter.unusedSimpArgs false
namespace Go.Proofs.YtdcjocldggmdbaaGreat
open Go.RowKit Go

def leapB (y : Int) : Bool := decide (y % 4 = 0) && (decide (y % 100 ≠ 0) || decide (y % 400 = 0))
set_option maxHeartbeats 1000000 in
theorem rleap53 (w : World) (y : Int) (h1 : 0 ≤ y) : Calls Tryz.prog 98 #[.int .i64 y] w fun e w' => e = .returned (.bool (leapB y)) ∧ w' = w := by
  go_enter Tryz.func98, Tryz.ntmps98
  go_wp2_with fail
  · go_ret
    rename_i e1 e2
    refine ⟨?_, rfl⟩
    simp [leapB, e1, e2]
    try rfl
  · go_ret
    rename_i e1 e2
    refine ⟨?_, rfl⟩
    simp [leapB, e1, e2]
  · go_ret
    rename_i e1
    refine ⟨?_, rfl⟩
    simp [leapB, e1]
/-- The days of the months of 2026. -/
def dim (m : Int) : Int := if m = 2 then 28 else if m = 4 ∨ m = 6 ∨ m = 9 ∨ m = 11 then 30 else 31
theorem months_at (w : World) (k : Nat) (hk : k < 12) (t : TypeId) (ht : Tryz.prog.underlying t = some (.array 12 3)) : Sem.run Tryz.prog (Instr.index t (.agg #[.int .i64 31, .int .i64 28, .int .i64 31, .int .i64 30, .int .i64 31, .int .i64 30, .int .i64 31, .int .i64 31, .int .i64 30, .int .i64 31, .int .i64 30, .int .i64 31]) (.int .i64 (k : Nat))) w = .ok (.int .i64 (dim (k + 1))) w := by
  have hp : ∀ (xs : Array Value) (off : Nat) (v : Value), xs[off]? = some v → (part 3 xs off).run Tryz.prog w = .ok v w := fun xs off v h => by simp [part, isAgg, run_underlying Tryz.underlying3, h]
  obtain rfl | rfl | rfl | rfl | rfl | rfl | rfl | rfl | rfl | rfl | rfl | rfl : k = 0 ∨ k = 1 ∨ k = 2 ∨ k = 3 ∨ k = 4 ∨ k = 5 ∨ k = 6 ∨ k = 7 ∨ k = 8 ∨ k = 9 ∨ k = 10 ∨ k = 11 := by omega
  all_goals simp [Instr.index, run_underlying ht, asIntOf]
  all_goals exact hp _ _ _ rfl
set_option maxRecDepth 20000 in
set_option maxHeartbeats 1000000 in
theorem rdays53 (w : World) (m : Int) (h1 : 1 ≤ m) (h2 : m ≤ 12) : Calls Tryz.prog 97 #[.int .i64 2026, .int .i64 m] w fun e w' => e = .returned (.int .i64 (dim m)) ∧ w' = w := by
  have hm : m = 1 ∨ m = 2 ∨ m = 3 ∨ m = 4 ∨ m = 5 ∨ m = 6 ∨ m = 7 ∨ m = 8 ∨ m = 9 ∨ m = 10 ∨ m = 11 ∨ m = 12 := by omega
  clear h1 h2
  have hl : leapB 2026 = false := by decide
  rcases hm with rfl | rfl | rfl | rfl | rfl | rfl | rfl | rfl | rfl | rfl | rfl | rfl
  · have hq : ∀ W, Sem.run Tryz.prog (Instr.index 158 (.agg #[.int .i64 31, .int .i64 28, .int .i64 31, .int .i64 30, .int .i64 31, .int .i64 30, .int .i64 31, .int .i64 31, .int .i64 30, .int .i64 31, .int .i64 30, .int .i64 31]) (.int .i64 0)) W = .ok (.int .i64 31) W := fun W => months_at W 0 (by omega) 158 Tryz.underlying158
    go_enter Tryz.func97, Tryz.ntmps97
    go_wp2_with fail
    go_ret
    exact ⟨rfl, rfl⟩
  · have hq : ∀ W, Sem.run Tryz.prog (Instr.index 158 (.agg #[.int .i64 31, .int .i64 28, .int .i64 31, .int .i64 30, .int .i64 31, .int .i64 30, .int .i64 31, .int .i64 31, .int .i64 30, .int .i64 31, .int .i64 30, .int .i64 31]) (.int .i64 1)) W = .ok (.int .i64 28) W := fun W => months_at W 1 (by omega) 158 Tryz.underlying158
    go_enter Tryz.func97, Tryz.ntmps97
    go_wp2_with fail
    refine (rleap53 _ 2026 (by omega)).mono ?_
    rintro e w2 ⟨rfl, rfl⟩
    rw [hl]
    go_wp2_with fail
    go_ret
    exact ⟨rfl, rfl⟩
  · have hq : ∀ W, Sem.run Tryz.prog (Instr.index 158 (.agg #[.int .i64 31, .int .i64 28, .int .i64 31, .int .i64 30, .int .i64 31, .int .i64 30, .int .i64 31, .int .i64 31, .int .i64 30, .int .i64 31, .int .i64 30, .int .i64 31]) (.int .i64 2)) W = .ok (.int .i64 31) W := fun W => months_at W 2 (by omega) 158 Tryz.underlying158
    go_enter Tryz.func97, Tryz.ntmps97
    go_wp2_with fail
    go_ret
    exact ⟨rfl, rfl⟩
  · have hq : ∀ W, Sem.run Tryz.prog (Instr.index 158 (.agg #[.int .i64 31, .int .i64 28, .int .i64 31, .int .i64 30, .int .i64 31, .int .i64 30, .int .i64 31, .int .i64 31, .int .i64 30, .int .i64 31, .int .i64 30, .int .i64 31]) (.int .i64 3)) W = .ok (.int .i64 30) W := fun W => months_at W 3 (by omega) 158 Tryz.underlying158
    go_enter Tryz.func97, Tryz.ntmps97
    go_wp2_with fail
    go_ret
    exact ⟨rfl, rfl⟩
  · have hq : ∀ W, Sem.run Tryz.prog (Instr.index 158 (.agg #[.int .i64 31, .int .i64 28, .int .i64 31, .int .i64 30, .int .i64 31, .int .i64 30, .int .i64 31, .int .i64 31, .int .i64 30, .int .i64 31, .int .i64 30, .int .i64 31]) (.int .i64 4)) W = .ok (.int .i64 31) W := fun W => months_at W 4 (by omega) 158 Tryz.underlying158
    go_enter Tryz.func97, Tryz.ntmps97
    go_wp2_with fail
    go_ret
    exact ⟨rfl, rfl⟩
  · have hq : ∀ W, Sem.run Tryz.prog (Instr.index 158 (.agg #[.int .i64 31, .int .i64 28, .int .i64 31, .int .i64 30, .int .i64 31, .int .i64 30, .int .i64 31, .int .i64 31, .int .i64 30, .int .i64 31, .int .i64 30, .int .i64 31]) (.int .i64 5)) W = .ok (.int .i64 30) W := fun W => months_at W 5 (by omega) 158 Tryz.underlying158
    go_enter Tryz.func97, Tryz.ntmps97
    go_wp2_with fail
    go_ret
    exact ⟨rfl, rfl⟩
  · have hq : ∀ W, Sem.run Tryz.prog (Instr.index 158 (.agg #[.int .i64 31, .int .i64 28, .int .i64 31, .int .i64 30, .int .i64 31, .int .i64 30, .int .i64 31, .int .i64 31, .int .i64 30, .int .i64 31, .int .i64 30, .int .i64 31]) (.int .i64 6)) W = .ok (.int .i64 31) W := fun W => months_at W 6 (by omega) 158 Tryz.underlying158
    go_enter Tryz.func97, Tryz.ntmps97
    go_wp2_with fail
    go_ret
    exact ⟨rfl, rfl⟩
  · have hq : ∀ W, Sem.run Tryz.prog (Instr.index 158 (.agg #[.int .i64 31, .int .i64 28, .int .i64 31, .int .i64 30, .int .i64 31, .int .i64 30, .int .i64 31, .int .i64 31, .int .i64 30, .int .i64 31, .int .i64 30, .int .i64 31]) (.int .i64 7)) W = .ok (.int .i64 31) W := fun W => months_at W 7 (by omega) 158 Tryz.underlying158
    go_enter Tryz.func97, Tryz.ntmps97
    go_wp2_with fail
    go_ret
    exact ⟨rfl, rfl⟩
  · have hq : ∀ W, Sem.run Tryz.prog (Instr.index 158 (.agg #[.int .i64 31, .int .i64 28, .int .i64 31, .int .i64 30, .int .i64 31, .int .i64 30, .int .i64 31, .int .i64 31, .int .i64 30, .int .i64 31, .int .i64 30, .int .i64 31]) (.int .i64 8)) W = .ok (.int .i64 30) W := fun W => months_at W 8 (by omega) 158 Tryz.underlying158
    go_enter Tryz.func97, Tryz.ntmps97
    go_wp2_with fail
    go_ret
    exact ⟨rfl, rfl⟩
  · have hq : ∀ W, Sem.run Tryz.prog (Instr.index 158 (.agg #[.int .i64 31, .int .i64 28, .int .i64 31, .int .i64 30, .int .i64 31, .int .i64 30, .int .i64 31, .int .i64 31, .int .i64 30, .int .i64 31, .int .i64 30, .int .i64 31]) (.int .i64 9)) W = .ok (.int .i64 31) W := fun W => months_at W 9 (by omega) 158 Tryz.underlying158
    go_enter Tryz.func97, Tryz.ntmps97
    go_wp2_with fail
    go_ret
    exact ⟨rfl, rfl⟩
  · have hq : ∀ W, Sem.run Tryz.prog (Instr.index 158 (.agg #[.int .i64 31, .int .i64 28, .int .i64 31, .int .i64 30, .int .i64 31, .int .i64 30, .int .i64 31, .int .i64 31, .int .i64 30, .int .i64 31, .int .i64 30, .int .i64 31]) (.int .i64 10)) W = .ok (.int .i64 30) W := fun W => months_at W 10 (by omega) 158 Tryz.underlying158
    go_enter Tryz.func97, Tryz.ntmps97
    go_wp2_with fail
    go_ret
    exact ⟨rfl, rfl⟩
  · have hq : ∀ W, Sem.run Tryz.prog (Instr.index 158 (.agg #[.int .i64 31, .int .i64 28, .int .i64 31, .int .i64 30, .int .i64 31, .int .i64 30, .int .i64 31, .int .i64 31, .int .i64 30, .int .i64 31, .int .i64 30, .int .i64 31]) (.int .i64 11)) W = .ok (.int .i64 31) W := fun W => months_at W 11 (by omega) 158 Tryz.underlying158
    go_enter Tryz.func97, Tryz.ntmps97
    go_wp2_with fail
    go_ret
    exact ⟨rfl, rfl⟩
end Go.Proofs.YtdcjocldggmdbaaGreat

/- Layer 53: the reference's calendar: Of, Civil, Add, Valid. -/
set_option linter.unusedSimpArgs false
namespace Go.Proofs.YtdcjocldggmdbaaGreat
open Go.RowKit Go

def ydays : Nat → Int
  | 0 => 0
  | k + 1 => ydays k + (if leapB (1900 + (k : Int)) then 366 else 365)
def mdays : Nat → Int
  | 0 => 0
  | k + 1 => mdays k + dim ((k : Int) + 1)
theorem ydays_le (k : Nat) : 0 ≤ ydays k ∧ ydays k ≤ 366 * k := by
  induction k with
  | zero => exact ⟨Int.le_refl _, Int.le_refl _⟩
  | succ k ih =>
    unfold ydays
    split <;> omega
theorem dim_le (m : Int) : 28 ≤ dim m ∧ dim m ≤ 31 := by
  unfold dim
  split
  · omega
  · split <;> omega
theorem mdays_le (k : Nat) : 0 ≤ mdays k ∧ mdays k ≤ 31 * k := by
  induction k with
  | zero => exact ⟨Int.le_refl _, Int.le_refl _⟩
  | succ k ih =>
    unfold mdays
    have := dim_le ((k : Int) + 1)
    omega
theorem y126 : ydays 126 = 46021 := by decide +kernel
set_option maxRecDepth 20000 in
set_option maxHeartbeats 1000000 in
theorem rof53 (w : World) (m : Nat) (h1 : 1 ≤ m) (h2 : m ≤ 12) : Calls Tryz.prog 80 #[.int .i64 2026, .int .i64 (m : Nat), .int .i64 1] w fun e w' => e = .returned (.tuple #[.int .i64 (20454 + mdays (m - 1)), .int .i64 0]) ∧ w' = w := by
  have hd := dim_le (m : Int)
  have HQ := Lib.hid (rdays53 w m (by omega) (by omega))
  go_enter Tryz.func80, Tryz.ntmps80
  go_wp2_with fail
  refine HQ.out.mono ?_
  rintro e w2 ⟨rfl, rfl⟩
  generalize dim (m : Int) = dm at hd
  go_wp2_with fail
  clear hd
  go_loopw [8, 9] (fun o a wr => ∃ k : Nat, k ≤ 126 ∧ a = .int .i64 (1900 + (k : Int)) ∧ o = .int .i64 (-25567 + ydays k) ∧ wr = w2) (fun _ a _ => 2026 - (intOf a).toNat)
  case atStart => exact ⟨0, by omega, rfl, rfl, rfl⟩
  case round =>
    obtain ⟨k, hk, rfl, rfl, rfl⟩ := hrel
    by_cases hlt : k < 126
    · have hkI : (1900 + (k : Int)) < 2026 := by omega
      have hb := ydays_le k
      have hb1 : ydays k ≤ 50000 := by omega
      have HS := Lib.hid (show ydays (k + 1) = ydays k + (if leapB (1900 + (k : Int)) then 366 else 365) from rfl)
      have HLP := Lib.hid (rleap53 wr (1900 + (k : Int)) (by omega))
      obtain ⟨yk, hyk⟩ : ∃ q, ydays k = q := ⟨_, rfl⟩
      rw [hyk] at hb hb1 HS ⊢
      have hb0 := hb.1
      clear hyk hb
      go_wp2_with fail
      refine HLP.out.mono ?_
      rintro e w3 ⟨rfl, rfl⟩
      generalize leapB (1900 + (k : Int)) = lb at HS ⊢
      clear HLP
      cases lb
      · go_wp2_with fail
        go_roundw
        case rel => exact ⟨k + 1, by omega, by go_num, by rw [HS.out]; go_num, trivial⟩
        case measure => simp [intOf]; try omega
      · go_wp2_with fail
        go_roundw
        case rel => exact ⟨k + 1, by omega, by go_num, by rw [HS.out]; go_num, trivial⟩
        case measure => simp [intOf]; try omega
    · obtain rfl : k = 126 := by omega
      rw [y126, show (1900 + ((126 : Nat) : Int)) = 2026 from rfl, show (-25567 + 46021 : Int) = 20454 from rfl]
      clear hlt hk
      obtain ⟨w5, rfl⟩ : ∃ x, x = wr := ⟨_, rfl⟩
      go_wp2_with fail
      go_loopw [8, 10] (fun o b wr => ∃ j : Nat, j + 1 ≤ m ∧ b = .int .i64 ((j : Int) + 1) ∧ o = .int .i64 (20454 + mdays j) ∧ wr = w5) (fun _ b _ => m - (intOf b).toNat)
      case atStart => exact ⟨0, by omega, rfl, rfl, rfl⟩
      case round =>
        obtain ⟨j, hj, rfl, rfl, rfl⟩ := hrel
        have hb := mdays_le j
        have hb1 : mdays j ≤ 400 := by omega
        by_cases hlt : j + 1 < m
        · have hjI : (j : Int) + 1 < (m : Int) := by omega
          have hd := dim_le ((j : Int) + 1)
          have HS := Lib.hid (show mdays (j + 1) = mdays j + dim ((j : Int) + 1) from rfl)
          have HDD := Lib.hid (rdays53 wr ((j : Int) + 1) (by omega) (by omega))
          obtain ⟨yk, hyk⟩ : ∃ q, mdays j = q := ⟨_, rfl⟩
          rw [hyk] at hb hb1 HS ⊢
          have hb0 := hb.1
          clear hyk hb
          go_wp2_with fail
          refine HDD.out.mono ?_
          rintro e w3 ⟨rfl, rfl⟩
          generalize dim ((j : Int) + 1) = dj at HS hd ⊢
          have hd1 := hd.1
          have hd2 := hd.2
          clear HDD hd
          go_wp2_with fail
          go_roundw
          case rel => exact ⟨j + 1, by omega, by go_num, by rw [HS.out]; go_num, trivial⟩
          case measure => simp [intOf]; try omega
        · obtain rfl : m = j + 1 := by omega
          have hb0 := hb.1
          obtain ⟨yk, hyk⟩ : ∃ q, mdays j = q := ⟨_, rfl⟩
          have HYK := Lib.hid hyk
          rw [hyk] at hb0 hb1 ⊢
          clear hb hyk
          go_wp2_with fail
          refine bodyPost_ret (results_tmp2 rfl _ _ _) rfl ?_
          refine ⟨?_, rfl⟩
          rw [show j + 1 - 1 = j from rfl, HYK.out]
          simp
          try omega
end Go.Proofs.YtdcjocldggmdbaaGreat

/- Layer 53: the reference's calendar: Civil, Add, Valid. -/
set_option linter.unusedSimpArgs false
namespace Go.Proofs.YtdcjocldggmdbaaGreat
open Go.RowKit Go

theorem results_tmp4 {fn : Func} {t u v x : Tmp} (h : fn.results = #[.tmp t, .tmp u, .tmp v, .tmp x]) (tmps : Array Value) (P : Program) (w : World) :
    (results fn tmps).run P w = .ok (.tuple #[tmps.getD t undef, tmps.getD u undef, tmps.getD v undef, tmps.getD x undef]) w := by
  simp [results, h]
theorem rest_ge : ∀ k : Nat, k < 126 → (if leapB (1900 + (k : Int)) then 366 ≤ 46021 - ydays k else 365 ≤ 46021 - ydays k) := by decide +kernel
set_option maxRecDepth 20000 in
set_option maxHeartbeats 1000000 in
theorem rvaliddate53 (w : World) : Calls Tryz.prog 105 #[.int .i64 20454] w fun e w' => e = .returned (.bool true) ∧ w' = w := by
  go_enter Tryz.func105, Tryz.ntmps105
  go_wp2_with fail
  go_ret
  exact ⟨rfl, rfl⟩
set_option maxRecDepth 20000 in
set_option maxHeartbeats 1000000 in
theorem rcivil53 (w : World) : Calls Tryz.prog 99 #[.int .i64 20454] w fun e w' => e = .returned (.tuple #[.int .i64 2026, .int .i64 1, .int .i64 1, .int .i64 0]) ∧ w' = w := by
  go_enter Tryz.func99, Tryz.ntmps99
  go_wp2_with fail
  refine (rvaliddate53 w).mono ?_
  rintro e w2 ⟨rfl, rfl⟩
  go_wp2_with fail
  go_loopw [6, 8] (fun y r wr => ∃ k : Nat, k ≤ 126 ∧ y = .int .i64 (1900 + (k : Int)) ∧ r = .int .i64 (46021 - ydays k) ∧ wr = w2) (fun y _ _ => 2026 - (intOf y).toNat)
  case atStart => exact ⟨0, by omega, rfl, rfl, rfl⟩
  case round =>
    obtain ⟨k, hk, rfl, rfl, rfl⟩ := hrel
    by_cases hlt : k < 126
    · have hb := ydays_le k
      have hb1 : ydays k ≤ 50000 := by omega
      have HS := Lib.hid (show ydays (k + 1) = ydays k + (if leapB (1900 + (k : Int)) then 366 else 365) from rfl)
      have HLP := Lib.hid (rleap53 wr (1900 + (k : Int)) (by omega))
      have HGE := Lib.hid (rest_ge k hlt)
      obtain ⟨yk, hyk⟩ : ∃ q, ydays k = q := ⟨_, rfl⟩
      rw [hyk] at hb hb1 HS HGE ⊢
      have hb0 := hb.1
      clear hyk hb
      generalize hlb : leapB (1900 + (k : Int)) = lb at HS HLP HGE ⊢
      clear hlb
      go_wp2_with fail
      refine HLP.out.mono ?_
      rintro e w3 ⟨rfl, rfl⟩
      cases lb
      · have hge : 365 ≤ 46021 - yk := HGE.out
        go_wp2_with fail
        refine HLP.out.mono ?_
        rintro e w4 ⟨rfl, rfl⟩
        go_wp2_with fail
        refine HLP.out.mono ?_
        rintro e w5 ⟨rfl, rfl⟩
        go_wp2_with fail
        go_roundw
        case rel => exact ⟨k + 1, by omega, by go_num, by rw [HS.out]; go_num, trivial⟩
        case measure => simp [intOf]; try omega
      · have hge : 366 ≤ 46021 - yk := HGE.out
        go_wp2_with fail
        refine HLP.out.mono ?_
        rintro e w4 ⟨rfl, rfl⟩
        go_wp2_with fail
        go_roundw
        case rel => exact ⟨k + 1, by omega, by go_num, by rw [HS.out]; go_num, trivial⟩
        case measure => simp [intOf]; try omega
    · obtain rfl : k = 126 := by omega
      rw [y126, show (1900 + ((126 : Nat) : Int)) = 2026 from rfl, show (46021 - 46021 : Int) = 0 from rfl]
      clear hlt hk
      obtain ⟨w5, rfl⟩ : ∃ x, x = wr := ⟨_, rfl⟩
      have hl : leapB 2026 = false := by decide
      go_wp2_with fail
      refine (rleap53 w5 2026 (by omega)).mono ?_
      rintro e w6 ⟨rfl, rfl⟩
      rw [hl]
      go_wp2_with fail
      refine (rleap53 w6 2026 (by omega)).mono ?_
      rintro e w7 ⟨rfl, rfl⟩
      rw [hl]
      go_wp2_with fail
      go_loopw [7, 8] (fun m r wr => m = .int .i64 1 ∧ r = .int .i64 0 ∧ wr = w7) (fun _ _ _ => 0)
      case atStart => exact ⟨rfl, rfl, rfl⟩
      case round =>
        obtain ⟨rfl, rfl, rfl⟩ := hrel
        have hd1 : dim 1 = 31 := rfl
        go_wp2_with fail
        refine (rdays53 wr 1 (by omega) (by omega)).mono ?_
        rintro e w8 ⟨rfl, rfl⟩
        rw [hd1]
        go_wp2_with fail
        exact bodyPost_ret (results_tmp4 rfl _ _ _) rfl ⟨rfl, rfl⟩
set_option maxRecDepth 20000 in
set_option maxHeartbeats 1000000 in
theorem radd53 (w : World) : Calls Tryz.prog 81 #[.int .i64 20454, .int .i64 11] w fun e w' => (∃ d : Int, e = .returned (.tuple #[.int .i64 d, .int .i64 0])) ∧ w' = w := by
  go_enter Tryz.func81, Tryz.ntmps81
  go_wp2_with fail
  refine (rcivil53 w).mono ?_
  rintro e w2 ⟨rfl, rfl⟩
  go_wp2_with fail
  refine (rdays53 w2 12 (by omega) (by omega)).mono ?_
  rintro e w3 ⟨rfl, rfl⟩
  rw [show dim 12 = 31 from rfl]
  go_wp2_with fail
  refine (rof53 w3 12 (by omega) (by omega)).mono ?_
  rintro e w4 ⟨rfl, rfl⟩
  go_wp2_with fail
  exact bodyPost_ret (results_tmp2 rfl _ _ _) rfl ⟨⟨_, rfl⟩, rfl⟩
set_option maxRecDepth 20000 in
set_option maxHeartbeats 1000000 in
theorem rfirst53 (w : World) : Calls Tryz.prog 62 #[.agg #[.int .i64 2026, .int .i64 1, .int .i64 12], .int .i64 11] w fun e w' => (∃ d : Int, e = .returned (.tuple #[.int .i64 d, .int .i64 0])) ∧ Below w.heap.size w w' := by
  have hc := alloc_new' (w := w) (o := .cells #[.int .i64 2026, .int .i64 1, .int .i64 12] 58) rfl
  have x0 := blk_cell hc 0
  have x1 := blk_cell hc 1
  simp at x0 x1
  have HB := Lib.hid ((Below.refl w.heap.size w).alloc (Nat.le_refl _) (.cells #[.int .i64 2026, .int .i64 1, .int .i64 12] 58))
  clear hc
  go_enter Tryz.func62, Tryz.ntmps62
  go_wp2_with fail
  generalize w.alloc _ = w1 at HB ⊢
  refine (rof53 w1 1 (by omega) (by omega)).mono ?_
  rintro e w2 ⟨rfl, rfl⟩
  rw [show (20454 + mdays (1 - 1)) = 20454 from rfl]
  go_wp2_with fail
  refine (radd53 w2).mono ?_
  rintro e w3 ⟨⟨d, rfl⟩, rfl⟩
  go_wp2_with fail
  exact bodyPost_ret (results_tmp2 rfl _ _ _) rfl ⟨⟨_, rfl⟩, HB.out⟩
set_option maxRecDepth 20000 in
set_option maxHeartbeats 1000000 in
theorem rcal53 (w : World) : Calls Tryz.prog 45 #[.agg #[.int .i64 2026, .int .i64 1, .int .i64 12]] w fun e w' => e = .returned (.bool true) ∧ Below w.heap.size w w' := by
  have hc := alloc_new' (w := w) (o := .cells #[.int .i64 2026, .int .i64 1, .int .i64 12] 58) rfl
  have x0 := blk_cell hc 0
  have x1 := blk_cell hc 1
  have x2 := blk_cell hc 2
  simp at x0 x1 x2
  have HB := Lib.hid ((Below.refl w.heap.size w).alloc (Nat.le_refl _) (.cells #[.int .i64 2026, .int .i64 1, .int .i64 12] 58))
  clear hc
  go_enter Tryz.func45, Tryz.ntmps45
  go_wp2_with fail
  generalize w.alloc _ = w1 at HB ⊢
  refine (rfirst53 w1).mono ?_
  rintro e w2 ⟨⟨d, rfl⟩, hB2⟩
  have HB2 := Lib.hid (below_step HB.out hB2)
  clear hB2
  go_wp2_with fail
  go_ret
  exact ⟨rfl, HB2.out⟩
end Go.Proofs.YtdcjocldggmdbaaGreat

/- Layer 53: the reference's Name. -/
set_option linter.unusedSimpArgs false
namespace Go.Proofs.YtdcjocldggmdbaaGreat
open Go.RowKit Go

set_option maxRecDepth 20000 in
set_option maxHeartbeats 1000000 in
theorem rletter53 (w : World) (c : UInt8) : Calls Tryz.prog 51 #[.int .u8 c.toNat] w fun e w' => e = .returned (.bool (letB c)) ∧ w' = w := by
  obtain ⟨n, hn⟩ : ∃ n : Nat, c.toNat = n := ⟨_, rfl⟩
  have HL : letB c = ((decide (97 ≤ n) && decide (n ≤ 122)) || (decide (65 ≤ n) && decide (n ≤ 90))) := by unfold letB; rw [hn]
  rw [HL, hn]
  clear HL hn
  by_cases h1 : (97 : Int) ≤ (n : Int)
  · by_cases h2 : (n : Int) ≤ 122
    · have HX := Lib.hid (show ((decide (97 ≤ n) && decide (n ≤ 122)) || (decide (65 ≤ n) && decide (n ≤ 90))) = true from by simp; omega)
      rw [HX.out]
      go_enter Tryz.func51, Tryz.ntmps51
      go_wp2_with fail
      go_ret
      exact ⟨rfl, rfl⟩
    · have HX := Lib.hid (show ((decide (97 ≤ n) && decide (n ≤ 122)) || (decide (65 ≤ n) && decide (n ≤ 90))) = false from by simp; omega)
      rw [HX.out]
      have h3 : (65 : Int) ≤ (n : Int) := by omega
      have h4 : ¬ (n : Int) ≤ 90 := by omega
      go_enter Tryz.func51, Tryz.ntmps51
      go_wp2_with fail
      go_ret
      exact ⟨by first | rfl | simp [h4], rfl⟩
  · by_cases h3 : (65 : Int) ≤ (n : Int)
    · by_cases h4 : (n : Int) ≤ 90
      · have HX := Lib.hid (show ((decide (97 ≤ n) && decide (n ≤ 122)) || (decide (65 ≤ n) && decide (n ≤ 90))) = true from by simp; omega)
        rw [HX.out]
        go_enter Tryz.func51, Tryz.ntmps51
        go_wp2_with fail
        go_ret
        exact ⟨by first | rfl | simp [h4], rfl⟩
      · have HX := Lib.hid (show ((decide (97 ≤ n) && decide (n ≤ 122)) || (decide (65 ≤ n) && decide (n ≤ 90))) = false from by simp; omega)
        rw [HX.out]
        go_enter Tryz.func51, Tryz.ntmps51
        go_wp2_with fail
        go_ret
        exact ⟨by first | rfl | simp [h4], rfl⟩
    · have HX := Lib.hid (show ((decide (97 ≤ n) && decide (n ≤ 122)) || (decide (65 ≤ n) && decide (n ≤ 90))) = false from by simp; omega)
      rw [HX.out]
      go_enter Tryz.func51, Tryz.ntmps51
      go_wp2_with fail
      go_ret
      exact ⟨by first | rfl | simp [h3], rfl⟩
set_option maxRecDepth 20000 in
set_option maxHeartbeats 1000000 in
theorem rname53 (w : World) (s : ByteArray) (hs : s.size ≤ maxLen) :
    Calls Tryz.prog 29 #[.string s] w fun e w' => e = .returned (.bool (nameB s)) ∧ w' = w := by
  have hsz : s.size ≤ 9223372036854775807 := by simpa [maxLen] using hs
  go_enter Tryz.func29, Tryz.ntmps29
  go_wp2_with fail
  go_loopw [3] (fun i wr => ∃ (k : Nat), k ≤ s.size ∧ i = .int .i64 k ∧ (∀ j (hj : j < s.size), j < k → charB j s[j] = true) ∧ wr = w) (fun i _ => s.size - (intOf i).toNat)
  case atStart => exact ⟨0, Nat.zero_le _, rfl, fun j _ hj => absurd hj (by omega), rfl⟩
  case round =>
    obtain ⟨k, hk, rfl, hall, rfl⟩ := hrel
    have HALL := Lib.hid hall
    clear hall
    by_cases hlt : k < s.size
    · have hkI : (k : Int) < (s.size : Int) := by omega
      have HBAD := Lib.hid (show charB k s[k] = false → nameB s = false from fun h => name_bad (s := s) hlt h)
      have HGOOD := Lib.hid (show charB k s[k] = true → ∀ j (hj : j < s.size), j < k + 1 → charB j s[j] = true from fun h j hj hjk => by
        by_cases e : j = k
        · subst e; exact h
        · exact HALL.out j hj (by omega))
      have HLT := Lib.hid hlt
      have HLE := Lib.hid (rletter53 wr s[k])
      go_wp2_with fail
      refine HLE.out.mono ?_
      rintro e w2 ⟨rfl, rfl⟩
      generalize hlb : letB s[k] = lb
      have HCB := Lib.hid (show charB k s[k] = (lb || (decide (k ≠ 0) && (decide (s[k].toNat = 45) || (decide (48 ≤ s[k].toNat) && decide (s[k].toNat ≤ 57))))) from by rw [← hlb]; rfl)
      clear hlb HLE
      cases lb
      · go_wp2_with fail
        all_goals try subst_vars
        all_goals clear HALL
        all_goals first
          | (exfalso; omega)
          | (go_ret
             rw [HBAD.out (HCB.out.trans (by simp; omega))]
             exact ⟨rfl, rfl⟩)
          | (go_ret
             rw [HBAD.out (HCB.out.trans (by simp at *; omega))]
             exact ⟨rfl, rfl⟩)
          | (go_ret
             rw [HBAD.out (HCB.out.trans (by simp))]
             exact ⟨rfl, rfl⟩)
          | (refine ⟨⟨_, HLT.out, by go_num, HGOOD.out (HCB.out.trans (by simp; omega)), by first | rfl | trivial⟩, by have := HLT.out; simp [intOf]; try omega⟩)
          | (refine ⟨⟨_, HLT.out, by go_num, HGOOD.out (HCB.out.trans (by simp at *; omega)), by first | rfl | trivial⟩, by have := HLT.out; simp [intOf]; try omega⟩)
      · go_wp2_with fail
        go_roundw
        case rel => exact ⟨k + 1, HLT.out, by go_num, HGOOD.out (HCB.out.trans rfl), by first | rfl | trivial⟩
        case measure => have := HLT.out; simp [intOf]; try omega
    · obtain rfl : k = s.size := by omega
      have HN := Lib.hid (name_all (s := s) (fun j hj => HALL.out j hj hj))
      by_cases e1 : (1 : Int) ≤ (s.size : Int)
      · go_wp2_with fail
        go_ret
        have h1 : decide (1 ≤ s.size) = true := by simp; omega
        have h2 : decide ((s.size : Int) ≤ 16) = decide (s.size ≤ 16) := decide_eq_decide.2 (by omega)
        rw [HN.out, h1]
        refine ⟨?_, rfl⟩
        first | rw [← h2]; rfl | (simp; omega)
      · have H1 := Lib.hid (show decide (1 ≤ s.size) = false from decide_eq_false (by omega))
        go_wp2_with fail
        go_ret
        rw [HN.out, H1.out]
        exact ⟨rfl, rfl⟩
end Go.Proofs.YtdcjocldggmdbaaGreat

/- Layer 53: the reference's place and Few. -/
set_option linter.unusedSimpArgs false
namespace Go.Proofs.YtdcjocldggmdbaaGreat
open Go.RowKit Go

set_option maxRecDepth 20000 in
set_option maxHeartbeats 1000000 in
theorem rplace53 {S : Nat → Prop} (w : World) (a : Option Addr) (len cap : Nat) (xs : List taskT.den) (hx : Rd (.sl taskT) S w [.slice a len cap] xs) (n : ByteArray) :
    Calls Tryz.prog 49 #[.slice a len cap, .string n] w fun e w' => e = .returned (.int .i64 (plcI (xs.map tk) n)) ∧ w' = w := by
  obtain ⟨hl, hlc, hcm, -⟩ := id hx.sl_flat
  have HX := Lib.hid hx
  have HL := Lib.hid hl
  clear hx hl
  go_enter Tryz.func49, Tryz.ntmps49
  go_wp2_with fail
  go_loopw [5] (fun i wr => ∃ k : Nat, k ≤ len ∧ i = .int .i64 k ∧ (∀ j (hj : j < (xs.map tk).length), j < k → (xs.map tk)[j].name ≠ n) ∧ wr = w) (fun i _ => len - (intOf i).toNat)
  case atStart => exact ⟨0, Nat.zero_le _, rfl, fun j _ hj => absurd hj (by omega), rfl⟩
  case round =>
    obtain ⟨k, hk, rfl, hall, rfl⟩ := hrel
    have HALL := Lib.hid hall
    clear hall
    by_cases hlt : k < len
    · have hkI : (k : Int) < (len : Int) := by omega
      have hkx : k < xs.length := by rw [HL.out]; exact hlt
      obtain ⟨b, o, na, nl, nc, rfl, -, m0, m1, m2, m3, hnd, hnm⟩ := task_at HX.out k hkx
      have hget : (xs.map tk)[k]'(by rw [List.length_map]; exact hkx) = tk xs[k] := List.getElem_map _
      have HHIT := Lib.hid (show (tk xs[k]).name = n → plcI (xs.map tk) n = (k : Int) from fun e => by
        have hp : plc (xs.map tk) n = k := plc_hit (by rw [List.length_map]; exact hkx) (by rw [hget]; exact e) (fun j hj => HALL.out j (by rw [List.length_map]; omega) hj)
        unfold plcI
        rw [if_pos (by rw [hp, List.length_map]; exact hkx), hp])
      have HNXT := Lib.hid (show (tk xs[k]).name ≠ n → ∀ j (hj : j < (xs.map tk).length), j < k + 1 → (xs.map tk)[j].name ≠ n from fun h j hj hjk => by
        by_cases e : j = k
        · subst e; rw [hget]; exact h
        · exact HALL.out j hj (by omega))
      have HLT := Lib.hid hlt
      generalize (tk xs[k]).name = nm at m0 hnm HHIT HNXT
      clear hget m1 m2 m3 hnd hnm hkx hlt
      by_cases he : nm = n
      · have hq : (nm.toList == n.toList) = true := by rw [strB]; exact decide_eq_true he
        have HE := Lib.hid he
        clear he
        go_wp2_with fail
        go_ret
        rw [HHIT.out HE.out]
        exact ⟨rfl, rfl⟩
      · have hq : (nm.toList == n.toList) = false := by rw [strB]; exact decide_eq_false he
        have HE := Lib.hid he
        clear he
        have hl1 := HLT.out
        go_wp2_with fail
        go_roundw
        case rel => exact ⟨k + 1, HLT.out, by go_num, HNXT.out HE.out, by first | rfl | trivial⟩
        case measure => simp [intOf]; try omega
    · obtain rfl : k = len := by omega
      have hm : plcI (xs.map tk) n = -1 := by
        unfold plcI
        rw [plc_miss (fun j hj => HALL.out j hj (by rw [List.length_map, HL.out] at hj; exact hj)), if_neg (by omega)]
      have HM := Lib.hid hm
      clear hm
      go_wp2_with fail
      go_ret
      rw [HM.out]
      exact ⟨rfl, rfl⟩
def FewP (xs : List taskT.den) (w : World) (e : Ending) (w' : World) : Prop := ∃ b, e = .returned (.bool b) ∧ w' = w ∧ (b = true → xs.length ≤ 8 ∧ ∀ i (hi : i < xs.length), (tk xs[i]).needs.length ≤ 8)
set_option maxRecDepth 20000 in
set_option maxHeartbeats 1000000 in
theorem rfew53 {S : Nat → Prop} (w : World) (a : Option Addr) (len cap : Nat) (xs : List taskT.den) (hx : Rd (.sl taskT) S w [.slice a len cap] xs) :
    Calls Tryz.prog 21 #[.slice a len cap] w (FewP xs w) := by
  obtain ⟨hl, hlc, hcm, -⟩ := id hx.sl_flat
  have HX := Lib.hid hx
  have HL := Lib.hid hl
  clear hx hl
  go_enter Tryz.func21, Tryz.ntmps21
  go_wp2_with fail
  go_loopw [3, 4] (fun i _ wr => ∃ k : Nat, k ≤ len ∧ i = .int .i64 k ∧ (∀ j (hj : j < xs.length), j < k → (tk xs[j]).needs.length ≤ 8) ∧ wr = w) (fun i _ _ => len - (intOf i).toNat)
  case atStart => exact ⟨0, Nat.zero_le _, rfl, fun j _ hj => absurd hj (by omega), rfl⟩
  case round =>
    obtain ⟨k, hk, rfl, hall, rfl⟩ := hrel
    have HALL := Lib.hid hall
    clear hall
    by_cases hlt : k < len
    · have hkI : (k : Int) < (len : Int) := by omega
      have hkx : k < xs.length := by rw [HL.out]; exact hlt
      obtain ⟨b, o, na, nl, nc, rfl, -, m0, m1, m2, m3, hnd, hnm⟩ := task_at HX.out k hkx
      have HNXT := Lib.hid (show (tk xs[k]).needs.length ≤ 8 → ∀ j (hj : j < xs.length), j < k + 1 → (tk xs[j]).needs.length ≤ 8 from fun h j hj hjk => by
        by_cases e : j = k
        · subst e; exact h
        · exact HALL.out j hj (by omega))
      have HLT := Lib.hid hlt
      generalize tk xs[k] = t at m0 m1 m2 m3 hnd hnm HNXT
      obtain ⟨tnm, tnd, tg, ta⟩ := t
      simp only at m0 m1 hnd hnm
      have hnl : tnd.length = nl := hnd.sl_flat.1
      obtain ⟨-, hnc, hncm, hat⟩ := Rd.sl1 (e := .str) rfl hnd
      have HAT := Lib.hid hat
      have HNL := Lib.hid hnl
      clear m2 m3 hnd hat hnl hkx hlt
      by_cases h1 : (8 : Int) < (nl : Int)
      · go_wp2_with fail
        go_ret
        exact ⟨false, rfl, rfl, fun h => by cases h⟩
      by_cases h2 : (40 : Int) < (tnm.size : Int)
      · go_wp2_with fail
        go_ret
        exact ⟨false, rfl, rfl, fun h => by cases h⟩
      obtain ⟨w5, hw5⟩ : ∃ x, x = wr := ⟨_, rfl⟩
      go_wp2_with fail
      go_loopw [4] (fun i wr2 => ∃ j : Nat, j ≤ nl ∧ i = .int .i64 j ∧ wr2 = w5) (fun i _ => nl - (intOf i).toNat)
      case atStart => exact ⟨0, Nat.zero_le _, rfl, hw5.symm⟩
      case round =>
        obtain ⟨j, hj, rfl, rfl⟩ := hrel
        subst hw5
        by_cases hlt2 : j < nl
        · have hjI : (j : Int) < (nl : Int) := by omega
          have hjx : j < tnd.length := by rw [HNL.out]; exact hlt2
          obtain ⟨nb, no, nv, rfl, -, y0, hy⟩ := HAT.out j hjx
          obtain ⟨he, hsz⟩ := hy
          simp only [List.cons.injEq, and_true] at he
          subst he
          generalize tnd[j] = s at y0 hsz
          clear hjx
          by_cases h3 : (40 : Int) < (s.size : Int)
          · go_wp2_with fail
            go_ret
            exact ⟨false, rfl, rfl, fun h => by cases h⟩
          · go_wp2_with fail
            go_roundw
            case rel => exact ⟨j + 1, by omega, by go_num, by first | rfl | trivial⟩
            case measure => simp [intOf]; try omega
        · obtain rfl : j = nl := by omega
          have hl1 := HLT.out
          go_wp2_with fail
          go_roundw
          case rel => exact ⟨k + 1, HLT.out, by go_num, HNXT.out (by show tnd.length ≤ 8; rw [HNL.out]; omega), by first | rfl | trivial⟩
          case measure => simp [intOf]; try omega
    · obtain rfl : k = len := by omega
      by_cases h8 : (k : Int) ≤ 8
      · go_wp2_with fail
        go_ret
        exact ⟨true, by first | rfl | simp [h8], rfl, fun _ => ⟨by rw [HL.out]; omega, fun i hi => HALL.out i hi (by rw [HL.out] at hi; exact hi)⟩⟩
      · go_wp2_with fail
        go_ret
        exact ⟨false, by first | rfl | simp [h8], rfl, fun h => by cases h⟩
end Go.Proofs.YtdcjocldggmdbaaGreat

/- Layer 53: the reference's Valid. -/
set_option linter.unusedSimpArgs false
namespace Go.Proofs.YtdcjocldggmdbaaGreat
open Go.RowKit Go

def NeedAt (ts : List Tk) (i : Nat) (nds : List ByteArray) (k : Nat) : Prop := ∀ (hk : k < nds.length), plc ts nds[k] < i ∧ ∀ j (hj : j < k), nds[j] ≠ nds[k]
def RTask (ts : List Tk) (i : Nat) : Prop := ∀ (hi : i < ts.length), nameB ts[i].name = true ∧ plc ts ts[i].name = i ∧ ∀ k, k < ts[i].needs.length → NeedAt ts i ts[i].needs k
def RVal (ts : List Tk) : Prop := 1 ≤ ts.length ∧ ts.length ≤ 20 ∧ ∀ i, i < ts.length → RTask ts i
theorem plcI_lt {ts : List Tk} {n : ByteArray} {i : Nat} (hi : i ≤ ts.length) : (0 ≤ plcI ts n ∧ plcI ts n < (i : Int)) ↔ plc ts n < i := by
  unfold plcI
  split <;> omega
theorem plcI_eq {ts : List Tk} {n : ByteArray} {i : Nat} (hi : i < ts.length) : plcI ts n = (i : Int) ↔ plc ts n = i := by
  unfold plcI
  split <;> omega
theorem plc_mem {ts : List Tk} {n : ByteArray} {i : Nat} (hi : i ≤ ts.length) : hasN ((ts.take i).map Tk.name) n = true ↔ plc ts n < i := by
  rw [hasN_iff]
  constructor
  · intro h
    obtain ⟨t, ht, rfl⟩ := List.mem_map.1 h
    obtain ⟨j, hj, rfl⟩ := List.getElem_of_mem ht
    rw [List.length_take] at hj
    rw [List.getElem_take]
    have : plc ts ts[j].name ≤ j := by
      unfold plc
      exact Nat.le_of_not_lt fun hlt => by
        have := List.not_of_lt_findIdx (xs := ts) (p := fun t => decide (t.name = ts[j].name)) (i := j) hlt
        simp at this
    omega
  · intro h
    have hp := plc_name (ts := ts) (n := n) (by omega)
    refine List.mem_map.2 ⟨ts[plc ts n], ?_, hp⟩
    exact List.mem_iff_getElem.2 ⟨plc ts n, by rw [List.length_take]; omega, by rw [List.getElem_take]⟩
theorem rval_iff (ts : List Tk) : RVal ts ↔ ValidT ts := by
  unfold RVal ValidT
  refine and_congr Iff.rfl (and_congr Iff.rfl (forall_congr' fun i => forall_congr' fun hi => ?_))
  unfold RTask TaskOk NeedsOk NeedAt
  have hle : i ≤ ts.length := by omega
  constructor
  · intro h
    obtain ⟨h1, h2, h3⟩ := h hi
    refine ⟨fun j hj => ⟨(plc_mem hle).2 (h3 j hj hj).1, ?_⟩, ?_, h1⟩
    · cases hh : hasN (ts[i].needs.take j) ts[i].needs[j] with
      | false => rfl
      | true =>
        obtain ⟨m, hm, he⟩ := List.getElem_of_mem (hasN_iff.1 hh)
        rw [List.length_take] at hm
        rw [List.getElem_take] at he
        exact absurd he ((h3 j hj hj).2 m (by omega))
    · cases hh : hasN ((ts.take i).map Tk.name) ts[i].name with
      | false => rfl
      | true => have := (plc_mem hle).1 hh; omega
  · intro h _
    obtain ⟨h1, h2, h3⟩ := h
    refine ⟨h3, ?_, fun k hk _ => ⟨(plc_mem hle).1 (h1 k hk).1, fun j hj he => ?_⟩⟩
    · have h4 : ¬ plc ts ts[i].name < i := fun hlt => by rw [(plc_mem hle).2 hlt] at h2; cases h2
      have h5 : plc ts ts[i].name ≤ i := by
        unfold plc
        exact Nat.le_of_not_lt fun hlt => by
          have := List.not_of_lt_findIdx (xs := ts) (p := fun t => decide (t.name = ts[i].name)) (i := i) hlt
          simp at this
      omega
    · have := (h1 k hk).2
      have hm : hasN (ts[i].needs.take k) ts[i].needs[k] = true := hasN_iff.2 (List.mem_iff_getElem.2 ⟨j, by rw [List.length_take]; omega, by rw [List.getElem_take]; exact he⟩)
      rw [hm] at this
      cases this
end Go.Proofs.YtdcjocldggmdbaaGreat
