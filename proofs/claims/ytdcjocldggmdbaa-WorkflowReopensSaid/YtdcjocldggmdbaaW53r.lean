/- Layer 53: New. -/
import Derived.Test.YtdcjocldggmdbaaW53q
set_option linter.unusedSimpArgs false
namespace Go.Proofs.Ytdcjocldggmdbaa
open Go.RowKit Go

def NewP (ts : List Tk) (el : Nat) (pe : Nat) (w : World) (e : Ending) (w' : World) : Prop :=
  (¬ (1 ≤ el ∧ el ≤ 12 ∧ ValidT ts) ∧ e = .returned (.tuple #[.pointer none, .int .i64 1]) ∧ Below w.heap.size w w') ∨
  ((1 ≤ el ∧ el ≤ 12 ∧ ValidT ts) ∧ ∃ S p m, e = .returned (.tuple #[.pointer (some ⟨p, 0, none⟩), .int .i64 0]) ∧ Below w.heap.size w w' ∧ w.heap.size ≤ m ∧ WfIn S w' p ts el pe m 0 (fun _ => none) ∧ w.heap.size ≤ p ∧ ∀ b, S b → w.heap.size ≤ b)
set_option maxRecDepth 20000 in
set_option maxHeartbeats 4000000 in
theorem new53 {T : Nat → Prop} (w : World) (cur : ByteArray) (y mo : Int) (pe : Nat) (ca : Option Addr) (cl cc : Nat) (r : Fin 15 → Int) (ea : Option Addr) (el ec : Nat) (hel : el ≤ 9223372036854775807) (h1 : 1900 ≤ y) (h2 : y ≤ 2199) (h3 : 1 ≤ mo) (h4 : mo ≤ 12) (h5 : 1 ≤ pe) (h6 : pe ≤ 120) (h7 : 12 * y + mo - 1 + ((pe : Int) - 1) < 26400)
    (a : Option Addr) (len cap : Nat) (xs : List taskT.den) (hx : Rd (.sl taskT) T w [.slice a len cap] xs) (hT : ∀ b, T b → b < w.heap.size) (hlen : len ≤ 1000000) (hns : ∀ i (hi : i < xs.length), (tk xs[i]).needs.length ≤ 1000000) :
    Calls Try.prog 29 #[.agg (grpV cur y mo pe ca cl cc r ea el ec), .slice a len cap] w (NewP (xs.map tk) el pe w) := by
  have hgb := heap_alloc_new w (.cells (grpV cur y mo pe ca cl cc r ea el ec) 84)
  have hB1 := (Below.refl w.heap.size w).alloc (Nat.le_refl _) (.cells (grpV cur y mo pe ca cl cc r ea el ec) 84)
  have HX := Lib.hid hx
  have HT := Lib.hid hT
  have HGB := Lib.hid hgb
  have HB1 := Lib.hid hB1
  have HCV := Lib.hid fun W => calValid53 W y mo pe h1 h2 h3 h4 (by omega) (by omega) h7
  have HVA := Lib.hid fun W (hB : Below w.heap.size w W) => valid53 W a len cap xs (hx.below hB hT) (fun b hb => Nat.lt_of_lt_of_le (hT b hb) hB.size) hlen hns
  have HLEN := Lib.hid hlen
  have HNS := Lib.hid hns
  have HL := Lib.hid (show xs.length = len from hx.sl_flat.1)
  have hmm := fun w => @run_makeMap Try.prog w
  have g1 := blk_cell hgb 1
  have g2 := blk_cell hgb 2
  have g3 := blk_cell hgb 3
  have g20 := blk_cell hgb 20
  unfold grpV at g1 g2 g3 g20 HGB HB1 ⊢
  simp at g1 g2 g3 g20
  clear hx hT hgb hB1 h1 h2 h3 h4 h5 h6 h7 hlen hns
  go_enter Try.func29, Try.ntmps29
  go_wp2_with fail
  generalize hw1 : w.alloc (.cells _ _) = w1 at HGB HB1 g1 g2 g3 g20 ⊢
  clear hw1
  refine (HCV.out _).mono ?_
  rintro e w2 ⟨rfl, hB2⟩
  have HB2 := Lib.hid (below_step HB1.out hB2)
  have HGB2 := Lib.hid ((hB2.block _ (blk_lt HGB.out)).trans HGB.out)
  clear hB2 g1 g2 g3 g20 HCV HGB
  by_cases e1 : (el : Int) < 1
  · have HH := Lib.hid (show ¬ 1 ≤ el by omega)
    go_wp2_with fail
    refine bodyPost_ret (results_tmp2 rfl _ _ _) rfl ?_
    exact .inl ⟨fun h => HH.out h.1, rfl, HB2.out⟩
  by_cases e2 : (12 : Int) < (el : Int)
  · have HH := Lib.hid (show ¬ el ≤ 12 by omega)
    go_wp2_with fail
    refine bodyPost_ret (results_tmp2 rfl _ _ _) rfl ?_
    exact .inl ⟨fun h => HH.out h.2.1, rfl, HB2.out⟩
  have HEL := Lib.hid (show 1 ≤ el ∧ el ≤ 12 by omega)
  go_wp2_with fail
  refine (HVA.out w2 HB2.out).mono ?_
  rintro e w3 ⟨bv, rfl, hB3, hbv⟩
  have HB3 := Lib.hid (below_step HB2.out hB3)
  have HGB3 := Lib.hid ((hB3.block _ (blk_lt HGB2.out)).trans HGB2.out)
  have HBV := Lib.hid hbv
  clear hB3 hbv HVA HGB2
  cases bv
  · go_wp2_with fail
    refine bodyPost_ret (results_tmp2 rfl _ _ _) rfl ?_
    exact .inl ⟨fun h => (by have := HBV.out.2 h.2.2; cases this), rfl, HB3.out⟩
  have HVT := Lib.hid (HBV.out.1 rfl)
  have z3 := blk_cell HGB3.out 3
  simp at z3
  have hsm : (w3.alloc (.map #[] 0)).heap.size = w3.heap.size + 1 := by simp
  have hBm := (Below.refl w3.heap.size w3).alloc (Nat.le_refl _) (.map #[] 0)
  have hM := MapG.made (Ks := keyK) (Es := strE) w3
  have hBp := (Below.refl (w3.alloc (.map #[] 0)).heap.size (w3.alloc (.map #[] 0))).alloc (Nat.le_refl _) (.cells #[.slice none 0 0, .int .i64 el, .int .i64 pe, .map (some w3.heap.size)] 93)
  have hp := heap_alloc_new (w3.alloc (.map #[] 0)) (.cells #[.slice none 0 0, .int .i64 el, .int .i64 pe, .map (some w3.heap.size)] 93)
  rw [hsm] at hp
  have HWB := Lib.hid (show WfB w3.heap.size _ (w3.heap.size + 1) w3.heap.size el pe [] (.slice none 0 0) (fun _ => False) from ⟨hp, Owns.nil _ _ _ _, (MapG.congr hM (fun _ _ => rfl)).below hBp, fun b hb => by simp [Value.ownBlock] at hb, fun _ h => h.elim, by omega, by omega, fun _ h => h.elim⟩)
  have HB4 := Lib.hid (below_step hBm hBp)
  clear hsm hBm hM hBp hp HBV HGB3
  go_wp2_with fail
  generalize hw4 : World.alloc (w3.alloc _) _ = w4 at HWB HB4 ⊢
  clear hw4
  generalize hp5 : w3.heap.size + 1 = p at HWB ⊢
  have HZ := Lib.hid (show w.heap.size ≤ w3.heap.size from HB3.out.size)
  clear hp5 e1 e2 z3
  generalize hm5 : w3.heap.size = m at HWB HB4 HZ ⊢
  have HM5 := Lib.hid hm5
  clear hm5
  go_loopw [39] (fun i wr => ∃ (k : Nat) (v : Value) (SS : Nat → Prop), k ≤ len ∧ i = .int .i64 k ∧ WfB m wr p m el pe (xs.take k) v SS ∧ Below m w3 wr) (fun i _ => len - (intOf i).toNat)
  case atStart => exact ⟨0, _, _, Nat.zero_le _, rfl, HWB.out, HB4.out⟩
  case round =>
    obtain ⟨k, v, SS, hk, rfl, hW, hB⟩ := hrel
    obtain ⟨va, vl, vc, rfl, -⟩ := hW.own.slice
    have HW := Lib.hid hW
    have HB := Lib.hid hB
    have HBw := Lib.hid (show Below w.heap.size w wr from HB3.out.trans (hB.mono HZ.out))
    clear hB
    by_cases hlt : k < len
    · have hkI : (k : Int) < (len : Int) := by omega
      have hkx : k < xs.length := by rw [HL.out]; exact hlt
      obtain ⟨b, o, na, nl, nc, rfl, -, m0, m1, m2, m3, hnd, hnm⟩ := task_at (HX.out.below HBw.out HT.out) k hkx
      have hsucc : xs.take (k + 1) = xs.take k ++ [Tk.d (tk xs[k])] := by rw [d_tk]; exact List.take_succ_eq_append_getElem hkx
      have hnn := HNS.out k hkx
      have hk1 : (xs.take k).length = k := by rw [List.length_take]; omega
      have HK1 := Lib.hid hk1
      have HSU := Lib.hid hsucc
      have HLT := Lib.hid hlt
      generalize tk xs[k] = t at m0 m2 m3 hnd hnm hnn HSU
      obtain ⟨tnm, tnd, tg, ta⟩ := t
      simp only at m0 m2 m3 hnd hnm hnn
      have HNM := Lib.hid hnm
      have hnl : tnd.length = nl := hnd.sl_flat.1
      have HCL := Lib.hid fun W (hB : Below wr.heap.size wr W) => cloneS53 W na nl nc tnd (hnd.below hB (fun b hb => Nat.lt_of_lt_of_le (HT.out b hb) HBw.out.size)) (fun b hb => Nat.lt_of_lt_of_le (HT.out b hb) (Nat.le_trans HBw.out.size hB.size)) (by omega)
      have hrz := heap_alloc_new wr (.cells #[.string ⟨#[]⟩, .slice none 0 0, .bool false, .bool false] 38)
      have hBz := (Below.refl wr.heap.size wr).alloc (Nat.le_refl _) (.cells #[.string ⟨#[]⟩, .slice none 0 0, .bool false, .bool false] 38)
      have HRZ := Lib.hid hrz
      have hrow := setRow_heap _ _ _ #[.string tnm, .slice na nl nc, .bool tg, .bool ta] _ _ hrz
      have hBs := below_setRow (n := wr.heap.size) hBz (Nat.le_refl _) #[.string tnm, .slice na nl nc, .bool tg, .bool ta]
      have x1 := blk_cell hrow 1
      simp at x1
      have HROW := Lib.hid hrow
      have HBS := Lib.hid hBs
      clear hrz hBz hrow hBs hkx hlt hnd hnm hnl hnn hsucc hk1
      go_wp2_with (refine wpList_store_row rfl _ _ _ rfl (wr.heap.size) #[.string tnm, .slice na nl nc, .bool tg, .bool ta] rfl rfl 38 _ HRZ.out (by kernel_rfl) (by rfl) (by simp [Value.oneCell']) ?_)
      have hrow := HROW.out
      have hBs := HBS.out
      generalize hw5 : World.setRow (wr.alloc _) _ _ = w5 at hrow hBs x1 ⊢
      clear hw5 HROW HBS m0 m1 m2 m3 x1
      have HROW := Lib.hid hrow
      have HBS := Lib.hid hBs
      generalize htb : wr.heap.size = tb at hrow HROW ⊢
      have HTB := Lib.hid htb
      refine (HCL.out w5 hBs).mono ?_
      rintro e w6 ⟨cv, rfl, hO6, hB6⟩
      obtain ⟨da, dl, dc, rfl, -⟩ := hO6.slice
      have hr6 := (hB6.block _ (blk_lt hrow)).trans hrow
      have q8 := blk_cell hr6 1
      have f8 := blk_frozen hr6 1
      simp at q8
      have hset := blk_set (i := 1) hr6 (.slice da dl dc)
      simp at hset
      have hg6 : Gr (fun b => b = tb) w6 (w6.setCell ⟨tb, 1, none⟩ (.slice da dl dc)) := (Gr.refl (fun b => b = tb) w6).setCell (.inl rfl) _
      have HO6 := Lib.hid hO6
      have HB6 := Lib.hid (below_step hBs hB6)
      have HSET := Lib.hid hset
      have HG6 := Lib.hid hg6
      clear hO6 hB6 hr6 hset hg6 hrow hBs htb HCL
      go_wp2_with fail
      have hB7 : Below wr.heap.size wr (w6.setCell ⟨tb, 1, none⟩ (.slice da dl dc)) := HB6.out.trans (HG6.out.below (fun b e => by rw [e, HTB.out]; exact Nat.le_refl _) HB6.out.size)
      have htb5 : tb < w5.heap.size := blk_lt HROW.out
      have hO7 := HO6.out.gr HG6.out (fun _ h => h.elim) (fun b hb e => by have := (HO6.out.own b hb).1; omega)
      have HSET7 := Lib.hid HSET.out
      have HB7 := Lib.hid hB7
      have HO7 := Lib.hid hO7
      have HTB5 := Lib.hid htb5
      clear q8 f8 hB7 hO7 htb5 HSET HG6 HB6 HO6 HROW HBS
      generalize w6.setCell ⟨tb, 1, none⟩ (.slice da dl dc) = w7 at HSET7 HB7 HO7 ⊢
      have HW7 := Lib.hid (HW.out.below HB7.out)
      have HM7 := Lib.hid (show Below m w3 w7 from HB.out.trans (HB7.out.mono (HM5.out ▸ HB.out.size)))
      have HC0 : Cells [(⟨p, 0, none⟩, .slice va vl vc), (⟨tb, 0, none⟩, .string tnm), (⟨tb, 1, none⟩, .slice da dl dc), (⟨tb, 2, none⟩, .bool tg), (⟨tb, 3, none⟩, .bool ta)] w7 := ⟨blk_cell HW7.out.row 0, blk_cell HSET7.out 0, blk_cell HSET7.out 1, blk_cell HSET7.out 2, blk_cell HSET7.out 3, trivial⟩
      refine wp_region_T (Cells [(⟨p, 0, none⟩, .slice va vl vc), (⟨tb, 0, none⟩, .string tnm), (⟨tb, 1, none⟩, .slice da dl dc), (⟨tb, 2, none⟩, .bool tg), (⟨tb, 3, none⟩, .bool ta)]) (fun i => i == 7 || i == 10) (by kernel_rfl) ?_
      have hSss1 := Cells.drew HC0
      have hB_0_s1 : Below w7.heap.size w7 w7.drew := below_drew _
      generalize w7.drew = s1 at hSss1 hB_0_s1 ⊢
      have hB_s1_s1 := Below.refl s1.heap.size s1
      refine wpAnyT_pure (i := 0) (v := ?_) rfl (by kernel_rfl) (by kernel_rfl) (by kernel_rfl) (fun _ _ _ h => h) (by rfl) ?_ ?_
      rotate_left
      · intro w; go_simp; try with_reducible rfl
      simp only [Act.put, List.setIfInBounds_toArray, List.set_cons_zero, List.set_cons_succ, List.getElem_toArray, List.getElem_cons_succ, List.getElem_cons_zero]
      refine wpAnyT_pure (i := 1) (v := ?_) rfl (by kernel_rfl) (by kernel_rfl) (by kernel_rfl) (fun _ _ _ h => h) (by rfl) ?_ ?_
      rotate_left
      · intro w; go_simp; try with_reducible rfl
      simp only [Act.put, List.setIfInBounds_toArray, List.set_cons_zero, List.set_cons_succ, List.getElem_toArray, List.getElem_cons_succ, List.getElem_cons_zero]
      refine wpAnyT_pure (i := 2) (v := ?_) rfl (by kernel_rfl) (by kernel_rfl) (by kernel_rfl) (fun _ _ _ h => h) (by rfl) ?_ ?_
      rotate_left
      · intro w; go_simp; try with_reducible rfl
      simp only [Act.put, List.setIfInBounds_toArray, List.set_cons_zero, List.set_cons_succ, List.getElem_toArray, List.getElem_cons_succ, List.getElem_cons_zero]
      refine wpAnyT_pure (i := 3) (v := ?_) rfl (by kernel_rfl) (by kernel_rfl) (by kernel_rfl) (fun _ _ _ h => h) (by rfl) ?_ ?_
      rotate_left
      · intro w; go_simp; try with_reducible rfl
      simp only [Act.put, List.setIfInBounds_toArray, List.set_cons_zero, List.set_cons_succ, List.getElem_toArray, List.getElem_cons_succ, List.getElem_cons_zero]
      refine wpAnyT_loadW (i := 4) (v := ?_) rfl (by kernel_rfl) (by kernel_rfl) (by kernel_rfl) (by kernel_rfl) (by kernel_rfl) (fun _ _ _ h => h) (Or.inl ⟨by rfl, ?_⟩) hSss1 ?_
      rotate_left
      · intro w hSw; obtain ⟨e0, e1, e2, e3, e4, -⟩ := hSw; go_simp; try with_reducible rfl
      simp only [Act.put, List.setIfInBounds_toArray, List.set_cons_zero, List.set_cons_succ, List.getElem_toArray, List.getElem_cons_succ, List.getElem_cons_zero]
      refine wpAnyT_loadW (i := 5) (v := ?_) rfl (by kernel_rfl) (by kernel_rfl) (by kernel_rfl) (by kernel_rfl) (by kernel_rfl) (fun _ _ _ h => h) (Or.inl ⟨by rfl, ?_⟩) hSss1 ?_
      rotate_left
      · intro w hSw; obtain ⟨e0, e1, e2, e3, e4, -⟩ := hSw; go_simp; try with_reducible rfl
      simp only [Act.put, List.setIfInBounds_toArray, List.set_cons_zero, List.set_cons_succ, List.getElem_toArray, List.getElem_cons_succ, List.getElem_cons_zero]
      refine wpAnyT_one (i := 6) (by kernel_rfl) rfl (by rfl) ?_
      obtain ⟨b20, hb20⟩ : ∃ b, (s1).heap.size = b := ⟨_, rfl⟩
      refine wp_newrow (v := .slice (some ⟨b20, 0, none⟩) 1 1) (cs := #[.string tnm, .slice da dl dc, .bool tg, .bool ta]) (te := 38) (by rw [← hb20]; go_simp) ?_
      intro w102 hX hN20
      rw [hb20] at hN20
      have hB_s1_w102 := below_step hB_s1_s1 hX
      have hB_w102_w102 := Below.refl w102.heap.size w102
      have hSsw102 := Cells.below hB_s1_w102 hSss1
      clear hX
      refine ⟨fun _ _ => hSsw102, ?_⟩
      try simp only [Act.put, List.setIfInBounds_toArray, List.set_cons_zero, List.set_cons_succ, List.getElem_toArray, List.getElem_cons_succ, List.getElem_cons_zero]
      refine wpAnyT_one (i := 7) (by kernel_rfl) rfl (by rfl) ?_
      have hq20 := ((hB_w102_w102).block _ (blk_lt hN20)).trans hN20
      have hbP : Below w7.heap.size w7 w102 := hB_0_s1.trans ((hB_s1_w102).mono (hB_0_s1).size)
      have hPP0 := HW7.out.below hbP
      have hOP := HO7.out.below hbP
      have hPP := hPP0.wider (SS' := fun b => SS b ∨ (Value.slice da dl dc).ownBlock = some b) (fun _ h => .inl h) (fun b hb => hb.elim .inl (fun e => .inr (by
        have h1 := hOP.own b e
        have h2 := HTB5.out
        have h3 := HTB.out
        have h4 := blk_lt HW.out.row
        have h5 := HW.out.mp.lt
        exact ⟨h1.2, by omega, by omega, fun e' => by have := (HW.out.own.own b e').2; omega, by omega⟩)))
      have HPP := Lib.hid hPP
      have HNP := Lib.hid (show m ≤ (w102).heap.size from Nat.le_trans (HM5.out ▸ HM7.out.size) hbP.size)
      have HMP := Lib.hid (HM7.out.trans (hbP.mono (HM5.out ▸ HM7.out.size)))
      refine wp_app (.tmp 51) (.tmp 53) 33 rfl (e := taskT) (te := 38) info_task Try.underlying33 rfl (by decide) (base := m) (S := fun b => SS b ∨ (Value.slice da dl dc).ownBlock = some b) (v := .slice va vl vc) (xs := xs.take k) (by kernel_rfl) HPP.out.own HNP.out (sv := .slice (some ⟨b20, 0, none⟩) 1 1) (by kernel_rfl) (ys := [Tk.d ⟨tnm, tnd, tg, ta⟩]) (Src.of_cells (news := [.string tnm, .slice da dl dc, .bool tg, .bool ta]) (fun j u hu => by rw [Nat.zero_add, blk_cell hq20]; simpa using hu)) (RdL.one (e := taskT) (task_rd (t := ⟨tnm, tnd, tg, ta⟩) HNM.out (hOP.rd _ (fun _ h => h.elim) (fun b hb => .inr hb)))) (by have h1 := HK1.out; have h2 := HLT.out; have h3 := HLEN.out; rw [h1]; simp only [List.length_singleton]; omega) (by have h1 := HK1.out; have h2 := HLT.out; have h3 := HLEN.out; rw [h1]; simp only [List.length_singleton]; omega) ?_
      intro ca9 cl9 cc9 w103 O8 g8 ob8
      have hput := HPP.out.put g8 O8 ob8
      have hvs := fun e => (HPP.out.hv p e).1 rfl
      have hr8 := blk_gr (Gr.of_grown g8) HPP.out.row hvs
      have f8 := blk_frozen hr8 0
      have q8 := blk_cell hr8 0
      simp at q8
      clear O8 g8 ob8 hvs hr8 hbP hq20 hPP0 hOP hPP
      refine ⟨fun h => absurd h (by decide), ?_⟩
      try simp only [Act.put, List.setIfInBounds_toArray, List.set_cons_zero, List.set_cons_succ, List.getElem_toArray, List.getElem_cons_succ, List.getElem_cons_zero]
      refine wpAnyT_pure (i := 8) (v := ?_) rfl (by kernel_rfl) (by kernel_rfl) (by kernel_rfl) (fun _ _ _ h => h) (by rfl) ?_ ?_
      rotate_left
      · intro w; go_simp; try with_reducible rfl
      simp only [Act.put, List.setIfInBounds_toArray, List.set_cons_zero, List.set_cons_succ, List.getElem_toArray, List.getElem_cons_succ, List.getElem_cons_zero]
      refine wpAnyT_pure (i := 9) (v := ?_) rfl (by kernel_rfl) (by kernel_rfl) (by kernel_rfl) (fun _ _ _ h => h) (by rfl) ?_ ?_
      rotate_left
      · intro w; go_simp; try with_reducible rfl
      simp only [Act.put, List.setIfInBounds_toArray, List.set_cons_zero, List.set_cons_succ, List.getElem_toArray, List.getElem_cons_succ, List.getElem_cons_zero]
      refine wpAnyT_one (i := 10) (by kernel_rfl) rfl (by rfl) ?_
      refine wp_store1 (w' := (w103).setCell ⟨p, 0, none⟩ (.slice ca9 cl9 cc9)) 33 (.tmp 56) (.tmp 54) rfl ⟨p, 0, none⟩ (.slice ca9 cl9 cc9) (by kernel_rfl) (by kernel_rfl) (by go_simp) ?_
      clear f8 q8
      generalize (w103).setCell ⟨p, 0, none⟩ (.slice ca9 cl9 cc9) = w104 at hput ⊢
      refine ⟨fun h => absurd h (by decide), ?_⟩
      try simp only [Act.put, List.setIfInBounds_toArray, List.set_cons_zero, List.set_cons_succ, List.getElem_toArray, List.getElem_cons_succ, List.getElem_cons_zero]
      refine wpAnyT_done (by kernel_rfl) ?_ _
      obtain ⟨w9, rfl⟩ : ∃ x, x = w104 := ⟨_, rfl⟩
      obtain ⟨hP9, hG9⟩ := hput
      have HP9 := Lib.hid hP9
      have HM9 := Lib.hid (HMP.out.trans (HPP.out.below0 hG9 HNP.out))
      clear hP9 hG9 HPP HNP HMP
      have hl1 := HLT.out
      have hl2 := HLEN.out
      go_wp2_with fail
      go_roundw
      case rel => exact ⟨k + 1, _, _, HLT.out, by go_num, by rw [HSU.out]; exact HP9.out, HM9.out⟩
      case measure => have h1 := HLT.out; have h2 := HLEN.out; simp [intOf]; try omega
    · obtain rfl : len = k := by omega
      have hall : xs.take len = xs := List.take_of_length_le (by rw [HL.out]; exact Nat.le_refl _)
      rw [hall] at HW
      clear hW hlt hall
      go_wp2_with fail
      refine bodyPost_ret (results_tmp2 rfl _ _ _) rfl ?_
      exact .inr ⟨⟨HEL.out.1, HEL.out.2, HVT.out⟩, _, p, m, rfl, HBw.out, by rw [← HM5.out]; exact HB3.out.size, HW.out.done, Nat.le_trans (by rw [← HM5.out]; exact HB3.out.size) HW.out.h0, fun b hb => Nat.le_trans (show w.heap.size ≤ m by rw [← HM5.out]; exact HB3.out.size) (hb.elim (HW.out.hl b) (fun h => (HW.out.own.own b h).1))⟩
end Go.Proofs.Ytdcjocldggmdbaa
