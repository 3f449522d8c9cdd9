/- Layer 16: the law's same. -/
import Derived.Test.YtmlekhkgokgpbaaC16x
set_option linter.unusedSimpArgs false
namespace Go.Proofs.Ytmlekhkgokgpbaa
open Go.RowKit Go

set_option maxRecDepth 20000 in
set_option maxHeartbeats 1000000 in
theorem same16_sum (F S : Nat → Prop) (w : World) (p : Nat) (g : ByteArray) (t : Tb) (ys : List K3) (hok : TbOk t ys) (h : TabT F w p g t) (hm : t.m ≤ 100000) (hh : t.hs.length ≤ 100000) (v : Value) (hv : RefT S w v g t.hs (rowsOf t.f ys)) :
    Calls Try.prog 17 #[.pointer (some ⟨p, 0, none⟩), v] w fun e w' => e = .returned (.bool true) ∧ Below w.heap.size w w' := by
  obtain ⟨hS, ha, hl, hc, la, ll, lc, rfl, h1, h2⟩ := hv
  have HS := Lib.hid hS
  have HT := Lib.hid h
  have HL := Lib.hid (fun W (hB : Below w.heap.size w W) => List_tb F W p g t ys hok (TabIn.below h hB) hm)
  have HH := Lib.hid (fun W (hB : Below w.heap.size w W) => History_sum F W p g t (TabIn.below h hB) hh)
  have hsl : ∀ zs, sameL zs zs = true := fun zs => decide_eq_true rfl
  have HSL := Lib.hid hsl
  have H1 := Lib.hid h1
  have H2 := Lib.hid h2
  have hn := heap_alloc_new w (.cells #[.string g, .slice ha hl hc, .slice la ll lc] 30)
  have hB1 : Below w.heap.size w (w.alloc (.cells #[.string g, .slice ha hl hc, .slice la ll lc] 30)) := (Below.refl _ w).alloc (Nat.le_refl _) _
  clear hok h hm hh hS h1 h2 hsl
  go_enter Try.func17, Try.ntmps17
  go_wp2_with fail
  generalize w.alloc (.cells #[.string g, .slice ha hl hc, .slice la ll lc] 30) = W1 at *
  have hC0 : Cells [(⟨w.heap.size, 1, none⟩, .slice ha hl hc), (⟨w.heap.size, 2, none⟩, .slice la ll lc)] W1 := ⟨blk_cell hn 1, blk_cell hn 2, trivial⟩
  refine wp_region_T (Cells [(⟨w.heap.size, 1, none⟩, .slice ha hl hc), (⟨w.heap.size, 2, none⟩, .slice la ll lc)]) (fun _ => false) (by kernel_rfl) ?_
  have hSss1 := Cells.drew hC0
  have hB_0_s1 : Below W1.heap.size W1 W1.drew := below_drew _
  generalize W1.drew = s1 at hSss1 hB_0_s1 ⊢
  have hB_s1_s1 := Below.refl s1.heap.size s1
  refine wpAnyT_pure (i := 0) (v := ?_) rfl (by kernel_rfl) (by kernel_rfl) (by kernel_rfl) (fun _ _ _ h => h) (by rfl) ?_ ?_
  rotate_left
  · intro w; go_simp; try with_reducible rfl
  simp only [Act.put, List.setIfInBounds_toArray, List.set_cons_zero, List.set_cons_succ, List.getElem_toArray, List.getElem_cons_succ, List.getElem_cons_zero]
  refine wpAnyT_pure (i := 2) (v := ?_) rfl (by kernel_rfl) (by kernel_rfl) (by kernel_rfl) (fun _ _ _ h => h) (by rfl) ?_ ?_
  rotate_left
  · intro w; go_simp; try with_reducible rfl
  simp only [Act.put, List.setIfInBounds_toArray, List.set_cons_zero, List.set_cons_succ, List.getElem_toArray, List.getElem_cons_succ, List.getElem_cons_zero]
  refine wpAnyT_loadW (i := 3) (v := ?_) rfl (by kernel_rfl) (by kernel_rfl) (by kernel_rfl) (by kernel_rfl) (by kernel_rfl) (fun _ _ _ h => h) (Or.inl ⟨by rfl, ?_⟩) hSss1 ?_
  rotate_left
  · intro w hSw; obtain ⟨e0, e1, -⟩ := hSw; go_simp; try with_reducible rfl
  simp only [Act.put, List.setIfInBounds_toArray, List.set_cons_zero, List.set_cons_succ, List.getElem_toArray, List.getElem_cons_succ, List.getElem_cons_zero]
  refine wpAnyT_one (i := 1) (by kernel_rfl) rfl (by rfl) ?_
  refine wp_enter (f := 22) (args := #[.pointer (some ⟨p, 0, none⟩)]) (by go_simp) (HL.out _ (below_step hB1 (below_step hB_0_s1 hB_s1_s1))) ?_
  rintro e w102 ⟨v1, rfl, O1, hX⟩
  obtain ⟨a1, l1, c1, rfl, -⟩ := O1.slice
  have HO1 := Lib.hid O1
  clear O1
  have hB_s1_w102 := below_step hB_s1_s1 hX
  have hB_w102_w102 := Below.refl w102.heap.size w102
  have hSsw102 := Cells.below hB_s1_w102 hSss1
  clear hX
  refine ⟨_, rfl, fun _ _ => hSsw102, ?_⟩
  try simp only [Act.put, List.setIfInBounds_toArray, List.set_cons_zero, List.set_cons_succ, List.getElem_toArray, List.getElem_cons_succ, List.getElem_cons_zero]
  refine wpAnyT_one (i := 4) (by kernel_rfl) rfl (by rfl) ?_
  refine wp_enter (f := 21) (args := #[.slice a1 l1 c1, .slice la ll lc]) (by go_simp) (Same16_sum _ a1 la l1 c1 ll lc _ _ (rdOwn (HO1.out.below hB_w102_w102)) (H2.out.below (below_step hB1 (below_step hB_0_s1 hB_s1_w102)) HS.out) (fun _ h => h) (fun b hb => Nat.lt_of_lt_of_le (HS.out b hb) (below_step hB1 (below_step hB_0_s1 hB_s1_w102)).size)) ?_
  rw [HSL.out]
  rintro e w103 ⟨rfl, hX⟩
  have hB_s1_w103 := below_step hB_s1_w102 hX
  have hB_w102_w103 := below_step hB_w102_w102 hX
  have hB_w103_w103 := Below.refl w103.heap.size w103
  have hSsw103 := Cells.below hB_s1_w103 hSss1
  clear hX
  refine ⟨_, rfl, fun _ _ => hSsw103, ?_⟩
  try simp only [Act.put, List.setIfInBounds_toArray, List.set_cons_zero, List.set_cons_succ, List.getElem_toArray, List.getElem_cons_succ, List.getElem_cons_zero]
  refine wpAnyT_pure (i := 5) (v := ?_) rfl (by kernel_rfl) (by kernel_rfl) (by kernel_rfl) (fun _ _ _ h => h) (by rfl) ?_ ?_
  rotate_left
  · intro w; go_simp; try with_reducible rfl
  simp only [Act.put, List.setIfInBounds_toArray, List.set_cons_zero, List.set_cons_succ, List.getElem_toArray, List.getElem_cons_succ, List.getElem_cons_zero]
  refine wpAnyT_pure (i := 6) (v := ?_) rfl (by kernel_rfl) (by kernel_rfl) (by kernel_rfl) (fun _ _ _ h => h) (by rfl) ?_ ?_
  rotate_left
  · intro w; go_simp; try with_reducible rfl
  simp only [Act.put, List.setIfInBounds_toArray, List.set_cons_zero, List.set_cons_succ, List.getElem_toArray, List.getElem_cons_succ, List.getElem_cons_zero]
  refine wpAnyT_pure (i := 8) (v := ?_) rfl (by kernel_rfl) (by kernel_rfl) (by kernel_rfl) (fun _ _ _ h => h) (by rfl) ?_ ?_
  rotate_left
  · intro w; go_simp; try with_reducible rfl
  simp only [Act.put, List.setIfInBounds_toArray, List.set_cons_zero, List.set_cons_succ, List.getElem_toArray, List.getElem_cons_succ, List.getElem_cons_zero]
  refine wpAnyT_loadW (i := 9) (v := ?_) rfl (by kernel_rfl) (by kernel_rfl) (by kernel_rfl) (by kernel_rfl) (by kernel_rfl) (fun _ _ _ h => h) (Or.inl ⟨by rfl, ?_⟩) hSsw103 ?_
  rotate_left
  · intro w hSw; obtain ⟨e0, e1, -⟩ := hSw; go_simp; try with_reducible rfl
  simp only [Act.put, List.setIfInBounds_toArray, List.set_cons_zero, List.set_cons_succ, List.getElem_toArray, List.getElem_cons_succ, List.getElem_cons_zero]
  refine wpAnyT_one (i := 7) (by kernel_rfl) rfl (by rfl) ?_
  refine wp_enter (f := 23) (args := #[.pointer (some ⟨p, 0, none⟩)]) (by go_simp) (HH.out _ (below_step hB1 (below_step hB_0_s1 hB_s1_w103))) ?_
  rintro e w104 ⟨v2, rfl, hX, O2⟩
  obtain ⟨a2, l2, c2, rfl, -⟩ := O2.slice
  have HO2 := Lib.hid O2
  clear O2
  have hB_s1_w104 := below_step hB_s1_w103 hX
  have hB_w102_w104 := below_step hB_w102_w103 hX
  have hB_w103_w104 := below_step hB_w103_w103 hX
  have hB_w104_w104 := Below.refl w104.heap.size w104
  have hSsw104 := Cells.below hB_s1_w104 hSss1
  clear hX
  refine ⟨_, rfl, fun _ _ => hSsw104, ?_⟩
  try simp only [Act.put, List.setIfInBounds_toArray, List.set_cons_zero, List.set_cons_succ, List.getElem_toArray, List.getElem_cons_succ, List.getElem_cons_zero]
  refine wpAnyT_one (i := 10) (by kernel_rfl) rfl (by rfl) ?_
  refine wp_enter (f := 21) (args := #[.slice a2 l2 c2, .slice ha hl hc]) (by go_simp) (Same16_sum _ a2 ha l2 c2 hl hc _ _ (rdOwn (HO2.out.below hB_w104_w104)) (H1.out.below (below_step hB1 (below_step hB_0_s1 hB_s1_w104)) HS.out) (fun _ h => h) (fun b hb => Nat.lt_of_lt_of_le (HS.out b hb) (below_step hB1 (below_step hB_0_s1 hB_s1_w104)).size)) ?_
  rw [HSL.out]
  rintro e w105 ⟨rfl, hX⟩
  have hB_s1_w105 := below_step hB_s1_w104 hX
  have hB_w102_w105 := below_step hB_w102_w104 hX
  have hB_w103_w105 := below_step hB_w103_w104 hX
  have hB_w104_w105 := below_step hB_w104_w104 hX
  have hB_w105_w105 := Below.refl w105.heap.size w105
  have hSsw105 := Cells.below hB_s1_w105 hSss1
  clear hX
  refine ⟨_, rfl, fun _ _ => hSsw105, ?_⟩
  try simp only [Act.put, List.setIfInBounds_toArray, List.set_cons_zero, List.set_cons_succ, List.getElem_toArray, List.getElem_cons_succ, List.getElem_cons_zero]
  refine wpAnyT_pure (i := 11) (v := ?_) rfl (by kernel_rfl) (by kernel_rfl) (by kernel_rfl) (fun _ _ _ h => h) (by rfl) ?_ ?_
  rotate_left
  · intro w; go_simp; try with_reducible rfl
  simp only [Act.put, List.setIfInBounds_toArray, List.set_cons_zero, List.set_cons_succ, List.getElem_toArray, List.getElem_cons_succ, List.getElem_cons_zero]
  refine wpAnyT_pure (i := 12) (v := ?_) rfl (by kernel_rfl) (by kernel_rfl) (by kernel_rfl) (fun _ _ _ h => h) (by rfl) ?_ ?_
  rotate_left
  · intro w; go_simp; try with_reducible rfl
  simp only [Act.put, List.setIfInBounds_toArray, List.set_cons_zero, List.set_cons_succ, List.getElem_toArray, List.getElem_cons_succ, List.getElem_cons_zero]
  refine wpAnyT_done (by kernel_rfl) ?_ _
  go_wp2_with fail
  go_ret
  exact ⟨rfl, below_step hB1 (below_step hB_0_s1 hB_s1_w105)⟩
end Go.Proofs.Ytmlekhkgokgpbaa
