/- Layer 16: the order of keys, as the sort calls it. -/
import Derived.Test.YtmlekhkgokgpbaaC16l
import Derived.Sort.Grow
set_option linter.unusedSimpArgs false
namespace Go.Proofs.Ytmlekhkgokgpbaa
open Go.RowKit Go

def befI (x y : K3) : Int := orI (cmpS x.cur y.cur) (cmpI x.kind y.kind) (cmpI x.when_ y.when_)
set_option maxRecDepth 20000 in
set_option maxHeartbeats 2000000 in
theorem keyBefore_sum (W : World) (x y : K3) : Calls Try.prog 39 #[x.v, y.v] W fun e w' => e = .returned (.int .i64 (befI x y)) ∧ ∃ q os, w' = Sort.grow (W.drewN q) os := by
  obtain ⟨c, k, u⟩ := x
  obtain ⟨d, m, v⟩ := y
  unfold K3.v befI
  simp only
  have hA := heap_alloc_new W (.cells #[.string c, .int .i64 k, .int .i64 u] 58)
  have hB := heap_alloc2_new W (.cells #[.string c, .int .i64 k, .int .i64 u] 58) (.cells #[.string d, .int .i64 m, .int .i64 v] 58)
  have hA2 := (heap_alloc_old (W.alloc (.cells #[.string c, .int .i64 k, .int .i64 u] 58)) (.cells #[.string d, .int .i64 m, .int .i64 v] 58) (by simp)).trans hA
  have hgr : (W.alloc (.cells #[.string c, .int .i64 k, .int .i64 u] 58)).alloc (.cells #[.string d, .int .i64 m, .int .i64 v] 58) = Sort.grow W #[.cells #[.string c, .int .i64 k, .int .i64 u] 58, .cells #[.string d, .int .i64 m, .int .i64 v] 58] := by
    rw [Sort.alloc_eq_grow, Sort.alloc_eq_grow, Sort.grow_grow]; rfl
  have HGR := Lib.hid hgr
  have c0 := fun w => compareS_sum w c d
  have c1 := fun w => compareI_sum w k m
  have c2 := fun w => compareI_sum w u v
  generalize cmpS c d = r0 at *
  generalize cmpI k m = r1 at *
  generalize cmpI u v = r2 at *
  have HC0 := Lib.hid c0
  have HC1 := Lib.hid c1
  have HC2 := Lib.hid c2
  clear hA hgr c0 c1 c2
  go_enter Try.func39, Try.ntmps39
  go_wp2_with fail
  generalize (W.alloc (.cells #[.string c, .int .i64 k, .int .i64 u] 58)).alloc (.cells #[.string d, .int .i64 m, .int .i64 v] 58) = W2 at *
  have m0 : W2.drew.cell? ⟨W.heap.size, 0, none⟩ = some (.string c) := blk_cell hA2 0
  have m1 : W2.drew.cell? ⟨W.heap.size, 1, none⟩ = some (.int .i64 k) := blk_cell hA2 1
  have m2 : W2.drew.cell? ⟨W.heap.size, 2, none⟩ = some (.int .i64 u) := blk_cell hA2 2
  have n0 : W2.drew.cell? ⟨W.heap.size + 1, 0, none⟩ = some (.string d) := blk_cell hB 0
  have n1 : W2.drew.cell? ⟨W.heap.size + 1, 1, none⟩ = some (.int .i64 m) := blk_cell hB 1
  have n2 : W2.drew.cell? ⟨W.heap.size + 1, 2, none⟩ = some (.int .i64 v) := blk_cell hB 2
  clear hA2 hB
  refine wp_region_T (fun w' => (w'.cell? ⟨W.heap.size, 0, none⟩ = some (.string c) ∧ w'.cell? ⟨W.heap.size, 1, none⟩ = some (.int .i64 k) ∧ w'.cell? ⟨W.heap.size, 2, none⟩ = some (.int .i64 u)) ∧ w'.cell? ⟨W.heap.size + 1, 0, none⟩ = some (.string d) ∧ w'.cell? ⟨W.heap.size + 1, 1, none⟩ = some (.int .i64 m) ∧ w'.cell? ⟨W.heap.size + 1, 2, none⟩ = some (.int .i64 v)) (fun i => i == 15 || i == 16) (by kernel_rfl) ?_
  have hS0 := And.intro (And.intro m0 (And.intro m1 m2)) (And.intro n0 (And.intro n1 n2))
  refine wpAnyT_pure (i := 0) (v := ?_) rfl (by kernel_rfl) (by kernel_rfl) (by kernel_rfl) (fun _ _ _ h => h) (by rfl) ?_ ?_
  rotate_left
  · intro w; go_simp; try with_reducible rfl
  simp only [Act.put, List.setIfInBounds_toArray, List.set_cons_zero, List.set_cons_succ, List.getElem_toArray, List.getElem_cons_succ, List.getElem_cons_zero]
  refine wpAnyT_pure (i := 2) (v := ?_) rfl (by kernel_rfl) (by kernel_rfl) (by kernel_rfl) (fun _ _ _ h => h) (by rfl) ?_ ?_
  rotate_left
  · intro w; go_simp; try with_reducible rfl
  simp only [Act.put, List.setIfInBounds_toArray, List.set_cons_zero, List.set_cons_succ, List.getElem_toArray, List.getElem_cons_succ, List.getElem_cons_zero]
  refine wpAnyT_pure (i := 5) (v := ?_) rfl (by kernel_rfl) (by kernel_rfl) (by kernel_rfl) (fun _ _ _ h => h) (by rfl) ?_ ?_
  rotate_left
  · intro w; go_simp; try with_reducible rfl
  simp only [Act.put, List.setIfInBounds_toArray, List.set_cons_zero, List.set_cons_succ, List.getElem_toArray, List.getElem_cons_succ, List.getElem_cons_zero]
  refine wpAnyT_pure (i := 7) (v := ?_) rfl (by kernel_rfl) (by kernel_rfl) (by kernel_rfl) (fun _ _ _ h => h) (by rfl) ?_ ?_
  rotate_left
  · intro w; go_simp; try with_reducible rfl
  simp only [Act.put, List.setIfInBounds_toArray, List.set_cons_zero, List.set_cons_succ, List.getElem_toArray, List.getElem_cons_succ, List.getElem_cons_zero]
  refine wpAnyT_pure (i := 10) (v := ?_) rfl (by kernel_rfl) (by kernel_rfl) (by kernel_rfl) (fun _ _ _ h => h) (by rfl) ?_ ?_
  rotate_left
  · intro w; go_simp; try with_reducible rfl
  simp only [Act.put, List.setIfInBounds_toArray, List.set_cons_zero, List.set_cons_succ, List.getElem_toArray, List.getElem_cons_succ, List.getElem_cons_zero]
  refine wpAnyT_pure (i := 12) (v := ?_) rfl (by kernel_rfl) (by kernel_rfl) (by kernel_rfl) (fun _ _ _ h => h) (by rfl) ?_ ?_
  rotate_left
  · intro w; go_simp; try with_reducible rfl
  simp only [Act.put, List.setIfInBounds_toArray, List.set_cons_zero, List.set_cons_succ, List.getElem_toArray, List.getElem_cons_succ, List.getElem_cons_zero]
  refine wpAnyT_loadW (i := 1) (v := ?_) rfl (by kernel_rfl) (by kernel_rfl) (by kernel_rfl) (by kernel_rfl) (by kernel_rfl) (fun _ _ _ h => h) (Or.inl ⟨by rfl, ?_⟩) hS0 ?_
  rotate_left
  · intro w hSw; obtain ⟨⟨e0, e1, e2⟩, f0, f1, f2⟩ := hSw; go_simp; try with_reducible rfl
  simp only [Act.put, List.setIfInBounds_toArray, List.set_cons_zero, List.set_cons_succ, List.getElem_toArray, List.getElem_cons_succ, List.getElem_cons_zero]
  refine wpAnyT_loadW (i := 3) (v := ?_) rfl (by kernel_rfl) (by kernel_rfl) (by kernel_rfl) (by kernel_rfl) (by kernel_rfl) (fun _ _ _ h => h) (Or.inl ⟨by rfl, ?_⟩) hS0 ?_
  rotate_left
  · intro w hSw; obtain ⟨⟨e0, e1, e2⟩, f0, f1, f2⟩ := hSw; go_simp; try with_reducible rfl
  simp only [Act.put, List.setIfInBounds_toArray, List.set_cons_zero, List.set_cons_succ, List.getElem_toArray, List.getElem_cons_succ, List.getElem_cons_zero]
  refine wpAnyT_loadW (i := 6) (v := ?_) rfl (by kernel_rfl) (by kernel_rfl) (by kernel_rfl) (by kernel_rfl) (by kernel_rfl) (fun _ _ _ h => h) (Or.inl ⟨by rfl, ?_⟩) hS0 ?_
  rotate_left
  · intro w hSw; obtain ⟨⟨e0, e1, e2⟩, f0, f1, f2⟩ := hSw; go_simp; try with_reducible rfl
  simp only [Act.put, List.setIfInBounds_toArray, List.set_cons_zero, List.set_cons_succ, List.getElem_toArray, List.getElem_cons_succ, List.getElem_cons_zero]
  refine wpAnyT_loadW (i := 8) (v := ?_) rfl (by kernel_rfl) (by kernel_rfl) (by kernel_rfl) (by kernel_rfl) (by kernel_rfl) (fun _ _ _ h => h) (Or.inl ⟨by rfl, ?_⟩) hS0 ?_
  rotate_left
  · intro w hSw; obtain ⟨⟨e0, e1, e2⟩, f0, f1, f2⟩ := hSw; go_simp; try with_reducible rfl
  simp only [Act.put, List.setIfInBounds_toArray, List.set_cons_zero, List.set_cons_succ, List.getElem_toArray, List.getElem_cons_succ, List.getElem_cons_zero]
  refine wpAnyT_loadW (i := 11) (v := ?_) rfl (by kernel_rfl) (by kernel_rfl) (by kernel_rfl) (by kernel_rfl) (by kernel_rfl) (fun _ _ _ h => h) (Or.inl ⟨by rfl, ?_⟩) hS0 ?_
  rotate_left
  · intro w hSw; obtain ⟨⟨e0, e1, e2⟩, f0, f1, f2⟩ := hSw; go_simp; try with_reducible rfl
  simp only [Act.put, List.setIfInBounds_toArray, List.set_cons_zero, List.set_cons_succ, List.getElem_toArray, List.getElem_cons_succ, List.getElem_cons_zero]
  refine wpAnyT_loadW (i := 13) (v := ?_) rfl (by kernel_rfl) (by kernel_rfl) (by kernel_rfl) (by kernel_rfl) (by kernel_rfl) (fun _ _ _ h => h) (Or.inl ⟨by rfl, ?_⟩) hS0 ?_
  rotate_left
  · intro w hSw; obtain ⟨⟨e0, e1, e2⟩, f0, f1, f2⟩ := hSw; go_simp; try with_reducible rfl
  simp only [Act.put, List.setIfInBounds_toArray, List.set_cons_zero, List.set_cons_succ, List.getElem_toArray, List.getElem_cons_succ, List.getElem_cons_zero]
  refine wpAnyT_one (i := 4) (by kernel_rfl) rfl (by rfl) ?_
  refine wp_enter (f := 50) (args := #[.string c, .string d]) (by go_simp) (HC0.out W2.drew) ?_
  rintro e w1 ⟨rfl, hw⟩
  subst hw
  refine ⟨_, rfl, fun _ h => h, ?_⟩
  try simp only [Act.put, List.setIfInBounds_toArray, List.set_cons_zero, List.set_cons_succ, List.getElem_toArray, List.getElem_cons_succ, List.getElem_cons_zero]
  refine wpAnyT_one (i := 9) (by kernel_rfl) rfl (by rfl) ?_
  refine wp_enter (f := 51) (args := #[.int .i64 k, .int .i64 m]) (by go_simp) (HC1.out W2.drew) ?_
  rintro e w1 ⟨rfl, hw⟩
  subst hw
  refine ⟨_, rfl, fun _ h => h, ?_⟩
  try simp only [Act.put, List.setIfInBounds_toArray, List.set_cons_zero, List.set_cons_succ, List.getElem_toArray, List.getElem_cons_succ, List.getElem_cons_zero]
  refine wpAnyT_one (i := 14) (by kernel_rfl) rfl (by rfl) ?_
  refine wp_enter (f := 51) (args := #[.int .i64 u, .int .i64 v]) (by go_simp) (HC2.out W2.drew) ?_
  rintro e w1 ⟨rfl, hw⟩
  subst hw
  refine ⟨_, rfl, fun _ h => h, ?_⟩
  try simp only [Act.put, List.setIfInBounds_toArray, List.set_cons_zero, List.set_cons_succ, List.getElem_toArray, List.getElem_cons_succ, List.getElem_cons_zero]
  refine wpAnyT_one (i := 15) (by kernel_rfl) rfl (by rfl) ?_
  refine wp_value (v := .slice (some ⟨(W2.drew).heap.size, 0, none⟩) 3 3) (w' := W2.drew.alloc (.cells #[.int .i64 r0, .int .i64 r1, .int .i64 r2] 3)) (by go_simp) ?_
  have hc := heap_alloc_new W2.drew (.cells #[.int .i64 r0, .int .i64 r1, .int .i64 r2] 3)
  refine ⟨fun h => absurd h (by decide), ?_⟩
  try simp only [Act.put, List.setIfInBounds_toArray, List.set_cons_zero, List.set_cons_succ, List.getElem_toArray, List.getElem_cons_succ, List.getElem_cons_zero]
  refine wpAnyT_one (i := 16) (by kernel_rfl) rfl (by rfl) ?_
  refine wp_enter (f := 49) (args := #[.slice (some ⟨W2.drew.heap.size, 0, none⟩) 3 3]) (by go_simp) (or_sum _ W2.drew.heap.size 3 r0 r1 r2 (blk_cell hc 0) (blk_cell hc 1) (blk_cell hc 2)) ?_
  rintro e w1 ⟨rfl, hw⟩
  subst hw
  refine ⟨_, rfl, fun h => absurd h (by decide), ?_⟩
  try simp only [Act.put, List.setIfInBounds_toArray, List.set_cons_zero, List.set_cons_succ, List.getElem_toArray, List.getElem_cons_succ, List.getElem_cons_zero]
  refine wpAnyT_pure (i := 17) (v := ?_) rfl (by kernel_rfl) (by kernel_rfl) (by kernel_rfl) (fun _ _ _ h => h) (by rfl) ?_ ?_
  rotate_left
  · intro w; go_simp; try with_reducible rfl
  simp only [Act.put, List.setIfInBounds_toArray, List.set_cons_zero, List.set_cons_succ, List.getElem_toArray, List.getElem_cons_succ, List.getElem_cons_zero]
  refine wpAnyT_done (by kernel_rfl) ?_ _
  go_wp2
  go_ret
  refine ⟨rfl, 1, #[.cells #[.string c, .int .i64 k, .int .i64 u] 58, .cells #[.string d, .int .i64 m, .int .i64 v] 58, .cells #[.int .i64 r0, .int .i64 r1, .int .i64 r2] 3], ?_⟩
  have hW := HGR.out
  subst hW
  rw [Sort.alloc_eq_grow]
  refine (Sort.grow_grow (W.drewN 1) #[.cells #[.string c, .int .i64 k, .int .i64 u] 58, .cells #[.string d, .int .i64 m, .int .i64 v] 58] #[.cells #[.int .i64 r0, .int .i64 r1, .int .i64 r2] 3]).trans ?_
  rfl
end Go.Proofs.Ytmlekhkgokgpbaa
