/- The codec's stream, writing: entry, rate, holding, match, stock. -/
import Derived.Test.YtlfloekanfhlfaaGreatW57d
set_option linter.unusedSimpArgs false
namespace Go.Proofs.YtlfloekanfhlfaaGreat
open Go.RowKit Go

/-- The cells of an event of which only the kind and the two numbers are set. -/
def evCs (n a b : Int) : Array Value :=
  #[.int .i64 n, .int .i64 0, .int .i64 0, .int .i64 0, .int .i64 0, .int .i64 0, .string ⟨#[]⟩, .slice none 0 0, .string ⟨#[]⟩, .int .i64 0, .int .i64 0, .int .i64 0, .int .i64 0, .int .i64 0, .int .i64 0, .int .i64 0, .int .i64 0, .slice none 0 0, .slice none 0 0, .int .i64 0,
    .int .i64 0, .int .i64 0, .int .i64 0, .int .i64 0, .int .i64 0, .int .i64 a, .int .i64 b, .string ⟨#[]⟩]
def allB (n a b : Int) : List Int := [2 * n, 2 * a, 2 * b, 0, 0, 0, 0, 0, 0, 0, 0, 0, 0, 0, 0, 0, 0, 0, 0, 0, 0, 0, 0, 0, 0, 0, 0, 0]
/-- Bytes are written. -/
def WrP (s : Nat) (w : World) (v : Value) (xs l : List Int) (e : Ending) (w' : World) : Prop := e = .returned (.tuple #[]) ∧ ∃ v', St w' s v' (xs ++ l) ∧ StepS s w v w' v'
theorem small0 : Small 0 := .inl rfl
set_option maxRecDepth 20000 in
set_option maxHeartbeats 1000000 in
theorem entry57
    (w0 : World) (s : Nat) (v0 : Value) (xs : List Int) (h : St w0 s v0 xs) (eb : Nat) (te : TypeId) (n a b : Int) (he : w0.heap[eb]? = some (.cells (evCs n a b) te (0, 0))) (h1 : eb ≠ s ∧ v0.ownBlock ≠ some eb) (hx : xs.length ≤ 900) :
    Calls Tryz.prog 50 #[.pointer (some ⟨s, 0, none⟩), .pointer (some ⟨eb, 1, none⟩)] w0 (WrP s w0 v0 xs [0, 0, 0, 0, 0, 0, 0]) := by
  have HE := Lib.hid he
  have HX := Lib.hid hx
  have HS0 := Lib.hid (show St w0 s v0 (xs ++ []) from by simpa using h)
  have HT0 := Lib.hid (StepS.refl s w0 v0)
  have hsl := blk_lt h.row
  clear h he hx
  go_enter Tryz.func50, Tryz.ntmps50
  go_wp2_with fail
  have HC0 : Cells [] w0 := trivial
  refine wp_region_T (Cells []) (fun i => i == 17) (by kernel_rfl) ?_
  have hSss1 := Cells.drew HC0
  have hB_0_s1 : Below w0.heap.size w0 w0.drew := below_drew _
  generalize w0.drew = s1 at hSss1 hB_0_s1 ⊢
  have hB_s1_s1 := Below.refl s1.heap.size s1
  refine wpAnyT_pure (i := 0) (v := ?_) rfl (by kernel_rfl) (by kernel_rfl) (by kernel_rfl) (fun _ _ _ h => h) (by rfl) ?_ ?_
  rotate_left
  · intro w; go_simp; try with_reducible rfl
  simp only [Act.put, List.setIfInBounds_toArray, List.set_cons_zero, List.set_cons_succ, List.getElem_toArray, List.getElem_cons_succ, List.getElem_cons_zero]
  refine wpAnyT_pure (i := 1) (v := ?_) rfl (by kernel_rfl) (by kernel_rfl) (by kernel_rfl) (fun _ _ _ h => h) (by rfl) ?_ ?_
  rotate_left
  · intro w; go_simp; try with_reducible rfl
  simp only [Act.put, List.setIfInBounds_toArray, List.set_cons_zero, List.set_cons_succ, List.getElem_toArray, List.getElem_cons_succ, List.getElem_cons_zero]
  refine wpAnyT_pure (i := 2) (v := ?_) rfl (by kernel_rfl) (by kernel_rfl) (by kernel_rfl) (fun _ _ _ h => h) (by rfl) ?_ ?_
  rotate_left
  · intro w; go_simp; try with_reducible rfl
  simp only [Act.put, List.setIfInBounds_toArray, List.set_cons_zero, List.set_cons_succ, List.getElem_toArray, List.getElem_cons_succ, List.getElem_cons_zero]
  refine wpAnyT_pure (i := 3) (v := ?_) rfl (by kernel_rfl) (by kernel_rfl) (by kernel_rfl) (fun _ _ _ h => h) (by rfl) ?_ ?_
  rotate_left
  · intro w; go_simp; try with_reducible rfl
  simp only [Act.put, List.setIfInBounds_toArray, List.set_cons_zero, List.set_cons_succ, List.getElem_toArray, List.getElem_cons_succ, List.getElem_cons_zero]
  refine wpAnyT_pure (i := 4) (v := ?_) rfl (by kernel_rfl) (by kernel_rfl) (by kernel_rfl) (fun _ _ _ h => h) (by rfl) ?_ ?_
  rotate_left
  · intro w; go_simp; try with_reducible rfl
  simp only [Act.put, List.setIfInBounds_toArray, List.set_cons_zero, List.set_cons_succ, List.getElem_toArray, List.getElem_cons_succ, List.getElem_cons_zero]
  refine wpAnyT_pure (i := 5) (v := ?_) rfl (by kernel_rfl) (by kernel_rfl) (by kernel_rfl) (fun _ _ _ h => h) (by rfl) ?_ ?_
  rotate_left
  · intro w; go_simp; try with_reducible rfl
  simp only [Act.put, List.setIfInBounds_toArray, List.set_cons_zero, List.set_cons_succ, List.getElem_toArray, List.getElem_cons_succ, List.getElem_cons_zero]
  refine wpAnyT_pure (i := 6) (v := ?_) rfl (by kernel_rfl) (by kernel_rfl) (by kernel_rfl) (fun _ _ _ h => h) (by rfl) ?_ ?_
  rotate_left
  · intro w; go_simp; try with_reducible rfl
  simp only [Act.put, List.setIfInBounds_toArray, List.set_cons_zero, List.set_cons_succ, List.getElem_toArray, List.getElem_cons_succ, List.getElem_cons_zero]
  refine wpAnyT_pure (i := 7) (v := ?_) rfl (by kernel_rfl) (by kernel_rfl) (by kernel_rfl) (fun _ _ _ h => h) (by rfl) ?_ ?_
  rotate_left
  · intro w; go_simp; try with_reducible rfl
  simp only [Act.put, List.setIfInBounds_toArray, List.set_cons_zero, List.set_cons_succ, List.getElem_toArray, List.getElem_cons_succ, List.getElem_cons_zero]
  refine wpAnyT_pure (i := 8) (v := ?_) rfl (by kernel_rfl) (by kernel_rfl) (by kernel_rfl) (fun _ _ _ h => h) (by rfl) ?_ ?_
  rotate_left
  · intro w; go_simp; try with_reducible rfl
  simp only [Act.put, List.setIfInBounds_toArray, List.set_cons_zero, List.set_cons_succ, List.getElem_toArray, List.getElem_cons_succ, List.getElem_cons_zero]
  refine wpAnyT_pure (i := 9) (v := ?_) rfl (by kernel_rfl) (by kernel_rfl) (by kernel_rfl) (fun _ _ _ h => h) (by rfl) ?_ ?_
  rotate_left
  · intro w; go_simp; try with_reducible rfl
  simp only [Act.put, List.setIfInBounds_toArray, List.set_cons_zero, List.set_cons_succ, List.getElem_toArray, List.getElem_cons_succ, List.getElem_cons_zero]
  refine wpAnyT_pure (i := 10) (v := ?_) rfl (by kernel_rfl) (by kernel_rfl) (by kernel_rfl) (fun _ _ _ h => h) (by rfl) ?_ ?_
  rotate_left
  · intro w; go_simp; try with_reducible rfl
  simp only [Act.put, List.setIfInBounds_toArray, List.set_cons_zero, List.set_cons_succ, List.getElem_toArray, List.getElem_cons_succ, List.getElem_cons_zero]
  refine wpAnyT_pure (i := 11) (v := ?_) rfl (by kernel_rfl) (by kernel_rfl) (by kernel_rfl) (fun _ _ _ h => h) (by rfl) ?_ ?_
  rotate_left
  · intro w; go_simp; try with_reducible rfl
  simp only [Act.put, List.setIfInBounds_toArray, List.set_cons_zero, List.set_cons_succ, List.getElem_toArray, List.getElem_cons_succ, List.getElem_cons_zero]
  refine wpAnyT_pure (i := 12) (v := ?_) rfl (by kernel_rfl) (by kernel_rfl) (by kernel_rfl) (fun _ _ _ h => h) (by rfl) ?_ ?_
  rotate_left
  · intro w; go_simp; try with_reducible rfl
  simp only [Act.put, List.setIfInBounds_toArray, List.set_cons_zero, List.set_cons_succ, List.getElem_toArray, List.getElem_cons_succ, List.getElem_cons_zero]
  refine wpAnyT_pure (i := 13) (v := ?_) rfl (by kernel_rfl) (by kernel_rfl) (by kernel_rfl) (fun _ _ _ h => h) (by rfl) ?_ ?_
  rotate_left
  · intro w; go_simp; try with_reducible rfl
  simp only [Act.put, List.setIfInBounds_toArray, List.set_cons_zero, List.set_cons_succ, List.getElem_toArray, List.getElem_cons_succ, List.getElem_cons_zero]
  refine wpAnyT_pure (i := 14) (v := ?_) rfl (by kernel_rfl) (by kernel_rfl) (by kernel_rfl) (fun _ _ _ h => h) (by rfl) ?_ ?_
  rotate_left
  · intro w; go_simp; try with_reducible rfl
  simp only [Act.put, List.setIfInBounds_toArray, List.set_cons_zero, List.set_cons_succ, List.getElem_toArray, List.getElem_cons_succ, List.getElem_cons_zero]
  refine wpAnyT_pure (i := 15) (v := ?_) rfl (by kernel_rfl) (by kernel_rfl) (by kernel_rfl) (fun _ _ _ h => h) (by rfl) ?_ ?_
  rotate_left
  · intro w; go_simp; try with_reducible rfl
  simp only [Act.put, List.setIfInBounds_toArray, List.set_cons_zero, List.set_cons_succ, List.getElem_toArray, List.getElem_cons_succ, List.getElem_cons_zero]
  refine wpAnyT_one (i := 16) (by kernel_rfl) rfl (by rfl) ?_
  obtain ⟨bl, hbl⟩ : ∃ b, s1.heap.size = b := ⟨_, rfl⟩
  refine wp_newrow (v := .slice (some ⟨bl, 0, none⟩) 5 5) (cs := #[.pointer (some ⟨eb, 1, none⟩), .pointer (some ⟨eb, 2, none⟩), .pointer (some ⟨eb, 3, none⟩), .pointer (some ⟨eb, 4, none⟩), .pointer (some ⟨eb, 5, none⟩)]) (te := 105) (by rw [← hbl]; go_simp) ?_
  intro w102 hX hN
  rw [hbl] at hN
  have hB_s1_w102 := below_step hB_s1_s1 hX
  have hB_w102_w102 := Below.refl w102.heap.size w102
  have hSsw102 := Cells.below hB_s1_w102 hSss1
  clear hX
  refine ⟨fun _ _ => hSsw102, ?_⟩
  try simp only [Act.put, List.setIfInBounds_toArray, List.set_cons_zero, List.set_cons_succ, List.getElem_toArray, List.getElem_cons_succ, List.getElem_cons_zero]
  refine wpAnyT_one (i := 17) (by kernel_rfl) rfl (by rfl) ?_
  have hbP : Below w0.heap.size w0 w102 := hB_0_s1.trans ((hB_s1_w102).mono (hB_0_s1).size)
  have hel := HT0.out.keep HE.out h1.1 h1.2
  have hee := (hbP.block _ (blk_lt hel.1)).trans hel.1
  have hbls : w0.heap.size ≤ bl := by rw [← hbl]; exact (hB_0_s1).size
  have hsz := blk_lt HS0.out.row
  refine wp_enter (f := 29) (args := #[.pointer (some ⟨s, 0, none⟩), .slice (some ⟨bl, 0, none⟩) 5 5]) (by go_simp) (num57 _ s v0 _ (HS0.out.below hbP) eb bl [1, 2, 3, 4, 5] (fun _ => 0) 105 hN (evCs n a b) te hee (by simp [evCs, Small]) ⟨h1.1, hel.2⟩ ⟨by omega, fun e => by have := (HS0.out.own.own _ e).2; omega⟩ (by decide) (by have := HX.out; simp only [List.length_append, List.length_cons, List.length_nil]; omega) 5 rfl) ?_
  rintro e w103 ⟨rfl, v1, hS9, hT9⟩
  refine ⟨_, rfl, fun h => absurd h (by decide), ?_⟩
  try simp only [Act.put, List.setIfInBounds_toArray, List.set_cons_zero, List.set_cons_succ, List.getElem_toArray, List.getElem_cons_succ, List.getElem_cons_zero]
  refine wpAnyT_done (by kernel_rfl) ?_ _
  obtain ⟨w1, rfl⟩ : ∃ x, x = w103 := ⟨_, rfl⟩
  have HS1 := Lib.hid (show St w1 s v1 (xs ++ [0, 0, 0, 0, 0]) from by simpa [List.append_assoc] using hS9)
  have HT1 := Lib.hid ((HT0.out.trans (StepS.below hbP)).trans hT9)
  clear hS9 hT9 hbP hel hee hbls hsz HC0
  go_wp2_with fail
  have hel := HT1.out.keep HE.out h1.1 h1.2
  refine (text57 w1 s v1 _ HS1.out eb 6 (evCs n a b) _ hel.1 rfl ⟨h1.1, hel.2⟩ (by have := HX.out; simp only [List.length_append, List.length_cons, List.length_nil]; omega)).mono ?_
  rintro e w2 ⟨rfl, v2, hS9, hT9⟩
  have HS2 := Lib.hid (show St w2 s v2 (xs ++ [0, 0, 0, 0, 0, 0]) from by simpa [List.append_assoc, allB] using hS9)
  have HT2 := Lib.hid (HT1.out.trans hT9)
  clear hS9 hT9 hel
  go_wp2_with fail
  have hel := HT2.out.keep HE.out h1.1 h1.2
  refine (listL57 w2 s v2 _ HS2.out eb 7 (evCs n a b) _ hel.1 rfl ⟨h1.1, hel.2⟩ (by have := HX.out; simp only [List.length_append, List.length_cons, List.length_nil]; omega) _).mono ?_
  rintro e w3 ⟨rfl, v3, hS9, hT9⟩
  have HS3 := Lib.hid (show St w3 s v3 (xs ++ [0, 0, 0, 0, 0, 0, 0]) from by simpa [List.append_assoc, allB] using hS9)
  have HT3 := Lib.hid (HT2.out.trans hT9)
  clear hS9 hT9 hel
  go_wp2_with fail
  exact bodyPost_end (results_none rfl _ _ _) rfl ⟨rfl, _, HS3.out, HT3.out⟩
set_option maxRecDepth 20000 in
set_option maxHeartbeats 1000000 in
theorem rate57
    (w0 : World) (s : Nat) (v0 : Value) (xs : List Int) (h : St w0 s v0 xs) (eb : Nat) (te : TypeId) (n a b : Int) (he : w0.heap[eb]? = some (.cells (evCs n a b) te (0, 0))) (h1 : eb ≠ s ∧ v0.ownBlock ≠ some eb) (hx : xs.length ≤ 900) :
    Calls Tryz.prog 51 #[.pointer (some ⟨s, 0, none⟩), .pointer (some ⟨eb, 8, none⟩)] w0 (WrP s w0 v0 xs [0, 0, 0, 0]) := by
  have HE := Lib.hid he
  have HX := Lib.hid hx
  have HS0 := Lib.hid (show St w0 s v0 (xs ++ []) from by simpa using h)
  have HT0 := Lib.hid (StepS.refl s w0 v0)
  have hsl := blk_lt h.row
  clear h he hx
  go_enter Tryz.func51, Tryz.ntmps51
  go_wp2_with fail
  have hel := HT0.out.keep HE.out h1.1 h1.2
  refine (text57 w0 s v0 _ HS0.out eb 8 (evCs n a b) _ hel.1 rfl ⟨h1.1, hel.2⟩ (by have := HX.out; simp only [List.length_append, List.length_cons, List.length_nil]; omega)).mono ?_
  rintro e w1 ⟨rfl, v1, hS9, hT9⟩
  have HS1 := Lib.hid (show St w1 s v1 (xs ++ [0]) from by simpa [List.append_assoc, allB] using hS9)
  have HT1 := Lib.hid (HT0.out.trans hT9)
  clear hS9 hT9 hel
  go_wp2_with fail
  have HC1 : Cells [] w1 := trivial
  refine wp_region_T (Cells []) (fun i => i == 11) (by kernel_rfl) ?_
  have hSss4 := Cells.drew HC1
  have hB_0_s4 : Below w1.heap.size w1 w1.drew := below_drew _
  generalize w1.drew = s4 at hSss4 hB_0_s4 ⊢
  have hB_s4_s4 := Below.refl s4.heap.size s4
  refine wpAnyT_pure (i := 0) (v := ?_) rfl (by kernel_rfl) (by kernel_rfl) (by kernel_rfl) (fun _ _ _ h => h) (by rfl) ?_ ?_
  rotate_left
  · intro w; go_simp; try with_reducible rfl
  simp only [Act.put, List.setIfInBounds_toArray, List.set_cons_zero, List.set_cons_succ, List.getElem_toArray, List.getElem_cons_succ, List.getElem_cons_zero]
  refine wpAnyT_pure (i := 1) (v := ?_) rfl (by kernel_rfl) (by kernel_rfl) (by kernel_rfl) (fun _ _ _ h => h) (by rfl) ?_ ?_
  rotate_left
  · intro w; go_simp; try with_reducible rfl
  simp only [Act.put, List.setIfInBounds_toArray, List.set_cons_zero, List.set_cons_succ, List.getElem_toArray, List.getElem_cons_succ, List.getElem_cons_zero]
  refine wpAnyT_pure (i := 2) (v := ?_) rfl (by kernel_rfl) (by kernel_rfl) (by kernel_rfl) (fun _ _ _ h => h) (by rfl) ?_ ?_
  rotate_left
  · intro w; go_simp; try with_reducible rfl
  simp only [Act.put, List.setIfInBounds_toArray, List.set_cons_zero, List.set_cons_succ, List.getElem_toArray, List.getElem_cons_succ, List.getElem_cons_zero]
  refine wpAnyT_pure (i := 3) (v := ?_) rfl (by kernel_rfl) (by kernel_rfl) (by kernel_rfl) (fun _ _ _ h => h) (by rfl) ?_ ?_
  rotate_left
  · intro w; go_simp; try with_reducible rfl
  simp only [Act.put, List.setIfInBounds_toArray, List.set_cons_zero, List.set_cons_succ, List.getElem_toArray, List.getElem_cons_succ, List.getElem_cons_zero]
  refine wpAnyT_pure (i := 4) (v := ?_) rfl (by kernel_rfl) (by kernel_rfl) (by kernel_rfl) (fun _ _ _ h => h) (by rfl) ?_ ?_
  rotate_left
  · intro w; go_simp; try with_reducible rfl
  simp only [Act.put, List.setIfInBounds_toArray, List.set_cons_zero, List.set_cons_succ, List.getElem_toArray, List.getElem_cons_succ, List.getElem_cons_zero]
  refine wpAnyT_pure (i := 5) (v := ?_) rfl (by kernel_rfl) (by kernel_rfl) (by kernel_rfl) (fun _ _ _ h => h) (by rfl) ?_ ?_
  rotate_left
  · intro w; go_simp; try with_reducible rfl
  simp only [Act.put, List.setIfInBounds_toArray, List.set_cons_zero, List.set_cons_succ, List.getElem_toArray, List.getElem_cons_succ, List.getElem_cons_zero]
  refine wpAnyT_pure (i := 6) (v := ?_) rfl (by kernel_rfl) (by kernel_rfl) (by kernel_rfl) (fun _ _ _ h => h) (by rfl) ?_ ?_
  rotate_left
  · intro w; go_simp; try with_reducible rfl
  simp only [Act.put, List.setIfInBounds_toArray, List.set_cons_zero, List.set_cons_succ, List.getElem_toArray, List.getElem_cons_succ, List.getElem_cons_zero]
  refine wpAnyT_pure (i := 7) (v := ?_) rfl (by kernel_rfl) (by kernel_rfl) (by kernel_rfl) (fun _ _ _ h => h) (by rfl) ?_ ?_
  rotate_left
  · intro w; go_simp; try with_reducible rfl
  simp only [Act.put, List.setIfInBounds_toArray, List.set_cons_zero, List.set_cons_succ, List.getElem_toArray, List.getElem_cons_succ, List.getElem_cons_zero]
  refine wpAnyT_pure (i := 8) (v := ?_) rfl (by kernel_rfl) (by kernel_rfl) (by kernel_rfl) (fun _ _ _ h => h) (by rfl) ?_ ?_
  rotate_left
  · intro w; go_simp; try with_reducible rfl
  simp only [Act.put, List.setIfInBounds_toArray, List.set_cons_zero, List.set_cons_succ, List.getElem_toArray, List.getElem_cons_succ, List.getElem_cons_zero]
  refine wpAnyT_pure (i := 9) (v := ?_) rfl (by kernel_rfl) (by kernel_rfl) (by kernel_rfl) (fun _ _ _ h => h) (by rfl) ?_ ?_
  rotate_left
  · intro w; go_simp; try with_reducible rfl
  simp only [Act.put, List.setIfInBounds_toArray, List.set_cons_zero, List.set_cons_succ, List.getElem_toArray, List.getElem_cons_succ, List.getElem_cons_zero]
  refine wpAnyT_one (i := 10) (by kernel_rfl) rfl (by rfl) ?_
  obtain ⟨bl, hbl⟩ : ∃ b, s4.heap.size = b := ⟨_, rfl⟩
  refine wp_newrow (v := .slice (some ⟨bl, 0, none⟩) 3 3) (cs := #[.pointer (some ⟨eb, 9, none⟩), .pointer (some ⟨eb, 10, none⟩), .pointer (some ⟨eb, 11, none⟩)]) (te := 105) (by rw [← hbl]; go_simp) ?_
  intro w105 hX hN
  rw [hbl] at hN
  have hB_s4_w105 := below_step hB_s4_s4 hX
  have hB_w105_w105 := Below.refl w105.heap.size w105
  have hSsw105 := Cells.below hB_s4_w105 hSss4
  clear hX
  refine ⟨fun _ _ => hSsw105, ?_⟩
  try simp only [Act.put, List.setIfInBounds_toArray, List.set_cons_zero, List.set_cons_succ, List.getElem_toArray, List.getElem_cons_succ, List.getElem_cons_zero]
  refine wpAnyT_one (i := 11) (by kernel_rfl) rfl (by rfl) ?_
  have hbP : Below w1.heap.size w1 w105 := hB_0_s4.trans ((hB_s4_w105).mono (hB_0_s4).size)
  have hel := HT1.out.keep HE.out h1.1 h1.2
  have hee := (hbP.block _ (blk_lt hel.1)).trans hel.1
  have hbls : w1.heap.size ≤ bl := by rw [← hbl]; exact (hB_0_s4).size
  have hsz := blk_lt HS1.out.row
  refine wp_enter (f := 29) (args := #[.pointer (some ⟨s, 0, none⟩), .slice (some ⟨bl, 0, none⟩) 3 3]) (by go_simp) (num57 _ s v1 _ (HS1.out.below hbP) eb bl [9, 10, 11] (fun _ => 0) 105 hN (evCs n a b) te hee (by simp [evCs, Small]) ⟨h1.1, hel.2⟩ ⟨by omega, fun e => by have := (HS1.out.own.own _ e).2; omega⟩ (by decide) (by have := HX.out; simp only [List.length_append, List.length_cons, List.length_nil]; omega) 3 rfl) ?_
  rintro e w106 ⟨rfl, v2, hS9, hT9⟩
  refine ⟨_, rfl, fun h => absurd h (by decide), ?_⟩
  try simp only [Act.put, List.setIfInBounds_toArray, List.set_cons_zero, List.set_cons_succ, List.getElem_toArray, List.getElem_cons_succ, List.getElem_cons_zero]
  refine wpAnyT_done (by kernel_rfl) ?_ _
  obtain ⟨w2, rfl⟩ : ∃ x, x = w106 := ⟨_, rfl⟩
  have HS2 := Lib.hid (show St w2 s v2 (xs ++ [0, 0, 0, 0]) from by simpa [List.append_assoc] using hS9)
  have HT2 := Lib.hid ((HT1.out.trans (StepS.below hbP)).trans hT9)
  clear hS9 hT9 hbP hel hee hbls hsz HC1
  go_wp2_with fail
  exact bodyPost_end (results_none rfl _ _ _) rfl ⟨rfl, _, HS2.out, HT2.out⟩
set_option maxRecDepth 20000 in
set_option maxHeartbeats 1000000 in
theorem holding57
    (w0 : World) (s : Nat) (v0 : Value) (xs : List Int) (h : St w0 s v0 xs) (eb : Nat) (te : TypeId) (n a b : Int) (he : w0.heap[eb]? = some (.cells (evCs n a b) te (0, 0))) (h1 : eb ≠ s ∧ v0.ownBlock ≠ some eb) (hx : xs.length ≤ 900) :
    Calls Tryz.prog 52 #[.pointer (some ⟨s, 0, none⟩), .pointer (some ⟨eb, 12, none⟩)] w0 (WrP s w0 v0 xs [0, 0, 0, 0]) := by
  have HE := Lib.hid he
  have HX := Lib.hid hx
  have HS0 := Lib.hid (show St w0 s v0 (xs ++ []) from by simpa using h)
  have HT0 := Lib.hid (StepS.refl s w0 v0)
  have hsl := blk_lt h.row
  clear h he hx
  go_enter Tryz.func52, Tryz.ntmps52
  go_wp2_with fail
  have HC0 : Cells [] w0 := trivial
  refine wp_region_T (Cells []) (fun i => i == 14) (by kernel_rfl) ?_
  have hSss7 := Cells.drew HC0
  have hB_0_s7 : Below w0.heap.size w0 w0.drew := below_drew _
  generalize w0.drew = s7 at hSss7 hB_0_s7 ⊢
  have hB_s7_s7 := Below.refl s7.heap.size s7
  refine wpAnyT_pure (i := 0) (v := ?_) rfl (by kernel_rfl) (by kernel_rfl) (by kernel_rfl) (fun _ _ _ h => h) (by rfl) ?_ ?_
  rotate_left
  · intro w; go_simp; try with_reducible rfl
  simp only [Act.put, List.setIfInBounds_toArray, List.set_cons_zero, List.set_cons_succ, List.getElem_toArray, List.getElem_cons_succ, List.getElem_cons_zero]
  refine wpAnyT_pure (i := 1) (v := ?_) rfl (by kernel_rfl) (by kernel_rfl) (by kernel_rfl) (fun _ _ _ h => h) (by rfl) ?_ ?_
  rotate_left
  · intro w; go_simp; try with_reducible rfl
  simp only [Act.put, List.setIfInBounds_toArray, List.set_cons_zero, List.set_cons_succ, List.getElem_toArray, List.getElem_cons_succ, List.getElem_cons_zero]
  refine wpAnyT_pure (i := 2) (v := ?_) rfl (by kernel_rfl) (by kernel_rfl) (by kernel_rfl) (fun _ _ _ h => h) (by rfl) ?_ ?_
  rotate_left
  · intro w; go_simp; try with_reducible rfl
  simp only [Act.put, List.setIfInBounds_toArray, List.set_cons_zero, List.set_cons_succ, List.getElem_toArray, List.getElem_cons_succ, List.getElem_cons_zero]
  refine wpAnyT_pure (i := 3) (v := ?_) rfl (by kernel_rfl) (by kernel_rfl) (by kernel_rfl) (fun _ _ _ h => h) (by rfl) ?_ ?_
  rotate_left
  · intro w; go_simp; try with_reducible rfl
  simp only [Act.put, List.setIfInBounds_toArray, List.set_cons_zero, List.set_cons_succ, List.getElem_toArray, List.getElem_cons_succ, List.getElem_cons_zero]
  refine wpAnyT_pure (i := 4) (v := ?_) rfl (by kernel_rfl) (by kernel_rfl) (by kernel_rfl) (fun _ _ _ h => h) (by rfl) ?_ ?_
  rotate_left
  · intro w; go_simp; try with_reducible rfl
  simp only [Act.put, List.setIfInBounds_toArray, List.set_cons_zero, List.set_cons_succ, List.getElem_toArray, List.getElem_cons_succ, List.getElem_cons_zero]
  refine wpAnyT_pure (i := 5) (v := ?_) rfl (by kernel_rfl) (by kernel_rfl) (by kernel_rfl) (fun _ _ _ h => h) (by rfl) ?_ ?_
  rotate_left
  · intro w; go_simp; try with_reducible rfl
  simp only [Act.put, List.setIfInBounds_toArray, List.set_cons_zero, List.set_cons_succ, List.getElem_toArray, List.getElem_cons_succ, List.getElem_cons_zero]
  refine wpAnyT_pure (i := 6) (v := ?_) rfl (by kernel_rfl) (by kernel_rfl) (by kernel_rfl) (fun _ _ _ h => h) (by rfl) ?_ ?_
  rotate_left
  · intro w; go_simp; try with_reducible rfl
  simp only [Act.put, List.setIfInBounds_toArray, List.set_cons_zero, List.set_cons_succ, List.getElem_toArray, List.getElem_cons_succ, List.getElem_cons_zero]
  refine wpAnyT_pure (i := 7) (v := ?_) rfl (by kernel_rfl) (by kernel_rfl) (by kernel_rfl) (fun _ _ _ h => h) (by rfl) ?_ ?_
  rotate_left
  · intro w; go_simp; try with_reducible rfl
  simp only [Act.put, List.setIfInBounds_toArray, List.set_cons_zero, List.set_cons_succ, List.getElem_toArray, List.getElem_cons_succ, List.getElem_cons_zero]
  refine wpAnyT_pure (i := 8) (v := ?_) rfl (by kernel_rfl) (by kernel_rfl) (by kernel_rfl) (fun _ _ _ h => h) (by rfl) ?_ ?_
  rotate_left
  · intro w; go_simp; try with_reducible rfl
  simp only [Act.put, List.setIfInBounds_toArray, List.set_cons_zero, List.set_cons_succ, List.getElem_toArray, List.getElem_cons_succ, List.getElem_cons_zero]
  refine wpAnyT_pure (i := 9) (v := ?_) rfl (by kernel_rfl) (by kernel_rfl) (by kernel_rfl) (fun _ _ _ h => h) (by rfl) ?_ ?_
  rotate_left
  · intro w; go_simp; try with_reducible rfl
  simp only [Act.put, List.setIfInBounds_toArray, List.set_cons_zero, List.set_cons_succ, List.getElem_toArray, List.getElem_cons_succ, List.getElem_cons_zero]
  refine wpAnyT_pure (i := 10) (v := ?_) rfl (by kernel_rfl) (by kernel_rfl) (by kernel_rfl) (fun _ _ _ h => h) (by rfl) ?_ ?_
  rotate_left
  · intro w; go_simp; try with_reducible rfl
  simp only [Act.put, List.setIfInBounds_toArray, List.set_cons_zero, List.set_cons_succ, List.getElem_toArray, List.getElem_cons_succ, List.getElem_cons_zero]
  refine wpAnyT_pure (i := 11) (v := ?_) rfl (by kernel_rfl) (by kernel_rfl) (by kernel_rfl) (fun _ _ _ h => h) (by rfl) ?_ ?_
  rotate_left
  · intro w; go_simp; try with_reducible rfl
  simp only [Act.put, List.setIfInBounds_toArray, List.set_cons_zero, List.set_cons_succ, List.getElem_toArray, List.getElem_cons_succ, List.getElem_cons_zero]
  refine wpAnyT_pure (i := 12) (v := ?_) rfl (by kernel_rfl) (by kernel_rfl) (by kernel_rfl) (fun _ _ _ h => h) (by rfl) ?_ ?_
  rotate_left
  · intro w; go_simp; try with_reducible rfl
  simp only [Act.put, List.setIfInBounds_toArray, List.set_cons_zero, List.set_cons_succ, List.getElem_toArray, List.getElem_cons_succ, List.getElem_cons_zero]
  refine wpAnyT_one (i := 13) (by kernel_rfl) rfl (by rfl) ?_
  obtain ⟨bl, hbl⟩ : ∃ b, s7.heap.size = b := ⟨_, rfl⟩
  refine wp_newrow (v := .slice (some ⟨bl, 0, none⟩) 4 4) (cs := #[.pointer (some ⟨eb, 12, none⟩), .pointer (some ⟨eb, 13, none⟩), .pointer (some ⟨eb, 14, none⟩), .pointer (some ⟨eb, 15, none⟩)]) (te := 105) (by rw [← hbl]; go_simp) ?_
  intro w108 hX hN
  rw [hbl] at hN
  have hB_s7_w108 := below_step hB_s7_s7 hX
  have hB_w108_w108 := Below.refl w108.heap.size w108
  have hSsw108 := Cells.below hB_s7_w108 hSss7
  clear hX
  refine ⟨fun _ _ => hSsw108, ?_⟩
  try simp only [Act.put, List.setIfInBounds_toArray, List.set_cons_zero, List.set_cons_succ, List.getElem_toArray, List.getElem_cons_succ, List.getElem_cons_zero]
  refine wpAnyT_one (i := 14) (by kernel_rfl) rfl (by rfl) ?_
  have hbP : Below w0.heap.size w0 w108 := hB_0_s7.trans ((hB_s7_w108).mono (hB_0_s7).size)
  have hel := HT0.out.keep HE.out h1.1 h1.2
  have hee := (hbP.block _ (blk_lt hel.1)).trans hel.1
  have hbls : w0.heap.size ≤ bl := by rw [← hbl]; exact (hB_0_s7).size
  have hsz := blk_lt HS0.out.row
  refine wp_enter (f := 29) (args := #[.pointer (some ⟨s, 0, none⟩), .slice (some ⟨bl, 0, none⟩) 4 4]) (by go_simp) (num57 _ s v0 _ (HS0.out.below hbP) eb bl [12, 13, 14, 15] (fun _ => 0) 105 hN (evCs n a b) te hee (by simp [evCs, Small]) ⟨h1.1, hel.2⟩ ⟨by omega, fun e => by have := (HS0.out.own.own _ e).2; omega⟩ (by decide) (by have := HX.out; simp only [List.length_append, List.length_cons, List.length_nil]; omega) 4 rfl) ?_
  rintro e w109 ⟨rfl, v1, hS9, hT9⟩
  refine ⟨_, rfl, fun h => absurd h (by decide), ?_⟩
  try simp only [Act.put, List.setIfInBounds_toArray, List.set_cons_zero, List.set_cons_succ, List.getElem_toArray, List.getElem_cons_succ, List.getElem_cons_zero]
  refine wpAnyT_done (by kernel_rfl) ?_ _
  obtain ⟨w1, rfl⟩ : ∃ x, x = w109 := ⟨_, rfl⟩
  have HS1 := Lib.hid (show St w1 s v1 (xs ++ [0, 0, 0, 0]) from by simpa [List.append_assoc] using hS9)
  have HT1 := Lib.hid ((HT0.out.trans (StepS.below hbP)).trans hT9)
  clear hS9 hT9 hbP hel hee hbls hsz HC0
  go_wp2_with fail
  exact bodyPost_end (results_none rfl _ _ _) rfl ⟨rfl, _, HS1.out, HT1.out⟩
set_option maxRecDepth 20000 in
set_option maxHeartbeats 1000000 in
theorem match57
    (w0 : World) (s : Nat) (v0 : Value) (xs : List Int) (h : St w0 s v0 xs) (eb : Nat) (te : TypeId) (n a b : Int) (he : w0.heap[eb]? = some (.cells (evCs n a b) te (0, 0))) (h1 : eb ≠ s ∧ v0.ownBlock ≠ some eb) (hx : xs.length ≤ 900) :
    Calls Tryz.prog 53 #[.pointer (some ⟨s, 0, none⟩), .pointer (some ⟨eb, 16, none⟩)] w0 (WrP s w0 v0 xs [0, 0, 0, 0]) := by
  have HE := Lib.hid he
  have HX := Lib.hid hx
  have HS0 := Lib.hid (show St w0 s v0 (xs ++ []) from by simpa using h)
  have HT0 := Lib.hid (StepS.refl s w0 v0)
  have hsl := blk_lt h.row
  clear h he hx
  go_enter Tryz.func53, Tryz.ntmps53
  have hB := (Below.refl w0.heap.size w0).alloc (Nat.le_refl _) (.cells #[.pointer (some ⟨eb, 16, none⟩)] 105)
  have HLB := Lib.hid (alloc_new' (w := w0) (o := .cells #[.pointer (some ⟨eb, 16, none⟩)] 105) rfl)
  have HB := Lib.hid hB
  clear hB
  go_wp2_with fail
  generalize hw9 : w0.alloc (.cells #[.pointer (some ⟨eb, 16, none⟩)] 105) = wl1 at HB HLB ⊢
  clear hw9
  have hel := HT0.out.keep HE.out h1.1 h1.2
  have hee := (HB.out.block _ (blk_lt hel.1)).trans hel.1
  have hsz := blk_lt HS0.out.row
  refine (num57 _ s v0 _ (HS0.out.below HB.out) eb w0.heap.size [16] (fun _ => 0) 105 HLB.out (evCs n a b) te hee (by simp [evCs, Small]) ⟨h1.1, hel.2⟩ ⟨by omega, fun e => by have := (HS0.out.own.own _ e).2; omega⟩ (by decide) (by have := HX.out; simp only [List.length_append, List.length_cons, List.length_nil]; omega) 1 rfl).mono ?_
  rintro e w1 ⟨rfl, v1, hS9, hT9⟩
  have HS1 := Lib.hid (show St w1 s v1 (xs ++ [0]) from by simpa [List.append_assoc] using hS9)
  have HT1 := Lib.hid ((HT0.out.trans (StepS.below HB.out)).trans hT9)
  clear hS9 hT9 hel hee hsz HB HLB
  go_wp2_with fail
  have hel := HT1.out.keep HE.out h1.1 h1.2
  refine (listR57 w1 s v1 _ HS1.out eb 17 (evCs n a b) _ hel.1 rfl ⟨h1.1, hel.2⟩ (by have := HX.out; simp only [List.length_append, List.length_cons, List.length_nil]; omega) _).mono ?_
  rintro e w2 ⟨rfl, v2, hS9, hT9⟩
  have HS2 := Lib.hid (show St w2 s v2 (xs ++ [0, 0]) from by simpa [List.append_assoc, allB] using hS9)
  have HT2 := Lib.hid (HT1.out.trans hT9)
  clear hS9 hT9 hel
  go_wp2_with fail
  have hel := HT2.out.keep HE.out h1.1 h1.2
  refine (listR57 w2 s v2 _ HS2.out eb 18 (evCs n a b) _ hel.1 rfl ⟨h1.1, hel.2⟩ (by have := HX.out; simp only [List.length_append, List.length_cons, List.length_nil]; omega) _).mono ?_
  rintro e w3 ⟨rfl, v3, hS9, hT9⟩
  have HS3 := Lib.hid (show St w3 s v3 (xs ++ [0, 0, 0]) from by simpa [List.append_assoc, allB] using hS9)
  have HT3 := Lib.hid (HT2.out.trans hT9)
  clear hS9 hT9 hel
  have hB := (Below.refl w3.heap.size w3).alloc (Nat.le_refl _) (.cells #[.pointer (some ⟨eb, 19, none⟩)] 105)
  have HLB := Lib.hid (alloc_new' (w := w3) (o := .cells #[.pointer (some ⟨eb, 19, none⟩)] 105) rfl)
  have HB := Lib.hid hB
  clear hB
  go_wp2_with fail
  generalize hw9 : w3.alloc (.cells #[.pointer (some ⟨eb, 19, none⟩)] 105) = wl4 at HB HLB ⊢
  clear hw9
  have hel := HT3.out.keep HE.out h1.1 h1.2
  have hee := (HB.out.block _ (blk_lt hel.1)).trans hel.1
  have hsz := blk_lt HS3.out.row
  refine (num57 _ s v3 _ (HS3.out.below HB.out) eb w3.heap.size [19] (fun _ => 0) 105 HLB.out (evCs n a b) te hee (by simp [evCs, Small]) ⟨h1.1, hel.2⟩ ⟨by omega, fun e => by have := (HS3.out.own.own _ e).2; omega⟩ (by decide) (by have := HX.out; simp only [List.length_append, List.length_cons, List.length_nil]; omega) 1 rfl).mono ?_
  rintro e w4 ⟨rfl, v4, hS9, hT9⟩
  have HS4 := Lib.hid (show St w4 s v4 (xs ++ [0, 0, 0, 0]) from by simpa [List.append_assoc] using hS9)
  have HT4 := Lib.hid ((HT3.out.trans (StepS.below HB.out)).trans hT9)
  clear hS9 hT9 hel hee hsz HB HLB
  go_wp2_with fail
  exact bodyPost_end (results_none rfl _ _ _) rfl ⟨rfl, _, HS4.out, HT4.out⟩
set_option maxRecDepth 20000 in
set_option maxHeartbeats 1000000 in
theorem stock57
    (w0 : World) (s : Nat) (v0 : Value) (xs : List Int) (h : St w0 s v0 xs) (eb : Nat) (te : TypeId) (n a b : Int) (he : w0.heap[eb]? = some (.cells (evCs n a b) te (0, 0))) (h1 : eb ≠ s ∧ v0.ownBlock ≠ some eb) (hx : xs.length ≤ 900) :
    Calls Tryz.prog 54 #[.pointer (some ⟨s, 0, none⟩), .pointer (some ⟨eb, 20, none⟩)] w0 (WrP s w0 v0 xs [0, 0, 0, 0, 0]) := by
  have HE := Lib.hid he
  have HX := Lib.hid hx
  have HS0 := Lib.hid (show St w0 s v0 (xs ++ []) from by simpa using h)
  have HT0 := Lib.hid (StepS.refl s w0 v0)
  have hsl := blk_lt h.row
  clear h he hx
  go_enter Tryz.func54, Tryz.ntmps54
  go_wp2_with fail
  have HC0 : Cells [] w0 := trivial
  refine wp_region_T (Cells []) (fun i => i == 17) (by kernel_rfl) ?_
  have hSss10 := Cells.drew HC0
  have hB_0_s10 : Below w0.heap.size w0 w0.drew := below_drew _
  generalize w0.drew = s10 at hSss10 hB_0_s10 ⊢
  have hB_s10_s10 := Below.refl s10.heap.size s10
  refine wpAnyT_pure (i := 0) (v := ?_) rfl (by kernel_rfl) (by kernel_rfl) (by kernel_rfl) (fun _ _ _ h => h) (by rfl) ?_ ?_
  rotate_left
  · intro w; go_simp; try with_reducible rfl
  simp only [Act.put, List.setIfInBounds_toArray, List.set_cons_zero, List.set_cons_succ, List.getElem_toArray, List.getElem_cons_succ, List.getElem_cons_zero]
  refine wpAnyT_pure (i := 1) (v := ?_) rfl (by kernel_rfl) (by kernel_rfl) (by kernel_rfl) (fun _ _ _ h => h) (by rfl) ?_ ?_
  rotate_left
  · intro w; go_simp; try with_reducible rfl
  simp only [Act.put, List.setIfInBounds_toArray, List.set_cons_zero, List.set_cons_succ, List.getElem_toArray, List.getElem_cons_succ, List.getElem_cons_zero]
  refine wpAnyT_pure (i := 2) (v := ?_) rfl (by kernel_rfl) (by kernel_rfl) (by kernel_rfl) (fun _ _ _ h => h) (by rfl) ?_ ?_
  rotate_left
  · intro w; go_simp; try with_reducible rfl
  simp only [Act.put, List.setIfInBounds_toArray, List.set_cons_zero, List.set_cons_succ, List.getElem_toArray, List.getElem_cons_succ, List.getElem_cons_zero]
  refine wpAnyT_pure (i := 3) (v := ?_) rfl (by kernel_rfl) (by kernel_rfl) (by kernel_rfl) (fun _ _ _ h => h) (by rfl) ?_ ?_
  rotate_left
  · intro w; go_simp; try with_reducible rfl
  simp only [Act.put, List.setIfInBounds_toArray, List.set_cons_zero, List.set_cons_succ, List.getElem_toArray, List.getElem_cons_succ, List.getElem_cons_zero]
  refine wpAnyT_pure (i := 4) (v := ?_) rfl (by kernel_rfl) (by kernel_rfl) (by kernel_rfl) (fun _ _ _ h => h) (by rfl) ?_ ?_
  rotate_left
  · intro w; go_simp; try with_reducible rfl
  simp only [Act.put, List.setIfInBounds_toArray, List.set_cons_zero, List.set_cons_succ, List.getElem_toArray, List.getElem_cons_succ, List.getElem_cons_zero]
  refine wpAnyT_pure (i := 5) (v := ?_) rfl (by kernel_rfl) (by kernel_rfl) (by kernel_rfl) (fun _ _ _ h => h) (by rfl) ?_ ?_
  rotate_left
  · intro w; go_simp; try with_reducible rfl
  simp only [Act.put, List.setIfInBounds_toArray, List.set_cons_zero, List.set_cons_succ, List.getElem_toArray, List.getElem_cons_succ, List.getElem_cons_zero]
  refine wpAnyT_pure (i := 6) (v := ?_) rfl (by kernel_rfl) (by kernel_rfl) (by kernel_rfl) (fun _ _ _ h => h) (by rfl) ?_ ?_
  rotate_left
  · intro w; go_simp; try with_reducible rfl
  simp only [Act.put, List.setIfInBounds_toArray, List.set_cons_zero, List.set_cons_succ, List.getElem_toArray, List.getElem_cons_succ, List.getElem_cons_zero]
  refine wpAnyT_pure (i := 7) (v := ?_) rfl (by kernel_rfl) (by kernel_rfl) (by kernel_rfl) (fun _ _ _ h => h) (by rfl) ?_ ?_
  rotate_left
  · intro w; go_simp; try with_reducible rfl
  simp only [Act.put, List.setIfInBounds_toArray, List.set_cons_zero, List.set_cons_succ, List.getElem_toArray, List.getElem_cons_succ, List.getElem_cons_zero]
  refine wpAnyT_pure (i := 8) (v := ?_) rfl (by kernel_rfl) (by kernel_rfl) (by kernel_rfl) (fun _ _ _ h => h) (by rfl) ?_ ?_
  rotate_left
  · intro w; go_simp; try with_reducible rfl
  simp only [Act.put, List.setIfInBounds_toArray, List.set_cons_zero, List.set_cons_succ, List.getElem_toArray, List.getElem_cons_succ, List.getElem_cons_zero]
  refine wpAnyT_pure (i := 9) (v := ?_) rfl (by kernel_rfl) (by kernel_rfl) (by kernel_rfl) (fun _ _ _ h => h) (by rfl) ?_ ?_
  rotate_left
  · intro w; go_simp; try with_reducible rfl
  simp only [Act.put, List.setIfInBounds_toArray, List.set_cons_zero, List.set_cons_succ, List.getElem_toArray, List.getElem_cons_succ, List.getElem_cons_zero]
  refine wpAnyT_pure (i := 10) (v := ?_) rfl (by kernel_rfl) (by kernel_rfl) (by kernel_rfl) (fun _ _ _ h => h) (by rfl) ?_ ?_
  rotate_left
  · intro w; go_simp; try with_reducible rfl
  simp only [Act.put, List.setIfInBounds_toArray, List.set_cons_zero, List.set_cons_succ, List.getElem_toArray, List.getElem_cons_succ, List.getElem_cons_zero]
  refine wpAnyT_pure (i := 11) (v := ?_) rfl (by kernel_rfl) (by kernel_rfl) (by kernel_rfl) (fun _ _ _ h => h) (by rfl) ?_ ?_
  rotate_left
  · intro w; go_simp; try with_reducible rfl
  simp only [Act.put, List.setIfInBounds_toArray, List.set_cons_zero, List.set_cons_succ, List.getElem_toArray, List.getElem_cons_succ, List.getElem_cons_zero]
  refine wpAnyT_pure (i := 12) (v := ?_) rfl (by kernel_rfl) (by kernel_rfl) (by kernel_rfl) (fun _ _ _ h => h) (by rfl) ?_ ?_
  rotate_left
  · intro w; go_simp; try with_reducible rfl
  simp only [Act.put, List.setIfInBounds_toArray, List.set_cons_zero, List.set_cons_succ, List.getElem_toArray, List.getElem_cons_succ, List.getElem_cons_zero]
  refine wpAnyT_pure (i := 13) (v := ?_) rfl (by kernel_rfl) (by kernel_rfl) (by kernel_rfl) (fun _ _ _ h => h) (by rfl) ?_ ?_
  rotate_left
  · intro w; go_simp; try with_reducible rfl
  simp only [Act.put, List.setIfInBounds_toArray, List.set_cons_zero, List.set_cons_succ, List.getElem_toArray, List.getElem_cons_succ, List.getElem_cons_zero]
  refine wpAnyT_pure (i := 14) (v := ?_) rfl (by kernel_rfl) (by kernel_rfl) (by kernel_rfl) (fun _ _ _ h => h) (by rfl) ?_ ?_
  rotate_left
  · intro w; go_simp; try with_reducible rfl
  simp only [Act.put, List.setIfInBounds_toArray, List.set_cons_zero, List.set_cons_succ, List.getElem_toArray, List.getElem_cons_succ, List.getElem_cons_zero]
  refine wpAnyT_pure (i := 15) (v := ?_) rfl (by kernel_rfl) (by kernel_rfl) (by kernel_rfl) (fun _ _ _ h => h) (by rfl) ?_ ?_
  rotate_left
  · intro w; go_simp; try with_reducible rfl
  simp only [Act.put, List.setIfInBounds_toArray, List.set_cons_zero, List.set_cons_succ, List.getElem_toArray, List.getElem_cons_succ, List.getElem_cons_zero]
  refine wpAnyT_one (i := 16) (by kernel_rfl) rfl (by rfl) ?_
  obtain ⟨bl, hbl⟩ : ∃ b, s10.heap.size = b := ⟨_, rfl⟩
  refine wp_newrow (v := .slice (some ⟨bl, 0, none⟩) 5 5) (cs := #[.pointer (some ⟨eb, 20, none⟩), .pointer (some ⟨eb, 21, none⟩), .pointer (some ⟨eb, 22, none⟩), .pointer (some ⟨eb, 23, none⟩), .pointer (some ⟨eb, 24, none⟩)]) (te := 105) (by rw [← hbl]; go_simp) ?_
  intro w111 hX hN
  rw [hbl] at hN
  have hB_s10_w111 := below_step hB_s10_s10 hX
  have hB_w111_w111 := Below.refl w111.heap.size w111
  have hSsw111 := Cells.below hB_s10_w111 hSss10
  clear hX
  refine ⟨fun _ _ => hSsw111, ?_⟩
  try simp only [Act.put, List.setIfInBounds_toArray, List.set_cons_zero, List.set_cons_succ, List.getElem_toArray, List.getElem_cons_succ, List.getElem_cons_zero]
  refine wpAnyT_one (i := 17) (by kernel_rfl) rfl (by rfl) ?_
  have hbP : Below w0.heap.size w0 w111 := hB_0_s10.trans ((hB_s10_w111).mono (hB_0_s10).size)
  have hel := HT0.out.keep HE.out h1.1 h1.2
  have hee := (hbP.block _ (blk_lt hel.1)).trans hel.1
  have hbls : w0.heap.size ≤ bl := by rw [← hbl]; exact (hB_0_s10).size
  have hsz := blk_lt HS0.out.row
  refine wp_enter (f := 29) (args := #[.pointer (some ⟨s, 0, none⟩), .slice (some ⟨bl, 0, none⟩) 5 5]) (by go_simp) (num57 _ s v0 _ (HS0.out.below hbP) eb bl [20, 21, 22, 23, 24] (fun _ => 0) 105 hN (evCs n a b) te hee (by simp [evCs, Small]) ⟨h1.1, hel.2⟩ ⟨by omega, fun e => by have := (HS0.out.own.own _ e).2; omega⟩ (by decide) (by have := HX.out; simp only [List.length_append, List.length_cons, List.length_nil]; omega) 5 rfl) ?_
  rintro e w112 ⟨rfl, v1, hS9, hT9⟩
  refine ⟨_, rfl, fun h => absurd h (by decide), ?_⟩
  try simp only [Act.put, List.setIfInBounds_toArray, List.set_cons_zero, List.set_cons_succ, List.getElem_toArray, List.getElem_cons_succ, List.getElem_cons_zero]
  refine wpAnyT_done (by kernel_rfl) ?_ _
  obtain ⟨w1, rfl⟩ : ∃ x, x = w112 := ⟨_, rfl⟩
  have HS1 := Lib.hid (show St w1 s v1 (xs ++ [0, 0, 0, 0, 0]) from by simpa [List.append_assoc] using hS9)
  have HT1 := Lib.hid ((HT0.out.trans (StepS.below hbP)).trans hT9)
  clear hS9 hT9 hbP hel hee hbls hsz HC0
  go_wp2_with fail
  exact bodyPost_end (results_none rfl _ _ _) rfl ⟨rfl, _, HS1.out, HT1.out⟩
end Go.Proofs.YtlfloekanfhlfaaGreat

/- The codec's stream, writing: all; SameEvent. -/
set_option linter.unusedSimpArgs false
namespace Go.Proofs.YtlfloekanfhlfaaGreat
open Go.RowKit Go

set_option maxRecDepth 20000 in
set_option maxHeartbeats 1000000 in
theorem all57 (w : World) (s : Nat) (v0 : Value) (xs : List Int) (h : St w s v0 xs) (n a b : Int) (hn : Small n) (ha : Small a) (hb : Small b) (hx : xs.length ≤ 800) :
    Calls Tryz.prog 70 #[.pointer (some ⟨s, 0, none⟩), .agg (evCs n a b)] w (WrP s w v0 xs (allB n a b)) := by
  have hBE := (Below.refl w.heap.size w).alloc (Nat.le_refl _) (.cells (evCs n a b) 65)
  have HE := Lib.hid (alloc_new' (w := w) (o := .cells (evCs n a b) 65) rfl)
  have HBE := Lib.hid hBE
  have hsl := blk_lt h.row
  have HS0 := Lib.hid (h.below hBE)
  have h1 : w.heap.size ≠ s ∧ v0.ownBlock ≠ some w.heap.size := ⟨by omega, fun e => by have := (h.own.own _ e).2; omega⟩
  have HX := Lib.hid hx
  have hv0 : ∀ g, v0.ownBlock = some g → g < w.heap.size := fun g e => (h.own.own g e).2
  clear h hBE hx
  go_enter Tryz.func70, Tryz.ntmps70
  have HLB := Lib.hid (alloc_new' (w := w.alloc (.cells (evCs n a b) 65)) (o := .cells #[.pointer (some ⟨w.heap.size, 0, none⟩), .pointer (some ⟨w.heap.size, 25, none⟩), .pointer (some ⟨w.heap.size, 26, none⟩)] 105) (n := w.heap.size + 1) (by simp))
  have HB := Lib.hid ((Below.refl (w.alloc (.cells (evCs n a b) 65)).heap.size (w.alloc (.cells (evCs n a b) 65))).alloc (Nat.le_refl _) (.cells #[.pointer (some ⟨w.heap.size, 0, none⟩), .pointer (some ⟨w.heap.size, 25, none⟩), .pointer (some ⟨w.heap.size, 26, none⟩)] 105))
  go_wp2_with fail
  generalize hwl : World.alloc (w.alloc _) _ = wl at HB HLB ⊢
  clear hwl
  generalize hw0 : w.alloc _ = w0 at HE HBE HS0 HB
  clear hw0
  obtain ⟨eb, heb⟩ : ∃ q, w.heap.size = q := ⟨_, rfl⟩
  have HEB := Lib.hid heb
  rw [heb] at HE h1 HLB ⊢
  have hsz := blk_lt HS0.out.row
  have HT0 := Lib.hid (StepS.refl s w0 v0)
  have hee := (HB.out.block _ (blk_lt HE.out)).trans HE.out
  have hown : ∀ g, v0.ownBlock = some g → g < w0.heap.size := fun g e => (HS0.out.own.own g e).2
  have hlt1 := blk_lt HE.out
  refine (num57 _ s v0 _ (HS0.out.below HB.out) eb (eb + 1) [0, 25, 26] (fun o => if o = 0 then n else if o = 25 then a else b) 105 HLB.out (evCs n a b) _ hee (by
    intro o ho
    simp at ho
    rcases ho with rfl | rfl | rfl
    · exact ⟨rfl, hn⟩
    · exact ⟨rfl, ha⟩
    · exact ⟨rfl, hb⟩) ⟨h1.1, h1.2⟩ ⟨by omega, fun e => by have := hv0 _ e; omega⟩ (by decide) (by have := HX.out; omega) 3 rfl).mono ?_
  rintro e w1 ⟨rfl, v1, hS9, hT9⟩
  have HS1 := Lib.hid (show St w1 s v1 (xs ++ [2 * n, 2 * a, 2 * b]) from by simpa [List.append_assoc] using hS9)
  have HT1 := Lib.hid ((HT0.out.trans (StepS.below HB.out)).trans hT9)
  clear hS9 hT9 HB HLB heb hsz hee hown hlt1 hv0
  go_wp2_with fail
  have hel := HT1.out.keep HE.out h1.1 h1.2
  refine (entry57 w1 s v1 _ HS1.out eb _ n a b hel.1 ⟨h1.1, hel.2⟩ (by have := HX.out; simp only [allB, List.length_append, List.length_cons, List.length_nil]; omega)).mono ?_
  rintro e w2 ⟨rfl, v2, hS9, hT9⟩
  have HS2 := Lib.hid (show St w2 s v2 (xs ++ [2 * n, 2 * a, 2 * b, 0, 0, 0, 0, 0, 0, 0]) from by simpa [List.append_assoc] using hS9)
  have HT2 := Lib.hid (HT1.out.trans hT9)
  clear hS9 hT9 hel
  go_wp2_with fail
  have hel := HT2.out.keep HE.out h1.1 h1.2
  refine (rate57 w2 s v2 _ HS2.out eb _ n a b hel.1 ⟨h1.1, hel.2⟩ (by have := HX.out; simp only [allB, List.length_append, List.length_cons, List.length_nil]; omega)).mono ?_
  rintro e w3 ⟨rfl, v3, hS9, hT9⟩
  have HS3 := Lib.hid (show St w3 s v3 (xs ++ [2 * n, 2 * a, 2 * b, 0, 0, 0, 0, 0, 0, 0, 0, 0, 0, 0]) from by simpa [List.append_assoc] using hS9)
  have HT3 := Lib.hid (HT2.out.trans hT9)
  clear hS9 hT9 hel
  go_wp2_with fail
  have hel := HT3.out.keep HE.out h1.1 h1.2
  refine (holding57 w3 s v3 _ HS3.out eb _ n a b hel.1 ⟨h1.1, hel.2⟩ (by have := HX.out; simp only [allB, List.length_append, List.length_cons, List.length_nil]; omega)).mono ?_
  rintro e w4 ⟨rfl, v4, hS9, hT9⟩
  have HS4 := Lib.hid (show St w4 s v4 (xs ++ [2 * n, 2 * a, 2 * b, 0, 0, 0, 0, 0, 0, 0, 0, 0, 0, 0, 0, 0, 0, 0]) from by simpa [List.append_assoc] using hS9)
  have HT4 := Lib.hid (HT3.out.trans hT9)
  clear hS9 hT9 hel
  go_wp2_with fail
  have hel := HT4.out.keep HE.out h1.1 h1.2
  refine (match57 w4 s v4 _ HS4.out eb _ n a b hel.1 ⟨h1.1, hel.2⟩ (by have := HX.out; simp only [allB, List.length_append, List.length_cons, List.length_nil]; omega)).mono ?_
  rintro e w5 ⟨rfl, v5, hS9, hT9⟩
  have HS5 := Lib.hid (show St w5 s v5 (xs ++ [2 * n, 2 * a, 2 * b, 0, 0, 0, 0, 0, 0, 0, 0, 0, 0, 0, 0, 0, 0, 0, 0, 0, 0, 0]) from by simpa [List.append_assoc] using hS9)
  have HT5 := Lib.hid (HT4.out.trans hT9)
  clear hS9 hT9 hel
  go_wp2_with fail
  have hel := HT5.out.keep HE.out h1.1 h1.2
  refine (stock57 w5 s v5 _ HS5.out eb _ n a b hel.1 ⟨h1.1, hel.2⟩ (by have := HX.out; simp only [allB, List.length_append, List.length_cons, List.length_nil]; omega)).mono ?_
  rintro e w6 ⟨rfl, v6, hS9, hT9⟩
  have HS6 := Lib.hid (show St w6 s v6 (xs ++ [2 * n, 2 * a, 2 * b, 0, 0, 0, 0, 0, 0, 0, 0, 0, 0, 0, 0, 0, 0, 0, 0, 0, 0, 0, 0, 0, 0, 0, 0]) from by simpa [List.append_assoc] using hS9)
  have HT6 := Lib.hid (HT5.out.trans hT9)
  clear hS9 hT9 hel
  go_wp2_with fail
  have hel := HT6.out.keep HE.out h1.1 h1.2
  refine (text57 w6 s v6 _ HS6.out eb 27 (evCs n a b) _ hel.1 rfl ⟨h1.1, hel.2⟩ (by have := HX.out; simp only [List.length_append, List.length_cons, List.length_nil]; omega)).mono ?_
  rintro e w7 ⟨rfl, v7, hS9, hT9⟩
  have HS7 := Lib.hid (show St w7 s v7 (xs ++ (allB n a b)) from by simpa [List.append_assoc, allB] using hS9)
  have HT7 := Lib.hid (HT6.out.trans hT9)
  clear hS9 hT9 hel
  go_wp2_with fail
  exact bodyPost_end (results_none rfl _ _ _) rfl ⟨rfl, _, HS7.out, (StepS.below HBE.out).trans HT7.out⟩
end Go.Proofs.YtlfloekanfhlfaaGreat

/- The codec: Equal, SameEvent. -/
set_option linter.unusedSimpArgs false
namespace Go.Proofs.YtlfloekanfhlfaaGreat
open Go.RowKit Go

set_option maxRecDepth 20000 in
set_option maxHeartbeats 1000000 in
theorem equal57 {S T : Nat → Prop} (w : World) (a1 : Option Addr) (c1 : Nat) (a2 : Option Addr) (c2 len : Nat) (xs : List Int) (h1 : Rd (.sl (.int .u8)) S w [.slice a1 len c1] xs) (h2 : Rd (.sl (.int .u8)) T w [.slice a2 len c2] xs)
    (hS : ∀ b, S b → b < w.heap.size) (hT : ∀ b, T b → b < w.heap.size) :
    Calls Tryz.prog 71 #[.slice a1 len c1, .slice a2 len c2] w fun e w' => e = .returned (.bool true) ∧ Below w.heap.size w w' := by
  obtain ⟨m1, m2, m3, q1, -⟩ := h1.ints
  obtain ⟨-, -, -, q2, -⟩ := h2.ints
  have Q1 := Lib.hid q1
  have Q2 := Lib.hid q2
  have HS := Lib.hid hS
  have HT := Lib.hid hT
  clear h1 h2 q1 q2 hS hT m1
  go_enter Tryz.func71, Tryz.ntmps71
  go_wp2_with fail
  go_loopw [13] (fun i wr => ∃ k : Nat, k ≤ len ∧ i = .int .i64 k ∧ Below w.heap.size w wr) (fun i _ => len - (intOf i).toNat)
  case atStart => exact ⟨0, Nat.zero_le _, rfl, Below.refl _ _⟩
  case round =>
    obtain ⟨k, hk, rfl, hB⟩ := hrel
    have HB := Lib.hid hB
    by_cases hlt : k < len
    · obtain ⟨b1, o1, rfl, hb1, y1⟩ := Q1.out k hlt
      obtain ⟨b2, o2, rfl, hb2, y2⟩ := Q2.out k hlt
      have z1 := (World.cell?_of_block (w := w) (w' := wr) (a := ⟨b1, o1 + k, none⟩) (hB.block b1 (HS.out b1 hb1))).trans y1
      have z2 := (World.cell?_of_block (w := w) (w' := wr) (a := ⟨b2, o2 + k, none⟩) (hB.block b2 (HT.out b2 hb2))).trans y2
      clear hB y1 y2 hb1 hb2
      generalize xs[k]?.getD 0 = x at z1 z2
      go_wp2_with fail
      go_quiet (fail)
      go_wp2_with fail
      go_roundw
      case rel => exact ⟨k + 1, by omega, by go_num, below_drewN HB.out _⟩
      case measure => simp [intOf]; omega
    · obtain rfl : k = len := by omega
      go_wp2_with fail
      go_ret
      exact ⟨rfl, HB.out⟩
set_option maxRecDepth 20000 in
set_option maxHeartbeats 1000000 in
theorem same57 (w : World) (n a b : Int) (hn : Small n) (ha : Small a) (hb : Small b) :
    Calls Tryz.prog 47 #[.agg (evCs n a b), .agg (evCs n a b)] w fun e w' => e = .returned (.bool true) ∧ Below w.heap.size w w' := by
  have hB := (((((Below.refl w.heap.size w).alloc (Nat.le_refl _) (.cells (evCs n a b) 65)).alloc (by simp) (.cells (evCs n a b) 65)).alloc (by simp <;> omega) (.cells #[.slice none 0 0, .bool false, .bool false] 103)).alloc (by simp <;> omega) (.cells #[.slice none 0 0, .bool false, .bool false] 103))
  have HX := Lib.hid (alloc_old' (o := .cells #[.slice none 0 0, .bool false, .bool false] 103) (alloc_old' (o := .cells #[.slice none 0 0, .bool false, .bool false] 103) (alloc_old' (o := .cells (evCs n a b) 65) (alloc_new' (w := w) (o := .cells (evCs n a b) 65) rfl))))
  have HY := Lib.hid (alloc_old' (o := .cells #[.slice none 0 0, .bool false, .bool false] 103) (alloc_old' (o := .cells #[.slice none 0 0, .bool false, .bool false] 103) (alloc_new' (w := w.alloc (.cells (evCs n a b) 65)) (o := .cells (evCs n a b) 65) (n := w.heap.size + 1) (by simp))))
  have HSA := Lib.hid (alloc_old' (o := .cells #[.slice none 0 0, .bool false, .bool false] 103) (alloc_new' (w := (w.alloc (.cells (evCs n a b) 65)).alloc (.cells (evCs n a b) 65)) (o := .cells #[.slice none 0 0, .bool false, .bool false] 103) (n := w.heap.size + 1 + 1) (by simp)))
  have HSB := Lib.hid (alloc_new' (w := ((w.alloc (.cells (evCs n a b) 65)).alloc (.cells (evCs n a b) 65)).alloc (.cells #[.slice none 0 0, .bool false, .bool false] 103)) (o := .cells #[.slice none 0 0, .bool false, .bool false] 103) (n := w.heap.size + 1 + 1 + 1) (by simp))
  have HB := Lib.hid hB
  clear hB
  go_enter Tryz.func47, Tryz.ntmps47
  go_wp2_with (refine wpList_load_row rfl 65 _ rfl w.heap.size rfl 65 (evCs n a b) (0, 0) _ HX.out Tryz.underlying65 rfl (by kernel_rfl) ?_)
  generalize hw4 : World.alloc (World.alloc (World.alloc (w.alloc _) _) _) _ = w4 at HB HX HY HSA HSB ⊢
  clear hw4
  refine (all57 w4 _ (.slice none 0 0) [] ⟨HSA.out, Owns.nil _ _ _ _, by simp [Value.ownBlock]⟩ n a b hn ha hb (by simp)).mono ?_
  rintro e w5 ⟨rfl, va, hSa, hTa⟩
  have hB5 : Below w.heap.size w w5 := HB.out.trans (hTa.g.below (fun b e => e.elim (fun e => by omega) (fun e => by simp [Value.ownBlock] at e)) HB.out.size)
  have hy5 := hTa.keep HY.out (by omega) (by simp [Value.ownBlock])
  have hb5 := hTa.keep HSB.out (by omega) (by simp [Value.ownBlock])
  have hown5 : ∀ g, va.ownBlock = some g → w4.heap.size ≤ g := fun g e => (hTa.nb g e).elim (fun e => by simp [Value.ownBlock] at e) id
  have HY5 := Lib.hid hy5.1
  have HSB5 := Lib.hid hb5.1
  have HB5 := Lib.hid hB5
  have HSa := Lib.hid hSa
  have hlt4 := blk_lt HSB.out
  clear hSa hTa hB5 hy5 hb5 HX HY HSA HSB
  go_wp2_with (refine wpList_load_row rfl 65 _ rfl (w.heap.size + 1) rfl 65 (evCs n a b) (0, 0) _ HY5.out Tryz.underlying65 rfl (by kernel_rfl) ?_)
  refine (all57 w5 _ (.slice none 0 0) [] ⟨HSB5.out, Owns.nil _ _ _ _, by simp [Value.ownBlock]⟩ n a b hn ha hb (by simp)).mono ?_
  rintro e w6 ⟨rfl, vb, hSb, hTb⟩
  have hB6 : Below w.heap.size w w6 := HB5.out.trans (hTb.g.below (fun b e => e.elim (fun e => by omega) (fun e => by simp [Value.ownBlock] at e)) HB5.out.size)
  have hra := hTb.keep HSa.out.row (by omega) (by simp [Value.ownBlock])
  have hoa := HSa.out.own.gr hTb.g (fun _ h => h.elim) (fun g e h => h.elim (fun h => by have := hown5 g e; omega) (fun h => by simp [Value.ownBlock] at h))
  obtain ⟨a1, l1, c1, rfl, hl1⟩ := HSa.out.slice
  obtain ⟨a2, l2, c2, rfl, hl2⟩ := hSb.slice
  have r1 := hoa.rd (fun b => b < w6.heap.size) (fun _ h => h.elim) (fun b e => (hoa.own b e).2)
  have r2 := hSb.own.rd (fun b => b < w6.heap.size) (fun _ h => h.elim) (fun b e => (hSb.own.own b e).2)
  obtain rfl : l1 = l2 := by rw [hl1, hl2]
  have HR1 := Lib.hid r1
  have HR2 := Lib.hid r2
  have HB6 := Lib.hid hB6
  have HC0 : Cells [(⟨w.heap.size + 1 + 1, 0, none⟩, .slice a1 l1 c1), (⟨w.heap.size + 1 + 1 + 1, 0, none⟩, .slice a2 l1 c2)] w6 := ⟨blk_cell hra.1 0, blk_cell hSb.row 0, trivial⟩
  clear hB6 hra hoa hSb hTb r1 r2 hl1 hl2 HB5 HSB5 HY5 HSa hown5 hlt4
  go_wp2_with fail
  refine wp_region_T (Cells [(⟨w.heap.size + 1 + 1, 0, none⟩, .slice a1 l1 c1), (⟨w.heap.size + 1 + 1 + 1, 0, none⟩, .slice a2 l1 c2)]) (fun _ => false) (by kernel_rfl) ?_
  have hSss1 := Cells.drew HC0
  have hB_0_s1 : Below w6.heap.size w6 w6.drew := below_drew _
  generalize w6.drew = s1 at hSss1 hB_0_s1 ⊢
  have hB_s1_s1 := Below.refl s1.heap.size s1
  refine wpAnyT_pure (i := 0) (v := ?_) rfl (by kernel_rfl) (by kernel_rfl) (by kernel_rfl) (fun _ _ _ h => h) (by rfl) ?_ ?_
  rotate_left
  · intro w; go_simp; try with_reducible rfl
  simp only [Act.put, List.setIfInBounds_toArray, List.set_cons_zero, List.set_cons_succ, List.getElem_toArray, List.getElem_cons_succ, List.getElem_cons_zero]
  refine wpAnyT_pure (i := 1) (v := ?_) rfl (by kernel_rfl) (by kernel_rfl) (by kernel_rfl) (fun _ _ _ h => h) (by rfl) ?_ ?_
  rotate_left
  · intro w; go_simp; try with_reducible rfl
  simp only [Act.put, List.setIfInBounds_toArray, List.set_cons_zero, List.set_cons_succ, List.getElem_toArray, List.getElem_cons_succ, List.getElem_cons_zero]
  refine wpAnyT_pure (i := 2) (v := ?_) rfl (by kernel_rfl) (by kernel_rfl) (by kernel_rfl) (fun _ _ _ h => h) (by rfl) ?_ ?_
  rotate_left
  · intro w; go_simp; try with_reducible rfl
  simp only [Act.put, List.setIfInBounds_toArray, List.set_cons_zero, List.set_cons_succ, List.getElem_toArray, List.getElem_cons_succ, List.getElem_cons_zero]
  refine wpAnyT_pure (i := 4) (v := ?_) rfl (by kernel_rfl) (by kernel_rfl) (by kernel_rfl) (fun _ _ _ h => h) (by rfl) ?_ ?_
  rotate_left
  · intro w; go_simp; try with_reducible rfl
  simp only [Act.put, List.setIfInBounds_toArray, List.set_cons_zero, List.set_cons_succ, List.getElem_toArray, List.getElem_cons_succ, List.getElem_cons_zero]
  refine wpAnyT_pure (i := 5) (v := ?_) rfl (by kernel_rfl) (by kernel_rfl) (by kernel_rfl) (fun _ _ _ h => h) (by rfl) ?_ ?_
  rotate_left
  · intro w; go_simp; try with_reducible rfl
  simp only [Act.put, List.setIfInBounds_toArray, List.set_cons_zero, List.set_cons_succ, List.getElem_toArray, List.getElem_cons_succ, List.getElem_cons_zero]
  refine wpAnyT_pure (i := 6) (v := ?_) rfl (by kernel_rfl) (by kernel_rfl) (by kernel_rfl) (fun _ _ _ h => h) (by rfl) ?_ ?_
  rotate_left
  · intro w; go_simp; try with_reducible rfl
  simp only [Act.put, List.setIfInBounds_toArray, List.set_cons_zero, List.set_cons_succ, List.getElem_toArray, List.getElem_cons_succ, List.getElem_cons_zero]
  refine wpAnyT_loadW (i := 3) (v := ?_) rfl (by kernel_rfl) (by kernel_rfl) (by kernel_rfl) (by kernel_rfl) (by kernel_rfl) (fun _ _ _ h => h) (Or.inl ⟨by rfl, ?_⟩) hSss1 ?_
  rotate_left
  · intro w hSw; obtain ⟨e0, e1, -⟩ := hSw; go_simp; try with_reducible rfl
  simp only [Act.put, List.setIfInBounds_toArray, List.set_cons_zero, List.set_cons_succ, List.getElem_toArray, List.getElem_cons_succ, List.getElem_cons_zero]
  refine wpAnyT_loadW (i := 7) (v := ?_) rfl (by kernel_rfl) (by kernel_rfl) (by kernel_rfl) (by kernel_rfl) (by kernel_rfl) (fun _ _ _ h => h) (Or.inl ⟨by rfl, ?_⟩) hSss1 ?_
  rotate_left
  · intro w hSw; obtain ⟨e0, e1, -⟩ := hSw; go_simp; try with_reducible rfl
  simp only [Act.put, List.setIfInBounds_toArray, List.set_cons_zero, List.set_cons_succ, List.getElem_toArray, List.getElem_cons_succ, List.getElem_cons_zero]
  refine wpAnyT_one (i := 8) (by kernel_rfl) rfl (by rfl) ?_
  have hbP : Below w6.heap.size w6 s1 := hB_0_s1.trans ((hB_s1_s1).mono (hB_0_s1).size)
  refine wp_enter (f := 71) (args := #[.slice a1 l1 c1, .slice a2 l1 c2]) (by go_simp) (equal57 _ a1 c1 a2 c2 l1 _ (HR1.out.below hbP (fun _ h => h)) (HR2.out.below hbP (fun _ h => h)) (fun b h => Nat.lt_of_lt_of_le h hbP.size) (fun b h => Nat.lt_of_lt_of_le h hbP.size)) ?_
  rintro e w102 ⟨rfl, hX⟩
  have hB_s1_w102 := below_step hB_s1_s1 hX
  have hB_w102_w102 := Below.refl w102.heap.size w102
  have hSsw102 := Cells.below hB_s1_w102 hSss1
  clear hX
  refine ⟨_, rfl, fun _ _ => hSsw102, ?_⟩
  try simp only [Act.put, List.setIfInBounds_toArray, List.set_cons_zero, List.set_cons_succ, List.getElem_toArray, List.getElem_cons_succ, List.getElem_cons_zero]
  refine wpAnyT_pure (i := 9) (v := ?_) rfl (by kernel_rfl) (by kernel_rfl) (by kernel_rfl) (fun _ _ _ h => h) (by rfl) ?_ ?_
  rotate_left
  · intro w; go_simp; try with_reducible rfl
  simp only [Act.put, List.setIfInBounds_toArray, List.set_cons_zero, List.set_cons_succ, List.getElem_toArray, List.getElem_cons_succ, List.getElem_cons_zero]
  refine wpAnyT_done (by kernel_rfl) ?_ _
  have hbP : Below w6.heap.size w6 w102 := hB_0_s1.trans ((hB_s1_w102).mono (hB_0_s1).size)
  go_wp2_with fail
  go_ret
  exact ⟨rfl, below_step HB6.out hbP⟩
end Go.Proofs.YtlfloekanfhlfaaGreat
