/- Layer 48: the stack is cut. -/
import Derived.Test.YtmmeieangbcfaaaC48i
set_option linter.unusedSimpArgs false
namespace Go.Proofs.Ytmmeieangbcfaaa
open Go.RowKit Go

theorem grownBy_refl (w : World) (r : Option Nat) : w.grownBy w r := ⟨rfl, rfl, rfl, Nat.le_refl _, fun _ _ _ => rfl⟩
theorem row_pop {w : World} {te : TypeId} {sv : Value} {st : List (Option Nat)} {x : Option Nat} (h : w.ownsRow 0 te 1 sv (st ++ [x]).length ((st ++ [x]).map ptrV)) :
    ∃ g cap, sv = .slice (some ⟨g, 0, none⟩) (st.length + 1) cap ∧ st.length + 1 ≤ cap ∧ cap ≤ 9223372036854775807 ∧ w.ownsRow 0 te 1 (.slice (some ⟨g, 0, none⟩) st.length cap) st.length (st.map ptrV) ∧ w.cell? ⟨g, st.length, none⟩ = some (ptrV x) := by
  obtain ⟨h1, h2⟩ := h
  rcases h2 with ⟨_, h0⟩ | ⟨g, cap, cur, hv, hg, hh, hn, hcap, hsz, htake⟩
  · simp at h0
  · rw [List.length_append] at hv hn htake
    simp only [List.length_cons, List.length_nil] at hv hn htake
    refine ⟨g, cap, by simpa using hv, by omega, by simpa [maxLen] using hcap, ⟨by simp, .inr ⟨g, cap, cur, rfl, hg, hh, by omega, hcap, hsz, ?_⟩⟩, ?_⟩
    · have h3 : (cur.toList.take ((st.length + 1) * 1)).take st.length = ((st ++ [x]).map ptrV).take st.length := by rw [show st.length + (0 + 1) = st.length + 1 from rfl] at htake; rw [htake]
      rw [List.take_take, Nat.min_eq_left (by omega)] at h3
      rw [Nat.mul_one, h3, List.map_append, List.take_left' (by simp)]
    · rw [blk_cell hh]
      have h4 : (cur.toList.take ((st.length + (0 + 1)) * 1))[st.length]? = ((st ++ [x]).map ptrV)[st.length]? := by rw [htake]
      rw [List.getElem?_take_of_lt (by omega)] at h4
      simpa using h4
set_option maxRecDepth 20000 in
set_option maxHeartbeats 1000000 in
/-- The deferred cut of the stack. -/
theorem cut48 {F : Nat → Nat} (w : World) {p : Nat} {iv : Value} {s : MS} {st : List (Option Nat)} {x : Option Nat} {kb pb : Nat} {sv cv : Value} {eb : C4 → Option Nat} (h : MemoIn F w p iv s (st ++ [x]) kb pb sv cv eb) (mb : Nat) (hmb : w.cell? ⟨mb, 0, none⟩ = some (.pointer (some ⟨p, 0, none⟩))) :
    Calls Try.prog 28 #[.pointer (some ⟨mb, 0, none⟩)] w fun e w' => e = .returned (.tuple #[]) ∧ ∃ F' sv', MemoIn F' w' p iv s st kb pb sv' cv eb ∧ (∀ b, b < w.heap.size → F' b = F b) ∧ Gr (Mem F) w w' := by
  obtain ⟨g, cap, rfl, hc1, hc2, hrow, -⟩ := row_pop h.stk
  have H := Lib.hid h
  have HR := Lib.hid hrow
  have c3 := blk_cell h.row 3
  simp at c3
  have hC0 : Cells [(⟨mb, 0, none⟩, .pointer (some ⟨p, 0, none⟩)), (⟨p, 3, none⟩, .slice (some ⟨g, 0, none⟩) (st.length + 1) cap)] w := ⟨hmb, c3, trivial⟩
  have hwr : IntKind.i64.wrap (st.length : Int) = (st.length : Int) := by
    simp [IntKind.wrap, IntKind.signed, IntKind.bits]
    omega
  have hcI : (st.length : Int) ≤ (cap : Int) := by omega
  have hc0 : (0 : Int) ≤ (st.length : Int) := by omega
  clear h hrow hmb c3
  go_enter Try.func28, Try.ntmps28
  refine wp_region_T (Cells [(⟨mb, 0, none⟩, .pointer (some ⟨p, 0, none⟩)), (⟨p, 3, none⟩, .slice (some ⟨g, 0, none⟩) (st.length + 1) cap)]) (fun i => i == 14) (by kernel_rfl) ?_
  have hSss1 := Cells.drew hC0
  have hB_0_s1 : Below w.heap.size w w.drew := below_drew _
  generalize w.drew = s1 at hSss1 hB_0_s1 ⊢
  have hB_s1_s1 := Below.refl s1.heap.size s1
  refine wpAnyT_loadW (i := 0) (v := ?_) rfl (by kernel_rfl) (by kernel_rfl) (by kernel_rfl) (by kernel_rfl) (by kernel_rfl) (fun _ _ _ h => h) (Or.inl ⟨by rfl, ?_⟩) hSss1 ?_
  rotate_left
  · intro w hSw; obtain ⟨e0, e1, -⟩ := hSw; go_simp; try with_reducible rfl
  simp only [Act.put, List.setIfInBounds_toArray, List.set_cons_zero, List.set_cons_succ, List.getElem_toArray, List.getElem_cons_succ, List.getElem_cons_zero]
  refine wpAnyT_loadW (i := 1) (v := ?_) rfl (by kernel_rfl) (by kernel_rfl) (by kernel_rfl) (by kernel_rfl) (by kernel_rfl) (fun _ _ _ h => h) (Or.inl ⟨by rfl, ?_⟩) hSss1 ?_
  rotate_left
  · intro w hSw; obtain ⟨e0, e1, -⟩ := hSw; go_simp; try with_reducible rfl
  simp only [Act.put, List.setIfInBounds_toArray, List.set_cons_zero, List.set_cons_succ, List.getElem_toArray, List.getElem_cons_succ, List.getElem_cons_zero]
  refine wpAnyT_pure (i := 2) (v := ?_) rfl (by kernel_rfl) (by kernel_rfl) (by kernel_rfl) (fun _ _ _ h => h) (by rfl) ?_ ?_
  rotate_left
  · intro w; go_simp; try with_reducible rfl
  simp only [Act.put, List.setIfInBounds_toArray, List.set_cons_zero, List.set_cons_succ, List.getElem_toArray, List.getElem_cons_succ, List.getElem_cons_zero]
  refine wpAnyT_pure (i := 3) (v := ?_) rfl (by kernel_rfl) (by kernel_rfl) (by kernel_rfl) (fun _ _ _ h => h) (by rfl) ?_ ?_
  rotate_left
  · intro w; go_simp; try with_reducible rfl
  simp only [Act.put, List.setIfInBounds_toArray, List.set_cons_zero, List.set_cons_succ, List.getElem_toArray, List.getElem_cons_succ, List.getElem_cons_zero]
  refine wpAnyT_loadW (i := 4) (v := ?_) rfl (by kernel_rfl) (by kernel_rfl) (by kernel_rfl) (by kernel_rfl) (by kernel_rfl) (fun _ _ _ h => h) (Or.inl ⟨by rfl, ?_⟩) hSss1 ?_
  rotate_left
  · intro w hSw; obtain ⟨e0, e1, -⟩ := hSw; go_simp; try with_reducible rfl
  simp only [Act.put, List.setIfInBounds_toArray, List.set_cons_zero, List.set_cons_succ, List.getElem_toArray, List.getElem_cons_succ, List.getElem_cons_zero]
  refine wpAnyT_loadW (i := 5) (v := ?_) rfl (by kernel_rfl) (by kernel_rfl) (by kernel_rfl) (by kernel_rfl) (by kernel_rfl) (fun _ _ _ h => h) (Or.inl ⟨by rfl, ?_⟩) hSss1 ?_
  rotate_left
  · intro w hSw; obtain ⟨e0, e1, -⟩ := hSw; go_simp; try with_reducible rfl
  simp only [Act.put, List.setIfInBounds_toArray, List.set_cons_zero, List.set_cons_succ, List.getElem_toArray, List.getElem_cons_succ, List.getElem_cons_zero]
  refine wpAnyT_pure (i := 6) (v := ?_) rfl (by kernel_rfl) (by kernel_rfl) (by kernel_rfl) (fun _ _ _ h => h) (by rfl) ?_ ?_
  rotate_left
  · intro w; go_simp; try with_reducible rfl
  simp only [Act.put, List.setIfInBounds_toArray, List.set_cons_zero, List.set_cons_succ, List.getElem_toArray, List.getElem_cons_succ, List.getElem_cons_zero]
  refine wpAnyT_pure (i := 7) (v := ?_) rfl (by kernel_rfl) (by kernel_rfl) (by kernel_rfl) (fun _ _ _ h => h) (by rfl) ?_ ?_
  rotate_left
  · intro w; go_simp; try with_reducible rfl
  simp only [Act.put, List.setIfInBounds_toArray, List.set_cons_zero, List.set_cons_succ, List.getElem_toArray, List.getElem_cons_succ, List.getElem_cons_zero]
  refine wpAnyT_loadW (i := 8) (v := ?_) rfl (by kernel_rfl) (by kernel_rfl) (by kernel_rfl) (by kernel_rfl) (by kernel_rfl) (fun _ _ _ h => h) (Or.inl ⟨by rfl, ?_⟩) hSss1 ?_
  rotate_left
  · intro w hSw; obtain ⟨e0, e1, -⟩ := hSw; go_simp; try with_reducible rfl
  simp only [Act.put, List.setIfInBounds_toArray, List.set_cons_zero, List.set_cons_succ, List.getElem_toArray, List.getElem_cons_succ, List.getElem_cons_zero]
  refine wpAnyT_pure (i := 9) (v := ?_) rfl (by kernel_rfl) (by kernel_rfl) (by kernel_rfl) (fun _ _ _ h => h) (by rfl) ?_ ?_
  rotate_left
  · intro w; go_simp; try with_reducible rfl
  simp only [Act.put, List.setIfInBounds_toArray, List.set_cons_zero, List.set_cons_succ, List.getElem_toArray, List.getElem_cons_succ, List.getElem_cons_zero]
  refine wpAnyT_pure (i := 10) (v := ?_) rfl (by kernel_rfl) (by kernel_rfl) (by kernel_rfl) (fun _ _ _ h => h) (by rfl) ?_ ?_
  rotate_left
  · intro w; go_simp; try with_reducible rfl
  simp only [Act.put, List.setIfInBounds_toArray, List.set_cons_zero, List.set_cons_succ, List.getElem_toArray, List.getElem_cons_succ, List.getElem_cons_zero]
  refine wpAnyT_pure (i := 11) (v := ?_) rfl (by kernel_rfl) (by kernel_rfl) (by kernel_rfl) (fun _ _ _ h => h) (by rfl) ?_ ?_
  rotate_left
  · intro w; go_simp; try with_reducible rfl
  simp only [Act.put, List.setIfInBounds_toArray, List.set_cons_zero, List.set_cons_succ, List.getElem_toArray, List.getElem_cons_succ, List.getElem_cons_zero]
  refine wpAnyT_pure (i := 12) (v := ?_) rfl (by kernel_rfl) (by kernel_rfl) (by kernel_rfl) (fun _ _ _ h => h) (by rfl) ?_ ?_
  rotate_left
  · intro w; go_simp; try with_reducible rfl
  simp only [Act.put, List.setIfInBounds_toArray, List.set_cons_zero, List.set_cons_succ, List.getElem_toArray, List.getElem_cons_succ, List.getElem_cons_zero]
  refine wpAnyT_pure (i := 13) (v := ?_) rfl (by kernel_rfl) (by kernel_rfl) (by kernel_rfl) (fun _ _ _ h => h) (by rfl) ?_ ?_
  rotate_left
  · intro w; go_simp; try with_reducible rfl
  simp only [Act.put, List.setIfInBounds_toArray, List.set_cons_zero, List.set_cons_succ, List.getElem_toArray, List.getElem_cons_succ, List.getElem_cons_zero]
  refine wpAnyT_one (i := 14) (by kernel_rfl) rfl (by rfl) ?_
  have hbP : Below w.heap.size w s1 := hB_0_s1.trans ((hB_s1_s1).mono (hB_0_s1).size)
  have hMP := H.out.below hbP
  have hrP := ownsRow_gr HR.out (Gr.of_below (F := fun _ => False) hbP) (fun _ _ h => h)
  have f3 := blk_frozen hMP.row 3
  have c3 := blk_cell hMP.row 3
  simp at c3
  obtain ⟨F', hM', hF', hG'⟩ := hMP.setStack (grownBy_refl _ _) hrP (fun b hb => .inl hb)
  refine wp_store1 (w' := (s1).setCell ⟨p, 3, none⟩ (.slice (some ⟨g, 0, none⟩) st.length cap)) 66 (.tmp 14) (.tmp 12) rfl ⟨p, 3, none⟩ (.slice (some ⟨g, 0, none⟩) st.length cap) (by kernel_rfl) (by kernel_rfl) (by go_simp) ?_
  generalize (s1).setCell ⟨p, 3, none⟩ (.slice (some ⟨g, 0, none⟩) st.length cap) = w102 at hM' hG' ⊢
  refine ⟨fun h => absurd h (by decide), ?_⟩
  try simp only [Act.put, List.setIfInBounds_toArray, List.set_cons_zero, List.set_cons_succ, List.getElem_toArray, List.getElem_cons_succ, List.getElem_cons_zero]
  refine wpAnyT_done (by kernel_rfl) ?_ _
  go_wp2
  go_end0
  exact ⟨rfl, F', _, hM', fun b hb => hF' b (Nat.lt_of_lt_of_le hb hbP.size), (Gr.of_below hbP).trans hG' (fun _ h => .inl h)⟩
set_option maxRecDepth 20000 in
set_option maxHeartbeats 1000000 in
/-- The same, deferred. -/
theorem cut48D {F : Nat → Nat} (w : World) {p : Nat} {iv : Value} {s : MS} {st : List (Option Nat)} {x : Option Nat} {kb pb : Nat} {sv cv : Value} {eb : C4 → Option Nat} (h : MemoIn F w p iv s (st ++ [x]) kb pb sv cv eb) (mb : Nat) (hmb : w.cell? ⟨mb, 0, none⟩ = some (.pointer (some ⟨p, 0, none⟩))) :
    CallsD Try.prog 28 #[.pointer (some ⟨mb, 0, none⟩)] .returning w fun e u w' => u = .returning ∧ e = .returned (.tuple #[]) ∧ ∃ F' sv', MemoIn F' w' p iv s st kb pb sv' cv eb ∧ (∀ b, b < w.heap.size → F' b = F b) ∧ Gr (Mem F) w w' := by
  obtain ⟨g, cap, rfl, hc1, hc2, hrow, -⟩ := row_pop h.stk
  have H := Lib.hid h
  have HR := Lib.hid hrow
  have c3 := blk_cell h.row 3
  simp at c3
  have hC0 : Cells [(⟨mb, 0, none⟩, .pointer (some ⟨p, 0, none⟩)), (⟨p, 3, none⟩, .slice (some ⟨g, 0, none⟩) (st.length + 1) cap)] w := ⟨hmb, c3, trivial⟩
  have hwr : IntKind.i64.wrap (st.length : Int) = (st.length : Int) := by
    simp [IntKind.wrap, IntKind.signed, IntKind.bits]
    omega
  have hcI : (st.length : Int) ≤ (cap : Int) := by omega
  have hc0 : (0 : Int) ≤ (st.length : Int) := by omega
  clear h hrow hmb c3
  refine (show CallsD Try.prog 28 #[.pointer (some ⟨mb, 0, none⟩)] .returning w (fun e u w' => u = .returning ∧ (e = .returned (.tuple #[]) ∧ ∃ F' sv', MemoIn F' w' p iv s st kb pb sv' cv eb ∧ (∀ b, b < w.heap.size → F' b = F b) ∧ Gr (Mem F) w w')) from ?_)
  go_enter_d Try.func28, Try.ntmps28
  refine wp_region_T (Cells [(⟨mb, 0, none⟩, .pointer (some ⟨p, 0, none⟩)), (⟨p, 3, none⟩, .slice (some ⟨g, 0, none⟩) (st.length + 1) cap)]) (fun i => i == 14) (by kernel_rfl) ?_
  have hSss3 := Cells.drew hC0
  have hB_0_s3 : Below w.heap.size w w.drew := below_drew _
  generalize w.drew = s3 at hSss3 hB_0_s3 ⊢
  have hB_s3_s3 := Below.refl s3.heap.size s3
  refine wpAnyT_loadW (i := 0) (v := ?_) rfl (by kernel_rfl) (by kernel_rfl) (by kernel_rfl) (by kernel_rfl) (by kernel_rfl) (fun _ _ _ h => h) (Or.inl ⟨by rfl, ?_⟩) hSss3 ?_
  rotate_left
  · intro w hSw; obtain ⟨e0, e1, -⟩ := hSw; go_simp; try with_reducible rfl
  simp only [Act.put, List.setIfInBounds_toArray, List.set_cons_zero, List.set_cons_succ, List.getElem_toArray, List.getElem_cons_succ, List.getElem_cons_zero]
  refine wpAnyT_loadW (i := 1) (v := ?_) rfl (by kernel_rfl) (by kernel_rfl) (by kernel_rfl) (by kernel_rfl) (by kernel_rfl) (fun _ _ _ h => h) (Or.inl ⟨by rfl, ?_⟩) hSss3 ?_
  rotate_left
  · intro w hSw; obtain ⟨e0, e1, -⟩ := hSw; go_simp; try with_reducible rfl
  simp only [Act.put, List.setIfInBounds_toArray, List.set_cons_zero, List.set_cons_succ, List.getElem_toArray, List.getElem_cons_succ, List.getElem_cons_zero]
  refine wpAnyT_pure (i := 2) (v := ?_) rfl (by kernel_rfl) (by kernel_rfl) (by kernel_rfl) (fun _ _ _ h => h) (by rfl) ?_ ?_
  rotate_left
  · intro w; go_simp; try with_reducible rfl
  simp only [Act.put, List.setIfInBounds_toArray, List.set_cons_zero, List.set_cons_succ, List.getElem_toArray, List.getElem_cons_succ, List.getElem_cons_zero]
  refine wpAnyT_pure (i := 3) (v := ?_) rfl (by kernel_rfl) (by kernel_rfl) (by kernel_rfl) (fun _ _ _ h => h) (by rfl) ?_ ?_
  rotate_left
  · intro w; go_simp; try with_reducible rfl
  simp only [Act.put, List.setIfInBounds_toArray, List.set_cons_zero, List.set_cons_succ, List.getElem_toArray, List.getElem_cons_succ, List.getElem_cons_zero]
  refine wpAnyT_loadW (i := 4) (v := ?_) rfl (by kernel_rfl) (by kernel_rfl) (by kernel_rfl) (by kernel_rfl) (by kernel_rfl) (fun _ _ _ h => h) (Or.inl ⟨by rfl, ?_⟩) hSss3 ?_
  rotate_left
  · intro w hSw; obtain ⟨e0, e1, -⟩ := hSw; go_simp; try with_reducible rfl
  simp only [Act.put, List.setIfInBounds_toArray, List.set_cons_zero, List.set_cons_succ, List.getElem_toArray, List.getElem_cons_succ, List.getElem_cons_zero]
  refine wpAnyT_loadW (i := 5) (v := ?_) rfl (by kernel_rfl) (by kernel_rfl) (by kernel_rfl) (by kernel_rfl) (by kernel_rfl) (fun _ _ _ h => h) (Or.inl ⟨by rfl, ?_⟩) hSss3 ?_
  rotate_left
  · intro w hSw; obtain ⟨e0, e1, -⟩ := hSw; go_simp; try with_reducible rfl
  simp only [Act.put, List.setIfInBounds_toArray, List.set_cons_zero, List.set_cons_succ, List.getElem_toArray, List.getElem_cons_succ, List.getElem_cons_zero]
  refine wpAnyT_pure (i := 6) (v := ?_) rfl (by kernel_rfl) (by kernel_rfl) (by kernel_rfl) (fun _ _ _ h => h) (by rfl) ?_ ?_
  rotate_left
  · intro w; go_simp; try with_reducible rfl
  simp only [Act.put, List.setIfInBounds_toArray, List.set_cons_zero, List.set_cons_succ, List.getElem_toArray, List.getElem_cons_succ, List.getElem_cons_zero]
  refine wpAnyT_pure (i := 7) (v := ?_) rfl (by kernel_rfl) (by kernel_rfl) (by kernel_rfl) (fun _ _ _ h => h) (by rfl) ?_ ?_
  rotate_left
  · intro w; go_simp; try with_reducible rfl
  simp only [Act.put, List.setIfInBounds_toArray, List.set_cons_zero, List.set_cons_succ, List.getElem_toArray, List.getElem_cons_succ, List.getElem_cons_zero]
  refine wpAnyT_loadW (i := 8) (v := ?_) rfl (by kernel_rfl) (by kernel_rfl) (by kernel_rfl) (by kernel_rfl) (by kernel_rfl) (fun _ _ _ h => h) (Or.inl ⟨by rfl, ?_⟩) hSss3 ?_
  rotate_left
  · intro w hSw; obtain ⟨e0, e1, -⟩ := hSw; go_simp; try with_reducible rfl
  simp only [Act.put, List.setIfInBounds_toArray, List.set_cons_zero, List.set_cons_succ, List.getElem_toArray, List.getElem_cons_succ, List.getElem_cons_zero]
  refine wpAnyT_pure (i := 9) (v := ?_) rfl (by kernel_rfl) (by kernel_rfl) (by kernel_rfl) (fun _ _ _ h => h) (by rfl) ?_ ?_
  rotate_left
  · intro w; go_simp; try with_reducible rfl
  simp only [Act.put, List.setIfInBounds_toArray, List.set_cons_zero, List.set_cons_succ, List.getElem_toArray, List.getElem_cons_succ, List.getElem_cons_zero]
  refine wpAnyT_pure (i := 10) (v := ?_) rfl (by kernel_rfl) (by kernel_rfl) (by kernel_rfl) (fun _ _ _ h => h) (by rfl) ?_ ?_
  rotate_left
  · intro w; go_simp; try with_reducible rfl
  simp only [Act.put, List.setIfInBounds_toArray, List.set_cons_zero, List.set_cons_succ, List.getElem_toArray, List.getElem_cons_succ, List.getElem_cons_zero]
  refine wpAnyT_pure (i := 11) (v := ?_) rfl (by kernel_rfl) (by kernel_rfl) (by kernel_rfl) (fun _ _ _ h => h) (by rfl) ?_ ?_
  rotate_left
  · intro w; go_simp; try with_reducible rfl
  simp only [Act.put, List.setIfInBounds_toArray, List.set_cons_zero, List.set_cons_succ, List.getElem_toArray, List.getElem_cons_succ, List.getElem_cons_zero]
  refine wpAnyT_pure (i := 12) (v := ?_) rfl (by kernel_rfl) (by kernel_rfl) (by kernel_rfl) (fun _ _ _ h => h) (by rfl) ?_ ?_
  rotate_left
  · intro w; go_simp; try with_reducible rfl
  simp only [Act.put, List.setIfInBounds_toArray, List.set_cons_zero, List.set_cons_succ, List.getElem_toArray, List.getElem_cons_succ, List.getElem_cons_zero]
  refine wpAnyT_pure (i := 13) (v := ?_) rfl (by kernel_rfl) (by kernel_rfl) (by kernel_rfl) (fun _ _ _ h => h) (by rfl) ?_ ?_
  rotate_left
  · intro w; go_simp; try with_reducible rfl
  simp only [Act.put, List.setIfInBounds_toArray, List.set_cons_zero, List.set_cons_succ, List.getElem_toArray, List.getElem_cons_succ, List.getElem_cons_zero]
  refine wpAnyT_one (i := 14) (by kernel_rfl) rfl (by rfl) ?_
  have hbP : Below w.heap.size w s3 := hB_0_s3.trans ((hB_s3_s3).mono (hB_0_s3).size)
  have hMP := H.out.below hbP
  have hrP := ownsRow_gr HR.out (Gr.of_below (F := fun _ => False) hbP) (fun _ _ h => h)
  have f3 := blk_frozen hMP.row 3
  have c3 := blk_cell hMP.row 3
  simp at c3
  obtain ⟨F', hM', hF', hG'⟩ := hMP.setStack (grownBy_refl _ _) hrP (fun b hb => .inl hb)
  refine wp_store1 (w' := (s3).setCell ⟨p, 3, none⟩ (.slice (some ⟨g, 0, none⟩) st.length cap)) 66 (.tmp 14) (.tmp 12) rfl ⟨p, 3, none⟩ (.slice (some ⟨g, 0, none⟩) st.length cap) (by kernel_rfl) (by kernel_rfl) (by go_simp) ?_
  generalize (s3).setCell ⟨p, 3, none⟩ (.slice (some ⟨g, 0, none⟩) st.length cap) = w104 at hM' hG' ⊢
  refine ⟨fun h => absurd h (by decide), ?_⟩
  try simp only [Act.put, List.setIfInBounds_toArray, List.set_cons_zero, List.set_cons_succ, List.getElem_toArray, List.getElem_cons_succ, List.getElem_cons_zero]
  refine wpAnyT_done (by kernel_rfl) ?_ _
  go_wp2
  go_end0
  exact ⟨rfl, F', _, hM', fun b hb => hF' b (Nat.lt_of_lt_of_le hb hbP.size), (Gr.of_below hbP).trans hG' (fun _ h => .inl h)⟩
end Go.Proofs.Ytmmeieangbcfaaa
