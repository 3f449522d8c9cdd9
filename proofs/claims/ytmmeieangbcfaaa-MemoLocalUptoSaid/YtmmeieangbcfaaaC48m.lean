/- Layer 48: get of a cell that is kept. -/
import Derived.Test.YtmmeieangbcfaaaC48l
set_option linter.unusedSimpArgs false
namespace Go.Proofs.Ytmmeieangbcfaaa
open Go.RowKit Go

set_option maxRecDepth 20000 in
set_option maxHeartbeats 1000000 in
/-- A changed cell. -/
theorem get_changed {F : Nat → Nat} (w : World) {p sp : Nat} {s : MS} {st : List (Option Nat)} {kb pb : Nat} {sv cv : Value} {eb : C4 → Option Nat} (h : MemoIn F w p (sheetV sp) s st kb pb sv cv eb) (c : C4) (hc : c.ok) (hp : s.prog c = false) (hn : s.pn ≤ most) (x : Ent) (hx : s.kept c = some x) (hch : x.checked = false) (hcg : x.changed = true) (s' : MS) (r : Int × Int)
    (hev : ∀ w', MemoIn F w' p (sheetV sp) (s.start c) st kb pb sv cv eb → Gr (Mem F) w w' → Calls Try.prog 25 #[.pointer (some ⟨p, 0, none⟩), c.v] w' (Left48 F w' p sp st kb pb s' eb (fun d => (s.start c).prog d = true ∧ d ≠ c) (.tuple #[.int .i64 r.1, .int .i64 r.2]))) :
    Calls Try.prog 20 #[.pointer (some ⟨p, 0, none⟩), c.v] w (Left48 F w p sp st kb pb (s'.done c) eb (fun d => s.prog d = true) (.tuple #[.int .i64 r.1, .int .i64 r.2])) := by
  have HP := Lib.hid hp
  have HN := Lib.hid hn
  have HEV := Lib.hid hev
  obtain ⟨e, he⟩ : ∃ e, eb c = some e := Option.isSome_iff_exists.1 (by rw [← h.some_, hx]; rfl)
  have HE := Lib.hid he
  have HX := Lib.hid hx
  have HCH := Lib.hid hch
  have HCG := Lib.hid hcg
  clear he hx hch hcg
  clear hp hn hev
  have hB1 : Below w.heap.size w (w.alloc (.cells #[.int .i64 c.st, .int .i64 c.en, .int .i64 c.ot, .int .i64 c.pe] 26)) := (Below.refl _ w).alloc (Nat.le_refl _) _
  have hcb := heap_alloc_new w (.cells #[.int .i64 c.st, .int .i64 c.en, .int .i64 c.ot, .int .i64 c.pe] 26)
  have h1 := h.below hB1
  have HC := Lib.hid hc
  have HCB := Lib.hid hcb
  have HB1 := Lib.hid hB1
  have H1 := Lib.hid h1
  have H := Lib.hid h
  obtain ⟨c1, c2, c3, c4⟩ := c
  unfold C4.v
  simp only at *
  clear h hc hcb hB1 h1
  refine calls_of_wp_deferB Try.func20 rfl ?_
  simp only [Try.ntmps20, List.size_toArray, List.length_cons, List.length_nil, Nat.reduceAdd, Nat.reduceSub, Array.replicate_succ, Array.replicate_zero, List.push_toArray, List.append_toArray, List.nil_append, List.cons_append]
  go_wp2_with fail
  generalize w.alloc (.cells #[.int .i64 c1, .int .i64 c2, .int .i64 c3, .int .i64 c4] 26) = w1 at *
  have hC1 : Cells [(⟨p, 1, none⟩, .map (some kb)), (⟨p, 2, none⟩, .map (some pb)), (⟨w.heap.size, 0, none⟩, .int .i64 c1), (⟨w.heap.size, 1, none⟩, .int .i64 c2), (⟨w.heap.size, 2, none⟩, .int .i64 c3), (⟨w.heap.size, 3, none⟩, .int .i64 c4)] w1 := ⟨blk_cell H1.out.row 1, blk_cell H1.out.row 2, blk_cell HCB.out 0, blk_cell HCB.out 1, blk_cell HCB.out 2, blk_cell HCB.out 3, trivial⟩
  refine wp_region_T (Cells [(⟨p, 1, none⟩, .map (some kb)), (⟨p, 2, none⟩, .map (some pb)), (⟨w.heap.size, 0, none⟩, .int .i64 c1), (⟨w.heap.size, 1, none⟩, .int .i64 c2), (⟨w.heap.size, 2, none⟩, .int .i64 c3), (⟨w.heap.size, 3, none⟩, .int .i64 c4)]) (fun _ => false) (by kernel_rfl) ?_
  have hSss1 := Cells.drew hC1
  have hB_0_s1 : Below w1.heap.size w1 w1.drew := below_drew _
  generalize w1.drew = s1 at hSss1 hB_0_s1 ⊢
  have hB_s1_s1 := Below.refl s1.heap.size s1
  refine wpAnyT_pure (i := 0) (v := ?_) rfl (by kernel_rfl) (by kernel_rfl) (by kernel_rfl) (fun _ _ _ h => h) (by rfl) ?_ ?_
  rotate_left
  · intro w; go_simp; try with_reducible rfl
  simp only [Act.put, List.setIfInBounds_toArray, List.set_cons_zero, List.set_cons_succ, List.getElem_toArray, List.getElem_cons_succ, List.getElem_cons_zero]
  refine wpAnyT_pure (i := 1) (v := ?_) rfl (by kernel_rfl) (by kernel_rfl) (by kernel_rfl) (fun _ _ _ h => h) (by rfl) ?_ ?_
  rotate_left
  · intro w; go_simp; try with_reducible rfl
  simp only [Act.put, List.setIfInBounds_toArray, List.set_cons_zero, List.set_cons_succ, List.getElem_toArray, List.getElem_cons_succ, List.getElem_cons_zero]
  refine wpAnyT_pure (i := 2) (v := ?_) rfl (by kernel_rfl) (by kernel_rfl) (by kernel_rfl) (fun _ _ _ h => h) (by rfl) ?_ ?_
  rotate_left
  · intro w; go_simp; try with_reducible rfl
  simp only [Act.put, List.setIfInBounds_toArray, List.set_cons_zero, List.set_cons_succ, List.getElem_toArray, List.getElem_cons_succ, List.getElem_cons_zero]
  refine wpAnyT_loadW (i := 3) (v := ?_) rfl (by kernel_rfl) (by kernel_rfl) (by kernel_rfl) (by kernel_rfl) (by kernel_rfl) (fun _ _ _ h => h) (Or.inl ⟨by rfl, ?_⟩) hSss1 ?_
  rotate_left
  · intro w hSw; obtain ⟨e0, e1, e2, e3, e4, e5, -⟩ := hSw; go_simp; try with_reducible rfl
  simp only [Act.put, List.setIfInBounds_toArray, List.set_cons_zero, List.set_cons_succ, List.getElem_toArray, List.getElem_cons_succ, List.getElem_cons_zero]
  refine wpAnyT_loadW (i := 4) (v := ?_) rfl (by kernel_rfl) (by kernel_rfl) (by kernel_rfl) (by kernel_rfl) (by kernel_rfl) (fun _ _ _ h => h) (Or.inl ⟨by rfl, ?_⟩) hSss1 ?_
  rotate_left
  · intro w hSw; obtain ⟨e0, e1, e2, e3, e4, e5, -⟩ := hSw; go_simp; try with_reducible rfl
  simp only [Act.put, List.setIfInBounds_toArray, List.set_cons_zero, List.set_cons_succ, List.getElem_toArray, List.getElem_cons_succ, List.getElem_cons_zero]
  refine wpAnyT_one (i := 5) (by kernel_rfl) rfl (by rfl) ?_
  have hlk := ((H1.out.below (hB_0_s1.trans ((hB_s1_s1).mono (hB_0_s1).size))).mpr).look ⟨c1, c2, c3, c4⟩ HC.out
  rw [HP.out] at hlk
  unfold C4.v at hlk
  refine wp_value (v := .bool false) (w' := s1) (by go_simp) ?_
  clear hlk
  refine ⟨fun _ h => h, ?_⟩
  try simp only [Act.put, List.setIfInBounds_toArray, List.set_cons_zero, List.set_cons_succ, List.getElem_toArray, List.getElem_cons_succ, List.getElem_cons_zero]
  refine wpAnyT_done (by kernel_rfl) ?_ _
  have HB12 := Lib.hid (show Below w1.heap.size w1 s1 from hB_0_s1.trans ((hB_s1_s1).mono (hB_0_s1).size))
  obtain ⟨w2, rfl⟩ : ∃ x, x = s1 := ⟨_, rfl⟩
  have HB2 := Lib.hid (below_step HB1.out HB12.out)
  have H2 := Lib.hid (H.out.below HB2.out)
  have HCB2 := Lib.hid ((HB12.out.block _ (blk_lt HCB.out)).trans HCB.out)
  go_wp2_with fail
  have hC2 : Cells [(⟨p, 1, none⟩, .map (some kb)), (⟨p, 2, none⟩, .map (some pb)), (⟨w.heap.size, 0, none⟩, .int .i64 c1), (⟨w.heap.size, 1, none⟩, .int .i64 c2), (⟨w.heap.size, 2, none⟩, .int .i64 c3), (⟨w.heap.size, 3, none⟩, .int .i64 c4)] w2 := ⟨blk_cell H2.out.row 1, blk_cell H2.out.row 2, blk_cell HCB2.out 0, blk_cell HCB2.out 1, blk_cell HCB2.out 2, blk_cell HCB2.out 3, trivial⟩
  refine wp_region_T (Cells [(⟨p, 1, none⟩, .map (some kb)), (⟨p, 2, none⟩, .map (some pb)), (⟨w.heap.size, 0, none⟩, .int .i64 c1), (⟨w.heap.size, 1, none⟩, .int .i64 c2), (⟨w.heap.size, 2, none⟩, .int .i64 c3), (⟨w.heap.size, 3, none⟩, .int .i64 c4)]) (fun _ => false) (by kernel_rfl) ?_
  have hSss2 := Cells.drew hC2
  have hB_0_s2 : Below w2.heap.size w2 w2.drew := below_drew _
  generalize w2.drew = s2 at hSss2 hB_0_s2 ⊢
  have hB_s2_s2 := Below.refl s2.heap.size s2
  refine wpAnyT_pure (i := 0) (v := ?_) rfl (by kernel_rfl) (by kernel_rfl) (by kernel_rfl) (fun _ _ _ h => h) (by rfl) ?_ ?_
  rotate_left
  · intro w; go_simp; try with_reducible rfl
  simp only [Act.put, List.setIfInBounds_toArray, List.set_cons_zero, List.set_cons_succ, List.getElem_toArray, List.getElem_cons_succ, List.getElem_cons_zero]
  refine wpAnyT_pure (i := 1) (v := ?_) rfl (by kernel_rfl) (by kernel_rfl) (by kernel_rfl) (fun _ _ _ h => h) (by rfl) ?_ ?_
  rotate_left
  · intro w; go_simp; try with_reducible rfl
  simp only [Act.put, List.setIfInBounds_toArray, List.set_cons_zero, List.set_cons_succ, List.getElem_toArray, List.getElem_cons_succ, List.getElem_cons_zero]
  refine wpAnyT_pure (i := 2) (v := ?_) rfl (by kernel_rfl) (by kernel_rfl) (by kernel_rfl) (fun _ _ _ h => h) (by rfl) ?_ ?_
  rotate_left
  · intro w; go_simp; try with_reducible rfl
  simp only [Act.put, List.setIfInBounds_toArray, List.set_cons_zero, List.set_cons_succ, List.getElem_toArray, List.getElem_cons_succ, List.getElem_cons_zero]
  refine wpAnyT_loadW (i := 3) (v := ?_) rfl (by kernel_rfl) (by kernel_rfl) (by kernel_rfl) (by kernel_rfl) (by kernel_rfl) (fun _ _ _ h => h) (Or.inl ⟨by rfl, ?_⟩) hSss2 ?_
  rotate_left
  · intro w hSw; obtain ⟨e0, e1, e2, e3, e4, e5, -⟩ := hSw; go_simp; try with_reducible rfl
  simp only [Act.put, List.setIfInBounds_toArray, List.set_cons_zero, List.set_cons_succ, List.getElem_toArray, List.getElem_cons_succ, List.getElem_cons_zero]
  refine wpAnyT_loadW (i := 4) (v := ?_) rfl (by kernel_rfl) (by kernel_rfl) (by kernel_rfl) (by kernel_rfl) (by kernel_rfl) (fun _ _ _ h => h) (Or.inl ⟨by rfl, ?_⟩) hSss2 ?_
  rotate_left
  · intro w hSw; obtain ⟨e0, e1, e2, e3, e4, e5, -⟩ := hSw; go_simp; try with_reducible rfl
  simp only [Act.put, List.setIfInBounds_toArray, List.set_cons_zero, List.set_cons_succ, List.getElem_toArray, List.getElem_cons_succ, List.getElem_cons_zero]
  refine wpAnyT_one (i := 5) (by kernel_rfl) rfl (by rfl) ?_
  have hlk := ((H2.out.below (hB_0_s2.trans ((hB_s2_s2).mono (hB_0_s2).size))).mke).look ⟨c1, c2, c3, c4⟩ HC.out
  rw [HE.out] at hlk
  unfold C4.v ptrV at hlk
  simp only at hlk
  refine wp_value (v := .pointer (some ⟨e, 0, none⟩)) (w' := s2) (by go_simp) ?_
  clear hlk
  refine ⟨fun _ h => h, ?_⟩
  try simp only [Act.put, List.setIfInBounds_toArray, List.set_cons_zero, List.set_cons_succ, List.getElem_toArray, List.getElem_cons_succ, List.getElem_cons_zero]
  refine wpAnyT_pure (i := 6) (v := ?_) rfl (by kernel_rfl) (by kernel_rfl) (by kernel_rfl) (fun _ _ _ h => h) (by rfl) ?_ ?_
  rotate_left
  · intro w; go_simp; try with_reducible rfl
  simp only [Act.put, List.setIfInBounds_toArray, List.set_cons_zero, List.set_cons_succ, List.getElem_toArray, List.getElem_cons_succ, List.getElem_cons_zero]
  refine wpAnyT_done (by kernel_rfl) ?_ _
  have HB23 := Lib.hid (show Below w2.heap.size w2 s2 from hB_0_s2.trans ((hB_s2_s2).mono (hB_0_s2).size))
  obtain ⟨w3, rfl⟩ : ∃ x, x = s2 := ⟨_, rfl⟩
  have HB3 := Lib.hid (below_step HB2.out HB23.out)
  have H3 := Lib.hid (H.out.below HB3.out)
  have HCB3 := Lib.hid ((HB23.out.block _ (blk_lt HCB2.out)).trans HCB2.out)
  obtain ⟨-, -, ra, rl, rc, hrow, -⟩ := H3.out.ent _ _ _ HX.out HE.out
  rw [HCH.out] at hrow
  have k2 := blk_cell hrow 2
  simp at k2
  clear hrow
  go_wp2_with fail
  have hC3 : Cells [(⟨p, 1, none⟩, .map (some kb)), (⟨p, 2, none⟩, .map (some pb)), (⟨w.heap.size, 0, none⟩, .int .i64 c1), (⟨w.heap.size, 1, none⟩, .int .i64 c2), (⟨w.heap.size, 2, none⟩, .int .i64 c3), (⟨w.heap.size, 3, none⟩, .int .i64 c4)] w3 := ⟨blk_cell H3.out.row 1, blk_cell H3.out.row 2, blk_cell HCB3.out 0, blk_cell HCB3.out 1, blk_cell HCB3.out 2, blk_cell HCB3.out 3, trivial⟩
  refine wp_region_T (Cells [(⟨p, 1, none⟩, .map (some kb)), (⟨p, 2, none⟩, .map (some pb)), (⟨w.heap.size, 0, none⟩, .int .i64 c1), (⟨w.heap.size, 1, none⟩, .int .i64 c2), (⟨w.heap.size, 2, none⟩, .int .i64 c3), (⟨w.heap.size, 3, none⟩, .int .i64 c4)]) (fun i => i == 5) (by kernel_rfl) ?_
  have hSss3 := Cells.drew hC3
  have hB_0_s3 : Below w3.heap.size w3 w3.drew := below_drew _
  generalize w3.drew = s3 at hSss3 hB_0_s3 ⊢
  have hB_s3_s3 := Below.refl s3.heap.size s3
  refine wpAnyT_pure (i := 0) (v := ?_) rfl (by kernel_rfl) (by kernel_rfl) (by kernel_rfl) (fun _ _ _ h => h) (by rfl) ?_ ?_
  rotate_left
  · intro w; go_simp; try with_reducible rfl
  simp only [Act.put, List.setIfInBounds_toArray, List.set_cons_zero, List.set_cons_succ, List.getElem_toArray, List.getElem_cons_succ, List.getElem_cons_zero]
  refine wpAnyT_pure (i := 1) (v := ?_) rfl (by kernel_rfl) (by kernel_rfl) (by kernel_rfl) (fun _ _ _ h => h) (by rfl) ?_ ?_
  rotate_left
  · intro w; go_simp; try with_reducible rfl
  simp only [Act.put, List.setIfInBounds_toArray, List.set_cons_zero, List.set_cons_succ, List.getElem_toArray, List.getElem_cons_succ, List.getElem_cons_zero]
  refine wpAnyT_pure (i := 2) (v := ?_) rfl (by kernel_rfl) (by kernel_rfl) (by kernel_rfl) (fun _ _ _ h => h) (by rfl) ?_ ?_
  rotate_left
  · intro w; go_simp; try with_reducible rfl
  simp only [Act.put, List.setIfInBounds_toArray, List.set_cons_zero, List.set_cons_succ, List.getElem_toArray, List.getElem_cons_succ, List.getElem_cons_zero]
  refine wpAnyT_loadW (i := 3) (v := ?_) rfl (by kernel_rfl) (by kernel_rfl) (by kernel_rfl) (by kernel_rfl) (by kernel_rfl) (fun _ _ _ h => h) (Or.inl ⟨by rfl, ?_⟩) hSss3 ?_
  rotate_left
  · intro w hSw; obtain ⟨e0, e1, e2, e3, e4, e5, -⟩ := hSw; go_simp; try with_reducible rfl
  simp only [Act.put, List.setIfInBounds_toArray, List.set_cons_zero, List.set_cons_succ, List.getElem_toArray, List.getElem_cons_succ, List.getElem_cons_zero]
  refine wpAnyT_loadW (i := 4) (v := ?_) rfl (by kernel_rfl) (by kernel_rfl) (by kernel_rfl) (by kernel_rfl) (by kernel_rfl) (fun _ _ _ h => h) (Or.inl ⟨by rfl, ?_⟩) hSss3 ?_
  rotate_left
  · intro w hSw; obtain ⟨e0, e1, e2, e3, e4, e5, -⟩ := hSw; go_simp; try with_reducible rfl
  simp only [Act.put, List.setIfInBounds_toArray, List.set_cons_zero, List.set_cons_succ, List.getElem_toArray, List.getElem_cons_succ, List.getElem_cons_zero]
  refine wpAnyT_one (i := 5) (by kernel_rfl) rfl (by rfl) ?_
  have hb3 : Below w3.heap.size w3 s3 := hB_0_s3.trans ((hB_s3_s3).mono (hB_0_s3).size)
  obtain ⟨w104, hrun, hM, hG⟩ := (H3.out.below hb3).start HN.out ⟨c1, c2, c3, c4⟩ HC.out
  unfold C4.v at hrun
  refine wp_mapset1 (w' := w104) 65 (.tmp 34) (.tmp 35) (.const (.bool true)) rfl (m := .map (some pb)) (k := .agg #[.int .i64 c1, .int .i64 c2, .int .i64 c3, .int .i64 c4]) (v := .bool true) (by kernel_rfl) (by kernel_rfl) (by kernel_rfl) hrun ?_
  have hfree : F w.heap.size = 0 := by
    by_cases e : F w.heap.size = 0
    · exact e
    · have := H.out.dom _ e; omega
  have HCB4 := Lib.hid (blk_gr hG ((hb3.block _ (blk_lt HCB3.out)).trans HCB3.out) (fun e => e.1 hfree))
  have HG4 := Lib.hid ((Gr.of_below (F := Mem F) (below_step HB3.out hb3)).trans hG (fun _ h => .inl h))
  clear hrun hb3
  refine ⟨fun h => absurd h (by decide), ?_⟩
  try simp only [Act.put, List.setIfInBounds_toArray, List.set_cons_zero, List.set_cons_succ, List.getElem_toArray, List.getElem_cons_succ, List.getElem_cons_zero]
  refine wpAnyT_done (by kernel_rfl) ?_ _
  obtain ⟨w4, rfl⟩ : ∃ x, x = w104 := ⟨_, rfl⟩
  have H4 := Lib.hid hM
  clear hM hG
  go_wp2_with fail
  have hC4 : Cells [(⟨p, 1, none⟩, .map (some kb)), (⟨p, 2, none⟩, .map (some pb)), (⟨w.heap.size, 0, none⟩, .int .i64 c1), (⟨w.heap.size, 1, none⟩, .int .i64 c2), (⟨w.heap.size, 2, none⟩, .int .i64 c3), (⟨w.heap.size, 3, none⟩, .int .i64 c4)] w4 := ⟨blk_cell H4.out.row 1, blk_cell H4.out.row 2, blk_cell HCB4.out 0, blk_cell HCB4.out 1, blk_cell HCB4.out 2, blk_cell HCB4.out 3, trivial⟩
  refine wp_region_T (Cells [(⟨p, 1, none⟩, .map (some kb)), (⟨p, 2, none⟩, .map (some pb)), (⟨w.heap.size, 0, none⟩, .int .i64 c1), (⟨w.heap.size, 1, none⟩, .int .i64 c2), (⟨w.heap.size, 2, none⟩, .int .i64 c3), (⟨w.heap.size, 3, none⟩, .int .i64 c4)]) (fun _ => false) (by kernel_rfl) ?_
  have hSss5 := Cells.drew hC4
  have hB_0_s5 : Below w4.heap.size w4 w4.drew := below_drew _
  generalize w4.drew = s5 at hSss5 hB_0_s5 ⊢
  have hB_s5_s5 := Below.refl s5.heap.size s5
  refine wpAnyT_pure (i := 0) (v := ?_) rfl (by kernel_rfl) (by kernel_rfl) (by kernel_rfl) (fun _ _ _ h => h) (by rfl) ?_ ?_
  rotate_left
  · intro w; go_simp; try with_reducible rfl
  simp only [Act.put, List.setIfInBounds_toArray, List.set_cons_zero, List.set_cons_succ, List.getElem_toArray, List.getElem_cons_succ, List.getElem_cons_zero]
  refine wpAnyT_pure (i := 1) (v := ?_) rfl (by kernel_rfl) (by kernel_rfl) (by kernel_rfl) (fun _ _ _ h => h) (by rfl) ?_ ?_
  rotate_left
  · intro w; go_simp; try with_reducible rfl
  simp only [Act.put, List.setIfInBounds_toArray, List.set_cons_zero, List.set_cons_succ, List.getElem_toArray, List.getElem_cons_succ, List.getElem_cons_zero]
  refine wpAnyT_pure (i := 2) (v := ?_) rfl (by kernel_rfl) (by kernel_rfl) (by kernel_rfl) (fun _ _ _ h => h) (by rfl) ?_ ?_
  rotate_left
  · intro w; go_simp; try with_reducible rfl
  simp only [Act.put, List.setIfInBounds_toArray, List.set_cons_zero, List.set_cons_succ, List.getElem_toArray, List.getElem_cons_succ, List.getElem_cons_zero]
  refine wpAnyT_loadW (i := 3) (v := ?_) rfl (by kernel_rfl) (by kernel_rfl) (by kernel_rfl) (by kernel_rfl) (by kernel_rfl) (fun _ _ _ h => h) (Or.inl ⟨by rfl, ?_⟩) hSss5 ?_
  rotate_left
  · intro w hSw; obtain ⟨e0, e1, e2, e3, e4, e5, -⟩ := hSw; go_simp; try with_reducible rfl
  simp only [Act.put, List.setIfInBounds_toArray, List.set_cons_zero, List.set_cons_succ, List.getElem_toArray, List.getElem_cons_succ, List.getElem_cons_zero]
  refine wpAnyT_loadW (i := 4) (v := ?_) rfl (by kernel_rfl) (by kernel_rfl) (by kernel_rfl) (by kernel_rfl) (by kernel_rfl) (fun _ _ _ h => h) (Or.inl ⟨by rfl, ?_⟩) hSss5 ?_
  rotate_left
  · intro w hSw; obtain ⟨e0, e1, e2, e3, e4, e5, -⟩ := hSw; go_simp; try with_reducible rfl
  simp only [Act.put, List.setIfInBounds_toArray, List.set_cons_zero, List.set_cons_succ, List.getElem_toArray, List.getElem_cons_succ, List.getElem_cons_zero]
  refine wpAnyT_one (i := 5) (by kernel_rfl) rfl (by rfl) ?_
  refine wp_deferB .delete #[65, 26] (.tmp 39) (.tmp 40) rfl (m := .map (some pb)) (k := .agg #[.int .i64 c1, .int .i64 c2, .int .i64 c3, .int .i64 c4]) (by kernel_rfl) (by kernel_rfl) ?_
  intro cst
  refine ⟨fun _ h => h, ?_⟩
  try simp only [Act.put, List.setIfInBounds_toArray, List.set_cons_zero, List.set_cons_succ, List.getElem_toArray, List.getElem_cons_succ, List.getElem_cons_zero]
  refine wpAnyT_done (by kernel_rfl) ?_ _
  have HB45 := Lib.hid (show Below w4.heap.size w4 s5 from hB_0_s5.trans ((hB_s5_s5).mono (hB_0_s5).size))
  obtain ⟨w5, rfl⟩ : ∃ x, x = s5 := ⟨_, rfl⟩
  have H5 := Lib.hid (H4.out.below HB45.out)
  have HCB5 := Lib.hid ((HB45.out.block _ (blk_lt HCB4.out)).trans HCB4.out)
  have HG5 := Lib.hid (HG4.out.step HB45.out)
  clear k2
  obtain ⟨-, -, qa, ql, qc, hrow, -⟩ := H5.out.ent _ _ _ HX.out HE.out
  rw [HCG.out] at hrow
  have z3 := blk_cell hrow 3
  simp at z3
  clear hrow
  have k0 := blk_cell HCB5.out 0
  have k1 := blk_cell HCB5.out 1
  have k2 := blk_cell HCB5.out 2
  have k3 := blk_cell HCB5.out 3
  simp at k0 k1 k2 k3
  go_wp2_with (go_at_call 25; refine (HEV.out _ H5.out HG5.out).mono ?_; rintro e6 w6 ⟨rfl, F6, sv6, cv6, eb6, hM6, hF6, hG6, hK6⟩)
  obtain ⟨w7, hrun, hM7, hG7⟩ := hM6.done ⟨c1, c2, c3, c4⟩ HC.out 0
  unfold C4.v at hrun
  refine ⟨.delete, _, _, _, .tuple #[], w7, rfl, by simp [invoke, builtin, hrun], _, results_tmp2 rfl _ _ _, rfl, F6, sv6, cv6, eb6, hM7, fun b hb => hF6 b (Nat.lt_of_lt_of_le hb HG5.out.size), (HG5.out.trans hG6 (fun _ h => .inl h)).trans hG7 (fun x hx => ?_), fun d hd => hK6 d (start_prog HP.out hd)⟩
  by_cases h5 : x < w5.heap.size
  · exact .inl (by have e := hF6 x h5; unfold Mem at hx ⊢; rw [← e]; exact hx)
  · exact .inr (by have := HG5.out.size; omega)
theorem start_self (s : MS) (c : C4) : (s.start c).prog c = true := by
  show upd s.prog c true c = true
  unfold upd
  rw [if_pos rfl]
set_option maxRecDepth 20000 in
set_option maxHeartbeats 1000000 in
/-- A cell whose reads have their values still. -/
theorem get_same1 {F : Nat → Nat} (w : World) {p sp : Nat} {s : MS} {st : List (Option Nat)} {kb pb : Nat} {sv cv : Value} {eb : C4 → Option Nat} (h : MemoIn F w p (sheetV sp) s st kb pb sv cv eb) (c : C4) (hc : c.ok) (hp : s.prog c = false) (hn : s.pn ≤ most) (x : Ent) (hx : s.kept c = some x) (hch : x.checked = false) (hcg : x.changed = false) (s1 : MS) (hk1 : s1.kept c = some x)
    (hsm : ∀ w' a len cap, MemoIn F w' p (sheetV sp) (s.start c) st kb pb sv cv eb → Gr (Mem F) w w' → Rd (.sl readT) (fun b => F b = 7) w' [.slice a len cap] (rdsD x.reads) → Calls Try.prog 24 #[.pointer (some ⟨p, 0, none⟩), .slice a len cap] w' (Left48 F w' p sp st kb pb s1 eb (fun d => (s.start c).prog d = true) (.bool true))) :
    Calls Try.prog 20 #[.pointer (some ⟨p, 0, none⟩), c.v] w (Left48 F w p sp st kb pb ((s1.check c x).done c) eb (fun d => s.prog d = true) (.tuple #[.int .i64 x.value, .int .i64 0])) := by
  have HP := Lib.hid hp
  have HN := Lib.hid hn
  have HSM := Lib.hid hsm
  have HK1 := Lib.hid hk1
  obtain ⟨e, he⟩ : ∃ e, eb c = some e := Option.isSome_iff_exists.1 (by rw [← h.some_, hx]; rfl)
  have HE := Lib.hid he
  have HX := Lib.hid hx
  have HCH := Lib.hid hch
  have HCG := Lib.hid hcg
  clear he hx hch hcg
  clear hp hn hsm hk1
  have hB1 : Below w.heap.size w (w.alloc (.cells #[.int .i64 c.st, .int .i64 c.en, .int .i64 c.ot, .int .i64 c.pe] 26)) := (Below.refl _ w).alloc (Nat.le_refl _) _
  have hcb := heap_alloc_new w (.cells #[.int .i64 c.st, .int .i64 c.en, .int .i64 c.ot, .int .i64 c.pe] 26)
  have h1 := h.below hB1
  have HC := Lib.hid hc
  have HCB := Lib.hid hcb
  have HB1 := Lib.hid hB1
  have H1 := Lib.hid h1
  have H := Lib.hid h
  obtain ⟨c1, c2, c3, c4⟩ := c
  unfold C4.v
  simp only at *
  clear h hc hcb hB1 h1
  refine calls_of_wp_deferB Try.func20 rfl ?_
  simp only [Try.ntmps20, List.size_toArray, List.length_cons, List.length_nil, Nat.reduceAdd, Nat.reduceSub, Array.replicate_succ, Array.replicate_zero, List.push_toArray, List.append_toArray, List.nil_append, List.cons_append]
  go_wp2_with fail
  generalize w.alloc (.cells #[.int .i64 c1, .int .i64 c2, .int .i64 c3, .int .i64 c4] 26) = w1 at *
  have hC1 : Cells [(⟨p, 1, none⟩, .map (some kb)), (⟨p, 2, none⟩, .map (some pb)), (⟨w.heap.size, 0, none⟩, .int .i64 c1), (⟨w.heap.size, 1, none⟩, .int .i64 c2), (⟨w.heap.size, 2, none⟩, .int .i64 c3), (⟨w.heap.size, 3, none⟩, .int .i64 c4)] w1 := ⟨blk_cell H1.out.row 1, blk_cell H1.out.row 2, blk_cell HCB.out 0, blk_cell HCB.out 1, blk_cell HCB.out 2, blk_cell HCB.out 3, trivial⟩
  refine wp_region_T (Cells [(⟨p, 1, none⟩, .map (some kb)), (⟨p, 2, none⟩, .map (some pb)), (⟨w.heap.size, 0, none⟩, .int .i64 c1), (⟨w.heap.size, 1, none⟩, .int .i64 c2), (⟨w.heap.size, 2, none⟩, .int .i64 c3), (⟨w.heap.size, 3, none⟩, .int .i64 c4)]) (fun _ => false) (by kernel_rfl) ?_
  have hSss6 := Cells.drew hC1
  have hB_0_s6 : Below w1.heap.size w1 w1.drew := below_drew _
  generalize w1.drew = s6 at hSss6 hB_0_s6 ⊢
  have hB_s6_s6 := Below.refl s6.heap.size s6
  refine wpAnyT_pure (i := 0) (v := ?_) rfl (by kernel_rfl) (by kernel_rfl) (by kernel_rfl) (fun _ _ _ h => h) (by rfl) ?_ ?_
  rotate_left
  · intro w; go_simp; try with_reducible rfl
  simp only [Act.put, List.setIfInBounds_toArray, List.set_cons_zero, List.set_cons_succ, List.getElem_toArray, List.getElem_cons_succ, List.getElem_cons_zero]
  refine wpAnyT_pure (i := 1) (v := ?_) rfl (by kernel_rfl) (by kernel_rfl) (by kernel_rfl) (fun _ _ _ h => h) (by rfl) ?_ ?_
  rotate_left
  · intro w; go_simp; try with_reducible rfl
  simp only [Act.put, List.setIfInBounds_toArray, List.set_cons_zero, List.set_cons_succ, List.getElem_toArray, List.getElem_cons_succ, List.getElem_cons_zero]
  refine wpAnyT_pure (i := 2) (v := ?_) rfl (by kernel_rfl) (by kernel_rfl) (by kernel_rfl) (fun _ _ _ h => h) (by rfl) ?_ ?_
  rotate_left
  · intro w; go_simp; try with_reducible rfl
  simp only [Act.put, List.setIfInBounds_toArray, List.set_cons_zero, List.set_cons_succ, List.getElem_toArray, List.getElem_cons_succ, List.getElem_cons_zero]
  refine wpAnyT_loadW (i := 3) (v := ?_) rfl (by kernel_rfl) (by kernel_rfl) (by kernel_rfl) (by kernel_rfl) (by kernel_rfl) (fun _ _ _ h => h) (Or.inl ⟨by rfl, ?_⟩) hSss6 ?_
  rotate_left
  · intro w hSw; obtain ⟨e0, e1, e2, e3, e4, e5, -⟩ := hSw; go_simp; try with_reducible rfl
  simp only [Act.put, List.setIfInBounds_toArray, List.set_cons_zero, List.set_cons_succ, List.getElem_toArray, List.getElem_cons_succ, List.getElem_cons_zero]
  refine wpAnyT_loadW (i := 4) (v := ?_) rfl (by kernel_rfl) (by kernel_rfl) (by kernel_rfl) (by kernel_rfl) (by kernel_rfl) (fun _ _ _ h => h) (Or.inl ⟨by rfl, ?_⟩) hSss6 ?_
  rotate_left
  · intro w hSw; obtain ⟨e0, e1, e2, e3, e4, e5, -⟩ := hSw; go_simp; try with_reducible rfl
  simp only [Act.put, List.setIfInBounds_toArray, List.set_cons_zero, List.set_cons_succ, List.getElem_toArray, List.getElem_cons_succ, List.getElem_cons_zero]
  refine wpAnyT_one (i := 5) (by kernel_rfl) rfl (by rfl) ?_
  have hlk := ((H1.out.below (hB_0_s6.trans ((hB_s6_s6).mono (hB_0_s6).size))).mpr).look ⟨c1, c2, c3, c4⟩ HC.out
  rw [HP.out] at hlk
  unfold C4.v at hlk
  refine wp_value (v := .bool false) (w' := s6) (by go_simp) ?_
  clear hlk
  refine ⟨fun _ h => h, ?_⟩
  try simp only [Act.put, List.setIfInBounds_toArray, List.set_cons_zero, List.set_cons_succ, List.getElem_toArray, List.getElem_cons_succ, List.getElem_cons_zero]
  refine wpAnyT_done (by kernel_rfl) ?_ _
  have HB12 := Lib.hid (show Below w1.heap.size w1 s6 from hB_0_s6.trans ((hB_s6_s6).mono (hB_0_s6).size))
  obtain ⟨w2, rfl⟩ : ∃ x, x = s6 := ⟨_, rfl⟩
  have HB2 := Lib.hid (below_step HB1.out HB12.out)
  have H2 := Lib.hid (H.out.below HB2.out)
  have HCB2 := Lib.hid ((HB12.out.block _ (blk_lt HCB.out)).trans HCB.out)
  go_wp2_with fail
  have hC2 : Cells [(⟨p, 1, none⟩, .map (some kb)), (⟨p, 2, none⟩, .map (some pb)), (⟨w.heap.size, 0, none⟩, .int .i64 c1), (⟨w.heap.size, 1, none⟩, .int .i64 c2), (⟨w.heap.size, 2, none⟩, .int .i64 c3), (⟨w.heap.size, 3, none⟩, .int .i64 c4)] w2 := ⟨blk_cell H2.out.row 1, blk_cell H2.out.row 2, blk_cell HCB2.out 0, blk_cell HCB2.out 1, blk_cell HCB2.out 2, blk_cell HCB2.out 3, trivial⟩
  refine wp_region_T (Cells [(⟨p, 1, none⟩, .map (some kb)), (⟨p, 2, none⟩, .map (some pb)), (⟨w.heap.size, 0, none⟩, .int .i64 c1), (⟨w.heap.size, 1, none⟩, .int .i64 c2), (⟨w.heap.size, 2, none⟩, .int .i64 c3), (⟨w.heap.size, 3, none⟩, .int .i64 c4)]) (fun _ => false) (by kernel_rfl) ?_
  have hSss7 := Cells.drew hC2
  have hB_0_s7 : Below w2.heap.size w2 w2.drew := below_drew _
  generalize w2.drew = s7 at hSss7 hB_0_s7 ⊢
  have hB_s7_s7 := Below.refl s7.heap.size s7
  refine wpAnyT_pure (i := 0) (v := ?_) rfl (by kernel_rfl) (by kernel_rfl) (by kernel_rfl) (fun _ _ _ h => h) (by rfl) ?_ ?_
  rotate_left
  · intro w; go_simp; try with_reducible rfl
  simp only [Act.put, List.setIfInBounds_toArray, List.set_cons_zero, List.set_cons_succ, List.getElem_toArray, List.getElem_cons_succ, List.getElem_cons_zero]
  refine wpAnyT_pure (i := 1) (v := ?_) rfl (by kernel_rfl) (by kernel_rfl) (by kernel_rfl) (fun _ _ _ h => h) (by rfl) ?_ ?_
  rotate_left
  · intro w; go_simp; try with_reducible rfl
  simp only [Act.put, List.setIfInBounds_toArray, List.set_cons_zero, List.set_cons_succ, List.getElem_toArray, List.getElem_cons_succ, List.getElem_cons_zero]
  refine wpAnyT_pure (i := 2) (v := ?_) rfl (by kernel_rfl) (by kernel_rfl) (by kernel_rfl) (fun _ _ _ h => h) (by rfl) ?_ ?_
  rotate_left
  · intro w; go_simp; try with_reducible rfl
  simp only [Act.put, List.setIfInBounds_toArray, List.set_cons_zero, List.set_cons_succ, List.getElem_toArray, List.getElem_cons_succ, List.getElem_cons_zero]
  refine wpAnyT_loadW (i := 3) (v := ?_) rfl (by kernel_rfl) (by kernel_rfl) (by kernel_rfl) (by kernel_rfl) (by kernel_rfl) (fun _ _ _ h => h) (Or.inl ⟨by rfl, ?_⟩) hSss7 ?_
  rotate_left
  · intro w hSw; obtain ⟨e0, e1, e2, e3, e4, e5, -⟩ := hSw; go_simp; try with_reducible rfl
  simp only [Act.put, List.setIfInBounds_toArray, List.set_cons_zero, List.set_cons_succ, List.getElem_toArray, List.getElem_cons_succ, List.getElem_cons_zero]
  refine wpAnyT_loadW (i := 4) (v := ?_) rfl (by kernel_rfl) (by kernel_rfl) (by kernel_rfl) (by kernel_rfl) (by kernel_rfl) (fun _ _ _ h => h) (Or.inl ⟨by rfl, ?_⟩) hSss7 ?_
  rotate_left
  · intro w hSw; obtain ⟨e0, e1, e2, e3, e4, e5, -⟩ := hSw; go_simp; try with_reducible rfl
  simp only [Act.put, List.setIfInBounds_toArray, List.set_cons_zero, List.set_cons_succ, List.getElem_toArray, List.getElem_cons_succ, List.getElem_cons_zero]
  refine wpAnyT_one (i := 5) (by kernel_rfl) rfl (by rfl) ?_
  have hlk := ((H2.out.below (hB_0_s7.trans ((hB_s7_s7).mono (hB_0_s7).size))).mke).look ⟨c1, c2, c3, c4⟩ HC.out
  rw [HE.out] at hlk
  unfold C4.v ptrV at hlk
  simp only at hlk
  refine wp_value (v := .pointer (some ⟨e, 0, none⟩)) (w' := s7) (by go_simp) ?_
  clear hlk
  refine ⟨fun _ h => h, ?_⟩
  try simp only [Act.put, List.setIfInBounds_toArray, List.set_cons_zero, List.set_cons_succ, List.getElem_toArray, List.getElem_cons_succ, List.getElem_cons_zero]
  refine wpAnyT_pure (i := 6) (v := ?_) rfl (by kernel_rfl) (by kernel_rfl) (by kernel_rfl) (fun _ _ _ h => h) (by rfl) ?_ ?_
  rotate_left
  · intro w; go_simp; try with_reducible rfl
  simp only [Act.put, List.setIfInBounds_toArray, List.set_cons_zero, List.set_cons_succ, List.getElem_toArray, List.getElem_cons_succ, List.getElem_cons_zero]
  refine wpAnyT_done (by kernel_rfl) ?_ _
  have HB23 := Lib.hid (show Below w2.heap.size w2 s7 from hB_0_s7.trans ((hB_s7_s7).mono (hB_0_s7).size))
  obtain ⟨w3, rfl⟩ : ∃ x, x = s7 := ⟨_, rfl⟩
  have HB3 := Lib.hid (below_step HB2.out HB23.out)
  have H3 := Lib.hid (H.out.below HB3.out)
  have HCB3 := Lib.hid ((HB23.out.block _ (blk_lt HCB2.out)).trans HCB2.out)
  obtain ⟨-, -, ra, rl, rc, hrow, -⟩ := H3.out.ent _ _ _ HX.out HE.out
  rw [HCH.out] at hrow
  have k2 := blk_cell hrow 2
  simp at k2
  clear hrow
  go_wp2_with fail
  have hC3 : Cells [(⟨p, 1, none⟩, .map (some kb)), (⟨p, 2, none⟩, .map (some pb)), (⟨w.heap.size, 0, none⟩, .int .i64 c1), (⟨w.heap.size, 1, none⟩, .int .i64 c2), (⟨w.heap.size, 2, none⟩, .int .i64 c3), (⟨w.heap.size, 3, none⟩, .int .i64 c4)] w3 := ⟨blk_cell H3.out.row 1, blk_cell H3.out.row 2, blk_cell HCB3.out 0, blk_cell HCB3.out 1, blk_cell HCB3.out 2, blk_cell HCB3.out 3, trivial⟩
  refine wp_region_T (Cells [(⟨p, 1, none⟩, .map (some kb)), (⟨p, 2, none⟩, .map (some pb)), (⟨w.heap.size, 0, none⟩, .int .i64 c1), (⟨w.heap.size, 1, none⟩, .int .i64 c2), (⟨w.heap.size, 2, none⟩, .int .i64 c3), (⟨w.heap.size, 3, none⟩, .int .i64 c4)]) (fun i => i == 5) (by kernel_rfl) ?_
  have hSss8 := Cells.drew hC3
  have hB_0_s8 : Below w3.heap.size w3 w3.drew := below_drew _
  generalize w3.drew = s8 at hSss8 hB_0_s8 ⊢
  have hB_s8_s8 := Below.refl s8.heap.size s8
  refine wpAnyT_pure (i := 0) (v := ?_) rfl (by kernel_rfl) (by kernel_rfl) (by kernel_rfl) (fun _ _ _ h => h) (by rfl) ?_ ?_
  rotate_left
  · intro w; go_simp; try with_reducible rfl
  simp only [Act.put, List.setIfInBounds_toArray, List.set_cons_zero, List.set_cons_succ, List.getElem_toArray, List.getElem_cons_succ, List.getElem_cons_zero]
  refine wpAnyT_pure (i := 1) (v := ?_) rfl (by kernel_rfl) (by kernel_rfl) (by kernel_rfl) (fun _ _ _ h => h) (by rfl) ?_ ?_
  rotate_left
  · intro w; go_simp; try with_reducible rfl
  simp only [Act.put, List.setIfInBounds_toArray, List.set_cons_zero, List.set_cons_succ, List.getElem_toArray, List.getElem_cons_succ, List.getElem_cons_zero]
  refine wpAnyT_pure (i := 2) (v := ?_) rfl (by kernel_rfl) (by kernel_rfl) (by kernel_rfl) (fun _ _ _ h => h) (by rfl) ?_ ?_
  rotate_left
  · intro w; go_simp; try with_reducible rfl
  simp only [Act.put, List.setIfInBounds_toArray, List.set_cons_zero, List.set_cons_succ, List.getElem_toArray, List.getElem_cons_succ, List.getElem_cons_zero]
  refine wpAnyT_loadW (i := 3) (v := ?_) rfl (by kernel_rfl) (by kernel_rfl) (by kernel_rfl) (by kernel_rfl) (by kernel_rfl) (fun _ _ _ h => h) (Or.inl ⟨by rfl, ?_⟩) hSss8 ?_
  rotate_left
  · intro w hSw; obtain ⟨e0, e1, e2, e3, e4, e5, -⟩ := hSw; go_simp; try with_reducible rfl
  simp only [Act.put, List.setIfInBounds_toArray, List.set_cons_zero, List.set_cons_succ, List.getElem_toArray, List.getElem_cons_succ, List.getElem_cons_zero]
  refine wpAnyT_loadW (i := 4) (v := ?_) rfl (by kernel_rfl) (by kernel_rfl) (by kernel_rfl) (by kernel_rfl) (by kernel_rfl) (fun _ _ _ h => h) (Or.inl ⟨by rfl, ?_⟩) hSss8 ?_
  rotate_left
  · intro w hSw; obtain ⟨e0, e1, e2, e3, e4, e5, -⟩ := hSw; go_simp; try with_reducible rfl
  simp only [Act.put, List.setIfInBounds_toArray, List.set_cons_zero, List.set_cons_succ, List.getElem_toArray, List.getElem_cons_succ, List.getElem_cons_zero]
  refine wpAnyT_one (i := 5) (by kernel_rfl) rfl (by rfl) ?_
  have hb3 : Below w3.heap.size w3 s8 := hB_0_s8.trans ((hB_s8_s8).mono (hB_0_s8).size)
  obtain ⟨w109, hrun, hM, hG⟩ := (H3.out.below hb3).start HN.out ⟨c1, c2, c3, c4⟩ HC.out
  unfold C4.v at hrun
  refine wp_mapset1 (w' := w109) 65 (.tmp 34) (.tmp 35) (.const (.bool true)) rfl (m := .map (some pb)) (k := .agg #[.int .i64 c1, .int .i64 c2, .int .i64 c3, .int .i64 c4]) (v := .bool true) (by kernel_rfl) (by kernel_rfl) (by kernel_rfl) hrun ?_
  have hfree : F w.heap.size = 0 := by
    by_cases e : F w.heap.size = 0
    · exact e
    · have := H.out.dom _ e; omega
  have HCB4 := Lib.hid (blk_gr hG ((hb3.block _ (blk_lt HCB3.out)).trans HCB3.out) (fun e => e.1 hfree))
  have HG4 := Lib.hid ((Gr.of_below (F := Mem F) (below_step HB3.out hb3)).trans hG (fun _ h => .inl h))
  clear hrun hb3
  refine ⟨fun h => absurd h (by decide), ?_⟩
  try simp only [Act.put, List.setIfInBounds_toArray, List.set_cons_zero, List.set_cons_succ, List.getElem_toArray, List.getElem_cons_succ, List.getElem_cons_zero]
  refine wpAnyT_done (by kernel_rfl) ?_ _
  obtain ⟨w4, rfl⟩ : ∃ x, x = w109 := ⟨_, rfl⟩
  have H4 := Lib.hid hM
  clear hM hG
  go_wp2_with fail
  have hC4 : Cells [(⟨p, 1, none⟩, .map (some kb)), (⟨p, 2, none⟩, .map (some pb)), (⟨w.heap.size, 0, none⟩, .int .i64 c1), (⟨w.heap.size, 1, none⟩, .int .i64 c2), (⟨w.heap.size, 2, none⟩, .int .i64 c3), (⟨w.heap.size, 3, none⟩, .int .i64 c4)] w4 := ⟨blk_cell H4.out.row 1, blk_cell H4.out.row 2, blk_cell HCB4.out 0, blk_cell HCB4.out 1, blk_cell HCB4.out 2, blk_cell HCB4.out 3, trivial⟩
  refine wp_region_T (Cells [(⟨p, 1, none⟩, .map (some kb)), (⟨p, 2, none⟩, .map (some pb)), (⟨w.heap.size, 0, none⟩, .int .i64 c1), (⟨w.heap.size, 1, none⟩, .int .i64 c2), (⟨w.heap.size, 2, none⟩, .int .i64 c3), (⟨w.heap.size, 3, none⟩, .int .i64 c4)]) (fun _ => false) (by kernel_rfl) ?_
  have hSss10 := Cells.drew hC4
  have hB_0_s10 : Below w4.heap.size w4 w4.drew := below_drew _
  generalize w4.drew = s10 at hSss10 hB_0_s10 ⊢
  have hB_s10_s10 := Below.refl s10.heap.size s10
  refine wpAnyT_pure (i := 0) (v := ?_) rfl (by kernel_rfl) (by kernel_rfl) (by kernel_rfl) (fun _ _ _ h => h) (by rfl) ?_ ?_
  rotate_left
  · intro w; go_simp; try with_reducible rfl
  simp only [Act.put, List.setIfInBounds_toArray, List.set_cons_zero, List.set_cons_succ, List.getElem_toArray, List.getElem_cons_succ, List.getElem_cons_zero]
  refine wpAnyT_pure (i := 1) (v := ?_) rfl (by kernel_rfl) (by kernel_rfl) (by kernel_rfl) (fun _ _ _ h => h) (by rfl) ?_ ?_
  rotate_left
  · intro w; go_simp; try with_reducible rfl
  simp only [Act.put, List.setIfInBounds_toArray, List.set_cons_zero, List.set_cons_succ, List.getElem_toArray, List.getElem_cons_succ, List.getElem_cons_zero]
  refine wpAnyT_pure (i := 2) (v := ?_) rfl (by kernel_rfl) (by kernel_rfl) (by kernel_rfl) (fun _ _ _ h => h) (by rfl) ?_ ?_
  rotate_left
  · intro w; go_simp; try with_reducible rfl
  simp only [Act.put, List.setIfInBounds_toArray, List.set_cons_zero, List.set_cons_succ, List.getElem_toArray, List.getElem_cons_succ, List.getElem_cons_zero]
  refine wpAnyT_loadW (i := 3) (v := ?_) rfl (by kernel_rfl) (by kernel_rfl) (by kernel_rfl) (by kernel_rfl) (by kernel_rfl) (fun _ _ _ h => h) (Or.inl ⟨by rfl, ?_⟩) hSss10 ?_
  rotate_left
  · intro w hSw; obtain ⟨e0, e1, e2, e3, e4, e5, -⟩ := hSw; go_simp; try with_reducible rfl
  simp only [Act.put, List.setIfInBounds_toArray, List.set_cons_zero, List.set_cons_succ, List.getElem_toArray, List.getElem_cons_succ, List.getElem_cons_zero]
  refine wpAnyT_loadW (i := 4) (v := ?_) rfl (by kernel_rfl) (by kernel_rfl) (by kernel_rfl) (by kernel_rfl) (by kernel_rfl) (fun _ _ _ h => h) (Or.inl ⟨by rfl, ?_⟩) hSss10 ?_
  rotate_left
  · intro w hSw; obtain ⟨e0, e1, e2, e3, e4, e5, -⟩ := hSw; go_simp; try with_reducible rfl
  simp only [Act.put, List.setIfInBounds_toArray, List.set_cons_zero, List.set_cons_succ, List.getElem_toArray, List.getElem_cons_succ, List.getElem_cons_zero]
  refine wpAnyT_one (i := 5) (by kernel_rfl) rfl (by rfl) ?_
  refine wp_deferB .delete #[65, 26] (.tmp 39) (.tmp 40) rfl (m := .map (some pb)) (k := .agg #[.int .i64 c1, .int .i64 c2, .int .i64 c3, .int .i64 c4]) (by kernel_rfl) (by kernel_rfl) ?_
  intro cst
  refine ⟨fun _ h => h, ?_⟩
  try simp only [Act.put, List.setIfInBounds_toArray, List.set_cons_zero, List.set_cons_succ, List.getElem_toArray, List.getElem_cons_succ, List.getElem_cons_zero]
  refine wpAnyT_done (by kernel_rfl) ?_ _
  have HB45 := Lib.hid (show Below w4.heap.size w4 s10 from hB_0_s10.trans ((hB_s10_s10).mono (hB_0_s10).size))
  obtain ⟨w5, rfl⟩ : ∃ x, x = s10 := ⟨_, rfl⟩
  have H5 := Lib.hid (H4.out.below HB45.out)
  have HCB5 := Lib.hid ((HB45.out.block _ (blk_lt HCB4.out)).trans HCB4.out)
  have HG5 := Lib.hid (HG4.out.step HB45.out)
  clear k2
  obtain ⟨-, -, qa, ql, qc, hrow, hrd5⟩ := H5.out.ent _ _ _ HX.out HE.out
  rw [HCG.out] at hrow
  have z1 := blk_cell hrow 1
  have z3 := blk_cell hrow 3
  simp at z1 z3
  have HR5 := Lib.hid hrd5
  clear hrow hrd5
  have k0 := blk_cell HCB5.out 0
  have k1 := blk_cell HCB5.out 1
  have k2 := blk_cell HCB5.out 2
  have k3 := blk_cell HCB5.out 3
  simp at k0 k1 k2 k3
  go_wp2_with (go_at_call 24; refine (HSM.out _ _ _ _ H5.out HG5.out HR5.out).mono ?_; rintro e6 w6 ⟨rfl, F6, sv6, cv6, eb6, hM6, hF6, hG6, hK6⟩; have hE6 := Lib.hid ((hK6 _ (start_self s ⟨c1, c2, c3, c4⟩)).trans HE.out); have HM6 := Lib.hid hM6; have HF6 := Lib.hid hF6; have HG6 := Lib.hid hG6; have HK6 := Lib.hid hK6; obtain ⟨-, -, ya, yl, yc, yrow, -⟩ := hM6.ent _ _ _ HK1.out hE6.out; have y0 := blk_cell yrow 0; have y2 := blk_cell yrow 2; have fy := blk_frozen yrow 2; simp at y0 y2; clear hM6 hF6 hG6 hK6 yrow)
  obtain ⟨hM8, hG8⟩ := HM6.out.check ⟨c1, c2, c3, c4⟩ x HK1.out e hE6.out
  obtain ⟨w7, hrun, hM7, hG7⟩ := hM8.done ⟨c1, c2, c3, c4⟩ HC.out 0
  unfold C4.v at hrun
  refine ⟨.delete, _, _, _, .tuple #[], w7, rfl, by simp [invoke, builtin, hrun], _, results_tmp2 rfl _ _ _, rfl, F6, sv6, cv6, eb6, hM7, fun b hb => HF6.out b (Nat.lt_of_lt_of_le hb HG5.out.size), ((HG5.out.trans HG6.out (fun _ h => .inl h)).trans hG8 (fun x hx => ?_)).trans hG7 (fun x hx => ?_), fun d hd => HK6.out d (start_prog HP.out hd).1⟩
  all_goals
    by_cases h5 : x < w5.heap.size
    · exact .inl (by have e := HF6.out x h5; unfold Mem at hx ⊢; rw [← e]; exact hx)
    · exact .inr (by have := HG5.out.size; omega)
set_option maxRecDepth 20000 in
set_option maxHeartbeats 1000000 in
/-- A cell of whose reads one has another value. -/
theorem get_same0 {F : Nat → Nat} (w : World) {p sp : Nat} {s : MS} {st : List (Option Nat)} {kb pb : Nat} {sv cv : Value} {eb : C4 → Option Nat} (h : MemoIn F w p (sheetV sp) s st kb pb sv cv eb) (c : C4) (hc : c.ok) (hp : s.prog c = false) (hn : s.pn ≤ most) (x : Ent) (hx : s.kept c = some x) (hch : x.checked = false) (hcg : x.changed = false) (s1 s' : MS) (r : Int × Int) (hp1 : ∀ d, (s.start c).prog d = true → s1.prog d = true)
    (hsm : ∀ w' a len cap, MemoIn F w' p (sheetV sp) (s.start c) st kb pb sv cv eb → Gr (Mem F) w w' → Rd (.sl readT) (fun b => F b = 7) w' [.slice a len cap] (rdsD x.reads) → Calls Try.prog 24 #[.pointer (some ⟨p, 0, none⟩), .slice a len cap] w' (Left48 F w' p sp st kb pb s1 eb (fun d => (s.start c).prog d = true) (.bool false)))
    (hev : ∀ F' w' sv' cv' eb', MemoIn F' w' p (sheetV sp) s1 st kb pb sv' cv' eb' → Gr (Mem F) w w' → (∀ b, b < w.heap.size → F' b = F b) → Calls Try.prog 25 #[.pointer (some ⟨p, 0, none⟩), c.v] w' (Left48 F' w' p sp st kb pb s' eb' (fun d => s1.prog d = true ∧ d ≠ c) (.tuple #[.int .i64 r.1, .int .i64 r.2]))) :
    Calls Try.prog 20 #[.pointer (some ⟨p, 0, none⟩), c.v] w (Left48 F w p sp st kb pb (s'.done c) eb (fun d => s.prog d = true) (.tuple #[.int .i64 r.1, .int .i64 r.2])) := by
  have HP := Lib.hid hp
  have HN := Lib.hid hn
  have HSM := Lib.hid hsm
  have HEV := Lib.hid hev
  have HP1 := Lib.hid hp1
  obtain ⟨e, he⟩ : ∃ e, eb c = some e := Option.isSome_iff_exists.1 (by rw [← h.some_, hx]; rfl)
  have HE := Lib.hid he
  have HX := Lib.hid hx
  have HCH := Lib.hid hch
  have HCG := Lib.hid hcg
  clear he hx hch hcg
  clear hp hn hsm hev hp1
  have hB1 : Below w.heap.size w (w.alloc (.cells #[.int .i64 c.st, .int .i64 c.en, .int .i64 c.ot, .int .i64 c.pe] 26)) := (Below.refl _ w).alloc (Nat.le_refl _) _
  have hcb := heap_alloc_new w (.cells #[.int .i64 c.st, .int .i64 c.en, .int .i64 c.ot, .int .i64 c.pe] 26)
  have h1 := h.below hB1
  have HC := Lib.hid hc
  have HCB := Lib.hid hcb
  have HB1 := Lib.hid hB1
  have H1 := Lib.hid h1
  have H := Lib.hid h
  obtain ⟨c1, c2, c3, c4⟩ := c
  unfold C4.v
  simp only at *
  clear h hc hcb hB1 h1
  refine calls_of_wp_deferB Try.func20 rfl ?_
  simp only [Try.ntmps20, List.size_toArray, List.length_cons, List.length_nil, Nat.reduceAdd, Nat.reduceSub, Array.replicate_succ, Array.replicate_zero, List.push_toArray, List.append_toArray, List.nil_append, List.cons_append]
  go_wp2_with fail
  generalize w.alloc (.cells #[.int .i64 c1, .int .i64 c2, .int .i64 c3, .int .i64 c4] 26) = w1 at *
  have hC1 : Cells [(⟨p, 1, none⟩, .map (some kb)), (⟨p, 2, none⟩, .map (some pb)), (⟨w.heap.size, 0, none⟩, .int .i64 c1), (⟨w.heap.size, 1, none⟩, .int .i64 c2), (⟨w.heap.size, 2, none⟩, .int .i64 c3), (⟨w.heap.size, 3, none⟩, .int .i64 c4)] w1 := ⟨blk_cell H1.out.row 1, blk_cell H1.out.row 2, blk_cell HCB.out 0, blk_cell HCB.out 1, blk_cell HCB.out 2, blk_cell HCB.out 3, trivial⟩
  refine wp_region_T (Cells [(⟨p, 1, none⟩, .map (some kb)), (⟨p, 2, none⟩, .map (some pb)), (⟨w.heap.size, 0, none⟩, .int .i64 c1), (⟨w.heap.size, 1, none⟩, .int .i64 c2), (⟨w.heap.size, 2, none⟩, .int .i64 c3), (⟨w.heap.size, 3, none⟩, .int .i64 c4)]) (fun _ => false) (by kernel_rfl) ?_
  have hSss11 := Cells.drew hC1
  have hB_0_s11 : Below w1.heap.size w1 w1.drew := below_drew _
  generalize w1.drew = s11 at hSss11 hB_0_s11 ⊢
  have hB_s11_s11 := Below.refl s11.heap.size s11
  refine wpAnyT_pure (i := 0) (v := ?_) rfl (by kernel_rfl) (by kernel_rfl) (by kernel_rfl) (fun _ _ _ h => h) (by rfl) ?_ ?_
  rotate_left
  · intro w; go_simp; try with_reducible rfl
  simp only [Act.put, List.setIfInBounds_toArray, List.set_cons_zero, List.set_cons_succ, List.getElem_toArray, List.getElem_cons_succ, List.getElem_cons_zero]
  refine wpAnyT_pure (i := 1) (v := ?_) rfl (by kernel_rfl) (by kernel_rfl) (by kernel_rfl) (fun _ _ _ h => h) (by rfl) ?_ ?_
  rotate_left
  · intro w; go_simp; try with_reducible rfl
  simp only [Act.put, List.setIfInBounds_toArray, List.set_cons_zero, List.set_cons_succ, List.getElem_toArray, List.getElem_cons_succ, List.getElem_cons_zero]
  refine wpAnyT_pure (i := 2) (v := ?_) rfl (by kernel_rfl) (by kernel_rfl) (by kernel_rfl) (fun _ _ _ h => h) (by rfl) ?_ ?_
  rotate_left
  · intro w; go_simp; try with_reducible rfl
  simp only [Act.put, List.setIfInBounds_toArray, List.set_cons_zero, List.set_cons_succ, List.getElem_toArray, List.getElem_cons_succ, List.getElem_cons_zero]
  refine wpAnyT_loadW (i := 3) (v := ?_) rfl (by kernel_rfl) (by kernel_rfl) (by kernel_rfl) (by kernel_rfl) (by kernel_rfl) (fun _ _ _ h => h) (Or.inl ⟨by rfl, ?_⟩) hSss11 ?_
  rotate_left
  · intro w hSw; obtain ⟨e0, e1, e2, e3, e4, e5, -⟩ := hSw; go_simp; try with_reducible rfl
  simp only [Act.put, List.setIfInBounds_toArray, List.set_cons_zero, List.set_cons_succ, List.getElem_toArray, List.getElem_cons_succ, List.getElem_cons_zero]
  refine wpAnyT_loadW (i := 4) (v := ?_) rfl (by kernel_rfl) (by kernel_rfl) (by kernel_rfl) (by kernel_rfl) (by kernel_rfl) (fun _ _ _ h => h) (Or.inl ⟨by rfl, ?_⟩) hSss11 ?_
  rotate_left
  · intro w hSw; obtain ⟨e0, e1, e2, e3, e4, e5, -⟩ := hSw; go_simp; try with_reducible rfl
  simp only [Act.put, List.setIfInBounds_toArray, List.set_cons_zero, List.set_cons_succ, List.getElem_toArray, List.getElem_cons_succ, List.getElem_cons_zero]
  refine wpAnyT_one (i := 5) (by kernel_rfl) rfl (by rfl) ?_
  have hlk := ((H1.out.below (hB_0_s11.trans ((hB_s11_s11).mono (hB_0_s11).size))).mpr).look ⟨c1, c2, c3, c4⟩ HC.out
  rw [HP.out] at hlk
  unfold C4.v at hlk
  refine wp_value (v := .bool false) (w' := s11) (by go_simp) ?_
  clear hlk
  refine ⟨fun _ h => h, ?_⟩
  try simp only [Act.put, List.setIfInBounds_toArray, List.set_cons_zero, List.set_cons_succ, List.getElem_toArray, List.getElem_cons_succ, List.getElem_cons_zero]
  refine wpAnyT_done (by kernel_rfl) ?_ _
  have HB12 := Lib.hid (show Below w1.heap.size w1 s11 from hB_0_s11.trans ((hB_s11_s11).mono (hB_0_s11).size))
  obtain ⟨w2, rfl⟩ : ∃ x, x = s11 := ⟨_, rfl⟩
  have HB2 := Lib.hid (below_step HB1.out HB12.out)
  have H2 := Lib.hid (H.out.below HB2.out)
  have HCB2 := Lib.hid ((HB12.out.block _ (blk_lt HCB.out)).trans HCB.out)
  go_wp2_with fail
  have hC2 : Cells [(⟨p, 1, none⟩, .map (some kb)), (⟨p, 2, none⟩, .map (some pb)), (⟨w.heap.size, 0, none⟩, .int .i64 c1), (⟨w.heap.size, 1, none⟩, .int .i64 c2), (⟨w.heap.size, 2, none⟩, .int .i64 c3), (⟨w.heap.size, 3, none⟩, .int .i64 c4)] w2 := ⟨blk_cell H2.out.row 1, blk_cell H2.out.row 2, blk_cell HCB2.out 0, blk_cell HCB2.out 1, blk_cell HCB2.out 2, blk_cell HCB2.out 3, trivial⟩
  refine wp_region_T (Cells [(⟨p, 1, none⟩, .map (some kb)), (⟨p, 2, none⟩, .map (some pb)), (⟨w.heap.size, 0, none⟩, .int .i64 c1), (⟨w.heap.size, 1, none⟩, .int .i64 c2), (⟨w.heap.size, 2, none⟩, .int .i64 c3), (⟨w.heap.size, 3, none⟩, .int .i64 c4)]) (fun _ => false) (by kernel_rfl) ?_
  have hSss12 := Cells.drew hC2
  have hB_0_s12 : Below w2.heap.size w2 w2.drew := below_drew _
  generalize w2.drew = s12 at hSss12 hB_0_s12 ⊢
  have hB_s12_s12 := Below.refl s12.heap.size s12
  refine wpAnyT_pure (i := 0) (v := ?_) rfl (by kernel_rfl) (by kernel_rfl) (by kernel_rfl) (fun _ _ _ h => h) (by rfl) ?_ ?_
  rotate_left
  · intro w; go_simp; try with_reducible rfl
  simp only [Act.put, List.setIfInBounds_toArray, List.set_cons_zero, List.set_cons_succ, List.getElem_toArray, List.getElem_cons_succ, List.getElem_cons_zero]
  refine wpAnyT_pure (i := 1) (v := ?_) rfl (by kernel_rfl) (by kernel_rfl) (by kernel_rfl) (fun _ _ _ h => h) (by rfl) ?_ ?_
  rotate_left
  · intro w; go_simp; try with_reducible rfl
  simp only [Act.put, List.setIfInBounds_toArray, List.set_cons_zero, List.set_cons_succ, List.getElem_toArray, List.getElem_cons_succ, List.getElem_cons_zero]
  refine wpAnyT_pure (i := 2) (v := ?_) rfl (by kernel_rfl) (by kernel_rfl) (by kernel_rfl) (fun _ _ _ h => h) (by rfl) ?_ ?_
  rotate_left
  · intro w; go_simp; try with_reducible rfl
  simp only [Act.put, List.setIfInBounds_toArray, List.set_cons_zero, List.set_cons_succ, List.getElem_toArray, List.getElem_cons_succ, List.getElem_cons_zero]
  refine wpAnyT_loadW (i := 3) (v := ?_) rfl (by kernel_rfl) (by kernel_rfl) (by kernel_rfl) (by kernel_rfl) (by kernel_rfl) (fun _ _ _ h => h) (Or.inl ⟨by rfl, ?_⟩) hSss12 ?_
  rotate_left
  · intro w hSw; obtain ⟨e0, e1, e2, e3, e4, e5, -⟩ := hSw; go_simp; try with_reducible rfl
  simp only [Act.put, List.setIfInBounds_toArray, List.set_cons_zero, List.set_cons_succ, List.getElem_toArray, List.getElem_cons_succ, List.getElem_cons_zero]
  refine wpAnyT_loadW (i := 4) (v := ?_) rfl (by kernel_rfl) (by kernel_rfl) (by kernel_rfl) (by kernel_rfl) (by kernel_rfl) (fun _ _ _ h => h) (Or.inl ⟨by rfl, ?_⟩) hSss12 ?_
  rotate_left
  · intro w hSw; obtain ⟨e0, e1, e2, e3, e4, e5, -⟩ := hSw; go_simp; try with_reducible rfl
  simp only [Act.put, List.setIfInBounds_toArray, List.set_cons_zero, List.set_cons_succ, List.getElem_toArray, List.getElem_cons_succ, List.getElem_cons_zero]
  refine wpAnyT_one (i := 5) (by kernel_rfl) rfl (by rfl) ?_
  have hlk := ((H2.out.below (hB_0_s12.trans ((hB_s12_s12).mono (hB_0_s12).size))).mke).look ⟨c1, c2, c3, c4⟩ HC.out
  rw [HE.out] at hlk
  unfold C4.v ptrV at hlk
  simp only at hlk
  refine wp_value (v := .pointer (some ⟨e, 0, none⟩)) (w' := s12) (by go_simp) ?_
  clear hlk
  refine ⟨fun _ h => h, ?_⟩
  try simp only [Act.put, List.setIfInBounds_toArray, List.set_cons_zero, List.set_cons_succ, List.getElem_toArray, List.getElem_cons_succ, List.getElem_cons_zero]
  refine wpAnyT_pure (i := 6) (v := ?_) rfl (by kernel_rfl) (by kernel_rfl) (by kernel_rfl) (fun _ _ _ h => h) (by rfl) ?_ ?_
  rotate_left
  · intro w; go_simp; try with_reducible rfl
  simp only [Act.put, List.setIfInBounds_toArray, List.set_cons_zero, List.set_cons_succ, List.getElem_toArray, List.getElem_cons_succ, List.getElem_cons_zero]
  refine wpAnyT_done (by kernel_rfl) ?_ _
  have HB23 := Lib.hid (show Below w2.heap.size w2 s12 from hB_0_s12.trans ((hB_s12_s12).mono (hB_0_s12).size))
  obtain ⟨w3, rfl⟩ : ∃ x, x = s12 := ⟨_, rfl⟩
  have HB3 := Lib.hid (below_step HB2.out HB23.out)
  have H3 := Lib.hid (H.out.below HB3.out)
  have HCB3 := Lib.hid ((HB23.out.block _ (blk_lt HCB2.out)).trans HCB2.out)
  obtain ⟨-, -, ra, rl, rc, hrow, -⟩ := H3.out.ent _ _ _ HX.out HE.out
  rw [HCH.out] at hrow
  have k2 := blk_cell hrow 2
  simp at k2
  clear hrow
  go_wp2_with fail
  have hC3 : Cells [(⟨p, 1, none⟩, .map (some kb)), (⟨p, 2, none⟩, .map (some pb)), (⟨w.heap.size, 0, none⟩, .int .i64 c1), (⟨w.heap.size, 1, none⟩, .int .i64 c2), (⟨w.heap.size, 2, none⟩, .int .i64 c3), (⟨w.heap.size, 3, none⟩, .int .i64 c4)] w3 := ⟨blk_cell H3.out.row 1, blk_cell H3.out.row 2, blk_cell HCB3.out 0, blk_cell HCB3.out 1, blk_cell HCB3.out 2, blk_cell HCB3.out 3, trivial⟩
  refine wp_region_T (Cells [(⟨p, 1, none⟩, .map (some kb)), (⟨p, 2, none⟩, .map (some pb)), (⟨w.heap.size, 0, none⟩, .int .i64 c1), (⟨w.heap.size, 1, none⟩, .int .i64 c2), (⟨w.heap.size, 2, none⟩, .int .i64 c3), (⟨w.heap.size, 3, none⟩, .int .i64 c4)]) (fun i => i == 5) (by kernel_rfl) ?_
  have hSss13 := Cells.drew hC3
  have hB_0_s13 : Below w3.heap.size w3 w3.drew := below_drew _
  generalize w3.drew = s13 at hSss13 hB_0_s13 ⊢
  have hB_s13_s13 := Below.refl s13.heap.size s13
  refine wpAnyT_pure (i := 0) (v := ?_) rfl (by kernel_rfl) (by kernel_rfl) (by kernel_rfl) (fun _ _ _ h => h) (by rfl) ?_ ?_
  rotate_left
  · intro w; go_simp; try with_reducible rfl
  simp only [Act.put, List.setIfInBounds_toArray, List.set_cons_zero, List.set_cons_succ, List.getElem_toArray, List.getElem_cons_succ, List.getElem_cons_zero]
  refine wpAnyT_pure (i := 1) (v := ?_) rfl (by kernel_rfl) (by kernel_rfl) (by kernel_rfl) (fun _ _ _ h => h) (by rfl) ?_ ?_
  rotate_left
  · intro w; go_simp; try with_reducible rfl
  simp only [Act.put, List.setIfInBounds_toArray, List.set_cons_zero, List.set_cons_succ, List.getElem_toArray, List.getElem_cons_succ, List.getElem_cons_zero]
  refine wpAnyT_pure (i := 2) (v := ?_) rfl (by kernel_rfl) (by kernel_rfl) (by kernel_rfl) (fun _ _ _ h => h) (by rfl) ?_ ?_
  rotate_left
  · intro w; go_simp; try with_reducible rfl
  simp only [Act.put, List.setIfInBounds_toArray, List.set_cons_zero, List.set_cons_succ, List.getElem_toArray, List.getElem_cons_succ, List.getElem_cons_zero]
  refine wpAnyT_loadW (i := 3) (v := ?_) rfl (by kernel_rfl) (by kernel_rfl) (by kernel_rfl) (by kernel_rfl) (by kernel_rfl) (fun _ _ _ h => h) (Or.inl ⟨by rfl, ?_⟩) hSss13 ?_
  rotate_left
  · intro w hSw; obtain ⟨e0, e1, e2, e3, e4, e5, -⟩ := hSw; go_simp; try with_reducible rfl
  simp only [Act.put, List.setIfInBounds_toArray, List.set_cons_zero, List.set_cons_succ, List.getElem_toArray, List.getElem_cons_succ, List.getElem_cons_zero]
  refine wpAnyT_loadW (i := 4) (v := ?_) rfl (by kernel_rfl) (by kernel_rfl) (by kernel_rfl) (by kernel_rfl) (by kernel_rfl) (fun _ _ _ h => h) (Or.inl ⟨by rfl, ?_⟩) hSss13 ?_
  rotate_left
  · intro w hSw; obtain ⟨e0, e1, e2, e3, e4, e5, -⟩ := hSw; go_simp; try with_reducible rfl
  simp only [Act.put, List.setIfInBounds_toArray, List.set_cons_zero, List.set_cons_succ, List.getElem_toArray, List.getElem_cons_succ, List.getElem_cons_zero]
  refine wpAnyT_one (i := 5) (by kernel_rfl) rfl (by rfl) ?_
  have hb3 : Below w3.heap.size w3 s13 := hB_0_s13.trans ((hB_s13_s13).mono (hB_0_s13).size)
  obtain ⟨w114, hrun, hM, hG⟩ := (H3.out.below hb3).start HN.out ⟨c1, c2, c3, c4⟩ HC.out
  unfold C4.v at hrun
  refine wp_mapset1 (w' := w114) 65 (.tmp 34) (.tmp 35) (.const (.bool true)) rfl (m := .map (some pb)) (k := .agg #[.int .i64 c1, .int .i64 c2, .int .i64 c3, .int .i64 c4]) (v := .bool true) (by kernel_rfl) (by kernel_rfl) (by kernel_rfl) hrun ?_
  have hfree : F w.heap.size = 0 := by
    by_cases e : F w.heap.size = 0
    · exact e
    · have := H.out.dom _ e; omega
  have HCB4 := Lib.hid (blk_gr hG ((hb3.block _ (blk_lt HCB3.out)).trans HCB3.out) (fun e => e.1 hfree))
  have HG4 := Lib.hid ((Gr.of_below (F := Mem F) (below_step HB3.out hb3)).trans hG (fun _ h => .inl h))
  clear hrun hb3
  refine ⟨fun h => absurd h (by decide), ?_⟩
  try simp only [Act.put, List.setIfInBounds_toArray, List.set_cons_zero, List.set_cons_succ, List.getElem_toArray, List.getElem_cons_succ, List.getElem_cons_zero]
  refine wpAnyT_done (by kernel_rfl) ?_ _
  obtain ⟨w4, rfl⟩ : ∃ x, x = w114 := ⟨_, rfl⟩
  have H4 := Lib.hid hM
  clear hM hG
  go_wp2_with fail
  have hC4 : Cells [(⟨p, 1, none⟩, .map (some kb)), (⟨p, 2, none⟩, .map (some pb)), (⟨w.heap.size, 0, none⟩, .int .i64 c1), (⟨w.heap.size, 1, none⟩, .int .i64 c2), (⟨w.heap.size, 2, none⟩, .int .i64 c3), (⟨w.heap.size, 3, none⟩, .int .i64 c4)] w4 := ⟨blk_cell H4.out.row 1, blk_cell H4.out.row 2, blk_cell HCB4.out 0, blk_cell HCB4.out 1, blk_cell HCB4.out 2, blk_cell HCB4.out 3, trivial⟩
  refine wp_region_T (Cells [(⟨p, 1, none⟩, .map (some kb)), (⟨p, 2, none⟩, .map (some pb)), (⟨w.heap.size, 0, none⟩, .int .i64 c1), (⟨w.heap.size, 1, none⟩, .int .i64 c2), (⟨w.heap.size, 2, none⟩, .int .i64 c3), (⟨w.heap.size, 3, none⟩, .int .i64 c4)]) (fun _ => false) (by kernel_rfl) ?_
  have hSss15 := Cells.drew hC4
  have hB_0_s15 : Below w4.heap.size w4 w4.drew := below_drew _
  generalize w4.drew = s15 at hSss15 hB_0_s15 ⊢
  have hB_s15_s15 := Below.refl s15.heap.size s15
  refine wpAnyT_pure (i := 0) (v := ?_) rfl (by kernel_rfl) (by kernel_rfl) (by kernel_rfl) (fun _ _ _ h => h) (by rfl) ?_ ?_
  rotate_left
  · intro w; go_simp; try with_reducible rfl
  simp only [Act.put, List.setIfInBounds_toArray, List.set_cons_zero, List.set_cons_succ, List.getElem_toArray, List.getElem_cons_succ, List.getElem_cons_zero]
  refine wpAnyT_pure (i := 1) (v := ?_) rfl (by kernel_rfl) (by kernel_rfl) (by kernel_rfl) (fun _ _ _ h => h) (by rfl) ?_ ?_
  rotate_left
  · intro w; go_simp; try with_reducible rfl
  simp only [Act.put, List.setIfInBounds_toArray, List.set_cons_zero, List.set_cons_succ, List.getElem_toArray, List.getElem_cons_succ, List.getElem_cons_zero]
  refine wpAnyT_pure (i := 2) (v := ?_) rfl (by kernel_rfl) (by kernel_rfl) (by kernel_rfl) (fun _ _ _ h => h) (by rfl) ?_ ?_
  rotate_left
  · intro w; go_simp; try with_reducible rfl
  simp only [Act.put, List.setIfInBounds_toArray, List.set_cons_zero, List.set_cons_succ, List.getElem_toArray, List.getElem_cons_succ, List.getElem_cons_zero]
  refine wpAnyT_loadW (i := 3) (v := ?_) rfl (by kernel_rfl) (by kernel_rfl) (by kernel_rfl) (by kernel_rfl) (by kernel_rfl) (fun _ _ _ h => h) (Or.inl ⟨by rfl, ?_⟩) hSss15 ?_
  rotate_left
  · intro w hSw; obtain ⟨e0, e1, e2, e3, e4, e5, -⟩ := hSw; go_simp; try with_reducible rfl
  simp only [Act.put, List.setIfInBounds_toArray, List.set_cons_zero, List.set_cons_succ, List.getElem_toArray, List.getElem_cons_succ, List.getElem_cons_zero]
  refine wpAnyT_loadW (i := 4) (v := ?_) rfl (by kernel_rfl) (by kernel_rfl) (by kernel_rfl) (by kernel_rfl) (by kernel_rfl) (fun _ _ _ h => h) (Or.inl ⟨by rfl, ?_⟩) hSss15 ?_
  rotate_left
  · intro w hSw; obtain ⟨e0, e1, e2, e3, e4, e5, -⟩ := hSw; go_simp; try with_reducible rfl
  simp only [Act.put, List.setIfInBounds_toArray, List.set_cons_zero, List.set_cons_succ, List.getElem_toArray, List.getElem_cons_succ, List.getElem_cons_zero]
  refine wpAnyT_one (i := 5) (by kernel_rfl) rfl (by rfl) ?_
  refine wp_deferB .delete #[65, 26] (.tmp 39) (.tmp 40) rfl (m := .map (some pb)) (k := .agg #[.int .i64 c1, .int .i64 c2, .int .i64 c3, .int .i64 c4]) (by kernel_rfl) (by kernel_rfl) ?_
  intro cst
  refine ⟨fun _ h => h, ?_⟩
  try simp only [Act.put, List.setIfInBounds_toArray, List.set_cons_zero, List.set_cons_succ, List.getElem_toArray, List.getElem_cons_succ, List.getElem_cons_zero]
  refine wpAnyT_done (by kernel_rfl) ?_ _
  have HB45 := Lib.hid (show Below w4.heap.size w4 s15 from hB_0_s15.trans ((hB_s15_s15).mono (hB_0_s15).size))
  obtain ⟨w5, rfl⟩ : ∃ x, x = s15 := ⟨_, rfl⟩
  have H5 := Lib.hid (H4.out.below HB45.out)
  have HCB5 := Lib.hid ((HB45.out.block _ (blk_lt HCB4.out)).trans HCB4.out)
  have HG5 := Lib.hid (HG4.out.step HB45.out)
  clear k2
  obtain ⟨-, -, qa, ql, qc, hrow, hrd5⟩ := H5.out.ent _ _ _ HX.out HE.out
  rw [HCG.out] at hrow
  have z1 := blk_cell hrow 1
  have z3 := blk_cell hrow 3
  simp at z1 z3
  have HR5 := Lib.hid hrd5
  clear hrow hrd5
  have k0 := blk_cell HCB5.out 0
  have k1 := blk_cell HCB5.out 1
  have k2 := blk_cell HCB5.out 2
  have k3 := blk_cell HCB5.out 3
  simp at k0 k1 k2 k3
  go_wp2_with (first
    | (go_at_call 24; refine (HSM.out _ _ _ _ H5.out HG5.out HR5.out).mono ?_; rintro e6 w6 ⟨rfl, F6, sv6, cv6, eb6, hM6, hF6, hG6, hK6⟩; have HM6 := Lib.hid hM6; have HF6 := Lib.hid (show ∀ b, b < w.heap.size → F6 b = F b from fun b hb => hF6 b (Nat.lt_of_lt_of_le hb HG5.out.size)); have HG6 := Lib.hid (HG5.out.trans hG6 (fun _ h => .inl h)); have HK6 := Lib.hid hK6; have HCB6 := Lib.hid (blk_gr hG6 HCB5.out (fun e => e.1 (by by_cases e0 : F w.heap.size = 0; exact e0; exact absurd (H.out.dom _ e0) (by omega)))); have x0 := blk_cell HCB6.out 0; have x1 := blk_cell HCB6.out 1; have x2 := blk_cell HCB6.out 2; have x3 := blk_cell HCB6.out 3; simp at x0 x1 x2 x3; clear hM6 hF6 hG6 hK6)
    | (go_at_call 25; refine (HEV.out _ _ _ _ _ HM6.out HG6.out HF6.out).mono ?_; rintro e7 w7 ⟨rfl, F7, sv7, cv7, eb7, hM7, hF7, hG7, hK7⟩))
  obtain ⟨w8, hrun, hM8, hG8⟩ := hM7.done ⟨c1, c2, c3, c4⟩ HC.out 0
  unfold C4.v at hrun
  have hF : ∀ b, b < w.heap.size → F7 b = F b := fun b hb => (hF7 b (Nat.lt_of_lt_of_le hb HG6.out.size)).trans (HF6.out b hb)
  refine ⟨.delete, _, _, _, .tuple #[], w8, rfl, by simp [invoke, builtin, hrun], _, results_tmp2 rfl _ _ _, rfl, F7, sv7, cv7, eb7, hM8, hF, (HG6.out.trans hG7 (fun x hx => ?_)).trans hG8 (fun x hx => ?_), fun d hd => ?_⟩
  · by_cases h5 : x < w.heap.size
    · exact .inl (by have e := HF6.out x h5; unfold Mem at hx ⊢; rw [← e]; exact hx)
    · exact .inr (by omega)
  · by_cases h5 : x < w.heap.size
    · exact .inl (by have e := hF x h5; unfold Mem at hx ⊢; rw [← e]; exact hx)
    · exact .inr (by omega)
  · obtain ⟨q1, q2⟩ := start_prog HP.out hd
    exact (hK7 d ⟨HP1.out d q1, q2⟩).trans (HK6.out d q1)
end Go.Proofs.Ytmmeieangbcfaaa
