/- Layer 48: get, the paths that evaluate. -/
import Derived.Test.YtmmeieangbcfaaaC48k
set_option linter.unusedSimpArgs false
namespace Go.Proofs.Ytmmeieangbcfaaa
open Go.RowKit Go

theorem wp_mapset1 {P : Program} {o : Oper} {a : Act} {w w' : World} {K : Act → World → Prop} {Q : Exit → Act → World → Prop} (t : TypeId) (x y z : Operand) (ho : o.op = .mapUpdate t x y z) {m k v : Value}
    (hx : a.eval x = m) (hy : a.eval y = k) (hz : a.eval z = v) (hrun : (Instr.mapUpdate t m k v).run P w = .ok () w') (h : K (a.put o.dst undef) w') : o.wp P a w K Q := by
  unfold Oper.wp execOp
  simp only [ho, hx, hy, hz, Sem.run_bind, Sem.run_pure, Result.andThen_ok, hrun]
  exact h
theorem wp_deferB {P : Program} {o : Oper} {a : Act} {w : World} {K : Act → World → Prop} {Q : Exit → Act → World → Prop} (b : Builtin) (ts : Array TypeId) (x y : Operand) (ho : o.op = .defer { callee := .builtin b, args := #[x, y], argTypes := ts }) {m k : Value}
    (hx : a.eval x = m) (hy : a.eval y = k) (h : ∀ cs, K ({ a with defers := { target := .builtin b ts o.type cs, args := #[m, k] } :: a.defers }.put o.dst undef) w) : o.wp P a w K Q := by
  unfold Oper.wp execOp
  simp only [ho, resolve, Sem.run_bind, Sem.run_pure, Result.andThen_ok]
  subst hx hy
  rw [Oper.upon_defer, show Array.map a.eval #[x, y] = #[a.eval x, a.eval y] by simp]
  exact h (#[x, y].map fun | .const _ => true | _ => false)
theorem start_prog {s : MS} {c d : C4} (hp : s.prog c = false) (hd : s.prog d = true) : (s.start c).prog d = true ∧ d ≠ c := by
  have hne : d ≠ c := fun e => by rw [e, hp] at hd; cases hd
  exact ⟨by show upd s.prog c true d = true; unfold upd; rw [if_neg hne]; exact hd, hne⟩
set_option maxRecDepth 20000 in
set_option maxHeartbeats 1000000 in
/-- A cell that is not kept. -/
theorem get_new {F : Nat → Nat} (w : World) {p sp : Nat} {s : MS} {st : List (Option Nat)} {kb pb : Nat} {sv cv : Value} {eb : C4 → Option Nat} (h : MemoIn F w p (sheetV sp) s st kb pb sv cv eb) (c : C4) (hc : c.ok) (hp : s.prog c = false) (hn : s.pn ≤ most) (hx : s.kept c = none) (s' : MS) (r : Int × Int)
    (hev : ∀ w', MemoIn F w' p (sheetV sp) (s.start c) st kb pb sv cv eb → Gr (Mem F) w w' → Calls Try.prog 25 #[.pointer (some ⟨p, 0, none⟩), c.v] w' (Left48 F w' p sp st kb pb s' eb (fun d => (s.start c).prog d = true ∧ d ≠ c) (.tuple #[.int .i64 r.1, .int .i64 r.2]))) :
    Calls Try.prog 20 #[.pointer (some ⟨p, 0, none⟩), c.v] w (Left48 F w p sp st kb pb (s'.done c) eb (fun d => s.prog d = true) (.tuple #[.int .i64 r.1, .int .i64 r.2])) := by
  have HP := Lib.hid hp
  have HN := Lib.hid hn
  have HEV := Lib.hid hev
  have he : eb c = none := Option.isNone_iff_eq_none.1 (by rw [Option.isNone_iff_eq_none, ← Option.not_isSome_iff_eq_none, ← h.some_, hx]; simp)
  have HE := Lib.hid he
  clear he hx
  clear hp hn hev
  have hB1 : Below w.heap.size w (w.alloc (.cells #[.int .i64 c.st, .int .i64 c.en, .int .i64 c.ot, .int .i64 c.pe] 26)) := (Below.refl _ w).alloc (Nat.le_refl _) _
  have hcb := heap_alloc_new w (.cells #[.int .i64 c.st, .int .i64 c.en, .int .i64 c.ot, .int .i64 c.pe] 26)
  have h1 := h.below hB1
  have HC := Lib.hid hc
  have HCB := Lib.hid hcb
  have HB1 := Lib.hid hB1
  have H1 := Lib.hid h1
  have H := Lib.hid h
  obtain ⟨c1, c2, c3, c4⟩ := c
  unfold C4.v
  simp only at *
  clear h hc hcb hB1 h1
  refine calls_of_wp_deferB Try.func20 rfl ?_
  simp only [Try.ntmps20, List.size_toArray, List.length_cons, List.length_nil, Nat.reduceAdd, Nat.reduceSub, Array.replicate_succ, Array.replicate_zero, List.push_toArray, List.append_toArray, List.nil_append, List.cons_append]
  go_wp2_with fail
  generalize w.alloc (.cells #[.int .i64 c1, .int .i64 c2, .int .i64 c3, .int .i64 c4] 26) = w1 at *
  have hC1 : Cells [(⟨p, 1, none⟩, .map (some kb)), (⟨p, 2, none⟩, .map (some pb)), (⟨w.heap.size, 0, none⟩, .int .i64 c1), (⟨w.heap.size, 1, none⟩, .int .i64 c2), (⟨w.heap.size, 2, none⟩, .int .i64 c3), (⟨w.heap.size, 3, none⟩, .int .i64 c4)] w1 := ⟨blk_cell H1.out.row 1, blk_cell H1.out.row 2, blk_cell HCB.out 0, blk_cell HCB.out 1, blk_cell HCB.out 2, blk_cell HCB.out 3, trivial⟩
  refine wp_region_T (Cells [(⟨p, 1, none⟩, .map (some kb)), (⟨p, 2, none⟩, .map (some pb)), (⟨w.heap.size, 0, none⟩, .int .i64 c1), (⟨w.heap.size, 1, none⟩, .int .i64 c2), (⟨w.heap.size, 2, none⟩, .int .i64 c3), (⟨w.heap.size, 3, none⟩, .int .i64 c4)]) (fun _ => false) (by kernel_rfl) ?_
  have hSss1 := Cells.drew hC1
  have hB_0_s1 : Below w1.heap.size w1 w1.drew := below_drew _
  generalize w1.drew = s1 at hSss1 hB_0_s1 ⊢
  have hB_s1_s1 := Below.refl s1.heap.size s1
  refine wpAnyT_pure (i := 0) (v := ?_) rfl (by kernel_rfl) (by kernel_rfl) (by kernel_rfl) (fun _ _ _ h => h) (by rfl) ?_ ?_
  rotate_left
  · intro w; go_simp; try with_reducible rfl
  simp only [Act.put, List.setIfInBounds_toArray, List.set_cons_zero, List.set_cons_succ, List.getElem_toArray, List.getElem_cons_succ, List.getElem_cons_zero]
  refine wpAnyT_pure (i := 1) (v := ?_) rfl (by kernel_rfl) (by kernel_rfl) (by kernel_rfl) (fun _ _ _ h => h) (by rfl) ?_ ?_
  rotate_left
  · intro w; go_simp; try with_reducible rfl
  simp only [Act.put, List.setIfInBounds_toArray, List.set_cons_zero, List.set_cons_succ, List.getElem_toArray, List.getElem_cons_succ, List.getElem_cons_zero]
  refine wpAnyT_pure (i := 2) (v := ?_) rfl (by kernel_rfl) (by kernel_rfl) (by kernel_rfl) (fun _ _ _ h => h) (by rfl) ?_ ?_
  rotate_left
  · intro w; go_simp; try with_reducible rfl
  simp only [Act.put, List.setIfInBounds_toArray, List.set_cons_zero, List.set_cons_succ, List.getElem_toArray, List.getElem_cons_succ, List.getElem_cons_zero]
  refine wpAnyT_loadW (i := 3) (v := ?_) rfl (by kernel_rfl) (by kernel_rfl) (by kernel_rfl) (by kernel_rfl) (by kernel_rfl) (fun _ _ _ h => h) (Or.inl ⟨by rfl, ?_⟩) hSss1 ?_
  rotate_left
  · intro w hSw; obtain ⟨e0, e1, e2, e3, e4, e5, -⟩ := hSw; go_simp; try with_reducible rfl
  simp only [Act.put, List.setIfInBounds_toArray, List.set_cons_zero, List.set_cons_succ, List.getElem_toArray, List.getElem_cons_succ, List.getElem_cons_zero]
  refine wpAnyT_loadW (i := 4) (v := ?_) rfl (by kernel_rfl) (by kernel_rfl) (by kernel_rfl) (by kernel_rfl) (by kernel_rfl) (fun _ _ _ h => h) (Or.inl ⟨by rfl, ?_⟩) hSss1 ?_
  rotate_left
  · intro w hSw; obtain ⟨e0, e1, e2, e3, e4, e5, -⟩ := hSw; go_simp; try with_reducible rfl
  simp only [Act.put, List.setIfInBounds_toArray, List.set_cons_zero, List.set_cons_succ, List.getElem_toArray, List.getElem_cons_succ, List.getElem_cons_zero]
  refine wpAnyT_one (i := 5) (by kernel_rfl) rfl (by rfl) ?_
  have hlk := ((H1.out.below (hB_0_s1.trans ((hB_s1_s1).mono (hB_0_s1).size))).mpr).look ⟨c1, c2, c3, c4⟩ HC.out
  rw [HP.out] at hlk
  unfold C4.v at hlk
  refine wp_value (v := .bool false) (w' := s1) (by go_simp) ?_
  clear hlk
  refine ⟨fun _ h => h, ?_⟩
  try simp only [Act.put, List.setIfInBounds_toArray, List.set_cons_zero, List.set_cons_succ, List.getElem_toArray, List.getElem_cons_succ, List.getElem_cons_zero]
  refine wpAnyT_done (by kernel_rfl) ?_ _
  have HB12 := Lib.hid (show Below w1.heap.size w1 s1 from hB_0_s1.trans ((hB_s1_s1).mono (hB_0_s1).size))
  obtain ⟨w2, rfl⟩ : ∃ x, x = s1 := ⟨_, rfl⟩
  have HB2 := Lib.hid (below_step HB1.out HB12.out)
  have H2 := Lib.hid (H.out.below HB2.out)
  have HCB2 := Lib.hid ((HB12.out.block _ (blk_lt HCB.out)).trans HCB.out)
  go_wp2_with fail
  have hC2 : Cells [(⟨p, 1, none⟩, .map (some kb)), (⟨p, 2, none⟩, .map (some pb)), (⟨w.heap.size, 0, none⟩, .int .i64 c1), (⟨w.heap.size, 1, none⟩, .int .i64 c2), (⟨w.heap.size, 2, none⟩, .int .i64 c3), (⟨w.heap.size, 3, none⟩, .int .i64 c4)] w2 := ⟨blk_cell H2.out.row 1, blk_cell H2.out.row 2, blk_cell HCB2.out 0, blk_cell HCB2.out 1, blk_cell HCB2.out 2, blk_cell HCB2.out 3, trivial⟩
  refine wp_region_T (Cells [(⟨p, 1, none⟩, .map (some kb)), (⟨p, 2, none⟩, .map (some pb)), (⟨w.heap.size, 0, none⟩, .int .i64 c1), (⟨w.heap.size, 1, none⟩, .int .i64 c2), (⟨w.heap.size, 2, none⟩, .int .i64 c3), (⟨w.heap.size, 3, none⟩, .int .i64 c4)]) (fun _ => false) (by kernel_rfl) ?_
  have hSss2 := Cells.drew hC2
  have hB_0_s2 : Below w2.heap.size w2 w2.drew := below_drew _
  generalize w2.drew = s2 at hSss2 hB_0_s2 ⊢
  have hB_s2_s2 := Below.refl s2.heap.size s2
  refine wpAnyT_pure (i := 0) (v := ?_) rfl (by kernel_rfl) (by kernel_rfl) (by kernel_rfl) (fun _ _ _ h => h) (by rfl) ?_ ?_
  rotate_left
  · intro w; go_simp; try with_reducible rfl
  simp only [Act.put, List.setIfInBounds_toArray, List.set_cons_zero, List.set_cons_succ, List.getElem_toArray, List.getElem_cons_succ, List.getElem_cons_zero]
  refine wpAnyT_pure (i := 1) (v := ?_) rfl (by kernel_rfl) (by kernel_rfl) (by kernel_rfl) (fun _ _ _ h => h) (by rfl) ?_ ?_
  rotate_left
  · intro w; go_simp; try with_reducible rfl
  simp only [Act.put, List.setIfInBounds_toArray, List.set_cons_zero, List.set_cons_succ, List.getElem_toArray, List.getElem_cons_succ, List.getElem_cons_zero]
  refine wpAnyT_pure (i := 2) (v := ?_) rfl (by kernel_rfl) (by kernel_rfl) (by kernel_rfl) (fun _ _ _ h => h) (by rfl) ?_ ?_
  rotate_left
  · intro w; go_simp; try with_reducible rfl
  simp only [Act.put, List.setIfInBounds_toArray, List.set_cons_zero, List.set_cons_succ, List.getElem_toArray, List.getElem_cons_succ, List.getElem_cons_zero]
  refine wpAnyT_loadW (i := 3) (v := ?_) rfl (by kernel_rfl) (by kernel_rfl) (by kernel_rfl) (by kernel_rfl) (by kernel_rfl) (fun _ _ _ h => h) (Or.inl ⟨by rfl, ?_⟩) hSss2 ?_
  rotate_left
  · intro w hSw; obtain ⟨e0, e1, e2, e3, e4, e5, -⟩ := hSw; go_simp; try with_reducible rfl
  simp only [Act.put, List.setIfInBounds_toArray, List.set_cons_zero, List.set_cons_succ, List.getElem_toArray, List.getElem_cons_succ, List.getElem_cons_zero]
  refine wpAnyT_loadW (i := 4) (v := ?_) rfl (by kernel_rfl) (by kernel_rfl) (by kernel_rfl) (by kernel_rfl) (by kernel_rfl) (fun _ _ _ h => h) (Or.inl ⟨by rfl, ?_⟩) hSss2 ?_
  rotate_left
  · intro w hSw; obtain ⟨e0, e1, e2, e3, e4, e5, -⟩ := hSw; go_simp; try with_reducible rfl
  simp only [Act.put, List.setIfInBounds_toArray, List.set_cons_zero, List.set_cons_succ, List.getElem_toArray, List.getElem_cons_succ, List.getElem_cons_zero]
  refine wpAnyT_one (i := 5) (by kernel_rfl) rfl (by rfl) ?_
  have hlk := ((H2.out.below (hB_0_s2.trans ((hB_s2_s2).mono (hB_0_s2).size))).mke).look ⟨c1, c2, c3, c4⟩ HC.out
  rw [HE.out] at hlk
  unfold C4.v ptrV at hlk
  simp only at hlk
  refine wp_value (v := .pointer none) (w' := s2) (by go_simp) ?_
  clear hlk
  refine ⟨fun _ h => h, ?_⟩
  try simp only [Act.put, List.setIfInBounds_toArray, List.set_cons_zero, List.set_cons_succ, List.getElem_toArray, List.getElem_cons_succ, List.getElem_cons_zero]
  refine wpAnyT_pure (i := 6) (v := ?_) rfl (by kernel_rfl) (by kernel_rfl) (by kernel_rfl) (fun _ _ _ h => h) (by rfl) ?_ ?_
  rotate_left
  · intro w; go_simp; try with_reducible rfl
  simp only [Act.put, List.setIfInBounds_toArray, List.set_cons_zero, List.set_cons_succ, List.getElem_toArray, List.getElem_cons_succ, List.getElem_cons_zero]
  refine wpAnyT_done (by kernel_rfl) ?_ _
  have HB23 := Lib.hid (show Below w2.heap.size w2 s2 from hB_0_s2.trans ((hB_s2_s2).mono (hB_0_s2).size))
  obtain ⟨w3, rfl⟩ : ∃ x, x = s2 := ⟨_, rfl⟩
  have HB3 := Lib.hid (below_step HB2.out HB23.out)
  have H3 := Lib.hid (H.out.below HB3.out)
  have HCB3 := Lib.hid ((HB23.out.block _ (blk_lt HCB2.out)).trans HCB2.out)
  go_wp2_with fail
  have hC3 : Cells [(⟨p, 1, none⟩, .map (some kb)), (⟨p, 2, none⟩, .map (some pb)), (⟨w.heap.size, 0, none⟩, .int .i64 c1), (⟨w.heap.size, 1, none⟩, .int .i64 c2), (⟨w.heap.size, 2, none⟩, .int .i64 c3), (⟨w.heap.size, 3, none⟩, .int .i64 c4)] w3 := ⟨blk_cell H3.out.row 1, blk_cell H3.out.row 2, blk_cell HCB3.out 0, blk_cell HCB3.out 1, blk_cell HCB3.out 2, blk_cell HCB3.out 3, trivial⟩
  refine wp_region_T (Cells [(⟨p, 1, none⟩, .map (some kb)), (⟨p, 2, none⟩, .map (some pb)), (⟨w.heap.size, 0, none⟩, .int .i64 c1), (⟨w.heap.size, 1, none⟩, .int .i64 c2), (⟨w.heap.size, 2, none⟩, .int .i64 c3), (⟨w.heap.size, 3, none⟩, .int .i64 c4)]) (fun i => i == 5) (by kernel_rfl) ?_
  have hSss3 := Cells.drew hC3
  have hB_0_s3 : Below w3.heap.size w3 w3.drew := below_drew _
  generalize w3.drew = s3 at hSss3 hB_0_s3 ⊢
  have hB_s3_s3 := Below.refl s3.heap.size s3
  refine wpAnyT_pure (i := 0) (v := ?_) rfl (by kernel_rfl) (by kernel_rfl) (by kernel_rfl) (fun _ _ _ h => h) (by rfl) ?_ ?_
  rotate_left
  · intro w; go_simp; try with_reducible rfl
  simp only [Act.put, List.setIfInBounds_toArray, List.set_cons_zero, List.set_cons_succ, List.getElem_toArray, List.getElem_cons_succ, List.getElem_cons_zero]
  refine wpAnyT_pure (i := 1) (v := ?_) rfl (by kernel_rfl) (by kernel_rfl) (by kernel_rfl) (fun _ _ _ h => h) (by rfl) ?_ ?_
  rotate_left
  · intro w; go_simp; try with_reducible rfl
  simp only [Act.put, List.setIfInBounds_toArray, List.set_cons_zero, List.set_cons_succ, List.getElem_toArray, List.getElem_cons_succ, List.getElem_cons_zero]
  refine wpAnyT_pure (i := 2) (v := ?_) rfl (by kernel_rfl) (by kernel_rfl) (by kernel_rfl) (fun _ _ _ h => h) (by rfl) ?_ ?_
  rotate_left
  · intro w; go_simp; try with_reducible rfl
  simp only [Act.put, List.setIfInBounds_toArray, List.set_cons_zero, List.set_cons_succ, List.getElem_toArray, List.getElem_cons_succ, List.getElem_cons_zero]
  refine wpAnyT_loadW (i := 3) (v := ?_) rfl (by kernel_rfl) (by kernel_rfl) (by kernel_rfl) (by kernel_rfl) (by kernel_rfl) (fun _ _ _ h => h) (Or.inl ⟨by rfl, ?_⟩) hSss3 ?_
  rotate_left
  · intro w hSw; obtain ⟨e0, e1, e2, e3, e4, e5, -⟩ := hSw; go_simp; try with_reducible rfl
  simp only [Act.put, List.setIfInBounds_toArray, List.set_cons_zero, List.set_cons_succ, List.getElem_toArray, List.getElem_cons_succ, List.getElem_cons_zero]
  refine wpAnyT_loadW (i := 4) (v := ?_) rfl (by kernel_rfl) (by kernel_rfl) (by kernel_rfl) (by kernel_rfl) (by kernel_rfl) (fun _ _ _ h => h) (Or.inl ⟨by rfl, ?_⟩) hSss3 ?_
  rotate_left
  · intro w hSw; obtain ⟨e0, e1, e2, e3, e4, e5, -⟩ := hSw; go_simp; try with_reducible rfl
  simp only [Act.put, List.setIfInBounds_toArray, List.set_cons_zero, List.set_cons_succ, List.getElem_toArray, List.getElem_cons_succ, List.getElem_cons_zero]
  refine wpAnyT_one (i := 5) (by kernel_rfl) rfl (by rfl) ?_
  have hb3 : Below w3.heap.size w3 s3 := hB_0_s3.trans ((hB_s3_s3).mono (hB_0_s3).size)
  obtain ⟨w104, hrun, hM, hG⟩ := (H3.out.below hb3).start HN.out ⟨c1, c2, c3, c4⟩ HC.out
  unfold C4.v at hrun
  refine wp_mapset1 (w' := w104) 65 (.tmp 34) (.tmp 35) (.const (.bool true)) rfl (m := .map (some pb)) (k := .agg #[.int .i64 c1, .int .i64 c2, .int .i64 c3, .int .i64 c4]) (v := .bool true) (by kernel_rfl) (by kernel_rfl) (by kernel_rfl) hrun ?_
  have hfree : F w.heap.size = 0 := by
    by_cases e : F w.heap.size = 0
    · exact e
    · have := H.out.dom _ e; omega
  have HCB4 := Lib.hid (blk_gr hG ((hb3.block _ (blk_lt HCB3.out)).trans HCB3.out) (fun e => e.1 hfree))
  have HG4 := Lib.hid ((Gr.of_below (F := Mem F) (below_step HB3.out hb3)).trans hG (fun _ h => .inl h))
  clear hrun hb3
  refine ⟨fun h => absurd h (by decide), ?_⟩
  try simp only [Act.put, List.setIfInBounds_toArray, List.set_cons_zero, List.set_cons_succ, List.getElem_toArray, List.getElem_cons_succ, List.getElem_cons_zero]
  refine wpAnyT_done (by kernel_rfl) ?_ _
  obtain ⟨w4, rfl⟩ : ∃ x, x = w104 := ⟨_, rfl⟩
  have H4 := Lib.hid hM
  clear hM hG
  go_wp2_with fail
  have hC4 : Cells [(⟨p, 1, none⟩, .map (some kb)), (⟨p, 2, none⟩, .map (some pb)), (⟨w.heap.size, 0, none⟩, .int .i64 c1), (⟨w.heap.size, 1, none⟩, .int .i64 c2), (⟨w.heap.size, 2, none⟩, .int .i64 c3), (⟨w.heap.size, 3, none⟩, .int .i64 c4)] w4 := ⟨blk_cell H4.out.row 1, blk_cell H4.out.row 2, blk_cell HCB4.out 0, blk_cell HCB4.out 1, blk_cell HCB4.out 2, blk_cell HCB4.out 3, trivial⟩
  refine wp_region_T (Cells [(⟨p, 1, none⟩, .map (some kb)), (⟨p, 2, none⟩, .map (some pb)), (⟨w.heap.size, 0, none⟩, .int .i64 c1), (⟨w.heap.size, 1, none⟩, .int .i64 c2), (⟨w.heap.size, 2, none⟩, .int .i64 c3), (⟨w.heap.size, 3, none⟩, .int .i64 c4)]) (fun _ => false) (by kernel_rfl) ?_
  have hSss5 := Cells.drew hC4
  have hB_0_s5 : Below w4.heap.size w4 w4.drew := below_drew _
  generalize w4.drew = s5 at hSss5 hB_0_s5 ⊢
  have hB_s5_s5 := Below.refl s5.heap.size s5
  refine wpAnyT_pure (i := 0) (v := ?_) rfl (by kernel_rfl) (by kernel_rfl) (by kernel_rfl) (fun _ _ _ h => h) (by rfl) ?_ ?_
  rotate_left
  · intro w; go_simp; try with_reducible rfl
  simp only [Act.put, List.setIfInBounds_toArray, List.set_cons_zero, List.set_cons_succ, List.getElem_toArray, List.getElem_cons_succ, List.getElem_cons_zero]
  refine wpAnyT_pure (i := 1) (v := ?_) rfl (by kernel_rfl) (by kernel_rfl) (by kernel_rfl) (fun _ _ _ h => h) (by rfl) ?_ ?_
  rotate_left
  · intro w; go_simp; try with_reducible rfl
  simp only [Act.put, List.setIfInBounds_toArray, List.set_cons_zero, List.set_cons_succ, List.getElem_toArray, List.getElem_cons_succ, List.getElem_cons_zero]
  refine wpAnyT_pure (i := 2) (v := ?_) rfl (by kernel_rfl) (by kernel_rfl) (by kernel_rfl) (fun _ _ _ h => h) (by rfl) ?_ ?_
  rotate_left
  · intro w; go_simp; try with_reducible rfl
  simp only [Act.put, List.setIfInBounds_toArray, List.set_cons_zero, List.set_cons_succ, List.getElem_toArray, List.getElem_cons_succ, List.getElem_cons_zero]
  refine wpAnyT_loadW (i := 3) (v := ?_) rfl (by kernel_rfl) (by kernel_rfl) (by kernel_rfl) (by kernel_rfl) (by kernel_rfl) (fun _ _ _ h => h) (Or.inl ⟨by rfl, ?_⟩) hSss5 ?_
  rotate_left
  · intro w hSw; obtain ⟨e0, e1, e2, e3, e4, e5, -⟩ := hSw; go_simp; try with_reducible rfl
  simp only [Act.put, List.setIfInBounds_toArray, List.set_cons_zero, List.set_cons_succ, List.getElem_toArray, List.getElem_cons_succ, List.getElem_cons_zero]
  refine wpAnyT_loadW (i := 4) (v := ?_) rfl (by kernel_rfl) (by kernel_rfl) (by kernel_rfl) (by kernel_rfl) (by kernel_rfl) (fun _ _ _ h => h) (Or.inl ⟨by rfl, ?_⟩) hSss5 ?_
  rotate_left
  · intro w hSw; obtain ⟨e0, e1, e2, e3, e4, e5, -⟩ := hSw; go_simp; try with_reducible rfl
  simp only [Act.put, List.setIfInBounds_toArray, List.set_cons_zero, List.set_cons_succ, List.getElem_toArray, List.getElem_cons_succ, List.getElem_cons_zero]
  refine wpAnyT_one (i := 5) (by kernel_rfl) rfl (by rfl) ?_
  refine wp_deferB .delete #[65, 26] (.tmp 39) (.tmp 40) rfl (m := .map (some pb)) (k := .agg #[.int .i64 c1, .int .i64 c2, .int .i64 c3, .int .i64 c4]) (by kernel_rfl) (by kernel_rfl) ?_
  intro cst
  refine ⟨fun _ h => h, ?_⟩
  try simp only [Act.put, List.setIfInBounds_toArray, List.set_cons_zero, List.set_cons_succ, List.getElem_toArray, List.getElem_cons_succ, List.getElem_cons_zero]
  refine wpAnyT_done (by kernel_rfl) ?_ _
  have HB45 := Lib.hid (show Below w4.heap.size w4 s5 from hB_0_s5.trans ((hB_s5_s5).mono (hB_0_s5).size))
  obtain ⟨w5, rfl⟩ : ∃ x, x = s5 := ⟨_, rfl⟩
  have H5 := Lib.hid (H4.out.below HB45.out)
  have HCB5 := Lib.hid ((HB45.out.block _ (blk_lt HCB4.out)).trans HCB4.out)
  have HG5 := Lib.hid (HG4.out.step HB45.out)
  have k0 := blk_cell HCB5.out 0
  have k1 := blk_cell HCB5.out 1
  have k2 := blk_cell HCB5.out 2
  have k3 := blk_cell HCB5.out 3
  simp at k0 k1 k2 k3
  go_wp2_with (go_at_call 25; refine (HEV.out _ H5.out HG5.out).mono ?_; rintro e6 w6 ⟨rfl, F6, sv6, cv6, eb6, hM6, hF6, hG6, hK6⟩)
  obtain ⟨w7, hrun, hM7, hG7⟩ := hM6.done ⟨c1, c2, c3, c4⟩ HC.out 0
  unfold C4.v at hrun
  refine ⟨.delete, _, _, _, .tuple #[], w7, rfl, by simp [invoke, builtin, hrun], _, results_tmp2 rfl _ _ _, rfl, F6, sv6, cv6, eb6, hM7, fun b hb => hF6 b (Nat.lt_of_lt_of_le hb HG5.out.size), (HG5.out.trans hG6 (fun _ h => .inl h)).trans hG7 (fun x hx => ?_), fun d hd => hK6 d (start_prog HP.out hd)⟩
  by_cases h5 : x < w5.heap.size
  · exact .inl (by have e := hF6 x h5; unfold Mem at hx ⊢; rw [← e]; exact hx)
  · exact .inr (by have := HG5.out.size; omega)
end Go.Proofs.Ytmmeieangbcfaaa
