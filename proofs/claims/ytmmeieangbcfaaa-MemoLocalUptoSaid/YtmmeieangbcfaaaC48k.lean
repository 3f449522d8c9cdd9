/- Layer 48: get. -/
import Derived.Test.YtmmeieangbcfaaaC48j
import Derived.Test.YtmmeieangbcfaaaDefB
set_option linter.unusedSimpArgs false
namespace Go.Proofs.Ytmmeieangbcfaaa
open Go.RowKit Go

def sheetV (sp : Nat) : Value := .iface 29 (.pointer (some ⟨sp, 0, none⟩))
def SheetAt (SB : Nat → Prop) (w : World) (sp : Nat) (l : List Fm) : Prop :=
  ∃ a len cap xs, w.heap[sp]? = some (.cells #[.slice a len cap] 46 (0, 0)) ∧ Rd (.sl formT) SB w [.slice a len cap] xs ∧ l = xs.map fm
theorem SheetAt.gr {SB G : Nat → Prop} {w w' : World} {sp : Nat} {l : List Fm} (h : SheetAt SB w sp l) (hg : Gr G w w') (hd : ∀ b, SB b ∨ b = sp → b < w.heap.size ∧ ¬ G b) : SheetAt SB w' sp l := by
  obtain ⟨a, len, cap, xs, h1, h2, h3⟩ := h
  exact ⟨a, len, cap, xs, blk_gr hg h1 (hd _ (.inr rfl)).2, h2.gr hg (fun b hb => hd b (.inl hb)) (fun _ h => h), h3⟩
/-- What a call leaves; the entries of the cells of K are where they were. -/
def Left48 (F : Nat → Nat) (w : World) (p sp : Nat) (st : List (Option Nat)) (kb pb : Nat) (s' : MS) (eb : C4 → Option Nat) (K : C4 → Prop) (out : Value) (e : Ending) (w' : World) : Prop :=
  e = .returned out ∧ ∃ F' sv' cv' eb', MemoIn F' w' p (sheetV sp) s' st kb pb sv' cv' eb' ∧ (∀ b, b < w.heap.size → F' b = F b) ∧ Gr (Mem F) w w' ∧ ∀ d, K d → eb' d = eb d
def GetC (l : List Fm) (SB : Nat → Prop) (sp p kb pb n : Nat) : Prop :=
  ∀ F w s st sv cv eb c r s', MemoIn F w p (sheetV sp) s st kb pb sv cv eb → st.length + n ≤ most → SheetAt SB w sp l → (∀ b, SB b ∨ b = sp → b < w.heap.size ∧ F b = 0) → c.ok → getM l n s c = some (r, s') →
    Calls Try.prog 20 #[.pointer (some ⟨p, 0, none⟩), c.v] w (Left48 F w p sp st kb pb s' eb (fun d => s.prog d = true) (.tuple #[.int .i64 r.1, .int .i64 r.2]))
def SameC (l : List Fm) (SB : Nat → Prop) (sp p kb pb n : Nat) : Prop :=
  ∀ F w s st sv cv eb a len cap reads r s', MemoIn F w p (sheetV sp) s st kb pb sv cv eb → st.length + n ≤ most → SheetAt SB w sp l → (∀ b, SB b ∨ b = sp → b < w.heap.size ∧ F b = 0) → Rd (.sl readT) (fun b => F b = 7) w [.slice a len cap] (rdsD reads) → sameM l n s reads = some (r, s') →
    Calls Try.prog 24 #[.pointer (some ⟨p, 0, none⟩), .slice a len cap] w (Left48 F w p sp st kb pb s' eb (fun d => s.prog d = true) (.bool r))
def EvalC (l : List Fm) (SB : Nat → Prop) (sp p kb pb n : Nat) : Prop :=
  ∀ F w s st sv cv eb c r s', MemoIn F w p (sheetV sp) s st kb pb sv cv eb → st.length + n ≤ most → SheetAt SB w sp l → (∀ b, SB b ∨ b = sp → b < w.heap.size ∧ F b = 0) → c.ok → evalM l n s c = some (r, s') →
    Calls Try.prog 25 #[.pointer (some ⟨p, 0, none⟩), c.v] w (Left48 F w p sp st kb pb s' eb (fun d => s.prog d = true ∧ d ≠ c) (.tuple #[.int .i64 r.1, .int .i64 r.2]))
set_option maxRecDepth 20000 in
set_option maxHeartbeats 1000000 in
/-- A cell in progress. -/
theorem get_busy {F : Nat → Nat} (w : World) {p sp : Nat} {s : MS} {st : List (Option Nat)} {kb pb : Nat} {sv cv : Value} {eb : C4 → Option Nat} (h : MemoIn F w p (sheetV sp) s st kb pb sv cv eb) (c : C4) (hc : c.ok) (hp : s.prog c = true) :
    Calls Try.prog 20 #[.pointer (some ⟨p, 0, none⟩), c.v] w (Left48 F w p sp st kb pb s eb (fun d => s.prog d = true) (.tuple #[.int .i64 0, .int .i64 7])) := by
  have HP := Lib.hid hp
  clear hp
  have hB1 : Below w.heap.size w (w.alloc (.cells #[.int .i64 c.st, .int .i64 c.en, .int .i64 c.ot, .int .i64 c.pe] 26)) := (Below.refl _ w).alloc (Nat.le_refl _) _
  have hcb := heap_alloc_new w (.cells #[.int .i64 c.st, .int .i64 c.en, .int .i64 c.ot, .int .i64 c.pe] 26)
  have h1 := h.below hB1
  have HC := Lib.hid hc
  have HCB := Lib.hid hcb
  have HB1 := Lib.hid hB1
  have H1 := Lib.hid h1
  have H := Lib.hid h
  obtain ⟨c1, c2, c3, c4⟩ := c
  unfold C4.v
  simp only at *
  clear h hc hcb hB1 h1
  refine calls_of_wp_deferB Try.func20 rfl ?_
  simp only [Try.ntmps20, List.size_toArray, List.length_cons, List.length_nil, Nat.reduceAdd, Nat.reduceSub, Array.replicate_succ, Array.replicate_zero, List.push_toArray, List.append_toArray, List.nil_append, List.cons_append]
  go_wp2_with fail
  generalize w.alloc (.cells #[.int .i64 c1, .int .i64 c2, .int .i64 c3, .int .i64 c4] 26) = w1 at *
  have hC1 : Cells [(⟨p, 1, none⟩, .map (some kb)), (⟨p, 2, none⟩, .map (some pb)), (⟨w.heap.size, 0, none⟩, .int .i64 c1), (⟨w.heap.size, 1, none⟩, .int .i64 c2), (⟨w.heap.size, 2, none⟩, .int .i64 c3), (⟨w.heap.size, 3, none⟩, .int .i64 c4)] w1 := ⟨blk_cell H1.out.row 1, blk_cell H1.out.row 2, blk_cell HCB.out 0, blk_cell HCB.out 1, blk_cell HCB.out 2, blk_cell HCB.out 3, trivial⟩
  refine wp_region_T (Cells [(⟨p, 1, none⟩, .map (some kb)), (⟨p, 2, none⟩, .map (some pb)), (⟨w.heap.size, 0, none⟩, .int .i64 c1), (⟨w.heap.size, 1, none⟩, .int .i64 c2), (⟨w.heap.size, 2, none⟩, .int .i64 c3), (⟨w.heap.size, 3, none⟩, .int .i64 c4)]) (fun _ => false) (by kernel_rfl) ?_
  have hSss1 := Cells.drew hC1
  have hB_0_s1 : Below w1.heap.size w1 w1.drew := below_drew _
  generalize w1.drew = s1 at hSss1 hB_0_s1 ⊢
  have hB_s1_s1 := Below.refl s1.heap.size s1
  refine wpAnyT_pure (i := 0) (v := ?_) rfl (by kernel_rfl) (by kernel_rfl) (by kernel_rfl) (fun _ _ _ h => h) (by rfl) ?_ ?_
  rotate_left
  · intro w; go_simp; try with_reducible rfl
  simp only [Act.put, List.setIfInBounds_toArray, List.set_cons_zero, List.set_cons_succ, List.getElem_toArray, List.getElem_cons_succ, List.getElem_cons_zero]
  refine wpAnyT_pure (i := 1) (v := ?_) rfl (by kernel_rfl) (by kernel_rfl) (by kernel_rfl) (fun _ _ _ h => h) (by rfl) ?_ ?_
  rotate_left
  · intro w; go_simp; try with_reducible rfl
  simp only [Act.put, List.setIfInBounds_toArray, List.set_cons_zero, List.set_cons_succ, List.getElem_toArray, List.getElem_cons_succ, List.getElem_cons_zero]
  refine wpAnyT_pure (i := 2) (v := ?_) rfl (by kernel_rfl) (by kernel_rfl) (by kernel_rfl) (fun _ _ _ h => h) (by rfl) ?_ ?_
  rotate_left
  · intro w; go_simp; try with_reducible rfl
  simp only [Act.put, List.setIfInBounds_toArray, List.set_cons_zero, List.set_cons_succ, List.getElem_toArray, List.getElem_cons_succ, List.getElem_cons_zero]
  refine wpAnyT_loadW (i := 3) (v := ?_) rfl (by kernel_rfl) (by kernel_rfl) (by kernel_rfl) (by kernel_rfl) (by kernel_rfl) (fun _ _ _ h => h) (Or.inl ⟨by rfl, ?_⟩) hSss1 ?_
  rotate_left
  · intro w hSw; obtain ⟨e0, e1, e2, e3, e4, e5, -⟩ := hSw; go_simp; try with_reducible rfl
  simp only [Act.put, List.setIfInBounds_toArray, List.set_cons_zero, List.set_cons_succ, List.getElem_toArray, List.getElem_cons_succ, List.getElem_cons_zero]
  refine wpAnyT_loadW (i := 4) (v := ?_) rfl (by kernel_rfl) (by kernel_rfl) (by kernel_rfl) (by kernel_rfl) (by kernel_rfl) (fun _ _ _ h => h) (Or.inl ⟨by rfl, ?_⟩) hSss1 ?_
  rotate_left
  · intro w hSw; obtain ⟨e0, e1, e2, e3, e4, e5, -⟩ := hSw; go_simp; try with_reducible rfl
  simp only [Act.put, List.setIfInBounds_toArray, List.set_cons_zero, List.set_cons_succ, List.getElem_toArray, List.getElem_cons_succ, List.getElem_cons_zero]
  refine wpAnyT_one (i := 5) (by kernel_rfl) rfl (by rfl) ?_
  have hlk := ((H1.out.below (hB_0_s1.trans ((hB_s1_s1).mono (hB_0_s1).size))).mpr).look ⟨c1, c2, c3, c4⟩ HC.out
  rw [HP.out] at hlk
  unfold C4.v at hlk
  refine wp_value (v := .bool true) (w' := s1) (by go_simp) ?_
  clear hlk
  refine ⟨fun _ h => h, ?_⟩
  try simp only [Act.put, List.setIfInBounds_toArray, List.set_cons_zero, List.set_cons_succ, List.getElem_toArray, List.getElem_cons_succ, List.getElem_cons_zero]
  refine wpAnyT_done (by kernel_rfl) ?_ _
  have HB12 := Lib.hid (show Below w1.heap.size w1 s1 from hB_0_s1.trans ((hB_s1_s1).mono (hB_0_s1).size))
  obtain ⟨w2, rfl⟩ : ∃ x, x = s1 := ⟨_, rfl⟩
  have HB2 := Lib.hid (below_step HB1.out HB12.out)
  have H2 := Lib.hid (H.out.below HB2.out)
  have HCB2 := Lib.hid ((HB12.out.block _ (blk_lt HCB.out)).trans HCB.out)
  go_wp2
  exact ⟨_, results_tmp2 rfl _ _ _, rfl, F, sv, cv, eb, H2.out, fun _ _ => rfl, Gr.of_below HB2.out, fun _ _ => rfl⟩
set_option maxRecDepth 20000 in
set_option maxHeartbeats 1000000 in
/-- A cell that is kept and checked. -/
theorem get_checked {F : Nat → Nat} (w : World) {p sp : Nat} {s : MS} {st : List (Option Nat)} {kb pb : Nat} {sv cv : Value} {eb : C4 → Option Nat} (h : MemoIn F w p (sheetV sp) s st kb pb sv cv eb) (c : C4) (hc : c.ok) (hp : s.prog c = false) (x : Ent) (hx : s.kept c = some x) (hch : x.checked = true) :
    Calls Try.prog 20 #[.pointer (some ⟨p, 0, none⟩), c.v] w (Left48 F w p sp st kb pb s eb (fun d => s.prog d = true) (.tuple #[.int .i64 x.value, .int .i64 0])) := by
  have HP := Lib.hid hp
  obtain ⟨e, he⟩ : ∃ e, eb c = some e := Option.isSome_iff_exists.1 (by rw [← h.some_, hx]; rfl)
  have HE := Lib.hid he
  have HX := Lib.hid hx
  have HCH := Lib.hid hch
  clear hp he hx hch
  have hB1 : Below w.heap.size w (w.alloc (.cells #[.int .i64 c.st, .int .i64 c.en, .int .i64 c.ot, .int .i64 c.pe] 26)) := (Below.refl _ w).alloc (Nat.le_refl _) _
  have hcb := heap_alloc_new w (.cells #[.int .i64 c.st, .int .i64 c.en, .int .i64 c.ot, .int .i64 c.pe] 26)
  have h1 := h.below hB1
  have HC := Lib.hid hc
  have HCB := Lib.hid hcb
  have HB1 := Lib.hid hB1
  have H1 := Lib.hid h1
  have H := Lib.hid h
  obtain ⟨c1, c2, c3, c4⟩ := c
  unfold C4.v
  simp only at *
  clear h hc hcb hB1 h1
  refine calls_of_wp_deferB Try.func20 rfl ?_
  simp only [Try.ntmps20, List.size_toArray, List.length_cons, List.length_nil, Nat.reduceAdd, Nat.reduceSub, Array.replicate_succ, Array.replicate_zero, List.push_toArray, List.append_toArray, List.nil_append, List.cons_append]
  go_wp2_with fail
  generalize w.alloc (.cells #[.int .i64 c1, .int .i64 c2, .int .i64 c3, .int .i64 c4] 26) = w1 at *
  have hC1 : Cells [(⟨p, 1, none⟩, .map (some kb)), (⟨p, 2, none⟩, .map (some pb)), (⟨w.heap.size, 0, none⟩, .int .i64 c1), (⟨w.heap.size, 1, none⟩, .int .i64 c2), (⟨w.heap.size, 2, none⟩, .int .i64 c3), (⟨w.heap.size, 3, none⟩, .int .i64 c4)] w1 := ⟨blk_cell H1.out.row 1, blk_cell H1.out.row 2, blk_cell HCB.out 0, blk_cell HCB.out 1, blk_cell HCB.out 2, blk_cell HCB.out 3, trivial⟩
  refine wp_region_T (Cells [(⟨p, 1, none⟩, .map (some kb)), (⟨p, 2, none⟩, .map (some pb)), (⟨w.heap.size, 0, none⟩, .int .i64 c1), (⟨w.heap.size, 1, none⟩, .int .i64 c2), (⟨w.heap.size, 2, none⟩, .int .i64 c3), (⟨w.heap.size, 3, none⟩, .int .i64 c4)]) (fun _ => false) (by kernel_rfl) ?_
  have hSss2 := Cells.drew hC1
  have hB_0_s2 : Below w1.heap.size w1 w1.drew := below_drew _
  generalize w1.drew = s2 at hSss2 hB_0_s2 ⊢
  have hB_s2_s2 := Below.refl s2.heap.size s2
  refine wpAnyT_pure (i := 0) (v := ?_) rfl (by kernel_rfl) (by kernel_rfl) (by kernel_rfl) (fun _ _ _ h => h) (by rfl) ?_ ?_
  rotate_left
  · intro w; go_simp; try with_reducible rfl
  simp only [Act.put, List.setIfInBounds_toArray, List.set_cons_zero, List.set_cons_succ, List.getElem_toArray, List.getElem_cons_succ, List.getElem_cons_zero]
  refine wpAnyT_pure (i := 1) (v := ?_) rfl (by kernel_rfl) (by kernel_rfl) (by kernel_rfl) (fun _ _ _ h => h) (by rfl) ?_ ?_
  rotate_left
  · intro w; go_simp; try with_reducible rfl
  simp only [Act.put, List.setIfInBounds_toArray, List.set_cons_zero, List.set_cons_succ, List.getElem_toArray, List.getElem_cons_succ, List.getElem_cons_zero]
  refine wpAnyT_pure (i := 2) (v := ?_) rfl (by kernel_rfl) (by kernel_rfl) (by kernel_rfl) (fun _ _ _ h => h) (by rfl) ?_ ?_
  rotate_left
  · intro w; go_simp; try with_reducible rfl
  simp only [Act.put, List.setIfInBounds_toArray, List.set_cons_zero, List.set_cons_succ, List.getElem_toArray, List.getElem_cons_succ, List.getElem_cons_zero]
  refine wpAnyT_loadW (i := 3) (v := ?_) rfl (by kernel_rfl) (by kernel_rfl) (by kernel_rfl) (by kernel_rfl) (by kernel_rfl) (fun _ _ _ h => h) (Or.inl ⟨by rfl, ?_⟩) hSss2 ?_
  rotate_left
  · intro w hSw; obtain ⟨e0, e1, e2, e3, e4, e5, -⟩ := hSw; go_simp; try with_reducible rfl
  simp only [Act.put, List.setIfInBounds_toArray, List.set_cons_zero, List.set_cons_succ, List.getElem_toArray, List.getElem_cons_succ, List.getElem_cons_zero]
  refine wpAnyT_loadW (i := 4) (v := ?_) rfl (by kernel_rfl) (by kernel_rfl) (by kernel_rfl) (by kernel_rfl) (by kernel_rfl) (fun _ _ _ h => h) (Or.inl ⟨by rfl, ?_⟩) hSss2 ?_
  rotate_left
  · intro w hSw; obtain ⟨e0, e1, e2, e3, e4, e5, -⟩ := hSw; go_simp; try with_reducible rfl
  simp only [Act.put, List.setIfInBounds_toArray, List.set_cons_zero, List.set_cons_succ, List.getElem_toArray, List.getElem_cons_succ, List.getElem_cons_zero]
  refine wpAnyT_one (i := 5) (by kernel_rfl) rfl (by rfl) ?_
  have hlk := ((H1.out.below (hB_0_s2.trans ((hB_s2_s2).mono (hB_0_s2).size))).mpr).look ⟨c1, c2, c3, c4⟩ HC.out
  rw [HP.out] at hlk
  unfold C4.v at hlk
  refine wp_value (v := .bool false) (w' := s2) (by go_simp) ?_
  clear hlk
  refine ⟨fun _ h => h, ?_⟩
  try simp only [Act.put, List.setIfInBounds_toArray, List.set_cons_zero, List.set_cons_succ, List.getElem_toArray, List.getElem_cons_succ, List.getElem_cons_zero]
  refine wpAnyT_done (by kernel_rfl) ?_ _
  have HB12 := Lib.hid (show Below w1.heap.size w1 s2 from hB_0_s2.trans ((hB_s2_s2).mono (hB_0_s2).size))
  obtain ⟨w2, rfl⟩ : ∃ x, x = s2 := ⟨_, rfl⟩
  have HB2 := Lib.hid (below_step HB1.out HB12.out)
  have H2 := Lib.hid (H.out.below HB2.out)
  have HCB2 := Lib.hid ((HB12.out.block _ (blk_lt HCB.out)).trans HCB.out)
  go_wp2_with fail
  have hC2 : Cells [(⟨p, 1, none⟩, .map (some kb)), (⟨p, 2, none⟩, .map (some pb)), (⟨w.heap.size, 0, none⟩, .int .i64 c1), (⟨w.heap.size, 1, none⟩, .int .i64 c2), (⟨w.heap.size, 2, none⟩, .int .i64 c3), (⟨w.heap.size, 3, none⟩, .int .i64 c4)] w2 := ⟨blk_cell H2.out.row 1, blk_cell H2.out.row 2, blk_cell HCB2.out 0, blk_cell HCB2.out 1, blk_cell HCB2.out 2, blk_cell HCB2.out 3, trivial⟩
  refine wp_region_T (Cells [(⟨p, 1, none⟩, .map (some kb)), (⟨p, 2, none⟩, .map (some pb)), (⟨w.heap.size, 0, none⟩, .int .i64 c1), (⟨w.heap.size, 1, none⟩, .int .i64 c2), (⟨w.heap.size, 2, none⟩, .int .i64 c3), (⟨w.heap.size, 3, none⟩, .int .i64 c4)]) (fun _ => false) (by kernel_rfl) ?_
  have hSss3 := Cells.drew hC2
  have hB_0_s3 : Below w2.heap.size w2 w2.drew := below_drew _
  generalize w2.drew = s3 at hSss3 hB_0_s3 ⊢
  have hB_s3_s3 := Below.refl s3.heap.size s3
  refine wpAnyT_pure (i := 0) (v := ?_) rfl (by kernel_rfl) (by kernel_rfl) (by kernel_rfl) (fun _ _ _ h => h) (by rfl) ?_ ?_
  rotate_left
  · intro w; go_simp; try with_reducible rfl
  simp only [Act.put, List.setIfInBounds_toArray, List.set_cons_zero, List.set_cons_succ, List.getElem_toArray, List.getElem_cons_succ, List.getElem_cons_zero]
  refine wpAnyT_pure (i := 1) (v := ?_) rfl (by kernel_rfl) (by kernel_rfl) (by kernel_rfl) (fun _ _ _ h => h) (by rfl) ?_ ?_
  rotate_left
  · intro w; go_simp; try with_reducible rfl
  simp only [Act.put, List.setIfInBounds_toArray, List.set_cons_zero, List.set_cons_succ, List.getElem_toArray, List.getElem_cons_succ, List.getElem_cons_zero]
  refine wpAnyT_pure (i := 2) (v := ?_) rfl (by kernel_rfl) (by kernel_rfl) (by kernel_rfl) (fun _ _ _ h => h) (by rfl) ?_ ?_
  rotate_left
  · intro w; go_simp; try with_reducible rfl
  simp only [Act.put, List.setIfInBounds_toArray, List.set_cons_zero, List.set_cons_succ, List.getElem_toArray, List.getElem_cons_succ, List.getElem_cons_zero]
  refine wpAnyT_loadW (i := 3) (v := ?_) rfl (by kernel_rfl) (by kernel_rfl) (by kernel_rfl) (by kernel_rfl) (by kernel_rfl) (fun _ _ _ h => h) (Or.inl ⟨by rfl, ?_⟩) hSss3 ?_
  rotate_left
  · intro w hSw; obtain ⟨e0, e1, e2, e3, e4, e5, -⟩ := hSw; go_simp; try with_reducible rfl
  simp only [Act.put, List.setIfInBounds_toArray, List.set_cons_zero, List.set_cons_succ, List.getElem_toArray, List.getElem_cons_succ, List.getElem_cons_zero]
  refine wpAnyT_loadW (i := 4) (v := ?_) rfl (by kernel_rfl) (by kernel_rfl) (by kernel_rfl) (by kernel_rfl) (by kernel_rfl) (fun _ _ _ h => h) (Or.inl ⟨by rfl, ?_⟩) hSss3 ?_
  rotate_left
  · intro w hSw; obtain ⟨e0, e1, e2, e3, e4, e5, -⟩ := hSw; go_simp; try with_reducible rfl
  simp only [Act.put, List.setIfInBounds_toArray, List.set_cons_zero, List.set_cons_succ, List.getElem_toArray, List.getElem_cons_succ, List.getElem_cons_zero]
  refine wpAnyT_one (i := 5) (by kernel_rfl) rfl (by rfl) ?_
  have hlk := ((H2.out.below (hB_0_s3.trans ((hB_s3_s3).mono (hB_0_s3).size))).mke).look ⟨c1, c2, c3, c4⟩ HC.out
  rw [HE.out] at hlk
  unfold C4.v ptrV at hlk
  simp only at hlk
  refine wp_value (v := .pointer (some ⟨e, 0, none⟩)) (w' := s3) (by go_simp) ?_
  clear hlk
  refine ⟨fun _ h => h, ?_⟩
  try simp only [Act.put, List.setIfInBounds_toArray, List.set_cons_zero, List.set_cons_succ, List.getElem_toArray, List.getElem_cons_succ, List.getElem_cons_zero]
  refine wpAnyT_pure (i := 6) (v := ?_) rfl (by kernel_rfl) (by kernel_rfl) (by kernel_rfl) (fun _ _ _ h => h) (by rfl) ?_ ?_
  rotate_left
  · intro w; go_simp; try with_reducible rfl
  simp only [Act.put, List.setIfInBounds_toArray, List.set_cons_zero, List.set_cons_succ, List.getElem_toArray, List.getElem_cons_succ, List.getElem_cons_zero]
  refine wpAnyT_done (by kernel_rfl) ?_ _
  have HB23 := Lib.hid (show Below w2.heap.size w2 s3 from hB_0_s3.trans ((hB_s3_s3).mono (hB_0_s3).size))
  obtain ⟨w3, rfl⟩ : ∃ x, x = s3 := ⟨_, rfl⟩
  have HB3 := Lib.hid (below_step HB2.out HB23.out)
  have H3 := Lib.hid (H.out.below HB3.out)
  have HCB3 := Lib.hid ((HB23.out.block _ (blk_lt HCB2.out)).trans HCB2.out)
  obtain ⟨-, -, ra, rl, rc, hrow, -⟩ := H3.out.ent _ _ _ HX.out HE.out
  rw [HCH.out] at hrow
  have k0 := blk_cell hrow 0
  have k2 := blk_cell hrow 2
  simp at k0 k2
  clear hrow
  go_wp2
  exact ⟨_, results_tmp2 rfl _ _ _, rfl, F, sv, cv, eb, H3.out, fun _ _ => rfl, Gr.of_below HB3.out, fun _ _ => rfl⟩
end Go.Proofs.Ytmmeieangbcfaaa
