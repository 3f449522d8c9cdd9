/- Layer 48: evaluate. -/
import Derived.Test.YtmmeieangbcfaaaC48t
set_option linter.unusedSimpArgs false
namespace Go.Proofs.Ytmmeieangbcfaaa
open Go.RowKit Go

theorem info_cell : (Try.prog.info? 26).map (fun i => (i.zero, i.size, i.bytes)) = some (some (.agg #[.int .i64 0, .int .i64 0, .int .i64 0, .int .i64 0]), cellT.sz, 32) := by kernel_rfl
theorem cell_rd {S : Nat → Prop} {w : World} {c : C4} (hc : c.ok) : Rd cellT S w [.int .i64 c.st, .int .i64 c.en, .int .i64 c.ot, .int .i64 c.pe] c.d :=
  ⟨_, _, rfl, ⟨rfl, hc.1⟩, _, _, rfl, ⟨rfl, hc.2.1⟩, _, _, rfl, ⟨rfl, hc.2.2.1⟩, _, _, rfl, ⟨rfl, hc.2.2.2⟩, rfl⟩
/-- append(stack, x): as a plain operation. -/
theorem wpList_push {ops : Array Oper} {rest : List Oper} {o : Oper} {a : Act} {w : World} {Q : Exit → Act → World → Prop} (hgd : o.guard = none) (x y : Operand)
    (ho : o.op = .call { callee := .builtin .append, args := #[x, y], argTypes := #[66, 66] }) {sv : Value} {st : List (Option Nat)} (hv : a.eval x = sv)
    (hst : w.ownsRow 0 61 1 sv st.length (st.map ptrV)) (hlen : st.length ≤ most) {b : Nat} {q : Option Nat} (hy : a.eval y = .slice (some ⟨b, 0, none⟩) 1 1) (hb : w.heap[b]? = some (.cells #[ptrV q] 61 (0, 0)))
    (h : ∀ (ca : Option Addr) (cl cc : Nat) w', w'.ownsRow 0 61 1 (.slice ca cl cc) (st ++ [q]).length ((st ++ [q]).map ptrV) → w.grownBy w' sv.ownBlock → ((Value.slice ca cl cc).ownBlock = sv.ownBlock ∨ (Value.slice ca cl cc).ownBlock = some w.heap.size) → wpList Try.prog ops Q rest (a.put o.dst (.slice ca cl cc)) w') :
    wpList Try.prog ops Q (o :: rest) a w :=
  wpList_plain hgd fun K hK => wp_push x y ho hv hst hlen hy hb (fun ca cl cc w' h1 h2 h3 => hK _ _ (h ca cl cc w' h1 h2 h3))
/-- An evaluation under way: what has turned since w0. -/
structure EvSt (F0 : Nat → Nat) (w0 : World) (p sp kb pb cb : Nat) (c : C4) (fb : Nat) (K : C4 → Prop) (eb0 : C4 → Option Nat) (F : Nat → Nat) (P : Nat → Prop) (w : World) (s : MS) (st : List (Option Nat)) (sv cv : Value) (eb : C4 → Option Nat) (f : Fr1) : Prop where
  m : MemoIn F w p (sheetV sp) s st kb pb sv cv eb
  box : CellAt w cb c
  fr : FrAt P w fb f
  hp : ∀ b, P b → b < w.heap.size ∧ F b = 0 ∧ w0.heap.size ≤ b ∧ b ≠ cb
  hc : F cb = 0
  old : ∀ b, b < w0.heap.size → F b = F0 b
  gr : Gr (Mem F0) w0 w
  ke : ∀ d, K d → eb d = eb0 d
theorem EvSt.step {F0 : Nat → Nat} {w0 : World} {p sp kb pb cb : Nat} {c : C4} {fb : Nat} {K : C4 → Prop} {eb0 : C4 → Option Nat} {F : Nat → Nat} {P : Nat → Prop} {w : World} {s : MS} {st : List (Option Nat)} {sv cv : Value} {eb : C4 → Option Nat} {f : Fr1}
    (h : EvSt F0 w0 p sp kb pb cb c fb K eb0 F P w s st sv cv eb f) {F' : Nat → Nat} {w' : World} {s' : MS} {st' : List (Option Nat)} {sv' cv' : Value} {eb' : C4 → Option Nat}
    (hM : MemoIn F' w' p (sheetV sp) s' st' kb pb sv' cv' eb') (hF : ∀ b, b < w.heap.size → F' b = F b) (hG : Gr (Mem F) w w') (hK : ∀ d, K d → eb' d = eb d) : EvSt F0 w0 p sp kb pb cb c fb K eb0 F' P w' s' st' sv' cv' eb' f where
  m := hM
  box := blk_gr hG h.box (fun e => e.1 h.hc)
  fr := h.fr.gr hG (fun b hb e => e.1 (h.hp b hb).2.1)
  hp := fun b hb => ⟨Nat.lt_of_lt_of_le (h.hp b hb).1 hG.size, (hF b (h.hp b hb).1).trans (h.hp b hb).2.1, (h.hp b hb).2.2⟩
  hc := (hF cb (blk_lt h.box)).trans h.hc
  old := fun b hb => (hF b (Nat.lt_of_lt_of_le hb h.gr.size)).trans (h.old b hb)
  gr := h.gr.trans hG (fun x hx => by
    by_cases h5 : x < w0.heap.size
    · exact .inl (by have e := h.old x h5; unfold Mem at hx ⊢; rw [← e]; exact hx)
    · exact .inr (Nat.le_of_not_lt h5))
  ke := fun d hd => (hK d hd).trans (h.ke d hd)
theorem EvSt.below {F0 : Nat → Nat} {w0 : World} {p sp kb pb cb : Nat} {c : C4} {fb : Nat} {K : C4 → Prop} {eb0 : C4 → Option Nat} {F : Nat → Nat} {P : Nat → Prop} {w : World} {s : MS} {st : List (Option Nat)} {sv cv : Value} {eb : C4 → Option Nat} {f : Fr1}
    (h : EvSt F0 w0 p sp kb pb cb c fb K eb0 F P w s st sv cv eb f) {w' : World} (hB : Below w.heap.size w w') : EvSt F0 w0 p sp kb pb cb c fb K eb0 F P w' s st sv cv eb f :=
  h.step (h.m.below hB) (fun _ _ => rfl) (Gr.of_below hB) (fun _ _ => rfl)
theorem EvSt.call {F0 : Nat → Nat} {w0 : World} {p sp kb pb cb : Nat} {c : C4} {fb : Nat} {K K' : C4 → Prop} {eb0 : C4 → Option Nat} {F : Nat → Nat} {P : Nat → Prop} {w w' : World} {s s' : MS} {st : List (Option Nat)} {sv cv : Value} {eb : C4 → Option Nat} {f f' : Fr1} {out : Value} {e : Ending}
    (h : EvSt F0 w0 p sp kb pb cb c fb K eb0 F P w s (st ++ [some fb]) sv cv eb f) (k : LeftF F P w p sp st fb kb pb s' eb K' f' out e w') (hK : ∀ d, K d → K' d) : ∃ F' P' sv' cv' eb', EvSt F0 w0 p sp kb pb cb c fb K eb0 F' P' w' s' (st ++ [some fb]) sv' cv' eb' f' := by
  obtain ⟨-, F', sv', cv', eb', P', k1, k2, k3, k4, k5, k6⟩ := k
  refine ⟨F', P', sv', cv', eb', k1, blk_gr k3 h.box (fun e => e.elim (fun e => e.1 h.hc) (fun e => (h.hp cb e).2.2.2 rfl)), k5, fun b hb => ⟨(k6 b hb).2.1, (k6 b hb).2.2, ?_, ?_⟩, (k2 cb (blk_lt h.box)).trans h.hc, fun b hb => (k2 b (Nat.lt_of_lt_of_le hb h.gr.size)).trans (h.old b hb), h.gr.trans k3 (fun x hx => ?_), fun d hd => (k4 d (hK d hd)).trans (h.ke d hd)⟩
  · rcases (k6 b hb).1 with h1 | h1
    · exact (h.hp b h1).2.2.1
    · exact Nat.le_trans h.gr.size h1
  · rcases (k6 b hb).1 with h1 | h1
    · exact (h.hp b h1).2.2.2
    · have := blk_lt h.box; omega
  · by_cases h5 : x < w0.heap.size
    · rcases hx with hx | hx
      · exact .inl (by have e := h.old x h5; unfold Mem at hx ⊢; rw [← e]; exact hx)
      · exact .inr (h.hp x hx).2.2.1
    · exact .inr (Nat.le_of_not_lt h5)
set_option maxRecDepth 20000 in
set_option maxHeartbeats 1000000 in
theorem eval_step (l : List Fm) (SB : Nat → Prop) (sp p kb pb n : Nat) (hE : EvalS l SB sp p kb pb n) : EvalC l SB sp p kb pb (n + 1) := by
  intro F w s st sv cv eb c r s' h hn hsh hs hc hg
  unfold evalM at hg
  cases ht : termsM l n s (findF l c) 0 (findF l c).terms 0 ⟨[], false⟩ with
  | none => rw [ht] at hg; cases hg
  | some y =>
  obtain ⟨sum, f, z5⟩ := y
  rw [ht] at hg
  simp only at hg
  by_cases hmost : most ≤ z5.n ∨ most ≤ z5.comp.length
  · rw [if_pos hmost] at hg; cases hg
  rw [if_neg hmost] at hg
  have hB1 : Below w.heap.size w ((w.alloc (.cells #[.int .i64 c.st, .int .i64 c.en, .int .i64 c.ot, .int .i64 c.pe] 26)).alloc (.cells #[.slice none 0 0, .bool false] 80)) := ((Below.refl _ w).alloc (Nat.le_refl _) _).alloc (by simp) _
  have hcb : ((w.alloc (.cells #[.int .i64 c.st, .int .i64 c.en, .int .i64 c.ot, .int .i64 c.pe] 26)).alloc (.cells #[.slice none 0 0, .bool false] 80)).heap[w.heap.size]? = _ := (heap_alloc_old _ _ (by simp)).trans (heap_alloc_new w (.cells #[.int .i64 c.st, .int .i64 c.en, .int .i64 c.ot, .int .i64 c.pe] 26))
  have hfb : ((w.alloc (.cells #[.int .i64 c.st, .int .i64 c.en, .int .i64 c.ot, .int .i64 c.pe] 26)).alloc (.cells #[.slice none 0 0, .bool false] 80)).heap[w.heap.size + 1]? = some (.cells #[.slice none 0 0, .bool false] 80 (0, 0)) := by
    have := heap_alloc_new (w.alloc (.cells #[.int .i64 c.st, .int .i64 c.en, .int .i64 c.ot, .int .i64 c.pe] 26)) (.cells #[.slice none 0 0, .bool false] 80)
    simpa using this
  have hf0 : ∀ b, w.heap.size ≤ b → F b = 0 := fun b hb => by
    by_cases e : F b = 0
    · exact e
    · exact absurd (h.dom b e) (by omega)
  have hE1 : EvSt F w p sp kb pb w.heap.size c (w.heap.size + 1) (fun d => s.prog d = true ∧ d ≠ c) eb F (fun b => b = w.heap.size + 1) _ s st sv cv eb ⟨[], false⟩ :=
    ⟨h.below hB1, hcb, ⟨rfl, _, hfb, Owns.nil _ _ _ _, fun b e => by simp [Value.ownBlock] at e⟩, fun b hb => by subst hb; exact ⟨blk_lt hfb, hf0 _ (by omega), by omega, by omega⟩, hf0 _ (Nat.le_refl _), fun _ _ => rfl, Gr.of_below hB1, fun _ _ => rfl⟩
  have E1 := Lib.hid hE1
  have HG := Lib.hid hg
  have HT := Lib.hid ht
  have HMO := Lib.hid hmost
  have HEV := Lib.hid hE
  have HSH := Lib.hid hsh
  have HS := Lib.hid hs
  have HN := Lib.hid hn
  have HC := Lib.hid hc
  have HM0 := Lib.hid h
  clear hE1 hg ht hmost hE hsh hs hn hB1 hcb hfb hf0 hc h
  obtain ⟨c1, c2, c3, c4⟩ := c
  unfold C4.v
  simp only at *
  obtain ⟨sa, sc', rfl⟩ := row_slice E1.out.m.stk
  have k3 := blk_cell E1.out.m.row 3
  simp at k3
  go_enter Try.func25, Try.ntmps25
  have hb2 := heap_alloc_new ((w.alloc (.cells #[.int .i64 c1, .int .i64 c2, .int .i64 c3, .int .i64 c4] 26)).alloc (.cells #[.slice none 0 0, .bool false] 80)) (.cells #[.pointer (some ⟨w.heap.size + 1, 0, none⟩)] 61)
  have E2 := Lib.hid (E1.out.below ((Below.refl _ _).alloc (Nat.le_refl _) (.cells #[.pointer (some ⟨w.heap.size + 1, 0, none⟩)] 61)))
  rw [show ((w.alloc (.cells #[.int .i64 c1, .int .i64 c2, .int .i64 c3, .int .i64 c4] 26)).alloc (.cells #[.slice none 0 0, .bool false] 80)).heap.size = w.heap.size + 1 + 1 by simp] at hb2
  have HB2 := Lib.hid hb2
  clear hb2
  go_wp2_with (at_builtin; go_must (refine wpList_push rfl (.tmp 14) (.tmp 16) rfl (sv := .slice sa st.length sc') (st := st) (b := w.heap.size + 1 + 1) (q := some (w.heap.size + 1)) rfl E2.out.m.stk (by have := HN.out; omega) rfl HB2.out ?_))
  intro ca3 cl3 cc3 w3 h31 h32 h33
  obtain ⟨F4, hM4, hF4, hG4⟩ := E2.out.m.setStack (st' := st ++ [some (w.heap.size + 1)]) h32 (by simpa using h31) (fun b hb => by
    rcases h33 with e | e
    · exact .inl (by rw [← e]; exact hb)
    · refine .inr ?_
      rw [e] at hb
      obtain rfl := Option.some.inj hb
      simp)
  have hpw : (Value.slice sa st.length sc').ownBlock ≠ some p := fun e => by have h1 := E2.out.m.sf p e; have h2 := E2.out.m.fp; omega
  have hr3 := blk_gr (Gr.of_grown h32) E2.out.m.row hpw
  have f3 := blk_frozen hr3 3
  have q3 := blk_cell hr3 3
  simp at q3
  have hE4 := E2.out.step hM4 hF4 hG4 (fun _ _ => rfl)
  have HG4 := Lib.hid hG4
  have E4 := Lib.hid hE4
  clear h31 h32 h33 hM4 hF4 hG4 hE4 hr3 hpw k3
  go_wp2_with fail
  generalize w3.setCell ⟨p, 3, none⟩ (.slice ca3 cl3 cc3) = w4 at *
  clear f3 q3
  have hcb4 := E4.out.box
  have hC4 : Cells [(⟨p, 0, none⟩, .iface 29 (.pointer (some ⟨sp, 0, none⟩))), (⟨w.heap.size, 0, none⟩, .int .i64 c1), (⟨w.heap.size, 1, none⟩, .int .i64 c2), (⟨w.heap.size, 2, none⟩, .int .i64 c3), (⟨w.heap.size, 3, none⟩, .int .i64 c4)] w4 := ⟨blk_cell E4.out.m.row 0, blk_cell hcb4 0, blk_cell hcb4 1, blk_cell hcb4 2, blk_cell hcb4 3, trivial⟩
  clear hcb4
  refine wp_region_T (Cells [(⟨p, 0, none⟩, .iface 29 (.pointer (some ⟨sp, 0, none⟩))), (⟨w.heap.size, 0, none⟩, .int .i64 c1), (⟨w.heap.size, 1, none⟩, .int .i64 c2), (⟨w.heap.size, 2, none⟩, .int .i64 c3), (⟨w.heap.size, 3, none⟩, .int .i64 c4)]) (fun i => i == 6) (by kernel_rfl) ?_
  have hSss1 := Cells.drew hC4
  have hB_0_s1 : Below w4.heap.size w4 w4.drew := below_drew _
  generalize w4.drew = s1 at hSss1 hB_0_s1 ⊢
  have hB_s1_s1 := Below.refl s1.heap.size s1
  refine wpAnyT_pure (i := 0) (v := ?_) rfl (by kernel_rfl) (by kernel_rfl) (by kernel_rfl) (fun _ _ _ h => h) (by rfl) ?_ ?_
  rotate_left
  · intro w; go_simp; try with_reducible rfl
  simp only [Act.put, List.setIfInBounds_toArray, List.set_cons_zero, List.set_cons_succ, List.getElem_toArray, List.getElem_cons_succ, List.getElem_cons_zero]
  refine wpAnyT_pure (i := 1) (v := ?_) rfl (by kernel_rfl) (by kernel_rfl) (by kernel_rfl) (fun _ _ _ h => h) (by rfl) ?_ ?_
  rotate_left
  · intro w; go_simp; try with_reducible rfl
  simp only [Act.put, List.setIfInBounds_toArray, List.set_cons_zero, List.set_cons_succ, List.getElem_toArray, List.getElem_cons_succ, List.getElem_cons_zero]
  refine wpAnyT_pure (i := 2) (v := ?_) rfl (by kernel_rfl) (by kernel_rfl) (by kernel_rfl) (fun _ _ _ h => h) (by rfl) ?_ ?_
  rotate_left
  · intro w; go_simp; try with_reducible rfl
  simp only [Act.put, List.setIfInBounds_toArray, List.set_cons_zero, List.set_cons_succ, List.getElem_toArray, List.getElem_cons_succ, List.getElem_cons_zero]
  refine wpAnyT_pure (i := 4) (v := ?_) rfl (by kernel_rfl) (by kernel_rfl) (by kernel_rfl) (fun _ _ _ h => h) (by rfl) ?_ ?_
  rotate_left
  · intro w; go_simp; try with_reducible rfl
  simp only [Act.put, List.setIfInBounds_toArray, List.set_cons_zero, List.set_cons_succ, List.getElem_toArray, List.getElem_cons_succ, List.getElem_cons_zero]
  refine wpAnyT_loadW (i := 3) (v := ?_) rfl (by kernel_rfl) (by kernel_rfl) (by kernel_rfl) (by kernel_rfl) (by kernel_rfl) (fun _ _ _ h => h) (Or.inl ⟨by rfl, ?_⟩) hSss1 ?_
  rotate_left
  · intro w hSw; obtain ⟨e0, e1, e2, e3, e4, -⟩ := hSw; go_simp; try with_reducible rfl
  simp only [Act.put, List.setIfInBounds_toArray, List.set_cons_zero, List.set_cons_succ, List.getElem_toArray, List.getElem_cons_succ, List.getElem_cons_zero]
  refine wpAnyT_loadW (i := 5) (v := ?_) rfl (by kernel_rfl) (by kernel_rfl) (by kernel_rfl) (by kernel_rfl) (by kernel_rfl) (fun _ _ _ h => h) (Or.inl ⟨by rfl, ?_⟩) hSss1 ?_
  rotate_left
  · intro w hSw; obtain ⟨e0, e1, e2, e3, e4, -⟩ := hSw; go_simp; try with_reducible rfl
  simp only [Act.put, List.setIfInBounds_toArray, List.set_cons_zero, List.set_cons_succ, List.getElem_toArray, List.getElem_cons_succ, List.getElem_cons_zero]
  refine wpAnyT_one (i := 6) (by kernel_rfl) rfl (by rfl) ?_
  have hmeth : ∀ w, Sem.run Try.prog (method 204 29 (.pointer (some ⟨sp, 0, none⟩)) "Eval") w = .ok (45, .pointer (some ⟨sp, 0, none⟩)) w := fun _ => by kernel_rfl
  have EP := E4.out.below (hB_0_s1.trans ((hB_s1_s1).mono (hB_0_s1).size))
  refine wp_enter (f := 45) (args := #[.pointer (some ⟨sp, 0, none⟩), .pointer (some ⟨p, 0, none⟩), .agg #[.int .i64 c1, .int .i64 c2, .int .i64 c3, .int .i64 c4]]) (by go_simp) (HEV.out F4 _ s st _ _ _ ⟨c1, c2, c3, c4⟩ sum f z5 (w.heap.size + 1) (fun b => b = w.heap.size + 1) EP.m (by have := HN.out; omega) (HSH.out.left HS.out EP.gr) (fun b hb => ⟨Nat.lt_of_lt_of_le (HS.out b hb).1 EP.gr.size, (EP.old b (HS.out b hb).1).trans (HS.out b hb).2, fun e => by have := (HS.out b hb).1; omega⟩) HC.out EP.fr (fun b hb => ⟨(EP.hp b hb).1, (EP.hp b hb).2.1⟩) HT.out) ?_
  rintro e w102 hL5
  obtain ⟨F5, P5, sv5, cv5, eb5, hE5⟩ := EP.call hL5 (fun d hd => hd.1)
  obtain ⟨he5, -⟩ := hL5
  subst he5
  clear EP hmeth
  refine ⟨_, rfl, fun h => absurd h (by decide), ?_⟩
  try simp only [Act.put, List.setIfInBounds_toArray, List.set_cons_zero, List.set_cons_succ, List.getElem_toArray, List.getElem_cons_succ, List.getElem_cons_zero]
  refine wpAnyT_pure (i := 7) (v := ?_) rfl (by kernel_rfl) (by kernel_rfl) (by kernel_rfl) (fun _ _ _ h => h) (by rfl) ?_ ?_
  rotate_left
  · intro w; go_simp; try with_reducible rfl
  simp only [Act.put, List.setIfInBounds_toArray, List.set_cons_zero, List.set_cons_succ, List.getElem_toArray, List.getElem_cons_succ, List.getElem_cons_zero]
  refine wpAnyT_done (by kernel_rfl) ?_ _
  obtain ⟨w5, rfl⟩ : ∃ x, x = w102 := ⟨_, rfl⟩
  have E5 := Lib.hid hE5
  clear hE5
  obtain ⟨g, cap, rfl, hc1, hc2, hrow, -⟩ := row_pop E5.out.m.stk
  have HR5 := Lib.hid hrow
  have hwr : IntKind.i64.wrap (st.length : Int) = (st.length : Int) := by
    simp [IntKind.wrap, IntKind.signed, IntKind.bits]
    omega
  have hcI : (st.length : Int) ≤ (cap : Int) := by omega
  have hc0 : (0 : Int) ≤ (st.length : Int) := by omega
  have hC5 : Cells [(⟨p, 3, none⟩, .slice (some ⟨g, 0, none⟩) (st.length + 1) cap)] w5 := ⟨by have := blk_cell E5.out.m.row 3; simpa using this, trivial⟩
  clear hrow
  go_wp2_with fail
  refine wp_region_T (Cells [(⟨p, 3, none⟩, .slice (some ⟨g, 0, none⟩) (st.length + 1) cap)]) (fun i => i == 14) (by kernel_rfl) ?_
  have hSss3 := Cells.drew hC5
  have hB_0_s3 : Below w5.heap.size w5 w5.drew := below_drew _
  generalize w5.drew = s3 at hSss3 hB_0_s3 ⊢
  have hB_s3_s3 := Below.refl s3.heap.size s3
  refine wpAnyT_pure (i := 0) (v := ?_) rfl (by kernel_rfl) (by kernel_rfl) (by kernel_rfl) (fun _ _ _ h => h) (by rfl) ?_ ?_
  rotate_left
  · intro w; go_simp; try with_reducible rfl
  simp only [Act.put, List.setIfInBounds_toArray, List.set_cons_zero, List.set_cons_succ, List.getElem_toArray, List.getElem_cons_succ, List.getElem_cons_zero]
  refine wpAnyT_pure (i := 1) (v := ?_) rfl (by kernel_rfl) (by kernel_rfl) (by kernel_rfl) (fun _ _ _ h => h) (by rfl) ?_ ?_
  rotate_left
  · intro w; go_simp; try with_reducible rfl
  simp only [Act.put, List.setIfInBounds_toArray, List.set_cons_zero, List.set_cons_succ, List.getElem_toArray, List.getElem_cons_succ, List.getElem_cons_zero]
  refine wpAnyT_pure (i := 2) (v := ?_) rfl (by kernel_rfl) (by kernel_rfl) (by kernel_rfl) (fun _ _ _ h => h) (by rfl) ?_ ?_
  rotate_left
  · intro w; go_simp; try with_reducible rfl
  simp only [Act.put, List.setIfInBounds_toArray, List.set_cons_zero, List.set_cons_succ, List.getElem_toArray, List.getElem_cons_succ, List.getElem_cons_zero]
  refine wpAnyT_pure (i := 3) (v := ?_) rfl (by kernel_rfl) (by kernel_rfl) (by kernel_rfl) (fun _ _ _ h => h) (by rfl) ?_ ?_
  rotate_left
  · intro w; go_simp; try with_reducible rfl
  simp only [Act.put, List.setIfInBounds_toArray, List.set_cons_zero, List.set_cons_succ, List.getElem_toArray, List.getElem_cons_succ, List.getElem_cons_zero]
  refine wpAnyT_pure (i := 5) (v := ?_) rfl (by kernel_rfl) (by kernel_rfl) (by kernel_rfl) (fun _ _ _ h => h) (by rfl) ?_ ?_
  rotate_left
  · intro w; go_simp; try with_reducible rfl
  simp only [Act.put, List.setIfInBounds_toArray, List.set_cons_zero, List.set_cons_succ, List.getElem_toArray, List.getElem_cons_succ, List.getElem_cons_zero]
  refine wpAnyT_pure (i := 6) (v := ?_) rfl (by kernel_rfl) (by kernel_rfl) (by kernel_rfl) (fun _ _ _ h => h) (by rfl) ?_ ?_
  rotate_left
  · intro w; go_simp; try with_reducible rfl
  simp only [Act.put, List.setIfInBounds_toArray, List.set_cons_zero, List.set_cons_succ, List.getElem_toArray, List.getElem_cons_succ, List.getElem_cons_zero]
  refine wpAnyT_pure (i := 7) (v := ?_) rfl (by kernel_rfl) (by kernel_rfl) (by kernel_rfl) (fun _ _ _ h => h) (by rfl) ?_ ?_
  rotate_left
  · intro w; go_simp; try with_reducible rfl
  simp only [Act.put, List.setIfInBounds_toArray, List.set_cons_zero, List.set_cons_succ, List.getElem_toArray, List.getElem_cons_succ, List.getElem_cons_zero]
  refine wpAnyT_loadW (i := 4) (v := ?_) rfl (by kernel_rfl) (by kernel_rfl) (by kernel_rfl) (by kernel_rfl) (by kernel_rfl) (fun _ _ _ h => h) (Or.inl ⟨by rfl, ?_⟩) hSss3 ?_
  rotate_left
  · intro w hSw; obtain ⟨e0, -⟩ := hSw; go_simp; try with_reducible rfl
  simp only [Act.put, List.setIfInBounds_toArray, List.set_cons_zero, List.set_cons_succ, List.getElem_toArray, List.getElem_cons_succ, List.getElem_cons_zero]
  refine wpAnyT_loadW (i := 8) (v := ?_) rfl (by kernel_rfl) (by kernel_rfl) (by kernel_rfl) (by kernel_rfl) (by kernel_rfl) (fun _ _ _ h => h) (Or.inl ⟨by rfl, ?_⟩) hSss3 ?_
  rotate_left
  · intro w hSw; obtain ⟨e0, -⟩ := hSw; go_simp; try with_reducible rfl
  simp only [Act.put, List.setIfInBounds_toArray, List.set_cons_zero, List.set_cons_succ, List.getElem_toArray, List.getElem_cons_succ, List.getElem_cons_zero]
  refine wpAnyT_pure (i := 9) (v := ?_) rfl (by kernel_rfl) (by kernel_rfl) (by kernel_rfl) (fun _ _ _ h => h) (by rfl) ?_ ?_
  rotate_left
  · intro w; go_simp; try with_reducible rfl
  simp only [Act.put, List.setIfInBounds_toArray, List.set_cons_zero, List.set_cons_succ, List.getElem_toArray, List.getElem_cons_succ, List.getElem_cons_zero]
  refine wpAnyT_pure (i := 10) (v := ?_) rfl (by kernel_rfl) (by kernel_rfl) (by kernel_rfl) (fun _ _ _ h => h) (by rfl) ?_ ?_
  rotate_left
  · intro w; go_simp; try with_reducible rfl
  simp only [Act.put, List.setIfInBounds_toArray, List.set_cons_zero, List.set_cons_succ, List.getElem_toArray, List.getElem_cons_succ, List.getElem_cons_zero]
  refine wpAnyT_pure (i := 11) (v := ?_) rfl (by kernel_rfl) (by kernel_rfl) (by kernel_rfl) (fun _ _ _ h => h) (by rfl) ?_ ?_
  rotate_left
  · intro w; go_simp; try with_reducible rfl
  simp only [Act.put, List.setIfInBounds_toArray, List.set_cons_zero, List.set_cons_succ, List.getElem_toArray, List.getElem_cons_succ, List.getElem_cons_zero]
  refine wpAnyT_pure (i := 12) (v := ?_) rfl (by kernel_rfl) (by kernel_rfl) (by kernel_rfl) (fun _ _ _ h => h) (by rfl) ?_ ?_
  rotate_left
  · intro w; go_simp; try with_reducible rfl
  simp only [Act.put, List.setIfInBounds_toArray, List.set_cons_zero, List.set_cons_succ, List.getElem_toArray, List.getElem_cons_succ, List.getElem_cons_zero]
  refine wpAnyT_pure (i := 13) (v := ?_) rfl (by kernel_rfl) (by kernel_rfl) (by kernel_rfl) (fun _ _ _ h => h) (by rfl) ?_ ?_
  rotate_left
  · intro w; go_simp; try with_reducible rfl
  simp only [Act.put, List.setIfInBounds_toArray, List.set_cons_zero, List.set_cons_succ, List.getElem_toArray, List.getElem_cons_succ, List.getElem_cons_zero]
  refine wpAnyT_one (i := 14) (by kernel_rfl) rfl (by rfl) ?_
  have hbP : Below w5.heap.size w5 s3 := hB_0_s3.trans ((hB_s3_s3).mono (hB_0_s3).size)
  have EP := E5.out.below hbP
  have hrP := ownsRow_gr HR5.out (Gr.of_below (F := fun _ => False) hbP) (fun _ _ h => h)
  have f3 := blk_frozen EP.m.row 3
  have q3 := blk_cell EP.m.row 3
  simp at q3
  obtain ⟨F6, hM6, hF6, hG6⟩ := EP.m.setStack (grownBy_refl _ _) hrP (fun b hb => .inl hb)
  refine wp_store1 (w' := (s3).setCell ⟨p, 3, none⟩ (.slice (some ⟨g, 0, none⟩) st.length cap)) 66 (.tmp 40) (.tmp 38) rfl ⟨p, 3, none⟩ (.slice (some ⟨g, 0, none⟩) st.length cap) (by kernel_rfl) (by kernel_rfl) (by go_simp) ?_
  have hE6 := EP.step hM6 hF6 hG6 (fun _ _ => rfl)
  clear hM6 hG6 EP f3 q3 hbP hrP
  generalize (s3).setCell ⟨p, 3, none⟩ (.slice (some ⟨g, 0, none⟩) st.length cap) = w104 at hE6 ⊢
  refine ⟨fun h => absurd h (by decide), ?_⟩
  try simp only [Act.put, List.setIfInBounds_toArray, List.set_cons_zero, List.set_cons_succ, List.getElem_toArray, List.getElem_cons_succ, List.getElem_cons_zero]
  refine wpAnyT_done (by kernel_rfl) ?_ _
  obtain ⟨w6, rfl⟩ : ∃ x, x = w104 := ⟨_, rfl⟩
  have E6 := Lib.hid hE6
  clear hE6 hF6
  clear hwr hcI hc0 hc1 hc2
  obtain ⟨va, vl, vc, rfl, -⟩ := E6.out.m.cmp.slice
  have hcb6 := E6.out.box
  have hC6 : Cells [(⟨p, 4, none⟩, .slice va vl vc), (⟨w.heap.size, 0, none⟩, .int .i64 c1), (⟨w.heap.size, 1, none⟩, .int .i64 c2), (⟨w.heap.size, 2, none⟩, .int .i64 c3), (⟨w.heap.size, 3, none⟩, .int .i64 c4)] w6 := ⟨blk_cell E6.out.m.row 4, blk_cell hcb6 0, blk_cell hcb6 1, blk_cell hcb6 2, blk_cell hcb6 3, trivial⟩
  clear hcb6
  go_wp2_with fail
  refine wp_region_T (Cells [(⟨p, 4, none⟩, .slice va vl vc), (⟨w.heap.size, 0, none⟩, .int .i64 c1), (⟨w.heap.size, 1, none⟩, .int .i64 c2), (⟨w.heap.size, 2, none⟩, .int .i64 c3), (⟨w.heap.size, 3, none⟩, .int .i64 c4)]) (fun i => i == 10) (by kernel_rfl) ?_
  have hSss5 := Cells.drew hC6
  have hB_0_s5 : Below w6.heap.size w6 w6.drew := below_drew _
  generalize w6.drew = s5 at hSss5 hB_0_s5 ⊢
  have hB_s5_s5 := Below.refl s5.heap.size s5
  refine wpAnyT_pure (i := 0) (v := ?_) rfl (by kernel_rfl) (by kernel_rfl) (by kernel_rfl) (fun _ _ _ h => h) (by rfl) ?_ ?_
  rotate_left
  · intro w; go_simp; try with_reducible rfl
  simp only [Act.put, List.setIfInBounds_toArray, List.set_cons_zero, List.set_cons_succ, List.getElem_toArray, List.getElem_cons_succ, List.getElem_cons_zero]
  refine wpAnyT_pure (i := 1) (v := ?_) rfl (by kernel_rfl) (by kernel_rfl) (by kernel_rfl) (fun _ _ _ h => h) (by rfl) ?_ ?_
  rotate_left
  · intro w; go_simp; try with_reducible rfl
  simp only [Act.put, List.setIfInBounds_toArray, List.set_cons_zero, List.set_cons_succ, List.getElem_toArray, List.getElem_cons_succ, List.getElem_cons_zero]
  refine wpAnyT_pure (i := 2) (v := ?_) rfl (by kernel_rfl) (by kernel_rfl) (by kernel_rfl) (fun _ _ _ h => h) (by rfl) ?_ ?_
  rotate_left
  · intro w; go_simp; try with_reducible rfl
  simp only [Act.put, List.setIfInBounds_toArray, List.set_cons_zero, List.set_cons_succ, List.getElem_toArray, List.getElem_cons_succ, List.getElem_cons_zero]
  refine wpAnyT_pure (i := 3) (v := ?_) rfl (by kernel_rfl) (by kernel_rfl) (by kernel_rfl) (fun _ _ _ h => h) (by rfl) ?_ ?_
  rotate_left
  · intro w; go_simp; try with_reducible rfl
  simp only [Act.put, List.setIfInBounds_toArray, List.set_cons_zero, List.set_cons_succ, List.getElem_toArray, List.getElem_cons_succ, List.getElem_cons_zero]
  refine wpAnyT_loadW (i := 4) (v := ?_) rfl (by kernel_rfl) (by kernel_rfl) (by kernel_rfl) (by kernel_rfl) (by kernel_rfl) (fun _ _ _ h => h) (Or.inl ⟨by rfl, ?_⟩) hSss5 ?_
  rotate_left
  · intro w hSw; obtain ⟨e0, e1, e2, e3, e4, -⟩ := hSw; go_simp; try with_reducible rfl
  simp only [Act.put, List.setIfInBounds_toArray, List.set_cons_zero, List.set_cons_succ, List.getElem_toArray, List.getElem_cons_succ, List.getElem_cons_zero]
  refine wpAnyT_loadW (i := 5) (v := ?_) rfl (by kernel_rfl) (by kernel_rfl) (by kernel_rfl) (by kernel_rfl) (by kernel_rfl) (fun _ _ _ h => h) (Or.inl ⟨by rfl, ?_⟩) hSss5 ?_
  rotate_left
  · intro w hSw; obtain ⟨e0, e1, e2, e3, e4, -⟩ := hSw; go_simp; try with_reducible rfl
  simp only [Act.put, List.setIfInBounds_toArray, List.set_cons_zero, List.set_cons_succ, List.getElem_toArray, List.getElem_cons_succ, List.getElem_cons_zero]
  refine wpAnyT_one (i := 6) (by kernel_rfl) rfl (by rfl) ?_
  obtain ⟨b6, hb6⟩ : ∃ b, s5.heap.size = b := ⟨_, rfl⟩
  refine wp_newrow (v := .slice (some ⟨b6, 0, none⟩) 1 1) (cs := #[.int .i64 c1, .int .i64 c2, .int .i64 c3, .int .i64 c4]) (te := 26) (by rw [← hb6]; go_simp) ?_
  intro w106 hX hN6
  rw [hb6] at hN6
  have hB_s5_w106 := below_step hB_s5_s5 hX
  have hB_w106_w106 := Below.refl w106.heap.size w106
  have hSsw106 := Cells.below hB_s5_w106 hSss5
  clear hX
  refine ⟨fun _ _ => hSsw106, ?_⟩
  try simp only [Act.put, List.setIfInBounds_toArray, List.set_cons_zero, List.set_cons_succ, List.getElem_toArray, List.getElem_cons_succ, List.getElem_cons_zero]
  refine wpAnyT_one (i := 7) (by kernel_rfl) rfl (by rfl) ?_
  have hq6 := ((hB_w106_w106).block _ (blk_lt hN6)).trans hN6
  have EP := E6.out.below (hB_0_s5.trans ((hB_s5_w106).mono (hB_0_s5).size))
  refine wp_app (.tmp 45) (.tmp 47) 48 rfl (e := cellT) (te := 26) info_cell Try.underlying48 rfl (by decide) (base := 0) (S := fun _ => False) (v := .slice va vl vc) (xs := z5.comp.map C4.d) (by kernel_rfl) EP.m.cmp (Nat.zero_le _) (sv := .slice (some ⟨b6, 0, none⟩) 1 1) (by kernel_rfl) (ys := [C4.d ⟨c1, c2, c3, c4⟩]) (Src.of_cells (news := [.int .i64 c1, .int .i64 c2, .int .i64 c3, .int .i64 c4]) (fun j u hu => by rw [Nat.zero_add, blk_cell hq6]; simpa using hu)) (RdL.one (e := cellT) (cell_rd HC.out)) (by have := HMO.out; unfold most at this; simp only [List.length_map, List.length_cons, List.length_nil]; omega) (by have := HMO.out; unfold most at this; simp only [List.length_map, List.length_cons, List.length_nil]; omega) ?_
  intro ca7 cl7 cc7 w107 O7 g7 ob7
  obtain ⟨F7, hM7, hF7, hG7⟩ := EP.m.setComp (comp' := z5.comp ++ [⟨c1, c2, c3, c4⟩]) g7 (by rw [List.map_append]; exact O7) (fun b hb => by rcases ob7 with e | e; exact .inl (e ▸ hb); exact .inr (by rw [e] at hb; obtain rfl := Option.some.inj hb; exact Nat.le_refl _))
  have hpw : (Value.slice va vl vc).ownBlock ≠ some p := fun e => by have h1 := EP.m.cf p e; have h2 := EP.m.fp; omega
  have hcw : (Value.slice va vl vc).ownBlock ≠ some w.heap.size := fun e => by have h1 := EP.m.cf _ e; have h2 := EP.hc; omega
  have hr7 := blk_gr (Gr.of_grown g7) EP.m.row hpw
  have f7 := blk_frozen hr7 4
  have q7 := blk_cell hr7 4
  simp at q7
  have hm7 := blk_gr (Gr.of_grown g7) EP.box hcw
  have hXS : Cells [(⟨p, 4, none⟩, .slice va vl vc), (⟨w.heap.size, 0, none⟩, .int .i64 c1), (⟨w.heap.size, 1, none⟩, .int .i64 c2), (⟨w.heap.size, 2, none⟩, .int .i64 c3), (⟨w.heap.size, 3, none⟩, .int .i64 c4)] w107 := ⟨blk_cell hr7 4, blk_cell hm7 0, blk_cell hm7 1, blk_cell hm7 2, blk_cell hm7 3, trivial⟩
  have hE7 := EP.step hM7 hF7 hG7 (fun _ _ => rfl)
  clear O7 g7 ob7 hr7 hm7 hpw hcw EP hM7 hF7 hG7
  have hSsw107 := hXS
  have hB_w107_w107 := Below.refl w107.heap.size w107
  refine ⟨fun _ _ => hSsw107, ?_⟩
  try simp only [Act.put, List.setIfInBounds_toArray, List.set_cons_zero, List.set_cons_succ, List.getElem_toArray, List.getElem_cons_succ, List.getElem_cons_zero]
  refine wpAnyT_pure (i := 8) (v := ?_) rfl (by kernel_rfl) (by kernel_rfl) (by kernel_rfl) (fun _ _ _ h => h) (by rfl) ?_ ?_
  rotate_left
  · intro w; go_simp; try with_reducible rfl
  simp only [Act.put, List.setIfInBounds_toArray, List.set_cons_zero, List.set_cons_succ, List.getElem_toArray, List.getElem_cons_succ, List.getElem_cons_zero]
  refine wpAnyT_pure (i := 9) (v := ?_) rfl (by kernel_rfl) (by kernel_rfl) (by kernel_rfl) (fun _ _ _ h => h) (by rfl) ?_ ?_
  rotate_left
  · intro w; go_simp; try with_reducible rfl
  simp only [Act.put, List.setIfInBounds_toArray, List.set_cons_zero, List.set_cons_succ, List.getElem_toArray, List.getElem_cons_succ, List.getElem_cons_zero]
  refine wpAnyT_one (i := 10) (by kernel_rfl) rfl (by rfl) ?_
  refine wp_store1 (w' := (w107).setCell ⟨p, 4, none⟩ (.slice ca7 cl7 cc7)) 48 (.tmp 50) (.tmp 48) rfl ⟨p, 4, none⟩ (.slice ca7 cl7 cc7) (by kernel_rfl) (by kernel_rfl) (by go_simp) ?_
  clear f7 q7
  generalize (w107).setCell ⟨p, 4, none⟩ (.slice ca7 cl7 cc7) = w108 at hE7 ⊢
  refine ⟨fun h => absurd h (by decide), ?_⟩
  try simp only [Act.put, List.setIfInBounds_toArray, List.set_cons_zero, List.set_cons_succ, List.getElem_toArray, List.getElem_cons_succ, List.getElem_cons_zero]
  refine wpAnyT_done (by kernel_rfl) ?_ _
  obtain ⟨w7, rfl⟩ : ∃ x, x = w108 := ⟨_, rfl⟩
  have E7 := Lib.hid hE7
  clear hE7
  have hcb7 := E7.out.box
  have hC7 : Cells [(⟨p, 1, none⟩, .map (some kb)), (⟨w.heap.size, 0, none⟩, .int .i64 c1), (⟨w.heap.size, 1, none⟩, .int .i64 c2), (⟨w.heap.size, 2, none⟩, .int .i64 c3), (⟨w.heap.size, 3, none⟩, .int .i64 c4)] w7 := ⟨blk_cell E7.out.m.row 1, blk_cell hcb7 0, blk_cell hcb7 1, blk_cell hcb7 2, blk_cell hcb7 3, trivial⟩
  clear hcb7
  go_wp2_with fail
  refine wp_region_T (Cells [(⟨p, 1, none⟩, .map (some kb)), (⟨w.heap.size, 0, none⟩, .int .i64 c1), (⟨w.heap.size, 1, none⟩, .int .i64 c2), (⟨w.heap.size, 2, none⟩, .int .i64 c3), (⟨w.heap.size, 3, none⟩, .int .i64 c4)]) (fun i => i == 5) (by kernel_rfl) ?_
  have hSss9 := Cells.drew hC7
  have hB_0_s9 : Below w7.heap.size w7 w7.drew := below_drew _
  generalize w7.drew = s9 at hSss9 hB_0_s9 ⊢
  have hB_s9_s9 := Below.refl s9.heap.size s9
  refine wpAnyT_pure (i := 0) (v := ?_) rfl (by kernel_rfl) (by kernel_rfl) (by kernel_rfl) (fun _ _ _ h => h) (by rfl) ?_ ?_
  rotate_left
  · intro w; go_simp; try with_reducible rfl
  simp only [Act.put, List.setIfInBounds_toArray, List.set_cons_zero, List.set_cons_succ, List.getElem_toArray, List.getElem_cons_succ, List.getElem_cons_zero]
  refine wpAnyT_pure (i := 1) (v := ?_) rfl (by kernel_rfl) (by kernel_rfl) (by kernel_rfl) (fun _ _ _ h => h) (by rfl) ?_ ?_
  rotate_left
  · intro w; go_simp; try with_reducible rfl
  simp only [Act.put, List.setIfInBounds_toArray, List.set_cons_zero, List.set_cons_succ, List.getElem_toArray, List.getElem_cons_succ, List.getElem_cons_zero]
  refine wpAnyT_pure (i := 2) (v := ?_) rfl (by kernel_rfl) (by kernel_rfl) (by kernel_rfl) (fun _ _ _ h => h) (by rfl) ?_ ?_
  rotate_left
  · intro w; go_simp; try with_reducible rfl
  simp only [Act.put, List.setIfInBounds_toArray, List.set_cons_zero, List.set_cons_succ, List.getElem_toArray, List.getElem_cons_succ, List.getElem_cons_zero]
  refine wpAnyT_loadW (i := 3) (v := ?_) rfl (by kernel_rfl) (by kernel_rfl) (by kernel_rfl) (by kernel_rfl) (by kernel_rfl) (fun _ _ _ h => h) (Or.inl ⟨by rfl, ?_⟩) hSss9 ?_
  rotate_left
  · intro w hSw; obtain ⟨e0, e1, e2, e3, e4, -⟩ := hSw; go_simp; try with_reducible rfl
  simp only [Act.put, List.setIfInBounds_toArray, List.set_cons_zero, List.set_cons_succ, List.getElem_toArray, List.getElem_cons_succ, List.getElem_cons_zero]
  refine wpAnyT_loadW (i := 4) (v := ?_) rfl (by kernel_rfl) (by kernel_rfl) (by kernel_rfl) (by kernel_rfl) (by kernel_rfl) (fun _ _ _ h => h) (Or.inl ⟨by rfl, ?_⟩) hSss9 ?_
  rotate_left
  · intro w hSw; obtain ⟨e0, e1, e2, e3, e4, -⟩ := hSw; go_simp; try with_reducible rfl
  simp only [Act.put, List.setIfInBounds_toArray, List.set_cons_zero, List.set_cons_succ, List.getElem_toArray, List.getElem_cons_succ, List.getElem_cons_zero]
  refine wpAnyT_one (i := 5) (by kernel_rfl) rfl (by rfl) ?_
  have EP := E7.out.below (hB_0_s9.trans ((hB_s9_s9).mono (hB_0_s9).size))
  obtain ⟨w110, hdel, hM8, hG8⟩ := EP.m.drop ⟨c1, c2, c3, c4⟩ HC.out 0
  unfold C4.v at hdel
  simp only at hdel
  refine wp_value (v := .tuple #[]) (w' := w110) (by go_simp) ?_
  have hE8 := EP.step hM8 (fun _ _ => rfl) hG8 (fun d hd => by unfold upd; rw [if_neg hd.2])
  clear hdel hM8 hG8 EP
  refine ⟨fun h => absurd h (by decide), ?_⟩
  try simp only [Act.put, List.setIfInBounds_toArray, List.set_cons_zero, List.set_cons_succ, List.getElem_toArray, List.getElem_cons_succ, List.getElem_cons_zero]
  refine wpAnyT_done (by kernel_rfl) ?_ _
  obtain ⟨w8, rfl⟩ : ∃ x, x = w110 := ⟨_, rfl⟩
  have E8 := Lib.hid hE8
  clear hE8
  obtain ⟨hfp, rv, hfr, hfo, hfb⟩ := id E8.out.fr
  obtain ⟨ra, rl, rc, rfl, -⟩ := hfo.slice
  have HFP := Lib.hid hfp
  have HFR := Lib.hid hfr
  have HFO := Lib.hid hfo
  have HFB := Lib.hid hfb
  have k1 := blk_cell hfr 1
  simp at k1
  clear hfp hfr hfo hfb
  obtain ⟨fr, ff⟩ := f
  simp only at *
  cases ff
  · obtain ⟨rfl, rfl⟩ : (endV (findF l ⟨c1, c2, c3, c4⟩) sum, 0) = r ∧ (z5.drop ⟨c1, c2, c3, c4⟩).keep ⟨c1, c2, c3, c4⟩ ⟨endV (findF l ⟨c1, c2, c3, c4⟩) sum, fr, true, false⟩ = s' := by have := HG.out; simpa using this
    go_wp2_with fail
    clear k1
    have hcb8 := E8.out.box
    have hC8 : Cells [(⟨p, 1, none⟩, .map (some kb)), (⟨w.heap.size, 0, none⟩, .int .i64 c1), (⟨w.heap.size, 1, none⟩, .int .i64 c2), (⟨w.heap.size, 2, none⟩, .int .i64 c3), (⟨w.heap.size, 3, none⟩, .int .i64 c4), (⟨w.heap.size + 1, 0, none⟩, .slice ra rl rc)] w8 := ⟨blk_cell E8.out.m.row 1, blk_cell hcb8 0, blk_cell hcb8 1, blk_cell hcb8 2, blk_cell hcb8 3, blk_cell HFR.out 0, trivial⟩
    clear hcb8
    refine wp_region_T (Cells [(⟨p, 1, none⟩, .map (some kb)), (⟨w.heap.size, 0, none⟩, .int .i64 c1), (⟨w.heap.size, 1, none⟩, .int .i64 c2), (⟨w.heap.size, 2, none⟩, .int .i64 c3), (⟨w.heap.size, 3, none⟩, .int .i64 c4), (⟨w.heap.size + 1, 0, none⟩, .slice ra rl rc)]) (fun i => i == 12) (by kernel_rfl) ?_
    have hSss11 := Cells.drew hC8
    have hB_0_s11 : Below w8.heap.size w8 w8.drew := below_drew _
    generalize w8.drew = s11 at hSss11 hB_0_s11 ⊢
    have hB_s11_s11 := Below.refl s11.heap.size s11
    refine wpAnyT_pure (i := 0) (v := ?_) rfl (by kernel_rfl) (by kernel_rfl) (by kernel_rfl) (fun _ _ _ h => h) (by rfl) ?_ ?_
    rotate_left
    · intro w; go_simp; try with_reducible rfl
    simp only [Act.put, List.setIfInBounds_toArray, List.set_cons_zero, List.set_cons_succ, List.getElem_toArray, List.getElem_cons_succ, List.getElem_cons_zero]
    refine wpAnyT_pure (i := 1) (v := ?_) rfl (by kernel_rfl) (by kernel_rfl) (by kernel_rfl) (fun _ _ _ h => h) (by rfl) ?_ ?_
    rotate_left
    · intro w; go_simp; try with_reducible rfl
    simp only [Act.put, List.setIfInBounds_toArray, List.set_cons_zero, List.set_cons_succ, List.getElem_toArray, List.getElem_cons_succ, List.getElem_cons_zero]
    refine wpAnyT_pure (i := 2) (v := ?_) rfl (by kernel_rfl) (by kernel_rfl) (by kernel_rfl) (fun _ _ _ h => h) (by rfl) ?_ ?_
    rotate_left
    · intro w; go_simp; try with_reducible rfl
    simp only [Act.put, List.setIfInBounds_toArray, List.set_cons_zero, List.set_cons_succ, List.getElem_toArray, List.getElem_cons_succ, List.getElem_cons_zero]
    refine wpAnyT_pure (i := 5) (v := ?_) rfl (by kernel_rfl) (by kernel_rfl) (by kernel_rfl) (fun _ _ _ h => h) (by rfl) ?_ ?_
    rotate_left
    · intro w; go_simp; try with_reducible rfl
    simp only [Act.put, List.setIfInBounds_toArray, List.set_cons_zero, List.set_cons_succ, List.getElem_toArray, List.getElem_cons_succ, List.getElem_cons_zero]
    refine wpAnyT_pure (i := 6) (v := ?_) rfl (by kernel_rfl) (by kernel_rfl) (by kernel_rfl) (fun _ _ _ h => h) (by rfl) ?_ ?_
    rotate_left
    · intro w; go_simp; try with_reducible rfl
    simp only [Act.put, List.setIfInBounds_toArray, List.set_cons_zero, List.set_cons_succ, List.getElem_toArray, List.getElem_cons_succ, List.getElem_cons_zero]
    refine wpAnyT_pure (i := 7) (v := ?_) rfl (by kernel_rfl) (by kernel_rfl) (by kernel_rfl) (fun _ _ _ h => h) (by rfl) ?_ ?_
    rotate_left
    · intro w; go_simp; try with_reducible rfl
    simp only [Act.put, List.setIfInBounds_toArray, List.set_cons_zero, List.set_cons_succ, List.getElem_toArray, List.getElem_cons_succ, List.getElem_cons_zero]
    refine wpAnyT_pure (i := 8) (v := ?_) rfl (by kernel_rfl) (by kernel_rfl) (by kernel_rfl) (fun _ _ _ h => h) (by rfl) ?_ ?_
    rotate_left
    · intro w; go_simp; try with_reducible rfl
    simp only [Act.put, List.setIfInBounds_toArray, List.set_cons_zero, List.set_cons_succ, List.getElem_toArray, List.getElem_cons_succ, List.getElem_cons_zero]
    refine wpAnyT_loadW (i := 3) (v := ?_) rfl (by kernel_rfl) (by kernel_rfl) (by kernel_rfl) (by kernel_rfl) (by kernel_rfl) (fun _ _ _ h => h) (Or.inl ⟨by rfl, ?_⟩) hSss11 ?_
    rotate_left
    · intro w hSw; obtain ⟨e0, e1, e2, e3, e4, e5, -⟩ := hSw; go_simp; try with_reducible rfl
    simp only [Act.put, List.setIfInBounds_toArray, List.set_cons_zero, List.set_cons_succ, List.getElem_toArray, List.getElem_cons_succ, List.getElem_cons_zero]
    refine wpAnyT_loadW (i := 4) (v := ?_) rfl (by kernel_rfl) (by kernel_rfl) (by kernel_rfl) (by kernel_rfl) (by kernel_rfl) (fun _ _ _ h => h) (Or.inl ⟨by rfl, ?_⟩) hSss11 ?_
    rotate_left
    · intro w hSw; obtain ⟨e0, e1, e2, e3, e4, e5, -⟩ := hSw; go_simp; try with_reducible rfl
    simp only [Act.put, List.setIfInBounds_toArray, List.set_cons_zero, List.set_cons_succ, List.getElem_toArray, List.getElem_cons_succ, List.getElem_cons_zero]
    refine wpAnyT_loadW (i := 9) (v := ?_) rfl (by kernel_rfl) (by kernel_rfl) (by kernel_rfl) (by kernel_rfl) (by kernel_rfl) (fun _ _ _ h => h) (Or.inl ⟨by rfl, ?_⟩) hSss11 ?_
    rotate_left
    · intro w hSw; obtain ⟨e0, e1, e2, e3, e4, e5, -⟩ := hSw; go_simp; try with_reducible rfl
    simp only [Act.put, List.setIfInBounds_toArray, List.set_cons_zero, List.set_cons_succ, List.getElem_toArray, List.getElem_cons_succ, List.getElem_cons_zero]
    refine wpAnyT_pure (i := 10) (v := ?_) rfl (by kernel_rfl) (by kernel_rfl) (by kernel_rfl) (fun _ _ _ h => h) (by rfl) ?_ ?_
    rotate_left
    · intro w; go_simp; try with_reducible rfl
    simp only [Act.put, List.setIfInBounds_toArray, List.set_cons_zero, List.set_cons_succ, List.getElem_toArray, List.getElem_cons_succ, List.getElem_cons_zero]
    refine wpAnyT_one (i := 11) (by kernel_rfl) rfl (by rfl) ?_
    obtain ⟨b9, hb9⟩ : ∃ b, s11.heap.size = b := ⟨_, rfl⟩
    have hz9 := (Nat.le_trans (hB_0_s11).size (hB_s11_s11).size)
    rw [hb9] at hz9
    refine wp_newrow (v := .pointer (some ⟨b9, 0, none⟩)) (cs := #[.int .i64 (endV (findF l ⟨c1, c2, c3, c4⟩) sum), .slice ra rl rc, .bool true, .bool false]) (te := 73) (by rw [← hb9]; go_simp) ?_
    intro w112 hX hN9
    rw [hb9] at hN9
    have hB_s11_w112 := below_step hB_s11_s11 hX
    have hB_w112_w112 := Below.refl w112.heap.size w112
    have hSsw112 := Cells.below hB_s11_w112 hSss11
    clear hX
    refine ⟨fun _ _ => hSsw112, ?_⟩
    try simp only [Act.put, List.setIfInBounds_toArray, List.set_cons_zero, List.set_cons_succ, List.getElem_toArray, List.getElem_cons_succ, List.getElem_cons_zero]
    refine wpAnyT_one (i := 12) (by kernel_rfl) rfl (by rfl) ?_
    have hq9 := ((hB_w112_w112).block _ (blk_lt hN9)).trans hN9
    have hbP : Below w8.heap.size w8 w112 := hB_0_s11.trans ((hB_s11_w112).mono (hB_0_s11).size)
    have EP := E8.out.below hbP
    have hF90 : (F7 : Nat → Nat) b9 = 0 := by
      by_cases e : F7 b9 = 0
      · exact e
      · exact absurd (E8.out.m.dom b9 e) (by omega)
    obtain ⟨w113, F9, hset, hM9, hG9, hF9⟩ := EP.m.keep (by have := HMO.out; show (if (z5.kept _).isSome then z5.n - 1 else z5.n) ≤ most; split <;> omega) ⟨c1, c2, c3, c4⟩ HC.out ⟨endV (findF l ⟨c1, c2, c3, c4⟩) sum, fr, true, false⟩ (wf_endV _ _) b9 hF90 (.slice ra rl rc) ra rl rc rfl hq9 (HFO.out.below hbP) (fun b hb => ⟨(E8.out.hp b (HFB.out b hb).1).2.1, fun e => by have := (E8.out.hp b (HFB.out b hb).1).1; omega⟩)
    unfold C4.v at hset
    simp only at hset
    refine wp_mapset1 64 (.tmp 63) (.tmp 64) (.tmp 71) rfl (by kernel_rfl) (by kernel_rfl) (by kernel_rfl) hset ?_
    clear hset
    refine ⟨fun h => absurd h (by decide), ?_⟩
    try simp only [Act.put, List.setIfInBounds_toArray, List.set_cons_zero, List.set_cons_succ, List.getElem_toArray, List.getElem_cons_succ, List.getElem_cons_zero]
    refine wpAnyT_done (by kernel_rfl) ?_ _
    go_wp2_with fail
    refine bodyPost_ret (results_tmp2 rfl _ _ _) rfl ?_
    refine ⟨rfl, F9, _, _, _, hM9, fun b hb => (hF9 b ?_ ?_).trans (E8.out.old b hb), EP.gr.trans hG9 (fun x hx => ?_), fun d hd => ?_⟩
    · intro e
      have := E8.out.gr.size
      omega
    · intro e
      have := (E8.out.hp b (HFB.out b e).1).2.2.1
      omega
    · by_cases h5 : x < w.heap.size
      · exact .inl (by have e := EP.old x h5; unfold Mem at hx ⊢; rw [← e]; exact hx)
      · exact .inr (Nat.le_of_not_lt h5)
    · show upd _ _ _ d = _
      unfold upd
      rw [if_neg hd.2]
      exact E8.out.ke d hd
  · obtain ⟨rfl, rfl⟩ : (0, 7) = r ∧ z5.drop ⟨c1, c2, c3, c4⟩ = s' := by have := HG.out; simpa using this
    go_wp2_with fail
    refine bodyPost_ret (results_tmp2 rfl _ _ _) rfl ?_
    exact ⟨rfl, _, _, _, _, E8.out.m, E8.out.old, E8.out.gr, E8.out.ke⟩
/-- All of them, for every fuel. -/
theorem all48 (l : List Fm) (SB : Nat → Prop) (sp p kb pb : Nat) : ∀ n, GetC l SB sp p kb pb n ∧ EvalC l SB sp p kb pb n := by
  intro n
  induction n using Nat.strongRecOn with
  | ind n ih =>
    cases n with
    | zero => exact ⟨fun _ _ _ _ _ _ _ _ _ _ _ _ _ _ _ h => by simp [getM] at h, fun _ _ _ _ _ _ _ _ _ _ _ _ _ _ _ h => by simp [evalM] at h⟩
    | succ n =>
      have hG : ∀ m, m < n → GetC l SB sp p kb pb m := fun m hm => (ih m (by omega)).1
      exact ⟨get_step l SB sp p kb pb n (same_step l SB sp p kb pb n hG) (ih n (by omega)).2, eval_step l SB sp p kb pb n (sheet_step l SB sp p kb pb n (fun m hm => get_frame l SB sp p kb pb m (hG m hm)))⟩
theorem get48 (l : List Fm) (SB : Nat → Prop) (sp p kb pb n : Nat) : GetC l SB sp p kb pb n := (all48 l SB sp p kb pb n).1
end Go.Proofs.Ytmmeieangbcfaaa
