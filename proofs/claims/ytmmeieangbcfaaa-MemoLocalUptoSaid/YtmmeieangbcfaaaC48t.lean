/- Layer 48: the law's Eval. -/
import Derived.Test.YtmmeieangbcfaaaC48s
set_option linter.unusedSimpArgs false
namespace Go.Proofs.Ytmmeieangbcfaaa
open Go.RowKit Go

/-- While an evaluation goes on: what has turned since w2. -/
def LoopF (F : Nat → Nat) (P : Nat → Prop) (w2 : World) (p sp : Nat) (st : List (Option Nat)) (fb kb pb : Nat) (prog : C4 → Bool) (eb : C4 → Option Nat) (F1 : Nat → Nat) (P1 : Nat → Prop) (sv1 cv1 : Value) (eb1 : C4 → Option Nat) (s1 : MS) (f1 : Fr1) (wr : World) : Prop :=
  MemoIn F1 wr p (sheetV sp) s1 (st ++ [some fb]) kb pb sv1 cv1 eb1 ∧ FrAt P1 wr fb f1 ∧ (∀ b, P1 b → (P b ∨ w2.heap.size ≤ b) ∧ b < wr.heap.size ∧ F1 b = 0) ∧ (∀ b, b < w2.heap.size → F1 b = F b) ∧ Gr (fun b => Mem F b ∨ P b) w2 wr ∧ s1.prog = prog ∧ ∀ d, prog d = true → eb1 d = eb d
theorem LoopF.below {F : Nat → Nat} {P : Nat → Prop} {w2 : World} {p sp : Nat} {st : List (Option Nat)} {fb kb pb : Nat} {prog : C4 → Bool} {eb : C4 → Option Nat} {F1 : Nat → Nat} {P1 : Nat → Prop} {sv1 cv1 : Value} {eb1 : C4 → Option Nat} {s1 : MS} {f1 : Fr1} {wr w' : World}
    (h : LoopF F P w2 p sp st fb kb pb prog eb F1 P1 sv1 cv1 eb1 s1 f1 wr) (hB : Below wr.heap.size wr w') : LoopF F P w2 p sp st fb kb pb prog eb F1 P1 sv1 cv1 eb1 s1 f1 w' := by
  obtain ⟨h1, h2, h3, h4, h5, h6, h7⟩ := h
  exact ⟨h1.below hB, h2.gr (Gr.of_below (F := fun _ => False) hB) (fun _ _ h => h), fun b hb => ⟨(h3 b hb).1, Nat.lt_of_lt_of_le (h3 b hb).2.1 hB.size, (h3 b hb).2.2⟩, h4, h5.step hB, h6, h7⟩
theorem LoopF.left {F : Nat → Nat} {P : Nat → Prop} {w w2 : World} {p sp : Nat} {st : List (Option Nat)} {fb kb pb : Nat} {s : MS} {eb : C4 → Option Nat} {F1 : Nat → Nat} {P1 : Nat → Prop} {sv1 cv1 : Value} {eb1 : C4 → Option Nat} {s1 : MS} {f1 : Fr1} {wr : World} {out : Value}
    (h : LoopF F P w2 p sp st fb kb pb s.prog eb F1 P1 sv1 cv1 eb1 s1 f1 wr) (hB : Below w.heap.size w w2) : LeftF F P w p sp st fb kb pb s1 eb (fun d => s.prog d = true) f1 out (.returned out) wr := by
  obtain ⟨h1, h2, h3, h4, h5, h6, h7⟩ := h
  refine ⟨rfl, F1, sv1, cv1, eb1, P1, h1, fun b hb => h4 b (Nat.lt_of_lt_of_le hb hB.size), (Gr.of_below hB).trans h5 (fun _ h => .inl h), h7, h2, fun b hb => ⟨?_, (h3 b hb).2⟩⟩
  have := hB.size
  exact (h3 b hb).1.elim .inl (fun h => .inr (by omega))
theorem LoopF.call {F : Nat → Nat} {P : Nat → Prop} {w2 : World} {p sp : Nat} {st : List (Option Nat)} {fb kb pb : Nat} {prog : C4 → Bool} {eb : C4 → Option Nat} {F1 : Nat → Nat} {P1 : Nat → Prop} {sv1 cv1 : Value} {eb1 : C4 → Option Nat} {s1 s2 : MS} {f1 f2 : Fr1} {wr w9 : World}
    (h : LoopF F P w2 p sp st fb kb pb prog eb F1 P1 sv1 cv1 eb1 s1 f1 wr) (hpr : s2.prog = s1.prog) {F9 : Nat → Nat} {sv9 cv9 : Value} {eb9 : C4 → Option Nat} {P9 : Nat → Prop}
    (k1 : MemoIn F9 w9 p (sheetV sp) s2 (st ++ [some fb]) kb pb sv9 cv9 eb9) (k2 : ∀ b, b < wr.heap.size → F9 b = F1 b) (k3 : Gr (fun b => Mem F1 b ∨ P1 b) wr w9) (k4 : ∀ d, s1.prog d = true → eb9 d = eb1 d) (k5 : FrAt P9 w9 fb f2) (k6 : ∀ b, P9 b → (P1 b ∨ wr.heap.size ≤ b) ∧ b < w9.heap.size ∧ F9 b = 0) :
    LoopF F P w2 p sp st fb kb pb prog eb F9 P9 sv9 cv9 eb9 s2 f2 w9 := by
  obtain ⟨h1, h2, h3, h4, h5, h6, h7⟩ := h
  refine ⟨k1, k5, fun b hb => ⟨?_, (k6 b hb).2⟩, fun b hb => (k2 b (Nat.lt_of_lt_of_le hb h5.size)).trans (h4 b hb), h5.trans k3 (fun x hx => ?_), hpr.trans h6, fun d hd => (k4 d (by rw [h6]; exact hd)).trans (h7 d hd)⟩
  · rcases (k6 b hb).1 with h | h
    · exact (h3 b h).1
    · exact .inr (Nat.le_trans h5.size h)
  · by_cases hx2 : x < w2.heap.size
    · rcases hx with hx | hx
      · exact .inl (.inl (by have e := h4 x hx2; unfold Mem at hx ⊢; rw [← e]; exact hx))
      · rcases (h3 x hx).1 with h | h
        · exact .inl (.inr h)
        · omega
    · exact .inr (Nat.le_of_not_lt hx2)
def EvalS (l : List Fm) (SB : Nat → Prop) (sp p kb pb n : Nat) : Prop :=
  ∀ F w s st sv cv eb c sum f s' fb P, MemoIn F w p (sheetV sp) s (st ++ [some fb]) kb pb sv cv eb → st.length + 1 + n ≤ most → SheetAt SB w sp l → (∀ b, SB b ∨ b = sp → b < w.heap.size ∧ F b = 0 ∧ ¬ P b) → c.ok → FrAt P w fb ⟨[], false⟩ → (∀ b, P b → b < w.heap.size ∧ F b = 0) → termsM l n s (findF l c) 0 (findF l c).terms 0 ⟨[], false⟩ = some (sum, f, s') →
    Calls Try.prog 45 #[.pointer (some ⟨sp, 0, none⟩), .pointer (some ⟨p, 0, none⟩), c.v] w (LeftF F P w p sp st fb kb pb s' eb (fun d => s.prog d = true) f (.int .i64 (endV (findF l c) sum)))
set_option maxRecDepth 20000 in
set_option maxHeartbeats 1000000 in
theorem sheet_step (l : List Fm) (SB : Nat → Prop) (sp p kb pb n : Nat) (hG : ∀ m, m < n → GetF l SB sp p kb pb m) : EvalS l SB sp p kb pb n := by
  intro F w s st sv cv eb c sum f s' fb P h hn hsh hs hc hfr hP hg
  have hB1 : Below w.heap.size w (w.alloc (.cells #[.int .i64 c.st, .int .i64 c.en, .int .i64 c.ot, .int .i64 c.pe] 26)) := (Below.refl _ w).alloc (Nat.le_refl _) _
  have hcb := heap_alloc_new w (.cells #[.int .i64 c.st, .int .i64 c.en, .int .i64 c.ot, .int .i64 c.pe] 26)
  obtain ⟨fo, hfo⟩ : ∃ f, findF l c = f := ⟨_, rfl⟩
  rw [hfo] at hg ⊢
  have H := Lib.hid h
  have HFO := Lib.hid hfo
  have HS := Lib.hid hs
  have HC := Lib.hid hc
  have HFR := Lib.hid hfr
  have HP := Lib.hid hP
  have HG := Lib.hid hg
  have HGF := Lib.hid hG
  have HN := Lib.hid hn
  have HB1 := Lib.hid hB1
  have HCB := Lib.hid hcb
  obtain ⟨sa, sl, sc, xs, hs1, hs2, rfl⟩ := hsh
  have HXS := Lib.hid hs2
  have HSP := Lib.hid hs1
  have hs1' := (hB1.block _ (blk_lt hs1)).trans hs1
  clear h hs hc hfr hP hg hG hn hs1 hs2 hfo
  obtain ⟨c1, c2, c3, c4⟩ := c
  obtain ⟨⟨d1, d2, d3, d4⟩, ft, fa, fmd, fs⟩ := fo
  unfold C4.v at *
  simp only at *
  go_enter Try.func45, Try.ntmps45
  go_wp2_with fail
  generalize w.alloc (.cells #[.int .i64 c1, .int .i64 c2, .int .i64 c3, .int .i64 c4] 26) = w1 at *
  have hC1 : Cells [(⟨sp, 0, none⟩, .slice sa sl sc), (⟨w.heap.size, 0, none⟩, .int .i64 c1), (⟨w.heap.size, 1, none⟩, .int .i64 c2), (⟨w.heap.size, 2, none⟩, .int .i64 c3), (⟨w.heap.size, 3, none⟩, .int .i64 c4)] w1 := ⟨blk_cell hs1' 0, blk_cell HCB.out 0, blk_cell HCB.out 1, blk_cell HCB.out 2, blk_cell HCB.out 3, trivial⟩
  clear hs1'
  refine wp_cut [13, 14, 15, 16, 17, 18, 7] (fun vs w' => ∃ v13 v14 v15 v16 v17 v18 b7 ta tl tc, vs = [v13, v14, v15, v16, v17, v18, .pointer (some ⟨b7, 0, none⟩)] ∧ Below w1.heap.size w1 w' ∧ w1.heap.size ≤ b7 ∧ w'.heap[b7]? = some (.cells #[.int .i64 d1, .int .i64 d2, .int .i64 d3, .int .i64 d4, .slice ta tl tc, .int .i16 fa, .int .u8 fmd, .int .i8 fs] 41 (0, 0)) ∧ FormV SB w' (.agg #[.int .i64 d1, .int .i64 d2, .int .i64 d3, .int .i64 d4, .slice ta tl tc, .int .i16 fa, .int .u8 fmd, .int .i8 fs]) ⟨⟨d1, d2, d3, d4⟩, ft, fa, fmd, fs⟩) ?_ ?_
  · skip
    refine wp_region_T (Cells [(⟨sp, 0, none⟩, .slice sa sl sc), (⟨w.heap.size, 0, none⟩, .int .i64 c1), (⟨w.heap.size, 1, none⟩, .int .i64 c2), (⟨w.heap.size, 2, none⟩, .int .i64 c3), (⟨w.heap.size, 3, none⟩, .int .i64 c4)]) (fun i => i == 7) (by kernel_rfl) ?_
    have hSss1 := Cells.drew hC1
    have hB_0_s1 : Below w1.heap.size w1 w1.drew := below_drew _
    generalize w1.drew = s1 at hSss1 hB_0_s1 ⊢
    have hB_s1_s1 := Below.refl s1.heap.size s1
    refine wpAnyT_pure (i := 0) (v := ?_) rfl (by kernel_rfl) (by kernel_rfl) (by kernel_rfl) (fun _ _ _ h => h) (by rfl) ?_ ?_
    rotate_left
    · intro w; go_simp; try with_reducible rfl
    simp only [Act.put, List.setIfInBounds_toArray, List.set_cons_zero, List.set_cons_succ, List.getElem_toArray, List.getElem_cons_succ, List.getElem_cons_zero]
    refine wpAnyT_pure (i := 1) (v := ?_) rfl (by kernel_rfl) (by kernel_rfl) (by kernel_rfl) (fun _ _ _ h => h) (by rfl) ?_ ?_
    rotate_left
    · intro w; go_simp; try with_reducible rfl
    simp only [Act.put, List.setIfInBounds_toArray, List.set_cons_zero, List.set_cons_succ, List.getElem_toArray, List.getElem_cons_succ, List.getElem_cons_zero]
    refine wpAnyT_pure (i := 2) (v := ?_) rfl (by kernel_rfl) (by kernel_rfl) (by kernel_rfl) (fun _ _ _ h => h) (by rfl) ?_ ?_
    rotate_left
    · intro w; go_simp; try with_reducible rfl
    simp only [Act.put, List.setIfInBounds_toArray, List.set_cons_zero, List.set_cons_succ, List.getElem_toArray, List.getElem_cons_succ, List.getElem_cons_zero]
    refine wpAnyT_loadW (i := 3) (v := ?_) rfl (by kernel_rfl) (by kernel_rfl) (by kernel_rfl) (by kernel_rfl) (by kernel_rfl) (fun _ _ _ h => h) (Or.inl ⟨by rfl, ?_⟩) hSss1 ?_
    rotate_left
    · intro w hSw; obtain ⟨e0, e1, e2, e3, e4, -⟩ := hSw; go_simp; try with_reducible rfl
    simp only [Act.put, List.setIfInBounds_toArray, List.set_cons_zero, List.set_cons_succ, List.getElem_toArray, List.getElem_cons_succ, List.getElem_cons_zero]
    refine wpAnyT_loadW (i := 4) (v := ?_) rfl (by kernel_rfl) (by kernel_rfl) (by kernel_rfl) (by kernel_rfl) (by kernel_rfl) (fun _ _ _ h => h) (Or.inl ⟨by rfl, ?_⟩) hSss1 ?_
    rotate_left
    · intro w hSw; obtain ⟨e0, e1, e2, e3, e4, -⟩ := hSw; go_simp; try with_reducible rfl
    simp only [Act.put, List.setIfInBounds_toArray, List.set_cons_zero, List.set_cons_succ, List.getElem_toArray, List.getElem_cons_succ, List.getElem_cons_zero]
    refine wpAnyT_two (i := 5) (k := 6) (by kernel_rfl) rfl rfl (by rfl) (by rfl) ?_ ?_
    · skip
      have hb0 : Below w.heap.size w s1 := below_step HB1.out (hB_0_s1.trans ((hB_s1_s1).mono (hB_0_s1).size))
      refine wp_enter (f := 23) (args := #[.slice sa sl sc, .agg #[.int .i64 c1, .int .i64 c2, .int .i64 c3, .int .i64 c4]]) (by go_simp) (find48 (S := SB) _ sa sl sc xs (HXS.out.below hb0 (fun b hb => (HS.out b (.inl hb)).1)) (fun b hb => Nat.lt_of_lt_of_le (HS.out b (.inl hb)).1 hb0.size) ⟨c1, c2, c3, c4⟩ HC.out) ?_
      rintro e w102 ⟨v5, rfl, hv5, hX⟩
      rw [HFO.out] at hv5
      have hsb5 : ∀ b, SB b → b < w102.heap.size := fun b hb => Nat.lt_of_lt_of_le (HS.out b (.inl hb)).1 (Nat.le_trans hb0.size hX.size)
      try replace r6 := (hX.block _ (blk_lt r6)).trans r6
      have HV5 := Lib.hid hv5
      have HSB5 := Lib.hid hsb5
      obtain ⟨ta, tl, tc, ts, rfl, -⟩ := hv5
      clear hb0 hsb5
      have hB_s1_w102 := below_step hB_s1_s1 hX
      have hB_w102_w102 := Below.refl w102.heap.size w102
      have hSsw102 := Cells.below hB_s1_w102 hSss1
      clear hX
      refine ⟨_, rfl, fun _ _ => hSsw102, ?_⟩
      try simp only [Act.put, List.setIfInBounds_toArray, List.set_cons_zero, List.set_cons_succ, List.getElem_toArray, List.getElem_cons_succ, List.getElem_cons_zero]
      refine wpAnyT_one (i := 6) (by kernel_rfl) rfl (by rfl) ?_
      obtain ⟨b6, hb6⟩ : ∃ b, w102.heap.size = b := ⟨_, rfl⟩
      have hge6 : s1.heap.size ≤ b6 := hb6 ▸ (hB_s1_w102).size
      refine wp_newrow (v := .pointer (some ⟨b6, 0, none⟩)) (cs := #[.int .i64 0, .int .i64 0, .int .i64 0, .int .i64 0, .slice none 0 0, .int .i16 0, .int .u8 0, .int .i8 0]) (te := 41) (by rw [← hb6]; go_simp) ?_
      intro w103 hX r6
      rw [hb6] at r6
      have hB_s1_w103 := below_step hB_s1_w102 hX
      have hB_w102_w103 := below_step hB_w102_w102 hX
      have hB_w103_w103 := Below.refl w103.heap.size w103
      have hSsw103 := Cells.below hB_s1_w103 hSss1
      clear hX
      refine ⟨fun _ _ => hSsw103, ?_⟩
      try simp only [Act.put, List.setIfInBounds_toArray, List.set_cons_zero, List.set_cons_succ, List.getElem_toArray, List.getElem_cons_succ, List.getElem_cons_zero]
      refine wpAnyT_one (i := 7) (by kernel_rfl) rfl (by rfl) ?_
      have hV7 := HV5.out.gr (Gr.of_below (F := fun _ => False) hB_w102_w103) (fun b hb => ⟨HSB5.out b hb, fun h => h⟩)
      have hr7 : (w103).heap[b6]? = some (.cells #[.int .i64 0, .int .i64 0, .int .i64 0, .int .i64 0, .slice none 0 0, .int .i16 0, .int .u8 0, .int .i8 0] 41 (0, 0)) := by first | exact r6 | exact ((hB_w103_w103).block _ (blk_lt r6)).trans r6
      refine wp_store_row 41 (.tmp 7) (.tmp 18) rfl b6 #[.int .i64 d1, .int .i64 d2, .int .i64 d3, .int .i64 d4, .slice ta tl tc, .int .i16 fa, .int .u8 fmd, .int .i8 fs] (by kernel_rfl) (by kernel_rfl) 41 _ hr7 (by kernel_rfl) (by rfl) (by simp [Value.oneCell']) ?_
      have hblk := setRow_heap (w103) b6 _ #[.int .i64 d1, .int .i64 d2, .int .i64 d3, .int .i64 d4, .slice ta tl tc, .int .i16 fa, .int .u8 fmd, .int .i8 fs] _ _ hr7
      have hX := below_setRow (hB_s1_w103) hge6 #[.int .i64 d1, .int .i64 d2, .int .i64 d3, .int .i64 d4, .slice ta tl tc, .int .i16 fa, .int .u8 fmd, .int .i8 fs]
      have hV8 := hV7.gr (gr_setRow (w103) b6 #[.int .i64 d1, .int .i64 d2, .int .i64 d3, .int .i64 d4, .slice ta tl tc, .int .i16 fa, .int .u8 fmd, .int .i8 fs]) (fun b hb => ⟨Nat.lt_of_lt_of_le (HSB5.out b hb) (hB_w102_w103).size, fun e => by have h1 := (HS.out b (.inl hb)).1; have h2 := HB1.out.size; have h3 := (hB_0_s1).size; omega⟩)
      generalize (w103).setRow b6 #[.int .i64 d1, .int .i64 d2, .int .i64 d3, .int .i64 d4, .slice ta tl tc, .int .i16 fa, .int .u8 fmd, .int .i8 fs] = w104 at hblk hX hV8 ⊢
      refine ⟨fun h => absurd h (by decide), ?_⟩
      try simp only [Act.put, List.setIfInBounds_toArray, List.set_cons_zero, List.set_cons_succ, List.getElem_toArray, List.getElem_cons_succ, List.getElem_cons_zero]
      refine wpAnyT_done (by kernel_rfl) ?_ _
      refine cut_leaf ?_ ?_
      focus kernel_rfl
      exact ⟨_, _, _, _, _, _, b6, ta, tl, tc, rfl, hB_0_s1.trans (hX.mono hB_0_s1.size), Nat.le_trans hB_0_s1.size hge6, hblk, hV8⟩
    · skip
      obtain ⟨b6, hb6⟩ : ∃ b, s1.heap.size = b := ⟨_, rfl⟩
      have hge6 : s1.heap.size ≤ b6 := hb6 ▸ (hB_s1_s1).size
      refine wp_newrow (v := .pointer (some ⟨b6, 0, none⟩)) (cs := #[.int .i64 0, .int .i64 0, .int .i64 0, .int .i64 0, .slice none 0 0, .int .i16 0, .int .u8 0, .int .i8 0]) (te := 41) (by rw [← hb6]; go_simp) ?_
      intro w105 hX r6
      rw [hb6] at r6
      have hB_s1_w105 := below_step hB_s1_s1 hX
      have hB_w105_w105 := Below.refl w105.heap.size w105
      have hSsw105 := Cells.below hB_s1_w105 hSss1
      clear hX
      refine ⟨fun _ _ => hSsw105, ?_⟩
      try simp only [Act.put, List.setIfInBounds_toArray, List.set_cons_zero, List.set_cons_succ, List.getElem_toArray, List.getElem_cons_succ, List.getElem_cons_zero]
      refine wpAnyT_one (i := 5) (by kernel_rfl) rfl (by rfl) ?_
      have hb0 : Below w.heap.size w w105 := below_step HB1.out (hB_0_s1.trans ((hB_s1_w105).mono (hB_0_s1).size))
      refine wp_enter (f := 23) (args := #[.slice sa sl sc, .agg #[.int .i64 c1, .int .i64 c2, .int .i64 c3, .int .i64 c4]]) (by go_simp) (find48 (S := SB) _ sa sl sc xs (HXS.out.below hb0 (fun b hb => (HS.out b (.inl hb)).1)) (fun b hb => Nat.lt_of_lt_of_le (HS.out b (.inl hb)).1 hb0.size) ⟨c1, c2, c3, c4⟩ HC.out) ?_
      rintro e w106 ⟨v5, rfl, hv5, hX⟩
      rw [HFO.out] at hv5
      have hsb5 : ∀ b, SB b → b < w106.heap.size := fun b hb => Nat.lt_of_lt_of_le (HS.out b (.inl hb)).1 (Nat.le_trans hb0.size hX.size)
      try replace r6 := (hX.block _ (blk_lt r6)).trans r6
      have HV5 := Lib.hid hv5
      have HSB5 := Lib.hid hsb5
      obtain ⟨ta, tl, tc, ts, rfl, -⟩ := hv5
      clear hb0 hsb5
      have hB_s1_w106 := below_step hB_s1_w105 hX
      have hB_w105_w106 := below_step hB_w105_w105 hX
      have hB_w106_w106 := Below.refl w106.heap.size w106
      have hSsw106 := Cells.below hB_s1_w106 hSss1
      clear hX
      refine ⟨_, rfl, fun _ _ => hSsw106, ?_⟩
      try simp only [Act.put, List.setIfInBounds_toArray, List.set_cons_zero, List.set_cons_succ, List.getElem_toArray, List.getElem_cons_succ, List.getElem_cons_zero]
      refine wpAnyT_one (i := 7) (by kernel_rfl) rfl (by rfl) ?_
      have hV7 := HV5.out.gr (Gr.of_below (F := fun _ => False) hB_w106_w106) (fun b hb => ⟨HSB5.out b hb, fun h => h⟩)
      have hr7 : (w106).heap[b6]? = some (.cells #[.int .i64 0, .int .i64 0, .int .i64 0, .int .i64 0, .slice none 0 0, .int .i16 0, .int .u8 0, .int .i8 0] 41 (0, 0)) := by first | exact r6 | exact ((hB_w105_w106).block _ (blk_lt r6)).trans r6
      refine wp_store_row 41 (.tmp 7) (.tmp 18) rfl b6 #[.int .i64 d1, .int .i64 d2, .int .i64 d3, .int .i64 d4, .slice ta tl tc, .int .i16 fa, .int .u8 fmd, .int .i8 fs] (by kernel_rfl) (by kernel_rfl) 41 _ hr7 (by kernel_rfl) (by rfl) (by simp [Value.oneCell']) ?_
      have hblk := setRow_heap (w106) b6 _ #[.int .i64 d1, .int .i64 d2, .int .i64 d3, .int .i64 d4, .slice ta tl tc, .int .i16 fa, .int .u8 fmd, .int .i8 fs] _ _ hr7
      have hX := below_setRow (hB_s1_w106) hge6 #[.int .i64 d1, .int .i64 d2, .int .i64 d3, .int .i64 d4, .slice ta tl tc, .int .i16 fa, .int .u8 fmd, .int .i8 fs]
      have hV8 := hV7.gr (gr_setRow (w106) b6 #[.int .i64 d1, .int .i64 d2, .int .i64 d3, .int .i64 d4, .slice ta tl tc, .int .i16 fa, .int .u8 fmd, .int .i8 fs]) (fun b hb => ⟨Nat.lt_of_lt_of_le (HSB5.out b hb) (hB_w106_w106).size, fun e => by have h1 := (HS.out b (.inl hb)).1; have h2 := HB1.out.size; have h3 := (hB_0_s1).size; omega⟩)
      generalize (w106).setRow b6 #[.int .i64 d1, .int .i64 d2, .int .i64 d3, .int .i64 d4, .slice ta tl tc, .int .i16 fa, .int .u8 fmd, .int .i8 fs] = w107 at hblk hX hV8 ⊢
      refine ⟨fun h => absurd h (by decide), ?_⟩
      try simp only [Act.put, List.setIfInBounds_toArray, List.set_cons_zero, List.set_cons_succ, List.getElem_toArray, List.getElem_cons_succ, List.getElem_cons_zero]
      refine wpAnyT_done (by kernel_rfl) ?_ _
      refine cut_leaf ?_ ?_
      focus kernel_rfl
      exact ⟨_, _, _, _, _, _, b6, ta, tl, tc, rfl, hB_0_s1.trans (hX.mono hB_0_s1.size), Nat.le_trans hB_0_s1.size hge6, hblk, hV8⟩
  rintro vs w2 ⟨v13, v14, v15, v16, v17, v18, b7, ta, tl, tc, rfl, hB12, hb7, hr7, hV⟩
  simp only [puts, Act.put, List.setIfInBounds_toArray, List.set_cons_zero, List.set_cons_succ]
  obtain ⟨ta', tl', tc', ts, he, hT, ht, -, -⟩ := id hV
  simp only [Value.agg.injEq, Array.mk.injEq, List.cons.injEq, Value.slice.injEq, and_true, true_and] at he
  obtain ⟨rfl, rfl, rfl⟩ := he
  simp only at ht
  subst ht
  have hBw := below_step HB1.out hB12
  have HR7 := Lib.hid hr7
  have HV := Lib.hid hV
  have HT := Lib.hid hT
  have HB7 := Lib.hid hb7
  have HBW := Lib.hid hBw
  have HFW := Lib.hid (HFR.out.gr (Gr.of_below (F := fun _ => False) hBw) (fun _ _ h => h))
  have HM2 := Lib.hid (H.out.below hBw)
  have HLT7 := Lib.hid (show w.heap.size ≤ b7 from Nat.le_trans HB1.out.size hb7)
  clear hB12 hb7 hr7 hV hT hBw hC1
  have hF0 : F b7 = 0 := by
    by_cases e : F b7 = 0
    · exact e
    · exact absurd (H.out.dom _ e) (by have := HLT7.out; omega)
  have hP0 : ¬ P b7 := fun e => by have := (HP.out b7 e).1; have := HLT7.out; omega
  have HF0 := Lib.hid hF0
  have HP0 := Lib.hid hP0
  clear hF0 hP0
  go_wp2_with fail
  go_loopw [8, 9] (fun sm i wr => ∃ (k m : Nat) (s1 : MS) (F1 : Nat → Nat) (P1 : Nat → Prop) (sv1 cv1 : Value) (eb1 : C4 → Option Nat) (sum1 : Int) (f1 : Fr1), k ≤ tl ∧ m ≤ n ∧ i = .int .i64 k ∧ sm = .int .i64 sum1 ∧ termsM (xs.map Go.Proofs.Ytmmeieangbcfaaa.fm) m s1 ⟨⟨d1, d2, d3, d4⟩, ts.map tm, fa, fmd, fs⟩ k ((ts.map tm).drop k) sum1 f1 = some (sum, f, s') ∧ LoopF F P w2 p sp st fb kb pb s.prog eb F1 P1 sv1 cv1 eb1 s1 f1 wr) (fun _ i _ => tl - (intOf i).toNat)
  case atStart => exact ⟨0, n, s, F, P, _, _, _, 0, ⟨[], false⟩, Nat.zero_le _, Nat.le_refl _, rfl, rfl, HG.out, HM2.out, HFW.out, fun b hb => ⟨.inl hb, Nat.lt_of_lt_of_le (HP.out b hb).1 HBW.out.size, (HP.out b hb).2⟩, fun _ _ => rfl, Gr.refl _ _, rfl, fun _ _ => rfl⟩
  case round =>
    obtain ⟨k, m, s1, F1, P1, sv1, cv1, eb1, sum1, f1, hk, hm, rfl, rfl, ht, hL⟩ := hrel
    have hlen : ts.length = tl := HT.out.sl_flat.1
    have hlb : tl ≤ 9223372036854775807 := by obtain ⟨-, e1, e2, -⟩ := HT.out.sl_flat; omega
    have hG2 : Gr (fun b => Mem F b ∨ P b) w2 wr := hL.2.2.2.2.1
    have hsb : ∀ b, SB b → b < w2.heap.size ∧ ¬ (Mem F b ∨ P b) := fun b hb => ⟨Nat.lt_of_lt_of_le (HS.out b (.inl hb)).1 HBW.out.size, fun e => e.elim (fun e => e.1 (HS.out b (.inl hb)).2.1) (HS.out b (.inl hb)).2.2⟩
    have hn7 : ¬ (Mem F b7 ∨ P b7) := fun e => e.elim (fun e => e.1 HF0.out) HP0.out
    have hr7 := blk_gr hG2 HR7.out hn7
    have hTr := HT.out.gr hG2 hsb (fun _ h => h)
    have x0 := blk_cell hr7 0
    have x1 := blk_cell hr7 1
    have x2 := blk_cell hr7 2
    have x3 := blk_cell hr7 3
    have x4 := blk_cell hr7 4
    have x5 := blk_cell hr7 5
    have x6 := blk_cell hr7 6
    have x7 := blk_cell hr7 7
    simp at x0 x1 x2 x3 x4 x5 x6 x7
    have HL := Lib.hid hL
    have HVR := Lib.hid (HV.out.gr hG2 hsb)
    have HR7r := Lib.hid hr7
    have HSBr := Lib.hid hsb
    have HN7 := Lib.hid (show ¬ (Mem F1 b7 ∨ P1 b7) from fun e => by
      have h1 := blk_lt HR7.out
      rcases e with e | e
      · exact e.1 ((HL.out.2.2.2.1 b7 h1).trans HF0.out)
      · rcases (HL.out.2.2.1 b7 e).1 with h | h
        · exact HP0.out h
        · omega)
    clear hL hr7 hn7
    by_cases hlt : k < tl
    · have hkx : k < ts.length := by omega
      have hkm : k < (ts.map tm).length := by rw [List.length_map]; exact hkx
      obtain ⟨b, off, rfl, hbS, m0, m1, m2, m3, m4, hqok, -⟩ := term_at hTr k hkx
      have hqk : (ts.map tm)[k] = tm ts[k] := List.getElem_map _
      rw [List.drop_eq_getElem_cons hkm, hqk] at ht
      cases m with
      | zero => exact absurd ht (by simp [termsM])
      | succ m =>
      generalize tm ts[k] = q at m0 m1 m2 m3 m4 hqok hqk ht
      have hkI : (k : Int) < (tl : Int) := by omega
      unfold termsM at ht
      obtain ⟨v, e, s2, hgm⟩ : ∃ v e s2, getM (xs.map Go.Proofs.Ytmmeieangbcfaaa.fm) m s1 q.1 = some ((v, e), s2) := by
        cases hgm : getM (xs.map Go.Proofs.Ytmmeieangbcfaaa.fm) m s1 q.1 with
        | none => simp [hgm] at ht
        | some y => exact ⟨y.1.1, y.1.2, y.2, rfl⟩
      simp only [hgm] at ht
      by_cases hmost : most ≤ f1.reads.length
      · rw [if_pos hmost] at ht; cases ht
      rw [if_neg hmost] at ht
      have hcall := HGF.out m (by omega) F1 wr s1 st sv1 cv1 eb1 q.1 (v, e) s2 fb f1 P1 HL.out.1 (by have := HN.out; omega) (SheetAt.gr (SB := SB) (w := w) ⟨sa, sl, sc, xs, HSP.out, HXS.out, rfl⟩ ((Gr.of_below (F := fun b => Mem F b ∨ P b) HBW.out).trans hG2 (fun _ h => .inl h)) (fun b hb => ⟨(HS.out b hb).1, fun e => e.elim (fun e => e.1 (HS.out b hb).2.1) (HS.out b hb).2.2⟩)) (fun b hb => ⟨Nat.lt_of_lt_of_le (HS.out b hb).1 (Nat.le_trans HBW.out.size hG2.size), (HL.out.2.2.2.1 b (Nat.lt_of_lt_of_le (HS.out b hb).1 HBW.out.size)).trans (HS.out b hb).2.1⟩) hqok (by omega) HL.out.2.1 (fun b hb => (HL.out.2.2.1 b hb).2) hgm
      have HKP := Lib.hid (((keepsM (xs.map Go.Proofs.Ytmmeieangbcfaaa.fm) m).1 _ _ _ _ hgm).1)
      have HCALL := Lib.hid hcall
      have HTT := Lib.hid ht
      have hnx := fun (W : World) (hV : FormV SB W (.agg #[.int .i64 d1, .int .i64 d2, .int .i64 d3, .int .i64 d4, .slice (some ⟨b, off, none⟩) tl tc, .int .i16 fa, .int .u8 fmd, .int .i8 fs]) ⟨⟨d1, d2, d3, d4⟩, ts.map tm, fa, fmd, fs⟩) (hS : ∀ b, SB b → b < W.heap.size) => next48 W _ _ hV hS k hkm sum1 v
      simp only [hqk] at hnx
      have HNX := Lib.hid hnx
      have HLT := Lib.hid hlt
      have HMN := Lib.hid (show m ≤ n by omega)
      have HQOK := Lib.hid hqok
      clear hcall ht hnx hqk hkm hlt hm hgm hG2 hsb hTr hlen hkx hmost hbS hqok
      obtain ⟨⟨q1, q2, q3, q4⟩, qf⟩ := q
      unfold C4.v at *
      simp only at *
      obtain ⟨sb, hst⟩ : ∃ sb, stopV ⟨⟨d1, d2, d3, d4⟩, ts.map tm, fa, fmd, fs⟩ k v = sb := ⟨_, rfl⟩
      rw [hst] at HTT HNX
      clear hst
      cases sb
      · have HT2 := Lib.hid (show termsM (xs.map Go.Proofs.Ytmmeieangbcfaaa.fm) m s2 ⟨⟨d1, d2, d3, d4⟩, ts.map tm, fa, fmd, fs⟩ (k + 1) ((ts.map tm).drop (k + 1)) (nextV qf sum1 v) (noteF f1 ⟨q1, q2, q3, q4⟩ v e) = some (sum, f, s') by have := HTT.out; simpa using this)
        clear HTT
        go_wp2_with (first | (go_at_call 46; refine (HN9.out).mono ?_; rintro e8 w8 ⟨rfl, hB8⟩; have hr8 := (hB8.block _ (blk_lt HR9.out)).trans HR9.out; have y0 := blk_cell hr8 0; have y1 := blk_cell hr8 1; have y2 := blk_cell hr8 2; have y3 := blk_cell hr8 3; have y4 := blk_cell hr8 4; have y5 := blk_cell hr8 5; have y6 := blk_cell hr8 6; have y7 := blk_cell hr8 7; simp at y0 y1 y2 y3 y4 y5 y6 y7; have HB8 := Lib.hid hB8; have HE8 := Lib.hid (end48 w8 _ _ (HV9.out.gr (Gr.of_below (F := fun _ => False) hB8) (fun b hb => ⟨Nat.lt_of_lt_of_le (HSBr.out b hb).1 HL9.out.2.2.2.2.1.size, fun h => h⟩)) (nextV qf sum1 v)); clear hB8 hr8) | (go_at_call 10; refine (HCALL.out).mono ?_; rintro e9 w9 ⟨rfl, F9, sv9, cv9, eb9, P9, hM9, hF9, hG9, hK9, hf9, hP9⟩; have HL9 := Lib.hid (HL.out.call HKP.out hM9 hF9 hG9 hK9 hf9 hP9); have HR9 := Lib.hid (blk_gr hG9 HR7r.out HN7.out); have z0 := blk_cell HR9.out 0; have z1 := blk_cell HR9.out 1; have z2 := blk_cell HR9.out 2; have z3 := blk_cell HR9.out 3; have z4 := blk_cell HR9.out 4; have z5 := blk_cell HR9.out 5; have z6 := blk_cell HR9.out 6; have z7 := blk_cell HR9.out 7; simp at z0 z1 z2 z3 z4 z5 z6 z7; have HV9 := Lib.hid (HV.out.gr HL9.out.2.2.2.2.1 HSBr.out); have HN9 := Lib.hid (HNX.out w9 HV9.out (fun b hb => Nat.lt_of_lt_of_le (HSBr.out b hb).1 HL9.out.2.2.2.2.1.size)); clear hM9 hF9 hG9 hK9 hf9 hP9))
        go_roundw
        case rel => exact ⟨k + 1, m, s2, F9, P9, sv9, cv9, eb9, _, _, HLT.out, HMN.out, by go_num, rfl, HT2.out, HL9.out.below HB8.out⟩
        case measure => simp [intOf]; try omega
      · obtain ⟨rfl, rfl, rfl⟩ : nextV qf sum1 v = sum ∧ noteF f1 ⟨q1, q2, q3, q4⟩ v e = f ∧ s2 = s' := by have := HTT.out; simpa using this
        clear HTT
        go_wp2_with (first | (go_at_call 47; refine (HE8.out).mono ?_; rintro e7 w7 ⟨rfl, hB7⟩; have HB7x := Lib.hid hB7; clear hB7) | (go_at_call 46; refine (HN9.out).mono ?_; rintro e8 w8 ⟨rfl, hB8⟩; have hr8 := (hB8.block _ (blk_lt HR9.out)).trans HR9.out; have y0 := blk_cell hr8 0; have y1 := blk_cell hr8 1; have y2 := blk_cell hr8 2; have y3 := blk_cell hr8 3; have y4 := blk_cell hr8 4; have y5 := blk_cell hr8 5; have y6 := blk_cell hr8 6; have y7 := blk_cell hr8 7; simp at y0 y1 y2 y3 y4 y5 y6 y7; have HB8 := Lib.hid hB8; have HE8 := Lib.hid (end48 w8 _ _ (HV9.out.gr (Gr.of_below (F := fun _ => False) hB8) (fun b hb => ⟨Nat.lt_of_lt_of_le (HSBr.out b hb).1 HL9.out.2.2.2.2.1.size, fun h => h⟩)) (nextV qf sum1 v)); clear hB8 hr8) | (go_at_call 10; refine (HCALL.out).mono ?_; rintro e9 w9 ⟨rfl, F9, sv9, cv9, eb9, P9, hM9, hF9, hG9, hK9, hf9, hP9⟩; have HL9 := Lib.hid (HL.out.call HKP.out hM9 hF9 hG9 hK9 hf9 hP9); have HR9 := Lib.hid (blk_gr hG9 HR7r.out HN7.out); have z0 := blk_cell HR9.out 0; have z1 := blk_cell HR9.out 1; have z2 := blk_cell HR9.out 2; have z3 := blk_cell HR9.out 3; have z4 := blk_cell HR9.out 4; have z5 := blk_cell HR9.out 5; have z6 := blk_cell HR9.out 6; have z7 := blk_cell HR9.out 7; simp at z0 z1 z2 z3 z4 z5 z6 z7; have HV9 := Lib.hid (HV.out.gr HL9.out.2.2.2.2.1 HSBr.out); have HN9 := Lib.hid (HNX.out w9 HV9.out (fun b hb => Nat.lt_of_lt_of_le (HSBr.out b hb).1 HL9.out.2.2.2.2.1.size)); clear hM9 hF9 hG9 hK9 hf9 hP9))
        go_ret
        exact (HL9.out.below (below_step HB8.out HB7x.out)).left HBW.out
    · obtain rfl : k = tl := by omega
      rw [List.drop_eq_nil_of_le (by rw [List.length_map]; omega)] at ht
      cases m with
      | zero => exact absurd ht (by simp [termsM])
      | succ m =>
      obtain ⟨rfl, rfl, rfl⟩ : sum1 = sum ∧ f1 = f ∧ s1 = s' := by simpa [termsM] using ht
      have HE8 := Lib.hid (end48 wr _ _ HVR.out sum1)
      clear ht hG2 hsb hTr hlen
      go_wp2_with (first | (go_at_call 47; refine (HE8.out).mono ?_; rintro e7 w7 ⟨rfl, hB7⟩; have HB7x := Lib.hid hB7; clear hB7) | fail)
      go_ret
      exact (HL.out.below HB7x.out).left HBW.out
end Go.Proofs.Ytmmeieangbcfaaa
