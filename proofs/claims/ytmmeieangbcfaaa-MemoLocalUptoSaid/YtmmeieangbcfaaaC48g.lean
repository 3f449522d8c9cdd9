/- Layer 48: note. -/
import Derived.Test.YtmmeieangbcfaaaC48f
set_option linter.unusedSimpArgs false
namespace Go.Proofs.Ytmmeieangbcfaaa
open Go.RowKit Go

/-- An evaluation in progress, in memory. -/
def FrAt (F : Nat → Prop) (w : World) (fb : Nat) (f : Fr1) : Prop :=
  F fb ∧ ∃ rv, w.heap[fb]? = some (.cells #[rv, .bool f.failed] 80 (0, 0)) ∧ Owns readT 77 0 (fun _ => False) w rv (rdsD f.reads) ∧ ∀ b, rv.ownBlock = some b → F b ∧ b ≠ fb
theorem FrAt.gr {F G : Nat → Prop} {w w' : World} {fb : Nat} {f : Fr1} (h : FrAt F w fb f) (hg : Gr G w w') (hd : ∀ b, F b → ¬ G b) : FrAt F w' fb f := by
  obtain ⟨h0, rv, h1, h2, h3⟩ := h
  exact ⟨h0, rv, blk_gr hg h1 (hd _ h0), h2.gr hg (fun _ h => h.elim) (fun b hb => hd b (h3 b hb).1), h3⟩
theorem FrAt.mono {F G : Nat → Prop} {w : World} {fb : Nat} {f : Fr1} (h : FrAt F w fb f) (hd : ∀ b, F b → G b) : FrAt G w fb f := by
  obtain ⟨h0, rv, h1, h2, h3⟩ := h
  exact ⟨hd _ h0, rv, h1, h2, fun b hb => ⟨hd b (h3 b hb).1, (h3 b hb).2⟩⟩
theorem wp_store1 {P : Program} {o : Oper} {a : Act} {w w' : World} {K : Act → World → Prop} {Q : Exit → Act → World → Prop} (ty : TypeId) (x y : Operand) (ho : o.op = .store ty x y) (p : Addr) (v : Value)
    (hx : a.eval x = .pointer (some p)) (hy : a.eval y = v) (hrun : (storeVar ty p v).run P w = .ok () w') (h : K (a.put o.dst undef) w') : o.wp P a w K Q := by
  unfold Oper.wp execOp
  simp only [ho, hx, hy, Instr.storeAt, Instr.sureAddr, Sem.run_bind, Sem.run_pure, Result.andThen_ok, hrun]
  exact h
theorem gr_setCell (w : World) (p i : Nat) (u : Value) : Gr (fun b => b = p) w (w.setCell ⟨p, i, none⟩ u) := (Gr.refl (fun b => b = p) w).setCell (.inl rfl) u
theorem info_read : (Try.prog.info? 77).map (fun i => (i.zero, i.size, i.bytes)) = some (some (.agg #[.int .i64 0, .int .i64 0, .int .i64 0, .int .i64 0, .int .i64 0]), readT.sz, 40) := by kernel_rfl
theorem read_rd {S : Nat → Prop} {w : World} {c : C4} {v : Int} (hc : c.ok) (hv : (Lit.int .i64 v).wf = true) : Rd readT S w [.int .i64 c.st, .int .i64 c.en, .int .i64 c.ot, .int .i64 c.pe, .int .i64 v] (rdD (c, v)) :=
  ⟨_, [.int .i64 v], rfl, ⟨_, _, rfl, ⟨rfl, hc.1⟩, _, _, rfl, ⟨rfl, hc.2.1⟩, _, _, rfl, ⟨rfl, hc.2.2.1⟩, _, _, rfl, ⟨rfl, hc.2.2.2⟩, rfl⟩, _, _, rfl, ⟨rfl, hv⟩, rfl⟩
/-- With an error. -/
theorem note48_bad {F : Nat → Prop} (w : World) (fb : Nat) (f : Fr1) (hF : FrAt F w fb f) (c : C4) (v e : Int) (he : e ≠ 0) :
    Calls Try.prog 21 #[.pointer (some ⟨fb, 0, none⟩), c.v, .int .i64 v, .int .i64 e] w fun en w' => en = .returned (.tuple #[]) ∧ FrAt (fun b => F b ∨ w.heap.size ≤ b) w' fb (noteF f c v e) ∧ Gr F w w' := by
  obtain ⟨h0, rv, h1, h2, h3⟩ := hF
  have hlt := blk_lt h1
  have hr := fun o => ((Below.refl w.heap.size w).alloc (Nat.le_refl _) o).block fb hlt |>.trans h1
  have hfr := fun o => blk_frozen (hr o) 1
  have hbs := blk_set (i := 1) h1 (.bool true)
  have hgr := (Gr.refl F w).setCell (p := ⟨fb, 1, none⟩) (.inl h0) (.bool true)
  have H0 := Lib.hid h0
  have H2 := Lib.hid h2
  have H3 := Lib.hid h3
  have HB := Lib.hid hbs
  have HG := Lib.hid hgr
  clear h0 h1 h2 h3 hbs hgr
  rw [show noteF f c v e = { f with failed := true } by unfold noteF; rw [if_pos he]]
  have hk := fun o => blk_cell (hr o) 1
  clear hr
  simp at hk
  unfold C4.v
  go_enter Try.func21, Try.ntmps21
  go_wp2
  refine bodyPost_ret (results_none rfl _ _ _) rfl ?_
  have hal : ∀ o, Below (w.setCell ⟨fb, 1, none⟩ (.bool true)).heap.size (w.setCell ⟨fb, 1, none⟩ (.bool true)) ((w.setCell ⟨fb, 1, none⟩ (.bool true)).alloc o) := fun o => (Below.refl _ _).alloc (Nat.le_refl _) o
  refine ⟨rfl, ?_, HG.out.step (hal _)⟩
  refine ⟨.inl H0.out, rv, ((hal _).block _ (blk_lt HB.out)).trans HB.out, ?_, fun b hb => ⟨.inl (H3.out b hb).1, (H3.out b hb).2⟩⟩
  exact (H2.out.gr (F := fun b => b = fb) (gr_setCell _ _ _ _) (fun _ h => h.elim) (fun b hb => (H3.out b hb).2)).below (hal _)
set_option maxRecDepth 20000 in
set_option maxHeartbeats 1000000 in
/-- Without an error. -/
theorem note48_ok {F : Nat → Prop} (w : World) (fb : Nat) (f : Fr1) (hF : FrAt F w fb f) (hlen : f.reads.length ≤ most) (c : C4) (hc : c.ok) (v : Int) (hv : (Lit.int .i64 v).wf = true) :
    Calls Try.prog 21 #[.pointer (some ⟨fb, 0, none⟩), c.v, .int .i64 v, .int .i64 0] w fun en w' => en = .returned (.tuple #[]) ∧ FrAt (fun b => F b ∨ w.heap.size ≤ b) w' fb (noteF f c v 0) ∧ Gr F w w' := by
  obtain ⟨h0, rv, h1, h2, h3⟩ := hF
  obtain ⟨ra, rl, rc, rfl, hrl, hrlc, hrm⟩ := h2.slice
  have hlt := blk_lt h1
  have hB1 : Below w.heap.size w (w.alloc (.cells #[.int .i64 c.st, .int .i64 c.en, .int .i64 c.ot, .int .i64 c.pe] 26)) := (Below.refl _ w).alloc (Nat.le_refl _) _
  have hcb : CellAt (w.alloc (.cells #[.int .i64 c.st, .int .i64 c.en, .int .i64 c.ot, .int .i64 c.pe] 26)) w.heap.size c := heap_alloc_new w _
  have hr := (hB1.block fb hlt).trans h1
  have hO := h2.below hB1
  have hct := readContains _ _ _ _ _ (rdOwn hO) (fun _ h => h) w.heap.size c hcb
  have hnote : noteF f c v 0 = if f.reads.any (same1 c) = true then f else { f with reads := f.reads ++ [(c, v)] } := by unfold noteF; rw [if_neg (by decide)]; rfl
  rw [hnote]
  have H0 := Lib.hid h0
  have H3 := Lib.hid h3
  have HO := Lib.hid hO
  have HC := Lib.hid hc
  have HV := Lib.hid hv
  have HLEN := Lib.hid hlen
  have HRL := Lib.hid hrl
  obtain ⟨fd, hfd⟩ : ∃ fd, f.reads.any (same1 c) = fd := ⟨_, rfl⟩
  rw [hfd] at hct ⊢
  have HCT := Lib.hid hct
  obtain ⟨fr, ff⟩ := f
  obtain ⟨c1, c2, c3, c4⟩ := c
  simp only at *
  have hk := blk_cell hr 0
  simp at hk
  unfold C4.v
  clear h0 h1 h2 h3 hct hlen hc hv hnote hfd hrl hO
  go_enter Try.func21, Try.ntmps21
  cases fd
  · go_wp2_with (go_at_call 26; refine (HCT.out).mono ?_; rintro e w1 ⟨rfl, hB⟩; have HBB := Lib.hid hB; clear hB)
    have hrr := (HBB.out.block _ (blk_lt hr)).trans hr
    have hcc := (HBB.out.block _ (blk_lt hcb)).trans hcb
    have HRR := Lib.hid hrr
    have hB0 := below_step hB1 HBB.out
    have HB0 := Lib.hid hB0
    have HO1 := Lib.hid (HO.out.below HBB.out)
    have hC0 : Cells [(⟨fb, 0, none⟩, .slice ra rl rc), (⟨w.heap.size, 0, none⟩, .int .i64 c1), (⟨w.heap.size, 1, none⟩, .int .i64 c2), (⟨w.heap.size, 2, none⟩, .int .i64 c3), (⟨w.heap.size, 3, none⟩, .int .i64 c4)] w1 := ⟨blk_cell hrr 0, blk_cell hcc 0, blk_cell hcc 1, blk_cell hcc 2, blk_cell hcc 3, trivial⟩
    clear hrr hcc hr hcb hk hB0
    refine wp_region_T (Cells [(⟨fb, 0, none⟩, .slice ra rl rc), (⟨w.heap.size, 0, none⟩, .int .i64 c1), (⟨w.heap.size, 1, none⟩, .int .i64 c2), (⟨w.heap.size, 2, none⟩, .int .i64 c3), (⟨w.heap.size, 3, none⟩, .int .i64 c4)]) (fun i => i == 9 || i == 12) (by kernel_rfl) ?_
    have hSss1 := Cells.drew hC0
    have hB_0_s1 : Below w1.heap.size w1 w1.drew := below_drew _
    generalize w1.drew = s1 at hSss1 hB_0_s1 ⊢
    have hB_s1_s1 := Below.refl s1.heap.size s1
    refine wpAnyT_pure (i := 0) (v := ?_) rfl (by kernel_rfl) (by kernel_rfl) (by kernel_rfl) (fun _ _ _ h => h) (by rfl) ?_ ?_
    rotate_left
    · intro w; go_simp; try with_reducible rfl
    simp only [Act.put, List.setIfInBounds_toArray, List.set_cons_zero, List.set_cons_succ, List.getElem_toArray, List.getElem_cons_succ, List.getElem_cons_zero]
    refine wpAnyT_pure (i := 1) (v := ?_) rfl (by kernel_rfl) (by kernel_rfl) (by kernel_rfl) (fun _ _ _ h => h) (by rfl) ?_ ?_
    rotate_left
    · intro w; go_simp; try with_reducible rfl
    simp only [Act.put, List.setIfInBounds_toArray, List.set_cons_zero, List.set_cons_succ, List.getElem_toArray, List.getElem_cons_succ, List.getElem_cons_zero]
    refine wpAnyT_pure (i := 2) (v := ?_) rfl (by kernel_rfl) (by kernel_rfl) (by kernel_rfl) (fun _ _ _ h => h) (by rfl) ?_ ?_
    rotate_left
    · intro w; go_simp; try with_reducible rfl
    simp only [Act.put, List.setIfInBounds_toArray, List.set_cons_zero, List.set_cons_succ, List.getElem_toArray, List.getElem_cons_succ, List.getElem_cons_zero]
    refine wpAnyT_pure (i := 3) (v := ?_) rfl (by kernel_rfl) (by kernel_rfl) (by kernel_rfl) (fun _ _ _ h => h) (by rfl) ?_ ?_
    rotate_left
    · intro w; go_simp; try with_reducible rfl
    simp only [Act.put, List.setIfInBounds_toArray, List.set_cons_zero, List.set_cons_succ, List.getElem_toArray, List.getElem_cons_succ, List.getElem_cons_zero]
    refine wpAnyT_pure (i := 6) (v := ?_) rfl (by kernel_rfl) (by kernel_rfl) (by kernel_rfl) (fun _ _ _ h => h) (by rfl) ?_ ?_
    rotate_left
    · intro w; go_simp; try with_reducible rfl
    simp only [Act.put, List.setIfInBounds_toArray, List.set_cons_zero, List.set_cons_succ, List.getElem_toArray, List.getElem_cons_succ, List.getElem_cons_zero]
    refine wpAnyT_loadW (i := 4) (v := ?_) rfl (by kernel_rfl) (by kernel_rfl) (by kernel_rfl) (by kernel_rfl) (by kernel_rfl) (fun _ _ _ h => h) (Or.inl ⟨by rfl, ?_⟩) hSss1 ?_
    rotate_left
    · intro w hSw; obtain ⟨e0, e1, e2, e3, e4, -⟩ := hSw; go_simp; try with_reducible rfl
    simp only [Act.put, List.setIfInBounds_toArray, List.set_cons_zero, List.set_cons_succ, List.getElem_toArray, List.getElem_cons_succ, List.getElem_cons_zero]
    refine wpAnyT_loadW (i := 5) (v := ?_) rfl (by kernel_rfl) (by kernel_rfl) (by kernel_rfl) (by kernel_rfl) (by kernel_rfl) (fun _ _ _ h => h) (Or.inl ⟨by rfl, ?_⟩) hSss1 ?_
    rotate_left
    · intro w hSw; obtain ⟨e0, e1, e2, e3, e4, -⟩ := hSw; go_simp; try with_reducible rfl
    simp only [Act.put, List.setIfInBounds_toArray, List.set_cons_zero, List.set_cons_succ, List.getElem_toArray, List.getElem_cons_succ, List.getElem_cons_zero]
    refine wpAnyT_pure (i := 7) (v := ?_) rfl (by kernel_rfl) (by kernel_rfl) (by kernel_rfl) (fun _ _ _ h => h) (by rfl) ?_ ?_
    rotate_left
    · intro w; go_simp; try with_reducible rfl
    simp only [Act.put, List.setIfInBounds_toArray, List.set_cons_zero, List.set_cons_succ, List.getElem_toArray, List.getElem_cons_succ, List.getElem_cons_zero]
    refine wpAnyT_one (i := 8) (by kernel_rfl) rfl (by rfl) ?_
    obtain ⟨b8, hb8⟩ : ∃ b, s1.heap.size = b := ⟨_, rfl⟩
    have hge8 : s1.heap.size ≤ b8 := hb8 ▸ (hB_s1_s1).size
    refine wp_newrow (v := .slice (some ⟨b8, 0, none⟩) 1 1) (cs := #[.int .i64 c1, .int .i64 c2, .int .i64 c3, .int .i64 c4, .int .i64 v]) (te := 77) (by rw [← hb8]; go_simp) ?_
    intro w102 hX hN8
    rw [hb8] at hN8
    have hB_s1_w102 := below_step hB_s1_s1 hX
    have hB_w102_w102 := Below.refl w102.heap.size w102
    have hSsw102 := Cells.below hB_s1_w102 hSss1
    clear hX
    refine ⟨fun _ _ => hSsw102, ?_⟩
    try simp only [Act.put, List.setIfInBounds_toArray, List.set_cons_zero, List.set_cons_succ, List.getElem_toArray, List.getElem_cons_succ, List.getElem_cons_zero]
    refine wpAnyT_one (i := 9) (by kernel_rfl) rfl (by rfl) ?_
    have hq8 := ((hB_w102_w102).block _ (blk_lt hN8)).trans hN8
    have hbP : Below w1.heap.size w1 w102 := hB_0_s1.trans ((hB_s1_w102).mono (hB_0_s1).size)
    refine wp_app (.tmp 24) (.tmp 28) 71 rfl (e := readT) (te := 77) info_read Try.underlying71 rfl (by decide) (base := 0) (S := fun _ => False) (v := .slice ra rl rc) (xs := rdsD fr) (by kernel_rfl) (HO1.out.below hbP) (Nat.zero_le _) (sv := .slice (some ⟨b8, 0, none⟩) 1 1) (by kernel_rfl) (ys := [rdD (⟨c1, c2, c3, c4⟩, v)]) (Src.of_cells (news := [.int .i64 c1, .int .i64 c2, .int .i64 c3, .int .i64 c4, .int .i64 v]) (fun j u hu => by rw [Nat.zero_add, blk_cell hq8]; simpa using hu)) (RdL.one (e := readT) (read_rd HC.out HV.out)) (by have := HLEN.out; unfold rdsD most at *; simp only [List.length_map, List.length_cons, List.length_nil]; omega) (by have := HLEN.out; unfold rdsD most at *; simp only [List.length_map, List.length_cons, List.length_nil]; omega) ?_
    intro ca9 cl9 cc9 w103 O9 g9 ob9
    have HO9 := Lib.hid O9
    have HOB := Lib.hid ob9
    have HG9 := Lib.hid (show Gr F w w103 from ((Gr.of_below (F := F) HB0.out).step hbP).grown g9 (fun x e => .inl (H3.out x e).1))
    have hr9 := blk_gr (Gr.of_grown g9) ((hbP.block _ (blk_lt HRR.out)).trans HRR.out) (fun e => (H3.out _ e).2 rfl)
    have f9 := blk_frozen hr9 0
    have c9 := blk_cell hr9 0
    simp at c9
    have hlb : w.heap.size ≤ (w102).heap.size := Nat.le_trans HB0.out.size hbP.size
    clear O9 g9 ob9
    refine ⟨fun h => absurd h (by decide), ?_⟩
    try simp only [Act.put, List.setIfInBounds_toArray, List.set_cons_zero, List.set_cons_succ, List.getElem_toArray, List.getElem_cons_succ, List.getElem_cons_zero]
    refine wpAnyT_pure (i := 10) (v := ?_) rfl (by kernel_rfl) (by kernel_rfl) (by kernel_rfl) (fun _ _ _ h => h) (by rfl) ?_ ?_
    rotate_left
    · intro w; go_simp; try with_reducible rfl
    simp only [Act.put, List.setIfInBounds_toArray, List.set_cons_zero, List.set_cons_succ, List.getElem_toArray, List.getElem_cons_succ, List.getElem_cons_zero]
    refine wpAnyT_pure (i := 11) (v := ?_) rfl (by kernel_rfl) (by kernel_rfl) (by kernel_rfl) (fun _ _ _ h => h) (by rfl) ?_ ?_
    rotate_left
    · intro w; go_simp; try with_reducible rfl
    simp only [Act.put, List.setIfInBounds_toArray, List.set_cons_zero, List.set_cons_succ, List.getElem_toArray, List.getElem_cons_succ, List.getElem_cons_zero]
    refine wpAnyT_one (i := 12) (by kernel_rfl) rfl (by rfl) ?_
    refine wp_store1 (w' := (w103).setCell ⟨fb, 0, none⟩ (.slice ca9 cl9 cc9)) 71 (.tmp 31) (.tmp 29) rfl ⟨fb, 0, none⟩ (.slice ca9 cl9 cc9) (by kernel_rfl) (by kernel_rfl) (by go_simp) ?_
    have hrow := blk_set (i := 0) hr9 (.slice ca9 cl9 cc9)
    have hgs : Gr (fun b => b = fb) (w103) ((w103).setCell ⟨fb, 0, none⟩ (.slice ca9 cl9 cc9)) := gr_setCell _ _ _ _
    simp only [List.setIfInBounds_toArray, List.set_cons_zero] at hrow
    generalize (w103).setCell ⟨fb, 0, none⟩ (.slice ca9 cl9 cc9) = w104 at hrow hgs ⊢
    have hown : ∀ b, (Value.slice ca9 cl9 cc9).ownBlock = some b → (F b ∨ w.heap.size ≤ b) ∧ b ≠ fb := fun b hb => by
      rcases HOB.out with e | e
      · exact ⟨.inl (H3.out b (e ▸ hb)).1, (H3.out b (e ▸ hb)).2⟩
      · rw [e] at hb
        obtain rfl := Option.some.inj hb
        exact ⟨.inr hlb, by omega⟩
    have hO12 := HO9.out.gr hgs (fun _ h => h.elim) (fun b hb => (hown b hb).2)
    have hG12 := HG9.out.trans hgs (fun x hx => .inl (by rw [hx]; exact H0.out))
    refine ⟨fun h => absurd h (by decide), ?_⟩
    try simp only [Act.put, List.setIfInBounds_toArray, List.set_cons_zero, List.set_cons_succ, List.getElem_toArray, List.getElem_cons_succ, List.getElem_cons_zero]
    refine wpAnyT_done (by kernel_rfl) ?_ _
    go_wp2
    go_end0
    refine ⟨rfl, ?_, ?_⟩
    · refine ⟨.inl H0.out, _, hrow, ?_, hown⟩
      show Owns _ _ _ _ _ _ (rdsD (fr ++ [(⟨c1, c2, c3, c4⟩, v)]))
      rw [show rdsD (fr ++ [(⟨c1, c2, c3, c4⟩, v)]) = rdsD fr ++ [rdD (⟨c1, c2, c3, c4⟩, v)] by unfold rdsD; rw [List.map_append]; rfl]
      exact hO12
    · exact hG12
  · go_wp2_with (go_at_call 26; refine (HCT.out).mono ?_; rintro e w1 ⟨rfl, hB⟩; have HBB := Lib.hid hB; clear hB)
    go_end0
    have hBt := below_step hB1 HBB.out
    refine ⟨rfl, ?_, Gr.of_below hBt⟩
    refine ⟨.inl H0.out, _, (HBB.out.block _ (blk_lt hr)).trans hr, HO.out.below HBB.out, fun b hb => ⟨.inl (H3.out b hb).1, (H3.out b hb).2⟩⟩
end Go.Proofs.Ytmmeieangbcfaaa
