/- Layer 48: awake. -/
import Derived.Test.YtmmeieangbcfaaaC48y
import Derived.Test.YtmmeieangbcfaaaP48e
set_option linter.unusedSimpArgs false
namespace Go.Proofs.Ytmmeieangbcfaaa
open Go.RowKit Go

def awA : C4 := ⟨1, 0, 0, 0⟩
def awB : C4 := ⟨2, 0, 0, 0⟩
def awC : C4 := ⟨3, 0, 0, 0⟩
def aw1 : List formT.den := [((1, 0, 0, 0, ()), [], 3, 0, 0, ()), ((2, 0, 0, 0, ()), [((1, 0, 0, 0, ()), 1, ())], 0, 2, -1, ()), ((3, 0, 0, 0, ()), [((2, 0, 0, 0, ()), 10, ())], 0, 0, -1, ())]
def aw2 : List formT.den := aw1 ++ [((1, 0, 0, 0, ()), [], 5, 0, 0, ())]
def awS1 : MS := match getM (aw1.map fm) 40 newS awC with | some (_, s) => s | none => newS
theorem awS1_eq : getM (aw1.map fm) 40 newS awC = some ((10, 0), awS1) := by kernel_rfl
def awS2 : MS := { awS1 with comp := [] }.change awA
def awS3 : MS := match getM (aw2.map fm) 40 awS2 awC with | some (_, s) => s | none => newS
theorem awS3_eq : getM (aw2.map fm) 40 awS2 awC = some ((10, 0), awS3) := by kernel_rfl
theorem awS3_len : awS3.comp.length = 2 := by kernel_rfl
def awO (n : Nat) : List Obj :=
  [.cells #[.int .i64 1, .int .i64 0, .int .i64 0, .int .i64 0] 26, .cells #[.int .i64 2, .int .i64 0, .int .i64 0, .int .i64 0] 26, .cells #[.int .i64 3, .int .i64 0, .int .i64 0, .int .i64 0] 26,
   .cells #[.int .i64 1, .int .i64 0, .int .i64 0, .int .i64 0, .int .i16 1] 53, .cells #[.int .i64 2, .int .i64 0, .int .i64 0, .int .i64 0, .int .i16 10] 53,
   .cells #[.int .i64 1, .int .i64 0, .int .i64 0, .int .i64 0, .slice none 0 0, .int .i16 3, .int .u8 0, .int .i8 0, .int .i64 2, .int .i64 0, .int .i64 0, .int .i64 0, .slice (some ⟨n + 1 + 1 + 1, 0, none⟩) 1 1, .int .i16 0, .int .u8 2, .int .i8 (-1),
     .int .i64 3, .int .i64 0, .int .i64 0, .int .i64 0, .slice (some ⟨n + 1 + 1 + 1 + 1, 0, none⟩) 1 1, .int .i16 0, .int .u8 0, .int .i8 (-1)] 41,
   .cells #[.slice (some ⟨n + 1 + 1 + 1 + 1 + 1, 0, none⟩) 3 3] 46]
theorem cell_rdN {S : Nat → Prop} {w : World} {a b c d : Int} (h : C4.ok ⟨a, b, c, d⟩) : Rd cellT S w [.int .i64 a, .int .i64 b, .int .i64 c, .int .i64 d] (a, b, c, d, ()) := cell_rd h
/-- A row of one term. -/
theorem term_rd1 {S : Nat → Prop} {w : World} {b : Nat} {a1 a2 a3 a4 f : Int} (hS : S b) (h : C4.ok ⟨a1, a2, a3, a4⟩) (hf : (Lit.int .i16 f).wf = true) (hb : w.heap[b]? = some (.cells #[.int .i64 a1, .int .i64 a2, .int .i64 a3, .int .i64 a4, .int .i16 f] 53 (0, 0))) :
    Rd (.sl termT) S w [.slice (some ⟨b, 0, none⟩) 1 1] [((a1, a2, a3, a4, ()), f, ())] := by
  refine ⟨_, 1, 1, rfl, rfl, Nat.le_refl _, by decide, .inr ⟨b, 0, rfl, hS, fun i hi => ?_⟩⟩
  have hi : i < 1 := hi
  obtain rfl : i = 0 := by omega
  exact ⟨[.int .i64 a1, .int .i64 a2, .int .i64 a3, .int .i64 a4, .int .i16 f], rfl, fun j u hu => by rw [show 0 + 0 * termT.sz + j = j by omega, blk_cell hb]; simpa using hu, ⟨_, _, rfl, cell_rdN h, _, _, rfl, ⟨rfl, hf⟩, rfl⟩⟩
theorem aw_own (w : World) : Owns formT 41 w.heap.size (fun b => b = w.heap.size + 3 ∨ b = w.heap.size + 4) (allocs w (awO w.heap.size)) (.slice (some ⟨w.heap.size + 5, 0, none⟩) 3 3) aw1 := by
  have h5 := allocs_get w (awO w.heap.size) 5 (by simp [awO])
  have h3 := allocs_get w (awO w.heap.size) 3 (by simp [awO])
  have h4 := allocs_get w (awO w.heap.size) 4 (by simp [awO])
  have hsz := allocs_size w (awO w.heap.size)
  have hsz : (allocs w (awO w.heap.size)).heap.size = w.heap.size + 7 := hsz
  refine ⟨_, ⟨?_, .inr ⟨w.heap.size + 5, 3, _, rfl, by omega, h5, Nat.le_refl _, by decide, ?_, rfl⟩⟩, ?_, fun b hb => ⟨fun e => ?_, by omega⟩⟩
  · rfl
  · rfl
  · refine ⟨[.int .i64 1, .int .i64 0, .int .i64 0, .int .i64 0, .slice none 0 0, .int .i16 3, .int .u8 0, .int .i8 0], _, rfl, ?_, [.int .i64 2, .int .i64 0, .int .i64 0, .int .i64 0, .slice (some ⟨w.heap.size + 3, 0, none⟩) 1 1, .int .i16 0, .int .u8 2, .int .i8 (-1)], _, rfl, ?_, [.int .i64 3, .int .i64 0, .int .i64 0, .int .i64 0, .slice (some ⟨w.heap.size + 4, 0, none⟩) 1 1, .int .i16 0, .int .u8 0, .int .i8 (-1)], _, rfl, ?_, rfl⟩
    · exact ⟨[.int .i64 1, .int .i64 0, .int .i64 0, .int .i64 0], _, rfl, cell_rdN ⟨by decide, by decide, by decide, by decide⟩, [.slice none 0 0], _, rfl, ⟨none, 0, 0, rfl, rfl, Nat.le_refl _, by decide, .inl rfl⟩, _, _, rfl, ⟨rfl, by decide⟩, _, _, rfl, ⟨rfl, by decide⟩, _, _, rfl, ⟨rfl, by decide⟩, rfl⟩
    · exact ⟨[.int .i64 2, .int .i64 0, .int .i64 0, .int .i64 0], _, rfl, cell_rdN ⟨by decide, by decide, by decide, by decide⟩, [.slice (some ⟨w.heap.size + 3, 0, none⟩) 1 1], _, rfl, term_rd1 (.inl rfl) ⟨by decide, by decide, by decide, by decide⟩ (by decide) h3, _, _, rfl, ⟨rfl, by decide⟩, _, _, rfl, ⟨rfl, by decide⟩, _, _, rfl, ⟨rfl, by decide⟩, rfl⟩
    · exact ⟨[.int .i64 3, .int .i64 0, .int .i64 0, .int .i64 0], _, rfl, cell_rdN ⟨by decide, by decide, by decide, by decide⟩, [.slice (some ⟨w.heap.size + 4, 0, none⟩) 1 1], _, rfl, term_rd1 (.inr rfl) ⟨by decide, by decide, by decide, by decide⟩ (by decide) h4, _, _, rfl, ⟨rfl, by decide⟩, _, _, rfl, ⟨rfl, by decide⟩, _, _, rfl, ⟨rfl, by decide⟩, rfl⟩
  · simp [Value.ownBlock] at e
    omega
set_option maxRecDepth 20000 in
set_option maxHeartbeats 1000000 in
theorem awake48 (w : World) : Calls Try.prog 8 #[] w fun e w' => e = .returned (.bool true) ∧ Below w.heap.size w w' := by
  go_enter Try.func8, Try.ntmps8
  go_wp2_with fail
  have hO := aw_own w
  have hsz : (allocs w (awO w.heap.size)).heap.size = w.heap.size + 7 := allocs_size w (awO w.heap.size)
  have hB := allocs_below w (awO w.heap.size)
  have h0 := allocs_get w (awO w.heap.size) 0 (by simp [awO])
  have h2 := allocs_get w (awO w.heap.size) 2 (by simp [awO])
  have h6 := allocs_get w (awO w.heap.size) 6 (by simp [awO])
  change Calls _ _ _ (allocs w (awO w.heap.size)) _
  generalize allocs w (awO w.heap.size) = w1 at *
  have h6 : w1.heap[w.heap.size + 1 + 1 + 1 + 1 + 1 + 1]? = some (.cells #[.slice (some ⟨w.heap.size + 5, 0, none⟩) 3 3] 46 (0, 0)) := h6
  have h2 : w1.heap[w.heap.size + 1 + 1]? = some (.cells #[.int .i64 3, .int .i64 0, .int .i64 0, .int .i64 0] 26 (0, 0)) := h2
  have h0 : w1.heap[w.heap.size]? = some (.cells #[.int .i64 1, .int .i64 0, .int .i64 0, .int .i64 0] 26 (0, 0)) := h0
  have hs6 : w.heap.size + 1 + 1 + 1 + 1 + 1 + 1 = 6 + w.heap.size := by omega
  have hs2 : w.heap.size + 1 + 1 = 2 + w.heap.size := by omega
  generalize w.heap.size + 1 + 1 + 1 + 1 + 1 + 1 = sp at *
  generalize w.heap.size + 1 + 1 = bc at *
  have HO := Lib.hid hO
  have HSZ := Lib.hid hsz
  have HB := Lib.hid hB
  have HS6 := Lib.hid hs6
  have HS2 := Lib.hid hs2
  have H0 := Lib.hid h0
  have H2 := Lib.hid h2
  have H6 := Lib.hid h6
  clear hO hsz hB hs6 hs2 h0 h2 h6
  refine (Pl.new (n0 := w.heap.size) (w := w1) (sp := sp) HB.out.size H6.out HO.out (fun b hb => by simp [Value.ownBlock] at hb; have := HS6.out; omega) (fun b hb => by have := HS6.out; omega) (by have := HS6.out; omega)).mono ?_
  rintro e w2 ⟨rfl, hB2, hz2, F2, hP2, hF2⟩
  have hn0 : ¬ OW F2 sp (.slice (some ⟨w.heap.size + 5, 0, none⟩) 3 3) w.heap.size := fun e => by
    rcases e with e | e | e
    · exact e (hF2 _ (by have := HSZ.out; omega))
    · have := HS6.out; omega
    · simp [Value.ownBlock] at e
  have hn2 : ¬ OW F2 sp (.slice (some ⟨w.heap.size + 5, 0, none⟩) 3 3) bc := fun e => by
    rcases e with e | e | e
    · exact e (hF2 _ (by have := HSZ.out; have := HS2.out; omega))
    · have := HS6.out; have := HS2.out; omega
    · have := HS2.out; simp [Value.ownBlock] at e; omega
  have X0 := Lib.hid (show w2.heap[w.heap.size]? = _ ∧ _ from ⟨(hB2.block _ (blk_lt H0.out)).trans H0.out, hn0⟩)
  have X2 := Lib.hid (show w2.heap[bc]? = _ ∧ _ from ⟨(hB2.block _ (blk_lt H2.out)).trans H2.out, hn2⟩)
  have HP2 := Lib.hid hP2
  have HN2 := Lib.hid (below_step HB.out hB2)
  clear hB2 hz2 hP2 hF2 hn0 hn2
  generalize w1.heap.size + 2 = p at *
  generalize w1.heap.size + 1 = pb at *
  generalize w1.heap.size = kb at *
  have y0 := blk_cell X2.out.1 0
  have y1 := blk_cell X2.out.1 1
  have y2 := blk_cell X2.out.1 2
  have y3 := blk_cell X2.out.1 3
  simp at y0 y1 y2 y3
  go_wp2_with fail
  refine (HP2.out.get HN2.out.size 40 (by decide) awC ⟨by decide, by decide, by decide, by decide⟩ _ awS1_eq).mono ?_
  rintro e w3 ⟨rfl, F3, hP3, hS3⟩
  have X03 := Lib.hid (hS3.blk X0.out.1 X0.out.2)
  have X23 := Lib.hid (hS3.blk X2.out.1 X2.out.2)
  have HP3 := Lib.hid hP3
  have HN3 := Lib.hid (HN2.out.trans (hS3.gr.below HP2.out.ow0 HN2.out.size))
  clear y0 y1 y2 y3 hP3 hS3
  go_wp2_with fail
  refine (HP3.out.reset HN3.out.size).mono ?_
  rintro e w4 ⟨rfl, hP4, hS4⟩
  have X04 := Lib.hid (hS4.blk X03.out.1 X03.out.2)
  have X24 := Lib.hid (hS4.blk X23.out.1 X23.out.2)
  have HP4 := Lib.hid hP4
  have HN4 := Lib.hid (HN3.out.trans (hS4.gr.below HP3.out.ow0 HN3.out.size))
  clear hP4 hS4
  go_wp2_with fail
  have hC4 : Cells [(⟨sp, 0, none⟩, .slice (some ⟨w.heap.size + 5, 0, none⟩) 3 3), (⟨w.heap.size, 0, none⟩, .int .i64 1), (⟨w.heap.size, 1, none⟩, .int .i64 0), (⟨w.heap.size, 2, none⟩, .int .i64 0), (⟨w.heap.size, 3, none⟩, .int .i64 0)] w4 := ⟨blk_cell HP4.out.row 0, blk_cell X04.out.1 0, blk_cell X04.out.1 1, blk_cell X04.out.1 2, blk_cell X04.out.1 3, trivial⟩
  refine wp_region_T (Cells [(⟨sp, 0, none⟩, .slice (some ⟨w.heap.size + 5, 0, none⟩) 3 3), (⟨w.heap.size, 0, none⟩, .int .i64 1), (⟨w.heap.size, 1, none⟩, .int .i64 0), (⟨w.heap.size, 2, none⟩, .int .i64 0), (⟨w.heap.size, 3, none⟩, .int .i64 0)]) (fun i => i == 8 || i == 11) (by kernel_rfl) ?_
  have hSss1 := Cells.drew hC4
  have hB_0_s1 : Below w4.heap.size w4 w4.drew := below_drew _
  generalize w4.drew = s1 at hSss1 hB_0_s1 ⊢
  have hB_s1_s1 := Below.refl s1.heap.size s1
  refine wpAnyT_pure (i := 0) (v := ?_) rfl (by kernel_rfl) (by kernel_rfl) (by kernel_rfl) (fun _ _ _ h => h) (by rfl) ?_ ?_
  rotate_left
  · intro w; go_simp; try with_reducible rfl
  simp only [Act.put, List.setIfInBounds_toArray, List.set_cons_zero, List.set_cons_succ, List.getElem_toArray, List.getElem_cons_succ, List.getElem_cons_zero]
  refine wpAnyT_pure (i := 1) (v := ?_) rfl (by kernel_rfl) (by kernel_rfl) (by kernel_rfl) (fun _ _ _ h => h) (by rfl) ?_ ?_
  rotate_left
  · intro w; go_simp; try with_reducible rfl
  simp only [Act.put, List.setIfInBounds_toArray, List.set_cons_zero, List.set_cons_succ, List.getElem_toArray, List.getElem_cons_succ, List.getElem_cons_zero]
  refine wpAnyT_pure (i := 2) (v := ?_) rfl (by kernel_rfl) (by kernel_rfl) (by kernel_rfl) (fun _ _ _ h => h) (by rfl) ?_ ?_
  rotate_left
  · intro w; go_simp; try with_reducible rfl
  simp only [Act.put, List.setIfInBounds_toArray, List.set_cons_zero, List.set_cons_succ, List.getElem_toArray, List.getElem_cons_succ, List.getElem_cons_zero]
  refine wpAnyT_pure (i := 3) (v := ?_) rfl (by kernel_rfl) (by kernel_rfl) (by kernel_rfl) (fun _ _ _ h => h) (by rfl) ?_ ?_
  rotate_left
  · intro w; go_simp; try with_reducible rfl
  simp only [Act.put, List.setIfInBounds_toArray, List.set_cons_zero, List.set_cons_succ, List.getElem_toArray, List.getElem_cons_succ, List.getElem_cons_zero]
  refine wpAnyT_loadW (i := 4) (v := ?_) rfl (by kernel_rfl) (by kernel_rfl) (by kernel_rfl) (by kernel_rfl) (by kernel_rfl) (fun _ _ _ h => h) (Or.inl ⟨by rfl, ?_⟩) hSss1 ?_
  rotate_left
  · intro w hSw; obtain ⟨e0, e1, e2, e3, e4, -⟩ := hSw; go_simp; try with_reducible rfl
  simp only [Act.put, List.setIfInBounds_toArray, List.set_cons_zero, List.set_cons_succ, List.getElem_toArray, List.getElem_cons_succ, List.getElem_cons_zero]
  refine wpAnyT_loadW (i := 5) (v := ?_) rfl (by kernel_rfl) (by kernel_rfl) (by kernel_rfl) (by kernel_rfl) (by kernel_rfl) (fun _ _ _ h => h) (Or.inl ⟨by rfl, ?_⟩) hSss1 ?_
  rotate_left
  · intro w hSw; obtain ⟨e0, e1, e2, e3, e4, -⟩ := hSw; go_simp; try with_reducible rfl
  simp only [Act.put, List.setIfInBounds_toArray, List.set_cons_zero, List.set_cons_succ, List.getElem_toArray, List.getElem_cons_succ, List.getElem_cons_zero]
  refine wpAnyT_pure (i := 6) (v := ?_) rfl (by kernel_rfl) (by kernel_rfl) (by kernel_rfl) (fun _ _ _ h => h) (by rfl) ?_ ?_
  rotate_left
  · intro w; go_simp; try with_reducible rfl
  simp only [Act.put, List.setIfInBounds_toArray, List.set_cons_zero, List.set_cons_succ, List.getElem_toArray, List.getElem_cons_succ, List.getElem_cons_zero]
  refine wpAnyT_one (i := 7) (by kernel_rfl) rfl (by rfl) ?_
  obtain ⟨b7, hb7⟩ : ∃ b, s1.heap.size = b := ⟨_, rfl⟩
  refine wp_newrow (v := .slice (some ⟨b7, 0, none⟩) 1 1) (cs := #[.int .i64 1, .int .i64 0, .int .i64 0, .int .i64 0, .slice none 0 0, .int .i16 5, .int .u8 0, .int .i8 0]) (te := 41) (by rw [← hb7]; go_simp) ?_
  intro w102 hX hN7
  rw [hb7] at hN7
  have hB_s1_w102 := below_step hB_s1_s1 hX
  have hB_w102_w102 := Below.refl w102.heap.size w102
  have hSsw102 := Cells.below hB_s1_w102 hSss1
  clear hX
  refine ⟨fun _ _ => hSsw102, ?_⟩
  try simp only [Act.put, List.setIfInBounds_toArray, List.set_cons_zero, List.set_cons_succ, List.getElem_toArray, List.getElem_cons_succ, List.getElem_cons_zero]
  refine wpAnyT_one (i := 8) (by kernel_rfl) rfl (by rfl) ?_
  have hq7 := ((hB_w102_w102).block _ (blk_lt hN7)).trans hN7
  have hbP : Below w4.heap.size w4 w102 := hB_0_s1.trans ((hB_s1_w102).mono (hB_0_s1).size)
  have HPP := Lib.hid (HP4.out.below hbP)
  have XP0 := Lib.hid (show (w102).heap[w.heap.size]? = _ from (hbP.block _ (blk_lt X04.out.1)).trans X04.out.1)
  have XP2 := Lib.hid (show (w102).heap[bc]? = _ from (hbP.block _ (blk_lt X24.out.1)).trans X24.out.1)
  have HNP := Lib.hid (below_step HN4.out hbP)
  refine wp_app (.tmp 43) (.tmp 46) 23 rfl (e := formT) (te := 41) info_form Try.underlying23 rfl (by decide) (base := w.heap.size) (S := _) (v := .slice (some ⟨w.heap.size + 5, 0, none⟩) 3 3) (xs := aw1) (by kernel_rfl) HPP.out.own HNP.out.size (sv := .slice (some ⟨b7, 0, none⟩) 1 1) (by kernel_rfl) (ys := [((1, 0, 0, 0, ()), [], 5, 0, 0, ())]) (Src.of_cells (news := [.int .i64 1, .int .i64 0, .int .i64 0, .int .i64 0, .slice none 0 0, .int .i16 5, .int .u8 0, .int .i8 0]) (fun j u hu => by rw [Nat.zero_add, blk_cell hq7]; simpa using hu)) (RdL.one (e := formT) ⟨[.int .i64 1, .int .i64 0, .int .i64 0, .int .i64 0], _, rfl, cell_rdN ⟨by decide, by decide, by decide, by decide⟩, [.slice none 0 0], _, rfl, ⟨none, 0, 0, rfl, rfl, Nat.le_refl _, by decide, .inl rfl⟩, _, _, rfl, ⟨rfl, by decide⟩, _, _, rfl, ⟨rfl, by decide⟩, _, _, rfl, ⟨rfl, by decide⟩, rfl⟩) (by decide) (by decide) ?_
  intro ca8 cl8 cc8 w103 O8 g8 ob8
  have hput := HPP.out.put g8 O8 ob8 HNP.out.size HPP.out.fS
  have hvs := fun e => (HPP.out.fv sp e).2 rfl
  have hr8 := blk_gr (Gr.of_grown g8) HPP.out.row hvs
  have f8 := blk_frozen hr8 0
  have q8 := blk_cell hr8 0
  simp at q8
  clear O8 g8 ob8 hvs hr8
  refine ⟨fun h => absurd h (by decide), ?_⟩
  try simp only [Act.put, List.setIfInBounds_toArray, List.set_cons_zero, List.set_cons_succ, List.getElem_toArray, List.getElem_cons_succ, List.getElem_cons_zero]
  refine wpAnyT_pure (i := 9) (v := ?_) rfl (by kernel_rfl) (by kernel_rfl) (by kernel_rfl) (fun _ _ _ h => h) (by rfl) ?_ ?_
  rotate_left
  · intro w; go_simp; try with_reducible rfl
  simp only [Act.put, List.setIfInBounds_toArray, List.set_cons_zero, List.set_cons_succ, List.getElem_toArray, List.getElem_cons_succ, List.getElem_cons_zero]
  refine wpAnyT_pure (i := 10) (v := ?_) rfl (by kernel_rfl) (by kernel_rfl) (by kernel_rfl) (fun _ _ _ h => h) (by rfl) ?_ ?_
  rotate_left
  · intro w; go_simp; try with_reducible rfl
  simp only [Act.put, List.setIfInBounds_toArray, List.set_cons_zero, List.set_cons_succ, List.getElem_toArray, List.getElem_cons_succ, List.getElem_cons_zero]
  refine wpAnyT_one (i := 11) (by kernel_rfl) rfl (by rfl) ?_
  refine wp_store1 (w' := (w103).setCell ⟨sp, 0, none⟩ (.slice ca8 cl8 cc8)) 23 (.tmp 49) (.tmp 47) rfl ⟨sp, 0, none⟩ (.slice ca8 cl8 cc8) (by kernel_rfl) (by kernel_rfl) (by go_simp) ?_
  clear f8 q8
  generalize (w103).setCell ⟨sp, 0, none⟩ (.slice ca8 cl8 cc8) = w104 at hput ⊢
  refine ⟨fun h => absurd h (by decide), ?_⟩
  try simp only [Act.put, List.setIfInBounds_toArray, List.set_cons_zero, List.set_cons_succ, List.getElem_toArray, List.getElem_cons_succ, List.getElem_cons_zero]
  refine wpAnyT_done (by kernel_rfl) ?_ _
  obtain ⟨w5, rfl⟩ : ∃ x, x = w104 := ⟨_, rfl⟩
  obtain ⟨hP5, hS5⟩ := hput
  have X05 := Lib.hid (hS5.blk XP0.out X04.out.2)
  have X25 := Lib.hid (hS5.blk XP2.out X24.out.2)
  have HP5 := Lib.hid (show Pl _ _ _ _ _ _ _ _ aw2 _ _ from hP5)
  have HN5 := Lib.hid (HNP.out.trans (hS5.gr.below HPP.out.ow0 HNP.out.size))
  clear hP5 hS5 HPP XP0 XP2 HNP
  have y0 := blk_cell X05.out.1 0
  have y1 := blk_cell X05.out.1 1
  have y2 := blk_cell X05.out.1 2
  have y3 := blk_cell X05.out.1 3
  simp at y0 y1 y2 y3
  go_wp2_with fail
  refine (HP5.out.change HN5.out.size awA ⟨by decide, by decide, by decide, by decide⟩).mono ?_
  rintro e w6 ⟨rfl, hP6, hS6⟩
  have X26 := Lib.hid (hS6.blk X25.out.1 X25.out.2)
  have HP6 := Lib.hid hP6
  have HN6 := Lib.hid (HN5.out.trans (hS6.gr.below HP5.out.ow0 HN5.out.size))
  clear y0 y1 y2 y3 hP6 hS6
  have y0 := blk_cell X26.out.1 0
  have y1 := blk_cell X26.out.1 1
  have y2 := blk_cell X26.out.1 2
  have y3 := blk_cell X26.out.1 3
  simp at y0 y1 y2 y3
  go_wp2_with fail
  refine (HP6.out.get HN6.out.size 40 (by decide) awC ⟨by decide, by decide, by decide, by decide⟩ _ awS3_eq).mono ?_
  rintro e w7 ⟨rfl, F7, hP7, hS7⟩
  have HP7 := Lib.hid hP7
  have HN7 := Lib.hid (HN6.out.trans (hS7.gr.below HP6.out.ow0 HN6.out.size))
  clear y0 y1 y2 y3 hP7 hS7
  go_wp2_with fail
  refine (HP7.out.computed (by rw [awS3_len]; decide)).mono ?_
  rintro e w8 ⟨v8, rfl, hB8, hO8⟩
  obtain ⟨a8, l8, c8, rfl, hl8, -⟩ := hO8.slice
  obtain rfl : l8 = 2 := hl8.trans (by rw [List.length_map, awS3_len])
  have HB8 := Lib.hid (below_step HN7.out hB8)
  clear hO8 hl8 hB8
  go_wp2
  go_ret
  exact ⟨rfl, HB8.out⟩
end Go.Proofs.Ytmmeieangbcfaaa
