/- Layer 48: the law MemoNil. -/
import Derived.Test.YtmmeieangbcfaaaL48a
import Derived.Test.YtmmeieangbcfaaaRead
set_option linter.unusedSimpArgs false
namespace Go.Proofs.Ytmmeieangbcfaaa
open Go.RowKit Go

set_option maxRecDepth 20000 in
set_option maxHeartbeats 1000000 in
theorem nilWalk48 (w : World) (c0 : List Value) (x : cellT.den) (r0 : Rd cellT (fun b => b < w.heap.size) w c0 x) :
    Calls Try.prog 7 #[valOf cellT c0] w fun e w' => e = .returned (.bool true) ∧ Below w.heap.size w w' := by
  obtain ⟨x1, x2, x3, x4, ⟨⟩⟩ := x
  obtain ⟨k1, kr1, rfl, ⟨rfl, h1⟩, k2, kr2, rfl, ⟨rfl, h2⟩, k3, kr3, rfl, ⟨rfl, h3⟩, k4, kr4, rfl, ⟨rfl, h4⟩, rfl⟩ := r0
  have hn1 := fun w => nilChange w ⟨x1, x2, x3, x4⟩
  have hn2 := fun w => nilGet w ⟨x1, x2, x3, x4⟩
  have hn3 := fun w => nilReads w ⟨x1, x2, x3, x4⟩
  unfold C4.v at hn1 hn2 hn3
  have HN1 := Lib.hid hn1
  have HN2 := Lib.hid hn2
  have HN3 := Lib.hid hn3
  clear hn1 hn2 hn3 h1 h2 h3 h4
  change Calls _ _ #[.agg #[.int .i64 x1, .int .i64 x2, .int .i64 x3, .int .i64 x4]] _ _
  go_enter Try.func7, Try.ntmps7
  go_wp2_with fail
  have hb1 := heap_alloc_new w (.cells #[.int .i64 x1, .int .i64 x2, .int .i64 x3, .int .i64 x4] 26)
  have hB1 := (Below.refl _ w).alloc (Nat.le_refl _) (.cells #[.int .i64 x1, .int .i64 x2, .int .i64 x3, .int .i64 x4] 26)
  generalize w.alloc (.cells #[.int .i64 x1, .int .i64 x2, .int .i64 x3, .int .i64 x4] 26) = w1 at *
  refine (awake48 _).mono ?_
  rintro e w2 ⟨rfl, hB2⟩
  have hb2 := (hB2.block _ (blk_lt hb1)).trans hb1
  have HB2 := Lib.hid (below_step hB1 hB2)
  have y0 := blk_cell hb2 0
  have y1 := blk_cell hb2 1
  have y2 := blk_cell hb2 2
  have y3 := blk_cell hb2 3
  simp at y0 y1 y2 y3
  clear hB1 hB2 hb1
  go_wp2_with fail
  refine (HN1.out _).mono ?_
  rintro e w3 ⟨rfl, hB3⟩
  have hb3 := (hB3.block _ (blk_lt hb2)).trans hb2
  have HB3 := Lib.hid (below_step HB2.out hB3)
  clear y0 y1 y2 y3 hB3 hb2
  go_wp2_with fail
  refine (nilReset _).mono ?_
  rintro e w4 ⟨rfl, hw⟩
  subst hw
  have y0 := blk_cell hb3 0
  have y1 := blk_cell hb3 1
  have y2 := blk_cell hb3 2
  have y3 := blk_cell hb3 3
  simp at y0 y1 y2 y3
  go_wp2_with fail
  refine (HN2.out _).mono ?_
  rintro e w5 ⟨rfl, hB5⟩
  have hb5 := (hB5.block _ (blk_lt hb3)).trans hb3
  have HB5 := Lib.hid (below_step HB3.out hB5)
  clear y0 y1 y2 y3 hB5 hb3
  have y0 := blk_cell hb5 0
  have y1 := blk_cell hb5 1
  have y2 := blk_cell hb5 2
  have y3 := blk_cell hb5 3
  simp at y0 y1 y2 y3
  go_wp2_with fail
  refine (nilComputed _).mono ?_
  rintro e w6 ⟨rfl, hw⟩
  subst hw
  go_wp2_with fail
  refine (HN3.out _).mono ?_
  rintro e w7 ⟨rfl, hB7⟩
  have HB7 := Lib.hid (below_step HB5.out hB7)
  clear y0 y1 y2 y3 hB7 hb5
  go_wp2_with fail
  refine (nilKept _).mono ?_
  rintro e w8 ⟨rfl, hw⟩
  subst hw
  go_wp2
  go_ret
  exact ⟨rfl, HB7.out⟩
end Go.Proofs.Ytmmeieangbcfaaa
