/- Layer 48: the law MemoRight (its second form). -/
import Derived.Test.YtmmeieangbcfaaaL48a
import Derived.Test.YtmmeieangbcfaaaL48f
import Derived.Test.YtmmeieangbcfaaaReadUp
import Derived.Test.YtmmeieangbcfaaaRead
set_option linter.unusedSimpArgs false
namespace Go.Proofs.Ytmmeieangbcfaaa
open Go.RowKit Go

theorem form_bulk (xs : List formT.den) (h : (Ty.sl formT).bulk xs ≤ 1048576) : xs.length ≤ 1048576 := Nat.le_trans (sl_bulk (e := formT) (fun x => by obtain ⟨⟨x1, r1⟩, r⟩ := x; simp [Ty.bulk]; try omega) xs) h
theorem step_bulk (xs : List stepT.den) (h : (Ty.sl stepT).bulk xs ≤ 1048576) : xs.length ≤ 1048576 := Nat.le_trans (sl_bulk (e := stepT) (fun x => by obtain ⟨x1, r⟩ := x; simp [Ty.bulk]) xs) h
theorem Pl.newE {n0 : Nat} {w : World} {sp : Nat} {xs : List formT.den} {v : Value} {SS : Nat → Prop} (hn : n0 ≤ w.heap.size) (hr : w.heap[sp]? = some (.cells #[v] 46 (0, 0))) (ho : Owns formT 41 n0 SS w v xs) (hv : ∀ b, v.ownBlock = some b → b ≠ sp) (hS : ∀ b, SS b → b ≠ sp) (h0 : n0 ≤ sp) :
    Calls Try.prog 11 #[sheetV sp] w fun e w' => ∃ p kb pb F, e = .returned (.pointer (some ⟨p, 0, none⟩)) ∧ Below w.heap.size w w' ∧ Pl n0 F w' p sp kb pb newS xs v SS :=
  (Pl.new hn hr ho hv hS h0).mono fun _ _ ⟨h1, h2, _, F, h4, _⟩ => ⟨_, _, _, F, h1, h2, h4⟩
set_option maxRecDepth 20000 in
set_option maxHeartbeats 2000000 in
theorem rightWalk48 (w : World) (c0 : List Value) (xs : (Ty.sl formT).den) (r0 : Rd (.sl formT) (fun b => b < w.heap.size) w c0 xs) (s0 : (Ty.sl formT).bulk xs ≤ 1048576) (c1 : List Value) (ys : (Ty.sl stepT).den) (r1 : Rd (.sl stepT) (fun b => b < w.heap.size) w c1 ys) (s1 : (Ty.sl stepT).bulk ys ≤ 1048576) (c2 : List Value) (rd : cellT.den) (r2 : Rd cellT (fun b => b < w.heap.size) w c2 rd) (s2 : cellT.bulk rd ≤ 1048576) :
    Calls Try.prog 3 #[valOf (.sl formT) c0, valOf (.sl stepT) c1, valOf cellT c2] w fun e w' => e = .returned (.bool true) ∧ Below w.heap.size w w' := by
  change List formT.den at xs
  change List stepT.den at ys
  obtain ⟨x1, x2, x3, x4, ⟨⟩⟩ := rd
  obtain ⟨k1, kr1, rfl, ⟨rfl, h1⟩, k2, kr2, rfl, ⟨rfl, h2⟩, k3, kr3, rfl, ⟨rfl, h3⟩, k4, kr4, rfl, ⟨rfl, h4⟩, rfl⟩ := r2
  obtain ⟨a, len, cap, rfl, hl, hlc, hcm, -⟩ := id r0
  obtain ⟨a2, len2, cap2, rfl, hl2, hlc2, hcm2, -⟩ := id r1
  have HX := Lib.hid r0
  have HY := Lib.hid r1
  have HL := Lib.hid (show len ≤ 1048576 from by have h : xs.length = len := hl; rw [← h]; exact form_bulk xs s0)
  have HL2 := Lib.hid (show len2 ≤ 1048576 from by have h : ys.length = len2 := hl2; rw [← h]; exact step_bulk ys s1)
  have HOK := Lib.hid (show C4.ok ⟨x1, x2, x3, x4⟩ from ⟨h1, h2, h3, h4⟩)
  have hgd : Try.prog.eqGuardType Try.prog.depth 26 = false := by kernel_rfl
  clear h1 h2 h3 h4 hl hl2 r0 r1 s0 s1 s2
  change Calls _ _ #[.slice a len cap, .slice a2 len2 cap2, .agg #[.int .i64 x1, .int .i64 x2, .int .i64 x3, .int .i64 x4]] _ _
  go_enter Try.func3, Try.ntmps3
  go_wp2_with fail
  have hb1 := heap_alloc_new w (.cells #[.int .i64 x1, .int .i64 x2, .int .i64 x3, .int .i64 x4] 26)
  have hB1 := (Below.refl _ w).alloc (Nat.le_refl _) (.cells #[.int .i64 x1, .int .i64 x2, .int .i64 x3, .int .i64 x4] 26)
  generalize w.alloc (.cells #[.int .i64 x1, .int .i64 x2, .int .i64 x3, .int .i64 x4] 26) = w0 at *
  refine (awake48 _).mono ?_
  rintro e w1 ⟨rfl, hB2⟩
  have hb2 := (hB2.block _ (blk_lt hb1)).trans hb1
  have HB := Lib.hid (below_step hB1 hB2)
  have HBX := Lib.hid hb2
  clear hB1 hB2 hb1 hb2
  go_wp2_with fail
  refine (play48 w1 a len cap xs (HX.out.alloc HB.out) a2 len2 cap2 ys (HY.out.alloc HB.out) HL.out HL2.out).mono ?_
  rintro e w2 hplay
  rcases hplay with ⟨rfl, hB⟩ | ⟨n0, p, sp, kb, pb, F, s, zs, v, SS, rfl, hB, hn, hn2, hP, -, hT, hS⟩
  · have HB2 := Lib.hid hB
    clear hB
    go_wp2_with fail
    go_ret
    exact ⟨rfl, below_step HB.out HB2.out⟩
  have hr2 := (hB.block _ (blk_lt HBX.out)).trans HBX.out
  obtain ⟨s1, nw, hg1, hT1, -⟩ := top_get0 hS (by decide) hT (by decide) ⟨x1, x2, x3, x4⟩
  obtain ⟨s2, nw2, hg2, -⟩ := top_get0 hS (by decide) (top_new _) (by decide) ⟨x1, x2, x3, x4⟩
  generalize valV (zs.map fm) ⟨x1, x2, x3, x4⟩ = vv at hg1 hg2
  have HG1 := Lib.hid hg1
  have HG2 := Lib.hid hg2
  have HP := Lib.hid hP
  have HN := Lib.hid hn2
  have HNW := Lib.hid (show w.heap.size ≤ n0 from Nat.le_trans HB.out.size hn)
  have HNX := Lib.hid (show w.heap.size < n0 from Nat.lt_of_lt_of_le (blk_lt HBX.out) hn)
  have HB2 := Lib.hid (below_step HB.out hB)
  have HR2 := Lib.hid hr2
  have y0 := blk_cell hr2 0
  have y1 := blk_cell hr2 1
  have y2 := blk_cell hr2 2
  have y3 := blk_cell hr2 3
  simp at y0 y1 y2 y3
  clear hg1 hg2 hP hT hS hT1 hn hn2 hB hr2
  go_wp2_with fail
  refine (HP.out.get HN.out 500 (by decide) ⟨x1, x2, x3, x4⟩ HOK.out _ HG1.out).mono ?_
  rintro e w8 ⟨rfl, F8, hP8, hS8⟩
  have hB8 := hS8.gr.below HP.out.ow0 HN.out
  have hR8 := (hB8.block _ HNX.out).trans HR2.out
  have HP8 := Lib.hid hP8
  have HN8 := Lib.hid (show n0 ≤ w8.heap.size from Nat.le_trans HN.out hB8.size)
  have HB8 := Lib.hid (HB2.out.trans (hB8.mono HNW.out))
  have hC0 : Cells [(⟨w.heap.size, 0, none⟩, .int .i64 x1), (⟨w.heap.size, 1, none⟩, .int .i64 x2), (⟨w.heap.size, 2, none⟩, .int .i64 x3), (⟨w.heap.size, 3, none⟩, .int .i64 x4)] w8 := ⟨blk_cell hR8 0, blk_cell hR8 1, blk_cell hR8 2, blk_cell hR8 3, trivial⟩
  clear y0 y1 y2 y3 hP8 hS8 hB8 hR8
  go_wp2_with fail
  refine wp_region_T (Cells [(⟨w.heap.size, 0, none⟩, .int .i64 x1), (⟨w.heap.size, 1, none⟩, .int .i64 x2), (⟨w.heap.size, 2, none⟩, .int .i64 x3), (⟨w.heap.size, 3, none⟩, .int .i64 x4)]) (fun i => i == 4) (by kernel_rfl) ?_
  have hSss1 := Cells.drew hC0
  have hB_0_s1 : Below w8.heap.size w8 w8.drew := below_drew _
  generalize w8.drew = s1 at hSss1 hB_0_s1 ⊢
  have hB_s1_s1 := Below.refl s1.heap.size s1
  refine wpAnyT_pure (i := 0) (v := ?_) rfl (by kernel_rfl) (by kernel_rfl) (by kernel_rfl) (fun _ _ _ h => h) (by rfl) ?_ ?_
  rotate_left
  · intro w; go_simp; try with_reducible rfl
  simp only [Act.put, List.setIfInBounds_toArray, List.set_cons_zero, List.set_cons_succ, List.getElem_toArray, List.getElem_cons_succ, List.getElem_cons_zero]
  refine wpAnyT_loadW (i := 3) (v := ?_) rfl (by kernel_rfl) (by kernel_rfl) (by kernel_rfl) (by kernel_rfl) (by kernel_rfl) (fun _ _ _ h => h) (Or.inl ⟨by rfl, ?_⟩) hSss1 ?_
  rotate_left
  · intro w hSw; obtain ⟨e0, e1, e2, e3, -⟩ := hSw; go_simp; try with_reducible rfl
  simp only [Act.put, List.setIfInBounds_toArray, List.set_cons_zero, List.set_cons_succ, List.getElem_toArray, List.getElem_cons_succ, List.getElem_cons_zero]
  refine wpAnyT_one (i := 1) (by kernel_rfl) rfl (by rfl) ?_
  refine wp_value (v := sheetV sp) (w' := s1) (by go_simp; rfl) ?_
  refine ⟨fun _ h => h, ?_⟩
  try simp only [Act.put, List.setIfInBounds_toArray, List.set_cons_zero, List.set_cons_succ, List.getElem_toArray, List.getElem_cons_succ, List.getElem_cons_zero]
  refine wpAnyT_one (i := 2) (by kernel_rfl) rfl (by rfl) ?_
  have hbP : Below w8.heap.size w8 s1 := hB_0_s1.trans ((hB_s1_s1).mono (hB_0_s1).size)
  have HPP := Lib.hid (HP8.out.below hbP)
  have hnP : n0 ≤ (s1).heap.size := Nat.le_trans HN8.out hbP.size
  refine wp_enter (f := 11) (args := #[sheetV sp]) (by go_simp) (Pl.newE (n0 := n0) hnP HPP.out.row HPP.out.own (fun b hb => (HPP.out.fv b hb).2) (fun b hb => (HPP.out.fS b hb).2) HPP.out.sp0) ?_
  rintro e w102 ⟨p9, kb9, pb9, F9, rfl, hX, hP9⟩
  have HP9 := Lib.hid hP9
  clear hP9 hbP HPP
  have hB_s1_w102 := below_step hB_s1_s1 hX
  have hB_w102_w102 := Below.refl w102.heap.size w102
  have hSsw102 := Cells.below hB_s1_w102 hSss1
  clear hX
  refine ⟨_, rfl, fun _ _ => hSsw102, ?_⟩
  try simp only [Act.put, List.setIfInBounds_toArray, List.set_cons_zero, List.set_cons_succ, List.getElem_toArray, List.getElem_cons_succ, List.getElem_cons_zero]
  refine wpAnyT_one (i := 4) (by kernel_rfl) rfl (by rfl) ?_
  have hbP : Below w8.heap.size w8 w102 := hB_0_s1.trans ((hB_s1_w102).mono (hB_0_s1).size)
  have hq9 : Pl n0 F9 w102 p9 sp kb9 pb9 newS zs v SS := by first | exact HP9.out | exact HP9.out.below (hB_w102_w102)
  have hnP : n0 ≤ (w102).heap.size := Nat.le_trans HN8.out hbP.size
  refine wp_enter (f := 10) (args := #[.pointer (some ⟨p9, 0, none⟩), .agg #[.int .i64 x1, .int .i64 x2, .int .i64 x3, .int .i64 x4]]) (by go_simp) (hq9.get hnP 500 (by decide) ⟨x1, x2, x3, x4⟩ HOK.out _ HG2.out) ?_
  rintro e w103 ⟨rfl, F10, hP10, hS10⟩
  have HB10 := Lib.hid ((HB8.out.trans (hbP.mono HB8.out.size)).trans ((hS10.gr.below hq9.ow0 hnP).mono HNW.out))
  clear hq9 hnP hP10 hS10 hbP
  refine ⟨_, rfl, fun h => absurd h (by decide), ?_⟩
  try simp only [Act.put, List.setIfInBounds_toArray, List.set_cons_zero, List.set_cons_succ, List.getElem_toArray, List.getElem_cons_succ, List.getElem_cons_zero]
  refine wpAnyT_pure (i := 5) (v := ?_) rfl (by kernel_rfl) (by kernel_rfl) (by kernel_rfl) (fun _ _ _ h => h) (by rfl) ?_ ?_
  rotate_left
  · intro w; go_simp; try with_reducible rfl
  simp only [Act.put, List.setIfInBounds_toArray, List.set_cons_zero, List.set_cons_succ, List.getElem_toArray, List.getElem_cons_succ, List.getElem_cons_zero]
  refine wpAnyT_pure (i := 6) (v := ?_) rfl (by kernel_rfl) (by kernel_rfl) (by kernel_rfl) (fun _ _ _ h => h) (by rfl) ?_ ?_
  rotate_left
  · intro w; go_simp; try with_reducible rfl
  simp only [Act.put, List.setIfInBounds_toArray, List.set_cons_zero, List.set_cons_succ, List.getElem_toArray, List.getElem_cons_succ, List.getElem_cons_zero]
  refine wpAnyT_pure (i := 7) (v := ?_) rfl (by kernel_rfl) (by kernel_rfl) (by kernel_rfl) (fun _ _ _ h => h) (by rfl) ?_ ?_
  rotate_left
  · intro w; go_simp; try with_reducible rfl
  simp only [Act.put, List.setIfInBounds_toArray, List.set_cons_zero, List.set_cons_succ, List.getElem_toArray, List.getElem_cons_succ, List.getElem_cons_zero]
  refine wpAnyT_pure (i := 8) (v := ?_) rfl (by kernel_rfl) (by kernel_rfl) (by kernel_rfl) (fun _ _ _ h => h) (by rfl) ?_ ?_
  rotate_left
  · intro w; go_simp; try with_reducible rfl
  simp only [Act.put, List.setIfInBounds_toArray, List.set_cons_zero, List.set_cons_succ, List.getElem_toArray, List.getElem_cons_succ, List.getElem_cons_zero]
  refine wpAnyT_pure (i := 9) (v := ?_) rfl (by kernel_rfl) (by kernel_rfl) (by kernel_rfl) (fun _ _ _ h => h) (by rfl) ?_ ?_
  rotate_left
  · intro w; go_simp; try with_reducible rfl
  simp only [Act.put, List.setIfInBounds_toArray, List.set_cons_zero, List.set_cons_succ, List.getElem_toArray, List.getElem_cons_succ, List.getElem_cons_zero]
  refine wpAnyT_done (by kernel_rfl) ?_ _
  go_wp2_with fail
  go_ret
  exact ⟨rfl, HB10.out⟩
end Go.Proofs.Ytmmeieangbcfaaa
