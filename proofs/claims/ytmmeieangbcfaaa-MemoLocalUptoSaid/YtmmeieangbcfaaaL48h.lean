/- Layer 48: the law MemoEnds (its second form). -/
import Derived.Test.YtmmeieangbcfaaaL48g
set_option linter.unusedSimpArgs false
namespace Go.Proofs.Ytmmeieangbcfaaa
open Go.RowKit Go

/-- The law's Calls. -/
abbrev callsT : Ty := .pr (.sl stepT) (.pr formT (.pr cellT .un))
theorem calls_bulk (x : callsT.den) (h : callsT.bulk x ≤ 1048576) : (show List stepT.den from x.1).length ≤ 1048576 := by
  obtain ⟨s, r⟩ := x
  refine step_bulk s (Nat.le_trans ?_ h)
  show _ ≤ (Ty.sl stepT).bulk s + _
  omega
theorem form_split {S : Nat → Prop} {w : World} {cs : List Value} {f : formT.den} (h : Rd formT S w cs f) : ∃ ta tl tc, cs = [.int .i64 (fm f).cell.st, .int .i64 (fm f).cell.en, .int .i64 (fm f).cell.ot, .int .i64 (fm f).cell.pe, .slice ta tl tc, .int .i16 (fm f).add, .int .u8 (fm f).md, .int .i8 (fm f).skip] ∧ (fm f).cell.ok ∧ (fm f).terms.length = tl := by
  obtain ⟨⟨x1, x2, x3, x4, ⟨⟩⟩, ts, ad, md, sk, ⟨⟩⟩ := f
  obtain ⟨cc, rr, rfl, ⟨c1, r1, rfl, ⟨rfl, h1⟩, c2, r2, rfl, ⟨rfl, h2⟩, c3, r3, rfl, ⟨rfl, h3⟩, c4, r4, rfl, ⟨rfl, h4⟩, rfl⟩, c5, r5, rfl, h5, c6, r6, rfl, ⟨rfl, h6⟩, c7, r7, rfl, ⟨rfl, h7⟩, c8, r8, rfl, ⟨rfl, h8⟩, rfl⟩ := h
  obtain ⟨ta, tl, tc, rfl, h5'⟩ := id h5
  have hl : ts.length = tl := h5'.1
  exact ⟨ta, tl, tc, rfl, ⟨h1, h2, h3, h4⟩, by show (List.map _ ts).length = _; rw [List.length_map]; exact hl⟩
theorem calls_split {S : Nat → Prop} {w : World} {cs : List Value} {x : callsT.den} (h : Rd callsT S w cs x) : ∃ (a : Option Addr) (len cap : Nat) (ta : Option Addr) (tl tc : Nat), cs = [.slice a len cap, .int .i64 (fm x.2.1).cell.st, .int .i64 (fm x.2.1).cell.en, .int .i64 (fm x.2.1).cell.ot, .int .i64 (fm x.2.1).cell.pe, .slice ta tl tc, .int .i16 (fm x.2.1).add, .int .u8 (fm x.2.1).md, .int .i8 (fm x.2.1).skip, .int .i64 (c4 x.2.2.1).st, .int .i64 (c4 x.2.2.1).en, .int .i64 (c4 x.2.2.1).ot, .int .i64 (c4 x.2.2.1).pe] ∧ Rd (.sl stepT) S w [.slice a len cap] x.1 ∧ Rd formT S w [.int .i64 (fm x.2.1).cell.st, .int .i64 (fm x.2.1).cell.en, .int .i64 (fm x.2.1).cell.ot, .int .i64 (fm x.2.1).cell.pe, .slice ta tl tc, .int .i16 (fm x.2.1).add, .int .u8 (fm x.2.1).md, .int .i8 (fm x.2.1).skip] x.2.1 ∧ (fm x.2.1).cell.ok ∧ (c4 x.2.2.1).ok ∧ (fm x.2.1).terms.length = tl := by
  obtain ⟨ys, f, ⟨y1, y2, y3, y4, ⟨⟩⟩, ⟨⟩⟩ := x
  obtain ⟨cs1, r1, rfl, hs, cs2, r2, rfl, hf, cs3, r3, rfl, ⟨d1, s1, rfl, ⟨rfl, g1⟩, d2, s2, rfl, ⟨rfl, g2⟩, d3, s3, rfl, ⟨rfl, g3⟩, d4, s4, rfl, ⟨rfl, g4⟩, rfl⟩, rfl⟩ := h
  obtain ⟨a, len, cap, rfl, -⟩ := id hs
  obtain ⟨ta, tl, tc, rfl, h1, h2⟩ := form_split hf
  exact ⟨a, len, cap, ta, tl, tc, rfl, hs, hf, h1, ⟨g1, g2, g3, g4⟩, h2⟩
set_option maxRecDepth 20000 in
set_option maxHeartbeats 2000000 in
theorem endsWalk48 (w : World) (c0 : List Value) (xs : (Ty.sl formT).den) (r0 : Rd (.sl formT) (fun b => b < w.heap.size) w c0 xs) (s0 : (Ty.sl formT).bulk xs ≤ 1048576) (c1 : List Value) (x : callsT.den) (r1 : Rd callsT (fun b => b < w.heap.size) w c1 x) (s1 : callsT.bulk x ≤ 1048576) :
    Calls Try.prog 5 #[valOf (.sl formT) c0, valOf callsT c1] w fun e w' => e = .returned (.bool true) ∧ Below w.heap.size w w' := by
  change List formT.den at xs
  obtain ⟨a, len, cap, rfl, hl, hlc, hcm, -⟩ := id r0
  obtain ⟨a2, len2, cap2, ta, tl, tc, rfl, hys, hff, fok, cok, -⟩ := calls_split r1
  have hl2 : (show List stepT.den from x.1).length = len2 := hys.sl_flat.1
  have HX := Lib.hid r0
  have HY := Lib.hid hys
  have HL := Lib.hid (show len ≤ 1048576 from by have h : xs.length = len := hl; rw [← h]; exact form_bulk xs s0)
  have HL2 := Lib.hid (show len2 ≤ 1048576 from by rw [← hl2]; exact calls_bulk x s1)
  have hgd : Try.prog.eqGuardType Try.prog.depth 26 = false := by kernel_rfl
  clear hl hl2 r0 r1 s0 s1 hff
  generalize x.1 = ys at HY
  generalize c4 x.2.2.1 = cc at cok ⊢
  generalize fm x.2.1 = fo at fok ⊢
  obtain ⟨x1, x2, x3, x4⟩ := cc
  obtain ⟨⟨q1, q2, q3, q4⟩, ft, fa, fmd, fs⟩ := fo
  have HOK := Lib.hid cok
  have FOK := Lib.hid fok
  clear fok cok
  change Calls _ _ #[.slice a len cap, .agg #[.slice a2 len2 cap2, .int .i64 q1, .int .i64 q2, .int .i64 q3, .int .i64 q4, .slice ta tl tc, .int .i16 fa, .int .u8 fmd, .int .i8 fs, .int .i64 x1, .int .i64 x2, .int .i64 x3, .int .i64 x4]] _ _
  go_enter Try.func5, Try.ntmps5
  go_wp2_with fail
  have hb1 := heap_alloc_new w (.cells #[.slice a2 len2 cap2, .int .i64 q1, .int .i64 q2, .int .i64 q3, .int .i64 q4, .slice ta tl tc, .int .i16 fa, .int .u8 fmd, .int .i8 fs, .int .i64 x1, .int .i64 x2, .int .i64 x3, .int .i64 x4] 43)
  have hB1 := (Below.refl _ w).alloc (Nat.le_refl _) (.cells #[.slice a2 len2 cap2, .int .i64 q1, .int .i64 q2, .int .i64 q3, .int .i64 q4, .slice ta tl tc, .int .i16 fa, .int .u8 fmd, .int .i8 fs, .int .i64 x1, .int .i64 x2, .int .i64 x3, .int .i64 x4] 43)
  generalize w.alloc (.cells #[.slice a2 len2 cap2, .int .i64 q1, .int .i64 q2, .int .i64 q3, .int .i64 q4, .slice ta tl tc, .int .i16 fa, .int .u8 fmd, .int .i8 fs, .int .i64 x1, .int .i64 x2, .int .i64 x3, .int .i64 x4] 43) = w0 at *
  refine (awake48 _).mono ?_
  rintro e w1 ⟨rfl, hB2⟩
  have hb2 := (hB2.block _ (blk_lt hb1)).trans hb1
  have HB := Lib.hid (below_step hB1 hB2)
  have HBX := Lib.hid hb2
  have y0 := blk_cell hb2 0
  simp at y0
  clear hB1 hB2 hb1 hb2
  go_wp2_with fail
  refine (play48 w1 a len cap xs (HX.out.alloc HB.out) a2 len2 cap2 ys (HY.out.alloc HB.out) HL.out HL2.out).mono ?_
  rintro e w2 hplay
  clear y0
  rcases hplay with ⟨rfl, hB⟩ | ⟨n0, p, sp, kb, pb, F, s, zs, v, SS, rfl, hB, hn, hn2, hP, -, hT, hS⟩
  · have HB2 := Lib.hid hB
    clear hB
    go_wp2_with fail
    go_ret
    exact ⟨rfl, below_step HB.out HB2.out⟩
  have hr2 := (hB.block _ (blk_lt HBX.out)).trans HBX.out
  obtain ⟨s1, nw, hg1, hT1, -, -, -, -, -, hck⟩ := top_get0 hS (by decide) hT (by decide) ⟨x1, x2, x3, x4⟩
  have hT1' := top_reset hT1
  have hg2 := top_chk hT1' hck
  obtain ⟨s3, hg3, hend⟩ := ends_ok hS (by decide) hT1' (by decide) ⟨x1, x2, x3, x4⟩ ⟨q1, q2, q3, q4⟩ hck
  generalize valV (zs.map fm) ⟨x1, x2, x3, x4⟩ = vv at hg1 hg2 hg3
  have HG1 := Lib.hid hg1
  have HG2 := Lib.hid hg2
  have HG3 := Lib.hid hg3
  have HEND := Lib.hid hend
  have HP := Lib.hid hP
  have HN := Lib.hid hn2
  have HNW := Lib.hid (show w.heap.size ≤ n0 from Nat.le_trans HB.out.size hn)
  have HNX := Lib.hid (show w.heap.size < n0 from Nat.lt_of_lt_of_le (blk_lt HBX.out) hn)
  have HB2 := Lib.hid (below_step HB.out hB)
  have HR2 := Lib.hid hr2
  have y9 := blk_cell hr2 9
  have y10 := blk_cell hr2 10
  have y11 := blk_cell hr2 11
  have y12 := blk_cell hr2 12
  simp at y9 y10 y11 y12
  clear hg1 hg2 hg3 hend hP hT hS hT1 hT1' hn hn2 hB hr2 hck
  go_wp2_with fail
  refine (HP.out.get HN.out 500 (by decide) ⟨x1, x2, x3, x4⟩ HOK.out _ HG1.out).mono ?_
  rintro e w8 ⟨rfl, F8, hP8, hS8⟩
  have hB8 := hS8.gr.below HP.out.ow0 HN.out
  have HR8 := Lib.hid ((hB8.block _ HNX.out).trans HR2.out)
  have HP8 := Lib.hid hP8
  have HN8 := Lib.hid (show n0 ≤ w8.heap.size from Nat.le_trans HN.out hB8.size)
  have HB8 := Lib.hid (HB2.out.trans (hB8.mono HNW.out))
  clear y9 y10 y11 y12 hP8 hS8 hB8
  go_wp2_with fail
  refine (HP8.out.reset HN8.out).mono ?_
  rintro e w9 ⟨rfl, hP9, hS9⟩
  have hB9 := hS9.gr.below HP8.out.ow0 HN8.out
  have hr9 := (hB9.block _ HNX.out).trans HR8.out
  have HR9 := Lib.hid hr9
  have HP9 := Lib.hid hP9
  have HN9 := Lib.hid (show n0 ≤ w9.heap.size from Nat.le_trans HN8.out hB9.size)
  have HB9 := Lib.hid (HB8.out.trans (hB9.mono HNW.out))
  have y9 := blk_cell hr9 9
  have y10 := blk_cell hr9 10
  have y11 := blk_cell hr9 11
  have y12 := blk_cell hr9 12
  simp at y9 y10 y11 y12
  clear hP9 hS9 hB9 hr9
  go_wp2_with fail
  refine (HP9.out.get HN9.out 500 (by decide) ⟨x1, x2, x3, x4⟩ HOK.out _ HG2.out).mono ?_
  rintro e w10 ⟨rfl, F10, hP10, hS10⟩
  have hB10 := hS10.gr.below HP9.out.ow0 HN9.out
  have HR10 := Lib.hid ((hB10.block _ HNX.out).trans HR9.out)
  have HP10 := Lib.hid hP10
  have HN10 := Lib.hid (show n0 ≤ w10.heap.size from Nat.le_trans HN9.out hB10.size)
  have HB10 := Lib.hid (HB9.out.trans (hB10.mono HNW.out))
  clear y9 y10 y11 y12 hP10 hS10 hB10
  go_wp2_with fail
  refine (HP10.out.computed (Nat.zero_le _)).mono ?_
  rintro e w11 ⟨v11, rfl, hB11, hO11⟩
  obtain ⟨av, lv, cv, rfl, hlv⟩ := hO11.slice
  obtain rfl : lv = 0 := hlv.1
  have hr11 := (hB11.block _ (blk_lt HR10.out)).trans HR10.out
  have HR11 := Lib.hid hr11
  have HP11 := Lib.hid (HP10.out.below hB11)
  have HN11 := Lib.hid (show n0 ≤ w11.heap.size from Nat.le_trans HN10.out hB11.size)
  have HB11 := Lib.hid (below_step HB10.out hB11)
  have y1 := blk_cell hr11 1
  have y2 := blk_cell hr11 2
  have y3 := blk_cell hr11 3
  have y4 := blk_cell hr11 4
  simp at y1 y2 y3 y4
  clear hO11 hlv hB11 hr11
  go_wp2_with fail
  refine (HP11.out.change HN11.out ⟨q1, q2, q3, q4⟩ FOK.out).mono ?_
  rintro e w12 ⟨rfl, hP12, hS12⟩
  have hB12 := hS12.gr.below HP11.out.ow0 HN11.out
  have hr12 := (hB12.block _ HNX.out).trans HR11.out
  have HR12 := Lib.hid hr12
  have HP12 := Lib.hid hP12
  have HN12 := Lib.hid (show n0 ≤ w12.heap.size from Nat.le_trans HN11.out hB12.size)
  have HB12 := Lib.hid (HB11.out.trans (hB12.mono HNW.out))
  clear y1 y2 y3 y4
  have y9 := blk_cell hr12 9
  have y10 := blk_cell hr12 10
  have y11 := blk_cell hr12 11
  have y12 := blk_cell hr12 12
  simp at y9 y10 y11 y12
  clear hP12 hS12 hB12 hr12
  go_wp2_with fail
  refine (HP12.out.get HN12.out 500 (by decide) ⟨x1, x2, x3, x4⟩ HOK.out _ HG3.out).mono ?_
  rintro e w13 ⟨rfl, F13, hP13, hS13⟩
  have hB13 := hS13.gr.below HP12.out.ow0 HN12.out
  have HR13 := Lib.hid ((hB13.block _ HNX.out).trans HR12.out)
  have HP13 := Lib.hid hP13
  have HB13 := Lib.hid (HB12.out.trans (hB13.mono HNW.out))
  clear y9 y10 y11 y12 hP13 hS13 hB13
  go_wp2_with fail
  refine (HP13.out.computed (by rcases HEND.out with h | h <;> rw [h] <;> first | exact Nat.zero_le _ | exact (show 1 ≤ most by decide))).mono ?_
  rintro e w14 ⟨v14, rfl, hB14, hO14⟩
  obtain ⟨av2, lv2, cv2, rfl, hlv2⟩ := hO14.slice
  have hr14 := (hB14.block _ (blk_lt HR13.out)).trans HR13.out
  have HB14 := Lib.hid (below_step HB13.out hB14)
  have heq := fun W => cell_eql W ⟨q1, q2, q3, q4⟩ ⟨q1, q2, q3, q4⟩
  rw [decide_eq_true rfl] at heq
  unfold C4.v at heq
  simp only at heq
  clear hB14 HG1 HG2 HG3
  rcases HEND.out with hc | hc
  · rw [hc] at hlv2
    obtain rfl : lv2 = 0 := hlv2.1
    have hC0 : Cells [(⟨w.heap.size, 1, none⟩, .int .i64 q1)] w14 := ⟨blk_cell hr14 1, trivial⟩
    clear hO14 hlv2 hc hr14 HEND
    go_wp2_with fail
    refine wp_region_T (Cells [(⟨w.heap.size, 1, none⟩, .int .i64 q1)]) (fun _ => false) (by kernel_rfl) ?_
    have hSss1 := Cells.drew hC0
    have hB_0_s1 : Below w14.heap.size w14 w14.drew := below_drew _
    generalize w14.drew = s1 at hSss1 hB_0_s1 ⊢
    have hB_s1_s1 := Below.refl s1.heap.size s1
    refine wpAnyT_pure (i := 0) (v := ?_) rfl (by kernel_rfl) (by kernel_rfl) (by kernel_rfl) (fun _ _ _ h => h) (by rfl) ?_ ?_
    rotate_left
    · intro w; go_simp; try with_reducible rfl
    simp only [Act.put, List.setIfInBounds_toArray, List.set_cons_zero, List.set_cons_succ, List.getElem_toArray, List.getElem_cons_succ, List.getElem_cons_zero]
    refine wpAnyT_pure (i := 1) (v := ?_) rfl (by kernel_rfl) (by kernel_rfl) (by kernel_rfl) (fun _ _ _ h => h) (by rfl) ?_ ?_
    rotate_left
    · intro w; go_simp; try with_reducible rfl
    simp only [Act.put, List.setIfInBounds_toArray, List.set_cons_zero, List.set_cons_succ, List.getElem_toArray, List.getElem_cons_succ, List.getElem_cons_zero]
    refine wpAnyT_pure (i := 2) (v := ?_) rfl (by kernel_rfl) (by kernel_rfl) (by kernel_rfl) (fun _ _ _ h => h) (by rfl) ?_ ?_
    rotate_left
    · intro w; go_simp; try with_reducible rfl
    simp only [Act.put, List.setIfInBounds_toArray, List.set_cons_zero, List.set_cons_succ, List.getElem_toArray, List.getElem_cons_succ, List.getElem_cons_zero]
    refine wpAnyT_pure (i := 3) (v := ?_) rfl (by kernel_rfl) (by kernel_rfl) (by kernel_rfl) (fun _ _ _ h => h) (by rfl) ?_ ?_
    rotate_left
    · intro w; go_simp; try with_reducible rfl
    simp only [Act.put, List.setIfInBounds_toArray, List.set_cons_zero, List.set_cons_succ, List.getElem_toArray, List.getElem_cons_succ, List.getElem_cons_zero]
    refine wpAnyT_pure (i := 4) (v := ?_) rfl (by kernel_rfl) (by kernel_rfl) (by kernel_rfl) (fun _ _ _ h => h) (by rfl) ?_ ?_
    rotate_left
    · intro w; go_simp; try with_reducible rfl
    simp only [Act.put, List.setIfInBounds_toArray, List.set_cons_zero, List.set_cons_succ, List.getElem_toArray, List.getElem_cons_succ, List.getElem_cons_zero]
    refine wpAnyT_pure (i := 5) (v := ?_) rfl (by kernel_rfl) (by kernel_rfl) (by kernel_rfl) (fun _ _ _ h => h) (by rfl) ?_ ?_
    rotate_left
    · intro w; go_simp; try with_reducible rfl
    simp only [Act.put, List.setIfInBounds_toArray, List.set_cons_zero, List.set_cons_succ, List.getElem_toArray, List.getElem_cons_succ, List.getElem_cons_zero]
    refine wpAnyT_pure (i := 6) (v := ?_) rfl (by kernel_rfl) (by kernel_rfl) (by kernel_rfl) (fun _ _ _ h => h) (by rfl) ?_ ?_
    rotate_left
    · intro w; go_simp; try with_reducible rfl
    simp only [Act.put, List.setIfInBounds_toArray, List.set_cons_zero, List.set_cons_succ, List.getElem_toArray, List.getElem_cons_succ, List.getElem_cons_zero]
    refine wpAnyT_pure (i := 7) (v := ?_) rfl (by kernel_rfl) (by kernel_rfl) (by kernel_rfl) (fun _ _ _ h => h) (by rfl) ?_ ?_
    rotate_left
    · intro w; go_simp; try with_reducible rfl
    simp only [Act.put, List.setIfInBounds_toArray, List.set_cons_zero, List.set_cons_succ, List.getElem_toArray, List.getElem_cons_succ, List.getElem_cons_zero]
    refine wpAnyT_pure (i := 8) (v := ?_) rfl (by kernel_rfl) (by kernel_rfl) (by kernel_rfl) (fun _ _ _ h => h) (by rfl) ?_ ?_
    rotate_left
    · intro w; go_simp; try with_reducible rfl
    simp only [Act.put, List.setIfInBounds_toArray, List.set_cons_zero, List.set_cons_succ, List.getElem_toArray, List.getElem_cons_succ, List.getElem_cons_zero]
    refine wpAnyT_pure (i := 9) (v := ?_) rfl (by kernel_rfl) (by kernel_rfl) (by kernel_rfl) (fun _ _ _ h => h) (by rfl) ?_ ?_
    rotate_left
    · intro w; go_simp; try with_reducible rfl
    simp only [Act.put, List.setIfInBounds_toArray, List.set_cons_zero, List.set_cons_succ, List.getElem_toArray, List.getElem_cons_succ, List.getElem_cons_zero]
    refine wpAnyT_pure (i := 10) (v := ?_) rfl (by kernel_rfl) (by kernel_rfl) (by kernel_rfl) (fun _ _ _ h => h) (by rfl) ?_ ?_
    rotate_left
    · intro w; go_simp; try with_reducible rfl
    simp only [Act.put, List.setIfInBounds_toArray, List.set_cons_zero, List.set_cons_succ, List.getElem_toArray, List.getElem_cons_succ, List.getElem_cons_zero]
    refine wpAnyT_pure (i := 11) (v := ?_) rfl (by kernel_rfl) (by kernel_rfl) (by kernel_rfl) (fun _ _ _ h => h) (by rfl) ?_ ?_
    rotate_left
    · intro w; go_simp; try with_reducible rfl
    simp only [Act.put, List.setIfInBounds_toArray, List.set_cons_zero, List.set_cons_succ, List.getElem_toArray, List.getElem_cons_succ, List.getElem_cons_zero]
    refine wpAnyT_skip (i := 12) rfl (by kernel_rfl) (by kernel_rfl) (by kernel_rfl) (fun _ _ _ h => h) (by rfl) ?_
    simp only [Act.put, List.setIfInBounds_toArray, List.set_cons_zero, List.set_cons_succ, List.getElem_toArray, List.getElem_cons_succ, List.getElem_cons_zero]
    refine wpAnyT_skip (i := 13) rfl (by kernel_rfl) (by kernel_rfl) (by kernel_rfl) (fun _ _ _ h => h) (by rfl) ?_
    simp only [Act.put, List.setIfInBounds_toArray, List.set_cons_zero, List.set_cons_succ, List.getElem_toArray, List.getElem_cons_succ, List.getElem_cons_zero]
    refine wpAnyT_skip (i := 14) rfl (by kernel_rfl) (by kernel_rfl) (by kernel_rfl) (fun _ _ _ h => h) (by rfl) ?_
    simp only [Act.put, List.setIfInBounds_toArray, List.set_cons_zero, List.set_cons_succ, List.getElem_toArray, List.getElem_cons_succ, List.getElem_cons_zero]
    refine wpAnyT_skip (i := 15) rfl (by kernel_rfl) (by kernel_rfl) (by kernel_rfl) (fun _ _ _ h => h) (by rfl) ?_
    simp only [Act.put, List.setIfInBounds_toArray, List.set_cons_zero, List.set_cons_succ, List.getElem_toArray, List.getElem_cons_succ, List.getElem_cons_zero]
    refine wpAnyT_skip (i := 16) rfl (by kernel_rfl) (by kernel_rfl) (by kernel_rfl) (fun _ _ _ h => h) (by rfl) ?_
    simp only [Act.put, List.setIfInBounds_toArray, List.set_cons_zero, List.set_cons_succ, List.getElem_toArray, List.getElem_cons_succ, List.getElem_cons_zero]
    refine wpAnyT_skip (i := 17) rfl (by kernel_rfl) (by kernel_rfl) (by kernel_rfl) (fun _ _ _ h => h) (by rfl) ?_
    simp only [Act.put, List.setIfInBounds_toArray, List.set_cons_zero, List.set_cons_succ, List.getElem_toArray, List.getElem_cons_succ, List.getElem_cons_zero]
    refine wpAnyT_skip (i := 18) rfl (by kernel_rfl) (by kernel_rfl) (by kernel_rfl) (fun _ _ _ h => h) (by rfl) ?_
    simp only [Act.put, List.setIfInBounds_toArray, List.set_cons_zero, List.set_cons_succ, List.getElem_toArray, List.getElem_cons_succ, List.getElem_cons_zero]
    refine wpAnyT_skip (i := 19) rfl (by kernel_rfl) (by kernel_rfl) (by kernel_rfl) (fun _ _ _ h => h) (by rfl) ?_
    simp only [Act.put, List.setIfInBounds_toArray, List.set_cons_zero, List.set_cons_succ, List.getElem_toArray, List.getElem_cons_succ, List.getElem_cons_zero]
    refine wpAnyT_skip (i := 20) rfl (by kernel_rfl) (by kernel_rfl) (by kernel_rfl) (fun _ _ _ h => h) (by rfl) ?_
    simp only [Act.put, List.setIfInBounds_toArray, List.set_cons_zero, List.set_cons_succ, List.getElem_toArray, List.getElem_cons_succ, List.getElem_cons_zero]
    refine wpAnyT_skip (i := 21) rfl (by kernel_rfl) (by kernel_rfl) (by kernel_rfl) (fun _ _ _ h => h) (by rfl) ?_
    simp only [Act.put, List.setIfInBounds_toArray, List.set_cons_zero, List.set_cons_succ, List.getElem_toArray, List.getElem_cons_succ, List.getElem_cons_zero]
    refine wpAnyT_skip (i := 22) rfl (by kernel_rfl) (by kernel_rfl) (by kernel_rfl) (fun _ _ _ h => h) (by rfl) ?_
    simp only [Act.put, List.setIfInBounds_toArray, List.set_cons_zero, List.set_cons_succ, List.getElem_toArray, List.getElem_cons_succ, List.getElem_cons_zero]
    refine wpAnyT_skip (i := 23) rfl (by kernel_rfl) (by kernel_rfl) (by kernel_rfl) (fun _ _ _ h => h) (by rfl) ?_
    simp only [Act.put, List.setIfInBounds_toArray, List.set_cons_zero, List.set_cons_succ, List.getElem_toArray, List.getElem_cons_succ, List.getElem_cons_zero]
    refine wpAnyT_pure (i := 24) (v := ?_) rfl (by kernel_rfl) (by kernel_rfl) (by kernel_rfl) (fun _ _ _ h => h) (by rfl) ?_ ?_
    rotate_left
    · intro w; go_simp; try with_reducible rfl
    simp only [Act.put, List.setIfInBounds_toArray, List.set_cons_zero, List.set_cons_succ, List.getElem_toArray, List.getElem_cons_succ, List.getElem_cons_zero]
    refine wpAnyT_pure (i := 25) (v := ?_) rfl (by kernel_rfl) (by kernel_rfl) (by kernel_rfl) (fun _ _ _ h => h) (by rfl) ?_ ?_
    rotate_left
    · intro w; go_simp; try with_reducible rfl
    simp only [Act.put, List.setIfInBounds_toArray, List.set_cons_zero, List.set_cons_succ, List.getElem_toArray, List.getElem_cons_succ, List.getElem_cons_zero]
    refine wpAnyT_pure (i := 26) (v := ?_) rfl (by kernel_rfl) (by kernel_rfl) (by kernel_rfl) (fun _ _ _ h => h) (by rfl) ?_ ?_
    rotate_left
    · intro w; go_simp; try with_reducible rfl
    simp only [Act.put, List.setIfInBounds_toArray, List.set_cons_zero, List.set_cons_succ, List.getElem_toArray, List.getElem_cons_succ, List.getElem_cons_zero]
    refine wpAnyT_done (by kernel_rfl) ?_ _
    have hbP : Below w14.heap.size w14 s1 := hB_0_s1.trans ((hB_s1_s1).mono (hB_0_s1).size)
    go_wp2_with fail
    go_ret
    exact ⟨rfl, below_step HB14.out hbP⟩
  · rw [hc] at hlv2 hO14
    obtain rfl : lv2 = 1 := hlv2.1
    obtain ⟨b, off, rfl, -, m0, m1, m2, m3, -⟩ := cell_at (rdOwn hO14) 0 (by simp)
    simp only [Nat.zero_mul, Nat.add_zero, List.map_cons, List.getElem_cons_zero, C4.d, c4] at m0 m1 m2 m3
    have hC0 : Cells [(⟨b, off, none⟩, .int .i64 q1), (⟨b, off + 1, none⟩, .int .i64 q2), (⟨b, off + 2, none⟩, .int .i64 q3), (⟨b, off + 3, none⟩, .int .i64 q4), (⟨w.heap.size, 1, none⟩, .int .i64 q1), (⟨w.heap.size, 2, none⟩, .int .i64 q2), (⟨w.heap.size, 3, none⟩, .int .i64 q3), (⟨w.heap.size, 4, none⟩, .int .i64 q4)] w14 := ⟨m0, m1, m2, m3, blk_cell hr14 1, blk_cell hr14 2, blk_cell hr14 3, blk_cell hr14 4, trivial⟩
    clear hO14 hlv2 hc hr14 HEND m0 m1 m2 m3
    go_wp2_with fail
    refine wp_region_T (Cells [(⟨b, off, none⟩, .int .i64 q1), (⟨b, off + 1, none⟩, .int .i64 q2), (⟨b, off + 2, none⟩, .int .i64 q3), (⟨b, off + 3, none⟩, .int .i64 q4), (⟨w.heap.size, 1, none⟩, .int .i64 q1), (⟨w.heap.size, 2, none⟩, .int .i64 q2), (⟨w.heap.size, 3, none⟩, .int .i64 q3), (⟨w.heap.size, 4, none⟩, .int .i64 q4)]) (fun _ => false) (by kernel_rfl) ?_
    have hSss2 := Cells.drew hC0
    have hB_0_s2 : Below w14.heap.size w14 w14.drew := below_drew _
    generalize w14.drew = s2 at hSss2 hB_0_s2 ⊢
    have hB_s2_s2 := Below.refl s2.heap.size s2
    refine wpAnyT_pure (i := 0) (v := ?_) rfl (by kernel_rfl) (by kernel_rfl) (by kernel_rfl) (fun _ _ _ h => h) (by rfl) ?_ ?_
    rotate_left
    · intro w; go_simp; try with_reducible rfl
    simp only [Act.put, List.setIfInBounds_toArray, List.set_cons_zero, List.set_cons_succ, List.getElem_toArray, List.getElem_cons_succ, List.getElem_cons_zero]
    refine wpAnyT_pure (i := 1) (v := ?_) rfl (by kernel_rfl) (by kernel_rfl) (by kernel_rfl) (fun _ _ _ h => h) (by rfl) ?_ ?_
    rotate_left
    · intro w; go_simp; try with_reducible rfl
    simp only [Act.put, List.setIfInBounds_toArray, List.set_cons_zero, List.set_cons_succ, List.getElem_toArray, List.getElem_cons_succ, List.getElem_cons_zero]
    refine wpAnyT_pure (i := 2) (v := ?_) rfl (by kernel_rfl) (by kernel_rfl) (by kernel_rfl) (fun _ _ _ h => h) (by rfl) ?_ ?_
    rotate_left
    · intro w; go_simp; try with_reducible rfl
    simp only [Act.put, List.setIfInBounds_toArray, List.set_cons_zero, List.set_cons_succ, List.getElem_toArray, List.getElem_cons_succ, List.getElem_cons_zero]
    refine wpAnyT_pure (i := 3) (v := ?_) rfl (by kernel_rfl) (by kernel_rfl) (by kernel_rfl) (fun _ _ _ h => h) (by rfl) ?_ ?_
    rotate_left
    · intro w; go_simp; try with_reducible rfl
    simp only [Act.put, List.setIfInBounds_toArray, List.set_cons_zero, List.set_cons_succ, List.getElem_toArray, List.getElem_cons_succ, List.getElem_cons_zero]
    refine wpAnyT_pure (i := 4) (v := ?_) rfl (by kernel_rfl) (by kernel_rfl) (by kernel_rfl) (fun _ _ _ h => h) (by rfl) ?_ ?_
    rotate_left
    · intro w; go_simp; try with_reducible rfl
    simp only [Act.put, List.setIfInBounds_toArray, List.set_cons_zero, List.set_cons_succ, List.getElem_toArray, List.getElem_cons_succ, List.getElem_cons_zero]
    refine wpAnyT_pure (i := 5) (v := ?_) rfl (by kernel_rfl) (by kernel_rfl) (by kernel_rfl) (fun _ _ _ h => h) (by rfl) ?_ ?_
    rotate_left
    · intro w; go_simp; try with_reducible rfl
    simp only [Act.put, List.setIfInBounds_toArray, List.set_cons_zero, List.set_cons_succ, List.getElem_toArray, List.getElem_cons_succ, List.getElem_cons_zero]
    refine wpAnyT_pure (i := 6) (v := ?_) rfl (by kernel_rfl) (by kernel_rfl) (by kernel_rfl) (fun _ _ _ h => h) (by rfl) ?_ ?_
    rotate_left
    · intro w; go_simp; try with_reducible rfl
    simp only [Act.put, List.setIfInBounds_toArray, List.set_cons_zero, List.set_cons_succ, List.getElem_toArray, List.getElem_cons_succ, List.getElem_cons_zero]
    refine wpAnyT_pure (i := 7) (v := ?_) rfl (by kernel_rfl) (by kernel_rfl) (by kernel_rfl) (fun _ _ _ h => h) (by rfl) ?_ ?_
    rotate_left
    · intro w; go_simp; try with_reducible rfl
    simp only [Act.put, List.setIfInBounds_toArray, List.set_cons_zero, List.set_cons_succ, List.getElem_toArray, List.getElem_cons_succ, List.getElem_cons_zero]
    refine wpAnyT_pure (i := 8) (v := ?_) rfl (by kernel_rfl) (by kernel_rfl) (by kernel_rfl) (fun _ _ _ h => h) (by rfl) ?_ ?_
    rotate_left
    · intro w; go_simp; try with_reducible rfl
    simp only [Act.put, List.setIfInBounds_toArray, List.set_cons_zero, List.set_cons_succ, List.getElem_toArray, List.getElem_cons_succ, List.getElem_cons_zero]
    refine wpAnyT_pure (i := 9) (v := ?_) rfl (by kernel_rfl) (by kernel_rfl) (by kernel_rfl) (fun _ _ _ h => h) (by rfl) ?_ ?_
    rotate_left
    · intro w; go_simp; try with_reducible rfl
    simp only [Act.put, List.setIfInBounds_toArray, List.set_cons_zero, List.set_cons_succ, List.getElem_toArray, List.getElem_cons_succ, List.getElem_cons_zero]
    refine wpAnyT_pure (i := 10) (v := ?_) rfl (by kernel_rfl) (by kernel_rfl) (by kernel_rfl) (fun _ _ _ h => h) (by rfl) ?_ ?_
    rotate_left
    · intro w; go_simp; try with_reducible rfl
    simp only [Act.put, List.setIfInBounds_toArray, List.set_cons_zero, List.set_cons_succ, List.getElem_toArray, List.getElem_cons_succ, List.getElem_cons_zero]
    refine wpAnyT_pure (i := 11) (v := ?_) rfl (by kernel_rfl) (by kernel_rfl) (by kernel_rfl) (fun _ _ _ h => h) (by rfl) ?_ ?_
    rotate_left
    · intro w; go_simp; try with_reducible rfl
    simp only [Act.put, List.setIfInBounds_toArray, List.set_cons_zero, List.set_cons_succ, List.getElem_toArray, List.getElem_cons_succ, List.getElem_cons_zero]
    refine wpAnyT_pure (i := 12) (v := ?_) rfl (by kernel_rfl) (by kernel_rfl) (by kernel_rfl) (fun _ _ _ h => h) (by rfl) ?_ ?_
    rotate_left
    · intro w; go_simp; try with_reducible rfl
    simp only [Act.put, List.setIfInBounds_toArray, List.set_cons_zero, List.set_cons_succ, List.getElem_toArray, List.getElem_cons_succ, List.getElem_cons_zero]
    refine wpAnyT_pure (i := 13) (v := ?_) rfl (by kernel_rfl) (by kernel_rfl) (by kernel_rfl) (fun _ _ _ h => h) (by rfl) ?_ ?_
    rotate_left
    · intro w; go_simp; try with_reducible rfl
    simp only [Act.put, List.setIfInBounds_toArray, List.set_cons_zero, List.set_cons_succ, List.getElem_toArray, List.getElem_cons_succ, List.getElem_cons_zero]
    refine wpAnyT_pure (i := 14) (v := ?_) rfl (by kernel_rfl) (by kernel_rfl) (by kernel_rfl) (fun _ _ _ h => h) (by rfl) ?_ ?_
    rotate_left
    · intro w; go_simp; try with_reducible rfl
    simp only [Act.put, List.setIfInBounds_toArray, List.set_cons_zero, List.set_cons_succ, List.getElem_toArray, List.getElem_cons_succ, List.getElem_cons_zero]
    refine wpAnyT_pure (i := 15) (v := ?_) rfl (by kernel_rfl) (by kernel_rfl) (by kernel_rfl) (fun _ _ _ h => h) (by rfl) ?_ ?_
    rotate_left
    · intro w; go_simp; try with_reducible rfl
    simp only [Act.put, List.setIfInBounds_toArray, List.set_cons_zero, List.set_cons_succ, List.getElem_toArray, List.getElem_cons_succ, List.getElem_cons_zero]
    refine wpAnyT_pure (i := 16) (v := ?_) rfl (by kernel_rfl) (by kernel_rfl) (by kernel_rfl) (fun _ _ _ h => h) (by rfl) ?_ ?_
    rotate_left
    · intro w; go_simp; try with_reducible rfl
    simp only [Act.put, List.setIfInBounds_toArray, List.set_cons_zero, List.set_cons_succ, List.getElem_toArray, List.getElem_cons_succ, List.getElem_cons_zero]
    refine wpAnyT_pure (i := 17) (v := ?_) rfl (by kernel_rfl) (by kernel_rfl) (by kernel_rfl) (fun _ _ _ h => h) (by rfl) ?_ ?_
    rotate_left
    · intro w; go_simp; try with_reducible rfl
    simp only [Act.put, List.setIfInBounds_toArray, List.set_cons_zero, List.set_cons_succ, List.getElem_toArray, List.getElem_cons_succ, List.getElem_cons_zero]
    refine wpAnyT_pure (i := 19) (v := ?_) rfl (by kernel_rfl) (by kernel_rfl) (by kernel_rfl) (fun _ _ _ h => h) (by rfl) ?_ ?_
    rotate_left
    · intro w; go_simp; try with_reducible rfl
    simp only [Act.put, List.setIfInBounds_toArray, List.set_cons_zero, List.set_cons_succ, List.getElem_toArray, List.getElem_cons_succ, List.getElem_cons_zero]
    refine wpAnyT_pure (i := 20) (v := ?_) rfl (by kernel_rfl) (by kernel_rfl) (by kernel_rfl) (fun _ _ _ h => h) (by rfl) ?_ ?_
    rotate_left
    · intro w; go_simp; try with_reducible rfl
    simp only [Act.put, List.setIfInBounds_toArray, List.set_cons_zero, List.set_cons_succ, List.getElem_toArray, List.getElem_cons_succ, List.getElem_cons_zero]
    refine wpAnyT_loadW (i := 18) (v := ?_) rfl (by kernel_rfl) (by kernel_rfl) (by kernel_rfl) (by kernel_rfl) (by kernel_rfl) (fun _ _ _ h => h) (Or.inl ⟨by rfl, ?_⟩) hSss2 ?_
    rotate_left
    · intro w hSw; obtain ⟨e0, e1, e2, e3, e4, e5, e6, e7, -⟩ := hSw; go_simp; try with_reducible rfl
    simp only [Act.put, List.setIfInBounds_toArray, List.set_cons_zero, List.set_cons_succ, List.getElem_toArray, List.getElem_cons_succ, List.getElem_cons_zero]
    refine wpAnyT_loadW (i := 21) (v := ?_) rfl (by kernel_rfl) (by kernel_rfl) (by kernel_rfl) (by kernel_rfl) (by kernel_rfl) (fun _ _ _ h => h) (Or.inl ⟨by rfl, ?_⟩) hSss2 ?_
    rotate_left
    · intro w hSw; obtain ⟨e0, e1, e2, e3, e4, e5, e6, e7, -⟩ := hSw; go_simp; try with_reducible rfl
    simp only [Act.put, List.setIfInBounds_toArray, List.set_cons_zero, List.set_cons_succ, List.getElem_toArray, List.getElem_cons_succ, List.getElem_cons_zero]
    refine wpAnyT_pure (i := 22) (v := ?_) rfl (by kernel_rfl) (by kernel_rfl) (by kernel_rfl) (fun _ _ _ h => h) (by rfl) ?_ ?_
    rotate_left
    · intro w; go_simp; try with_reducible rfl
    simp only [Act.put, List.setIfInBounds_toArray, List.set_cons_zero, List.set_cons_succ, List.getElem_toArray, List.getElem_cons_succ, List.getElem_cons_zero]
    refine wpAnyT_pure (i := 23) (v := ?_) rfl (by kernel_rfl) (by kernel_rfl) (by kernel_rfl) (fun _ _ _ h => h) (by rfl) ?_ ?_
    rotate_left
    · intro w; go_simp; try with_reducible rfl
    simp only [Act.put, List.setIfInBounds_toArray, List.set_cons_zero, List.set_cons_succ, List.getElem_toArray, List.getElem_cons_succ, List.getElem_cons_zero]
    refine wpAnyT_pure (i := 24) (v := ?_) rfl (by kernel_rfl) (by kernel_rfl) (by kernel_rfl) (fun _ _ _ h => h) (by rfl) ?_ ?_
    rotate_left
    · intro w; go_simp; try with_reducible rfl
    simp only [Act.put, List.setIfInBounds_toArray, List.set_cons_zero, List.set_cons_succ, List.getElem_toArray, List.getElem_cons_succ, List.getElem_cons_zero]
    refine wpAnyT_pure (i := 25) (v := ?_) rfl (by kernel_rfl) (by kernel_rfl) (by kernel_rfl) (fun _ _ _ h => h) (by rfl) ?_ ?_
    rotate_left
    · intro w; go_simp; try with_reducible rfl
    simp only [Act.put, List.setIfInBounds_toArray, List.set_cons_zero, List.set_cons_succ, List.getElem_toArray, List.getElem_cons_succ, List.getElem_cons_zero]
    refine wpAnyT_pure (i := 26) (v := ?_) rfl (by kernel_rfl) (by kernel_rfl) (by kernel_rfl) (fun _ _ _ h => h) (by rfl) ?_ ?_
    rotate_left
    · intro w; go_simp; try with_reducible rfl
    simp only [Act.put, List.setIfInBounds_toArray, List.set_cons_zero, List.set_cons_succ, List.getElem_toArray, List.getElem_cons_succ, List.getElem_cons_zero]
    refine wpAnyT_done (by kernel_rfl) ?_ _
    have hbP : Below w14.heap.size w14 s2 := hB_0_s2.trans ((hB_s2_s2).mono (hB_0_s2).size)
    go_wp2_with fail
    go_ret
    exact ⟨rfl, below_step HB14.out hbP⟩
end Go.Proofs.Ytmmeieangbcfaaa
