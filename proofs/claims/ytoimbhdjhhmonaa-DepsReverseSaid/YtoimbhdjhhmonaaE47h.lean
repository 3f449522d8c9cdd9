/- Layer 47: DepsReverse. -/
import Derived.Test.YtoimbhdjhhmonaaE47f
set_option linter.unusedSimpArgs false
set_option maxRecDepth 50000
namespace Go.Proofs.Ytoimbhdjhhmonaa
open Go.RowKit Go

theorem nilOrder47 (w : World) : Calls Try.prog 23 #[.pointer none] w fun e w' => e = .returned (.tuple #[.slice none 0 0, .int .i64 7]) ∧ w' = w := by
  go_enter Try.func23, Try.ntmps23
  go_wp2_with fail
  refine bodyPost_ret (results_tmp2 rfl _ _ _) rfl ?_
  exact ⟨rfl, rfl⟩
theorem nilCycle47 (w : World) : Calls Try.prog 25 #[.pointer none] w fun e w' => e = .returned (.slice none 0 0) ∧ Below w.heap.size w w' := by
  have HB1 := Lib.hid (show Below w.heap.size w (w.alloc (.cells #[.pointer none] 26)) from (Below.refl _ w).alloc (Nat.le_refl _) _)
  go_enter Try.func25, Try.ntmps25
  go_wp2
  go_ret
  exact ⟨rfl, HB1.out⟩
theorem BG.cellsO {F : Nat → Nat} {w : World} {p mr ms n K m : Nat} {G : List En4} {ha : Option Addr} {hc : Nat} (h : BG F w p mr ms n K m G ha hc) (hm : m ≤ 1000) : Calls Try.prog 16 #[.pointer (some ⟨p, 0, none⟩)] w fun e w' => ∃ v, e = .returned v ∧ Owns cellT 38 w.heap.size (fun _ => False) w' v ((cellsG G).map C4.d) ∧ Below w.heap.size w w' := by
  refine (cells47O w h.dep (by have := h.nle; have := h.kle; omega)).mono ?_
  rintro e w' ⟨v, ys, rfl, hs, ho, hx, -, hsl, hB⟩
  obtain rfl : ys = cellsG G := hs.ext (srt_srtC _) (fun x => ⟨fun hxy => (mem_cellsG h.gi).2 ((hx x (ho x hxy)).1 hxy), fun hxy => (hx x (cellsG_ok h.gi hxy)).2 ((mem_cellsG h.gi).1 hxy)⟩)
  exact ⟨v, rfl, hsl, hB⟩
theorem rev_eq {m : Nat} {G : List En4} (hG : GI m G) (x y : C4) : decide (y ∈ (lkG G x).getD []) = decide (x ∈ rdrsG G y) := by
  rw [Bool.eq_iff_iff, decide_eq_true_iff, decide_eq_true_iff, mem_rdrsG hG]
  unfold rsOf
  cases lkG G x <;> simp
set_option maxHeartbeats 8000000 in
theorem reverseWalk47 (w : World) (c0 : List Value) (x0 : (Ty.sl stepT).den) (r0 : Rd (.sl stepT) (fun b => b < w.heap.size) w c0 x0) (cc1 : List Value) (x1 : cellT.den) (r1 : Rd cellT (fun b => b < w.heap.size) w cc1 x1) :
    Calls Try.prog 8 #[valOf (Ty.sl stepT) c0, valOf cellT cc1] w fun e w' => e = .returned (.bool true) ∧ Below w.heap.size w w' := by
  obtain ⟨a, len, cap, rfl, hl0, -⟩ := id r0
  have HL := Lib.hid (show x0.length = len from hl0)
  have HX := Lib.hid r0
  have HS := Lib.hid (show ∀ b, b < w.heap.size → b < w.heap.size from fun _ h => h)
  have hlm : len ≤ 9223372036854775807 := Nat.le_trans r0.sl_flat.2.1 r0.sl_flat.2.2.1
  obtain ⟨c1, c2, c3, c4', ⟨⟩⟩ := x1
  obtain ⟨k1, kr1, rfl, ⟨rfl, h1⟩, k2, kr2, rfl, ⟨rfl, h2⟩, k3, kr3, rfl, ⟨rfl, h3⟩, k4, kr4, rfl, ⟨rfl, h4⟩, rfl⟩ := r1
  have HCO := Lib.hid (show C4.ok ⟨c1, c2, c3, c4'⟩ from ⟨h1, h2, h3, h4⟩)
  change Int at c1 c2 c3 c4'
  change Calls _ _ #[.slice a len cap, .agg #[.int .i64 c1, .int .i64 c2, .int .i64 c3, .int .i64 c4']] _ _
  have hB := (Below.refl w.heap.size w).alloc (Nat.le_refl _) (.cells #[.int .i64 c1, .int .i64 c2, .int .i64 c3, .int .i64 c4'] 38)
  have hkb := heap_alloc_new w (.cells #[.int .i64 c1, .int .i64 c2, .int .i64 c3, .int .i64 c4'] 38)
  have HB0 := Lib.hid hB
  have HKB := Lib.hid hkb
  clear r0 hl0 hB hkb h1 h2 h3 h4
  go_enter Try.func8, Try.ntmps8
  go_wp2_with fail
  generalize hw0 : World.alloc _ _ = w0 at *
  clear hw0
  obtain ⟨gb, hgb⟩ : ∃ x, w.heap.size = x := ⟨_, rfl⟩
  have HGB := Lib.hid hgb
  rw [hgb] at HKB
  clear hgb
  rw [HGB.out]
  have HAW := Lib.hid (awake47 w0)
  go_wp2_with fail
  refine HAW.out.mono ?_
  clear HAW
  rintro e w4 ⟨rfl, hB4⟩
  have HB4 := Lib.hid (below_step HB0.out hB4)
  have HK4 := Lib.hid ((hB4.block _ (blk_lt HKB.out)).trans HKB.out)
  clear hB4
  have HNO := Lib.hid (nilOrder47 w4)
  go_wp2_with fail
  refine HNO.out.mono ?_
  rintro e w4' ⟨rfl, hw4⟩
  rw [hw4]
  clear hw4 w4' HNO
  go_upto_region 5 with fail
  have hC0 : Cells [(⟨gb, 0, none⟩, .int .i64 c1), (⟨gb, 1, none⟩, .int .i64 c2), (⟨gb, 2, none⟩, .int .i64 c3), (⟨gb, 3, none⟩, .int .i64 c4')] w4 := ⟨blk_cell HK4.out 0, blk_cell HK4.out 1, blk_cell HK4.out 2, blk_cell HK4.out 3, trivial⟩
  have HS1 := Lib.hid (fun W => nilSet47 W ⟨c1, c2, c3, c4'⟩ none 0 0)
  have HS2 := Lib.hid (fun W => nilRemove47 W ⟨c1, c2, c3, c4'⟩)
  have HS3 := Lib.hid (fun W => nilReads47 W ⟨c1, c2, c3, c4'⟩)
  have HS4 := Lib.hid (fun W => nilReaders47 W ⟨c1, c2, c3, c4'⟩)
  unfold C4.v at HS1 HS2 HS3 HS4
  simp only at HS1 HS2 HS3 HS4
  refine wp_cut [21, 22, 23, 24, 25, 26, 27, 28, 29, 30, 31, 32, 33, 34, 35, 36, 37, 38, 39, 40, 41, 42, 43, 44, 45, 46, 47, 48, 49, 50, 51, 52, 53, 54, 55, 56, 57, 58, 59, 60, 61, 62, 63] (fun vs w5 => ∃ v21 v22 v23 v24 v25 v26 v27 v28 v29 v30 v31 v32 v33 v34 v35 v36 v37 v38 v39 v40 v41 v42 v43 v44 v45 v46 v47 v48 v49 v50 v51 v52 v53 v54 v55 v56 v57 v58 v59 v60 v61 v62, vs = [v21, v22, v23, v24, v25, v26, v27, v28, v29, v30, v31, v32, v33, v34, v35, v36, v37, v38, v39, v40, v41, v42, v43, v44, v45, v46, v47, v48, v49, v50, v51, v52, v53, v54, v55, v56, v57, v58, v59, v60, v61, v62, .bool false] ∧ Below w4.heap.size w4 w5) ?_ ?_
  · skip
    refine wp_region_T (Cells [(⟨gb, 0, none⟩, .int .i64 c1), (⟨gb, 1, none⟩, .int .i64 c2), (⟨gb, 2, none⟩, .int .i64 c3), (⟨gb, 3, none⟩, .int .i64 c4')]) (fun _ => false) (by kernel_rfl) ?_
    have hSss1 := Cells.drew hC0
    have hB_0_s1 : Below w4.heap.size w4 w4.drew := below_drew _
    generalize w4.drew = s1 at hSss1 hB_0_s1 ⊢
    have hB_s1_s1 := Below.refl s1.heap.size s1
    refine wpAnyT_pure (i := 0) (v := ?_) rfl (by kernel_rfl) (by kernel_rfl) (by kernel_rfl) (fun _ _ _ h => h) (by rfl) ?_ ?_
    rotate_left
    · intro w; go_simp; try with_reducible rfl
    simp only [Act.put, rgA, rgB, rgC, rgD, rgE, rgF]
    refine wpAnyT_loadW (i := 1) (v := ?_) rfl (by kernel_rfl) (by kernel_rfl) (by kernel_rfl) (by kernel_rfl) (by kernel_rfl) (fun _ _ _ h => h) (Or.inl ⟨by rfl, ?_⟩) hSss1 ?_
    rotate_left
    · intro w hSw; obtain ⟨e0, e1, e2, e3, -⟩ := hSw; go_simp; try with_reducible rfl
    simp only [Act.put, rgA, rgB, rgC, rgD, rgE, rgF]
    refine wpAnyT_one (i := 2) (by kernel_rfl) rfl (by rfl) ?_
    refine wp_enter (f := 27) (args := #[.pointer none, .agg #[.int .i64 c1, .int .i64 c2, .int .i64 c3, .int .i64 c4'], .slice none 0 0]) (by go_simp) (HS1.out s1) ?_
    rintro e w102 ⟨rfl, hX⟩
    have hB_s1_w102 := below_step hB_s1_s1 hX
    have hB_w102_w102 := Below.refl w102.heap.size w102
    have hSsw102 := Cells.below hB_s1_w102 hSss1
    clear hX
    refine ⟨_, rfl, fun _ _ => hSsw102, ?_⟩
    try simp only [Act.put, rgA, rgB, rgC, rgD, rgE, rgF]
    refine wpAnyT_pure (i := 3) (v := ?_) rfl (by kernel_rfl) (by kernel_rfl) (by kernel_rfl) (fun _ _ _ h => h) (by rfl) ?_ ?_
    rotate_left
    · intro w; go_simp; try with_reducible rfl
    simp only [Act.put, rgA, rgB, rgC, rgD, rgE, rgF]
    refine wpAnyT_pure (i := 4) (v := ?_) rfl (by kernel_rfl) (by kernel_rfl) (by kernel_rfl) (fun _ _ _ h => h) (by rfl) ?_ ?_
    rotate_left
    · intro w; go_simp; try with_reducible rfl
    simp only [Act.put, rgA, rgB, rgC, rgD, rgE, rgF]
    refine wpAnyT_pure (i := 5) (v := ?_) rfl (by kernel_rfl) (by kernel_rfl) (by kernel_rfl) (fun _ _ _ h => h) (by rfl) ?_ ?_
    rotate_left
    · intro w; go_simp; try with_reducible rfl
    simp only [Act.put, rgA, rgB, rgC, rgD, rgE, rgF]
    refine wpAnyT_loadW (i := 6) (v := ?_) rfl (by kernel_rfl) (by kernel_rfl) (by kernel_rfl) (by kernel_rfl) (by kernel_rfl) (fun _ _ _ h => h) (Or.inl ⟨by rfl, ?_⟩) hSsw102 ?_
    rotate_left
    · intro w hSw; obtain ⟨e0, e1, e2, e3, -⟩ := hSw; go_simp; try with_reducible rfl
    simp only [Act.put, rgA, rgB, rgC, rgD, rgE, rgF]
    refine wpAnyT_one (i := 7) (by kernel_rfl) rfl (by rfl) ?_
    refine wp_enter (f := 28) (args := #[.pointer none, .agg #[.int .i64 c1, .int .i64 c2, .int .i64 c3, .int .i64 c4']]) (by go_simp) (HS2.out w102) ?_
    rintro e w103 ⟨rfl, hX⟩
    have hB_s1_w103 := below_step hB_s1_w102 hX
    have hB_w102_w103 := below_step hB_w102_w102 hX
    have hB_w103_w103 := Below.refl w103.heap.size w103
    have hSsw103 := Cells.below hB_s1_w103 hSss1
    clear hX
    refine ⟨_, rfl, fun _ _ => hSsw103, ?_⟩
    try simp only [Act.put, rgA, rgB, rgC, rgD, rgE, rgF]
    refine wpAnyT_pure (i := 8) (v := ?_) rfl (by kernel_rfl) (by kernel_rfl) (by kernel_rfl) (fun _ _ _ h => h) (by rfl) ?_ ?_
    rotate_left
    · intro w; go_simp; try with_reducible rfl
    simp only [Act.put, rgA, rgB, rgC, rgD, rgE, rgF]
    refine wpAnyT_pure (i := 9) (v := ?_) rfl (by kernel_rfl) (by kernel_rfl) (by kernel_rfl) (fun _ _ _ h => h) (by rfl) ?_ ?_
    rotate_left
    · intro w; go_simp; try with_reducible rfl
    simp only [Act.put, rgA, rgB, rgC, rgD, rgE, rgF]
    refine wpAnyT_pure (i := 10) (v := ?_) rfl (by kernel_rfl) (by kernel_rfl) (by kernel_rfl) (fun _ _ _ h => h) (by rfl) ?_ ?_
    rotate_left
    · intro w; go_simp; try with_reducible rfl
    simp only [Act.put, rgA, rgB, rgC, rgD, rgE, rgF]
    refine wpAnyT_pure (i := 11) (v := ?_) rfl (by kernel_rfl) (by kernel_rfl) (by kernel_rfl) (fun _ _ _ h => h) (by rfl) ?_ ?_
    rotate_left
    · intro w; go_simp; try with_reducible rfl
    simp only [Act.put, rgA, rgB, rgC, rgD, rgE, rgF]
    refine wpAnyT_pure (i := 12) (v := ?_) rfl (by kernel_rfl) (by kernel_rfl) (by kernel_rfl) (fun _ _ _ h => h) (by rfl) ?_ ?_
    rotate_left
    · intro w; go_simp; try with_reducible rfl
    simp only [Act.put, rgA, rgB, rgC, rgD, rgE, rgF]
    refine wpAnyT_pure (i := 13) (v := ?_) rfl (by kernel_rfl) (by kernel_rfl) (by kernel_rfl) (fun _ _ _ h => h) (by rfl) ?_ ?_
    rotate_left
    · intro w; go_simp; try with_reducible rfl
    simp only [Act.put, rgA, rgB, rgC, rgD, rgE, rgF]
    refine wpAnyT_pure (i := 14) (v := ?_) rfl (by kernel_rfl) (by kernel_rfl) (by kernel_rfl) (fun _ _ _ h => h) (by rfl) ?_ ?_
    rotate_left
    · intro w; go_simp; try with_reducible rfl
    simp only [Act.put, rgA, rgB, rgC, rgD, rgE, rgF]
    refine wpAnyT_pure (i := 15) (v := ?_) rfl (by kernel_rfl) (by kernel_rfl) (by kernel_rfl) (fun _ _ _ h => h) (by rfl) ?_ ?_
    rotate_left
    · intro w; go_simp; try with_reducible rfl
    simp only [Act.put, rgA, rgB, rgC, rgD, rgE, rgF]
    refine wpAnyT_pure (i := 16) (v := ?_) rfl (by kernel_rfl) (by kernel_rfl) (by kernel_rfl) (fun _ _ _ h => h) (by rfl) ?_ ?_
    rotate_left
    · intro w; go_simp; try with_reducible rfl
    simp only [Act.put, rgA, rgB, rgC, rgD, rgE, rgF]
    refine wpAnyT_pure (i := 17) (v := ?_) rfl (by kernel_rfl) (by kernel_rfl) (by kernel_rfl) (fun _ _ _ h => h) (by rfl) ?_ ?_
    rotate_left
    · intro w; go_simp; try with_reducible rfl
    simp only [Act.put, rgA, rgB, rgC, rgD, rgE, rgF]
    refine wpAnyT_pure (i := 21) (v := ?_) rfl (by kernel_rfl) (by kernel_rfl) (by kernel_rfl) (fun _ _ _ h => h) (by rfl) ?_ ?_
    rotate_left
    · intro w; go_simp; try with_reducible rfl
    simp only [Act.put, rgA, rgB, rgC, rgD, rgE, rgF]
    refine wpAnyT_pure (i := 26) (v := ?_) rfl (by kernel_rfl) (by kernel_rfl) (by kernel_rfl) (fun _ _ _ h => h) (by rfl) ?_ ?_
    rotate_left
    · intro w; go_simp; try with_reducible rfl
    simp only [Act.put, rgA, rgB, rgC, rgD, rgE, rgF]
    refine wpAnyT_pure (i := 31) (v := ?_) rfl (by kernel_rfl) (by kernel_rfl) (by kernel_rfl) (fun _ _ _ h => h) (by rfl) ?_ ?_
    rotate_left
    · intro w; go_simp; try with_reducible rfl
    simp only [Act.put, rgA, rgB, rgC, rgD, rgE, rgF]
    refine wpAnyT_pure (i := 37) (v := ?_) rfl (by kernel_rfl) (by kernel_rfl) (by kernel_rfl) (fun _ _ _ h => h) (by rfl) ?_ ?_
    rotate_left
    · intro w; go_simp; try with_reducible rfl
    simp only [Act.put, rgA, rgB, rgC, rgD, rgE, rgF]
    refine wpAnyT_loadW (i := 22) (v := ?_) rfl (by kernel_rfl) (by kernel_rfl) (by kernel_rfl) (by kernel_rfl) (by kernel_rfl) (fun _ _ _ h => h) (Or.inl ⟨by rfl, ?_⟩) hSsw103 ?_
    rotate_left
    · intro w hSw; obtain ⟨e0, e1, e2, e3, -⟩ := hSw; go_simp; try with_reducible rfl
    simp only [Act.put, rgA, rgB, rgC, rgD, rgE, rgF]
    refine wpAnyT_loadW (i := 27) (v := ?_) rfl (by kernel_rfl) (by kernel_rfl) (by kernel_rfl) (by kernel_rfl) (by kernel_rfl) (fun _ _ _ h => h) (Or.inl ⟨by rfl, ?_⟩) hSsw103 ?_
    rotate_left
    · intro w hSw; obtain ⟨e0, e1, e2, e3, -⟩ := hSw; go_simp; try with_reducible rfl
    simp only [Act.put, rgA, rgB, rgC, rgD, rgE, rgF]
    refine wpAnyT_loadW (i := 32) (v := ?_) rfl (by kernel_rfl) (by kernel_rfl) (by kernel_rfl) (by kernel_rfl) (by kernel_rfl) (fun _ _ _ h => h) (Or.inl ⟨by rfl, ?_⟩) hSsw103 ?_
    rotate_left
    · intro w hSw; obtain ⟨e0, e1, e2, e3, -⟩ := hSw; go_simp; try with_reducible rfl
    simp only [Act.put, rgA, rgB, rgC, rgD, rgE, rgF]
    refine wpAnyT_two (i := 18) (k := 33) (by kernel_rfl) rfl rfl (by rfl) (by rfl) ?_ ?_
    · skip
      refine wp_enter (f := 16) (args := #[.pointer none]) (by go_simp) (nilCells47 w103) ?_
      rintro e w104 ⟨rfl, hw⟩
      have hX : Below (w103).heap.size w103 w104 := by rw [hw]; exact Below.refl _ _
      clear hw
      have hB_s1_w104 := below_step hB_s1_w103 hX
      have hB_w102_w104 := below_step hB_w102_w103 hX
      have hB_w103_w104 := below_step hB_w103_w103 hX
      have hB_w104_w104 := Below.refl w104.heap.size w104
      have hSsw104 := Cells.below hB_s1_w104 hSss1
      clear hX
      refine ⟨_, rfl, fun _ _ => hSsw104, ?_⟩
      try simp only [Act.put, rgA, rgB, rgC, rgD, rgE, rgF]
      refine wpAnyT_pure (i := 19) (v := ?_) rfl (by kernel_rfl) (by kernel_rfl) (by kernel_rfl) (fun _ _ _ h => h) (by rfl) ?_ ?_
      rotate_left
      · intro w; go_simp; try with_reducible rfl
      simp only [Act.put, rgA, rgB, rgC, rgD, rgE, rgF]
      refine wpAnyT_pure (i := 20) (v := ?_) rfl (by kernel_rfl) (by kernel_rfl) (by kernel_rfl) (fun _ _ _ h => h) (by rfl) ?_ ?_
      rotate_left
      · intro w; go_simp; try with_reducible rfl
      simp only [Act.put, rgA, rgB, rgC, rgD, rgE, rgF]
      refine wpAnyT_two (i := 23) (k := 33) (by kernel_rfl) rfl rfl (by rfl) (by rfl) ?_ ?_
      · skip
        refine wp_enter (f := 17) (args := #[.pointer none, .agg #[.int .i64 c1, .int .i64 c2, .int .i64 c3, .int .i64 c4']]) (by go_simp) (HS3.out w104) ?_
        rintro e w105 ⟨rfl, hX⟩
        have hB_s1_w105 := below_step hB_s1_w104 hX
        have hB_w102_w105 := below_step hB_w102_w104 hX
        have hB_w103_w105 := below_step hB_w103_w104 hX
        have hB_w104_w105 := below_step hB_w104_w104 hX
        have hB_w105_w105 := Below.refl w105.heap.size w105
        have hSsw105 := Cells.below hB_s1_w105 hSss1
        clear hX
        refine ⟨_, rfl, fun _ _ => hSsw105, ?_⟩
        try simp only [Act.put, rgA, rgB, rgC, rgD, rgE, rgF]
        refine wpAnyT_pure (i := 24) (v := ?_) rfl (by kernel_rfl) (by kernel_rfl) (by kernel_rfl) (fun _ _ _ h => h) (by rfl) ?_ ?_
        rotate_left
        · intro w; go_simp; try with_reducible rfl
        simp only [Act.put, rgA, rgB, rgC, rgD, rgE, rgF]
        refine wpAnyT_pure (i := 25) (v := ?_) rfl (by kernel_rfl) (by kernel_rfl) (by kernel_rfl) (fun _ _ _ h => h) (by rfl) ?_ ?_
        rotate_left
        · intro w; go_simp; try with_reducible rfl
        simp only [Act.put, rgA, rgB, rgC, rgD, rgE, rgF]
        refine wpAnyT_two (i := 28) (k := 33) (by kernel_rfl) rfl rfl (by rfl) (by rfl) ?_ ?_
        · skip
          refine wp_enter (f := 21) (args := #[.pointer none, .agg #[.int .i64 c1, .int .i64 c2, .int .i64 c3, .int .i64 c4']]) (by go_simp) (HS4.out w105) ?_
          rintro e w106 ⟨rfl, hX⟩
          have hB_s1_w106 := below_step hB_s1_w105 hX
          have hB_w102_w106 := below_step hB_w102_w105 hX
          have hB_w103_w106 := below_step hB_w103_w105 hX
          have hB_w104_w106 := below_step hB_w104_w105 hX
          have hB_w105_w106 := below_step hB_w105_w105 hX
          have hB_w106_w106 := Below.refl w106.heap.size w106
          have hSsw106 := Cells.below hB_s1_w106 hSss1
          clear hX
          refine ⟨_, rfl, fun _ _ => hSsw106, ?_⟩
          try simp only [Act.put, rgA, rgB, rgC, rgD, rgE, rgF]
          refine wpAnyT_pure (i := 29) (v := ?_) rfl (by kernel_rfl) (by kernel_rfl) (by kernel_rfl) (fun _ _ _ h => h) (by rfl) ?_ ?_
          rotate_left
          · intro w; go_simp; try with_reducible rfl
          simp only [Act.put, rgA, rgB, rgC, rgD, rgE, rgF]
          refine wpAnyT_pure (i := 30) (v := ?_) rfl (by kernel_rfl) (by kernel_rfl) (by kernel_rfl) (fun _ _ _ h => h) (by rfl) ?_ ?_
          rotate_left
          · intro w; go_simp; try with_reducible rfl
          simp only [Act.put, rgA, rgB, rgC, rgD, rgE, rgF]
          refine wpAnyT_one (i := 33) (by kernel_rfl) rfl (by rfl) ?_
          obtain ⟨b33, hb33⟩ : ∃ b, w106.heap.size = b := ⟨_, rfl⟩
          refine wp_newrow (v := .slice (some ⟨b33, 0, none⟩) 1 1) (cs := #[.int .i64 c1, .int .i64 c2, .int .i64 c3, .int .i64 c4']) (te := 38) (by rw [← hb33]; go_simp) ?_
          intro w107 hX hN33
          clear hN33 hb33
          have hB_s1_w107 := below_step hB_s1_w106 hX
          have hB_w102_w107 := below_step hB_w102_w106 hX
          have hB_w103_w107 := below_step hB_w103_w106 hX
          have hB_w104_w107 := below_step hB_w104_w106 hX
          have hB_w105_w107 := below_step hB_w105_w106 hX
          have hB_w106_w107 := below_step hB_w106_w106 hX
          have hB_w107_w107 := Below.refl w107.heap.size w107
          have hSsw107 := Cells.below hB_s1_w107 hSss1
          clear hX
          refine ⟨fun _ _ => hSsw107, ?_⟩
          try simp only [Act.put, rgA, rgB, rgC, rgD, rgE, rgF]
          refine wpAnyT_one (i := 34) (by kernel_rfl) rfl (by rfl) ?_
          refine wp_enter (f := 13) (args := #[.pointer none, .slice (some ⟨b33, 0, none⟩) 1 1]) (by go_simp) (nilAffected47 w107 _ _ _) ?_
          rintro e w108 ⟨rfl, hX⟩
          have hB_s1_w108 := below_step hB_s1_w107 hX
          have hB_w102_w108 := below_step hB_w102_w107 hX
          have hB_w103_w108 := below_step hB_w103_w107 hX
          have hB_w104_w108 := below_step hB_w104_w107 hX
          have hB_w105_w108 := below_step hB_w105_w107 hX
          have hB_w106_w108 := below_step hB_w106_w107 hX
          have hB_w107_w108 := below_step hB_w107_w107 hX
          have hB_w108_w108 := Below.refl w108.heap.size w108
          have hSsw108 := Cells.below hB_s1_w108 hSss1
          clear hX
          refine ⟨_, rfl, fun _ _ => hSsw108, ?_⟩
          try simp only [Act.put, rgA, rgB, rgC, rgD, rgE, rgF]
          refine wpAnyT_pure (i := 35) (v := ?_) rfl (by kernel_rfl) (by kernel_rfl) (by kernel_rfl) (fun _ _ _ h => h) (by rfl) ?_ ?_
          rotate_left
          · intro w; go_simp; try with_reducible rfl
          simp only [Act.put, rgA, rgB, rgC, rgD, rgE, rgF]
          refine wpAnyT_pure (i := 36) (v := ?_) rfl (by kernel_rfl) (by kernel_rfl) (by kernel_rfl) (fun _ _ _ h => h) (by rfl) ?_ ?_
          rotate_left
          · intro w; go_simp; try with_reducible rfl
          simp only [Act.put, rgA, rgB, rgC, rgD, rgE, rgF]
          refine wpAnyT_one (i := 38) (by kernel_rfl) rfl (by rfl) ?_
          refine wp_enter (f := 25) (args := #[.pointer none]) (by go_simp) (nilCycle47 w108) ?_
          rintro e w109 ⟨rfl, hX⟩
          have hB_s1_w109 := below_step hB_s1_w108 hX
          have hB_w102_w109 := below_step hB_w102_w108 hX
          have hB_w103_w109 := below_step hB_w103_w108 hX
          have hB_w104_w109 := below_step hB_w104_w108 hX
          have hB_w105_w109 := below_step hB_w105_w108 hX
          have hB_w106_w109 := below_step hB_w106_w108 hX
          have hB_w107_w109 := below_step hB_w107_w108 hX
          have hB_w108_w109 := below_step hB_w108_w108 hX
          have hB_w109_w109 := Below.refl w109.heap.size w109
          have hSsw109 := Cells.below hB_s1_w109 hSss1
          clear hX
          refine ⟨_, rfl, fun _ _ => hSsw109, ?_⟩
          try simp only [Act.put, rgA, rgB, rgC, rgD, rgE, rgF]
          refine wpAnyT_pure (i := 39) (v := ?_) rfl (by kernel_rfl) (by kernel_rfl) (by kernel_rfl) (fun _ _ _ h => h) (by rfl) ?_ ?_
          rotate_left
          · intro w; go_simp; try with_reducible rfl
          simp only [Act.put, rgA, rgB, rgC, rgD, rgE, rgF]
          refine wpAnyT_pure (i := 40) (v := ?_) rfl (by kernel_rfl) (by kernel_rfl) (by kernel_rfl) (fun _ _ _ h => h) (by rfl) ?_ ?_
          rotate_left
          · intro w; go_simp; try with_reducible rfl
          simp only [Act.put, rgA, rgB, rgC, rgD, rgE, rgF]
          refine wpAnyT_pure (i := 41) (v := ?_) rfl (by kernel_rfl) (by kernel_rfl) (by kernel_rfl) (fun _ _ _ h => h) (by rfl) ?_ ?_
          rotate_left
          · intro w; go_simp; try with_reducible rfl
          simp only [Act.put, rgA, rgB, rgC, rgD, rgE, rgF]
          refine wpAnyT_pure (i := 42) (v := ?_) rfl (by kernel_rfl) (by kernel_rfl) (by kernel_rfl) (fun _ _ _ h => h) (by rfl) ?_ ?_
          rotate_left
          · intro w; go_simp; try with_reducible rfl
          simp only [Act.put, rgA, rgB, rgC, rgD, rgE, rgF]
          refine wpAnyT_done (by kernel_rfl) ?_ _
          have HBL := Lib.hid (hB_0_s1.trans ((hB_s1_w109).mono hB_0_s1.size))
          refine cut_leaf ?_ ?_
          focus kernel_rfl
          exact ⟨_, _, _, _, _, _, _, _, _, _, _, _, _, _, _, _, _, _, _, _, _, _, _, _, _, _, _, _, _, _, _, _, _, _, _, _, _, _, _, _, _, _, rfl, HBL.out⟩
        · skip
          obtain ⟨b33, hb33⟩ : ∃ b, w105.heap.size = b := ⟨_, rfl⟩
          refine wp_newrow (v := .slice (some ⟨b33, 0, none⟩) 1 1) (cs := #[.int .i64 c1, .int .i64 c2, .int .i64 c3, .int .i64 c4']) (te := 38) (by rw [← hb33]; go_simp) ?_
          intro w110 hX hN33
          clear hN33 hb33
          have hB_s1_w110 := below_step hB_s1_w105 hX
          have hB_w102_w110 := below_step hB_w102_w105 hX
          have hB_w103_w110 := below_step hB_w103_w105 hX
          have hB_w104_w110 := below_step hB_w104_w105 hX
          have hB_w105_w110 := below_step hB_w105_w105 hX
          have hB_w110_w110 := Below.refl w110.heap.size w110
          have hSsw110 := Cells.below hB_s1_w110 hSss1
          clear hX
          refine ⟨fun _ _ => hSsw110, ?_⟩
          try simp only [Act.put, rgA, rgB, rgC, rgD, rgE, rgF]
          refine wpAnyT_one (i := 28) (by kernel_rfl) rfl (by rfl) ?_
          refine wp_enter (f := 21) (args := #[.pointer none, .agg #[.int .i64 c1, .int .i64 c2, .int .i64 c3, .int .i64 c4']]) (by go_simp) (HS4.out w110) ?_
          rintro e w111 ⟨rfl, hX⟩
          have hB_s1_w111 := below_step hB_s1_w110 hX
          have hB_w102_w111 := below_step hB_w102_w110 hX
          have hB_w103_w111 := below_step hB_w103_w110 hX
          have hB_w104_w111 := below_step hB_w104_w110 hX
          have hB_w105_w111 := below_step hB_w105_w110 hX
          have hB_w110_w111 := below_step hB_w110_w110 hX
          have hB_w111_w111 := Below.refl w111.heap.size w111
          have hSsw111 := Cells.below hB_s1_w111 hSss1
          clear hX
          refine ⟨_, rfl, fun _ _ => hSsw111, ?_⟩
          try simp only [Act.put, rgA, rgB, rgC, rgD, rgE, rgF]
          refine wpAnyT_pure (i := 29) (v := ?_) rfl (by kernel_rfl) (by kernel_rfl) (by kernel_rfl) (fun _ _ _ h => h) (by rfl) ?_ ?_
          rotate_left
          · intro w; go_simp; try with_reducible rfl
          simp only [Act.put, rgA, rgB, rgC, rgD, rgE, rgF]
          refine wpAnyT_pure (i := 30) (v := ?_) rfl (by kernel_rfl) (by kernel_rfl) (by kernel_rfl) (fun _ _ _ h => h) (by rfl) ?_ ?_
          rotate_left
          · intro w; go_simp; try with_reducible rfl
          simp only [Act.put, rgA, rgB, rgC, rgD, rgE, rgF]
          refine wpAnyT_one (i := 34) (by kernel_rfl) rfl (by rfl) ?_
          refine wp_enter (f := 13) (args := #[.pointer none, .slice (some ⟨b33, 0, none⟩) 1 1]) (by go_simp) (nilAffected47 w111 _ _ _) ?_
          rintro e w112 ⟨rfl, hX⟩
          have hB_s1_w112 := below_step hB_s1_w111 hX
          have hB_w102_w112 := below_step hB_w102_w111 hX
          have hB_w103_w112 := below_step hB_w103_w111 hX
          have hB_w104_w112 := below_step hB_w104_w111 hX
          have hB_w105_w112 := below_step hB_w105_w111 hX
          have hB_w110_w112 := below_step hB_w110_w111 hX
          have hB_w111_w112 := below_step hB_w111_w111 hX
          have hB_w112_w112 := Below.refl w112.heap.size w112
          have hSsw112 := Cells.below hB_s1_w112 hSss1
          clear hX
          refine ⟨_, rfl, fun _ _ => hSsw112, ?_⟩
          try simp only [Act.put, rgA, rgB, rgC, rgD, rgE, rgF]
          refine wpAnyT_pure (i := 35) (v := ?_) rfl (by kernel_rfl) (by kernel_rfl) (by kernel_rfl) (fun _ _ _ h => h) (by rfl) ?_ ?_
          rotate_left
          · intro w; go_simp; try with_reducible rfl
          simp only [Act.put, rgA, rgB, rgC, rgD, rgE, rgF]
          refine wpAnyT_pure (i := 36) (v := ?_) rfl (by kernel_rfl) (by kernel_rfl) (by kernel_rfl) (fun _ _ _ h => h) (by rfl) ?_ ?_
          rotate_left
          · intro w; go_simp; try with_reducible rfl
          simp only [Act.put, rgA, rgB, rgC, rgD, rgE, rgF]
          refine wpAnyT_one (i := 38) (by kernel_rfl) rfl (by rfl) ?_
          refine wp_enter (f := 25) (args := #[.pointer none]) (by go_simp) (nilCycle47 w112) ?_
          rintro e w113 ⟨rfl, hX⟩
          have hB_s1_w113 := below_step hB_s1_w112 hX
          have hB_w102_w113 := below_step hB_w102_w112 hX
          have hB_w103_w113 := below_step hB_w103_w112 hX
          have hB_w104_w113 := below_step hB_w104_w112 hX
          have hB_w105_w113 := below_step hB_w105_w112 hX
          have hB_w110_w113 := below_step hB_w110_w112 hX
          have hB_w111_w113 := below_step hB_w111_w112 hX
          have hB_w112_w113 := below_step hB_w112_w112 hX
          have hB_w113_w113 := Below.refl w113.heap.size w113
          have hSsw113 := Cells.below hB_s1_w113 hSss1
          clear hX
          refine ⟨_, rfl, fun _ _ => hSsw113, ?_⟩
          try simp only [Act.put, rgA, rgB, rgC, rgD, rgE, rgF]
          refine wpAnyT_pure (i := 39) (v := ?_) rfl (by kernel_rfl) (by kernel_rfl) (by kernel_rfl) (fun _ _ _ h => h) (by rfl) ?_ ?_
          rotate_left
          · intro w; go_simp; try with_reducible rfl
          simp only [Act.put, rgA, rgB, rgC, rgD, rgE, rgF]
          refine wpAnyT_pure (i := 40) (v := ?_) rfl (by kernel_rfl) (by kernel_rfl) (by kernel_rfl) (fun _ _ _ h => h) (by rfl) ?_ ?_
          rotate_left
          · intro w; go_simp; try with_reducible rfl
          simp only [Act.put, rgA, rgB, rgC, rgD, rgE, rgF]
          refine wpAnyT_pure (i := 41) (v := ?_) rfl (by kernel_rfl) (by kernel_rfl) (by kernel_rfl) (fun _ _ _ h => h) (by rfl) ?_ ?_
          rotate_left
          · intro w; go_simp; try with_reducible rfl
          simp only [Act.put, rgA, rgB, rgC, rgD, rgE, rgF]
          refine wpAnyT_pure (i := 42) (v := ?_) rfl (by kernel_rfl) (by kernel_rfl) (by kernel_rfl) (fun _ _ _ h => h) (by rfl) ?_ ?_
          rotate_left
          · intro w; go_simp; try with_reducible rfl
          simp only [Act.put, rgA, rgB, rgC, rgD, rgE, rgF]
          refine wpAnyT_done (by kernel_rfl) ?_ _
          have HBL := Lib.hid (hB_0_s1.trans ((hB_s1_w113).mono hB_0_s1.size))
          refine cut_leaf ?_ ?_
          focus kernel_rfl
          exact ⟨_, _, _, _, _, _, _, _, _, _, _, _, _, _, _, _, _, _, _, _, _, _, _, _, _, _, _, _, _, _, _, _, _, _, _, _, _, _, _, _, _, _, rfl, HBL.out⟩
      · skip
        obtain ⟨b33, hb33⟩ : ∃ b, w104.heap.size = b := ⟨_, rfl⟩
        refine wp_newrow (v := .slice (some ⟨b33, 0, none⟩) 1 1) (cs := #[.int .i64 c1, .int .i64 c2, .int .i64 c3, .int .i64 c4']) (te := 38) (by rw [← hb33]; go_simp) ?_
        intro w114 hX hN33
        clear hN33 hb33
        have hB_s1_w114 := below_step hB_s1_w104 hX
        have hB_w102_w114 := below_step hB_w102_w104 hX
        have hB_w103_w114 := below_step hB_w103_w104 hX
        have hB_w104_w114 := below_step hB_w104_w104 hX
        have hB_w114_w114 := Below.refl w114.heap.size w114
        have hSsw114 := Cells.below hB_s1_w114 hSss1
        clear hX
        refine ⟨fun _ _ => hSsw114, ?_⟩
        try simp only [Act.put, rgA, rgB, rgC, rgD, rgE, rgF]
        refine wpAnyT_one (i := 23) (by kernel_rfl) rfl (by rfl) ?_
        refine wp_enter (f := 17) (args := #[.pointer none, .agg #[.int .i64 c1, .int .i64 c2, .int .i64 c3, .int .i64 c4']]) (by go_simp) (HS3.out w114) ?_
        rintro e w115 ⟨rfl, hX⟩
        have hB_s1_w115 := below_step hB_s1_w114 hX
        have hB_w102_w115 := below_step hB_w102_w114 hX
        have hB_w103_w115 := below_step hB_w103_w114 hX
        have hB_w104_w115 := below_step hB_w104_w114 hX
        have hB_w114_w115 := below_step hB_w114_w114 hX
        have hB_w115_w115 := Below.refl w115.heap.size w115
        have hSsw115 := Cells.below hB_s1_w115 hSss1
        clear hX
        refine ⟨_, rfl, fun _ _ => hSsw115, ?_⟩
        try simp only [Act.put, rgA, rgB, rgC, rgD, rgE, rgF]
        refine wpAnyT_pure (i := 24) (v := ?_) rfl (by kernel_rfl) (by kernel_rfl) (by kernel_rfl) (fun _ _ _ h => h) (by rfl) ?_ ?_
        rotate_left
        · intro w; go_simp; try with_reducible rfl
        simp only [Act.put, rgA, rgB, rgC, rgD, rgE, rgF]
        refine wpAnyT_pure (i := 25) (v := ?_) rfl (by kernel_rfl) (by kernel_rfl) (by kernel_rfl) (fun _ _ _ h => h) (by rfl) ?_ ?_
        rotate_left
        · intro w; go_simp; try with_reducible rfl
        simp only [Act.put, rgA, rgB, rgC, rgD, rgE, rgF]
        refine wpAnyT_one (i := 28) (by kernel_rfl) rfl (by rfl) ?_
        refine wp_enter (f := 21) (args := #[.pointer none, .agg #[.int .i64 c1, .int .i64 c2, .int .i64 c3, .int .i64 c4']]) (by go_simp) (HS4.out w115) ?_
        rintro e w116 ⟨rfl, hX⟩
        have hB_s1_w116 := below_step hB_s1_w115 hX
        have hB_w102_w116 := below_step hB_w102_w115 hX
        have hB_w103_w116 := below_step hB_w103_w115 hX
        have hB_w104_w116 := below_step hB_w104_w115 hX
        have hB_w114_w116 := below_step hB_w114_w115 hX
        have hB_w115_w116 := below_step hB_w115_w115 hX
        have hB_w116_w116 := Below.refl w116.heap.size w116
        have hSsw116 := Cells.below hB_s1_w116 hSss1
        clear hX
        refine ⟨_, rfl, fun _ _ => hSsw116, ?_⟩
        try simp only [Act.put, rgA, rgB, rgC, rgD, rgE, rgF]
        refine wpAnyT_pure (i := 29) (v := ?_) rfl (by kernel_rfl) (by kernel_rfl) (by kernel_rfl) (fun _ _ _ h => h) (by rfl) ?_ ?_
        rotate_left
        · intro w; go_simp; try with_reducible rfl
        simp only [Act.put, rgA, rgB, rgC, rgD, rgE, rgF]
        refine wpAnyT_pure (i := 30) (v := ?_) rfl (by kernel_rfl) (by kernel_rfl) (by kernel_rfl) (fun _ _ _ h => h) (by rfl) ?_ ?_
        rotate_left
        · intro w; go_simp; try with_reducible rfl
        simp only [Act.put, rgA, rgB, rgC, rgD, rgE, rgF]
        refine wpAnyT_one (i := 34) (by kernel_rfl) rfl (by rfl) ?_
        refine wp_enter (f := 13) (args := #[.pointer none, .slice (some ⟨b33, 0, none⟩) 1 1]) (by go_simp) (nilAffected47 w116 _ _ _) ?_
        rintro e w117 ⟨rfl, hX⟩
        have hB_s1_w117 := below_step hB_s1_w116 hX
        have hB_w102_w117 := below_step hB_w102_w116 hX
        have hB_w103_w117 := below_step hB_w103_w116 hX
        have hB_w104_w117 := below_step hB_w104_w116 hX
        have hB_w114_w117 := below_step hB_w114_w116 hX
        have hB_w115_w117 := below_step hB_w115_w116 hX
        have hB_w116_w117 := below_step hB_w116_w116 hX
        have hB_w117_w117 := Below.refl w117.heap.size w117
        have hSsw117 := Cells.below hB_s1_w117 hSss1
        clear hX
        refine ⟨_, rfl, fun _ _ => hSsw117, ?_⟩
        try simp only [Act.put, rgA, rgB, rgC, rgD, rgE, rgF]
        refine wpAnyT_pure (i := 35) (v := ?_) rfl (by kernel_rfl) (by kernel_rfl) (by kernel_rfl) (fun _ _ _ h => h) (by rfl) ?_ ?_
        rotate_left
        · intro w; go_simp; try with_reducible rfl
        simp only [Act.put, rgA, rgB, rgC, rgD, rgE, rgF]
        refine wpAnyT_pure (i := 36) (v := ?_) rfl (by kernel_rfl) (by kernel_rfl) (by kernel_rfl) (fun _ _ _ h => h) (by rfl) ?_ ?_
        rotate_left
        · intro w; go_simp; try with_reducible rfl
        simp only [Act.put, rgA, rgB, rgC, rgD, rgE, rgF]
        refine wpAnyT_one (i := 38) (by kernel_rfl) rfl (by rfl) ?_
        refine wp_enter (f := 25) (args := #[.pointer none]) (by go_simp) (nilCycle47 w117) ?_
        rintro e w118 ⟨rfl, hX⟩
        have hB_s1_w118 := below_step hB_s1_w117 hX
        have hB_w102_w118 := below_step hB_w102_w117 hX
        have hB_w103_w118 := below_step hB_w103_w117 hX
        have hB_w104_w118 := below_step hB_w104_w117 hX
        have hB_w114_w118 := below_step hB_w114_w117 hX
        have hB_w115_w118 := below_step hB_w115_w117 hX
        have hB_w116_w118 := below_step hB_w116_w117 hX
        have hB_w117_w118 := below_step hB_w117_w117 hX
        have hB_w118_w118 := Below.refl w118.heap.size w118
        have hSsw118 := Cells.below hB_s1_w118 hSss1
        clear hX
        refine ⟨_, rfl, fun _ _ => hSsw118, ?_⟩
        try simp only [Act.put, rgA, rgB, rgC, rgD, rgE, rgF]
        refine wpAnyT_pure (i := 39) (v := ?_) rfl (by kernel_rfl) (by kernel_rfl) (by kernel_rfl) (fun _ _ _ h => h) (by rfl) ?_ ?_
        rotate_left
        · intro w; go_simp; try with_reducible rfl
        simp only [Act.put, rgA, rgB, rgC, rgD, rgE, rgF]
        refine wpAnyT_pure (i := 40) (v := ?_) rfl (by kernel_rfl) (by kernel_rfl) (by kernel_rfl) (fun _ _ _ h => h) (by rfl) ?_ ?_
        rotate_left
        · intro w; go_simp; try with_reducible rfl
        simp only [Act.put, rgA, rgB, rgC, rgD, rgE, rgF]
        refine wpAnyT_pure (i := 41) (v := ?_) rfl (by kernel_rfl) (by kernel_rfl) (by kernel_rfl) (fun _ _ _ h => h) (by rfl) ?_ ?_
        rotate_left
        · intro w; go_simp; try with_reducible rfl
        simp only [Act.put, rgA, rgB, rgC, rgD, rgE, rgF]
        refine wpAnyT_pure (i := 42) (v := ?_) rfl (by kernel_rfl) (by kernel_rfl) (by kernel_rfl) (fun _ _ _ h => h) (by rfl) ?_ ?_
        rotate_left
        · intro w; go_simp; try with_reducible rfl
        simp only [Act.put, rgA, rgB, rgC, rgD, rgE, rgF]
        refine wpAnyT_done (by kernel_rfl) ?_ _
        have HBL := Lib.hid (hB_0_s1.trans ((hB_s1_w118).mono hB_0_s1.size))
        refine cut_leaf ?_ ?_
        focus kernel_rfl
        exact ⟨_, _, _, _, _, _, _, _, _, _, _, _, _, _, _, _, _, _, _, _, _, _, _, _, _, _, _, _, _, _, _, _, _, _, _, _, _, _, _, _, _, _, rfl, HBL.out⟩
    · skip
      obtain ⟨b33, hb33⟩ : ∃ b, w103.heap.size = b := ⟨_, rfl⟩
      refine wp_newrow (v := .slice (some ⟨b33, 0, none⟩) 1 1) (cs := #[.int .i64 c1, .int .i64 c2, .int .i64 c3, .int .i64 c4']) (te := 38) (by rw [← hb33]; go_simp) ?_
      intro w119 hX hN33
      clear hN33 hb33
      have hB_s1_w119 := below_step hB_s1_w103 hX
      have hB_w102_w119 := below_step hB_w102_w103 hX
      have hB_w103_w119 := below_step hB_w103_w103 hX
      have hB_w119_w119 := Below.refl w119.heap.size w119
      have hSsw119 := Cells.below hB_s1_w119 hSss1
      clear hX
      refine ⟨fun _ _ => hSsw119, ?_⟩
      try simp only [Act.put, rgA, rgB, rgC, rgD, rgE, rgF]
      refine wpAnyT_one (i := 18) (by kernel_rfl) rfl (by rfl) ?_
      refine wp_enter (f := 16) (args := #[.pointer none]) (by go_simp) (nilCells47 w119) ?_
      rintro e w120 ⟨rfl, hw⟩
      have hX : Below (w119).heap.size w119 w120 := by rw [hw]; exact Below.refl _ _
      clear hw
      have hB_s1_w120 := below_step hB_s1_w119 hX
      have hB_w102_w120 := below_step hB_w102_w119 hX
      have hB_w103_w120 := below_step hB_w103_w119 hX
      have hB_w119_w120 := below_step hB_w119_w119 hX
      have hB_w120_w120 := Below.refl w120.heap.size w120
      have hSsw120 := Cells.below hB_s1_w120 hSss1
      clear hX
      refine ⟨_, rfl, fun _ _ => hSsw120, ?_⟩
      try simp only [Act.put, rgA, rgB, rgC, rgD, rgE, rgF]
      refine wpAnyT_pure (i := 19) (v := ?_) rfl (by kernel_rfl) (by kernel_rfl) (by kernel_rfl) (fun _ _ _ h => h) (by rfl) ?_ ?_
      rotate_left
      · intro w; go_simp; try with_reducible rfl
      simp only [Act.put, rgA, rgB, rgC, rgD, rgE, rgF]
      refine wpAnyT_pure (i := 20) (v := ?_) rfl (by kernel_rfl) (by kernel_rfl) (by kernel_rfl) (fun _ _ _ h => h) (by rfl) ?_ ?_
      rotate_left
      · intro w; go_simp; try with_reducible rfl
      simp only [Act.put, rgA, rgB, rgC, rgD, rgE, rgF]
      refine wpAnyT_one (i := 23) (by kernel_rfl) rfl (by rfl) ?_
      refine wp_enter (f := 17) (args := #[.pointer none, .agg #[.int .i64 c1, .int .i64 c2, .int .i64 c3, .int .i64 c4']]) (by go_simp) (HS3.out w120) ?_
      rintro e w121 ⟨rfl, hX⟩
      have hB_s1_w121 := below_step hB_s1_w120 hX
      have hB_w102_w121 := below_step hB_w102_w120 hX
      have hB_w103_w121 := below_step hB_w103_w120 hX
      have hB_w119_w121 := below_step hB_w119_w120 hX
      have hB_w120_w121 := below_step hB_w120_w120 hX
      have hB_w121_w121 := Below.refl w121.heap.size w121
      have hSsw121 := Cells.below hB_s1_w121 hSss1
      clear hX
      refine ⟨_, rfl, fun _ _ => hSsw121, ?_⟩
      try simp only [Act.put, rgA, rgB, rgC, rgD, rgE, rgF]
      refine wpAnyT_pure (i := 24) (v := ?_) rfl (by kernel_rfl) (by kernel_rfl) (by kernel_rfl) (fun _ _ _ h => h) (by rfl) ?_ ?_
      rotate_left
      · intro w; go_simp; try with_reducible rfl
      simp only [Act.put, rgA, rgB, rgC, rgD, rgE, rgF]
      refine wpAnyT_pure (i := 25) (v := ?_) rfl (by kernel_rfl) (by kernel_rfl) (by kernel_rfl) (fun _ _ _ h => h) (by rfl) ?_ ?_
      rotate_left
      · intro w; go_simp; try with_reducible rfl
      simp only [Act.put, rgA, rgB, rgC, rgD, rgE, rgF]
      refine wpAnyT_one (i := 28) (by kernel_rfl) rfl (by rfl) ?_
      refine wp_enter (f := 21) (args := #[.pointer none, .agg #[.int .i64 c1, .int .i64 c2, .int .i64 c3, .int .i64 c4']]) (by go_simp) (HS4.out w121) ?_
      rintro e w122 ⟨rfl, hX⟩
      have hB_s1_w122 := below_step hB_s1_w121 hX
      have hB_w102_w122 := below_step hB_w102_w121 hX
      have hB_w103_w122 := below_step hB_w103_w121 hX
      have hB_w119_w122 := below_step hB_w119_w121 hX
      have hB_w120_w122 := below_step hB_w120_w121 hX
      have hB_w121_w122 := below_step hB_w121_w121 hX
      have hB_w122_w122 := Below.refl w122.heap.size w122
      have hSsw122 := Cells.below hB_s1_w122 hSss1
      clear hX
      refine ⟨_, rfl, fun _ _ => hSsw122, ?_⟩
      try simp only [Act.put, rgA, rgB, rgC, rgD, rgE, rgF]
      refine wpAnyT_pure (i := 29) (v := ?_) rfl (by kernel_rfl) (by kernel_rfl) (by kernel_rfl) (fun _ _ _ h => h) (by rfl) ?_ ?_
      rotate_left
      · intro w; go_simp; try with_reducible rfl
      simp only [Act.put, rgA, rgB, rgC, rgD, rgE, rgF]
      refine wpAnyT_pure (i := 30) (v := ?_) rfl (by kernel_rfl) (by kernel_rfl) (by kernel_rfl) (fun _ _ _ h => h) (by rfl) ?_ ?_
      rotate_left
      · intro w; go_simp; try with_reducible rfl
      simp only [Act.put, rgA, rgB, rgC, rgD, rgE, rgF]
      refine wpAnyT_one (i := 34) (by kernel_rfl) rfl (by rfl) ?_
      refine wp_enter (f := 13) (args := #[.pointer none, .slice (some ⟨b33, 0, none⟩) 1 1]) (by go_simp) (nilAffected47 w122 _ _ _) ?_
      rintro e w123 ⟨rfl, hX⟩
      have hB_s1_w123 := below_step hB_s1_w122 hX
      have hB_w102_w123 := below_step hB_w102_w122 hX
      have hB_w103_w123 := below_step hB_w103_w122 hX
      have hB_w119_w123 := below_step hB_w119_w122 hX
      have hB_w120_w123 := below_step hB_w120_w122 hX
      have hB_w121_w123 := below_step hB_w121_w122 hX
      have hB_w122_w123 := below_step hB_w122_w122 hX
      have hB_w123_w123 := Below.refl w123.heap.size w123
      have hSsw123 := Cells.below hB_s1_w123 hSss1
      clear hX
      refine ⟨_, rfl, fun _ _ => hSsw123, ?_⟩
      try simp only [Act.put, rgA, rgB, rgC, rgD, rgE, rgF]
      refine wpAnyT_pure (i := 35) (v := ?_) rfl (by kernel_rfl) (by kernel_rfl) (by kernel_rfl) (fun _ _ _ h => h) (by rfl) ?_ ?_
      rotate_left
      · intro w; go_simp; try with_reducible rfl
      simp only [Act.put, rgA, rgB, rgC, rgD, rgE, rgF]
      refine wpAnyT_pure (i := 36) (v := ?_) rfl (by kernel_rfl) (by kernel_rfl) (by kernel_rfl) (fun _ _ _ h => h) (by rfl) ?_ ?_
      rotate_left
      · intro w; go_simp; try with_reducible rfl
      simp only [Act.put, rgA, rgB, rgC, rgD, rgE, rgF]
      refine wpAnyT_one (i := 38) (by kernel_rfl) rfl (by rfl) ?_
      refine wp_enter (f := 25) (args := #[.pointer none]) (by go_simp) (nilCycle47 w123) ?_
      rintro e w124 ⟨rfl, hX⟩
      have hB_s1_w124 := below_step hB_s1_w123 hX
      have hB_w102_w124 := below_step hB_w102_w123 hX
      have hB_w103_w124 := below_step hB_w103_w123 hX
      have hB_w119_w124 := below_step hB_w119_w123 hX
      have hB_w120_w124 := below_step hB_w120_w123 hX
      have hB_w121_w124 := below_step hB_w121_w123 hX
      have hB_w122_w124 := below_step hB_w122_w123 hX
      have hB_w123_w124 := below_step hB_w123_w123 hX
      have hB_w124_w124 := Below.refl w124.heap.size w124
      have hSsw124 := Cells.below hB_s1_w124 hSss1
      clear hX
      refine ⟨_, rfl, fun _ _ => hSsw124, ?_⟩
      try simp only [Act.put, rgA, rgB, rgC, rgD, rgE, rgF]
      refine wpAnyT_pure (i := 39) (v := ?_) rfl (by kernel_rfl) (by kernel_rfl) (by kernel_rfl) (fun _ _ _ h => h) (by rfl) ?_ ?_
      rotate_left
      · intro w; go_simp; try with_reducible rfl
      simp only [Act.put, rgA, rgB, rgC, rgD, rgE, rgF]
      refine wpAnyT_pure (i := 40) (v := ?_) rfl (by kernel_rfl) (by kernel_rfl) (by kernel_rfl) (fun _ _ _ h => h) (by rfl) ?_ ?_
      rotate_left
      · intro w; go_simp; try with_reducible rfl
      simp only [Act.put, rgA, rgB, rgC, rgD, rgE, rgF]
      refine wpAnyT_pure (i := 41) (v := ?_) rfl (by kernel_rfl) (by kernel_rfl) (by kernel_rfl) (fun _ _ _ h => h) (by rfl) ?_ ?_
      rotate_left
      · intro w; go_simp; try with_reducible rfl
      simp only [Act.put, rgA, rgB, rgC, rgD, rgE, rgF]
      refine wpAnyT_pure (i := 42) (v := ?_) rfl (by kernel_rfl) (by kernel_rfl) (by kernel_rfl) (fun _ _ _ h => h) (by rfl) ?_ ?_
      rotate_left
      · intro w; go_simp; try with_reducible rfl
      simp only [Act.put, rgA, rgB, rgC, rgD, rgE, rgF]
      refine wpAnyT_done (by kernel_rfl) ?_ _
      have HBL := Lib.hid (hB_0_s1.trans ((hB_s1_w124).mono hB_0_s1.size))
      refine cut_leaf ?_ ?_
      focus kernel_rfl
      exact ⟨_, _, _, _, _, _, _, _, _, _, _, _, _, _, _, _, _, _, _, _, _, _, _, _, _, _, _, _, _, _, _, _, _, _, _, _, _, _, _, _, _, _, rfl, HBL.out⟩
  rintro vs w5 ⟨v21, v22, v23, v24, v25, v26, v27, v28, v29, v30, v31, v32, v33, v34, v35, v36, v37, v38, v39, v40, v41, v42, v43, v44, v45, v46, v47, v48, v49, v50, v51, v52, v53, v54, v55, v56, v57, v58, v59, v60, v61, v62, rfl, hB5⟩
  simp only [puts, Act.put, List.setIfInBounds_toArray, List.set_cons_zero, List.set_cons_succ]
  have HB5 := Lib.hid (below_step HB4.out hB5)
  have HK5 := Lib.hid ((hB5.block _ (blk_lt HK4.out)).trans HK4.out)
  clear hB5 hC0 HS1 HS2 HS3 HS4
  have HFW := Lib.hid (few47 w5 a len cap x0 (HX.out.below HB5.out (fun _ h => h)) (fun b hb => Nat.lt_of_lt_of_le hb HB5.out.size))
  obtain ⟨fb, hfb⟩ : ∃ x, fewB x0 = x := ⟨_, rfl⟩
  rw [hfb] at HFW
  have HFB := Lib.hid hfb
  clear hfb
  go_wp2_with fail
  refine HFW.out.mono ?_
  clear HFW
  rintro e w2 ⟨rfl, hB2⟩
  have HB2 := Lib.hid (below_step HB5.out hB2)
  have HK2 := Lib.hid ((hB2.block _ (blk_lt HK5.out)).trans HK5.out)
  clear hB2
  cases fb
  case false =>
    go_wp2_with fail
    go_ret
    exact ⟨rfl, HB2.out⟩
  have HFB2 := Lib.hid (show fewB x0 = true from HFB.out)
  have HBU := Lib.hid (build47 w2 a len cap x0 (HX.out.below HB2.out (fun _ h => h)) (fun b hb => Nat.lt_of_lt_of_le hb HB2.out.size) HFB2.out)
  have HM := Lib.hid (show len ≤ 30 from by
    have h := HFB2.out
    unfold fewB at h
    rw [Bool.and_eq_true] at h
    have h2 := of_decide_eq_true h.2
    rw [HL.out] at h2
    exact h2)
  go_wp2_with fail
  refine HBU.out.mono ?_
  clear HBU
  rintro e w3 ⟨F, p, mr, ms, n, K, G, ha, hc, rfl, hG, hF, hB3⟩
  have HG3 := Lib.hid hG
  have HGI := Lib.hid hG.gi
  have HB3 := Lib.hid (below_step HB2.out hB3)
  have HK3 := Lib.hid ((hB3.block _ (blk_lt HK2.out)).trans HK2.out)
  have HLT := Lib.hid (show len ≤ 100 ∧ len ≤ 1000 from by have := HM.out; omega)
  have HCN := Lib.hid (show (cellsG G).length ≤ 1000 from by have h1 := cellsG_len hG.gi; have h2 := hG.gi.num; have h3 := HM.out; omega)
  clear hG hF hB3
  go_upto_region 10 with fail
  have hC1 : Cells [(⟨gb, 0, none⟩, .int .i64 c1), (⟨gb, 1, none⟩, .int .i64 c2), (⟨gb, 2, none⟩, .int .i64 c3), (⟨gb, 3, none⟩, .int .i64 c4')] w3 := ⟨blk_cell HK3.out 0, blk_cell HK3.out 1, blk_cell HK3.out 2, blk_cell HK3.out 3, trivial⟩
  obtain ⟨al, hal⟩ : ∃ x, cellsG G ++ [(⟨c1, c2, c3, c4'⟩ : C4)] = x := ⟨_, rfl⟩
  have HAL := Lib.hid hal
  have HAN := Lib.hid (show al.length ≤ 1001 from by rw [← hal, List.length_append, List.length_singleton]; have := HCN.out; omega)
  clear hal
  refine wp_cut [73, 74, 75, 76, 77, 11] (fun vs w6 => ∃ v73 v74 v75 v76 na nc, vs = [v73, v74, v75, v76, .slice na al.length nc, .slice na al.length nc] ∧ SlC w3.heap.size w6 (.slice na al.length nc) al ∧ Below w3.heap.size w3 w6) ?_ ?_
  · skip
    refine wp_region_T (Cells [(⟨gb, 0, none⟩, .int .i64 c1), (⟨gb, 1, none⟩, .int .i64 c2), (⟨gb, 2, none⟩, .int .i64 c3), (⟨gb, 3, none⟩, .int .i64 c4')]) (fun _ => false) (by kernel_rfl) ?_
    have hSss25 := Cells.drew hC1
    have hB_0_s25 : Below w3.heap.size w3 w3.drew := below_drew _
    generalize w3.drew = s25 at hSss25 hB_0_s25 ⊢
    have hB_s25_s25 := Below.refl s25.heap.size s25
    refine wpAnyT_pure (i := 0) (v := ?_) rfl (by kernel_rfl) (by kernel_rfl) (by kernel_rfl) (fun _ _ _ h => h) (by rfl) ?_ ?_
    rotate_left
    · intro w; go_simp; try with_reducible rfl
    simp only [Act.put, rgA, rgB, rgC, rgD, rgE, rgF]
    refine wpAnyT_loadW (i := 2) (v := ?_) rfl (by kernel_rfl) (by kernel_rfl) (by kernel_rfl) (by kernel_rfl) (by kernel_rfl) (fun _ _ _ h => h) (Or.inl ⟨by rfl, ?_⟩) hSss25 ?_
    rotate_left
    · intro w hSw; obtain ⟨e0, e1, e2, e3, -⟩ := hSw; go_simp; try with_reducible rfl
    simp only [Act.put, rgA, rgB, rgC, rgD, rgE, rgF]
    refine wpAnyT_two (i := 1) (k := 3) (by kernel_rfl) rfl rfl (by rfl) (by rfl) ?_ ?_
    · skip
      have hbP : Below w3.heap.size w3 s25 := hB_0_s25.trans ((hB_s25_s25).mono hB_0_s25.size)
      have hso := (HG3.out.below hbP).cellsO HLT.out.2
      refine wp_enter (f := 16) (args := #[.pointer (some ⟨p, 0, none⟩)]) (by go_simp) hso ?_
      rintro e w126 ⟨v, rfl, ho, hX⟩
      obtain ⟨oa, ol, oc, rfl, -⟩ := ho.slice
      have HO1 := Lib.hid (ho.base (hB_s25_s25).size)
      clear ho hbP hso
      have hB_s25_w126 := below_step hB_s25_s25 hX
      have hB_w126_w126 := Below.refl w126.heap.size w126
      have hSsw126 := Cells.below hB_s25_w126 hSss25
      clear hX
      refine ⟨_, rfl, fun _ _ => hSsw126, ?_⟩
      try simp only [Act.put, rgA, rgB, rgC, rgD, rgE, rgF]
      refine wpAnyT_one (i := 3) (by kernel_rfl) rfl (by rfl) ?_
      obtain ⟨b3, hb3⟩ : ∃ b, w126.heap.size = b := ⟨_, rfl⟩
      refine wp_newrow (v := .slice (some ⟨b3, 0, none⟩) 1 1) (cs := #[.int .i64 c1, .int .i64 c2, .int .i64 c3, .int .i64 c4']) (te := 38) (by rw [← hb3]; go_simp) ?_
      intro w127 hX hN3
      rw [hb3] at hN3
      have hB_s25_w127 := below_step hB_s25_w126 hX
      have hB_w126_w127 := below_step hB_w126_w126 hX
      have hB_w127_w127 := Below.refl w127.heap.size w127
      have hSsw127 := Cells.below hB_s25_w127 hSss25
      clear hX
      refine ⟨fun _ _ => hSsw127, ?_⟩
      try simp only [Act.put, rgA, rgB, rgC, rgD, rgE, rgF]
      refine wpAnyT_one (i := 4) (by kernel_rfl) rfl (by rfl) ?_
      have hq3 := ((hB_w127_w127).block _ (blk_lt hN3)).trans hN3
      refine wp_app (.tmp 74) (.tmp 76) 23 rfl (e := cellT) (te := 38) info_cell Try.underlying23 rfl (by decide) (base := s25.heap.size) (S := fun _ => False) (v := .slice oa ol oc) (xs := (cellsG G).map C4.d) (by kernel_rfl) (HO1.out.below hB_w126_w127) (hB_s25_w127).size (sv := .slice (some ⟨b3, 0, none⟩) 1 1) (by kernel_rfl) (ys := [C4.d ⟨c1, c2, c3, c4'⟩]) (Src.of_cells (news := [.int .i64 c1, .int .i64 c2, .int .i64 c3, .int .i64 c4']) (fun j u hu => by rw [Nat.zero_add, blk_cell hq3]; simpa using hu)) (RdL.one (e := cellT) (cell_rd HCO.out)) (by have := HCN.out; rw [List.length_map]; simp only [List.length_singleton]; omega) (by have := HCN.out; rw [List.length_map]; simp only [List.length_singleton]; omega) ?_
      intro ca4 cl4 cc4 w128 O4 g4 ob4
      have hX : Below s25.heap.size s25 w128 := (hB_s25_w127).grown g4 (hB_s25_w127).size (fun c hc => (HO1.out.own c hc).1)
      rw [map_snoc_d, HAL.out] at O4
      have hsl := SlC.of_owns (O4.base (hB_0_s25).size)
      obtain rfl := rd_len hsl.rd
      have HS4 := Lib.hid hsl
      clear O4 g4 ob4 hq3 hsl
      have hB_s25_w128 := hX
      have hB_w128_w128 := Below.refl w128.heap.size w128
      have hSsw128 := Cells.below hB_s25_w128 hSss25
      clear hX
      refine ⟨fun _ _ => hSsw128, ?_⟩
      try simp only [Act.put, rgA, rgB, rgC, rgD, rgE, rgF]
      refine wpAnyT_pure (i := 5) (v := ?_) rfl (by kernel_rfl) (by kernel_rfl) (by kernel_rfl) (fun _ _ _ h => h) (by rfl) ?_ ?_
      rotate_left
      · intro w; go_simp; try with_reducible rfl
      simp only [Act.put, rgA, rgB, rgC, rgD, rgE, rgF]
      refine wpAnyT_done (by kernel_rfl) ?_ _
      have HBL := Lib.hid (hB_0_s25.trans ((hB_s25_w128).mono hB_0_s25.size))
      have HSL := Lib.hid (HS4.out.below hB_w128_w128)
      refine cut_leaf ?_ ?_
      focus kernel_rfl
      exact ⟨_, _, _, _, ca4, cc4, rfl, HSL.out, HBL.out⟩
    · skip
      obtain ⟨b3, hb3⟩ : ∃ b, s25.heap.size = b := ⟨_, rfl⟩
      refine wp_newrow (v := .slice (some ⟨b3, 0, none⟩) 1 1) (cs := #[.int .i64 c1, .int .i64 c2, .int .i64 c3, .int .i64 c4']) (te := 38) (by rw [← hb3]; go_simp) ?_
      intro w129 hX hN3
      rw [hb3] at hN3
      have hB_s25_w129 := below_step hB_s25_s25 hX
      have hB_w129_w129 := Below.refl w129.heap.size w129
      have hSsw129 := Cells.below hB_s25_w129 hSss25
      clear hX
      refine ⟨fun _ _ => hSsw129, ?_⟩
      try simp only [Act.put, rgA, rgB, rgC, rgD, rgE, rgF]
      refine wpAnyT_one (i := 1) (by kernel_rfl) rfl (by rfl) ?_
      have hbP : Below w3.heap.size w3 w129 := hB_0_s25.trans ((hB_s25_w129).mono hB_0_s25.size)
      have hso := (HG3.out.below hbP).cellsO HLT.out.2
      refine wp_enter (f := 16) (args := #[.pointer (some ⟨p, 0, none⟩)]) (by go_simp) hso ?_
      rintro e w130 ⟨v, rfl, ho, hX⟩
      obtain ⟨oa, ol, oc, rfl, -⟩ := ho.slice
      have HO1 := Lib.hid (ho.base (hB_s25_w129).size)
      clear ho hbP hso
      have hB_s25_w130 := below_step hB_s25_w129 hX
      have hB_w129_w130 := below_step hB_w129_w129 hX
      have hB_w130_w130 := Below.refl w130.heap.size w130
      have hSsw130 := Cells.below hB_s25_w130 hSss25
      clear hX
      refine ⟨_, rfl, fun _ _ => hSsw130, ?_⟩
      try simp only [Act.put, rgA, rgB, rgC, rgD, rgE, rgF]
      refine wpAnyT_one (i := 4) (by kernel_rfl) rfl (by rfl) ?_
      have hq3 := ((hB_w129_w130).block _ (blk_lt hN3)).trans hN3
      refine wp_app (.tmp 74) (.tmp 76) 23 rfl (e := cellT) (te := 38) info_cell Try.underlying23 rfl (by decide) (base := s25.heap.size) (S := fun _ => False) (v := .slice oa ol oc) (xs := (cellsG G).map C4.d) (by kernel_rfl) (HO1.out.below hB_w130_w130) (hB_s25_w130).size (sv := .slice (some ⟨b3, 0, none⟩) 1 1) (by kernel_rfl) (ys := [C4.d ⟨c1, c2, c3, c4'⟩]) (Src.of_cells (news := [.int .i64 c1, .int .i64 c2, .int .i64 c3, .int .i64 c4']) (fun j u hu => by rw [Nat.zero_add, blk_cell hq3]; simpa using hu)) (RdL.one (e := cellT) (cell_rd HCO.out)) (by have := HCN.out; rw [List.length_map]; simp only [List.length_singleton]; omega) (by have := HCN.out; rw [List.length_map]; simp only [List.length_singleton]; omega) ?_
      intro ca4 cl4 cc4 w131 O4 g4 ob4
      have hX : Below s25.heap.size s25 w131 := (hB_s25_w130).grown g4 (hB_s25_w130).size (fun c hc => (HO1.out.own c hc).1)
      rw [map_snoc_d, HAL.out] at O4
      have hsl := SlC.of_owns (O4.base (hB_0_s25).size)
      obtain rfl := rd_len hsl.rd
      have HS4 := Lib.hid hsl
      clear O4 g4 ob4 hq3 hsl
      have hB_s25_w131 := hX
      have hB_w131_w131 := Below.refl w131.heap.size w131
      have hSsw131 := Cells.below hB_s25_w131 hSss25
      clear hX
      refine ⟨fun _ _ => hSsw131, ?_⟩
      try simp only [Act.put, rgA, rgB, rgC, rgD, rgE, rgF]
      refine wpAnyT_pure (i := 5) (v := ?_) rfl (by kernel_rfl) (by kernel_rfl) (by kernel_rfl) (fun _ _ _ h => h) (by rfl) ?_ ?_
      rotate_left
      · intro w; go_simp; try with_reducible rfl
      simp only [Act.put, rgA, rgB, rgC, rgD, rgE, rgF]
      refine wpAnyT_done (by kernel_rfl) ?_ _
      have HBL := Lib.hid (hB_0_s25.trans ((hB_s25_w131).mono hB_0_s25.size))
      have HSL := Lib.hid (HS4.out.below hB_w131_w131)
      refine cut_leaf ?_ ?_
      focus kernel_rfl
      exact ⟨_, _, _, _, ca4, cc4, rfl, HSL.out, HBL.out⟩
  rintro vs w6 ⟨v73, v74, v75, v76, na, nc, rfl, hs6, hB6⟩
  simp only [puts, Act.put, List.setIfInBounds_toArray, List.set_cons_zero, List.set_cons_succ]
  have HS6 := Lib.hid hs6
  have HB6 := Lib.hid (below_step HB3.out hB6)
  have HG6 := Lib.hid (HG3.out.below hB6)
  have hal1 := HAN.out
  clear hs6 hB6 hC1
  go_wp2_with fail
  go_loopw [12] (fun iv wr => ∃ (k : Nat), k ≤ al.length ∧ iv = .int .i64 k ∧ Below w6.heap.size w6 wr) (fun iv _ => al.length - (intOf iv).toNat)
  case atStart => exact ⟨0, Nat.zero_le _, rfl, Below.refl _ _⟩
  obtain ⟨k, hk, rfl, hB⟩ := hrel
  have HBR := Lib.hid hB
  clear hB
  by_cases hlt : k < al.length
  · have hkI : (k : Int) < (al.length : Int) := by omega
    have HKL := Lib.hid hlt
    go_wp2_with fail
    go_loopw [13] (fun iv w7 => ∃ (q : Nat), q ≤ al.length ∧ iv = .int .i64 q ∧ Below w6.heap.size w6 w7) (fun iv _ => al.length - (intOf iv).toNat)
    case atStart => exact ⟨0, Nat.zero_le _, rfl, HBR.out⟩
    case round =>
      obtain ⟨q, hq, rfl, hB⟩ := hrel
      have HB7 := Lib.hid hB
      have HG7 := Lib.hid (HG6.out.below hB)
      have HBW := Lib.hid (below_step HB6.out hB)
      by_cases hqt : q < al.length
      · have hqI : (q : Int) < (al.length : Int) := by omega
        have hRA := (HS6.out.below hB).rd
        obtain ⟨y, hy⟩ : ∃ y, y = al[k]'HKL.out := ⟨_, rfl⟩
        obtain ⟨u, hu⟩ : ∃ y, y = al[q]'hqt := ⟨_, rfl⟩
        have hcy := cell_at hRA k HKL.out
        have hcu := cell_at hRA q hqt
        rw [← hy] at hcy
        rw [← hu] at hcu
        obtain ⟨b, o, hna, -, m0, m1, m2, m3, hyo⟩ := hcy
        obtain ⟨b2, o2, hna2, -, u0, u1, u2, u3, huo⟩ := hcu
        have HRE := Lib.hid (rev_eq HGI.out y u)
        have HYO := Lib.hid hyo
        have HUO := Lib.hid huo
        rw [hna] at hna2
        obtain ⟨rfl, rfl⟩ : b = b2 ∧ o = o2 := by
          injection hna2 with h
          injection h with h1 h2
          exact ⟨h1, h2⟩
        have HNA := Lib.hid hna
        have HQT := Lib.hid hqt
        obtain ⟨rb, hrb⟩ : ∃ x, decide (y ∈ rdrsG G u) = x := ⟨_, rfl⟩
        rw [hrb] at HRE
        have HRB := Lib.hid hrb
        clear hRA hyo huo hB hy hu hna2 hqt hrb
        obtain ⟨y1, y2, y3, y4⟩ := y
        obtain ⟨u1', u2', u3', u4'⟩ := u
        simp only at m0 m1 m2 m3 u0 u1 u2 u3
        subst hna
        have hC2 : Cells [(⟨b, o + k * 4, none⟩, .int .i64 y1), (⟨b, o + k * 4 + 1, none⟩, .int .i64 y2), (⟨b, o + k * 4 + 2, none⟩, .int .i64 y3), (⟨b, o + k * 4 + 3, none⟩, .int .i64 y4), (⟨b, o + q * 4, none⟩, .int .i64 u1'), (⟨b, o + q * 4 + 1, none⟩, .int .i64 u2'), (⟨b, o + q * 4 + 2, none⟩, .int .i64 u3'), (⟨b, o + q * 4 + 3, none⟩, .int .i64 u4')] wr := ⟨m0, m1, m2, m3, u0, u1, u2, u3, trivial⟩
        clear m0 m1 m2 m3 u0 u1 u2 u3
        go_upto_region 17 with fail
        refine wp_region_T (Cells [(⟨b, o + k * 4, none⟩, .int .i64 y1), (⟨b, o + k * 4 + 1, none⟩, .int .i64 y2), (⟨b, o + k * 4 + 2, none⟩, .int .i64 y3), (⟨b, o + k * 4 + 3, none⟩, .int .i64 y4), (⟨b, o + q * 4, none⟩, .int .i64 u1'), (⟨b, o + q * 4 + 1, none⟩, .int .i64 u2'), (⟨b, o + q * 4 + 2, none⟩, .int .i64 u3'), (⟨b, o + q * 4 + 3, none⟩, .int .i64 u4')]) (fun _ => false) (by kernel_rfl) ?_
        have hSss32 := Cells.drew hC2
        have hB_0_s32 : Below wr.heap.size wr wr.drew := below_drew _
        generalize wr.drew = s32 at hSss32 hB_0_s32 ⊢
        have hB_s32_s32 := Below.refl s32.heap.size s32
        refine wpAnyT_pure (i := 0) (v := ?_) rfl (by kernel_rfl) (by kernel_rfl) (by kernel_rfl) (fun _ _ _ h => h) (by rfl) ?_ ?_
        rotate_left
        · intro w; go_simp; try with_reducible rfl
        simp only [Act.put, rgA, rgB, rgC, rgD, rgE, rgF]
        refine wpAnyT_pure (i := 1) (v := ?_) rfl (by kernel_rfl) (by kernel_rfl) (by kernel_rfl) (fun _ _ _ h => h) (by rfl) ?_ ?_
        rotate_left
        · intro w; go_simp; try with_reducible rfl
        simp only [Act.put, rgA, rgB, rgC, rgD, rgE, rgF]
        refine wpAnyT_pure (i := 2) (v := ?_) rfl (by kernel_rfl) (by kernel_rfl) (by kernel_rfl) (fun _ _ _ h => h) (by rfl) ?_ ?_
        rotate_left
        · intro w; go_simp; try with_reducible rfl
        simp only [Act.put, rgA, rgB, rgC, rgD, rgE, rgF]
        refine wpAnyT_pure (i := 3) (v := ?_) rfl (by kernel_rfl) (by kernel_rfl) (by kernel_rfl) (fun _ _ _ h => h) (by rfl) ?_ ?_
        rotate_left
        · intro w; go_simp; try with_reducible rfl
        simp only [Act.put, rgA, rgB, rgC, rgD, rgE, rgF]
        refine wpAnyT_pure (i := 6) (v := ?_) rfl (by kernel_rfl) (by kernel_rfl) (by kernel_rfl) (fun _ _ _ h => h) (by rfl) ?_ ?_
        rotate_left
        · intro w; go_simp; try with_reducible rfl
        simp only [Act.put, rgA, rgB, rgC, rgD, rgE, rgF]
        refine wpAnyT_pure (i := 7) (v := ?_) rfl (by kernel_rfl) (by kernel_rfl) (by kernel_rfl) (fun _ _ _ h => h) (by rfl) ?_ ?_
        rotate_left
        · intro w; go_simp; try with_reducible rfl
        simp only [Act.put, rgA, rgB, rgC, rgD, rgE, rgF]
        refine wpAnyT_pure (i := 8) (v := ?_) rfl (by kernel_rfl) (by kernel_rfl) (by kernel_rfl) (fun _ _ _ h => h) (by rfl) ?_ ?_
        rotate_left
        · intro w; go_simp; try with_reducible rfl
        simp only [Act.put, rgA, rgB, rgC, rgD, rgE, rgF]
        refine wpAnyT_pure (i := 11) (v := ?_) rfl (by kernel_rfl) (by kernel_rfl) (by kernel_rfl) (fun _ _ _ h => h) (by rfl) ?_ ?_
        rotate_left
        · intro w; go_simp; try with_reducible rfl
        simp only [Act.put, rgA, rgB, rgC, rgD, rgE, rgF]
        refine wpAnyT_pure (i := 12) (v := ?_) rfl (by kernel_rfl) (by kernel_rfl) (by kernel_rfl) (fun _ _ _ h => h) (by rfl) ?_ ?_
        rotate_left
        · intro w; go_simp; try with_reducible rfl
        simp only [Act.put, rgA, rgB, rgC, rgD, rgE, rgF]
        refine wpAnyT_pure (i := 13) (v := ?_) rfl (by kernel_rfl) (by kernel_rfl) (by kernel_rfl) (fun _ _ _ h => h) (by rfl) ?_ ?_
        rotate_left
        · intro w; go_simp; try with_reducible rfl
        simp only [Act.put, rgA, rgB, rgC, rgD, rgE, rgF]
        refine wpAnyT_pure (i := 14) (v := ?_) rfl (by kernel_rfl) (by kernel_rfl) (by kernel_rfl) (fun _ _ _ h => h) (by rfl) ?_ ?_
        rotate_left
        · intro w; go_simp; try with_reducible rfl
        simp only [Act.put, rgA, rgB, rgC, rgD, rgE, rgF]
        refine wpAnyT_pure (i := 17) (v := ?_) rfl (by kernel_rfl) (by kernel_rfl) (by kernel_rfl) (fun _ _ _ h => h) (by rfl) ?_ ?_
        rotate_left
        · intro w; go_simp; try with_reducible rfl
        simp only [Act.put, rgA, rgB, rgC, rgD, rgE, rgF]
        refine wpAnyT_pure (i := 18) (v := ?_) rfl (by kernel_rfl) (by kernel_rfl) (by kernel_rfl) (fun _ _ _ h => h) (by rfl) ?_ ?_
        rotate_left
        · intro w; go_simp; try with_reducible rfl
        simp only [Act.put, rgA, rgB, rgC, rgD, rgE, rgF]
        refine wpAnyT_pure (i := 19) (v := ?_) rfl (by kernel_rfl) (by kernel_rfl) (by kernel_rfl) (fun _ _ _ h => h) (by rfl) ?_ ?_
        rotate_left
        · intro w; go_simp; try with_reducible rfl
        simp only [Act.put, rgA, rgB, rgC, rgD, rgE, rgF]
        refine wpAnyT_loadW (i := 4) (v := ?_) rfl (by kernel_rfl) (by kernel_rfl) (by kernel_rfl) (by kernel_rfl) (by kernel_rfl) (fun _ _ _ h => h) (Or.inl ⟨by rfl, ?_⟩) hSss32 ?_
        rotate_left
        · intro w hSw; obtain ⟨e0, e1, e2, e3, e4, e5, e6, e7, -⟩ := hSw; go_simp; try with_reducible rfl
        simp only [Act.put, rgA, rgB, rgC, rgD, rgE, rgF]
        refine wpAnyT_loadW (i := 9) (v := ?_) rfl (by kernel_rfl) (by kernel_rfl) (by kernel_rfl) (by kernel_rfl) (by kernel_rfl) (fun _ _ _ h => h) (Or.inl ⟨by rfl, ?_⟩) hSss32 ?_
        rotate_left
        · intro w hSw; obtain ⟨e0, e1, e2, e3, e4, e5, e6, e7, -⟩ := hSw; go_simp; try with_reducible rfl
        simp only [Act.put, rgA, rgB, rgC, rgD, rgE, rgF]
        refine wpAnyT_loadW (i := 15) (v := ?_) rfl (by kernel_rfl) (by kernel_rfl) (by kernel_rfl) (by kernel_rfl) (by kernel_rfl) (fun _ _ _ h => h) (Or.inl ⟨by rfl, ?_⟩) hSss32 ?_
        rotate_left
        · intro w hSw; obtain ⟨e0, e1, e2, e3, e4, e5, e6, e7, -⟩ := hSw; go_simp; try with_reducible rfl
        simp only [Act.put, rgA, rgB, rgC, rgD, rgE, rgF]
        refine wpAnyT_loadW (i := 20) (v := ?_) rfl (by kernel_rfl) (by kernel_rfl) (by kernel_rfl) (by kernel_rfl) (by kernel_rfl) (fun _ _ _ h => h) (Or.inl ⟨by rfl, ?_⟩) hSss32 ?_
        rotate_left
        · intro w hSw; obtain ⟨e0, e1, e2, e3, e4, e5, e6, e7, -⟩ := hSw; go_simp; try with_reducible rfl
        simp only [Act.put, rgA, rgB, rgC, rgD, rgE, rgF]
        refine wpAnyT_one (i := 5) (by kernel_rfl) rfl (by rfl) ?_
        have hbP : Below wr.heap.size wr s32 := hB_0_s32.trans ((hB_s32_s32).mono hB_0_s32.size)
        have hgp := HG7.out.below hbP
        refine wp_enter (f := 17) (args := #[.pointer (some ⟨p, 0, none⟩), .agg #[.int .i64 y1, .int .i64 y2, .int .i64 y3, .int .i64 y4]]) (by go_simp) (hgp.reads ⟨y1, y2, y3, y4⟩ HYO.out) ?_
        rintro e w133 ⟨v, rfl, hs, hX⟩
        obtain ⟨va5, vc5, rfl⟩ := hs.form
        have HS5 := Lib.hid hs
        clear hs hbP hgp
        have hB_s32_w133 := below_step hB_s32_s32 hX
        have hB_w133_w133 := Below.refl w133.heap.size w133
        have hSsw133 := Cells.below hB_s32_w133 hSss32
        clear hX
        refine ⟨_, rfl, fun _ _ => hSsw133, ?_⟩
        try simp only [Act.put, rgA, rgB, rgC, rgD, rgE, rgF]
        refine wpAnyT_one (i := 10) (by kernel_rfl) rfl (by rfl) ?_
        have hha := rhas47 w133 va5 vc5 ((lkG G ⟨y1, y2, y3, y4⟩).getD []) (HS5.out.below hB_w133_w133).rd (fun b h => h.2) ⟨u1', u2', u3', u4'⟩
        rw [HRE.out] at hha
        refine wp_enter (f := 18) (args := #[.slice va5 ((lkG G ⟨y1, y2, y3, y4⟩).getD []).length vc5, .agg #[.int .i64 u1', .int .i64 u2', .int .i64 u3', .int .i64 u4']]) (by go_simp) hha ?_
        rintro e w134 ⟨rfl, hX⟩
        clear hha
        have hB_s32_w134 := below_step hB_s32_w133 hX
        have hB_w133_w134 := below_step hB_w133_w133 hX
        have hB_w134_w134 := Below.refl w134.heap.size w134
        have hSsw134 := Cells.below hB_s32_w134 hSss32
        clear hX
        refine ⟨_, rfl, fun _ _ => hSsw134, ?_⟩
        try simp only [Act.put, rgA, rgB, rgC, rgD, rgE, rgF]
        refine wpAnyT_one (i := 16) (by kernel_rfl) rfl (by rfl) ?_
        have hbP : Below wr.heap.size wr w134 := hB_0_s32.trans ((hB_s32_w134).mono hB_0_s32.size)
        have hgp := HG7.out.below hbP
        refine wp_enter (f := 21) (args := #[.pointer (some ⟨p, 0, none⟩), .agg #[.int .i64 u1', .int .i64 u2', .int .i64 u3', .int .i64 u4']]) (by go_simp) (hgp.readers HLT.out.2 ⟨u1', u2', u3', u4'⟩ HUO.out) ?_
        rintro e w135 ⟨v, rfl, hs, hX⟩
        obtain ⟨va16, vc16, rfl⟩ := hs.form
        have HS16 := Lib.hid hs
        clear hs hbP hgp
        have hB_s32_w135 := below_step hB_s32_w134 hX
        have hB_w133_w135 := below_step hB_w133_w134 hX
        have hB_w134_w135 := below_step hB_w134_w134 hX
        have hB_w135_w135 := Below.refl w135.heap.size w135
        have hSsw135 := Cells.below hB_s32_w135 hSss32
        clear hX
        refine ⟨_, rfl, fun _ _ => hSsw135, ?_⟩
        try simp only [Act.put, rgA, rgB, rgC, rgD, rgE, rgF]
        refine wpAnyT_one (i := 21) (by kernel_rfl) rfl (by rfl) ?_
        have hha := rhas47 w135 va16 vc16 (rdrsG G ⟨u1', u2', u3', u4'⟩) (HS16.out.below hB_w135_w135).rd (fun b h => h.2) ⟨y1, y2, y3, y4⟩
        rw [HRB.out] at hha
        refine wp_enter (f := 18) (args := #[.slice va16 (rdrsG G ⟨u1', u2', u3', u4'⟩).length vc16, .agg #[.int .i64 y1, .int .i64 y2, .int .i64 y3, .int .i64 y4]]) (by go_simp) hha ?_
        rintro e w136 ⟨rfl, hX⟩
        clear hha
        have hB_s32_w136 := below_step hB_s32_w135 hX
        have hB_w133_w136 := below_step hB_w133_w135 hX
        have hB_w134_w136 := below_step hB_w134_w135 hX
        have hB_w135_w136 := below_step hB_w135_w135 hX
        have hB_w136_w136 := Below.refl w136.heap.size w136
        have hSsw136 := Cells.below hB_s32_w136 hSss32
        clear hX
        refine ⟨_, rfl, fun _ _ => hSsw136, ?_⟩
        try simp only [Act.put, rgA, rgB, rgC, rgD, rgE, rgF]
        refine wpAnyT_pure (i := 22) (v := (.bool false)) rfl (by kernel_rfl) (by kernel_rfl) (by kernel_rfl) (fun _ _ _ h => h) (by rfl) ?_ ?_
        · intro w; cases rb <;> go_simp
        simp only [Act.put, rgA, rgB, rgC, rgD, rgE, rgF]
        refine wpAnyT_done (by kernel_rfl) ?_ _
        have hbP : Below wr.heap.size wr w136 := hB_0_s32.trans ((hB_s32_w136).mono hB_0_s32.size)
        have HB8 := Lib.hid (below_step HB7.out hbP)
        clear hbP
        go_wp2_with fail
        go_roundw
        case rel => exact ⟨q + 1, HQT.out, by go_num, HB8.out⟩
        case measure => simp [intOf]; try omega
      · obtain rfl : q = al.length := by omega
        clear hB
        go_wp2_with fail
        go_roundw
        case rel => exact ⟨k + 1, HKL.out, by go_num, HB7.out⟩
        case measure => simp [intOf]; try omega
  · obtain rfl : k = al.length := by omega
    go_wp2_with fail
    go_ret
    exact ⟨rfl, below_step HB6.out HBR.out⟩
end Go.Proofs.Ytoimbhdjhhmonaa
