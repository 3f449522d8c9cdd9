/- Layer 16: the law RateCorrects. -/
import Derived.Test.YtmlekhkgokgpbaaL16f
set_option linter.unusedSimpArgs false
namespace Go.Proofs.Ytmlekhkgokgpbaa
open Go.RowKit Go
set_option maxRecDepth 20000 in
set_option maxHeartbeats 1000000 in
theorem correctsWalk16 (w : World) (c0 : List Value) (g : Ty.den .str) (r0 : Rd .str (fun b => b < w.heap.size) w c0 g) (c1 : List Value) (xs : (Ty.sl rateT).den) (r1 : Rd (.sl rateT) (fun b => b < w.heap.size) w c1 xs) (s1 : List.length xs * Try.prog.bytesOf 35 ≤ reachBytes) (c2 : List Value) (two : twoT.den) (r2 : Rd twoT (fun b => b < w.heap.size) w c2 two) :
    Calls Try.prog 4 #[valOf .str c0, valOf (.sl rateT) c1, valOf twoT c2] w fun e w' => e = .returned (.bool true) ∧ Below w.heap.size w w' := by
  obtain ⟨rfl, hg⟩ := r0
  obtain ⟨a, len, cap, rfl, hl, hlc, hcm, -⟩ := id r1
  change List rateT.den at xs
  change ByteArray at g
  simp only [valOf, List.headD_cons]
  have R1 := Lib.hid r1
  have HL := Lib.hid (show xs.length = len from hl)
  have HGS := Lib.hid hg
  clear r1 hl hg
  obtain ⟨⟨kc, kk, kw, kv, ⟨⟩⟩, ⟨jc, jk, jw, jv, ⟨⟩⟩, ⟨⟩⟩ := two
  obtain ⟨ta, tb, rfl, ⟨kc1, kr1, rfl, ⟨rfl, hk1⟩, kc2, kr2, rfl, ⟨rfl, hk2⟩, kc3, kr3, rfl, ⟨rfl, hk3⟩, kc4, kr4, rfl, ⟨rfl, hk4⟩, rfl⟩, tc, td, rfl, ⟨jc1, jr1, rfl, ⟨rfl, hj1⟩, jc2, jr2, rfl, ⟨rfl, hj2⟩, jc3, jr3, rfl, ⟨rfl, hj3⟩, jc4, jr4, rfl, ⟨rfl, hj4⟩, rfl⟩, rfl⟩ := r2
  have HKOK := Lib.hid (show (⟨kc, kk, kw⟩ : K3).ok from ⟨hk1, hk2, hk3⟩)
  have HKV := Lib.hid hk4
  have HJOK := Lib.hid (show (⟨jc, jk, jw⟩ : K3).ok from ⟨hj1, hj2, hj3⟩)
  have HJV := Lib.hid hj4
  clear hk1 hk2 hk3 hk4 hj1 hj2 hj3 hj4
  simp only [List.append_nil, List.cons_append, List.nil_append]
  have HLM := Lib.hid (show (len + 2) * 40 ≤ 140737488355328 by have := HL.out; rw [show Try.prog.bytesOf 35 = 40 by kernel_rfl] at s1; unfold reachBytes at s1; omega)
  clear s1
  obtain ⟨fb, hfb⟩ : ∃ fb, fewR g (xs ++ [(kc, kk, kw, kv, ()), (jc, jk, jw, jv, ())]) = fb := ⟨_, rfl⟩
  have HFB := Lib.hid hfb
  clear hfb
  go_enter Try.func4, Try.ntmps4
  go_wp2_with (go_at_call 11; refine (awake16_sum _).mono ?_; rintro e w1 ⟨rfl, hB1⟩)
  have hn1 := (hB1.block _ (by simp)).trans (heap_alloc_new w (.cells #[.string kc, .int .i64 kk, .int .i64 kw, .int .i64 kv, .string jc, .int .i64 jk, .int .i64 jw, .int .i64 jv] 38))
  replace hB1 : Below w.heap.size w w1 := below_step ((Below.refl _ w).alloc (Nat.le_refl _) _) hB1
  have hC1 : Cells [(⟨w.heap.size, 0, none⟩, .string kc), (⟨w.heap.size, 1, none⟩, .int .i64 kk), (⟨w.heap.size, 2, none⟩, .int .i64 kw), (⟨w.heap.size, 3, none⟩, .int .i64 kv), (⟨w.heap.size, 4, none⟩, .string jc), (⟨w.heap.size, 5, none⟩, .int .i64 jk), (⟨w.heap.size, 6, none⟩, .int .i64 jw), (⟨w.heap.size, 7, none⟩, .int .i64 jv)] w1 := ⟨blk_cell hn1 0, blk_cell hn1 1, blk_cell hn1 2, blk_cell hn1 3, blk_cell hn1 4, blk_cell hn1 5, blk_cell hn1 6, blk_cell hn1 7, trivial⟩
  refine wp_cut [19, 20, 21, 22, 7, 8] (fun vs w' => ∃ v19 v20 v21 v22 b4 b5, vs = [v19, v20, v21, v22, .pointer (some ⟨b4, 0, none⟩), .pointer (some ⟨b5, 0, none⟩)] ∧ Below w1.heap.size w1 w' ∧ w'.heap[b4]? = some (.cells #[.string kc, .int .i64 kk, .int .i64 kw, .int .i64 kv] 35 (0, 0)) ∧ w'.heap[b5]? = some (.cells #[.string jc, .int .i64 jk, .int .i64 jw, .int .i64 jv] 35 (0, 0)) ∧ w1.heap.size ≤ b4 ∧ w1.heap.size ≤ b5) ?_ ?_
  · skip
    refine wp_region_T (Cells [(⟨w.heap.size, 0, none⟩, .string kc), (⟨w.heap.size, 1, none⟩, .int .i64 kk), (⟨w.heap.size, 2, none⟩, .int .i64 kw), (⟨w.heap.size, 3, none⟩, .int .i64 kv), (⟨w.heap.size, 4, none⟩, .string jc), (⟨w.heap.size, 5, none⟩, .int .i64 jk), (⟨w.heap.size, 6, none⟩, .int .i64 jw), (⟨w.heap.size, 7, none⟩, .int .i64 jv)]) (fun _ => false) (by kernel_rfl) ?_
    have hSss1 := Cells.drew hC1
    have hB_0_s1 : Below w1.heap.size w1 w1.drew := below_drew _
    generalize w1.drew = s1 at hSss1 hB_0_s1 ⊢
    have hB_s1_s1 := Below.refl s1.heap.size s1
    refine wpAnyT_pure (i := 0) (v := ?_) rfl (by kernel_rfl) (by kernel_rfl) (by kernel_rfl) (fun _ _ _ h => h) (by rfl) ?_ ?_
    rotate_left
    · intro w; go_simp; try with_reducible rfl
    simp only [Act.put, List.setIfInBounds_toArray, List.set_cons_zero, List.set_cons_succ, List.getElem_toArray, List.getElem_cons_succ, List.getElem_cons_zero]
    refine wpAnyT_pure (i := 2) (v := ?_) rfl (by kernel_rfl) (by kernel_rfl) (by kernel_rfl) (fun _ _ _ h => h) (by rfl) ?_ ?_
    rotate_left
    · intro w; go_simp; try with_reducible rfl
    simp only [Act.put, List.setIfInBounds_toArray, List.set_cons_zero, List.set_cons_succ, List.getElem_toArray, List.getElem_cons_succ, List.getElem_cons_zero]
    refine wpAnyT_loadW (i := 1) (v := ?_) rfl (by kernel_rfl) (by kernel_rfl) (by kernel_rfl) (by kernel_rfl) (by kernel_rfl) (fun _ _ _ h => h) (Or.inl ⟨by rfl, ?_⟩) hSss1 ?_
    rotate_left
    · intro w hSw; obtain ⟨e0, e1, e2, e3, e4, e5, e6, e7, -⟩ := hSw; go_simp; try with_reducible rfl
    simp only [Act.put, List.setIfInBounds_toArray, List.set_cons_zero, List.set_cons_succ, List.getElem_toArray, List.getElem_cons_succ, List.getElem_cons_zero]
    refine wpAnyT_loadW (i := 3) (v := ?_) rfl (by kernel_rfl) (by kernel_rfl) (by kernel_rfl) (by kernel_rfl) (by kernel_rfl) (fun _ _ _ h => h) (Or.inl ⟨by rfl, ?_⟩) hSss1 ?_
    rotate_left
    · intro w hSw; obtain ⟨e0, e1, e2, e3, e4, e5, e6, e7, -⟩ := hSw; go_simp; try with_reducible rfl
    simp only [Act.put, List.setIfInBounds_toArray, List.set_cons_zero, List.set_cons_succ, List.getElem_toArray, List.getElem_cons_succ, List.getElem_cons_zero]
    refine wpAnyT_two (i := 4) (k := 5) (by kernel_rfl) rfl rfl (by rfl) (by rfl) ?_ ?_
    · skip
      obtain ⟨b4, hb4⟩ : ∃ b, s1.heap.size = b := ⟨_, rfl⟩
      have hge4 : s1.heap.size ≤ b4 := hb4 ▸ (hB_s1_s1).size
      refine wp_newrow (v := .pointer (some ⟨b4, 0, none⟩)) (cs := #[.string ⟨#[]⟩, .int .i64 0, .int .i64 0, .int .i64 0]) (te := 35) (by rw [← hb4]; go_simp) ?_
      intro w102 hX r4
      rw [hb4] at r4
      try (have hne : b4 ≠ b5 := by have := blk_lt r5; omega)
      try replace r5 := (hX.block _ (blk_lt r5)).trans r5
      have hB_s1_w102 := below_step hB_s1_s1 hX
      have hB_w102_w102 := Below.refl w102.heap.size w102
      have hSsw102 := Cells.below hB_s1_w102 hSss1
      clear hX
      refine ⟨fun _ _ => hSsw102, ?_⟩
      try simp only [Act.put, List.setIfInBounds_toArray, List.set_cons_zero, List.set_cons_succ, List.getElem_toArray, List.getElem_cons_succ, List.getElem_cons_zero]
      refine wpAnyT_one (i := 5) (by kernel_rfl) rfl (by rfl) ?_
      obtain ⟨b5, hb5⟩ : ∃ b, w102.heap.size = b := ⟨_, rfl⟩
      have hge5 : s1.heap.size ≤ b5 := hb5 ▸ (hB_s1_w102).size
      refine wp_newrow (v := .pointer (some ⟨b5, 0, none⟩)) (cs := #[.string ⟨#[]⟩, .int .i64 0, .int .i64 0, .int .i64 0]) (te := 35) (by rw [← hb5]; go_simp) ?_
      intro w103 hX r5
      rw [hb5] at r5
      try (have hne : b4 ≠ b5 := by have := blk_lt r4; omega)
      try replace r4 := (hX.block _ (blk_lt r4)).trans r4
      have hB_s1_w103 := below_step hB_s1_w102 hX
      have hB_w102_w103 := below_step hB_w102_w102 hX
      have hB_w103_w103 := Below.refl w103.heap.size w103
      have hSsw103 := Cells.below hB_s1_w103 hSss1
      clear hX
      refine ⟨fun _ _ => hSsw103, ?_⟩
      try simp only [Act.put, List.setIfInBounds_toArray, List.set_cons_zero, List.set_cons_succ, List.getElem_toArray, List.getElem_cons_succ, List.getElem_cons_zero]
      refine wpAnyT_one (i := 6) (by kernel_rfl) rfl (by rfl) ?_
      refine wp_store_row 35 (.tmp 7) (.tmp 20) rfl b4 #[.string kc, .int .i64 kk, .int .i64 kw, .int .i64 kv] (by kernel_rfl) (by kernel_rfl) 35 _ r4 (by kernel_rfl) (by rfl) (by simp [Value.oneCell']) ?_
      replace r4 := setRow_heap (w103) b4 _ #[.string kc, .int .i64 kk, .int .i64 kw, .int .i64 kv] _ _ r4
      try replace r5 := (setRow_other (w103) b4 b5 #[.string kc, .int .i64 kk, .int .i64 kw, .int .i64 kv] (Ne.symm hne)).trans r5
      have hX := Below.setRow' (hB_s1_w103) hge4 #[.string kc, .int .i64 kk, .int .i64 kw, .int .i64 kv]
      have hsz : (w103).heap.size = ((w103).setRow b4 #[.string kc, .int .i64 kk, .int .i64 kw, .int .i64 kv]).heap.size := by simp
      first | (generalize (w103).setRow b4 #[.string kc, .int .i64 kk, .int .i64 kw, .int .i64 kv] = w104 at r4 r5 hX hsz ⊢) | (generalize (w103).setRow b4 #[.string kc, .int .i64 kk, .int .i64 kw, .int .i64 kv] = w104 at r4 hX hsz ⊢)
      have hB_s1_w104 := hX
      have hB_w104_w104 := Below.refl w104.heap.size w104
      have hSsw104 := Cells.below hB_s1_w104 hSss1
      clear hX
      refine ⟨fun _ _ => hSsw104, ?_⟩
      try simp only [Act.put, List.setIfInBounds_toArray, List.set_cons_zero, List.set_cons_succ, List.getElem_toArray, List.getElem_cons_succ, List.getElem_cons_zero]
      refine wpAnyT_one (i := 7) (by kernel_rfl) rfl (by rfl) ?_
      refine wp_store_row 35 (.tmp 8) (.tmp 22) rfl b5 #[.string jc, .int .i64 jk, .int .i64 jw, .int .i64 jv] (by kernel_rfl) (by kernel_rfl) 35 _ r5 (by kernel_rfl) (by rfl) (by simp [Value.oneCell']) ?_
      replace r5 := setRow_heap (w104) b5 _ #[.string jc, .int .i64 jk, .int .i64 jw, .int .i64 jv] _ _ r5
      try replace r4 := (setRow_other (w104) b5 b4 #[.string jc, .int .i64 jk, .int .i64 jw, .int .i64 jv] hne).trans r4
      have hX := Below.setRow' (hB_s1_w104) hge5 #[.string jc, .int .i64 jk, .int .i64 jw, .int .i64 jv]
      first | (generalize (w104).setRow b5 #[.string jc, .int .i64 jk, .int .i64 jw, .int .i64 jv] = w105 at r4 r5 hX ⊢) | (generalize (w104).setRow b5 #[.string jc, .int .i64 jk, .int .i64 jw, .int .i64 jv] = w105 at r5 hX ⊢)
      have hB_s1_w105 := hX
      have hB_w105_w105 := Below.refl w105.heap.size w105
      have hSsw105 := Cells.below hB_s1_w105 hSss1
      clear hX
      refine ⟨fun _ _ => hSsw105, ?_⟩
      try simp only [Act.put, List.setIfInBounds_toArray, List.set_cons_zero, List.set_cons_succ, List.getElem_toArray, List.getElem_cons_succ, List.getElem_cons_zero]
      refine wpAnyT_done (by kernel_rfl) ?_ _
      refine cut_leaf ?_ ?_
      focus kernel_rfl
      exact ⟨_, _, _, _, b4, b5, rfl, hB_0_s1.trans ((hB_s1_w105).mono hB_0_s1.size), r4, r5, Nat.le_trans hB_0_s1.size hge4, Nat.le_trans hB_0_s1.size hge5⟩
    · skip
      obtain ⟨b5, hb5⟩ : ∃ b, s1.heap.size = b := ⟨_, rfl⟩
      have hge5 : s1.heap.size ≤ b5 := hb5 ▸ (hB_s1_s1).size
      refine wp_newrow (v := .pointer (some ⟨b5, 0, none⟩)) (cs := #[.string ⟨#[]⟩, .int .i64 0, .int .i64 0, .int .i64 0]) (te := 35) (by rw [← hb5]; go_simp) ?_
      intro w106 hX r5
      rw [hb5] at r5
      try (have hne : b4 ≠ b5 := by have := blk_lt r4; omega)
      try replace r4 := (hX.block _ (blk_lt r4)).trans r4
      have hB_s1_w106 := below_step hB_s1_s1 hX
      have hB_w106_w106 := Below.refl w106.heap.size w106
      have hSsw106 := Cells.below hB_s1_w106 hSss1
      clear hX
      refine ⟨fun _ _ => hSsw106, ?_⟩
      try simp only [Act.put, List.setIfInBounds_toArray, List.set_cons_zero, List.set_cons_succ, List.getElem_toArray, List.getElem_cons_succ, List.getElem_cons_zero]
      refine wpAnyT_one (i := 4) (by kernel_rfl) rfl (by rfl) ?_
      obtain ⟨b4, hb4⟩ : ∃ b, w106.heap.size = b := ⟨_, rfl⟩
      have hge4 : s1.heap.size ≤ b4 := hb4 ▸ (hB_s1_w106).size
      refine wp_newrow (v := .pointer (some ⟨b4, 0, none⟩)) (cs := #[.string ⟨#[]⟩, .int .i64 0, .int .i64 0, .int .i64 0]) (te := 35) (by rw [← hb4]; go_simp) ?_
      intro w107 hX r4
      rw [hb4] at r4
      try (have hne : b4 ≠ b5 := by have := blk_lt r5; omega)
      try replace r5 := (hX.block _ (blk_lt r5)).trans r5
      have hB_s1_w107 := below_step hB_s1_w106 hX
      have hB_w106_w107 := below_step hB_w106_w106 hX
      have hB_w107_w107 := Below.refl w107.heap.size w107
      have hSsw107 := Cells.below hB_s1_w107 hSss1
      clear hX
      refine ⟨fun _ _ => hSsw107, ?_⟩
      try simp only [Act.put, List.setIfInBounds_toArray, List.set_cons_zero, List.set_cons_succ, List.getElem_toArray, List.getElem_cons_succ, List.getElem_cons_zero]
      refine wpAnyT_one (i := 6) (by kernel_rfl) rfl (by rfl) ?_
      refine wp_store_row 35 (.tmp 7) (.tmp 20) rfl b4 #[.string kc, .int .i64 kk, .int .i64 kw, .int .i64 kv] (by kernel_rfl) (by kernel_rfl) 35 _ r4 (by kernel_rfl) (by rfl) (by simp [Value.oneCell']) ?_
      replace r4 := setRow_heap (w107) b4 _ #[.string kc, .int .i64 kk, .int .i64 kw, .int .i64 kv] _ _ r4
      try replace r5 := (setRow_other (w107) b4 b5 #[.string kc, .int .i64 kk, .int .i64 kw, .int .i64 kv] (Ne.symm hne)).trans r5
      have hX := Below.setRow' (hB_s1_w107) hge4 #[.string kc, .int .i64 kk, .int .i64 kw, .int .i64 kv]
      have hsz : (w107).heap.size = ((w107).setRow b4 #[.string kc, .int .i64 kk, .int .i64 kw, .int .i64 kv]).heap.size := by simp
      first | (generalize (w107).setRow b4 #[.string kc, .int .i64 kk, .int .i64 kw, .int .i64 kv] = w108 at r4 r5 hX hsz ⊢) | (generalize (w107).setRow b4 #[.string kc, .int .i64 kk, .int .i64 kw, .int .i64 kv] = w108 at r4 hX hsz ⊢)
      have hB_s1_w108 := hX
      have hB_w108_w108 := Below.refl w108.heap.size w108
      have hSsw108 := Cells.below hB_s1_w108 hSss1
      clear hX
      refine ⟨fun _ _ => hSsw108, ?_⟩
      try simp only [Act.put, List.setIfInBounds_toArray, List.set_cons_zero, List.set_cons_succ, List.getElem_toArray, List.getElem_cons_succ, List.getElem_cons_zero]
      refine wpAnyT_one (i := 7) (by kernel_rfl) rfl (by rfl) ?_
      refine wp_store_row 35 (.tmp 8) (.tmp 22) rfl b5 #[.string jc, .int .i64 jk, .int .i64 jw, .int .i64 jv] (by kernel_rfl) (by kernel_rfl) 35 _ r5 (by kernel_rfl) (by rfl) (by simp [Value.oneCell']) ?_
      replace r5 := setRow_heap (w108) b5 _ #[.string jc, .int .i64 jk, .int .i64 jw, .int .i64 jv] _ _ r5
      try replace r4 := (setRow_other (w108) b5 b4 #[.string jc, .int .i64 jk, .int .i64 jw, .int .i64 jv] hne).trans r4
      have hX := Below.setRow' (hB_s1_w108) hge5 #[.string jc, .int .i64 jk, .int .i64 jw, .int .i64 jv]
      first | (generalize (w108).setRow b5 #[.string jc, .int .i64 jk, .int .i64 jw, .int .i64 jv] = w109 at r4 r5 hX ⊢) | (generalize (w108).setRow b5 #[.string jc, .int .i64 jk, .int .i64 jw, .int .i64 jv] = w109 at r5 hX ⊢)
      have hB_s1_w109 := hX
      have hB_w109_w109 := Below.refl w109.heap.size w109
      have hSsw109 := Cells.below hB_s1_w109 hSss1
      clear hX
      refine ⟨fun _ _ => hSsw109, ?_⟩
      try simp only [Act.put, List.setIfInBounds_toArray, List.set_cons_zero, List.set_cons_succ, List.getElem_toArray, List.getElem_cons_succ, List.getElem_cons_zero]
      refine wpAnyT_done (by kernel_rfl) ?_ _
      refine cut_leaf ?_ ?_
      focus kernel_rfl
      exact ⟨_, _, _, _, b4, b5, rfl, hB_0_s1.trans ((hB_s1_w109).mono hB_0_s1.size), r4, r5, Nat.le_trans hB_0_s1.size hge4, Nat.le_trans hB_0_s1.size hge5⟩
  rintro vs w2 ⟨v19, v20, v21, v22, b4, b5, rfl, hB12, r4, r5, hg4, hg5⟩
  have hB2 := below_step hB1 hB12
  simp only [puts, Act.put, List.setIfInBounds_toArray, List.set_cons_zero, List.set_cons_succ]
  have hC2 : Cells [(⟨b4, 0, none⟩, .string kc), (⟨b4, 1, none⟩, .int .i64 kk), (⟨b4, 2, none⟩, .int .i64 kw), (⟨b4, 3, none⟩, .int .i64 kv), (⟨b5, 0, none⟩, .string jc), (⟨b5, 1, none⟩, .int .i64 jk), (⟨b5, 2, none⟩, .int .i64 jw), (⟨b5, 3, none⟩, .int .i64 jv)] w2 := by
    obtain ⟨k0, k1, k2, k3⟩ := rate_blk r4
    obtain ⟨j0, j1, j2, j3⟩ := rate_blk r5
    exact ⟨k0, k1, k2, k3, j0, j1, j2, j3, trivial⟩
  have hB1' := hB1
  clear hB1 hC1
  have hB1 := hB2
  go_wp2_with fail
  refine wp_cut [23, 24, 25, 26, 27, 28, 29, 30, 31, 32] (fun vs w' => (∃ v23 v24 v25 v26 v27 v28 v29 v30, vs = [v23, v24, v25, v26, v27, v28, v29, v30, .bool fb, .bool (!fb)]) ∧ Below w2.heap.size w2 w') ?_ ?_
  · skip
    refine wp_region_T (Cells [(⟨b4, 0, none⟩, .string kc), (⟨b4, 1, none⟩, .int .i64 kk), (⟨b4, 2, none⟩, .int .i64 kw), (⟨b4, 3, none⟩, .int .i64 kv), (⟨b5, 0, none⟩, .string jc), (⟨b5, 1, none⟩, .int .i64 jk), (⟨b5, 2, none⟩, .int .i64 jw), (⟨b5, 3, none⟩, .int .i64 jv)]) (fun _ => false) (by kernel_rfl) ?_
    have hSss10 := Cells.drew hC2
    have hB_0_s10 : Below w2.heap.size w2 w2.drew := below_drew _
    generalize w2.drew = s10 at hSss10 hB_0_s10 ⊢
    have hB_s10_s10 := Below.refl s10.heap.size s10
    refine wpAnyT_pure (i := 0) (v := ?_) rfl (by kernel_rfl) (by kernel_rfl) (by kernel_rfl) (fun _ _ _ h => h) (by rfl) ?_ ?_
    rotate_left
    · intro w; go_simp; try with_reducible rfl
    simp only [Act.put, List.setIfInBounds_toArray, List.set_cons_zero, List.set_cons_succ, List.getElem_toArray, List.getElem_cons_succ, List.getElem_cons_zero]
    refine wpAnyT_pure (i := 2) (v := ?_) rfl (by kernel_rfl) (by kernel_rfl) (by kernel_rfl) (fun _ _ _ h => h) (by rfl) ?_ ?_
    rotate_left
    · intro w; go_simp; try with_reducible rfl
    simp only [Act.put, List.setIfInBounds_toArray, List.set_cons_zero, List.set_cons_succ, List.getElem_toArray, List.getElem_cons_succ, List.getElem_cons_zero]
    refine wpAnyT_loadW (i := 4) (v := ?_) rfl (by kernel_rfl) (by kernel_rfl) (by kernel_rfl) (by kernel_rfl) (by kernel_rfl) (fun _ _ _ h => h) (Or.inl ⟨by rfl, ?_⟩) hSss10 ?_
    rotate_left
    · intro w hSw; obtain ⟨e0, e1, e2, e3, e4, e5, e6, e7, -⟩ := hSw; go_simp; try with_reducible rfl
    simp only [Act.put, List.setIfInBounds_toArray, List.set_cons_zero, List.set_cons_succ, List.getElem_toArray, List.getElem_cons_succ, List.getElem_cons_zero]
    refine wpAnyT_loadW (i := 5) (v := ?_) rfl (by kernel_rfl) (by kernel_rfl) (by kernel_rfl) (by kernel_rfl) (by kernel_rfl) (fun _ _ _ h => h) (Or.inl ⟨by rfl, ?_⟩) hSss10 ?_
    rotate_left
    · intro w hSw; obtain ⟨e0, e1, e2, e3, e4, e5, e6, e7, -⟩ := hSw; go_simp; try with_reducible rfl
    simp only [Act.put, List.setIfInBounds_toArray, List.set_cons_zero, List.set_cons_succ, List.getElem_toArray, List.getElem_cons_succ, List.getElem_cons_zero]
    refine wpAnyT_two (i := 1) (k := 6) (by kernel_rfl) rfl rfl (by rfl) (by rfl) ?_ ?_
    · skip
      obtain ⟨b1, hb1⟩ : ∃ b, s10.heap.size = b := ⟨_, rfl⟩
      have hge1 : s10.heap.size ≤ b1 := hb1 ▸ (hB_s10_s10).size
      refine wp_newrow (v := .slice (some ⟨b1, 0, none⟩) 0 0) (cs := #[]) (te := 35) (by rw [← hb1]; go_simp) ?_
      intro w111 hX hN1
      rw [hb1] at hN1
      have hB_s10_w111 := below_step hB_s10_s10 hX
      have hB_w111_w111 := Below.refl w111.heap.size w111
      have hSsw111 := Cells.below hB_s10_w111 hSss10
      clear hX
      refine ⟨fun _ _ => hSsw111, ?_⟩
      try simp only [Act.put, List.setIfInBounds_toArray, List.set_cons_zero, List.set_cons_succ, List.getElem_toArray, List.getElem_cons_succ, List.getElem_cons_zero]
      refine wpAnyT_two (i := 3) (k := 6) (by kernel_rfl) rfl rfl (by rfl) (by rfl) ?_ ?_
      · skip
        have hq1 := ((hB_w111_w111).block _ (blk_lt hN1)).trans hN1
        have hb0 : Below w.heap.size w w111 := below_step hB1 (hB_0_s10.trans ((hB_s10_w111).mono hB_0_s10.size))
        refine wp_appLit (.tmp 24) (.tmp 25) 22 rfl (e := rateT) (te := 35) info_rate Try.underlying22 rfl (by decide) (S := fun b => b < w.heap.size) (base := s10.heap.size) (b := b1) (by kernel_rfl) hq1 hge1 (sv := .slice a len cap) (by kernel_rfl) (ys := xs) (R1.out.below hb0 (fun _ h => h)) (fun x hx => ⟨by have := hb0.size; have h1 := hB1.size; have h2 := (hB_0_s10).size; omega, Nat.lt_of_lt_of_le hx hb0.size⟩) (by have := HL.out; have := HLM.out; omega) (by have := HL.out; have := HLM.out; omega) ?_
        intro ca3 cl3 cc3 w112 O3 hX
        have HO3 := Lib.hid (Owns.flat (e := rateT) rfl O3)
        clear O3 hb0
        have hB_s10_w112 := below_step hB_s10_w111 hX
        have hB_w111_w112 := below_step hB_w111_w111 hX
        have hB_w112_w112 := Below.refl w112.heap.size w112
        have hSsw112 := Cells.below hB_s10_w112 hSss10
        clear hX
        refine ⟨fun _ _ => hSsw112, ?_⟩
        try simp only [Act.put, List.setIfInBounds_toArray, List.set_cons_zero, List.set_cons_succ, List.getElem_toArray, List.getElem_cons_succ, List.getElem_cons_zero]
        refine wpAnyT_one (i := 6) (by kernel_rfl) rfl (by rfl) ?_
        obtain ⟨b6, hb6⟩ : ∃ b, w112.heap.size = b := ⟨_, rfl⟩
        refine wp_newrow (v := .slice (some ⟨b6, 0, none⟩) 2 2) (cs := #[.string kc, .int .i64 kk, .int .i64 kw, .int .i64 kv, .string jc, .int .i64 jk, .int .i64 jw, .int .i64 jv]) (te := 35) (by rw [← hb6]; go_simp) ?_
        intro w113 hX hN6
        rw [hb6] at hN6
        have hB_s10_w113 := below_step hB_s10_w112 hX
        have hB_w111_w113 := below_step hB_w111_w112 hX
        have hB_w112_w113 := below_step hB_w112_w112 hX
        have hB_w113_w113 := Below.refl w113.heap.size w113
        have hSsw113 := Cells.below hB_s10_w113 hSss10
        clear hX
        refine ⟨fun _ _ => hSsw113, ?_⟩
        try simp only [Act.put, List.setIfInBounds_toArray, List.set_cons_zero, List.set_cons_succ, List.getElem_toArray, List.getElem_cons_succ, List.getElem_cons_zero]
        refine wpAnyT_one (i := 7) (by kernel_rfl) rfl (by rfl) ?_
        have hq6 := ((hB_w113_w113).block _ (blk_lt hN6)).trans hN6
        refine wp_app (.tmp 26) (.tmp 29) 22 rfl (e := rateT) (te := 35) info_rate Try.underlying22 rfl (by decide) (base := s10.heap.size) (S := fun _ => False) (v := .slice ca3 cl3 cc3) (xs := xs) (by kernel_rfl) (HO3.out.below hB_w112_w113) (hB_s10_w113).size (sv := .slice (some ⟨b6, 0, none⟩) 2 2) (by kernel_rfl) (ys := [(kc, kk, kw, kv, ()), (jc, jk, jw, jv, ())]) (Src.of_cells (news := [.string kc, .int .i64 kk, .int .i64 kw, .int .i64 kv, .string jc, .int .i64 jk, .int .i64 jw, .int .i64 jv]) (fun j u hu => by rw [Nat.zero_add, blk_cell hq6]; simpa using hu)) (two_rdl HKOK.out HKV.out HJOK.out HJV.out) (by have := HL.out; have := HLM.out; simp only [List.length_cons, List.length_nil]; omega) (by have := HL.out; have := HLM.out; simp only [List.length_cons, List.length_nil]; omega) ?_
        intro ca7 cl7 cc7 w114 O7 g7 ob7
        have hX : Below s10.heap.size s10 w114 := (hB_s10_w113).grown g7 (hB_s10_w113).size (fun c hc => (HO3.out.own c hc).1)
        have HO7 := Lib.hid O7
        clear O7 g7 ob7
        have hB_s10_w114 := hX
        have hB_w114_w114 := Below.refl w114.heap.size w114
        have hSsw114 := Cells.below hB_s10_w114 hSss10
        clear hX
        refine ⟨fun _ _ => hSsw114, ?_⟩
        try simp only [Act.put, List.setIfInBounds_toArray, List.set_cons_zero, List.set_cons_succ, List.getElem_toArray, List.getElem_cons_succ, List.getElem_cons_zero]
        refine wpAnyT_one (i := 8) (by kernel_rfl) rfl (by rfl) ?_
        refine wp_enter (f := 12) (args := #[.string g, .slice ca7 cl7 cc7]) (by go_simp) (few16_sum _ g ca7 cl7 cc7 _ (rdOwn HO7.out)) ?_
        rw [HFB.out]
        rintro e w7 ⟨rfl, hw7⟩
        subst hw7
        refine ⟨_, rfl, fun _ h => h, ?_⟩
        try simp only [Act.put, List.setIfInBounds_toArray, List.set_cons_zero, List.set_cons_succ, List.getElem_toArray, List.getElem_cons_succ, List.getElem_cons_zero]
        refine wpAnyT_pure (i := 9) (v := ?_) rfl (by kernel_rfl) (by kernel_rfl) (by kernel_rfl) (fun _ _ _ h => h) (by rfl) ?_ ?_
        rotate_left
        · intro w; go_simp; try with_reducible rfl
        simp only [Act.put, List.setIfInBounds_toArray, List.set_cons_zero, List.set_cons_succ, List.getElem_toArray, List.getElem_cons_succ, List.getElem_cons_zero]
        refine wpAnyT_done (by kernel_rfl) ?_ _
        refine cut_leaf ?_ ?_
        focus kernel_rfl
        exact ⟨⟨_, _, _, _, _, _, _, _, rfl⟩, hB_0_s10.trans ((hB_s10_w114).mono hB_0_s10.size)⟩
      · skip
        obtain ⟨b6, hb6⟩ : ∃ b, w111.heap.size = b := ⟨_, rfl⟩
        refine wp_newrow (v := .slice (some ⟨b6, 0, none⟩) 2 2) (cs := #[.string kc, .int .i64 kk, .int .i64 kw, .int .i64 kv, .string jc, .int .i64 jk, .int .i64 jw, .int .i64 jv]) (te := 35) (by rw [← hb6]; go_simp) ?_
        intro w115 hX hN6
        rw [hb6] at hN6
        have hB_s10_w115 := below_step hB_s10_w111 hX
        have hB_w111_w115 := below_step hB_w111_w111 hX
        have hB_w115_w115 := Below.refl w115.heap.size w115
        have hSsw115 := Cells.below hB_s10_w115 hSss10
        clear hX
        refine ⟨fun _ _ => hSsw115, ?_⟩
        try simp only [Act.put, List.setIfInBounds_toArray, List.set_cons_zero, List.set_cons_succ, List.getElem_toArray, List.getElem_cons_succ, List.getElem_cons_zero]
        refine wpAnyT_one (i := 3) (by kernel_rfl) rfl (by rfl) ?_
        have hq1 := ((hB_w111_w115).block _ (blk_lt hN1)).trans hN1
        have hb0 : Below w.heap.size w w115 := below_step hB1 (hB_0_s10.trans ((hB_s10_w115).mono hB_0_s10.size))
        refine wp_appLit (.tmp 24) (.tmp 25) 22 rfl (e := rateT) (te := 35) info_rate Try.underlying22 rfl (by decide) (S := fun b => b < w.heap.size) (base := s10.heap.size) (b := b1) (by kernel_rfl) hq1 hge1 (sv := .slice a len cap) (by kernel_rfl) (ys := xs) (R1.out.below hb0 (fun _ h => h)) (fun x hx => ⟨by have := hb0.size; have h1 := hB1.size; have h2 := (hB_0_s10).size; omega, Nat.lt_of_lt_of_le hx hb0.size⟩) (by have := HL.out; have := HLM.out; omega) (by have := HL.out; have := HLM.out; omega) ?_
        intro ca3 cl3 cc3 w116 O3 hX
        have HO3 := Lib.hid (Owns.flat (e := rateT) rfl O3)
        clear O3 hb0
        have hB_s10_w116 := below_step hB_s10_w115 hX
        have hB_w111_w116 := below_step hB_w111_w115 hX
        have hB_w115_w116 := below_step hB_w115_w115 hX
        have hB_w116_w116 := Below.refl w116.heap.size w116
        have hSsw116 := Cells.below hB_s10_w116 hSss10
        clear hX
        refine ⟨fun _ _ => hSsw116, ?_⟩
        try simp only [Act.put, List.setIfInBounds_toArray, List.set_cons_zero, List.set_cons_succ, List.getElem_toArray, List.getElem_cons_succ, List.getElem_cons_zero]
        refine wpAnyT_one (i := 7) (by kernel_rfl) rfl (by rfl) ?_
        have hq6 := ((hB_w115_w116).block _ (blk_lt hN6)).trans hN6
        refine wp_app (.tmp 26) (.tmp 29) 22 rfl (e := rateT) (te := 35) info_rate Try.underlying22 rfl (by decide) (base := s10.heap.size) (S := fun _ => False) (v := .slice ca3 cl3 cc3) (xs := xs) (by kernel_rfl) (HO3.out.below hB_w116_w116) (hB_s10_w116).size (sv := .slice (some ⟨b6, 0, none⟩) 2 2) (by kernel_rfl) (ys := [(kc, kk, kw, kv, ()), (jc, jk, jw, jv, ())]) (Src.of_cells (news := [.string kc, .int .i64 kk, .int .i64 kw, .int .i64 kv, .string jc, .int .i64 jk, .int .i64 jw, .int .i64 jv]) (fun j u hu => by rw [Nat.zero_add, blk_cell hq6]; simpa using hu)) (two_rdl HKOK.out HKV.out HJOK.out HJV.out) (by have := HL.out; have := HLM.out; simp only [List.length_cons, List.length_nil]; omega) (by have := HL.out; have := HLM.out; simp only [List.length_cons, List.length_nil]; omega) ?_
        intro ca7 cl7 cc7 w117 O7 g7 ob7
        have hX : Below s10.heap.size s10 w117 := (hB_s10_w116).grown g7 (hB_s10_w116).size (fun c hc => (HO3.out.own c hc).1)
        have HO7 := Lib.hid O7
        clear O7 g7 ob7
        have hB_s10_w117 := hX
        have hB_w117_w117 := Below.refl w117.heap.size w117
        have hSsw117 := Cells.below hB_s10_w117 hSss10
        clear hX
        refine ⟨fun _ _ => hSsw117, ?_⟩
        try simp only [Act.put, List.setIfInBounds_toArray, List.set_cons_zero, List.set_cons_succ, List.getElem_toArray, List.getElem_cons_succ, List.getElem_cons_zero]
        refine wpAnyT_one (i := 8) (by kernel_rfl) rfl (by rfl) ?_
        refine wp_enter (f := 12) (args := #[.string g, .slice ca7 cl7 cc7]) (by go_simp) (few16_sum _ g ca7 cl7 cc7 _ (rdOwn HO7.out)) ?_
        rw [HFB.out]
        rintro e w7 ⟨rfl, hw7⟩
        subst hw7
        refine ⟨_, rfl, fun _ h => h, ?_⟩
        try simp only [Act.put, List.setIfInBounds_toArray, List.set_cons_zero, List.set_cons_succ, List.getElem_toArray, List.getElem_cons_succ, List.getElem_cons_zero]
        refine wpAnyT_pure (i := 9) (v := ?_) rfl (by kernel_rfl) (by kernel_rfl) (by kernel_rfl) (fun _ _ _ h => h) (by rfl) ?_ ?_
        rotate_left
        · intro w; go_simp; try with_reducible rfl
        simp only [Act.put, List.setIfInBounds_toArray, List.set_cons_zero, List.set_cons_succ, List.getElem_toArray, List.getElem_cons_succ, List.getElem_cons_zero]
        refine wpAnyT_done (by kernel_rfl) ?_ _
        refine cut_leaf ?_ ?_
        focus kernel_rfl
        exact ⟨⟨_, _, _, _, _, _, _, _, rfl⟩, hB_0_s10.trans ((hB_s10_w117).mono hB_0_s10.size)⟩
    · skip
      obtain ⟨b6, hb6⟩ : ∃ b, s10.heap.size = b := ⟨_, rfl⟩
      refine wp_newrow (v := .slice (some ⟨b6, 0, none⟩) 2 2) (cs := #[.string kc, .int .i64 kk, .int .i64 kw, .int .i64 kv, .string jc, .int .i64 jk, .int .i64 jw, .int .i64 jv]) (te := 35) (by rw [← hb6]; go_simp) ?_
      intro w118 hX hN6
      rw [hb6] at hN6
      have hB_s10_w118 := below_step hB_s10_s10 hX
      have hB_w118_w118 := Below.refl w118.heap.size w118
      have hSsw118 := Cells.below hB_s10_w118 hSss10
      clear hX
      refine ⟨fun _ _ => hSsw118, ?_⟩
      try simp only [Act.put, List.setIfInBounds_toArray, List.set_cons_zero, List.set_cons_succ, List.getElem_toArray, List.getElem_cons_succ, List.getElem_cons_zero]
      refine wpAnyT_one (i := 1) (by kernel_rfl) rfl (by rfl) ?_
      obtain ⟨b1, hb1⟩ : ∃ b, w118.heap.size = b := ⟨_, rfl⟩
      have hge1 : s10.heap.size ≤ b1 := hb1 ▸ (hB_s10_w118).size
      refine wp_newrow (v := .slice (some ⟨b1, 0, none⟩) 0 0) (cs := #[]) (te := 35) (by rw [← hb1]; go_simp) ?_
      intro w119 hX hN1
      rw [hb1] at hN1
      have hB_s10_w119 := below_step hB_s10_w118 hX
      have hB_w118_w119 := below_step hB_w118_w118 hX
      have hB_w119_w119 := Below.refl w119.heap.size w119
      have hSsw119 := Cells.below hB_s10_w119 hSss10
      clear hX
      refine ⟨fun _ _ => hSsw119, ?_⟩
      try simp only [Act.put, List.setIfInBounds_toArray, List.set_cons_zero, List.set_cons_succ, List.getElem_toArray, List.getElem_cons_succ, List.getElem_cons_zero]
      refine wpAnyT_one (i := 3) (by kernel_rfl) rfl (by rfl) ?_
      have hq1 := ((hB_w119_w119).block _ (blk_lt hN1)).trans hN1
      have hb0 : Below w.heap.size w w119 := below_step hB1 (hB_0_s10.trans ((hB_s10_w119).mono hB_0_s10.size))
      refine wp_appLit (.tmp 24) (.tmp 25) 22 rfl (e := rateT) (te := 35) info_rate Try.underlying22 rfl (by decide) (S := fun b => b < w.heap.size) (base := s10.heap.size) (b := b1) (by kernel_rfl) hq1 hge1 (sv := .slice a len cap) (by kernel_rfl) (ys := xs) (R1.out.below hb0 (fun _ h => h)) (fun x hx => ⟨by have := hb0.size; have h1 := hB1.size; have h2 := (hB_0_s10).size; omega, Nat.lt_of_lt_of_le hx hb0.size⟩) (by have := HL.out; have := HLM.out; omega) (by have := HL.out; have := HLM.out; omega) ?_
      intro ca3 cl3 cc3 w120 O3 hX
      have HO3 := Lib.hid (Owns.flat (e := rateT) rfl O3)
      clear O3 hb0
      have hB_s10_w120 := below_step hB_s10_w119 hX
      have hB_w118_w120 := below_step hB_w118_w119 hX
      have hB_w119_w120 := below_step hB_w119_w119 hX
      have hB_w120_w120 := Below.refl w120.heap.size w120
      have hSsw120 := Cells.below hB_s10_w120 hSss10
      clear hX
      refine ⟨fun _ _ => hSsw120, ?_⟩
      try simp only [Act.put, List.setIfInBounds_toArray, List.set_cons_zero, List.set_cons_succ, List.getElem_toArray, List.getElem_cons_succ, List.getElem_cons_zero]
      refine wpAnyT_one (i := 7) (by kernel_rfl) rfl (by rfl) ?_
      have hq6 := ((hB_w118_w120).block _ (blk_lt hN6)).trans hN6
      refine wp_app (.tmp 26) (.tmp 29) 22 rfl (e := rateT) (te := 35) info_rate Try.underlying22 rfl (by decide) (base := s10.heap.size) (S := fun _ => False) (v := .slice ca3 cl3 cc3) (xs := xs) (by kernel_rfl) (HO3.out.below hB_w120_w120) (hB_s10_w120).size (sv := .slice (some ⟨b6, 0, none⟩) 2 2) (by kernel_rfl) (ys := [(kc, kk, kw, kv, ()), (jc, jk, jw, jv, ())]) (Src.of_cells (news := [.string kc, .int .i64 kk, .int .i64 kw, .int .i64 kv, .string jc, .int .i64 jk, .int .i64 jw, .int .i64 jv]) (fun j u hu => by rw [Nat.zero_add, blk_cell hq6]; simpa using hu)) (two_rdl HKOK.out HKV.out HJOK.out HJV.out) (by have := HL.out; have := HLM.out; simp only [List.length_cons, List.length_nil]; omega) (by have := HL.out; have := HLM.out; simp only [List.length_cons, List.length_nil]; omega) ?_
      intro ca7 cl7 cc7 w121 O7 g7 ob7
      have hX : Below s10.heap.size s10 w121 := (hB_s10_w120).grown g7 (hB_s10_w120).size (fun c hc => (HO3.out.own c hc).1)
      have HO7 := Lib.hid O7
      clear O7 g7 ob7
      have hB_s10_w121 := hX
      have hB_w121_w121 := Below.refl w121.heap.size w121
      have hSsw121 := Cells.below hB_s10_w121 hSss10
      clear hX
      refine ⟨fun _ _ => hSsw121, ?_⟩
      try simp only [Act.put, List.setIfInBounds_toArray, List.set_cons_zero, List.set_cons_succ, List.getElem_toArray, List.getElem_cons_succ, List.getElem_cons_zero]
      refine wpAnyT_one (i := 8) (by kernel_rfl) rfl (by rfl) ?_
      refine wp_enter (f := 12) (args := #[.string g, .slice ca7 cl7 cc7]) (by go_simp) (few16_sum _ g ca7 cl7 cc7 _ (rdOwn HO7.out)) ?_
      rw [HFB.out]
      rintro e w7 ⟨rfl, hw7⟩
      subst hw7
      refine ⟨_, rfl, fun _ h => h, ?_⟩
      try simp only [Act.put, List.setIfInBounds_toArray, List.set_cons_zero, List.set_cons_succ, List.getElem_toArray, List.getElem_cons_succ, List.getElem_cons_zero]
      refine wpAnyT_pure (i := 9) (v := ?_) rfl (by kernel_rfl) (by kernel_rfl) (by kernel_rfl) (fun _ _ _ h => h) (by rfl) ?_ ?_
      rotate_left
      · intro w; go_simp; try with_reducible rfl
      simp only [Act.put, List.setIfInBounds_toArray, List.set_cons_zero, List.set_cons_succ, List.getElem_toArray, List.getElem_cons_succ, List.getElem_cons_zero]
      refine wpAnyT_done (by kernel_rfl) ?_ _
      refine cut_leaf ?_ ?_
      focus kernel_rfl
      exact ⟨⟨_, _, _, _, _, _, _, _, rfl⟩, hB_0_s10.trans ((hB_s10_w121).mono hB_0_s10.size)⟩
  rintro vs w3 ⟨⟨v23, v24, v25, v26, v27, v28, v29, v30, rfl⟩, hB23⟩
  have hB3 := below_step hB2 hB23
  have q4 := (hB23.block _ (blk_lt r4)).trans r4
  have q5 := (hB23.block _ (blk_lt r5)).trans r5
  have l4 := blk_lt r4
  have l5 := blk_lt r5
  clear r4 r5 hC2 hB1
  simp only [puts, Act.put, List.setIfInBounds_toArray, List.set_cons_zero, List.set_cons_succ]
  cases fb
  · go_wp2
    go_ret
    exact ⟨rfl, hB3⟩
  obtain ⟨hg20, hl200, -⟩ := few_len HFB.out
  rw [List.length_append] at hl200
  have hlen200 : len ≤ 198 := by have := HL.out; simp only [List.length_cons, List.length_nil] at hl200; omega
  clear hl200
  obtain ⟨cb, hcb⟩ : ∃ cb, curB g = cb := ⟨_, rfl⟩
  have HCB := Lib.hid hcb
  clear hcb
  cases cb
  · go_wp2_with (go_at_call 13; refine (New_bad _ g HGS.out HCB.out).mono ?_; rintro e w4 ⟨rfl, hB4⟩; replace hB4 := below_step hB3 hB4)
    go_ret
    exact ⟨rfl, hB4⟩
  obtain ⟨T, hT⟩ : ∃ T, tb0.setAll g xs = T := ⟨_, rfl⟩
  have htm := Tb.setAll_m g xs tb0
  have hth := Tb.setAll_hs g xs tb0
  have htz : tb0.m = 0 := rfl
  have hhz : tb0.hs.length = 0 := rfl
  rw [hT] at htm hth
  have htl : T.m ≤ 200 ∧ T.hs.length ≤ 200 := by have := HL.out; omega
  have HT := Lib.hid hT
  have HTL := Lib.hid htl
  have hset := fun F W p (h : TabT F W p g T) => Set_any F W p g T h ⟨kc, kk, kw, kv⟩ HKOK.out HKV.out (by omega)
  have hg1 := fun F W p (h : TabT F W p g T) => Get_sum F W p g _ _ _ h ⟨jc, jk, jw⟩ HJOK.out
  have hcase : ((T.set g ⟨kc, kk, kw, kv⟩).1 = 0 ∧ (T.set g ⟨kc, kk, kw, kv⟩).2 = T.put ⟨kc, kk, kw, kv⟩) ∨ ((T.set g ⟨kc, kk, kw, kv⟩).1 ≠ 0 ∧ (T.set g ⟨kc, kk, kw, kv⟩).2 = T) := T.set_ok g _
  obtain ⟨er, T', hst⟩ : ∃ er T', T.set g ⟨kc, kk, kw, kv⟩ = (er, T') := ⟨_, _, rfl⟩
  rw [hst] at hset hcase
  simp only at hset hcase
  unfold Rt.v rateV at hset
  obtain ⟨fo, hfo⟩ : ∃ fo, T.f ⟨jc, jk, jw⟩ = fo := ⟨_, rfl⟩
  rw [hfo] at hg1
  have HSET := Lib.hid hset
  have HG1 := Lib.hid hg1
  have HFO := Lib.hid hfo
  clear hT htm hth htz hhz htl hset hg1 hfo hst
  have HF4 := Lib.hid q4
  have HF5 := Lib.hid q5
  have hlast : ∀ (F : Nat → Prop) (W : World) (p : Nat), TabT F W p g T → (∀ b, F b → w3.heap.size ≤ b) → Below w3.heap.size w3 W → True := fun _ _ _ _ _ _ => trivial
  clear q4 q5 hlast
  go_wp2_with (first
    | (go_at_call 13; refine (New_ok _ g HGS.out HCB.out).mono ?_; rintro e w4 ⟨p, F, rfl, hT4, hF4, hB4⟩; have HT4 := Lib.hid (show TabT F w4 p g tb0 from hT4); have HFF := Lib.hid hF4; clear hT4 hF4)
    | (go_at_call 18; refine (set16_sum F (fun b => b < w.heap.size) _ p g tb0 HT4.out a len cap xs (R1.out.below (below_step hB3 hB4) (fun _ h => h)) (fun b hb => ⟨Nat.lt_of_lt_of_le hb (below_step hB3 hB4).size, fun h => by have := HFF.out b h; have := hB3.size; omega⟩) (by have h0 : tb0.m = 0 := rfl; omega)).mono ?_; rintro e w5 ⟨rfl, F5, hT5, hF5, hG5⟩; rw [HT.out] at hT5; have HT5 := Lib.hid hT5; have hB5 := hB4.trans (hG5.below HFF.out hB4.size); have HFF5 := Lib.hid (show ∀ b, F5 b → w3.heap.size ≤ b from fun b hb => (hF5 b hb).elim (HFF.out b) (fun h => Nat.le_trans hB4.size h)); obtain ⟨k0, k1, k2, k3⟩ := rate_blk ((hB5.block _ (blk_lt HF4.out)).trans HF4.out); obtain ⟨j0, j1, j2, j3⟩ := rate_blk ((hB5.block _ (blk_lt HF5.out)).trans HF5.out); clear hT5 hF5 hG5)
    | (go_at_call 19; refine (HG1.out _ _ _ HT5.out).mono ?_; rintro e w6 ⟨rfl, hw6⟩; subst hw6))
  rcases hcase with ⟨rfl, rfl⟩ | ⟨hne, rfl⟩
  rotate_left
  · have hd : (er != 0) = true := by simpa using hne
    go_wp2_with (go_at_call 16; refine (HSET.out _ _ _ HT5.out).mono ?_; rintro e w7 ⟨rfl, F7, hT7, hF7, hG7⟩; have HT7 := Lib.hid hT7; have hB7 := hB5.trans (hG7.below HFF5.out hB5.size); clear hT7 hF7 hG7; clear k0 k1 k2 k3 j0 j1 j2 j3; obtain ⟨k0, k1, k2, k3⟩ := rate_blk ((hB7.block _ (blk_lt HF4.out)).trans HF4.out); obtain ⟨j0, j1, j2, j3⟩ := rate_blk ((hB7.block _ (blk_lt HF5.out)).trans HF5.out))
    go_ret
    exact ⟨rfl, below_step hB3 hB7⟩
  obtain ⟨ss, hss⟩ : ∃ ss, same3 (Rt.k ⟨kc, kk, kw, kv⟩) ⟨jc, jk, jw⟩ = ss := ⟨_, rfl⟩
  have hsk := fun W => sameKey_sum W ⟨kc, kk, kw, kv⟩ ⟨jc, jk, jw, jv⟩
  rw [show sameK ⟨kc, kk, kw, kv⟩ ⟨jc, jk, jw, jv⟩ = ss from hss] at hsk
  unfold Rt.v rateV at hsk
  have HSK := Lib.hid hsk
  have hgo := fun F W p (h : TabT F W p g (T.put ⟨kc, kk, kw, kv⟩)) => Get_sum F W p g _ _ _ h ⟨jc, jk, jw⟩ HJOK.out
  have hgr := fun F W p (h : TabT F W p g (T.put ⟨kc, kk, kw, kv⟩)) => Get_sum F W p g _ _ _ h ⟨kc, kk, kw⟩ HKOK.out
  rw [show (T.put ⟨kc, kk, kw, kv⟩).f ⟨kc, kk, kw⟩ = some kv from putF_same T.f ⟨kc, kk, kw, kv⟩] at hgr
  have hfo2 : (T.put ⟨kc, kk, kw, kv⟩).f ⟨jc, jk, jw⟩ = if ss = true then some kv else fo := by
    rw [← hss, ← HFO.out]; rfl
  rw [hfo2] at hgo
  have HGR := Lib.hid hgr
  clear hgr hsk hss hfo2
  cases ss
  · have HGO := Lib.hid hgo
    clear hgo
    go_wp2_with (first | (go_at_call 16; refine (HSET.out _ _ _ HT5.out).mono ?_; rintro e w7 ⟨rfl, F7, hT7, hF7, hG7⟩; have HT7 := Lib.hid hT7; have hB7 := hB5.trans (hG7.below HFF5.out hB5.size); clear hT7 hF7 hG7; clear k0 k1 k2 k3 j0 j1 j2 j3; obtain ⟨k0, k1, k2, k3⟩ := rate_blk ((hB7.block _ (blk_lt HF4.out)).trans HF4.out); obtain ⟨j0, j1, j2, j3⟩ := rate_blk ((hB7.block _ (blk_lt HF5.out)).trans HF5.out)) | (go_at_call 19; first | (refine (HGO.out _ _ _ HT7.out).mono ?_; rintro e w8 ⟨rfl, hw8⟩; subst hw8; have HT8 := HT7; clear HT7) | (refine (HGR.out _ _ _ HT8.out).mono ?_; rintro e w9 ⟨rfl, hw9⟩; subst hw9)) | (go_at_call 20; first | (refine (HSK.out _).mono ?_; rintro e w10 ⟨rfl, hB10⟩; have hBb := Lib.hid (below_step hB7 hB10); clear k0 k1 k2 k3 j0 j1 j2 j3; obtain ⟨k0, k1, k2, k3⟩ := rate_blk ((hBb.out.block _ (blk_lt HF4.out)).trans HF4.out); obtain ⟨j0, j1, j2, j3⟩ := rate_blk ((hBb.out.block _ (blk_lt HF5.out)).trans HF5.out); replace hB7 := hBb.out; clear hBb hB10)))
    go_ret
    refine ⟨?_, below_step hB3 hB7⟩
    simp
  · have HGO := Lib.hid hgo
    clear hgo
    go_wp2_with (first | (go_at_call 16; refine (HSET.out _ _ _ HT5.out).mono ?_; rintro e w7 ⟨rfl, F7, hT7, hF7, hG7⟩; have HT7 := Lib.hid hT7; have hB7 := hB5.trans (hG7.below HFF5.out hB5.size); clear hT7 hF7 hG7; clear k0 k1 k2 k3 j0 j1 j2 j3; obtain ⟨k0, k1, k2, k3⟩ := rate_blk ((hB7.block _ (blk_lt HF4.out)).trans HF4.out); obtain ⟨j0, j1, j2, j3⟩ := rate_blk ((hB7.block _ (blk_lt HF5.out)).trans HF5.out)) | (go_at_call 19; first | (refine (HGO.out _ _ _ HT7.out).mono ?_; rintro e w8 ⟨rfl, hw8⟩; subst hw8; have HT8 := HT7; clear HT7) | (refine (HGR.out _ _ _ HT8.out).mono ?_; rintro e w9 ⟨rfl, hw9⟩; subst hw9)) | (go_at_call 20; first | (refine (HSK.out _).mono ?_; rintro e w10 ⟨rfl, hB10⟩; have hBb := Lib.hid (below_step hB7 hB10); clear k0 k1 k2 k3 j0 j1 j2 j3; obtain ⟨k0, k1, k2, k3⟩ := rate_blk ((hBb.out.block _ (blk_lt HF4.out)).trans HF4.out); obtain ⟨j0, j1, j2, j3⟩ := rate_blk ((hBb.out.block _ (blk_lt HF5.out)).trans HF5.out); replace hB7 := hBb.out; clear hBb hB10)))
    go_ret
    refine ⟨?_, below_step hB3 hB7⟩
    simp
end Go.Proofs.Ytmlekhkgokgpbaa
