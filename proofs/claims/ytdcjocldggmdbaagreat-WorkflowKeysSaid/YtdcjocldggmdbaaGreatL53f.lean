/- The law WorkflowKeys, walked. -/
import Derived.Test.YtdcjocldggmdbaaGreatR53l
import Derived.SizedLaws
set_option linter.unusedSimpArgs false
set_option maxRecDepth 50000
namespace Go.Proofs.YtdcjocldggmdbaaGreat
open Go.RowKit Go

theorem needs_same {ts : List Tk} {ne np : Nat} (hw : Wk ts ne np) {k : Ky} {l : List Ky} (h : (checkI ts ne np k = 0 ∧ l.Perm (rawNeeds ts ne k) ∧ Asc ts l) ∨ (checkI ts ne np k ≠ 0 ∧ l = [])) : l = needsR ts ne np k := by
  unfold needsR
  rcases h with ⟨h1, h2, h3⟩ | ⟨h1, h2⟩
  · rw [if_pos h1]
    exact need_ord hw h1 h2 h3
  · rw [if_neg h1]
    exact h2
/-- The reference's workflow between two steps. -/
def RefI (wr : World) (rb : Nat) (ts : List Tk) (ne : Nat) (a : Option Addr) (len cap : Nat) (xs : List taskT.den) (sg : List Sg) : Prop :=
  ∃ (S' : Nat → Prop) (ga : Option Addr) (gl gc : Nat), RfW S' wr ts sg a len cap ga gl gc xs ∧ (∀ b, S' b → b ≠ rb) ∧ wr.heap[rb]? = some (.cells #[.int .i64 (ne : Int), .int .i64 12, .slice a len cap, .slice ga gl gc] 35 (0, 0))
set_option maxHeartbeats 4000000 in
theorem keysWalk53 (w : World) (c0 : List Value) (x0 : planT.den) (r0 : Rd planT (fun b => b < w.heap.size) w c0 x0) (c1 : List Value) (x1 : (Ty.sl stepT).den) (r1 : Rd (.sl stepT) (fun b => b < w.heap.size) w c1 x1) (s1 : List.length x1 * Tryz.prog.bytesOf 31 ≤ reachBytes) (c2 : List Value) (x2 : keyT.den) (r2 : Rd keyT (fun b => b < w.heap.size) w c2 x2) :
    Calls Tryz.prog 3 #[valOf planT c0, valOf (.sl stepT) c1, valOf keyT c2] w fun e w' => e = .returned (.bool true) ∧ Below w.heap.size w w' := by
  obtain ⟨n, xs, ⟨⟩⟩ := x0
  obtain ⟨k1, kr1, rfl, ⟨rfl, hn⟩, k2, kr2, rfl, hx, rfl⟩ := r0
  obtain ⟨a, len, cap, rfl, hl, hlc, hcm, -⟩ := id hx
  obtain ⟨la, ll, lc, rfl, hll, -⟩ := id r1
  obtain ⟨q1, q2, q3, ⟨⟩⟩ := x2
  obtain ⟨kc1, kr1, rfl, ⟨rfl, hk1⟩, kc2, kr2, rfl, ⟨rfl, hk2⟩, kc3, kr3, rfl, ⟨rfl, hk3⟩, rfl⟩ := r2
  change ByteArray at q1
  change Int at q2
  change Int at q3
  have HKO := Lib.hid (show (⟨q1, q2, q3⟩ : Ky).ok from ⟨hk1, hk2, hk3⟩)
  clear hk1 hk2 hk3
  change List taskT.den at xs
  change List stepT.den at x1
  change Calls _ _ #[.agg #[.int .i64 n, .slice a len cap], .slice la ll lc, .agg #[.string q1, .int .i64 q2, .int .i64 q3]] _ _
  have HLM := Lib.hid (show (ll + 2) * 56 ≤ 140737488355328 by have hll' : x1.length = ll := hll; rw [show Tryz.prog.bytesOf 31 = 56 by kernel_rfl] at s1; unfold reachBytes at s1; omega)
  clear s1
  have hp := alloc_new' (w := w) (o := .cells #[.int .i64 n, .slice a len cap] 24) rfl
  have hB := (Below.refl w.heap.size w).alloc (Nat.le_refl _) (.cells #[.int .i64 n, .slice a len cap] 24)
  have hk := alloc_new' (w := w.alloc (.cells #[.int .i64 n, .slice a len cap] 24)) (o := .cells #[.string q1, .int .i64 q2, .int .i64 q3] 27) rfl
  have hBk := (Below.refl (w.alloc (.cells #[.int .i64 n, .slice a len cap] 24)).heap.size (w.alloc (.cells #[.int .i64 n, .slice a len cap] 24))).alloc (Nat.le_refl _) (.cells #[.string q1, .int .i64 q2, .int .i64 q3] 27)
  replace hp := (hBk.block _ (blk_lt hp)).trans hp
  rw [World.size_alloc] at hk
  have HP := Lib.hid hp
  have HK := Lib.hid hk
  have HB := Lib.hid (below_step hB hBk)
  have HX := Lib.hid hx
  have HLS := Lib.hid r1
  have HL := Lib.hid (show xs.length = len from hl)
  have HLL := Lib.hid (show x1.length = ll from hll)
  clear hx hl hn hp hB r1 hll hk hBk
  go_enter Tryz.func3, Tryz.ntmps3
  go_wp2_with fail
  generalize World.alloc _ _ = w1 at HP HK HB ⊢
  obtain ⟨pb, hpb⟩ : ∃ q, w.heap.size = q := ⟨_, rfl⟩
  have HPB := Lib.hid hpb
  rw [hpb] at HP HK ⊢
  clear hpb
  have hX := awake53 w1
  refine Calls.mono hX ?_
  clear hX
  rintro e w2 ⟨rfl, hB2⟩
  have HP2 := Lib.hid ((hB2.block _ (blk_lt HP.out)).trans HP.out)
  have HK2 := Lib.hid ((hB2.block _ (blk_lt HK.out)).trans HK.out)
  have HB2 := Lib.hid (below_step HB.out hB2)
  clear hB2 HP HB HK
  go_wp2_with fail
  have hC0 : Cells [(⟨pb, 0, none⟩, .int .i64 n), (⟨pb, 1, none⟩, .slice a len cap), (⟨pb + 1, 0, none⟩, .string q1), (⟨pb + 1, 1, none⟩, .int .i64 q2), (⟨pb + 1, 2, none⟩, .int .i64 q3)] w2 := ⟨blk_cell HP2.out 0, blk_cell HP2.out 1, blk_cell HK2.out 0, blk_cell HK2.out 1, blk_cell HK2.out 2, trivial⟩
  refine wp_cut [13, 14, 15, 16, 17, 18, 19, 20, 21, 22] (fun vs w' => (∃ v21 v22 v23 v24 v25 v26 v27 v28 fb, vs = [v21, v22, v23, v24, v25, v26, v27, v28, .bool fb, .bool (!fb)] ∧ (fb = true → (xs.length ≤ 8 ∧ ∀ i (hi : i < xs.length), (tk xs[i]).needs.length ≤ 8) ∧ x1.length + 1 ≤ 40 ∧ n ≤ 13)) ∧ Below w2.heap.size w2 w') ?_ ?_
  · skip
    refine wp_region_T (Cells [(⟨pb, 0, none⟩, .int .i64 n), (⟨pb, 1, none⟩, .slice a len cap), (⟨pb + 1, 0, none⟩, .string q1), (⟨pb + 1, 1, none⟩, .int .i64 q2), (⟨pb + 1, 2, none⟩, .int .i64 q3)]) (fun _ => false) (by kernel_rfl) ?_
    have hSss1 := Cells.drew hC0
    have hB_0_s1 : Below w2.heap.size w2 w2.drew := below_drew _
    generalize w2.drew = s1 at hSss1 hB_0_s1 ⊢
    have hB_s1_s1 := Below.refl s1.heap.size s1
    refine wpAnyT_pure (i := 2) (v := ?_) rfl (by kernel_rfl) (by kernel_rfl) (by kernel_rfl) (fun _ _ _ h => h) (by rfl) ?_ ?_
    rotate_left
    · intro w; go_simp; try with_reducible rfl
    simp only [Act.put, rgA, rgB, rgC, rgD, rgE, rgF]
    refine wpAnyT_loadW (i := 0) (v := ?_) rfl (by kernel_rfl) (by kernel_rfl) (by kernel_rfl) (by kernel_rfl) (by kernel_rfl) (fun _ _ _ h => h) (Or.inl ⟨by rfl, ?_⟩) hSss1 ?_
    rotate_left
    · intro w hSw; obtain ⟨e0, e1, e2, e3, e4, -⟩ := hSw; go_simp; try with_reducible rfl
    simp only [Act.put, rgA, rgB, rgC, rgD, rgE, rgF]
    refine wpAnyT_loadW (i := 4) (v := ?_) rfl (by kernel_rfl) (by kernel_rfl) (by kernel_rfl) (by kernel_rfl) (by kernel_rfl) (fun _ _ _ h => h) (Or.inl ⟨by rfl, ?_⟩) hSss1 ?_
    rotate_left
    · intro w hSw; obtain ⟨e0, e1, e2, e3, e4, -⟩ := hSw; go_simp; try with_reducible rfl
    simp only [Act.put, rgA, rgB, rgC, rgD, rgE, rgF]
    refine wpAnyT_pure (i := 5) (v := ?_) rfl (by kernel_rfl) (by kernel_rfl) (by kernel_rfl) (fun _ _ _ h => h) (by rfl) ?_ ?_
    rotate_left
    · intro w; go_simp; try with_reducible rfl
    simp only [Act.put, rgA, rgB, rgC, rgD, rgE, rgF]
    refine wpAnyT_two (i := 1) (k := 6) (by kernel_rfl) rfl rfl (by rfl) (by rfl) ?_ ?_
    · skip
      obtain ⟨b1, hb1⟩ : ∃ b, s1.heap.size = b := ⟨_, rfl⟩
      have hge1 : s1.heap.size ≤ b1 := hb1 ▸ (hB_s1_s1).size
      refine wp_newrow (v := .slice (some ⟨b1, 0, none⟩) 0 0) (cs := #[]) (te := 31) (by rw [← hb1]; go_simp) ?_
      intro w102 hX hN1
      rw [hb1] at hN1
      have hB_s1_w102 := below_step hB_s1_s1 hX
      have hB_w102_w102 := Below.refl w102.heap.size w102
      have hSsw102 := Cells.below hB_s1_w102 hSss1
      clear hX
      refine ⟨fun _ _ => hSsw102, ?_⟩
      try simp only [Act.put, rgA, rgB, rgC, rgD, rgE, rgF]
      refine wpAnyT_two (i := 3) (k := 6) (by kernel_rfl) rfl rfl (by rfl) (by rfl) ?_ ?_
      · skip
        have hq1 := ((hB_w102_w102).block _ (blk_lt hN1)).trans hN1
        have hb0 : Below w.heap.size w w102 := below_step HB2.out (hB_0_s1.trans ((hB_s1_w102).mono hB_0_s1.size))
        refine wp_appLit (.tmp 14) (.tmp 15) 25 rfl (e := stepT) (te := 31) info_step Tryz.underlying25 rfl (by decide) (S := fun b => b < w.heap.size) (base := s1.heap.size) (b := b1) (by kernel_rfl) hq1 hge1 (sv := .slice la ll lc) (by kernel_rfl) (ys := x1) (Rd.below hb0 (fun _ h => h) HLS.out) (fun x hx => ⟨by have := hb0.size; have h1 := HB2.out.size; have h2 := (hB_0_s1).size; omega, Nat.lt_of_lt_of_le hx hb0.size⟩) (by have := HLL.out; have := HLM.out; omega) (by have := HLL.out; have := HLM.out; omega) ?_
        intro ca3 cl3 cc3 w103 O3 hX
        have HO3 := Lib.hid (Owns.flat (e := stepT) rfl O3)
        clear O3 hb0
        have hB_s1_w103 := below_step hB_s1_w102 hX
        have hB_w102_w103 := below_step hB_w102_w102 hX
        have hB_w103_w103 := Below.refl w103.heap.size w103
        have hSsw103 := Cells.below hB_s1_w103 hSss1
        clear hX
        refine ⟨fun _ _ => hSsw103, ?_⟩
        try simp only [Act.put, rgA, rgB, rgC, rgD, rgE, rgF]
        refine wpAnyT_one (i := 6) (by kernel_rfl) rfl (by rfl) ?_
        obtain ⟨b6, hb6⟩ : ∃ b, w103.heap.size = b := ⟨_, rfl⟩
        refine wp_newrow (v := .slice (some ⟨b6, 0, none⟩) 1 1) (cs := #[.string q1, .int .i64 q2, .int .i64 q3, .string ⟨#[]⟩, .bool false]) (te := 31) (by rw [← hb6]; go_simp) ?_
        intro w104 hX hN6
        rw [hb6] at hN6
        have hB_s1_w104 := below_step hB_s1_w103 hX
        have hB_w102_w104 := below_step hB_w102_w103 hX
        have hB_w103_w104 := below_step hB_w103_w103 hX
        have hB_w104_w104 := Below.refl w104.heap.size w104
        have hSsw104 := Cells.below hB_s1_w104 hSss1
        clear hX
        refine ⟨fun _ _ => hSsw104, ?_⟩
        try simp only [Act.put, rgA, rgB, rgC, rgD, rgE, rgF]
        refine wpAnyT_one (i := 7) (by kernel_rfl) rfl (by rfl) ?_
        have hq6 := ((hB_w104_w104).block _ (blk_lt hN6)).trans hN6
        refine wp_app (.tmp 16) (.tmp 19) 25 rfl (e := stepT) (te := 31) info_step Tryz.underlying25 rfl (by decide) (base := s1.heap.size) (S := fun _ => False) (v := .slice ca3 cl3 cc3) (xs := x1) (by kernel_rfl) (HO3.out.below hB_w103_w104) (hB_s1_w104).size (sv := .slice (some ⟨b6, 0, none⟩) 1 1) (by kernel_rfl) (ys := [((q1, q2, q3, ()), ⟨#[]⟩, false, ())]) (Src.of_cells (news := [.string q1, .int .i64 q2, .int .i64 q3, .string ⟨#[]⟩, .bool false]) (fun j u hu => by rw [Nat.zero_add, blk_cell hq6]; simpa using hu)) (step_rd HKO.out) (by have := HLL.out; have := HLM.out; simp only [List.length_cons, List.length_nil]; omega) (by have := HLL.out; have := HLM.out; simp only [List.length_cons, List.length_nil]; omega) ?_
        intro ca7 cl7 cc7 w105 O7 g7 ob7
        have hX : Below s1.heap.size s1 w105 := (hB_s1_w104).grown g7 (hB_s1_w104).size (fun c hc => (HO3.out.own c hc).1)
        have HO7 := Lib.hid O7
        clear O7 g7 ob7
        have hB_s1_w105 := hX
        have hB_w105_w105 := Below.refl w105.heap.size w105
        have hSsw105 := Cells.below hB_s1_w105 hSss1
        clear hX
        refine ⟨fun _ _ => hSsw105, ?_⟩
        try simp only [Act.put, rgA, rgB, rgC, rgD, rgE, rgF]
        refine wpAnyT_one (i := 8) (by kernel_rfl) rfl (by rfl) ?_
        have hb0 : Below w.heap.size w w105 := below_step HB2.out (hB_0_s1.trans ((hB_s1_w105).mono hB_0_s1.size))
        refine wp_enter (f := 5) (args := #[.agg #[.int .i64 n, .slice a len cap], .slice ca7 cl7 cc7]) (by go_simp) (fewS53 w105 n a len cap xs (HX.out.alloc hb0) (fun b hb => hb) ca7 cl7 cc7 _ (rdOwn HO7.out) (fun b hb => hb)) ?_
        rintro e w106 ⟨fb, rfl, hX, hfb⟩
        rw [List.length_append] at hfb
        clear hb0
        have hB_s1_w106 := below_step hB_s1_w105 hX
        have hB_w105_w106 := below_step hB_w105_w105 hX
        have hB_w106_w106 := Below.refl w106.heap.size w106
        have hSsw106 := Cells.below hB_s1_w106 hSss1
        clear hX
        refine ⟨_, rfl, fun _ _ => hSsw106, ?_⟩
        try simp only [Act.put, rgA, rgB, rgC, rgD, rgE, rgF]
        refine wpAnyT_pure (i := 9) (v := ?_) rfl (by kernel_rfl) (by kernel_rfl) (by kernel_rfl) (fun _ _ _ h => h) (by rfl) ?_ ?_
        rotate_left
        · intro w; go_simp; try with_reducible rfl
        simp only [Act.put, rgA, rgB, rgC, rgD, rgE, rgF]
        refine wpAnyT_done (by kernel_rfl) ?_ _
        refine cut_leaf ?_ ?_
        focus kernel_rfl
        exact ⟨⟨_, _, _, _, _, _, _, _, fb, rfl, hfb⟩, hB_0_s1.trans ((hB_s1_w106).mono hB_0_s1.size)⟩
      · skip
        obtain ⟨b6, hb6⟩ : ∃ b, w102.heap.size = b := ⟨_, rfl⟩
        refine wp_newrow (v := .slice (some ⟨b6, 0, none⟩) 1 1) (cs := #[.string q1, .int .i64 q2, .int .i64 q3, .string ⟨#[]⟩, .bool false]) (te := 31) (by rw [← hb6]; go_simp) ?_
        intro w107 hX hN6
        rw [hb6] at hN6
        have hB_s1_w107 := below_step hB_s1_w102 hX
        have hB_w102_w107 := below_step hB_w102_w102 hX
        have hB_w107_w107 := Below.refl w107.heap.size w107
        have hSsw107 := Cells.below hB_s1_w107 hSss1
        clear hX
        refine ⟨fun _ _ => hSsw107, ?_⟩
        try simp only [Act.put, rgA, rgB, rgC, rgD, rgE, rgF]
        refine wpAnyT_one (i := 3) (by kernel_rfl) rfl (by rfl) ?_
        have hq1 := ((hB_w102_w107).block _ (blk_lt hN1)).trans hN1
        have hb0 : Below w.heap.size w w107 := below_step HB2.out (hB_0_s1.trans ((hB_s1_w107).mono hB_0_s1.size))
        refine wp_appLit (.tmp 14) (.tmp 15) 25 rfl (e := stepT) (te := 31) info_step Tryz.underlying25 rfl (by decide) (S := fun b => b < w.heap.size) (base := s1.heap.size) (b := b1) (by kernel_rfl) hq1 hge1 (sv := .slice la ll lc) (by kernel_rfl) (ys := x1) (Rd.below hb0 (fun _ h => h) HLS.out) (fun x hx => ⟨by have := hb0.size; have h1 := HB2.out.size; have h2 := (hB_0_s1).size; omega, Nat.lt_of_lt_of_le hx hb0.size⟩) (by have := HLL.out; have := HLM.out; omega) (by have := HLL.out; have := HLM.out; omega) ?_
        intro ca3 cl3 cc3 w108 O3 hX
        have HO3 := Lib.hid (Owns.flat (e := stepT) rfl O3)
        clear O3 hb0
        have hB_s1_w108 := below_step hB_s1_w107 hX
        have hB_w102_w108 := below_step hB_w102_w107 hX
        have hB_w107_w108 := below_step hB_w107_w107 hX
        have hB_w108_w108 := Below.refl w108.heap.size w108
        have hSsw108 := Cells.below hB_s1_w108 hSss1
        clear hX
        refine ⟨fun _ _ => hSsw108, ?_⟩
        try simp only [Act.put, rgA, rgB, rgC, rgD, rgE, rgF]
        refine wpAnyT_one (i := 7) (by kernel_rfl) rfl (by rfl) ?_
        have hq6 := ((hB_w107_w108).block _ (blk_lt hN6)).trans hN6
        refine wp_app (.tmp 16) (.tmp 19) 25 rfl (e := stepT) (te := 31) info_step Tryz.underlying25 rfl (by decide) (base := s1.heap.size) (S := fun _ => False) (v := .slice ca3 cl3 cc3) (xs := x1) (by kernel_rfl) (HO3.out.below hB_w108_w108) (hB_s1_w108).size (sv := .slice (some ⟨b6, 0, none⟩) 1 1) (by kernel_rfl) (ys := [((q1, q2, q3, ()), ⟨#[]⟩, false, ())]) (Src.of_cells (news := [.string q1, .int .i64 q2, .int .i64 q3, .string ⟨#[]⟩, .bool false]) (fun j u hu => by rw [Nat.zero_add, blk_cell hq6]; simpa using hu)) (step_rd HKO.out) (by have := HLL.out; have := HLM.out; simp only [List.length_cons, List.length_nil]; omega) (by have := HLL.out; have := HLM.out; simp only [List.length_cons, List.length_nil]; omega) ?_
        intro ca7 cl7 cc7 w109 O7 g7 ob7
        have hX : Below s1.heap.size s1 w109 := (hB_s1_w108).grown g7 (hB_s1_w108).size (fun c hc => (HO3.out.own c hc).1)
        have HO7 := Lib.hid O7
        clear O7 g7 ob7
        have hB_s1_w109 := hX
        have hB_w109_w109 := Below.refl w109.heap.size w109
        have hSsw109 := Cells.below hB_s1_w109 hSss1
        clear hX
        refine ⟨fun _ _ => hSsw109, ?_⟩
        try simp only [Act.put, rgA, rgB, rgC, rgD, rgE, rgF]
        refine wpAnyT_one (i := 8) (by kernel_rfl) rfl (by rfl) ?_
        have hb0 : Below w.heap.size w w109 := below_step HB2.out (hB_0_s1.trans ((hB_s1_w109).mono hB_0_s1.size))
        refine wp_enter (f := 5) (args := #[.agg #[.int .i64 n, .slice a len cap], .slice ca7 cl7 cc7]) (by go_simp) (fewS53 w109 n a len cap xs (HX.out.alloc hb0) (fun b hb => hb) ca7 cl7 cc7 _ (rdOwn HO7.out) (fun b hb => hb)) ?_
        rintro e w110 ⟨fb, rfl, hX, hfb⟩
        rw [List.length_append] at hfb
        clear hb0
        have hB_s1_w110 := below_step hB_s1_w109 hX
        have hB_w109_w110 := below_step hB_w109_w109 hX
        have hB_w110_w110 := Below.refl w110.heap.size w110
        have hSsw110 := Cells.below hB_s1_w110 hSss1
        clear hX
        refine ⟨_, rfl, fun _ _ => hSsw110, ?_⟩
        try simp only [Act.put, rgA, rgB, rgC, rgD, rgE, rgF]
        refine wpAnyT_pure (i := 9) (v := ?_) rfl (by kernel_rfl) (by kernel_rfl) (by kernel_rfl) (fun _ _ _ h => h) (by rfl) ?_ ?_
        rotate_left
        · intro w; go_simp; try with_reducible rfl
        simp only [Act.put, rgA, rgB, rgC, rgD, rgE, rgF]
        refine wpAnyT_done (by kernel_rfl) ?_ _
        refine cut_leaf ?_ ?_
        focus kernel_rfl
        exact ⟨⟨_, _, _, _, _, _, _, _, fb, rfl, hfb⟩, hB_0_s1.trans ((hB_s1_w110).mono hB_0_s1.size)⟩
    · skip
      obtain ⟨b6, hb6⟩ : ∃ b, s1.heap.size = b := ⟨_, rfl⟩
      refine wp_newrow (v := .slice (some ⟨b6, 0, none⟩) 1 1) (cs := #[.string q1, .int .i64 q2, .int .i64 q3, .string ⟨#[]⟩, .bool false]) (te := 31) (by rw [← hb6]; go_simp) ?_
      intro w111 hX hN6
      rw [hb6] at hN6
      have hB_s1_w111 := below_step hB_s1_s1 hX
      have hB_w111_w111 := Below.refl w111.heap.size w111
      have hSsw111 := Cells.below hB_s1_w111 hSss1
      clear hX
      refine ⟨fun _ _ => hSsw111, ?_⟩
      try simp only [Act.put, rgA, rgB, rgC, rgD, rgE, rgF]
      refine wpAnyT_one (i := 1) (by kernel_rfl) rfl (by rfl) ?_
      obtain ⟨b1, hb1⟩ : ∃ b, w111.heap.size = b := ⟨_, rfl⟩
      have hge1 : s1.heap.size ≤ b1 := hb1 ▸ (hB_s1_w111).size
      refine wp_newrow (v := .slice (some ⟨b1, 0, none⟩) 0 0) (cs := #[]) (te := 31) (by rw [← hb1]; go_simp) ?_
      intro w112 hX hN1
      rw [hb1] at hN1
      have hB_s1_w112 := below_step hB_s1_w111 hX
      have hB_w111_w112 := below_step hB_w111_w111 hX
      have hB_w112_w112 := Below.refl w112.heap.size w112
      have hSsw112 := Cells.below hB_s1_w112 hSss1
      clear hX
      refine ⟨fun _ _ => hSsw112, ?_⟩
      try simp only [Act.put, rgA, rgB, rgC, rgD, rgE, rgF]
      refine wpAnyT_one (i := 3) (by kernel_rfl) rfl (by rfl) ?_
      have hq1 := ((hB_w112_w112).block _ (blk_lt hN1)).trans hN1
      have hb0 : Below w.heap.size w w112 := below_step HB2.out (hB_0_s1.trans ((hB_s1_w112).mono hB_0_s1.size))
      refine wp_appLit (.tmp 14) (.tmp 15) 25 rfl (e := stepT) (te := 31) info_step Tryz.underlying25 rfl (by decide) (S := fun b => b < w.heap.size) (base := s1.heap.size) (b := b1) (by kernel_rfl) hq1 hge1 (sv := .slice la ll lc) (by kernel_rfl) (ys := x1) (Rd.below hb0 (fun _ h => h) HLS.out) (fun x hx => ⟨by have := hb0.size; have h1 := HB2.out.size; have h2 := (hB_0_s1).size; omega, Nat.lt_of_lt_of_le hx hb0.size⟩) (by have := HLL.out; have := HLM.out; omega) (by have := HLL.out; have := HLM.out; omega) ?_
      intro ca3 cl3 cc3 w113 O3 hX
      have HO3 := Lib.hid (Owns.flat (e := stepT) rfl O3)
      clear O3 hb0
      have hB_s1_w113 := below_step hB_s1_w112 hX
      have hB_w111_w113 := below_step hB_w111_w112 hX
      have hB_w112_w113 := below_step hB_w112_w112 hX
      have hB_w113_w113 := Below.refl w113.heap.size w113
      have hSsw113 := Cells.below hB_s1_w113 hSss1
      clear hX
      refine ⟨fun _ _ => hSsw113, ?_⟩
      try simp only [Act.put, rgA, rgB, rgC, rgD, rgE, rgF]
      refine wpAnyT_one (i := 7) (by kernel_rfl) rfl (by rfl) ?_
      have hq6 := ((hB_w111_w113).block _ (blk_lt hN6)).trans hN6
      refine wp_app (.tmp 16) (.tmp 19) 25 rfl (e := stepT) (te := 31) info_step Tryz.underlying25 rfl (by decide) (base := s1.heap.size) (S := fun _ => False) (v := .slice ca3 cl3 cc3) (xs := x1) (by kernel_rfl) (HO3.out.below hB_w113_w113) (hB_s1_w113).size (sv := .slice (some ⟨b6, 0, none⟩) 1 1) (by kernel_rfl) (ys := [((q1, q2, q3, ()), ⟨#[]⟩, false, ())]) (Src.of_cells (news := [.string q1, .int .i64 q2, .int .i64 q3, .string ⟨#[]⟩, .bool false]) (fun j u hu => by rw [Nat.zero_add, blk_cell hq6]; simpa using hu)) (step_rd HKO.out) (by have := HLL.out; have := HLM.out; simp only [List.length_cons, List.length_nil]; omega) (by have := HLL.out; have := HLM.out; simp only [List.length_cons, List.length_nil]; omega) ?_
      intro ca7 cl7 cc7 w114 O7 g7 ob7
      have hX : Below s1.heap.size s1 w114 := (hB_s1_w113).grown g7 (hB_s1_w113).size (fun c hc => (HO3.out.own c hc).1)
      have HO7 := Lib.hid O7
      clear O7 g7 ob7
      have hB_s1_w114 := hX
      have hB_w114_w114 := Below.refl w114.heap.size w114
      have hSsw114 := Cells.below hB_s1_w114 hSss1
      clear hX
      refine ⟨fun _ _ => hSsw114, ?_⟩
      try simp only [Act.put, rgA, rgB, rgC, rgD, rgE, rgF]
      refine wpAnyT_one (i := 8) (by kernel_rfl) rfl (by rfl) ?_
      have hb0 : Below w.heap.size w w114 := below_step HB2.out (hB_0_s1.trans ((hB_s1_w114).mono hB_0_s1.size))
      refine wp_enter (f := 5) (args := #[.agg #[.int .i64 n, .slice a len cap], .slice ca7 cl7 cc7]) (by go_simp) (fewS53 w114 n a len cap xs (HX.out.alloc hb0) (fun b hb => hb) ca7 cl7 cc7 _ (rdOwn HO7.out) (fun b hb => hb)) ?_
      rintro e w115 ⟨fb, rfl, hX, hfb⟩
      rw [List.length_append] at hfb
      clear hb0
      have hB_s1_w115 := below_step hB_s1_w114 hX
      have hB_w114_w115 := below_step hB_w114_w114 hX
      have hB_w115_w115 := Below.refl w115.heap.size w115
      have hSsw115 := Cells.below hB_s1_w115 hSss1
      clear hX
      refine ⟨_, rfl, fun _ _ => hSsw115, ?_⟩
      try simp only [Act.put, rgA, rgB, rgC, rgD, rgE, rgF]
      refine wpAnyT_pure (i := 9) (v := ?_) rfl (by kernel_rfl) (by kernel_rfl) (by kernel_rfl) (fun _ _ _ h => h) (by rfl) ?_ ?_
      rotate_left
      · intro w; go_simp; try with_reducible rfl
      simp only [Act.put, rgA, rgB, rgC, rgD, rgE, rgF]
      refine wpAnyT_done (by kernel_rfl) ?_ _
      refine cut_leaf ?_ ?_
      focus kernel_rfl
      exact ⟨⟨_, _, _, _, _, _, _, _, fb, rfl, hfb⟩, hB_0_s1.trans ((hB_s1_w115).mono hB_0_s1.size)⟩
  rintro vs w3 ⟨⟨v21, v22, v23, v24, v25, v26, v27, v28, fb, rfl, hfb⟩, hB23⟩
  have HP3 := Lib.hid ((hB23.block _ (blk_lt HP2.out)).trans HP2.out)
  have HK3 := Lib.hid ((hB23.block _ (blk_lt HK2.out)).trans HK2.out)
  have HB3 := Lib.hid (below_step HB2.out hB23)
  have HFB := Lib.hid hfb
  clear hB23 hfb HP2 HK2 HB2 hC0
  simp only [puts, Act.put, List.setIfInBounds_toArray, List.set_cons_zero, List.set_cons_succ]
  have y0 := blk_cell HP3.out 0
  have y1 := blk_cell HP3.out 1
  simp at y0 y1
  cases fb
  · go_wp2_with fail
    go_ret
    exact ⟨rfl, HB3.out⟩
  have HFW := Lib.hid (HFB.out rfl)
  clear HFB
  have hlen8 : len ≤ 8 := by rw [← HL.out]; exact HFW.out.1.1
  have hll40 : ll ≤ 40 := by have := HFW.out.2.1; rw [← HLL.out]; omega
  have hn13 : n ≤ 13 := HFW.out.2.2
  go_wp2_with fail
  have hX := start53 w3 n a len cap xs (HX.out.alloc HB3.out) (fun b hb => hb) (by omega) (fun i hi => Nat.le_trans (HFW.out.1.2 i hi) (by omega))
  refine Calls.mono hX ?_
  clear hX
  rintro e w4 ⟨q, z1, z2, sa, sl, sc, rfl, hB4, hst⟩
  have HB4 := Lib.hid (below_step HB3.out hB4)
  have hBa := (Below.refl w4.heap.size w4).alloc (Nat.le_refl _) (.cells #[.int .i64 z1, .int .i64 z2, .slice sa sl sc, .slice none 0 0] 35)
  have HB5 := Lib.hid (below_step HB4.out hBa)
  have HRW := Lib.hid (heap_alloc_new w4 (.cells #[.int .i64 z1, .int .i64 z2, .slice sa sl sc, .slice none 0 0] 35))
  have HB45 := Lib.hid hBa
  have HST := Lib.hid hst
  have HS3 := Lib.hid (show w.heap.size ≤ w3.heap.size from HB3.out.size)
  have HK5 := Lib.hid (((hB4.trans (hBa.mono hB4.size)).block _ (blk_lt HK3.out)).trans HK3.out)
  have HKL3 := Lib.hid (blk_lt HK3.out)
  clear hst hB4 hBa y0 y1 HP3 HB3 HK3
  rcases HST.out with ⟨rfl, -⟩ | ⟨hok, hzz, S, p, m, rfl, hm3, hwf⟩
  · go_wp2_with fail
    go_ret
    exact ⟨rfl, HB5.out⟩
  have HWK := Lib.hid (wk_of hok HFW.out.1.2)
  have HWF := Lib.hid hwf
  have HM3 := Lib.hid hm3
  have HOK := Lib.hid hok
  have HZZ := Lib.hid hzz
  have HT8 := Lib.hid (show (xs.map tk).length ≤ 8 from by rw [List.length_map]; exact HFW.out.1.1)
  clear hok hwf hm3 HST hzz
  go_wp2_with fail
  generalize w4.alloc (.cells #[.int .i64 z1, .int .i64 z2, .slice sa sl sc, .slice none 0 0] 35) = w5 at HB5 HB45 HK5 HRW ⊢
  obtain ⟨e1, e2, e3, e4, e5⟩ := HZZ.out
  rw [e1, e2, e3, e4, e5] at HRW
  clear e1 e2 e3 e4 e5 HZZ
  obtain ⟨rb, hrb⟩ : ∃ x, w4.heap.size = x := ⟨_, rfl⟩
  have HSEP := Lib.hid (show p ≠ rb ∧ m ≠ rb ∧ (∀ b, S b → b ≠ rb) ∧ w.heap.size ≤ rb ∧ pb + 1 ≠ rb from ⟨by have := HWF.out.ptr_lt; omega, by have := HWF.out.map_lt; omega, fun b hb => by have := HWF.out.wf.hS b hb; omega, by have := HB4.out.size; omega, by have h1 := HKL3.out; have h2 := HWF.out.map_lt; have h3 := HM3.out; omega⟩)
  rw [hrb] at HRW
  rw [hrb]
  clear hrb
  have HW5 := Lib.hid (HWF.out.below HB45.out)
  have hX := play53 w5 p (xs.map tk) (gN n) 12 m HW5.out HWK.out la ll lc x1 (Rd.below HB5.out (fun _ h => h) HLS.out) (fun b hb => ⟨Nat.lt_of_lt_of_le hb HB5.out.size, by have := HS3.out; have := HM3.out; omega⟩) (by omega)
  refine Calls.mono hX ?_
  clear hX
  rintro e w6 ⟨rfl, hg6, n6, hn6, hwf6⟩
  have HMW := Lib.hid (show w.heap.size ≤ m from Nat.le_trans HS3.out HM3.out)
  have HMK := Lib.hid (show pb + 1 ≠ m from by have := HKL3.out; have := HM3.out; omega)
  have HK6 := Lib.hid ((hg6.block _ (blk_lt HK5.out) HMK.out).trans HK5.out)
  have HB6 := Lib.hid (show Below w.heap.size w w6 from HB5.out.trans (hg6.below (fun b e => by rw [e]; exact HMW.out) HB5.out.size))
  have HWF6 := Lib.hid hwf6
  have HRI6 := Lib.hid (show RefI w6 rb (xs.map tk) (gN n) a len cap xs [] from ⟨fun b => b < w.heap.size, none, 0, 0, ⟨HX.out.below HB6.out (fun _ h => h), rfl, rd_nil _ _ _, fun b hb => Nat.lt_of_lt_of_le hb HB6.out.size⟩, fun b hb => by have := HSEP.out.2.2.2.1; omega, (hg6.block _ (blk_lt HRW.out) (fun e => HSEP.out.2.1 e.symm)).trans HRW.out⟩)
  have HN6 := Lib.hid hn6
  have HSI := Lib.hid (show SgInv (xs.map tk) (gN n) 12 (playL (xs.map tk) (gN n) 12 (x1.map stp) []) from playL_inv HWK.out (fun s hs => (steps_ok HLS.out s hs).2) (SgInv.nil _ _ _))
  have HSL := Lib.hid (show (playL (xs.map tk) (gN n) 12 (x1.map stp) []).length ≤ 40 from by
    have h := playL_len (xs.map tk) (gN n) 12 (x1.map stp) []
    rw [List.length_map, List.length_nil, HLL.out] at h
    omega)
  obtain ⟨sg, hsg⟩ : ∃ l, playL (xs.map tk) (gN n) 12 (x1.map stp) [] = l := ⟨_, rfl⟩
  rw [hsg] at HWF6 HSI HSL
  have HSGF := Lib.hid hsg
  clear hsg
  generalize xs.map tk = ts at HWK HWF6 HSI HT8 HRI6 HSGF
  have hgn : gN n ≤ 12 := HOK.out.2.1
  generalize gN n = ne at HWK HWF6 HSI HOK hgn HRI6 HSGF
  clear hg6 hwf6 hn6 HWF HM3 HW5 HB45 HB5 HB4 HOK HS3 HK5 HKL3
  go_wp2_with fail
  go_loopw [10] (fun iv wr => ∃ (i : Nat), i ≤ ll ∧ iv = .int .i64 i ∧ RefI wr rb ts ne a len cap xs (playL ts ne 12 ((x1.map stp).take i) []) ∧ Gr (fun b => b = rb) w6 wr) (fun iv _ => ll - (intOf iv).toNat)
  case atStart => exact ⟨0, Nat.zero_le _, rfl, HRI6.out, Gr.refl _ _⟩
  obtain ⟨i, hi, rfl, hri, hg⟩ := hrel
  have HGr := Lib.hid hg
  have HWFr := Lib.hid (HWF6.out.setRow' hg HSEP.out.1 HSEP.out.2.1 HSEP.out.2.2.1)
  have HBr := Lib.hid (show Below w.heap.size w wr from HB6.out.trans (hg.below (fun b e => by rw [e]; exact HSEP.out.2.2.2.1) HB6.out.size))
  have HKr := Lib.hid ((hg.block _ (blk_lt HK6.out) HSEP.out.2.2.2.2).trans HK6.out)
  obtain ⟨S', ga, gl, gc, hrf, hsr, hrr⟩ := hri
  have HRFr := Lib.hid hrf
  have HSr := Lib.hid hsr
  have HRr := Lib.hid hrr
  clear hrf hsr hrr hg
  by_cases hlt : i < ll
  · have hltI : (i : Int) < (ll : Int) := by omega
    have hix : i < x1.length := by rw [HLL.out]; exact hlt
    have HLT := Lib.hid hlt
    have HGL := Lib.hid (show gl ≤ 1000 from by
      have h1 : (playL ts ne 12 ((x1.map stp).take i) []).length = gl := by simpa using HRFr.out.rs.sl_flat.1
      have h2 := playL_len ts ne 12 ((x1.map stp).take i) []
      rw [List.length_nil, List.length_take] at h2
      omega)
    have HSI := Lib.hid (show SgInv ts ne 12 (playL ts ne 12 ((x1.map stp).take i) []) from playL_inv HWK.out (fun s hs => (steps_ok HLS.out s ((List.take_sublist _ _).subset hs)).2) (SgInv.nil _ _ _))
    obtain ⟨b, o, rfl, -, m0, m1, m2, m3, m4, hko, hwz⟩ := step_at (HLS.out.below HBr.out (fun _ h => h)) i hix
    have HSN := Lib.hid (show playL ts ne 12 ((x1.map stp).take (i + 1)) [] = playS ts ne 12 (playL ts ne 12 ((x1.map stp).take i) []) (stp x1[i]) from by
      rw [← playL_snoc, List.take_succ_eq_append_getElem (by rw [List.length_map]; exact hix), List.getElem_map])
    obtain ⟨sgi, hsgi⟩ : ∃ l, l = playL ts ne 12 ((x1.map stp).take i) [] := ⟨_, rfl⟩
    obtain ⟨sgi', hsgi'⟩ : ∃ l, l = playL ts ne 12 ((x1.map stp).take (i + 1)) [] := ⟨_, rfl⟩
    rw [← hsgi] at HRFr HSI HSN
    rw [← hsgi'] at HSN
    have HSG' := Lib.hid hsgi'
    clear hsgi hsgi'
    generalize stp x1[i] = st at m0 m1 m2 m3 m4 hko hwz HSN
    obtain ⟨⟨t1, t2, t3⟩, who, back⟩ := st
    simp only at m0 m1 m2 m3 m4 hko hwz
    have HTO := Lib.hid hko
    have HWZ := Lib.hid hwz
    have HNE := Lib.hid (show ne ≤ 1000 from by have := hgn; omega)
    have hC0 : Cells [(⟨rb, 0, none⟩, .int .i64 ne), (⟨rb, 1, none⟩, .int .i64 12), (⟨rb, 2, none⟩, .slice a len cap), (⟨rb, 3, none⟩, .slice ga gl gc), (⟨b, o + i * 5, none⟩, .string t1), (⟨b, o + i * 5 + 1, none⟩, .int .i64 t2), (⟨b, o + i * 5 + 2, none⟩, .int .i64 t3), (⟨b, o + i * 5 + 3, none⟩, .string who)] wr := ⟨blk_cell HRr.out 0, blk_cell HRr.out 1, blk_cell HRr.out 2, blk_cell HRr.out 3, m0, m1, m2, m3, trivial⟩
    clear m0 m1 m2 m3 hko hwz hix hlt
    cases back
    · have HSE := Lib.hid (show sgi' = signS ts ne 12 sgi ⟨t1, t2, t3⟩ who from by rw [HSN.out]; rfl)
      have HCS := Lib.hid (fun W (hB : Below wr.heap.size wr W) => rsign53 W ne 12 ts sgi a len cap ga gl gc xs (HRFr.out.below hB) HWK.out HNE.out HSI.out.ok HGL.out ⟨t1, t2, t3⟩ HTO.out who HWZ.out)
      unfold Ky.v at HCS
      simp only at HCS
      go_wp2_with fail
      clear m4
      refine wp_region_T (Cells [(⟨rb, 0, none⟩, .int .i64 ne), (⟨rb, 1, none⟩, .int .i64 12), (⟨rb, 2, none⟩, .slice a len cap), (⟨rb, 3, none⟩, .slice ga gl gc), (⟨b, o + i * 5, none⟩, .string t1), (⟨b, o + i * 5 + 1, none⟩, .int .i64 t2), (⟨b, o + i * 5 + 2, none⟩, .int .i64 t3), (⟨b, o + i * 5 + 3, none⟩, .string who)]) (fun i => i == 15) (by kernel_rfl) ?_
      have hSss16 := Cells.drew hC0
      have hB_0_s16 : Below wr.heap.size wr wr.drew := below_drew _
      generalize wr.drew = s16 at hSss16 hB_0_s16 ⊢
      have hB_s16_s16 := Below.refl s16.heap.size s16
      refine wpAnyT_pure (i := 1) (v := ?_) rfl (by kernel_rfl) (by kernel_rfl) (by kernel_rfl) (fun _ _ _ h => h) (by rfl) ?_ ?_
      rotate_left
      · intro w; go_simp; try with_reducible rfl
      simp only [Act.put, rgA, rgB, rgC, rgD, rgE, rgF]
      refine wpAnyT_pure (i := 2) (v := ?_) rfl (by kernel_rfl) (by kernel_rfl) (by kernel_rfl) (fun _ _ _ h => h) (by rfl) ?_ ?_
      rotate_left
      · intro w; go_simp; try with_reducible rfl
      simp only [Act.put, rgA, rgB, rgC, rgD, rgE, rgF]
      refine wpAnyT_pure (i := 3) (v := ?_) rfl (by kernel_rfl) (by kernel_rfl) (by kernel_rfl) (fun _ _ _ h => h) (by rfl) ?_ ?_
      rotate_left
      · intro w; go_simp; try with_reducible rfl
      simp only [Act.put, rgA, rgB, rgC, rgD, rgE, rgF]
      refine wpAnyT_pure (i := 4) (v := ?_) rfl (by kernel_rfl) (by kernel_rfl) (by kernel_rfl) (fun _ _ _ h => h) (by rfl) ?_ ?_
      rotate_left
      · intro w; go_simp; try with_reducible rfl
      simp only [Act.put, rgA, rgB, rgC, rgD, rgE, rgF]
      refine wpAnyT_pure (i := 6) (v := ?_) rfl (by kernel_rfl) (by kernel_rfl) (by kernel_rfl) (fun _ _ _ h => h) (by rfl) ?_ ?_
      rotate_left
      · intro w; go_simp; try with_reducible rfl
      simp only [Act.put, rgA, rgB, rgC, rgD, rgE, rgF]
      refine wpAnyT_pure (i := 7) (v := ?_) rfl (by kernel_rfl) (by kernel_rfl) (by kernel_rfl) (fun _ _ _ h => h) (by rfl) ?_ ?_
      rotate_left
      · intro w; go_simp; try with_reducible rfl
      simp only [Act.put, rgA, rgB, rgC, rgD, rgE, rgF]
      refine wpAnyT_pure (i := 8) (v := ?_) rfl (by kernel_rfl) (by kernel_rfl) (by kernel_rfl) (fun _ _ _ h => h) (by rfl) ?_ ?_
      rotate_left
      · intro w; go_simp; try with_reducible rfl
      simp only [Act.put, rgA, rgB, rgC, rgD, rgE, rgF]
      refine wpAnyT_pure (i := 9) (v := ?_) rfl (by kernel_rfl) (by kernel_rfl) (by kernel_rfl) (fun _ _ _ h => h) (by rfl) ?_ ?_
      rotate_left
      · intro w; go_simp; try with_reducible rfl
      simp only [Act.put, rgA, rgB, rgC, rgD, rgE, rgF]
      refine wpAnyT_loadW (i := 0) (v := ?_) rfl (by kernel_rfl) (by kernel_rfl) (by kernel_rfl) (by kernel_rfl) (by kernel_rfl) (fun _ _ _ h => h) (Or.inl ⟨by rfl, ?_⟩) hSss16 ?_
      rotate_left
      · intro w hSw; obtain ⟨e0, e1, e2, e3, e4, e5, e6, e7, -⟩ := hSw; go_simp; try with_reducible rfl
      simp only [Act.put, rgA, rgB, rgC, rgD, rgE, rgF]
      refine wpAnyT_loadW (i := 5) (v := ?_) rfl (by kernel_rfl) (by kernel_rfl) (by kernel_rfl) (by kernel_rfl) (by kernel_rfl) (fun _ _ _ h => h) (Or.inl ⟨by rfl, ?_⟩) hSss16 ?_
      rotate_left
      · intro w hSw; obtain ⟨e0, e1, e2, e3, e4, e5, e6, e7, -⟩ := hSw; go_simp; try with_reducible rfl
      simp only [Act.put, rgA, rgB, rgC, rgD, rgE, rgF]
      refine wpAnyT_loadW (i := 10) (v := ?_) rfl (by kernel_rfl) (by kernel_rfl) (by kernel_rfl) (by kernel_rfl) (by kernel_rfl) (fun _ _ _ h => h) (Or.inl ⟨by rfl, ?_⟩) hSss16 ?_
      rotate_left
      · intro w hSw; obtain ⟨e0, e1, e2, e3, e4, e5, e6, e7, -⟩ := hSw; go_simp; try with_reducible rfl
      simp only [Act.put, rgA, rgB, rgC, rgD, rgE, rgF]
      refine wpAnyT_one (i := 11) (by kernel_rfl) rfl (by rfl) ?_
      have hbP : Below wr.heap.size wr s16 := hB_0_s16.trans ((hB_s16_s16).mono (hB_0_s16).size)
      refine wp_enter (f := 9) (args := #[rwV ne 12 a len cap ga gl gc, .agg #[.string t1, .int .i64 t2, .int .i64 t3], .string who]) (by go_simp) (HCS.out s16 hbP) ?_
      rintro e w117 ⟨ga', gl', gc', rfl, hX, hrf⟩
      rw [← HSE.out] at hrf
      have HRF := Lib.hid hrf
      have HSF := Lib.hid (show ∀ x, (S' x ∨ ((s16).heap.size ≤ x ∧ x < (w117).heap.size)) → x ≠ rb from fun x hx => by
        have h1 := blk_lt HRr.out
        have h2 := hbP.size
        rcases hx with hx | hx
        · exact HSr.out x hx
        · omega)
      clear hrf hbP
      have hB_s16_w117 := below_step hB_s16_s16 hX
      have hB_w117_w117 := Below.refl w117.heap.size w117
      have hSsw117 := Cells.below hB_s16_w117 hSss16
      clear hX
      refine ⟨_, rfl, fun _ _ => hSsw117, ?_⟩
      try simp only [Act.put, rgA, rgB, rgC, rgD, rgE, rgF]
      refine wpAnyT_pure (i := 12) (v := ?_) rfl (by kernel_rfl) (by kernel_rfl) (by kernel_rfl) (fun _ _ _ h => h) (by rfl) ?_ ?_
      rotate_left
      · intro w; go_simp; try with_reducible rfl
      simp only [Act.put, rgA, rgB, rgC, rgD, rgE, rgF]
      refine wpAnyT_pure (i := 13) (v := ?_) rfl (by kernel_rfl) (by kernel_rfl) (by kernel_rfl) (fun _ _ _ h => h) (by rfl) ?_ ?_
      rotate_left
      · intro w; go_simp; try with_reducible rfl
      simp only [Act.put, rgA, rgB, rgC, rgD, rgE, rgF]
      refine wpAnyT_pure (i := 14) (v := ?_) rfl (by kernel_rfl) (by kernel_rfl) (by kernel_rfl) (fun _ _ _ h => h) (by rfl) ?_ ?_
      rotate_left
      · intro w; go_simp; try with_reducible rfl
      simp only [Act.put, rgA, rgB, rgC, rgD, rgE, rgF]
      refine wpAnyT_one (i := 15) (by kernel_rfl) rfl (by rfl) ?_
      have hbP : Below wr.heap.size wr w117 := hB_0_s16.trans ((hB_s16_w117).mono (hB_0_s16).size)
      have hr7 := (hbP.block _ (blk_lt HRr.out)).trans HRr.out
      refine wp_store_row 35 (.tmp 8) (.tmp 74) rfl rb #[.int .i64 (ne : Int), .int .i64 12, .slice a len cap, .slice ga' gl' gc'] (by kernel_rfl) (by kernel_rfl) 35 _ hr7 (by kernel_rfl) (by rfl) (by simp [Value.oneCell']) ?_
      have hblk := setRow_heap (w117) rb _ #[.int .i64 (ne : Int), .int .i64 12, .slice a len cap, .slice ga' gl' gc'] _ _ hr7
      have hgs := gr_setRow (w117) rb #[.int .i64 (ne : Int), .int .i64 12, .slice a len cap, .slice ga' gl' gc']
      have HRFN := Lib.hid (show RefI _ rb ts ne a len cap xs sgi' from ⟨_, ga', gl', gc', (HRF.out.below hB_w117_w117).gr hgs (fun b hb => HSF.out b hb), HSF.out, hblk⟩)
      have HGN := Lib.hid (show Gr (fun b => b = rb) w6 _ from (HGr.out.trans (Gr.of_below hbP) (fun _ h => .inl h)).trans hgs (fun _ h => .inl h))
      generalize (w117).setRow rb #[.int .i64 (ne : Int), .int .i64 12, .slice a len cap, .slice ga' gl' gc'] = w118 at HRFN HGN ⊢
      clear hbP hr7 hblk hgs
      refine ⟨fun h => absurd h (by decide), ?_⟩
      try simp only [Act.put, rgA, rgB, rgC, rgD, rgE, rgF]
      refine wpAnyT_done (by kernel_rfl) ?_ _
      go_wp2_with fail
      go_roundw
      case rel => exact ⟨i + 1, HLT.out, by go_num, by rw [← HSG'.out]; exact HRFN.out, HGN.out⟩
      case measure => simp [intOf]; try omega
    · have HSE := Lib.hid (show sgi' = reopS ts ne 12 sgi ⟨t1, t2, t3⟩ from by rw [HSN.out]; rfl)
      have HCS := Lib.hid (fun W (hB : Below wr.heap.size wr W) => rreop53 W ne 12 ts sgi a len cap ga gl gc xs (HRFr.out.below hB) HWK.out HNE.out HSI.out.ok HGL.out ⟨t1, t2, t3⟩)
      unfold Ky.v at HCS
      simp only at HCS
      go_wp2_with fail
      clear m4
      refine wp_region_T (Cells [(⟨rb, 0, none⟩, .int .i64 ne), (⟨rb, 1, none⟩, .int .i64 12), (⟨rb, 2, none⟩, .slice a len cap), (⟨rb, 3, none⟩, .slice ga gl gc), (⟨b, o + i * 5, none⟩, .string t1), (⟨b, o + i * 5 + 1, none⟩, .int .i64 t2), (⟨b, o + i * 5 + 2, none⟩, .int .i64 t3), (⟨b, o + i * 5 + 3, none⟩, .string who)]) (fun i => i == 11) (by kernel_rfl) ?_
      have hSss19 := Cells.drew hC0
      have hB_0_s19 : Below wr.heap.size wr wr.drew := below_drew _
      generalize wr.drew = s19 at hSss19 hB_0_s19 ⊢
      have hB_s19_s19 := Below.refl s19.heap.size s19
      refine wpAnyT_pure (i := 1) (v := ?_) rfl (by kernel_rfl) (by kernel_rfl) (by kernel_rfl) (fun _ _ _ h => h) (by rfl) ?_ ?_
      rotate_left
      · intro w; go_simp; try with_reducible rfl
      simp only [Act.put, rgA, rgB, rgC, rgD, rgE, rgF]
      refine wpAnyT_pure (i := 2) (v := ?_) rfl (by kernel_rfl) (by kernel_rfl) (by kernel_rfl) (fun _ _ _ h => h) (by rfl) ?_ ?_
      rotate_left
      · intro w; go_simp; try with_reducible rfl
      simp only [Act.put, rgA, rgB, rgC, rgD, rgE, rgF]
      refine wpAnyT_pure (i := 3) (v := ?_) rfl (by kernel_rfl) (by kernel_rfl) (by kernel_rfl) (fun _ _ _ h => h) (by rfl) ?_ ?_
      rotate_left
      · intro w; go_simp; try with_reducible rfl
      simp only [Act.put, rgA, rgB, rgC, rgD, rgE, rgF]
      refine wpAnyT_pure (i := 4) (v := ?_) rfl (by kernel_rfl) (by kernel_rfl) (by kernel_rfl) (fun _ _ _ h => h) (by rfl) ?_ ?_
      rotate_left
      · intro w; go_simp; try with_reducible rfl
      simp only [Act.put, rgA, rgB, rgC, rgD, rgE, rgF]
      refine wpAnyT_loadW (i := 0) (v := ?_) rfl (by kernel_rfl) (by kernel_rfl) (by kernel_rfl) (by kernel_rfl) (by kernel_rfl) (fun _ _ _ h => h) (Or.inl ⟨by rfl, ?_⟩) hSss19 ?_
      rotate_left
      · intro w hSw; obtain ⟨e0, e1, e2, e3, e4, e5, e6, e7, -⟩ := hSw; go_simp; try with_reducible rfl
      simp only [Act.put, rgA, rgB, rgC, rgD, rgE, rgF]
      refine wpAnyT_loadW (i := 5) (v := ?_) rfl (by kernel_rfl) (by kernel_rfl) (by kernel_rfl) (by kernel_rfl) (by kernel_rfl) (fun _ _ _ h => h) (Or.inl ⟨by rfl, ?_⟩) hSss19 ?_
      rotate_left
      · intro w hSw; obtain ⟨e0, e1, e2, e3, e4, e5, e6, e7, -⟩ := hSw; go_simp; try with_reducible rfl
      simp only [Act.put, rgA, rgB, rgC, rgD, rgE, rgF]
      refine wpAnyT_one (i := 6) (by kernel_rfl) rfl (by rfl) ?_
      have hbP : Below wr.heap.size wr s19 := hB_0_s19.trans ((hB_s19_s19).mono (hB_0_s19).size)
      refine wp_enter (f := 8) (args := #[rwV ne 12 a len cap ga gl gc, .agg #[.string t1, .int .i64 t2, .int .i64 t3]]) (by go_simp) (HCS.out s19 hbP) ?_
      rintro e w120 ⟨ga', gl', gc', va, vl, vc, rfl, hX, hrf, -⟩
      rw [← HSE.out] at hrf
      have HRF := Lib.hid hrf
      have HSF := Lib.hid (show ∀ x, (S' x ∨ ((s19).heap.size ≤ x ∧ x < (w120).heap.size)) → x ≠ rb from fun x hx => by
        have h1 := blk_lt HRr.out
        have h2 := hbP.size
        rcases hx with hx | hx
        · exact HSr.out x hx
        · omega)
      clear hrf hbP
      have hB_s19_w120 := below_step hB_s19_s19 hX
      have hB_w120_w120 := Below.refl w120.heap.size w120
      have hSsw120 := Cells.below hB_s19_w120 hSss19
      clear hX
      refine ⟨_, rfl, fun _ _ => hSsw120, ?_⟩
      try simp only [Act.put, rgA, rgB, rgC, rgD, rgE, rgF]
      refine wpAnyT_pure (i := 7) (v := ?_) rfl (by kernel_rfl) (by kernel_rfl) (by kernel_rfl) (fun _ _ _ h => h) (by rfl) ?_ ?_
      rotate_left
      · intro w; go_simp; try with_reducible rfl
      simp only [Act.put, rgA, rgB, rgC, rgD, rgE, rgF]
      refine wpAnyT_pure (i := 8) (v := ?_) rfl (by kernel_rfl) (by kernel_rfl) (by kernel_rfl) (fun _ _ _ h => h) (by rfl) ?_ ?_
      rotate_left
      · intro w; go_simp; try with_reducible rfl
      simp only [Act.put, rgA, rgB, rgC, rgD, rgE, rgF]
      refine wpAnyT_pure (i := 9) (v := ?_) rfl (by kernel_rfl) (by kernel_rfl) (by kernel_rfl) (fun _ _ _ h => h) (by rfl) ?_ ?_
      rotate_left
      · intro w; go_simp; try with_reducible rfl
      simp only [Act.put, rgA, rgB, rgC, rgD, rgE, rgF]
      refine wpAnyT_pure (i := 10) (v := ?_) rfl (by kernel_rfl) (by kernel_rfl) (by kernel_rfl) (fun _ _ _ h => h) (by rfl) ?_ ?_
      rotate_left
      · intro w; go_simp; try with_reducible rfl
      simp only [Act.put, rgA, rgB, rgC, rgD, rgE, rgF]
      refine wpAnyT_one (i := 11) (by kernel_rfl) rfl (by rfl) ?_
      have hbP : Below wr.heap.size wr w120 := hB_0_s19.trans ((hB_s19_w120).mono (hB_0_s19).size)
      have hr7 := (hbP.block _ (blk_lt HRr.out)).trans HRr.out
      refine wp_store_row 35 (.tmp 8) (.tmp 58) rfl rb #[.int .i64 (ne : Int), .int .i64 12, .slice a len cap, .slice ga' gl' gc'] (by kernel_rfl) (by kernel_rfl) 35 _ hr7 (by kernel_rfl) (by rfl) (by simp [Value.oneCell']) ?_
      have hblk := setRow_heap (w120) rb _ #[.int .i64 (ne : Int), .int .i64 12, .slice a len cap, .slice ga' gl' gc'] _ _ hr7
      have hgs := gr_setRow (w120) rb #[.int .i64 (ne : Int), .int .i64 12, .slice a len cap, .slice ga' gl' gc']
      have HRFN := Lib.hid (show RefI _ rb ts ne a len cap xs sgi' from ⟨_, ga', gl', gc', (HRF.out.below hB_w120_w120).gr hgs (fun b hb => HSF.out b hb), HSF.out, hblk⟩)
      have HGN := Lib.hid (show Gr (fun b => b = rb) w6 _ from (HGr.out.trans (Gr.of_below hbP) (fun _ h => .inl h)).trans hgs (fun _ h => .inl h))
      generalize (w120).setRow rb #[.int .i64 (ne : Int), .int .i64 12, .slice a len cap, .slice ga' gl' gc'] = w121 at HRFN HGN ⊢
      clear hbP hr7 hblk hgs
      refine ⟨fun h => absurd h (by decide), ?_⟩
      try simp only [Act.put, rgA, rgB, rgC, rgD, rgE, rgF]
      refine wpAnyT_done (by kernel_rfl) ?_ _
      go_wp2_with fail
      go_roundw
      case rel => exact ⟨i + 1, HLT.out, by go_num, by rw [← HSG'.out]; exact HRFN.out, HGN.out⟩
      case measure => simp [intOf]; try omega
  · obtain rfl : ll = i := by omega
    have hall : (x1.map stp).take ll = x1.map stp := List.take_of_length_le (by rw [List.length_map, HLL.out]; exact Nat.le_refl _)
    rw [hall, HSGF.out] at HRFr
    have hC0 : Cells [(⟨rb, 0, none⟩, .int .i64 ne), (⟨rb, 1, none⟩, .int .i64 12), (⟨rb, 2, none⟩, .slice a len cap), (⟨rb, 3, none⟩, .slice ga gl gc), (⟨pb + 1, 0, none⟩, .string q1), (⟨pb + 1, 1, none⟩, .int .i64 q2), (⟨pb + 1, 2, none⟩, .int .i64 q3)] wr := ⟨blk_cell HRr.out 0, blk_cell HRr.out 1, blk_cell HRr.out 2, blk_cell HRr.out 3, blk_cell HKr.out 0, blk_cell HKr.out 1, blk_cell HKr.out 2, trivial⟩
    clear hall hlt
    obtain ⟨db, hdb⟩ : ∃ b, doneA ts ne 12 (lkS sg) q3 = b := ⟨_, rfl⟩
    have HDB := Lib.hid hdb
    clear hdb
    go_wp2_with fail
    refine wp_region_T (Cells [(⟨rb, 0, none⟩, .int .i64 ne), (⟨rb, 1, none⟩, .int .i64 12), (⟨rb, 2, none⟩, .slice a len cap), (⟨rb, 3, none⟩, .slice ga gl gc), (⟨pb + 1, 0, none⟩, .string q1), (⟨pb + 1, 1, none⟩, .int .i64 q2), (⟨pb + 1, 2, none⟩, .int .i64 q3)]) (fun _ => false) (by kernel_rfl) ?_
    have hSss22 := Cells.drew hC0
    have hB_0_s22 : Below wr.heap.size wr wr.drew := below_drew _
    generalize wr.drew = s22 at hSss22 hB_0_s22 ⊢
    have hB_s22_s22 := Below.refl s22.heap.size s22
    refine wpAnyT_pure (i := 0) (v := ?_) rfl (by kernel_rfl) (by kernel_rfl) (by kernel_rfl) (fun _ _ _ h => h) (by rfl) ?_ ?_
    rotate_left
    · intro w; go_simp; try with_reducible rfl
    simp only [Act.put, rgA, rgB, rgC, rgD, rgE, rgF]
    refine wpAnyT_loadW (i := 1) (v := ?_) rfl (by kernel_rfl) (by kernel_rfl) (by kernel_rfl) (by kernel_rfl) (by kernel_rfl) (fun _ _ _ h => h) (Or.inl ⟨by rfl, ?_⟩) hSss22 ?_
    rotate_left
    · intro w hSw; obtain ⟨e0, e1, e2, e3, e4, e5, e6, -⟩ := hSw; go_simp; try with_reducible rfl
    simp only [Act.put, rgA, rgB, rgC, rgD, rgE, rgF]
    refine wpAnyT_loadW (i := 3) (v := ?_) rfl (by kernel_rfl) (by kernel_rfl) (by kernel_rfl) (by kernel_rfl) (by kernel_rfl) (fun _ _ _ h => h) (Or.inl ⟨by rfl, ?_⟩) hSss22 ?_
    rotate_left
    · intro w hSw; obtain ⟨e0, e1, e2, e3, e4, e5, e6, -⟩ := hSw; go_simp; try with_reducible rfl
    simp only [Act.put, rgA, rgB, rgC, rgD, rgE, rgF]
    refine wpAnyT_loadW (i := 4) (v := ?_) rfl (by kernel_rfl) (by kernel_rfl) (by kernel_rfl) (by kernel_rfl) (by kernel_rfl) (fun _ _ _ h => h) (Or.inl ⟨by rfl, ?_⟩) hSss22 ?_
    rotate_left
    · intro w hSw; obtain ⟨e0, e1, e2, e3, e4, e5, e6, -⟩ := hSw; go_simp; try with_reducible rfl
    simp only [Act.put, rgA, rgB, rgC, rgD, rgE, rgF]
    refine wpAnyT_one (i := 2) (by kernel_rfl) rfl (by rfl) ?_
    have hbP : Below wr.heap.size wr s22 := hB_0_s22.trans ((hB_s22_s22).mono (hB_0_s22).size)
    refine wp_enter (f := 11) (args := #[.pointer (some ⟨p, 0, none⟩), .agg #[.string q1, .int .i64 q2, .int .i64 q3]]) (by go_simp) (needsM s22 p ts ne 12 m (HWFr.out.below hbP).wf HWK.out ⟨q1, q2, q3⟩ HKO.out) ?_
    rintro e w123 ⟨na, nl, nc, nlst, rfl, hcase, hrd, hX⟩
    rw [needs_same HWK.out hcase] at hrd
    have HR2 := Lib.hid hrd
    clear hrd hcase hbP
    have hB_s22_w123 := below_step hB_s22_s22 hX
    have hB_w123_w123 := Below.refl w123.heap.size w123
    have hSsw123 := Cells.below hB_s22_w123 hSss22
    clear hX
    refine ⟨_, rfl, fun _ _ => hSsw123, ?_⟩
    try simp only [Act.put, rgA, rgB, rgC, rgD, rgE, rgF]
    refine wpAnyT_one (i := 5) (by kernel_rfl) rfl (by rfl) ?_
    have hbP : Below wr.heap.size wr w123 := hB_0_s22.trans ((hB_s22_w123).mono (hB_0_s22).size)
    refine wp_enter (f := 12) (args := #[rwV ne 12 a len cap ga gl gc, .agg #[.string q1, .int .i64 q2, .int .i64 q3]]) (by go_simp) (rneeds53 w123 ne 12 ts sg a len cap ga gl gc xs (HRFr.out.below hbP) HWK.out (by have := HT8.out; omega) ⟨q1, q2, q3⟩) ?_
    rintro e w124 ⟨ra, rl, rc, rfl, hrd, hX⟩
    have HR5 := Lib.hid hrd
    clear hrd hbP
    have hB_s22_w124 := below_step hB_s22_w123 hX
    have hB_w123_w124 := below_step hB_w123_w123 hX
    have hB_w124_w124 := Below.refl w124.heap.size w124
    have hSsw124 := Cells.below hB_s22_w124 hSss22
    clear hX
    refine ⟨_, rfl, fun _ _ => hSsw124, ?_⟩
    try simp only [Act.put, rgA, rgB, rgC, rgD, rgE, rgF]
    refine wpAnyT_one (i := 6) (by kernel_rfl) rfl (by rfl) ?_
    refine wp_enter (f := 10) (args := #[.slice na nl nc, .slice ra rl rc]) (by go_simp) (sameKeys53 w124 na nl nc ra rl rc _ (HR2.out.below hB_w123_w124 (fun _ h => h)) (HR5.out.below hB_w124_w124 (fun b hb => hb.2)) (fun b hb => Nat.lt_of_lt_of_le hb (hB_w123_w124).size) (fun b hb => Nat.lt_of_lt_of_le hb.2 (hB_w124_w124).size)) ?_
    rintro e w125 ⟨rfl, hX⟩
    have hB_s22_w125 := below_step hB_s22_w124 hX
    have hB_w123_w125 := below_step hB_w123_w124 hX
    have hB_w124_w125 := below_step hB_w124_w124 hX
    have hB_w125_w125 := Below.refl w125.heap.size w125
    have hSsw125 := Cells.below hB_s22_w125 hSss22
    clear hX
    refine ⟨_, rfl, fun _ _ => hSsw125, ?_⟩
    try simp only [Act.put, rgA, rgB, rgC, rgD, rgE, rgF]
    refine wpAnyT_pure (i := 7) (v := ?_) rfl (by kernel_rfl) (by kernel_rfl) (by kernel_rfl) (fun _ _ _ h => h) (by rfl) ?_ ?_
    rotate_left
    · intro w; go_simp; try with_reducible rfl
    simp only [Act.put, rgA, rgB, rgC, rgD, rgE, rgF]
    refine wpAnyT_pure (i := 8) (v := ?_) rfl (by kernel_rfl) (by kernel_rfl) (by kernel_rfl) (fun _ _ _ h => h) (by rfl) ?_ ?_
    rotate_left
    · intro w; go_simp; try with_reducible rfl
    simp only [Act.put, rgA, rgB, rgC, rgD, rgE, rgF]
    refine wpAnyT_pure (i := 9) (v := ?_) rfl (by kernel_rfl) (by kernel_rfl) (by kernel_rfl) (fun _ _ _ h => h) (by rfl) ?_ ?_
    rotate_left
    · intro w; go_simp; try with_reducible rfl
    simp only [Act.put, rgA, rgB, rgC, rgD, rgE, rgF]
    refine wpAnyT_pure (i := 13) (v := ?_) rfl (by kernel_rfl) (by kernel_rfl) (by kernel_rfl) (fun _ _ _ h => h) (by rfl) ?_ ?_
    rotate_left
    · intro w; go_simp; try with_reducible rfl
    simp only [Act.put, rgA, rgB, rgC, rgD, rgE, rgF]
    refine wpAnyT_loadW (i := 10) (v := ?_) rfl (by kernel_rfl) (by kernel_rfl) (by kernel_rfl) (by kernel_rfl) (by kernel_rfl) (fun _ _ _ h => h) (Or.inl ⟨by rfl, ?_⟩) hSsw125 ?_
    rotate_left
    · intro w hSw; obtain ⟨e0, e1, e2, e3, e4, e5, e6, -⟩ := hSw; go_simp; try with_reducible rfl
    simp only [Act.put, rgA, rgB, rgC, rgD, rgE, rgF]
    refine wpAnyT_loadW (i := 12) (v := ?_) rfl (by kernel_rfl) (by kernel_rfl) (by kernel_rfl) (by kernel_rfl) (by kernel_rfl) (fun _ _ _ h => h) (Or.inl ⟨by rfl, ?_⟩) hSsw125 ?_
    rotate_left
    · intro w hSw; obtain ⟨e0, e1, e2, e3, e4, e5, e6, -⟩ := hSw; go_simp; try with_reducible rfl
    simp only [Act.put, rgA, rgB, rgC, rgD, rgE, rgF]
    refine wpAnyT_loadW (i := 14) (v := ?_) rfl (by kernel_rfl) (by kernel_rfl) (by kernel_rfl) (by kernel_rfl) (by kernel_rfl) (fun _ _ _ h => h) (Or.inl ⟨by rfl, ?_⟩) hSsw125 ?_
    rotate_left
    · intro w hSw; obtain ⟨e0, e1, e2, e3, e4, e5, e6, -⟩ := hSw; go_simp; try with_reducible rfl
    simp only [Act.put, rgA, rgB, rgC, rgD, rgE, rgF]
    refine wpAnyT_one (i := 11) (by kernel_rfl) rfl (by rfl) ?_
    have hbP : Below wr.heap.size wr w125 := hB_0_s22.trans ((hB_s22_w125).mono (hB_0_s22).size)
    refine wp_enter (f := 13) (args := #[.pointer (some ⟨p, 0, none⟩), .int .i64 q3]) (by go_simp) (nextM w125 p ts ne 12 m n6 (lkS sg) (HWFr.out.below hbP) HWK.out (by have := HT8.out; omega) q3 HKO.out.2.2) ?_
    rintro e w126 ⟨xa, xl, xc, rfl, hrd, hX⟩
    have HR11 := Lib.hid hrd
    clear hrd hbP
    have hB_s22_w126 := below_step hB_s22_w125 hX
    have hB_w123_w126 := below_step hB_w123_w125 hX
    have hB_w124_w126 := below_step hB_w124_w125 hX
    have hB_w125_w126 := below_step hB_w125_w125 hX
    have hB_w126_w126 := Below.refl w126.heap.size w126
    have hSsw126 := Cells.below hB_s22_w126 hSss22
    clear hX
    refine ⟨_, rfl, fun _ _ => hSsw126, ?_⟩
    try simp only [Act.put, rgA, rgB, rgC, rgD, rgE, rgF]
    refine wpAnyT_one (i := 15) (by kernel_rfl) rfl (by rfl) ?_
    have hbP : Below wr.heap.size wr w126 := hB_0_s22.trans ((hB_s22_w126).mono (hB_0_s22).size)
    refine wp_enter (f := 14) (args := #[rwV ne 12 a len cap ga gl gc, .int .i64 q3]) (by go_simp) (rnext53 w126 ne 12 ts sg a len cap ga gl gc xs (HRFr.out.below hbP) HWK.out (by have := HT8.out; omega) q3 HKO.out.2.2) ?_
    rintro e w127 ⟨ya, yl, yc, rfl, hrd, hX⟩
    have HR15 := Lib.hid hrd
    clear hrd hbP
    have hB_s22_w127 := below_step hB_s22_w126 hX
    have hB_w123_w127 := below_step hB_w123_w126 hX
    have hB_w124_w127 := below_step hB_w124_w126 hX
    have hB_w125_w127 := below_step hB_w125_w126 hX
    have hB_w126_w127 := below_step hB_w126_w126 hX
    have hB_w127_w127 := Below.refl w127.heap.size w127
    have hSsw127 := Cells.below hB_s22_w127 hSss22
    clear hX
    refine ⟨_, rfl, fun _ _ => hSsw127, ?_⟩
    try simp only [Act.put, rgA, rgB, rgC, rgD, rgE, rgF]
    refine wpAnyT_one (i := 16) (by kernel_rfl) rfl (by rfl) ?_
    refine wp_enter (f := 10) (args := #[.slice xa xl xc, .slice ya yl yc]) (by go_simp) (sameKeys53 w127 xa xl xc ya yl yc _ (HR11.out.below hB_w126_w127 (fun _ h => h)) (HR15.out.below hB_w127_w127 (fun b hb => hb.2)) (fun b hb => Nat.lt_of_lt_of_le hb (hB_w126_w127).size) (fun b hb => Nat.lt_of_lt_of_le hb.2 (hB_w127_w127).size)) ?_
    rintro e w128 ⟨rfl, hX⟩
    have hB_s22_w128 := below_step hB_s22_w127 hX
    have hB_w123_w128 := below_step hB_w123_w127 hX
    have hB_w124_w128 := below_step hB_w124_w127 hX
    have hB_w125_w128 := below_step hB_w125_w127 hX
    have hB_w126_w128 := below_step hB_w126_w127 hX
    have hB_w127_w128 := below_step hB_w127_w127 hX
    have hB_w128_w128 := Below.refl w128.heap.size w128
    have hSsw128 := Cells.below hB_s22_w128 hSss22
    clear hX
    refine ⟨_, rfl, fun _ _ => hSsw128, ?_⟩
    try simp only [Act.put, rgA, rgB, rgC, rgD, rgE, rgF]
    refine wpAnyT_pure (i := 17) (v := ?_) rfl (by kernel_rfl) (by kernel_rfl) (by kernel_rfl) (fun _ _ _ h => h) (by rfl) ?_ ?_
    rotate_left
    · intro w; go_simp; try with_reducible rfl
    simp only [Act.put, rgA, rgB, rgC, rgD, rgE, rgF]
    refine wpAnyT_pure (i := 18) (v := ?_) rfl (by kernel_rfl) (by kernel_rfl) (by kernel_rfl) (fun _ _ _ h => h) (by rfl) ?_ ?_
    rotate_left
    · intro w; go_simp; try with_reducible rfl
    simp only [Act.put, rgA, rgB, rgC, rgD, rgE, rgF]
    refine wpAnyT_pure (i := 19) (v := ?_) rfl (by kernel_rfl) (by kernel_rfl) (by kernel_rfl) (fun _ _ _ h => h) (by rfl) ?_ ?_
    rotate_left
    · intro w; go_simp; try with_reducible rfl
    simp only [Act.put, rgA, rgB, rgC, rgD, rgE, rgF]
    refine wpAnyT_pure (i := 20) (v := ?_) rfl (by kernel_rfl) (by kernel_rfl) (by kernel_rfl) (fun _ _ _ h => h) (by rfl) ?_ ?_
    rotate_left
    · intro w; go_simp; try with_reducible rfl
    simp only [Act.put, rgA, rgB, rgC, rgD, rgE, rgF]
    refine wpAnyT_pure (i := 24) (v := ?_) rfl (by kernel_rfl) (by kernel_rfl) (by kernel_rfl) (fun _ _ _ h => h) (by rfl) ?_ ?_
    rotate_left
    · intro w; go_simp; try with_reducible rfl
    simp only [Act.put, rgA, rgB, rgC, rgD, rgE, rgF]
    refine wpAnyT_loadW (i := 21) (v := ?_) rfl (by kernel_rfl) (by kernel_rfl) (by kernel_rfl) (by kernel_rfl) (by kernel_rfl) (fun _ _ _ h => h) (Or.inl ⟨by rfl, ?_⟩) hSsw128 ?_
    rotate_left
    · intro w hSw; obtain ⟨e0, e1, e2, e3, e4, e5, e6, -⟩ := hSw; go_simp; try with_reducible rfl
    simp only [Act.put, rgA, rgB, rgC, rgD, rgE, rgF]
    refine wpAnyT_loadW (i := 23) (v := ?_) rfl (by kernel_rfl) (by kernel_rfl) (by kernel_rfl) (by kernel_rfl) (by kernel_rfl) (fun _ _ _ h => h) (Or.inl ⟨by rfl, ?_⟩) hSsw128 ?_
    rotate_left
    · intro w hSw; obtain ⟨e0, e1, e2, e3, e4, e5, e6, -⟩ := hSw; go_simp; try with_reducible rfl
    simp only [Act.put, rgA, rgB, rgC, rgD, rgE, rgF]
    refine wpAnyT_loadW (i := 25) (v := ?_) rfl (by kernel_rfl) (by kernel_rfl) (by kernel_rfl) (by kernel_rfl) (by kernel_rfl) (fun _ _ _ h => h) (Or.inl ⟨by rfl, ?_⟩) hSsw128 ?_
    rotate_left
    · intro w hSw; obtain ⟨e0, e1, e2, e3, e4, e5, e6, -⟩ := hSw; go_simp; try with_reducible rfl
    simp only [Act.put, rgA, rgB, rgC, rgD, rgE, rgF]
    refine wpAnyT_one (i := 22) (by kernel_rfl) rfl (by rfl) ?_
    have hbP : Below wr.heap.size wr w128 := hB_0_s22.trans ((hB_s22_w128).mono (hB_0_s22).size)
    refine wp_enter (f := 15) (args := #[.pointer (some ⟨p, 0, none⟩), .int .i64 q3]) (by go_simp) (doneG53 w128 p ts ne 12 m n6 (lkS sg) (HWFr.out.below hbP) (by have := hgn; omega) (by have := HT8.out; omega) q3 HKO.out.2.2) ?_
    rw [HDB.out]
    rintro e w129 ⟨rfl, hX⟩
    clear hbP
    have hB_s22_w129 := below_step hB_s22_w128 hX
    have hB_w123_w129 := below_step hB_w123_w128 hX
    have hB_w124_w129 := below_step hB_w124_w128 hX
    have hB_w125_w129 := below_step hB_w125_w128 hX
    have hB_w126_w129 := below_step hB_w126_w128 hX
    have hB_w127_w129 := below_step hB_w127_w128 hX
    have hB_w128_w129 := below_step hB_w128_w128 hX
    have hB_w129_w129 := Below.refl w129.heap.size w129
    have hSsw129 := Cells.below hB_s22_w129 hSss22
    clear hX
    refine ⟨_, rfl, fun _ _ => hSsw129, ?_⟩
    try simp only [Act.put, rgA, rgB, rgC, rgD, rgE, rgF]
    refine wpAnyT_one (i := 26) (by kernel_rfl) rfl (by rfl) ?_
    have hbP : Below wr.heap.size wr w129 := hB_0_s22.trans ((hB_s22_w129).mono (hB_0_s22).size)
    refine wp_enter (f := 16) (args := #[rwV ne 12 a len cap ga gl gc, .int .i64 q3]) (by go_simp) (rdone53 w129 ne 12 ts sg a len cap ga gl gc xs (HRFr.out.below hbP) (by have := hgn; omega) (by have := HT8.out; omega) q3 HKO.out.2.2) ?_
    rw [HDB.out]
    rintro e w130 ⟨rfl, hX⟩
    clear hbP
    have hB_s22_w130 := below_step hB_s22_w129 hX
    have hB_w123_w130 := below_step hB_w123_w129 hX
    have hB_w124_w130 := below_step hB_w124_w129 hX
    have hB_w125_w130 := below_step hB_w125_w129 hX
    have hB_w126_w130 := below_step hB_w126_w129 hX
    have hB_w127_w130 := below_step hB_w127_w129 hX
    have hB_w128_w130 := below_step hB_w128_w129 hX
    have hB_w129_w130 := below_step hB_w129_w129 hX
    have hB_w130_w130 := Below.refl w130.heap.size w130
    have hSsw130 := Cells.below hB_s22_w130 hSss22
    clear hX
    refine ⟨_, rfl, fun _ _ => hSsw130, ?_⟩
    try simp only [Act.put, rgA, rgB, rgC, rgD, rgE, rgF]
    refine wpAnyT_pure (i := 27) (v := (.bool true)) rfl (by kernel_rfl) (by kernel_rfl) (by kernel_rfl) (fun _ _ _ h => h) (by rfl) ?_ ?_
    · intro w; cases db <;> go_simp
    simp only [Act.put, rgA, rgB, rgC, rgD, rgE, rgF]
    refine wpAnyT_pure (i := 28) (v := ?_) rfl (by kernel_rfl) (by kernel_rfl) (by kernel_rfl) (fun _ _ _ h => h) (by rfl) ?_ ?_
    rotate_left
    · intro w; go_simp; try with_reducible rfl
    simp only [Act.put, rgA, rgB, rgC, rgD, rgE, rgF]
    refine wpAnyT_pure (i := 29) (v := ?_) rfl (by kernel_rfl) (by kernel_rfl) (by kernel_rfl) (fun _ _ _ h => h) (by rfl) ?_ ?_
    rotate_left
    · intro w; go_simp; try with_reducible rfl
    simp only [Act.put, rgA, rgB, rgC, rgD, rgE, rgF]
    refine wpAnyT_done (by kernel_rfl) ?_ _
    have HBP := Lib.hid (below_step HBr.out (hB_0_s22.trans ((hB_s22_w130).mono (hB_0_s22).size)))
    obtain ⟨w9, rfl⟩ : ∃ x, x = w130 := ⟨_, rfl⟩
    go_wp2_with fail
    go_ret
    exact ⟨rfl, HBP.out⟩
end Go.Proofs.YtdcjocldggmdbaaGreat
