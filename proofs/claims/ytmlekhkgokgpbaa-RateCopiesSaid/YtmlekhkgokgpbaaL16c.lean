/- Layer 16: the law RateOf. -/
import Derived.Test.YtmlekhkgokgpbaaC16y
import Derived.Test.YtmlekhkgokgpbaaL16a
import Derived.Test.YtmlekhkgokgpbaaRegV
import Derived.Test.YtmlekhkgokgpbaaP16c
import Derived.SizedLaws
set_option linter.unusedSimpArgs false
namespace Go.Proofs.Ytmlekhkgokgpbaa
open Go.RowKit Go
theorem keys_ok {S : Nat → Prop} {w : World} {a : Option Addr} {len cap : Nat} {xs : List rateT.den} (h : Rd (.sl rateT) S w [.slice a len cap] xs) : ∀ x ∈ xs, (keyR x).ok := fun x hx => by
  obtain ⟨i, hi, rfl⟩ := List.getElem_of_mem hx
  exact (rate_ok h i hi).1
set_option maxRecDepth 20000 in
set_option maxHeartbeats 500000 in
theorem ofWalk16 (w : World) (c0 : List Value) (g : Ty.den .str) (r0 : Rd .str (fun b => b < w.heap.size) w c0 g) (c1 : List Value) (xs : (Ty.sl rateT).den) (r1 : Rd (.sl rateT) (fun b => b < w.heap.size) w c1 xs) (s1 : List.length xs * Try.prog.bytesOf 35 ≤ reachBytes) (c2 : List Value) (key : rateT.den) (r2 : Rd rateT (fun b => b < w.heap.size) w c2 key) :
    Calls Try.prog 8 #[valOf .str c0, valOf (.sl rateT) c1, valOf rateT c2] w fun e w' => e = .returned (.bool true) ∧ Below w.heap.size w w' := by
  obtain ⟨rfl, hg⟩ := r0
  obtain ⟨a, len, cap, rfl, hl, hlc, hcm, -⟩ := id r1
  change List rateT.den at xs
  change ByteArray at g
  simp only [valOf, List.headD_cons]
  have R1 := Lib.hid r1
  have HL := Lib.hid (show xs.length = len from hl)
  have HGS := Lib.hid hg
  clear r1 hl hg
  obtain ⟨kc, kk, kw, kv, ⟨⟩⟩ := key
  obtain ⟨kc1, kr1, rfl, ⟨rfl, hk1⟩, kc2, kr2, rfl, ⟨rfl, hk2⟩, kc3, kr3, rfl, ⟨rfl, hk3⟩, kc4, kr4, rfl, ⟨rfl, hk4⟩, rfl⟩ := r2
  have HKOK := Lib.hid (show (⟨kc, kk, kw⟩ : K3).ok from ⟨hk1, hk2, hk3⟩)
  have HKV := Lib.hid hk4
  clear hk1 hk2 hk3 hk4
  have HLM := Lib.hid (show (len + 2) * 40 ≤ 140737488355328 by have := HL.out; rw [show Try.prog.bytesOf 35 = 40 by kernel_rfl] at s1; unfold reachBytes at s1; omega)
  clear s1
  go_enter Try.func8, Try.ntmps8
  go_wp2_with (go_at_call 11; refine (awake16_sum _).mono ?_; rintro e w1 ⟨rfl, hB1⟩)
  have hn1 := (hB1.block _ (by simp)).trans (heap_alloc_new w (.cells #[.string kc, .int .i64 kk, .int .i64 kw, .int .i64 kv] 35))
  replace hB1 : Below w.heap.size w w1 := below_step ((Below.refl _ w).alloc (Nat.le_refl _) _) hB1
  have hC1 : Cells [(⟨w.heap.size, 0, none⟩, .string kc), (⟨w.heap.size, 1, none⟩, .int .i64 kk), (⟨w.heap.size, 2, none⟩, .int .i64 kw), (⟨w.heap.size, 3, none⟩, .int .i64 kv)] w1 := ⟨blk_cell hn1 0, blk_cell hn1 1, blk_cell hn1 2, blk_cell hn1 3, trivial⟩
  refine wp_cut [15, 16, 17, 18, 19, 20, 21, 22, 23] (fun vs w' => (∃ v14 v16 v18 v19, vs = [.string g, v14, .slice a len cap, v16, .agg #[.string kc, .int .i64 kk, .int .i64 kw, .int .i64 kv], v18, v19, .bool (fewR g (xs ++ [(kc, kk, kw, kv, ())])), .bool (!fewR g (xs ++ [(kc, kk, kw, kv, ())]))]) ∧ Below w1.heap.size w1 w') ?_ ?_
  · skip
    refine wp_region_T (Cells [(⟨w.heap.size, 0, none⟩, .string kc), (⟨w.heap.size, 1, none⟩, .int .i64 kk), (⟨w.heap.size, 2, none⟩, .int .i64 kw), (⟨w.heap.size, 3, none⟩, .int .i64 kv)]) (fun _ => false) (by kernel_rfl) ?_
    have hSss1 := Cells.drew hC1
    have hB_0_s1 : Below w1.heap.size w1 w1.drew := below_drew _
    generalize w1.drew = s1 at hSss1 hB_0_s1 ⊢
    have hB_s1_s1 := Below.refl s1.heap.size s1
    refine wpAnyT_pure (i := 0) (v := ?_) rfl (by kernel_rfl) (by kernel_rfl) (by kernel_rfl) (fun _ _ _ h => h) (by rfl) ?_ ?_
    rotate_left
    · intro w; go_simp; try with_reducible rfl
    simp only [Act.put, List.setIfInBounds_toArray, List.set_cons_zero, List.set_cons_succ, List.getElem_toArray, List.getElem_cons_succ, List.getElem_cons_zero]
    refine wpAnyT_pure (i := 2) (v := ?_) rfl (by kernel_rfl) (by kernel_rfl) (by kernel_rfl) (fun _ _ _ h => h) (by rfl) ?_ ?_
    rotate_left
    · intro w; go_simp; try with_reducible rfl
    simp only [Act.put, List.setIfInBounds_toArray, List.set_cons_zero, List.set_cons_succ, List.getElem_toArray, List.getElem_cons_succ, List.getElem_cons_zero]
    refine wpAnyT_loadW (i := 4) (v := ?_) rfl (by kernel_rfl) (by kernel_rfl) (by kernel_rfl) (by kernel_rfl) (by kernel_rfl) (fun _ _ _ h => h) (Or.inl ⟨by rfl, ?_⟩) hSss1 ?_
    rotate_left
    · intro w hSw; obtain ⟨e0, e1, e2, e3, -⟩ := hSw; go_simp; try with_reducible rfl
    simp only [Act.put, List.setIfInBounds_toArray, List.set_cons_zero, List.set_cons_succ, List.getElem_toArray, List.getElem_cons_succ, List.getElem_cons_zero]
    refine wpAnyT_two (i := 1) (k := 5) (by kernel_rfl) rfl rfl (by rfl) (by rfl) ?_ ?_
    · skip
      obtain ⟨b1, hb1⟩ : ∃ b, s1.heap.size = b := ⟨_, rfl⟩
      have hge1 : s1.heap.size ≤ b1 := hb1 ▸ (hB_s1_s1).size
      refine wp_newrow (v := .slice (some ⟨b1, 0, none⟩) 0 0) (cs := #[]) (te := 35) (by rw [← hb1]; go_simp) ?_
      intro w102 hX hN1
      rw [hb1] at hN1
      have hB_s1_w102 := below_step hB_s1_s1 hX
      have hB_w102_w102 := Below.refl w102.heap.size w102
      have hSsw102 := Cells.below hB_s1_w102 hSss1
      clear hX
      refine ⟨fun _ _ => hSsw102, ?_⟩
      try simp only [Act.put, List.setIfInBounds_toArray, List.set_cons_zero, List.set_cons_succ, List.getElem_toArray, List.getElem_cons_succ, List.getElem_cons_zero]
      refine wpAnyT_two (i := 3) (k := 5) (by kernel_rfl) rfl rfl (by rfl) (by rfl) ?_ ?_
      · skip
        have hq1 := ((hB_w102_w102).block _ (blk_lt hN1)).trans hN1
        have hb0 : Below w.heap.size w w102 := below_step hB1 (hB_0_s1.trans ((hB_s1_w102).mono hB_0_s1.size))
        refine wp_appLit (.tmp 16) (.tmp 17) 22 rfl (e := rateT) (te := 35) info_rate Try.underlying22 rfl (by decide) (S := fun b => b < w.heap.size) (base := s1.heap.size) (b := b1) (by kernel_rfl) hq1 hge1 (sv := .slice a len cap) (by kernel_rfl) (ys := xs) (R1.out.below hb0 (fun _ h => h)) (fun x hx => ⟨by have := hb0.size; have h1 := hB1.size; have h2 := (hB_0_s1).size; omega, Nat.lt_of_lt_of_le hx hb0.size⟩) (by have := HL.out; have := HLM.out; omega) (by have := HL.out; have := HLM.out; omega) ?_
        intro ca3 cl3 cc3 w103 O3 hX
        have HO3 := Lib.hid (Owns.flat (e := rateT) rfl O3)
        clear O3 hb0
        have hB_s1_w103 := below_step hB_s1_w102 hX
        have hB_w102_w103 := below_step hB_w102_w102 hX
        have hB_w103_w103 := Below.refl w103.heap.size w103
        have hSsw103 := Cells.below hB_s1_w103 hSss1
        clear hX
        refine ⟨fun _ _ => hSsw103, ?_⟩
        try simp only [Act.put, List.setIfInBounds_toArray, List.set_cons_zero, List.set_cons_succ, List.getElem_toArray, List.getElem_cons_succ, List.getElem_cons_zero]
        refine wpAnyT_one (i := 5) (by kernel_rfl) rfl (by rfl) ?_
        obtain ⟨b5, hb5⟩ : ∃ b, w103.heap.size = b := ⟨_, rfl⟩
        refine wp_newrow (v := .slice (some ⟨b5, 0, none⟩) 1 1) (cs := #[.string kc, .int .i64 kk, .int .i64 kw, .int .i64 kv]) (te := 35) (by rw [← hb5]; go_simp) ?_
        intro w104 hX hN5
        rw [hb5] at hN5
        have hB_s1_w104 := below_step hB_s1_w103 hX
        have hB_w102_w104 := below_step hB_w102_w103 hX
        have hB_w103_w104 := below_step hB_w103_w103 hX
        have hB_w104_w104 := Below.refl w104.heap.size w104
        have hSsw104 := Cells.below hB_s1_w104 hSss1
        clear hX
        refine ⟨fun _ _ => hSsw104, ?_⟩
        try simp only [Act.put, List.setIfInBounds_toArray, List.set_cons_zero, List.set_cons_succ, List.getElem_toArray, List.getElem_cons_succ, List.getElem_cons_zero]
        refine wpAnyT_one (i := 6) (by kernel_rfl) rfl (by rfl) ?_
        have hq5 := ((hB_w104_w104).block _ (blk_lt hN5)).trans hN5
        refine wp_app (.tmp 18) (.tmp 20) 22 rfl (e := rateT) (te := 35) info_rate Try.underlying22 rfl (by decide) (base := s1.heap.size) (S := fun _ => False) (v := .slice ca3 cl3 cc3) (xs := xs) (by kernel_rfl) (HO3.out.below hB_w103_w104) (hB_s1_w104).size (sv := .slice (some ⟨b5, 0, none⟩) 1 1) (by kernel_rfl) (ys := [(kc, kk, kw, kv, ())]) (Src.of_cells (news := [.string kc, .int .i64 kk, .int .i64 kw, .int .i64 kv]) (fun j u hu => by rw [Nat.zero_add, blk_cell hq5]; simpa using hu)) (RdL.one (e := rateT) (rate_rd HKOK.out HKV.out)) (by have := HL.out; have := HLM.out; simp only [List.length_cons, List.length_nil]; omega) (by have := HL.out; have := HLM.out; simp only [List.length_cons, List.length_nil]; omega) ?_
        intro ca6 cl6 cc6 w105 O6 g6 ob6
        have hX : Below s1.heap.size s1 w105 := (hB_s1_w104).grown g6 (hB_s1_w104).size (fun c hc => (HO3.out.own c hc).1)
        have HO6 := Lib.hid O6
        clear O6 g6 ob6
        have hB_s1_w105 := hX
        have hB_w105_w105 := Below.refl w105.heap.size w105
        have hSsw105 := Cells.below hB_s1_w105 hSss1
        clear hX
        refine ⟨fun _ _ => hSsw105, ?_⟩
        try simp only [Act.put, List.setIfInBounds_toArray, List.set_cons_zero, List.set_cons_succ, List.getElem_toArray, List.getElem_cons_succ, List.getElem_cons_zero]
        refine wpAnyT_one (i := 7) (by kernel_rfl) rfl (by rfl) ?_
        refine wp_enter (f := 12) (args := #[.string g, .slice ca6 cl6 cc6]) (by go_simp) (few16_sum _ g ca6 cl6 cc6 _ (rdOwn HO6.out)) ?_
        rintro e w7 ⟨rfl, hw7⟩
        subst hw7
        refine ⟨_, rfl, fun _ h => h, ?_⟩
        try simp only [Act.put, List.setIfInBounds_toArray, List.set_cons_zero, List.set_cons_succ, List.getElem_toArray, List.getElem_cons_succ, List.getElem_cons_zero]
        refine wpAnyT_pure (i := 8) (v := ?_) rfl (by kernel_rfl) (by kernel_rfl) (by kernel_rfl) (fun _ _ _ h => h) (by rfl) ?_ ?_
        rotate_left
        · intro w; go_simp; try with_reducible rfl
        simp only [Act.put, List.setIfInBounds_toArray, List.set_cons_zero, List.set_cons_succ, List.getElem_toArray, List.getElem_cons_succ, List.getElem_cons_zero]
        refine wpAnyT_done (by kernel_rfl) ?_ _
        refine cut_leaf ?_ ?_
        focus kernel_rfl
        exact ⟨⟨_, _, _, _, rfl⟩, hB_0_s1.trans ((hB_s1_w105).mono hB_0_s1.size)⟩
      · skip
        obtain ⟨b5, hb5⟩ : ∃ b, w102.heap.size = b := ⟨_, rfl⟩
        refine wp_newrow (v := .slice (some ⟨b5, 0, none⟩) 1 1) (cs := #[.string kc, .int .i64 kk, .int .i64 kw, .int .i64 kv]) (te := 35) (by rw [← hb5]; go_simp) ?_
        intro w106 hX hN5
        rw [hb5] at hN5
        have hB_s1_w106 := below_step hB_s1_w102 hX
        have hB_w102_w106 := below_step hB_w102_w102 hX
        have hB_w106_w106 := Below.refl w106.heap.size w106
        have hSsw106 := Cells.below hB_s1_w106 hSss1
        clear hX
        refine ⟨fun _ _ => hSsw106, ?_⟩
        try simp only [Act.put, List.setIfInBounds_toArray, List.set_cons_zero, List.set_cons_succ, List.getElem_toArray, List.getElem_cons_succ, List.getElem_cons_zero]
        refine wpAnyT_one (i := 3) (by kernel_rfl) rfl (by rfl) ?_
        have hq1 := ((hB_w102_w106).block _ (blk_lt hN1)).trans hN1
        have hb0 : Below w.heap.size w w106 := below_step hB1 (hB_0_s1.trans ((hB_s1_w106).mono hB_0_s1.size))
        refine wp_appLit (.tmp 16) (.tmp 17) 22 rfl (e := rateT) (te := 35) info_rate Try.underlying22 rfl (by decide) (S := fun b => b < w.heap.size) (base := s1.heap.size) (b := b1) (by kernel_rfl) hq1 hge1 (sv := .slice a len cap) (by kernel_rfl) (ys := xs) (R1.out.below hb0 (fun _ h => h)) (fun x hx => ⟨by have := hb0.size; have h1 := hB1.size; have h2 := (hB_0_s1).size; omega, Nat.lt_of_lt_of_le hx hb0.size⟩) (by have := HL.out; have := HLM.out; omega) (by have := HL.out; have := HLM.out; omega) ?_
        intro ca3 cl3 cc3 w107 O3 hX
        have HO3 := Lib.hid (Owns.flat (e := rateT) rfl O3)
        clear O3 hb0
        have hB_s1_w107 := below_step hB_s1_w106 hX
        have hB_w102_w107 := below_step hB_w102_w106 hX
        have hB_w106_w107 := below_step hB_w106_w106 hX
        have hB_w107_w107 := Below.refl w107.heap.size w107
        have hSsw107 := Cells.below hB_s1_w107 hSss1
        clear hX
        refine ⟨fun _ _ => hSsw107, ?_⟩
        try simp only [Act.put, List.setIfInBounds_toArray, List.set_cons_zero, List.set_cons_succ, List.getElem_toArray, List.getElem_cons_succ, List.getElem_cons_zero]
        refine wpAnyT_one (i := 6) (by kernel_rfl) rfl (by rfl) ?_
        have hq5 := ((hB_w106_w107).block _ (blk_lt hN5)).trans hN5
        refine wp_app (.tmp 18) (.tmp 20) 22 rfl (e := rateT) (te := 35) info_rate Try.underlying22 rfl (by decide) (base := s1.heap.size) (S := fun _ => False) (v := .slice ca3 cl3 cc3) (xs := xs) (by kernel_rfl) (HO3.out.below hB_w107_w107) (hB_s1_w107).size (sv := .slice (some ⟨b5, 0, none⟩) 1 1) (by kernel_rfl) (ys := [(kc, kk, kw, kv, ())]) (Src.of_cells (news := [.string kc, .int .i64 kk, .int .i64 kw, .int .i64 kv]) (fun j u hu => by rw [Nat.zero_add, blk_cell hq5]; simpa using hu)) (RdL.one (e := rateT) (rate_rd HKOK.out HKV.out)) (by have := HL.out; have := HLM.out; simp only [List.length_cons, List.length_nil]; omega) (by have := HL.out; have := HLM.out; simp only [List.length_cons, List.length_nil]; omega) ?_
        intro ca6 cl6 cc6 w108 O6 g6 ob6
        have hX : Below s1.heap.size s1 w108 := (hB_s1_w107).grown g6 (hB_s1_w107).size (fun c hc => (HO3.out.own c hc).1)
        have HO6 := Lib.hid O6
        clear O6 g6 ob6
        have hB_s1_w108 := hX
        have hB_w108_w108 := Below.refl w108.heap.size w108
        have hSsw108 := Cells.below hB_s1_w108 hSss1
        clear hX
        refine ⟨fun _ _ => hSsw108, ?_⟩
        try simp only [Act.put, List.setIfInBounds_toArray, List.set_cons_zero, List.set_cons_succ, List.getElem_toArray, List.getElem_cons_succ, List.getElem_cons_zero]
        refine wpAnyT_one (i := 7) (by kernel_rfl) rfl (by rfl) ?_
        refine wp_enter (f := 12) (args := #[.string g, .slice ca6 cl6 cc6]) (by go_simp) (few16_sum _ g ca6 cl6 cc6 _ (rdOwn HO6.out)) ?_
        rintro e w7 ⟨rfl, hw7⟩
        subst hw7
        refine ⟨_, rfl, fun _ h => h, ?_⟩
        try simp only [Act.put, List.setIfInBounds_toArray, List.set_cons_zero, List.set_cons_succ, List.getElem_toArray, List.getElem_cons_succ, List.getElem_cons_zero]
        refine wpAnyT_pure (i := 8) (v := ?_) rfl (by kernel_rfl) (by kernel_rfl) (by kernel_rfl) (fun _ _ _ h => h) (by rfl) ?_ ?_
        rotate_left
        · intro w; go_simp; try with_reducible rfl
        simp only [Act.put, List.setIfInBounds_toArray, List.set_cons_zero, List.set_cons_succ, List.getElem_toArray, List.getElem_cons_succ, List.getElem_cons_zero]
        refine wpAnyT_done (by kernel_rfl) ?_ _
        refine cut_leaf ?_ ?_
        focus kernel_rfl
        exact ⟨⟨_, _, _, _, rfl⟩, hB_0_s1.trans ((hB_s1_w108).mono hB_0_s1.size)⟩
    · skip
      obtain ⟨b5, hb5⟩ : ∃ b, s1.heap.size = b := ⟨_, rfl⟩
      refine wp_newrow (v := .slice (some ⟨b5, 0, none⟩) 1 1) (cs := #[.string kc, .int .i64 kk, .int .i64 kw, .int .i64 kv]) (te := 35) (by rw [← hb5]; go_simp) ?_
      intro w109 hX hN5
      rw [hb5] at hN5
      have hB_s1_w109 := below_step hB_s1_s1 hX
      have hB_w109_w109 := Below.refl w109.heap.size w109
      have hSsw109 := Cells.below hB_s1_w109 hSss1
      clear hX
      refine ⟨fun _ _ => hSsw109, ?_⟩
      try simp only [Act.put, List.setIfInBounds_toArray, List.set_cons_zero, List.set_cons_succ, List.getElem_toArray, List.getElem_cons_succ, List.getElem_cons_zero]
      refine wpAnyT_one (i := 1) (by kernel_rfl) rfl (by rfl) ?_
      obtain ⟨b1, hb1⟩ : ∃ b, w109.heap.size = b := ⟨_, rfl⟩
      have hge1 : s1.heap.size ≤ b1 := hb1 ▸ (hB_s1_w109).size
      refine wp_newrow (v := .slice (some ⟨b1, 0, none⟩) 0 0) (cs := #[]) (te := 35) (by rw [← hb1]; go_simp) ?_
      intro w110 hX hN1
      rw [hb1] at hN1
      have hB_s1_w110 := below_step hB_s1_w109 hX
      have hB_w109_w110 := below_step hB_w109_w109 hX
      have hB_w110_w110 := Below.refl w110.heap.size w110
      have hSsw110 := Cells.below hB_s1_w110 hSss1
      clear hX
      refine ⟨fun _ _ => hSsw110, ?_⟩
      try simp only [Act.put, List.setIfInBounds_toArray, List.set_cons_zero, List.set_cons_succ, List.getElem_toArray, List.getElem_cons_succ, List.getElem_cons_zero]
      refine wpAnyT_one (i := 3) (by kernel_rfl) rfl (by rfl) ?_
      have hq1 := ((hB_w110_w110).block _ (blk_lt hN1)).trans hN1
      have hb0 : Below w.heap.size w w110 := below_step hB1 (hB_0_s1.trans ((hB_s1_w110).mono hB_0_s1.size))
      refine wp_appLit (.tmp 16) (.tmp 17) 22 rfl (e := rateT) (te := 35) info_rate Try.underlying22 rfl (by decide) (S := fun b => b < w.heap.size) (base := s1.heap.size) (b := b1) (by kernel_rfl) hq1 hge1 (sv := .slice a len cap) (by kernel_rfl) (ys := xs) (R1.out.below hb0 (fun _ h => h)) (fun x hx => ⟨by have := hb0.size; have h1 := hB1.size; have h2 := (hB_0_s1).size; omega, Nat.lt_of_lt_of_le hx hb0.size⟩) (by have := HL.out; have := HLM.out; omega) (by have := HL.out; have := HLM.out; omega) ?_
      intro ca3 cl3 cc3 w111 O3 hX
      have HO3 := Lib.hid (Owns.flat (e := rateT) rfl O3)
      clear O3 hb0
      have hB_s1_w111 := below_step hB_s1_w110 hX
      have hB_w109_w111 := below_step hB_w109_w110 hX
      have hB_w110_w111 := below_step hB_w110_w110 hX
      have hB_w111_w111 := Below.refl w111.heap.size w111
      have hSsw111 := Cells.below hB_s1_w111 hSss1
      clear hX
      refine ⟨fun _ _ => hSsw111, ?_⟩
      try simp only [Act.put, List.setIfInBounds_toArray, List.set_cons_zero, List.set_cons_succ, List.getElem_toArray, List.getElem_cons_succ, List.getElem_cons_zero]
      refine wpAnyT_one (i := 6) (by kernel_rfl) rfl (by rfl) ?_
      have hq5 := ((hB_w109_w111).block _ (blk_lt hN5)).trans hN5
      refine wp_app (.tmp 18) (.tmp 20) 22 rfl (e := rateT) (te := 35) info_rate Try.underlying22 rfl (by decide) (base := s1.heap.size) (S := fun _ => False) (v := .slice ca3 cl3 cc3) (xs := xs) (by kernel_rfl) (HO3.out.below hB_w111_w111) (hB_s1_w111).size (sv := .slice (some ⟨b5, 0, none⟩) 1 1) (by kernel_rfl) (ys := [(kc, kk, kw, kv, ())]) (Src.of_cells (news := [.string kc, .int .i64 kk, .int .i64 kw, .int .i64 kv]) (fun j u hu => by rw [Nat.zero_add, blk_cell hq5]; simpa using hu)) (RdL.one (e := rateT) (rate_rd HKOK.out HKV.out)) (by have := HL.out; have := HLM.out; simp only [List.length_cons, List.length_nil]; omega) (by have := HL.out; have := HLM.out; simp only [List.length_cons, List.length_nil]; omega) ?_
      intro ca6 cl6 cc6 w112 O6 g6 ob6
      have hX : Below s1.heap.size s1 w112 := (hB_s1_w111).grown g6 (hB_s1_w111).size (fun c hc => (HO3.out.own c hc).1)
      have HO6 := Lib.hid O6
      clear O6 g6 ob6
      have hB_s1_w112 := hX
      have hB_w112_w112 := Below.refl w112.heap.size w112
      have hSsw112 := Cells.below hB_s1_w112 hSss1
      clear hX
      refine ⟨fun _ _ => hSsw112, ?_⟩
      try simp only [Act.put, List.setIfInBounds_toArray, List.set_cons_zero, List.set_cons_succ, List.getElem_toArray, List.getElem_cons_succ, List.getElem_cons_zero]
      refine wpAnyT_one (i := 7) (by kernel_rfl) rfl (by rfl) ?_
      refine wp_enter (f := 12) (args := #[.string g, .slice ca6 cl6 cc6]) (by go_simp) (few16_sum _ g ca6 cl6 cc6 _ (rdOwn HO6.out)) ?_
      rintro e w7 ⟨rfl, hw7⟩
      subst hw7
      refine ⟨_, rfl, fun _ h => h, ?_⟩
      try simp only [Act.put, List.setIfInBounds_toArray, List.set_cons_zero, List.set_cons_succ, List.getElem_toArray, List.getElem_cons_succ, List.getElem_cons_zero]
      refine wpAnyT_pure (i := 8) (v := ?_) rfl (by kernel_rfl) (by kernel_rfl) (by kernel_rfl) (fun _ _ _ h => h) (by rfl) ?_ ?_
      rotate_left
      · intro w; go_simp; try with_reducible rfl
      simp only [Act.put, List.setIfInBounds_toArray, List.set_cons_zero, List.set_cons_succ, List.getElem_toArray, List.getElem_cons_succ, List.getElem_cons_zero]
      refine wpAnyT_done (by kernel_rfl) ?_ _
      refine cut_leaf ?_ ?_
      focus kernel_rfl
      exact ⟨⟨_, _, _, _, rfl⟩, hB_0_s1.trans ((hB_s1_w112).mono hB_0_s1.size)⟩
  rintro vs w2 ⟨⟨v14, v16, v18, v19, rfl⟩, hB12⟩
  have hC2 := Cells.below hB12 hC1
  have hB2 := below_step hB1 hB12
  simp only [puts, Act.put, List.setIfInBounds_toArray, List.set_cons_zero, List.set_cons_succ]
  obtain ⟨fb, hfb⟩ : ∃ fb, fewR g (xs ++ [(kc, kk, kw, kv, ())]) = fb := ⟨_, rfl⟩
  rw [hfb]
  have HFB := Lib.hid hfb
  clear hfb
  cases fb
  · go_wp2
    go_ret
    exact ⟨rfl, hB2⟩
  obtain ⟨hg20, hl200, -⟩ := few_len HFB.out
  rw [List.length_append] at hl200
  have hlen200 : len ≤ 200 := by have := HL.out; simp only [List.length_cons, List.length_nil] at hl200; omega
  clear hl200
  have HRF := Lib.hid (fun W (hB : Below w.heap.size w W) => refFind_sum W a len cap xs kc kk kw (R1.out.alloc hB) (fun _ h => h))
  obtain ⟨k0, k1, k2, k3, -⟩ := hC2
  obtain ⟨vb, hvb⟩ : ∃ vb, validB g xs = vb := ⟨_, rfl⟩
  have hrv := fun W (hB : Below w.heap.size w W) => refValid_sum W g a len cap xs (R1.out.alloc hB) (fun _ h => h) HGS.out
  rw [hvb] at hrv
  have HRV := Lib.hid hrv
  have HVB := Lib.hid hvb
  clear hvb hrv
  cases vb
  · have HO := Lib.hid (fun W (hB : Below w.heap.size w W) => Of_bad W g a len cap xs (R1.out.alloc hB) (fun _ h => h) HGS.out (by omega) HVB.out)
    go_wp2_with (first
      | (go_at_call 31; refine (HO.out _ hB2).mono ?_; rintro e w3 ⟨rfl, hB23⟩; have hB3 := below_step hB2 hB23)
      | (go_at_call 30; refine (HRV.out _ hB3).mono ?_; rintro e w4 ⟨rfl, hB34⟩; have hB4 := below_step hB3 hB34))
    go_ret
    exact ⟨rfl, hB4⟩
  have HO := Lib.hid (fun W (hB : Below w.heap.size w W) => Of_ok W g a len cap xs (R1.out.alloc hB) (fun _ h => h) HGS.out HVB.out)
  have HSV := Lib.hid (setAll_valid0 HVB.out)
  obtain ⟨t, ht⟩ : ∃ t, tb0.setAll g xs = t := ⟨_, rfl⟩
  have HTT := Lib.hid ht
  obtain ⟨zs, hzs⟩ := TbOk.setAll (xs := xs) g TbOk.zero (keys_ok R1.out)
  rw [ht] at hzs
  have hths : t.hs = xs := by rw [← ht, HSV.out, putAll_hs]; rfl
  have htm : t.m = xs.length := by
    rw [← ht, HSV.out, putAll_m xs tb0 ((validB_iff g xs).1 HVB.out).2.1 (fun _ _ => rfl)]
    show 0 + _ = _
    omega
  have hget : ((t.f ⟨kc, kk, kw⟩).getD 0, (t.f ⟨kc, kk, kw⟩).isSome) = findV xs ⟨kc, kk, kw, 0⟩ := by
    rw [← ht, HSV.out]
    exact putAll_find ((validB_iff g xs).1 HVB.out).2.1 ⟨kc, kk, kw, 0⟩
  have hG := fun F W p (h : TabT F W p g t) => Get_sum F W p g _ _ _ h ⟨kc, kk, kw⟩ HKOK.out
  have hg1 : (t.f ⟨kc, kk, kw⟩).getD 0 = (findV xs ⟨kc, kk, kw, 0⟩).1 := congrArg Prod.fst hget
  have hg2 : (t.f ⟨kc, kk, kw⟩).isSome = (findV xs ⟨kc, kk, kw, 0⟩).2 := congrArg Prod.snd hget
  rw [hg1, hg2] at hG
  have HG := Lib.hid hG
  have HL16 := Lib.hid (fun F W p (h : TabT F W p g t) => List_tb F W p g t zs hzs h (by have := HL.out; omega))
  have HH16 := Lib.hid (fun F W p (h : TabT F W p g t) => History_sum F W p g t h (by rw [hths]; have := HL.out; omega))
  have HHS := Lib.hid hths
  have HZL := Lib.hid (show (rowsOf t.f zs).length = len by rw [rowsOf, List.length_map, ← hzs.2, htm, HL.out])
  have HSL := Lib.hid (show sameL xs xs = true from decide_eq_true rfl)
  generalize findV xs ⟨kc, kk, kw, 0⟩ = fv at *
  clear ht hzs hths htm hget hG hg1 hg2
  go_wp2_with (first
    | (go_at_call 31; refine (HO.out _ hB2).mono ?_; rintro e w3 ⟨p, F, rfl, hT3, hF3, hB23⟩; rw [HTT.out] at hT3; have HT3 := Lib.hid hT3; have hB3 := below_step hB2 hB23; replace k0 := cell_below k0 hB23; replace k1 := cell_below k1 hB23; replace k2 := cell_below k2 hB23; replace k3 := cell_below k3 hB23; clear hT3 hF3)
    | (go_at_call 30; refine (HRV.out _ hB3).mono ?_; rintro e w4 ⟨rfl, hB34⟩; have HT4 := Lib.hid (TabIn.below HT3.out hB34); have hB4 := below_step hB3 hB34; replace k0 := cell_below k0 hB34; replace k1 := cell_below k1 hB34; replace k2 := cell_below k2 hB34; replace k3 := cell_below k3 hB34)
    | (go_at_call 23; refine (HH16.out _ _ _ HT4.out).mono ?_; rintro e w5 ⟨v5, rfl, hB45, hO5⟩; rw [HHS.out] at hO5; obtain ⟨a5, l5, c5, rfl, -⟩ := hO5.slice; have HO5 := Lib.hid hO5; have HT5 := Lib.hid (TabIn.below HT4.out hB45); have hB5 := below_step hB4 hB45; replace k0 := cell_below k0 hB45; replace k1 := cell_below k1 hB45; replace k2 := cell_below k2 hB45; replace k3 := cell_below k3 hB45; clear hO5)
    | (go_at_call 21; refine (Same16_sum _ a5 a l5 c5 len cap xs xs (rdOwn HO5.out) (R1.out.alloc hB5) (fun _ h => h) (fun _ h => h)).mono ?_; rw [HSL.out]; rintro e w6 ⟨rfl, hB56⟩; have HT6 := Lib.hid (TabIn.below HT5.out hB56); have hB6 := below_step hB5 hB56; replace k0 := cell_below k0 hB56; replace k1 := cell_below k1 hB56; replace k2 := cell_below k2 hB56; replace k3 := cell_below k3 hB56)
    | (go_at_call 19; refine (HG.out _ _ _ HT6.out).mono ?_; rintro e w7 ⟨rfl, hw7⟩; subst hw7)
    | (go_at_call 27; refine (HRF.out _ hB6).mono ?_; rintro e w8 ⟨rfl, hB68⟩; have HT8 := Lib.hid (TabIn.below HT6.out hB68); have hB8 := below_step hB6 hB68)
    | (go_at_call 22; refine (HL16.out _ _ _ HT8.out).mono ?_; rintro e w9 ⟨v9, rfl, hO9, hB89⟩; obtain ⟨a9, l9, c9, rfl, hl9, -, -⟩ := hO9.slice; rw [HZL.out] at hl9; subst hl9; have hB9 := below_step hB8 hB89; clear hO9))
  go_ret
  exact ⟨rfl, hB9⟩
end Go.Proofs.Ytmlekhkgokgpbaa
