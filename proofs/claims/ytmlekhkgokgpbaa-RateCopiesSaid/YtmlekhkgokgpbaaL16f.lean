/- Layer 16: the law RateOrder. -/
import Derived.Test.YtmlekhkgokgpbaaC16y
import Derived.Test.YtmlekhkgokgpbaaL16c
import Derived.Test.YtmlekhkgokgpbaaP16d
import Derived.SizedLaws
set_option linter.unusedSimpArgs false
namespace Go.Proofs.Ytmlekhkgokgpbaa
open Go.RowKit Go
abbrev twoT : Ty := .pr rateT (.pr rateT .un)
theorem two_rdl {S : Nat → Prop} {w : World} {kc jc : ByteArray} {kk kw kv jk jw jv : Int} (h1 : (⟨kc, kk, kw⟩ : K3).ok) (h2 : (Lit.int .i64 kv).wf = true) (h3 : (⟨jc, jk, jw⟩ : K3).ok) (h4 : (Lit.int .i64 jv).wf = true) :
    RdL rateT S w [.string kc, .int .i64 kk, .int .i64 kw, .int .i64 kv, .string jc, .int .i64 jk, .int .i64 jw, .int .i64 jv] [(kc, kk, kw, kv, ()), (jc, jk, jw, jv, ())] :=
  ⟨[.string kc, .int .i64 kk, .int .i64 kw, .int .i64 kv], [.string jc, .int .i64 jk, .int .i64 jw, .int .i64 jv], rfl, rate_rd h1 h2, RdL.one (e := rateT) (rate_rd h3 h4)⟩
set_option maxRecDepth 20000 in
set_option maxHeartbeats 1000000 in
theorem orderWalk16 (w : World) (c0 : List Value) (g : Ty.den .str) (r0 : Rd .str (fun b => b < w.heap.size) w c0 g) (c1 : List Value) (xs : (Ty.sl rateT).den) (r1 : Rd (.sl rateT) (fun b => b < w.heap.size) w c1 xs) (s1 : List.length xs * Try.prog.bytesOf 35 ≤ reachBytes) (c2 : List Value) (two : twoT.den) (r2 : Rd twoT (fun b => b < w.heap.size) w c2 two) :
    Calls Try.prog 5 #[valOf .str c0, valOf (.sl rateT) c1, valOf twoT c2] w fun e w' => e = .returned (.bool true) ∧ Below w.heap.size w w' := by
  obtain ⟨rfl, hg⟩ := r0
  obtain ⟨a, len, cap, rfl, hl, hlc, hcm, -⟩ := id r1
  change List rateT.den at xs
  change ByteArray at g
  simp only [valOf, List.headD_cons]
  have R1 := Lib.hid r1
  have HL := Lib.hid (show xs.length = len from hl)
  have HGS := Lib.hid hg
  clear r1 hl hg
  obtain ⟨⟨kc, kk, kw, kv, ⟨⟩⟩, ⟨jc, jk, jw, jv, ⟨⟩⟩, ⟨⟩⟩ := two
  obtain ⟨ta, tb, rfl, ⟨kc1, kr1, rfl, ⟨rfl, hk1⟩, kc2, kr2, rfl, ⟨rfl, hk2⟩, kc3, kr3, rfl, ⟨rfl, hk3⟩, kc4, kr4, rfl, ⟨rfl, hk4⟩, rfl⟩, tc, td, rfl, ⟨jc1, jr1, rfl, ⟨rfl, hj1⟩, jc2, jr2, rfl, ⟨rfl, hj2⟩, jc3, jr3, rfl, ⟨rfl, hj3⟩, jc4, jr4, rfl, ⟨rfl, hj4⟩, rfl⟩, rfl⟩ := r2
  have HKOK := Lib.hid (show (⟨kc, kk, kw⟩ : K3).ok from ⟨hk1, hk2, hk3⟩)
  have HKV := Lib.hid hk4
  have HJOK := Lib.hid (show (⟨jc, jk, jw⟩ : K3).ok from ⟨hj1, hj2, hj3⟩)
  have HJV := Lib.hid hj4
  clear hk1 hk2 hk3 hk4 hj1 hj2 hj3 hj4
  simp only [List.append_nil, List.cons_append, List.nil_append]
  have HLM := Lib.hid (show (len + 2) * 40 ≤ 140737488355328 by have := HL.out; rw [show Try.prog.bytesOf 35 = 40 by kernel_rfl] at s1; unfold reachBytes at s1; omega)
  clear s1
  obtain ⟨fb, hfb⟩ : ∃ fb, fewR g (xs ++ [(kc, kk, kw, kv, ()), (jc, jk, jw, jv, ())]) = fb := ⟨_, rfl⟩
  have HFB := Lib.hid hfb
  have hsk := fun W => sameKey_sum W ⟨kc, kk, kw, kv⟩ ⟨jc, jk, jw, jv⟩
  obtain ⟨ss, hss⟩ : ∃ ss, sameK ⟨kc, kk, kw, kv⟩ ⟨jc, jk, jw, jv⟩ = ss := ⟨_, rfl⟩
  rw [hss] at hsk
  unfold Rt.v rateV at hsk
  have HSK := Lib.hid hsk
  have HSS := Lib.hid hss
  clear hfb hsk hss
  go_enter Try.func5, Try.ntmps5
  go_wp2_with (go_at_call 11; refine (awake16_sum _).mono ?_; rintro e w1 ⟨rfl, hB1⟩)
  have hn1 := (hB1.block _ (by simp)).trans (heap_alloc_new w (.cells #[.string kc, .int .i64 kk, .int .i64 kw, .int .i64 kv, .string jc, .int .i64 jk, .int .i64 jw, .int .i64 jv] 38))
  replace hB1 : Below w.heap.size w w1 := below_step ((Below.refl _ w).alloc (Nat.le_refl _) _) hB1
  have hC1 : Cells [(⟨w.heap.size, 0, none⟩, .string kc), (⟨w.heap.size, 1, none⟩, .int .i64 kk), (⟨w.heap.size, 2, none⟩, .int .i64 kw), (⟨w.heap.size, 3, none⟩, .int .i64 kv), (⟨w.heap.size, 4, none⟩, .string jc), (⟨w.heap.size, 5, none⟩, .int .i64 jk), (⟨w.heap.size, 6, none⟩, .int .i64 jw), (⟨w.heap.size, 7, none⟩, .int .i64 jv)] w1 := ⟨blk_cell hn1 0, blk_cell hn1 1, blk_cell hn1 2, blk_cell hn1 3, blk_cell hn1 4, blk_cell hn1 5, blk_cell hn1 6, blk_cell hn1 7, trivial⟩
  cases fb
  · skip
    refine wp_region_T (Cells [(⟨w.heap.size, 0, none⟩, .string kc), (⟨w.heap.size, 1, none⟩, .int .i64 kk), (⟨w.heap.size, 2, none⟩, .int .i64 kw), (⟨w.heap.size, 3, none⟩, .int .i64 kv), (⟨w.heap.size, 4, none⟩, .string jc), (⟨w.heap.size, 5, none⟩, .int .i64 jk), (⟨w.heap.size, 6, none⟩, .int .i64 jw), (⟨w.heap.size, 7, none⟩, .int .i64 jv)]) (fun _ => false) (by kernel_rfl) ?_
    have hSss1 := Cells.drew hC1
    have hB_0_s1 : Below w1.heap.size w1 w1.drew := below_drew _
    generalize w1.drew = s1 at hSss1 hB_0_s1 ⊢
    have hB_s1_s1 := Below.refl s1.heap.size s1
    refine wpAnyT_pure (i := 0) (v := ?_) rfl (by kernel_rfl) (by kernel_rfl) (by kernel_rfl) (fun _ _ _ h => h) (by rfl) ?_ ?_
    rotate_left
    · intro w; go_simp; try with_reducible rfl
    simp only [Act.put, List.setIfInBounds_toArray, List.set_cons_zero, List.set_cons_succ, List.getElem_toArray, List.getElem_cons_succ, List.getElem_cons_zero]
    refine wpAnyT_pure (i := 2) (v := ?_) rfl (by kernel_rfl) (by kernel_rfl) (by kernel_rfl) (fun _ _ _ h => h) (by rfl) ?_ ?_
    rotate_left
    · intro w; go_simp; try with_reducible rfl
    simp only [Act.put, List.setIfInBounds_toArray, List.set_cons_zero, List.set_cons_succ, List.getElem_toArray, List.getElem_cons_succ, List.getElem_cons_zero]
    refine wpAnyT_pure (i := 4) (v := ?_) rfl (by kernel_rfl) (by kernel_rfl) (by kernel_rfl) (fun _ _ _ h => h) (by rfl) ?_ ?_
    rotate_left
    · intro w; go_simp; try with_reducible rfl
    simp only [Act.put, List.setIfInBounds_toArray, List.set_cons_zero, List.set_cons_succ, List.getElem_toArray, List.getElem_cons_succ, List.getElem_cons_zero]
    refine wpAnyT_pure (i := 6) (v := ?_) rfl (by kernel_rfl) (by kernel_rfl) (by kernel_rfl) (fun _ _ _ h => h) (by rfl) ?_ ?_
    rotate_left
    · intro w; go_simp; try with_reducible rfl
    simp only [Act.put, List.setIfInBounds_toArray, List.set_cons_zero, List.set_cons_succ, List.getElem_toArray, List.getElem_cons_succ, List.getElem_cons_zero]
    refine wpAnyT_loadW (i := 5) (v := ?_) rfl (by kernel_rfl) (by kernel_rfl) (by kernel_rfl) (by kernel_rfl) (by kernel_rfl) (fun _ _ _ h => h) (Or.inl ⟨by rfl, ?_⟩) hSss1 ?_
    rotate_left
    · intro w hSw; obtain ⟨e0, e1, e2, e3, e4, e5, e6, e7, -⟩ := hSw; go_simp; try with_reducible rfl
    simp only [Act.put, List.setIfInBounds_toArray, List.set_cons_zero, List.set_cons_succ, List.getElem_toArray, List.getElem_cons_succ, List.getElem_cons_zero]
    refine wpAnyT_loadW (i := 7) (v := ?_) rfl (by kernel_rfl) (by kernel_rfl) (by kernel_rfl) (by kernel_rfl) (by kernel_rfl) (fun _ _ _ h => h) (Or.inl ⟨by rfl, ?_⟩) hSss1 ?_
    rotate_left
    · intro w hSw; obtain ⟨e0, e1, e2, e3, e4, e5, e6, e7, -⟩ := hSw; go_simp; try with_reducible rfl
    simp only [Act.put, List.setIfInBounds_toArray, List.set_cons_zero, List.set_cons_succ, List.getElem_toArray, List.getElem_cons_succ, List.getElem_cons_zero]
    refine wpAnyT_two (i := 1) (k := 8) (by kernel_rfl) rfl rfl (by rfl) (by rfl) ?_ ?_
    · skip
      obtain ⟨b1, hb1⟩ : ∃ b, s1.heap.size = b := ⟨_, rfl⟩
      have hge1 : s1.heap.size ≤ b1 := hb1 ▸ (hB_s1_s1).size
      refine wp_newrow (v := .slice (some ⟨b1, 0, none⟩) 0 0) (cs := #[]) (te := 35) (by rw [← hb1]; go_simp) ?_
      intro w102 hX hN1
      rw [hb1] at hN1
      have hB_s1_w102 := below_step hB_s1_s1 hX
      have hB_w102_w102 := Below.refl w102.heap.size w102
      have hSsw102 := Cells.below hB_s1_w102 hSss1
      clear hX
      refine ⟨fun _ _ => hSsw102, ?_⟩
      try simp only [Act.put, List.setIfInBounds_toArray, List.set_cons_zero, List.set_cons_succ, List.getElem_toArray, List.getElem_cons_succ, List.getElem_cons_zero]
      refine wpAnyT_two (i := 3) (k := 8) (by kernel_rfl) rfl rfl (by rfl) (by rfl) ?_ ?_
      · skip
        have hq1 := ((hB_w102_w102).block _ (blk_lt hN1)).trans hN1
        have hb0 : Below w.heap.size w w102 := below_step hB1 (hB_0_s1.trans ((hB_s1_w102).mono hB_0_s1.size))
        refine wp_appLit (.tmp 14) (.tmp 15) 22 rfl (e := rateT) (te := 35) info_rate Try.underlying22 rfl (by decide) (S := fun b => b < w.heap.size) (base := s1.heap.size) (b := b1) (by kernel_rfl) hq1 hge1 (sv := .slice a len cap) (by kernel_rfl) (ys := xs) (R1.out.below hb0 (fun _ h => h)) (fun x hx => ⟨by have := hb0.size; have h1 := hB1.size; have h2 := (hB_0_s1).size; omega, Nat.lt_of_lt_of_le hx hb0.size⟩) (by have := HL.out; have := HLM.out; omega) (by have := HL.out; have := HLM.out; omega) ?_
        intro ca3 cl3 cc3 w103 O3 hX
        have HO3 := Lib.hid (Owns.flat (e := rateT) rfl O3)
        clear O3 hb0
        have hB_s1_w103 := below_step hB_s1_w102 hX
        have hB_w102_w103 := below_step hB_w102_w102 hX
        have hB_w103_w103 := Below.refl w103.heap.size w103
        have hSsw103 := Cells.below hB_s1_w103 hSss1
        clear hX
        refine ⟨fun _ _ => hSsw103, ?_⟩
        try simp only [Act.put, List.setIfInBounds_toArray, List.set_cons_zero, List.set_cons_succ, List.getElem_toArray, List.getElem_cons_succ, List.getElem_cons_zero]
        refine wpAnyT_one (i := 8) (by kernel_rfl) rfl (by rfl) ?_
        obtain ⟨b8, hb8⟩ : ∃ b, w103.heap.size = b := ⟨_, rfl⟩
        refine wp_newrow (v := .slice (some ⟨b8, 0, none⟩) 2 2) (cs := #[.string kc, .int .i64 kk, .int .i64 kw, .int .i64 kv, .string jc, .int .i64 jk, .int .i64 jw, .int .i64 jv]) (te := 35) (by rw [← hb8]; go_simp) ?_
        intro w104 hX hN8
        rw [hb8] at hN8
        have hB_s1_w104 := below_step hB_s1_w103 hX
        have hB_w102_w104 := below_step hB_w102_w103 hX
        have hB_w103_w104 := below_step hB_w103_w103 hX
        have hB_w104_w104 := Below.refl w104.heap.size w104
        have hSsw104 := Cells.below hB_s1_w104 hSss1
        clear hX
        refine ⟨fun _ _ => hSsw104, ?_⟩
        try simp only [Act.put, List.setIfInBounds_toArray, List.set_cons_zero, List.set_cons_succ, List.getElem_toArray, List.getElem_cons_succ, List.getElem_cons_zero]
        refine wpAnyT_one (i := 9) (by kernel_rfl) rfl (by rfl) ?_
        have hq8 := ((hB_w104_w104).block _ (blk_lt hN8)).trans hN8
        refine wp_app (.tmp 16) (.tmp 21) 22 rfl (e := rateT) (te := 35) info_rate Try.underlying22 rfl (by decide) (base := s1.heap.size) (S := fun _ => False) (v := .slice ca3 cl3 cc3) (xs := xs) (by kernel_rfl) (HO3.out.below hB_w103_w104) (hB_s1_w104).size (sv := .slice (some ⟨b8, 0, none⟩) 2 2) (by kernel_rfl) (ys := [(kc, kk, kw, kv, ()), (jc, jk, jw, jv, ())]) (Src.of_cells (news := [.string kc, .int .i64 kk, .int .i64 kw, .int .i64 kv, .string jc, .int .i64 jk, .int .i64 jw, .int .i64 jv]) (fun j u hu => by rw [Nat.zero_add, blk_cell hq8]; simpa using hu)) (two_rdl HKOK.out HKV.out HJOK.out HJV.out) (by have := HL.out; have := HLM.out; simp only [List.length_cons, List.length_nil]; omega) (by have := HL.out; have := HLM.out; simp only [List.length_cons, List.length_nil]; omega) ?_
        intro ca9 cl9 cc9 w105 O9 g9 ob9
        have hX : Below s1.heap.size s1 w105 := (hB_s1_w104).grown g9 (hB_s1_w104).size (fun c hc => (HO3.out.own c hc).1)
        have HO9 := Lib.hid O9
        clear O9 g9 ob9
        have hB_s1_w105 := hX
        have hB_w105_w105 := Below.refl w105.heap.size w105
        have hSsw105 := Cells.below hB_s1_w105 hSss1
        clear hX
        refine ⟨fun _ _ => hSsw105, ?_⟩
        try simp only [Act.put, List.setIfInBounds_toArray, List.set_cons_zero, List.set_cons_succ, List.getElem_toArray, List.getElem_cons_succ, List.getElem_cons_zero]
        refine wpAnyT_one (i := 10) (by kernel_rfl) rfl (by rfl) ?_
        refine wp_enter (f := 12) (args := #[.string g, .slice ca9 cl9 cc9]) (by go_simp) (few16_sum _ g ca9 cl9 cc9 _ (rdOwn HO9.out)) ?_
        rw [HFB.out]
        rintro e w7 ⟨rfl, hw7⟩
        subst hw7
        refine ⟨_, rfl, fun _ h => h, ?_⟩
        try simp only [Act.put, List.setIfInBounds_toArray, List.set_cons_zero, List.set_cons_succ, List.getElem_toArray, List.getElem_cons_succ, List.getElem_cons_zero]
        refine wpAnyT_pure (i := 11) (v := ?_) rfl (by kernel_rfl) (by kernel_rfl) (by kernel_rfl) (fun _ _ _ h => h) (by rfl) ?_ ?_
        rotate_left
        · intro w; go_simp; try with_reducible rfl
        simp only [Act.put, List.setIfInBounds_toArray, List.set_cons_zero, List.set_cons_succ, List.getElem_toArray, List.getElem_cons_succ, List.getElem_cons_zero]
        refine wpAnyT_pure (i := 12) (v := ?_) rfl (by kernel_rfl) (by kernel_rfl) (by kernel_rfl) (fun _ _ _ h => h) (by rfl) ?_ ?_
        rotate_left
        · intro w; go_simp; try with_reducible rfl
        simp only [Act.put, List.setIfInBounds_toArray, List.set_cons_zero, List.set_cons_succ, List.getElem_toArray, List.getElem_cons_succ, List.getElem_cons_zero]
        refine wpAnyT_skip (i := 13) rfl (by kernel_rfl) (by kernel_rfl) (by kernel_rfl) (fun _ _ _ h => h) (by rfl) ?_
        simp only [Act.put, List.setIfInBounds_toArray, List.set_cons_zero, List.set_cons_succ, List.getElem_toArray, List.getElem_cons_succ, List.getElem_cons_zero]
        refine wpAnyT_skip (i := 14) rfl (by kernel_rfl) (by kernel_rfl) (by kernel_rfl) (fun _ _ _ h => h) (by rfl) ?_
        simp only [Act.put, List.setIfInBounds_toArray, List.set_cons_zero, List.set_cons_succ, List.getElem_toArray, List.getElem_cons_succ, List.getElem_cons_zero]
        refine wpAnyT_skip (i := 15) rfl (by kernel_rfl) (by kernel_rfl) (by kernel_rfl) (fun _ _ _ h => h) (by rfl) ?_
        simp only [Act.put, List.setIfInBounds_toArray, List.set_cons_zero, List.set_cons_succ, List.getElem_toArray, List.getElem_cons_succ, List.getElem_cons_zero]
        refine wpAnyT_skip (i := 16) rfl (by kernel_rfl) (by kernel_rfl) (by kernel_rfl) (fun _ _ _ h => h) (by rfl) ?_
        simp only [Act.put, List.setIfInBounds_toArray, List.set_cons_zero, List.set_cons_succ, List.getElem_toArray, List.getElem_cons_succ, List.getElem_cons_zero]
        refine wpAnyT_skip (i := 17) rfl (by kernel_rfl) (by kernel_rfl) (by kernel_rfl) (fun _ _ _ h => h) (by rfl) ?_
        simp only [Act.put, List.setIfInBounds_toArray, List.set_cons_zero, List.set_cons_succ, List.getElem_toArray, List.getElem_cons_succ, List.getElem_cons_zero]
        refine wpAnyT_pure (i := 18) (v := ?_) rfl (by kernel_rfl) (by kernel_rfl) (by kernel_rfl) (fun _ _ _ h => h) (by rfl) ?_ ?_
        rotate_left
        · intro w; go_simp; try with_reducible rfl
        simp only [Act.put, List.setIfInBounds_toArray, List.set_cons_zero, List.set_cons_succ, List.getElem_toArray, List.getElem_cons_succ, List.getElem_cons_zero]
        refine wpAnyT_done (by kernel_rfl) ?_ _
        go_wp2_with fail
        go_ret
        exact ⟨rfl, below_step hB1 (hB_0_s1.trans ((hB_s1_w105).mono hB_0_s1.size))⟩
      · skip
        obtain ⟨b8, hb8⟩ : ∃ b, w102.heap.size = b := ⟨_, rfl⟩
        refine wp_newrow (v := .slice (some ⟨b8, 0, none⟩) 2 2) (cs := #[.string kc, .int .i64 kk, .int .i64 kw, .int .i64 kv, .string jc, .int .i64 jk, .int .i64 jw, .int .i64 jv]) (te := 35) (by rw [← hb8]; go_simp) ?_
        intro w106 hX hN8
        rw [hb8] at hN8
        have hB_s1_w106 := below_step hB_s1_w102 hX
        have hB_w102_w106 := below_step hB_w102_w102 hX
        have hB_w106_w106 := Below.refl w106.heap.size w106
        have hSsw106 := Cells.below hB_s1_w106 hSss1
        clear hX
        refine ⟨fun _ _ => hSsw106, ?_⟩
        try simp only [Act.put, List.setIfInBounds_toArray, List.set_cons_zero, List.set_cons_succ, List.getElem_toArray, List.getElem_cons_succ, List.getElem_cons_zero]
        refine wpAnyT_one (i := 3) (by kernel_rfl) rfl (by rfl) ?_
        have hq1 := ((hB_w102_w106).block _ (blk_lt hN1)).trans hN1
        have hb0 : Below w.heap.size w w106 := below_step hB1 (hB_0_s1.trans ((hB_s1_w106).mono hB_0_s1.size))
        refine wp_appLit (.tmp 14) (.tmp 15) 22 rfl (e := rateT) (te := 35) info_rate Try.underlying22 rfl (by decide) (S := fun b => b < w.heap.size) (base := s1.heap.size) (b := b1) (by kernel_rfl) hq1 hge1 (sv := .slice a len cap) (by kernel_rfl) (ys := xs) (R1.out.below hb0 (fun _ h => h)) (fun x hx => ⟨by have := hb0.size; have h1 := hB1.size; have h2 := (hB_0_s1).size; omega, Nat.lt_of_lt_of_le hx hb0.size⟩) (by have := HL.out; have := HLM.out; omega) (by have := HL.out; have := HLM.out; omega) ?_
        intro ca3 cl3 cc3 w107 O3 hX
        have HO3 := Lib.hid (Owns.flat (e := rateT) rfl O3)
        clear O3 hb0
        have hB_s1_w107 := below_step hB_s1_w106 hX
        have hB_w102_w107 := below_step hB_w102_w106 hX
        have hB_w106_w107 := below_step hB_w106_w106 hX
        have hB_w107_w107 := Below.refl w107.heap.size w107
        have hSsw107 := Cells.below hB_s1_w107 hSss1
        clear hX
        refine ⟨fun _ _ => hSsw107, ?_⟩
        try simp only [Act.put, List.setIfInBounds_toArray, List.set_cons_zero, List.set_cons_succ, List.getElem_toArray, List.getElem_cons_succ, List.getElem_cons_zero]
        refine wpAnyT_one (i := 9) (by kernel_rfl) rfl (by rfl) ?_
        have hq8 := ((hB_w106_w107).block _ (blk_lt hN8)).trans hN8
        refine wp_app (.tmp 16) (.tmp 21) 22 rfl (e := rateT) (te := 35) info_rate Try.underlying22 rfl (by decide) (base := s1.heap.size) (S := fun _ => False) (v := .slice ca3 cl3 cc3) (xs := xs) (by kernel_rfl) (HO3.out.below hB_w107_w107) (hB_s1_w107).size (sv := .slice (some ⟨b8, 0, none⟩) 2 2) (by kernel_rfl) (ys := [(kc, kk, kw, kv, ()), (jc, jk, jw, jv, ())]) (Src.of_cells (news := [.string kc, .int .i64 kk, .int .i64 kw, .int .i64 kv, .string jc, .int .i64 jk, .int .i64 jw, .int .i64 jv]) (fun j u hu => by rw [Nat.zero_add, blk_cell hq8]; simpa using hu)) (two_rdl HKOK.out HKV.out HJOK.out HJV.out) (by have := HL.out; have := HLM.out; simp only [List.length_cons, List.length_nil]; omega) (by have := HL.out; have := HLM.out; simp only [List.length_cons, List.length_nil]; omega) ?_
        intro ca9 cl9 cc9 w108 O9 g9 ob9
        have hX : Below s1.heap.size s1 w108 := (hB_s1_w107).grown g9 (hB_s1_w107).size (fun c hc => (HO3.out.own c hc).1)
        have HO9 := Lib.hid O9
        clear O9 g9 ob9
        have hB_s1_w108 := hX
        have hB_w108_w108 := Below.refl w108.heap.size w108
        have hSsw108 := Cells.below hB_s1_w108 hSss1
        clear hX
        refine ⟨fun _ _ => hSsw108, ?_⟩
        try simp only [Act.put, List.setIfInBounds_toArray, List.set_cons_zero, List.set_cons_succ, List.getElem_toArray, List.getElem_cons_succ, List.getElem_cons_zero]
        refine wpAnyT_one (i := 10) (by kernel_rfl) rfl (by rfl) ?_
        refine wp_enter (f := 12) (args := #[.string g, .slice ca9 cl9 cc9]) (by go_simp) (few16_sum _ g ca9 cl9 cc9 _ (rdOwn HO9.out)) ?_
        rw [HFB.out]
        rintro e w7 ⟨rfl, hw7⟩
        subst hw7
        refine ⟨_, rfl, fun _ h => h, ?_⟩
        try simp only [Act.put, List.setIfInBounds_toArray, List.set_cons_zero, List.set_cons_succ, List.getElem_toArray, List.getElem_cons_succ, List.getElem_cons_zero]
        refine wpAnyT_pure (i := 11) (v := ?_) rfl (by kernel_rfl) (by kernel_rfl) (by kernel_rfl) (fun _ _ _ h => h) (by rfl) ?_ ?_
        rotate_left
        · intro w; go_simp; try with_reducible rfl
        simp only [Act.put, List.setIfInBounds_toArray, List.set_cons_zero, List.set_cons_succ, List.getElem_toArray, List.getElem_cons_succ, List.getElem_cons_zero]
        refine wpAnyT_pure (i := 12) (v := ?_) rfl (by kernel_rfl) (by kernel_rfl) (by kernel_rfl) (fun _ _ _ h => h) (by rfl) ?_ ?_
        rotate_left
        · intro w; go_simp; try with_reducible rfl
        simp only [Act.put, List.setIfInBounds_toArray, List.set_cons_zero, List.set_cons_succ, List.getElem_toArray, List.getElem_cons_succ, List.getElem_cons_zero]
        refine wpAnyT_skip (i := 13) rfl (by kernel_rfl) (by kernel_rfl) (by kernel_rfl) (fun _ _ _ h => h) (by rfl) ?_
        simp only [Act.put, List.setIfInBounds_toArray, List.set_cons_zero, List.set_cons_succ, List.getElem_toArray, List.getElem_cons_succ, List.getElem_cons_zero]
        refine wpAnyT_skip (i := 14) rfl (by kernel_rfl) (by kernel_rfl) (by kernel_rfl) (fun _ _ _ h => h) (by rfl) ?_
        simp only [Act.put, List.setIfInBounds_toArray, List.set_cons_zero, List.set_cons_succ, List.getElem_toArray, List.getElem_cons_succ, List.getElem_cons_zero]
        refine wpAnyT_skip (i := 15) rfl (by kernel_rfl) (by kernel_rfl) (by kernel_rfl) (fun _ _ _ h => h) (by rfl) ?_
        simp only [Act.put, List.setIfInBounds_toArray, List.set_cons_zero, List.set_cons_succ, List.getElem_toArray, List.getElem_cons_succ, List.getElem_cons_zero]
        refine wpAnyT_skip (i := 16) rfl (by kernel_rfl) (by kernel_rfl) (by kernel_rfl) (fun _ _ _ h => h) (by rfl) ?_
        simp only [Act.put, List.setIfInBounds_toArray, List.set_cons_zero, List.set_cons_succ, List.getElem_toArray, List.getElem_cons_succ, List.getElem_cons_zero]
        refine wpAnyT_skip (i := 17) rfl (by kernel_rfl) (by kernel_rfl) (by kernel_rfl) (fun _ _ _ h => h) (by rfl) ?_
        simp only [Act.put, List.setIfInBounds_toArray, List.set_cons_zero, List.set_cons_succ, List.getElem_toArray, List.getElem_cons_succ, List.getElem_cons_zero]
        refine wpAnyT_pure (i := 18) (v := ?_) rfl (by kernel_rfl) (by kernel_rfl) (by kernel_rfl) (fun _ _ _ h => h) (by rfl) ?_ ?_
        rotate_left
        · intro w; go_simp; try with_reducible rfl
        simp only [Act.put, List.setIfInBounds_toArray, List.set_cons_zero, List.set_cons_succ, List.getElem_toArray, List.getElem_cons_succ, List.getElem_cons_zero]
        refine wpAnyT_done (by kernel_rfl) ?_ _
        go_wp2_with fail
        go_ret
        exact ⟨rfl, below_step hB1 (hB_0_s1.trans ((hB_s1_w108).mono hB_0_s1.size))⟩
    · skip
      obtain ⟨b8, hb8⟩ : ∃ b, s1.heap.size = b := ⟨_, rfl⟩
      refine wp_newrow (v := .slice (some ⟨b8, 0, none⟩) 2 2) (cs := #[.string kc, .int .i64 kk, .int .i64 kw, .int .i64 kv, .string jc, .int .i64 jk, .int .i64 jw, .int .i64 jv]) (te := 35) (by rw [← hb8]; go_simp) ?_
      intro w109 hX hN8
      rw [hb8] at hN8
      have hB_s1_w109 := below_step hB_s1_s1 hX
      have hB_w109_w109 := Below.refl w109.heap.size w109
      have hSsw109 := Cells.below hB_s1_w109 hSss1
      clear hX
      refine ⟨fun _ _ => hSsw109, ?_⟩
      try simp only [Act.put, List.setIfInBounds_toArray, List.set_cons_zero, List.set_cons_succ, List.getElem_toArray, List.getElem_cons_succ, List.getElem_cons_zero]
      refine wpAnyT_one (i := 1) (by kernel_rfl) rfl (by rfl) ?_
      obtain ⟨b1, hb1⟩ : ∃ b, w109.heap.size = b := ⟨_, rfl⟩
      have hge1 : s1.heap.size ≤ b1 := hb1 ▸ (hB_s1_w109).size
      refine wp_newrow (v := .slice (some ⟨b1, 0, none⟩) 0 0) (cs := #[]) (te := 35) (by rw [← hb1]; go_simp) ?_
      intro w110 hX hN1
      rw [hb1] at hN1
      have hB_s1_w110 := below_step hB_s1_w109 hX
      have hB_w109_w110 := below_step hB_w109_w109 hX
      have hB_w110_w110 := Below.refl w110.heap.size w110
      have hSsw110 := Cells.below hB_s1_w110 hSss1
      clear hX
      refine ⟨fun _ _ => hSsw110, ?_⟩
      try simp only [Act.put, List.setIfInBounds_toArray, List.set_cons_zero, List.set_cons_succ, List.getElem_toArray, List.getElem_cons_succ, List.getElem_cons_zero]
      refine wpAnyT_one (i := 3) (by kernel_rfl) rfl (by rfl) ?_
      have hq1 := ((hB_w110_w110).block _ (blk_lt hN1)).trans hN1
      have hb0 : Below w.heap.size w w110 := below_step hB1 (hB_0_s1.trans ((hB_s1_w110).mono hB_0_s1.size))
      refine wp_appLit (.tmp 14) (.tmp 15) 22 rfl (e := rateT) (te := 35) info_rate Try.underlying22 rfl (by decide) (S := fun b => b < w.heap.size) (base := s1.heap.size) (b := b1) (by kernel_rfl) hq1 hge1 (sv := .slice a len cap) (by kernel_rfl) (ys := xs) (R1.out.below hb0 (fun _ h => h)) (fun x hx => ⟨by have := hb0.size; have h1 := hB1.size; have h2 := (hB_0_s1).size; omega, Nat.lt_of_lt_of_le hx hb0.size⟩) (by have := HL.out; have := HLM.out; omega) (by have := HL.out; have := HLM.out; omega) ?_
      intro ca3 cl3 cc3 w111 O3 hX
      have HO3 := Lib.hid (Owns.flat (e := rateT) rfl O3)
      clear O3 hb0
      have hB_s1_w111 := below_step hB_s1_w110 hX
      have hB_w109_w111 := below_step hB_w109_w110 hX
      have hB_w110_w111 := below_step hB_w110_w110 hX
      have hB_w111_w111 := Below.refl w111.heap.size w111
      have hSsw111 := Cells.below hB_s1_w111 hSss1
      clear hX
      refine ⟨fun _ _ => hSsw111, ?_⟩
      try simp only [Act.put, List.setIfInBounds_toArray, List.set_cons_zero, List.set_cons_succ, List.getElem_toArray, List.getElem_cons_succ, List.getElem_cons_zero]
      refine wpAnyT_one (i := 9) (by kernel_rfl) rfl (by rfl) ?_
      have hq8 := ((hB_w109_w111).block _ (blk_lt hN8)).trans hN8
      refine wp_app (.tmp 16) (.tmp 21) 22 rfl (e := rateT) (te := 35) info_rate Try.underlying22 rfl (by decide) (base := s1.heap.size) (S := fun _ => False) (v := .slice ca3 cl3 cc3) (xs := xs) (by kernel_rfl) (HO3.out.below hB_w111_w111) (hB_s1_w111).size (sv := .slice (some ⟨b8, 0, none⟩) 2 2) (by kernel_rfl) (ys := [(kc, kk, kw, kv, ()), (jc, jk, jw, jv, ())]) (Src.of_cells (news := [.string kc, .int .i64 kk, .int .i64 kw, .int .i64 kv, .string jc, .int .i64 jk, .int .i64 jw, .int .i64 jv]) (fun j u hu => by rw [Nat.zero_add, blk_cell hq8]; simpa using hu)) (two_rdl HKOK.out HKV.out HJOK.out HJV.out) (by have := HL.out; have := HLM.out; simp only [List.length_cons, List.length_nil]; omega) (by have := HL.out; have := HLM.out; simp only [List.length_cons, List.length_nil]; omega) ?_
      intro ca9 cl9 cc9 w112 O9 g9 ob9
      have hX : Below s1.heap.size s1 w112 := (hB_s1_w111).grown g9 (hB_s1_w111).size (fun c hc => (HO3.out.own c hc).1)
      have HO9 := Lib.hid O9
      clear O9 g9 ob9
      have hB_s1_w112 := hX
      have hB_w112_w112 := Below.refl w112.heap.size w112
      have hSsw112 := Cells.below hB_s1_w112 hSss1
      clear hX
      refine ⟨fun _ _ => hSsw112, ?_⟩
      try simp only [Act.put, List.setIfInBounds_toArray, List.set_cons_zero, List.set_cons_succ, List.getElem_toArray, List.getElem_cons_succ, List.getElem_cons_zero]
      refine wpAnyT_one (i := 10) (by kernel_rfl) rfl (by rfl) ?_
      refine wp_enter (f := 12) (args := #[.string g, .slice ca9 cl9 cc9]) (by go_simp) (few16_sum _ g ca9 cl9 cc9 _ (rdOwn HO9.out)) ?_
      rw [HFB.out]
      rintro e w7 ⟨rfl, hw7⟩
      subst hw7
      refine ⟨_, rfl, fun _ h => h, ?_⟩
      try simp only [Act.put, List.setIfInBounds_toArray, List.set_cons_zero, List.set_cons_succ, List.getElem_toArray, List.getElem_cons_succ, List.getElem_cons_zero]
      refine wpAnyT_pure (i := 11) (v := ?_) rfl (by kernel_rfl) (by kernel_rfl) (by kernel_rfl) (fun _ _ _ h => h) (by rfl) ?_ ?_
      rotate_left
      · intro w; go_simp; try with_reducible rfl
      simp only [Act.put, List.setIfInBounds_toArray, List.set_cons_zero, List.set_cons_succ, List.getElem_toArray, List.getElem_cons_succ, List.getElem_cons_zero]
      refine wpAnyT_pure (i := 12) (v := ?_) rfl (by kernel_rfl) (by kernel_rfl) (by kernel_rfl) (fun _ _ _ h => h) (by rfl) ?_ ?_
      rotate_left
      · intro w; go_simp; try with_reducible rfl
      simp only [Act.put, List.setIfInBounds_toArray, List.set_cons_zero, List.set_cons_succ, List.getElem_toArray, List.getElem_cons_succ, List.getElem_cons_zero]
      refine wpAnyT_skip (i := 13) rfl (by kernel_rfl) (by kernel_rfl) (by kernel_rfl) (fun _ _ _ h => h) (by rfl) ?_
      simp only [Act.put, List.setIfInBounds_toArray, List.set_cons_zero, List.set_cons_succ, List.getElem_toArray, List.getElem_cons_succ, List.getElem_cons_zero]
      refine wpAnyT_skip (i := 14) rfl (by kernel_rfl) (by kernel_rfl) (by kernel_rfl) (fun _ _ _ h => h) (by rfl) ?_
      simp only [Act.put, List.setIfInBounds_toArray, List.set_cons_zero, List.set_cons_succ, List.getElem_toArray, List.getElem_cons_succ, List.getElem_cons_zero]
      refine wpAnyT_skip (i := 15) rfl (by kernel_rfl) (by kernel_rfl) (by kernel_rfl) (fun _ _ _ h => h) (by rfl) ?_
      simp only [Act.put, List.setIfInBounds_toArray, List.set_cons_zero, List.set_cons_succ, List.getElem_toArray, List.getElem_cons_succ, List.getElem_cons_zero]
      refine wpAnyT_skip (i := 16) rfl (by kernel_rfl) (by kernel_rfl) (by kernel_rfl) (fun _ _ _ h => h) (by rfl) ?_
      simp only [Act.put, List.setIfInBounds_toArray, List.set_cons_zero, List.set_cons_succ, List.getElem_toArray, List.getElem_cons_succ, List.getElem_cons_zero]
      refine wpAnyT_skip (i := 17) rfl (by kernel_rfl) (by kernel_rfl) (by kernel_rfl) (fun _ _ _ h => h) (by rfl) ?_
      simp only [Act.put, List.setIfInBounds_toArray, List.set_cons_zero, List.set_cons_succ, List.getElem_toArray, List.getElem_cons_succ, List.getElem_cons_zero]
      refine wpAnyT_pure (i := 18) (v := ?_) rfl (by kernel_rfl) (by kernel_rfl) (by kernel_rfl) (fun _ _ _ h => h) (by rfl) ?_ ?_
      rotate_left
      · intro w; go_simp; try with_reducible rfl
      simp only [Act.put, List.setIfInBounds_toArray, List.set_cons_zero, List.set_cons_succ, List.getElem_toArray, List.getElem_cons_succ, List.getElem_cons_zero]
      refine wpAnyT_done (by kernel_rfl) ?_ _
      go_wp2_with fail
      go_ret
      exact ⟨rfl, below_step hB1 (hB_0_s1.trans ((hB_s1_w112).mono hB_0_s1.size))⟩
  obtain ⟨hg20, hl200, -⟩ := few_len HFB.out
  rw [List.length_append] at hl200
  have hlen200 : len ≤ 198 := by have := HL.out; simp only [List.length_cons, List.length_nil] at hl200; omega
  clear hl200
  refine wp_cut [13, 14, 15, 16, 17, 18, 19, 20, 21, 22, 23, 24, 25, 26, 27, 28, 29, 30, 31] (fun vs w' => (∃ v13 v14 v15 v16 v17 v18 v19 v20 v21 v22 v23 v24 v25 v26 v27 v28 v29 v30, vs = [v13, v14, v15, v16, v17, v18, v19, v20, v21, v22, v23, v24, v25, v26, v27, v28, v29, v30, .bool ss]) ∧ Below w1.heap.size w1 w') ?_ ?_
  · skip
    refine wp_region_T (Cells [(⟨w.heap.size, 0, none⟩, .string kc), (⟨w.heap.size, 1, none⟩, .int .i64 kk), (⟨w.heap.size, 2, none⟩, .int .i64 kw), (⟨w.heap.size, 3, none⟩, .int .i64 kv), (⟨w.heap.size, 4, none⟩, .string jc), (⟨w.heap.size, 5, none⟩, .int .i64 jk), (⟨w.heap.size, 6, none⟩, .int .i64 jw), (⟨w.heap.size, 7, none⟩, .int .i64 jv)]) (fun _ => false) (by kernel_rfl) ?_
    have hSss13 := Cells.drew hC1
    have hB_0_s13 : Below w1.heap.size w1 w1.drew := below_drew _
    generalize w1.drew = s13 at hSss13 hB_0_s13 ⊢
    have hB_s13_s13 := Below.refl s13.heap.size s13
    refine wpAnyT_pure (i := 0) (v := ?_) rfl (by kernel_rfl) (by kernel_rfl) (by kernel_rfl) (fun _ _ _ h => h) (by rfl) ?_ ?_
    rotate_left
    · intro w; go_simp; try with_reducible rfl
    simp only [Act.put, List.setIfInBounds_toArray, List.set_cons_zero, List.set_cons_succ, List.getElem_toArray, List.getElem_cons_succ, List.getElem_cons_zero]
    refine wpAnyT_pure (i := 2) (v := ?_) rfl (by kernel_rfl) (by kernel_rfl) (by kernel_rfl) (fun _ _ _ h => h) (by rfl) ?_ ?_
    rotate_left
    · intro w; go_simp; try with_reducible rfl
    simp only [Act.put, List.setIfInBounds_toArray, List.set_cons_zero, List.set_cons_succ, List.getElem_toArray, List.getElem_cons_succ, List.getElem_cons_zero]
    refine wpAnyT_pure (i := 4) (v := ?_) rfl (by kernel_rfl) (by kernel_rfl) (by kernel_rfl) (fun _ _ _ h => h) (by rfl) ?_ ?_
    rotate_left
    · intro w; go_simp; try with_reducible rfl
    simp only [Act.put, List.setIfInBounds_toArray, List.set_cons_zero, List.set_cons_succ, List.getElem_toArray, List.getElem_cons_succ, List.getElem_cons_zero]
    refine wpAnyT_pure (i := 6) (v := ?_) rfl (by kernel_rfl) (by kernel_rfl) (by kernel_rfl) (fun _ _ _ h => h) (by rfl) ?_ ?_
    rotate_left
    · intro w; go_simp; try with_reducible rfl
    simp only [Act.put, List.setIfInBounds_toArray, List.set_cons_zero, List.set_cons_succ, List.getElem_toArray, List.getElem_cons_succ, List.getElem_cons_zero]
    refine wpAnyT_loadW (i := 5) (v := ?_) rfl (by kernel_rfl) (by kernel_rfl) (by kernel_rfl) (by kernel_rfl) (by kernel_rfl) (fun _ _ _ h => h) (Or.inl ⟨by rfl, ?_⟩) hSss13 ?_
    rotate_left
    · intro w hSw; obtain ⟨e0, e1, e2, e3, e4, e5, e6, e7, -⟩ := hSw; go_simp; try with_reducible rfl
    simp only [Act.put, List.setIfInBounds_toArray, List.set_cons_zero, List.set_cons_succ, List.getElem_toArray, List.getElem_cons_succ, List.getElem_cons_zero]
    refine wpAnyT_loadW (i := 7) (v := ?_) rfl (by kernel_rfl) (by kernel_rfl) (by kernel_rfl) (by kernel_rfl) (by kernel_rfl) (fun _ _ _ h => h) (Or.inl ⟨by rfl, ?_⟩) hSss13 ?_
    rotate_left
    · intro w hSw; obtain ⟨e0, e1, e2, e3, e4, e5, e6, e7, -⟩ := hSw; go_simp; try with_reducible rfl
    simp only [Act.put, List.setIfInBounds_toArray, List.set_cons_zero, List.set_cons_succ, List.getElem_toArray, List.getElem_cons_succ, List.getElem_cons_zero]
    refine wpAnyT_two (i := 1) (k := 8) (by kernel_rfl) rfl rfl (by rfl) (by rfl) ?_ ?_
    · skip
      obtain ⟨b1, hb1⟩ : ∃ b, s13.heap.size = b := ⟨_, rfl⟩
      have hge1 : s13.heap.size ≤ b1 := hb1 ▸ (hB_s13_s13).size
      refine wp_newrow (v := .slice (some ⟨b1, 0, none⟩) 0 0) (cs := #[]) (te := 35) (by rw [← hb1]; go_simp) ?_
      intro w114 hX hN1
      rw [hb1] at hN1
      have hB_s13_w114 := below_step hB_s13_s13 hX
      have hB_w114_w114 := Below.refl w114.heap.size w114
      have hSsw114 := Cells.below hB_s13_w114 hSss13
      clear hX
      refine ⟨fun _ _ => hSsw114, ?_⟩
      try simp only [Act.put, List.setIfInBounds_toArray, List.set_cons_zero, List.set_cons_succ, List.getElem_toArray, List.getElem_cons_succ, List.getElem_cons_zero]
      refine wpAnyT_two (i := 3) (k := 8) (by kernel_rfl) rfl rfl (by rfl) (by rfl) ?_ ?_
      · skip
        have hq1 := ((hB_w114_w114).block _ (blk_lt hN1)).trans hN1
        have hb0 : Below w.heap.size w w114 := below_step hB1 (hB_0_s13.trans ((hB_s13_w114).mono hB_0_s13.size))
        refine wp_appLit (.tmp 14) (.tmp 15) 22 rfl (e := rateT) (te := 35) info_rate Try.underlying22 rfl (by decide) (S := fun b => b < w.heap.size) (base := s13.heap.size) (b := b1) (by kernel_rfl) hq1 hge1 (sv := .slice a len cap) (by kernel_rfl) (ys := xs) (R1.out.below hb0 (fun _ h => h)) (fun x hx => ⟨by have := hb0.size; have h1 := hB1.size; have h2 := (hB_0_s13).size; omega, Nat.lt_of_lt_of_le hx hb0.size⟩) (by have := HL.out; have := HLM.out; omega) (by have := HL.out; have := HLM.out; omega) ?_
        intro ca3 cl3 cc3 w115 O3 hX
        have HO3 := Lib.hid (Owns.flat (e := rateT) rfl O3)
        clear O3 hb0
        have hB_s13_w115 := below_step hB_s13_w114 hX
        have hB_w114_w115 := below_step hB_w114_w114 hX
        have hB_w115_w115 := Below.refl w115.heap.size w115
        have hSsw115 := Cells.below hB_s13_w115 hSss13
        clear hX
        refine ⟨fun _ _ => hSsw115, ?_⟩
        try simp only [Act.put, List.setIfInBounds_toArray, List.set_cons_zero, List.set_cons_succ, List.getElem_toArray, List.getElem_cons_succ, List.getElem_cons_zero]
        refine wpAnyT_one (i := 8) (by kernel_rfl) rfl (by rfl) ?_
        obtain ⟨b8, hb8⟩ : ∃ b, w115.heap.size = b := ⟨_, rfl⟩
        refine wp_newrow (v := .slice (some ⟨b8, 0, none⟩) 2 2) (cs := #[.string kc, .int .i64 kk, .int .i64 kw, .int .i64 kv, .string jc, .int .i64 jk, .int .i64 jw, .int .i64 jv]) (te := 35) (by rw [← hb8]; go_simp) ?_
        intro w116 hX hN8
        rw [hb8] at hN8
        have hB_s13_w116 := below_step hB_s13_w115 hX
        have hB_w114_w116 := below_step hB_w114_w115 hX
        have hB_w115_w116 := below_step hB_w115_w115 hX
        have hB_w116_w116 := Below.refl w116.heap.size w116
        have hSsw116 := Cells.below hB_s13_w116 hSss13
        clear hX
        refine ⟨fun _ _ => hSsw116, ?_⟩
        try simp only [Act.put, List.setIfInBounds_toArray, List.set_cons_zero, List.set_cons_succ, List.getElem_toArray, List.getElem_cons_succ, List.getElem_cons_zero]
        refine wpAnyT_one (i := 9) (by kernel_rfl) rfl (by rfl) ?_
        have hq8 := ((hB_w116_w116).block _ (blk_lt hN8)).trans hN8
        refine wp_app (.tmp 16) (.tmp 21) 22 rfl (e := rateT) (te := 35) info_rate Try.underlying22 rfl (by decide) (base := s13.heap.size) (S := fun _ => False) (v := .slice ca3 cl3 cc3) (xs := xs) (by kernel_rfl) (HO3.out.below hB_w115_w116) (hB_s13_w116).size (sv := .slice (some ⟨b8, 0, none⟩) 2 2) (by kernel_rfl) (ys := [(kc, kk, kw, kv, ()), (jc, jk, jw, jv, ())]) (Src.of_cells (news := [.string kc, .int .i64 kk, .int .i64 kw, .int .i64 kv, .string jc, .int .i64 jk, .int .i64 jw, .int .i64 jv]) (fun j u hu => by rw [Nat.zero_add, blk_cell hq8]; simpa using hu)) (two_rdl HKOK.out HKV.out HJOK.out HJV.out) (by have := HL.out; have := HLM.out; simp only [List.length_cons, List.length_nil]; omega) (by have := HL.out; have := HLM.out; simp only [List.length_cons, List.length_nil]; omega) ?_
        intro ca9 cl9 cc9 w117 O9 g9 ob9
        have hX : Below s13.heap.size s13 w117 := (hB_s13_w116).grown g9 (hB_s13_w116).size (fun c hc => (HO3.out.own c hc).1)
        have HO9 := Lib.hid O9
        clear O9 g9 ob9
        have hB_s13_w117 := hX
        have hB_w117_w117 := Below.refl w117.heap.size w117
        have hSsw117 := Cells.below hB_s13_w117 hSss13
        clear hX
        refine ⟨fun _ _ => hSsw117, ?_⟩
        try simp only [Act.put, List.setIfInBounds_toArray, List.set_cons_zero, List.set_cons_succ, List.getElem_toArray, List.getElem_cons_succ, List.getElem_cons_zero]
        refine wpAnyT_one (i := 10) (by kernel_rfl) rfl (by rfl) ?_
        refine wp_enter (f := 12) (args := #[.string g, .slice ca9 cl9 cc9]) (by go_simp) (few16_sum _ g ca9 cl9 cc9 _ (rdOwn HO9.out)) ?_
        rw [HFB.out]
        rintro e w7 ⟨rfl, hw7⟩
        subst hw7
        refine ⟨_, rfl, fun _ h => h, ?_⟩
        try simp only [Act.put, List.setIfInBounds_toArray, List.set_cons_zero, List.set_cons_succ, List.getElem_toArray, List.getElem_cons_succ, List.getElem_cons_zero]
        refine wpAnyT_pure (i := 11) (v := ?_) rfl (by kernel_rfl) (by kernel_rfl) (by kernel_rfl) (fun _ _ _ h => h) (by rfl) ?_ ?_
        rotate_left
        · intro w; go_simp; try with_reducible rfl
        simp only [Act.put, List.setIfInBounds_toArray, List.set_cons_zero, List.set_cons_succ, List.getElem_toArray, List.getElem_cons_succ, List.getElem_cons_zero]
        refine wpAnyT_pure (i := 12) (v := ?_) rfl (by kernel_rfl) (by kernel_rfl) (by kernel_rfl) (fun _ _ _ h => h) (by rfl) ?_ ?_
        rotate_left
        · intro w; go_simp; try with_reducible rfl
        simp only [Act.put, List.setIfInBounds_toArray, List.set_cons_zero, List.set_cons_succ, List.getElem_toArray, List.getElem_cons_succ, List.getElem_cons_zero]
        refine wpAnyT_pure (i := 13) (v := ?_) rfl (by kernel_rfl) (by kernel_rfl) (by kernel_rfl) (fun _ _ _ h => h) (by rfl) ?_ ?_
        rotate_left
        · intro w; go_simp; try with_reducible rfl
        simp only [Act.put, List.setIfInBounds_toArray, List.set_cons_zero, List.set_cons_succ, List.getElem_toArray, List.getElem_cons_succ, List.getElem_cons_zero]
        refine wpAnyT_pure (i := 15) (v := ?_) rfl (by kernel_rfl) (by kernel_rfl) (by kernel_rfl) (fun _ _ _ h => h) (by rfl) ?_ ?_
        rotate_left
        · intro w; go_simp; try with_reducible rfl
        simp only [Act.put, List.setIfInBounds_toArray, List.set_cons_zero, List.set_cons_succ, List.getElem_toArray, List.getElem_cons_succ, List.getElem_cons_zero]
        refine wpAnyT_loadW (i := 14) (v := ?_) rfl (by kernel_rfl) (by kernel_rfl) (by kernel_rfl) (by kernel_rfl) (by kernel_rfl) (fun _ _ _ h => h) (Or.inl ⟨by rfl, ?_⟩) hSsw117 ?_
        rotate_left
        · intro w hSw; obtain ⟨e0, e1, e2, e3, e4, e5, e6, e7, -⟩ := hSw; go_simp; try with_reducible rfl
        simp only [Act.put, List.setIfInBounds_toArray, List.set_cons_zero, List.set_cons_succ, List.getElem_toArray, List.getElem_cons_succ, List.getElem_cons_zero]
        refine wpAnyT_loadW (i := 16) (v := ?_) rfl (by kernel_rfl) (by kernel_rfl) (by kernel_rfl) (by kernel_rfl) (by kernel_rfl) (fun _ _ _ h => h) (Or.inl ⟨by rfl, ?_⟩) hSsw117 ?_
        rotate_left
        · intro w hSw; obtain ⟨e0, e1, e2, e3, e4, e5, e6, e7, -⟩ := hSw; go_simp; try with_reducible rfl
        simp only [Act.put, List.setIfInBounds_toArray, List.set_cons_zero, List.set_cons_succ, List.getElem_toArray, List.getElem_cons_succ, List.getElem_cons_zero]
        refine wpAnyT_one (i := 17) (by kernel_rfl) rfl (by rfl) ?_
        refine wp_enter (f := 20) (args := #[.agg #[.string kc, .int .i64 kk, .int .i64 kw, .int .i64 kv], .agg #[.string jc, .int .i64 jk, .int .i64 jw, .int .i64 jv]]) (by go_simp) (HSK.out _) ?_
        rintro e w118 ⟨rfl, hX⟩
        have hB_s13_w118 := below_step hB_s13_w117 hX
        have hB_w117_w118 := below_step hB_w117_w117 hX
        have hB_w118_w118 := Below.refl w118.heap.size w118
        have hSsw118 := Cells.below hB_s13_w118 hSss13
        clear hX
        refine ⟨_, rfl, fun _ _ => hSsw118, ?_⟩
        try simp only [Act.put, List.setIfInBounds_toArray, List.set_cons_zero, List.set_cons_succ, List.getElem_toArray, List.getElem_cons_succ, List.getElem_cons_zero]
        refine wpAnyT_pure (i := 18) (v := ?_) rfl (by kernel_rfl) (by kernel_rfl) (by kernel_rfl) (fun _ _ _ h => h) (by rfl) ?_ ?_
        rotate_left
        · intro w; go_simp; try with_reducible rfl
        simp only [Act.put, List.setIfInBounds_toArray, List.set_cons_zero, List.set_cons_succ, List.getElem_toArray, List.getElem_cons_succ, List.getElem_cons_zero]
        refine wpAnyT_done (by kernel_rfl) ?_ _
        refine cut_leaf ?_ ?_
        focus kernel_rfl
        exact ⟨⟨_, _, _, _, _, _, _, _, _, _, _, _, _, _, _, _, _, _, rfl⟩, hB_0_s13.trans ((hB_s13_w118).mono hB_0_s13.size)⟩
      · skip
        obtain ⟨b8, hb8⟩ : ∃ b, w114.heap.size = b := ⟨_, rfl⟩
        refine wp_newrow (v := .slice (some ⟨b8, 0, none⟩) 2 2) (cs := #[.string kc, .int .i64 kk, .int .i64 kw, .int .i64 kv, .string jc, .int .i64 jk, .int .i64 jw, .int .i64 jv]) (te := 35) (by rw [← hb8]; go_simp) ?_
        intro w119 hX hN8
        rw [hb8] at hN8
        have hB_s13_w119 := below_step hB_s13_w114 hX
        have hB_w114_w119 := below_step hB_w114_w114 hX
        have hB_w119_w119 := Below.refl w119.heap.size w119
        have hSsw119 := Cells.below hB_s13_w119 hSss13
        clear hX
        refine ⟨fun _ _ => hSsw119, ?_⟩
        try simp only [Act.put, List.setIfInBounds_toArray, List.set_cons_zero, List.set_cons_succ, List.getElem_toArray, List.getElem_cons_succ, List.getElem_cons_zero]
        refine wpAnyT_one (i := 3) (by kernel_rfl) rfl (by rfl) ?_
        have hq1 := ((hB_w114_w119).block _ (blk_lt hN1)).trans hN1
        have hb0 : Below w.heap.size w w119 := below_step hB1 (hB_0_s13.trans ((hB_s13_w119).mono hB_0_s13.size))
        refine wp_appLit (.tmp 14) (.tmp 15) 22 rfl (e := rateT) (te := 35) info_rate Try.underlying22 rfl (by decide) (S := fun b => b < w.heap.size) (base := s13.heap.size) (b := b1) (by kernel_rfl) hq1 hge1 (sv := .slice a len cap) (by kernel_rfl) (ys := xs) (R1.out.below hb0 (fun _ h => h)) (fun x hx => ⟨by have := hb0.size; have h1 := hB1.size; have h2 := (hB_0_s13).size; omega, Nat.lt_of_lt_of_le hx hb0.size⟩) (by have := HL.out; have := HLM.out; omega) (by have := HL.out; have := HLM.out; omega) ?_
        intro ca3 cl3 cc3 w120 O3 hX
        have HO3 := Lib.hid (Owns.flat (e := rateT) rfl O3)
        clear O3 hb0
        have hB_s13_w120 := below_step hB_s13_w119 hX
        have hB_w114_w120 := below_step hB_w114_w119 hX
        have hB_w119_w120 := below_step hB_w119_w119 hX
        have hB_w120_w120 := Below.refl w120.heap.size w120
        have hSsw120 := Cells.below hB_s13_w120 hSss13
        clear hX
        refine ⟨fun _ _ => hSsw120, ?_⟩
        try simp only [Act.put, List.setIfInBounds_toArray, List.set_cons_zero, List.set_cons_succ, List.getElem_toArray, List.getElem_cons_succ, List.getElem_cons_zero]
        refine wpAnyT_one (i := 9) (by kernel_rfl) rfl (by rfl) ?_
        have hq8 := ((hB_w119_w120).block _ (blk_lt hN8)).trans hN8
        refine wp_app (.tmp 16) (.tmp 21) 22 rfl (e := rateT) (te := 35) info_rate Try.underlying22 rfl (by decide) (base := s13.heap.size) (S := fun _ => False) (v := .slice ca3 cl3 cc3) (xs := xs) (by kernel_rfl) (HO3.out.below hB_w120_w120) (hB_s13_w120).size (sv := .slice (some ⟨b8, 0, none⟩) 2 2) (by kernel_rfl) (ys := [(kc, kk, kw, kv, ()), (jc, jk, jw, jv, ())]) (Src.of_cells (news := [.string kc, .int .i64 kk, .int .i64 kw, .int .i64 kv, .string jc, .int .i64 jk, .int .i64 jw, .int .i64 jv]) (fun j u hu => by rw [Nat.zero_add, blk_cell hq8]; simpa using hu)) (two_rdl HKOK.out HKV.out HJOK.out HJV.out) (by have := HL.out; have := HLM.out; simp only [List.length_cons, List.length_nil]; omega) (by have := HL.out; have := HLM.out; simp only [List.length_cons, List.length_nil]; omega) ?_
        intro ca9 cl9 cc9 w121 O9 g9 ob9
        have hX : Below s13.heap.size s13 w121 := (hB_s13_w120).grown g9 (hB_s13_w120).size (fun c hc => (HO3.out.own c hc).1)
        have HO9 := Lib.hid O9
        clear O9 g9 ob9
        have hB_s13_w121 := hX
        have hB_w121_w121 := Below.refl w121.heap.size w121
        have hSsw121 := Cells.below hB_s13_w121 hSss13
        clear hX
        refine ⟨fun _ _ => hSsw121, ?_⟩
        try simp only [Act.put, List.setIfInBounds_toArray, List.set_cons_zero, List.set_cons_succ, List.getElem_toArray, List.getElem_cons_succ, List.getElem_cons_zero]
        refine wpAnyT_one (i := 10) (by kernel_rfl) rfl (by rfl) ?_
        refine wp_enter (f := 12) (args := #[.string g, .slice ca9 cl9 cc9]) (by go_simp) (few16_sum _ g ca9 cl9 cc9 _ (rdOwn HO9.out)) ?_
        rw [HFB.out]
        rintro e w7 ⟨rfl, hw7⟩
        subst hw7
        refine ⟨_, rfl, fun _ h => h, ?_⟩
        try simp only [Act.put, List.setIfInBounds_toArray, List.set_cons_zero, List.set_cons_succ, List.getElem_toArray, List.getElem_cons_succ, List.getElem_cons_zero]
        refine wpAnyT_pure (i := 11) (v := ?_) rfl (by kernel_rfl) (by kernel_rfl) (by kernel_rfl) (fun _ _ _ h => h) (by rfl) ?_ ?_
        rotate_left
        · intro w; go_simp; try with_reducible rfl
        simp only [Act.put, List.setIfInBounds_toArray, List.set_cons_zero, List.set_cons_succ, List.getElem_toArray, List.getElem_cons_succ, List.getElem_cons_zero]
        refine wpAnyT_pure (i := 12) (v := ?_) rfl (by kernel_rfl) (by kernel_rfl) (by kernel_rfl) (fun _ _ _ h => h) (by rfl) ?_ ?_
        rotate_left
        · intro w; go_simp; try with_reducible rfl
        simp only [Act.put, List.setIfInBounds_toArray, List.set_cons_zero, List.set_cons_succ, List.getElem_toArray, List.getElem_cons_succ, List.getElem_cons_zero]
        refine wpAnyT_pure (i := 13) (v := ?_) rfl (by kernel_rfl) (by kernel_rfl) (by kernel_rfl) (fun _ _ _ h => h) (by rfl) ?_ ?_
        rotate_left
        · intro w; go_simp; try with_reducible rfl
        simp only [Act.put, List.setIfInBounds_toArray, List.set_cons_zero, List.set_cons_succ, List.getElem_toArray, List.getElem_cons_succ, List.getElem_cons_zero]
        refine wpAnyT_pure (i := 15) (v := ?_) rfl (by kernel_rfl) (by kernel_rfl) (by kernel_rfl) (fun _ _ _ h => h) (by rfl) ?_ ?_
        rotate_left
        · intro w; go_simp; try with_reducible rfl
        simp only [Act.put, List.setIfInBounds_toArray, List.set_cons_zero, List.set_cons_succ, List.getElem_toArray, List.getElem_cons_succ, List.getElem_cons_zero]
        refine wpAnyT_loadW (i := 14) (v := ?_) rfl (by kernel_rfl) (by kernel_rfl) (by kernel_rfl) (by kernel_rfl) (by kernel_rfl) (fun _ _ _ h => h) (Or.inl ⟨by rfl, ?_⟩) hSsw121 ?_
        rotate_left
        · intro w hSw; obtain ⟨e0, e1, e2, e3, e4, e5, e6, e7, -⟩ := hSw; go_simp; try with_reducible rfl
        simp only [Act.put, List.setIfInBounds_toArray, List.set_cons_zero, List.set_cons_succ, List.getElem_toArray, List.getElem_cons_succ, List.getElem_cons_zero]
        refine wpAnyT_loadW (i := 16) (v := ?_) rfl (by kernel_rfl) (by kernel_rfl) (by kernel_rfl) (by kernel_rfl) (by kernel_rfl) (fun _ _ _ h => h) (Or.inl ⟨by rfl, ?_⟩) hSsw121 ?_
        rotate_left
        · intro w hSw; obtain ⟨e0, e1, e2, e3, e4, e5, e6, e7, -⟩ := hSw; go_simp; try with_reducible rfl
        simp only [Act.put, List.setIfInBounds_toArray, List.set_cons_zero, List.set_cons_succ, List.getElem_toArray, List.getElem_cons_succ, List.getElem_cons_zero]
        refine wpAnyT_one (i := 17) (by kernel_rfl) rfl (by rfl) ?_
        refine wp_enter (f := 20) (args := #[.agg #[.string kc, .int .i64 kk, .int .i64 kw, .int .i64 kv], .agg #[.string jc, .int .i64 jk, .int .i64 jw, .int .i64 jv]]) (by go_simp) (HSK.out _) ?_
        rintro e w122 ⟨rfl, hX⟩
        have hB_s13_w122 := below_step hB_s13_w121 hX
        have hB_w121_w122 := below_step hB_w121_w121 hX
        have hB_w122_w122 := Below.refl w122.heap.size w122
        have hSsw122 := Cells.below hB_s13_w122 hSss13
        clear hX
        refine ⟨_, rfl, fun _ _ => hSsw122, ?_⟩
        try simp only [Act.put, List.setIfInBounds_toArray, List.set_cons_zero, List.set_cons_succ, List.getElem_toArray, List.getElem_cons_succ, List.getElem_cons_zero]
        refine wpAnyT_pure (i := 18) (v := ?_) rfl (by kernel_rfl) (by kernel_rfl) (by kernel_rfl) (fun _ _ _ h => h) (by rfl) ?_ ?_
        rotate_left
        · intro w; go_simp; try with_reducible rfl
        simp only [Act.put, List.setIfInBounds_toArray, List.set_cons_zero, List.set_cons_succ, List.getElem_toArray, List.getElem_cons_succ, List.getElem_cons_zero]
        refine wpAnyT_done (by kernel_rfl) ?_ _
        refine cut_leaf ?_ ?_
        focus kernel_rfl
        exact ⟨⟨_, _, _, _, _, _, _, _, _, _, _, _, _, _, _, _, _, _, rfl⟩, hB_0_s13.trans ((hB_s13_w122).mono hB_0_s13.size)⟩
    · skip
      obtain ⟨b8, hb8⟩ : ∃ b, s13.heap.size = b := ⟨_, rfl⟩
      refine wp_newrow (v := .slice (some ⟨b8, 0, none⟩) 2 2) (cs := #[.string kc, .int .i64 kk, .int .i64 kw, .int .i64 kv, .string jc, .int .i64 jk, .int .i64 jw, .int .i64 jv]) (te := 35) (by rw [← hb8]; go_simp) ?_
      intro w123 hX hN8
      rw [hb8] at hN8
      have hB_s13_w123 := below_step hB_s13_s13 hX
      have hB_w123_w123 := Below.refl w123.heap.size w123
      have hSsw123 := Cells.below hB_s13_w123 hSss13
      clear hX
      refine ⟨fun _ _ => hSsw123, ?_⟩
      try simp only [Act.put, List.setIfInBounds_toArray, List.set_cons_zero, List.set_cons_succ, List.getElem_toArray, List.getElem_cons_succ, List.getElem_cons_zero]
      refine wpAnyT_one (i := 1) (by kernel_rfl) rfl (by rfl) ?_
      obtain ⟨b1, hb1⟩ : ∃ b, w123.heap.size = b := ⟨_, rfl⟩
      have hge1 : s13.heap.size ≤ b1 := hb1 ▸ (hB_s13_w123).size
      refine wp_newrow (v := .slice (some ⟨b1, 0, none⟩) 0 0) (cs := #[]) (te := 35) (by rw [← hb1]; go_simp) ?_
      intro w124 hX hN1
      rw [hb1] at hN1
      have hB_s13_w124 := below_step hB_s13_w123 hX
      have hB_w123_w124 := below_step hB_w123_w123 hX
      have hB_w124_w124 := Below.refl w124.heap.size w124
      have hSsw124 := Cells.below hB_s13_w124 hSss13
      clear hX
      refine ⟨fun _ _ => hSsw124, ?_⟩
      try simp only [Act.put, List.setIfInBounds_toArray, List.set_cons_zero, List.set_cons_succ, List.getElem_toArray, List.getElem_cons_succ, List.getElem_cons_zero]
      refine wpAnyT_one (i := 3) (by kernel_rfl) rfl (by rfl) ?_
      have hq1 := ((hB_w124_w124).block _ (blk_lt hN1)).trans hN1
      have hb0 : Below w.heap.size w w124 := below_step hB1 (hB_0_s13.trans ((hB_s13_w124).mono hB_0_s13.size))
      refine wp_appLit (.tmp 14) (.tmp 15) 22 rfl (e := rateT) (te := 35) info_rate Try.underlying22 rfl (by decide) (S := fun b => b < w.heap.size) (base := s13.heap.size) (b := b1) (by kernel_rfl) hq1 hge1 (sv := .slice a len cap) (by kernel_rfl) (ys := xs) (R1.out.below hb0 (fun _ h => h)) (fun x hx => ⟨by have := hb0.size; have h1 := hB1.size; have h2 := (hB_0_s13).size; omega, Nat.lt_of_lt_of_le hx hb0.size⟩) (by have := HL.out; have := HLM.out; omega) (by have := HL.out; have := HLM.out; omega) ?_
      intro ca3 cl3 cc3 w125 O3 hX
      have HO3 := Lib.hid (Owns.flat (e := rateT) rfl O3)
      clear O3 hb0
      have hB_s13_w125 := below_step hB_s13_w124 hX
      have hB_w123_w125 := below_step hB_w123_w124 hX
      have hB_w124_w125 := below_step hB_w124_w124 hX
      have hB_w125_w125 := Below.refl w125.heap.size w125
      have hSsw125 := Cells.below hB_s13_w125 hSss13
      clear hX
      refine ⟨fun _ _ => hSsw125, ?_⟩
      try simp only [Act.put, List.setIfInBounds_toArray, List.set_cons_zero, List.set_cons_succ, List.getElem_toArray, List.getElem_cons_succ, List.getElem_cons_zero]
      refine wpAnyT_one (i := 9) (by kernel_rfl) rfl (by rfl) ?_
      have hq8 := ((hB_w123_w125).block _ (blk_lt hN8)).trans hN8
      refine wp_app (.tmp 16) (.tmp 21) 22 rfl (e := rateT) (te := 35) info_rate Try.underlying22 rfl (by decide) (base := s13.heap.size) (S := fun _ => False) (v := .slice ca3 cl3 cc3) (xs := xs) (by kernel_rfl) (HO3.out.below hB_w125_w125) (hB_s13_w125).size (sv := .slice (some ⟨b8, 0, none⟩) 2 2) (by kernel_rfl) (ys := [(kc, kk, kw, kv, ()), (jc, jk, jw, jv, ())]) (Src.of_cells (news := [.string kc, .int .i64 kk, .int .i64 kw, .int .i64 kv, .string jc, .int .i64 jk, .int .i64 jw, .int .i64 jv]) (fun j u hu => by rw [Nat.zero_add, blk_cell hq8]; simpa using hu)) (two_rdl HKOK.out HKV.out HJOK.out HJV.out) (by have := HL.out; have := HLM.out; simp only [List.length_cons, List.length_nil]; omega) (by have := HL.out; have := HLM.out; simp only [List.length_cons, List.length_nil]; omega) ?_
      intro ca9 cl9 cc9 w126 O9 g9 ob9
      have hX : Below s13.heap.size s13 w126 := (hB_s13_w125).grown g9 (hB_s13_w125).size (fun c hc => (HO3.out.own c hc).1)
      have HO9 := Lib.hid O9
      clear O9 g9 ob9
      have hB_s13_w126 := hX
      have hB_w126_w126 := Below.refl w126.heap.size w126
      have hSsw126 := Cells.below hB_s13_w126 hSss13
      clear hX
      refine ⟨fun _ _ => hSsw126, ?_⟩
      try simp only [Act.put, List.setIfInBounds_toArray, List.set_cons_zero, List.set_cons_succ, List.getElem_toArray, List.getElem_cons_succ, List.getElem_cons_zero]
      refine wpAnyT_one (i := 10) (by kernel_rfl) rfl (by rfl) ?_
      refine wp_enter (f := 12) (args := #[.string g, .slice ca9 cl9 cc9]) (by go_simp) (few16_sum _ g ca9 cl9 cc9 _ (rdOwn HO9.out)) ?_
      rw [HFB.out]
      rintro e w7 ⟨rfl, hw7⟩
      subst hw7
      refine ⟨_, rfl, fun _ h => h, ?_⟩
      try simp only [Act.put, List.setIfInBounds_toArray, List.set_cons_zero, List.set_cons_succ, List.getElem_toArray, List.getElem_cons_succ, List.getElem_cons_zero]
      refine wpAnyT_pure (i := 11) (v := ?_) rfl (by kernel_rfl) (by kernel_rfl) (by kernel_rfl) (fun _ _ _ h => h) (by rfl) ?_ ?_
      rotate_left
      · intro w; go_simp; try with_reducible rfl
      simp only [Act.put, List.setIfInBounds_toArray, List.set_cons_zero, List.set_cons_succ, List.getElem_toArray, List.getElem_cons_succ, List.getElem_cons_zero]
      refine wpAnyT_pure (i := 12) (v := ?_) rfl (by kernel_rfl) (by kernel_rfl) (by kernel_rfl) (fun _ _ _ h => h) (by rfl) ?_ ?_
      rotate_left
      · intro w; go_simp; try with_reducible rfl
      simp only [Act.put, List.setIfInBounds_toArray, List.set_cons_zero, List.set_cons_succ, List.getElem_toArray, List.getElem_cons_succ, List.getElem_cons_zero]
      refine wpAnyT_pure (i := 13) (v := ?_) rfl (by kernel_rfl) (by kernel_rfl) (by kernel_rfl) (fun _ _ _ h => h) (by rfl) ?_ ?_
      rotate_left
      · intro w; go_simp; try with_reducible rfl
      simp only [Act.put, List.setIfInBounds_toArray, List.set_cons_zero, List.set_cons_succ, List.getElem_toArray, List.getElem_cons_succ, List.getElem_cons_zero]
      refine wpAnyT_pure (i := 15) (v := ?_) rfl (by kernel_rfl) (by kernel_rfl) (by kernel_rfl) (fun _ _ _ h => h) (by rfl) ?_ ?_
      rotate_left
      · intro w; go_simp; try with_reducible rfl
      simp only [Act.put, List.setIfInBounds_toArray, List.set_cons_zero, List.set_cons_succ, List.getElem_toArray, List.getElem_cons_succ, List.getElem_cons_zero]
      refine wpAnyT_loadW (i := 14) (v := ?_) rfl (by kernel_rfl) (by kernel_rfl) (by kernel_rfl) (by kernel_rfl) (by kernel_rfl) (fun _ _ _ h => h) (Or.inl ⟨by rfl, ?_⟩) hSsw126 ?_
      rotate_left
      · intro w hSw; obtain ⟨e0, e1, e2, e3, e4, e5, e6, e7, -⟩ := hSw; go_simp; try with_reducible rfl
      simp only [Act.put, List.setIfInBounds_toArray, List.set_cons_zero, List.set_cons_succ, List.getElem_toArray, List.getElem_cons_succ, List.getElem_cons_zero]
      refine wpAnyT_loadW (i := 16) (v := ?_) rfl (by kernel_rfl) (by kernel_rfl) (by kernel_rfl) (by kernel_rfl) (by kernel_rfl) (fun _ _ _ h => h) (Or.inl ⟨by rfl, ?_⟩) hSsw126 ?_
      rotate_left
      · intro w hSw; obtain ⟨e0, e1, e2, e3, e4, e5, e6, e7, -⟩ := hSw; go_simp; try with_reducible rfl
      simp only [Act.put, List.setIfInBounds_toArray, List.set_cons_zero, List.set_cons_succ, List.getElem_toArray, List.getElem_cons_succ, List.getElem_cons_zero]
      refine wpAnyT_one (i := 17) (by kernel_rfl) rfl (by rfl) ?_
      refine wp_enter (f := 20) (args := #[.agg #[.string kc, .int .i64 kk, .int .i64 kw, .int .i64 kv], .agg #[.string jc, .int .i64 jk, .int .i64 jw, .int .i64 jv]]) (by go_simp) (HSK.out _) ?_
      rintro e w127 ⟨rfl, hX⟩
      have hB_s13_w127 := below_step hB_s13_w126 hX
      have hB_w126_w127 := below_step hB_w126_w126 hX
      have hB_w127_w127 := Below.refl w127.heap.size w127
      have hSsw127 := Cells.below hB_s13_w127 hSss13
      clear hX
      refine ⟨_, rfl, fun _ _ => hSsw127, ?_⟩
      try simp only [Act.put, List.setIfInBounds_toArray, List.set_cons_zero, List.set_cons_succ, List.getElem_toArray, List.getElem_cons_succ, List.getElem_cons_zero]
      refine wpAnyT_pure (i := 18) (v := ?_) rfl (by kernel_rfl) (by kernel_rfl) (by kernel_rfl) (fun _ _ _ h => h) (by rfl) ?_ ?_
      rotate_left
      · intro w; go_simp; try with_reducible rfl
      simp only [Act.put, List.setIfInBounds_toArray, List.set_cons_zero, List.set_cons_succ, List.getElem_toArray, List.getElem_cons_succ, List.getElem_cons_zero]
      refine wpAnyT_done (by kernel_rfl) ?_ _
      refine cut_leaf ?_ ?_
      focus kernel_rfl
      exact ⟨⟨_, _, _, _, _, _, _, _, _, _, _, _, _, _, _, _, _, _, rfl⟩, hB_0_s13.trans ((hB_s13_w127).mono hB_0_s13.size)⟩
  rintro vs w2 ⟨⟨v13, v14, v15, v16, v17, v18, v19, v20, v21, v22, v23, v24, v25, v26, v27, v28, v29, v30, rfl⟩, hB12⟩
  have hC2 := Cells.below hB12 hC1
  have hB2 := below_step hB1 hB12
  simp only [puts, Act.put, List.setIfInBounds_toArray, List.set_cons_zero, List.set_cons_succ]
  cases ss
  rotate_left
  · go_wp2
    go_ret
    exact ⟨rfl, hB2⟩
  have hne : (⟨kc, kk, kw⟩ : K3) ≠ ⟨jc, jk, jw⟩ := (same3_false _ _).1 (show same3 ⟨kc, kk, kw⟩ ⟨jc, jk, jw⟩ = false from HSS.out)
  obtain ⟨cb, hcb⟩ : ∃ cb, curB g = cb := ⟨_, rfl⟩
  have HCB := Lib.hid hcb
  clear hcb
  cases cb
  · go_wp2_with (go_at_call 13; first | (refine (New_bad _ g HGS.out HCB.out).mono ?_; rintro e w4 ⟨rfl, hB4⟩; replace hB4 := below_step hB3 hB4) | (refine (New_bad _ g HGS.out HCB.out).mono ?_; rintro e w3 ⟨rfl, hB3⟩; replace hB3 := below_step hB2 hB3))
    go_ret
    exact ⟨rfl, hB4⟩
  obtain ⟨T, hT⟩ : ∃ T, tb0.setAll g xs = T := ⟨_, rfl⟩
  have htm := Tb.setAll_m g xs tb0
  have hth := Tb.setAll_hs g xs tb0
  have htz : tb0.m = 0 := rfl
  have hhz : tb0.hs.length = 0 := rfl
  obtain ⟨zs, hzs⟩ := TbOk.setAll (xs := xs) g TbOk.zero (keys_ok R1.out)
  rw [hT] at htm hth hzs
  have htl : T.m ≤ 200 ∧ T.hs.length ≤ 200 := by have := HL.out; omega
  obtain ⟨hff, hhh⟩ := two_f g T ⟨kc, kk, kw, kv⟩ ⟨jc, jk, jw, jv⟩ hne (by omega) (by omega)
  have hz1 := (hzs.set g ⟨kc, kk, kw, kv⟩ HKOK.out).set g ⟨jc, jk, jw, jv⟩ HJOK.out
  have hz2 := (hzs.set g ⟨jc, jk, jw, jv⟩ HJOK.out).set g ⟨kc, kk, kw, kv⟩ HKOK.out
  have hm1 := Tb.setAll_m g [(kc, kk, kw, kv, ()), (jc, jk, jw, jv, ())] T
  have hm2 := Tb.setAll_m g [(jc, jk, jw, jv, ()), (kc, kk, kw, kv, ())] T
  have hh1 := Tb.setAll_hs g [(kc, kk, kw, kv, ()), (jc, jk, jw, jv, ())] T
  have hh2 := Tb.setAll_hs g [(jc, jk, jw, jv, ()), (kc, kk, kw, kv, ())] T
  have e1 : T.setAll g [(kc, kk, kw, kv, ()), (jc, jk, jw, jv, ())] = ((T.set g ⟨kc, kk, kw, kv⟩).2.set g ⟨jc, jk, jw, jv⟩).2 := rfl
  have e2 : T.setAll g [(jc, jk, jw, jv, ()), (kc, kk, kw, kv, ())] = ((T.set g ⟨jc, jk, jw, jv⟩).2.set g ⟨kc, kk, kw, kv⟩).2 := rfl
  rw [← e1, ← e2] at hff hhh
  rw [← e1] at hz1
  rw [← e2] at hz2
  generalize insIf g _ _ _ = ys1 at hz1
  generalize insIf g _ _ _ = ys2 at hz2
  obtain ⟨T1, hT1⟩ : ∃ T1, T.setAll g [(kc, kk, kw, kv, ()), (jc, jk, jw, jv, ())] = T1 := ⟨_, rfl⟩
  obtain ⟨T2, hT2⟩ : ∃ T2, T.setAll g [(jc, jk, jw, jv, ()), (kc, kk, kw, kv, ())] = T2 := ⟨_, rfl⟩
  rw [hT1] at hff hhh hz1 hm1 hh1
  rw [hT2] at hff hhh hz2 hm2 hh2
  simp only [List.length_cons, List.length_nil] at hm1 hm2 hh1 hh2
  have hrow : rowsOf T1.f ys1 = rowsOf T2.f ys2 := rows_unique hz1.1 hz2.1 (fun x _ => by rw [hff])
  have HT := Lib.hid hT
  have HT1 := Lib.hid hT1
  have HT2 := Lib.hid hT2
  have HROW := Lib.hid hrow
  have HHH := Lib.hid hhh
  have HL1 := Lib.hid (fun F W p (h : TabT F W p g T1) => List_tb F W p g T1 ys1 hz1 h (by omega))
  have HL2 := Lib.hid (fun F W p (h : TabT F W p g T2) => List_tb F W p g T2 ys2 hz2 h (by omega))
  have HH1 := Lib.hid (fun F W p (h : TabT F W p g T1) => History_sum F W p g T1 h (by omega))
  have HH2 := Lib.hid (fun F W p (h : TabT F W p g T2) => History_sum F W p g T2 h (by omega))
  have HSL := Lib.hid (fun ys : List rateT.den => show sameL ys ys = true from decide_eq_true rfl)
  have HTL := Lib.hid htl
  clear hT hT1 hT2 hrow hhh hff hz1 hz2 hm1 hm2 hh1 hh2 e1 e2 hzs htm hth htz hhz htl hne
  go_wp2_with (first
    | (go_at_call 13; first
      | (refine (New_ok _ g HGS.out HCB.out).mono ?_; rintro e w4 ⟨q, G, rfl, hU4, hG4, hB34⟩; have HU4 := Lib.hid (show TabT G w4 q g tb0 from hU4); have HG4 := Lib.hid hG4; have HT4 := Lib.hid (TabIn.below HT3.out hB34); have HF4 := Lib.hid (show ∀ b, F b → b < w3.heap.size from HT3.out.1); have hs34 := hB34.size; have hB4 := below_step hB3 hB34; clear hU4 hG4 hB34)
      | (refine (New_ok _ g HGS.out HCB.out).mono ?_; rintro e w3 ⟨p, F, rfl, hT3, hF3, hB3⟩; have HT3 := Lib.hid (show TabT F w3 p g tb0 from hT3); have HF3 := Lib.hid hF3; have hs23 := hB3.size; clear hT3 hF3))
    | (go_at_call 18; first
      | (refine (set16_sum G6 (fun b => b = w7.heap.size) _ q g T (TabIn.below HU7.out ((Below.refl _ w7).alloc (Nat.le_refl _) _)) (some ⟨w7.heap.size, 0, none⟩) 2 2 [(jc, jk, jw, jv, ()), (kc, kk, kw, kv, ())] ((Owns.lit (e := rateT) (te := 35) (base := w7.heap.size) (S := fun _ => False) w7 (two_rdl HJOK.out HJV.out HKOK.out HKV.out) (Nat.le_refl _) (fun _ h => h.elim) (by simp)).rd (fun b => b = w7.heap.size) (fun _ h => h.elim) (fun c hc => by simpa [Value.ownBlock] using hc.symm)) (fun b hb => ⟨by subst hb; simp, fun h => by have := HU7.out.1 b h; omega⟩) (by have := HTL.out; omega)).mono ?_; rintro e w8 ⟨rfl, G8, hU8, hG8, hGr8⟩; rw [HT2.out] at hU8; have HU8 := Lib.hid hU8; have HT8 := Lib.hid (TabIn.gr (TabIn.below HT7.out ((Below.refl _ w7).alloc (Nat.le_refl _) _)) hGr8 (fun b hb h => by rcases HF7.out b hb with h' | h'; (exact HFG.out b h' h); (have := HU6.out.1 b h; omega))); have hB8 := (hB7.alloc hs27 _).trans (hGr8.below (n := w2.heap.size) (fun b h => by rcases HG6.out b h with h' | h'; (have := HG4.out b h'; omega); omega) (by simp only [World.size_alloc]; omega)); clear hU8 hG8 hGr8 k0 k1 k2 k3 k4 k5 k6 k7)
      | (refine (set16_sum F5 (fun b => b = w6.heap.size) _ p g T (TabIn.below HT6.out ((Below.refl _ w6).alloc (Nat.le_refl _) _)) (some ⟨w6.heap.size, 0, none⟩) 2 2 [(kc, kk, kw, kv, ()), (jc, jk, jw, jv, ())] ((Owns.lit (e := rateT) (te := 35) (base := w6.heap.size) (S := fun _ => False) w6 (two_rdl HKOK.out HKV.out HJOK.out HJV.out) (Nat.le_refl _) (fun _ h => h.elim) (by simp)).rd (fun b => b = w6.heap.size) (fun _ h => h.elim) (fun c hc => by simpa [Value.ownBlock] using hc.symm)) (fun b hb => ⟨by subst hb; simp, fun h => by have := HT6.out.1 b h; omega⟩) (by have := HTL.out; omega)).mono ?_; rintro e w7 ⟨rfl, F7, hT7, hF7, hGr7⟩; rw [HT1.out] at hT7; have HT7 := Lib.hid hT7; have HF7 := Lib.hid (show ∀ b, F7 b → F5 b ∨ w6.heap.size ≤ b from fun b hb => (hF7 b hb).imp id (fun h => by simp only [World.size_alloc] at h; omega)); have HU7 := Lib.hid (TabIn.gr (TabIn.below HU6.out ((Below.refl _ w6).alloc (Nat.le_refl _) _)) hGr7 (fun b hb h => HFG.out b h hb)); have hB7 := (hB6.alloc hs26 _).trans (hGr7.below (n := w2.heap.size) (fun b h => by rcases HF5.out b h with h' | h'; (exact HF3.out b h'); omega) (by simp only [World.size_alloc]; omega)); have hs27 := hB7.size; clear k0 k1 k2 k3 k4 k5 k6 k7; obtain ⟨k0, k1, k2, k3, k4, k5, k6, k7, -⟩ := Cells.below hB7 hC2; clear hT7 hF7 hGr7)
      | (refine (set16_sum G (fun b => b < w.heap.size) _ q g tb0 HU5.out a len cap xs (R1.out.below (below_step hB2 hB5) (fun _ h => h)) (fun b hb => ⟨Nat.lt_of_lt_of_le hb (below_step hB2 hB5).size, fun h => by have := HG4.out b h; have := hB2.size; omega⟩) (by have h0 : tb0.m = 0 := rfl; omega)).mono ?_; rintro e w6 ⟨rfl, G6, hU6, hG6, hGr6⟩; rw [HT.out] at hU6; have HU6 := Lib.hid hU6; have HG6 := Lib.hid hG6; have HT6 := Lib.hid (TabIn.gr HT5.out hGr6 (fun b hb h => by have := HG4.out b h; have := HU4.out.1 b h; rcases HF5.out b hb with h' | h'; (have := HF4.out b h'; omega); omega)); have HFG := Lib.hid (show ∀ b, F5 b → ¬ G6 b from fun b hf hg => by have h5 := HT5.out.1 b hf; rcases hG6 b hg with h | h; (have := HG4.out b h; have := HU4.out.1 b h; rcases HF5.out b hf with h' | h'; (have := HF4.out b h'; omega); omega); omega); have hB6 := hB5.trans (hGr6.below (n := w2.heap.size) (fun b h => by have := HG4.out b h; omega) hs25); have hs26 := hB6.size; obtain ⟨k0, k1, k2, k3, k4, k5, k6, k7, -⟩ := Cells.below hB6 hC2; clear hU6 hG6 hGr6)
      | (refine (set16_sum F (fun b => b < w.heap.size) _ p g tb0 HT4.out a len cap xs (R1.out.below (below_step hB2 hB4) (fun _ h => h)) (fun b hb => ⟨Nat.lt_of_lt_of_le hb (below_step hB2 hB4).size, fun h => by have := HF3.out b h; have := hB2.size; omega⟩) (by have h0 : tb0.m = 0 := rfl; omega)).mono ?_; rintro e w5 ⟨rfl, F5, hT5, hF5, hGr5⟩; rw [HT.out] at hT5; have HT5 := Lib.hid hT5; have HF5 := Lib.hid hF5; have HU5 := Lib.hid (TabIn.gr HU4.out hGr5 (fun b hb h => by have := HG4.out b hb; have := HF4.out b h; omega)); have hB5 := hB4.trans (hGr5.below (n := w2.heap.size) HF3.out hB4.size); have hs45 := hGr5.size; have hs25 := hB5.size; clear hT5 hF5 hGr5))
    | (go_at_call 22; first
      | (refine (HL2.out _ _ _ HU9.out).mono ?_; rintro e w10 ⟨v10, rfl, hO10, hB10⟩; rw [← HROW.out] at hO10; obtain ⟨a10, l10, c10, rfl, -⟩ := hO10.slice; have HO10 := Lib.hid hO10; have HO9' := Lib.hid (HO9.out.below hB10); have HT10 := Lib.hid (TabIn.below HT9.out hB10); have HU10 := Lib.hid (TabIn.below HU9.out hB10); replace hB10 := below_step hB9 hB10; clear hO10)
      | (refine (HL1.out _ _ _ HT8.out).mono ?_; rintro e w9 ⟨v9, rfl, hO9, hB9⟩; obtain ⟨a9, l9, c9, rfl, -⟩ := hO9.slice; have HO9 := Lib.hid hO9; have HT9 := Lib.hid (TabIn.below HT8.out hB9); have HU9 := Lib.hid (TabIn.below HU8.out hB9); replace hB9 := below_step hB8 hB9; clear hO9))
    | (go_at_call 21; refine (Same16_sum _ a9 a10 l9 c9 l10 c10 _ _ (rdOwn HO9'.out) (rdOwn HO10.out) (fun _ h => h) (fun _ h => h)).mono ?_; rw [HSL.out]; rintro e w11 ⟨rfl, hB11⟩; have HT11 := Lib.hid (TabIn.below HT10.out hB11); have HU11 := Lib.hid (TabIn.below HU10.out hB11); replace hB11 := below_step hB10 hB11)
    | (go_at_call 23; first
      | (refine (HH1.out _ _ _ HT11.out).mono ?_; clear HT11; rintro e w12 ⟨v12, rfl, hB12', hO12⟩; obtain ⟨a12, l12, c12, rfl, hl12, -, -⟩ := hO12.slice; have HL12 := Lib.hid hl12; have HU12 := Lib.hid (TabIn.below HU11.out hB12'); have hB12 := below_step hB11 hB12'; clear hO12 hl12 hB12')))
  refine (HH2.out _ _ _ HU12.out).mono ?_
  rintro e w13 ⟨v13, rfl, hB13, hO13⟩
  obtain ⟨a13, l13, c13, rfl, hl13, -, -⟩ := hO13.slice
  have hl13' : l13 = l12 := by rw [hl13, HL12.out]; exact HHH.out.symm
  subst hl13'
  replace hB13 := below_step hB12 hB13
  clear hO13 hl13
  go_wp2_with fail
  go_ret
  exact ⟨rfl, below_step hB2 hB13⟩
end Go.Proofs.Ytmlekhkgokgpbaa
