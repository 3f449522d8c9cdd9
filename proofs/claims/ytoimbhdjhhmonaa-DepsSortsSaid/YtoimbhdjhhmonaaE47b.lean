/- Layer 47: the law's awake. -/
import Derived.Test.YtoimbhdjhhmonaaE47a
set_option linter.unusedSimpArgs false
set_option maxRecDepth 50000
namespace Go.Proofs.Ytoimbhdjhhmonaa
open Go.RowKit Go

abbrev cI : C4 := ⟨7, 0, -1, 1⟩
abbrev cR : C4 := ⟨2, -1, -1, -1⟩
abbrev cE : C4 := ⟨1, 0, -1, -1⟩
abbrev cT : C4 := ⟨22, -1, -1, 1⟩
abbrev exG : List En4 := [(cI, [cE, cR]), (cT, [cI])]
theorem exG1 : setR (fun _ => none) cI [cR, cE] = lkG [(cI, [cE, cR])] := by
  funext x
  have h := lkG_set [] cI [cR, cE] x
  rw [show setG [] cI [cR, cE] = [(cI, [cE, cR])] from by decide +kernel] at h
  rw [h]
  rfl
theorem exG2 : setR (lkG [(cI, [cE, cR])]) cT [cI] = lkG exG := by
  funext x
  rw [← lkG_set]
  rw [show setG [(cI, [cE, cR])] cT [cI] = exG from by decide +kernel]
theorem c4ok (a b c d : Int) (h1 : -1 ≤ a ∧ a ≤ 22) (h2 : -1 ≤ b ∧ b ≤ 22) (h3 : -1 ≤ c ∧ c ≤ 22) (h4 : -1 ≤ d ∧ d ≤ 22) : C4.ok ⟨a, b, c, d⟩ := by
  refine ⟨?_, ?_, ?_, ?_⟩ <;> simp [Lit.wf, IntKind.min, IntKind.max, IntKind.signed, IntKind.bits] <;> omega
theorem okI : C4.ok cI := c4ok _ _ _ _ (by omega) (by omega) (by omega) (by omega)
theorem okR : C4.ok cR := c4ok _ _ _ _ (by omega) (by omega) (by omega) (by omega)
theorem okE : C4.ok cE := c4ok _ _ _ _ (by omega) (by omega) (by omega) (by omega)
theorem okT : C4.ok cT := c4ok _ _ _ _ (by omega) (by omega) (by omega) (by omega)
theorem exGI : GI 2 exG := by
  refine ⟨by decide +kernel, fun e he => ?_, fun e he => ?_, fun e he x hx => ?_, fun e he => ?_, by decide⟩
  · simp at he
    rcases he with rfl | rfl
    · exact (by decide +kernel : Srt [cE, cR])
    · exact List.pairwise_singleton _ _
  · simp at he
    rcases he with rfl | rfl
    · exact okI
    · exact okT
  · simp at he
    rcases he with rfl | rfl
    · simp at hx
      rcases hx with rfl | rfl
      · exact okE
      · exact okR
    · simp at hx
      subst hx
      exact okI
  · simp at he
    rcases he with rfl | rfl <;> decide
theorem exAff (x : C4) : x ∈ [cI, cT] ↔ ∃ c ∈ [cR], Rch (rsOf (lkG exG)) c x := by
  have h1 : rsOf (lkG exG) cR cI = true := by decide +kernel
  have h2 : rsOf (lkG exG) cI cT = true := by decide +kernel
  refine AffI.fin exGI (l := [cR]) (os := [cI, cT]) ⟨by decide +kernel, fun x hx => ?_⟩ (fun e he => ?_) x
  · simp at hx
    rcases hx with rfl | rfl
    · exact ⟨by decide +kernel, cR, by simp, .one h1⟩
    · exact ⟨by decide +kernel, cR, by simp, .step (.one h1) h2⟩
  · intro _
    simp at he
    rcases he with rfl | rfl
    · simp
    · simp
theorem exCells : cellsG exG = [cE, cR, cI, cT] := by decide +kernel
theorem crow2 {w : World} {b : Nat} {x y : C4} (h : w.heap[b]? = some (.cells #[.int .i64 x.st, .int .i64 x.en, .int .i64 x.ot, .int .i64 x.pe, .int .i64 y.st, .int .i64 y.en, .int .i64 y.ot, .int .i64 y.pe] 38 (0, 0))) : CRow w b [x, y] := by
  refine ⟨_, h, fun i hi => ?_⟩
  match i, hi with
  | 0, _ => exact ⟨rfl, rfl, rfl, rfl⟩
  | 1, _ => exact ⟨rfl, rfl, rfl, rfl⟩
theorem crow1 {w : World} {b : Nat} {x : C4} (h : w.heap[b]? = some (.cells #[.int .i64 x.st, .int .i64 x.en, .int .i64 x.ot, .int .i64 x.pe] 38 (0, 0))) : CRow w b [x] := by
  refine ⟨_, h, fun i hi => ?_⟩
  match i, hi with
  | 0, _ => exact ⟨rfl, rfl, rfl, rfl⟩
theorem DepI.dom0 {F : Nat → Nat} {w : World} {p mr ms n K : Nat} {rd : C4 → Option (List C4)} (h : DepI F w p mr ms n K rd) {b : Nat} (hb : w.heap.size ≤ b) : F b = 0 := by
  obtain ⟨k, sl, ib, hD, -⟩ := h
  by_cases e : F b = 0
  · exact e
  · have := hD.dom b e; omega
theorem DepI.nodup {F : Nat → Nat} {w : World} {p mr ms n K m : Nat} {G : List En4} (_ : DepI F w p mr ms n K (lkG G)) (hG : GI m G) (c : C4) : ∀ l, lkG G c = some l → l.Nodup := fun l hl => (hG.srtL hl).nodup
set_option maxHeartbeats 4000000 in
theorem awake47 (w : World) : Calls Try.prog 9 #[] w fun e w' => e = .returned (.bool true) ∧ Below w.heap.size w w' := by
  have HOF := Lib.hid (fun W s e o p h => of47 W s e o p h)
  have HN := Lib.hid (new47 w)
  go_enter Try.func9, Try.ntmps9
  go_wp2_with fail
  refine HN.out.mono ?_
  rintro e w1 ⟨p, mr, ms, F, rfl, hB1, hI1, hF1⟩
  have HB := Lib.hid hB1
  have HI := Lib.hid hI1
  have HF := Lib.hid hF1
  clear hB1 hI1 hF1 HN
  have HC := Lib.hid (HOF.out w1 7 0 0 1 (by decide))
  rw [show ofC 7 0 0 1 = cI from by decide] at HC
  unfold C4.v at HC
  simp only at HC
  go_wp2_with fail
  refine HC.out.mono ?_
  rintro e w2 ⟨rfl, hB2⟩
  clear HC
  have HC := Lib.hid (HOF.out w2 2 0 0 0 (by decide))
  rw [show ofC 2 0 0 0 = cR from by decide] at HC
  unfold C4.v at HC
  simp only at HC
  have HB2 := Lib.hid hB2
  clear hB2
  go_wp2_with fail
  refine HC.out.mono ?_
  rintro e w3 ⟨rfl, hB3⟩
  have HB3 := Lib.hid (below_step HB2.out hB3)
  clear HC HB2 hB3
  go_upto_region 3 with fail
  have hz := heap_alloc2_old w3 (.cells #[.int .i64 7, .int .i64 0, .int .i64 (-1), .int .i64 1] 38) (.cells #[.int .i64 2, .int .i64 (-1), .int .i64 (-1), .int .i64 (-1)] 38)
  have hr := heap_alloc2_new w3 (.cells #[.int .i64 7, .int .i64 0, .int .i64 (-1), .int .i64 1] 38) (.cells #[.int .i64 2, .int .i64 (-1), .int .i64 (-1), .int .i64 (-1)] 38)
  have hb4 : Below w3.heap.size w3 ((w3.alloc (.cells #[.int .i64 7, .int .i64 0, .int .i64 (-1), .int .i64 1] 38)).alloc (.cells #[.int .i64 2, .int .i64 (-1), .int .i64 (-1), .int .i64 (-1)] 38)) := ((Below.refl w3.heap.size w3).alloc (Nat.le_refl _) _).alloc (by simp) _
  have HZ := Lib.hid hz
  have HR := Lib.hid hr
  have HB4 := Lib.hid (below_step HB3.out hb4)
  clear hz hr hb4
  generalize World.alloc _ _ = w4 at *
  obtain ⟨gb, hgb⟩ : ∃ x, w3.heap.size = x := ⟨_, rfl⟩
  have HGB := Lib.hid (show w1.heap.size ≤ gb from hgb ▸ HB3.out.size)
  rw [hgb] at HZ HR ⊢
  clear hgb HB3
  have HCE := Lib.hid (fun W => HOF.out W 1 0 0 0 (by decide))
  rw [show ofC 1 0 0 0 = cE from by decide] at HCE
  have HCT := Lib.hid (fun W => HOF.out W 22 0 0 1 (by decide))
  rw [show ofC 22 0 0 1 = cT from by decide] at HCT
  unfold C4.v at HCE HCT
  simp only at HCE HCT
  have hC0 : Cells [(⟨gb, 0, none⟩, .int .i64 7), (⟨gb, 1, none⟩, .int .i64 0), (⟨gb, 2, none⟩, .int .i64 (-1)), (⟨gb, 3, none⟩, .int .i64 1), (⟨gb + 1, 0, none⟩, .int .i64 2), (⟨gb + 1, 1, none⟩, .int .i64 (-1)), (⟨gb + 1, 2, none⟩, .int .i64 (-1)), (⟨gb + 1, 3, none⟩, .int .i64 (-1))] w4 := ⟨blk_cell HZ.out 0, blk_cell HZ.out 1, blk_cell HZ.out 2, blk_cell HZ.out 3, blk_cell HR.out 0, blk_cell HR.out 1, blk_cell HR.out 2, blk_cell HR.out 3, trivial⟩
  refine wp_region_T (Cells [(⟨gb, 0, none⟩, .int .i64 7), (⟨gb, 1, none⟩, .int .i64 0), (⟨gb, 2, none⟩, .int .i64 (-1)), (⟨gb, 3, none⟩, .int .i64 1), (⟨gb + 1, 0, none⟩, .int .i64 2), (⟨gb + 1, 1, none⟩, .int .i64 (-1)), (⟨gb + 1, 2, none⟩, .int .i64 (-1)), (⟨gb + 1, 3, none⟩, .int .i64 (-1))]) (fun i => i == 5) (by kernel_rfl) ?_
  have hSss1 := Cells.drew hC0
  have hB_0_s1 : Below w4.heap.size w4 w4.drew := below_drew _
  generalize w4.drew = s1 at hSss1 hB_0_s1 ⊢
  have hB_s1_s1 := Below.refl s1.heap.size s1
  refine wpAnyT_pure (i := 0) (v := ?_) rfl (by kernel_rfl) (by kernel_rfl) (by kernel_rfl) (fun _ _ _ h => h) (by rfl) ?_ ?_
  rotate_left
  · intro w; go_simp; try with_reducible rfl
  simp only [Act.put, rgA, rgB, rgC, rgD, rgE, rgF]
  refine wpAnyT_loadW (i := 1) (v := ?_) rfl (by kernel_rfl) (by kernel_rfl) (by kernel_rfl) (by kernel_rfl) (by kernel_rfl) (fun _ _ _ h => h) (Or.inl ⟨by rfl, ?_⟩) hSss1 ?_
  rotate_left
  · intro w hSw; obtain ⟨e0, e1, e2, e3, e4, e5, e6, e7, -⟩ := hSw; go_simp; try with_reducible rfl
  simp only [Act.put, rgA, rgB, rgC, rgD, rgE, rgF]
  refine wpAnyT_loadW (i := 2) (v := ?_) rfl (by kernel_rfl) (by kernel_rfl) (by kernel_rfl) (by kernel_rfl) (by kernel_rfl) (fun _ _ _ h => h) (Or.inl ⟨by rfl, ?_⟩) hSss1 ?_
  rotate_left
  · intro w hSw; obtain ⟨e0, e1, e2, e3, e4, e5, e6, e7, -⟩ := hSw; go_simp; try with_reducible rfl
  simp only [Act.put, rgA, rgB, rgC, rgD, rgE, rgF]
  refine wpAnyT_one (i := 3) (by kernel_rfl) rfl (by rfl) ?_
  refine wp_enter (f := 30) (args := #[.int .i64 1, .int .i64 0, .int .i64 0, .int .i64 0]) (by go_simp) (HCE.out s1) ?_
  rintro e w102 ⟨rfl, hX⟩
  have hB_s1_w102 := below_step hB_s1_s1 hX
  have hB_w102_w102 := Below.refl w102.heap.size w102
  have hSsw102 := Cells.below hB_s1_w102 hSss1
  clear hX
  refine ⟨_, rfl, fun _ _ => hSsw102, ?_⟩
  try simp only [Act.put, rgA, rgB, rgC, rgD, rgE, rgF]
  refine wpAnyT_one (i := 4) (by kernel_rfl) rfl (by rfl) ?_
  obtain ⟨b4, hb4⟩ : ∃ b, w102.heap.size = b := ⟨_, rfl⟩
  have hge4 : w4.heap.size ≤ b4 := hb4 ▸ (hB_0_s1.trans ((hB_s1_w102).mono hB_0_s1.size)).size
  refine wp_newrow (v := .slice (some ⟨b4, 0, none⟩) 2 2) (cs := #[.int .i64 2, .int .i64 (-1), .int .i64 (-1), .int .i64 (-1), .int .i64 1, .int .i64 0, .int .i64 (-1), .int .i64 (-1)]) (te := 38) (by rw [← hb4]; go_simp) ?_
  intro w103 hX hN4
  rw [hb4] at hN4
  have hB_s1_w103 := below_step hB_s1_w102 hX
  have hB_w102_w103 := below_step hB_w102_w102 hX
  have hB_w103_w103 := Below.refl w103.heap.size w103
  have hSsw103 := Cells.below hB_s1_w103 hSss1
  clear hX
  refine ⟨fun _ _ => hSsw103, ?_⟩
  try simp only [Act.put, rgA, rgB, rgC, rgD, rgE, rgF]
  refine wpAnyT_one (i := 5) (by kernel_rfl) rfl (by rfl) ?_
  have hbP : Below w4.heap.size w4 w103 := hB_0_s1.trans ((hB_s1_w103).mono hB_0_s1.size)
  have hq4 := ((hB_w103_w103).block _ (blk_lt hN4)).trans hN4
  have hbP1 := HB4.out.trans (hbP.mono HB4.out.size)
  have hip := HI.out.below hbP1
  have hst := set47 w103 hip cI (fun l h => by cases h) okI (by decide) (by decide) (some ⟨b4, 0, none⟩) 2 [cR, cE] ((crow2 (x := cR) (y := cE) hq4).rd (fun k hk => by simp at hk; rcases hk with rfl | rfl; exact okR; exact okE) 2 (by decide) (by decide)) (fun b e => ⟨by rw [e]; exact blk_lt hq4, HI.out.dom0 (by have := HB4.out.size; omega)⟩)
  have hcode : setCode ((fun _ => none : C4 → Option (List C4)) cI).isSome 0 cI [cR, cE] = 0 := by decide +kernel
  unfold SetP at hst
  rw [hcode] at hst
  unfold C4.v at hst
  simp only at hst
  refine wp_enter (f := 27) (args := #[.pointer (some ⟨p, 0, none⟩), .agg #[.int .i64 7, .int .i64 0, .int .i64 (-1), .int .i64 1], .slice (some ⟨b4, 0, none⟩) 2 2]) (by go_simp) hst ?_
  rintro e w104 ⟨rfl, -, h2⟩
  obtain ⟨hG5, F5, hF5, hI5⟩ := h2 (by first | rfl | trivial)
  rw [exG1] at hI5
  have HI5 := Lib.hid hI5
  have HF5 := Lib.hid (show ∀ b, b < w.heap.size → F5 b = 0 from fun b hb => by
    have h1 := HB.out.size
    have h2 := hbP1.size
    rw [hF5 b (by omega)]
    exact HF.out b hb)
  have HZ5 := Lib.hid (blk_gr hG5 ((hbP.block _ (blk_lt HZ.out)).trans HZ.out) (fun e => e (HI.out.dom0 HGB.out)))
  have HR5 := Lib.hid (blk_gr hG5 ((hbP.block _ (blk_lt HR.out)).trans HR.out) (fun e => e (HI.out.dom0 (by have := HGB.out; omega))))
  have HD5 := Lib.hid (show F5 gb = 0 ∧ F5 (gb + 1) = 0 from by
    have h1 := hbP.size
    have h2 := blk_lt HR.out
    exact ⟨(hF5 gb (by omega)).trans (HI.out.dom0 HGB.out), (hF5 (gb + 1) (by omega)).trans (HI.out.dom0 (by have := HGB.out; omega))⟩)
  have HB5 := Lib.hid (show Below w.heap.size w w104 from (HB.out.trans (hbP1.mono HB.out.size)).trans (hG5.below (fun b e => by
    by_cases hb : w.heap.size ≤ b
    · exact hb
    · exact absurd (HF.out b (by omega)) e) (HB.out.trans (hbP1.mono HB.out.size)).size))
  clear hbP hq4 hbP1 hip hst hcode h2 hG5 hF5 hI5
  refine ⟨_, rfl, fun h => absurd h (by decide), ?_⟩
  try simp only [Act.put, rgA, rgB, rgC, rgD, rgE, rgF]
  refine wpAnyT_pure (i := 6) (v := ?_) rfl (by kernel_rfl) (by kernel_rfl) (by kernel_rfl) (fun _ _ _ h => h) (by rfl) ?_ ?_
  rotate_left
  · intro w; go_simp; try with_reducible rfl
  simp only [Act.put, rgA, rgB, rgC, rgD, rgE, rgF]
  refine wpAnyT_done (by kernel_rfl) ?_ _
  obtain ⟨w5, rfl⟩ : ∃ x, x = w104 := ⟨_, rfl⟩
  clear hC0
  go_upto_region 4 with fail
  have hC1 : Cells [(⟨gb, 0, none⟩, .int .i64 7), (⟨gb, 1, none⟩, .int .i64 0), (⟨gb, 2, none⟩, .int .i64 (-1)), (⟨gb, 3, none⟩, .int .i64 1)] w5 := ⟨blk_cell HZ5.out 0, blk_cell HZ5.out 1, blk_cell HZ5.out 2, blk_cell HZ5.out 3, trivial⟩
  refine wp_cut [16, 17, 18, 19, 20, 5] (fun vs w6 => ∃ v16 v17 v18 v19 v20 F6, vs = [v16, v17, v18, v19, v20, .int .i64 0] ∧ DepI F6 w6 p mr ms (setM false (setM false 0)) (0 + 400 + 400) (lkG exG) ∧ (∀ b, b < w.heap.size → F6 b = 0) ∧ w6.heap[gb]? = some (.cells #[.int .i64 7, .int .i64 0, .int .i64 (-1), .int .i64 1] 38 (0, 0)) ∧ w6.heap[gb + 1]? = some (.cells #[.int .i64 2, .int .i64 (-1), .int .i64 (-1), .int .i64 (-1)] 38 (0, 0)) ∧ Below w.heap.size w w6) ?_ ?_
  · skip
    refine wp_region_T (Cells [(⟨gb, 0, none⟩, .int .i64 7), (⟨gb, 1, none⟩, .int .i64 0), (⟨gb, 2, none⟩, .int .i64 (-1)), (⟨gb, 3, none⟩, .int .i64 1)]) (fun i => i == 4) (by kernel_rfl) ?_
    have hSss5 := Cells.drew hC1
    have hB_0_s5 : Below w5.heap.size w5 w5.drew := below_drew _
    generalize w5.drew = s5 at hSss5 hB_0_s5 ⊢
    have hB_s5_s5 := Below.refl s5.heap.size s5
    refine wpAnyT_pure (i := 0) (v := ?_) rfl (by kernel_rfl) (by kernel_rfl) (by kernel_rfl) (fun _ _ _ h => h) (by rfl) ?_ ?_
    rotate_left
    · intro w; go_simp; try with_reducible rfl
    simp only [Act.put, rgA, rgB, rgC, rgD, rgE, rgF]
    refine wpAnyT_loadW (i := 2) (v := ?_) rfl (by kernel_rfl) (by kernel_rfl) (by kernel_rfl) (by kernel_rfl) (by kernel_rfl) (fun _ _ _ h => h) (Or.inl ⟨by rfl, ?_⟩) hSss5 ?_
    rotate_left
    · intro w hSw; obtain ⟨e0, e1, e2, e3, -⟩ := hSw; go_simp; try with_reducible rfl
    simp only [Act.put, rgA, rgB, rgC, rgD, rgE, rgF]
    refine wpAnyT_two (i := 1) (k := 3) (by kernel_rfl) rfl rfl (by rfl) (by rfl) ?_ ?_
    · skip
      refine wp_enter (f := 30) (args := #[.int .i64 22, .int .i64 0, .int .i64 0, .int .i64 1]) (by go_simp) (HCT.out s5) ?_
      rintro e w106 ⟨rfl, hX⟩
      have hB_s5_w106 := below_step hB_s5_s5 hX
      have hB_w106_w106 := Below.refl w106.heap.size w106
      have hSsw106 := Cells.below hB_s5_w106 hSss5
      clear hX
      refine ⟨_, rfl, fun _ _ => hSsw106, ?_⟩
      try simp only [Act.put, rgA, rgB, rgC, rgD, rgE, rgF]
      refine wpAnyT_one (i := 3) (by kernel_rfl) rfl (by rfl) ?_
      obtain ⟨b3, hb3⟩ : ∃ b, w106.heap.size = b := ⟨_, rfl⟩
      have hge3 : w5.heap.size ≤ b3 := hb3 ▸ (hB_0_s5.trans ((hB_s5_w106).mono hB_0_s5.size)).size
      refine wp_newrow (v := .slice (some ⟨b3, 0, none⟩) 1 1) (cs := #[.int .i64 7, .int .i64 0, .int .i64 (-1), .int .i64 1]) (te := 38) (by rw [← hb3]; go_simp) ?_
      intro w107 hX hN3
      rw [hb3] at hN3
      have hB_s5_w107 := below_step hB_s5_w106 hX
      have hB_w106_w107 := below_step hB_w106_w106 hX
      have hB_w107_w107 := Below.refl w107.heap.size w107
      have hSsw107 := Cells.below hB_s5_w107 hSss5
      clear hX
      refine ⟨fun _ _ => hSsw107, ?_⟩
      try simp only [Act.put, rgA, rgB, rgC, rgD, rgE, rgF]
      refine wpAnyT_one (i := 4) (by kernel_rfl) rfl (by rfl) ?_
      have hbP : Below w5.heap.size w5 w107 := hB_0_s5.trans ((hB_s5_w107).mono hB_0_s5.size)
      have hq3 := ((hB_w107_w107).block _ (blk_lt hN3)).trans hN3
      have hip := HI5.out.below hbP
      have hst := set47 w107 hip cT (fun l h => by rw [show lkG [(cI, [cE, cR])] cT = none from by decide +kernel] at h; cases h) okT (by decide) (by decide) (some ⟨b3, 0, none⟩) 1 [cI] ((crow1 (x := cI) hq3).rd (fun k hk => by simp at hk; subst hk; exact okI) 1 (by decide) (by decide)) (fun b e => ⟨by rw [e]; exact blk_lt hq3, HI5.out.dom0 (by rw [e]; exact hge3)⟩)
      have hns : (lkG [(cI, [cE, cR])] cT).isSome = false := by decide +kernel
      unfold SetP at hst
      rw [hns] at hst
      have hcode : setCode false (setM ((fun _ => none : C4 → Option (List C4)) cI).isSome 0) cT [cI] = 0 := by decide +kernel
      rw [hcode] at hst
      unfold C4.v at hst
      simp only at hst
      refine wp_enter (f := 27) (args := #[.pointer (some ⟨p, 0, none⟩), .agg #[.int .i64 22, .int .i64 (-1), .int .i64 (-1), .int .i64 1], .slice (some ⟨b3, 0, none⟩) 1 1]) (by go_simp) hst ?_
      rintro e w108 ⟨rfl, -, h2⟩
      obtain ⟨hG6, F6, hF6, hI6⟩ := h2 (by first | rfl | trivial)
      rw [exG2] at hI6
      have HI6 := Lib.hid hI6
      have HF6 := Lib.hid (show ∀ b, b < w.heap.size → F6 b = 0 from fun b hb => by
        have h1 := HB5.out.size
        have h2 := hbP.size
        rw [hF6 b (by omega)]
        exact HF5.out b hb)
      have HZ6 := Lib.hid (blk_gr hG6 ((hbP.block _ (blk_lt HZ5.out)).trans HZ5.out) (fun e => e HD5.out.1))
      have HR6 := Lib.hid (blk_gr hG6 ((hbP.block _ (blk_lt HR5.out)).trans HR5.out) (fun e => e HD5.out.2))
      have hbx := below_step HB5.out hbP
      have HB6 := Lib.hid (show Below w.heap.size w w108 from hbx.trans (hG6.below (fun b e => by
        by_cases hb : w.heap.size ≤ b
        · exact hb
        · exact absurd (HF5.out b (by omega)) e) hbx.size))
      clear hbP hq3 hip hst hcode h2 hG6 hF6 hI6 hbx hns
      refine ⟨_, rfl, fun h => absurd h (by decide), ?_⟩
      try simp only [Act.put, rgA, rgB, rgC, rgD, rgE, rgF]
      refine wpAnyT_pure (i := 5) (v := ?_) rfl (by kernel_rfl) (by kernel_rfl) (by kernel_rfl) (fun _ _ _ h => h) (by rfl) ?_ ?_
      rotate_left
      · intro w; go_simp; try with_reducible rfl
      simp only [Act.put, rgA, rgB, rgC, rgD, rgE, rgF]
      refine wpAnyT_done (by kernel_rfl) ?_ _
      refine cut_leaf ?_ ?_
      focus kernel_rfl
      exact ⟨_, _, _, _, _, F6, rfl, HI6.out, HF6.out, HZ6.out, HR6.out, HB6.out⟩
    · skip
      obtain ⟨b3, hb3⟩ : ∃ b, s5.heap.size = b := ⟨_, rfl⟩
      have hge3 : w5.heap.size ≤ b3 := hb3 ▸ (hB_0_s5.trans ((hB_s5_s5).mono hB_0_s5.size)).size
      refine wp_newrow (v := .slice (some ⟨b3, 0, none⟩) 1 1) (cs := #[.int .i64 7, .int .i64 0, .int .i64 (-1), .int .i64 1]) (te := 38) (by rw [← hb3]; go_simp) ?_
      intro w109 hX hN3
      rw [hb3] at hN3
      have hB_s5_w109 := below_step hB_s5_s5 hX
      have hB_w109_w109 := Below.refl w109.heap.size w109
      have hSsw109 := Cells.below hB_s5_w109 hSss5
      clear hX
      refine ⟨fun _ _ => hSsw109, ?_⟩
      try simp only [Act.put, rgA, rgB, rgC, rgD, rgE, rgF]
      refine wpAnyT_one (i := 1) (by kernel_rfl) rfl (by rfl) ?_
      refine wp_enter (f := 30) (args := #[.int .i64 22, .int .i64 0, .int .i64 0, .int .i64 1]) (by go_simp) (HCT.out w109) ?_
      rintro e w110 ⟨rfl, hX⟩
      have hB_s5_w110 := below_step hB_s5_w109 hX
      have hB_w109_w110 := below_step hB_w109_w109 hX
      have hB_w110_w110 := Below.refl w110.heap.size w110
      have hSsw110 := Cells.below hB_s5_w110 hSss5
      clear hX
      refine ⟨_, rfl, fun _ _ => hSsw110, ?_⟩
      try simp only [Act.put, rgA, rgB, rgC, rgD, rgE, rgF]
      refine wpAnyT_one (i := 4) (by kernel_rfl) rfl (by rfl) ?_
      have hbP : Below w5.heap.size w5 w110 := hB_0_s5.trans ((hB_s5_w110).mono hB_0_s5.size)
      have hq3 := ((hB_w109_w110).block _ (blk_lt hN3)).trans hN3
      have hip := HI5.out.below hbP
      have hst := set47 w110 hip cT (fun l h => by rw [show lkG [(cI, [cE, cR])] cT = none from by decide +kernel] at h; cases h) okT (by decide) (by decide) (some ⟨b3, 0, none⟩) 1 [cI] ((crow1 (x := cI) hq3).rd (fun k hk => by simp at hk; subst hk; exact okI) 1 (by decide) (by decide)) (fun b e => ⟨by rw [e]; exact blk_lt hq3, HI5.out.dom0 (by rw [e]; exact hge3)⟩)
      have hns : (lkG [(cI, [cE, cR])] cT).isSome = false := by decide +kernel
      unfold SetP at hst
      rw [hns] at hst
      have hcode : setCode false (setM ((fun _ => none : C4 → Option (List C4)) cI).isSome 0) cT [cI] = 0 := by decide +kernel
      rw [hcode] at hst
      unfold C4.v at hst
      simp only at hst
      refine wp_enter (f := 27) (args := #[.pointer (some ⟨p, 0, none⟩), .agg #[.int .i64 22, .int .i64 (-1), .int .i64 (-1), .int .i64 1], .slice (some ⟨b3, 0, none⟩) 1 1]) (by go_simp) hst ?_
      rintro e w111 ⟨rfl, -, h2⟩
      obtain ⟨hG6, F6, hF6, hI6⟩ := h2 (by first | rfl | trivial)
      rw [exG2] at hI6
      have HI6 := Lib.hid hI6
      have HF6 := Lib.hid (show ∀ b, b < w.heap.size → F6 b = 0 from fun b hb => by
        have h1 := HB5.out.size
        have h2 := hbP.size
        rw [hF6 b (by omega)]
        exact HF5.out b hb)
      have HZ6 := Lib.hid (blk_gr hG6 ((hbP.block _ (blk_lt HZ5.out)).trans HZ5.out) (fun e => e HD5.out.1))
      have HR6 := Lib.hid (blk_gr hG6 ((hbP.block _ (blk_lt HR5.out)).trans HR5.out) (fun e => e HD5.out.2))
      have hbx := below_step HB5.out hbP
      have HB6 := Lib.hid (show Below w.heap.size w w111 from hbx.trans (hG6.below (fun b e => by
        by_cases hb : w.heap.size ≤ b
        · exact hb
        · exact absurd (HF5.out b (by omega)) e) hbx.size))
      clear hbP hq3 hip hst hcode h2 hG6 hF6 hI6 hbx hns
      refine ⟨_, rfl, fun h => absurd h (by decide), ?_⟩
      try simp only [Act.put, rgA, rgB, rgC, rgD, rgE, rgF]
      refine wpAnyT_pure (i := 5) (v := ?_) rfl (by kernel_rfl) (by kernel_rfl) (by kernel_rfl) (fun _ _ _ h => h) (by rfl) ?_ ?_
      rotate_left
      · intro w; go_simp; try with_reducible rfl
      simp only [Act.put, rgA, rgB, rgC, rgD, rgE, rgF]
      refine wpAnyT_done (by kernel_rfl) ?_ _
      refine cut_leaf ?_ ?_
      focus kernel_rfl
      exact ⟨_, _, _, _, _, F6, rfl, HI6.out, HF6.out, HZ6.out, HR6.out, HB6.out⟩
  rintro vs w6 ⟨v16, v17, v18, v19, v20, F6, rfl, hI6, hF6, hz6, hr6, hB6⟩
  simp only [puts, Act.put, List.setIfInBounds_toArray, List.set_cons_zero, List.set_cons_succ]
  clear hC1
  have HI6 := Lib.hid hI6
  have HZ6 := Lib.hid hz6
  have HR6 := Lib.hid hr6
  have HB6 := Lib.hid hB6
  have n0 := blk_cell hr6 0
  have n1 := blk_cell hr6 1
  have n2 := blk_cell hr6 2
  have n3 := blk_cell hr6 3
  simp only [List.getElem?_toArray, List.getElem?_cons_zero, List.getElem?_cons_succ] at n0 n1 n2 n3
  have hba := (Below.refl w6.heap.size w6).alloc (Nat.le_refl _) (.cells #[.int .i64 2, .int .i64 (-1), .int .i64 (-1), .int .i64 (-1)] 38)
  have hka := heap_alloc_new w6 (.cells #[.int .i64 2, .int .i64 (-1), .int .i64 (-1), .int .i64 (-1)] 38)
  have HAF := Lib.hid (affected47 (w6.alloc (.cells #[.int .i64 2, .int .i64 (-1), .int .i64 (-1), .int .i64 (-1)] 38)) (hI6.below hba) (U := [cI, cT]) (fun c d h => by
    obtain ⟨e, he, rfl, -⟩ := (rsOf_lkG exGI _ _).1 h
    simp at he
    rcases he with rfl | rfl <;> simp) (by decide) (some ⟨w6.heap.size, 0, none⟩) 1 [cR] ((crow1 (x := cR) hka).rd (fun k hk => by simp at hk; subst hk; exact okR) 1 (by decide) (by decide)) (fun b e => by rw [e]; exact blk_lt hka) (by decide))
  have HBA := Lib.hid (below_step hB6 hba)
  have HZA := Lib.hid ((hba.block _ (blk_lt hz6)).trans hz6)
  have HIA := Lib.hid (hI6.below hba)
  clear hI6 hz6 hr6 hB6 hF6 hba hka
  go_wp2_with fail
  refine HAF.out.mono ?_
  rintro e w7 ⟨v, ys, rfl, hys, hyo, hym, -, hsl, hB7⟩
  obtain rfl : ys = [cI, cT] := hys.ext (by decide +kernel) (fun x => by
    constructor
    · intro h
      exact (exAff x).2 ((hym x (hyo x h)).1 h)
    · intro h
      have ho : x.ok := by
        simp at h
        rcases h with rfl | rfl
        · exact okI
        · exact okT
      exact (hym x ho).2 ((exAff x).1 h))
  rcases hsl with ⟨-, h⟩ | ⟨g, gc, rfl, hgb, -, -, hrow, -⟩
  · cases h
  have HROW := Lib.hid hrow
  have HB7 := Lib.hid (below_step HBA.out hB7)
  have HI7 := Lib.hid (HIA.out.below hB7)
  have HZ7 := Lib.hid ((hB7.block _ (blk_lt HZA.out)).trans HZA.out)
  have hcs := hrow.cell 0 (by decide)
  simp only [List.getElem_cons_zero, Nat.zero_mul, Nat.zero_add] at hcs
  have hC2 : Cells [(⟨gb, 0, none⟩, .int .i64 7), (⟨gb, 1, none⟩, .int .i64 0), (⟨gb, 2, none⟩, .int .i64 (-1)), (⟨gb, 3, none⟩, .int .i64 1), (⟨g, 0, none⟩, .int .i64 7), (⟨g, 1, none⟩, .int .i64 0), (⟨g, 2, none⟩, .int .i64 (-1)), (⟨g, 3, none⟩, .int .i64 1)] w7 := ⟨blk_cell HZ7.out 0, blk_cell HZ7.out 1, blk_cell HZ7.out 2, blk_cell HZ7.out 3, hcs.1, hcs.2.1, hcs.2.2.1, hcs.2.2.2, trivial⟩
  have HCL := Lib.hid (fun W (hW : Below w7.heap.size w7 W) => cells47 W (HI7.out.below hW) (by decide))
  have heql := fun W => cell_eql W cI cI
  rw [show decide (cI = cI) = true from by decide] at heql
  unfold C4.v at heql
  simp only at heql
  clear hys hyo hym hB7 hcs hrow hgb n0 n1 n2 n3
  go_upto_region 6 with fail
  refine wp_region_T (Cells [(⟨gb, 0, none⟩, .int .i64 7), (⟨gb, 1, none⟩, .int .i64 0), (⟨gb, 2, none⟩, .int .i64 (-1)), (⟨gb, 3, none⟩, .int .i64 1), (⟨g, 0, none⟩, .int .i64 7), (⟨g, 1, none⟩, .int .i64 0), (⟨g, 2, none⟩, .int .i64 (-1)), (⟨g, 3, none⟩, .int .i64 1)]) (fun _ => false) (by kernel_rfl) ?_
  have hSss12 := Cells.drew hC2
  have hB_0_s12 : Below w7.heap.size w7 w7.drew := below_drew _
  generalize w7.drew = s12 at hSss12 hB_0_s12 ⊢
  have hB_s12_s12 := Below.refl s12.heap.size s12
  refine wpAnyT_pure (i := 0) (v := ?_) rfl (by kernel_rfl) (by kernel_rfl) (by kernel_rfl) (fun _ _ _ h => h) (by rfl) ?_ ?_
  rotate_left
  · intro w; go_simp; try with_reducible rfl
  simp only [Act.put, rgA, rgB, rgC, rgD, rgE, rgF]
  refine wpAnyT_pure (i := 1) (v := ?_) rfl (by kernel_rfl) (by kernel_rfl) (by kernel_rfl) (fun _ _ _ h => h) (by rfl) ?_ ?_
  rotate_left
  · intro w; go_simp; try with_reducible rfl
  simp only [Act.put, rgA, rgB, rgC, rgD, rgE, rgF]
  refine wpAnyT_pure (i := 2) (v := ?_) rfl (by kernel_rfl) (by kernel_rfl) (by kernel_rfl) (fun _ _ _ h => h) (by rfl) ?_ ?_
  rotate_left
  · intro w; go_simp; try with_reducible rfl
  simp only [Act.put, rgA, rgB, rgC, rgD, rgE, rgF]
  refine wpAnyT_pure (i := 3) (v := ?_) rfl (by kernel_rfl) (by kernel_rfl) (by kernel_rfl) (fun _ _ _ h => h) (by rfl) ?_ ?_
  rotate_left
  · intro w; go_simp; try with_reducible rfl
  simp only [Act.put, rgA, rgB, rgC, rgD, rgE, rgF]
  refine wpAnyT_pure (i := 4) (v := ?_) rfl (by kernel_rfl) (by kernel_rfl) (by kernel_rfl) (fun _ _ _ h => h) (by rfl) ?_ ?_
  rotate_left
  · intro w; go_simp; try with_reducible rfl
  simp only [Act.put, rgA, rgB, rgC, rgD, rgE, rgF]
  refine wpAnyT_pure (i := 5) (v := ?_) rfl (by kernel_rfl) (by kernel_rfl) (by kernel_rfl) (fun _ _ _ h => h) (by rfl) ?_ ?_
  rotate_left
  · intro w; go_simp; try with_reducible rfl
  simp only [Act.put, rgA, rgB, rgC, rgD, rgE, rgF]
  refine wpAnyT_pure (i := 6) (v := ?_) rfl (by kernel_rfl) (by kernel_rfl) (by kernel_rfl) (fun _ _ _ h => h) (by rfl) ?_ ?_
  rotate_left
  · intro w; go_simp; try with_reducible rfl
  simp only [Act.put, rgA, rgB, rgC, rgD, rgE, rgF]
  refine wpAnyT_pure (i := 7) (v := ?_) rfl (by kernel_rfl) (by kernel_rfl) (by kernel_rfl) (fun _ _ _ h => h) (by rfl) ?_ ?_
  rotate_left
  · intro w; go_simp; try with_reducible rfl
  simp only [Act.put, rgA, rgB, rgC, rgD, rgE, rgF]
  refine wpAnyT_pure (i := 8) (v := ?_) rfl (by kernel_rfl) (by kernel_rfl) (by kernel_rfl) (fun _ _ _ h => h) (by rfl) ?_ ?_
  rotate_left
  · intro w; go_simp; try with_reducible rfl
  simp only [Act.put, rgA, rgB, rgC, rgD, rgE, rgF]
  refine wpAnyT_pure (i := 9) (v := ?_) rfl (by kernel_rfl) (by kernel_rfl) (by kernel_rfl) (fun _ _ _ h => h) (by rfl) ?_ ?_
  rotate_left
  · intro w; go_simp; try with_reducible rfl
  simp only [Act.put, rgA, rgB, rgC, rgD, rgE, rgF]
  refine wpAnyT_pure (i := 10) (v := ?_) rfl (by kernel_rfl) (by kernel_rfl) (by kernel_rfl) (fun _ _ _ h => h) (by rfl) ?_ ?_
  rotate_left
  · intro w; go_simp; try with_reducible rfl
  simp only [Act.put, rgA, rgB, rgC, rgD, rgE, rgF]
  refine wpAnyT_pure (i := 11) (v := ?_) rfl (by kernel_rfl) (by kernel_rfl) (by kernel_rfl) (fun _ _ _ h => h) (by rfl) ?_ ?_
  rotate_left
  · intro w; go_simp; try with_reducible rfl
  simp only [Act.put, rgA, rgB, rgC, rgD, rgE, rgF]
  refine wpAnyT_pure (i := 12) (v := ?_) rfl (by kernel_rfl) (by kernel_rfl) (by kernel_rfl) (fun _ _ _ h => h) (by rfl) ?_ ?_
  rotate_left
  · intro w; go_simp; try with_reducible rfl
  simp only [Act.put, rgA, rgB, rgC, rgD, rgE, rgF]
  refine wpAnyT_pure (i := 13) (v := ?_) rfl (by kernel_rfl) (by kernel_rfl) (by kernel_rfl) (fun _ _ _ h => h) (by rfl) ?_ ?_
  rotate_left
  · intro w; go_simp; try with_reducible rfl
  simp only [Act.put, rgA, rgB, rgC, rgD, rgE, rgF]
  refine wpAnyT_loadW (i := 14) (v := ?_) rfl (by kernel_rfl) (by kernel_rfl) (by kernel_rfl) (by kernel_rfl) (by kernel_rfl) (fun _ _ _ h => h) (Or.inl ⟨by rfl, ?_⟩) hSss12 ?_
  rotate_left
  · intro w hSw; obtain ⟨e0, e1, e2, e3, e4, e5, e6, e7, -⟩ := hSw; go_simp; try with_reducible rfl
  simp only [Act.put, rgA, rgB, rgC, rgD, rgE, rgF]
  refine wpAnyT_loadW (i := 15) (v := ?_) rfl (by kernel_rfl) (by kernel_rfl) (by kernel_rfl) (by kernel_rfl) (by kernel_rfl) (fun _ _ _ h => h) (Or.inl ⟨by rfl, ?_⟩) hSss12 ?_
  rotate_left
  · intro w hSw; obtain ⟨e0, e1, e2, e3, e4, e5, e6, e7, -⟩ := hSw; go_simp; try with_reducible rfl
  simp only [Act.put, rgA, rgB, rgC, rgD, rgE, rgF]
  refine wpAnyT_pure (i := 16) (v := ?_) rfl (by kernel_rfl) (by kernel_rfl) (by kernel_rfl) (fun _ _ _ h => h) (by rfl) ?_ ?_
  rotate_left
  · intro w; go_simp; try with_reducible rfl
  simp only [Act.put, rgA, rgB, rgC, rgD, rgE, rgF]
  refine wpAnyT_pure (i := 17) (v := ?_) rfl (by kernel_rfl) (by kernel_rfl) (by kernel_rfl) (fun _ _ _ h => h) (by rfl) ?_ ?_
  rotate_left
  · intro w; go_simp; try with_reducible rfl
  simp only [Act.put, rgA, rgB, rgC, rgD, rgE, rgF]
  refine wpAnyT_pure (i := 18) (v := ?_) rfl (by kernel_rfl) (by kernel_rfl) (by kernel_rfl) (fun _ _ _ h => h) (by rfl) ?_ ?_
  rotate_left
  · intro w; go_simp; try with_reducible rfl
  simp only [Act.put, rgA, rgB, rgC, rgD, rgE, rgF]
  refine wpAnyT_pure (i := 19) (v := ?_) rfl (by kernel_rfl) (by kernel_rfl) (by kernel_rfl) (fun _ _ _ h => h) (by rfl) ?_ ?_
  rotate_left
  · intro w; go_simp; try with_reducible rfl
  simp only [Act.put, rgA, rgB, rgC, rgD, rgE, rgF]
  refine wpAnyT_one (i := 20) (by kernel_rfl) rfl (by rfl) ?_
  have hbP : Below w7.heap.size w7 s12 := hB_0_s12.trans ((hB_s12_s12).mono hB_0_s12.size)
  refine wp_enter (f := 16) (args := #[.pointer (some ⟨p, 0, none⟩)]) (by go_simp) (HCL.out s12 hbP) ?_
  rintro e w113 ⟨v8, zs, rfl, hzs, hzo, hzm, -, hsl8, hX⟩
  obtain rfl : zs = [cE, cR, cI, cT] := exCells ▸ hzs.ext (srt_srtC _) (fun x => by
    constructor
    · intro h
      exact (mem_cellsG exGI).2 ((hzm x (hzo x h)).1 h)
    · intro h
      exact (hzm x (cellsG_ok exGI h)).2 ((mem_cellsG exGI).1 h))
  obtain ⟨va, vc, rfl⟩ := hsl8.form
  simp only [List.length_cons, List.length_nil, Nat.zero_add, Nat.reduceAdd]
  clear hzs hzo hzm hsl8 hbP
  have hB_s12_w113 := below_step hB_s12_s12 hX
  have hB_w113_w113 := Below.refl w113.heap.size w113
  have hSsw113 := Cells.below hB_s12_w113 hSss12
  clear hX
  refine ⟨_, rfl, fun _ _ => hSsw113, ?_⟩
  try simp only [Act.put, rgA, rgB, rgC, rgD, rgE, rgF]
  refine wpAnyT_pure (i := 21) (v := ?_) rfl (by kernel_rfl) (by kernel_rfl) (by kernel_rfl) (fun _ _ _ h => h) (by rfl) ?_ ?_
  rotate_left
  · intro w; go_simp; try with_reducible rfl
  simp only [Act.put, rgA, rgB, rgC, rgD, rgE, rgF]
  refine wpAnyT_pure (i := 22) (v := ?_) rfl (by kernel_rfl) (by kernel_rfl) (by kernel_rfl) (fun _ _ _ h => h) (by rfl) ?_ ?_
  rotate_left
  · intro w; go_simp; try with_reducible rfl
  simp only [Act.put, rgA, rgB, rgC, rgD, rgE, rgF]
  refine wpAnyT_pure (i := 23) (v := ?_) rfl (by kernel_rfl) (by kernel_rfl) (by kernel_rfl) (fun _ _ _ h => h) (by rfl) ?_ ?_
  rotate_left
  · intro w; go_simp; try with_reducible rfl
  simp only [Act.put, rgA, rgB, rgC, rgD, rgE, rgF]
  refine wpAnyT_pure (i := 24) (v := ?_) rfl (by kernel_rfl) (by kernel_rfl) (by kernel_rfl) (fun _ _ _ h => h) (by rfl) ?_ ?_
  rotate_left
  · intro w; go_simp; try with_reducible rfl
  simp only [Act.put, rgA, rgB, rgC, rgD, rgE, rgF]
  refine wpAnyT_done (by kernel_rfl) ?_ _
  have HBP := Lib.hid (HB7.out.trans ((hB_0_s12.trans ((hB_s12_w113).mono (hB_0_s12).size)).mono HB7.out.size))
  go_wp2_with fail
  go_ret
  exact ⟨rfl, HBP.out⟩
end Go.Proofs.Ytoimbhdjhhmonaa
