/- Layer 47: visit. -/
import Derived.Test.YtoimbhdjhhmonaaD47r
set_option linter.unusedSimpArgs false
namespace Go.Proofs.Ytoimbhdjhhmonaa
open Go.RowKit Go

theorem wp_rangeG2 {P : Program} {k e t : TypeId} {κ α : Type} {Ks : KeyS P k κ} {Es : ElS P e α} {f : κ → Option α} {o : Oper} {a : Act} {w : World} {K : Act → World → Prop} {Q : Exit → Act → World → Prop} {b m r : Nat} (m0 : Operand) (hop : o.op = Op.range t m0) (ht : P.underlying t = some (.map k e)) (hm : a.eval m0 = .map (some b)) (h : MapG Ks Es w b m f) (hr : w.heap.size = r)
    (hK : ∀ w', RgG Ks Es w' b r m f (fun x => (f x).isSome) m → w.grownBy w' none → w'.heap.size = r + 1 → K (a.put o.dst (.pointer (some ⟨r, 0, none⟩))) w') : o.wp P a w K Q := by
  subst hr
  exact wp_rangeG1 m0 hop ht hm h hK
theorem wp_rangeN {P : Program} {k e t : TypeId} {o : Oper} {a : Act} {w : World} {K : Act → World → Prop} {Q : Exit → Act → World → Prop} {r : Nat} (m0 : Operand) (hop : o.op = Op.range t m0) (ht : P.underlying t = some (.map k e)) (hm : a.eval m0 = .map none) (hr : w.heap.size = r)
    (hK : ∀ w', Below w.heap.size w w' → (∀ ty, (Instr.next (.pointer (some ⟨r, 0, none⟩)) false ty).run P w' = .ok (.tuple #[.bool false]) w') → K (a.put o.dst (.pointer (some ⟨r, 0, none⟩))) w') : o.wp P a w K Q := by
  subst hr
  have hrun := run_range_nilMap (P := P) w t k e ht
  unfold Oper.wp
  simp [execOp, hop, hm, hrun, Result.andThen]
  exact hK _ ((Below.refl _ w).alloc (Nat.le_refl _) _) (fun ty => run_next_nilMap w ty 0 0 #[])
theorem boolE_v (u : Value) (y : DataW Unit × List MemPlace) (h : boolE.R u = some y) : ∃ c, u = boolE.v c := boolE_val u y h
theorem setF_some {s : C4 → Bool} {x : C4} {c : Bool} (h : setF s x = some c) : s x = true := by
  unfold setF at h
  by_cases e : s x = true
  · exact e
  · rw [if_neg e] at h; cases h
theorem setF_add (s : C4 → Bool) (x y : C4) : setF (fun y => s y || decide (y = x)) y = if y = x then some true else setF s y := by
  unfold setF
  by_cases e : y = x
  · simp [e]
  · simp [e]
theorem fr_mono {a b : C4 → Bool} (h : ∀ x, a x = true → b x = true) (U : List C4) : fr U b ≤ fr U a := by
  unfold fr
  induction U with
  | nil => simp
  | cons x l ih =>
    rw [List.filter_cons, List.filter_cons]
    cases ha : a x with
    | true => simp [h x ha]; exact ih
    | false => cases hb : b x <;> simp <;> omega
theorem wpList_nextS {s : C4 → Bool} {w : World} {b r m cnt : Nat} {left : C4 → Bool} {ops : Array Oper} {rest : List Oper} {o : Oper} {a : Act} {Q : Exit → Act → World → Prop} (hg : o.guard = none) (it : Operand) (hop : o.op = Op.next it false) (hit : a.eval it = .pointer (some ⟨r, 0, none⟩)) (h : RgG cellK boolE w b r m (setF s) left cnt)
    (hDone : (∀ x : C4, x.ok → left x = false) → wpList Try.prog ops Q rest (a.put o.dst (.tuple #[.bool false])) w)
    (hMore : ∀ (x : C4) (w' : World) (cnt' : Nat), x.ok → s x = true → left x = true → RgG cellK boolE w' b r m (setF s) (fun z => left z && !decide (z = x)) cnt' → cnt' < cnt →
      w.grownBy w' (some r) → w'.heap.size = w.heap.size → Sem.run Try.prog (Instr.entry (.pointer (some ⟨r, 0, none⟩))) w' = .ok (.tuple #[x.v, .bool true]) w' → wpList Try.prog ops Q rest (a.put o.dst (.tuple #[.bool true, x.v, .bool true])) w') :
    wpList Try.prog ops Q (o :: rest) a w := by
  refine wpList_nextG hg it hop hit h keyOf_inv47 (fun x y => C4.v_inj) boolE_v hDone ?_
  intro x c w' cnt' h1 h2 h3 h4 h5 h6 h7 h8
  have hs := setF_some h2
  unfold setF at h2
  rw [if_pos hs] at h2
  cases h2
  exact hMore x w' cnt' h1 hs h3 h4 h5 h6 h7 h8
set_option maxRecDepth 20000 in
set_option maxHeartbeats 2000000 in
theorem visit_step {F : Nat → Nat} {p mr ms nn K : Nat} {rd : C4 → Option (List C4)} {U : List C4} {N gB sB vB sb : Nat} (hFs : F sb = 0) (hU : ∀ c d, rsOf rd c d = true → d ∈ U) (hNN : N ≤ 1000000) (n : Nat) (IH : VisC F p mr ms nn K rd U N gB sB vB sb n) : VisC F p mr ms nn K rd U N gB sB vB sb (n + 1) := by
  intro w c vis m hc hI hV hM hN hfr
  have HIH := Lib.hid IH
  have HU := Lib.hid hU
  have HFS := Lib.hid hFs
  have HNN := Lib.hid hNN
  obtain ⟨c1, c2, c3, c4⟩ := c
  have HI := Lib.hid hI
  have HC := Lib.hid hc
  have HV := Lib.hid hV
  have HM := Lib.hid hM
  have HN := Lib.hid hN
  have HFR := Lib.hid hfr
  have hB := (Below.refl w.heap.size w).alloc (Nat.le_refl _) (.cells #[.int .i64 c1, .int .i64 c2, .int .i64 c3, .int .i64 c4] 38)
  have hkb := heap_alloc_new w (.cells #[.int .i64 c1, .int .i64 c2, .int .i64 c3, .int .i64 c4] 38)
  have h' := hI.below hB
  have hV1 := hV.below hB
  have HB := Lib.hid hB
  obtain ⟨k, sl, ib, hD, hne⟩ := h'
  have HD := Lib.hid hD
  have hC0 : Cells [(⟨gB, 0, none⟩, .pointer (some ⟨p, 0, none⟩)), (⟨p, 1, none⟩, .map (some ms)), (⟨w.heap.size, 0, none⟩, .int .i64 c1), (⟨w.heap.size, 1, none⟩, .int .i64 c2), (⟨w.heap.size, 2, none⟩, .int .i64 c3), (⟨w.heap.size, 3, none⟩, .int .i64 c4)] (w.alloc (.cells #[.int .i64 c1, .int .i64 c2, .int .i64 c3, .int .i64 c4] 38)) := ⟨blk_cell hV1.g 0, blk_cell hD.row 1, blk_cell hkb 0, blk_cell hkb 1, blk_cell hkb 2, blk_cell hkb 3, trivial⟩
  obtain ⟨iq, hiq⟩ : ∃ iq, ib ⟨c1, c2, c3, c4⟩ = iq := ⟨_, rfl⟩
  have HIB := Lib.hid hiq
  clear hB hkb hc hI hV hM hN hfr hV1 hD hne hiq IH hU hFs hNN
  unfold C4.v
  simp only
  go_enter Try.func34, Try.ntmps34
  go_upto_region 1 with fail
  generalize World.alloc _ _ = w1 at *
  cases iq with
  | none =>
    refine wp_region_T (Cells [(⟨gB, 0, none⟩, .pointer (some ⟨p, 0, none⟩)), (⟨p, 1, none⟩, .map (some ms)), (⟨w.heap.size, 0, none⟩, .int .i64 c1), (⟨w.heap.size, 1, none⟩, .int .i64 c2), (⟨w.heap.size, 2, none⟩, .int .i64 c3), (⟨w.heap.size, 3, none⟩, .int .i64 c4)]) (fun i => i == 6) (by kernel_rfl) ?_
    have hSss1 := Cells.drew hC0
    have hB_0_s1 : Below w1.heap.size w1 w1.drew := below_drew _
    generalize w1.drew = s1 at hSss1 hB_0_s1 ⊢
    have hB_s1_s1 := Below.refl s1.heap.size s1
    refine wpAnyT_loadW (i := 0) (v := ?_) rfl (by kernel_rfl) (by kernel_rfl) (by kernel_rfl) (by kernel_rfl) (by kernel_rfl) (fun _ _ _ h => h) (Or.inl ⟨by rfl, ?_⟩) hSss1 ?_
    rotate_left
    · intro w hSw; obtain ⟨e0, e1, e2, e3, e4, e5, -⟩ := hSw; go_simp; try with_reducible rfl
    simp only [Act.put, rgA, rgB, rgC, rgD, rgE, rgF]
    refine wpAnyT_pure (i := 1) (v := ?_) rfl (by kernel_rfl) (by kernel_rfl) (by kernel_rfl) (fun _ _ _ h => h) (by rfl) ?_ ?_
    rotate_left
    · intro w; go_simp; try with_reducible rfl
    simp only [Act.put, rgA, rgB, rgC, rgD, rgE, rgF]
    refine wpAnyT_pure (i := 2) (v := ?_) rfl (by kernel_rfl) (by kernel_rfl) (by kernel_rfl) (fun _ _ _ h => h) (by rfl) ?_ ?_
    rotate_left
    · intro w; go_simp; try with_reducible rfl
    simp only [Act.put, rgA, rgB, rgC, rgD, rgE, rgF]
    refine wpAnyT_loadW (i := 3) (v := ?_) rfl (by kernel_rfl) (by kernel_rfl) (by kernel_rfl) (by kernel_rfl) (by kernel_rfl) (fun _ _ _ h => h) (Or.inl ⟨by rfl, ?_⟩) hSss1 ?_
    rotate_left
    · intro w hSw; obtain ⟨e0, e1, e2, e3, e4, e5, -⟩ := hSw; go_simp; try with_reducible rfl
    simp only [Act.put, rgA, rgB, rgC, rgD, rgE, rgF]
    refine wpAnyT_loadW (i := 4) (v := ?_) rfl (by kernel_rfl) (by kernel_rfl) (by kernel_rfl) (by kernel_rfl) (by kernel_rfl) (fun _ _ _ h => h) (Or.inl ⟨by rfl, ?_⟩) hSss1 ?_
    rotate_left
    · intro w hSw; obtain ⟨e0, e1, e2, e3, e4, e5, -⟩ := hSw; go_simp; try with_reducible rfl
    simp only [Act.put, rgA, rgB, rgC, rgD, rgE, rgF]
    refine wpAnyT_one (i := 5) (by kernel_rfl) rfl (by rfl) ?_
    have hlk := (HD.out.below (hB_0_s1.trans ((hB_s1_s1).mono (hB_0_s1).size))).lookS ⟨c1, c2, c3, c4⟩ HC.out
    rw [HIB.out] at hlk
    change Sem.run Try.prog (Instr.lookup 60 (.map (some ms)) (.agg #[.int .i64 c1, .int .i64 c2, .int .i64 c3, .int .i64 c4]) false) s1 = _ at hlk
    refine wp_value (v := .map none) (w' := s1) (by go_simp) ?_
    clear hlk
    refine ⟨fun _ h => h, ?_⟩
    try simp only [Act.put, rgA, rgB, rgC, rgD, rgE, rgF]
    refine wpAnyT_one (i := 6) (by kernel_rfl) rfl (by rfl) ?_
    have hbP : Below w1.heap.size w1 s1 := hB_0_s1.trans ((hB_s1_s1).mono (hB_0_s1).size)
    obtain ⟨r0, hr0⟩ : ∃ r0, s1.heap.size = r0 := ⟨_, rfl⟩
    refine wp_rangeN (.tmp 11) rfl Try.underlying57 (by kernel_rfl) hr0 ?_
    intro w102 hN1 hnx
    have hbN : Below w1.heap.size w1 w102 := hbP.trans (hN1.mono hbP.size)
    clear hN1 hbP hr0
    refine ⟨fun h => absurd h (by decide), ?_⟩
    try simp only [Act.put, rgA, rgB, rgC, rgD, rgE, rgF]
    refine wpAnyT_done (by kernel_rfl) ?_ _
    obtain ⟨w2, rfl⟩ : ∃ x, x = w102 := ⟨_, rfl⟩
    have HBN := Lib.hid (below_step HB.out hbN)
    clear hbN hC0
    have HNO := Lib.hid (show ∀ d, rsOf rd ⟨c1, c2, c3, c4⟩ d = true → vis d = true from fun d hd => by
      have h1 := (HD.out.okr _ d hd).1
      rw [HIB.out] at h1
      cases h1)
    go_wp2_with fail
    go_loopw [5] (fun _ wr => wr = w2) (fun _ _ => 0)
    case atStart => rfl
    subst hrel
    go_wp2_with fail
    go_end0
    exact ⟨rfl, Gr.of_below HBN.out, m, vis, HM.out.below HBN.out, HN.out, fun x h => h, HNO.out, fun x h h' => by rw [h] at h'; cases h'⟩
  | some b =>
    obtain ⟨-, cn, hcn, hbm⟩ := HD.out.inn _ _ HIB.out
    have HBM := Lib.hid hbm
    have HBF := Lib.hid (show F b ≠ 0 from by rw [(HD.out.inn _ _ HIB.out).1]; decide)
    clear hbm hcn
    refine wp_region_T (Cells [(⟨gB, 0, none⟩, .pointer (some ⟨p, 0, none⟩)), (⟨p, 1, none⟩, .map (some ms)), (⟨w.heap.size, 0, none⟩, .int .i64 c1), (⟨w.heap.size, 1, none⟩, .int .i64 c2), (⟨w.heap.size, 2, none⟩, .int .i64 c3), (⟨w.heap.size, 3, none⟩, .int .i64 c4)]) (fun i => i == 6) (by kernel_rfl) ?_
    have hSss3 := Cells.drew hC0
    have hB_0_s3 : Below w1.heap.size w1 w1.drew := below_drew _
    generalize w1.drew = s3 at hSss3 hB_0_s3 ⊢
    have hB_s3_s3 := Below.refl s3.heap.size s3
    refine wpAnyT_loadW (i := 0) (v := ?_) rfl (by kernel_rfl) (by kernel_rfl) (by kernel_rfl) (by kernel_rfl) (by kernel_rfl) (fun _ _ _ h => h) (Or.inl ⟨by rfl, ?_⟩) hSss3 ?_
    rotate_left
    · intro w hSw; obtain ⟨e0, e1, e2, e3, e4, e5, -⟩ := hSw; go_simp; try with_reducible rfl
    simp only [Act.put, rgA, rgB, rgC, rgD, rgE, rgF]
    refine wpAnyT_pure (i := 1) (v := ?_) rfl (by kernel_rfl) (by kernel_rfl) (by kernel_rfl) (fun _ _ _ h => h) (by rfl) ?_ ?_
    rotate_left
    · intro w; go_simp; try with_reducible rfl
    simp only [Act.put, rgA, rgB, rgC, rgD, rgE, rgF]
    refine wpAnyT_pure (i := 2) (v := ?_) rfl (by kernel_rfl) (by kernel_rfl) (by kernel_rfl) (fun _ _ _ h => h) (by rfl) ?_ ?_
    rotate_left
    · intro w; go_simp; try with_reducible rfl
    simp only [Act.put, rgA, rgB, rgC, rgD, rgE, rgF]
    refine wpAnyT_loadW (i := 3) (v := ?_) rfl (by kernel_rfl) (by kernel_rfl) (by kernel_rfl) (by kernel_rfl) (by kernel_rfl) (fun _ _ _ h => h) (Or.inl ⟨by rfl, ?_⟩) hSss3 ?_
    rotate_left
    · intro w hSw; obtain ⟨e0, e1, e2, e3, e4, e5, -⟩ := hSw; go_simp; try with_reducible rfl
    simp only [Act.put, rgA, rgB, rgC, rgD, rgE, rgF]
    refine wpAnyT_loadW (i := 4) (v := ?_) rfl (by kernel_rfl) (by kernel_rfl) (by kernel_rfl) (by kernel_rfl) (by kernel_rfl) (fun _ _ _ h => h) (Or.inl ⟨by rfl, ?_⟩) hSss3 ?_
    rotate_left
    · intro w hSw; obtain ⟨e0, e1, e2, e3, e4, e5, -⟩ := hSw; go_simp; try with_reducible rfl
    simp only [Act.put, rgA, rgB, rgC, rgD, rgE, rgF]
    refine wpAnyT_one (i := 5) (by kernel_rfl) rfl (by rfl) ?_
    have hlk := (HD.out.below (hB_0_s3.trans ((hB_s3_s3).mono (hB_0_s3).size))).lookS ⟨c1, c2, c3, c4⟩ HC.out
    rw [HIB.out] at hlk
    change Sem.run Try.prog (Instr.lookup 60 (.map (some ms)) (.agg #[.int .i64 c1, .int .i64 c2, .int .i64 c3, .int .i64 c4]) false) s3 = _ at hlk
    refine wp_value (v := .map (some b)) (w' := s3) (by go_simp) ?_
    clear hlk
    refine ⟨fun _ h => h, ?_⟩
    try simp only [Act.put, rgA, rgB, rgC, rgD, rgE, rgF]
    refine wpAnyT_one (i := 6) (by kernel_rfl) rfl (by rfl) ?_
    have hbP : Below w1.heap.size w1 s3 := hB_0_s3.trans ((hB_s3_s3).mono (hB_0_s3).size)
    obtain ⟨r0, hr0⟩ : ∃ r0, s3.heap.size = r0 := ⟨_, rfl⟩
    have hwr0 : w1.heap.size ≤ r0 := hr0 ▸ hbP.size
    refine wp_rangeG2 (Ks := cellK) (Es := boolE) (.tmp 11) rfl Try.underlying57 (by kernel_rfl) (HBM.out.below hbP) hr0 ?_
    intro w104 hrg0 hg0 hs0
    have hbN : Below w1.heap.size w1 w104 := hbP.grown hg0 hbP.size (fun c hc => by cases hc)
    clear hg0 hbP hr0
    refine ⟨fun h => absurd h (by decide), ?_⟩
    try simp only [Act.put, rgA, rgB, rgC, rgD, rgE, rgF]
    refine wpAnyT_done (by kernel_rfl) ?_ _
    obtain ⟨w2, rfl⟩ : ∃ x, x = w104 := ⟨_, rfl⟩
    have HRG := Lib.hid hrg0
    have HBN := Lib.hid (below_step HB.out hbN)
    have HW0 := Lib.hid (show w.heap.size ≤ r0 from Nat.le_trans HB.out.size hwr0)
    clear hrg0 hbN hs0 hC0 hwr0
    have hsbw : sb < w.heap.size := HM.out.lt
    have HSB := Lib.hid hsbw
    have HBb := Lib.hid (show b ≠ sb ∧ b < w.heap.size from ⟨fun e => HBF.out (e ▸ HFS.out), by
      obtain ⟨k', sl', ib', hD', -⟩ := HI.out
      exact hD'.dom b HBF.out⟩)
    have HCOK := Lib.hid (show ∀ d, rsOf rd ⟨c1, c2, c3, c4⟩ d = true → d.ok from fun d hd => (HD.out.okr _ d hd).2)
    have hr0 := HW0.out
    go_wp2_with fail
    go_loopw [5] (fun _ wr => ∃ (left : C4 → Bool) (cnt : Nat) (visj : C4 → Bool) (mj : Nat), RgG cellK boolE wr b r0 cn (setF (rsOf rd ⟨c1, c2, c3, c4⟩)) left cnt ∧ MapG cellK boolE wr sb mj (setF visj) ∧ mj + fr U visj ≤ N ∧ fr U visj ≤ fr U vis ∧ (∀ x, vis x = true → visj x = true) ∧ (∀ d, rsOf rd ⟨c1, c2, c3, c4⟩ d = true → left d = false → visj d = true) ∧ (∀ x, visj x = true → vis x = false → Rch (rsOf rd) ⟨c1, c2, c3, c4⟩ x ∧ ∀ d, rsOf rd x d = true → visj d = true) ∧ Gr (fun b => b = sb) w wr) (fun _ wr => wr.rangeLeft b r0)
    case atStart =>
      exact ⟨_, _, vis, m, HRG.out, HM.out.below HBN.out, HN.out, Nat.le_refl _, fun x h => h, (fun d hd hl => by rw [setF_isSome, hd] at hl; cases hl), (fun x h h' => by rw [h] at h'; cases h'), Gr.of_below HBN.out⟩
    obtain ⟨left, cnt, visj, mj, hrg, hmj, hmN, hfj, hmono, hleft, hnew, hG⟩ := hrel
    have HRGr := Lib.hid hrg
    have HMJ := Lib.hid hmj
    have HMN := Lib.hid hmN
    have HFJ := Lib.hid hfj
    have HMO := Lib.hid hmono
    have HLF := Lib.hid hleft
    have HNW := Lib.hid hnew
    have HG := Lib.hid hG
    clear hrg hmj hmN hfj hmono hleft hnew hG HRG hsbw
    go_wp2_with (first | (at_next; go_must (refine wpList_nextS rfl _ rfl rfl HRGr.out ?_ ?_)) | go_in)
    · intro hl0
      have HALL := Lib.hid (show ∀ d, rsOf rd ⟨c1, c2, c3, c4⟩ d = true → visj d = true from fun d hd => HLF.out d hd (hl0 d (HCOK.out d hd)))
      clear hl0
      go_wp2_with fail
      go_end0
      exact ⟨rfl, HG.out, mj, visj, HMJ.out, HMN.out, HMO.out, HALL.out, HNW.out⟩
    · intro x wx cnt2 hok hfx hlx hrg2 hlt hg2 hs2 hen
      obtain ⟨x1, x2, x3, x4⟩ := x
      unfold C4.v at hen ⊢
      simp only at hen ⊢
      have hGx : Gr (fun b => b = sb) w wx := HG.out.trans (Gr.of_grown hg2) (fun y e => .inr (by have := Option.some.inj e; omega))
      have hmx := HMJ.out.gr (Gr.of_grown hg2) (fun e => by have := Option.some.inj e; have := HSB.out; omega)
      have hBa := (Below.refl wx.heap.size wx).alloc (Nat.le_refl _) (.cells #[.int .i64 x1, .int .i64 x2, .int .i64 x3, .int .i64 x4] 38)
      have hqb := heap_alloc_new wx (.cells #[.int .i64 x1, .int .i64 x2, .int .i64 x3, .int .i64 x4] 38)
      have HGa := Lib.hid (hGx.step hBa)
      have HMa := Lib.hid (hmx.below hBa)
      have HRGa := Lib.hid (hrg2.below hBa)
      have HVa := Lib.hid (HV.out.gr (hGx.step hBa))
      have HX := Lib.hid hok
      have HFX := Lib.hid hfx
      have HLT := Lib.hid hlt
      have HQB := Lib.hid hqb
      have HXS := Lib.hid (show sb < wx.heap.size from Nat.lt_of_lt_of_le HSB.out hGx.size)
      have HR0 := Lib.hid (show r0 ≠ sb from by have := HSB.out; omega)
      have y0 := blk_cell HVa.out.s 0
      have k0 := blk_cell hqb 0
      have k1 := blk_cell hqb 1
      have k2 := blk_cell hqb 2
      have k3 := blk_cell hqb 3
      simp only [List.getElem?_toArray, List.getElem?_cons_zero, List.getElem?_cons_succ] at k0 k1 k2 k3 y0
      clear hGx hmx hBa hqb hok hfx hlx hrg2 hlt hg2 hs2
      go_upto_region 4 with fail
      generalize World.alloc _ _ = wa at *
      obtain ⟨vx, hvx⟩ : ∃ vx, visj ⟨x1, x2, x3, x4⟩ = vx := ⟨_, rfl⟩
      have HVX := Lib.hid hvx
      have hlk : Sem.run Try.prog (Instr.lookup 57 (.map (some sb)) (.agg #[.int .i64 x1, .int .i64 x2, .int .i64 x3, .int .i64 x4]) false) wa = .ok (.bool vx) wa := by
        have := HMa.out.look1 Try.underlying57 ⟨x1, x2, x3, x4⟩ HX.out
        refine Eq.trans this ?_
        subst hvx
        unfold setF
        cases visj ⟨x1, x2, x3, x4⟩ <;> rfl
      clear hvx
      cases vx with
      | true =>
        go_wp2_with fail
        go_roundw
        case rel =>
          refine ⟨_, cnt2, visj, mj, HRGa.out, HMa.out, HMN.out, HFJ.out, HMO.out, fun d hd hl => ?_, HNW.out, HGa.out⟩
          by_cases e : d = ⟨x1, x2, x3, x4⟩
          · rw [e]; exact HVX.out
          · exact HLF.out d hd (by simpa [e] using hl)
        case measure => rw [HRGa.out.left_eq, HRGr.out.left_eq]; exact HLT.out
      | false =>
        obtain ⟨wb, hrun, hM4, hT⟩ := HMa.out.store Try.underlying57 (by have := HMN.out; have := HNN.out; simp [maxLen]; omega) ⟨x1, x2, x3, x4⟩ HX.out true trivial
        change Sem.run Try.prog (Instr.mapUpdate 57 (.map (some sb)) (.agg #[.int .i64 x1, .int .i64 x2, .int .i64 x3, .int .i64 x4]) (.bool true)) wa = _ at hrun
        have hfl : fr U (fun y => visj y || decide (y = (⟨x1, x2, x3, x4⟩ : C4))) < fr U visj := fr_lt HVX.out (HU.out _ _ HFX.out)
        have hGb := HGa.out.trans (Gr.of_turned hT) (fun y e => .inl e)
        have hMb := hM4.congr (g := setF (fun y => visj y || decide (y = (⟨x1, x2, x3, x4⟩ : C4)))) (fun y _ => setF_add visj _ y)
        have hmb : (if (setF visj ⟨x1, x2, x3, x4⟩).isSome = true then mj else mj + 1) + fr U (fun y => visj y || decide (y = (⟨x1, x2, x3, x4⟩ : C4))) ≤ N := by
          have := HMN.out
          split <;> omega
        have hqb := blk_gr (Gr.of_turned hT) HQB.out (by have := HXS.out; omega)
        have hrgb := HRGa.out.gr (Gr.of_turned hT) (fun e => HBb.out.1 e) (fun e => HR0.out e)
        have hvb := HV.out.gr hGb
        have hib := HI.out.gr hGb (fun y hy e => hy (e ▸ HFS.out))
        have hih := HIH.out wb ⟨x1, x2, x3, x4⟩ _ _ HX.out hib hvb hMb hmb (by have := HFJ.out; have := HFR.out; omega)
        unfold C4.v at hih
        simp only at hih
        have HIHb := Lib.hid hih
        have HVb := Lib.hid hvb
        have HQb := Lib.hid hqb
        have HRGb := Lib.hid hrgb
        have HGb := Lib.hid hGb
        clear hfl hGb hMb hmb hqb hrgb hvb hib hih hM4 hT
        go_upto_region 6 with fail
        have z0 := blk_cell HVb.out.v 0
        have q0 := blk_cell HQb.out 0
        have q1 := blk_cell HQb.out 1
        have q2 := blk_cell HQb.out 2
        have q3 := blk_cell HQb.out 3
        simp only [List.getElem?_toArray, List.getElem?_cons_zero, List.getElem?_cons_succ] at q0 q1 q2 q3 z0
        clear k0 k1 k2 k3 y0 hlk hrun
        go_wp2_with (go_at_call 34; refine HIHb.out.mono ?_; rintro e wz ⟨rfl, hGz, mz, visz, hMz, hNz, hmo, hrd, hnw⟩; have HGz := Lib.hid hGz; have HMz := Lib.hid hMz; have HNz := Lib.hid hNz; have HMOz := Lib.hid hmo; have HRDz := Lib.hid hrd; have HNWz := Lib.hid hnw; clear hGz hMz hNz hmo hrd hnw z0 q0 q1 q2 q3)
        have HRGz := Lib.hid (HRGb.out.gr HGz.out (fun e => HBb.out.1 e) (fun e => HR0.out e))
        have HMOz' := Lib.hid (show ∀ y, visj y = true → visz y = true from fun y hy => HMOz.out y (by rw [hy]; rfl))
        go_roundw
        case rel =>
          refine ⟨_, cnt2, visz, mz, HRGz.out, HMz.out, HNz.out, fr_mono (fun y hy => HMOz'.out y (HMO.out y hy)) U, fun y hy => HMOz'.out y (HMO.out y hy), fun d hd hl => ?_, fun y hy hy0 => ?_, HGb.out.trans HGz.out (fun y e => .inl e)⟩
          · by_cases e : d = ⟨x1, x2, x3, x4⟩
            · exact HMOz.out d (by simp [e])
            · exact HMOz'.out d (HLF.out d hd (by simpa [e] using hl))
          · by_cases e : y = ⟨x1, x2, x3, x4⟩
            · rw [e]
              exact ⟨.one HFX.out, HRDz.out⟩
            · cases hvj : visj y with
              | true =>
                obtain ⟨h1, h2⟩ := HNW.out y hvj hy0
                exact ⟨h1, fun d hd => HMOz'.out d (h2 d hd)⟩
              | false =>
                obtain ⟨h1, h2⟩ := HNWz.out y hy (by simp [hvj, e])
                exact ⟨Rch.head HFX.out h1, h2⟩
        case measure => rw [HRGz.out.left_eq, HRGr.out.left_eq]; exact HLT.out
end Go.Proofs.Ytoimbhdjhhmonaa

/- Layer 47: Affected. -/
set_option linter.unusedSimpArgs false
namespace Go.Proofs.Ytoimbhdjhhmonaa
open Go.RowKit Go

theorem visit47 {F : Nat → Nat} {p mr ms nn K : Nat} {rd : C4 → Option (List C4)} {U : List C4} {N gB sB vB sb : Nat} (hFs : F sb = 0) (hU : ∀ c d, rsOf rd c d = true → d ∈ U) (hNN : N ≤ 1000000) : ∀ n, VisC F p mr ms nn K rd U N gB sB vB sb n
  | 0 => fun w c vis m _ _ _ _ _ h => absurd h (Nat.not_lt_zero _)
  | n + 1 => visit_step hFs hU hNN n (visit47 hFs hU hNN n)
/-- What is closed under readers holds all that is reached. -/
theorem Rch.sub {rs : C4 → C4 → Bool} {vis : C4 → Bool} {c x : C4} (h : Rch rs c x) (h0 : ∀ d, rs c d = true → vis d = true) (h1 : ∀ y, vis y = true → ∀ d, rs y d = true → vis d = true) : vis x = true := by
  induction h with
  | one h' => exact h0 _ h'
  | step _ h' ih => exact h1 _ ih _ h'
def AffP (w : World) (N : Nat) (rd : C4 → Option (List C4)) (l : List C4) (e : Ending) (w' : World) : Prop :=
  ∃ v ys, e = .returned v ∧ Srt ys ∧ (∀ x ∈ ys, x.ok) ∧ (∀ x : C4, x.ok → (x ∈ ys ↔ ∃ c ∈ l, Rch (rsOf rd) c x)) ∧ ys.length ≤ N ∧ SlC w.heap.size w' v ys ∧ Below w.heap.size w w'
set_option maxRecDepth 20000 in
set_option maxHeartbeats 2000000 in
theorem affected47 {F : Nat → Nat} {S : Nat → Prop} (w : World) {p mr ms n K : Nat} {rd : C4 → Option (List C4)} (h : DepI F w p mr ms n K rd) {U : List C4} (hU : ∀ c d, rsOf rd c d = true → d ∈ U) (hUl : U.length ≤ 1000000)
    (a : Option Addr) (cap : Nat) (l : List C4) (hx : Rd (.sl cellT) S w [.slice a l.length cap] (l.map C4.d)) (hS : ∀ b, S b → b < w.heap.size) (hll : l.length ≤ 1000) :
    Calls Try.prog 13 #[.pointer (some ⟨p, 0, none⟩), .slice a l.length cap] w (AffP w U.length rd l) := by
  have hmm := fun w => @run_makeMap Try.prog w
  have HI := Lib.hid h
  have HU := Lib.hid hU
  have HUL := Lib.hid hUl
  have HX := Lib.hid hx
  have HS := Lib.hid hS
  clear h hU hUl hx hS
  go_enter Try.func13, Try.ntmps13
  go_upto_region 5 with fail
  obtain ⟨w1, hw1⟩ : ∃ x, x = w.alloc (.cells #[.pointer (some ⟨p, 0, none⟩)] 26) := ⟨_, rfl⟩
  obtain ⟨w2, hw2⟩ : ∃ x, x = w1.alloc (.map #[] 0) := ⟨_, rfl⟩
  obtain ⟨w3, hw3⟩ : ∃ x, x = w2.alloc (.cells #[.map (some (w.heap.size + 1))] 57) := ⟨_, rfl⟩
  obtain ⟨w4, hw4⟩ : ∃ x, x = w3.alloc (.cells #[.nilFunc] 58) := ⟨_, rfl⟩
  have e1 : w1.heap.size = w.heap.size + 1 := by rw [hw1]; simp
  have e2 : w2.heap.size = w.heap.size + 1 + 1 := by rw [hw2, World.size_alloc, e1]
  have e3 : w3.heap.size = w.heap.size + 1 + 1 + 1 := by rw [hw3, World.size_alloc, e2]
  have g1 : w1.heap[w.heap.size]? = some (.cells #[.pointer (some ⟨p, 0, none⟩)] 26 (0, 0)) := by rw [hw1]; exact heap_alloc_new w _
  have g3 := heap_alloc_new w2 (.cells #[.map (some (w.heap.size + 1))] 57)
  have g4 := heap_alloc_new w3 (.cells #[.nilFunc] 58)
  have b1 : Below w.heap.size w w1 := hw1 ▸ (Below.refl _ w).alloc (Nat.le_refl _) _
  have b2 : Below w1.heap.size w1 w2 := hw2 ▸ (Below.refl _ w1).alloc (Nat.le_refl _) _
  have b3 : Below w2.heap.size w2 w3 := hw3 ▸ (Below.refl _ w2).alloc (Nat.le_refl _) _
  have b4 : Below w3.heap.size w3 w4 := hw4 ▸ (Below.refl _ w3).alloc (Nat.le_refl _) _
  have m2 : MapG cellK boolE w2 w1.heap.size 0 (fun _ => none) := hw2 ▸ MapG.made w1
  rw [← hw3] at g3
  rw [← hw4] at g4
  rw [e2] at g3
  rw [e3] at g4
  rw [e1] at m2
  rw [← hw1, ← hw2, ← hw3, ← hw4]
  have f0 := blk_cell g4 0
  have f1 := blk_frozen g4 0
  simp only [List.getElem?_toArray, List.getElem?_cons_zero] at f0
  have HE := Lib.hid (And.intro e1 (And.intro e2 e3))
  have HGG := Lib.hid (And.intro g1 (And.intro g3 g4))
  have HBB := Lib.hid (And.intro b1 (And.intro b2 (And.intro b3 b4)))
  have HM2 := Lib.hid m2
  clear hw1 hw2 hw3 hw4 e1 e2 e3 g1 g3 g4 b1 b2 b3 b4 m2
  have hst : ∀ (x : Fn) (y z : Array Value) (ad : Addr) (m : Mode) (W : World), (store ad (.func x y z) m).run Try.prog W = stored Try.prog W ad (.func x y z) m := fun x y z ad m W => run_store Try.prog W ad _ m rfl
  go_upto_region 6 with fail
  clear hst f0 f1
  obtain ⟨w5, hw5⟩ : ∃ x, x = w4.setCell ⟨w.heap.size + 1 + 1 + 1, 0, none⟩ (.func (.func 34) #[] #[.pointer (some ⟨w.heap.size, 0, none⟩), .pointer (some ⟨w.heap.size + 1 + 1, 0, none⟩), .pointer (some ⟨w.heap.size + 1 + 1 + 1, 0, none⟩)]) := ⟨_, rfl⟩
  have G5 : Gr (fun b => b = w.heap.size + 1 + 1 + 1) w4 w5 := by rw [hw5]; exact (Gr.refl (fun b => b = w.heap.size + 1 + 1 + 1) w4).setCell (p := ⟨w.heap.size + 1 + 1 + 1, 0, none⟩) (.inl rfl) _
  have HB5 := Lib.hid (show Below w.heap.size w w5 from by
    obtain ⟨b1, b2, b3, b4⟩ := HBB.out
    obtain ⟨e1, e2, e3⟩ := HE.out
    exact ((b1.trans (b2.mono (by omega))).trans ((b3.mono (by omega)).trans (b4.mono (by omega)))).trans (G5.below (fun b e => by omega) (by have := b4.size; omega)))
  have HV5 := Lib.hid (show VisAt w5 p w.heap.size (w.heap.size + 1 + 1) (w.heap.size + 1 + 1 + 1) (w.heap.size + 1) from by
    obtain ⟨b1, b2, b3, b4⟩ := HBB.out
    obtain ⟨e1, e2, e3⟩ := HE.out
    obtain ⟨g1, g3, g4⟩ := HGG.out
    refine ⟨blk_gr G5 ((b4.block _ (by omega)).trans ((b3.block _ (by omega)).trans ((b2.block _ (by omega)).trans g1))) (by omega), blk_gr G5 ((b4.block _ (by omega)).trans g3) (by omega), ?_, by omega, by omega, by omega⟩
    have := blk_set (i := 0) g4 (.func (.func 34) #[] #[.pointer (some ⟨w.heap.size, 0, none⟩), .pointer (some ⟨w.heap.size + 1 + 1, 0, none⟩), .pointer (some ⟨w.heap.size + 1 + 1 + 1, 0, none⟩)])
    rw [← hw5] at this
    simpa using this)
  have HM5 := Lib.hid (show MapG cellK boolE w5 (w.heap.size + 1) 0 (setF (fun _ => false)) from by
    obtain ⟨b1, b2, b3, b4⟩ := HBB.out
    obtain ⟨e1, e2, e3⟩ := HE.out
    exact (((HM2.out.below b3).below b4).gr G5 (by omega)).congr (fun x _ => rfl))
  have HI5 := Lib.hid (HI.out.below HB5.out)
  rw [← hw5]
  clear hw5 G5
  have hl5 := hll
  have HFS := Lib.hid (show F (w.heap.size + 1) = 0 ∧ F w.heap.size = 0 from by
    obtain ⟨k, sl, ib, hD, -⟩ := HI.out
    constructor
    · by_cases e : F (w.heap.size + 1) = 0
      · exact e
      · have := hD.dom _ e; omega
    · by_cases e : F w.heap.size = 0
      · exact e
      · have := hD.dom _ e; omega)
  have HV := Lib.hid (visit47 (F := F) (p := p) (mr := mr) (ms := ms) (nn := n) (K := K) (rd := rd) (U := U) (N := U.length) (gB := w.heap.size) (sB := w.heap.size + 1 + 1) (vB := w.heap.size + 1 + 1 + 1) (sb := w.heap.size + 1) HFS.out.1 HU.out HUL.out)
  go_wp2_with fail
  go_loopw [8, 15] (fun _ i wr => ∃ (j : Nat) (vis : C4 → Bool) (m : Nat), j ≤ l.length ∧ i = .int .i64 j ∧ MapG cellK boolE wr (w.heap.size + 1) m (setF vis) ∧ m + fr U vis ≤ U.length ∧ (∀ c ∈ l.take j, ∀ d, rsOf rd c d = true → vis d = true) ∧ (∀ x, vis x = true → (∃ c ∈ l.take j, Rch (rsOf rd) c x) ∧ ∀ d, rsOf rd x d = true → vis d = true) ∧ Gr (fun b => b = w.heap.size + 1) w5 wr) (fun _ i _ => l.length - (intOf i).toNat)
  case atStart => exact ⟨0, _, 0, Nat.zero_le _, rfl, HM5.out, by unfold fr; rw [Nat.zero_add]; exact List.length_filter_le _ _, (fun c hc => by simp at hc), (fun x hx => by cases hx), Gr.refl _ _⟩
  case round =>
    obtain ⟨j, vis, m, hj, rfl, hM, hmN, hrd, hvs, hG⟩ := hrel
    have HMr := Lib.hid hM
    have HMN := Lib.hid hmN
    have HRD := Lib.hid hrd
    have HVS := Lib.hid hvs
    have HG := Lib.hid hG
    have HBr := Lib.hid (show Below w.heap.size w wr from HB5.out.trans (hG.below (fun b e => by omega) HB5.out.size))
    clear hM hmN hrd hvs hG
    by_cases hlt : j < l.length
    · have hjI : (j : Int) < (l.length : Int) := by omega
      obtain ⟨b, o, rfl, -, m0, m1, m2, m3, hqok⟩ := cell_at (HX.out.below HBr.out HS.out) j hlt
      have HTK := Lib.hid (show l.take (j + 1) = l.take j ++ [l[j]] from List.take_succ_eq_append_getElem hlt)
      have HQ := Lib.hid hqok
      clear hqok
      generalize l[j] = q at m0 m1 m2 m3 HTK HQ
      obtain ⟨q1, q2, q3, q4⟩ := q
      simp only at m0 m1 m2 m3
      have hBa := (Below.refl wr.heap.size wr).alloc (Nat.le_refl _) (.cells #[.int .i64 q1, .int .i64 q2, .int .i64 q3, .int .i64 q4] 38)
      have hqb := heap_alloc_new wr (.cells #[.int .i64 q1, .int .i64 q2, .int .i64 q3, .int .i64 q4] 38)
      have hGa := HG.out.step hBa
      have hVa := HV5.out.gr hGa
      have hih := HV.out (fr U vis + 1) _ ⟨q1, q2, q3, q4⟩ vis m HQ.out (HI5.out.gr hGa (fun y hy e => hy (e ▸ HFS.out.1))) hVa (HMr.out.below hBa) HMN.out (Nat.lt_succ_self _)
      unfold C4.v at hih
      simp only at hih
      have HIH := Lib.hid hih
      have HGa := Lib.hid hGa
      have z0 := blk_cell hVa.v 0
      have k0 := blk_cell hqb 0
      have k1 := blk_cell hqb 1
      have k2 := blk_cell hqb 2
      have k3 := blk_cell hqb 3
      simp only [List.getElem?_toArray, List.getElem?_cons_zero, List.getElem?_cons_succ] at k0 k1 k2 k3 z0
      clear hBa hqb hGa hVa hih
      go_upto_region 9 with fail
      generalize World.alloc _ _ = wa at *
      go_wp2_with (go_at_call 34; refine HIH.out.mono ?_; rintro e wz ⟨rfl, hGz, mz, visz, hMz, hNz, hmo, hrd, hnw⟩; have HGz := Lib.hid hGz; have HMz := Lib.hid hMz; have HNz := Lib.hid hNz; have HMOz := Lib.hid hmo; have HRDz := Lib.hid hrd; have HNWz := Lib.hid hnw; clear hGz hMz hNz hmo hrd hnw z0 k0 k1 k2 k3 m0 m1 m2 m3)
      go_roundw
      case rel =>
        refine ⟨j + 1, visz, mz, by omega, by go_num, HMz.out, HNz.out, fun c hc d hd => ?_, fun x hx => ?_, HGa.out.trans HGz.out (fun y e => .inl e)⟩
        · rw [HTK.out, List.mem_append, List.mem_singleton] at hc
          rcases hc with hc | rfl
          · exact HMOz.out d (HRD.out c hc d hd)
          · exact HRDz.out d hd
        · cases hv : vis x with
          | true =>
            obtain ⟨⟨c, hc, hr⟩, h2⟩ := HVS.out x hv
            exact ⟨⟨c, by rw [HTK.out]; exact List.mem_append.2 (.inl hc), hr⟩, fun d hd => HMOz.out d (h2 d hd)⟩
          | false =>
            obtain ⟨h1, h2⟩ := HNWz.out x hx hv
            exact ⟨⟨_, by rw [HTK.out]; exact List.mem_append.2 (.inr (List.mem_singleton.2 rfl)), h1⟩, h2⟩
      case measure => simp [intOf]; omega
    · obtain rfl : j = l.length := by omega
      have hVr := HV5.out.gr HG.out
      have s0 := blk_cell hVr.s 0
      simp only [List.getElem?_toArray, List.getElem?_cons_zero] at s0
      have HO := Lib.hid (ordered47 wr (w.heap.size + 1) m _ HMr.out (by have := HMN.out; have := HUL.out; omega))
      clear hVr
      go_wp2_with fail
      refine HO.out.mono ?_
      rintro e w9 ⟨v, ys, rfl, h2, h3, h4, h5, h6, h7⟩
      obtain ⟨va, vc, rfl⟩ := h6.form
      have HZ := Lib.hid (And.intro h2 (And.intro h3 (And.intro h4 (And.intro h5 (And.intro h6 h7)))))
      clear h2 h3 h4 h5 h6 h7 s0
      go_wp2_with fail
      go_ret
      obtain ⟨h2, h3, h4, h5, h6, h7⟩ := HZ.out
      refine ⟨_, ys, rfl, h2, h3, fun x hx => ?_, by have := HMN.out; omega, h6.mono HBr.out.size, below_step HBr.out h7⟩
      rw [h4 x hx, setF_isSome]
      have hrd := HRD.out
      have hvs := HVS.out
      rw [List.take_length] at hrd hvs
      constructor
      · intro hv
        exact (hvs x hv).1
      · rintro ⟨c, hc, hr⟩
        exact hr.sub (hrd c hc) (fun y hy => (hvs y hy).2)
end Go.Proofs.Ytoimbhdjhhmonaa

/- Layer 47: the nil graph. -/
set_option linter.unusedSimpArgs false
namespace Go.Proofs.Ytoimbhdjhhmonaa
open Go.RowKit Go

theorem nilSet47 (w : World) (c : C4) (a : Option Addr) (l cap : Nat) : Calls Try.prog 27 #[.pointer none, c.v, .slice a l cap] w fun e w' => e = .returned (.int .i64 7) ∧ Below w.heap.size w w' := by
  unfold C4.v
  have HB1 := Lib.hid (show Below w.heap.size w (w.alloc (.cells #[.int .i64 c.st, .int .i64 c.en, .int .i64 c.ot, .int .i64 c.pe] 38)) from (Below.refl _ w).alloc (Nat.le_refl _) _)
  go_enter Try.func27, Try.ntmps27
  go_wp2
  go_ret
  exact ⟨rfl, HB1.out⟩
theorem nilRemove47 (w : World) (c : C4) : Calls Try.prog 28 #[.pointer none, c.v] w fun e w' => e = .returned (.int .i64 7) ∧ Below w.heap.size w w' := by
  unfold C4.v
  have HB1 := Lib.hid (show Below w.heap.size w (w.alloc (.cells #[.int .i64 c.st, .int .i64 c.en, .int .i64 c.ot, .int .i64 c.pe] 38)) from (Below.refl _ w).alloc (Nat.le_refl _) _)
  go_enter Try.func28, Try.ntmps28
  go_wp2
  go_ret
  exact ⟨rfl, HB1.out⟩
theorem nilReads47 (w : World) (c : C4) : Calls Try.prog 17 #[.pointer none, c.v] w fun e w' => e = .returned (.slice none 0 0) ∧ Below w.heap.size w w' := by
  unfold C4.v
  have HB1 := Lib.hid (show Below w.heap.size w (w.alloc (.cells #[.int .i64 c.st, .int .i64 c.en, .int .i64 c.ot, .int .i64 c.pe] 38)) from (Below.refl _ w).alloc (Nat.le_refl _) _)
  go_enter Try.func17, Try.ntmps17
  go_wp2
  go_ret
  exact ⟨rfl, HB1.out⟩
theorem nilReaders47 (w : World) (c : C4) : Calls Try.prog 21 #[.pointer none, c.v] w fun e w' => e = .returned (.slice none 0 0) ∧ Below w.heap.size w w' := by
  unfold C4.v
  have HB1 := Lib.hid (show Below w.heap.size w (w.alloc (.cells #[.int .i64 c.st, .int .i64 c.en, .int .i64 c.ot, .int .i64 c.pe] 38)) from (Below.refl _ w).alloc (Nat.le_refl _) _)
  go_enter Try.func21, Try.ntmps21
  go_wp2
  go_ret
  exact ⟨rfl, HB1.out⟩
theorem nilCells47 (w : World) : Calls Try.prog 16 #[.pointer none] w fun e w' => e = .returned (.slice none 0 0) ∧ w' = w := by
  go_enter Try.func16, Try.ntmps16
  go_wp2
  go_ret
  exact ⟨rfl, rfl⟩
theorem nilAffected47 (w : World) (a : Option Addr) (l cap : Nat) : Calls Try.prog 13 #[.pointer none, .slice a l cap] w fun e w' => e = .returned (.slice none 0 0) ∧ Below w.heap.size w w' := by
  have HB1 := Lib.hid (show Below w.heap.size w (w.alloc (.cells #[.pointer none] 26)) from (Below.refl _ w).alloc (Nat.le_refl _) _)
  go_enter Try.func13, Try.ntmps13
  go_wp2
  go_ret
  exact ⟨rfl, HB1.out⟩
end Go.Proofs.Ytoimbhdjhhmonaa

/- Layer 47, plain: the reference's graph, a list of entries. -/
namespace Go.Proofs.Ytoimbhdjhhmonaa
open Go.RowKit Go

/-- An entry: a cell with its reads. -/
abbrev En4 := C4 × List C4
/-- The reads of a cell. -/
def lkG (G : List En4) (c : C4) : Option (List C4) := (G.find? (fun e => decide (e.1 = c))).map (·.2)
def delG (G : List En4) (c : C4) : List En4 := G.filter (fun e => !decide (e.1 = c))
def setG (G : List En4) (c : C4) (l : List C4) : List En4 := delG G c ++ [(c, srtC l)]
/-- A graph as it comes about by calls. -/
structure GI (m : Nat) (G : List En4) : Prop where
  nd : (G.map (·.1)).Nodup
  srt : ∀ e ∈ G, Srt e.2
  okc : ∀ e ∈ G, e.1.ok
  okr : ∀ e ∈ G, ∀ x ∈ e.2, x.ok
  len : ∀ e ∈ G, e.2.length ≤ 30
  num : G.length ≤ m
theorem GI.nil : GI 0 [] := ⟨List.nodup_nil, fun _ h => (by cases h), fun _ h => (by cases h), fun _ h => (by cases h), fun _ h => (by cases h), Nat.le_refl _⟩
theorem GI.mono {m m' : Nat} {G : List En4} (h : GI m G) (hm : m ≤ m') : GI m' G := ⟨h.nd, h.srt, h.okc, h.okr, h.len, Nat.le_trans h.num hm⟩
theorem lkG_none {G : List En4} {c : C4} : lkG G c = none ↔ ∀ e ∈ G, e.1 ≠ c := by
  unfold lkG
  rw [Option.map_eq_none_iff, List.find?_eq_none]
  simp
theorem lkG_mem {G : List En4} {c : C4} {l : List C4} (h : lkG G c = some l) : (c, l) ∈ G := by
  unfold lkG at h
  rw [Option.map_eq_some_iff] at h
  obtain ⟨⟨a, b⟩, h1, rfl⟩ := h
  have h2 := List.find?_some h1
  simp at h2
  subst h2
  exact List.mem_of_find?_eq_some h1
theorem lkG_of_mem {m : Nat} {G : List En4} (h : GI m G) {e : En4} (he : e ∈ G) : lkG G e.1 = some e.2 := by
  have hnd := h.nd
  clear h
  unfold lkG
  induction G with
  | nil => cases he
  | cons a G ih =>
    rw [List.map_cons, List.nodup_cons] at hnd
    rw [List.find?_cons]
    rcases List.mem_cons.1 he with rfl | he
    · simp
    · have hne : a.1 ≠ e.1 := fun e' => hnd.1 (e' ▸ List.mem_map.2 ⟨e, he, rfl⟩)
      simp only [hne, decide_false]
      exact ih he hnd.2
theorem delG_len (G : List En4) (c : C4) : (delG G c).length ≤ G.length := List.length_filter_le _ _
theorem mem_delG {G : List En4} {c : C4} {e : En4} : e ∈ delG G c ↔ e ∈ G ∧ e.1 ≠ c := by
  unfold delG
  rw [List.mem_filter]
  simp
theorem find_filter_ne {G : List En4} {c x : C4} (h : x ≠ c) : (delG G c).find? (fun e => decide (e.1 = x)) = G.find? (fun e => decide (e.1 = x)) := by
  unfold delG
  induction G with
  | nil => rfl
  | cons a G ih =>
    rw [List.filter_cons]
    by_cases e : a.1 = c
    · simp only [e, decide_true, Bool.not_true, Bool.false_eq_true, if_false]
      rw [ih, List.find?_cons]
      have : ¬ a.1 = x := fun e' => h (e' ▸ e)
      simp [this]
    · simp only [e, decide_false, Bool.not_false, if_true]
      rw [List.find?_cons, List.find?_cons, ih]
theorem lkG_del (G : List En4) (c x : C4) : lkG (delG G c) x = if x = c then none else lkG G x := by
  by_cases h : x = c
  · rw [if_pos h, lkG_none]
    intro e he
    rw [h]
    exact (mem_delG.1 he).2
  · rw [if_neg h]
    unfold lkG
    rw [find_filter_ne h]
theorem lkG_set (G : List En4) (c : C4) (l : List C4) (x : C4) : lkG (setG G c l) x = setR (lkG G) c l x := by
  unfold setR
  by_cases h : x = c
  · subst h
    rw [if_pos rfl]
    unfold lkG setG
    rw [List.find?_append]
    have h0 : (delG G x).find? (fun e => decide (e.1 = x)) = none := by
      rw [List.find?_eq_none]
      intro e he
      simp [(mem_delG.1 he).2]
    rw [h0]
    simp
  · rw [if_neg h]
    unfold lkG setG
    rw [List.find?_append, find_filter_ne h]
    have h0 : ([(c, srtC l)] : List En4).find? (fun e => decide (e.1 = x)) = none := by
      rw [List.find?_eq_none]
      intro e he
      rw [List.mem_singleton] at he
      subst he
      simp
      exact fun e => h e.symm
    rw [h0, Option.or_none]
theorem GI.del {m : Nat} {G : List En4} (h : GI m G) (c : C4) : GI m (delG G c) where
  nd := h.nd.sublist (List.filter_sublist.map _)
  srt := fun e he => h.srt e (mem_delG.1 he).1
  okc := fun e he => h.okc e (mem_delG.1 he).1
  okr := fun e he => h.okr e (mem_delG.1 he).1
  len := fun e he => h.len e (mem_delG.1 he).1
  num := Nat.le_trans (delG_len G c) h.num
theorem GI.set {m : Nat} {G : List En4} (h : GI m G) {c : C4} (hc : c.ok) {l : List C4} (hl : ∀ x ∈ l, x.ok) (hlen : l.length ≤ 30) : GI (m + 1) (setG G c l) := by
  have hd := h.del c
  have hm : ∀ e, e ∈ setG G c l → e ∈ delG G c ∨ e = (c, srtC l) := fun e he => by
    unfold setG at he
    rw [List.mem_append, List.mem_singleton] at he
    exact he
  refine ⟨?_, fun e he => ?_, fun e he => ?_, fun e he => ?_, fun e he => ?_, ?_⟩
  · unfold setG
    rw [List.map_append, List.nodup_append]
    refine ⟨hd.nd, by simp, fun a ha b hb => ?_⟩
    obtain ⟨e, he, rfl⟩ := List.mem_map.1 ha
    simp at hb
    subst hb
    exact (mem_delG.1 he).2
  · rcases hm e he with h | rfl
    · exact hd.srt e h
    · exact srt_srtC l
  · rcases hm e he with h | rfl
    · exact hd.okc e h
    · exact hc
  · rcases hm e he with h | rfl
    · exact hd.okr e h
    · exact fun x hx => hl x (mem_srtC.1 hx)
  · rcases hm e he with h | rfl
    · exact hd.len e h
    · exact Nat.le_trans (srtC_len l) hlen
  · unfold setG
    rw [List.length_append, List.length_singleton]
    have := hd.num
    omega
/-- y reads d. -/
theorem rsOf_lkG {m : Nat} {G : List En4} (h : GI m G) (d y : C4) : rsOf (lkG G) d y = true ↔ ∃ e ∈ G, e.1 = y ∧ d ∈ e.2 := by
  unfold rsOf
  constructor
  · intro h1
    cases hl : lkG G y with
    | none => rw [hl] at h1; cases h1
    | some l =>
      rw [hl] at h1
      exact ⟨_, lkG_mem hl, rfl, of_decide_eq_true h1⟩
  · rintro ⟨e, he, rfl, hd⟩
    rw [lkG_of_mem h he]
    exact decide_eq_true hd
theorem GI.srtL {m : Nat} {G : List En4} (h : GI m G) {c : C4} {l : List C4} (hl : lkG G c = some l) : Srt l := h.srt _ (lkG_mem hl)
/-- Readers. -/
def rdrsG (G : List En4) (c : C4) : List C4 := srtC ((G.filter (fun e => decide (c ∈ e.2))).map (·.1))
def cellsG (G : List En4) : List C4 := srtC (G.flatMap (fun e => e.1 :: e.2))
theorem mem_rdrsG {m : Nat} {G : List En4} (h : GI m G) {c x : C4} : x ∈ rdrsG G c ↔ rsOf (lkG G) c x = true := by
  unfold rdrsG
  rw [mem_srtC, rsOf_lkG h, List.mem_map]
  constructor
  · rintro ⟨e, he, rfl⟩
    rw [List.mem_filter] at he
    exact ⟨e, he.1, rfl, of_decide_eq_true he.2⟩
  · rintro ⟨e, he, rfl, hd⟩
    exact ⟨e, List.mem_filter.2 ⟨he, decide_eq_true hd⟩, rfl⟩
theorem mem_cellsG {m : Nat} {G : List En4} (h : GI m G) {x : C4} : x ∈ cellsG G ↔ (lkG G x).isSome = true ∨ ∃ y, rsOf (lkG G) x y = true := by
  unfold cellsG
  rw [mem_srtC, List.mem_flatMap]
  constructor
  · rintro ⟨e, he, hx⟩
    rcases List.mem_cons.1 hx with rfl | hx
    · left; rw [lkG_of_mem h he]; rfl
    · right; exact ⟨e.1, (rsOf_lkG h _ _).2 ⟨e, he, rfl, hx⟩⟩
  · rintro (h1 | ⟨y, h1⟩)
    · cases hl : lkG G x with
      | none => rw [hl] at h1; cases h1
      | some l => exact ⟨_, lkG_mem hl, List.mem_cons_self⟩
    · obtain ⟨e, he, -, hd⟩ := (rsOf_lkG h _ _).1 h1
      exact ⟨e, he, List.mem_cons_of_mem _ hd⟩
theorem rdrsG_ok {m : Nat} {G : List En4} (h : GI m G) {c x : C4} (hx : x ∈ rdrsG G c) : x.ok := by
  obtain ⟨e, he, rfl, -⟩ := (rsOf_lkG h _ _).1 ((mem_rdrsG h).1 hx)
  exact h.okc e he
theorem cellsG_ok {m : Nat} {G : List En4} (h : GI m G) {x : C4} (hx : x ∈ cellsG G) : x.ok := by
  unfold cellsG at hx
  rw [mem_srtC, List.mem_flatMap] at hx
  obtain ⟨e, he, hx⟩ := hx
  rcases List.mem_cons.1 hx with rfl | hx
  · exact h.okc e he
  · exact h.okr e he x hx
/-! ### Put, step by step -/
theorem Srt.snoc {l : List C4} {y : C4} (h : Srt (l ++ [y])) : Srt l ∧ ∀ x ∈ l, ltC x y := by
  rw [Srt, List.pairwise_append] at h
  exact ⟨h.1, fun x hx => h.2.2 x hx y (by simp)⟩
theorem Srt.of_snoc {l : List C4} {y : C4} (h : Srt l) (hy : ∀ x ∈ l, ltC x y) : Srt (l ++ [y]) := by
  rw [Srt, List.pairwise_append]
  exact ⟨h, List.pairwise_singleton _ _, fun x hx z hz => by rw [List.mem_singleton] at hz; subst hz; exact hy x hx⟩
theorem insC_end {l : List C4} {c : C4} (h : Srt l) (hc : ∀ x ∈ l, ltC x c) : insC l c = l ++ [c] :=
  (h.ins c).ext (h.of_snoc hc) fun x => by rw [mem_insC, List.mem_append, List.mem_singleton]; exact Or.comm
theorem insC_mid {l : List C4} {c y : C4} (h : Srt (l ++ [y])) (hc : ∀ x ∈ l, ltC x c) (hy : ltC c y) : insC (l ++ [y]) c = l ++ [c] ++ [y] :=
  (h.ins c).ext ((h.snoc.1.of_snoc hc).of_snoc fun x hx => by
    rw [List.mem_append, List.mem_singleton] at hx
    rcases hx with hx | rfl
    · exact h.snoc.2 x hx
    · exact hy) fun x => by
    simp only [mem_insC, List.mem_append, List.mem_singleton]
    constructor
    · rintro (h | h | h)
      · exact .inl (.inr h)
      · exact .inl (.inl h)
      · exact .inr h
    · rintro ((h | h) | h)
      · exact .inr (.inl h)
      · exact .inl h
      · exact .inr (.inr h)
theorem insC_same {l : List C4} {c : C4} : insC (l ++ [c]) c = l ++ [c] := by
  unfold insC
  rw [if_pos (by simp)]
theorem insC_done {l : List C4} {c y : C4} (h : Srt (l ++ [y])) (hd : ∃ x ∈ l, ¬ ltC x c) : insC (l ++ [y]) c = insC l c ++ [y] := by
  obtain ⟨z, hz, hzc⟩ := hd
  have hcy : ltC c y := by
    rcases ltC_tot z c with h1 | h1 | h1
    · exact absurd h1 hzc
    · rw [← h1]; exact h.snoc.2 z hz
    · exact ltC_trans h1 (h.snoc.2 z hz)
  refine (h.ins c).ext ((h.snoc.1.ins c).of_snoc fun x hx => ?_) fun x => ?_
  · rw [mem_insC] at hx
    rcases hx with rfl | hx
    · exact hcy
    · exact h.snoc.2 x hx
  · simp only [mem_insC, List.mem_append, List.mem_singleton]
    exact or_assoc.symm
/-- What stands behind a number of cells; whether the cell is in. -/
def putD (l : List C4) (c : C4) : Bool := l.any (fun x => !decide (ltC x c))
def putL (l : List C4) (c : C4) : List C4 := if putD l c then insC l c else l
theorem putD_iff {l : List C4} {c : C4} : putD l c = true ↔ ∃ x ∈ l, ¬ ltC x c := by unfold putD; rw [List.any_eq_true]; simp
theorem putD_not {l : List C4} {c : C4} : putD l c = false ↔ ∀ x ∈ l, ltC x c := by
  rw [← Bool.not_eq_true, putD_iff]
  simp
theorem putD_snoc (l : List C4) (c y : C4) : putD (l ++ [y]) c = (putD l c || decide (cfC c y ≤ 0)) := by
  unfold putD
  rw [List.any_append]
  congr 1
  simp only [List.any_cons, List.any_nil, Bool.or_false]
  have h1 := cfC_lt c y
  have h2 := cfC_zero c y
  rcases ltC_tot y c with h | h | h
  · have h3 : ¬ ltC c y := ltC_asym h
    have h4 : y ≠ c := ltC_ne h
    have : ¬ cfC c y ≤ 0 := by
      intro h5
      rcases Int.lt_or_eq_of_le h5 with h5 | h5
      · exact h3 (h1.1 h5)
      · exact h4 (h2.1 h5).symm
    simp [h, this]
  · subst h
    have := h2.2 rfl
    simp [ltC_irr, this]
  · have h3 := h1.2 h
    have : cfC c y ≤ 0 := by omega
    simp [ltC_asym h, this]
theorem putL_snoc {l : List C4} {c y : C4} (h : Srt (l ++ [y])) : putL (l ++ [y]) c = (if (decide (cfC c y < 0) && !putD l c) = true then putL l c ++ [c] else putL l c) ++ [y] := by
  have h1 := cfC_lt c y
  have h2 := cfC_zero c y
  cases hd : putD l c with
  | true =>
    have e : putD (l ++ [y]) c = true := by rw [putD_snoc, hd]; rfl
    unfold putL
    rw [e, hd]
    simp only [if_true, Bool.not_true, Bool.and_false, Bool.false_eq_true, if_false]
    exact insC_done h (putD_iff.1 hd)
  | false =>
    have hn := putD_not.1 hd
    by_cases hlt : cfC c y < 0
    · have e : putD (l ++ [y]) c = true := by rw [putD_snoc, hd]; simp; omega
      unfold putL
      rw [e, hd]
      simp only [if_true, hlt, decide_true, Bool.not_false, Bool.and_self, Bool.false_eq_true, if_false]
      exact insC_mid h hn (h1.1 hlt)
    · by_cases h0 : cfC c y = 0
      · obtain rfl := h2.1 h0
        have e : putD (l ++ [c]) c = true := by rw [putD_snoc, hd]; simp; omega
        unfold putL
        rw [e, hd]
        simp only [if_true, hlt, decide_false, Bool.false_and, Bool.false_eq_true, if_false]
        exact insC_same
      · have e : putD (l ++ [y]) c = false := by rw [putD_snoc, hd]; simp; omega
        unfold putL
        rw [e, hd]
        simp [hlt]
theorem putL_end {l : List C4} {c : C4} (h : Srt l) : (if putD l c then putL l c else putL l c ++ [c]) = insC l c := by
  cases hd : putD l c with
  | true => unfold putL; rw [hd]; rfl
  | false =>
    unfold putL
    rw [hd]
    exact (insC_end h (putD_not.1 hd)).symm
end Go.Proofs.Ytoimbhdjhhmonaa
