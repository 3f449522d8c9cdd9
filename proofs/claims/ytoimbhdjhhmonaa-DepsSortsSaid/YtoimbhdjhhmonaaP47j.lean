/- Layer 47: depends: the cells on which a cell depends. -/
import Derived.Test.YtoimbhdjhhmonaaE47k
import Derived.Test.YtoimbhdjhhmonaaMapH
set_option linter.unusedSimpArgs false
set_option linter.unusedVariables false
namespace Go.Proofs.Ytoimbhdjhhmonaa
open Go.RowKit Go

/-- d is read by c. -/
def rtOf (rd : C4 → Option (List C4)) (c d : C4) : Bool := rsOf rd d c
theorem rt_rch {rd : C4 → Option (List C4)} {a b : C4} : Rch (rtOf rd) a b ↔ Rch (rsOf rd) b a := by
  constructor
  · intro h
    induction h with
    | one h' => exact .one h'
    | step _ h' ih => exact Rch.head h' ih
  · intro h
    induction h with
    | one h' => exact .one h'
    | step _ h' ih => exact Rch.head h' ih
/-- The boxes of visit in depends. -/
structure DVis (w : World) (p gB sB vB sb : Nat) : Prop where
  g : w.heap[gB]? = some (.cells #[.pointer (some ⟨p, 0, none⟩)] 26 (0, 0))
  s : w.heap[sB]? = some (.cells #[.map (some sb)] 57 (0, 0))
  v : w.heap[vB]? = some (.cells #[.func (.func 62) #[] #[.pointer (some ⟨gB, 0, none⟩), .pointer (some ⟨sB, 0, none⟩), .pointer (some ⟨vB, 0, none⟩)]] 58 (0, 0))
  ng : gB ≠ sb
  ns : sB ≠ sb
  nv : vB ≠ sb
theorem DVis.gr {w w' : World} {p gB sB vB sb : Nat} (h : DVis w p gB sB vB sb) (hg : Gr (fun b => b = sb) w w') : DVis w' p gB sB vB sb :=
  ⟨blk_gr hg h.g h.ng, blk_gr hg h.s h.ns, blk_gr hg h.v h.nv, h.ng, h.ns, h.nv⟩
theorem DVis.below {w w' : World} {p gB sB vB sb : Nat} (h : DVis w p gB sB vB sb) (hB : Below w.heap.size w w') : DVis w' p gB sB vB sb := h.gr (Gr.of_below hB)
/-- Its contract, for fewer than n cells that are not visited yet. -/
def DepC (F : Nat → Nat) (p mr ms nn K : Nat) (rd : C4 → Option (List C4)) (U : List C4) (N gB sB vB sb : Nat) (n : Nat) : Prop :=
  ∀ (w : World) (c : C4) (vis : C4 → Bool) (m : Nat), c.ok → DepI F w p mr ms nn K rd → DVis w p gB sB vB sb → MapG cellK boolE w sb m (setF vis) → m + fr U vis ≤ N → fr U vis < n →
    Calls Try.prog 62 #[c.v, .pointer (some ⟨gB, 0, none⟩), .pointer (some ⟨sB, 0, none⟩), .pointer (some ⟨vB, 0, none⟩)] w (VisP (rtOf rd) U N sb c vis w)
set_option maxRecDepth 20000 in
set_option maxHeartbeats 2000000 in
theorem dep_step {F : Nat → Nat} {p mr ms nn K : Nat} {rd : C4 → Option (List C4)} {U : List C4} {N gB sB vB sb : Nat} (hFs : F sb = 0) (hU : ∀ c d, rsOf rd d c = true → d ∈ U) (hNN : N ≤ 1000000) (n : Nat) (IH : DepC F p mr ms nn K rd U N gB sB vB sb n) : DepC F p mr ms nn K rd U N gB sB vB sb (n + 1) := by
  intro w c vis m hc hI hV hM hN hfr
  have HIH := Lib.hid IH
  have HU := Lib.hid hU
  have HFS := Lib.hid hFs
  have HNN := Lib.hid hNN
  obtain ⟨c1, c2, c3, c4⟩ := c
  have HI := Lib.hid hI
  have HC := Lib.hid hc
  have HV := Lib.hid hV
  have HM := Lib.hid hM
  have HN := Lib.hid hN
  have HFR := Lib.hid hfr
  have hB := (Below.refl w.heap.size w).alloc (Nat.le_refl _) (.cells #[.int .i64 c1, .int .i64 c2, .int .i64 c3, .int .i64 c4] 38)
  have hkb := heap_alloc_new w (.cells #[.int .i64 c1, .int .i64 c2, .int .i64 c3, .int .i64 c4] 38)
  have h' := hI.below hB
  have hV1 := hV.below hB
  have HB := Lib.hid hB
  obtain ⟨k, sl, ib, hD, hne⟩ := h'
  have HD := Lib.hid hD
  obtain ⟨sa, sc, hsl, hsrd, hl200⟩ := hD.rdR ⟨c1, c2, c3, c4⟩
  obtain ⟨l, hl⟩ : ∃ l, (rd ⟨c1, c2, c3, c4⟩).getD [] = l := ⟨_, rfl⟩
  rw [hl] at hsl hsrd hl200
  rw [hsl] at hsrd
  have HLD := Lib.hid (show ∀ d, d ∈ l ↔ rtOf rd ⟨c1, c2, c3, c4⟩ d = true from fun d => by
    rw [← hl]
    exact (rsOf_rdL rd d _).symm)
  have HSL := Lib.hid hsl
  have HSR := Lib.hid hsrd
  have HL2 := Lib.hid hl200
  have hll := hl200
  have hC0 : Cells [(⟨gB, 0, none⟩, .pointer (some ⟨p, 0, none⟩)), (⟨p, 0, none⟩, .map (some mr)), (⟨w.heap.size, 0, none⟩, .int .i64 c1), (⟨w.heap.size, 1, none⟩, .int .i64 c2), (⟨w.heap.size, 2, none⟩, .int .i64 c3), (⟨w.heap.size, 3, none⟩, .int .i64 c4)] (w.alloc (.cells #[.int .i64 c1, .int .i64 c2, .int .i64 c3, .int .i64 c4] 38)) := ⟨blk_cell hV1.g 0, blk_cell hD.row 0, blk_cell hkb 0, blk_cell hkb 1, blk_cell hkb 2, blk_cell hkb 3, trivial⟩
  clear hB hkb hc hI hV hM hN hfr hV1 hD hne IH hU hFs hNN hl hsl hsrd hl200
  unfold C4.v
  simp only
  go_enter Try.func62, Try.ntmps62
  go_upto_region 1 with fail
  generalize World.alloc _ _ = w1 at *
  refine wp_region_T (Cells [(⟨gB, 0, none⟩, .pointer (some ⟨p, 0, none⟩)), (⟨p, 0, none⟩, .map (some mr)), (⟨w.heap.size, 0, none⟩, .int .i64 c1), (⟨w.heap.size, 1, none⟩, .int .i64 c2), (⟨w.heap.size, 2, none⟩, .int .i64 c3), (⟨w.heap.size, 3, none⟩, .int .i64 c4)]) (fun _ => false) (by kernel_rfl) ?_
  have hSss1 := Cells.drew hC0
  have hB_0_s1 : Below w1.heap.size w1 w1.drew := below_drew _
  generalize w1.drew = s1 at hSss1 hB_0_s1 ⊢
  have hB_s1_s1 := Below.refl s1.heap.size s1
  refine wpAnyT_pure (i := 7) (v := ?_) rfl (by kernel_rfl) (by kernel_rfl) (by kernel_rfl) (fun _ _ _ h => h) (by rfl) ?_ ?_
  rotate_left
  · intro w; go_simp; try with_reducible rfl
  simp only [Act.put, rgA, rgB, rgC, rgD, rgE, rgF]
  refine wpAnyT_loadW (i := 0) (v := ?_) rfl (by kernel_rfl) (by kernel_rfl) (by kernel_rfl) (by kernel_rfl) (by kernel_rfl) (fun _ _ _ h => h) (Or.inl ⟨by rfl, ?_⟩) hSss1 ?_
  rotate_left
  · intro w hSw; obtain ⟨e0, e1, e2, e3, e4, e5, -⟩ := hSw; go_simp; try with_reducible rfl
  simp only [Act.put, rgA, rgB, rgC, rgD, rgE, rgF]
  refine wpAnyT_pure (i := 1) (v := ?_) rfl (by kernel_rfl) (by kernel_rfl) (by kernel_rfl) (fun _ _ _ h => h) (by rfl) ?_ ?_
  rotate_left
  · intro w; go_simp; try with_reducible rfl
  simp only [Act.put, rgA, rgB, rgC, rgD, rgE, rgF]
  refine wpAnyT_pure (i := 2) (v := ?_) rfl (by kernel_rfl) (by kernel_rfl) (by kernel_rfl) (fun _ _ _ h => h) (by rfl) ?_ ?_
  rotate_left
  · intro w; go_simp; try with_reducible rfl
  simp only [Act.put, rgA, rgB, rgC, rgD, rgE, rgF]
  refine wpAnyT_loadW (i := 3) (v := ?_) rfl (by kernel_rfl) (by kernel_rfl) (by kernel_rfl) (by kernel_rfl) (by kernel_rfl) (fun _ _ _ h => h) (Or.inl ⟨by rfl, ?_⟩) hSss1 ?_
  rotate_left
  · intro w hSw; obtain ⟨e0, e1, e2, e3, e4, e5, -⟩ := hSw; go_simp; try with_reducible rfl
  simp only [Act.put, rgA, rgB, rgC, rgD, rgE, rgF]
  refine wpAnyT_loadW (i := 4) (v := ?_) rfl (by kernel_rfl) (by kernel_rfl) (by kernel_rfl) (by kernel_rfl) (by kernel_rfl) (fun _ _ _ h => h) (Or.inl ⟨by rfl, ?_⟩) hSss1 ?_
  rotate_left
  · intro w hSw; obtain ⟨e0, e1, e2, e3, e4, e5, -⟩ := hSw; go_simp; try with_reducible rfl
  simp only [Act.put, rgA, rgB, rgC, rgD, rgE, rgF]
  refine wpAnyT_one (i := 5) (by kernel_rfl) rfl (by rfl) ?_
  have hlk := (HD.out.below (hB_0_s1.trans ((hB_s1_s1).mono (hB_0_s1).size))).lookR ⟨c1, c2, c3, c4⟩ HC.out
  rw [HSL.out] at hlk
  change Sem.run Try.prog (Instr.lookup 59 (.map (some mr)) (.agg #[.int .i64 c1, .int .i64 c2, .int .i64 c3, .int .i64 c4]) false) s1 = _ at hlk
  refine wp_value (v := .slice sa l.length sc) (w' := s1) (by go_simp) ?_
  clear hlk
  refine ⟨fun _ h => h, ?_⟩
  try simp only [Act.put, rgA, rgB, rgC, rgD, rgE, rgF]
  refine wpAnyT_pure (i := 6) (v := ?_) rfl (by kernel_rfl) (by kernel_rfl) (by kernel_rfl) (fun _ _ _ h => h) (by rfl) ?_ ?_
  rotate_left
  · intro w; go_simp; try with_reducible rfl
  simp only [Act.put, rgA, rgB, rgC, rgD, rgE, rgF]
  refine wpAnyT_done (by kernel_rfl) ?_ _
  have HBN1 := Lib.hid (hB_0_s1.trans ((hB_s1_s1).mono (hB_0_s1).size))
  have HBN := Lib.hid (below_step HB.out HBN1.out)
  obtain ⟨w2, rfl⟩ : ∃ x, x = s1 := ⟨_, rfl⟩
  clear hC0
  have hsbw : sb < w.heap.size := HM.out.lt
  have HSB := Lib.hid hsbw
  clear hsbw
  go_wp2_with fail
  go_loopw [14] (fun iv wr => ∃ (j : Nat) (visj : C4 → Bool) (mj : Nat), j ≤ l.length ∧ iv = .int .i64 j ∧ MapG cellK boolE wr sb mj (setF visj) ∧ mj + fr U visj ≤ N ∧ fr U visj ≤ fr U vis ∧ (∀ x, vis x = true → visj x = true) ∧ (∀ d ∈ l.take j, visj d = true) ∧ (∀ x, visj x = true → vis x = false → Rch (rtOf rd) ⟨c1, c2, c3, c4⟩ x ∧ ∀ d, rtOf rd x d = true → visj d = true) ∧ Gr (fun b => b = sb) w2 wr) (fun iv _ => l.length - (intOf iv).toNat)
  case atStart => exact ⟨0, vis, m, Nat.zero_le _, rfl, HM.out.below HBN.out, HN.out, Nat.le_refl _, fun x h => h, (fun d hd => by simp at hd), (fun x h h' => by rw [h] at h'; cases h'), Gr.refl _ _⟩
  obtain ⟨j, visj, mj, hj, rfl, hmj, hmN, hfj, hmono, hdone, hnew, hG⟩ := hrel
  have HMJ := Lib.hid hmj
  have HMN := Lib.hid hmN
  have HFJ := Lib.hid hfj
  have HMO := Lib.hid hmono
  have HDN := Lib.hid hdone
  have HNW := Lib.hid hnew
  have HG2 := Lib.hid hG
  have HG := Lib.hid ((Gr.of_below HBN.out : Gr (fun b => b = sb) w w2).trans hG (fun _ e => .inl e))
  clear hmj hmN hfj hmono hdone hnew hG
  by_cases hlt : j < l.length
  · have hjI : (j : Int) < (l.length : Int) := by omega
    have hrdj : Rd (.sl cellT) (fun b => F b = 5) wr [.slice sa l.length sc] (l.map C4.d) := (HSR.out.below HBN1.out (fun b e => HD.out.dom b (by rw [e]; decide))).gr HG2.out (fun b e => ⟨Nat.lt_of_lt_of_le (HD.out.dom b (by rw [e]; decide)) HBN1.out.size, fun e2 => by rw [e2, HFS.out] at e; cases e⟩) (fun _ e => e)
    obtain ⟨b, o, rfl, -, m0, m1, m2, m3, hqok⟩ := cell_at hrdj j hlt
    have HTK := Lib.hid (show l.take (j + 1) = l.take j ++ [l[j]] from List.take_succ_eq_append_getElem hlt)
    have HFX := Lib.hid ((HLD.out _).1 (List.getElem_mem hlt))
    have HQ := Lib.hid hqok
    have HJL := Lib.hid hlt
    clear hqok hrdj
    generalize l[j] = q at m0 m1 m2 m3 HTK HQ HFX
    obtain ⟨x1, x2, x3, x4⟩ := q
    simp only at m0 m1 m2 m3
    have hBa := (Below.refl wr.heap.size wr).alloc (Nat.le_refl _) (.cells #[.int .i64 x1, .int .i64 x2, .int .i64 x3, .int .i64 x4] 38)
    have hqb := heap_alloc_new wr (.cells #[.int .i64 x1, .int .i64 x2, .int .i64 x3, .int .i64 x4] 38)
    have HGa := Lib.hid (HG.out.step hBa)
    have HGa2 := Lib.hid (HG2.out.step hBa)
    have HMa := Lib.hid (HMJ.out.below hBa)
    have HVa := Lib.hid (HV.out.gr HGa.out)
    have HQB := Lib.hid hqb
    have HXS := Lib.hid (show sb < wr.heap.size from Nat.lt_of_lt_of_le HSB.out HG.out.size)
    have y0 := blk_cell HVa.out.s 0
    have k0 := blk_cell hqb 0
    have k1 := blk_cell hqb 1
    have k2 := blk_cell hqb 2
    have k3 := blk_cell hqb 3
    simp only [List.getElem?_toArray, List.getElem?_cons_zero, List.getElem?_cons_succ] at k0 k1 k2 k3 y0
    clear hBa hqb
    go_upto_region 4 with fail
    clear m0 m1 m2 m3
    generalize World.alloc _ _ = wa at *
    obtain ⟨vx, hvx⟩ : ∃ vx, visj ⟨x1, x2, x3, x4⟩ = vx := ⟨_, rfl⟩
    have HVX := Lib.hid hvx
    have hlk : Sem.run Try.prog (Instr.lookup 57 (.map (some sb)) (.agg #[.int .i64 x1, .int .i64 x2, .int .i64 x3, .int .i64 x4]) false) wa = .ok (.bool vx) wa := by
      have := HMa.out.look1 Try.underlying57 ⟨x1, x2, x3, x4⟩ HQ.out
      refine Eq.trans this ?_
      subst hvx
      unfold setF
      cases visj ⟨x1, x2, x3, x4⟩ <;> rfl
    clear hvx
    cases vx with
    | true =>
      go_wp2_with fail
      go_roundw
      case rel =>
        refine ⟨j + 1, visj, mj, HJL.out, by go_num, HMa.out, HMN.out, HFJ.out, HMO.out, fun d hd => ?_, HNW.out, HGa2.out⟩
        rw [HTK.out, List.mem_append, List.mem_singleton] at hd
        rcases hd with hd | rfl
        · exact HDN.out d hd
        · exact HVX.out
      case measure => simp [intOf]; omega
    | false =>
      obtain ⟨wb, hrun, hM4, hT⟩ := HMa.out.store Try.underlying57 (by have := HMN.out; have := HNN.out; simp [maxLen]; omega) ⟨x1, x2, x3, x4⟩ HQ.out true trivial
      change Sem.run Try.prog (Instr.mapUpdate 57 (.map (some sb)) (.agg #[.int .i64 x1, .int .i64 x2, .int .i64 x3, .int .i64 x4]) (.bool true)) wa = _ at hrun
      have hfl : fr U (fun y => visj y || decide (y = (⟨x1, x2, x3, x4⟩ : C4))) < fr U visj := fr_lt HVX.out (HU.out _ _ HFX.out)
      have hGb := HGa.out.trans (Gr.of_turned hT) (fun y e => .inl e)
      have hGb2 := HGa2.out.trans (Gr.of_turned hT) (fun y e => .inl e)
      have hMb := hM4.congr (g := setF (fun y => visj y || decide (y = (⟨x1, x2, x3, x4⟩ : C4)))) (fun y _ => setF_add visj _ y)
      have hmb : (if (setF visj ⟨x1, x2, x3, x4⟩).isSome = true then mj else mj + 1) + fr U (fun y => visj y || decide (y = (⟨x1, x2, x3, x4⟩ : C4))) ≤ N := by
        have := HMN.out
        split <;> omega
      have hqb := blk_gr (Gr.of_turned hT) HQB.out (by have := HXS.out; omega)
      have hvb := HV.out.gr hGb
      have hib := HI.out.gr hGb (fun y hy e => hy (e ▸ HFS.out))
      have hih := HIH.out wb ⟨x1, x2, x3, x4⟩ _ _ HQ.out hib hvb hMb hmb (by have := HFJ.out; have := HFR.out; omega)
      unfold C4.v at hih
      simp only at hih
      have HIHb := Lib.hid hih
      have HVb := Lib.hid hvb
      have HQb := Lib.hid hqb
      have HGb2 := Lib.hid hGb2
      clear hfl hGb hGb2 hMb hmb hqb hvb hib hih hM4 hT
      go_upto_region 6 with fail
      have z0 := blk_cell HVb.out.v 0
      have q0 := blk_cell HQb.out 0
      have q1 := blk_cell HQb.out 1
      have q2 := blk_cell HQb.out 2
      have q3 := blk_cell HQb.out 3
      simp only [List.getElem?_toArray, List.getElem?_cons_zero, List.getElem?_cons_succ] at q0 q1 q2 q3 z0
      clear k0 k1 k2 k3 y0 hlk hrun
      go_wp2_with (go_at_call 62; refine HIHb.out.mono ?_; rintro e wz ⟨rfl, hGz, mz, visz, hMz, hNz, hmo, hrd, hnw⟩; have HGz := Lib.hid hGz; have HMz := Lib.hid hMz; have HNz := Lib.hid hNz; have HMOz := Lib.hid hmo; have HRDz := Lib.hid hrd; have HNWz := Lib.hid hnw; clear hGz hMz hNz hmo hrd hnw z0 q0 q1 q2 q3)
      have HMOz' := Lib.hid (show ∀ y, visj y = true → visz y = true from fun y hy => HMOz.out y (by rw [hy]; rfl))
      go_roundw
      case rel =>
        refine ⟨j + 1, visz, mz, HJL.out, by go_num, HMz.out, HNz.out, fr_mono (fun y hy => HMOz'.out y (HMO.out y hy)) U, fun y hy => HMOz'.out y (HMO.out y hy), fun d hd => ?_, fun y hy hy0 => ?_, HGb2.out.trans HGz.out (fun y e => .inl e)⟩
        · rw [HTK.out, List.mem_append, List.mem_singleton] at hd
          rcases hd with hd | rfl
          · exact HMOz'.out d (HDN.out d hd)
          · exact HMOz.out _ (by simp)
        · by_cases e : y = ⟨x1, x2, x3, x4⟩
          · rw [e]
            exact ⟨.one HFX.out, HRDz.out⟩
          · cases hvj : visj y with
            | true =>
              obtain ⟨h1, h2⟩ := HNW.out y hvj hy0
              exact ⟨h1, fun d hd => HMOz'.out d (h2 d hd)⟩
            | false =>
              obtain ⟨h1, h2⟩ := HNWz.out y hy (by simp [hvj, e])
              exact ⟨Rch.head HFX.out h1, h2⟩
      case measure => simp [intOf]; omega
  · obtain rfl : j = l.length := by omega
    have HALL := Lib.hid (show ∀ d, rtOf rd ⟨c1, c2, c3, c4⟩ d = true → visj d = true from fun d hd => HDN.out d (by rw [List.take_length]; exact (HLD.out d).2 hd))
    go_wp2_with fail
    go_end0
    exact ⟨rfl, HG.out, mj, visj, HMJ.out, HMN.out, HMO.out, HALL.out, HNW.out⟩
theorem dep47 {F : Nat → Nat} {p mr ms nn K : Nat} {rd : C4 → Option (List C4)} {U : List C4} {N gB sB vB sb : Nat} (hFs : F sb = 0) (hU : ∀ c d, rsOf rd d c = true → d ∈ U) (hNN : N ≤ 1000000) : ∀ n, DepC F p mr ms nn K rd U N gB sB vB sb n
  | 0 => fun w c vis m _ _ _ _ _ h => absurd h (Nat.not_lt_zero _)
  | n + 1 => dep_step hFs hU hNN n (dep47 hFs hU hNN n)
end Go.Proofs.Ytoimbhdjhhmonaa

/- Layer 47: depends; the closures of Cycle; IndexFunc, Index at cells. -/
set_option linter.unusedSimpArgs false
set_option linter.unusedVariables false
set_option maxRecDepth 20000
namespace Go.Proofs.Ytoimbhdjhhmonaa
open Go.RowKit Go

def DepsP (w : World) (rd : C4 → Option (List C4)) (c : C4) (e : Ending) (w' : World) : Prop :=
  ∃ (mb m : Nat) (vis : C4 → Bool), e = .returned (.map (some mb)) ∧ MapG cellK boolE w' mb m (setF vis) ∧ (∀ x, vis x = true ↔ Rch (rsOf rd) x c) ∧ w.heap.size ≤ mb ∧ Below w.heap.size w w'
set_option maxHeartbeats 2000000 in
theorem depends47 {F : Nat → Nat} (w : World) {p mr ms n K : Nat} {rd : C4 → Option (List C4)} (h : DepI F w p mr ms n K rd) {U : List C4} (hU : ∀ c d, rsOf rd d c = true → d ∈ U) (hUl : U.length ≤ 1000000) (c : C4) (hc : c.ok) :
    Calls Try.prog 44 #[.pointer (some ⟨p, 0, none⟩), c.v] w (DepsP w rd c) := by
  have hmm := fun w => @run_makeMap Try.prog w
  have HI := Lib.hid h
  have HU := Lib.hid hU
  have HUL := Lib.hid hUl
  have HC := Lib.hid hc
  obtain ⟨c1, c2, c3, c4⟩ := c
  clear h hU hUl hc
  unfold C4.v
  simp only
  go_enter Try.func44, Try.ntmps44
  go_upto_region 3 with fail
  obtain ⟨w1, hw1⟩ : ∃ x, x = w.alloc (.cells #[.pointer (some ⟨p, 0, none⟩)] 26) := ⟨_, rfl⟩
  obtain ⟨w2, hw2⟩ : ∃ x, x = w1.alloc (.cells #[.int .i64 c1, .int .i64 c2, .int .i64 c3, .int .i64 c4] 38) := ⟨_, rfl⟩
  obtain ⟨w3, hw3⟩ : ∃ x, x = w2.alloc (.map #[] 0) := ⟨_, rfl⟩
  obtain ⟨w4, hw4⟩ : ∃ x, x = w3.alloc (.cells #[.map (some (w.heap.size + 1 + 1))] 57) := ⟨_, rfl⟩
  obtain ⟨w5, hw5⟩ : ∃ x, x = w4.alloc (.cells #[.nilFunc] 58) := ⟨_, rfl⟩
  have e1 : w1.heap.size = w.heap.size + 1 := by rw [hw1]; simp
  have e2 : w2.heap.size = w.heap.size + 1 + 1 := by rw [hw2, World.size_alloc, e1]
  have e3 : w3.heap.size = w.heap.size + 1 + 1 + 1 := by rw [hw3, World.size_alloc, e2]
  have e4 : w4.heap.size = w.heap.size + 1 + 1 + 1 + 1 := by rw [hw4, World.size_alloc, e3]
  have g1 : w1.heap[w.heap.size]? = some (.cells #[.pointer (some ⟨p, 0, none⟩)] 26 (0, 0)) := by rw [hw1]; exact heap_alloc_new w _
  have g2 := heap_alloc_new w1 (.cells #[.int .i64 c1, .int .i64 c2, .int .i64 c3, .int .i64 c4] 38)
  have g4 := heap_alloc_new w3 (.cells #[.map (some (w.heap.size + 1 + 1))] 57)
  have g5 := heap_alloc_new w4 (.cells #[.nilFunc] 58)
  have b1 : Below w.heap.size w w1 := hw1 ▸ (Below.refl _ w).alloc (Nat.le_refl _) _
  have b2 : Below w1.heap.size w1 w2 := hw2 ▸ (Below.refl _ w1).alloc (Nat.le_refl _) _
  have b3 : Below w2.heap.size w2 w3 := hw3 ▸ (Below.refl _ w2).alloc (Nat.le_refl _) _
  have b4 : Below w3.heap.size w3 w4 := hw4 ▸ (Below.refl _ w3).alloc (Nat.le_refl _) _
  have b5 : Below w4.heap.size w4 w5 := hw5 ▸ (Below.refl _ w4).alloc (Nat.le_refl _) _
  have m3 : MapG cellK boolE w3 w2.heap.size 0 (fun _ => none) := hw3 ▸ MapG.made w2
  rw [← hw2] at g2
  rw [← hw4] at g4
  rw [← hw5] at g5
  rw [e1] at g2
  rw [e3] at g4
  rw [e4] at g5
  rw [e2] at m3
  rw [← hw1, ← hw2, ← hw3, ← hw4, ← hw5]
  have f0 := blk_cell g5 0
  have f1 := blk_frozen g5 0
  simp only [List.getElem?_toArray, List.getElem?_cons_zero] at f0
  have HE := Lib.hid (And.intro e1 (And.intro e2 (And.intro e3 e4)))
  have HGG := Lib.hid (And.intro g1 (And.intro g2 (And.intro g4 g5)))
  have HBB := Lib.hid (And.intro b1 (And.intro b2 (And.intro b3 (And.intro b4 b5))))
  have HM3 := Lib.hid m3
  clear hw1 hw2 hw3 hw4 hw5 e1 e2 e3 e4 g1 g2 g4 g5 b1 b2 b3 b4 b5 m3
  have hst : ∀ (x : Fn) (y z : Array Value) (ad : Addr) (m : Mode) (W : World), (store ad (.func x y z) m).run Try.prog W = stored Try.prog W ad (.func x y z) m := fun x y z ad m W => run_store Try.prog W ad _ m rfl
  go_upto_region 4 with fail
  clear hst f0 f1
  obtain ⟨w6, hw6⟩ : ∃ x, x = w5.setCell ⟨w.heap.size + 1 + 1 + 1 + 1, 0, none⟩ (.func (.func 62) #[] #[.pointer (some ⟨w.heap.size, 0, none⟩), .pointer (some ⟨w.heap.size + 1 + 1 + 1, 0, none⟩), .pointer (some ⟨w.heap.size + 1 + 1 + 1 + 1, 0, none⟩)]) := ⟨_, rfl⟩
  have G6 : Gr (fun b => b = w.heap.size + 1 + 1 + 1 + 1) w5 w6 := by rw [hw6]; exact (Gr.refl (fun b => b = w.heap.size + 1 + 1 + 1 + 1) w5).setCell (p := ⟨w.heap.size + 1 + 1 + 1 + 1, 0, none⟩) (.inl rfl) _
  have HB6 := Lib.hid (show Below w.heap.size w w6 from by
    obtain ⟨b1, b2, b3, b4, b5⟩ := HBB.out
    obtain ⟨e1, e2, e3, e4⟩ := HE.out
    exact ((((b1.trans (b2.mono (by omega))).trans (b3.mono (by omega))).trans (b4.mono (by omega))).trans (b5.mono (by omega))).trans (G6.below (fun b e => by omega) (by have := b5.size; omega)))
  have HV6 := Lib.hid (show DVis w6 p w.heap.size (w.heap.size + 1 + 1 + 1) (w.heap.size + 1 + 1 + 1 + 1) (w.heap.size + 1 + 1) from by
    obtain ⟨b1, b2, b3, b4, b5⟩ := HBB.out
    obtain ⟨e1, e2, e3, e4⟩ := HE.out
    obtain ⟨g1, g2, g4, g5⟩ := HGG.out
    refine ⟨blk_gr G6 ((b5.block _ (by omega)).trans ((b4.block _ (by omega)).trans ((b3.block _ (by omega)).trans ((b2.block _ (by omega)).trans g1)))) (by omega), blk_gr G6 ((b5.block _ (by omega)).trans g4) (by omega), ?_, by omega, by omega, by omega⟩
    have := blk_set (i := 0) g5 (.func (.func 62) #[] #[.pointer (some ⟨w.heap.size, 0, none⟩), .pointer (some ⟨w.heap.size + 1 + 1 + 1, 0, none⟩), .pointer (some ⟨w.heap.size + 1 + 1 + 1 + 1, 0, none⟩)])
    rw [← hw6] at this
    simpa using this)
  have HM6 := Lib.hid (show MapG cellK boolE w6 (w.heap.size + 1 + 1) 0 (setF (fun _ => false)) from by
    obtain ⟨b1, b2, b3, b4, b5⟩ := HBB.out
    obtain ⟨e1, e2, e3, e4⟩ := HE.out
    exact (((HM3.out.below b4).below b5).gr G6 (by omega)).congr (fun x _ => rfl))
  have HQ6 := Lib.hid (show w6.heap[w.heap.size + 1]? = some (.cells #[.int .i64 c1, .int .i64 c2, .int .i64 c3, .int .i64 c4] 38 (0, 0)) from by
    obtain ⟨b1, b2, b3, b4, b5⟩ := HBB.out
    obtain ⟨e1, e2, e3, e4⟩ := HE.out
    obtain ⟨g1, g2, g4, g5⟩ := HGG.out
    exact blk_gr G6 ((b5.block _ (by omega)).trans ((b4.block _ (by omega)).trans ((b3.block _ (by omega)).trans g2))) (by omega))
  have HI6 := Lib.hid (HI.out.below HB6.out)
  rw [← hw6]
  clear hw6 G6
  have HFS := Lib.hid (show F (w.heap.size + 1 + 1) = 0 from by
    obtain ⟨k, sl, ib, hD, -⟩ := HI.out
    by_cases e : F (w.heap.size + 1 + 1) = 0
    · exact e
    · have := hD.dom _ e; omega)
  have HV := Lib.hid (dep47 (F := F) (p := p) (mr := mr) (ms := ms) (nn := n) (K := K) (rd := rd) (U := U) (N := U.length) (gB := w.heap.size) (sB := w.heap.size + 1 + 1 + 1) (vB := w.heap.size + 1 + 1 + 1 + 1) (sb := w.heap.size + 1 + 1) HFS.out HU.out HUL.out)
  have hih := HV.out (fr U (fun _ => false) + 1) w6 ⟨c1, c2, c3, c4⟩ (fun _ => false) 0 HC.out HI6.out HV6.out HM6.out (by unfold fr; rw [Nat.zero_add]; exact List.length_filter_le _ _) (Nat.lt_succ_self _)
  unfold C4.v at hih
  simp only at hih
  have HIH := Lib.hid hih
  have z0 := blk_cell HV6.out.v 0
  have k0 := blk_cell HQ6.out 0
  have k1 := blk_cell HQ6.out 1
  have k2 := blk_cell HQ6.out 2
  have k3 := blk_cell HQ6.out 3
  simp only [List.getElem?_toArray, List.getElem?_cons_zero, List.getElem?_cons_succ] at k0 k1 k2 k3 z0
  clear hih
  go_wp2_with (go_at_call 62; refine HIH.out.mono ?_; rintro e wz ⟨rfl, hGz, mz, visz, hMz, hNz, hmo, hrd, hnw⟩; have HGz := Lib.hid hGz; have HMz := Lib.hid hMz; have HNz := Lib.hid hNz; have HMOz := Lib.hid hmo; have HRDz := Lib.hid hrd; have HNWz := Lib.hid hnw; have s0 := blk_cell (HV6.out.gr hGz).s 0; simp only [List.getElem?_toArray, List.getElem?_cons_zero] at s0; clear hGz hMz hNz hmo hrd hnw z0 k0 k1 k2 k3)
  go_ret
  refine ⟨_, mz, visz, rfl, HMz.out, fun x => ⟨fun hx => ?_, fun hx => ?_⟩, by omega, HB6.out.trans (HGz.out.below (fun b e => by omega) HB6.out.size)⟩
  · exact rt_rch.1 (HNWz.out x hx (by first | rfl | trivial)).1
  · exact (rt_rch.2 hx).sub HRDz.out (fun y hy => (HNWz.out y hy (by first | rfl | trivial)).2)
/-- A test's answer. -/
def TstP (q : Prop) (w : World) (e : Ending) (w' : World) : Prop := ∃ b : Bool, e = .returned (.bool b) ∧ (b = true ↔ q) ∧ Below w.heap.size w w'
set_option maxHeartbeats 2000000 in
theorem cyc1_47 {F : Nat → Nat} (w : World) {p mr ms n K : Nat} {rd : C4 → Option (List C4)} (h : DepI F w p mr ms n K rd) {U : List C4} (hU : ∀ c d, rsOf rd d c = true → d ∈ U) (hUl : U.length ≤ 1000000) {gB : Nat} (hg : w.heap[gB]? = some (.cells #[.pointer (some ⟨p, 0, none⟩)] 26 (0, 0))) (c : C4) (hc : c.ok) :
    Calls Try.prog 43 #[c.v, .pointer (some ⟨gB, 0, none⟩)] w (TstP (Rch (rsOf rd) c c) w) := by
  have HC := Lib.hid hc
  obtain ⟨c1, c2, c3, c4⟩ := c
  have hB := (Below.refl w.heap.size w).alloc (Nat.le_refl _) (.cells #[.int .i64 c1, .int .i64 c2, .int .i64 c3, .int .i64 c4] 38)
  have hkb := heap_alloc_new w (.cells #[.int .i64 c1, .int .i64 c2, .int .i64 c3, .int .i64 c4] 38)
  have HB := Lib.hid hB
  have HD := Lib.hid (fun W (hW : Below w.heap.size w W) => depends47 W (h.below hW) hU hUl ⟨c1, c2, c3, c4⟩ hc)
  have hg1 := (hB.block _ (blk_lt hg)).trans hg
  have hC0 : Cells [(⟨gB, 0, none⟩, .pointer (some ⟨p, 0, none⟩)), (⟨w.heap.size, 0, none⟩, .int .i64 c1), (⟨w.heap.size, 1, none⟩, .int .i64 c2), (⟨w.heap.size, 2, none⟩, .int .i64 c3), (⟨w.heap.size, 3, none⟩, .int .i64 c4)] (w.alloc (.cells #[.int .i64 c1, .int .i64 c2, .int .i64 c3, .int .i64 c4] 38)) := ⟨blk_cell hg1 0, blk_cell hkb 0, blk_cell hkb 1, blk_cell hkb 2, blk_cell hkb 3, trivial⟩
  clear h hU hUl hg hc hB hkb hg1
  unfold C4.v at *
  simp only at *
  go_enter Try.func43, Try.ntmps43
  go_upto_region 1 with fail
  generalize World.alloc _ _ = w1 at *
  refine wp_region_T (Cells [(⟨gB, 0, none⟩, .pointer (some ⟨p, 0, none⟩)), (⟨w.heap.size, 0, none⟩, .int .i64 c1), (⟨w.heap.size, 1, none⟩, .int .i64 c2), (⟨w.heap.size, 2, none⟩, .int .i64 c3), (⟨w.heap.size, 3, none⟩, .int .i64 c4)]) (fun _ => false) (by kernel_rfl) ?_
  have hSss1 := Cells.drew hC0
  have hB_0_s1 : Below w1.heap.size w1 w1.drew := below_drew _
  generalize w1.drew = s1 at hSss1 hB_0_s1 ⊢
  have hB_s1_s1 := Below.refl s1.heap.size s1
  refine wpAnyT_loadW (i := 0) (v := ?_) rfl (by kernel_rfl) (by kernel_rfl) (by kernel_rfl) (by kernel_rfl) (by kernel_rfl) (fun _ _ _ h => h) (Or.inl ⟨by rfl, ?_⟩) hSss1 ?_
  rotate_left
  · intro w hSw; obtain ⟨e0, e1, e2, e3, e4, -⟩ := hSw; go_simp; try with_reducible rfl
  simp only [Act.put, rgA, rgB, rgC, rgD, rgE, rgF]
  refine wpAnyT_loadW (i := 1) (v := ?_) rfl (by kernel_rfl) (by kernel_rfl) (by kernel_rfl) (by kernel_rfl) (by kernel_rfl) (fun _ _ _ h => h) (Or.inl ⟨by rfl, ?_⟩) hSss1 ?_
  rotate_left
  · intro w hSw; obtain ⟨e0, e1, e2, e3, e4, -⟩ := hSw; go_simp; try with_reducible rfl
  simp only [Act.put, rgA, rgB, rgC, rgD, rgE, rgF]
  refine wpAnyT_loadW (i := 3) (v := ?_) rfl (by kernel_rfl) (by kernel_rfl) (by kernel_rfl) (by kernel_rfl) (by kernel_rfl) (fun _ _ _ h => h) (Or.inl ⟨by rfl, ?_⟩) hSss1 ?_
  rotate_left
  · intro w hSw; obtain ⟨e0, e1, e2, e3, e4, -⟩ := hSw; go_simp; try with_reducible rfl
  simp only [Act.put, rgA, rgB, rgC, rgD, rgE, rgF]
  refine wpAnyT_one (i := 2) (by kernel_rfl) rfl (by rfl) ?_
  have hbP : Below w1.heap.size w1 s1 := hB_0_s1.trans ((hB_s1_s1).mono (hB_0_s1).size)
  refine wp_enter (f := 44) (args := #[.pointer (some ⟨p, 0, none⟩), .agg #[.int .i64 c1, .int .i64 c2, .int .i64 c3, .int .i64 c4]]) (by go_simp) (HD.out s1 (below_step HB.out hbP)) ?_
  rintro e w102 ⟨mb, m, vis, rfl, hM, hvis, -, hX⟩
  have HM := Lib.hid hM
  have HVI := Lib.hid hvis
  clear hM hvis hbP
  have hB_s1_w102 := below_step hB_s1_s1 hX
  have hB_w102_w102 := Below.refl w102.heap.size w102
  have hSsw102 := Cells.below hB_s1_w102 hSss1
  clear hX
  refine ⟨_, rfl, fun _ _ => hSsw102, ?_⟩
  try simp only [Act.put, rgA, rgB, rgC, rgD, rgE, rgF]
  refine wpAnyT_one (i := 4) (by kernel_rfl) rfl (by rfl) ?_
  have hlk := (HM.out.below hB_w102_w102).look1 Try.underlying57 ⟨c1, c2, c3, c4⟩ HC.out
  change Sem.run Try.prog (Instr.lookup 57 (.map (some mb)) (.agg #[.int .i64 c1, .int .i64 c2, .int .i64 c3, .int .i64 c4]) false) w102 = .ok (.bool ((setF vis ⟨c1, c2, c3, c4⟩).getD false)) w102 at hlk
  refine wp_value (v := .bool ((setF vis ⟨c1, c2, c3, c4⟩).getD false)) (w' := w102) (by go_simp) ?_
  clear hlk
  refine ⟨fun _ h => h, ?_⟩
  try simp only [Act.put, rgA, rgB, rgC, rgD, rgE, rgF]
  refine wpAnyT_pure (i := 5) (v := ?_) rfl (by kernel_rfl) (by kernel_rfl) (by kernel_rfl) (fun _ _ _ h => h) (by rfl) ?_ ?_
  rotate_left
  · intro w; go_simp; try with_reducible rfl
  simp only [Act.put, rgA, rgB, rgC, rgD, rgE, rgF]
  refine wpAnyT_done (by kernel_rfl) ?_ _
  have HBN := Lib.hid (below_step HB.out (hB_0_s1.trans ((hB_s1_w102).mono (hB_0_s1).size)))
  clear hC0
  go_wp2_with fail
  go_ret
  refine ⟨_, rfl, ?_, HBN.out⟩
  rw [← HVI.out]
  unfold setF
  cases vis ⟨c1, c2, c3, c4⟩ <;> simp
set_option maxHeartbeats 2000000 in
theorem cyc2_47 {F : Nat → Nat} (w : World) {p mr ms n K : Nat} {rd : C4 → Option (List C4)} (h : DepI F w p mr ms n K rd) {U : List C4} (hU : ∀ c d, rsOf rd d c = true → d ∈ U) (hUl : U.length ≤ 1000000) {gB fB : Nat} (hg : w.heap[gB]? = some (.cells #[.pointer (some ⟨p, 0, none⟩)] 26 (0, 0))) (f : C4) (hf : f.ok)
    (hfb : w.heap[fB]? = some (.cells #[.int .i64 f.st, .int .i64 f.en, .int .i64 f.ot, .int .i64 f.pe] 38 (0, 0))) (c : C4) (hc : c.ok) :
    Calls Try.prog 45 #[c.v, .pointer (some ⟨gB, 0, none⟩), .pointer (some ⟨fB, 0, none⟩)] w (TstP (Rch (rsOf rd) c c ∧ (c = f ∨ Rch (rsOf rd) f c)) w) := by
  have HC := Lib.hid hc
  have HF := Lib.hid hf
  have heq := fun W => cell_eql W c f
  obtain ⟨eb, heb⟩ : ∃ eb, decide (c = f) = eb := ⟨_, rfl⟩
  rw [heb] at heq
  have HEB := Lib.hid heb
  have hgd : Try.prog.eqGuardType Try.prog.depth 38 = false := by kernel_rfl
  obtain ⟨f1, f2, f3, f4⟩ := f
  obtain ⟨c1, c2, c3, c4⟩ := c
  have hB := (Below.refl w.heap.size w).alloc (Nat.le_refl _) (.cells #[.int .i64 c1, .int .i64 c2, .int .i64 c3, .int .i64 c4] 38)
  have hkb := heap_alloc_new w (.cells #[.int .i64 c1, .int .i64 c2, .int .i64 c3, .int .i64 c4] 38)
  have HB := Lib.hid hB
  have HD := Lib.hid (fun W (hW : Below w.heap.size w W) => depends47 W (h.below hW) hU hUl ⟨c1, c2, c3, c4⟩ hc)
  have HKB := Lib.hid hkb
  have HFB := Lib.hid ((hB.block _ (blk_lt hfb)).trans hfb)
  have hg1 := (hB.block _ (blk_lt hg)).trans hg
  have y0 := blk_cell hg1 0
  have k0 := blk_cell hkb 0
  have k1 := blk_cell hkb 1
  have k2 := blk_cell hkb 2
  have k3 := blk_cell hkb 3
  simp only [List.getElem?_toArray, List.getElem?_cons_zero, List.getElem?_cons_succ] at k0 k1 k2 k3 y0
  clear h hU hUl hg hc hB hkb hg1 heb hfb hf
  unfold C4.v at *
  simp only at *
  go_enter Try.func45, Try.ntmps45
  go_upto_region 1 with fail
  generalize World.alloc _ _ = w1 at *
  have hds := HD.out w1 HB.out
  have HDS := Lib.hid hds
  clear hds
  go_wp2_with (go_at_call 44; refine HDS.out.mono ?_; rintro e w2 ⟨mb, m, vis, rfl, hM, hvis, -, hX⟩; have HM := Lib.hid hM; have HVI := Lib.hid hvis; have HX := Lib.hid hX; have hk2 := (hX.block _ (blk_lt HKB.out)).trans HKB.out; have hf2 := (hX.block _ (blk_lt HFB.out)).trans HFB.out; have HK2 := Lib.hid hk2; have HF2 := Lib.hid hf2; clear hM hvis hX hk2 hf2 y0 k0 k1 k2 k3; have k0 := blk_cell HK2.out 0; have k1 := blk_cell HK2.out 1; have k2 := blk_cell HK2.out 2; have k3 := blk_cell HK2.out 3; have j0 := blk_cell HF2.out 0; have j1 := blk_cell HF2.out 1; have j2 := blk_cell HF2.out 2; have j3 := blk_cell HF2.out 3; simp only [List.getElem?_toArray, List.getElem?_cons_zero, List.getElem?_cons_succ] at k0 k1 k2 k3 j0 j1 j2 j3; obtain ⟨b1, hb1⟩ : ∃ b1, (setF vis ⟨c1, c2, c3, c4⟩).getD false = b1 := ⟨_, rfl⟩; obtain ⟨b3, hb3⟩ : ∃ b3, (setF vis ⟨f1, f2, f3, f4⟩).getD false = b3 := ⟨_, rfl⟩; have hlk1 : Sem.run Try.prog (Instr.lookup 57 (.map (some mb)) (.agg #[.int .i64 c1, .int .i64 c2, .int .i64 c3, .int .i64 c4]) false) w2 = .ok (.bool b1) w2 := (by rw [← hb1]; exact HM.out.look1 Try.underlying57 ⟨c1, c2, c3, c4⟩ HC.out); have hlk3 : Sem.run Try.prog (Instr.lookup 57 (.map (some mb)) (.agg #[.int .i64 f1, .int .i64 f2, .int .i64 f3, .int .i64 f4]) false) w2 = .ok (.bool b3) w2 := (by rw [← hb3]; exact HM.out.look1 Try.underlying57 ⟨f1, f2, f3, f4⟩ HF.out); have HB1 := Lib.hid (show b1 = true ↔ Rch (rsOf rd) ⟨c1, c2, c3, c4⟩ ⟨c1, c2, c3, c4⟩ from (by rw [← HVI.out, ← hb1]; unfold setF; cases vis ⟨c1, c2, c3, c4⟩ <;> simp)); have HB3 := Lib.hid (show b3 = true ↔ Rch (rsOf rd) ⟨f1, f2, f3, f4⟩ ⟨c1, c2, c3, c4⟩ from (by rw [← HVI.out, ← hb3]; unfold setF; cases vis ⟨f1, f2, f3, f4⟩ <;> simp)); have HRES := Lib.hid (show (b1 && (eb || b3)) = true ↔ (Rch (rsOf rd) ⟨c1, c2, c3, c4⟩ ⟨c1, c2, c3, c4⟩ ∧ ((⟨c1, c2, c3, c4⟩ : C4) = ⟨f1, f2, f3, f4⟩ ∨ Rch (rsOf rd) ⟨f1, f2, f3, f4⟩ ⟨c1, c2, c3, c4⟩)) from (by rw [Bool.and_eq_true, Bool.or_eq_true, HB1.out, HB3.out, ← HEB.out, decide_eq_true_eq])); clear hb1 hb3 HB1 HB3 HEB; cases b1 <;> cases eb <;> cases b3)
  all_goals go_ret
  all_goals exact ⟨_, rfl, HRES.out, below_step HB.out HX.out⟩
end Go.Proofs.Ytoimbhdjhhmonaa

/- Layer 47: IndexFunc with Cycle's closures, Index. -/
set_option linter.unusedSimpArgs false
set_option linter.unusedVariables false
set_option maxRecDepth 20000
namespace Go.Proofs.Ytoimbhdjhhmonaa
open Go.RowKit Go

/-- The first index whose cell passes. -/
def IxP (w : World) (l : List C4) (q : C4 → Prop) (e : Ending) (w' : World) : Prop :=
  Below w.heap.size w w' ∧ ((e = .returned (.int .i64 (-1)) ∧ ∀ x ∈ l, ¬ q x) ∨ ∃ (i : Nat) (hi : i < l.length), e = .returned (.int .i64 i) ∧ q l[i] ∧ ∀ j (hj : j < i), ¬ q (l[j]'(by omega)))
set_option maxHeartbeats 1000000 in
theorem index1_47 {S : Nat → Prop} (w : World) (a : Option Addr) (cap : Nat) (l : List C4) (hx : Rd (.sl cellT) S w [.slice a l.length cap] (l.map C4.d)) (hS : ∀ b, S b → b < w.heap.size) (gB : Nat) (q : C4 → Prop)
    (hF : ∀ W, Below w.heap.size w W → ∀ x : C4, x.ok → Calls Try.prog 43 (#[x.v, .pointer (some ⟨gB, 0, none⟩)]) W (TstP (q x) W)) :
    Calls Try.prog 42 #[.slice a l.length cap, .func (.func 43) #[] #[.pointer (some ⟨gB, 0, none⟩)]] w (IxP w l q) := by
  have hm := hx.sl_flat.2.2.1
  have hlc := hx.sl_flat.2.1
  have HX := Lib.hid hx
  have HS := Lib.hid hS
  have HF := Lib.hid hF
  clear hx hS hF
  go_enter Try.func42, Try.ntmps42
  go_wp2_with fail
  go_loopw [5, 8] (fun _ i wr => ∃ (k : Nat), k ≤ l.length ∧ i = .int .i64 k ∧ (∀ j (hj : j < k) (hl : j < l.length), ¬ q l[j]) ∧ Below w.heap.size w wr) (fun _ i _ => l.length - (intOf i).toNat)
  case atStart => exact ⟨0, Nat.zero_le _, rfl, (fun j hj => absurd hj (Nat.not_lt_zero _)), Below.refl _ _⟩
  case round =>
    obtain ⟨k, hk, rfl, hany, hB⟩ := hrel
    have HB := Lib.hid hB
    have HANY := Lib.hid hany
    by_cases hlt : k < l.length
    · obtain ⟨b, o, rfl, -, m0, m1, m2, m3, hqo⟩ := cell_at (HX.out.below hB HS.out) k hlt
      have hkI : (k : Int) < (l.length : Int) := by omega
      have HLT := Lib.hid hlt
      obtain ⟨qq, hqq⟩ : ∃ x, x = l[k]'hlt := ⟨_, rfl⟩
      rw [← hqq] at m0 m1 m2 m3 hqo
      have HCL := Lib.hid (HF.out wr hB qq hqo)
      have HQN := Lib.hid (show ¬ q qq → ∀ j (hj : j < k + 1) (hl : j < l.length), ¬ q l[j] from fun h j hj hl => by
        by_cases e : j = k
        · subst e; rw [hqq] at h; exact h
        · exact hany j (by omega) hl)
      clear hany hB hqo
      have HQE := Lib.hid hqq
      clear hqq
      obtain ⟨q1, q2, q3, q4⟩ := qq
      have HCL' := HCL.out
      unfold C4.v at HCL'
      have HCL2 := Lib.hid HCL'
      simp only at m0 m1 m2 m3
      clear HCL HCL'
      go_wp2_with (go_at_call 43; refine HCL2.out.mono ?_; rintro e w1 ⟨bd, rfl, hbd, hw⟩; have HW := Lib.hid hw; have HBD := Lib.hid hbd; clear hw hbd m0 m1 m2 m3; cases bd)
      · go_roundw
        case rel => exact ⟨k + 1, HLT.out, by go_num, HQN.out (fun h => by have := HBD.out.2 h; cases this), below_step HB.out HW.out⟩
        case measure => simp [intOf]; omega
      · go_ret
        exact ⟨below_step HB.out HW.out, .inr ⟨k, HLT.out, rfl, (by rw [← HQE.out]; exact HBD.out.1 (by first | rfl | trivial)), fun j hj => HANY.out j hj (by have := HLT.out; omega)⟩⟩
    · obtain rfl : k = l.length := by omega
      clear hany hB
      go_wp2_with fail
      go_ret
      refine ⟨HB.out, .inl ⟨by first | rfl | simp, fun x hx => ?_⟩⟩
      obtain ⟨j, hj, rfl⟩ := List.getElem_of_mem hx
      exact HANY.out j hj hj
set_option maxHeartbeats 1000000 in
theorem index2_47 {S : Nat → Prop} (w : World) (a : Option Addr) (cap : Nat) (l : List C4) (hx : Rd (.sl cellT) S w [.slice a l.length cap] (l.map C4.d)) (hS : ∀ b, S b → b < w.heap.size) (gB fB : Nat) (q : C4 → Prop)
    (hF : ∀ W, Below w.heap.size w W → ∀ x : C4, x.ok → Calls Try.prog 45 (#[x.v, .pointer (some ⟨gB, 0, none⟩), .pointer (some ⟨fB, 0, none⟩)]) W (TstP (q x) W)) :
    Calls Try.prog 42 #[.slice a l.length cap, .func (.func 45) #[] #[.pointer (some ⟨gB, 0, none⟩), .pointer (some ⟨fB, 0, none⟩)]] w (IxP w l q) := by
  have hm := hx.sl_flat.2.2.1
  have hlc := hx.sl_flat.2.1
  have HX := Lib.hid hx
  have HS := Lib.hid hS
  have HF := Lib.hid hF
  clear hx hS hF
  go_enter Try.func42, Try.ntmps42
  go_wp2_with fail
  go_loopw [5, 8] (fun _ i wr => ∃ (k : Nat), k ≤ l.length ∧ i = .int .i64 k ∧ (∀ j (hj : j < k) (hl : j < l.length), ¬ q l[j]) ∧ Below w.heap.size w wr) (fun _ i _ => l.length - (intOf i).toNat)
  case atStart => exact ⟨0, Nat.zero_le _, rfl, (fun j hj => absurd hj (Nat.not_lt_zero _)), Below.refl _ _⟩
  case round =>
    obtain ⟨k, hk, rfl, hany, hB⟩ := hrel
    have HB := Lib.hid hB
    have HANY := Lib.hid hany
    by_cases hlt : k < l.length
    · obtain ⟨b, o, rfl, -, m0, m1, m2, m3, hqo⟩ := cell_at (HX.out.below hB HS.out) k hlt
      have hkI : (k : Int) < (l.length : Int) := by omega
      have HLT := Lib.hid hlt
      obtain ⟨qq, hqq⟩ : ∃ x, x = l[k]'hlt := ⟨_, rfl⟩
      rw [← hqq] at m0 m1 m2 m3 hqo
      have HCL := Lib.hid (HF.out wr hB qq hqo)
      have HQN := Lib.hid (show ¬ q qq → ∀ j (hj : j < k + 1) (hl : j < l.length), ¬ q l[j] from fun h j hj hl => by
        by_cases e : j = k
        · subst e; rw [hqq] at h; exact h
        · exact hany j (by omega) hl)
      clear hany hB hqo
      have HQE := Lib.hid hqq
      clear hqq
      obtain ⟨q1, q2, q3, q4⟩ := qq
      have HCL' := HCL.out
      unfold C4.v at HCL'
      have HCL2 := Lib.hid HCL'
      simp only at m0 m1 m2 m3
      clear HCL HCL'
      go_wp2_with (go_at_call 45; refine HCL2.out.mono ?_; rintro e w1 ⟨bd, rfl, hbd, hw⟩; have HW := Lib.hid hw; have HBD := Lib.hid hbd; clear hw hbd m0 m1 m2 m3; cases bd)
      · go_roundw
        case rel => exact ⟨k + 1, HLT.out, by go_num, HQN.out (fun h => by have := HBD.out.2 h; cases this), below_step HB.out HW.out⟩
        case measure => simp [intOf]; omega
      · go_ret
        exact ⟨below_step HB.out HW.out, .inr ⟨k, HLT.out, rfl, (by rw [← HQE.out]; exact HBD.out.1 (by first | rfl | trivial)), fun j hj => HANY.out j hj (by have := HLT.out; omega)⟩⟩
    · obtain rfl : k = l.length := by omega
      clear hany hB
      go_wp2_with fail
      go_ret
      refine ⟨HB.out, .inl ⟨by first | rfl | simp, fun x hx => ?_⟩⟩
      obtain ⟨j, hj, rfl⟩ := List.getElem_of_mem hx
      exact HANY.out j hj hj
set_option maxHeartbeats 1000000 in
theorem index47 {S : Nat → Prop} (w : World) (a : Option Addr) (cap : Nat) (l : List C4) (hx : Rd (.sl cellT) S w [.slice a l.length cap] (l.map C4.d)) (hS : ∀ b, S b → b < w.heap.size) (c : C4) :
    Calls Try.prog 46 #[.slice a l.length cap, c.v] w (IxP w l (fun x => c = x)) := by
  have hm := hx.sl_flat.2.2.1
  have hlc := hx.sl_flat.2.1
  have HX := Lib.hid hx
  have HS := Lib.hid hS
  have HEQ := Lib.hid (fun W x => cell_eql W c x)
  have hgd : Try.prog.eqGuardType Try.prog.depth 38 = false := by kernel_rfl
  obtain ⟨c1, c2, c3, c4⟩ := c
  have hB := (Below.refl w.heap.size w).alloc (Nat.le_refl _) (.cells #[.int .i64 c1, .int .i64 c2, .int .i64 c3, .int .i64 c4] 38)
  have hkb := heap_alloc_new w (.cells #[.int .i64 c1, .int .i64 c2, .int .i64 c3, .int .i64 c4] 38)
  have HB := Lib.hid hB
  have HKB := Lib.hid hkb
  clear hx hS hB hkb
  unfold C4.v
  simp only
  go_enter Try.func46, Try.ntmps46
  go_wp2_with fail
  generalize World.alloc _ _ = w1 at *
  go_loopw [5, 8] (fun _ i wr => ∃ (k : Nat), k ≤ l.length ∧ i = .int .i64 k ∧ (∀ j (hj : j < k) (hl : j < l.length), ¬ (⟨c1, c2, c3, c4⟩ : C4) = l[j]) ∧ Below w1.heap.size w1 wr) (fun _ i _ => l.length - (intOf i).toNat)
  case atStart => exact ⟨0, Nat.zero_le _, rfl, (fun j hj => absurd hj (Nat.not_lt_zero _)), Below.refl _ _⟩
  case round =>
    obtain ⟨k, hk, rfl, hany, hBr⟩ := hrel
    have HBr := Lib.hid hBr
    have HBW := Lib.hid (below_step HB.out hBr)
    have HANY := Lib.hid hany
    have hkb := (hBr.block _ (blk_lt HKB.out)).trans HKB.out
    clear hany hBr
    by_cases hlt : k < l.length
    · obtain ⟨b, o, rfl, -, m0, m1, m2, m3, hqo⟩ := cell_at (HX.out.below HBW.out HS.out) k hlt
      have hkI : (k : Int) < (l.length : Int) := by omega
      have HLT := Lib.hid hlt
      obtain ⟨qq, hqq⟩ : ∃ x, x = l[k]'hlt := ⟨_, rfl⟩
      rw [← hqq] at m0 m1 m2 m3
      have HQN := Lib.hid (show ¬ (⟨c1, c2, c3, c4⟩ : C4) = qq → ∀ j (hj : j < k + 1) (hl : j < l.length), ¬ (⟨c1, c2, c3, c4⟩ : C4) = l[j] from fun h j hj hl => by
        by_cases e : j = k
        · subst e; rw [hqq] at h; exact h
        · exact HANY.out j (by omega) hl)
      have heq := fun W => HEQ.out W qq
      obtain ⟨eb, heb⟩ : ∃ eb, decide ((⟨c1, c2, c3, c4⟩ : C4) = qq) = eb := ⟨_, rfl⟩
      rw [heb] at heq
      have HEB := Lib.hid heb
      clear hqo heb
      have HQE := Lib.hid hqq
      clear hqq
      obtain ⟨q1, q2, q3, q4⟩ := qq
      unfold C4.v at heq
      simp only at m0 m1 m2 m3 heq
      have hC0 : Cells [(⟨b, o + k * 4, none⟩, .int .i64 q1), (⟨b, o + k * 4 + 1, none⟩, .int .i64 q2), (⟨b, o + k * 4 + 2, none⟩, .int .i64 q3), (⟨b, o + k * 4 + 3, none⟩, .int .i64 q4), (⟨w.heap.size, 0, none⟩, .int .i64 c1), (⟨w.heap.size, 1, none⟩, .int .i64 c2), (⟨w.heap.size, 2, none⟩, .int .i64 c3), (⟨w.heap.size, 3, none⟩, .int .i64 c4)] wr := ⟨m0, m1, m2, m3, blk_cell hkb 0, blk_cell hkb 1, blk_cell hkb 2, blk_cell hkb 3, trivial⟩
      clear m0 m1 m2 m3 hkb
      go_upto_region 4 with fail
      refine wp_region_T (Cells [(⟨b, o + k * 4, none⟩, .int .i64 q1), (⟨b, o + k * 4 + 1, none⟩, .int .i64 q2), (⟨b, o + k * 4 + 2, none⟩, .int .i64 q3), (⟨b, o + k * 4 + 3, none⟩, .int .i64 q4), (⟨w.heap.size, 0, none⟩, .int .i64 c1), (⟨w.heap.size, 1, none⟩, .int .i64 c2), (⟨w.heap.size, 2, none⟩, .int .i64 c3), (⟨w.heap.size, 3, none⟩, .int .i64 c4)]) (fun _ => false) (by kernel_rfl) ?_
      have hSss1 := Cells.drew hC0
      have hB_0_s1 : Below wr.heap.size wr wr.drew := below_drew _
      generalize wr.drew = s1 at hSss1 hB_0_s1 ⊢
      have hB_s1_s1 := Below.refl s1.heap.size s1
      refine wpAnyT_pure (i := 1) (v := ?_) rfl (by kernel_rfl) (by kernel_rfl) (by kernel_rfl) (fun _ _ _ h => h) (by rfl) ?_ ?_
      rotate_left
      · intro w; go_simp; try with_reducible rfl
      simp only [Act.put, rgA, rgB, rgC, rgD, rgE, rgF]
      refine wpAnyT_pure (i := 2) (v := ?_) rfl (by kernel_rfl) (by kernel_rfl) (by kernel_rfl) (fun _ _ _ h => h) (by rfl) ?_ ?_
      rotate_left
      · intro w; go_simp; try with_reducible rfl
      simp only [Act.put, rgA, rgB, rgC, rgD, rgE, rgF]
      refine wpAnyT_pure (i := 3) (v := ?_) rfl (by kernel_rfl) (by kernel_rfl) (by kernel_rfl) (fun _ _ _ h => h) (by rfl) ?_ ?_
      rotate_left
      · intro w; go_simp; try with_reducible rfl
      simp only [Act.put, rgA, rgB, rgC, rgD, rgE, rgF]
      refine wpAnyT_loadW (i := 0) (v := ?_) rfl (by kernel_rfl) (by kernel_rfl) (by kernel_rfl) (by kernel_rfl) (by kernel_rfl) (fun _ _ _ h => h) (Or.inl ⟨by rfl, ?_⟩) hSss1 ?_
      rotate_left
      · intro w hSw; obtain ⟨e0, e1, e2, e3, e4, e5, e6, e7, -⟩ := hSw; go_simp; try with_reducible rfl
      simp only [Act.put, rgA, rgB, rgC, rgD, rgE, rgF]
      refine wpAnyT_loadW (i := 4) (v := ?_) rfl (by kernel_rfl) (by kernel_rfl) (by kernel_rfl) (by kernel_rfl) (by kernel_rfl) (fun _ _ _ h => h) (Or.inl ⟨by rfl, ?_⟩) hSss1 ?_
      rotate_left
      · intro w hSw; obtain ⟨e0, e1, e2, e3, e4, e5, e6, e7, -⟩ := hSw; go_simp; try with_reducible rfl
      simp only [Act.put, rgA, rgB, rgC, rgD, rgE, rgF]
      refine wpAnyT_pure (i := 5) (v := ?_) rfl (by kernel_rfl) (by kernel_rfl) (by kernel_rfl) (fun _ _ _ h => h) (by rfl) ?_ ?_
      rotate_left
      · intro w; go_simp; try with_reducible rfl
      simp only [Act.put, rgA, rgB, rgC, rgD, rgE, rgF]
      refine wpAnyT_done (by kernel_rfl) ?_ _
      have HBN := Lib.hid (hB_0_s1.trans ((hB_s1_s1).mono (hB_0_s1).size))
      obtain ⟨w5, rfl⟩ : ∃ x, x = s1 := ⟨_, rfl⟩
      clear hC0
      cases eb
      · go_wp2_with fail
        go_roundw
        case rel => exact ⟨k + 1, HLT.out, by go_num, HQN.out (of_decide_eq_false HEB.out), below_step HBr.out HBN.out⟩
        case measure => simp [intOf]; omega
      · go_wp2_with fail
        go_ret
        exact ⟨below_step HBW.out HBN.out, .inr ⟨k, HLT.out, rfl, (by rw [← HQE.out]; exact of_decide_eq_true HEB.out), fun j hj => HANY.out j hj (by have := HLT.out; omega)⟩⟩
    · obtain rfl : k = l.length := by omega
      clear hkb
      go_wp2_with fail
      go_ret
      refine ⟨HBW.out, .inl ⟨by first | rfl | simp, fun x hx => ?_⟩⟩
      obtain ⟨j, hj, rfl⟩ := List.getElem_of_mem hx
      exact HANY.out j hj hj
end Go.Proofs.Ytoimbhdjhhmonaa

/- Layer 47, plain: the way of Cycle in a graph, by the program's test. -/
set_option linter.unusedSimpArgs false
namespace Go.Proofs.Ytoimbhdjhhmonaa
open Go.RowKit Go

theorem rch_head {rs : C4 → C4 → Bool} {a b : C4} (h : Rch rs a b) : ∃ y, rs a y = true := by
  induction h with
  | one h' => exact ⟨_, h'⟩
  | step _ _ ih => exact ih
section
variable {rd : C4 → Option (List C4)} {all : List C4} {first : C4}
/-- The program's test of a read. -/
def PTst (rd : C4 → Option (List C4)) (first d : C4) : Prop := Rch (rsOf rd) d d ∧ (d = first ∨ Rch (rsOf rd) first d)
theorem way_tst (hf : Rch (rsOf rd) first first) (k : Nat) {d : C4} (hd : d ∈ rdL rd (itC (rsOf rd) (rdL rd) first k)) : PTst rd first d ↔ (d = first ∨ Rch (rsOf rd) first d) := by
  have hrs := (rsOf_rdL rd d _).2 hd
  have hon := (itC_on (fun d y => rsOf_rdL rd d y) hf k).1
  constructor
  · exact fun h => h.2
  · intro h
    refine ⟨?_, h⟩
    rcases h with rfl | h
    · exact hf
    · exact (hon.1.head hrs).trans h
theorem way_next (hf : Rch (rsOf rd) first first) (k : Nat) {i : Nat} (hi : i < (rdL rd (itC (rsOf rd) (rdL rd) first k)).length) (ht : PTst rd first (rdL rd (itC (rsOf rd) (rdL rd) first k))[i])
    (hn : ∀ j (hj : j < i), ¬ PTst rd first ((rdL rd (itC (rsOf rd) (rdL rd) first k))[j]'(by omega))) : itC (rsOf rd) (rdL rd) first (k + 1) = (rdL rd (itC (rsOf rd) (rdL rd) first k))[i] := by
  refine nxC_eq hi ((way_tst hf k (List.getElem_mem hi)).1 ht) (fun j hj => ?_)
  have := hn j hj
  rw [way_tst hf k (List.getElem_mem _)] at this
  exact this
theorem way_some (hf : Rch (rsOf rd) first first) (k : Nat) : ∃ d ∈ rdL rd (itC (rsOf rd) (rdL rd) first k), PTst rd first d := by
  obtain ⟨d, hd, ht⟩ := onC_some (itC_on (fun d y => rsOf_rdL rd d y) hf k).1
  have hm := (rsOf_rdL rd d _).1 hd
  exact ⟨d, hm, (way_tst hf k hm).2 ht⟩
theorem way_mem (hA : AllG rd all) (hf : Rch (rsOf rd) first first) (k : Nat) : itC (rsOf rd) (rdL rd) first k ∈ all := by
  obtain ⟨y, hy⟩ := rch_head (itC_on (fun d y => rsOf_rdL rd d y) hf k).1.1
  exact (hA.reader hy).1
theorem way_sub (hA : AllG rd all) (hf : Rch (rsOf rd) first first) (k : Nat) : ∀ x ∈ wayC (rsOf rd) (rdL rd) first k, x ∈ all := by
  intro x hx
  unfold wayC at hx
  obtain ⟨i, -, rfl⟩ := List.mem_map.1 hx
  exact way_mem hA hf i
theorem way_len (hA : AllG rd all) (hf : Rch (rsOf rd) first first) {k : Nat} (hn : (wayC (rsOf rd) (rdL rd) first k).Nodup) : k ≤ all.length := by
  have := nodup_len hn (way_sub hA hf k)
  rw [wayC_len] at this
  exact this
theorem way_snoc {rs : C4 → C4 → Bool} {rd' : C4 → List C4} {k : Nat} (hn : (wayC rs rd' first k).Nodup) (h : ∀ x ∈ wayC rs rd' first k, ¬ itC rs rd' first k = x) : (wayC rs rd' first (k + 1)).Nodup := by
  rw [wayC_succ, List.nodup_append]
  refine ⟨hn, by simp, fun x hx y hy => ?_⟩
  rw [List.mem_singleton] at hy
  subst hy
  exact fun e => h x hx e.symm
end
end Go.Proofs.Ytoimbhdjhhmonaa
