/- Layer 47: DepsSorts. -/
import Derived.Test.YtoimbhdjhhmonaaE47r
set_option linter.unusedSimpArgs false
set_option linter.unusedVariables false
set_option maxRecDepth 50000
namespace Go.Proofs.Ytoimbhdjhhmonaa
open Go.RowKit Go Go.Shelf

set_option maxHeartbeats 4000000 in
theorem sortsWalk47 (w : World) (c0 : List Value) (x0 : (Ty.sl stepT).den) (r0 : Rd (.sl stepT) (fun b => b < w.heap.size) w c0 x0) :
    Calls Try.prog 7 #[valOf (Ty.sl stepT) c0] w fun e w' => e = .returned (.bool true) ∧ Below w.heap.size w w' := by
  obtain ⟨a, len, cap, rfl, hl0, -⟩ := id r0
  have HL := Lib.hid (show x0.length = len from hl0)
  have HX := Lib.hid r0
  have HS := Lib.hid (show ∀ b, b < w.heap.size → b < w.heap.size from fun _ h => h)
  have hlm : len ≤ 9223372036854775807 := Nat.le_trans r0.sl_flat.2.1 r0.sl_flat.2.2.1
  change Calls _ _ #[.slice a len cap] _ _
  clear r0 hl0
  go_enter Try.func7, Try.ntmps7
  have HAW := Lib.hid (awake47 w)
  go_wp2_with fail
  refine HAW.out.mono ?_
  clear HAW
  rintro e w1 ⟨rfl, hB1⟩
  have HB1 := Lib.hid hB1
  clear hB1
  have HFW := Lib.hid (few47 w1 a len cap x0 (HX.out.below HB1.out (fun _ h => h)) (fun b hb => Nat.lt_of_lt_of_le hb HB1.out.size))
  obtain ⟨fb, hfb⟩ : ∃ x, fewB x0 = x := ⟨_, rfl⟩
  rw [hfb] at HFW
  have HFB := Lib.hid hfb
  clear hfb
  go_wp2_with fail
  refine HFW.out.mono ?_
  clear HFW
  rintro e w2 ⟨rfl, hB2⟩
  have HB2 := Lib.hid (below_step HB1.out hB2)
  clear hB2
  cases fb
  case false =>
    go_wp2_with fail
    go_ret
    exact ⟨rfl, HB2.out⟩
  have HFB2 := Lib.hid (show fewB x0 = true from HFB.out)
  have HBU := Lib.hid (build47 w2 a len cap x0 (HX.out.below HB2.out (fun _ h => h)) (fun b hb => Nat.lt_of_lt_of_le hb HB2.out.size) HFB2.out)
  have HM := Lib.hid (show len ≤ 30 from by
    have h := HFB2.out
    unfold fewB at h
    rw [Bool.and_eq_true] at h
    have h2 := of_decide_eq_true h.2
    rw [HL.out] at h2
    exact h2)
  go_wp2_with fail
  refine HBU.out.mono ?_
  clear HBU
  rintro e w3 ⟨F, p, mr, ms, n, K, G, ha, hc, rfl, hG, hF, hB3⟩
  have HG3 := Lib.hid hG
  have HB3 := Lib.hid (below_step HB2.out hB3)
  have HA := Lib.hid hG.gi.allG
  have HM2 := Lib.hid (show len ≤ 100 from by have := HM.out; omega)
  clear hG hF hB3
  have HO3 := Lib.hid (HG3.out.order HM2.out)
  obtain ⟨al, hal⟩ : ∃ x, cellsG G = x := ⟨_, rfl⟩
  rw [hal] at HO3 HA
  have HAE := Lib.hid hal
  have HALL := Lib.hid (show al.length ≤ 4000 from by
    have h1 := cellsG_len HG3.out.gi
    rw [hal] at h1
    have h2 := HG3.out.gi.num
    have := HM.out
    omega)
  clear hal
  go_wp2_with fail
  refine HO3.out.mono ?_
  rintro e w4 ⟨hB4, hor⟩
  have HB4 := Lib.hid (below_step HB3.out hB4)
  have HG4 := Lib.hid (HG3.out.below hB4)
  have HW4 := Lib.hid hB4
  have HC4 := Lib.hid (HG4.out.cycle HM2.out)
  rw [HAE.out] at HC4
  clear hB4
  rcases hor with ⟨hfl, rfl⟩ | ⟨hfl, v, rfl, hsl⟩
  · have HCY := Lib.hid (finO_cyc HA.out.srt (rsOf_rdL (lkG G)) HA.out.closed hfl)
    clear hfl
    go_wp2_with fail
    refine HC4.out.mono ?_
    rintro e w5 ⟨ca, cc, ys, rfl, hcq, hsub, hyl, hrd, hB5⟩
    have HYP := Lib.hid (hcq.some HCY.out)
    obtain ⟨hnd, hrds⟩ := hcq.reads (rsOf_rdL (lkG G))
    have HND := Lib.hid hnd
    have HRDS := Lib.hid hrds
    have HRD := Lib.hid hrd
    have HSUB := Lib.hid hsub
    have HB5 := Lib.hid (below_step HB4.out hB5)
    have HG5 := Lib.hid (HG4.out.below hB5)
    have hym : ys.length ≤ 4000 := Nat.le_trans hyl HALL.out
    clear hcq hsub hyl hrd hB5 hnd hrds
    go_wp2_with fail
    go_loopw [9] (fun s9 wr => ∃ (i : Nat), i ≤ ys.length ∧ s9 = .int .i64 i ∧ Below w5.heap.size w5 wr) (fun s9 _ => ys.length - (intOf s9).toNat)
    case atStart => exact ⟨0, Nat.zero_le _, rfl, Below.refl _ _⟩
    case round =>
      obtain ⟨i, hi, rfl, hBr⟩ := hrel
      have HBr := Lib.hid hBr
      have HBW := Lib.hid (below_step HB5.out hBr)
      have HGr := Lib.hid (HG5.out.below hBr)
      have HRDr := Lib.hid (show Rd (.sl cellT) (fun b => b < wr.heap.size) wr [.slice ca ys.length cc] (ys.map C4.d) from (HRD.out.below hBr (fun b hb => hb.2)).keep (fun _ _ => rfl) (fun b hb => Nat.lt_of_lt_of_le hb.2 hBr.size))
      clear hBr
      by_cases hil : i < ys.length
      · have hiI : (i : Int) < (ys.length : Int) := by omega
        obtain ⟨nx, hnx⟩ : ∃ x, x = (i + 1) % ys.length := ⟨_, rfl⟩
        have hnl : nx < ys.length := by rw [hnx]; exact Nat.mod_lt _ (by omega)
        obtain ⟨b, o, hca, hb1, m0, m1, m2, m3, hcok⟩ := cell_at HRDr.out i hil
        obtain ⟨b2, o2, hca2, -, n0, n1, n2, n3, hdok⟩ := cell_at HRDr.out nx hnl
        rw [hca] at hca2
        obtain ⟨rfl, rfl⟩ : b = b2 ∧ o = o2 := by injection hca2 with h; injection h with h1 h2; exact ⟨h1, h2⟩
        obtain ⟨c, hc⟩ : ∃ x, x = ys[i]'hil := ⟨_, rfl⟩
        obtain ⟨d, hd⟩ : ∃ x, x = ys[nx]'hnl := ⟨_, rfl⟩
        rw [← hc] at m0 m1 m2 m3 hcok
        rw [← hd] at n0 n1 n2 n3
        have HIN := Lib.hid (show decide (d ∈ (lkG G c).getD []) = true from by
          have h1 := HRDS.out i hil
          have h2 : ys[(i + 1) % ys.length]'(Nat.mod_lt _ (by omega)) = d := by rw [hd]; simp only [hnx]
          rw [h2, ← hc] at h1
          exact decide_eq_true h1)
        have HNI := Lib.hid (show decide (c ∈ ys.take i) = false from by
          refine decide_eq_false fun hm => ?_
          obtain ⟨q, hq, e⟩ := List.getElem_of_mem hm
          rw [List.length_take] at hq
          rw [List.getElem_take] at e
          exact List.pairwise_iff_getElem.1 HND.out q i (by omega) hil (by omega) (e.trans hc))
        have HIL := Lib.hid hil
        have HNX := Lib.hid hnx
        have HCO := Lib.hid hcok
        have hTK := HRDr.out.take i (by omega)
        rw [← List.map_take] at hTK
        have HTK := Lib.hid hTK
        have HIT := Lib.hid (show (ys.take i).length = i from by rw [List.length_take]; omega)
        have HRM := Lib.hid (show (IntKind.i64.wrap ((i : Int) + 1)).tmod (ys.length : Int) = (nx : Int) from by
          have h1 : IntKind.i64.wrap ((i : Int) + 1) = ((i + 1 : Nat) : Int) := by rw [IntKind.wrap_i64] <;> omega
          rw [h1, hnx]
          rfl)
        have HYN := Lib.hid (show ¬ ys = [] from fun e => by rw [e] at hil; simp at hil)
        clear hca2 hc hd hcok hdok hTK hb1 hnx
        have HCAE := Lib.hid hca
        subst hca
        obtain ⟨c1, c2, c3, c4⟩ := c
        obtain ⟨d1, d2, d3, d4⟩ := d
        simp only at m0 m1 m2 m3 n0 n1 n2 n3
        have hC0 : Cells [(⟨b, o + i * 4, none⟩, .int .i64 c1), (⟨b, o + i * 4 + 1, none⟩, .int .i64 c2), (⟨b, o + i * 4 + 2, none⟩, .int .i64 c3), (⟨b, o + i * 4 + 3, none⟩, .int .i64 c4), (⟨b, o + nx * 4, none⟩, .int .i64 d1), (⟨b, o + nx * 4 + 1, none⟩, .int .i64 d2), (⟨b, o + nx * 4 + 2, none⟩, .int .i64 d3), (⟨b, o + nx * 4 + 3, none⟩, .int .i64 d4)] wr := ⟨m0, m1, m2, m3, n0, n1, n2, n3, trivial⟩
        clear m0 m1 m2 m3 n0 n1 n2 n3
        have HNL := Lib.hid hnl
        have hcap : i ≤ cc := Nat.le_trans (Nat.le_of_lt hil) HRDr.out.sl_flat.2.1
        go_upto_region 12 with fail
        refine wp_region_T (Cells [(⟨b, o + i * 4, none⟩, .int .i64 c1), (⟨b, o + i * 4 + 1, none⟩, .int .i64 c2), (⟨b, o + i * 4 + 2, none⟩, .int .i64 c3), (⟨b, o + i * 4 + 3, none⟩, .int .i64 c4), (⟨b, o + nx * 4, none⟩, .int .i64 d1), (⟨b, o + nx * 4 + 1, none⟩, .int .i64 d2), (⟨b, o + nx * 4 + 2, none⟩, .int .i64 d3), (⟨b, o + nx * 4 + 3, none⟩, .int .i64 d4)]) (fun _ => false) (by kernel_rfl) ?_
        have hSss1 := Cells.drew hC0
        have hB_0_s1 : Below wr.heap.size wr wr.drew := below_drew _
        generalize wr.drew = s1 at hSss1 hB_0_s1 ⊢
        have hB_s1_s1 := Below.refl s1.heap.size s1
        refine wpAnyT_pure (i := 0) (v := ?_) rfl (by kernel_rfl) (by kernel_rfl) (by kernel_rfl) (fun _ _ _ h => h) (by rfl) ?_ ?_
        rotate_left
        · intro w; go_simp; try with_reducible rfl
        simp only [Act.put, rgA, rgB, rgC, rgD, rgE, rgF]
        refine wpAnyT_pure (i := 1) (v := ?_) rfl (by kernel_rfl) (by kernel_rfl) (by kernel_rfl) (fun _ _ _ h => h) (by rfl) ?_ ?_
        rotate_left
        · intro w; go_simp; try with_reducible rfl
        simp only [Act.put, rgA, rgB, rgC, rgD, rgE, rgF]
        refine wpAnyT_pure (i := 2) (v := ?_) rfl (by kernel_rfl) (by kernel_rfl) (by kernel_rfl) (fun _ _ _ h => h) (by rfl) ?_ ?_
        rotate_left
        · intro w; go_simp; try with_reducible rfl
        simp only [Act.put, rgA, rgB, rgC, rgD, rgE, rgF]
        refine wpAnyT_pure (i := 3) (v := ?_) rfl (by kernel_rfl) (by kernel_rfl) (by kernel_rfl) (fun _ _ _ h => h) (by rfl) ?_ ?_
        rotate_left
        · intro w; go_simp; try with_reducible rfl
        simp only [Act.put, rgA, rgB, rgC, rgD, rgE, rgF]
        refine wpAnyT_pure (i := 6) (v := ?_) rfl (by kernel_rfl) (by kernel_rfl) (by kernel_rfl) (fun _ _ _ h => h) (by rfl) ?_ ?_
        rotate_left
        · intro w; go_simp; try with_reducible rfl
        simp only [Act.put, rgA, rgB, rgC, rgD, rgE, rgF]
        refine wpAnyT_pure (i := 7) (v := ?_) rfl (by kernel_rfl) (by kernel_rfl) (by kernel_rfl) (fun _ _ _ h => h) (by rfl) ?_ ?_
        rotate_left
        · intro w; go_simp; try with_reducible rfl
        simp only [Act.put, rgA, rgB, rgC, rgD, rgE, rgF]
        refine wpAnyT_pure (i := 8) (v := ?_) rfl (by kernel_rfl) (by kernel_rfl) (by kernel_rfl) (fun _ _ _ h => h) (by rfl) ?_ ?_
        rotate_left
        · intro w; go_simp; try with_reducible rfl
        simp only [Act.put, rgA, rgB, rgC, rgD, rgE, rgF]
        refine wpAnyT_pure (i := 9) (v := ?_) rfl (by kernel_rfl) (by kernel_rfl) (by kernel_rfl) (fun _ _ _ h => h) (by rfl) ?_ ?_
        rotate_left
        · intro w; go_simp; try with_reducible rfl
        simp only [Act.put, rgA, rgB, rgC, rgD, rgE, rgF]
        refine wpAnyT_pure (i := 10) (v := ?_) rfl (by kernel_rfl) (by kernel_rfl) (by kernel_rfl) (fun _ _ _ h => h) (by rfl) ?_ ?_
        rotate_left
        · intro w; go_simp; try with_reducible rfl
        simp only [Act.put, rgA, rgB, rgC, rgD, rgE, rgF]
        refine wpAnyT_loadW (i := 4) (v := ?_) rfl (by kernel_rfl) (by kernel_rfl) (by kernel_rfl) (by kernel_rfl) (by kernel_rfl) (fun _ _ _ h => h) (Or.inl ⟨by rfl, ?_⟩) hSss1 ?_
        rotate_left
        · intro w hSw; obtain ⟨e0, e1, e2, e3, e4, e5, e6, e7, -⟩ := hSw; go_simp; try with_reducible rfl
        simp only [Act.put, rgA, rgB, rgC, rgD, rgE, rgF]
        refine wpAnyT_pure (i := 11) (v := (.int .i64 (nx : Nat))) rfl (by kernel_rfl) (by kernel_rfl) (by kernel_rfl) (fun _ _ _ h => h) (by rfl) ?_ ?_
        · intro w; (have hq := HRM.out; have hn := HYN.out; go_simp; try rw [if_neg hn, hq])
        simp only [Act.put, rgA, rgB, rgC, rgD, rgE, rgF]
        refine wpAnyT_pure (i := 12) (v := ?_) rfl (by kernel_rfl) (by kernel_rfl) (by kernel_rfl) (fun _ _ _ h => h) (by rfl) ?_ ?_
        rotate_left
        · intro w; go_simp; try with_reducible rfl
        simp only [Act.put, rgA, rgB, rgC, rgD, rgE, rgF]
        refine wpAnyT_loadW (i := 13) (v := ?_) rfl (by kernel_rfl) (by kernel_rfl) (by kernel_rfl) (by kernel_rfl) (by kernel_rfl) (fun _ _ _ h => h) (Or.inl ⟨by rfl, ?_⟩) hSss1 ?_
        rotate_left
        · intro w hSw; obtain ⟨e0, e1, e2, e3, e4, e5, e6, e7, -⟩ := hSw; go_simp; try with_reducible rfl
        simp only [Act.put, rgA, rgB, rgC, rgD, rgE, rgF]
        refine wpAnyT_one (i := 5) (by kernel_rfl) rfl (by rfl) ?_
        have hbP : Below wr.heap.size wr s1 := hB_0_s1.trans ((hB_s1_s1).mono hB_0_s1.size)
        have hgp := HGr.out.below hbP
        refine wp_enter (f := 17) (args := #[.pointer (some ⟨p, 0, none⟩), .agg #[.int .i64 c1, .int .i64 c2, .int .i64 c3, .int .i64 c4]]) (by go_simp) (hgp.reads ⟨c1, c2, c3, c4⟩ HCO.out) ?_
        rintro e w102 ⟨v, rfl, hs, hX⟩
        obtain ⟨va5, vc5, rfl⟩ := hs.form
        have HS5 := Lib.hid hs
        clear hs hbP hgp
        have hB_s1_w102 := below_step hB_s1_s1 hX
        have hB_w102_w102 := Below.refl w102.heap.size w102
        have hSsw102 := Cells.below hB_s1_w102 hSss1
        clear hX
        refine ⟨_, rfl, fun _ _ => hSsw102, ?_⟩
        try simp only [Act.put, rgA, rgB, rgC, rgD, rgE, rgF]
        refine wpAnyT_one (i := 14) (by kernel_rfl) rfl (by rfl) ?_
        have hha := rhas47 w102 va5 vc5 ((lkG G ⟨c1, c2, c3, c4⟩).getD []) (HS5.out.below hB_w102_w102).rd (fun b hb => hb.2) ⟨d1, d2, d3, d4⟩
        rw [HIN.out] at hha
        unfold C4.v at hha
        refine wp_enter (f := 18) (args := #[.slice va5 ((lkG G ⟨c1, c2, c3, c4⟩).getD []).length vc5, .agg #[.int .i64 d1, .int .i64 d2, .int .i64 d3, .int .i64 d4]]) (by go_simp) hha ?_
        rintro e w103 ⟨rfl, hX⟩
        clear hha
        have hB_s1_w103 := below_step hB_s1_w102 hX
        have hB_w102_w103 := below_step hB_w102_w102 hX
        have hB_w103_w103 := Below.refl w103.heap.size w103
        have hSsw103 := Cells.below hB_s1_w103 hSss1
        clear hX
        refine ⟨_, rfl, fun _ _ => hSsw103, ?_⟩
        try simp only [Act.put, rgA, rgB, rgC, rgD, rgE, rgF]
        refine wpAnyT_pure (i := 15) (v := ?_) rfl (by kernel_rfl) (by kernel_rfl) (by kernel_rfl) (fun _ _ _ h => h) (by rfl) ?_ ?_
        rotate_left
        · intro w; go_simp; try with_reducible rfl
        simp only [Act.put, rgA, rgB, rgC, rgD, rgE, rgF]
        refine wpAnyT_pure (i := 16) (v := ?_) rfl (by kernel_rfl) (by kernel_rfl) (by kernel_rfl) (fun _ _ _ h => h) (by rfl) ?_ ?_
        rotate_left
        · intro w; go_simp; try with_reducible rfl
        simp only [Act.put, rgA, rgB, rgC, rgD, rgE, rgF]
        refine wpAnyT_pure (i := 17) (v := ?_) rfl (by kernel_rfl) (by kernel_rfl) (by kernel_rfl) (fun _ _ _ h => h) (by rfl) ?_ ?_
        rotate_left
        · intro w; go_simp; try with_reducible rfl
        simp only [Act.put, rgA, rgB, rgC, rgD, rgE, rgF]
        refine wpAnyT_pure (i := 18) (v := ?_) rfl (by kernel_rfl) (by kernel_rfl) (by kernel_rfl) (fun _ _ _ h => h) (by rfl) ?_ ?_
        rotate_left
        · intro w; go_simp; try with_reducible rfl
        simp only [Act.put, rgA, rgB, rgC, rgD, rgE, rgF]
        refine wpAnyT_pure (i := 19) (v := ?_) rfl (by kernel_rfl) (by kernel_rfl) (by kernel_rfl) (fun _ _ _ h => h) (by rfl) ?_ ?_
        rotate_left
        · intro w; go_simp; try with_reducible rfl
        simp only [Act.put, rgA, rgB, rgC, rgD, rgE, rgF]
        refine wpAnyT_pure (i := 20) (v := ?_) rfl (by kernel_rfl) (by kernel_rfl) (by kernel_rfl) (fun _ _ _ h => h) (by rfl) ?_ ?_
        rotate_left
        · intro w; go_simp; try with_reducible rfl
        simp only [Act.put, rgA, rgB, rgC, rgD, rgE, rgF]
        refine wpAnyT_pure (i := 21) (v := ?_) rfl (by kernel_rfl) (by kernel_rfl) (by kernel_rfl) (fun _ _ _ h => h) (by rfl) ?_ ?_
        rotate_left
        · intro w; go_simp; try with_reducible rfl
        simp only [Act.put, rgA, rgB, rgC, rgD, rgE, rgF]
        refine wpAnyT_pure (i := 22) (v := ?_) rfl (by kernel_rfl) (by kernel_rfl) (by kernel_rfl) (fun _ _ _ h => h) (by rfl) ?_ ?_
        rotate_left
        · intro w; go_simp; try with_reducible rfl
        simp only [Act.put, rgA, rgB, rgC, rgD, rgE, rgF]
        refine wpAnyT_loadW (i := 23) (v := ?_) rfl (by kernel_rfl) (by kernel_rfl) (by kernel_rfl) (by kernel_rfl) (by kernel_rfl) (fun _ _ _ h => h) (Or.inl ⟨by rfl, ?_⟩) hSsw103 ?_
        rotate_left
        · intro w hSw; obtain ⟨e0, e1, e2, e3, e4, e5, e6, e7, -⟩ := hSw; go_simp; try with_reducible rfl
        simp only [Act.put, rgA, rgB, rgC, rgD, rgE, rgF]
        refine wpAnyT_one (i := 24) (by kernel_rfl) rfl (by rfl) ?_
        have hbP : Below wr.heap.size wr w103 := hB_0_s1.trans ((hB_s1_w103).mono hB_0_s1.size)
        have hha := rhas47 (S := fun b => b < wr.heap.size) w103 (some ⟨b, o, none⟩) cc (ys.take i) (by rw [HIT.out]; exact HTK.out.below hbP (fun b hb => hb)) (fun b hb => Nat.lt_of_lt_of_le hb hbP.size) ⟨c1, c2, c3, c4⟩
        rw [HNI.out, HIT.out] at hha
        unfold C4.v at hha
        refine wp_enter (f := 18) (args := #[.slice (some ⟨b, o, none⟩) i cc, .agg #[.int .i64 c1, .int .i64 c2, .int .i64 c3, .int .i64 c4]]) (by go_simp) hha ?_
        rintro e w104 ⟨rfl, hX⟩
        clear hha hbP
        have hB_s1_w104 := below_step hB_s1_w103 hX
        have hB_w102_w104 := below_step hB_w102_w103 hX
        have hB_w103_w104 := below_step hB_w103_w103 hX
        have hB_w104_w104 := Below.refl w104.heap.size w104
        have hSsw104 := Cells.below hB_s1_w104 hSss1
        clear hX
        refine ⟨_, rfl, fun _ _ => hSsw104, ?_⟩
        try simp only [Act.put, rgA, rgB, rgC, rgD, rgE, rgF]
        refine wpAnyT_pure (i := 25) (v := ?_) rfl (by kernel_rfl) (by kernel_rfl) (by kernel_rfl) (fun _ _ _ h => h) (by rfl) ?_ ?_
        rotate_left
        · intro w; go_simp; try with_reducible rfl
        simp only [Act.put, rgA, rgB, rgC, rgD, rgE, rgF]
        refine wpAnyT_done (by kernel_rfl) ?_ _
        have HBN := Lib.hid (below_step HBr.out (hB_0_s1.trans ((hB_s1_w104).mono (hB_0_s1).size)))
        obtain ⟨w8, rfl⟩ : ∃ x, x = w104 := ⟨_, rfl⟩
        clear hC0
        go_wp2_with fail
        go_roundw
        case rel => exact ⟨i + 1, HIL.out, by go_num, HBN.out⟩
        case measure => simp [intOf]; omega
      · have hiI : ¬ (i : Int) < (ys.length : Int) := by omega
        have hy0 : (0 : Int) < (ys.length : Int) := by have := HYP.out; omega
        go_wp2_with fail
        go_ret
        exact ⟨ret_bool (by simp <;> omega), HBW.out⟩
  · obtain ⟨hIO, -⟩ := finO_inv al (rdL (lkG G))
    obtain ⟨hac, hmem⟩ := finO_acyc (rsOf_rdL (lkG G)) hfl
    obtain ⟨ol, hol⟩ : ∃ x, finO al (rdL (lkG G)) = x := ⟨_, rfl⟩
    rw [hol] at hIO hmem hfl hsl
    have HIO := Lib.hid hIO
    have HAC := Lib.hid hac
    have HLEN := Lib.hid (show ol.length = al.length from Nat.le_antisymm hIO.len hfl)
    have HSRT := Lib.hid (show srtC ol = cellsG G from by rw [HAE.out]; exact srtC_eq HA.out.srt (fun x => (hmem x).symm))
    obtain ⟨va, vc, rfl⟩ := hsl.form
    have HSL := Lib.hid hsl
    have hom : ol.length ≤ 4000 := by have := HALL.out; have := HLEN.out; omega
    have HOM := Lib.hid hom
    clear hIO hac hmem hfl hsl hol
    go_wp2_with fail
    refine HC4.out.mono ?_
    rintro e w5 ⟨ca, cc, ys, rfl, hcq, hsub, hyl, hrd, hB5⟩
    obtain rfl : ys = [] := hcq.none HAC.out
    have HB5 := Lib.hid (below_step HB4.out hB5)
    have HG5 := Lib.hid (HG4.out.below hB5)
    have HSL5 := Lib.hid (HSL.out.below hB5)
    clear hcq hsub hyl hrd hB5
    rw [show ([] : List C4).length = 0 from rfl]
    go_wp2_with fail
    go_loopw [10] (fun s10 wr => ∃ (i : Nat), i ≤ ol.length ∧ s10 = .int .i64 i ∧ Below w5.heap.size w5 wr) (fun s10 _ => ol.length - (intOf s10).toNat)
    case atStart => exact ⟨0, Nat.zero_le _, rfl, Below.refl _ _⟩
    case round =>
      obtain ⟨i, hi, rfl, hBr⟩ := hrel
      have HBr := Lib.hid hBr
      have HBW := Lib.hid (below_step HB5.out hBr)
      have HGr := Lib.hid (HG5.out.below hBr)
      have HSr := Lib.hid (HSL5.out.below hBr)
      clear hBr
      by_cases hil : i < ol.length
      · have hiI : (i : Int) < (ol.length : Int) := by omega
        obtain ⟨b, o, hva, hb1, m0, m1, m2, m3, hcok⟩ := cell_at HSr.out.rd i hil
        obtain ⟨c, hc⟩ : ∃ x, x = ol[i]'hil := ⟨_, rfl⟩
        rw [← hc] at m0 m1 m2 m3 hcok
        have HTOP := Lib.hid (show ∀ r ∈ (lkG G c).getD [], r ∈ ol.take i from fun r hr => HIO.out.top i hil r (by rw [← hc]; exact hr))
        have HIL := Lib.hid hil
        have HCO := Lib.hid hcok
        have hTK := HSr.out.rd.take i (by omega)
        rw [← List.map_take] at hTK
        have HTK := Lib.hid hTK
        have HIT := Lib.hid (show (ol.take i).length = i from by rw [List.length_take]; omega)
        have HRE := Lib.hid (HGr.out.reads c hcok)
        have hcap : i ≤ vc := Nat.le_trans (Nat.le_of_lt hil) HSr.out.rd.sl_flat.2.1
        clear hc hcok hTK hb1
        subst hva
        obtain ⟨rds, hrds⟩ : ∃ x, (lkG G c).getD [] = x := ⟨_, rfl⟩
        rw [hrds] at HRE HTOP
        clear hrds
        obtain ⟨c1, c2, c3, c4⟩ := c
        unfold C4.v at HRE
        simp only at m0 m1 m2 m3
        go_wp2_with fail
        refine HRE.out.mono ?_
        rintro e w6 ⟨v6, rfl, hs6, hB6⟩
        obtain ⟨ra, rc, rfl⟩ := hs6.form
        have HS6 := Lib.hid hs6
        have HB6 := Lib.hid (below_step HBr.out hB6)
        have HT6 := Lib.hid (show Rd (.sl cellT) (fun b => b < wr.heap.size) w6 [.slice (some ⟨b, o, none⟩) i vc] ((ol.take i).map C4.d) from (HTK.out.below hB6 (fun b hb => hb.2)).keep (fun _ _ => rfl) (fun b hb => hb.2))
        have HZ6 := Lib.hid hB6.size
        have hrm : rds.length ≤ 9223372036854775807 := Nat.le_trans (by have := hs6.rd.sl_flat; rw [List.length_map] at this; exact Nat.le_trans (Nat.le_of_eq this.1) this.2.1) hs6.rd.sl_flat.2.2.1
        clear hs6 hB6 m0 m1 m2 m3
        go_wp2_with fail
        go_loopw [12] (fun s12 wy => ∃ (q : Nat), q ≤ rds.length ∧ s12 = .int .i64 q ∧ Below w6.heap.size w6 wy) (fun s12 _ => rds.length - (intOf s12).toNat)
        case atStart => exact ⟨0, Nat.zero_le _, rfl, Below.refl _ _⟩
        case round =>
          obtain ⟨q, hq, rfl, hBy⟩ := hrel
          have HBy := Lib.hid hBy
          have HSy := Lib.hid (HS6.out.below hBy)
          have HTy := Lib.hid (HT6.out.below hBy (fun b hb => Nat.lt_of_lt_of_le hb HZ6.out))
          have HZy := Lib.hid (Nat.le_trans HZ6.out hBy.size)
          clear hBy
          by_cases hql : q < rds.length
          · have hqI : (q : Int) < (rds.length : Int) := by omega
            obtain ⟨b6, o6, hra, -, m0, m1, m2, m3, -⟩ := cell_at HSy.out.rd q hql
            obtain ⟨d, hd⟩ : ∃ x, x = rds[q]'hql := ⟨_, rfl⟩
            rw [← hd] at m0 m1 m2 m3
            have HIN := Lib.hid (show decide (d ∈ ol.take i) = true from decide_eq_true (HTOP.out d (by rw [hd]; exact List.getElem_mem hql)))
            have HQL := Lib.hid hql
            clear hd
            subst hra
            obtain ⟨d1, d2, d3, d4⟩ := d
            simp only at m0 m1 m2 m3
            have hC0 : Cells [(⟨b6, o6 + q * 4, none⟩, .int .i64 d1), (⟨b6, o6 + q * 4 + 1, none⟩, .int .i64 d2), (⟨b6, o6 + q * 4 + 2, none⟩, .int .i64 d3), (⟨b6, o6 + q * 4 + 3, none⟩, .int .i64 d4)] wr := ⟨m0, m1, m2, m3, trivial⟩
            clear m0 m1 m2 m3
            go_upto_region 22 with fail
            refine wp_region_T (Cells [(⟨b6, o6 + q * 4, none⟩, .int .i64 d1), (⟨b6, o6 + q * 4 + 1, none⟩, .int .i64 d2), (⟨b6, o6 + q * 4 + 2, none⟩, .int .i64 d3), (⟨b6, o6 + q * 4 + 3, none⟩, .int .i64 d4)]) (fun _ => false) (by kernel_rfl) ?_
            have hSss5 := Cells.drew hC0
            have hB_0_s5 : Below wr.heap.size wr wr.drew := below_drew _
            generalize wr.drew = s5 at hSss5 hB_0_s5 ⊢
            have hB_s5_s5 := Below.refl s5.heap.size s5
            refine wpAnyT_pure (i := 0) (v := ?_) rfl (by kernel_rfl) (by kernel_rfl) (by kernel_rfl) (fun _ _ _ h => h) (by rfl) ?_ ?_
            rotate_left
            · intro w; go_simp; try with_reducible rfl
            simp only [Act.put, rgA, rgB, rgC, rgD, rgE, rgF]
            refine wpAnyT_pure (i := 1) (v := ?_) rfl (by kernel_rfl) (by kernel_rfl) (by kernel_rfl) (fun _ _ _ h => h) (by rfl) ?_ ?_
            rotate_left
            · intro w; go_simp; try with_reducible rfl
            simp only [Act.put, rgA, rgB, rgC, rgD, rgE, rgF]
            refine wpAnyT_pure (i := 2) (v := ?_) rfl (by kernel_rfl) (by kernel_rfl) (by kernel_rfl) (fun _ _ _ h => h) (by rfl) ?_ ?_
            rotate_left
            · intro w; go_simp; try with_reducible rfl
            simp only [Act.put, rgA, rgB, rgC, rgD, rgE, rgF]
            refine wpAnyT_pure (i := 3) (v := ?_) rfl (by kernel_rfl) (by kernel_rfl) (by kernel_rfl) (fun _ _ _ h => h) (by rfl) ?_ ?_
            rotate_left
            · intro w; go_simp; try with_reducible rfl
            simp only [Act.put, rgA, rgB, rgC, rgD, rgE, rgF]
            refine wpAnyT_pure (i := 4) (v := ?_) rfl (by kernel_rfl) (by kernel_rfl) (by kernel_rfl) (fun _ _ _ h => h) (by rfl) ?_ ?_
            rotate_left
            · intro w; go_simp; try with_reducible rfl
            simp only [Act.put, rgA, rgB, rgC, rgD, rgE, rgF]
            refine wpAnyT_pure (i := 5) (v := ?_) rfl (by kernel_rfl) (by kernel_rfl) (by kernel_rfl) (fun _ _ _ h => h) (by rfl) ?_ ?_
            rotate_left
            · intro w; go_simp; try with_reducible rfl
            simp only [Act.put, rgA, rgB, rgC, rgD, rgE, rgF]
            refine wpAnyT_loadW (i := 6) (v := ?_) rfl (by kernel_rfl) (by kernel_rfl) (by kernel_rfl) (by kernel_rfl) (by kernel_rfl) (fun _ _ _ h => h) (Or.inl ⟨by rfl, ?_⟩) hSss5 ?_
            rotate_left
            · intro w hSw; obtain ⟨e0, e1, e2, e3, -⟩ := hSw; go_simp; try with_reducible rfl
            simp only [Act.put, rgA, rgB, rgC, rgD, rgE, rgF]
            refine wpAnyT_one (i := 7) (by kernel_rfl) rfl (by rfl) ?_
            have hbP : Below wr.heap.size wr s5 := hB_0_s5.trans ((hB_s5_s5).mono hB_0_s5.size)
            have hha := rhas47 s5 (some ⟨b, o, none⟩) vc (ol.take i) (by rw [HIT.out]; exact HTy.out.below hbP (fun b hb => Nat.lt_of_lt_of_le hb HZy.out)) (fun b hb => Nat.lt_of_lt_of_le hb (Nat.le_trans HZy.out hbP.size)) ⟨d1, d2, d3, d4⟩
            rw [HIN.out, HIT.out] at hha
            unfold C4.v at hha
            refine wp_enter (f := 18) (args := #[.slice (some ⟨b, o, none⟩) i vc, .agg #[.int .i64 d1, .int .i64 d2, .int .i64 d3, .int .i64 d4]]) (by go_simp) hha ?_
            rintro e w106 ⟨rfl, hX⟩
            clear hha hbP
            have hB_s5_w106 := below_step hB_s5_s5 hX
            have hB_w106_w106 := Below.refl w106.heap.size w106
            have hSsw106 := Cells.below hB_s5_w106 hSss5
            clear hX
            refine ⟨_, rfl, fun _ _ => hSsw106, ?_⟩
            try simp only [Act.put, rgA, rgB, rgC, rgD, rgE, rgF]
            refine wpAnyT_pure (i := 8) (v := ?_) rfl (by kernel_rfl) (by kernel_rfl) (by kernel_rfl) (fun _ _ _ h => h) (by rfl) ?_ ?_
            rotate_left
            · intro w; go_simp; try with_reducible rfl
            simp only [Act.put, rgA, rgB, rgC, rgD, rgE, rgF]
            refine wpAnyT_done (by kernel_rfl) ?_ _
            have HBN := Lib.hid (below_step HBy.out (hB_0_s5.trans ((hB_s5_w106).mono (hB_0_s5).size)))
            obtain ⟨w8, rfl⟩ : ∃ x, x = w106 := ⟨_, rfl⟩
            clear hC0
            go_wp2_with fail
            go_roundw
            case rel => exact ⟨q + 1, HQL.out, by go_num, HBN.out⟩
            case measure => simp [intOf]; omega
          · have hqI : ¬ (q : Int) < (rds.length : Int) := by omega
            go_wp2_with fail
            go_roundw
            case rel => exact ⟨i + 1, HIL.out, by go_num, below_step HB6.out HBy.out⟩
            case measure => simp [intOf]; omega
      · have hiI : ¬ (i : Int) < (ol.length : Int) := by omega
        have HSO := Lib.hid (rsorted47 wr va vc ol HSr.out.rd (fun b hb => hb.2) (by have := HOM.out; omega))
        rw [HSRT.out] at HSO
        go_wp2_with fail
        refine HSO.out.mono ?_
        rintro e w6 ⟨v6, rfl, hs6, hB6⟩
        obtain ⟨ra, rc, rfl⟩ := hs6.form
        have HS6 := Lib.hid hs6
        have HB6 := Lib.hid (below_step HBW.out hB6)
        have HG6 := Lib.hid (HGr.out.below hB6)
        have HC6 := Lib.hid (HG6.out.cells (by have := HM2.out; omega))
        clear hs6 hB6
        go_wp2_with fail
        refine HC6.out.mono ?_
        rintro e w7 ⟨v7, rfl, hs7, hB7⟩
        obtain ⟨rb, rd7, rfl⟩ := hs7.form
        have HS7 := Lib.hid hs7
        have HB7 := Lib.hid (below_step HB6.out hB7)
        have HG7 := Lib.hid (HG6.out.below hB7)
        have HSM := Lib.hid (BG.same (HS6.out.below hB7) hs7)
        clear hs7 hB7
        go_wp2_with fail
        refine HSM.out.mono ?_
        rintro e w8 ⟨rfl, hB8⟩
        have HB8 := Lib.hid (below_step HB7.out hB8)
        have HG8 := Lib.hid (HG7.out.below hB8)
        have HC8 := Lib.hid (HG8.out.cells (by have := HM2.out; omega))
        clear hB8
        go_wp2_with fail
        refine HC8.out.mono ?_
        rintro e w9 ⟨v9, rfl, hs9, hB9⟩
        obtain ⟨rb9, rd9, rfl⟩ := hs9.form
        have HB9 := Lib.hid (below_step HB8.out hB9)
        have hlen : ol.length = (cellsG G).length := by rw [HLEN.out, HAE.out]
        have HLN := Lib.hid hlen
        clear hs9 hB9 hlen
        go_wp2_with fail
        go_ret
        exact ⟨by rw [← HLN.out]; exact ret_bool (by simp), HB9.out⟩
end Go.Proofs.Ytoimbhdjhhmonaa
