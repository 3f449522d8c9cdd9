/- Layer 53: the sort of many keys: partitionEqual. -/
import Derived.Test.YtdcjocldggmdbaaGreatS53i
set_option linter.unusedSimpArgs false
namespace Go.Proofs.YtdcjocldggmdbaaGreat
open Go.RowKit Go

theorem pe_stop (lt : Ky → Ky → Bool) (d : Array Ky) (a i j i2 j2 : Nat) (hi : Sort.scanUp (fun x => !lt d[a]! x) d j i = i2) (hj : Sort.scanDown (fun x => lt d[a]! x) d i2 j = j2) (h : j2 < i2) : Sort.partEqLoop lt a i j d = (i2, d) := by
  subst hi hj
  rw [Sort.partEqLoop_eq, if_pos h]
theorem pe_go (lt : Ky → Ky → Bool) (d : Array Ky) (a i j i2 j2 : Nat) (hi : Sort.scanUp (fun x => !lt d[a]! x) d j i = i2) (hj : Sort.scanDown (fun x => lt d[a]! x) d i2 j = j2) (h : ¬ j2 < i2) : Sort.partEqLoop lt a i j d = Sort.partEqLoop lt a (i2 + 1) (j2 - 1) (Sort.swp d i2 j2) := by
  subst hi hj
  rw [Sort.partEqLoop_eq, if_neg h]
set_option maxRecDepth 20000 in
set_option maxHeartbeats 4000000 in
theorem partEqK {S : Nat → Prop} {F : Nat → Prop} (w : World) (p : Nat) (ts : List Tk) (ne np m : Nat) (hS : SCtx S p ts ne np m F w) (g cap n : Nat) (d : Array Ky) (hn : d.size = n) (hn2 : n ≤ 100000) (hK : KA w g d) (hFg : F g) (a b pv : Nat) (hap : a ≤ pv) (hpb : pv < b) (hbn : b ≤ n) :
    Calls Tryz.prog 88 #[.slice (some ⟨g, 0, none⟩) n cap, .int .i64 (a : Nat), .int .i64 (b : Nat), .int .i64 (pv : Nat), cmpV p] w fun e w' => e = .returned (.int .i64 ((Sort.partitionEqual (ltK ts) d a b pv).1 : Nat)) ∧ KA w' g (Sort.partitionEqual (ltK ts) d a b pv).2 ∧ Gr (fun x => x = g) w w' := by
  obtain ⟨r, hr⟩ : ∃ r, Sort.partitionEqual (ltK ts) d a b pv = r := ⟨_, rfl⟩
  rw [hr]
  have HR := Lib.hid hr
  have HK := Lib.hid hK
  have HN := Lib.hid hn
  have HS := Lib.hid hS
  have HFG := Lib.hid hFg
  have HG0 := Lib.hid (Gr.refl (fun x => x = g) w)
  clear hr hK hn hS hFg
  unfold cmpV
  have haI : (a : Int) < (n : Int) := by omega
  have hpI : (pv : Int) < (n : Int) := by omega
  go_enter Tryz.func88, Tryz.ntmps88
  go_wp2_with fail
  obtain ⟨m0, m1, m2⟩ := HK.out.cell a (by rw [HN.out]; omega)
  obtain ⟨p0, p1, p2⟩ := HK.out.cell pv (by rw [HN.out]; omega)
  have HSW := Lib.hid (show Sort.swp d a pv = (d.setIfInBounds a d[pv]!).setIfInBounds pv d[a]! from rfl)
  have HSZN := Lib.hid (show (Sort.swp d a pv).size = n from by rw [swp_size]; exact HN.out)
  generalize d[a]! = x at m0 m1 m2 HSW
  generalize d[pv]! = y at p0 p1 p2 HSW
  obtain ⟨x1, x2, x3⟩ := x
  obtain ⟨y1, y2, y3⟩ := y
  simp only at m0 m1 m2 p0 p1 p2
  have hC0 : Cells [(⟨g, a * 3, none⟩, .string x1), (⟨g, a * 3 + 1, none⟩, .int .i64 x2), (⟨g, a * 3 + 2, none⟩, .int .i64 x3), (⟨g, pv * 3, none⟩, .string y1), (⟨g, pv * 3 + 1, none⟩, .int .i64 y2), (⟨g, pv * 3 + 2, none⟩, .int .i64 y3)] w := ⟨m0, m1, m2, p0, p1, p2, trivial⟩
  clear m0 m1 m2 p0 p1 p2
  refine wp_region_T (Cells [(⟨g, a * 3, none⟩, .string x1), (⟨g, a * 3 + 1, none⟩, .int .i64 x2), (⟨g, a * 3 + 2, none⟩, .int .i64 x3), (⟨g, pv * 3, none⟩, .string y1), (⟨g, pv * 3 + 1, none⟩, .int .i64 y2), (⟨g, pv * 3 + 2, none⟩, .int .i64 y3)]) (fun i => i == 13 || i == 15) (by kernel_rfl) ?_
  have hSss1 := Cells.drew hC0
  have hB_0_s1 : Below w.heap.size w w.drew := below_drew _
  generalize w.drew = s1 at hSss1 hB_0_s1 ⊢
  have hB_s1_s1 := Below.refl s1.heap.size s1
  refine wpAnyT_pure (i := 0) (v := ?_) rfl (by kernel_rfl) (by kernel_rfl) (by kernel_rfl) (fun _ _ _ h => h) (by rfl) ?_ ?_
  rotate_left
  · intro w; go_simp; try with_reducible rfl
  simp only [Act.put, rgA, rgB, rgC, rgD, rgE, rgF]
  refine wpAnyT_pure (i := 1) (v := ?_) rfl (by kernel_rfl) (by kernel_rfl) (by kernel_rfl) (fun _ _ _ h => h) (by rfl) ?_ ?_
  rotate_left
  · intro w; go_simp; try with_reducible rfl
  simp only [Act.put, rgA, rgB, rgC, rgD, rgE, rgF]
  refine wpAnyT_pure (i := 2) (v := ?_) rfl (by kernel_rfl) (by kernel_rfl) (by kernel_rfl) (fun _ _ _ h => h) (by rfl) ?_ ?_
  rotate_left
  · intro w; go_simp; try with_reducible rfl
  simp only [Act.put, rgA, rgB, rgC, rgD, rgE, rgF]
  refine wpAnyT_pure (i := 3) (v := ?_) rfl (by kernel_rfl) (by kernel_rfl) (by kernel_rfl) (fun _ _ _ h => h) (by rfl) ?_ ?_
  rotate_left
  · intro w; go_simp; try with_reducible rfl
  simp only [Act.put, rgA, rgB, rgC, rgD, rgE, rgF]
  refine wpAnyT_pure (i := 4) (v := ?_) rfl (by kernel_rfl) (by kernel_rfl) (by kernel_rfl) (fun _ _ _ h => h) (by rfl) ?_ ?_
  rotate_left
  · intro w; go_simp; try with_reducible rfl
  simp only [Act.put, rgA, rgB, rgC, rgD, rgE, rgF]
  refine wpAnyT_pure (i := 5) (v := ?_) rfl (by kernel_rfl) (by kernel_rfl) (by kernel_rfl) (fun _ _ _ h => h) (by rfl) ?_ ?_
  rotate_left
  · intro w; go_simp; try with_reducible rfl
  simp only [Act.put, rgA, rgB, rgC, rgD, rgE, rgF]
  refine wpAnyT_pure (i := 6) (v := ?_) rfl (by kernel_rfl) (by kernel_rfl) (by kernel_rfl) (fun _ _ _ h => h) (by rfl) ?_ ?_
  rotate_left
  · intro w; go_simp; try with_reducible rfl
  simp only [Act.put, rgA, rgB, rgC, rgD, rgE, rgF]
  refine wpAnyT_pure (i := 8) (v := ?_) rfl (by kernel_rfl) (by kernel_rfl) (by kernel_rfl) (fun _ _ _ h => h) (by rfl) ?_ ?_
  rotate_left
  · intro w; go_simp; try with_reducible rfl
  simp only [Act.put, rgA, rgB, rgC, rgD, rgE, rgF]
  refine wpAnyT_pure (i := 9) (v := ?_) rfl (by kernel_rfl) (by kernel_rfl) (by kernel_rfl) (fun _ _ _ h => h) (by rfl) ?_ ?_
  rotate_left
  · intro w; go_simp; try with_reducible rfl
  simp only [Act.put, rgA, rgB, rgC, rgD, rgE, rgF]
  refine wpAnyT_pure (i := 10) (v := ?_) rfl (by kernel_rfl) (by kernel_rfl) (by kernel_rfl) (fun _ _ _ h => h) (by rfl) ?_ ?_
  rotate_left
  · intro w; go_simp; try with_reducible rfl
  simp only [Act.put, rgA, rgB, rgC, rgD, rgE, rgF]
  refine wpAnyT_loadW (i := 7) (v := ?_) rfl (by kernel_rfl) (by kernel_rfl) (by kernel_rfl) (by kernel_rfl) (by kernel_rfl) (fun _ _ _ h => h) (Or.inl ⟨by rfl, ?_⟩) hSss1 ?_
  rotate_left
  · intro w hSw; obtain ⟨e0, e1, e2, e3, e4, e5, -⟩ := hSw; go_simp; try with_reducible rfl
  simp only [Act.put, rgA, rgB, rgC, rgD, rgE, rgF]
  refine wpAnyT_loadW (i := 11) (v := ?_) rfl (by kernel_rfl) (by kernel_rfl) (by kernel_rfl) (by kernel_rfl) (by kernel_rfl) (fun _ _ _ h => h) (Or.inl ⟨by rfl, ?_⟩) hSss1 ?_
  rotate_left
  · intro w hSw; obtain ⟨e0, e1, e2, e3, e4, e5, -⟩ := hSw; go_simp; try with_reducible rfl
  simp only [Act.put, rgA, rgB, rgC, rgD, rgE, rgF]
  refine wpAnyT_pure (i := 12) (v := ?_) rfl (by kernel_rfl) (by kernel_rfl) (by kernel_rfl) (fun _ _ _ h => h) (by rfl) ?_ ?_
  rotate_left
  · intro w; go_simp; try with_reducible rfl
  simp only [Act.put, rgA, rgB, rgC, rgD, rgE, rgF]
  refine wpAnyT_one (i := 13) (by kernel_rfl) rfl (by rfl) ?_
  have hbS : Below w.heap.size w s1 := hB_0_s1.trans ((hB_s1_s1).mono (hB_0_s1).size)
  obtain ⟨hsA, hnA⟩ := (HK.out.below hbS).set Tryz.prog a (by rw [HN.out]; omega) ⟨y1, y2, y3⟩
  have hgA := (HG0.out.step hbS).trans (gr_setCells g (kvs ⟨y1, y2, y3⟩) (a * 3) s1) (fun _ h => .inl h)
  refine wp_storeK (w' := (s1).setCells g (a * 3) (kvs ⟨y1, y2, y3⟩)) 48 (.tmp 25) (.tmp 20) rfl ⟨g, a * 3, none⟩ (.agg #[.string y1, .int .i64 y2, .int .i64 y3]) (by kernel_rfl) (by kernel_rfl) (sizeK _) hsA ?_
  generalize (s1).setCells g (a * 3) (kvs ⟨y1, y2, y3⟩) = w102 at hnA hgA ⊢
  clear hsA
  refine ⟨fun h => absurd h (by decide), ?_⟩
  try simp only [Act.put, rgA, rgB, rgC, rgD, rgE, rgF]
  refine wpAnyT_pure (i := 14) (v := ?_) rfl (by kernel_rfl) (by kernel_rfl) (by kernel_rfl) (fun _ _ _ h => h) (by rfl) ?_ ?_
  rotate_left
  · intro w; go_simp; try with_reducible rfl
  simp only [Act.put, rgA, rgB, rgC, rgD, rgE, rgF]
  refine wpAnyT_one (i := 15) (by kernel_rfl) rfl (by rfl) ?_
  obtain ⟨hsB, hnB⟩ := hnA.set Tryz.prog pv (by rw [Array.size_setIfInBounds, HN.out]; omega) ⟨x1, x2, x3⟩
  have hgB := hgA.trans (gr_setCells g (kvs ⟨x1, x2, x3⟩) (pv * 3) w102) (fun _ h => .inl h)
  refine wp_storeK (w' := (w102).setCells g (pv * 3) (kvs ⟨x1, x2, x3⟩)) 48 (.tmp 26) (.tmp 24) rfl ⟨g, pv * 3, none⟩ (.agg #[.string x1, .int .i64 x2, .int .i64 x3]) (by kernel_rfl) (by kernel_rfl) (sizeK _) hsB ?_
  generalize (w102).setCells g (pv * 3) (kvs ⟨x1, x2, x3⟩) = w103 at hnB hgB ⊢
  clear hsB hnA hgA
  refine ⟨fun h => absurd h (by decide), ?_⟩
  try simp only [Act.put, rgA, rgB, rgC, rgD, rgE, rgF]
  refine wpAnyT_done (by kernel_rfl) ?_ _
  obtain ⟨w1, rfl⟩ : ∃ x, x = w103 := ⟨_, rfl⟩
  rw [← HSW.out] at hnB
  have HSZ3 := HSZN
  obtain ⟨d3, hd1⟩ : ∃ q, q = Sort.swp d a pv := ⟨_, rfl⟩
  rw [← hd1] at hnB HSZ3
  have HK3 := Lib.hid hnB
  have HG3 := Lib.hid hgB
  obtain ⟨i3, hi1⟩ : ∃ q, q = a + 1 := ⟨_, rfl⟩
  obtain ⟨j3, hj1⟩ : ∃ q, q = b - 1 := ⟨_, rfl⟩
  have HPE := Lib.hid (show Sort.partEqLoop (ltK ts) a i3 j3 d3 = r from by rw [hi1, hj1, hd1]; exact HR.out)
  have hi3a : a < i3 := by omega
  have hi3j : i3 ≤ j3 + 1 := by omega
  have hj3b : j3 < b := by omega
  have ei : ((a : Int) + 1) = (i3 : Int) := by omega
  have ej : ((b : Int) - 1) = (j3 : Int) := by omega
  clear hi1 hj1 hnB hgB HSW HSZN hd1 hC0
  go_wp2_with fail
  go_loopw [11, 12] (fun iv jv wr => ∃ (i2 j2 : Nat) (dk : Array Ky), iv = .int .i64 (i2 : Nat) ∧ jv = .int .i64 (j2 : Nat) ∧ a < i2 ∧ i2 ≤ j2 + 1 ∧ j2 < b ∧ dk.size = n ∧ Sort.partEqLoop (ltK ts) a i2 j2 dk = Sort.partEqLoop (ltK ts) a i3 j3 d3 ∧ KA wr g dk ∧ Gr (fun x => x = g) w wr) (fun iv jv _ => (intOf jv).toNat + 2 - (intOf iv).toNat)
  case atStart => exact ⟨i3, j3, d3, rfl, rfl, hi3a, hi3j, hj3b, HSZ3.out, rfl, HK3.out, HG3.out⟩
  obtain ⟨i2, j2, dk, rfl, rfl, hi2a, hi2j, hj2b, hdk, hpl, hka2, hga2⟩ := hrel
  have HSZ2 := Lib.hid hdk
  have HPL := Lib.hid hpl
  have HK2 := Lib.hid hka2
  have HG2 := Lib.hid hga2
  clear hdk hpl hka2 hga2
  go_wp2_with fail
  -- 1 slot, 2 region, 3 test slot, 4 start, 5 j, 6 dk, 7 suffix, 8 HK, 9 HG, 10 HSZ, 11 skipped ops, 12 function
  go_loopw [11] (fun iv wr => ∃ q : Nat, iv = .int .i64 (q : Nat) ∧ i2 ≤ q ∧ q ≤ j2 + 1 ∧ Sort.scanUp (fun x => !ltK ts dk[a]! x) dk j2 q = Sort.scanUp (fun x => !ltK ts dk[a]! x) dk j2 i2 ∧ KA wr g dk ∧ Gr (fun x => x = g) w wr) (fun iv _ => j2 + 1 - (intOf iv).toNat)
  case atStart => exact ⟨i2, by go_num, Nat.le_refl _, by omega, rfl, HK2.out, HG2.out⟩
  obtain ⟨qV, rfl, hqiV, hqjV, hsc, hka, hga⟩ := hrel
  have HSC := Lib.hid hsc
  have HKA := Lib.hid hka
  have HGA := Lib.hid hga
  clear hsc hka hga
  go_upto_region 3 with fail
  obtain ⟨tb, htb⟩ : ∃ tb, tb = (decide (qV ≤ j2) && !ltK ts dk[a]! dk[qV]!) := ⟨_, rfl⟩
  have HTB := Lib.hid htb
  clear htb
  go_cut [47] (fun sv wx => sv = .bool tb ∧ KA wx g dk ∧ Gr (fun x => x = g) w wx)
  case first =>
    by_cases hle : qV ≤ j2
    · have hleI : (qV : Int) ≤ (j2 : Int) := by omega
      have hq1I : (qV : Int) < (n : Int) := by omega
      obtain ⟨eb, heb⟩ : ∃ vb, ltK ts dk[a]! dk[qV]! = vb := ⟨_, rfl⟩
      obtain ⟨m0, m1, m2⟩ := HKA.out.cell a (by rw [HSZ2.out]; omega)
      obtain ⟨p0, p1, p2⟩ := HKA.out.cell qV (by rw [HSZ2.out]; omega)
      obtain ⟨cc, hcc, hcall⟩ := cmpAt (HS.out.gr HGA.out (fun _ e => .inl (by rw [e]; exact HFG.out))) dk[a]! dk[qV]! eb heb
      have HCC := Lib.hid hcc
      have HEB := Lib.hid heb
      clear hcc heb
      generalize dk[a]! = x at m0 m1 m2 hcall
      generalize dk[qV]! = y at p0 p1 p2 hcall
      obtain ⟨x1, x2, x3⟩ := x
      obtain ⟨y1, y2, y3⟩ := y
      simp only at m0 m1 m2 p0 p1 p2 hcall
      have HCALL := Lib.hid hcall
      have hC0 : Cells [(⟨g, a * 3, none⟩, .string x1), (⟨g, a * 3 + 1, none⟩, .int .i64 x2), (⟨g, a * 3 + 2, none⟩, .int .i64 x3), (⟨g, qV * 3, none⟩, .string y1), (⟨g, qV * 3 + 1, none⟩, .int .i64 y2), (⟨g, qV * 3 + 2, none⟩, .int .i64 y3)] wr := ⟨m0, m1, m2, p0, p1, p2, trivial⟩
      clear m0 m1 m2 p0 p1 p2 hcall
      refine wp_region_T (Cells [(⟨g, a * 3, none⟩, .string x1), (⟨g, a * 3 + 1, none⟩, .int .i64 x2), (⟨g, a * 3 + 2, none⟩, .int .i64 x3), (⟨g, qV * 3, none⟩, .string y1), (⟨g, qV * 3 + 1, none⟩, .int .i64 y2), (⟨g, qV * 3 + 2, none⟩, .int .i64 y3)]) (fun _ => false) (by kernel_rfl) ?_
      have hSss4 := Cells.drew hC0
      have hB_0_s4 : Below wr.heap.size wr wr.drew := below_drew _
      generalize wr.drew = s4 at hSss4 hB_0_s4 ⊢
      have hB_s4_s4 := Below.refl s4.heap.size s4
      refine wpAnyT_pure (i := 0) (v := ?_) rfl (by kernel_rfl) (by kernel_rfl) (by kernel_rfl) (fun _ _ _ h => h) (by rfl) ?_ ?_
      rotate_left
      · intro w; go_simp; try with_reducible rfl
      simp only [Act.put, rgA, rgB, rgC, rgD, rgE, rgF]
      refine wpAnyT_pure (i := 1) (v := ?_) rfl (by kernel_rfl) (by kernel_rfl) (by kernel_rfl) (fun _ _ _ h => h) (by rfl) ?_ ?_
      rotate_left
      · intro w; go_simp; try with_reducible rfl
      simp only [Act.put, rgA, rgB, rgC, rgD, rgE, rgF]
      refine wpAnyT_pure (i := 2) (v := (.bool true)) rfl (by kernel_rfl) (by kernel_rfl) (by kernel_rfl) (fun _ _ _ h => h) (by rfl) ?_ ?_
      · intro w; go_simp <;> omega
      simp only [Act.put, rgA, rgB, rgC, rgD, rgE, rgF]
      refine wpAnyT_pure (i := 3) (v := ?_) rfl (by kernel_rfl) (by kernel_rfl) (by kernel_rfl) (fun _ _ _ h => h) (by rfl) ?_ ?_
      rotate_left
      · intro w; go_simp; try with_reducible rfl
      simp only [Act.put, rgA, rgB, rgC, rgD, rgE, rgF]
      refine wpAnyT_pure (i := 4) (v := ?_) rfl (by kernel_rfl) (by kernel_rfl) (by kernel_rfl) (fun _ _ _ h => h) (by rfl) ?_ ?_
      rotate_left
      · intro w; go_simp; try with_reducible rfl
      simp only [Act.put, rgA, rgB, rgC, rgD, rgE, rgF]
      refine wpAnyT_pure (i := 5) (v := ?_) rfl (by kernel_rfl) (by kernel_rfl) (by kernel_rfl) (fun _ _ _ h => h) (by rfl) ?_ ?_
      rotate_left
      · intro w; go_simp; try with_reducible rfl
      simp only [Act.put, rgA, rgB, rgC, rgD, rgE, rgF]
      refine wpAnyT_pure (i := 6) (v := ?_) rfl (by kernel_rfl) (by kernel_rfl) (by kernel_rfl) (fun _ _ _ h => h) (by rfl) ?_ ?_
      rotate_left
      · intro w; go_simp; try with_reducible rfl
      simp only [Act.put, rgA, rgB, rgC, rgD, rgE, rgF]
      refine wpAnyT_pure (i := 7) (v := ?_) rfl (by kernel_rfl) (by kernel_rfl) (by kernel_rfl) (fun _ _ _ h => h) (by rfl) ?_ ?_
      rotate_left
      · intro w; go_simp; try with_reducible rfl
      simp only [Act.put, rgA, rgB, rgC, rgD, rgE, rgF]
      refine wpAnyT_pure (i := 9) (v := ?_) rfl (by kernel_rfl) (by kernel_rfl) (by kernel_rfl) (fun _ _ _ h => h) (by rfl) ?_ ?_
      rotate_left
      · intro w; go_simp; try with_reducible rfl
      simp only [Act.put, rgA, rgB, rgC, rgD, rgE, rgF]
      refine wpAnyT_pure (i := 10) (v := ?_) rfl (by kernel_rfl) (by kernel_rfl) (by kernel_rfl) (fun _ _ _ h => h) (by rfl) ?_ ?_
      rotate_left
      · intro w; go_simp; try with_reducible rfl
      simp only [Act.put, rgA, rgB, rgC, rgD, rgE, rgF]
      refine wpAnyT_pure (i := 11) (v := ?_) rfl (by kernel_rfl) (by kernel_rfl) (by kernel_rfl) (fun _ _ _ h => h) (by rfl) ?_ ?_
      rotate_left
      · intro w; go_simp; try with_reducible rfl
      simp only [Act.put, rgA, rgB, rgC, rgD, rgE, rgF]
      refine wpAnyT_loadW (i := 8) (v := ?_) rfl (by kernel_rfl) (by kernel_rfl) (by kernel_rfl) (by kernel_rfl) (by kernel_rfl) (fun _ _ _ h => h) (Or.inl ⟨by rfl, ?_⟩) hSss4 ?_
      rotate_left
      · intro w hSw; obtain ⟨e0, e1, e2, e3, e4, e5, -⟩ := hSw; go_simp; try with_reducible rfl
      simp only [Act.put, rgA, rgB, rgC, rgD, rgE, rgF]
      refine wpAnyT_loadW (i := 12) (v := ?_) rfl (by kernel_rfl) (by kernel_rfl) (by kernel_rfl) (by kernel_rfl) (by kernel_rfl) (fun _ _ _ h => h) (Or.inl ⟨by rfl, ?_⟩) hSss4 ?_
      rotate_left
      · intro w hSw; obtain ⟨e0, e1, e2, e3, e4, e5, -⟩ := hSw; go_simp; try with_reducible rfl
      simp only [Act.put, rgA, rgB, rgC, rgD, rgE, rgF]
      refine wpAnyT_one (i := 13) (by kernel_rfl) rfl (by rfl) ?_
      refine wp_enter (f := 44) (args := #[.pointer (some ⟨p, 0, none⟩), .agg #[.string x1, .int .i64 x2, .int .i64 x3], .agg #[.string y1, .int .i64 y2, .int .i64 y3]]) (by go_simp) (HCALL.out s4 (Gr.of_below (hB_0_s4.trans ((hB_s4_s4).mono (hB_0_s4).size)))) ?_
      rintro e w105 ⟨rfl, hX⟩
      have hB_s4_w105 := below_step hB_s4_s4 hX
      have hB_w105_w105 := Below.refl w105.heap.size w105
      have hSsw105 := Cells.below hB_s4_w105 hSss4
      clear hX
      refine ⟨_, rfl, fun _ _ => hSsw105, ?_⟩
      try simp only [Act.put, rgA, rgB, rgC, rgD, rgE, rgF]
      refine wpAnyT_pure (i := 14) (v := (.bool eb)) rfl (by kernel_rfl) (by kernel_rfl) (by kernel_rfl) (fun _ _ _ h => h) (by rfl) ?_ ?_
      · intro w; have hq := HCC.out; clear HCC; go_simp <;> exact hq
      simp only [Act.put, rgA, rgB, rgC, rgD, rgE, rgF]
      refine wpAnyT_pure (i := 15) (v := ?_) rfl (by kernel_rfl) (by kernel_rfl) (by kernel_rfl) (fun _ _ _ h => h) (by rfl) ?_ ?_
      rotate_left
      · intro w; go_simp; try with_reducible rfl
      simp only [Act.put, rgA, rgB, rgC, rgD, rgE, rgF]
      refine wpAnyT_pure (i := 16) (v := ?_) rfl (by kernel_rfl) (by kernel_rfl) (by kernel_rfl) (fun _ _ _ h => h) (by rfl) ?_ ?_
      rotate_left
      · intro w; go_simp; try with_reducible rfl
      simp only [Act.put, rgA, rgB, rgC, rgD, rgE, rgF]
      refine wpAnyT_done (by kernel_rfl) ?_ _
      have hbP : Below wr.heap.size wr w105 := hB_0_s4.trans ((hB_s4_w105).mono (hB_0_s4).size)
      have HRK := Lib.hid (HKA.out.below hbP)
      have HRG := Lib.hid (HGA.out.step hbP)
      clear hbP
      go_wp2_with fail
      go_meet
      case rel => exact ⟨by rw [HTB.out, HEB.out, decide_eq_true hle]; rfl, HRK.out, HRG.out⟩
    · have hleI : ¬ (qV : Int) ≤ (j2 : Int) := by omega
      have hC0 : Cells [] wr := trivial
      refine wp_region_T (Cells []) (fun _ => false) (by kernel_rfl) ?_
      have hSss6 := Cells.drew hC0
      have hB_0_s6 : Below wr.heap.size wr wr.drew := below_drew _
      generalize wr.drew = s6 at hSss6 hB_0_s6 ⊢
      have hB_s6_s6 := Below.refl s6.heap.size s6
      refine wpAnyT_pure (i := 0) (v := ?_) rfl (by kernel_rfl) (by kernel_rfl) (by kernel_rfl) (fun _ _ _ h => h) (by rfl) ?_ ?_
      rotate_left
      · intro w; go_simp; try with_reducible rfl
      simp only [Act.put, rgA, rgB, rgC, rgD, rgE, rgF]
      refine wpAnyT_pure (i := 1) (v := ?_) rfl (by kernel_rfl) (by kernel_rfl) (by kernel_rfl) (fun _ _ _ h => h) (by rfl) ?_ ?_
      rotate_left
      · intro w; go_simp; try with_reducible rfl
      simp only [Act.put, rgA, rgB, rgC, rgD, rgE, rgF]
      refine wpAnyT_pure (i := 2) (v := ?_) rfl (by kernel_rfl) (by kernel_rfl) (by kernel_rfl) (fun _ _ _ h => h) (by rfl) ?_ ?_
      rotate_left
      · intro w; go_simp; try with_reducible rfl
      simp only [Act.put, rgA, rgB, rgC, rgD, rgE, rgF]
      refine wpAnyT_pure (i := 3) (v := ?_) rfl (by kernel_rfl) (by kernel_rfl) (by kernel_rfl) (fun _ _ _ h => h) (by rfl) ?_ ?_
      rotate_left
      · intro w; go_simp; try with_reducible rfl
      simp only [Act.put, rgA, rgB, rgC, rgD, rgE, rgF]
      refine wpAnyT_skip (i := 4) rfl (by kernel_rfl) (by kernel_rfl) (by kernel_rfl) (fun _ _ _ h => h) (by rfl) ?_
      simp only [Act.put, rgA, rgB, rgC, rgD, rgE, rgF]
      refine wpAnyT_skip (i := 5) rfl (by kernel_rfl) (by kernel_rfl) (by kernel_rfl) (fun _ _ _ h => h) (by rfl) ?_
      simp only [Act.put, rgA, rgB, rgC, rgD, rgE, rgF]
      refine wpAnyT_skip (i := 6) rfl (by kernel_rfl) (by kernel_rfl) (by kernel_rfl) (fun _ _ _ h => h) (by rfl) ?_
      simp only [Act.put, rgA, rgB, rgC, rgD, rgE, rgF]
      refine wpAnyT_skip (i := 7) rfl (by kernel_rfl) (by kernel_rfl) (by kernel_rfl) (fun _ _ _ h => h) (by rfl) ?_
      simp only [Act.put, rgA, rgB, rgC, rgD, rgE, rgF]
      refine wpAnyT_skip (i := 8) rfl (by kernel_rfl) (by kernel_rfl) (by kernel_rfl) (fun _ _ _ h => h) (by rfl) ?_
      simp only [Act.put, rgA, rgB, rgC, rgD, rgE, rgF]
      refine wpAnyT_skip (i := 9) rfl (by kernel_rfl) (by kernel_rfl) (by kernel_rfl) (fun _ _ _ h => h) (by rfl) ?_
      simp only [Act.put, rgA, rgB, rgC, rgD, rgE, rgF]
      refine wpAnyT_skip (i := 10) rfl (by kernel_rfl) (by kernel_rfl) (by kernel_rfl) (fun _ _ _ h => h) (by rfl) ?_
      simp only [Act.put, rgA, rgB, rgC, rgD, rgE, rgF]
      refine wpAnyT_skip (i := 11) rfl (by kernel_rfl) (by kernel_rfl) (by kernel_rfl) (fun _ _ _ h => h) (by rfl) ?_
      simp only [Act.put, rgA, rgB, rgC, rgD, rgE, rgF]
      refine wpAnyT_skip (i := 12) rfl (by kernel_rfl) (by kernel_rfl) (by kernel_rfl) (fun _ _ _ h => h) (by rfl) ?_
      simp only [Act.put, rgA, rgB, rgC, rgD, rgE, rgF]
      refine wpAnyT_skip (i := 13) rfl (by kernel_rfl) (by kernel_rfl) (by kernel_rfl) (fun _ _ _ h => h) (by rfl) ?_
      simp only [Act.put, rgA, rgB, rgC, rgD, rgE, rgF]
      refine wpAnyT_skip (i := 14) rfl (by kernel_rfl) (by kernel_rfl) (by kernel_rfl) (fun _ _ _ h => h) (by rfl) ?_
      simp only [Act.put, rgA, rgB, rgC, rgD, rgE, rgF]
      refine wpAnyT_skip (i := 15) rfl (by kernel_rfl) (by kernel_rfl) (by kernel_rfl) (fun _ _ _ h => h) (by rfl) ?_
      simp only [Act.put, rgA, rgB, rgC, rgD, rgE, rgF]
      refine wpAnyT_pure (i := 16) (v := ?_) rfl (by kernel_rfl) (by kernel_rfl) (by kernel_rfl) (fun _ _ _ h => h) (by rfl) ?_ ?_
      rotate_left
      · intro w; go_simp; try with_reducible rfl
      simp only [Act.put, rgA, rgB, rgC, rgD, rgE, rgF]
      refine wpAnyT_done (by kernel_rfl) ?_ _
      have hbP : Below wr.heap.size wr s6 := hB_0_s6.trans ((hB_s6_s6).mono (hB_0_s6).size)
      have HRK := Lib.hid (HKA.out.below hbP)
      have HRG := Lib.hid (HGA.out.step hbP)
      clear hbP
      go_wp2_with fail
      go_meet
      case rel => exact ⟨by rw [HTB.out, decide_eq_false hle]; rfl, HRK.out, HRG.out⟩
  obtain ⟨rfl, hkx, hgx⟩ := hcut
  have HKV := Lib.hid hkx
  have HGV := Lib.hid hgx
  clear hkx hgx
  rcases Bool.eq_false_or_eq_true tb with ht | ht
  · subst ht
    have hand := HTB.out
    obtain ⟨h1, h2⟩ := Bool.and_eq_true_iff.1 hand.symm
    have h1' := of_decide_eq_true h1
    have HNX := Lib.hid ((up_go (fun x => !ltK ts dk[a]! x) dk j2 qV h1' h2).symm.trans HSC.out)
    clear hand h1 h2
    go_wp2_with fail
    go_roundw
    case rel => exact ⟨qV + 1, by go_num, by omega, by omega, HNX.out, HKV.out, HGV.out⟩
    case measure => simp [intOf]; try omega
  subst ht
  have HXV := Lib.hid (show ¬ qV ≤ j2 ∨ (!ltK ts dk[a]! dk[qV]!) = false from (Bool.and_eq_false_iff.1 HTB.out.symm).imp of_decide_eq_false id)
  have HUV := Lib.hid (show Sort.scanUp (fun x => !ltK ts dk[a]! x) dk j2 i2 = qV from HSC.out.symm.trans (up_end (fun x => !ltK ts dk[a]! x) dk j2 qV HXV.out))
  clear HSC HKA HGA HTB
  go_wp2_with fail
  -- 1 slot, 2 region, 3 test slot, 4 i, 5 start j, 6 dk, 7 suffix, 8 HK, 9 HG, 10 HSZ, 11 skipped ops, 12 function
  go_loopw [12] (fun jv wr => ∃ q : Nat, jv = .int .i64 (q : Nat) ∧ q ≤ j2 ∧ qV ≤ q + 1 ∧ Sort.scanDown (fun x => ltK ts dk[a]! x) dk qV q = Sort.scanDown (fun x => ltK ts dk[a]! x) dk qV j2 ∧ KA wr g dk ∧ Gr (fun x => x = g) w wr) (fun jv _ => (intOf jv).toNat)
  case atStart => exact ⟨j2, by go_num, Nat.le_refl _, by omega, rfl, HKV.out, HGV.out⟩
  obtain ⟨qE, rfl, hqiE, hqjE, hsc, hka, hga⟩ := hrel
  have HSC := Lib.hid hsc
  have HKA := Lib.hid hka
  have HGA := Lib.hid hga
  clear hsc hka hga
  go_upto_region 5 with fail
  obtain ⟨tb, htb⟩ : ∃ tb, tb = (decide (qV ≤ qE) && ltK ts dk[a]! dk[qE]!) := ⟨_, rfl⟩
  have HTB := Lib.hid htb
  clear htb
  go_cut [65] (fun sv wx => sv = .bool tb ∧ KA wx g dk ∧ Gr (fun x => x = g) w wx)
  case first =>
    by_cases hle : qV ≤ qE
    · have hleI : (qV : Int) ≤ (qE : Int) := by omega
      have hq1I : (qE : Int) < (n : Int) := by omega
      obtain ⟨eb, heb⟩ : ∃ vb, ltK ts dk[a]! dk[qE]! = vb := ⟨_, rfl⟩
      obtain ⟨m0, m1, m2⟩ := HKA.out.cell a (by rw [HSZ2.out]; omega)
      obtain ⟨p0, p1, p2⟩ := HKA.out.cell qE (by rw [HSZ2.out]; omega)
      obtain ⟨cc, hcc, hcall⟩ := cmpAt (HS.out.gr HGA.out (fun _ e => .inl (by rw [e]; exact HFG.out))) dk[a]! dk[qE]! eb heb
      have HCC := Lib.hid hcc
      have HEB := Lib.hid heb
      clear hcc heb
      generalize dk[a]! = x at m0 m1 m2 hcall
      generalize dk[qE]! = y at p0 p1 p2 hcall
      obtain ⟨x1, x2, x3⟩ := x
      obtain ⟨y1, y2, y3⟩ := y
      simp only at m0 m1 m2 p0 p1 p2 hcall
      have HCALL := Lib.hid hcall
      have hC0 : Cells [(⟨g, a * 3, none⟩, .string x1), (⟨g, a * 3 + 1, none⟩, .int .i64 x2), (⟨g, a * 3 + 2, none⟩, .int .i64 x3), (⟨g, qE * 3, none⟩, .string y1), (⟨g, qE * 3 + 1, none⟩, .int .i64 y2), (⟨g, qE * 3 + 2, none⟩, .int .i64 y3)] wr := ⟨m0, m1, m2, p0, p1, p2, trivial⟩
      clear m0 m1 m2 p0 p1 p2 hcall
      refine wp_region_T (Cells [(⟨g, a * 3, none⟩, .string x1), (⟨g, a * 3 + 1, none⟩, .int .i64 x2), (⟨g, a * 3 + 2, none⟩, .int .i64 x3), (⟨g, qE * 3, none⟩, .string y1), (⟨g, qE * 3 + 1, none⟩, .int .i64 y2), (⟨g, qE * 3 + 2, none⟩, .int .i64 y3)]) (fun _ => false) (by kernel_rfl) ?_
      have hSss7 := Cells.drew hC0
      have hB_0_s7 : Below wr.heap.size wr wr.drew := below_drew _
      generalize wr.drew = s7 at hSss7 hB_0_s7 ⊢
      have hB_s7_s7 := Below.refl s7.heap.size s7
      refine wpAnyT_pure (i := 0) (v := ?_) rfl (by kernel_rfl) (by kernel_rfl) (by kernel_rfl) (fun _ _ _ h => h) (by rfl) ?_ ?_
      rotate_left
      · intro w; go_simp; try with_reducible rfl
      simp only [Act.put, rgA, rgB, rgC, rgD, rgE, rgF]
      refine wpAnyT_pure (i := 1) (v := ?_) rfl (by kernel_rfl) (by kernel_rfl) (by kernel_rfl) (fun _ _ _ h => h) (by rfl) ?_ ?_
      rotate_left
      · intro w; go_simp; try with_reducible rfl
      simp only [Act.put, rgA, rgB, rgC, rgD, rgE, rgF]
      refine wpAnyT_pure (i := 2) (v := (.bool true)) rfl (by kernel_rfl) (by kernel_rfl) (by kernel_rfl) (fun _ _ _ h => h) (by rfl) ?_ ?_
      · intro w; go_simp <;> omega
      simp only [Act.put, rgA, rgB, rgC, rgD, rgE, rgF]
      refine wpAnyT_pure (i := 3) (v := ?_) rfl (by kernel_rfl) (by kernel_rfl) (by kernel_rfl) (fun _ _ _ h => h) (by rfl) ?_ ?_
      rotate_left
      · intro w; go_simp; try with_reducible rfl
      simp only [Act.put, rgA, rgB, rgC, rgD, rgE, rgF]
      refine wpAnyT_pure (i := 4) (v := ?_) rfl (by kernel_rfl) (by kernel_rfl) (by kernel_rfl) (fun _ _ _ h => h) (by rfl) ?_ ?_
      rotate_left
      · intro w; go_simp; try with_reducible rfl
      simp only [Act.put, rgA, rgB, rgC, rgD, rgE, rgF]
      refine wpAnyT_pure (i := 5) (v := ?_) rfl (by kernel_rfl) (by kernel_rfl) (by kernel_rfl) (fun _ _ _ h => h) (by rfl) ?_ ?_
      rotate_left
      · intro w; go_simp; try with_reducible rfl
      simp only [Act.put, rgA, rgB, rgC, rgD, rgE, rgF]
      refine wpAnyT_pure (i := 6) (v := ?_) rfl (by kernel_rfl) (by kernel_rfl) (by kernel_rfl) (fun _ _ _ h => h) (by rfl) ?_ ?_
      rotate_left
      · intro w; go_simp; try with_reducible rfl
      simp only [Act.put, rgA, rgB, rgC, rgD, rgE, rgF]
      refine wpAnyT_pure (i := 7) (v := ?_) rfl (by kernel_rfl) (by kernel_rfl) (by kernel_rfl) (fun _ _ _ h => h) (by rfl) ?_ ?_
      rotate_left
      · intro w; go_simp; try with_reducible rfl
      simp only [Act.put, rgA, rgB, rgC, rgD, rgE, rgF]
      refine wpAnyT_pure (i := 9) (v := ?_) rfl (by kernel_rfl) (by kernel_rfl) (by kernel_rfl) (fun _ _ _ h => h) (by rfl) ?_ ?_
      rotate_left
      · intro w; go_simp; try with_reducible rfl
      simp only [Act.put, rgA, rgB, rgC, rgD, rgE, rgF]
      refine wpAnyT_pure (i := 10) (v := ?_) rfl (by kernel_rfl) (by kernel_rfl) (by kernel_rfl) (fun _ _ _ h => h) (by rfl) ?_ ?_
      rotate_left
      · intro w; go_simp; try with_reducible rfl
      simp only [Act.put, rgA, rgB, rgC, rgD, rgE, rgF]
      refine wpAnyT_pure (i := 11) (v := ?_) rfl (by kernel_rfl) (by kernel_rfl) (by kernel_rfl) (fun _ _ _ h => h) (by rfl) ?_ ?_
      rotate_left
      · intro w; go_simp; try with_reducible rfl
      simp only [Act.put, rgA, rgB, rgC, rgD, rgE, rgF]
      refine wpAnyT_loadW (i := 8) (v := ?_) rfl (by kernel_rfl) (by kernel_rfl) (by kernel_rfl) (by kernel_rfl) (by kernel_rfl) (fun _ _ _ h => h) (Or.inl ⟨by rfl, ?_⟩) hSss7 ?_
      rotate_left
      · intro w hSw; obtain ⟨e0, e1, e2, e3, e4, e5, -⟩ := hSw; go_simp; try with_reducible rfl
      simp only [Act.put, rgA, rgB, rgC, rgD, rgE, rgF]
      refine wpAnyT_loadW (i := 12) (v := ?_) rfl (by kernel_rfl) (by kernel_rfl) (by kernel_rfl) (by kernel_rfl) (by kernel_rfl) (fun _ _ _ h => h) (Or.inl ⟨by rfl, ?_⟩) hSss7 ?_
      rotate_left
      · intro w hSw; obtain ⟨e0, e1, e2, e3, e4, e5, -⟩ := hSw; go_simp; try with_reducible rfl
      simp only [Act.put, rgA, rgB, rgC, rgD, rgE, rgF]
      refine wpAnyT_one (i := 13) (by kernel_rfl) rfl (by rfl) ?_
      refine wp_enter (f := 44) (args := #[.pointer (some ⟨p, 0, none⟩), .agg #[.string x1, .int .i64 x2, .int .i64 x3], .agg #[.string y1, .int .i64 y2, .int .i64 y3]]) (by go_simp) (HCALL.out s7 (Gr.of_below (hB_0_s7.trans ((hB_s7_s7).mono (hB_0_s7).size)))) ?_
      rintro e w108 ⟨rfl, hX⟩
      have hB_s7_w108 := below_step hB_s7_s7 hX
      have hB_w108_w108 := Below.refl w108.heap.size w108
      have hSsw108 := Cells.below hB_s7_w108 hSss7
      clear hX
      refine ⟨_, rfl, fun _ _ => hSsw108, ?_⟩
      try simp only [Act.put, rgA, rgB, rgC, rgD, rgE, rgF]
      refine wpAnyT_pure (i := 14) (v := (.bool eb)) rfl (by kernel_rfl) (by kernel_rfl) (by kernel_rfl) (fun _ _ _ h => h) (by rfl) ?_ ?_
      · intro w; have hq := HCC.out; clear HCC; go_simp <;> exact hq
      simp only [Act.put, rgA, rgB, rgC, rgD, rgE, rgF]
      refine wpAnyT_pure (i := 15) (v := ?_) rfl (by kernel_rfl) (by kernel_rfl) (by kernel_rfl) (fun _ _ _ h => h) (by rfl) ?_ ?_
      rotate_left
      · intro w; go_simp; try with_reducible rfl
      simp only [Act.put, rgA, rgB, rgC, rgD, rgE, rgF]
      refine wpAnyT_done (by kernel_rfl) ?_ _
      have hbP : Below wr.heap.size wr w108 := hB_0_s7.trans ((hB_s7_w108).mono (hB_0_s7).size)
      have HRK := Lib.hid (HKA.out.below hbP)
      have HRG := Lib.hid (HGA.out.step hbP)
      clear hbP
      go_wp2_with fail
      go_meet
      case rel => exact ⟨by rw [HTB.out, HEB.out, decide_eq_true hle]; rfl, HRK.out, HRG.out⟩
    · have hleI : ¬ (qV : Int) ≤ (qE : Int) := by omega
      have hC0 : Cells [] wr := trivial
      refine wp_region_T (Cells []) (fun _ => false) (by kernel_rfl) ?_
      have hSss9 := Cells.drew hC0
      have hB_0_s9 : Below wr.heap.size wr wr.drew := below_drew _
      generalize wr.drew = s9 at hSss9 hB_0_s9 ⊢
      have hB_s9_s9 := Below.refl s9.heap.size s9
      refine wpAnyT_pure (i := 0) (v := ?_) rfl (by kernel_rfl) (by kernel_rfl) (by kernel_rfl) (fun _ _ _ h => h) (by rfl) ?_ ?_
      rotate_left
      · intro w; go_simp; try with_reducible rfl
      simp only [Act.put, rgA, rgB, rgC, rgD, rgE, rgF]
      refine wpAnyT_pure (i := 1) (v := ?_) rfl (by kernel_rfl) (by kernel_rfl) (by kernel_rfl) (fun _ _ _ h => h) (by rfl) ?_ ?_
      rotate_left
      · intro w; go_simp; try with_reducible rfl
      simp only [Act.put, rgA, rgB, rgC, rgD, rgE, rgF]
      refine wpAnyT_pure (i := 2) (v := ?_) rfl (by kernel_rfl) (by kernel_rfl) (by kernel_rfl) (fun _ _ _ h => h) (by rfl) ?_ ?_
      rotate_left
      · intro w; go_simp; try with_reducible rfl
      simp only [Act.put, rgA, rgB, rgC, rgD, rgE, rgF]
      refine wpAnyT_pure (i := 3) (v := ?_) rfl (by kernel_rfl) (by kernel_rfl) (by kernel_rfl) (fun _ _ _ h => h) (by rfl) ?_ ?_
      rotate_left
      · intro w; go_simp; try with_reducible rfl
      simp only [Act.put, rgA, rgB, rgC, rgD, rgE, rgF]
      refine wpAnyT_skip (i := 4) rfl (by kernel_rfl) (by kernel_rfl) (by kernel_rfl) (fun _ _ _ h => h) (by rfl) ?_
      simp only [Act.put, rgA, rgB, rgC, rgD, rgE, rgF]
      refine wpAnyT_skip (i := 5) rfl (by kernel_rfl) (by kernel_rfl) (by kernel_rfl) (fun _ _ _ h => h) (by rfl) ?_
      simp only [Act.put, rgA, rgB, rgC, rgD, rgE, rgF]
      refine wpAnyT_skip (i := 6) rfl (by kernel_rfl) (by kernel_rfl) (by kernel_rfl) (fun _ _ _ h => h) (by rfl) ?_
      simp only [Act.put, rgA, rgB, rgC, rgD, rgE, rgF]
      refine wpAnyT_skip (i := 7) rfl (by kernel_rfl) (by kernel_rfl) (by kernel_rfl) (fun _ _ _ h => h) (by rfl) ?_
      simp only [Act.put, rgA, rgB, rgC, rgD, rgE, rgF]
      refine wpAnyT_skip (i := 8) rfl (by kernel_rfl) (by kernel_rfl) (by kernel_rfl) (fun _ _ _ h => h) (by rfl) ?_
      simp only [Act.put, rgA, rgB, rgC, rgD, rgE, rgF]
      refine wpAnyT_skip (i := 9) rfl (by kernel_rfl) (by kernel_rfl) (by kernel_rfl) (fun _ _ _ h => h) (by rfl) ?_
      simp only [Act.put, rgA, rgB, rgC, rgD, rgE, rgF]
      refine wpAnyT_skip (i := 10) rfl (by kernel_rfl) (by kernel_rfl) (by kernel_rfl) (fun _ _ _ h => h) (by rfl) ?_
      simp only [Act.put, rgA, rgB, rgC, rgD, rgE, rgF]
      refine wpAnyT_skip (i := 11) rfl (by kernel_rfl) (by kernel_rfl) (by kernel_rfl) (fun _ _ _ h => h) (by rfl) ?_
      simp only [Act.put, rgA, rgB, rgC, rgD, rgE, rgF]
      refine wpAnyT_skip (i := 12) rfl (by kernel_rfl) (by kernel_rfl) (by kernel_rfl) (fun _ _ _ h => h) (by rfl) ?_
      simp only [Act.put, rgA, rgB, rgC, rgD, rgE, rgF]
      refine wpAnyT_skip (i := 13) rfl (by kernel_rfl) (by kernel_rfl) (by kernel_rfl) (fun _ _ _ h => h) (by rfl) ?_
      simp only [Act.put, rgA, rgB, rgC, rgD, rgE, rgF]
      refine wpAnyT_skip (i := 14) rfl (by kernel_rfl) (by kernel_rfl) (by kernel_rfl) (fun _ _ _ h => h) (by rfl) ?_
      simp only [Act.put, rgA, rgB, rgC, rgD, rgE, rgF]
      refine wpAnyT_pure (i := 15) (v := ?_) rfl (by kernel_rfl) (by kernel_rfl) (by kernel_rfl) (fun _ _ _ h => h) (by rfl) ?_ ?_
      rotate_left
      · intro w; go_simp; try with_reducible rfl
      simp only [Act.put, rgA, rgB, rgC, rgD, rgE, rgF]
      refine wpAnyT_done (by kernel_rfl) ?_ _
      have hbP : Below wr.heap.size wr s9 := hB_0_s9.trans ((hB_s9_s9).mono (hB_0_s9).size)
      have HRK := Lib.hid (HKA.out.below hbP)
      have HRG := Lib.hid (HGA.out.step hbP)
      clear hbP
      go_wp2_with fail
      go_meet
      case rel => exact ⟨by rw [HTB.out, decide_eq_false hle]; rfl, HRK.out, HRG.out⟩
  obtain ⟨rfl, hkx, hgx⟩ := hcut
  have HKE := Lib.hid hkx
  have HGE := Lib.hid hgx
  clear hkx hgx
  rcases Bool.eq_false_or_eq_true tb with ht | ht
  · subst ht
    have hand := HTB.out
    obtain ⟨h1, h2⟩ := Bool.and_eq_true_iff.1 hand.symm
    have h1' := of_decide_eq_true h1
    have HNX := Lib.hid ((down_go (fun x => ltK ts dk[a]! x) dk qV qE h1' (by omega) h2).symm.trans HSC.out)
    clear hand h1 h2
    go_wp2_with fail
    go_roundw
    case rel => exact ⟨qE - 1, by go_num, by omega, by omega, HNX.out, HKE.out, HGE.out⟩
    case measure => simp [intOf]; try omega
  subst ht
  have HXE := Lib.hid (show ¬ qV ≤ qE ∨ ltK ts dk[a]! dk[qE]! = false from (Bool.and_eq_false_iff.1 HTB.out.symm).imp of_decide_eq_false id)
  have HUE := Lib.hid (show Sort.scanDown (fun x => ltK ts dk[a]! x) dk qV j2 = qE from HSC.out.symm.trans (down_end (fun x => ltK ts dk[a]! x) dk qV qE HXE.out))
  clear HSC HKA HGA HTB
  by_cases hlt2 : qE < qV
  · have hltI : (qE : Int) < (qV : Int) := by omega
    have HPY := Lib.hid ((pe_stop (ltK ts) dk a i2 j2 qV qE HUV.out HUE.out hlt2).symm.trans HPL.out)
    go_wp2_with fail
    go_ret
    rw [← HPE.out, ← HPY.out]
    exact ⟨rfl, HKE.out, HGE.out⟩
  have hltI : ¬ (qE : Int) < (qV : Int) := by omega
  have HPG := Lib.hid ((pe_go (ltK ts) dk a i2 j2 qV qE HUV.out HUE.out hlt2).symm.trans HPL.out)
  have hne2 : qV ≠ qE := by
    intro e
    rcases HXV.out with h | h
    · omega
    rcases HXE.out with h' | h'
    · omega
    rw [← e] at h'
    simp only [h'] at h
    exact absurd h (by decide)
  have hqDI : (qE : Int) < (n : Int) := by omega
  have hqUI : (qV : Int) < (n : Int) := by omega
  go_wp2_with fail
  obtain ⟨m0, m1, m2⟩ := HKE.out.cell qV (by rw [HSZ2.out]; omega)
  obtain ⟨p0, p1, p2⟩ := HKE.out.cell qE (by rw [HSZ2.out]; omega)
  have HSW := Lib.hid (show Sort.swp dk qV qE = (dk.setIfInBounds qV dk[qE]!).setIfInBounds qE dk[qV]! from rfl)
  have HSZN := Lib.hid (show (Sort.swp dk qV qE).size = n from by rw [swp_size]; exact HSZ2.out)
  generalize dk[qV]! = x at m0 m1 m2 HSW
  generalize dk[qE]! = y at p0 p1 p2 HSW
  obtain ⟨x1, x2, x3⟩ := x
  obtain ⟨y1, y2, y3⟩ := y
  simp only at m0 m1 m2 p0 p1 p2
  have hC0 : Cells [(⟨g, qV * 3, none⟩, .string x1), (⟨g, qV * 3 + 1, none⟩, .int .i64 x2), (⟨g, qV * 3 + 2, none⟩, .int .i64 x3), (⟨g, qE * 3, none⟩, .string y1), (⟨g, qE * 3 + 1, none⟩, .int .i64 y2), (⟨g, qE * 3 + 2, none⟩, .int .i64 y3)] wc := ⟨m0, m1, m2, p0, p1, p2, trivial⟩
  clear m0 m1 m2 p0 p1 p2
  refine wp_region_T (Cells [(⟨g, qV * 3, none⟩, .string x1), (⟨g, qV * 3 + 1, none⟩, .int .i64 x2), (⟨g, qV * 3 + 2, none⟩, .int .i64 x3), (⟨g, qE * 3, none⟩, .string y1), (⟨g, qE * 3 + 1, none⟩, .int .i64 y2), (⟨g, qE * 3 + 2, none⟩, .int .i64 y3)]) (fun i => i == 13 || i == 15) (by kernel_rfl) ?_
  have hSss10 := Cells.drew hC0
  have hB_0_s10 : Below wc.heap.size wc wc.drew := below_drew _
  generalize wc.drew = s10 at hSss10 hB_0_s10 ⊢
  have hB_s10_s10 := Below.refl s10.heap.size s10
  refine wpAnyT_pure (i := 0) (v := ?_) rfl (by kernel_rfl) (by kernel_rfl) (by kernel_rfl) (fun _ _ _ h => h) (by rfl) ?_ ?_
  rotate_left
  · intro w; go_simp; try with_reducible rfl
  simp only [Act.put, rgA, rgB, rgC, rgD, rgE, rgF]
  refine wpAnyT_pure (i := 1) (v := ?_) rfl (by kernel_rfl) (by kernel_rfl) (by kernel_rfl) (fun _ _ _ h => h) (by rfl) ?_ ?_
  rotate_left
  · intro w; go_simp; try with_reducible rfl
  simp only [Act.put, rgA, rgB, rgC, rgD, rgE, rgF]
  refine wpAnyT_pure (i := 2) (v := ?_) rfl (by kernel_rfl) (by kernel_rfl) (by kernel_rfl) (fun _ _ _ h => h) (by rfl) ?_ ?_
  rotate_left
  · intro w; go_simp; try with_reducible rfl
  simp only [Act.put, rgA, rgB, rgC, rgD, rgE, rgF]
  refine wpAnyT_pure (i := 3) (v := ?_) rfl (by kernel_rfl) (by kernel_rfl) (by kernel_rfl) (fun _ _ _ h => h) (by rfl) ?_ ?_
  rotate_left
  · intro w; go_simp; try with_reducible rfl
  simp only [Act.put, rgA, rgB, rgC, rgD, rgE, rgF]
  refine wpAnyT_pure (i := 4) (v := ?_) rfl (by kernel_rfl) (by kernel_rfl) (by kernel_rfl) (fun _ _ _ h => h) (by rfl) ?_ ?_
  rotate_left
  · intro w; go_simp; try with_reducible rfl
  simp only [Act.put, rgA, rgB, rgC, rgD, rgE, rgF]
  refine wpAnyT_pure (i := 5) (v := ?_) rfl (by kernel_rfl) (by kernel_rfl) (by kernel_rfl) (fun _ _ _ h => h) (by rfl) ?_ ?_
  rotate_left
  · intro w; go_simp; try with_reducible rfl
  simp only [Act.put, rgA, rgB, rgC, rgD, rgE, rgF]
  refine wpAnyT_pure (i := 6) (v := ?_) rfl (by kernel_rfl) (by kernel_rfl) (by kernel_rfl) (fun _ _ _ h => h) (by rfl) ?_ ?_
  rotate_left
  · intro w; go_simp; try with_reducible rfl
  simp only [Act.put, rgA, rgB, rgC, rgD, rgE, rgF]
  refine wpAnyT_pure (i := 8) (v := ?_) rfl (by kernel_rfl) (by kernel_rfl) (by kernel_rfl) (fun _ _ _ h => h) (by rfl) ?_ ?_
  rotate_left
  · intro w; go_simp; try with_reducible rfl
  simp only [Act.put, rgA, rgB, rgC, rgD, rgE, rgF]
  refine wpAnyT_pure (i := 9) (v := ?_) rfl (by kernel_rfl) (by kernel_rfl) (by kernel_rfl) (fun _ _ _ h => h) (by rfl) ?_ ?_
  rotate_left
  · intro w; go_simp; try with_reducible rfl
  simp only [Act.put, rgA, rgB, rgC, rgD, rgE, rgF]
  refine wpAnyT_pure (i := 10) (v := ?_) rfl (by kernel_rfl) (by kernel_rfl) (by kernel_rfl) (fun _ _ _ h => h) (by rfl) ?_ ?_
  rotate_left
  · intro w; go_simp; try with_reducible rfl
  simp only [Act.put, rgA, rgB, rgC, rgD, rgE, rgF]
  refine wpAnyT_loadW (i := 7) (v := ?_) rfl (by kernel_rfl) (by kernel_rfl) (by kernel_rfl) (by kernel_rfl) (by kernel_rfl) (fun _ _ _ h => h) (Or.inl ⟨by rfl, ?_⟩) hSss10 ?_
  rotate_left
  · intro w hSw; obtain ⟨e0, e1, e2, e3, e4, e5, -⟩ := hSw; go_simp; try with_reducible rfl
  simp only [Act.put, rgA, rgB, rgC, rgD, rgE, rgF]
  refine wpAnyT_loadW (i := 11) (v := ?_) rfl (by kernel_rfl) (by kernel_rfl) (by kernel_rfl) (by kernel_rfl) (by kernel_rfl) (fun _ _ _ h => h) (Or.inl ⟨by rfl, ?_⟩) hSss10 ?_
  rotate_left
  · intro w hSw; obtain ⟨e0, e1, e2, e3, e4, e5, -⟩ := hSw; go_simp; try with_reducible rfl
  simp only [Act.put, rgA, rgB, rgC, rgD, rgE, rgF]
  refine wpAnyT_pure (i := 12) (v := ?_) rfl (by kernel_rfl) (by kernel_rfl) (by kernel_rfl) (fun _ _ _ h => h) (by rfl) ?_ ?_
  rotate_left
  · intro w; go_simp; try with_reducible rfl
  simp only [Act.put, rgA, rgB, rgC, rgD, rgE, rgF]
  refine wpAnyT_one (i := 13) (by kernel_rfl) rfl (by rfl) ?_
  have hbS : Below wc.heap.size wc s10 := hB_0_s10.trans ((hB_s10_s10).mono (hB_0_s10).size)
  obtain ⟨hsA, hnA⟩ := (HKE.out.below hbS).set Tryz.prog qV (by rw [HSZ2.out]; omega) ⟨y1, y2, y3⟩
  have hgA := (HGE.out.step hbS).trans (gr_setCells g (kvs ⟨y1, y2, y3⟩) (qV * 3) s10) (fun _ h => .inl h)
  refine wp_storeK (w' := (s10).setCells g (qV * 3) (kvs ⟨y1, y2, y3⟩)) 48 (.tmp 83) (.tmp 78) rfl ⟨g, qV * 3, none⟩ (.agg #[.string y1, .int .i64 y2, .int .i64 y3]) (by kernel_rfl) (by kernel_rfl) (sizeK _) hsA ?_
  generalize (s10).setCells g (qV * 3) (kvs ⟨y1, y2, y3⟩) = w111 at hnA hgA ⊢
  clear hsA
  refine ⟨fun h => absurd h (by decide), ?_⟩
  try simp only [Act.put, rgA, rgB, rgC, rgD, rgE, rgF]
  refine wpAnyT_pure (i := 14) (v := ?_) rfl (by kernel_rfl) (by kernel_rfl) (by kernel_rfl) (fun _ _ _ h => h) (by rfl) ?_ ?_
  rotate_left
  · intro w; go_simp; try with_reducible rfl
  simp only [Act.put, rgA, rgB, rgC, rgD, rgE, rgF]
  refine wpAnyT_one (i := 15) (by kernel_rfl) rfl (by rfl) ?_
  obtain ⟨hsB, hnB⟩ := hnA.set Tryz.prog qE (by rw [Array.size_setIfInBounds, HSZ2.out]; omega) ⟨x1, x2, x3⟩
  have hgB := hgA.trans (gr_setCells g (kvs ⟨x1, x2, x3⟩) (qE * 3) w111) (fun _ h => .inl h)
  refine wp_storeK (w' := (w111).setCells g (qE * 3) (kvs ⟨x1, x2, x3⟩)) 48 (.tmp 84) (.tmp 82) rfl ⟨g, qE * 3, none⟩ (.agg #[.string x1, .int .i64 x2, .int .i64 x3]) (by kernel_rfl) (by kernel_rfl) (sizeK _) hsB ?_
  generalize (w111).setCells g (qE * 3) (kvs ⟨x1, x2, x3⟩) = w112 at hnB hgB ⊢
  clear hsB hnA hgA
  refine ⟨fun h => absurd h (by decide), ?_⟩
  try simp only [Act.put, rgA, rgB, rgC, rgD, rgE, rgF]
  refine wpAnyT_done (by kernel_rfl) ?_ _
  obtain ⟨w4, rfl⟩ : ∃ x, x = w112 := ⟨_, rfl⟩
  rw [← HSW.out] at hnB
  have HK4 := Lib.hid hnB
  have HG4 := Lib.hid hgB
  clear hnB hgB HSW hC0
  go_wp2_with fail
  go_roundw
  case rel => exact ⟨qV + 1, qE - 1, Sort.swp dk qV qE, by go_num, by go_num, by omega, by omega, by omega, HSZN.out, HPG.out, HK4.out, HG4.out⟩
  case measure => simp [intOf]; try omega
end Go.Proofs.YtdcjocldggmdbaaGreat
