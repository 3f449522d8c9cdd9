/- Layer 53: the sort of many keys: partition. -/
import Derived.Test.YtdcjocldggmdbaaGreatS53h
import Derived.Sort.LotC
import Derived.Deep.DeepCutAuto
set_option linter.unusedSimpArgs false
namespace Go.Proofs.YtdcjocldggmdbaaGreat
open Go.RowKit Go

theorem up_go (p : Ky → Bool) (d : Array Ky) (j i : Nat) (h : i ≤ j) (hp : p d[i]! = true) : Sort.scanUp p d j i = Sort.scanUp p d j (i + 1) := by
  rw [Sort.scanUp, if_pos (by simp [h, hp])]
theorem up_end (p : Ky → Bool) (d : Array Ky) (j i : Nat) (h : ¬ i ≤ j ∨ p d[i]! = false) : Sort.scanUp p d j i = i := by
  rw [Sort.scanUp, if_neg (by rcases h with h | h <;> simp [h])]
theorem down_go (p : Ky → Bool) (d : Array Ky) (i j : Nat) (h : i ≤ j) (h0 : 0 < j) (hp : p d[j]! = true) : Sort.scanDown p d i j = Sort.scanDown p d i (j - 1) := by
  obtain ⟨k, rfl⟩ : ∃ k, j = k + 1 := ⟨j - 1, by omega⟩
  rw [Sort.scanDown, if_pos (by simp [h, hp])]
  rfl
theorem down_end (p : Ky → Bool) (d : Array Ky) (i j : Nat) (h : ¬ i ≤ j ∨ p d[j]! = false) : Sort.scanDown p d i j = j := by
  cases j with
  | zero => rfl
  | succ k => rw [Sort.scanDown, if_neg (by rcases h with h | h <;> simp [h])]
theorem part_yes (lt : Ky → Ky → Bool) (d d1 : Array Ky) (a b pv i j : Nat) (hd : d1 = Sort.swp d a pv) (hi : Sort.scanUp (fun x => lt x d1[a]!) d1 (b - 1) (a + 1) = i) (hj : Sort.scanDown (fun x => !lt x d1[a]!) d1 i (b - 1) = j) (h : j < i) :
    Sort.partition lt d a b pv = (j, true, Sort.swp d1 j a) := by
  subst hd hi hj
  unfold Sort.partition
  exact if_pos h
theorem part_no (lt : Ky → Ky → Bool) (d d1 : Array Ky) (a b pv i j : Nat) (hd : d1 = Sort.swp d a pv) (hi : Sort.scanUp (fun x => lt x d1[a]!) d1 (b - 1) (a + 1) = i) (hj : Sort.scanDown (fun x => !lt x d1[a]!) d1 i (b - 1) = j) (h : ¬ j < i) :
    Sort.partition lt d a b pv = ((Sort.partLoop lt a (i + 1) (j - 1) (Sort.swp d1 i j)).1, false, Sort.swp (Sort.partLoop lt a (i + 1) (j - 1) (Sort.swp d1 i j)).2 (Sort.partLoop lt a (i + 1) (j - 1) (Sort.swp d1 i j)).1 a) := by
  subst hd hi hj
  unfold Sort.partition
  exact if_neg h
theorem pl_stop (lt : Ky → Ky → Bool) (d : Array Ky) (a i j i2 j2 : Nat) (hi : Sort.scanUp (fun x => lt x d[a]!) d j i = i2) (hj : Sort.scanDown (fun x => !lt x d[a]!) d i2 j = j2) (h : j2 < i2) : Sort.partLoop lt a i j d = (j2, d) := by
  subst hi hj
  rw [Sort.partLoop_eq, if_pos h]
theorem pl_go (lt : Ky → Ky → Bool) (d : Array Ky) (a i j i2 j2 : Nat) (hi : Sort.scanUp (fun x => lt x d[a]!) d j i = i2) (hj : Sort.scanDown (fun x => !lt x d[a]!) d i2 j = j2) (h : ¬ j2 < i2) : Sort.partLoop lt a i j d = Sort.partLoop lt a (i2 + 1) (j2 - 1) (Sort.swp d i2 j2) := by
  subst hi hj
  rw [Sort.partLoop_eq, if_neg h]
set_option maxRecDepth 20000 in
set_option maxHeartbeats 4000000 in
theorem partK {S : Nat → Prop} {F : Nat → Prop} (w : World) (p : Nat) (ts : List Tk) (ne np m : Nat) (hS : SCtx S p ts ne np m F w) (g cap n : Nat) (d : Array Ky) (hn : d.size = n) (hn2 : n ≤ 100000) (hK : KA w g d) (hFg : F g) (a b pv : Nat) (hap : a ≤ pv) (hpb : pv < b) (hbn : b ≤ n) :
    Calls Tryz.prog 89 #[.slice (some ⟨g, 0, none⟩) n cap, .int .i64 (a : Nat), .int .i64 (b : Nat), .int .i64 (pv : Nat), cmpV p] w fun e w' => e = .returned (.tuple #[.int .i64 ((Sort.partition (ltK ts) d a b pv).1 : Nat), .bool (Sort.partition (ltK ts) d a b pv).2.1]) ∧ KA w' g (Sort.partition (ltK ts) d a b pv).2.2 ∧ Gr (fun x => x = g) w w' := by
  obtain ⟨r, hr⟩ : ∃ r, Sort.partition (ltK ts) d a b pv = r := ⟨_, rfl⟩
  rw [hr]
  have HR := Lib.hid hr
  have HK := Lib.hid hK
  have HN := Lib.hid hn
  have HS := Lib.hid hS
  have HFG := Lib.hid hFg
  have HG0 := Lib.hid (Gr.refl (fun x => x = g) w)
  clear hr hK hn hS hFg
  unfold cmpV
  have haI : (a : Int) < (n : Int) := by omega
  have hpI : (pv : Int) < (n : Int) := by omega
  go_enter Tryz.func89, Tryz.ntmps89
  go_wp2_with fail
  obtain ⟨m0, m1, m2⟩ := HK.out.cell a (by rw [HN.out]; omega)
  obtain ⟨p0, p1, p2⟩ := HK.out.cell pv (by rw [HN.out]; omega)
  have HSW := Lib.hid (show Sort.swp d a pv = (d.setIfInBounds a d[pv]!).setIfInBounds pv d[a]! from rfl)
  have HSZN := Lib.hid (show (Sort.swp d a pv).size = n from by rw [swp_size]; exact HN.out)
  generalize d[a]! = x at m0 m1 m2 HSW
  generalize d[pv]! = y at p0 p1 p2 HSW
  obtain ⟨x1, x2, x3⟩ := x
  obtain ⟨y1, y2, y3⟩ := y
  simp only at m0 m1 m2 p0 p1 p2
  have hC0 : Cells [(⟨g, a * 3, none⟩, .string x1), (⟨g, a * 3 + 1, none⟩, .int .i64 x2), (⟨g, a * 3 + 2, none⟩, .int .i64 x3), (⟨g, pv * 3, none⟩, .string y1), (⟨g, pv * 3 + 1, none⟩, .int .i64 y2), (⟨g, pv * 3 + 2, none⟩, .int .i64 y3)] w := ⟨m0, m1, m2, p0, p1, p2, trivial⟩
  clear m0 m1 m2 p0 p1 p2
  refine wp_region_T (Cells [(⟨g, a * 3, none⟩, .string x1), (⟨g, a * 3 + 1, none⟩, .int .i64 x2), (⟨g, a * 3 + 2, none⟩, .int .i64 x3), (⟨g, pv * 3, none⟩, .string y1), (⟨g, pv * 3 + 1, none⟩, .int .i64 y2), (⟨g, pv * 3 + 2, none⟩, .int .i64 y3)]) (fun i => i == 13 || i == 15) (by kernel_rfl) ?_
  have hSss1 := Cells.drew hC0
  have hB_0_s1 : Below w.heap.size w w.drew := below_drew _
  generalize w.drew = s1 at hSss1 hB_0_s1 ⊢
  have hB_s1_s1 := Below.refl s1.heap.size s1
  refine wpAnyT_pure (i := 0) (v := ?_) rfl (by kernel_rfl) (by kernel_rfl) (by kernel_rfl) (fun _ _ _ h => h) (by rfl) ?_ ?_
  rotate_left
  · intro w; go_simp; try with_reducible rfl
  simp only [Act.put, rgA, rgB, rgC, rgD, rgE, rgF]
  refine wpAnyT_pure (i := 1) (v := ?_) rfl (by kernel_rfl) (by kernel_rfl) (by kernel_rfl) (fun _ _ _ h => h) (by rfl) ?_ ?_
  rotate_left
  · intro w; go_simp; try with_reducible rfl
  simp only [Act.put, rgA, rgB, rgC, rgD, rgE, rgF]
  refine wpAnyT_pure (i := 2) (v := ?_) rfl (by kernel_rfl) (by kernel_rfl) (by kernel_rfl) (fun _ _ _ h => h) (by rfl) ?_ ?_
  rotate_left
  · intro w; go_simp; try with_reducible rfl
  simp only [Act.put, rgA, rgB, rgC, rgD, rgE, rgF]
  refine wpAnyT_pure (i := 3) (v := ?_) rfl (by kernel_rfl) (by kernel_rfl) (by kernel_rfl) (fun _ _ _ h => h) (by rfl) ?_ ?_
  rotate_left
  · intro w; go_simp; try with_reducible rfl
  simp only [Act.put, rgA, rgB, rgC, rgD, rgE, rgF]
  refine wpAnyT_pure (i := 4) (v := ?_) rfl (by kernel_rfl) (by kernel_rfl) (by kernel_rfl) (fun _ _ _ h => h) (by rfl) ?_ ?_
  rotate_left
  · intro w; go_simp; try with_reducible rfl
  simp only [Act.put, rgA, rgB, rgC, rgD, rgE, rgF]
  refine wpAnyT_pure (i := 5) (v := ?_) rfl (by kernel_rfl) (by kernel_rfl) (by kernel_rfl) (fun _ _ _ h => h) (by rfl) ?_ ?_
  rotate_left
  · intro w; go_simp; try with_reducible rfl
  simp only [Act.put, rgA, rgB, rgC, rgD, rgE, rgF]
  refine wpAnyT_pure (i := 6) (v := ?_) rfl (by kernel_rfl) (by kernel_rfl) (by kernel_rfl) (fun _ _ _ h => h) (by rfl) ?_ ?_
  rotate_left
  · intro w; go_simp; try with_reducible rfl
  simp only [Act.put, rgA, rgB, rgC, rgD, rgE, rgF]
  refine wpAnyT_pure (i := 8) (v := ?_) rfl (by kernel_rfl) (by kernel_rfl) (by kernel_rfl) (fun _ _ _ h => h) (by rfl) ?_ ?_
  rotate_left
  · intro w; go_simp; try with_reducible rfl
  simp only [Act.put, rgA, rgB, rgC, rgD, rgE, rgF]
  refine wpAnyT_pure (i := 9) (v := ?_) rfl (by kernel_rfl) (by kernel_rfl) (by kernel_rfl) (fun _ _ _ h => h) (by rfl) ?_ ?_
  rotate_left
  · intro w; go_simp; try with_reducible rfl
  simp only [Act.put, rgA, rgB, rgC, rgD, rgE, rgF]
  refine wpAnyT_pure (i := 10) (v := ?_) rfl (by kernel_rfl) (by kernel_rfl) (by kernel_rfl) (fun _ _ _ h => h) (by rfl) ?_ ?_
  rotate_left
  · intro w; go_simp; try with_reducible rfl
  simp only [Act.put, rgA, rgB, rgC, rgD, rgE, rgF]
  refine wpAnyT_loadW (i := 7) (v := ?_) rfl (by kernel_rfl) (by kernel_rfl) (by kernel_rfl) (by kernel_rfl) (by kernel_rfl) (fun _ _ _ h => h) (Or.inl ⟨by rfl, ?_⟩) hSss1 ?_
  rotate_left
  · intro w hSw; obtain ⟨e0, e1, e2, e3, e4, e5, -⟩ := hSw; go_simp; try with_reducible rfl
  simp only [Act.put, rgA, rgB, rgC, rgD, rgE, rgF]
  refine wpAnyT_loadW (i := 11) (v := ?_) rfl (by kernel_rfl) (by kernel_rfl) (by kernel_rfl) (by kernel_rfl) (by kernel_rfl) (fun _ _ _ h => h) (Or.inl ⟨by rfl, ?_⟩) hSss1 ?_
  rotate_left
  · intro w hSw; obtain ⟨e0, e1, e2, e3, e4, e5, -⟩ := hSw; go_simp; try with_reducible rfl
  simp only [Act.put, rgA, rgB, rgC, rgD, rgE, rgF]
  refine wpAnyT_pure (i := 12) (v := ?_) rfl (by kernel_rfl) (by kernel_rfl) (by kernel_rfl) (fun _ _ _ h => h) (by rfl) ?_ ?_
  rotate_left
  · intro w; go_simp; try with_reducible rfl
  simp only [Act.put, rgA, rgB, rgC, rgD, rgE, rgF]
  refine wpAnyT_one (i := 13) (by kernel_rfl) rfl (by rfl) ?_
  have hbS : Below w.heap.size w s1 := hB_0_s1.trans ((hB_s1_s1).mono (hB_0_s1).size)
  obtain ⟨hsA, hnA⟩ := (HK.out.below hbS).set Tryz.prog a (by rw [HN.out]; omega) ⟨y1, y2, y3⟩
  have hgA := (HG0.out.step hbS).trans (gr_setCells g (kvs ⟨y1, y2, y3⟩) (a * 3) s1) (fun _ h => .inl h)
  refine wp_storeK (w' := (s1).setCells g (a * 3) (kvs ⟨y1, y2, y3⟩)) 48 (.tmp 26) (.tmp 21) rfl ⟨g, a * 3, none⟩ (.agg #[.string y1, .int .i64 y2, .int .i64 y3]) (by kernel_rfl) (by kernel_rfl) (sizeK _) hsA ?_
  generalize (s1).setCells g (a * 3) (kvs ⟨y1, y2, y3⟩) = w102 at hnA hgA ⊢
  clear hsA
  refine ⟨fun h => absurd h (by decide), ?_⟩
  try simp only [Act.put, rgA, rgB, rgC, rgD, rgE, rgF]
  refine wpAnyT_pure (i := 14) (v := ?_) rfl (by kernel_rfl) (by kernel_rfl) (by kernel_rfl) (fun _ _ _ h => h) (by rfl) ?_ ?_
  rotate_left
  · intro w; go_simp; try with_reducible rfl
  simp only [Act.put, rgA, rgB, rgC, rgD, rgE, rgF]
  refine wpAnyT_one (i := 15) (by kernel_rfl) rfl (by rfl) ?_
  obtain ⟨hsB, hnB⟩ := hnA.set Tryz.prog pv (by rw [Array.size_setIfInBounds, HN.out]; omega) ⟨x1, x2, x3⟩
  have hgB := hgA.trans (gr_setCells g (kvs ⟨x1, x2, x3⟩) (pv * 3) w102) (fun _ h => .inl h)
  refine wp_storeK (w' := (w102).setCells g (pv * 3) (kvs ⟨x1, x2, x3⟩)) 48 (.tmp 27) (.tmp 25) rfl ⟨g, pv * 3, none⟩ (.agg #[.string x1, .int .i64 x2, .int .i64 x3]) (by kernel_rfl) (by kernel_rfl) (sizeK _) hsB ?_
  generalize (w102).setCells g (pv * 3) (kvs ⟨x1, x2, x3⟩) = w103 at hnB hgB ⊢
  clear hsB hnA hgA
  refine ⟨fun h => absurd h (by decide), ?_⟩
  try simp only [Act.put, rgA, rgB, rgC, rgD, rgE, rgF]
  refine wpAnyT_done (by kernel_rfl) ?_ _
  obtain ⟨w1, rfl⟩ : ∃ x, x = w103 := ⟨_, rfl⟩
  rw [← HSW.out] at hnB
  have HSZ1 := HSZN
  obtain ⟨d1, hd1⟩ : ∃ q, q = Sort.swp d a pv := ⟨_, rfl⟩
  rw [← hd1] at hnB HSZ1
  have HD1 := Lib.hid hd1
  have HK1 := Lib.hid hnB
  have HG1 := Lib.hid hgB
  clear hnB hgB HSW HSZN hd1 hC0
  obtain ⟨i1, hi1⟩ : ∃ q, q = a + 1 := ⟨_, rfl⟩
  obtain ⟨j1, hj1⟩ : ∃ q, q = b - 1 := ⟨_, rfl⟩
  have HI1 := Lib.hid hi1
  have HJ1 := Lib.hid hj1
  have hi1a : a < i1 := by omega
  have hi1j : i1 ≤ j1 + 1 := by omega
  have hj1b : j1 < b := by omega
  have ei : ((a : Int) + 1) = (i1 : Int) := by omega
  have ej : ((b : Int) - 1) = (j1 : Int) := by omega
  clear hi1 hj1
  go_wp2_with fail
  -- 1 slot, 2 region, 3 test slot, 4 start, 5 j, 6 dk, 7 suffix, 8 HK, 9 HG, 10 HSZ, 11 skipped ops, 12 function
  go_loopw [12] (fun iv wr => ∃ q : Nat, iv = .int .i64 (q : Nat) ∧ i1 ≤ q ∧ q ≤ j1 + 1 ∧ Sort.scanUp (fun x => ltK ts x d1[a]!) d1 j1 q = Sort.scanUp (fun x => ltK ts x d1[a]!) d1 j1 i1 ∧ KA wr g d1 ∧ Gr (fun x => x = g) w wr) (fun iv _ => j1 + 1 - (intOf iv).toNat)
  case atStart => exact ⟨i1, by go_num, Nat.le_refl _, by omega, rfl, HK1.out, HG1.out⟩
  obtain ⟨qU, rfl, hqiU, hqjU, hsc, hka, hga⟩ := hrel
  have HSC := Lib.hid hsc
  have HKA := Lib.hid hka
  have HGA := Lib.hid hga
  clear hsc hka hga
  go_upto_region 3 with fail
  obtain ⟨tb, htb⟩ : ∃ tb, tb = (decide (qU ≤ j1) && ltK ts d1[qU]! d1[a]!) := ⟨_, rfl⟩
  have HTB := Lib.hid htb
  clear htb
  go_cut [47] (fun sv wx => sv = .bool tb ∧ KA wx g d1 ∧ Gr (fun x => x = g) w wx)
  case first =>
    by_cases hle : qU ≤ j1
    · have hleI : (qU : Int) ≤ (j1 : Int) := by omega
      have hq1I : (qU : Int) < (n : Int) := by omega
      obtain ⟨eb, heb⟩ : ∃ vb, ltK ts d1[qU]! d1[a]! = vb := ⟨_, rfl⟩
      obtain ⟨m0, m1, m2⟩ := HKA.out.cell qU (by rw [HSZ1.out]; omega)
      obtain ⟨p0, p1, p2⟩ := HKA.out.cell a (by rw [HSZ1.out]; omega)
      obtain ⟨cc, hcc, hcall⟩ := cmpAt (HS.out.gr HGA.out (fun _ e => .inl (by rw [e]; exact HFG.out))) d1[qU]! d1[a]! eb heb
      have HCC := Lib.hid hcc
      have HEB := Lib.hid heb
      clear hcc heb
      generalize d1[qU]! = x at m0 m1 m2 hcall
      generalize d1[a]! = y at p0 p1 p2 hcall
      obtain ⟨x1, x2, x3⟩ := x
      obtain ⟨y1, y2, y3⟩ := y
      simp only at m0 m1 m2 p0 p1 p2 hcall
      have HCALL := Lib.hid hcall
      have hC0 : Cells [(⟨g, qU * 3, none⟩, .string x1), (⟨g, qU * 3 + 1, none⟩, .int .i64 x2), (⟨g, qU * 3 + 2, none⟩, .int .i64 x3), (⟨g, a * 3, none⟩, .string y1), (⟨g, a * 3 + 1, none⟩, .int .i64 y2), (⟨g, a * 3 + 2, none⟩, .int .i64 y3)] wr := ⟨m0, m1, m2, p0, p1, p2, trivial⟩
      clear m0 m1 m2 p0 p1 p2 hcall
      refine wp_region_T (Cells [(⟨g, qU * 3, none⟩, .string x1), (⟨g, qU * 3 + 1, none⟩, .int .i64 x2), (⟨g, qU * 3 + 2, none⟩, .int .i64 x3), (⟨g, a * 3, none⟩, .string y1), (⟨g, a * 3 + 1, none⟩, .int .i64 y2), (⟨g, a * 3 + 2, none⟩, .int .i64 y3)]) (fun _ => false) (by kernel_rfl) ?_
      have hSss4 := Cells.drew hC0
      have hB_0_s4 : Below wr.heap.size wr wr.drew := below_drew _
      generalize wr.drew = s4 at hSss4 hB_0_s4 ⊢
      have hB_s4_s4 := Below.refl s4.heap.size s4
      refine wpAnyT_pure (i := 0) (v := ?_) rfl (by kernel_rfl) (by kernel_rfl) (by kernel_rfl) (fun _ _ _ h => h) (by rfl) ?_ ?_
      rotate_left
      · intro w; go_simp; try with_reducible rfl
      simp only [Act.put, rgA, rgB, rgC, rgD, rgE, rgF]
      refine wpAnyT_pure (i := 1) (v := ?_) rfl (by kernel_rfl) (by kernel_rfl) (by kernel_rfl) (fun _ _ _ h => h) (by rfl) ?_ ?_
      rotate_left
      · intro w; go_simp; try with_reducible rfl
      simp only [Act.put, rgA, rgB, rgC, rgD, rgE, rgF]
      refine wpAnyT_pure (i := 2) (v := (.bool true)) rfl (by kernel_rfl) (by kernel_rfl) (by kernel_rfl) (fun _ _ _ h => h) (by rfl) ?_ ?_
      · intro w; go_simp <;> omega
      simp only [Act.put, rgA, rgB, rgC, rgD, rgE, rgF]
      refine wpAnyT_pure (i := 3) (v := ?_) rfl (by kernel_rfl) (by kernel_rfl) (by kernel_rfl) (fun _ _ _ h => h) (by rfl) ?_ ?_
      rotate_left
      · intro w; go_simp; try with_reducible rfl
      simp only [Act.put, rgA, rgB, rgC, rgD, rgE, rgF]
      refine wpAnyT_pure (i := 4) (v := ?_) rfl (by kernel_rfl) (by kernel_rfl) (by kernel_rfl) (fun _ _ _ h => h) (by rfl) ?_ ?_
      rotate_left
      · intro w; go_simp; try with_reducible rfl
      simp only [Act.put, rgA, rgB, rgC, rgD, rgE, rgF]
      refine wpAnyT_pure (i := 5) (v := ?_) rfl (by kernel_rfl) (by kernel_rfl) (by kernel_rfl) (fun _ _ _ h => h) (by rfl) ?_ ?_
      rotate_left
      · intro w; go_simp; try with_reducible rfl
      simp only [Act.put, rgA, rgB, rgC, rgD, rgE, rgF]
      refine wpAnyT_pure (i := 6) (v := ?_) rfl (by kernel_rfl) (by kernel_rfl) (by kernel_rfl) (fun _ _ _ h => h) (by rfl) ?_ ?_
      rotate_left
      · intro w; go_simp; try with_reducible rfl
      simp only [Act.put, rgA, rgB, rgC, rgD, rgE, rgF]
      refine wpAnyT_pure (i := 7) (v := ?_) rfl (by kernel_rfl) (by kernel_rfl) (by kernel_rfl) (fun _ _ _ h => h) (by rfl) ?_ ?_
      rotate_left
      · intro w; go_simp; try with_reducible rfl
      simp only [Act.put, rgA, rgB, rgC, rgD, rgE, rgF]
      refine wpAnyT_pure (i := 9) (v := ?_) rfl (by kernel_rfl) (by kernel_rfl) (by kernel_rfl) (fun _ _ _ h => h) (by rfl) ?_ ?_
      rotate_left
      · intro w; go_simp; try with_reducible rfl
      simp only [Act.put, rgA, rgB, rgC, rgD, rgE, rgF]
      refine wpAnyT_pure (i := 10) (v := ?_) rfl (by kernel_rfl) (by kernel_rfl) (by kernel_rfl) (fun _ _ _ h => h) (by rfl) ?_ ?_
      rotate_left
      · intro w; go_simp; try with_reducible rfl
      simp only [Act.put, rgA, rgB, rgC, rgD, rgE, rgF]
      refine wpAnyT_pure (i := 11) (v := ?_) rfl (by kernel_rfl) (by kernel_rfl) (by kernel_rfl) (fun _ _ _ h => h) (by rfl) ?_ ?_
      rotate_left
      · intro w; go_simp; try with_reducible rfl
      simp only [Act.put, rgA, rgB, rgC, rgD, rgE, rgF]
      refine wpAnyT_loadW (i := 8) (v := ?_) rfl (by kernel_rfl) (by kernel_rfl) (by kernel_rfl) (by kernel_rfl) (by kernel_rfl) (fun _ _ _ h => h) (Or.inl ⟨by rfl, ?_⟩) hSss4 ?_
      rotate_left
      · intro w hSw; obtain ⟨e0, e1, e2, e3, e4, e5, -⟩ := hSw; go_simp; try with_reducible rfl
      simp only [Act.put, rgA, rgB, rgC, rgD, rgE, rgF]
      refine wpAnyT_loadW (i := 12) (v := ?_) rfl (by kernel_rfl) (by kernel_rfl) (by kernel_rfl) (by kernel_rfl) (by kernel_rfl) (fun _ _ _ h => h) (Or.inl ⟨by rfl, ?_⟩) hSss4 ?_
      rotate_left
      · intro w hSw; obtain ⟨e0, e1, e2, e3, e4, e5, -⟩ := hSw; go_simp; try with_reducible rfl
      simp only [Act.put, rgA, rgB, rgC, rgD, rgE, rgF]
      refine wpAnyT_one (i := 13) (by kernel_rfl) rfl (by rfl) ?_
      refine wp_enter (f := 44) (args := #[.pointer (some ⟨p, 0, none⟩), .agg #[.string x1, .int .i64 x2, .int .i64 x3], .agg #[.string y1, .int .i64 y2, .int .i64 y3]]) (by go_simp) (HCALL.out s4 (Gr.of_below (hB_0_s4.trans ((hB_s4_s4).mono (hB_0_s4).size)))) ?_
      rintro e w105 ⟨rfl, hX⟩
      have hB_s4_w105 := below_step hB_s4_s4 hX
      have hB_w105_w105 := Below.refl w105.heap.size w105
      have hSsw105 := Cells.below hB_s4_w105 hSss4
      clear hX
      refine ⟨_, rfl, fun _ _ => hSsw105, ?_⟩
      try simp only [Act.put, rgA, rgB, rgC, rgD, rgE, rgF]
      refine wpAnyT_pure (i := 14) (v := (.bool eb)) rfl (by kernel_rfl) (by kernel_rfl) (by kernel_rfl) (fun _ _ _ h => h) (by rfl) ?_ ?_
      · intro w; have hq := HCC.out; clear HCC; go_simp <;> exact hq
      simp only [Act.put, rgA, rgB, rgC, rgD, rgE, rgF]
      refine wpAnyT_pure (i := 15) (v := ?_) rfl (by kernel_rfl) (by kernel_rfl) (by kernel_rfl) (fun _ _ _ h => h) (by rfl) ?_ ?_
      rotate_left
      · intro w; go_simp; try with_reducible rfl
      simp only [Act.put, rgA, rgB, rgC, rgD, rgE, rgF]
      refine wpAnyT_done (by kernel_rfl) ?_ _
      have hbP : Below wr.heap.size wr w105 := hB_0_s4.trans ((hB_s4_w105).mono (hB_0_s4).size)
      have HRK := Lib.hid (HKA.out.below hbP)
      have HRG := Lib.hid (HGA.out.step hbP)
      clear hbP
      go_wp2_with fail
      go_meet
      case rel => exact ⟨by rw [HTB.out, HEB.out, decide_eq_true hle]; rfl, HRK.out, HRG.out⟩
    · have hleI : ¬ (qU : Int) ≤ (j1 : Int) := by omega
      have hC0 : Cells [] wr := trivial
      refine wp_region_T (Cells []) (fun _ => false) (by kernel_rfl) ?_
      have hSss6 := Cells.drew hC0
      have hB_0_s6 : Below wr.heap.size wr wr.drew := below_drew _
      generalize wr.drew = s6 at hSss6 hB_0_s6 ⊢
      have hB_s6_s6 := Below.refl s6.heap.size s6
      refine wpAnyT_pure (i := 0) (v := ?_) rfl (by kernel_rfl) (by kernel_rfl) (by kernel_rfl) (fun _ _ _ h => h) (by rfl) ?_ ?_
      rotate_left
      · intro w; go_simp; try with_reducible rfl
      simp only [Act.put, rgA, rgB, rgC, rgD, rgE, rgF]
      refine wpAnyT_pure (i := 1) (v := ?_) rfl (by kernel_rfl) (by kernel_rfl) (by kernel_rfl) (fun _ _ _ h => h) (by rfl) ?_ ?_
      rotate_left
      · intro w; go_simp; try with_reducible rfl
      simp only [Act.put, rgA, rgB, rgC, rgD, rgE, rgF]
      refine wpAnyT_pure (i := 2) (v := ?_) rfl (by kernel_rfl) (by kernel_rfl) (by kernel_rfl) (fun _ _ _ h => h) (by rfl) ?_ ?_
      rotate_left
      · intro w; go_simp; try with_reducible rfl
      simp only [Act.put, rgA, rgB, rgC, rgD, rgE, rgF]
      refine wpAnyT_pure (i := 3) (v := ?_) rfl (by kernel_rfl) (by kernel_rfl) (by kernel_rfl) (fun _ _ _ h => h) (by rfl) ?_ ?_
      rotate_left
      · intro w; go_simp; try with_reducible rfl
      simp only [Act.put, rgA, rgB, rgC, rgD, rgE, rgF]
      refine wpAnyT_skip (i := 4) rfl (by kernel_rfl) (by kernel_rfl) (by kernel_rfl) (fun _ _ _ h => h) (by rfl) ?_
      simp only [Act.put, rgA, rgB, rgC, rgD, rgE, rgF]
      refine wpAnyT_skip (i := 5) rfl (by kernel_rfl) (by kernel_rfl) (by kernel_rfl) (fun _ _ _ h => h) (by rfl) ?_
      simp only [Act.put, rgA, rgB, rgC, rgD, rgE, rgF]
      refine wpAnyT_skip (i := 6) rfl (by kernel_rfl) (by kernel_rfl) (by kernel_rfl) (fun _ _ _ h => h) (by rfl) ?_
      simp only [Act.put, rgA, rgB, rgC, rgD, rgE, rgF]
      refine wpAnyT_skip (i := 7) rfl (by kernel_rfl) (by kernel_rfl) (by kernel_rfl) (fun _ _ _ h => h) (by rfl) ?_
      simp only [Act.put, rgA, rgB, rgC, rgD, rgE, rgF]
      refine wpAnyT_skip (i := 8) rfl (by kernel_rfl) (by kernel_rfl) (by kernel_rfl) (fun _ _ _ h => h) (by rfl) ?_
      simp only [Act.put, rgA, rgB, rgC, rgD, rgE, rgF]
      refine wpAnyT_skip (i := 9) rfl (by kernel_rfl) (by kernel_rfl) (by kernel_rfl) (fun _ _ _ h => h) (by rfl) ?_
      simp only [Act.put, rgA, rgB, rgC, rgD, rgE, rgF]
      refine wpAnyT_skip (i := 10) rfl (by kernel_rfl) (by kernel_rfl) (by kernel_rfl) (fun _ _ _ h => h) (by rfl) ?_
      simp only [Act.put, rgA, rgB, rgC, rgD, rgE, rgF]
      refine wpAnyT_skip (i := 11) rfl (by kernel_rfl) (by kernel_rfl) (by kernel_rfl) (fun _ _ _ h => h) (by rfl) ?_
      simp only [Act.put, rgA, rgB, rgC, rgD, rgE, rgF]
      refine wpAnyT_skip (i := 12) rfl (by kernel_rfl) (by kernel_rfl) (by kernel_rfl) (fun _ _ _ h => h) (by rfl) ?_
      simp only [Act.put, rgA, rgB, rgC, rgD, rgE, rgF]
      refine wpAnyT_skip (i := 13) rfl (by kernel_rfl) (by kernel_rfl) (by kernel_rfl) (fun _ _ _ h => h) (by rfl) ?_
      simp only [Act.put, rgA, rgB, rgC, rgD, rgE, rgF]
      refine wpAnyT_skip (i := 14) rfl (by kernel_rfl) (by kernel_rfl) (by kernel_rfl) (fun _ _ _ h => h) (by rfl) ?_
      simp only [Act.put, rgA, rgB, rgC, rgD, rgE, rgF]
      refine wpAnyT_pure (i := 15) (v := ?_) rfl (by kernel_rfl) (by kernel_rfl) (by kernel_rfl) (fun _ _ _ h => h) (by rfl) ?_ ?_
      rotate_left
      · intro w; go_simp; try with_reducible rfl
      simp only [Act.put, rgA, rgB, rgC, rgD, rgE, rgF]
      refine wpAnyT_done (by kernel_rfl) ?_ _
      have hbP : Below wr.heap.size wr s6 := hB_0_s6.trans ((hB_s6_s6).mono (hB_0_s6).size)
      have HRK := Lib.hid (HKA.out.below hbP)
      have HRG := Lib.hid (HGA.out.step hbP)
      clear hbP
      go_wp2_with fail
      go_meet
      case rel => exact ⟨by rw [HTB.out, decide_eq_false hle]; rfl, HRK.out, HRG.out⟩
  obtain ⟨rfl, hkx, hgx⟩ := hcut
  have HKU := Lib.hid hkx
  have HGU := Lib.hid hgx
  clear hkx hgx
  rcases Bool.eq_false_or_eq_true tb with ht | ht
  · subst ht
    have hand := HTB.out
    obtain ⟨h1, h2⟩ := Bool.and_eq_true_iff.1 hand.symm
    have h1' := of_decide_eq_true h1
    have HNX := Lib.hid ((up_go (fun x => ltK ts x d1[a]!) d1 j1 qU h1' h2).symm.trans HSC.out)
    clear hand h1 h2
    go_wp2_with fail
    go_roundw
    case rel => exact ⟨qU + 1, by go_num, by omega, by omega, HNX.out, HKU.out, HGU.out⟩
    case measure => simp [intOf]; try omega
  subst ht
  have HXU := Lib.hid (show ¬ qU ≤ j1 ∨ ltK ts d1[qU]! d1[a]! = false from (Bool.and_eq_false_iff.1 HTB.out.symm).imp of_decide_eq_false id)
  have HUU := Lib.hid (show Sort.scanUp (fun x => ltK ts x d1[a]!) d1 j1 i1 = qU from HSC.out.symm.trans (up_end (fun x => ltK ts x d1[a]!) d1 j1 qU HXU.out))
  clear HSC HKA HGA HTB
  go_wp2_with fail
  -- 1 slot, 2 region, 3 test slot, 4 i, 5 start j, 6 dk, 7 suffix, 8 HK, 9 HG, 10 HSZ, 11 skipped ops, 12 function
  go_loopw [13] (fun jv wr => ∃ q : Nat, jv = .int .i64 (q : Nat) ∧ q ≤ j1 ∧ qU ≤ q + 1 ∧ Sort.scanDown (fun x => !ltK ts x d1[a]!) d1 qU q = Sort.scanDown (fun x => !ltK ts x d1[a]!) d1 qU j1 ∧ KA wr g d1 ∧ Gr (fun x => x = g) w wr) (fun jv _ => (intOf jv).toNat)
  case atStart => exact ⟨j1, by go_num, Nat.le_refl _, by omega, rfl, HKU.out, HGU.out⟩
  obtain ⟨qD, rfl, hqiD, hqjD, hsc, hka, hga⟩ := hrel
  have HSC := Lib.hid hsc
  have HKA := Lib.hid hka
  have HGA := Lib.hid hga
  clear hsc hka hga
  go_upto_region 5 with fail
  obtain ⟨tb, htb⟩ : ∃ tb, tb = (decide (qU ≤ qD) && !ltK ts d1[qD]! d1[a]!) := ⟨_, rfl⟩
  have HTB := Lib.hid htb
  clear htb
  go_cut [66] (fun sv wx => sv = .bool tb ∧ KA wx g d1 ∧ Gr (fun x => x = g) w wx)
  case first =>
    by_cases hle : qU ≤ qD
    · have hleI : (qU : Int) ≤ (qD : Int) := by omega
      have hq1I : (qD : Int) < (n : Int) := by omega
      obtain ⟨eb, heb⟩ : ∃ vb, ltK ts d1[qD]! d1[a]! = vb := ⟨_, rfl⟩
      obtain ⟨m0, m1, m2⟩ := HKA.out.cell qD (by rw [HSZ1.out]; omega)
      obtain ⟨p0, p1, p2⟩ := HKA.out.cell a (by rw [HSZ1.out]; omega)
      obtain ⟨cc, hcc, hcall⟩ := cmpAt (HS.out.gr HGA.out (fun _ e => .inl (by rw [e]; exact HFG.out))) d1[qD]! d1[a]! eb heb
      have HCC := Lib.hid hcc
      have HEB := Lib.hid heb
      clear hcc heb
      generalize d1[qD]! = x at m0 m1 m2 hcall
      generalize d1[a]! = y at p0 p1 p2 hcall
      obtain ⟨x1, x2, x3⟩ := x
      obtain ⟨y1, y2, y3⟩ := y
      simp only at m0 m1 m2 p0 p1 p2 hcall
      have HCALL := Lib.hid hcall
      have hC0 : Cells [(⟨g, qD * 3, none⟩, .string x1), (⟨g, qD * 3 + 1, none⟩, .int .i64 x2), (⟨g, qD * 3 + 2, none⟩, .int .i64 x3), (⟨g, a * 3, none⟩, .string y1), (⟨g, a * 3 + 1, none⟩, .int .i64 y2), (⟨g, a * 3 + 2, none⟩, .int .i64 y3)] wr := ⟨m0, m1, m2, p0, p1, p2, trivial⟩
      clear m0 m1 m2 p0 p1 p2 hcall
      refine wp_region_T (Cells [(⟨g, qD * 3, none⟩, .string x1), (⟨g, qD * 3 + 1, none⟩, .int .i64 x2), (⟨g, qD * 3 + 2, none⟩, .int .i64 x3), (⟨g, a * 3, none⟩, .string y1), (⟨g, a * 3 + 1, none⟩, .int .i64 y2), (⟨g, a * 3 + 2, none⟩, .int .i64 y3)]) (fun _ => false) (by kernel_rfl) ?_
      have hSss7 := Cells.drew hC0
      have hB_0_s7 : Below wr.heap.size wr wr.drew := below_drew _
      generalize wr.drew = s7 at hSss7 hB_0_s7 ⊢
      have hB_s7_s7 := Below.refl s7.heap.size s7
      refine wpAnyT_pure (i := 0) (v := ?_) rfl (by kernel_rfl) (by kernel_rfl) (by kernel_rfl) (fun _ _ _ h => h) (by rfl) ?_ ?_
      rotate_left
      · intro w; go_simp; try with_reducible rfl
      simp only [Act.put, rgA, rgB, rgC, rgD, rgE, rgF]
      refine wpAnyT_pure (i := 1) (v := ?_) rfl (by kernel_rfl) (by kernel_rfl) (by kernel_rfl) (fun _ _ _ h => h) (by rfl) ?_ ?_
      rotate_left
      · intro w; go_simp; try with_reducible rfl
      simp only [Act.put, rgA, rgB, rgC, rgD, rgE, rgF]
      refine wpAnyT_pure (i := 2) (v := (.bool true)) rfl (by kernel_rfl) (by kernel_rfl) (by kernel_rfl) (fun _ _ _ h => h) (by rfl) ?_ ?_
      · intro w; go_simp <;> omega
      simp only [Act.put, rgA, rgB, rgC, rgD, rgE, rgF]
      refine wpAnyT_pure (i := 3) (v := ?_) rfl (by kernel_rfl) (by kernel_rfl) (by kernel_rfl) (fun _ _ _ h => h) (by rfl) ?_ ?_
      rotate_left
      · intro w; go_simp; try with_reducible rfl
      simp only [Act.put, rgA, rgB, rgC, rgD, rgE, rgF]
      refine wpAnyT_pure (i := 4) (v := ?_) rfl (by kernel_rfl) (by kernel_rfl) (by kernel_rfl) (fun _ _ _ h => h) (by rfl) ?_ ?_
      rotate_left
      · intro w; go_simp; try with_reducible rfl
      simp only [Act.put, rgA, rgB, rgC, rgD, rgE, rgF]
      refine wpAnyT_pure (i := 5) (v := ?_) rfl (by kernel_rfl) (by kernel_rfl) (by kernel_rfl) (fun _ _ _ h => h) (by rfl) ?_ ?_
      rotate_left
      · intro w; go_simp; try with_reducible rfl
      simp only [Act.put, rgA, rgB, rgC, rgD, rgE, rgF]
      refine wpAnyT_pure (i := 6) (v := ?_) rfl (by kernel_rfl) (by kernel_rfl) (by kernel_rfl) (fun _ _ _ h => h) (by rfl) ?_ ?_
      rotate_left
      · intro w; go_simp; try with_reducible rfl
      simp only [Act.put, rgA, rgB, rgC, rgD, rgE, rgF]
      refine wpAnyT_pure (i := 7) (v := ?_) rfl (by kernel_rfl) (by kernel_rfl) (by kernel_rfl) (fun _ _ _ h => h) (by rfl) ?_ ?_
      rotate_left
      · intro w; go_simp; try with_reducible rfl
      simp only [Act.put, rgA, rgB, rgC, rgD, rgE, rgF]
      refine wpAnyT_pure (i := 9) (v := ?_) rfl (by kernel_rfl) (by kernel_rfl) (by kernel_rfl) (fun _ _ _ h => h) (by rfl) ?_ ?_
      rotate_left
      · intro w; go_simp; try with_reducible rfl
      simp only [Act.put, rgA, rgB, rgC, rgD, rgE, rgF]
      refine wpAnyT_pure (i := 10) (v := ?_) rfl (by kernel_rfl) (by kernel_rfl) (by kernel_rfl) (fun _ _ _ h => h) (by rfl) ?_ ?_
      rotate_left
      · intro w; go_simp; try with_reducible rfl
      simp only [Act.put, rgA, rgB, rgC, rgD, rgE, rgF]
      refine wpAnyT_pure (i := 11) (v := ?_) rfl (by kernel_rfl) (by kernel_rfl) (by kernel_rfl) (fun _ _ _ h => h) (by rfl) ?_ ?_
      rotate_left
      · intro w; go_simp; try with_reducible rfl
      simp only [Act.put, rgA, rgB, rgC, rgD, rgE, rgF]
      refine wpAnyT_loadW (i := 8) (v := ?_) rfl (by kernel_rfl) (by kernel_rfl) (by kernel_rfl) (by kernel_rfl) (by kernel_rfl) (fun _ _ _ h => h) (Or.inl ⟨by rfl, ?_⟩) hSss7 ?_
      rotate_left
      · intro w hSw; obtain ⟨e0, e1, e2, e3, e4, e5, -⟩ := hSw; go_simp; try with_reducible rfl
      simp only [Act.put, rgA, rgB, rgC, rgD, rgE, rgF]
      refine wpAnyT_loadW (i := 12) (v := ?_) rfl (by kernel_rfl) (by kernel_rfl) (by kernel_rfl) (by kernel_rfl) (by kernel_rfl) (fun _ _ _ h => h) (Or.inl ⟨by rfl, ?_⟩) hSss7 ?_
      rotate_left
      · intro w hSw; obtain ⟨e0, e1, e2, e3, e4, e5, -⟩ := hSw; go_simp; try with_reducible rfl
      simp only [Act.put, rgA, rgB, rgC, rgD, rgE, rgF]
      refine wpAnyT_one (i := 13) (by kernel_rfl) rfl (by rfl) ?_
      refine wp_enter (f := 44) (args := #[.pointer (some ⟨p, 0, none⟩), .agg #[.string x1, .int .i64 x2, .int .i64 x3], .agg #[.string y1, .int .i64 y2, .int .i64 y3]]) (by go_simp) (HCALL.out s7 (Gr.of_below (hB_0_s7.trans ((hB_s7_s7).mono (hB_0_s7).size)))) ?_
      rintro e w108 ⟨rfl, hX⟩
      have hB_s7_w108 := below_step hB_s7_s7 hX
      have hB_w108_w108 := Below.refl w108.heap.size w108
      have hSsw108 := Cells.below hB_s7_w108 hSss7
      clear hX
      refine ⟨_, rfl, fun _ _ => hSsw108, ?_⟩
      try simp only [Act.put, rgA, rgB, rgC, rgD, rgE, rgF]
      refine wpAnyT_pure (i := 14) (v := (.bool eb)) rfl (by kernel_rfl) (by kernel_rfl) (by kernel_rfl) (fun _ _ _ h => h) (by rfl) ?_ ?_
      · intro w; have hq := HCC.out; clear HCC; go_simp <;> exact hq
      simp only [Act.put, rgA, rgB, rgC, rgD, rgE, rgF]
      refine wpAnyT_pure (i := 15) (v := ?_) rfl (by kernel_rfl) (by kernel_rfl) (by kernel_rfl) (fun _ _ _ h => h) (by rfl) ?_ ?_
      rotate_left
      · intro w; go_simp; try with_reducible rfl
      simp only [Act.put, rgA, rgB, rgC, rgD, rgE, rgF]
      refine wpAnyT_pure (i := 16) (v := ?_) rfl (by kernel_rfl) (by kernel_rfl) (by kernel_rfl) (fun _ _ _ h => h) (by rfl) ?_ ?_
      rotate_left
      · intro w; go_simp; try with_reducible rfl
      simp only [Act.put, rgA, rgB, rgC, rgD, rgE, rgF]
      refine wpAnyT_done (by kernel_rfl) ?_ _
      have hbP : Below wr.heap.size wr w108 := hB_0_s7.trans ((hB_s7_w108).mono (hB_0_s7).size)
      have HRK := Lib.hid (HKA.out.below hbP)
      have HRG := Lib.hid (HGA.out.step hbP)
      clear hbP
      go_wp2_with fail
      go_meet
      case rel => exact ⟨by rw [HTB.out, HEB.out, decide_eq_true hle]; rfl, HRK.out, HRG.out⟩
    · have hleI : ¬ (qU : Int) ≤ (qD : Int) := by omega
      have hC0 : Cells [] wr := trivial
      refine wp_region_T (Cells []) (fun _ => false) (by kernel_rfl) ?_
      have hSss9 := Cells.drew hC0
      have hB_0_s9 : Below wr.heap.size wr wr.drew := below_drew _
      generalize wr.drew = s9 at hSss9 hB_0_s9 ⊢
      have hB_s9_s9 := Below.refl s9.heap.size s9
      refine wpAnyT_pure (i := 0) (v := ?_) rfl (by kernel_rfl) (by kernel_rfl) (by kernel_rfl) (fun _ _ _ h => h) (by rfl) ?_ ?_
      rotate_left
      · intro w; go_simp; try with_reducible rfl
      simp only [Act.put, rgA, rgB, rgC, rgD, rgE, rgF]
      refine wpAnyT_pure (i := 1) (v := ?_) rfl (by kernel_rfl) (by kernel_rfl) (by kernel_rfl) (fun _ _ _ h => h) (by rfl) ?_ ?_
      rotate_left
      · intro w; go_simp; try with_reducible rfl
      simp only [Act.put, rgA, rgB, rgC, rgD, rgE, rgF]
      refine wpAnyT_pure (i := 2) (v := ?_) rfl (by kernel_rfl) (by kernel_rfl) (by kernel_rfl) (fun _ _ _ h => h) (by rfl) ?_ ?_
      rotate_left
      · intro w; go_simp; try with_reducible rfl
      simp only [Act.put, rgA, rgB, rgC, rgD, rgE, rgF]
      refine wpAnyT_pure (i := 3) (v := ?_) rfl (by kernel_rfl) (by kernel_rfl) (by kernel_rfl) (fun _ _ _ h => h) (by rfl) ?_ ?_
      rotate_left
      · intro w; go_simp; try with_reducible rfl
      simp only [Act.put, rgA, rgB, rgC, rgD, rgE, rgF]
      refine wpAnyT_skip (i := 4) rfl (by kernel_rfl) (by kernel_rfl) (by kernel_rfl) (fun _ _ _ h => h) (by rfl) ?_
      simp only [Act.put, rgA, rgB, rgC, rgD, rgE, rgF]
      refine wpAnyT_skip (i := 5) rfl (by kernel_rfl) (by kernel_rfl) (by kernel_rfl) (fun _ _ _ h => h) (by rfl) ?_
      simp only [Act.put, rgA, rgB, rgC, rgD, rgE, rgF]
      refine wpAnyT_skip (i := 6) rfl (by kernel_rfl) (by kernel_rfl) (by kernel_rfl) (fun _ _ _ h => h) (by rfl) ?_
      simp only [Act.put, rgA, rgB, rgC, rgD, rgE, rgF]
      refine wpAnyT_skip (i := 7) rfl (by kernel_rfl) (by kernel_rfl) (by kernel_rfl) (fun _ _ _ h => h) (by rfl) ?_
      simp only [Act.put, rgA, rgB, rgC, rgD, rgE, rgF]
      refine wpAnyT_skip (i := 8) rfl (by kernel_rfl) (by kernel_rfl) (by kernel_rfl) (fun _ _ _ h => h) (by rfl) ?_
      simp only [Act.put, rgA, rgB, rgC, rgD, rgE, rgF]
      refine wpAnyT_skip (i := 9) rfl (by kernel_rfl) (by kernel_rfl) (by kernel_rfl) (fun _ _ _ h => h) (by rfl) ?_
      simp only [Act.put, rgA, rgB, rgC, rgD, rgE, rgF]
      refine wpAnyT_skip (i := 10) rfl (by kernel_rfl) (by kernel_rfl) (by kernel_rfl) (fun _ _ _ h => h) (by rfl) ?_
      simp only [Act.put, rgA, rgB, rgC, rgD, rgE, rgF]
      refine wpAnyT_skip (i := 11) rfl (by kernel_rfl) (by kernel_rfl) (by kernel_rfl) (fun _ _ _ h => h) (by rfl) ?_
      simp only [Act.put, rgA, rgB, rgC, rgD, rgE, rgF]
      refine wpAnyT_skip (i := 12) rfl (by kernel_rfl) (by kernel_rfl) (by kernel_rfl) (fun _ _ _ h => h) (by rfl) ?_
      simp only [Act.put, rgA, rgB, rgC, rgD, rgE, rgF]
      refine wpAnyT_skip (i := 13) rfl (by kernel_rfl) (by kernel_rfl) (by kernel_rfl) (fun _ _ _ h => h) (by rfl) ?_
      simp only [Act.put, rgA, rgB, rgC, rgD, rgE, rgF]
      refine wpAnyT_skip (i := 14) rfl (by kernel_rfl) (by kernel_rfl) (by kernel_rfl) (fun _ _ _ h => h) (by rfl) ?_
      simp only [Act.put, rgA, rgB, rgC, rgD, rgE, rgF]
      refine wpAnyT_skip (i := 15) rfl (by kernel_rfl) (by kernel_rfl) (by kernel_rfl) (fun _ _ _ h => h) (by rfl) ?_
      simp only [Act.put, rgA, rgB, rgC, rgD, rgE, rgF]
      refine wpAnyT_pure (i := 16) (v := ?_) rfl (by kernel_rfl) (by kernel_rfl) (by kernel_rfl) (fun _ _ _ h => h) (by rfl) ?_ ?_
      rotate_left
      · intro w; go_simp; try with_reducible rfl
      simp only [Act.put, rgA, rgB, rgC, rgD, rgE, rgF]
      refine wpAnyT_done (by kernel_rfl) ?_ _
      have hbP : Below wr.heap.size wr s9 := hB_0_s9.trans ((hB_s9_s9).mono (hB_0_s9).size)
      have HRK := Lib.hid (HKA.out.below hbP)
      have HRG := Lib.hid (HGA.out.step hbP)
      clear hbP
      go_wp2_with fail
      go_meet
      case rel => exact ⟨by rw [HTB.out, decide_eq_false hle]; rfl, HRK.out, HRG.out⟩
  obtain ⟨rfl, hkx, hgx⟩ := hcut
  have HKD := Lib.hid hkx
  have HGD := Lib.hid hgx
  clear hkx hgx
  rcases Bool.eq_false_or_eq_true tb with ht | ht
  · subst ht
    have hand := HTB.out
    obtain ⟨h1, h2⟩ := Bool.and_eq_true_iff.1 hand.symm
    have h1' := of_decide_eq_true h1
    have HNX := Lib.hid ((down_go (fun x => !ltK ts x d1[a]!) d1 qU qD h1' (by omega) h2).symm.trans HSC.out)
    clear hand h1 h2
    go_wp2_with fail
    go_roundw
    case rel => exact ⟨qD - 1, by go_num, by omega, by omega, HNX.out, HKD.out, HGD.out⟩
    case measure => simp [intOf]; try omega
  subst ht
  have HXD := Lib.hid (show ¬ qU ≤ qD ∨ (!ltK ts d1[qD]! d1[a]!) = false from (Bool.and_eq_false_iff.1 HTB.out.symm).imp of_decide_eq_false id)
  have HUD := Lib.hid (show Sort.scanDown (fun x => !ltK ts x d1[a]!) d1 qU j1 = qD from HSC.out.symm.trans (down_end (fun x => !ltK ts x d1[a]!) d1 qU qD HXD.out))
  clear HSC HKA HGA HTB
  by_cases hlt : qD < qU
  · have hltI : (qD : Int) < (qU : Int) := by omega
    have HPY := Lib.hid (part_yes (ltK ts) d d1 a b pv qU qD HD1.out (by rw [← HJ1.out, ← HI1.out]; exact HUU.out) (by rw [← HJ1.out]; exact HUD.out) hlt)
    have hqDI : (qD : Int) < (n : Int) := by omega
    go_wp2_with fail
    obtain ⟨m0, m1, m2⟩ := HKD.out.cell qD (by rw [HSZ1.out]; omega)
    obtain ⟨p0, p1, p2⟩ := HKD.out.cell a (by rw [HSZ1.out]; omega)
    have HSW := Lib.hid (show Sort.swp d1 qD a = (d1.setIfInBounds qD d1[a]!).setIfInBounds a d1[qD]! from rfl)
    have HSZN := Lib.hid (show (Sort.swp d1 qD a).size = n from by rw [swp_size]; exact HSZ1.out)
    generalize d1[qD]! = x at m0 m1 m2 HSW
    generalize d1[a]! = y at p0 p1 p2 HSW
    obtain ⟨x1, x2, x3⟩ := x
    obtain ⟨y1, y2, y3⟩ := y
    simp only at m0 m1 m2 p0 p1 p2
    have hC0 : Cells [(⟨g, qD * 3, none⟩, .string x1), (⟨g, qD * 3 + 1, none⟩, .int .i64 x2), (⟨g, qD * 3 + 2, none⟩, .int .i64 x3), (⟨g, a * 3, none⟩, .string y1), (⟨g, a * 3 + 1, none⟩, .int .i64 y2), (⟨g, a * 3 + 2, none⟩, .int .i64 y3)] wc := ⟨m0, m1, m2, p0, p1, p2, trivial⟩
    clear m0 m1 m2 p0 p1 p2
    refine wp_region_T (Cells [(⟨g, qD * 3, none⟩, .string x1), (⟨g, qD * 3 + 1, none⟩, .int .i64 x2), (⟨g, qD * 3 + 2, none⟩, .int .i64 x3), (⟨g, a * 3, none⟩, .string y1), (⟨g, a * 3 + 1, none⟩, .int .i64 y2), (⟨g, a * 3 + 2, none⟩, .int .i64 y3)]) (fun i => i == 13 || i == 15) (by kernel_rfl) ?_
    have hSss10 := Cells.drew hC0
    have hB_0_s10 : Below wc.heap.size wc wc.drew := below_drew _
    generalize wc.drew = s10 at hSss10 hB_0_s10 ⊢
    have hB_s10_s10 := Below.refl s10.heap.size s10
    refine wpAnyT_pure (i := 0) (v := ?_) rfl (by kernel_rfl) (by kernel_rfl) (by kernel_rfl) (fun _ _ _ h => h) (by rfl) ?_ ?_
    rotate_left
    · intro w; go_simp; try with_reducible rfl
    simp only [Act.put, rgA, rgB, rgC, rgD, rgE, rgF]
    refine wpAnyT_pure (i := 1) (v := ?_) rfl (by kernel_rfl) (by kernel_rfl) (by kernel_rfl) (fun _ _ _ h => h) (by rfl) ?_ ?_
    rotate_left
    · intro w; go_simp; try with_reducible rfl
    simp only [Act.put, rgA, rgB, rgC, rgD, rgE, rgF]
    refine wpAnyT_pure (i := 2) (v := ?_) rfl (by kernel_rfl) (by kernel_rfl) (by kernel_rfl) (fun _ _ _ h => h) (by rfl) ?_ ?_
    rotate_left
    · intro w; go_simp; try with_reducible rfl
    simp only [Act.put, rgA, rgB, rgC, rgD, rgE, rgF]
    refine wpAnyT_pure (i := 3) (v := ?_) rfl (by kernel_rfl) (by kernel_rfl) (by kernel_rfl) (fun _ _ _ h => h) (by rfl) ?_ ?_
    rotate_left
    · intro w; go_simp; try with_reducible rfl
    simp only [Act.put, rgA, rgB, rgC, rgD, rgE, rgF]
    refine wpAnyT_pure (i := 4) (v := ?_) rfl (by kernel_rfl) (by kernel_rfl) (by kernel_rfl) (fun _ _ _ h => h) (by rfl) ?_ ?_
    rotate_left
    · intro w; go_simp; try with_reducible rfl
    simp only [Act.put, rgA, rgB, rgC, rgD, rgE, rgF]
    refine wpAnyT_pure (i := 5) (v := ?_) rfl (by kernel_rfl) (by kernel_rfl) (by kernel_rfl) (fun _ _ _ h => h) (by rfl) ?_ ?_
    rotate_left
    · intro w; go_simp; try with_reducible rfl
    simp only [Act.put, rgA, rgB, rgC, rgD, rgE, rgF]
    refine wpAnyT_pure (i := 6) (v := ?_) rfl (by kernel_rfl) (by kernel_rfl) (by kernel_rfl) (fun _ _ _ h => h) (by rfl) ?_ ?_
    rotate_left
    · intro w; go_simp; try with_reducible rfl
    simp only [Act.put, rgA, rgB, rgC, rgD, rgE, rgF]
    refine wpAnyT_pure (i := 8) (v := ?_) rfl (by kernel_rfl) (by kernel_rfl) (by kernel_rfl) (fun _ _ _ h => h) (by rfl) ?_ ?_
    rotate_left
    · intro w; go_simp; try with_reducible rfl
    simp only [Act.put, rgA, rgB, rgC, rgD, rgE, rgF]
    refine wpAnyT_pure (i := 9) (v := ?_) rfl (by kernel_rfl) (by kernel_rfl) (by kernel_rfl) (fun _ _ _ h => h) (by rfl) ?_ ?_
    rotate_left
    · intro w; go_simp; try with_reducible rfl
    simp only [Act.put, rgA, rgB, rgC, rgD, rgE, rgF]
    refine wpAnyT_pure (i := 10) (v := ?_) rfl (by kernel_rfl) (by kernel_rfl) (by kernel_rfl) (fun _ _ _ h => h) (by rfl) ?_ ?_
    rotate_left
    · intro w; go_simp; try with_reducible rfl
    simp only [Act.put, rgA, rgB, rgC, rgD, rgE, rgF]
    refine wpAnyT_loadW (i := 7) (v := ?_) rfl (by kernel_rfl) (by kernel_rfl) (by kernel_rfl) (by kernel_rfl) (by kernel_rfl) (fun _ _ _ h => h) (Or.inl ⟨by rfl, ?_⟩) hSss10 ?_
    rotate_left
    · intro w hSw; obtain ⟨e0, e1, e2, e3, e4, e5, -⟩ := hSw; go_simp; try with_reducible rfl
    simp only [Act.put, rgA, rgB, rgC, rgD, rgE, rgF]
    refine wpAnyT_loadW (i := 11) (v := ?_) rfl (by kernel_rfl) (by kernel_rfl) (by kernel_rfl) (by kernel_rfl) (by kernel_rfl) (fun _ _ _ h => h) (Or.inl ⟨by rfl, ?_⟩) hSss10 ?_
    rotate_left
    · intro w hSw; obtain ⟨e0, e1, e2, e3, e4, e5, -⟩ := hSw; go_simp; try with_reducible rfl
    simp only [Act.put, rgA, rgB, rgC, rgD, rgE, rgF]
    refine wpAnyT_pure (i := 12) (v := ?_) rfl (by kernel_rfl) (by kernel_rfl) (by kernel_rfl) (fun _ _ _ h => h) (by rfl) ?_ ?_
    rotate_left
    · intro w; go_simp; try with_reducible rfl
    simp only [Act.put, rgA, rgB, rgC, rgD, rgE, rgF]
    refine wpAnyT_one (i := 13) (by kernel_rfl) rfl (by rfl) ?_
    have hbS : Below wc.heap.size wc s10 := hB_0_s10.trans ((hB_s10_s10).mono (hB_0_s10).size)
    obtain ⟨hsA, hnA⟩ := (HKD.out.below hbS).set Tryz.prog qD (by rw [HSZ1.out]; omega) ⟨y1, y2, y3⟩
    have hgA := (HGD.out.step hbS).trans (gr_setCells g (kvs ⟨y1, y2, y3⟩) (qD * 3) s10) (fun _ h => .inl h)
    refine wp_storeK (w' := (s10).setCells g (qD * 3) (kvs ⟨y1, y2, y3⟩)) 48 (.tmp 84) (.tmp 79) rfl ⟨g, qD * 3, none⟩ (.agg #[.string y1, .int .i64 y2, .int .i64 y3]) (by kernel_rfl) (by kernel_rfl) (sizeK _) hsA ?_
    generalize (s10).setCells g (qD * 3) (kvs ⟨y1, y2, y3⟩) = w111 at hnA hgA ⊢
    clear hsA
    refine ⟨fun h => absurd h (by decide), ?_⟩
    try simp only [Act.put, rgA, rgB, rgC, rgD, rgE, rgF]
    refine wpAnyT_pure (i := 14) (v := ?_) rfl (by kernel_rfl) (by kernel_rfl) (by kernel_rfl) (fun _ _ _ h => h) (by rfl) ?_ ?_
    rotate_left
    · intro w; go_simp; try with_reducible rfl
    simp only [Act.put, rgA, rgB, rgC, rgD, rgE, rgF]
    refine wpAnyT_one (i := 15) (by kernel_rfl) rfl (by rfl) ?_
    obtain ⟨hsB, hnB⟩ := hnA.set Tryz.prog a (by rw [Array.size_setIfInBounds, HSZ1.out]; omega) ⟨x1, x2, x3⟩
    have hgB := hgA.trans (gr_setCells g (kvs ⟨x1, x2, x3⟩) (a * 3) w111) (fun _ h => .inl h)
    refine wp_storeK (w' := (w111).setCells g (a * 3) (kvs ⟨x1, x2, x3⟩)) 48 (.tmp 85) (.tmp 83) rfl ⟨g, a * 3, none⟩ (.agg #[.string x1, .int .i64 x2, .int .i64 x3]) (by kernel_rfl) (by kernel_rfl) (sizeK _) hsB ?_
    generalize (w111).setCells g (a * 3) (kvs ⟨x1, x2, x3⟩) = w112 at hnB hgB ⊢
    clear hsB hnA hgA
    refine ⟨fun h => absurd h (by decide), ?_⟩
    try simp only [Act.put, rgA, rgB, rgC, rgD, rgE, rgF]
    refine wpAnyT_done (by kernel_rfl) ?_ _
    obtain ⟨w9, rfl⟩ : ∃ x, x = w112 := ⟨_, rfl⟩
    rw [← HSW.out] at hnB
    have HKF := Lib.hid hnB
    have HGF := Lib.hid hgB
    clear hnB hgB HSW HSZN hC0
    go_wp2_with fail
    refine bodyPost_ret (results_tmp2 (t := 10) (u := 11) (by kernel_rfl) _ _ _) rfl ?_
    rw [← HR.out, HPY.out]
    exact ⟨rfl, HKF.out, HGF.out⟩
  have hltI : ¬ (qD : Int) < (qU : Int) := by omega
  have HPN := Lib.hid (part_no (ltK ts) d d1 a b pv qU qD HD1.out (by rw [← HJ1.out, ← HI1.out]; exact HUU.out) (by rw [← HJ1.out]; exact HUD.out) hlt)
  have hne : qU ≠ qD := by
    intro e
    rcases HXU.out with h | h
    · omega
    rcases HXD.out with h' | h'
    · omega
    rw [← e] at h'
    simp only [h] at h'
    exact absurd h' (by decide)
  have hqDI : (qD : Int) < (n : Int) := by omega
  have hqUI : (qU : Int) < (n : Int) := by omega
  go_wp2_with fail
  obtain ⟨m0, m1, m2⟩ := HKD.out.cell qU (by rw [HSZ1.out]; omega)
  obtain ⟨p0, p1, p2⟩ := HKD.out.cell qD (by rw [HSZ1.out]; omega)
  have HSW := Lib.hid (show Sort.swp d1 qU qD = (d1.setIfInBounds qU d1[qD]!).setIfInBounds qD d1[qU]! from rfl)
  have HSZN := Lib.hid (show (Sort.swp d1 qU qD).size = n from by rw [swp_size]; exact HSZ1.out)
  generalize d1[qU]! = x at m0 m1 m2 HSW
  generalize d1[qD]! = y at p0 p1 p2 HSW
  obtain ⟨x1, x2, x3⟩ := x
  obtain ⟨y1, y2, y3⟩ := y
  simp only at m0 m1 m2 p0 p1 p2
  have hC0 : Cells [(⟨g, qU * 3, none⟩, .string x1), (⟨g, qU * 3 + 1, none⟩, .int .i64 x2), (⟨g, qU * 3 + 2, none⟩, .int .i64 x3), (⟨g, qD * 3, none⟩, .string y1), (⟨g, qD * 3 + 1, none⟩, .int .i64 y2), (⟨g, qD * 3 + 2, none⟩, .int .i64 y3)] wc := ⟨m0, m1, m2, p0, p1, p2, trivial⟩
  clear m0 m1 m2 p0 p1 p2
  refine wp_region_T (Cells [(⟨g, qU * 3, none⟩, .string x1), (⟨g, qU * 3 + 1, none⟩, .int .i64 x2), (⟨g, qU * 3 + 2, none⟩, .int .i64 x3), (⟨g, qD * 3, none⟩, .string y1), (⟨g, qD * 3 + 1, none⟩, .int .i64 y2), (⟨g, qD * 3 + 2, none⟩, .int .i64 y3)]) (fun i => i == 13 || i == 15) (by kernel_rfl) ?_
  have hSss13 := Cells.drew hC0
  have hB_0_s13 : Below wc.heap.size wc wc.drew := below_drew _
  generalize wc.drew = s13 at hSss13 hB_0_s13 ⊢
  have hB_s13_s13 := Below.refl s13.heap.size s13
  refine wpAnyT_pure (i := 0) (v := ?_) rfl (by kernel_rfl) (by kernel_rfl) (by kernel_rfl) (fun _ _ _ h => h) (by rfl) ?_ ?_
  rotate_left
  · intro w; go_simp; try with_reducible rfl
  simp only [Act.put, rgA, rgB, rgC, rgD, rgE, rgF]
  refine wpAnyT_pure (i := 1) (v := ?_) rfl (by kernel_rfl) (by kernel_rfl) (by kernel_rfl) (fun _ _ _ h => h) (by rfl) ?_ ?_
  rotate_left
  · intro w; go_simp; try with_reducible rfl
  simp only [Act.put, rgA, rgB, rgC, rgD, rgE, rgF]
  refine wpAnyT_pure (i := 2) (v := ?_) rfl (by kernel_rfl) (by kernel_rfl) (by kernel_rfl) (fun _ _ _ h => h) (by rfl) ?_ ?_
  rotate_left
  · intro w; go_simp; try with_reducible rfl
  simp only [Act.put, rgA, rgB, rgC, rgD, rgE, rgF]
  refine wpAnyT_pure (i := 3) (v := ?_) rfl (by kernel_rfl) (by kernel_rfl) (by kernel_rfl) (fun _ _ _ h => h) (by rfl) ?_ ?_
  rotate_left
  · intro w; go_simp; try with_reducible rfl
  simp only [Act.put, rgA, rgB, rgC, rgD, rgE, rgF]
  refine wpAnyT_pure (i := 4) (v := ?_) rfl (by kernel_rfl) (by kernel_rfl) (by kernel_rfl) (fun _ _ _ h => h) (by rfl) ?_ ?_
  rotate_left
  · intro w; go_simp; try with_reducible rfl
  simp only [Act.put, rgA, rgB, rgC, rgD, rgE, rgF]
  refine wpAnyT_pure (i := 5) (v := ?_) rfl (by kernel_rfl) (by kernel_rfl) (by kernel_rfl) (fun _ _ _ h => h) (by rfl) ?_ ?_
  rotate_left
  · intro w; go_simp; try with_reducible rfl
  simp only [Act.put, rgA, rgB, rgC, rgD, rgE, rgF]
  refine wpAnyT_pure (i := 6) (v := ?_) rfl (by kernel_rfl) (by kernel_rfl) (by kernel_rfl) (fun _ _ _ h => h) (by rfl) ?_ ?_
  rotate_left
  · intro w; go_simp; try with_reducible rfl
  simp only [Act.put, rgA, rgB, rgC, rgD, rgE, rgF]
  refine wpAnyT_pure (i := 8) (v := ?_) rfl (by kernel_rfl) (by kernel_rfl) (by kernel_rfl) (fun _ _ _ h => h) (by rfl) ?_ ?_
  rotate_left
  · intro w; go_simp; try with_reducible rfl
  simp only [Act.put, rgA, rgB, rgC, rgD, rgE, rgF]
  refine wpAnyT_pure (i := 9) (v := ?_) rfl (by kernel_rfl) (by kernel_rfl) (by kernel_rfl) (fun _ _ _ h => h) (by rfl) ?_ ?_
  rotate_left
  · intro w; go_simp; try with_reducible rfl
  simp only [Act.put, rgA, rgB, rgC, rgD, rgE, rgF]
  refine wpAnyT_pure (i := 10) (v := ?_) rfl (by kernel_rfl) (by kernel_rfl) (by kernel_rfl) (fun _ _ _ h => h) (by rfl) ?_ ?_
  rotate_left
  · intro w; go_simp; try with_reducible rfl
  simp only [Act.put, rgA, rgB, rgC, rgD, rgE, rgF]
  refine wpAnyT_loadW (i := 7) (v := ?_) rfl (by kernel_rfl) (by kernel_rfl) (by kernel_rfl) (by kernel_rfl) (by kernel_rfl) (fun _ _ _ h => h) (Or.inl ⟨by rfl, ?_⟩) hSss13 ?_
  rotate_left
  · intro w hSw; obtain ⟨e0, e1, e2, e3, e4, e5, -⟩ := hSw; go_simp; try with_reducible rfl
  simp only [Act.put, rgA, rgB, rgC, rgD, rgE, rgF]
  refine wpAnyT_loadW (i := 11) (v := ?_) rfl (by kernel_rfl) (by kernel_rfl) (by kernel_rfl) (by kernel_rfl) (by kernel_rfl) (fun _ _ _ h => h) (Or.inl ⟨by rfl, ?_⟩) hSss13 ?_
  rotate_left
  · intro w hSw; obtain ⟨e0, e1, e2, e3, e4, e5, -⟩ := hSw; go_simp; try with_reducible rfl
  simp only [Act.put, rgA, rgB, rgC, rgD, rgE, rgF]
  refine wpAnyT_pure (i := 12) (v := ?_) rfl (by kernel_rfl) (by kernel_rfl) (by kernel_rfl) (fun _ _ _ h => h) (by rfl) ?_ ?_
  rotate_left
  · intro w; go_simp; try with_reducible rfl
  simp only [Act.put, rgA, rgB, rgC, rgD, rgE, rgF]
  refine wpAnyT_one (i := 13) (by kernel_rfl) rfl (by rfl) ?_
  have hbS : Below wc.heap.size wc s13 := hB_0_s13.trans ((hB_s13_s13).mono (hB_0_s13).size)
  obtain ⟨hsA, hnA⟩ := (HKD.out.below hbS).set Tryz.prog qU (by rw [HSZ1.out]; omega) ⟨y1, y2, y3⟩
  have hgA := (HGD.out.step hbS).trans (gr_setCells g (kvs ⟨y1, y2, y3⟩) (qU * 3) s13) (fun _ h => .inl h)
  refine wp_storeK (w' := (s13).setCells g (qU * 3) (kvs ⟨y1, y2, y3⟩)) 48 (.tmp 99) (.tmp 94) rfl ⟨g, qU * 3, none⟩ (.agg #[.string y1, .int .i64 y2, .int .i64 y3]) (by kernel_rfl) (by kernel_rfl) (sizeK _) hsA ?_
  generalize (s13).setCells g (qU * 3) (kvs ⟨y1, y2, y3⟩) = w114 at hnA hgA ⊢
  clear hsA
  refine ⟨fun h => absurd h (by decide), ?_⟩
  try simp only [Act.put, rgA, rgB, rgC, rgD, rgE, rgF]
  refine wpAnyT_pure (i := 14) (v := ?_) rfl (by kernel_rfl) (by kernel_rfl) (by kernel_rfl) (fun _ _ _ h => h) (by rfl) ?_ ?_
  rotate_left
  · intro w; go_simp; try with_reducible rfl
  simp only [Act.put, rgA, rgB, rgC, rgD, rgE, rgF]
  refine wpAnyT_one (i := 15) (by kernel_rfl) rfl (by rfl) ?_
  obtain ⟨hsB, hnB⟩ := hnA.set Tryz.prog qD (by rw [Array.size_setIfInBounds, HSZ1.out]; omega) ⟨x1, x2, x3⟩
  have hgB := hgA.trans (gr_setCells g (kvs ⟨x1, x2, x3⟩) (qD * 3) w114) (fun _ h => .inl h)
  refine wp_storeK (w' := (w114).setCells g (qD * 3) (kvs ⟨x1, x2, x3⟩)) 48 (.tmp 100) (.tmp 98) rfl ⟨g, qD * 3, none⟩ (.agg #[.string x1, .int .i64 x2, .int .i64 x3]) (by kernel_rfl) (by kernel_rfl) (sizeK _) hsB ?_
  generalize (w114).setCells g (qD * 3) (kvs ⟨x1, x2, x3⟩) = w115 at hnB hgB ⊢
  clear hsB hnA hgA
  refine ⟨fun h => absurd h (by decide), ?_⟩
  try simp only [Act.put, rgA, rgB, rgC, rgD, rgE, rgF]
  refine wpAnyT_done (by kernel_rfl) ?_ _
  obtain ⟨w3, rfl⟩ : ∃ x, x = w115 := ⟨_, rfl⟩
  rw [← HSW.out] at hnB
  have HSZ3 := HSZN
  obtain ⟨d3, hd3⟩ : ∃ q, q = Sort.swp d1 qU qD := ⟨_, rfl⟩
  rw [← hd3] at hnB HSZ3 HPN
  have HK3 := Lib.hid hnB
  have HG3 := Lib.hid hgB
  clear hnB hgB HSW HSZN hd3 hC0 HKD HGD HKU HGU HK1 HG1
  obtain ⟨i3, hi3⟩ : ∃ q, q = qU + 1 := ⟨_, rfl⟩
  obtain ⟨j3, hj3⟩ : ∃ q, q = qD - 1 := ⟨_, rfl⟩
  rw [← hi3, ← hj3] at HPN
  have ei3 : ((qU : Int) + 1) = (i3 : Int) := by omega
  have ej3 : ((qD : Int) - 1) = (j3 : Int) := by omega
  have hi3a : a < i3 := by omega
  have hi3j : i3 ≤ j3 + 1 := by omega
  have hj3b : j3 < b := by omega
  clear hi3 hj3
  go_wp2_with fail
  go_loopw [12, 13] (fun iv jv wr => ∃ (i2 j2 : Nat) (dk : Array Ky), iv = .int .i64 (i2 : Nat) ∧ jv = .int .i64 (j2 : Nat) ∧ a < i2 ∧ i2 ≤ j2 + 1 ∧ j2 < b ∧ dk.size = n ∧ Sort.partLoop (ltK ts) a i2 j2 dk = Sort.partLoop (ltK ts) a i3 j3 d3 ∧ KA wr g dk ∧ Gr (fun x => x = g) w wr) (fun iv jv _ => (intOf jv).toNat + 2 - (intOf iv).toNat)
  case atStart => exact ⟨i3, j3, d3, rfl, rfl, hi3a, hi3j, hj3b, HSZ3.out, rfl, HK3.out, HG3.out⟩
  obtain ⟨i2, j2, dk, rfl, rfl, hi2a, hi2j, hj2b, hdk, hpl, hka2, hga2⟩ := hrel
  have HSZ2 := Lib.hid hdk
  have HPL := Lib.hid hpl
  have HK2 := Lib.hid hka2
  have HG2 := Lib.hid hga2
  clear hdk hpl hka2 hga2
  go_wp2_with fail
  -- 1 slot, 2 region, 3 test slot, 4 start, 5 j, 6 dk, 7 suffix, 8 HK, 9 HG, 10 HSZ, 11 skipped ops, 12 function
  go_loopw [12] (fun iv wr => ∃ q : Nat, iv = .int .i64 (q : Nat) ∧ i2 ≤ q ∧ q ≤ j2 + 1 ∧ Sort.scanUp (fun x => ltK ts x dk[a]!) dk j2 q = Sort.scanUp (fun x => ltK ts x dk[a]!) dk j2 i2 ∧ KA wr g dk ∧ Gr (fun x => x = g) w wr) (fun iv _ => j2 + 1 - (intOf iv).toNat)
  case atStart => exact ⟨i2, by go_num, Nat.le_refl _, by omega, rfl, HK2.out, HG2.out⟩
  obtain ⟨qV, rfl, hqiV, hqjV, hsc, hka, hga⟩ := hrel
  have HSC := Lib.hid hsc
  have HKA := Lib.hid hka
  have HGA := Lib.hid hga
  clear hsc hka hga
  go_upto_region 13 with fail
  obtain ⟨tb, htb⟩ : ∃ tb, tb = (decide (qV ≤ j2) && ltK ts dk[qV]! dk[a]!) := ⟨_, rfl⟩
  have HTB := Lib.hid htb
  clear htb
  go_cut [120] (fun sv wx => sv = .bool tb ∧ KA wx g dk ∧ Gr (fun x => x = g) w wx)
  case first =>
    by_cases hle : qV ≤ j2
    · have hleI : (qV : Int) ≤ (j2 : Int) := by omega
      have hq1I : (qV : Int) < (n : Int) := by omega
      obtain ⟨eb, heb⟩ : ∃ vb, ltK ts dk[qV]! dk[a]! = vb := ⟨_, rfl⟩
      obtain ⟨m0, m1, m2⟩ := HKA.out.cell qV (by rw [HSZ2.out]; omega)
      obtain ⟨p0, p1, p2⟩ := HKA.out.cell a (by rw [HSZ2.out]; omega)
      obtain ⟨cc, hcc, hcall⟩ := cmpAt (HS.out.gr HGA.out (fun _ e => .inl (by rw [e]; exact HFG.out))) dk[qV]! dk[a]! eb heb
      have HCC := Lib.hid hcc
      have HEB := Lib.hid heb
      clear hcc heb
      generalize dk[qV]! = x at m0 m1 m2 hcall
      generalize dk[a]! = y at p0 p1 p2 hcall
      obtain ⟨x1, x2, x3⟩ := x
      obtain ⟨y1, y2, y3⟩ := y
      simp only at m0 m1 m2 p0 p1 p2 hcall
      have HCALL := Lib.hid hcall
      have hC0 : Cells [(⟨g, qV * 3, none⟩, .string x1), (⟨g, qV * 3 + 1, none⟩, .int .i64 x2), (⟨g, qV * 3 + 2, none⟩, .int .i64 x3), (⟨g, a * 3, none⟩, .string y1), (⟨g, a * 3 + 1, none⟩, .int .i64 y2), (⟨g, a * 3 + 2, none⟩, .int .i64 y3)] wr := ⟨m0, m1, m2, p0, p1, p2, trivial⟩
      clear m0 m1 m2 p0 p1 p2 hcall
      refine wp_region_T (Cells [(⟨g, qV * 3, none⟩, .string x1), (⟨g, qV * 3 + 1, none⟩, .int .i64 x2), (⟨g, qV * 3 + 2, none⟩, .int .i64 x3), (⟨g, a * 3, none⟩, .string y1), (⟨g, a * 3 + 1, none⟩, .int .i64 y2), (⟨g, a * 3 + 2, none⟩, .int .i64 y3)]) (fun _ => false) (by kernel_rfl) ?_
      have hSss16 := Cells.drew hC0
      have hB_0_s16 : Below wr.heap.size wr wr.drew := below_drew _
      generalize wr.drew = s16 at hSss16 hB_0_s16 ⊢
      have hB_s16_s16 := Below.refl s16.heap.size s16
      refine wpAnyT_pure (i := 0) (v := ?_) rfl (by kernel_rfl) (by kernel_rfl) (by kernel_rfl) (fun _ _ _ h => h) (by rfl) ?_ ?_
      rotate_left
      · intro w; go_simp; try with_reducible rfl
      simp only [Act.put, rgA, rgB, rgC, rgD, rgE, rgF]
      refine wpAnyT_pure (i := 1) (v := ?_) rfl (by kernel_rfl) (by kernel_rfl) (by kernel_rfl) (fun _ _ _ h => h) (by rfl) ?_ ?_
      rotate_left
      · intro w; go_simp; try with_reducible rfl
      simp only [Act.put, rgA, rgB, rgC, rgD, rgE, rgF]
      refine wpAnyT_pure (i := 2) (v := (.bool true)) rfl (by kernel_rfl) (by kernel_rfl) (by kernel_rfl) (fun _ _ _ h => h) (by rfl) ?_ ?_
      · intro w; go_simp <;> omega
      simp only [Act.put, rgA, rgB, rgC, rgD, rgE, rgF]
      refine wpAnyT_pure (i := 3) (v := ?_) rfl (by kernel_rfl) (by kernel_rfl) (by kernel_rfl) (fun _ _ _ h => h) (by rfl) ?_ ?_
      rotate_left
      · intro w; go_simp; try with_reducible rfl
      simp only [Act.put, rgA, rgB, rgC, rgD, rgE, rgF]
      refine wpAnyT_pure (i := 4) (v := ?_) rfl (by kernel_rfl) (by kernel_rfl) (by kernel_rfl) (fun _ _ _ h => h) (by rfl) ?_ ?_
      rotate_left
      · intro w; go_simp; try with_reducible rfl
      simp only [Act.put, rgA, rgB, rgC, rgD, rgE, rgF]
      refine wpAnyT_pure (i := 5) (v := ?_) rfl (by kernel_rfl) (by kernel_rfl) (by kernel_rfl) (fun _ _ _ h => h) (by rfl) ?_ ?_
      rotate_left
      · intro w; go_simp; try with_reducible rfl
      simp only [Act.put, rgA, rgB, rgC, rgD, rgE, rgF]
      refine wpAnyT_pure (i := 6) (v := ?_) rfl (by kernel_rfl) (by kernel_rfl) (by kernel_rfl) (fun _ _ _ h => h) (by rfl) ?_ ?_
      rotate_left
      · intro w; go_simp; try with_reducible rfl
      simp only [Act.put, rgA, rgB, rgC, rgD, rgE, rgF]
      refine wpAnyT_pure (i := 7) (v := ?_) rfl (by kernel_rfl) (by kernel_rfl) (by kernel_rfl) (fun _ _ _ h => h) (by rfl) ?_ ?_
      rotate_left
      · intro w; go_simp; try with_reducible rfl
      simp only [Act.put, rgA, rgB, rgC, rgD, rgE, rgF]
      refine wpAnyT_pure (i := 9) (v := ?_) rfl (by kernel_rfl) (by kernel_rfl) (by kernel_rfl) (fun _ _ _ h => h) (by rfl) ?_ ?_
      rotate_left
      · intro w; go_simp; try with_reducible rfl
      simp only [Act.put, rgA, rgB, rgC, rgD, rgE, rgF]
      refine wpAnyT_pure (i := 10) (v := ?_) rfl (by kernel_rfl) (by kernel_rfl) (by kernel_rfl) (fun _ _ _ h => h) (by rfl) ?_ ?_
      rotate_left
      · intro w; go_simp; try with_reducible rfl
      simp only [Act.put, rgA, rgB, rgC, rgD, rgE, rgF]
      refine wpAnyT_pure (i := 11) (v := ?_) rfl (by kernel_rfl) (by kernel_rfl) (by kernel_rfl) (fun _ _ _ h => h) (by rfl) ?_ ?_
      rotate_left
      · intro w; go_simp; try with_reducible rfl
      simp only [Act.put, rgA, rgB, rgC, rgD, rgE, rgF]
      refine wpAnyT_loadW (i := 8) (v := ?_) rfl (by kernel_rfl) (by kernel_rfl) (by kernel_rfl) (by kernel_rfl) (by kernel_rfl) (fun _ _ _ h => h) (Or.inl ⟨by rfl, ?_⟩) hSss16 ?_
      rotate_left
      · intro w hSw; obtain ⟨e0, e1, e2, e3, e4, e5, -⟩ := hSw; go_simp; try with_reducible rfl
      simp only [Act.put, rgA, rgB, rgC, rgD, rgE, rgF]
      refine wpAnyT_loadW (i := 12) (v := ?_) rfl (by kernel_rfl) (by kernel_rfl) (by kernel_rfl) (by kernel_rfl) (by kernel_rfl) (fun _ _ _ h => h) (Or.inl ⟨by rfl, ?_⟩) hSss16 ?_
      rotate_left
      · intro w hSw; obtain ⟨e0, e1, e2, e3, e4, e5, -⟩ := hSw; go_simp; try with_reducible rfl
      simp only [Act.put, rgA, rgB, rgC, rgD, rgE, rgF]
      refine wpAnyT_one (i := 13) (by kernel_rfl) rfl (by rfl) ?_
      refine wp_enter (f := 44) (args := #[.pointer (some ⟨p, 0, none⟩), .agg #[.string x1, .int .i64 x2, .int .i64 x3], .agg #[.string y1, .int .i64 y2, .int .i64 y3]]) (by go_simp) (HCALL.out s16 (Gr.of_below (hB_0_s16.trans ((hB_s16_s16).mono (hB_0_s16).size)))) ?_
      rintro e w117 ⟨rfl, hX⟩
      have hB_s16_w117 := below_step hB_s16_s16 hX
      have hB_w117_w117 := Below.refl w117.heap.size w117
      have hSsw117 := Cells.below hB_s16_w117 hSss16
      clear hX
      refine ⟨_, rfl, fun _ _ => hSsw117, ?_⟩
      try simp only [Act.put, rgA, rgB, rgC, rgD, rgE, rgF]
      refine wpAnyT_pure (i := 14) (v := (.bool eb)) rfl (by kernel_rfl) (by kernel_rfl) (by kernel_rfl) (fun _ _ _ h => h) (by rfl) ?_ ?_
      · intro w; have hq := HCC.out; clear HCC; go_simp <;> exact hq
      simp only [Act.put, rgA, rgB, rgC, rgD, rgE, rgF]
      refine wpAnyT_pure (i := 15) (v := ?_) rfl (by kernel_rfl) (by kernel_rfl) (by kernel_rfl) (fun _ _ _ h => h) (by rfl) ?_ ?_
      rotate_left
      · intro w; go_simp; try with_reducible rfl
      simp only [Act.put, rgA, rgB, rgC, rgD, rgE, rgF]
      refine wpAnyT_done (by kernel_rfl) ?_ _
      have hbP : Below wr.heap.size wr w117 := hB_0_s16.trans ((hB_s16_w117).mono (hB_0_s16).size)
      have HRK := Lib.hid (HKA.out.below hbP)
      have HRG := Lib.hid (HGA.out.step hbP)
      clear hbP
      go_wp2_with fail
      go_meet
      case rel => exact ⟨by rw [HTB.out, HEB.out, decide_eq_true hle]; rfl, HRK.out, HRG.out⟩
    · have hleI : ¬ (qV : Int) ≤ (j2 : Int) := by omega
      have hC0 : Cells [] wr := trivial
      refine wp_region_T (Cells []) (fun _ => false) (by kernel_rfl) ?_
      have hSss18 := Cells.drew hC0
      have hB_0_s18 : Below wr.heap.size wr wr.drew := below_drew _
      generalize wr.drew = s18 at hSss18 hB_0_s18 ⊢
      have hB_s18_s18 := Below.refl s18.heap.size s18
      refine wpAnyT_pure (i := 0) (v := ?_) rfl (by kernel_rfl) (by kernel_rfl) (by kernel_rfl) (fun _ _ _ h => h) (by rfl) ?_ ?_
      rotate_left
      · intro w; go_simp; try with_reducible rfl
      simp only [Act.put, rgA, rgB, rgC, rgD, rgE, rgF]
      refine wpAnyT_pure (i := 1) (v := ?_) rfl (by kernel_rfl) (by kernel_rfl) (by kernel_rfl) (fun _ _ _ h => h) (by rfl) ?_ ?_
      rotate_left
      · intro w; go_simp; try with_reducible rfl
      simp only [Act.put, rgA, rgB, rgC, rgD, rgE, rgF]
      refine wpAnyT_pure (i := 2) (v := ?_) rfl (by kernel_rfl) (by kernel_rfl) (by kernel_rfl) (fun _ _ _ h => h) (by rfl) ?_ ?_
      rotate_left
      · intro w; go_simp; try with_reducible rfl
      simp only [Act.put, rgA, rgB, rgC, rgD, rgE, rgF]
      refine wpAnyT_pure (i := 3) (v := ?_) rfl (by kernel_rfl) (by kernel_rfl) (by kernel_rfl) (fun _ _ _ h => h) (by rfl) ?_ ?_
      rotate_left
      · intro w; go_simp; try with_reducible rfl
      simp only [Act.put, rgA, rgB, rgC, rgD, rgE, rgF]
      refine wpAnyT_skip (i := 4) rfl (by kernel_rfl) (by kernel_rfl) (by kernel_rfl) (fun _ _ _ h => h) (by rfl) ?_
      simp only [Act.put, rgA, rgB, rgC, rgD, rgE, rgF]
      refine wpAnyT_skip (i := 5) rfl (by kernel_rfl) (by kernel_rfl) (by kernel_rfl) (fun _ _ _ h => h) (by rfl) ?_
      simp only [Act.put, rgA, rgB, rgC, rgD, rgE, rgF]
      refine wpAnyT_skip (i := 6) rfl (by kernel_rfl) (by kernel_rfl) (by kernel_rfl) (fun _ _ _ h => h) (by rfl) ?_
      simp only [Act.put, rgA, rgB, rgC, rgD, rgE, rgF]
      refine wpAnyT_skip (i := 7) rfl (by kernel_rfl) (by kernel_rfl) (by kernel_rfl) (fun _ _ _ h => h) (by rfl) ?_
      simp only [Act.put, rgA, rgB, rgC, rgD, rgE, rgF]
      refine wpAnyT_skip (i := 8) rfl (by kernel_rfl) (by kernel_rfl) (by kernel_rfl) (fun _ _ _ h => h) (by rfl) ?_
      simp only [Act.put, rgA, rgB, rgC, rgD, rgE, rgF]
      refine wpAnyT_skip (i := 9) rfl (by kernel_rfl) (by kernel_rfl) (by kernel_rfl) (fun _ _ _ h => h) (by rfl) ?_
      simp only [Act.put, rgA, rgB, rgC, rgD, rgE, rgF]
      refine wpAnyT_skip (i := 10) rfl (by kernel_rfl) (by kernel_rfl) (by kernel_rfl) (fun _ _ _ h => h) (by rfl) ?_
      simp only [Act.put, rgA, rgB, rgC, rgD, rgE, rgF]
      refine wpAnyT_skip (i := 11) rfl (by kernel_rfl) (by kernel_rfl) (by kernel_rfl) (fun _ _ _ h => h) (by rfl) ?_
      simp only [Act.put, rgA, rgB, rgC, rgD, rgE, rgF]
      refine wpAnyT_skip (i := 12) rfl (by kernel_rfl) (by kernel_rfl) (by kernel_rfl) (fun _ _ _ h => h) (by rfl) ?_
      simp only [Act.put, rgA, rgB, rgC, rgD, rgE, rgF]
      refine wpAnyT_skip (i := 13) rfl (by kernel_rfl) (by kernel_rfl) (by kernel_rfl) (fun _ _ _ h => h) (by rfl) ?_
      simp only [Act.put, rgA, rgB, rgC, rgD, rgE, rgF]
      refine wpAnyT_skip (i := 14) rfl (by kernel_rfl) (by kernel_rfl) (by kernel_rfl) (fun _ _ _ h => h) (by rfl) ?_
      simp only [Act.put, rgA, rgB, rgC, rgD, rgE, rgF]
      refine wpAnyT_pure (i := 15) (v := ?_) rfl (by kernel_rfl) (by kernel_rfl) (by kernel_rfl) (fun _ _ _ h => h) (by rfl) ?_ ?_
      rotate_left
      · intro w; go_simp; try with_reducible rfl
      simp only [Act.put, rgA, rgB, rgC, rgD, rgE, rgF]
      refine wpAnyT_done (by kernel_rfl) ?_ _
      have hbP : Below wr.heap.size wr s18 := hB_0_s18.trans ((hB_s18_s18).mono (hB_0_s18).size)
      have HRK := Lib.hid (HKA.out.below hbP)
      have HRG := Lib.hid (HGA.out.step hbP)
      clear hbP
      go_wp2_with fail
      go_meet
      case rel => exact ⟨by rw [HTB.out, decide_eq_false hle]; rfl, HRK.out, HRG.out⟩
  obtain ⟨rfl, hkx, hgx⟩ := hcut
  have HKV := Lib.hid hkx
  have HGV := Lib.hid hgx
  clear hkx hgx
  rcases Bool.eq_false_or_eq_true tb with ht | ht
  · subst ht
    have hand := HTB.out
    obtain ⟨h1, h2⟩ := Bool.and_eq_true_iff.1 hand.symm
    have h1' := of_decide_eq_true h1
    have HNX := Lib.hid ((up_go (fun x => ltK ts x dk[a]!) dk j2 qV h1' h2).symm.trans HSC.out)
    clear hand h1 h2
    go_wp2_with fail
    go_roundw
    case rel => exact ⟨qV + 1, by go_num, by omega, by omega, HNX.out, HKV.out, HGV.out⟩
    case measure => simp [intOf]; try omega
  subst ht
  have HXV := Lib.hid (show ¬ qV ≤ j2 ∨ ltK ts dk[qV]! dk[a]! = false from (Bool.and_eq_false_iff.1 HTB.out.symm).imp of_decide_eq_false id)
  have HUV := Lib.hid (show Sort.scanUp (fun x => ltK ts x dk[a]!) dk j2 i2 = qV from HSC.out.symm.trans (up_end (fun x => ltK ts x dk[a]!) dk j2 qV HXV.out))
  clear HSC HKA HGA HTB
  go_wp2_with fail
  -- 1 slot, 2 region, 3 test slot, 4 i, 5 start j, 6 dk, 7 suffix, 8 HK, 9 HG, 10 HSZ, 11 skipped ops, 12 function
  go_loopw [13] (fun jv wr => ∃ q : Nat, jv = .int .i64 (q : Nat) ∧ q ≤ j2 ∧ qV ≤ q + 1 ∧ Sort.scanDown (fun x => !ltK ts x dk[a]!) dk qV q = Sort.scanDown (fun x => !ltK ts x dk[a]!) dk qV j2 ∧ KA wr g dk ∧ Gr (fun x => x = g) w wr) (fun jv _ => (intOf jv).toNat)
  case atStart => exact ⟨j2, by go_num, Nat.le_refl _, by omega, rfl, HKV.out, HGV.out⟩
  obtain ⟨qE, rfl, hqiE, hqjE, hsc, hka, hga⟩ := hrel
  have HSC := Lib.hid hsc
  have HKA := Lib.hid hka
  have HGA := Lib.hid hga
  clear hsc hka hga
  go_upto_region 15 with fail
  obtain ⟨tb, htb⟩ : ∃ tb, tb = (decide (qV ≤ qE) && !ltK ts dk[qE]! dk[a]!) := ⟨_, rfl⟩
  have HTB := Lib.hid htb
  clear htb
  go_cut [139] (fun sv wx => sv = .bool tb ∧ KA wx g dk ∧ Gr (fun x => x = g) w wx)
  case first =>
    by_cases hle : qV ≤ qE
    · have hleI : (qV : Int) ≤ (qE : Int) := by omega
      have hq1I : (qE : Int) < (n : Int) := by omega
      obtain ⟨eb, heb⟩ : ∃ vb, ltK ts dk[qE]! dk[a]! = vb := ⟨_, rfl⟩
      obtain ⟨m0, m1, m2⟩ := HKA.out.cell qE (by rw [HSZ2.out]; omega)
      obtain ⟨p0, p1, p2⟩ := HKA.out.cell a (by rw [HSZ2.out]; omega)
      obtain ⟨cc, hcc, hcall⟩ := cmpAt (HS.out.gr HGA.out (fun _ e => .inl (by rw [e]; exact HFG.out))) dk[qE]! dk[a]! eb heb
      have HCC := Lib.hid hcc
      have HEB := Lib.hid heb
      clear hcc heb
      generalize dk[qE]! = x at m0 m1 m2 hcall
      generalize dk[a]! = y at p0 p1 p2 hcall
      obtain ⟨x1, x2, x3⟩ := x
      obtain ⟨y1, y2, y3⟩ := y
      simp only at m0 m1 m2 p0 p1 p2 hcall
      have HCALL := Lib.hid hcall
      have hC0 : Cells [(⟨g, qE * 3, none⟩, .string x1), (⟨g, qE * 3 + 1, none⟩, .int .i64 x2), (⟨g, qE * 3 + 2, none⟩, .int .i64 x3), (⟨g, a * 3, none⟩, .string y1), (⟨g, a * 3 + 1, none⟩, .int .i64 y2), (⟨g, a * 3 + 2, none⟩, .int .i64 y3)] wr := ⟨m0, m1, m2, p0, p1, p2, trivial⟩
      clear m0 m1 m2 p0 p1 p2 hcall
      refine wp_region_T (Cells [(⟨g, qE * 3, none⟩, .string x1), (⟨g, qE * 3 + 1, none⟩, .int .i64 x2), (⟨g, qE * 3 + 2, none⟩, .int .i64 x3), (⟨g, a * 3, none⟩, .string y1), (⟨g, a * 3 + 1, none⟩, .int .i64 y2), (⟨g, a * 3 + 2, none⟩, .int .i64 y3)]) (fun _ => false) (by kernel_rfl) ?_
      have hSss19 := Cells.drew hC0
      have hB_0_s19 : Below wr.heap.size wr wr.drew := below_drew _
      generalize wr.drew = s19 at hSss19 hB_0_s19 ⊢
      have hB_s19_s19 := Below.refl s19.heap.size s19
      refine wpAnyT_pure (i := 0) (v := ?_) rfl (by kernel_rfl) (by kernel_rfl) (by kernel_rfl) (fun _ _ _ h => h) (by rfl) ?_ ?_
      rotate_left
      · intro w; go_simp; try with_reducible rfl
      simp only [Act.put, rgA, rgB, rgC, rgD, rgE, rgF]
      refine wpAnyT_pure (i := 1) (v := ?_) rfl (by kernel_rfl) (by kernel_rfl) (by kernel_rfl) (fun _ _ _ h => h) (by rfl) ?_ ?_
      rotate_left
      · intro w; go_simp; try with_reducible rfl
      simp only [Act.put, rgA, rgB, rgC, rgD, rgE, rgF]
      refine wpAnyT_pure (i := 2) (v := (.bool true)) rfl (by kernel_rfl) (by kernel_rfl) (by kernel_rfl) (fun _ _ _ h => h) (by rfl) ?_ ?_
      · intro w; go_simp <;> omega
      simp only [Act.put, rgA, rgB, rgC, rgD, rgE, rgF]
      refine wpAnyT_pure (i := 3) (v := ?_) rfl (by kernel_rfl) (by kernel_rfl) (by kernel_rfl) (fun _ _ _ h => h) (by rfl) ?_ ?_
      rotate_left
      · intro w; go_simp; try with_reducible rfl
      simp only [Act.put, rgA, rgB, rgC, rgD, rgE, rgF]
      refine wpAnyT_pure (i := 4) (v := ?_) rfl (by kernel_rfl) (by kernel_rfl) (by kernel_rfl) (fun _ _ _ h => h) (by rfl) ?_ ?_
      rotate_left
      · intro w; go_simp; try with_reducible rfl
      simp only [Act.put, rgA, rgB, rgC, rgD, rgE, rgF]
      refine wpAnyT_pure (i := 5) (v := ?_) rfl (by kernel_rfl) (by kernel_rfl) (by kernel_rfl) (fun _ _ _ h => h) (by rfl) ?_ ?_
      rotate_left
      · intro w; go_simp; try with_reducible rfl
      simp only [Act.put, rgA, rgB, rgC, rgD, rgE, rgF]
      refine wpAnyT_pure (i := 6) (v := ?_) rfl (by kernel_rfl) (by kernel_rfl) (by kernel_rfl) (fun _ _ _ h => h) (by rfl) ?_ ?_
      rotate_left
      · intro w; go_simp; try with_reducible rfl
      simp only [Act.put, rgA, rgB, rgC, rgD, rgE, rgF]
      refine wpAnyT_pure (i := 7) (v := ?_) rfl (by kernel_rfl) (by kernel_rfl) (by kernel_rfl) (fun _ _ _ h => h) (by rfl) ?_ ?_
      rotate_left
      · intro w; go_simp; try with_reducible rfl
      simp only [Act.put, rgA, rgB, rgC, rgD, rgE, rgF]
      refine wpAnyT_pure (i := 9) (v := ?_) rfl (by kernel_rfl) (by kernel_rfl) (by kernel_rfl) (fun _ _ _ h => h) (by rfl) ?_ ?_
      rotate_left
      · intro w; go_simp; try with_reducible rfl
      simp only [Act.put, rgA, rgB, rgC, rgD, rgE, rgF]
      refine wpAnyT_pure (i := 10) (v := ?_) rfl (by kernel_rfl) (by kernel_rfl) (by kernel_rfl) (fun _ _ _ h => h) (by rfl) ?_ ?_
      rotate_left
      · intro w; go_simp; try with_reducible rfl
      simp only [Act.put, rgA, rgB, rgC, rgD, rgE, rgF]
      refine wpAnyT_pure (i := 11) (v := ?_) rfl (by kernel_rfl) (by kernel_rfl) (by kernel_rfl) (fun _ _ _ h => h) (by rfl) ?_ ?_
      rotate_left
      · intro w; go_simp; try with_reducible rfl
      simp only [Act.put, rgA, rgB, rgC, rgD, rgE, rgF]
      refine wpAnyT_loadW (i := 8) (v := ?_) rfl (by kernel_rfl) (by kernel_rfl) (by kernel_rfl) (by kernel_rfl) (by kernel_rfl) (fun _ _ _ h => h) (Or.inl ⟨by rfl, ?_⟩) hSss19 ?_
      rotate_left
      · intro w hSw; obtain ⟨e0, e1, e2, e3, e4, e5, -⟩ := hSw; go_simp; try with_reducible rfl
      simp only [Act.put, rgA, rgB, rgC, rgD, rgE, rgF]
      refine wpAnyT_loadW (i := 12) (v := ?_) rfl (by kernel_rfl) (by kernel_rfl) (by kernel_rfl) (by kernel_rfl) (by kernel_rfl) (fun _ _ _ h => h) (Or.inl ⟨by rfl, ?_⟩) hSss19 ?_
      rotate_left
      · intro w hSw; obtain ⟨e0, e1, e2, e3, e4, e5, -⟩ := hSw; go_simp; try with_reducible rfl
      simp only [Act.put, rgA, rgB, rgC, rgD, rgE, rgF]
      refine wpAnyT_one (i := 13) (by kernel_rfl) rfl (by rfl) ?_
      refine wp_enter (f := 44) (args := #[.pointer (some ⟨p, 0, none⟩), .agg #[.string x1, .int .i64 x2, .int .i64 x3], .agg #[.string y1, .int .i64 y2, .int .i64 y3]]) (by go_simp) (HCALL.out s19 (Gr.of_below (hB_0_s19.trans ((hB_s19_s19).mono (hB_0_s19).size)))) ?_
      rintro e w120 ⟨rfl, hX⟩
      have hB_s19_w120 := below_step hB_s19_s19 hX
      have hB_w120_w120 := Below.refl w120.heap.size w120
      have hSsw120 := Cells.below hB_s19_w120 hSss19
      clear hX
      refine ⟨_, rfl, fun _ _ => hSsw120, ?_⟩
      try simp only [Act.put, rgA, rgB, rgC, rgD, rgE, rgF]
      refine wpAnyT_pure (i := 14) (v := (.bool eb)) rfl (by kernel_rfl) (by kernel_rfl) (by kernel_rfl) (fun _ _ _ h => h) (by rfl) ?_ ?_
      · intro w; have hq := HCC.out; clear HCC; go_simp <;> exact hq
      simp only [Act.put, rgA, rgB, rgC, rgD, rgE, rgF]
      refine wpAnyT_pure (i := 15) (v := ?_) rfl (by kernel_rfl) (by kernel_rfl) (by kernel_rfl) (fun _ _ _ h => h) (by rfl) ?_ ?_
      rotate_left
      · intro w; go_simp; try with_reducible rfl
      simp only [Act.put, rgA, rgB, rgC, rgD, rgE, rgF]
      refine wpAnyT_pure (i := 16) (v := ?_) rfl (by kernel_rfl) (by kernel_rfl) (by kernel_rfl) (fun _ _ _ h => h) (by rfl) ?_ ?_
      rotate_left
      · intro w; go_simp; try with_reducible rfl
      simp only [Act.put, rgA, rgB, rgC, rgD, rgE, rgF]
      refine wpAnyT_done (by kernel_rfl) ?_ _
      have hbP : Below wr.heap.size wr w120 := hB_0_s19.trans ((hB_s19_w120).mono (hB_0_s19).size)
      have HRK := Lib.hid (HKA.out.below hbP)
      have HRG := Lib.hid (HGA.out.step hbP)
      clear hbP
      go_wp2_with fail
      go_meet
      case rel => exact ⟨by rw [HTB.out, HEB.out, decide_eq_true hle]; rfl, HRK.out, HRG.out⟩
    · have hleI : ¬ (qV : Int) ≤ (qE : Int) := by omega
      have hC0 : Cells [] wr := trivial
      refine wp_region_T (Cells []) (fun _ => false) (by kernel_rfl) ?_
      have hSss21 := Cells.drew hC0
      have hB_0_s21 : Below wr.heap.size wr wr.drew := below_drew _
      generalize wr.drew = s21 at hSss21 hB_0_s21 ⊢
      have hB_s21_s21 := Below.refl s21.heap.size s21
      refine wpAnyT_pure (i := 0) (v := ?_) rfl (by kernel_rfl) (by kernel_rfl) (by kernel_rfl) (fun _ _ _ h => h) (by rfl) ?_ ?_
      rotate_left
      · intro w; go_simp; try with_reducible rfl
      simp only [Act.put, rgA, rgB, rgC, rgD, rgE, rgF]
      refine wpAnyT_pure (i := 1) (v := ?_) rfl (by kernel_rfl) (by kernel_rfl) (by kernel_rfl) (fun _ _ _ h => h) (by rfl) ?_ ?_
      rotate_left
      · intro w; go_simp; try with_reducible rfl
      simp only [Act.put, rgA, rgB, rgC, rgD, rgE, rgF]
      refine wpAnyT_pure (i := 2) (v := ?_) rfl (by kernel_rfl) (by kernel_rfl) (by kernel_rfl) (fun _ _ _ h => h) (by rfl) ?_ ?_
      rotate_left
      · intro w; go_simp; try with_reducible rfl
      simp only [Act.put, rgA, rgB, rgC, rgD, rgE, rgF]
      refine wpAnyT_pure (i := 3) (v := ?_) rfl (by kernel_rfl) (by kernel_rfl) (by kernel_rfl) (fun _ _ _ h => h) (by rfl) ?_ ?_
      rotate_left
      · intro w; go_simp; try with_reducible rfl
      simp only [Act.put, rgA, rgB, rgC, rgD, rgE, rgF]
      refine wpAnyT_skip (i := 4) rfl (by kernel_rfl) (by kernel_rfl) (by kernel_rfl) (fun _ _ _ h => h) (by rfl) ?_
      simp only [Act.put, rgA, rgB, rgC, rgD, rgE, rgF]
      refine wpAnyT_skip (i := 5) rfl (by kernel_rfl) (by kernel_rfl) (by kernel_rfl) (fun _ _ _ h => h) (by rfl) ?_
      simp only [Act.put, rgA, rgB, rgC, rgD, rgE, rgF]
      refine wpAnyT_skip (i := 6) rfl (by kernel_rfl) (by kernel_rfl) (by kernel_rfl) (fun _ _ _ h => h) (by rfl) ?_
      simp only [Act.put, rgA, rgB, rgC, rgD, rgE, rgF]
      refine wpAnyT_skip (i := 7) rfl (by kernel_rfl) (by kernel_rfl) (by kernel_rfl) (fun _ _ _ h => h) (by rfl) ?_
      simp only [Act.put, rgA, rgB, rgC, rgD, rgE, rgF]
      refine wpAnyT_skip (i := 8) rfl (by kernel_rfl) (by kernel_rfl) (by kernel_rfl) (fun _ _ _ h => h) (by rfl) ?_
      simp only [Act.put, rgA, rgB, rgC, rgD, rgE, rgF]
      refine wpAnyT_skip (i := 9) rfl (by kernel_rfl) (by kernel_rfl) (by kernel_rfl) (fun _ _ _ h => h) (by rfl) ?_
      simp only [Act.put, rgA, rgB, rgC, rgD, rgE, rgF]
      refine wpAnyT_skip (i := 10) rfl (by kernel_rfl) (by kernel_rfl) (by kernel_rfl) (fun _ _ _ h => h) (by rfl) ?_
      simp only [Act.put, rgA, rgB, rgC, rgD, rgE, rgF]
      refine wpAnyT_skip (i := 11) rfl (by kernel_rfl) (by kernel_rfl) (by kernel_rfl) (fun _ _ _ h => h) (by rfl) ?_
      simp only [Act.put, rgA, rgB, rgC, rgD, rgE, rgF]
      refine wpAnyT_skip (i := 12) rfl (by kernel_rfl) (by kernel_rfl) (by kernel_rfl) (fun _ _ _ h => h) (by rfl) ?_
      simp only [Act.put, rgA, rgB, rgC, rgD, rgE, rgF]
      refine wpAnyT_skip (i := 13) rfl (by kernel_rfl) (by kernel_rfl) (by kernel_rfl) (fun _ _ _ h => h) (by rfl) ?_
      simp only [Act.put, rgA, rgB, rgC, rgD, rgE, rgF]
      refine wpAnyT_skip (i := 14) rfl (by kernel_rfl) (by kernel_rfl) (by kernel_rfl) (fun _ _ _ h => h) (by rfl) ?_
      simp only [Act.put, rgA, rgB, rgC, rgD, rgE, rgF]
      refine wpAnyT_skip (i := 15) rfl (by kernel_rfl) (by kernel_rfl) (by kernel_rfl) (fun _ _ _ h => h) (by rfl) ?_
      simp only [Act.put, rgA, rgB, rgC, rgD, rgE, rgF]
      refine wpAnyT_pure (i := 16) (v := ?_) rfl (by kernel_rfl) (by kernel_rfl) (by kernel_rfl) (fun _ _ _ h => h) (by rfl) ?_ ?_
      rotate_left
      · intro w; go_simp; try with_reducible rfl
      simp only [Act.put, rgA, rgB, rgC, rgD, rgE, rgF]
      refine wpAnyT_done (by kernel_rfl) ?_ _
      have hbP : Below wr.heap.size wr s21 := hB_0_s21.trans ((hB_s21_s21).mono (hB_0_s21).size)
      have HRK := Lib.hid (HKA.out.below hbP)
      have HRG := Lib.hid (HGA.out.step hbP)
      clear hbP
      go_wp2_with fail
      go_meet
      case rel => exact ⟨by rw [HTB.out, decide_eq_false hle]; rfl, HRK.out, HRG.out⟩
  obtain ⟨rfl, hkx, hgx⟩ := hcut
  have HKE := Lib.hid hkx
  have HGE := Lib.hid hgx
  clear hkx hgx
  rcases Bool.eq_false_or_eq_true tb with ht | ht
  · subst ht
    have hand := HTB.out
    obtain ⟨h1, h2⟩ := Bool.and_eq_true_iff.1 hand.symm
    have h1' := of_decide_eq_true h1
    have HNX := Lib.hid ((down_go (fun x => !ltK ts x dk[a]!) dk qV qE h1' (by omega) h2).symm.trans HSC.out)
    clear hand h1 h2
    go_wp2_with fail
    go_roundw
    case rel => exact ⟨qE - 1, by go_num, by omega, by omega, HNX.out, HKE.out, HGE.out⟩
    case measure => simp [intOf]; try omega
  subst ht
  have HXE := Lib.hid (show ¬ qV ≤ qE ∨ (!ltK ts dk[qE]! dk[a]!) = false from (Bool.and_eq_false_iff.1 HTB.out.symm).imp of_decide_eq_false id)
  have HUE := Lib.hid (show Sort.scanDown (fun x => !ltK ts x dk[a]!) dk qV j2 = qE from HSC.out.symm.trans (down_end (fun x => !ltK ts x dk[a]!) dk qV qE HXE.out))
  clear HSC HKA HGA HTB
  by_cases hlt2 : qE < qV
  · have hltI : (qE : Int) < (qV : Int) := by omega
    have HPY := Lib.hid ((pl_stop (ltK ts) dk a i2 j2 qV qE HUV.out HUE.out hlt2).symm.trans HPL.out)
    have hqDI : (qE : Int) < (n : Int) := by omega
    go_wp2_with fail
    obtain ⟨m0, m1, m2⟩ := HKE.out.cell qE (by rw [HSZ2.out]; omega)
    obtain ⟨p0, p1, p2⟩ := HKE.out.cell a (by rw [HSZ2.out]; omega)
    have HSW := Lib.hid (show Sort.swp dk qE a = (dk.setIfInBounds qE dk[a]!).setIfInBounds a dk[qE]! from rfl)
    have HSZN := Lib.hid (show (Sort.swp dk qE a).size = n from by rw [swp_size]; exact HSZ2.out)
    generalize dk[qE]! = x at m0 m1 m2 HSW
    generalize dk[a]! = y at p0 p1 p2 HSW
    obtain ⟨x1, x2, x3⟩ := x
    obtain ⟨y1, y2, y3⟩ := y
    simp only at m0 m1 m2 p0 p1 p2
    have hC0 : Cells [(⟨g, qE * 3, none⟩, .string x1), (⟨g, qE * 3 + 1, none⟩, .int .i64 x2), (⟨g, qE * 3 + 2, none⟩, .int .i64 x3), (⟨g, a * 3, none⟩, .string y1), (⟨g, a * 3 + 1, none⟩, .int .i64 y2), (⟨g, a * 3 + 2, none⟩, .int .i64 y3)] wc := ⟨m0, m1, m2, p0, p1, p2, trivial⟩
    clear m0 m1 m2 p0 p1 p2
    refine wp_region_T (Cells [(⟨g, qE * 3, none⟩, .string x1), (⟨g, qE * 3 + 1, none⟩, .int .i64 x2), (⟨g, qE * 3 + 2, none⟩, .int .i64 x3), (⟨g, a * 3, none⟩, .string y1), (⟨g, a * 3 + 1, none⟩, .int .i64 y2), (⟨g, a * 3 + 2, none⟩, .int .i64 y3)]) (fun i => i == 13 || i == 15) (by kernel_rfl) ?_
    have hSss22 := Cells.drew hC0
    have hB_0_s22 : Below wc.heap.size wc wc.drew := below_drew _
    generalize wc.drew = s22 at hSss22 hB_0_s22 ⊢
    have hB_s22_s22 := Below.refl s22.heap.size s22
    refine wpAnyT_pure (i := 0) (v := ?_) rfl (by kernel_rfl) (by kernel_rfl) (by kernel_rfl) (fun _ _ _ h => h) (by rfl) ?_ ?_
    rotate_left
    · intro w; go_simp; try with_reducible rfl
    simp only [Act.put, rgA, rgB, rgC, rgD, rgE, rgF]
    refine wpAnyT_pure (i := 1) (v := ?_) rfl (by kernel_rfl) (by kernel_rfl) (by kernel_rfl) (fun _ _ _ h => h) (by rfl) ?_ ?_
    rotate_left
    · intro w; go_simp; try with_reducible rfl
    simp only [Act.put, rgA, rgB, rgC, rgD, rgE, rgF]
    refine wpAnyT_pure (i := 2) (v := ?_) rfl (by kernel_rfl) (by kernel_rfl) (by kernel_rfl) (fun _ _ _ h => h) (by rfl) ?_ ?_
    rotate_left
    · intro w; go_simp; try with_reducible rfl
    simp only [Act.put, rgA, rgB, rgC, rgD, rgE, rgF]
    refine wpAnyT_pure (i := 3) (v := ?_) rfl (by kernel_rfl) (by kernel_rfl) (by kernel_rfl) (fun _ _ _ h => h) (by rfl) ?_ ?_
    rotate_left
    · intro w; go_simp; try with_reducible rfl
    simp only [Act.put, rgA, rgB, rgC, rgD, rgE, rgF]
    refine wpAnyT_pure (i := 4) (v := ?_) rfl (by kernel_rfl) (by kernel_rfl) (by kernel_rfl) (fun _ _ _ h => h) (by rfl) ?_ ?_
    rotate_left
    · intro w; go_simp; try with_reducible rfl
    simp only [Act.put, rgA, rgB, rgC, rgD, rgE, rgF]
    refine wpAnyT_pure (i := 5) (v := ?_) rfl (by kernel_rfl) (by kernel_rfl) (by kernel_rfl) (fun _ _ _ h => h) (by rfl) ?_ ?_
    rotate_left
    · intro w; go_simp; try with_reducible rfl
    simp only [Act.put, rgA, rgB, rgC, rgD, rgE, rgF]
    refine wpAnyT_pure (i := 6) (v := ?_) rfl (by kernel_rfl) (by kernel_rfl) (by kernel_rfl) (fun _ _ _ h => h) (by rfl) ?_ ?_
    rotate_left
    · intro w; go_simp; try with_reducible rfl
    simp only [Act.put, rgA, rgB, rgC, rgD, rgE, rgF]
    refine wpAnyT_pure (i := 8) (v := ?_) rfl (by kernel_rfl) (by kernel_rfl) (by kernel_rfl) (fun _ _ _ h => h) (by rfl) ?_ ?_
    rotate_left
    · intro w; go_simp; try with_reducible rfl
    simp only [Act.put, rgA, rgB, rgC, rgD, rgE, rgF]
    refine wpAnyT_pure (i := 9) (v := ?_) rfl (by kernel_rfl) (by kernel_rfl) (by kernel_rfl) (fun _ _ _ h => h) (by rfl) ?_ ?_
    rotate_left
    · intro w; go_simp; try with_reducible rfl
    simp only [Act.put, rgA, rgB, rgC, rgD, rgE, rgF]
    refine wpAnyT_pure (i := 10) (v := ?_) rfl (by kernel_rfl) (by kernel_rfl) (by kernel_rfl) (fun _ _ _ h => h) (by rfl) ?_ ?_
    rotate_left
    · intro w; go_simp; try with_reducible rfl
    simp only [Act.put, rgA, rgB, rgC, rgD, rgE, rgF]
    refine wpAnyT_loadW (i := 7) (v := ?_) rfl (by kernel_rfl) (by kernel_rfl) (by kernel_rfl) (by kernel_rfl) (by kernel_rfl) (fun _ _ _ h => h) (Or.inl ⟨by rfl, ?_⟩) hSss22 ?_
    rotate_left
    · intro w hSw; obtain ⟨e0, e1, e2, e3, e4, e5, -⟩ := hSw; go_simp; try with_reducible rfl
    simp only [Act.put, rgA, rgB, rgC, rgD, rgE, rgF]
    refine wpAnyT_loadW (i := 11) (v := ?_) rfl (by kernel_rfl) (by kernel_rfl) (by kernel_rfl) (by kernel_rfl) (by kernel_rfl) (fun _ _ _ h => h) (Or.inl ⟨by rfl, ?_⟩) hSss22 ?_
    rotate_left
    · intro w hSw; obtain ⟨e0, e1, e2, e3, e4, e5, -⟩ := hSw; go_simp; try with_reducible rfl
    simp only [Act.put, rgA, rgB, rgC, rgD, rgE, rgF]
    refine wpAnyT_pure (i := 12) (v := ?_) rfl (by kernel_rfl) (by kernel_rfl) (by kernel_rfl) (fun _ _ _ h => h) (by rfl) ?_ ?_
    rotate_left
    · intro w; go_simp; try with_reducible rfl
    simp only [Act.put, rgA, rgB, rgC, rgD, rgE, rgF]
    refine wpAnyT_one (i := 13) (by kernel_rfl) rfl (by rfl) ?_
    have hbS : Below wc.heap.size wc s22 := hB_0_s22.trans ((hB_s22_s22).mono (hB_0_s22).size)
    obtain ⟨hsA, hnA⟩ := (HKE.out.below hbS).set Tryz.prog qE (by rw [HSZ2.out]; omega) ⟨y1, y2, y3⟩
    have hgA := (HGE.out.step hbS).trans (gr_setCells g (kvs ⟨y1, y2, y3⟩) (qE * 3) s22) (fun _ h => .inl h)
    refine wp_storeK (w' := (s22).setCells g (qE * 3) (kvs ⟨y1, y2, y3⟩)) 48 (.tmp 175) (.tmp 170) rfl ⟨g, qE * 3, none⟩ (.agg #[.string y1, .int .i64 y2, .int .i64 y3]) (by kernel_rfl) (by kernel_rfl) (sizeK _) hsA ?_
    generalize (s22).setCells g (qE * 3) (kvs ⟨y1, y2, y3⟩) = w123 at hnA hgA ⊢
    clear hsA
    refine ⟨fun h => absurd h (by decide), ?_⟩
    try simp only [Act.put, rgA, rgB, rgC, rgD, rgE, rgF]
    refine wpAnyT_pure (i := 14) (v := ?_) rfl (by kernel_rfl) (by kernel_rfl) (by kernel_rfl) (fun _ _ _ h => h) (by rfl) ?_ ?_
    rotate_left
    · intro w; go_simp; try with_reducible rfl
    simp only [Act.put, rgA, rgB, rgC, rgD, rgE, rgF]
    refine wpAnyT_one (i := 15) (by kernel_rfl) rfl (by rfl) ?_
    obtain ⟨hsB, hnB⟩ := hnA.set Tryz.prog a (by rw [Array.size_setIfInBounds, HSZ2.out]; omega) ⟨x1, x2, x3⟩
    have hgB := hgA.trans (gr_setCells g (kvs ⟨x1, x2, x3⟩) (a * 3) w123) (fun _ h => .inl h)
    refine wp_storeK (w' := (w123).setCells g (a * 3) (kvs ⟨x1, x2, x3⟩)) 48 (.tmp 176) (.tmp 174) rfl ⟨g, a * 3, none⟩ (.agg #[.string x1, .int .i64 x2, .int .i64 x3]) (by kernel_rfl) (by kernel_rfl) (sizeK _) hsB ?_
    generalize (w123).setCells g (a * 3) (kvs ⟨x1, x2, x3⟩) = w124 at hnB hgB ⊢
    clear hsB hnA hgA
    refine ⟨fun h => absurd h (by decide), ?_⟩
    try simp only [Act.put, rgA, rgB, rgC, rgD, rgE, rgF]
    refine wpAnyT_done (by kernel_rfl) ?_ _
    obtain ⟨w9, rfl⟩ : ∃ x, x = w124 := ⟨_, rfl⟩
    rw [← HSW.out] at hnB
    have HKF := Lib.hid hnB
    have HGF := Lib.hid hgB
    clear hnB hgB HSW HSZN hC0
    go_wp2_with fail
    refine bodyPost_ret (results_tmp2 (t := 10) (u := 11) (by kernel_rfl) _ _ _) rfl ?_
    rw [← HR.out, HPN.out, ← HPY.out]
    exact ⟨rfl, HKF.out, HGF.out⟩
  have hltI : ¬ (qE : Int) < (qV : Int) := by omega
  have HPG := Lib.hid ((pl_go (ltK ts) dk a i2 j2 qV qE HUV.out HUE.out hlt2).symm.trans HPL.out)
  have hne2 : qV ≠ qE := by
    intro e
    rcases HXV.out with h | h
    · omega
    rcases HXE.out with h' | h'
    · omega
    rw [← e] at h'
    simp only [h] at h'
    exact absurd h' (by decide)
  have hqDI : (qE : Int) < (n : Int) := by omega
  have hqUI : (qV : Int) < (n : Int) := by omega
  go_wp2_with fail
  obtain ⟨m0, m1, m2⟩ := HKE.out.cell qV (by rw [HSZ2.out]; omega)
  obtain ⟨p0, p1, p2⟩ := HKE.out.cell qE (by rw [HSZ2.out]; omega)
  have HSW := Lib.hid (show Sort.swp dk qV qE = (dk.setIfInBounds qV dk[qE]!).setIfInBounds qE dk[qV]! from rfl)
  have HSZN := Lib.hid (show (Sort.swp dk qV qE).size = n from by rw [swp_size]; exact HSZ2.out)
  generalize dk[qV]! = x at m0 m1 m2 HSW
  generalize dk[qE]! = y at p0 p1 p2 HSW
  obtain ⟨x1, x2, x3⟩ := x
  obtain ⟨y1, y2, y3⟩ := y
  simp only at m0 m1 m2 p0 p1 p2
  have hC0 : Cells [(⟨g, qV * 3, none⟩, .string x1), (⟨g, qV * 3 + 1, none⟩, .int .i64 x2), (⟨g, qV * 3 + 2, none⟩, .int .i64 x3), (⟨g, qE * 3, none⟩, .string y1), (⟨g, qE * 3 + 1, none⟩, .int .i64 y2), (⟨g, qE * 3 + 2, none⟩, .int .i64 y3)] wc := ⟨m0, m1, m2, p0, p1, p2, trivial⟩
  clear m0 m1 m2 p0 p1 p2
  refine wp_region_T (Cells [(⟨g, qV * 3, none⟩, .string x1), (⟨g, qV * 3 + 1, none⟩, .int .i64 x2), (⟨g, qV * 3 + 2, none⟩, .int .i64 x3), (⟨g, qE * 3, none⟩, .string y1), (⟨g, qE * 3 + 1, none⟩, .int .i64 y2), (⟨g, qE * 3 + 2, none⟩, .int .i64 y3)]) (fun i => i == 13 || i == 15) (by kernel_rfl) ?_
  have hSss25 := Cells.drew hC0
  have hB_0_s25 : Below wc.heap.size wc wc.drew := below_drew _
  generalize wc.drew = s25 at hSss25 hB_0_s25 ⊢
  have hB_s25_s25 := Below.refl s25.heap.size s25
  refine wpAnyT_pure (i := 0) (v := ?_) rfl (by kernel_rfl) (by kernel_rfl) (by kernel_rfl) (fun _ _ _ h => h) (by rfl) ?_ ?_
  rotate_left
  · intro w; go_simp; try with_reducible rfl
  simp only [Act.put, rgA, rgB, rgC, rgD, rgE, rgF]
  refine wpAnyT_pure (i := 1) (v := ?_) rfl (by kernel_rfl) (by kernel_rfl) (by kernel_rfl) (fun _ _ _ h => h) (by rfl) ?_ ?_
  rotate_left
  · intro w; go_simp; try with_reducible rfl
  simp only [Act.put, rgA, rgB, rgC, rgD, rgE, rgF]
  refine wpAnyT_pure (i := 2) (v := ?_) rfl (by kernel_rfl) (by kernel_rfl) (by kernel_rfl) (fun _ _ _ h => h) (by rfl) ?_ ?_
  rotate_left
  · intro w; go_simp; try with_reducible rfl
  simp only [Act.put, rgA, rgB, rgC, rgD, rgE, rgF]
  refine wpAnyT_pure (i := 3) (v := ?_) rfl (by kernel_rfl) (by kernel_rfl) (by kernel_rfl) (fun _ _ _ h => h) (by rfl) ?_ ?_
  rotate_left
  · intro w; go_simp; try with_reducible rfl
  simp only [Act.put, rgA, rgB, rgC, rgD, rgE, rgF]
  refine wpAnyT_pure (i := 4) (v := ?_) rfl (by kernel_rfl) (by kernel_rfl) (by kernel_rfl) (fun _ _ _ h => h) (by rfl) ?_ ?_
  rotate_left
  · intro w; go_simp; try with_reducible rfl
  simp only [Act.put, rgA, rgB, rgC, rgD, rgE, rgF]
  refine wpAnyT_pure (i := 5) (v := ?_) rfl (by kernel_rfl) (by kernel_rfl) (by kernel_rfl) (fun _ _ _ h => h) (by rfl) ?_ ?_
  rotate_left
  · intro w; go_simp; try with_reducible rfl
  simp only [Act.put, rgA, rgB, rgC, rgD, rgE, rgF]
  refine wpAnyT_pure (i := 6) (v := ?_) rfl (by kernel_rfl) (by kernel_rfl) (by kernel_rfl) (fun _ _ _ h => h) (by rfl) ?_ ?_
  rotate_left
  · intro w; go_simp; try with_reducible rfl
  simp only [Act.put, rgA, rgB, rgC, rgD, rgE, rgF]
  refine wpAnyT_pure (i := 8) (v := ?_) rfl (by kernel_rfl) (by kernel_rfl) (by kernel_rfl) (fun _ _ _ h => h) (by rfl) ?_ ?_
  rotate_left
  · intro w; go_simp; try with_reducible rfl
  simp only [Act.put, rgA, rgB, rgC, rgD, rgE, rgF]
  refine wpAnyT_pure (i := 9) (v := ?_) rfl (by kernel_rfl) (by kernel_rfl) (by kernel_rfl) (fun _ _ _ h => h) (by rfl) ?_ ?_
  rotate_left
  · intro w; go_simp; try with_reducible rfl
  simp only [Act.put, rgA, rgB, rgC, rgD, rgE, rgF]
  refine wpAnyT_pure (i := 10) (v := ?_) rfl (by kernel_rfl) (by kernel_rfl) (by kernel_rfl) (fun _ _ _ h => h) (by rfl) ?_ ?_
  rotate_left
  · intro w; go_simp; try with_reducible rfl
  simp only [Act.put, rgA, rgB, rgC, rgD, rgE, rgF]
  refine wpAnyT_loadW (i := 7) (v := ?_) rfl (by kernel_rfl) (by kernel_rfl) (by kernel_rfl) (by kernel_rfl) (by kernel_rfl) (fun _ _ _ h => h) (Or.inl ⟨by rfl, ?_⟩) hSss25 ?_
  rotate_left
  · intro w hSw; obtain ⟨e0, e1, e2, e3, e4, e5, -⟩ := hSw; go_simp; try with_reducible rfl
  simp only [Act.put, rgA, rgB, rgC, rgD, rgE, rgF]
  refine wpAnyT_loadW (i := 11) (v := ?_) rfl (by kernel_rfl) (by kernel_rfl) (by kernel_rfl) (by kernel_rfl) (by kernel_rfl) (fun _ _ _ h => h) (Or.inl ⟨by rfl, ?_⟩) hSss25 ?_
  rotate_left
  · intro w hSw; obtain ⟨e0, e1, e2, e3, e4, e5, -⟩ := hSw; go_simp; try with_reducible rfl
  simp only [Act.put, rgA, rgB, rgC, rgD, rgE, rgF]
  refine wpAnyT_pure (i := 12) (v := ?_) rfl (by kernel_rfl) (by kernel_rfl) (by kernel_rfl) (fun _ _ _ h => h) (by rfl) ?_ ?_
  rotate_left
  · intro w; go_simp; try with_reducible rfl
  simp only [Act.put, rgA, rgB, rgC, rgD, rgE, rgF]
  refine wpAnyT_one (i := 13) (by kernel_rfl) rfl (by rfl) ?_
  have hbS : Below wc.heap.size wc s25 := hB_0_s25.trans ((hB_s25_s25).mono (hB_0_s25).size)
  obtain ⟨hsA, hnA⟩ := (HKE.out.below hbS).set Tryz.prog qV (by rw [HSZ2.out]; omega) ⟨y1, y2, y3⟩
  have hgA := (HGE.out.step hbS).trans (gr_setCells g (kvs ⟨y1, y2, y3⟩) (qV * 3) s25) (fun _ h => .inl h)
  refine wp_storeK (w' := (s25).setCells g (qV * 3) (kvs ⟨y1, y2, y3⟩)) 48 (.tmp 157) (.tmp 152) rfl ⟨g, qV * 3, none⟩ (.agg #[.string y1, .int .i64 y2, .int .i64 y3]) (by kernel_rfl) (by kernel_rfl) (sizeK _) hsA ?_
  generalize (s25).setCells g (qV * 3) (kvs ⟨y1, y2, y3⟩) = w126 at hnA hgA ⊢
  clear hsA
  refine ⟨fun h => absurd h (by decide), ?_⟩
  try simp only [Act.put, rgA, rgB, rgC, rgD, rgE, rgF]
  refine wpAnyT_pure (i := 14) (v := ?_) rfl (by kernel_rfl) (by kernel_rfl) (by kernel_rfl) (fun _ _ _ h => h) (by rfl) ?_ ?_
  rotate_left
  · intro w; go_simp; try with_reducible rfl
  simp only [Act.put, rgA, rgB, rgC, rgD, rgE, rgF]
  refine wpAnyT_one (i := 15) (by kernel_rfl) rfl (by rfl) ?_
  obtain ⟨hsB, hnB⟩ := hnA.set Tryz.prog qE (by rw [Array.size_setIfInBounds, HSZ2.out]; omega) ⟨x1, x2, x3⟩
  have hgB := hgA.trans (gr_setCells g (kvs ⟨x1, x2, x3⟩) (qE * 3) w126) (fun _ h => .inl h)
  refine wp_storeK (w' := (w126).setCells g (qE * 3) (kvs ⟨x1, x2, x3⟩)) 48 (.tmp 158) (.tmp 156) rfl ⟨g, qE * 3, none⟩ (.agg #[.string x1, .int .i64 x2, .int .i64 x3]) (by kernel_rfl) (by kernel_rfl) (sizeK _) hsB ?_
  generalize (w126).setCells g (qE * 3) (kvs ⟨x1, x2, x3⟩) = w127 at hnB hgB ⊢
  clear hsB hnA hgA
  refine ⟨fun h => absurd h (by decide), ?_⟩
  try simp only [Act.put, rgA, rgB, rgC, rgD, rgE, rgF]
  refine wpAnyT_done (by kernel_rfl) ?_ _
  obtain ⟨w4, rfl⟩ : ∃ x, x = w127 := ⟨_, rfl⟩
  rw [← HSW.out] at hnB
  have HK4 := Lib.hid hnB
  have HG4 := Lib.hid hgB
  clear hnB hgB HSW hC0
  go_wp2_with fail
  go_roundw
  case rel => exact ⟨qV + 1, qE - 1, Sort.swp dk qV qE, by go_num, by go_num, by omega, by omega, by omega, HSZN.out, HPG.out, HK4.out, HG4.out⟩
  case measure => simp [intOf]; try omega
end Go.Proofs.YtdcjocldggmdbaaGreat
