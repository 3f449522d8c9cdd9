/- Layer 53: the sort of many keys: partialInsertionSort. -/
import Derived.Test.YtdcjocldggmdbaaGreatS53j
set_option linter.unusedSimpArgs false
namespace Go.Proofs.YtdcjocldggmdbaaGreat
open Go.RowKit Go

theorem ss_go (lt : Ky → Ky → Bool) (d : Array Ky) (b i r : Nat) (hr : r = i - 1) (h : i < b) (hl : (!lt d[i]! d[r]!) = true) : Sort.scanSorted lt d b i = Sort.scanSorted lt d b (i + 1) := by
  subst hr
  rw [Sort.scanSorted, if_pos (by rw [Bool.and_eq_true_iff]; exact ⟨decide_eq_true h, hl⟩)]
theorem ss_end (lt : Ky → Ky → Bool) (d : Array Ky) (b i r : Nat) (hr : r = i - 1) (h : ¬ i < b ∨ (!lt d[i]! d[r]!) = false) : Sort.scanSorted lt d b i = i := by
  subst hr
  rw [Sort.scanSorted, if_neg]
  rw [Bool.and_eq_true_iff]
  rintro ⟨h1, h2⟩
  rcases h with h | h
  · exact h (of_decide_eq_true h1)
  · rw [h] at h2
    exact absurd h2 (by decide)
theorem sd_go (lt : Ky → Ky → Bool) (d : Array Ky) (j r : Nat) (hj : j = r + 1) (hl : lt d[j]! d[r]! = true) : Sort.shiftDown lt j d = Sort.shiftDown lt r (Sort.swp d j r) := by
  subst hj
  rw [Sort.shiftDown, if_neg (by simp [hl])]
theorem sd_end (lt : Ky → Ky → Bool) (d : Array Ky) (j r : Nat) (hj : j = r + 1) (hl : lt d[j]! d[r]! = false) : Sort.shiftDown lt j d = d := by
  subst hj
  rw [Sort.shiftDown, if_pos (by simp [hl])]
theorem su_go (lt : Ky → Ky → Bool) (d : Array Ky) (b j r : Nat) (hj : j = r + 1) (hb : j < b) (hl : lt d[j]! d[r]! = true) : Sort.shiftUp lt b j d = Sort.shiftUp lt b (j + 1) (Sort.swp d j r) := by
  subst hj
  rw [Sort.shiftUp, if_pos hb, if_neg (by simp [hl])]
  rfl
theorem su_end (lt : Ky → Ky → Bool) (d : Array Ky) (b j r : Nat) (hj : j = r + 1) (hb : j < b) (hl : lt d[j]! d[r]! = false) : Sort.shiftUp lt b j d = d := by
  subst hj
  rw [Sort.shiftUp, if_pos hb, if_pos (by simp [hl])]
theorem su_out (lt : Ky → Ky → Bool) (d : Array Ky) (b j : Nat) (hb : ¬ j < b) : Sort.shiftUp lt b j d = d := by
  rw [Sort.shiftUp, if_neg hb]
theorem pi_true (lt : Ky → Ky → Bool) (d : Array Ky) (a b s i q : Nat) (hq : Sort.scanSorted lt d b i = q) (h : q = b) : Sort.partialIns lt a b (s + 1) i d = (d, true) := by
  subst hq
  rw [Sort.partialIns]
  exact if_pos h
theorem pi_few (lt : Ky → Ky → Bool) (d : Array Ky) (a b s i q : Nat) (hq : Sort.scanSorted lt d b i = q) (h : ¬ q = b) (h50 : b - a < 50) : Sort.partialIns lt a b (s + 1) i d = (d, false) := by
  subst hq
  rw [Sort.partialIns]
  exact (if_neg h).trans (if_pos h50)
theorem pi_next (lt : Ky → Ky → Bool) (d d4 d5 d6 : Array Ky) (a b s i q r : Nat) (hr : r = q - 1) (hq : Sort.scanSorted lt d b i = q) (h : ¬ q = b) (h50 : ¬ b - a < 50) (h4 : d4 = Sort.swp d q r) (h5 : d5 = if q - a ≥ 2 then Sort.shiftDown lt r d4 else d4) (h6 : d6 = if b - q ≥ 2 then Sort.shiftUp lt b (q + 1) d5 else d5) : Sort.partialIns lt a b (s + 1) i d = Sort.partialIns lt a b s q d6 := by
  subst hr hq h4 h5 h6
  rw [Sort.partialIns]
  exact (if_neg h).trans (if_neg h50)
set_option maxRecDepth 20000 in
set_option maxHeartbeats 4000000 in
theorem partInsK {S : Nat → Prop} {F : Nat → Prop} (w : World) (p : Nat) (ts : List Tk) (ne np m : Nat) (hS : SCtx S p ts ne np m F w) (g cap n : Nat) (d : Array Ky) (hn : d.size = n) (hn2 : n ≤ 100000) (hK : KA w g d) (hFg : F g) (a b : Nat) (hab : a < b) (hbn : b ≤ n) :
    Calls Tryz.prog 87 #[.slice (some ⟨g, 0, none⟩) n cap, .int .i64 (a : Nat), .int .i64 (b : Nat), cmpV p] w fun e w' => e = .returned (.bool (Sort.partialInsertionSort (ltK ts) d a b).2) ∧ KA w' g (Sort.partialInsertionSort (ltK ts) d a b).1 ∧ Gr (fun x => x = g) w w' := by
  obtain ⟨res, hr⟩ : ∃ r, Sort.partialInsertionSort (ltK ts) d a b = r := ⟨_, rfl⟩
  rw [hr]
  unfold Sort.partialInsertionSort at hr
  obtain ⟨i3, hi3⟩ : ∃ q, q = a + 1 := ⟨_, rfl⟩
  rw [← hi3] at hr
  have ei : ((a : Int) + 1) = (i3 : Int) := by omega
  have hi3a : a < i3 := by omega
  have hi3b : i3 ≤ b := by omega
  have HR := Lib.hid hr
  have HK := Lib.hid hK
  have HN := Lib.hid hn
  have HS := Lib.hid hS
  have HFG := Lib.hid hFg
  clear hr hK hn hS hFg hi3
  unfold cmpV
  go_enter Tryz.func87, Tryz.ntmps87
  go_wp2_with fail
  go_loopw [10, 9] (fun sv iv wr => ∃ (s i2 : Nat) (dk : Array Ky), sv = .int .i64 (s : Nat) ∧ iv = .int .i64 (i2 : Nat) ∧ s ≤ 5 ∧ a < i2 ∧ i2 ≤ b ∧ dk.size = n ∧ Sort.partialIns (ltK ts) a b (5 - s) i2 dk = res ∧ KA wr g dk ∧ Gr (fun x => x = g) w wr) (fun sv _ _ => 6 - (intOf sv).toNat)
  case atStart => exact ⟨0, i3, d, rfl, rfl, by omega, hi3a, hi3b, HN.out, HR.out, HK.out, Gr.refl _ _⟩
  obtain ⟨s, i2, dk, rfl, rfl, hs5, hi2a, hi2b, hdk, hpl, hka2, hga2⟩ := hrel
  have HSZ2 := Lib.hid hdk
  have HPL := Lib.hid hpl
  have HK2 := Lib.hid hka2
  have HG2 := Lib.hid hga2
  clear hdk hpl hka2 hga2
  by_cases hs : s = 5
  · have hsI : ¬ (s : Int) < 5 := by omega
    have HFIN := Lib.hid (show res = (dk, false) from by rw [← HPL.out, hs]; rfl)
    go_wp2_with fail
    go_ret
    rw [HFIN.out]
    exact ⟨rfl, HK2.out, HG2.out⟩
  have hsI : (s : Int) < 5 := by omega
  obtain ⟨t, ht⟩ : ∃ t, 5 - s = t + 1 := ⟨4 - s, by omega⟩
  have HT := Lib.hid ht
  rw [ht] at HPL
  clear ht
  go_wp2_with fail
  go_loopw [9] (fun iv wr => ∃ q : Nat, iv = .int .i64 (q : Nat) ∧ i2 ≤ q ∧ q ≤ b ∧ Sort.scanSorted (ltK ts) dk b q = Sort.scanSorted (ltK ts) dk b i2 ∧ KA wr g dk ∧ Gr (fun x => x = g) w wr) (fun iv _ => b + 1 - (intOf iv).toNat)
  case atStart => exact ⟨i2, rfl, Nat.le_refl _, hi2b, rfl, HK2.out, HG2.out⟩
  obtain ⟨q, rfl, hqi, hqb, hsc, hka, hga⟩ := hrel
  have HSC := Lib.hid hsc
  have HKA := Lib.hid hka
  have HGA := Lib.hid hga
  clear hsc hka hga
  obtain ⟨r, hr⟩ : ∃ r, r = q - 1 := ⟨_, rfl⟩
  have hr1 : r + 1 = q := by omega
  have HQ := Lib.hid hr
  have hra : a ≤ r := by omega
  have hrb : r < b := by omega
  have hrn : (r : Int) < (n : Int) := by omega
  clear hr hr1
  go_upto_region 5 with fail
  obtain ⟨tb, htb⟩ : ∃ tb, tb = (decide (q < b) && !ltK ts dk[q]! dk[r]!) := ⟨_, rfl⟩
  have HTB := Lib.hid htb
  clear htb
  go_cut [36] (fun sv wx => sv = .bool tb ∧ KA wx g dk ∧ Gr (fun x => x = g) w wx)
  case first =>
    by_cases hle : q < b
    · have hleI : (q : Int) < (b : Int) := by omega
      have hq1I : (q : Int) < (n : Int) := by omega
      obtain ⟨eb, heb⟩ : ∃ vb, ltK ts dk[q]! dk[r]! = vb := ⟨_, rfl⟩
      obtain ⟨m0, m1, m2⟩ := HKA.out.cell q (by rw [HSZ2.out]; omega)
      obtain ⟨p0, p1, p2⟩ := HKA.out.cell r (by rw [HSZ2.out]; omega)
      obtain ⟨cc, hcc, hcall⟩ := cmpAt (HS.out.gr HGA.out (fun _ e => .inl (by rw [e]; exact HFG.out))) dk[q]! dk[r]! eb heb
      have HCC := Lib.hid hcc
      have HEB := Lib.hid heb
      clear hcc heb
      generalize dk[q]! = x at m0 m1 m2 hcall
      generalize dk[r]! = y at p0 p1 p2 hcall
      obtain ⟨x1, x2, x3⟩ := x
      obtain ⟨y1, y2, y3⟩ := y
      simp only at m0 m1 m2 p0 p1 p2 hcall
      have HCALL := Lib.hid hcall
      have hC0 : Cells [(⟨g, q * 3, none⟩, .string x1), (⟨g, q * 3 + 1, none⟩, .int .i64 x2), (⟨g, q * 3 + 2, none⟩, .int .i64 x3), (⟨g, r * 3, none⟩, .string y1), (⟨g, r * 3 + 1, none⟩, .int .i64 y2), (⟨g, r * 3 + 2, none⟩, .int .i64 y3)] wr := ⟨m0, m1, m2, p0, p1, p2, trivial⟩
      clear m0 m1 m2 p0 p1 p2 hcall
      refine wp_region_T (Cells [(⟨g, q * 3, none⟩, .string x1), (⟨g, q * 3 + 1, none⟩, .int .i64 x2), (⟨g, q * 3 + 2, none⟩, .int .i64 x3), (⟨g, r * 3, none⟩, .string y1), (⟨g, r * 3 + 1, none⟩, .int .i64 y2), (⟨g, r * 3 + 2, none⟩, .int .i64 y3)]) (fun _ => false) (by kernel_rfl) ?_
      have hSss1 := Cells.drew hC0
      have hB_0_s1 : Below wr.heap.size wr wr.drew := below_drew _
      generalize wr.drew = s1 at hSss1 hB_0_s1 ⊢
      have hB_s1_s1 := Below.refl s1.heap.size s1
      refine wpAnyT_pure (i := 0) (v := ?_) rfl (by kernel_rfl) (by kernel_rfl) (by kernel_rfl) (fun _ _ _ h => h) (by rfl) ?_ ?_
      rotate_left
      · intro w; go_simp; try with_reducible rfl
      simp only [Act.put, rgA, rgB, rgC, rgD, rgE, rgF]
      refine wpAnyT_pure (i := 1) (v := ?_) rfl (by kernel_rfl) (by kernel_rfl) (by kernel_rfl) (fun _ _ _ h => h) (by rfl) ?_ ?_
      rotate_left
      · intro w; go_simp; try with_reducible rfl
      simp only [Act.put, rgA, rgB, rgC, rgD, rgE, rgF]
      refine wpAnyT_pure (i := 2) (v := (.bool true)) rfl (by kernel_rfl) (by kernel_rfl) (by kernel_rfl) (fun _ _ _ h => h) (by rfl) ?_ ?_
      · intro w; go_simp <;> omega
      simp only [Act.put, rgA, rgB, rgC, rgD, rgE, rgF]
      refine wpAnyT_pure (i := 3) (v := ?_) rfl (by kernel_rfl) (by kernel_rfl) (by kernel_rfl) (fun _ _ _ h => h) (by rfl) ?_ ?_
      rotate_left
      · intro w; go_simp; try with_reducible rfl
      simp only [Act.put, rgA, rgB, rgC, rgD, rgE, rgF]
      refine wpAnyT_pure (i := 4) (v := ?_) rfl (by kernel_rfl) (by kernel_rfl) (by kernel_rfl) (fun _ _ _ h => h) (by rfl) ?_ ?_
      rotate_left
      · intro w; go_simp; try with_reducible rfl
      simp only [Act.put, rgA, rgB, rgC, rgD, rgE, rgF]
      refine wpAnyT_pure (i := 5) (v := ?_) rfl (by kernel_rfl) (by kernel_rfl) (by kernel_rfl) (fun _ _ _ h => h) (by rfl) ?_ ?_
      rotate_left
      · intro w; go_simp; try with_reducible rfl
      simp only [Act.put, rgA, rgB, rgC, rgD, rgE, rgF]
      refine wpAnyT_pure (i := 6) (v := ?_) rfl (by kernel_rfl) (by kernel_rfl) (by kernel_rfl) (fun _ _ _ h => h) (by rfl) ?_ ?_
      rotate_left
      · intro w; go_simp; try with_reducible rfl
      simp only [Act.put, rgA, rgB, rgC, rgD, rgE, rgF]
      refine wpAnyT_pure (i := 7) (v := ?_) rfl (by kernel_rfl) (by kernel_rfl) (by kernel_rfl) (fun _ _ _ h => h) (by rfl) ?_ ?_
      rotate_left
      · intro w; go_simp; try with_reducible rfl
      simp only [Act.put, rgA, rgB, rgC, rgD, rgE, rgF]
      refine wpAnyT_pure (i := 9) (v := ?_) rfl (by kernel_rfl) (by kernel_rfl) (by kernel_rfl) (fun _ _ _ h => h) (by rfl) ?_ ?_
      rotate_left
      · intro w; go_simp; try with_reducible rfl
      simp only [Act.put, rgA, rgB, rgC, rgD, rgE, rgF]
      refine wpAnyT_pure (i := 10) (v := ?_) rfl (by kernel_rfl) (by kernel_rfl) (by kernel_rfl) (fun _ _ _ h => h) (by rfl) ?_ ?_
      rotate_left
      · intro w; go_simp; try with_reducible rfl
      simp only [Act.put, rgA, rgB, rgC, rgD, rgE, rgF]
      refine wpAnyT_loadW (i := 8) (v := ?_) rfl (by kernel_rfl) (by kernel_rfl) (by kernel_rfl) (by kernel_rfl) (by kernel_rfl) (fun _ _ _ h => h) (Or.inl ⟨by rfl, ?_⟩) hSss1 ?_
      rotate_left
      · intro w hSw; obtain ⟨e0, e1, e2, e3, e4, e5, -⟩ := hSw; go_simp; try with_reducible rfl
      simp only [Act.put, rgA, rgB, rgC, rgD, rgE, rgF]
      refine wpAnyT_pure (i := 11) (v := (.int .i64 (r : Nat))) rfl (by kernel_rfl) (by kernel_rfl) (by kernel_rfl) (fun _ _ _ h => h) (by rfl) ?_ ?_
      · intro w; have hq := HQ.out; clear HQ; go_simp; rw [IntKind.wrap_i64] <;> omega
      simp only [Act.put, rgA, rgB, rgC, rgD, rgE, rgF]
      refine wpAnyT_pure (i := 12) (v := ?_) rfl (by kernel_rfl) (by kernel_rfl) (by kernel_rfl) (fun _ _ _ h => h) (by rfl) ?_ ?_
      rotate_left
      · intro w; go_simp; try with_reducible rfl
      simp only [Act.put, rgA, rgB, rgC, rgD, rgE, rgF]
      refine wpAnyT_loadW (i := 13) (v := ?_) rfl (by kernel_rfl) (by kernel_rfl) (by kernel_rfl) (by kernel_rfl) (by kernel_rfl) (fun _ _ _ h => h) (Or.inl ⟨by rfl, ?_⟩) hSss1 ?_
      rotate_left
      · intro w hSw; obtain ⟨e0, e1, e2, e3, e4, e5, -⟩ := hSw; go_simp; try with_reducible rfl
      simp only [Act.put, rgA, rgB, rgC, rgD, rgE, rgF]
      refine wpAnyT_one (i := 14) (by kernel_rfl) rfl (by rfl) ?_
      refine wp_enter (f := 44) (args := #[.pointer (some ⟨p, 0, none⟩), .agg #[.string x1, .int .i64 x2, .int .i64 x3], .agg #[.string y1, .int .i64 y2, .int .i64 y3]]) (by go_simp) (HCALL.out s1 (Gr.of_below (hB_0_s1.trans ((hB_s1_s1).mono (hB_0_s1).size)))) ?_
      rintro e w102 ⟨rfl, hX⟩
      have hB_s1_w102 := below_step hB_s1_s1 hX
      have hB_w102_w102 := Below.refl w102.heap.size w102
      have hSsw102 := Cells.below hB_s1_w102 hSss1
      clear hX
      refine ⟨_, rfl, fun _ _ => hSsw102, ?_⟩
      try simp only [Act.put, rgA, rgB, rgC, rgD, rgE, rgF]
      refine wpAnyT_pure (i := 15) (v := (.bool eb)) rfl (by kernel_rfl) (by kernel_rfl) (by kernel_rfl) (fun _ _ _ h => h) (by rfl) ?_ ?_
      · intro w; have hq := HCC.out; clear HCC; go_simp <;> exact hq
      simp only [Act.put, rgA, rgB, rgC, rgD, rgE, rgF]
      refine wpAnyT_pure (i := 16) (v := ?_) rfl (by kernel_rfl) (by kernel_rfl) (by kernel_rfl) (fun _ _ _ h => h) (by rfl) ?_ ?_
      rotate_left
      · intro w; go_simp; try with_reducible rfl
      simp only [Act.put, rgA, rgB, rgC, rgD, rgE, rgF]
      refine wpAnyT_pure (i := 17) (v := ?_) rfl (by kernel_rfl) (by kernel_rfl) (by kernel_rfl) (fun _ _ _ h => h) (by rfl) ?_ ?_
      rotate_left
      · intro w; go_simp; try with_reducible rfl
      simp only [Act.put, rgA, rgB, rgC, rgD, rgE, rgF]
      refine wpAnyT_done (by kernel_rfl) ?_ _
      have hbP : Below wr.heap.size wr w102 := hB_0_s1.trans ((hB_s1_w102).mono (hB_0_s1).size)
      have HRK := Lib.hid (HKA.out.below hbP)
      have HRG := Lib.hid (HGA.out.step hbP)
      clear hbP
      go_wp2_with fail
      go_meet
      case rel => exact ⟨by rw [HTB.out, HEB.out, decide_eq_true hle]; rfl, HRK.out, HRG.out⟩
    · have hleI : ¬ (q : Int) < (b : Int) := by omega
      have hC0 : Cells [] wr := trivial
      refine wp_region_T (Cells []) (fun _ => false) (by kernel_rfl) ?_
      have hSss3 := Cells.drew hC0
      have hB_0_s3 : Below wr.heap.size wr wr.drew := below_drew _
      generalize wr.drew = s3 at hSss3 hB_0_s3 ⊢
      have hB_s3_s3 := Below.refl s3.heap.size s3
      refine wpAnyT_pure (i := 0) (v := ?_) rfl (by kernel_rfl) (by kernel_rfl) (by kernel_rfl) (fun _ _ _ h => h) (by rfl) ?_ ?_
      rotate_left
      · intro w; go_simp; try with_reducible rfl
      simp only [Act.put, rgA, rgB, rgC, rgD, rgE, rgF]
      refine wpAnyT_pure (i := 1) (v := ?_) rfl (by kernel_rfl) (by kernel_rfl) (by kernel_rfl) (fun _ _ _ h => h) (by rfl) ?_ ?_
      rotate_left
      · intro w; go_simp; try with_reducible rfl
      simp only [Act.put, rgA, rgB, rgC, rgD, rgE, rgF]
      refine wpAnyT_pure (i := 2) (v := ?_) rfl (by kernel_rfl) (by kernel_rfl) (by kernel_rfl) (fun _ _ _ h => h) (by rfl) ?_ ?_
      rotate_left
      · intro w; go_simp; try with_reducible rfl
      simp only [Act.put, rgA, rgB, rgC, rgD, rgE, rgF]
      refine wpAnyT_pure (i := 3) (v := ?_) rfl (by kernel_rfl) (by kernel_rfl) (by kernel_rfl) (fun _ _ _ h => h) (by rfl) ?_ ?_
      rotate_left
      · intro w; go_simp; try with_reducible rfl
      simp only [Act.put, rgA, rgB, rgC, rgD, rgE, rgF]
      refine wpAnyT_skip (i := 4) rfl (by kernel_rfl) (by kernel_rfl) (by kernel_rfl) (fun _ _ _ h => h) (by rfl) ?_
      simp only [Act.put, rgA, rgB, rgC, rgD, rgE, rgF]
      refine wpAnyT_skip (i := 5) rfl (by kernel_rfl) (by kernel_rfl) (by kernel_rfl) (fun _ _ _ h => h) (by rfl) ?_
      simp only [Act.put, rgA, rgB, rgC, rgD, rgE, rgF]
      refine wpAnyT_skip (i := 6) rfl (by kernel_rfl) (by kernel_rfl) (by kernel_rfl) (fun _ _ _ h => h) (by rfl) ?_
      simp only [Act.put, rgA, rgB, rgC, rgD, rgE, rgF]
      refine wpAnyT_skip (i := 7) rfl (by kernel_rfl) (by kernel_rfl) (by kernel_rfl) (fun _ _ _ h => h) (by rfl) ?_
      simp only [Act.put, rgA, rgB, rgC, rgD, rgE, rgF]
      refine wpAnyT_skip (i := 8) rfl (by kernel_rfl) (by kernel_rfl) (by kernel_rfl) (fun _ _ _ h => h) (by rfl) ?_
      simp only [Act.put, rgA, rgB, rgC, rgD, rgE, rgF]
      refine wpAnyT_skip (i := 9) rfl (by kernel_rfl) (by kernel_rfl) (by kernel_rfl) (fun _ _ _ h => h) (by rfl) ?_
      simp only [Act.put, rgA, rgB, rgC, rgD, rgE, rgF]
      refine wpAnyT_skip (i := 10) rfl (by kernel_rfl) (by kernel_rfl) (by kernel_rfl) (fun _ _ _ h => h) (by rfl) ?_
      simp only [Act.put, rgA, rgB, rgC, rgD, rgE, rgF]
      refine wpAnyT_skip (i := 11) rfl (by kernel_rfl) (by kernel_rfl) (by kernel_rfl) (fun _ _ _ h => h) (by rfl) ?_
      simp only [Act.put, rgA, rgB, rgC, rgD, rgE, rgF]
      refine wpAnyT_skip (i := 12) rfl (by kernel_rfl) (by kernel_rfl) (by kernel_rfl) (fun _ _ _ h => h) (by rfl) ?_
      simp only [Act.put, rgA, rgB, rgC, rgD, rgE, rgF]
      refine wpAnyT_skip (i := 13) rfl (by kernel_rfl) (by kernel_rfl) (by kernel_rfl) (fun _ _ _ h => h) (by rfl) ?_
      simp only [Act.put, rgA, rgB, rgC, rgD, rgE, rgF]
      refine wpAnyT_skip (i := 14) rfl (by kernel_rfl) (by kernel_rfl) (by kernel_rfl) (fun _ _ _ h => h) (by rfl) ?_
      simp only [Act.put, rgA, rgB, rgC, rgD, rgE, rgF]
      refine wpAnyT_skip (i := 15) rfl (by kernel_rfl) (by kernel_rfl) (by kernel_rfl) (fun _ _ _ h => h) (by rfl) ?_
      simp only [Act.put, rgA, rgB, rgC, rgD, rgE, rgF]
      refine wpAnyT_skip (i := 16) rfl (by kernel_rfl) (by kernel_rfl) (by kernel_rfl) (fun _ _ _ h => h) (by rfl) ?_
      simp only [Act.put, rgA, rgB, rgC, rgD, rgE, rgF]
      refine wpAnyT_pure (i := 17) (v := ?_) rfl (by kernel_rfl) (by kernel_rfl) (by kernel_rfl) (fun _ _ _ h => h) (by rfl) ?_ ?_
      rotate_left
      · intro w; go_simp; try with_reducible rfl
      simp only [Act.put, rgA, rgB, rgC, rgD, rgE, rgF]
      refine wpAnyT_done (by kernel_rfl) ?_ _
      have hbP : Below wr.heap.size wr s3 := hB_0_s3.trans ((hB_s3_s3).mono (hB_0_s3).size)
      have HRK := Lib.hid (HKA.out.below hbP)
      have HRG := Lib.hid (HGA.out.step hbP)
      clear hbP
      go_wp2_with fail
      go_meet
      case rel => exact ⟨by rw [HTB.out, decide_eq_false hle]; rfl, HRK.out, HRG.out⟩
  obtain ⟨rfl, hkx, hgx⟩ := hcut
  have HKU := Lib.hid hkx
  have HGU := Lib.hid hgx
  clear hkx hgx
  rcases Bool.eq_false_or_eq_true tb with ht | ht
  · subst ht
    obtain ⟨h1, h2⟩ := Bool.and_eq_true_iff.1 HTB.out.symm
    have h1' := of_decide_eq_true h1
    have HNX := Lib.hid ((ss_go (ltK ts) dk b q r HQ.out h1' h2).symm.trans HSC.out)
    clear h1 h2
    go_wp2_with fail
    go_roundw
    case rel => exact ⟨q + 1, by go_num, by omega, by omega, HNX.out, HKU.out, HGU.out⟩
    case measure => simp [intOf]; try omega
  subst ht
  have HSS := Lib.hid (show Sort.scanSorted (ltK ts) dk b i2 = q from HSC.out.symm.trans (ss_end (ltK ts) dk b q r HQ.out ((Bool.and_eq_false_iff.1 HTB.out.symm).imp of_decide_eq_false id)))
  clear HSC HKA HGA HTB
  by_cases hqe : q = b
  · have HFIN := Lib.hid (show res = (dk, true) from by rw [← HPL.out]; exact pi_true (ltK ts) dk a b t i2 q HSS.out hqe)
    have hqI : (q : Int) = (b : Int) := by omega
    go_wp2_with fail
    go_ret
    rw [HFIN.out]
    exact ⟨rfl, HKU.out, HGU.out⟩
  have hqI : ¬ (q : Int) = (b : Int) := by omega
  have hqn : (q : Int) < (n : Int) := by omega
  by_cases h50 : b - a < 50
  · have HFIN := Lib.hid (show res = (dk, false) from by rw [← HPL.out]; exact pi_few (ltK ts) dk a b t i2 q HSS.out hqe h50)
    have h50I : (b : Int) - (a : Int) < 50 := by omega
    go_wp2_with fail
    go_ret
    rw [HFIN.out]
    exact ⟨rfl, HKU.out, HGU.out⟩
  have h50I : ¬ (b : Int) - (a : Int) < 50 := by omega
  go_wp2_with fail
  obtain ⟨m0, m1, m2⟩ := HKU.out.cell q (by rw [HSZ2.out]; omega)
  obtain ⟨p0, p1, p2⟩ := HKU.out.cell r (by rw [HSZ2.out]; omega)
  have HSW := Lib.hid (show Sort.swp dk q r = (dk.setIfInBounds q dk[r]!).setIfInBounds r dk[q]! from rfl)
  have HSZN := Lib.hid (show (Sort.swp dk q r).size = n from by rw [swp_size]; exact HSZ2.out)
  generalize dk[q]! = x at m0 m1 m2 HSW
  generalize dk[r]! = y at p0 p1 p2 HSW
  obtain ⟨x1, x2, x3⟩ := x
  obtain ⟨y1, y2, y3⟩ := y
  simp only at m0 m1 m2 p0 p1 p2
  have hC0 : Cells [(⟨g, q * 3, none⟩, .string x1), (⟨g, q * 3 + 1, none⟩, .int .i64 x2), (⟨g, q * 3 + 2, none⟩, .int .i64 x3), (⟨g, r * 3, none⟩, .string y1), (⟨g, r * 3 + 1, none⟩, .int .i64 y2), (⟨g, r * 3 + 2, none⟩, .int .i64 y3)] wc := ⟨m0, m1, m2, p0, p1, p2, trivial⟩
  clear m0 m1 m2 p0 p1 p2
  refine wp_region_T (Cells [(⟨g, q * 3, none⟩, .string x1), (⟨g, q * 3 + 1, none⟩, .int .i64 x2), (⟨g, q * 3 + 2, none⟩, .int .i64 x3), (⟨g, r * 3, none⟩, .string y1), (⟨g, r * 3 + 1, none⟩, .int .i64 y2), (⟨g, r * 3 + 2, none⟩, .int .i64 y3)]) (fun i => i == 15 || i == 17) (by kernel_rfl) ?_
  have hSss4 := Cells.drew hC0
  have hB_0_s4 : Below wc.heap.size wc wc.drew := below_drew _
  generalize wc.drew = s4 at hSss4 hB_0_s4 ⊢
  have hB_s4_s4 := Below.refl s4.heap.size s4
  refine wpAnyT_pure (i := 0) (v := ?_) rfl (by kernel_rfl) (by kernel_rfl) (by kernel_rfl) (fun _ _ _ h => h) (by rfl) ?_ ?_
  rotate_left
  · intro w; go_simp; try with_reducible rfl
  simp only [Act.put, rgA, rgB, rgC, rgD, rgE, rgF]
  refine wpAnyT_pure (i := 1) (v := ?_) rfl (by kernel_rfl) (by kernel_rfl) (by kernel_rfl) (fun _ _ _ h => h) (by rfl) ?_ ?_
  rotate_left
  · intro w; go_simp; try with_reducible rfl
  simp only [Act.put, rgA, rgB, rgC, rgD, rgE, rgF]
  refine wpAnyT_pure (i := 2) (v := ?_) rfl (by kernel_rfl) (by kernel_rfl) (by kernel_rfl) (fun _ _ _ h => h) (by rfl) ?_ ?_
  rotate_left
  · intro w; go_simp; try with_reducible rfl
  simp only [Act.put, rgA, rgB, rgC, rgD, rgE, rgF]
  refine wpAnyT_pure (i := 3) (v := ?_) rfl (by kernel_rfl) (by kernel_rfl) (by kernel_rfl) (fun _ _ _ h => h) (by rfl) ?_ ?_
  rotate_left
  · intro w; go_simp; try with_reducible rfl
  simp only [Act.put, rgA, rgB, rgC, rgD, rgE, rgF]
  refine wpAnyT_pure (i := 5) (v := ?_) rfl (by kernel_rfl) (by kernel_rfl) (by kernel_rfl) (fun _ _ _ h => h) (by rfl) ?_ ?_
  rotate_left
  · intro w; go_simp; try with_reducible rfl
  simp only [Act.put, rgA, rgB, rgC, rgD, rgE, rgF]
  refine wpAnyT_pure (i := 6) (v := ?_) rfl (by kernel_rfl) (by kernel_rfl) (by kernel_rfl) (fun _ _ _ h => h) (by rfl) ?_ ?_
  rotate_left
  · intro w; go_simp; try with_reducible rfl
  simp only [Act.put, rgA, rgB, rgC, rgD, rgE, rgF]
  refine wpAnyT_pure (i := 10) (v := ?_) rfl (by kernel_rfl) (by kernel_rfl) (by kernel_rfl) (fun _ _ _ h => h) (by rfl) ?_ ?_
  rotate_left
  · intro w; go_simp; try with_reducible rfl
  simp only [Act.put, rgA, rgB, rgC, rgD, rgE, rgF]
  refine wpAnyT_pure (i := 11) (v := ?_) rfl (by kernel_rfl) (by kernel_rfl) (by kernel_rfl) (fun _ _ _ h => h) (by rfl) ?_ ?_
  rotate_left
  · intro w; go_simp; try with_reducible rfl
  simp only [Act.put, rgA, rgB, rgC, rgD, rgE, rgF]
  refine wpAnyT_pure (i := 12) (v := ?_) rfl (by kernel_rfl) (by kernel_rfl) (by kernel_rfl) (fun _ _ _ h => h) (by rfl) ?_ ?_
  rotate_left
  · intro w; go_simp; try with_reducible rfl
  simp only [Act.put, rgA, rgB, rgC, rgD, rgE, rgF]
  refine wpAnyT_loadW (i := 13) (v := ?_) rfl (by kernel_rfl) (by kernel_rfl) (by kernel_rfl) (by kernel_rfl) (by kernel_rfl) (fun _ _ _ h => h) (Or.inl ⟨by rfl, ?_⟩) hSss4 ?_
  rotate_left
  · intro w hSw; obtain ⟨e0, e1, e2, e3, e4, e5, -⟩ := hSw; go_simp; try with_reducible rfl
  simp only [Act.put, rgA, rgB, rgC, rgD, rgE, rgF]
  refine wpAnyT_pure (i := 4) (v := (.int .i64 (r : Nat))) rfl (by kernel_rfl) (by kernel_rfl) (by kernel_rfl) (fun _ _ _ h => h) (by rfl) ?_ ?_
  · intro w; have hq := HQ.out; clear HQ; go_simp; rw [IntKind.wrap_i64] <;> omega
  simp only [Act.put, rgA, rgB, rgC, rgD, rgE, rgF]
  refine wpAnyT_pure (i := 7) (v := (.int .i64 (r : Nat))) rfl (by kernel_rfl) (by kernel_rfl) (by kernel_rfl) (fun _ _ _ h => h) (by rfl) ?_ ?_
  · intro w; have hq := HQ.out; clear HQ; go_simp; rw [IntKind.wrap_i64] <;> omega
  simp only [Act.put, rgA, rgB, rgC, rgD, rgE, rgF]
  refine wpAnyT_pure (i := 8) (v := ?_) rfl (by kernel_rfl) (by kernel_rfl) (by kernel_rfl) (fun _ _ _ h => h) (by rfl) ?_ ?_
  rotate_left
  · intro w; go_simp; try with_reducible rfl
  simp only [Act.put, rgA, rgB, rgC, rgD, rgE, rgF]
  refine wpAnyT_loadW (i := 9) (v := ?_) rfl (by kernel_rfl) (by kernel_rfl) (by kernel_rfl) (by kernel_rfl) (by kernel_rfl) (fun _ _ _ h => h) (Or.inl ⟨by rfl, ?_⟩) hSss4 ?_
  rotate_left
  · intro w hSw; obtain ⟨e0, e1, e2, e3, e4, e5, -⟩ := hSw; go_simp; try with_reducible rfl
  simp only [Act.put, rgA, rgB, rgC, rgD, rgE, rgF]
  refine wpAnyT_pure (i := 14) (v := ?_) rfl (by kernel_rfl) (by kernel_rfl) (by kernel_rfl) (fun _ _ _ h => h) (by rfl) ?_ ?_
  rotate_left
  · intro w; go_simp; try with_reducible rfl
  simp only [Act.put, rgA, rgB, rgC, rgD, rgE, rgF]
  refine wpAnyT_one (i := 15) (by kernel_rfl) rfl (by rfl) ?_
  have hbS : Below wc.heap.size wc s4 := hB_0_s4.trans ((hB_s4_s4).mono (hB_0_s4).size)
  obtain ⟨hsA, hnA⟩ := (HKU.out.below hbS).set Tryz.prog q (by rw [HSZ2.out]; omega) ⟨y1, y2, y3⟩
  have hgA := (HGU.out.step hbS).trans (gr_setCells g (kvs ⟨y1, y2, y3⟩) (q * 3) s4) (fun _ h => .inl h)
  refine wp_storeK (w' := (s4).setCells g (q * 3) (kvs ⟨y1, y2, y3⟩)) 48 (.tmp 60) (.tmp 55) rfl ⟨g, q * 3, none⟩ (.agg #[.string y1, .int .i64 y2, .int .i64 y3]) (by kernel_rfl) (by kernel_rfl) (sizeK _) hsA ?_
  generalize (s4).setCells g (q * 3) (kvs ⟨y1, y2, y3⟩) = w105 at hnA hgA ⊢
  clear hsA
  refine ⟨fun h => absurd h (by decide), ?_⟩
  try simp only [Act.put, rgA, rgB, rgC, rgD, rgE, rgF]
  refine wpAnyT_pure (i := 16) (v := ?_) rfl (by kernel_rfl) (by kernel_rfl) (by kernel_rfl) (fun _ _ _ h => h) (by rfl) ?_ ?_
  rotate_left
  · intro w; go_simp; try with_reducible rfl
  simp only [Act.put, rgA, rgB, rgC, rgD, rgE, rgF]
  refine wpAnyT_one (i := 17) (by kernel_rfl) rfl (by rfl) ?_
  obtain ⟨hsB, hnB⟩ := hnA.set Tryz.prog r (by rw [Array.size_setIfInBounds, HSZ2.out]; omega) ⟨x1, x2, x3⟩
  have hgB := hgA.trans (gr_setCells g (kvs ⟨x1, x2, x3⟩) (r * 3) w105) (fun _ h => .inl h)
  refine wp_storeK (w' := (w105).setCells g (r * 3) (kvs ⟨x1, x2, x3⟩)) 48 (.tmp 61) (.tmp 59) rfl ⟨g, r * 3, none⟩ (.agg #[.string x1, .int .i64 x2, .int .i64 x3]) (by kernel_rfl) (by kernel_rfl) (sizeK _) hsB ?_
  generalize (w105).setCells g (r * 3) (kvs ⟨x1, x2, x3⟩) = w106 at hnB hgB ⊢
  clear hsB hnA hgA
  refine ⟨fun h => absurd h (by decide), ?_⟩
  try simp only [Act.put, rgA, rgB, rgC, rgD, rgE, rgF]
  refine wpAnyT_done (by kernel_rfl) ?_ _
  obtain ⟨w4, rfl⟩ : ∃ x, x = w106 := ⟨_, rfl⟩
  rw [← HSW.out] at hnB
  have HSZ4 := HSZN
  obtain ⟨d4, hd4⟩ : ∃ x, x = Sort.swp dk q r := ⟨_, rfl⟩
  rw [← hd4] at hnB HSZ4
  obtain ⟨d5, hd5⟩ : ∃ x, x = if q - a ≥ 2 then Sort.shiftDown (ltK ts) r d4 else d4 := ⟨_, rfl⟩
  obtain ⟨d6, hd6⟩ : ∃ x, x = if b - q ≥ 2 then Sort.shiftUp (ltK ts) b (q + 1) d5 else d5 := ⟨_, rfl⟩
  have HPN := Lib.hid (show Sort.partialIns (ltK ts) a b t q d6 = res from by rw [← HPL.out, pi_next (ltK ts) dk d4 d5 d6 a b t i2 q r HQ.out HSS.out hqe h50 hd4 hd5 hd6])
  have HD5 := Lib.hid hd5
  have HD6 := Lib.hid hd6
  have HK4 := Lib.hid hnB
  have HG4 := Lib.hid hgB
  have erI : ((q : Int) - 1) = (r : Int) := by have := HQ.out; omega
  clear hnB hgB HSW HSZN hd4 hd5 hd6 hC0 HKU HGU
  go_upto_if 65 with fail
  go_cut [] (fun wx => d5.size = n ∧ KA wx g d5 ∧ Gr (fun x => x = g) w wx)
  case first =>
    by_cases hqa : q - a ≥ 2
    · have hqaI : (2 : Int) ≤ (q : Int) - (a : Int) := by omega
      have HD5' := Lib.hid (show Sort.shiftDown (ltK ts) r d4 = d5 from by rw [HD5.out, if_pos hqa])
      go_wp2_with fail
      go_loopw [11] (fun jv wr => ∃ (j : Nat) (dj : Array Ky), jv = .int .i64 (j : Nat) ∧ j ≤ r ∧ dj.size = n ∧ Sort.shiftDown (ltK ts) j dj = d5 ∧ KA wr g dj ∧ Gr (fun x => x = g) w wr) (fun jv _ => (intOf jv).toNat)
      case atStart => exact ⟨r, d4, by go_num, Nat.le_refl _, HSZ4.out, HD5'.out, HK4.out, HG4.out⟩
      obtain ⟨j, dj, rfl, hjr, hsz, hsd, hka, hga⟩ := hrel
      have HSZJ := Lib.hid hsz
      have HSDJ := Lib.hid hsd
      have HKJ := Lib.hid hka
      have HGJ := Lib.hid hga
      clear hsz hsd hka hga
      by_cases hj0 : j = 0
      · have hj0I : ¬ (1 : Int) ≤ (j : Int) := by omega
        have HFJ := Lib.hid (show dj = d5 from by rw [← HSDJ.out, hj0]; rfl)
        go_wp2_with fail
        go_meet
        case rel => exact ⟨HFJ.out ▸ HSZJ.out, HFJ.out ▸ HKJ.out, HGJ.out⟩
      have hj0I : (1 : Int) ≤ (j : Int) := by omega
      obtain ⟨u, hu⟩ : ∃ u, u = j - 1 := ⟨_, rfl⟩
      have hu1 : u + 1 = j := by omega
      have HU := Lib.hid hu
      have HU1 := Lib.hid hu1.symm
      have hun : u < n := by omega
      have hjn : j < n := by omega
      have hunI : (u : Int) < (n : Int) := by omega
      have hjnI : (j : Int) < (n : Int) := by omega
      clear hu hu1
      go_wp2_with fail
      obtain ⟨eb, heb⟩ : ∃ vb, ltK ts dj[j]! dj[u]! = vb := ⟨_, rfl⟩
      obtain ⟨m0, m1, m2⟩ := HKJ.out.cell j (by rw [HSZJ.out]; omega)
      obtain ⟨p0, p1, p2⟩ := HKJ.out.cell u (by rw [HSZJ.out]; omega)
      obtain ⟨cc, hcc, hcall⟩ := cmpAt (HS.out.gr HGJ.out (fun _ e => .inl (by rw [e]; exact HFG.out))) dj[j]! dj[u]! eb heb
      have HCC := Lib.hid hcc
      have HEB := Lib.hid heb
      clear hcc heb
      generalize dj[j]! = x at m0 m1 m2 hcall
      generalize dj[u]! = y at p0 p1 p2 hcall
      obtain ⟨x1, x2, x3⟩ := x
      obtain ⟨y1, y2, y3⟩ := y
      simp only at m0 m1 m2 p0 p1 p2 hcall
      have HCALL := Lib.hid hcall
      have hC0 : Cells [(⟨g, j * 3, none⟩, .string x1), (⟨g, j * 3 + 1, none⟩, .int .i64 x2), (⟨g, j * 3 + 2, none⟩, .int .i64 x3), (⟨g, u * 3, none⟩, .string y1), (⟨g, u * 3 + 1, none⟩, .int .i64 y2), (⟨g, u * 3 + 2, none⟩, .int .i64 y3)] wr := ⟨m0, m1, m2, p0, p1, p2, trivial⟩
      clear m0 m1 m2 p0 p1 p2 hcall
      refine wp_region_T (Cells [(⟨g, j * 3, none⟩, .string x1), (⟨g, j * 3 + 1, none⟩, .int .i64 x2), (⟨g, j * 3 + 2, none⟩, .int .i64 x3), (⟨g, u * 3, none⟩, .string y1), (⟨g, u * 3 + 1, none⟩, .int .i64 y2), (⟨g, u * 3 + 2, none⟩, .int .i64 y3)]) (fun _ => false) (by kernel_rfl) ?_
      have hSss7 := Cells.drew hC0
      have hB_0_s7 : Below wr.heap.size wr wr.drew := below_drew _
      generalize wr.drew = s7 at hSss7 hB_0_s7 ⊢
      have hB_s7_s7 := Below.refl s7.heap.size s7
      refine wpAnyT_pure (i := 0) (v := ?_) rfl (by kernel_rfl) (by kernel_rfl) (by kernel_rfl) (fun _ _ _ h => h) (by rfl) ?_ ?_
      rotate_left
      · intro w; go_simp; try with_reducible rfl
      simp only [Act.put, rgA, rgB, rgC, rgD, rgE, rgF]
      refine wpAnyT_pure (i := 1) (v := ?_) rfl (by kernel_rfl) (by kernel_rfl) (by kernel_rfl) (fun _ _ _ h => h) (by rfl) ?_ ?_
      rotate_left
      · intro w; go_simp; try with_reducible rfl
      simp only [Act.put, rgA, rgB, rgC, rgD, rgE, rgF]
      refine wpAnyT_pure (i := 2) (v := ?_) rfl (by kernel_rfl) (by kernel_rfl) (by kernel_rfl) (fun _ _ _ h => h) (by rfl) ?_ ?_
      rotate_left
      · intro w; go_simp; try with_reducible rfl
      simp only [Act.put, rgA, rgB, rgC, rgD, rgE, rgF]
      refine wpAnyT_pure (i := 3) (v := ?_) rfl (by kernel_rfl) (by kernel_rfl) (by kernel_rfl) (fun _ _ _ h => h) (by rfl) ?_ ?_
      rotate_left
      · intro w; go_simp; try with_reducible rfl
      simp only [Act.put, rgA, rgB, rgC, rgD, rgE, rgF]
      refine wpAnyT_pure (i := 5) (v := ?_) rfl (by kernel_rfl) (by kernel_rfl) (by kernel_rfl) (fun _ _ _ h => h) (by rfl) ?_ ?_
      rotate_left
      · intro w; go_simp; try with_reducible rfl
      simp only [Act.put, rgA, rgB, rgC, rgD, rgE, rgF]
      refine wpAnyT_pure (i := 6) (v := ?_) rfl (by kernel_rfl) (by kernel_rfl) (by kernel_rfl) (fun _ _ _ h => h) (by rfl) ?_ ?_
      rotate_left
      · intro w; go_simp; try with_reducible rfl
      simp only [Act.put, rgA, rgB, rgC, rgD, rgE, rgF]
      refine wpAnyT_loadW (i := 4) (v := ?_) rfl (by kernel_rfl) (by kernel_rfl) (by kernel_rfl) (by kernel_rfl) (by kernel_rfl) (fun _ _ _ h => h) (Or.inl ⟨by rfl, ?_⟩) hSss7 ?_
      rotate_left
      · intro w hSw; obtain ⟨e0, e1, e2, e3, e4, e5, -⟩ := hSw; go_simp; try with_reducible rfl
      simp only [Act.put, rgA, rgB, rgC, rgD, rgE, rgF]
      refine wpAnyT_pure (i := 7) (v := (.int .i64 (u : Nat))) rfl (by kernel_rfl) (by kernel_rfl) (by kernel_rfl) (fun _ _ _ h => h) (by rfl) ?_ ?_
      · intro w; have hq := HU.out; clear HU; go_simp; rw [IntKind.wrap_i64] <;> omega
      simp only [Act.put, rgA, rgB, rgC, rgD, rgE, rgF]
      refine wpAnyT_pure (i := 8) (v := ?_) rfl (by kernel_rfl) (by kernel_rfl) (by kernel_rfl) (fun _ _ _ h => h) (by rfl) ?_ ?_
      rotate_left
      · intro w; go_simp; try with_reducible rfl
      simp only [Act.put, rgA, rgB, rgC, rgD, rgE, rgF]
      refine wpAnyT_loadW (i := 9) (v := ?_) rfl (by kernel_rfl) (by kernel_rfl) (by kernel_rfl) (by kernel_rfl) (by kernel_rfl) (fun _ _ _ h => h) (Or.inl ⟨by rfl, ?_⟩) hSss7 ?_
      rotate_left
      · intro w hSw; obtain ⟨e0, e1, e2, e3, e4, e5, -⟩ := hSw; go_simp; try with_reducible rfl
      simp only [Act.put, rgA, rgB, rgC, rgD, rgE, rgF]
      refine wpAnyT_one (i := 10) (by kernel_rfl) rfl (by rfl) ?_
      refine wp_enter (f := 44) (args := #[.pointer (some ⟨p, 0, none⟩), .agg #[.string x1, .int .i64 x2, .int .i64 x3], .agg #[.string y1, .int .i64 y2, .int .i64 y3]]) (by go_simp) (HCALL.out s7 (Gr.of_below (hB_0_s7.trans ((hB_s7_s7).mono (hB_0_s7).size)))) ?_
      rintro e w108 ⟨rfl, hX⟩
      have hB_s7_w108 := below_step hB_s7_s7 hX
      have hB_w108_w108 := Below.refl w108.heap.size w108
      have hSsw108 := Cells.below hB_s7_w108 hSss7
      clear hX
      refine ⟨_, rfl, fun _ _ => hSsw108, ?_⟩
      try simp only [Act.put, rgA, rgB, rgC, rgD, rgE, rgF]
      refine wpAnyT_pure (i := 11) (v := (.bool eb)) rfl (by kernel_rfl) (by kernel_rfl) (by kernel_rfl) (fun _ _ _ h => h) (by rfl) ?_ ?_
      · intro w; have hq := HCC.out; clear HCC; go_simp <;> exact hq
      simp only [Act.put, rgA, rgB, rgC, rgD, rgE, rgF]
      refine wpAnyT_pure (i := 12) (v := ?_) rfl (by kernel_rfl) (by kernel_rfl) (by kernel_rfl) (fun _ _ _ h => h) (by rfl) ?_ ?_
      rotate_left
      · intro w; go_simp; try with_reducible rfl
      simp only [Act.put, rgA, rgB, rgC, rgD, rgE, rgF]
      refine wpAnyT_done (by kernel_rfl) ?_ _
      obtain ⟨w5, rfl⟩ : ∃ x, x = w108 := ⟨_, rfl⟩
      have hbP : Below wr.heap.size wr w5 := hB_0_s7.trans ((hB_s7_w108).mono (hB_0_s7).size)
      have HKL := Lib.hid (HKJ.out.below hbP)
      have HGL := Lib.hid (HGJ.out.step hbP)
      clear hbP hC0
      cases eb
      · have HFJ := Lib.hid (show dj = d5 from by rw [← HSDJ.out, sd_end (ltK ts) dj j u HU1.out HEB.out])
        go_wp2_with fail
        go_meet
        case rel => exact ⟨HFJ.out ▸ HSZJ.out, HFJ.out ▸ HKL.out, HGL.out⟩
      have HNX := Lib.hid ((sd_go (ltK ts) dj j u HU1.out HEB.out).symm.trans HSDJ.out)
      go_wp2_with fail
      obtain ⟨m0, m1, m2⟩ := HKL.out.cell j (by rw [HSZJ.out]; omega)
      obtain ⟨p0, p1, p2⟩ := HKL.out.cell u (by rw [HSZJ.out]; omega)
      have HSW := Lib.hid (show Sort.swp dj j u = (dj.setIfInBounds j dj[u]!).setIfInBounds u dj[j]! from rfl)
      have HSZN := Lib.hid (show (Sort.swp dj j u).size = n from by rw [swp_size]; exact HSZJ.out)
      generalize dj[j]! = x at m0 m1 m2 HSW
      generalize dj[u]! = y at p0 p1 p2 HSW
      obtain ⟨x1, x2, x3⟩ := x
      obtain ⟨y1, y2, y3⟩ := y
      simp only at m0 m1 m2 p0 p1 p2
      have hC0 : Cells [(⟨g, j * 3, none⟩, .string x1), (⟨g, j * 3 + 1, none⟩, .int .i64 x2), (⟨g, j * 3 + 2, none⟩, .int .i64 x3), (⟨g, u * 3, none⟩, .string y1), (⟨g, u * 3 + 1, none⟩, .int .i64 y2), (⟨g, u * 3 + 2, none⟩, .int .i64 y3)] w5 := ⟨m0, m1, m2, p0, p1, p2, trivial⟩
      clear m0 m1 m2 p0 p1 p2
      refine wp_region_T (Cells [(⟨g, j * 3, none⟩, .string x1), (⟨g, j * 3 + 1, none⟩, .int .i64 x2), (⟨g, j * 3 + 2, none⟩, .int .i64 x3), (⟨g, u * 3, none⟩, .string y1), (⟨g, u * 3 + 1, none⟩, .int .i64 y2), (⟨g, u * 3 + 2, none⟩, .int .i64 y3)]) (fun i => i == 15 || i == 17) (by kernel_rfl) ?_
      have hSss9 := Cells.drew hC0
      have hB_0_s9 : Below w5.heap.size w5 w5.drew := below_drew _
      generalize w5.drew = s9 at hSss9 hB_0_s9 ⊢
      have hB_s9_s9 := Below.refl s9.heap.size s9
      refine wpAnyT_pure (i := 0) (v := ?_) rfl (by kernel_rfl) (by kernel_rfl) (by kernel_rfl) (fun _ _ _ h => h) (by rfl) ?_ ?_
      rotate_left
      · intro w; go_simp; try with_reducible rfl
      simp only [Act.put, rgA, rgB, rgC, rgD, rgE, rgF]
      refine wpAnyT_pure (i := 1) (v := ?_) rfl (by kernel_rfl) (by kernel_rfl) (by kernel_rfl) (fun _ _ _ h => h) (by rfl) ?_ ?_
      rotate_left
      · intro w; go_simp; try with_reducible rfl
      simp only [Act.put, rgA, rgB, rgC, rgD, rgE, rgF]
      refine wpAnyT_pure (i := 2) (v := ?_) rfl (by kernel_rfl) (by kernel_rfl) (by kernel_rfl) (fun _ _ _ h => h) (by rfl) ?_ ?_
      rotate_left
      · intro w; go_simp; try with_reducible rfl
      simp only [Act.put, rgA, rgB, rgC, rgD, rgE, rgF]
      refine wpAnyT_pure (i := 3) (v := ?_) rfl (by kernel_rfl) (by kernel_rfl) (by kernel_rfl) (fun _ _ _ h => h) (by rfl) ?_ ?_
      rotate_left
      · intro w; go_simp; try with_reducible rfl
      simp only [Act.put, rgA, rgB, rgC, rgD, rgE, rgF]
      refine wpAnyT_pure (i := 5) (v := ?_) rfl (by kernel_rfl) (by kernel_rfl) (by kernel_rfl) (fun _ _ _ h => h) (by rfl) ?_ ?_
      rotate_left
      · intro w; go_simp; try with_reducible rfl
      simp only [Act.put, rgA, rgB, rgC, rgD, rgE, rgF]
      refine wpAnyT_pure (i := 6) (v := ?_) rfl (by kernel_rfl) (by kernel_rfl) (by kernel_rfl) (fun _ _ _ h => h) (by rfl) ?_ ?_
      rotate_left
      · intro w; go_simp; try with_reducible rfl
      simp only [Act.put, rgA, rgB, rgC, rgD, rgE, rgF]
      refine wpAnyT_pure (i := 10) (v := ?_) rfl (by kernel_rfl) (by kernel_rfl) (by kernel_rfl) (fun _ _ _ h => h) (by rfl) ?_ ?_
      rotate_left
      · intro w; go_simp; try with_reducible rfl
      simp only [Act.put, rgA, rgB, rgC, rgD, rgE, rgF]
      refine wpAnyT_pure (i := 11) (v := ?_) rfl (by kernel_rfl) (by kernel_rfl) (by kernel_rfl) (fun _ _ _ h => h) (by rfl) ?_ ?_
      rotate_left
      · intro w; go_simp; try with_reducible rfl
      simp only [Act.put, rgA, rgB, rgC, rgD, rgE, rgF]
      refine wpAnyT_pure (i := 12) (v := ?_) rfl (by kernel_rfl) (by kernel_rfl) (by kernel_rfl) (fun _ _ _ h => h) (by rfl) ?_ ?_
      rotate_left
      · intro w; go_simp; try with_reducible rfl
      simp only [Act.put, rgA, rgB, rgC, rgD, rgE, rgF]
      refine wpAnyT_loadW (i := 13) (v := ?_) rfl (by kernel_rfl) (by kernel_rfl) (by kernel_rfl) (by kernel_rfl) (by kernel_rfl) (fun _ _ _ h => h) (Or.inl ⟨by rfl, ?_⟩) hSss9 ?_
      rotate_left
      · intro w hSw; obtain ⟨e0, e1, e2, e3, e4, e5, -⟩ := hSw; go_simp; try with_reducible rfl
      simp only [Act.put, rgA, rgB, rgC, rgD, rgE, rgF]
      refine wpAnyT_pure (i := 4) (v := (.int .i64 (u : Nat))) rfl (by kernel_rfl) (by kernel_rfl) (by kernel_rfl) (fun _ _ _ h => h) (by rfl) ?_ ?_
      · intro w; have hq := HU.out; clear HU; go_simp; rw [IntKind.wrap_i64] <;> omega
      simp only [Act.put, rgA, rgB, rgC, rgD, rgE, rgF]
      refine wpAnyT_pure (i := 7) (v := (.int .i64 (u : Nat))) rfl (by kernel_rfl) (by kernel_rfl) (by kernel_rfl) (fun _ _ _ h => h) (by rfl) ?_ ?_
      · intro w; have hq := HU.out; clear HU; go_simp; rw [IntKind.wrap_i64] <;> omega
      simp only [Act.put, rgA, rgB, rgC, rgD, rgE, rgF]
      refine wpAnyT_pure (i := 8) (v := ?_) rfl (by kernel_rfl) (by kernel_rfl) (by kernel_rfl) (fun _ _ _ h => h) (by rfl) ?_ ?_
      rotate_left
      · intro w; go_simp; try with_reducible rfl
      simp only [Act.put, rgA, rgB, rgC, rgD, rgE, rgF]
      refine wpAnyT_loadW (i := 9) (v := ?_) rfl (by kernel_rfl) (by kernel_rfl) (by kernel_rfl) (by kernel_rfl) (by kernel_rfl) (fun _ _ _ h => h) (Or.inl ⟨by rfl, ?_⟩) hSss9 ?_
      rotate_left
      · intro w hSw; obtain ⟨e0, e1, e2, e3, e4, e5, -⟩ := hSw; go_simp; try with_reducible rfl
      simp only [Act.put, rgA, rgB, rgC, rgD, rgE, rgF]
      refine wpAnyT_pure (i := 14) (v := ?_) rfl (by kernel_rfl) (by kernel_rfl) (by kernel_rfl) (fun _ _ _ h => h) (by rfl) ?_ ?_
      rotate_left
      · intro w; go_simp; try with_reducible rfl
      simp only [Act.put, rgA, rgB, rgC, rgD, rgE, rgF]
      refine wpAnyT_one (i := 15) (by kernel_rfl) rfl (by rfl) ?_
      have hbS : Below w5.heap.size w5 s9 := hB_0_s9.trans ((hB_s9_s9).mono (hB_0_s9).size)
      obtain ⟨hsA, hnA⟩ := (HKL.out.below hbS).set Tryz.prog j (by rw [HSZJ.out]; omega) ⟨y1, y2, y3⟩
      have hgA := (HGL.out.step hbS).trans (gr_setCells g (kvs ⟨y1, y2, y3⟩) (j * 3) s9) (fun _ h => .inl h)
      refine wp_storeK (w' := (s9).setCells g (j * 3) (kvs ⟨y1, y2, y3⟩)) 48 (.tmp 99) (.tmp 94) rfl ⟨g, j * 3, none⟩ (.agg #[.string y1, .int .i64 y2, .int .i64 y3]) (by kernel_rfl) (by kernel_rfl) (sizeK _) hsA ?_
      generalize (s9).setCells g (j * 3) (kvs ⟨y1, y2, y3⟩) = w110 at hnA hgA ⊢
      clear hsA
      refine ⟨fun h => absurd h (by decide), ?_⟩
      try simp only [Act.put, rgA, rgB, rgC, rgD, rgE, rgF]
      refine wpAnyT_pure (i := 16) (v := ?_) rfl (by kernel_rfl) (by kernel_rfl) (by kernel_rfl) (fun _ _ _ h => h) (by rfl) ?_ ?_
      rotate_left
      · intro w; go_simp; try with_reducible rfl
      simp only [Act.put, rgA, rgB, rgC, rgD, rgE, rgF]
      refine wpAnyT_one (i := 17) (by kernel_rfl) rfl (by rfl) ?_
      obtain ⟨hsB, hnB⟩ := hnA.set Tryz.prog u (by rw [Array.size_setIfInBounds, HSZJ.out]; omega) ⟨x1, x2, x3⟩
      have hgB := hgA.trans (gr_setCells g (kvs ⟨x1, x2, x3⟩) (u * 3) w110) (fun _ h => .inl h)
      refine wp_storeK (w' := (w110).setCells g (u * 3) (kvs ⟨x1, x2, x3⟩)) 48 (.tmp 100) (.tmp 98) rfl ⟨g, u * 3, none⟩ (.agg #[.string x1, .int .i64 x2, .int .i64 x3]) (by kernel_rfl) (by kernel_rfl) (sizeK _) hsB ?_
      generalize (w110).setCells g (u * 3) (kvs ⟨x1, x2, x3⟩) = w111 at hnB hgB ⊢
      clear hsB hnA hgA
      refine ⟨fun h => absurd h (by decide), ?_⟩
      try simp only [Act.put, rgA, rgB, rgC, rgD, rgE, rgF]
      refine wpAnyT_done (by kernel_rfl) ?_ _
      obtain ⟨w6, rfl⟩ : ∃ x, x = w111 := ⟨_, rfl⟩
      rw [← HSW.out] at hnB
      have HKM := Lib.hid hnB
      have HGM := Lib.hid hgB
      have euI : ((j : Int) - 1) = (u : Int) := by have := HU1.out; omega
      clear hnB hgB HSW hC0
      go_wp2_with fail
      go_roundw
      case rel => exact ⟨u, Sort.swp dj j u, by go_num, by have := HU1.out; omega, HSZN.out, HNX.out, HKM.out, HGM.out⟩
      case measure => have := HU1.out; simp [intOf]; try omega
    · have hqaI : ¬ (2 : Int) ≤ (q : Int) - (a : Int) := by omega
      have HD5' := Lib.hid (show d4 = d5 from by rw [HD5.out, if_neg hqa])
      go_wp2_with fail
      go_meet
      case rel => exact ⟨HD5'.out ▸ HSZ4.out, HD5'.out ▸ HK4.out, HG4.out⟩
  obtain ⟨hs5', hkx, hgx⟩ := hcut
  have HSZ5 := Lib.hid hs5'
  have HK5 := Lib.hid hkx
  have HG5 := Lib.hid hgx
  clear hkx hgx hs5'
  · skip
    by_cases hqa : b - q ≥ 2
    · have hqaI : (2 : Int) ≤ (b : Int) - (q : Int) := by omega
      have HD6' := Lib.hid (show Sort.shiftUp (ltK ts) b (q + 1) d5 = d6 from by rw [HD6.out, if_pos hqa])
      go_wp2_with fail
      go_loopw [12] (fun jv wr => ∃ (j : Nat) (dj : Array Ky), jv = .int .i64 (j : Nat) ∧ q + 1 ≤ j ∧ j ≤ b ∧ dj.size = n ∧ Sort.shiftUp (ltK ts) b j dj = d6 ∧ KA wr g dj ∧ Gr (fun x => x = g) w wr) (fun jv _ => b + 1 - (intOf jv).toNat)
      case atStart => exact ⟨q + 1, d5, by go_num, Nat.le_refl _, by omega, HSZ5.out, HD6'.out, HK5.out, HG5.out⟩
      obtain ⟨j, dj, rfl, hjq, hjb, hsz, hsd, hka, hga⟩ := hrel
      have HSZJ := Lib.hid hsz
      have HSDJ := Lib.hid hsd
      have HKJ := Lib.hid hka
      have HGJ := Lib.hid hga
      clear hsz hsd hka hga
      by_cases hj0 : j < b
      · have hj0I : (j : Int) < (b : Int) := by omega
        obtain ⟨u, hu⟩ : ∃ u, u = j - 1 := ⟨_, rfl⟩
        have hu1 : u + 1 = j := by omega
        have HU := Lib.hid hu
        have HU1 := Lib.hid hu1.symm
        have hun : u < n := by omega
        have hjn : j < n := by omega
        have hunI : (u : Int) < (n : Int) := by omega
        have hjnI : (j : Int) < (n : Int) := by omega
        clear hu hu1
        go_wp2_with fail
        obtain ⟨eb, heb⟩ : ∃ vb, ltK ts dj[j]! dj[u]! = vb := ⟨_, rfl⟩
        obtain ⟨m0, m1, m2⟩ := HKJ.out.cell j (by rw [HSZJ.out]; omega)
        obtain ⟨p0, p1, p2⟩ := HKJ.out.cell u (by rw [HSZJ.out]; omega)
        obtain ⟨cc, hcc, hcall⟩ := cmpAt (HS.out.gr HGJ.out (fun _ e => .inl (by rw [e]; exact HFG.out))) dj[j]! dj[u]! eb heb
        have HCC := Lib.hid hcc
        have HEB := Lib.hid heb
        clear hcc heb
        generalize dj[j]! = x at m0 m1 m2 hcall
        generalize dj[u]! = y at p0 p1 p2 hcall
        obtain ⟨x1, x2, x3⟩ := x
        obtain ⟨y1, y2, y3⟩ := y
        simp only at m0 m1 m2 p0 p1 p2 hcall
        have HCALL := Lib.hid hcall
        have hC0 : Cells [(⟨g, j * 3, none⟩, .string x1), (⟨g, j * 3 + 1, none⟩, .int .i64 x2), (⟨g, j * 3 + 2, none⟩, .int .i64 x3), (⟨g, u * 3, none⟩, .string y1), (⟨g, u * 3 + 1, none⟩, .int .i64 y2), (⟨g, u * 3 + 2, none⟩, .int .i64 y3)] wr := ⟨m0, m1, m2, p0, p1, p2, trivial⟩
        clear m0 m1 m2 p0 p1 p2 hcall
        refine wp_region_T (Cells [(⟨g, j * 3, none⟩, .string x1), (⟨g, j * 3 + 1, none⟩, .int .i64 x2), (⟨g, j * 3 + 2, none⟩, .int .i64 x3), (⟨g, u * 3, none⟩, .string y1), (⟨g, u * 3 + 1, none⟩, .int .i64 y2), (⟨g, u * 3 + 2, none⟩, .int .i64 y3)]) (fun _ => false) (by kernel_rfl) ?_
        have hSss12 := Cells.drew hC0
        have hB_0_s12 : Below wr.heap.size wr wr.drew := below_drew _
        generalize wr.drew = s12 at hSss12 hB_0_s12 ⊢
        have hB_s12_s12 := Below.refl s12.heap.size s12
        refine wpAnyT_pure (i := 0) (v := ?_) rfl (by kernel_rfl) (by kernel_rfl) (by kernel_rfl) (fun _ _ _ h => h) (by rfl) ?_ ?_
        rotate_left
        · intro w; go_simp; try with_reducible rfl
        simp only [Act.put, rgA, rgB, rgC, rgD, rgE, rgF]
        refine wpAnyT_pure (i := 1) (v := ?_) rfl (by kernel_rfl) (by kernel_rfl) (by kernel_rfl) (fun _ _ _ h => h) (by rfl) ?_ ?_
        rotate_left
        · intro w; go_simp; try with_reducible rfl
        simp only [Act.put, rgA, rgB, rgC, rgD, rgE, rgF]
        refine wpAnyT_pure (i := 2) (v := ?_) rfl (by kernel_rfl) (by kernel_rfl) (by kernel_rfl) (fun _ _ _ h => h) (by rfl) ?_ ?_
        rotate_left
        · intro w; go_simp; try with_reducible rfl
        simp only [Act.put, rgA, rgB, rgC, rgD, rgE, rgF]
        refine wpAnyT_pure (i := 3) (v := ?_) rfl (by kernel_rfl) (by kernel_rfl) (by kernel_rfl) (fun _ _ _ h => h) (by rfl) ?_ ?_
        rotate_left
        · intro w; go_simp; try with_reducible rfl
        simp only [Act.put, rgA, rgB, rgC, rgD, rgE, rgF]
        refine wpAnyT_pure (i := 5) (v := ?_) rfl (by kernel_rfl) (by kernel_rfl) (by kernel_rfl) (fun _ _ _ h => h) (by rfl) ?_ ?_
        rotate_left
        · intro w; go_simp; try with_reducible rfl
        simp only [Act.put, rgA, rgB, rgC, rgD, rgE, rgF]
        refine wpAnyT_pure (i := 6) (v := ?_) rfl (by kernel_rfl) (by kernel_rfl) (by kernel_rfl) (fun _ _ _ h => h) (by rfl) ?_ ?_
        rotate_left
        · intro w; go_simp; try with_reducible rfl
        simp only [Act.put, rgA, rgB, rgC, rgD, rgE, rgF]
        refine wpAnyT_loadW (i := 4) (v := ?_) rfl (by kernel_rfl) (by kernel_rfl) (by kernel_rfl) (by kernel_rfl) (by kernel_rfl) (fun _ _ _ h => h) (Or.inl ⟨by rfl, ?_⟩) hSss12 ?_
        rotate_left
        · intro w hSw; obtain ⟨e0, e1, e2, e3, e4, e5, -⟩ := hSw; go_simp; try with_reducible rfl
        simp only [Act.put, rgA, rgB, rgC, rgD, rgE, rgF]
        refine wpAnyT_pure (i := 7) (v := (.int .i64 (u : Nat))) rfl (by kernel_rfl) (by kernel_rfl) (by kernel_rfl) (fun _ _ _ h => h) (by rfl) ?_ ?_
        · intro w; have hq := HU.out; clear HU; go_simp; rw [IntKind.wrap_i64] <;> omega
        simp only [Act.put, rgA, rgB, rgC, rgD, rgE, rgF]
        refine wpAnyT_pure (i := 8) (v := ?_) rfl (by kernel_rfl) (by kernel_rfl) (by kernel_rfl) (fun _ _ _ h => h) (by rfl) ?_ ?_
        rotate_left
        · intro w; go_simp; try with_reducible rfl
        simp only [Act.put, rgA, rgB, rgC, rgD, rgE, rgF]
        refine wpAnyT_loadW (i := 9) (v := ?_) rfl (by kernel_rfl) (by kernel_rfl) (by kernel_rfl) (by kernel_rfl) (by kernel_rfl) (fun _ _ _ h => h) (Or.inl ⟨by rfl, ?_⟩) hSss12 ?_
        rotate_left
        · intro w hSw; obtain ⟨e0, e1, e2, e3, e4, e5, -⟩ := hSw; go_simp; try with_reducible rfl
        simp only [Act.put, rgA, rgB, rgC, rgD, rgE, rgF]
        refine wpAnyT_one (i := 10) (by kernel_rfl) rfl (by rfl) ?_
        refine wp_enter (f := 44) (args := #[.pointer (some ⟨p, 0, none⟩), .agg #[.string x1, .int .i64 x2, .int .i64 x3], .agg #[.string y1, .int .i64 y2, .int .i64 y3]]) (by go_simp) (HCALL.out s12 (Gr.of_below (hB_0_s12.trans ((hB_s12_s12).mono (hB_0_s12).size)))) ?_
        rintro e w113 ⟨rfl, hX⟩
        have hB_s12_w113 := below_step hB_s12_s12 hX
        have hB_w113_w113 := Below.refl w113.heap.size w113
        have hSsw113 := Cells.below hB_s12_w113 hSss12
        clear hX
        refine ⟨_, rfl, fun _ _ => hSsw113, ?_⟩
        try simp only [Act.put, rgA, rgB, rgC, rgD, rgE, rgF]
        refine wpAnyT_pure (i := 11) (v := (.bool eb)) rfl (by kernel_rfl) (by kernel_rfl) (by kernel_rfl) (fun _ _ _ h => h) (by rfl) ?_ ?_
        · intro w; have hq := HCC.out; clear HCC; go_simp <;> exact hq
        simp only [Act.put, rgA, rgB, rgC, rgD, rgE, rgF]
        refine wpAnyT_pure (i := 12) (v := ?_) rfl (by kernel_rfl) (by kernel_rfl) (by kernel_rfl) (fun _ _ _ h => h) (by rfl) ?_ ?_
        rotate_left
        · intro w; go_simp; try with_reducible rfl
        simp only [Act.put, rgA, rgB, rgC, rgD, rgE, rgF]
        refine wpAnyT_done (by kernel_rfl) ?_ _
        obtain ⟨w5, rfl⟩ : ∃ x, x = w113 := ⟨_, rfl⟩
        have hbP : Below wr.heap.size wr w5 := hB_0_s12.trans ((hB_s12_w113).mono (hB_0_s12).size)
        have HKL := Lib.hid (HKJ.out.below hbP)
        have HGL := Lib.hid (HGJ.out.step hbP)
        clear hbP hC0
        cases eb
        · have HFJ := Lib.hid (show dj = d6 from by rw [← HSDJ.out, su_end (ltK ts) dj b j u HU1.out hj0 HEB.out])
          go_wp2_with fail
          go_roundw
          case rel => exact ⟨s + 1, q, d6, by go_num, rfl, by omega, by omega, by omega, HFJ.out ▸ HSZJ.out, by rw [show 5 - (s + 1) = t from by have := HT.out; omega]; exact HPN.out, HFJ.out ▸ HKL.out, HGL.out⟩
          case measure => simp [intOf]; try omega
        have HNX := Lib.hid ((su_go (ltK ts) dj b j u HU1.out hj0 HEB.out).symm.trans HSDJ.out)
        go_wp2_with fail
        obtain ⟨m0, m1, m2⟩ := HKL.out.cell j (by rw [HSZJ.out]; omega)
        obtain ⟨p0, p1, p2⟩ := HKL.out.cell u (by rw [HSZJ.out]; omega)
        have HSW := Lib.hid (show Sort.swp dj j u = (dj.setIfInBounds j dj[u]!).setIfInBounds u dj[j]! from rfl)
        have HSZN := Lib.hid (show (Sort.swp dj j u).size = n from by rw [swp_size]; exact HSZJ.out)
        generalize dj[j]! = x at m0 m1 m2 HSW
        generalize dj[u]! = y at p0 p1 p2 HSW
        obtain ⟨x1, x2, x3⟩ := x
        obtain ⟨y1, y2, y3⟩ := y
        simp only at m0 m1 m2 p0 p1 p2
        have hC0 : Cells [(⟨g, j * 3, none⟩, .string x1), (⟨g, j * 3 + 1, none⟩, .int .i64 x2), (⟨g, j * 3 + 2, none⟩, .int .i64 x3), (⟨g, u * 3, none⟩, .string y1), (⟨g, u * 3 + 1, none⟩, .int .i64 y2), (⟨g, u * 3 + 2, none⟩, .int .i64 y3)] w5 := ⟨m0, m1, m2, p0, p1, p2, trivial⟩
        clear m0 m1 m2 p0 p1 p2
        refine wp_region_T (Cells [(⟨g, j * 3, none⟩, .string x1), (⟨g, j * 3 + 1, none⟩, .int .i64 x2), (⟨g, j * 3 + 2, none⟩, .int .i64 x3), (⟨g, u * 3, none⟩, .string y1), (⟨g, u * 3 + 1, none⟩, .int .i64 y2), (⟨g, u * 3 + 2, none⟩, .int .i64 y3)]) (fun i => i == 15 || i == 17) (by kernel_rfl) ?_
        have hSss14 := Cells.drew hC0
        have hB_0_s14 : Below w5.heap.size w5 w5.drew := below_drew _
        generalize w5.drew = s14 at hSss14 hB_0_s14 ⊢
        have hB_s14_s14 := Below.refl s14.heap.size s14
        refine wpAnyT_pure (i := 0) (v := ?_) rfl (by kernel_rfl) (by kernel_rfl) (by kernel_rfl) (fun _ _ _ h => h) (by rfl) ?_ ?_
        rotate_left
        · intro w; go_simp; try with_reducible rfl
        simp only [Act.put, rgA, rgB, rgC, rgD, rgE, rgF]
        refine wpAnyT_pure (i := 1) (v := ?_) rfl (by kernel_rfl) (by kernel_rfl) (by kernel_rfl) (fun _ _ _ h => h) (by rfl) ?_ ?_
        rotate_left
        · intro w; go_simp; try with_reducible rfl
        simp only [Act.put, rgA, rgB, rgC, rgD, rgE, rgF]
        refine wpAnyT_pure (i := 2) (v := ?_) rfl (by kernel_rfl) (by kernel_rfl) (by kernel_rfl) (fun _ _ _ h => h) (by rfl) ?_ ?_
        rotate_left
        · intro w; go_simp; try with_reducible rfl
        simp only [Act.put, rgA, rgB, rgC, rgD, rgE, rgF]
        refine wpAnyT_pure (i := 3) (v := ?_) rfl (by kernel_rfl) (by kernel_rfl) (by kernel_rfl) (fun _ _ _ h => h) (by rfl) ?_ ?_
        rotate_left
        · intro w; go_simp; try with_reducible rfl
        simp only [Act.put, rgA, rgB, rgC, rgD, rgE, rgF]
        refine wpAnyT_pure (i := 5) (v := ?_) rfl (by kernel_rfl) (by kernel_rfl) (by kernel_rfl) (fun _ _ _ h => h) (by rfl) ?_ ?_
        rotate_left
        · intro w; go_simp; try with_reducible rfl
        simp only [Act.put, rgA, rgB, rgC, rgD, rgE, rgF]
        refine wpAnyT_pure (i := 6) (v := ?_) rfl (by kernel_rfl) (by kernel_rfl) (by kernel_rfl) (fun _ _ _ h => h) (by rfl) ?_ ?_
        rotate_left
        · intro w; go_simp; try with_reducible rfl
        simp only [Act.put, rgA, rgB, rgC, rgD, rgE, rgF]
        refine wpAnyT_pure (i := 10) (v := ?_) rfl (by kernel_rfl) (by kernel_rfl) (by kernel_rfl) (fun _ _ _ h => h) (by rfl) ?_ ?_
        rotate_left
        · intro w; go_simp; try with_reducible rfl
        simp only [Act.put, rgA, rgB, rgC, rgD, rgE, rgF]
        refine wpAnyT_pure (i := 11) (v := ?_) rfl (by kernel_rfl) (by kernel_rfl) (by kernel_rfl) (fun _ _ _ h => h) (by rfl) ?_ ?_
        rotate_left
        · intro w; go_simp; try with_reducible rfl
        simp only [Act.put, rgA, rgB, rgC, rgD, rgE, rgF]
        refine wpAnyT_pure (i := 12) (v := ?_) rfl (by kernel_rfl) (by kernel_rfl) (by kernel_rfl) (fun _ _ _ h => h) (by rfl) ?_ ?_
        rotate_left
        · intro w; go_simp; try with_reducible rfl
        simp only [Act.put, rgA, rgB, rgC, rgD, rgE, rgF]
        refine wpAnyT_loadW (i := 13) (v := ?_) rfl (by kernel_rfl) (by kernel_rfl) (by kernel_rfl) (by kernel_rfl) (by kernel_rfl) (fun _ _ _ h => h) (Or.inl ⟨by rfl, ?_⟩) hSss14 ?_
        rotate_left
        · intro w hSw; obtain ⟨e0, e1, e2, e3, e4, e5, -⟩ := hSw; go_simp; try with_reducible rfl
        simp only [Act.put, rgA, rgB, rgC, rgD, rgE, rgF]
        refine wpAnyT_pure (i := 4) (v := (.int .i64 (u : Nat))) rfl (by kernel_rfl) (by kernel_rfl) (by kernel_rfl) (fun _ _ _ h => h) (by rfl) ?_ ?_
        · intro w; have hq := HU.out; clear HU; go_simp; rw [IntKind.wrap_i64] <;> omega
        simp only [Act.put, rgA, rgB, rgC, rgD, rgE, rgF]
        refine wpAnyT_pure (i := 7) (v := (.int .i64 (u : Nat))) rfl (by kernel_rfl) (by kernel_rfl) (by kernel_rfl) (fun _ _ _ h => h) (by rfl) ?_ ?_
        · intro w; have hq := HU.out; clear HU; go_simp; rw [IntKind.wrap_i64] <;> omega
        simp only [Act.put, rgA, rgB, rgC, rgD, rgE, rgF]
        refine wpAnyT_pure (i := 8) (v := ?_) rfl (by kernel_rfl) (by kernel_rfl) (by kernel_rfl) (fun _ _ _ h => h) (by rfl) ?_ ?_
        rotate_left
        · intro w; go_simp; try with_reducible rfl
        simp only [Act.put, rgA, rgB, rgC, rgD, rgE, rgF]
        refine wpAnyT_loadW (i := 9) (v := ?_) rfl (by kernel_rfl) (by kernel_rfl) (by kernel_rfl) (by kernel_rfl) (by kernel_rfl) (fun _ _ _ h => h) (Or.inl ⟨by rfl, ?_⟩) hSss14 ?_
        rotate_left
        · intro w hSw; obtain ⟨e0, e1, e2, e3, e4, e5, -⟩ := hSw; go_simp; try with_reducible rfl
        simp only [Act.put, rgA, rgB, rgC, rgD, rgE, rgF]
        refine wpAnyT_pure (i := 14) (v := ?_) rfl (by kernel_rfl) (by kernel_rfl) (by kernel_rfl) (fun _ _ _ h => h) (by rfl) ?_ ?_
        rotate_left
        · intro w; go_simp; try with_reducible rfl
        simp only [Act.put, rgA, rgB, rgC, rgD, rgE, rgF]
        refine wpAnyT_one (i := 15) (by kernel_rfl) rfl (by rfl) ?_
        have hbS : Below w5.heap.size w5 s14 := hB_0_s14.trans ((hB_s14_s14).mono (hB_0_s14).size)
        obtain ⟨hsA, hnA⟩ := (HKL.out.below hbS).set Tryz.prog j (by rw [HSZJ.out]; omega) ⟨y1, y2, y3⟩
        have hgA := (HGL.out.step hbS).trans (gr_setCells g (kvs ⟨y1, y2, y3⟩) (j * 3) s14) (fun _ h => .inl h)
        refine wp_storeK (w' := (s14).setCells g (j * 3) (kvs ⟨y1, y2, y3⟩)) 48 (.tmp 139) (.tmp 134) rfl ⟨g, j * 3, none⟩ (.agg #[.string y1, .int .i64 y2, .int .i64 y3]) (by kernel_rfl) (by kernel_rfl) (sizeK _) hsA ?_
        generalize (s14).setCells g (j * 3) (kvs ⟨y1, y2, y3⟩) = w115 at hnA hgA ⊢
        clear hsA
        refine ⟨fun h => absurd h (by decide), ?_⟩
        try simp only [Act.put, rgA, rgB, rgC, rgD, rgE, rgF]
        refine wpAnyT_pure (i := 16) (v := ?_) rfl (by kernel_rfl) (by kernel_rfl) (by kernel_rfl) (fun _ _ _ h => h) (by rfl) ?_ ?_
        rotate_left
        · intro w; go_simp; try with_reducible rfl
        simp only [Act.put, rgA, rgB, rgC, rgD, rgE, rgF]
        refine wpAnyT_one (i := 17) (by kernel_rfl) rfl (by rfl) ?_
        obtain ⟨hsB, hnB⟩ := hnA.set Tryz.prog u (by rw [Array.size_setIfInBounds, HSZJ.out]; omega) ⟨x1, x2, x3⟩
        have hgB := hgA.trans (gr_setCells g (kvs ⟨x1, x2, x3⟩) (u * 3) w115) (fun _ h => .inl h)
        refine wp_storeK (w' := (w115).setCells g (u * 3) (kvs ⟨x1, x2, x3⟩)) 48 (.tmp 140) (.tmp 138) rfl ⟨g, u * 3, none⟩ (.agg #[.string x1, .int .i64 x2, .int .i64 x3]) (by kernel_rfl) (by kernel_rfl) (sizeK _) hsB ?_
        generalize (w115).setCells g (u * 3) (kvs ⟨x1, x2, x3⟩) = w116 at hnB hgB ⊢
        clear hsB hnA hgA
        refine ⟨fun h => absurd h (by decide), ?_⟩
        try simp only [Act.put, rgA, rgB, rgC, rgD, rgE, rgF]
        refine wpAnyT_done (by kernel_rfl) ?_ _
        obtain ⟨w6, rfl⟩ : ∃ x, x = w116 := ⟨_, rfl⟩
        rw [← HSW.out] at hnB
        have HKM := Lib.hid hnB
        have HGM := Lib.hid hgB
        clear hnB hgB HSW hC0
        go_wp2_with fail
        go_roundw
        case rel => exact ⟨j + 1, Sort.swp dj j u, by go_num, by omega, by omega, HSZN.out, HNX.out, HKM.out, HGM.out⟩
        case measure => simp [intOf]; try omega
      have hj0I : ¬ (j : Int) < (b : Int) := by omega
      have HFJ := Lib.hid (show dj = d6 from by rw [← HSDJ.out, su_out (ltK ts) dj b j hj0])
      go_wp2_with fail
      go_roundw
      case rel => exact ⟨s + 1, q, d6, by go_num, rfl, by omega, by omega, by omega, HFJ.out ▸ HSZJ.out, by rw [show 5 - (s + 1) = t from by have := HT.out; omega]; exact HPN.out, HFJ.out ▸ HKJ.out, HGJ.out⟩
      case measure => simp [intOf]; try omega
    · have hqaI : ¬ (2 : Int) ≤ (b : Int) - (q : Int) := by omega
      have HD6' := Lib.hid (show d5 = d6 from by rw [HD6.out, if_neg hqa])
      go_wp2_with fail
      go_roundw
      case rel => exact ⟨s + 1, q, d6, by go_num, rfl, by omega, by omega, by omega, HD6'.out ▸ HSZ5.out, by rw [show 5 - (s + 1) = t from by have := HT.out; omega]; exact HPN.out, HD6'.out ▸ HK5.out, HG5.out⟩
      case measure => simp [intOf]; try omega
end Go.Proofs.YtdcjocldggmdbaaGreat
