/- Layer 53: the sort of many keys: insertionSort. -/
import Derived.Test.YtdcjocldggmdbaaGreatS53k
import Derived.Sort.AssemblyPlain
set_option linter.unusedSimpArgs false
namespace Go.Proofs.YtdcjocldggmdbaaGreat
open Go.RowKit Go

theorem in_go (lt : Ky → Ky → Bool) (d : Array Ky) (a j r : Nat) (hr : r = j - 1) (h : a < j) (hl : lt d[j]! d[r]! = true) : Sort.insInner lt a j d = Sort.insInner lt a r (Sort.swp d j r) := by
  obtain ⟨k, rfl⟩ : ∃ k, j = k + 1 := ⟨j - 1, by omega⟩
  obtain rfl : r = k := by omega
  rw [Sort.insInner, if_pos (by simp [hl]; omega)]
theorem in_stop (lt : Ky → Ky → Bool) (d : Array Ky) (a j r : Nat) (hr : r = j - 1) (h : ¬ a < j ∨ lt d[j]! d[r]! = false) : Sort.insInner lt a j d = d := by
  cases j with
  | zero => rfl
  | succ k =>
    obtain rfl : r = k := by omega
    rw [Sort.insInner, if_neg]
    rw [Bool.and_eq_true_iff]
    rintro ⟨h1, h2⟩
    rcases h with h | h
    · exact h (of_decide_eq_true h1)
    · rw [h] at h2
      exact absurd h2 (by decide)
theorem out_go (lt : Ky → Ky → Bool) (d : Array Ky) (a b i : Nat) (h : i < b) : Sort.insOuter lt a b i d = Sort.insOuter lt a b (i + 1) (Sort.insInner lt a i d) := by rw [Sort.insOuter, if_pos h]
theorem out_stop (lt : Ky → Ky → Bool) (d : Array Ky) (a b i : Nat) (h : ¬ i < b) : Sort.insOuter lt a b i d = d := by rw [Sort.insOuter, if_neg h]
set_option maxRecDepth 20000 in
set_option maxHeartbeats 4000000 in
theorem insK {S : Nat → Prop} {F : Nat → Prop} (w : World) (p : Nat) (ts : List Tk) (ne np m : Nat) (hS : SCtx S p ts ne np m F w) (g cap n : Nat) (d : Array Ky) (hn : d.size = n) (hn2 : n ≤ 100000) (hK : KA w g d) (hFg : F g) (a b : Nat) (hab : a ≤ b) (hbn : b ≤ n) :
    Calls Tryz.prog 82 #[.slice (some ⟨g, 0, none⟩) n cap, .int .i64 (a : Nat), .int .i64 (b : Nat), cmpV p] w fun e w' => e = .returned (.tuple #[]) ∧ KA w' g (Sort.insertionSort (ltK ts) d a b) ∧ Gr (fun x => x = g) w w' := by
  obtain ⟨res, hr⟩ : ∃ r, Sort.insertionSort (ltK ts) d a b = r := ⟨_, rfl⟩
  rw [hr]
  unfold Sort.insertionSort at hr
  obtain ⟨i3, hi3⟩ : ∃ q, q = a + 1 := ⟨_, rfl⟩
  rw [← hi3] at hr
  have ei : ((a : Int) + 1) = (i3 : Int) := by omega
  have hi3a : a < i3 := by omega
  have hi3b : i3 ≤ b + 1 := by omega
  have HR := Lib.hid hr
  have HK := Lib.hid hK
  have HN := Lib.hid hn
  have HS := Lib.hid hS
  have HFG := Lib.hid hFg
  clear hr hK hn hS hFg hi3
  unfold cmpV
  go_enter Tryz.func82, Tryz.ntmps82
  go_wp2_with fail
  go_loopw [8, 9] (fun iv _ wr => ∃ (i2 : Nat) (dk : Array Ky), iv = .int .i64 (i2 : Nat) ∧ a < i2 ∧ i2 ≤ b + 1 ∧ dk.size = n ∧ Sort.insOuter (ltK ts) a b i2 dk = res ∧ KA wr g dk ∧ Gr (fun x => x = g) w wr) (fun iv _ _ => b + 2 - (intOf iv).toNat)
  case atStart => exact ⟨i3, d, rfl, hi3a, hi3b, HN.out, HR.out, HK.out, Gr.refl _ _⟩
  obtain ⟨i2, dk, rfl, hi2a, hi2b, hdk, hpl, hka2, hga2⟩ := hrel
  have HSZ2 := Lib.hid hdk
  have HPL := Lib.hid hpl
  have HK2 := Lib.hid hka2
  have HG2 := Lib.hid hga2
  clear hdk hpl hka2 hga2
  by_cases hlt : i2 < b
  · have hltI : (i2 : Int) < (b : Int) := by omega
    have HNO := Lib.hid ((out_go (ltK ts) dk a b i2 hlt).symm.trans HPL.out)
    go_wp2_with fail
    go_loopw [9] (fun jv wr => ∃ (q : Nat) (dj : Array Ky), jv = .int .i64 (q : Nat) ∧ q ≤ i2 ∧ a ≤ q ∧ dj.size = n ∧ Sort.insInner (ltK ts) a q dj = Sort.insInner (ltK ts) a i2 dk ∧ KA wr g dj ∧ Gr (fun x => x = g) w wr) (fun jv _ => (intOf jv).toNat)
    case atStart => exact ⟨i2, dk, rfl, Nat.le_refl _, by omega, HSZ2.out, rfl, HK2.out, HG2.out⟩
    obtain ⟨q, dj, rfl, hqi, hqa, hsz, hsc, hka, hga⟩ := hrel
    have HSZJ := Lib.hid hsz
    have HSC := Lib.hid hsc
    have HKA := Lib.hid hka
    have HGA := Lib.hid hga
    clear hsz hsc hka hga
    obtain ⟨r, hr⟩ : ∃ r, r = q - 1 := ⟨_, rfl⟩
    have HQ := Lib.hid hr
    have hrn : r < n := by omega
    have hqn : q < n := by omega
    have hrnI : (r : Int) < (n : Int) := by omega
    have hqnI : (q : Int) < (n : Int) := by omega
    clear hr
    go_upto_region 4 with fail
    obtain ⟨tb, htb⟩ : ∃ tb, tb = (decide (a < q) && ltK ts dj[q]! dj[r]!) := ⟨_, rfl⟩
    have HTB := Lib.hid htb
    clear htb
    go_cut [34] (fun sv wx => sv = .bool tb ∧ KA wx g dj ∧ Gr (fun x => x = g) w wx)
    case first =>
      by_cases hle : a < q
      · have hleI : (a : Int) < (q : Int) := by omega
        have hq1 : 1 ≤ q := by omega
        obtain ⟨eb, heb⟩ : ∃ vb, ltK ts dj[q]! dj[r]! = vb := ⟨_, rfl⟩
        obtain ⟨m0, m1, m2⟩ := HKA.out.cell q (by rw [HSZJ.out]; omega)
        obtain ⟨p0, p1, p2⟩ := HKA.out.cell r (by rw [HSZJ.out]; omega)
        obtain ⟨cc, hcc, hcall⟩ := cmpAt (HS.out.gr HGA.out (fun _ e => .inl (by rw [e]; exact HFG.out))) dj[q]! dj[r]! eb heb
        have HCC := Lib.hid hcc
        have HEB := Lib.hid heb
        clear hcc heb
        generalize dj[q]! = x at m0 m1 m2 hcall
        generalize dj[r]! = y at p0 p1 p2 hcall
        obtain ⟨x1, x2, x3⟩ := x
        obtain ⟨y1, y2, y3⟩ := y
        simp only at m0 m1 m2 p0 p1 p2 hcall
        have HCALL := Lib.hid hcall
        have hC0 : Cells [(⟨g, q * 3, none⟩, .string x1), (⟨g, q * 3 + 1, none⟩, .int .i64 x2), (⟨g, q * 3 + 2, none⟩, .int .i64 x3), (⟨g, r * 3, none⟩, .string y1), (⟨g, r * 3 + 1, none⟩, .int .i64 y2), (⟨g, r * 3 + 2, none⟩, .int .i64 y3)] wr := ⟨m0, m1, m2, p0, p1, p2, trivial⟩
        clear m0 m1 m2 p0 p1 p2 hcall
        refine wp_region_T (Cells [(⟨g, q * 3, none⟩, .string x1), (⟨g, q * 3 + 1, none⟩, .int .i64 x2), (⟨g, q * 3 + 2, none⟩, .int .i64 x3), (⟨g, r * 3, none⟩, .string y1), (⟨g, r * 3 + 1, none⟩, .int .i64 y2), (⟨g, r * 3 + 2, none⟩, .int .i64 y3)]) (fun _ => false) (by kernel_rfl) ?_
        have hSss1 := Cells.drew hC0
        have hB_0_s1 : Below wr.heap.size wr wr.drew := below_drew _
        generalize wr.drew = s1 at hSss1 hB_0_s1 ⊢
        have hB_s1_s1 := Below.refl s1.heap.size s1
        refine wpAnyT_pure (i := 0) (v := ?_) rfl (by kernel_rfl) (by kernel_rfl) (by kernel_rfl) (fun _ _ _ h => h) (by rfl) ?_ ?_
        rotate_left
        · intro w; go_simp; try with_reducible rfl
        simp only [Act.put, rgA, rgB, rgC, rgD, rgE, rgF]
        refine wpAnyT_pure (i := 1) (v := ?_) rfl (by kernel_rfl) (by kernel_rfl) (by kernel_rfl) (fun _ _ _ h => h) (by rfl) ?_ ?_
        rotate_left
        · intro w; go_simp; try with_reducible rfl
        simp only [Act.put, rgA, rgB, rgC, rgD, rgE, rgF]
        refine wpAnyT_pure (i := 2) (v := (.bool true)) rfl (by kernel_rfl) (by kernel_rfl) (by kernel_rfl) (fun _ _ _ h => h) (by rfl) ?_ ?_
        · intro w; go_simp <;> omega
        simp only [Act.put, rgA, rgB, rgC, rgD, rgE, rgF]
        refine wpAnyT_pure (i := 3) (v := ?_) rfl (by kernel_rfl) (by kernel_rfl) (by kernel_rfl) (fun _ _ _ h => h) (by rfl) ?_ ?_
        rotate_left
        · intro w; go_simp; try with_reducible rfl
        simp only [Act.put, rgA, rgB, rgC, rgD, rgE, rgF]
        refine wpAnyT_pure (i := 4) (v := ?_) rfl (by kernel_rfl) (by kernel_rfl) (by kernel_rfl) (fun _ _ _ h => h) (by rfl) ?_ ?_
        rotate_left
        · intro w; go_simp; try with_reducible rfl
        simp only [Act.put, rgA, rgB, rgC, rgD, rgE, rgF]
        refine wpAnyT_pure (i := 5) (v := ?_) rfl (by kernel_rfl) (by kernel_rfl) (by kernel_rfl) (fun _ _ _ h => h) (by rfl) ?_ ?_
        rotate_left
        · intro w; go_simp; try with_reducible rfl
        simp only [Act.put, rgA, rgB, rgC, rgD, rgE, rgF]
        refine wpAnyT_pure (i := 6) (v := ?_) rfl (by kernel_rfl) (by kernel_rfl) (by kernel_rfl) (fun _ _ _ h => h) (by rfl) ?_ ?_
        rotate_left
        · intro w; go_simp; try with_reducible rfl
        simp only [Act.put, rgA, rgB, rgC, rgD, rgE, rgF]
        refine wpAnyT_pure (i := 7) (v := ?_) rfl (by kernel_rfl) (by kernel_rfl) (by kernel_rfl) (fun _ _ _ h => h) (by rfl) ?_ ?_
        rotate_left
        · intro w; go_simp; try with_reducible rfl
        simp only [Act.put, rgA, rgB, rgC, rgD, rgE, rgF]
        refine wpAnyT_pure (i := 9) (v := ?_) rfl (by kernel_rfl) (by kernel_rfl) (by kernel_rfl) (fun _ _ _ h => h) (by rfl) ?_ ?_
        rotate_left
        · intro w; go_simp; try with_reducible rfl
        simp only [Act.put, rgA, rgB, rgC, rgD, rgE, rgF]
        refine wpAnyT_pure (i := 10) (v := ?_) rfl (by kernel_rfl) (by kernel_rfl) (by kernel_rfl) (fun _ _ _ h => h) (by rfl) ?_ ?_
        rotate_left
        · intro w; go_simp; try with_reducible rfl
        simp only [Act.put, rgA, rgB, rgC, rgD, rgE, rgF]
        refine wpAnyT_loadW (i := 8) (v := ?_) rfl (by kernel_rfl) (by kernel_rfl) (by kernel_rfl) (by kernel_rfl) (by kernel_rfl) (fun _ _ _ h => h) (Or.inl ⟨by rfl, ?_⟩) hSss1 ?_
        rotate_left
        · intro w hSw; obtain ⟨e0, e1, e2, e3, e4, e5, -⟩ := hSw; go_simp; try with_reducible rfl
        simp only [Act.put, rgA, rgB, rgC, rgD, rgE, rgF]
        refine wpAnyT_pure (i := 11) (v := (.int .i64 (r : Nat))) rfl (by kernel_rfl) (by kernel_rfl) (by kernel_rfl) (fun _ _ _ h => h) (by rfl) ?_ ?_
        · intro w; have hq := HQ.out; clear HQ; go_simp; rw [IntKind.wrap_i64] <;> omega
        simp only [Act.put, rgA, rgB, rgC, rgD, rgE, rgF]
        refine wpAnyT_pure (i := 12) (v := ?_) rfl (by kernel_rfl) (by kernel_rfl) (by kernel_rfl) (fun _ _ _ h => h) (by rfl) ?_ ?_
        rotate_left
        · intro w; go_simp; try with_reducible rfl
        simp only [Act.put, rgA, rgB, rgC, rgD, rgE, rgF]
        refine wpAnyT_loadW (i := 13) (v := ?_) rfl (by kernel_rfl) (by kernel_rfl) (by kernel_rfl) (by kernel_rfl) (by kernel_rfl) (fun _ _ _ h => h) (Or.inl ⟨by rfl, ?_⟩) hSss1 ?_
        rotate_left
        · intro w hSw; obtain ⟨e0, e1, e2, e3, e4, e5, -⟩ := hSw; go_simp; try with_reducible rfl
        simp only [Act.put, rgA, rgB, rgC, rgD, rgE, rgF]
        refine wpAnyT_one (i := 14) (by kernel_rfl) rfl (by rfl) ?_
        refine wp_enter (f := 44) (args := #[.pointer (some ⟨p, 0, none⟩), .agg #[.string x1, .int .i64 x2, .int .i64 x3], .agg #[.string y1, .int .i64 y2, .int .i64 y3]]) (by go_simp) (HCALL.out s1 (Gr.of_below (hB_0_s1.trans ((hB_s1_s1).mono (hB_0_s1).size)))) ?_
        rintro e w102 ⟨rfl, hX⟩
        have hB_s1_w102 := below_step hB_s1_s1 hX
        have hB_w102_w102 := Below.refl w102.heap.size w102
        have hSsw102 := Cells.below hB_s1_w102 hSss1
        clear hX
        refine ⟨_, rfl, fun _ _ => hSsw102, ?_⟩
        try simp only [Act.put, rgA, rgB, rgC, rgD, rgE, rgF]
        refine wpAnyT_pure (i := 15) (v := (.bool eb)) rfl (by kernel_rfl) (by kernel_rfl) (by kernel_rfl) (fun _ _ _ h => h) (by rfl) ?_ ?_
        · intro w; have hq := HCC.out; clear HCC; go_simp <;> exact hq
        simp only [Act.put, rgA, rgB, rgC, rgD, rgE, rgF]
        refine wpAnyT_pure (i := 16) (v := ?_) rfl (by kernel_rfl) (by kernel_rfl) (by kernel_rfl) (fun _ _ _ h => h) (by rfl) ?_ ?_
        rotate_left
        · intro w; go_simp; try with_reducible rfl
        simp only [Act.put, rgA, rgB, rgC, rgD, rgE, rgF]
        refine wpAnyT_done (by kernel_rfl) ?_ _
        have hbP : Below wr.heap.size wr w102 := hB_0_s1.trans ((hB_s1_w102).mono (hB_0_s1).size)
        have HRK := Lib.hid (HKA.out.below hbP)
        have HRG := Lib.hid (HGA.out.step hbP)
        clear hbP
        go_wp2_with fail
        go_meet
        case rel => exact ⟨by rw [HTB.out, HEB.out, decide_eq_true hle]; rfl, HRK.out, HRG.out⟩
      · have hleI : ¬ (a : Int) < (q : Int) := by omega
        have hC0 : Cells [] wr := trivial
        refine wp_region_T (Cells []) (fun _ => false) (by kernel_rfl) ?_
        have hSss3 := Cells.drew hC0
        have hB_0_s3 : Below wr.heap.size wr wr.drew := below_drew _
        generalize wr.drew = s3 at hSss3 hB_0_s3 ⊢
        have hB_s3_s3 := Below.refl s3.heap.size s3
        refine wpAnyT_pure (i := 0) (v := ?_) rfl (by kernel_rfl) (by kernel_rfl) (by kernel_rfl) (fun _ _ _ h => h) (by rfl) ?_ ?_
        rotate_left
        · intro w; go_simp; try with_reducible rfl
        simp only [Act.put, rgA, rgB, rgC, rgD, rgE, rgF]
        refine wpAnyT_pure (i := 1) (v := ?_) rfl (by kernel_rfl) (by kernel_rfl) (by kernel_rfl) (fun _ _ _ h => h) (by rfl) ?_ ?_
        rotate_left
        · intro w; go_simp; try with_reducible rfl
        simp only [Act.put, rgA, rgB, rgC, rgD, rgE, rgF]
        refine wpAnyT_pure (i := 2) (v := ?_) rfl (by kernel_rfl) (by kernel_rfl) (by kernel_rfl) (fun _ _ _ h => h) (by rfl) ?_ ?_
        rotate_left
        · intro w; go_simp; try with_reducible rfl
        simp only [Act.put, rgA, rgB, rgC, rgD, rgE, rgF]
        refine wpAnyT_pure (i := 3) (v := ?_) rfl (by kernel_rfl) (by kernel_rfl) (by kernel_rfl) (fun _ _ _ h => h) (by rfl) ?_ ?_
        rotate_left
        · intro w; go_simp; try with_reducible rfl
        simp only [Act.put, rgA, rgB, rgC, rgD, rgE, rgF]
        refine wpAnyT_skip (i := 4) rfl (by kernel_rfl) (by kernel_rfl) (by kernel_rfl) (fun _ _ _ h => h) (by rfl) ?_
        simp only [Act.put, rgA, rgB, rgC, rgD, rgE, rgF]
        refine wpAnyT_skip (i := 5) rfl (by kernel_rfl) (by kernel_rfl) (by kernel_rfl) (fun _ _ _ h => h) (by rfl) ?_
        simp only [Act.put, rgA, rgB, rgC, rgD, rgE, rgF]
        refine wpAnyT_skip (i := 6) rfl (by kernel_rfl) (by kernel_rfl) (by kernel_rfl) (fun _ _ _ h => h) (by rfl) ?_
        simp only [Act.put, rgA, rgB, rgC, rgD, rgE, rgF]
        refine wpAnyT_skip (i := 7) rfl (by kernel_rfl) (by kernel_rfl) (by kernel_rfl) (fun _ _ _ h => h) (by rfl) ?_
        simp only [Act.put, rgA, rgB, rgC, rgD, rgE, rgF]
        refine wpAnyT_skip (i := 8) rfl (by kernel_rfl) (by kernel_rfl) (by kernel_rfl) (fun _ _ _ h => h) (by rfl) ?_
        simp only [Act.put, rgA, rgB, rgC, rgD, rgE, rgF]
        refine wpAnyT_skip (i := 9) rfl (by kernel_rfl) (by kernel_rfl) (by kernel_rfl) (fun _ _ _ h => h) (by rfl) ?_
        simp only [Act.put, rgA, rgB, rgC, rgD, rgE, rgF]
        refine wpAnyT_skip (i := 10) rfl (by kernel_rfl) (by kernel_rfl) (by kernel_rfl) (fun _ _ _ h => h) (by rfl) ?_
        simp only [Act.put, rgA, rgB, rgC, rgD, rgE, rgF]
        refine wpAnyT_skip (i := 11) rfl (by kernel_rfl) (by kernel_rfl) (by kernel_rfl) (fun _ _ _ h => h) (by rfl) ?_
        simp only [Act.put, rgA, rgB, rgC, rgD, rgE, rgF]
        refine wpAnyT_skip (i := 12) rfl (by kernel_rfl) (by kernel_rfl) (by kernel_rfl) (fun _ _ _ h => h) (by rfl) ?_
        simp only [Act.put, rgA, rgB, rgC, rgD, rgE, rgF]
        refine wpAnyT_skip (i := 13) rfl (by kernel_rfl) (by kernel_rfl) (by kernel_rfl) (fun _ _ _ h => h) (by rfl) ?_
        simp only [Act.put, rgA, rgB, rgC, rgD, rgE, rgF]
        refine wpAnyT_skip (i := 14) rfl (by kernel_rfl) (by kernel_rfl) (by kernel_rfl) (fun _ _ _ h => h) (by rfl) ?_
        simp only [Act.put, rgA, rgB, rgC, rgD, rgE, rgF]
        refine wpAnyT_skip (i := 15) rfl (by kernel_rfl) (by kernel_rfl) (by kernel_rfl) (fun _ _ _ h => h) (by rfl) ?_
        simp only [Act.put, rgA, rgB, rgC, rgD, rgE, rgF]
        refine wpAnyT_pure (i := 16) (v := ?_) rfl (by kernel_rfl) (by kernel_rfl) (by kernel_rfl) (fun _ _ _ h => h) (by rfl) ?_ ?_
        rotate_left
        · intro w; go_simp; try with_reducible rfl
        simp only [Act.put, rgA, rgB, rgC, rgD, rgE, rgF]
        refine wpAnyT_done (by kernel_rfl) ?_ _
        have hbP : Below wr.heap.size wr s3 := hB_0_s3.trans ((hB_s3_s3).mono (hB_0_s3).size)
        have HRK := Lib.hid (HKA.out.below hbP)
        have HRG := Lib.hid (HGA.out.step hbP)
        clear hbP
        go_wp2_with fail
        go_meet
        case rel => exact ⟨by rw [HTB.out, decide_eq_false hle]; rfl, HRK.out, HRG.out⟩
    obtain ⟨rfl, hkx, hgx⟩ := hcut
    have HKU := Lib.hid hkx
    have HGU := Lib.hid hgx
    clear hkx hgx
    rcases Bool.eq_false_or_eq_true tb with ht | ht
    · subst ht
      obtain ⟨h1, h2⟩ := Bool.and_eq_true_iff.1 HTB.out.symm
      have h1' := of_decide_eq_true h1
      have HNX := Lib.hid ((in_go (ltK ts) dj a q r HQ.out h1' h2).symm.trans HSC.out)
      have hq1 : 1 ≤ q := by omega
      clear h1 h2
      go_wp2_with fail
      obtain ⟨m0, m1, m2⟩ := HKU.out.cell q (by rw [HSZJ.out]; omega)
      obtain ⟨p0, p1, p2⟩ := HKU.out.cell r (by rw [HSZJ.out]; omega)
      have HSW := Lib.hid (show Sort.swp dj q r = (dj.setIfInBounds q dj[r]!).setIfInBounds r dj[q]! from rfl)
      have HSZN := Lib.hid (show (Sort.swp dj q r).size = n from by rw [swp_size]; exact HSZJ.out)
      generalize dj[q]! = x at m0 m1 m2 HSW
      generalize dj[r]! = y at p0 p1 p2 HSW
      obtain ⟨x1, x2, x3⟩ := x
      obtain ⟨y1, y2, y3⟩ := y
      simp only at m0 m1 m2 p0 p1 p2
      have hC0 : Cells [(⟨g, q * 3, none⟩, .string x1), (⟨g, q * 3 + 1, none⟩, .int .i64 x2), (⟨g, q * 3 + 2, none⟩, .int .i64 x3), (⟨g, r * 3, none⟩, .string y1), (⟨g, r * 3 + 1, none⟩, .int .i64 y2), (⟨g, r * 3 + 2, none⟩, .int .i64 y3)] wc := ⟨m0, m1, m2, p0, p1, p2, trivial⟩
      clear m0 m1 m2 p0 p1 p2
      refine wp_region_T (Cells [(⟨g, q * 3, none⟩, .string x1), (⟨g, q * 3 + 1, none⟩, .int .i64 x2), (⟨g, q * 3 + 2, none⟩, .int .i64 x3), (⟨g, r * 3, none⟩, .string y1), (⟨g, r * 3 + 1, none⟩, .int .i64 y2), (⟨g, r * 3 + 2, none⟩, .int .i64 y3)]) (fun i => i == 15 || i == 17) (by kernel_rfl) ?_
      have hSss4 := Cells.drew hC0
      have hB_0_s4 : Below wc.heap.size wc wc.drew := below_drew _
      generalize wc.drew = s4 at hSss4 hB_0_s4 ⊢
      have hB_s4_s4 := Below.refl s4.heap.size s4
      refine wpAnyT_pure (i := 0) (v := ?_) rfl (by kernel_rfl) (by kernel_rfl) (by kernel_rfl) (fun _ _ _ h => h) (by rfl) ?_ ?_
      rotate_left
      · intro w; go_simp; try with_reducible rfl
      simp only [Act.put, rgA, rgB, rgC, rgD, rgE, rgF]
      refine wpAnyT_pure (i := 1) (v := ?_) rfl (by kernel_rfl) (by kernel_rfl) (by kernel_rfl) (fun _ _ _ h => h) (by rfl) ?_ ?_
      rotate_left
      · intro w; go_simp; try with_reducible rfl
      simp only [Act.put, rgA, rgB, rgC, rgD, rgE, rgF]
      refine wpAnyT_pure (i := 2) (v := ?_) rfl (by kernel_rfl) (by kernel_rfl) (by kernel_rfl) (fun _ _ _ h => h) (by rfl) ?_ ?_
      rotate_left
      · intro w; go_simp; try with_reducible rfl
      simp only [Act.put, rgA, rgB, rgC, rgD, rgE, rgF]
      refine wpAnyT_pure (i := 3) (v := ?_) rfl (by kernel_rfl) (by kernel_rfl) (by kernel_rfl) (fun _ _ _ h => h) (by rfl) ?_ ?_
      rotate_left
      · intro w; go_simp; try with_reducible rfl
      simp only [Act.put, rgA, rgB, rgC, rgD, rgE, rgF]
      refine wpAnyT_pure (i := 5) (v := ?_) rfl (by kernel_rfl) (by kernel_rfl) (by kernel_rfl) (fun _ _ _ h => h) (by rfl) ?_ ?_
      rotate_left
      · intro w; go_simp; try with_reducible rfl
      simp only [Act.put, rgA, rgB, rgC, rgD, rgE, rgF]
      refine wpAnyT_pure (i := 6) (v := ?_) rfl (by kernel_rfl) (by kernel_rfl) (by kernel_rfl) (fun _ _ _ h => h) (by rfl) ?_ ?_
      rotate_left
      · intro w; go_simp; try with_reducible rfl
      simp only [Act.put, rgA, rgB, rgC, rgD, rgE, rgF]
      refine wpAnyT_pure (i := 10) (v := ?_) rfl (by kernel_rfl) (by kernel_rfl) (by kernel_rfl) (fun _ _ _ h => h) (by rfl) ?_ ?_
      rotate_left
      · intro w; go_simp; try with_reducible rfl
      simp only [Act.put, rgA, rgB, rgC, rgD, rgE, rgF]
      refine wpAnyT_pure (i := 11) (v := ?_) rfl (by kernel_rfl) (by kernel_rfl) (by kernel_rfl) (fun _ _ _ h => h) (by rfl) ?_ ?_
      rotate_left
      · intro w; go_simp; try with_reducible rfl
      simp only [Act.put, rgA, rgB, rgC, rgD, rgE, rgF]
      refine wpAnyT_pure (i := 12) (v := ?_) rfl (by kernel_rfl) (by kernel_rfl) (by kernel_rfl) (fun _ _ _ h => h) (by rfl) ?_ ?_
      rotate_left
      · intro w; go_simp; try with_reducible rfl
      simp only [Act.put, rgA, rgB, rgC, rgD, rgE, rgF]
      refine wpAnyT_loadW (i := 13) (v := ?_) rfl (by kernel_rfl) (by kernel_rfl) (by kernel_rfl) (by kernel_rfl) (by kernel_rfl) (fun _ _ _ h => h) (Or.inl ⟨by rfl, ?_⟩) hSss4 ?_
      rotate_left
      · intro w hSw; obtain ⟨e0, e1, e2, e3, e4, e5, -⟩ := hSw; go_simp; try with_reducible rfl
      simp only [Act.put, rgA, rgB, rgC, rgD, rgE, rgF]
      refine wpAnyT_pure (i := 4) (v := (.int .i64 (r : Nat))) rfl (by kernel_rfl) (by kernel_rfl) (by kernel_rfl) (fun _ _ _ h => h) (by rfl) ?_ ?_
      · intro w; have hq := HQ.out; clear HQ; go_simp; rw [IntKind.wrap_i64] <;> omega
      simp only [Act.put, rgA, rgB, rgC, rgD, rgE, rgF]
      refine wpAnyT_pure (i := 7) (v := (.int .i64 (r : Nat))) rfl (by kernel_rfl) (by kernel_rfl) (by kernel_rfl) (fun _ _ _ h => h) (by rfl) ?_ ?_
      · intro w; have hq := HQ.out; clear HQ; go_simp; rw [IntKind.wrap_i64] <;> omega
      simp only [Act.put, rgA, rgB, rgC, rgD, rgE, rgF]
      refine wpAnyT_pure (i := 8) (v := ?_) rfl (by kernel_rfl) (by kernel_rfl) (by kernel_rfl) (fun _ _ _ h => h) (by rfl) ?_ ?_
      rotate_left
      · intro w; go_simp; try with_reducible rfl
      simp only [Act.put, rgA, rgB, rgC, rgD, rgE, rgF]
      refine wpAnyT_loadW (i := 9) (v := ?_) rfl (by kernel_rfl) (by kernel_rfl) (by kernel_rfl) (by kernel_rfl) (by kernel_rfl) (fun _ _ _ h => h) (Or.inl ⟨by rfl, ?_⟩) hSss4 ?_
      rotate_left
      · intro w hSw; obtain ⟨e0, e1, e2, e3, e4, e5, -⟩ := hSw; go_simp; try with_reducible rfl
      simp only [Act.put, rgA, rgB, rgC, rgD, rgE, rgF]
      refine wpAnyT_pure (i := 14) (v := ?_) rfl (by kernel_rfl) (by kernel_rfl) (by kernel_rfl) (fun _ _ _ h => h) (by rfl) ?_ ?_
      rotate_left
      · intro w; go_simp; try with_reducible rfl
      simp only [Act.put, rgA, rgB, rgC, rgD, rgE, rgF]
      refine wpAnyT_one (i := 15) (by kernel_rfl) rfl (by rfl) ?_
      have hbS : Below wc.heap.size wc s4 := hB_0_s4.trans ((hB_s4_s4).mono (hB_0_s4).size)
      obtain ⟨hsA, hnA⟩ := (HKU.out.below hbS).set Tryz.prog q (by rw [HSZJ.out]; omega) ⟨y1, y2, y3⟩
      have hgA := (HGU.out.step hbS).trans (gr_setCells g (kvs ⟨y1, y2, y3⟩) (q * 3) s4) (fun _ h => .inl h)
      refine wp_storeK (w' := (s4).setCells g (q * 3) (kvs ⟨y1, y2, y3⟩)) 48 (.tmp 51) (.tmp 46) rfl ⟨g, q * 3, none⟩ (.agg #[.string y1, .int .i64 y2, .int .i64 y3]) (by kernel_rfl) (by kernel_rfl) (sizeK _) hsA ?_
      generalize (s4).setCells g (q * 3) (kvs ⟨y1, y2, y3⟩) = w105 at hnA hgA ⊢
      clear hsA
      refine ⟨fun h => absurd h (by decide), ?_⟩
      try simp only [Act.put, rgA, rgB, rgC, rgD, rgE, rgF]
      refine wpAnyT_pure (i := 16) (v := ?_) rfl (by kernel_rfl) (by kernel_rfl) (by kernel_rfl) (fun _ _ _ h => h) (by rfl) ?_ ?_
      rotate_left
      · intro w; go_simp; try with_reducible rfl
      simp only [Act.put, rgA, rgB, rgC, rgD, rgE, rgF]
      refine wpAnyT_one (i := 17) (by kernel_rfl) rfl (by rfl) ?_
      obtain ⟨hsB, hnB⟩ := hnA.set Tryz.prog r (by rw [Array.size_setIfInBounds, HSZJ.out]; omega) ⟨x1, x2, x3⟩
      have hgB := hgA.trans (gr_setCells g (kvs ⟨x1, x2, x3⟩) (r * 3) w105) (fun _ h => .inl h)
      refine wp_storeK (w' := (w105).setCells g (r * 3) (kvs ⟨x1, x2, x3⟩)) 48 (.tmp 52) (.tmp 50) rfl ⟨g, r * 3, none⟩ (.agg #[.string x1, .int .i64 x2, .int .i64 x3]) (by kernel_rfl) (by kernel_rfl) (sizeK _) hsB ?_
      generalize (w105).setCells g (r * 3) (kvs ⟨x1, x2, x3⟩) = w106 at hnB hgB ⊢
      clear hsB hnA hgA
      refine ⟨fun h => absurd h (by decide), ?_⟩
      try simp only [Act.put, rgA, rgB, rgC, rgD, rgE, rgF]
      refine wpAnyT_done (by kernel_rfl) ?_ _
      obtain ⟨w6, rfl⟩ : ∃ x, x = w106 := ⟨_, rfl⟩
      rw [← HSW.out] at hnB
      have HKM := Lib.hid hnB
      have HGM := Lib.hid hgB
      have euI : ((q : Int) - 1) = (r : Int) := by have := HQ.out; omega
      clear hnB hgB HSW hC0
      go_wp2_with fail
      go_roundw
      case rel => exact ⟨r, Sort.swp dj q r, by go_num, by have := HQ.out; omega, by have := HQ.out; omega, HSZN.out, HNX.out, HKM.out, HGM.out⟩
      case measure => have := HQ.out; simp [intOf]; try omega
    subst ht
    have HFI := Lib.hid (show Sort.insInner (ltK ts) a i2 dk = dj from HSC.out.symm.trans (in_stop (ltK ts) dj a q r HQ.out ((Bool.and_eq_false_iff.1 HTB.out.symm).imp of_decide_eq_false id)))
    have HNX := Lib.hid (show Sort.insOuter (ltK ts) a b (i2 + 1) dj = res from by rw [← HFI.out]; exact HNO.out)
    clear HSC HKA HGA HTB
    go_wp2_with fail
    go_roundw
    case rel => exact ⟨i2 + 1, dj, by go_num, by omega, by omega, HSZJ.out, HNX.out, HKU.out, HGU.out⟩
    case measure => simp [intOf]; try omega
  have hltI : ¬ (i2 : Int) < (b : Int) := by omega
  have HFIN := Lib.hid (show dk = res from by rw [← HPL.out, out_stop (ltK ts) dk a b i2 hlt])
  go_wp2_with fail
  exact bodyPost_end (results_none rfl _ _ _) rfl ⟨rfl, HFIN.out ▸ HK2.out, HG2.out⟩
end Go.Proofs.YtdcjocldggmdbaaGreat

/- Layer 53: the sort of many keys: pdqsort. -/
set_option linter.unusedSimpArgs false
namespace Go.Proofs.YtdcjocldggmdbaaGreat
open Go.RowKit Go

theorem ltK_iff (ts : List Tk) (x y : Ky) : ltK ts x y = true ↔ (x.per < y.per ∨ (x.per = y.per ∧ (plcI ts x.task < plcI ts y.task ∨ (plcI ts x.task = plcI ts y.task ∧ x.ent < y.ent)))) := by
  unfold ltK cfK orI cmpI
  rw [decide_eq_true_iff]
  repeat' split
  all_goals omega
theorem ltK_not (ts : List Tk) (x y : Ky) : ltK ts x y = false ↔ ¬ (x.per < y.per ∨ (x.per = y.per ∧ (plcI ts x.task < plcI ts y.task ∨ (plcI ts x.task = plcI ts y.task ∧ x.ent < y.ent)))) := by
  rw [← ltK_iff, Bool.not_eq_true]
theorem swoK (ts : List Tk) : Sort.SWO (ltK ts) where
  irrefl x := by rw [ltK_not]; omega
  trans x y z h1 h2 := by rw [ltK_iff] at h1 h2 ⊢; omega
  ntrans x y z h1 h2 := by rw [ltK_not] at h1 h2 ⊢; omega
/-- What pdqsort leaves. -/
def PdqP (ts : List Tk) (g n a b : Nat) (d : Array Ky) (w : World) (e : Ending) (w' : World) : Prop :=
  e = .returned (.tuple #[]) ∧ ∃ R : Array Ky, R.size = n ∧ Sort.PermIn a b d R ∧ Sort.SortedIn (ltK ts) a b R ∧ KA w' g R ∧ Gr (fun x => x = g) w w'
/-- What is left to do. -/
def Todo (ts : List Tk) (a b : Nat) (d : Array Ky) (a1 b1 : Nat) (dk : Array Ky) : Prop :=
  ∀ R, Sort.PermIn a1 b1 dk R → Sort.SortedIn (ltK ts) a1 b1 R → Sort.PermIn a b d R ∧ Sort.SortedIn (ltK ts) a b R
theorem Todo.perm {ts : List Tk} {a b : Nat} {d : Array Ky} {a1 b1 : Nat} {dk d1 : Array Ky} (h : Todo ts a b d a1 b1 dk) (hp : Sort.PermIn a1 b1 dk d1) : Todo ts a b d a1 b1 d1 :=
  fun R h1 h2 => h R (Sort.permIn_trans _ _ _ _ _ hp h1) h2
set_option maxRecDepth 20000 in
set_option maxHeartbeats 2000000 in
theorem pdqK {S : Nat → Prop} {F : Nat → Prop} (p : Nat) (ts : List Tk) (ne np m : Nat) (g cap n : Nat) (hn2 : n ≤ 100000) (hFg : F g) :
    ∀ (N a b limit : Nat) (d : Array Ky) (w : World), b - a < N → d.size = n → KA w g d → SCtx S p ts ne np m F w → a ≤ b → b ≤ n → limit ≤ 1000 → Sort.Below (ltK ts) a b d →
    Calls Tryz.prog 64 #[.slice (some ⟨g, 0, none⟩) n cap, .int .i64 (a : Nat), .int .i64 (b : Nat), .int .i64 (limit : Nat), cmpV p] w (PdqP ts g n a b d w) := by
  intro N
  induction N with
  | zero => intro _ _ _ _ _ h; exact absurd h (Nat.not_lt_zero _)
  | succ N ih0 =>
  intro a b limit d w hN hn hK hS hab hbn hlim hBel
  have ih : ∀ (a1 b1 limit : Nat) (d1 : Array Ky) (w1 : World), b1 - a1 < b - a → d1.size = n → KA w1 g d1 → SCtx S p ts ne np m F w1 → a1 ≤ b1 → b1 ≤ n → limit ≤ 1000 → Sort.Below (ltK ts) a1 b1 d1 →
    Calls Tryz.prog 64 #[.slice (some ⟨g, 0, none⟩) n cap, .int .i64 (a1 : Nat), .int .i64 (b1 : Nat), .int .i64 (limit : Nat), cmpV p] w1 (PdqP ts g n a1 b1 d1 w1) := fun a1 b1 limit d1 w1 h => ih0 a1 b1 limit d1 w1 (by omega)
  have HIH0 := Lib.hid ih
  have HK := Lib.hid hK
  have HN := Lib.hid hn
  have HS := Lib.hid hS
  have HFG := Lib.hid hFg
  have HB := Lib.hid hBel
  clear ih0 ih hK hn hS hFg hBel hN
  unfold cmpV at HIH0 ⊢
  go_enter Tryz.func64, Tryz.ntmps64
  go_wp2_with fail
  go_loopw [1, 2, 3, 10, 11] (fun av bv lv x10 x11 wr => ∃ (a1 b1 lim : Nat) (wb wp : Bool) (dk : Array Ky), av = .int .i64 (a1 : Nat) ∧ bv = .int .i64 (b1 : Nat) ∧ lv = .int .i64 (lim : Nat) ∧ x10 = .bool wb ∧ x11 = .bool wp ∧ a ≤ a1 ∧ b1 ≤ b ∧ a1 ≤ b1 ∧ b1 ≤ n ∧ lim ≤ 1000 ∧ Sort.Below (ltK ts) a1 b1 dk ∧ dk.size = n ∧ Todo ts a b d a1 b1 dk ∧ KA wr g dk ∧ Gr (fun x => x = g) w wr) (fun av bv _ _ _ _ => (intOf bv).toNat - (intOf av).toNat)
  case atStart => exact ⟨a, b, limit, true, true, d, rfl, rfl, rfl, rfl, rfl, Nat.le_refl _, Nat.le_refl _, hab, hbn, hlim, HB.out, HN.out, fun _ h1 h2 => ⟨h1, h2⟩, HK.out, Gr.refl _ _⟩
  obtain ⟨a1, b1, lim, wb, wp, dk, rfl, rfl, rfl, rfl, rfl, haa1, hbb1, hab1, hbn1, hlim1, hbel, hsz, htodo, hk, hg⟩ := hrel
  have HBEL := Lib.hid hbel
  have HSZ := Lib.hid hsz
  have HTO := Lib.hid htodo
  have HK1 := Lib.hid hk
  have HG1 := Lib.hid hg
  clear hk hg
  clear hbel hsz htodo
  by_cases h12 : b1 - a1 ≤ 12
  · have h12I : (b1 : Int) - (a1 : Int) ≤ 12 := by omega
    have HC := Lib.hid (insK wr p ts ne np m (HS.out.gr HG1.out (fun _ e => .inl (by rw [e]; exact HFG.out))) g cap n dk HSZ.out hn2 HK1.out HFG.out a1 b1 hab1 hbn1)
    unfold cmpV at HC
    obtain ⟨h1, h2⟩ := Sort.insertionSort_holds (swoK ts) dk a1 b1 hab1 (by rw [HSZ.out]; exact hbn1)
    generalize Sort.insertionSort (ltK ts) dk a1 b1 = R at HC h1 h2
    have H1 := Lib.hid h1
    have HF := Lib.hid (HTO.out R h1 h2)
    clear h1 h2
    go_wp2_with fail
    have hX := HC.out
    refine Calls.mono hX ?_
    clear hX
    intro e w7 h
    have he := h.1
    have hk := h.2.1
    have hg := h.2.2
    clear h
    subst he
    replace hg := HG1.out.trans hg (fun _ h => .inl h)
    have HK7 := Lib.hid hk
    have HG7 := Lib.hid hg
    clear hk hg
    go_wp2_with fail
    refine bodyPost_ret (results_none rfl _ _ _) rfl ?_
    exact ⟨rfl, R, H1.out.1.trans HSZ.out, HF.out.1, HF.out.2, HK7.out, HG7.out⟩
  have h12I : ¬ (b1 : Int) - (a1 : Int) ≤ 12 := by omega
  obtain ⟨L, hL⟩ : ∃ L, b1 = a1 + L := ⟨b1 - a1, by omega⟩
  have HL := Lib.hid hL
  have hL8 : 8 ≤ L := by omega
  clear hL
  by_cases hl0 : lim = 0
  · have hl0I : (lim : Int) = 0 := by omega
    have HC := Lib.hid (heapK wr p ts ne np m (HS.out.gr HG1.out (fun _ e => .inl (by rw [e]; exact HFG.out))) g cap n dk HSZ.out hn2 HK1.out HFG.out a1 b1 L HL.out (by omega) hbn1)
    unfold cmpV at HC
    obtain ⟨h1, h2⟩ := Sort.heapSort_holds (swoK ts) dk a1 b1 hab1 (by rw [HSZ.out]; exact hbn1)
    generalize Sort.heapSort (ltK ts) dk a1 b1 = R at HC h1 h2
    have H1 := Lib.hid h1
    have HF := Lib.hid (HTO.out R h1 h2)
    clear h1 h2
    go_wp2_with fail
    have hX := HC.out
    refine Calls.mono hX ?_
    clear hX
    intro e w7 h
    have he := h.1
    have hk := h.2.1
    have hg := h.2.2
    clear h
    subst he
    replace hg := HG1.out.trans hg (fun _ h => .inl h)
    have HK7 := Lib.hid hk
    have HG7 := Lib.hid hg
    clear hk hg
    go_wp2_with fail
    refine bodyPost_ret (results_none rfl _ _ _) rfl ?_
    exact ⟨rfl, R, H1.out.1.trans HSZ.out, HF.out.1, HF.out.2, HK7.out, HG7.out⟩
  have hl0I : ¬ (lim : Int) = 0 := by omega
  go_upto_if 39 with fail
  go_cut [3] (fun s3 wx => ∃ (l2 : Nat) (d1 : Array Ky), s3 = .int .i64 (l2 : Nat) ∧ l2 ≤ 1000 ∧ d1.size = n ∧ Sort.PermIn a1 b1 dk d1 ∧ KA wx g d1 ∧ Gr (fun x => x = g) w wx)
  case first =>
    cases wb
    · have hp := Sort.breakPatterns_holds dk a1 b1 hab1 (by rw [HSZ.out]; exact hbn1)
      have HC := Lib.hid (fun fv => breakK wr g cap n dk HSZ.out hn2 HK1.out a1 b1 L HL.out hL8 hbn1 fv)
      generalize Sort.breakPatterns dk a1 b1 = R at HC hp
      have HP := Lib.hid hp
      clear hp
      go_wp2_with fail
      have hX := HC.out
      refine Calls.mono (hX _) ?_
      clear hX
      intro e w7 h
      have he := h.1
      have hk := h.2.1
      have hg := h.2.2
      clear h
      subst he
      replace hg := HG1.out.trans hg (fun _ h => .inl h)
      have HK7 := Lib.hid hk
      have HG7 := Lib.hid hg
      clear hk hg
      go_wp2_with fail
      go_meet
      case rel => exact ⟨lim - 1, R, by go_num, by omega, HP.out.1.trans HSZ.out, HP.out, HK7.out, HG7.out⟩
    · go_wp2_with fail
      go_meet
      case rel => exact ⟨lim, dk, rfl, hlim1, HSZ.out, Sort.permIn_refl _ _ _, HK1.out, HG1.out⟩
  obtain ⟨l2, d1, rfl, hl2, hs, hp, hk, hg⟩ := hcut
  have HSZ1 := Lib.hid hs
  have HBEL1 := Lib.hid (HBEL.out.perm (by rw [HSZ.out]; exact hbn1) hp)
  have HTO1 := Lib.hid (HTO.out.perm hp)
  have HK2 := Lib.hid hk
  have HG2 := Lib.hid hg
  clear hk hg
  clear hs hp HBEL HTO HSZ HK1 HG1
  obtain ⟨hc1, hc2⟩ := Sort.choosePivot_holds (ltK ts) d1 a1 b1 (by omega)
  have HC := Lib.hid (chooseK wc p ts ne np m (HS.out.gr HG2.out (fun _ e => .inl (by rw [e]; exact HFG.out))) g cap n d1 HSZ1.out hn2 HK2.out a1 b1 L HL.out hL8 hbn1)
  unfold cmpV at HC
  generalize (Sort.choosePivot (ltK ts) d1 a1 b1).1 = c at HC hc1 hc2
  generalize hintI (Sort.choosePivot (ltK ts) d1 a1 b1).2 = hv at HC
  go_wp2_with fail
  have hX := HC.out
  refine Calls.mono hX ?_
  clear hX
  intro e w3 h
  have he := h.1
  have hb := h.2
  clear h
  subst he
  have hk := HK2.out.below hb
  have hg := HG2.out.step hb
  have HK3 := Lib.hid hk
  have HG3 := Lib.hid hg
  clear hk hg
  clear hb HC HK2 HG2
  go_upto_if 56 with fail
  go_cut [13, 14] (fun s13 s14 wx => ∃ (pv : Nat) (hv : Int) (d2 : Array Ky), s13 = .int .i64 (pv : Nat) ∧ s14 = .int .i64 hv ∧ a1 ≤ pv ∧ pv < b1 ∧ d2.size = n ∧ Sort.PermIn a1 b1 d1 d2 ∧ KA wx g d2 ∧ Gr (fun x => x = g) w wx)
  case first =>
    by_cases hh : hv = 2
    · have hp := Sort.reverseRange_holds d1 a1 b1 hab1 (by rw [HSZ1.out]; exact hbn1)
      have HC := Lib.hid (fun fv => reverseK w3 g cap n d1 HSZ1.out hn2 HK3.out a1 b1 (by omega) hab1 hbn1 fv)
      generalize Sort.reverseRange d1 a1 b1 = R at HC hp
      have HP := Lib.hid hp
      clear hp
      go_wp2_with fail
      have hX := HC.out
      refine Calls.mono (hX _) ?_
      clear hX
      intro e w7 h
      have he := h.1
      have hk := h.2.1
      have hg := h.2.2
      clear h
      subst he
      replace hg := HG3.out.trans hg (fun _ h => .inl h)
      have HK7 := Lib.hid hk
      have HG7 := Lib.hid hg
      clear hk hg
      go_wp2_with fail
      go_meet
      case rel => exact ⟨b1 - 1 - (c - a1), _, R, by go_num, rfl, by omega, by omega, HP.out.1.trans HSZ1.out, HP.out, HK7.out, HG7.out⟩
    · go_wp2_with fail
      go_meet
      case rel => exact ⟨c, hv, d1, rfl, rfl, hc1, hc2, HSZ1.out, Sort.permIn_refl _ _ _, HK3.out, HG3.out⟩
  clear hc1 hc2 hv c
  obtain ⟨pv, hv, d2, rfl, rfl, hpv1, hpv2, hs, hp, hk, hg⟩ := hcut
  have HSZ2 := Lib.hid hs
  have HBEL2 := Lib.hid (HBEL1.out.perm (by rw [HSZ1.out]; exact hbn1) hp)
  have HTO2 := Lib.hid (HTO1.out.perm hp)
  have HK4 := Lib.hid hk
  have HG4 := Lib.hid hg
  clear hk hg
  clear hs hp HBEL1 HTO1 HSZ1 HK3 HG3
  obtain ⟨w4, hw4⟩ : ∃ x, x = wc := ⟨_, rfl⟩
  have HW4 := Lib.hid hw4
  clear hw4
  go_upto_region 15 with fail
  go_cut [14, 75] (fun s14 s75 wx => s14 = .int .i64 hv ∧ ∃ tb : Bool, s75 = .bool tb ∧ wx = w4)
  case first =>
    by_cases hh : hv = 1
    · cases wb <;> cases wp <;> (go_wp2_with fail; go_meet; exact ⟨by first | rfl | rw [hh], _, rfl, HW4.out.symm⟩)
    · cases wb <;> cases wp <;> (go_wp2_with fail; go_meet; exact ⟨rfl, _, rfl, HW4.out.symm⟩)
  obtain ⟨rfl, tb, rfl, hwc⟩ := hcut
  have hk := HK4.out
  have hg := HG4.out
  rw [← HW4.out, ← hwc] at hk hg
  clear hwc HW4 HK4 HG4
  have HK4 := Lib.hid hk
  have HG4 := Lib.hid hg
  clear hk hg
  go_upto_if 75 with fail
  go_cut [] (fun wx => ∃ d3 : Array Ky, d3.size = n ∧ Sort.PermIn a1 b1 d2 d3 ∧ KA wx g d3 ∧ Gr (fun x => x = g) w wx)
  case first =>
    cases tb
    · go_wp2_with fail
      go_meet
      case rel => exact ⟨d2, HSZ2.out, Sort.permIn_refl _ _ _, HK4.out, HG4.out⟩
    · obtain ⟨p1, p2⟩ := Sort.partialInsertionSort_holds (swoK ts) d2 a1 b1 (by omega) (by rw [HSZ2.out]; exact hbn1) HBEL2.out
      have HC := Lib.hid (partInsK wc p ts ne np m (HS.out.gr HG4.out (fun _ e => .inl (by rw [e]; exact HFG.out))) g cap n d2 HSZ2.out hn2 HK4.out HFG.out a1 b1 (by omega) hbn1)
      unfold cmpV at HC
      generalize (Sort.partialInsertionSort (ltK ts) d2 a1 b1).1 = R at HC p1 p2
      generalize (Sort.partialInsertionSort (ltK ts) d2 a1 b1).2 = pb at HC p2
      have P1 := Lib.hid p1
      have P2 := Lib.hid p2
      clear p1 p2
      go_wp2_with fail
      have hX := HC.out
      refine Calls.mono hX ?_
      clear hX
      intro e w7 h
      have he := h.1
      have hk := h.2.1
      have hg := h.2.2
      clear h
      subst he
      replace hg := HG4.out.trans hg (fun _ h => .inl h)
      have HK7 := Lib.hid hk
      have HG7 := Lib.hid hg
      clear hk hg
      cases pb
      · go_wp2_with fail
        go_meet
        case rel => exact ⟨R, P1.out.1.trans HSZ2.out, P1.out, HK7.out, HG7.out⟩
      · have HF := Lib.hid (HTO2.out R P1.out (P2.out rfl))
        go_wp2_with fail
        refine bodyPost_ret (results_none rfl _ _ _) rfl ?_
        exact ⟨rfl, R, P1.out.1.trans HSZ2.out, HF.out.1, HF.out.2, HK7.out, HG7.out⟩
  obtain ⟨d3, hs, hp, hk, hg⟩ := hcut
  have HSZ3 := Lib.hid hs
  have HBEL3 := Lib.hid (HBEL2.out.perm (by rw [HSZ2.out]; exact hbn1) hp)
  have HTO3 := Lib.hid (HTO2.out.perm hp)
  have HKA := Lib.hid hk
  have HGA := Lib.hid hg
  clear hk hg
  clear hs hp HBEL2 HTO2 HSZ2 HK4 HG4
  obtain ⟨r, hr⟩ : ∃ r, r = a1 - 1 := ⟨_, rfl⟩
  have HQ := Lib.hid hr
  have hrn : r < n := by omega
  have hrnI : (r : Int) < (n : Int) := by omega
  have hpn : pv < n := by omega
  have hpnI : (pv : Int) < (n : Int) := by omega
  clear hr
  obtain ⟨w5, hw5⟩ : ∃ x, x = wc := ⟨_, rfl⟩
  rw [← hw5] at HKA HGA ⊢
  clear hw5
  go_upto_region 17 with fail
  obtain ⟨t2, ht2⟩ : ∃ t2, t2 = (decide (0 < a1) && !ltK ts d3[r]! d3[pv]!) := ⟨_, rfl⟩
  have HTB := Lib.hid ht2
  clear ht2
  go_cut [97] (fun sv wx => sv = .bool t2 ∧ KA wx g d3 ∧ Gr (fun x => x = g) w wx)
  case first =>
    by_cases hle : 0 < a1
    · have hleI : (0 : Int) < (a1 : Int) := by omega
      obtain ⟨eb, heb⟩ : ∃ vb, ltK ts d3[r]! d3[pv]! = vb := ⟨_, rfl⟩
      obtain ⟨m0, m1, m2⟩ := HKA.out.cell r (by rw [HSZ3.out]; omega)
      obtain ⟨p0, p1, p2⟩ := HKA.out.cell pv (by rw [HSZ3.out]; omega)
      obtain ⟨cc, hcc, hcall⟩ := cmpAt (HS.out.gr HGA.out (fun _ e => .inl (by rw [e]; exact HFG.out))) d3[r]! d3[pv]! eb heb
      have HCC := Lib.hid hcc
      have HEB := Lib.hid heb
      clear hcc heb
      generalize d3[r]! = x at m0 m1 m2 hcall
      generalize d3[pv]! = y at p0 p1 p2 hcall
      obtain ⟨x1, x2, x3⟩ := x
      obtain ⟨y1, y2, y3⟩ := y
      simp only at m0 m1 m2 p0 p1 p2 hcall
      have HCALL := Lib.hid hcall
      have hC0 : Cells [(⟨g, r * 3, none⟩, .string x1), (⟨g, r * 3 + 1, none⟩, .int .i64 x2), (⟨g, r * 3 + 2, none⟩, .int .i64 x3), (⟨g, pv * 3, none⟩, .string y1), (⟨g, pv * 3 + 1, none⟩, .int .i64 y2), (⟨g, pv * 3 + 2, none⟩, .int .i64 y3)] w5 := ⟨m0, m1, m2, p0, p1, p2, trivial⟩
      clear m0 m1 m2 p0 p1 p2 hcall
      refine wp_region_T (Cells [(⟨g, r * 3, none⟩, .string x1), (⟨g, r * 3 + 1, none⟩, .int .i64 x2), (⟨g, r * 3 + 2, none⟩, .int .i64 x3), (⟨g, pv * 3, none⟩, .string y1), (⟨g, pv * 3 + 1, none⟩, .int .i64 y2), (⟨g, pv * 3 + 2, none⟩, .int .i64 y3)]) (fun _ => false) (by kernel_rfl) ?_
      have hSss1 := Cells.drew hC0
      have hB_0_s1 : Below w5.heap.size w5 w5.drew := below_drew _
      generalize w5.drew = s1 at hSss1 hB_0_s1 ⊢
      have hB_s1_s1 := Below.refl s1.heap.size s1
      refine wpAnyT_pure (i := 0) (v := ?_) rfl (by kernel_rfl) (by kernel_rfl) (by kernel_rfl) (fun _ _ _ h => h) (by rfl) ?_ ?_
      rotate_left
      · intro w; go_simp; try with_reducible rfl
      simp only [Act.put, rgA, rgB, rgC, rgD, rgE, rgF]
      refine wpAnyT_pure (i := 1) (v := (.bool true)) rfl (by kernel_rfl) (by kernel_rfl) (by kernel_rfl) (fun _ _ _ h => h) (by rfl) ?_ ?_
      · intro w; go_simp <;> omega
      simp only [Act.put, rgA, rgB, rgC, rgD, rgE, rgF]
      refine wpAnyT_pure (i := 2) (v := ?_) rfl (by kernel_rfl) (by kernel_rfl) (by kernel_rfl) (fun _ _ _ h => h) (by rfl) ?_ ?_
      rotate_left
      · intro w; go_simp; try with_reducible rfl
      simp only [Act.put, rgA, rgB, rgC, rgD, rgE, rgF]
      refine wpAnyT_pure (i := 3) (v := ?_) rfl (by kernel_rfl) (by kernel_rfl) (by kernel_rfl) (fun _ _ _ h => h) (by rfl) ?_ ?_
      rotate_left
      · intro w; go_simp; try with_reducible rfl
      simp only [Act.put, rgA, rgB, rgC, rgD, rgE, rgF]
      refine wpAnyT_pure (i := 4) (v := ?_) rfl (by kernel_rfl) (by kernel_rfl) (by kernel_rfl) (fun _ _ _ h => h) (by rfl) ?_ ?_
      rotate_left
      · intro w; go_simp; try with_reducible rfl
      simp only [Act.put, rgA, rgB, rgC, rgD, rgE, rgF]
      refine wpAnyT_pure (i := 5) (v := ?_) rfl (by kernel_rfl) (by kernel_rfl) (by kernel_rfl) (fun _ _ _ h => h) (by rfl) ?_ ?_
      rotate_left
      · intro w; go_simp; try with_reducible rfl
      simp only [Act.put, rgA, rgB, rgC, rgD, rgE, rgF]
      refine wpAnyT_pure (i := 9) (v := ?_) rfl (by kernel_rfl) (by kernel_rfl) (by kernel_rfl) (fun _ _ _ h => h) (by rfl) ?_ ?_
      rotate_left
      · intro w; go_simp; try with_reducible rfl
      simp only [Act.put, rgA, rgB, rgC, rgD, rgE, rgF]
      refine wpAnyT_pure (i := 10) (v := ?_) rfl (by kernel_rfl) (by kernel_rfl) (by kernel_rfl) (fun _ _ _ h => h) (by rfl) ?_ ?_
      rotate_left
      · intro w; go_simp; try with_reducible rfl
      simp only [Act.put, rgA, rgB, rgC, rgD, rgE, rgF]
      refine wpAnyT_pure (i := 11) (v := ?_) rfl (by kernel_rfl) (by kernel_rfl) (by kernel_rfl) (fun _ _ _ h => h) (by rfl) ?_ ?_
      rotate_left
      · intro w; go_simp; try with_reducible rfl
      simp only [Act.put, rgA, rgB, rgC, rgD, rgE, rgF]
      refine wpAnyT_loadW (i := 12) (v := ?_) rfl (by kernel_rfl) (by kernel_rfl) (by kernel_rfl) (by kernel_rfl) (by kernel_rfl) (fun _ _ _ h => h) (Or.inl ⟨by rfl, ?_⟩) hSss1 ?_
      rotate_left
      · intro w hSw; obtain ⟨e0, e1, e2, e3, e4, e5, -⟩ := hSw; go_simp; try with_reducible rfl
      simp only [Act.put, rgA, rgB, rgC, rgD, rgE, rgF]
      refine wpAnyT_pure (i := 6) (v := (.int .i64 (r : Nat))) rfl (by kernel_rfl) (by kernel_rfl) (by kernel_rfl) (fun _ _ _ h => h) (by rfl) ?_ ?_
      · intro w; have hq := HQ.out; clear HQ; go_simp; rw [IntKind.wrap_i64] <;> omega
      simp only [Act.put, rgA, rgB, rgC, rgD, rgE, rgF]
      refine wpAnyT_pure (i := 7) (v := ?_) rfl (by kernel_rfl) (by kernel_rfl) (by kernel_rfl) (fun _ _ _ h => h) (by rfl) ?_ ?_
      rotate_left
      · intro w; go_simp; try with_reducible rfl
      simp only [Act.put, rgA, rgB, rgC, rgD, rgE, rgF]
      refine wpAnyT_loadW (i := 8) (v := ?_) rfl (by kernel_rfl) (by kernel_rfl) (by kernel_rfl) (by kernel_rfl) (by kernel_rfl) (fun _ _ _ h => h) (Or.inl ⟨by rfl, ?_⟩) hSss1 ?_
      rotate_left
      · intro w hSw; obtain ⟨e0, e1, e2, e3, e4, e5, -⟩ := hSw; go_simp; try with_reducible rfl
      simp only [Act.put, rgA, rgB, rgC, rgD, rgE, rgF]
      refine wpAnyT_one (i := 13) (by kernel_rfl) rfl (by rfl) ?_
      refine wp_enter (f := 44) (args := #[.pointer (some ⟨p, 0, none⟩), .agg #[.string x1, .int .i64 x2, .int .i64 x3], .agg #[.string y1, .int .i64 y2, .int .i64 y3]]) (by go_simp) (HCALL.out s1 (Gr.of_below (hB_0_s1.trans ((hB_s1_s1).mono (hB_0_s1).size)))) ?_
      rintro e w102 ⟨rfl, hX⟩
      have hB_s1_w102 := below_step hB_s1_s1 hX
      have hB_w102_w102 := Below.refl w102.heap.size w102
      have hSsw102 := Cells.below hB_s1_w102 hSss1
      clear hX
      refine ⟨_, rfl, fun _ _ => hSsw102, ?_⟩
      try simp only [Act.put, rgA, rgB, rgC, rgD, rgE, rgF]
      refine wpAnyT_pure (i := 14) (v := (.bool eb)) rfl (by kernel_rfl) (by kernel_rfl) (by kernel_rfl) (fun _ _ _ h => h) (by rfl) ?_ ?_
      · intro w; have hq := HCC.out; clear HCC; go_simp <;> exact hq
      simp only [Act.put, rgA, rgB, rgC, rgD, rgE, rgF]
      refine wpAnyT_pure (i := 15) (v := ?_) rfl (by kernel_rfl) (by kernel_rfl) (by kernel_rfl) (fun _ _ _ h => h) (by rfl) ?_ ?_
      rotate_left
      · intro w; go_simp; try with_reducible rfl
      simp only [Act.put, rgA, rgB, rgC, rgD, rgE, rgF]
      refine wpAnyT_pure (i := 16) (v := ?_) rfl (by kernel_rfl) (by kernel_rfl) (by kernel_rfl) (fun _ _ _ h => h) (by rfl) ?_ ?_
      rotate_left
      · intro w; go_simp; try with_reducible rfl
      simp only [Act.put, rgA, rgB, rgC, rgD, rgE, rgF]
      refine wpAnyT_done (by kernel_rfl) ?_ _
      have hbP : Below w5.heap.size w5 w102 := hB_0_s1.trans ((hB_s1_w102).mono (hB_0_s1).size)
      have HRK := Lib.hid (HKA.out.below hbP)
      have HRG := Lib.hid (HGA.out.step hbP)
      clear hbP
      go_wp2_with fail
      go_meet
      case rel => exact ⟨by rw [HTB.out, HEB.out, decide_eq_true hle]; rfl, HRK.out, HRG.out⟩
    · have hleI : ¬ (0 : Int) < (a1 : Int) := by omega
      have hC0 : Cells [] w5 := trivial
      refine wp_region_T (Cells []) (fun _ => false) (by kernel_rfl) ?_
      have hSss3 := Cells.drew hC0
      have hB_0_s3 : Below w5.heap.size w5 w5.drew := below_drew _
      generalize w5.drew = s3 at hSss3 hB_0_s3 ⊢
      have hB_s3_s3 := Below.refl s3.heap.size s3
      refine wpAnyT_pure (i := 0) (v := ?_) rfl (by kernel_rfl) (by kernel_rfl) (by kernel_rfl) (fun _ _ _ h => h) (by rfl) ?_ ?_
      rotate_left
      · intro w; go_simp; try with_reducible rfl
      simp only [Act.put, rgA, rgB, rgC, rgD, rgE, rgF]
      refine wpAnyT_pure (i := 1) (v := ?_) rfl (by kernel_rfl) (by kernel_rfl) (by kernel_rfl) (fun _ _ _ h => h) (by rfl) ?_ ?_
      rotate_left
      · intro w; go_simp; try with_reducible rfl
      simp only [Act.put, rgA, rgB, rgC, rgD, rgE, rgF]
      refine wpAnyT_pure (i := 2) (v := ?_) rfl (by kernel_rfl) (by kernel_rfl) (by kernel_rfl) (fun _ _ _ h => h) (by rfl) ?_ ?_
      rotate_left
      · intro w; go_simp; try with_reducible rfl
      simp only [Act.put, rgA, rgB, rgC, rgD, rgE, rgF]
      refine wpAnyT_skip (i := 3) rfl (by kernel_rfl) (by kernel_rfl) (by kernel_rfl) (fun _ _ _ h => h) (by rfl) ?_
      simp only [Act.put, rgA, rgB, rgC, rgD, rgE, rgF]
      refine wpAnyT_skip (i := 4) rfl (by kernel_rfl) (by kernel_rfl) (by kernel_rfl) (fun _ _ _ h => h) (by rfl) ?_
      simp only [Act.put, rgA, rgB, rgC, rgD, rgE, rgF]
      refine wpAnyT_skip (i := 5) rfl (by kernel_rfl) (by kernel_rfl) (by kernel_rfl) (fun _ _ _ h => h) (by rfl) ?_
      simp only [Act.put, rgA, rgB, rgC, rgD, rgE, rgF]
      refine wpAnyT_skip (i := 6) rfl (by kernel_rfl) (by kernel_rfl) (by kernel_rfl) (fun _ _ _ h => h) (by rfl) ?_
      simp only [Act.put, rgA, rgB, rgC, rgD, rgE, rgF]
      refine wpAnyT_skip (i := 7) rfl (by kernel_rfl) (by kernel_rfl) (by kernel_rfl) (fun _ _ _ h => h) (by rfl) ?_
      simp only [Act.put, rgA, rgB, rgC, rgD, rgE, rgF]
      refine wpAnyT_skip (i := 8) rfl (by kernel_rfl) (by kernel_rfl) (by kernel_rfl) (fun _ _ _ h => h) (by rfl) ?_
      simp only [Act.put, rgA, rgB, rgC, rgD, rgE, rgF]
      refine wpAnyT_skip (i := 9) rfl (by kernel_rfl) (by kernel_rfl) (by kernel_rfl) (fun _ _ _ h => h) (by rfl) ?_
      simp only [Act.put, rgA, rgB, rgC, rgD, rgE, rgF]
      refine wpAnyT_skip (i := 10) rfl (by kernel_rfl) (by kernel_rfl) (by kernel_rfl) (fun _ _ _ h => h) (by rfl) ?_
      simp only [Act.put, rgA, rgB, rgC, rgD, rgE, rgF]
      refine wpAnyT_skip (i := 11) rfl (by kernel_rfl) (by kernel_rfl) (by kernel_rfl) (fun _ _ _ h => h) (by rfl) ?_
      simp only [Act.put, rgA, rgB, rgC, rgD, rgE, rgF]
      refine wpAnyT_skip (i := 12) rfl (by kernel_rfl) (by kernel_rfl) (by kernel_rfl) (fun _ _ _ h => h) (by rfl) ?_
      simp only [Act.put, rgA, rgB, rgC, rgD, rgE, rgF]
      refine wpAnyT_skip (i := 13) rfl (by kernel_rfl) (by kernel_rfl) (by kernel_rfl) (fun _ _ _ h => h) (by rfl) ?_
      simp only [Act.put, rgA, rgB, rgC, rgD, rgE, rgF]
      refine wpAnyT_skip (i := 14) rfl (by kernel_rfl) (by kernel_rfl) (by kernel_rfl) (fun _ _ _ h => h) (by rfl) ?_
      simp only [Act.put, rgA, rgB, rgC, rgD, rgE, rgF]
      refine wpAnyT_skip (i := 15) rfl (by kernel_rfl) (by kernel_rfl) (by kernel_rfl) (fun _ _ _ h => h) (by rfl) ?_
      simp only [Act.put, rgA, rgB, rgC, rgD, rgE, rgF]
      refine wpAnyT_pure (i := 16) (v := ?_) rfl (by kernel_rfl) (by kernel_rfl) (by kernel_rfl) (fun _ _ _ h => h) (by rfl) ?_ ?_
      rotate_left
      · intro w; go_simp; try with_reducible rfl
      simp only [Act.put, rgA, rgB, rgC, rgD, rgE, rgF]
      refine wpAnyT_done (by kernel_rfl) ?_ _
      have hbP : Below w5.heap.size w5 s3 := hB_0_s3.trans ((hB_s3_s3).mono (hB_0_s3).size)
      have HRK := Lib.hid (HKA.out.below hbP)
      have HRG := Lib.hid (HGA.out.step hbP)
      clear hbP
      go_wp2_with fail
      go_meet
      case rel => exact ⟨by rw [HTB.out, decide_eq_false hle]; rfl, HRK.out, HRG.out⟩
  obtain ⟨rfl, hk, hg⟩ := hcut
  have HK5 := Lib.hid hk
  have HG5 := Lib.hid hg
  clear hk hg
  clear HKA HGA
  rcases Bool.eq_false_or_eq_true t2 with ht | ht
  · subst ht
    obtain ⟨h1, h2⟩ := Bool.and_eq_true_iff.1 HTB.out.symm
    have h1' := of_decide_eq_true h1
    have h2' : ltK ts d3[a1 - 1]! d3[pv]! = false := by rw [← HQ.out]; simpa using h2
    obtain ⟨mid, d4, hx⟩ : ∃ mid d4, Sort.partitionEqual (ltK ts) d3 a1 b1 pv = (mid, d4) := ⟨(Sort.partitionEqual (ltK ts) d3 a1 b1 pv).1, (Sort.partitionEqual (ltK ts) d3 a1 b1 pv).2, rfl⟩
    obtain ⟨r1, r2, r3, r4, r5⟩ := Sort.round_eq (swoK ts) (Sort.partitionEqual_holds (ltK ts)) h1' hpv1 hpv2 (show b1 ≤ d3.size by rw [HSZ3.out]; exact hbn1) HBEL3.out h2' hx
    have hc := partEqK wc p ts ne np m (HS.out.gr HG5.out (fun _ e => .inl (by rw [e]; exact HFG.out))) g cap n d3 HSZ3.out hn2 HK5.out HFG.out a1 b1 pv hpv1 hpv2 hbn1
    rw [hx] at hc
    unfold cmpV at hc
    have HC := Lib.hid hc
    have HSZ4 := Lib.hid (r3.trans HSZ3.out)
    have R4 := Lib.hid r4
    have Q2 := Lib.hid (show Todo ts a b d mid b1 d4 from fun R' h1 h2 => HTO3.out R' (r5 R' h1 h2).1 (r5 R' h1 h2).2)
    clear hc hx r3 r4 r5 h1 h2 h2'
    go_wp2_with fail
    have hX := HC.out
    refine Calls.mono hX ?_
    clear hX
    intro e w7 h
    have he := h.1
    have hk := h.2.1
    have hg := h.2.2
    clear h
    subst he
    replace hg := HG5.out.trans hg (fun _ h => .inl h)
    have HK7 := Lib.hid hk
    have HG7 := Lib.hid hg
    clear hk hg
    clear HC
    go_wp2_with fail
    go_roundw
    case rel => exact ⟨mid, b1, l2, wb, wp, d4, rfl, rfl, rfl, rfl, rfl, by omega, hbb1, r2, hbn1, hl2, R4.out, HSZ4.out, Q2.out, HK7.out, HG7.out⟩
    case measure => simp [intOf]; try omega
  subst ht
  clear HTB
  obtain ⟨mid, ap, d4, hx⟩ : ∃ mid ap d4, Sort.partition (ltK ts) d3 a1 b1 pv = (mid, ap, d4) := ⟨(Sort.partition (ltK ts) d3 a1 b1 pv).1, (Sort.partition (ltK ts) d3 a1 b1 pv).2.1, (Sort.partition (ltK ts) d3 a1 b1 pv).2.2, rfl⟩
  obtain ⟨r1, r2, r3, r4, r5, r6, r7⟩ := Sort.round_part (swoK ts) (Sort.partition_holds (ltK ts)) hpv1 hpv2 (show b1 ≤ d3.size by rw [HSZ3.out]; exact hbn1) HBEL3.out hx
  have hc := partK wc p ts ne np m (HS.out.gr HG5.out (fun _ e => .inl (by rw [e]; exact HFG.out))) g cap n d3 HSZ3.out hn2 HK5.out HFG.out a1 b1 pv hpv1 hpv2 hbn1
  rw [hx] at hc
  unfold cmpV at hc
  have HC := Lib.hid hc
  have HSZ4 := Lib.hid (r3.trans HSZ3.out)
  have R4 := Lib.hid r4
  have R5 := Lib.hid r5
  have R6 := Lib.hid r6
  have R7 := Lib.hid r7
  clear hc hx r3 r4 r5 r6 r7
  go_wp2_with fail
  have hX := HC.out
  refine Calls.mono hX ?_
  clear hX
  intro e w7 h
  have he := h.1
  have hk := h.2.1
  have hg := h.2.2
  clear h
  subst he
  replace hg := HG5.out.trans hg (fun _ h => .inl h)
  have HK7 := Lib.hid hk
  have HG7 := Lib.hid hg
  clear hk hg
  clear HC
  by_cases h4 : mid - a1 < b1 - mid
  · have h4I : (mid : Int) - (a1 : Int) < (b1 : Int) - (mid : Int) := by omega
    have HIH := Lib.hid (HIH0.out a1 mid l2 d4 w7 (by omega) HSZ4.out HK7.out (HS.out.gr HG7.out (fun _ e => .inl (by rw [e]; exact HFG.out))) r1 (by omega) hl2 R4.out)
    go_wp2_with fail
    have hX := HIH.out
    refine Calls.mono hX ?_
    clear hX
    intro e w8 h
    have he := h.1
    obtain ⟨R, hR, hP, hSo, hk, hg⟩ := h.2
    clear h
    subst he
    replace hg := HG7.out.trans hg (fun _ h => .inl h)
    obtain ⟨q1, q2⟩ := R6.out R hP hSo
    have Q1 := Lib.hid q1
    have Q2 := Lib.hid (show Todo ts a b d (mid + 1) b1 R from fun R' h1 h2 => HTO3.out R' (q2 R' h1 h2).1 (q2 R' h1 h2).2)
    have HSZR := Lib.hid hR
    have HK8 := Lib.hid hk
    have HG8 := Lib.hid hg
    clear hk hg
    clear q1 q2 hP hSo hR HIH
    go_wp2_with fail
    go_roundw
    case rel => exact ⟨mid + 1, b1, l2, _, ap, R, by go_num, rfl, rfl, rfl, rfl, by omega, hbb1, by omega, hbn1, hl2, Q1.out, HSZR.out, Q2.out, HK8.out, HG8.out⟩
    case measure => simp [intOf]; try omega
  have h4I : ¬ (mid : Int) - (a1 : Int) < (b1 : Int) - (mid : Int) := by omega
  have hih := HIH0.out (mid + 1) b1 l2 d4 w7 (by omega) HSZ4.out HK7.out (HS.out.gr HG7.out (fun _ e => .inl (by rw [e]; exact HFG.out))) (by omega) hbn1 hl2 R5.out
  rw [show ((mid + 1 : Nat) : Int) = (mid : Int) + 1 by omega] at hih
  have HIH := Lib.hid hih
  clear hih
  go_wp2_with fail
  have hX := HIH.out
  refine Calls.mono hX ?_
  clear hX
  intro e w8 h
  have he := h.1
  obtain ⟨R, hR, hP, hSo, hk, hg⟩ := h.2
  clear h
  subst he
  replace hg := HG7.out.trans hg (fun _ h => .inl h)
  obtain ⟨q1, q2⟩ := R7.out R hP hSo
  have Q1 := Lib.hid q1
  have Q2 := Lib.hid (show Todo ts a b d a1 mid R from fun R' h1 h2 => HTO3.out R' (q2 R' h1 h2).1 (q2 R' h1 h2).2)
  have HSZR := Lib.hid hR
  have HK8 := Lib.hid hk
  have HG8 := Lib.hid hg
  clear hk hg
  clear q1 q2 hP hSo hR HIH
  go_wp2_with fail
  go_roundw
  case rel => exact ⟨a1, mid, l2, _, ap, R, rfl, rfl, rfl, rfl, rfl, haa1, by omega, r1, by omega, hl2, Q1.out, HSZR.out, Q2.out, HK8.out, HG8.out⟩
  case measure => simp [intOf]; try omega
end Go.Proofs.YtdcjocldggmdbaaGreat

/- Layer 53: the sort of many keys: SortFunc. -/
set_option linter.unusedSimpArgs false
namespace Go.Proofs.YtdcjocldggmdbaaGreat
open Go.RowKit Go

theorem lenK (n : Nat) (hn : n < 4611686018427387904) (w : World) : Calls Tryz.prog 59 #[.int .u64 n] w fun e w' => e = .returned (.int .i64 (Lib.bitLen n : Nat)) ∧ w' = w := by
  have h := Any.bits_Len (SlLaysF0.n15.bits (P := Tryz.prog) (ρ := npRen) { np47 with }) (n : Int) w (by omega) (by omega)
  rwa [Int.toNat_natCast] at h
/-- Ascending in the order of keys. -/
def Asc (ts : List Tk) (l : List Ky) : Prop := l.Pairwise fun x y => ltK ts y x = false
theorem perm_all {d R : Array Ky} {n : Nat} (hd : d.size = n) (hR : R.size = n) (h : Sort.PermIn 0 n d R) : R.toList.Perm d.toList := by
  have := h.2.2
  rw [show R.extract 0 n = R from by rw [← hR]; exact Array.extract_size, show d.extract 0 n = d from by rw [← hd]; exact Array.extract_size] at this
  exact this
theorem asc_of {ts : List Tk} {R : Array Ky} {n : Nat} (hR : R.size = n) (h : Sort.SortedIn (ltK ts) 0 n R) : Asc ts R.toList := by
  unfold Asc
  rw [List.pairwise_iff_getElem]
  intro i j hi hj hij
  have hi' : i < R.size := by simpa using hi
  have hj' : j < R.size := by simpa using hj
  have := h i j (Nat.zero_le _) hij (by omega)
  rw [getElem!_pos R i hi', getElem!_pos R j hj'] at this
  simpa using this
/-- What a sort leaves. -/
def SortQ (ts : List Tk) (w : World) (g : Nat) (l : List Ky) (e : Ending) (w' : World) : Prop := e = .returned (.tuple #[]) ∧ ∃ l' : List Ky, l'.Perm l ∧ Asc ts l' ∧ KRow w' g l' ∧ Gr (fun b => b = g) w w'
set_option maxRecDepth 20000 in
set_option maxHeartbeats 1000000 in
theorem sortK {S : Nat → Prop} (w : World) (p : Nat) (ts : List Tk) (ne np m : Nat) (hW : WfT S w p ts ne np m) (g cap : Nat) (l : List Ky) (hK : KRow w g l) (hn : l.length ≤ 100000) (hgp : p ≠ g) (hgS : ∀ b, S b → b ≠ g) :
    Calls Tryz.prog 48 #[.slice (some ⟨g, 0, none⟩) l.length cap, cmpV p] w (SortQ ts w g l) := by
  obtain ⟨n, hl⟩ : ∃ n, l.length = n := ⟨_, rfl⟩
  have hlim : Lib.bitLen n ≤ 62 := Lib.bitLen_le n 62 (by omega) (by omega)
  have hp := pdqK (S := S) (F := fun x => x = g) p ts ne np m g cap n (by omega) rfl (n + 1) 0 n (Lib.bitLen n) l.toArray w (by omega) (by simpa using hl) (by unfold KA; simpa using hK) ⟨hW, hgp, hgS⟩ (Nat.zero_le _) (Nat.le_refl _) (by omega) (.inl rfl)
  have hw : IntKind.u64.wrap (n : Int) = (n : Int) := by
    have : (n : Int) < 18446744073709551616 := by omega
    have : (0 : Int) ≤ n := by omega
    simp [IntKind.wrap, IntKind.bits, IntKind.signed]
    omega
  have HLN := Lib.hid (fun W => lenK n (by omega) W)
  rw [hl] at hn ⊢
  have hq : ∀ e w', PdqP ts g n 0 n l.toArray w e w' → SortQ ts w g l e w' := by
    rintro e w' ⟨he, R, hR, h1, h2, h3, h4⟩
    exact ⟨he, R.toList, perm_all (by simpa using hl) hR h1, asc_of hR h2, h3, h4⟩
  have HQ := Lib.hid hq
  generalize Lib.bitLen n = lim at HLN hp
  have HP := Lib.hid hp
  clear hK hW hq hp hl hlim hgS hgp
  obtain ⟨fv, hfv⟩ : ∃ v, cmpV p = v := ⟨_, rfl⟩
  rw [hfv] at HP ⊢
  clear hfv
  go_enter Tryz.func48, Tryz.ntmps48
  go_wp2_with fail
  have hX := HLN.out w
  refine Calls.mono hX ?_
  clear hX
  rintro e w1 ⟨rfl, rfl⟩
  go_wp2_with fail
  have hX := HP.out
  refine Calls.mono hX ?_
  clear hX
  intro e w1 h
  have hq := HQ.out e w1 h
  have he := hq.1
  have HQ2 := Lib.hid hq
  clear hq h
  subst he
  go_wp2_with fail
  refine bodyPost_end (results_none rfl _ _ _) rfl ?_
  exact HQ2.out
end Go.Proofs.YtdcjocldggmdbaaGreat
