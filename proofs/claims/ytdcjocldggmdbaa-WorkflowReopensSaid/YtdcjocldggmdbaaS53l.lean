/- Layer 53: the sort of many keys: insertionSort. -/
import Derived.Test.YtdcjocldggmdbaaS53k
set_option linter.unusedSimpArgs false
namespace Go.Proofs.Ytdcjocldggmdbaa
open Go.RowKit Go

theorem in_go (lt : Ky → Ky → Bool) (d : Array Ky) (a j r : Nat) (hr : r = j - 1) (h : a < j) (hl : lt d[j]! d[r]! = true) : Sort.insInner lt a j d = Sort.insInner lt a r (Sort.swp d j r) := by
  obtain ⟨k, rfl⟩ : ∃ k, j = k + 1 := ⟨j - 1, by omega⟩
  obtain rfl : r = k := by omega
  rw [Sort.insInner, if_pos (by simp [hl]; omega)]
theorem in_stop (lt : Ky → Ky → Bool) (d : Array Ky) (a j r : Nat) (hr : r = j - 1) (h : ¬ a < j ∨ lt d[j]! d[r]! = false) : Sort.insInner lt a j d = d := by
  cases j with
  | zero => rfl
  | succ k =>
    obtain rfl : r = k := by omega
    rw [Sort.insInner, if_neg]
    rw [Bool.and_eq_true_iff]
    rintro ⟨h1, h2⟩
    rcases h with h | h
    · exact h (of_decide_eq_true h1)
    · rw [h] at h2
      exact absurd h2 (by decide)
theorem out_go (lt : Ky → Ky → Bool) (d : Array Ky) (a b i : Nat) (h : i < b) : Sort.insOuter lt a b i d = Sort.insOuter lt a b (i + 1) (Sort.insInner lt a i d) := by rw [Sort.insOuter, if_pos h]
theorem out_stop (lt : Ky → Ky → Bool) (d : Array Ky) (a b i : Nat) (h : ¬ i < b) : Sort.insOuter lt a b i d = d := by rw [Sort.insOuter, if_neg h]
set_option maxRecDepth 20000 in
set_option maxHeartbeats 4000000 in
theorem insK {S : Nat → Prop} {F : Nat → Prop} (w : World) (p : Nat) (ts : List Tk) (ne np m : Nat) (hS : SCtx S p ts ne np m F w) (g cap n : Nat) (d : Array Ky) (hn : d.size = n) (hn2 : n ≤ 100000) (hK : KA w g d) (hFg : F g) (a b : Nat) (hab : a ≤ b) (hbn : b ≤ n) :
    Calls Try.prog 70 #[.slice (some ⟨g, 0, none⟩) n cap, .int .i64 (a : Nat), .int .i64 (b : Nat), cmpV p] w fun e w' => e = .returned (.tuple #[]) ∧ KA w' g (Sort.insertionSort (ltK ts) d a b) ∧ Gr (fun x => x = g) w w' := by
  obtain ⟨res, hr⟩ : ∃ r, Sort.insertionSort (ltK ts) d a b = r := ⟨_, rfl⟩
  rw [hr]
  unfold Sort.insertionSort at hr
  obtain ⟨i3, hi3⟩ : ∃ q, q = a + 1 := ⟨_, rfl⟩
  rw [← hi3] at hr
  have ei : ((a : Int) + 1) = (i3 : Int) := by omega
  have hi3a : a < i3 := by omega
  have hi3b : i3 ≤ b + 1 := by omega
  have HR := Lib.hid hr
  have HK := Lib.hid hK
  have HN := Lib.hid hn
  have HS := Lib.hid hS
  have HFG := Lib.hid hFg
  clear hr hK hn hS hFg hi3
  unfold cmpV
  go_enter Try.func70, Try.ntmps70
  go_wp2_with fail
  go_loopw [8, 9] (fun iv _ wr => ∃ (i2 : Nat) (dk : Array Ky), iv = .int .i64 (i2 : Nat) ∧ a < i2 ∧ i2 ≤ b + 1 ∧ dk.size = n ∧ Sort.insOuter (ltK ts) a b i2 dk = res ∧ KA wr g dk ∧ Gr (fun x => x = g) w wr) (fun iv _ _ => b + 2 - (intOf iv).toNat)
  case atStart => exact ⟨i3, d, rfl, hi3a, hi3b, HN.out, HR.out, HK.out, Gr.refl _ _⟩
  obtain ⟨i2, dk, rfl, hi2a, hi2b, hdk, hpl, hka2, hga2⟩ := hrel
  have HSZ2 := Lib.hid hdk
  have HPL := Lib.hid hpl
  have HK2 := Lib.hid hka2
  have HG2 := Lib.hid hga2
  clear hdk hpl hka2 hga2
  by_cases hlt : i2 < b
  · have hltI : (i2 : Int) < (b : Int) := by omega
    have HNO := Lib.hid ((out_go (ltK ts) dk a b i2 hlt).symm.trans HPL.out)
    go_wp2_with fail
    go_loopw [9] (fun jv wr => ∃ (q : Nat) (dj : Array Ky), jv = .int .i64 (q : Nat) ∧ q ≤ i2 ∧ a ≤ q ∧ dj.size = n ∧ Sort.insInner (ltK ts) a q dj = Sort.insInner (ltK ts) a i2 dk ∧ KA wr g dj ∧ Gr (fun x => x = g) w wr) (fun jv _ => (intOf jv).toNat)
    case atStart => exact ⟨i2, dk, rfl, Nat.le_refl _, by omega, HSZ2.out, rfl, HK2.out, HG2.out⟩
    obtain ⟨q, dj, rfl, hqi, hqa, hsz, hsc, hka, hga⟩ := hrel
    have HSZJ := Lib.hid hsz
    have HSC := Lib.hid hsc
    have HKA := Lib.hid hka
    have HGA := Lib.hid hga
    clear hsz hsc hka hga
    obtain ⟨r, hr⟩ : ∃ r, r = q - 1 := ⟨_, rfl⟩
    have HQ := Lib.hid hr
    have hrn : r < n := by omega
    have hqn : q < n := by omega
    have hrnI : (r : Int) < (n : Int) := by omega
    have hqnI : (q : Int) < (n : Int) := by omega
    clear hr
    go_upto_region 4 with fail
    obtain ⟨tb, htb⟩ : ∃ tb, tb = (decide (a < q) && ltK ts dj[q]! dj[r]!) := ⟨_, rfl⟩
    have HTB := Lib.hid htb
    clear htb
    go_cut [34] (fun sv wx => sv = .bool tb ∧ KA wx g dj ∧ Gr (fun x => x = g) w wx)
    case first =>
      by_cases hle : a < q
      · have hleI : (a : Int) < (q : Int) := by omega
        have hq1 : 1 ≤ q := by omega
        obtain ⟨eb, heb⟩ : ∃ vb, ltK ts dj[q]! dj[r]! = vb := ⟨_, rfl⟩
        obtain ⟨m0, m1, m2⟩ := HKA.out.cell q (by rw [HSZJ.out]; omega)
        obtain ⟨p0, p1, p2⟩ := HKA.out.cell r (by rw [HSZJ.out]; omega)
        obtain ⟨cc, hcc, hcall⟩ := cmpAt (HS.out.gr HGA.out (fun _ e => .inl (by rw [e]; exact HFG.out))) dj[q]! dj[r]! eb heb
        have HCC := Lib.hid hcc
        have HEB := Lib.hid heb
        clear hcc heb
        generalize dj[q]! = x at m0 m1 m2 hcall
        generalize dj[r]! = y at p0 p1 p2 hcall
        obtain ⟨x1, x2, x3⟩ := x
        obtain ⟨y1, y2, y3⟩ := y
        simp only at m0 m1 m2 p0 p1 p2 hcall
        have HCALL := Lib.hid hcall
        have hC0 : Cells [(⟨g, q * 3, none⟩, .string x1), (⟨g, q * 3 + 1, none⟩, .int .i64 x2), (⟨g, q * 3 + 2, none⟩, .int .i64 x3), (⟨g, r * 3, none⟩, .string y1), (⟨g, r * 3 + 1, none⟩, .int .i64 y2), (⟨g, r * 3 + 2, none⟩, .int .i64 y3)] wr := ⟨m0, m1, m2, p0, p1, p2, trivial⟩
        clear m0 m1 m2 p0 p1 p2 hcall
        refine wp_region_T (Cells [(⟨g, q * 3, none⟩, .string x1), (⟨g, q * 3 + 1, none⟩, .int .i64 x2), (⟨g, q * 3 + 2, none⟩, .int .i64 x3), (⟨g, r * 3, none⟩, .string y1), (⟨g, r * 3 + 1, none⟩, .int .i64 y2), (⟨g, r * 3 + 2, none⟩, .int .i64 y3)]) (fun _ => false) (by kernel_rfl) ?_
        have hSss1 := Cells.drew hC0
        have hB_0_s1 : Below wr.heap.size wr wr.drew := below_drew _
        generalize wr.drew = s1 at hSss1 hB_0_s1 ⊢
        have hB_s1_s1 := Below.refl s1.heap.size s1
        refine wpAnyT_pure (i := 0) (v := ?_) rfl (by kernel_rfl) (by kernel_rfl) (by kernel_rfl) (fun _ _ _ h => h) (by rfl) ?_ ?_
        rotate_left
        · intro w; go_simp; try with_reducible rfl
        simp only [Act.put, List.setIfInBounds_toArray, List.set_cons_zero, List.set_cons_succ, List.getElem_toArray, List.getElem_cons_succ, List.getElem_cons_zero]
        refine wpAnyT_pure (i := 1) (v := ?_) rfl (by kernel_rfl) (by kernel_rfl) (by kernel_rfl) (fun _ _ _ h => h) (by rfl) ?_ ?_
        rotate_left
        · intro w; go_simp; try with_reducible rfl
        simp only [Act.put, List.setIfInBounds_toArray, List.set_cons_zero, List.set_cons_succ, List.getElem_toArray, List.getElem_cons_succ, List.getElem_cons_zero]
        refine wpAnyT_pure (i := 2) (v := (.bool true)) rfl (by kernel_rfl) (by kernel_rfl) (by kernel_rfl) (fun _ _ _ h => h) (by rfl) ?_ ?_
        · intro w; go_simp <;> omega
        simp only [Act.put, List.setIfInBounds_toArray, List.set_cons_zero, List.set_cons_succ, List.getElem_toArray, List.getElem_cons_succ, List.getElem_cons_zero]
        refine wpAnyT_pure (i := 3) (v := ?_) rfl (by kernel_rfl) (by kernel_rfl) (by kernel_rfl) (fun _ _ _ h => h) (by rfl) ?_ ?_
        rotate_left
        · intro w; go_simp; try with_reducible rfl
        simp only [Act.put, List.setIfInBounds_toArray, List.set_cons_zero, List.set_cons_succ, List.getElem_toArray, List.getElem_cons_succ, List.getElem_cons_zero]
        refine wpAnyT_pure (i := 4) (v := ?_) rfl (by kernel_rfl) (by kernel_rfl) (by kernel_rfl) (fun _ _ _ h => h) (by rfl) ?_ ?_
        rotate_left
        · intro w; go_simp; try with_reducible rfl
        simp only [Act.put, List.setIfInBounds_toArray, List.set_cons_zero, List.set_cons_succ, List.getElem_toArray, List.getElem_cons_succ, List.getElem_cons_zero]
        refine wpAnyT_pure (i := 5) (v := ?_) rfl (by kernel_rfl) (by kernel_rfl) (by kernel_rfl) (fun _ _ _ h => h) (by rfl) ?_ ?_
        rotate_left
        · intro w; go_simp; try with_reducible rfl
        simp only [Act.put, List.setIfInBounds_toArray, List.set_cons_zero, List.set_cons_succ, List.getElem_toArray, List.getElem_cons_succ, List.getElem_cons_zero]
        refine wpAnyT_pure (i := 6) (v := ?_) rfl (by kernel_rfl) (by kernel_rfl) (by kernel_rfl) (fun _ _ _ h => h) (by rfl) ?_ ?_
        rotate_left
        · intro w; go_simp; try with_reducible rfl
        simp only [Act.put, List.setIfInBounds_toArray, List.set_cons_zero, List.set_cons_succ, List.getElem_toArray, List.getElem_cons_succ, List.getElem_cons_zero]
        refine wpAnyT_pure (i := 7) (v := ?_) rfl (by kernel_rfl) (by kernel_rfl) (by kernel_rfl) (fun _ _ _ h => h) (by rfl) ?_ ?_
        rotate_left
        · intro w; go_simp; try with_reducible rfl
        simp only [Act.put, List.setIfInBounds_toArray, List.set_cons_zero, List.set_cons_succ, List.getElem_toArray, List.getElem_cons_succ, List.getElem_cons_zero]
        refine wpAnyT_pure (i := 9) (v := ?_) rfl (by kernel_rfl) (by kernel_rfl) (by kernel_rfl) (fun _ _ _ h => h) (by rfl) ?_ ?_
        rotate_left
        · intro w; go_simp; try with_reducible rfl
        simp only [Act.put, List.setIfInBounds_toArray, List.set_cons_zero, List.set_cons_succ, List.getElem_toArray, List.getElem_cons_succ, List.getElem_cons_zero]
        refine wpAnyT_pure (i := 10) (v := ?_) rfl (by kernel_rfl) (by kernel_rfl) (by kernel_rfl) (fun _ _ _ h => h) (by rfl) ?_ ?_
        rotate_left
        · intro w; go_simp; try with_reducible rfl
        simp only [Act.put, List.setIfInBounds_toArray, List.set_cons_zero, List.set_cons_succ, List.getElem_toArray, List.getElem_cons_succ, List.getElem_cons_zero]
        refine wpAnyT_loadW (i := 8) (v := ?_) rfl (by kernel_rfl) (by kernel_rfl) (by kernel_rfl) (by kernel_rfl) (by kernel_rfl) (fun _ _ _ h => h) (Or.inl ⟨by rfl, ?_⟩) hSss1 ?_
        rotate_left
        · intro w hSw; obtain ⟨e0, e1, e2, e3, e4, e5, -⟩ := hSw; go_simp; try with_reducible rfl
        simp only [Act.put, List.setIfInBounds_toArray, List.set_cons_zero, List.set_cons_succ, List.getElem_toArray, List.getElem_cons_succ, List.getElem_cons_zero]
        refine wpAnyT_pure (i := 11) (v := (.int .i64 (r : Nat))) rfl (by kernel_rfl) (by kernel_rfl) (by kernel_rfl) (fun _ _ _ h => h) (by rfl) ?_ ?_
        · intro w; have hq := HQ.out; clear HQ; go_simp; rw [IntKind.wrap_i64] <;> omega
        simp only [Act.put, List.setIfInBounds_toArray, List.set_cons_zero, List.set_cons_succ, List.getElem_toArray, List.getElem_cons_succ, List.getElem_cons_zero]
        refine wpAnyT_pure (i := 12) (v := ?_) rfl (by kernel_rfl) (by kernel_rfl) (by kernel_rfl) (fun _ _ _ h => h) (by rfl) ?_ ?_
        rotate_left
        · intro w; go_simp; try with_reducible rfl
        simp only [Act.put, List.setIfInBounds_toArray, List.set_cons_zero, List.set_cons_succ, List.getElem_toArray, List.getElem_cons_succ, List.getElem_cons_zero]
        refine wpAnyT_loadW (i := 13) (v := ?_) rfl (by kernel_rfl) (by kernel_rfl) (by kernel_rfl) (by kernel_rfl) (by kernel_rfl) (fun _ _ _ h => h) (Or.inl ⟨by rfl, ?_⟩) hSss1 ?_
        rotate_left
        · intro w hSw; obtain ⟨e0, e1, e2, e3, e4, e5, -⟩ := hSw; go_simp; try with_reducible rfl
        simp only [Act.put, List.setIfInBounds_toArray, List.set_cons_zero, List.set_cons_succ, List.getElem_toArray, List.getElem_cons_succ, List.getElem_cons_zero]
        refine wpAnyT_one (i := 14) (by kernel_rfl) rfl (by rfl) ?_
        refine wp_enter (f := 40) (args := #[.pointer (some ⟨p, 0, none⟩), .agg #[.string x1, .int .i64 x2, .int .i64 x3], .agg #[.string y1, .int .i64 y2, .int .i64 y3]]) (by go_simp) (HCALL.out s1 (Gr.of_below (hB_0_s1.trans ((hB_s1_s1).mono (hB_0_s1).size)))) ?_
        rintro e w102 ⟨rfl, hX⟩
        have hB_s1_w102 := below_step hB_s1_s1 hX
        have hB_w102_w102 := Below.refl w102.heap.size w102
        have hSsw102 := Cells.below hB_s1_w102 hSss1
        clear hX
        refine ⟨_, rfl, fun _ _ => hSsw102, ?_⟩
        try simp only [Act.put, List.setIfInBounds_toArray, List.set_cons_zero, List.set_cons_succ, List.getElem_toArray, List.getElem_cons_succ, List.getElem_cons_zero]
        refine wpAnyT_pure (i := 15) (v := (.bool eb)) rfl (by kernel_rfl) (by kernel_rfl) (by kernel_rfl) (fun _ _ _ h => h) (by rfl) ?_ ?_
        · intro w; have hq := HCC.out; clear HCC; go_simp <;> exact hq
        simp only [Act.put, List.setIfInBounds_toArray, List.set_cons_zero, List.set_cons_succ, List.getElem_toArray, List.getElem_cons_succ, List.getElem_cons_zero]
        refine wpAnyT_pure (i := 16) (v := ?_) rfl (by kernel_rfl) (by kernel_rfl) (by kernel_rfl) (fun _ _ _ h => h) (by rfl) ?_ ?_
        rotate_left
        · intro w; go_simp; try with_reducible rfl
        simp only [Act.put, List.setIfInBounds_toArray, List.set_cons_zero, List.set_cons_succ, List.getElem_toArray, List.getElem_cons_succ, List.getElem_cons_zero]
        refine wpAnyT_done (by kernel_rfl) ?_ _
        have hbP : Below wr.heap.size wr w102 := hB_0_s1.trans ((hB_s1_w102).mono (hB_0_s1).size)
        have HRK := Lib.hid (HKA.out.below hbP)
        have HRG := Lib.hid (HGA.out.step hbP)
        clear hbP
        go_wp2_with fail
        go_meet
        case rel => exact ⟨by rw [HTB.out, HEB.out, decide_eq_true hle]; rfl, HRK.out, HRG.out⟩
      · have hleI : ¬ (a : Int) < (q : Int) := by omega
        have hC0 : Cells [] wr := trivial
        refine wp_region_T (Cells []) (fun _ => false) (by kernel_rfl) ?_
        have hSss3 := Cells.drew hC0
        have hB_0_s3 : Below wr.heap.size wr wr.drew := below_drew _
        generalize wr.drew = s3 at hSss3 hB_0_s3 ⊢
        have hB_s3_s3 := Below.refl s3.heap.size s3
        refine wpAnyT_pure (i := 0) (v := ?_) rfl (by kernel_rfl) (by kernel_rfl) (by kernel_rfl) (fun _ _ _ h => h) (by rfl) ?_ ?_
        rotate_left
        · intro w; go_simp; try with_reducible rfl
        simp only [Act.put, List.setIfInBounds_toArray, List.set_cons_zero, List.set_cons_succ, List.getElem_toArray, List.getElem_cons_succ, List.getElem_cons_zero]
        refine wpAnyT_pure (i := 1) (v := ?_) rfl (by kernel_rfl) (by kernel_rfl) (by kernel_rfl) (fun _ _ _ h => h) (by rfl) ?_ ?_
        rotate_left
        · intro w; go_simp; try with_reducible rfl
        simp only [Act.put, List.setIfInBounds_toArray, List.set_cons_zero, List.set_cons_succ, List.getElem_toArray, List.getElem_cons_succ, List.getElem_cons_zero]
        refine wpAnyT_pure (i := 2) (v := ?_) rfl (by kernel_rfl) (by kernel_rfl) (by kernel_rfl) (fun _ _ _ h => h) (by rfl) ?_ ?_
        rotate_left
        · intro w; go_simp; try with_reducible rfl
        simp only [Act.put, List.setIfInBounds_toArray, List.set_cons_zero, List.set_cons_succ, List.getElem_toArray, List.getElem_cons_succ, List.getElem_cons_zero]
        refine wpAnyT_pure (i := 3) (v := ?_) rfl (by kernel_rfl) (by kernel_rfl) (by kernel_rfl) (fun _ _ _ h => h) (by rfl) ?_ ?_
        rotate_left
        · intro w; go_simp; try with_reducible rfl
        simp only [Act.put, List.setIfInBounds_toArray, List.set_cons_zero, List.set_cons_succ, List.getElem_toArray, List.getElem_cons_succ, List.getElem_cons_zero]
        refine wpAnyT_skip (i := 4) rfl (by kernel_rfl) (by kernel_rfl) (by kernel_rfl) (fun _ _ _ h => h) (by rfl) ?_
        simp only [Act.put, List.setIfInBounds_toArray, List.set_cons_zero, List.set_cons_succ, List.getElem_toArray, List.getElem_cons_succ, List.getElem_cons_zero]
        refine wpAnyT_skip (i := 5) rfl (by kernel_rfl) (by kernel_rfl) (by kernel_rfl) (fun _ _ _ h => h) (by rfl) ?_
        simp only [Act.put, List.setIfInBounds_toArray, List.set_cons_zero, List.set_cons_succ, List.getElem_toArray, List.getElem_cons_succ, List.getElem_cons_zero]
        refine wpAnyT_skip (i := 6) rfl (by kernel_rfl) (by kernel_rfl) (by kernel_rfl) (fun _ _ _ h => h) (by rfl) ?_
        simp only [Act.put, List.setIfInBounds_toArray, List.set_cons_zero, List.set_cons_succ, List.getElem_toArray, List.getElem_cons_succ, List.getElem_cons_zero]
        refine wpAnyT_skip (i := 7) rfl (by kernel_rfl) (by kernel_rfl) (by kernel_rfl) (fun _ _ _ h => h) (by rfl) ?_
        simp only [Act.put, List.setIfInBounds_toArray, List.set_cons_zero, List.set_cons_succ, List.getElem_toArray, List.getElem_cons_succ, List.getElem_cons_zero]
        refine wpAnyT_skip (i := 8) rfl (by kernel_rfl) (by kernel_rfl) (by kernel_rfl) (fun _ _ _ h => h) (by rfl) ?_
        simp only [Act.put, List.setIfInBounds_toArray, List.set_cons_zero, List.set_cons_succ, List.getElem_toArray, List.getElem_cons_succ, List.getElem_cons_zero]
        refine wpAnyT_skip (i := 9) rfl (by kernel_rfl) (by kernel_rfl) (by kernel_rfl) (fun _ _ _ h => h) (by rfl) ?_
        simp only [Act.put, List.setIfInBounds_toArray, List.set_cons_zero, List.set_cons_succ, List.getElem_toArray, List.getElem_cons_succ, List.getElem_cons_zero]
        refine wpAnyT_skip (i := 10) rfl (by kernel_rfl) (by kernel_rfl) (by kernel_rfl) (fun _ _ _ h => h) (by rfl) ?_
        simp only [Act.put, List.setIfInBounds_toArray, List.set_cons_zero, List.set_cons_succ, List.getElem_toArray, List.getElem_cons_succ, List.getElem_cons_zero]
        refine wpAnyT_skip (i := 11) rfl (by kernel_rfl) (by kernel_rfl) (by kernel_rfl) (fun _ _ _ h => h) (by rfl) ?_
        simp only [Act.put, List.setIfInBounds_toArray, List.set_cons_zero, List.set_cons_succ, List.getElem_toArray, List.getElem_cons_succ, List.getElem_cons_zero]
        refine wpAnyT_skip (i := 12) rfl (by kernel_rfl) (by kernel_rfl) (by kernel_rfl) (fun _ _ _ h => h) (by rfl) ?_
        simp only [Act.put, List.setIfInBounds_toArray, List.set_cons_zero, List.set_cons_succ, List.getElem_toArray, List.getElem_cons_succ, List.getElem_cons_zero]
        refine wpAnyT_skip (i := 13) rfl (by kernel_rfl) (by kernel_rfl) (by kernel_rfl) (fun _ _ _ h => h) (by rfl) ?_
        simp only [Act.put, List.setIfInBounds_toArray, List.set_cons_zero, List.set_cons_succ, List.getElem_toArray, List.getElem_cons_succ, List.getElem_cons_zero]
        refine wpAnyT_skip (i := 14) rfl (by kernel_rfl) (by kernel_rfl) (by kernel_rfl) (fun _ _ _ h => h) (by rfl) ?_
        simp only [Act.put, List.setIfInBounds_toArray, List.set_cons_zero, List.set_cons_succ, List.getElem_toArray, List.getElem_cons_succ, List.getElem_cons_zero]
        refine wpAnyT_skip (i := 15) rfl (by kernel_rfl) (by kernel_rfl) (by kernel_rfl) (fun _ _ _ h => h) (by rfl) ?_
        simp only [Act.put, List.setIfInBounds_toArray, List.set_cons_zero, List.set_cons_succ, List.getElem_toArray, List.getElem_cons_succ, List.getElem_cons_zero]
        refine wpAnyT_pure (i := 16) (v := ?_) rfl (by kernel_rfl) (by kernel_rfl) (by kernel_rfl) (fun _ _ _ h => h) (by rfl) ?_ ?_
        rotate_left
        · intro w; go_simp; try with_reducible rfl
        simp only [Act.put, List.setIfInBounds_toArray, List.set_cons_zero, List.set_cons_succ, List.getElem_toArray, List.getElem_cons_succ, List.getElem_cons_zero]
        refine wpAnyT_done (by kernel_rfl) ?_ _
        have hbP : Below wr.heap.size wr s3 := hB_0_s3.trans ((hB_s3_s3).mono (hB_0_s3).size)
        have HRK := Lib.hid (HKA.out.below hbP)
        have HRG := Lib.hid (HGA.out.step hbP)
        clear hbP
        go_wp2_with fail
        go_meet
        case rel => exact ⟨by rw [HTB.out, decide_eq_false hle]; rfl, HRK.out, HRG.out⟩
    obtain ⟨rfl, hkx, hgx⟩ := hcut
    have HKU := Lib.hid hkx
    have HGU := Lib.hid hgx
    clear hkx hgx
    rcases Bool.eq_false_or_eq_true tb with ht | ht
    · subst ht
      obtain ⟨h1, h2⟩ := Bool.and_eq_true_iff.1 HTB.out.symm
      have h1' := of_decide_eq_true h1
      have HNX := Lib.hid ((in_go (ltK ts) dj a q r HQ.out h1' h2).symm.trans HSC.out)
      have hq1 : 1 ≤ q := by omega
      clear h1 h2
      go_wp2_with fail
      obtain ⟨m0, m1, m2⟩ := HKU.out.cell q (by rw [HSZJ.out]; omega)
      obtain ⟨p0, p1, p2⟩ := HKU.out.cell r (by rw [HSZJ.out]; omega)
      have HSW := Lib.hid (show Sort.swp dj q r = (dj.setIfInBounds q dj[r]!).setIfInBounds r dj[q]! from rfl)
      have HSZN := Lib.hid (show (Sort.swp dj q r).size = n from by rw [swp_size]; exact HSZJ.out)
      generalize dj[q]! = x at m0 m1 m2 HSW
      generalize dj[r]! = y at p0 p1 p2 HSW
      obtain ⟨x1, x2, x3⟩ := x
      obtain ⟨y1, y2, y3⟩ := y
      simp only at m0 m1 m2 p0 p1 p2
      have hC0 : Cells [(⟨g, q * 3, none⟩, .string x1), (⟨g, q * 3 + 1, none⟩, .int .i64 x2), (⟨g, q * 3 + 2, none⟩, .int .i64 x3), (⟨g, r * 3, none⟩, .string y1), (⟨g, r * 3 + 1, none⟩, .int .i64 y2), (⟨g, r * 3 + 2, none⟩, .int .i64 y3)] wc := ⟨m0, m1, m2, p0, p1, p2, trivial⟩
      clear m0 m1 m2 p0 p1 p2
      refine wp_region_T (Cells [(⟨g, q * 3, none⟩, .string x1), (⟨g, q * 3 + 1, none⟩, .int .i64 x2), (⟨g, q * 3 + 2, none⟩, .int .i64 x3), (⟨g, r * 3, none⟩, .string y1), (⟨g, r * 3 + 1, none⟩, .int .i64 y2), (⟨g, r * 3 + 2, none⟩, .int .i64 y3)]) (fun i => i == 15 || i == 17) (by kernel_rfl) ?_
      have hSss4 := Cells.drew hC0
      have hB_0_s4 : Below wc.heap.size wc wc.drew := below_drew _
      generalize wc.drew = s4 at hSss4 hB_0_s4 ⊢
      have hB_s4_s4 := Below.refl s4.heap.size s4
      refine wpAnyT_pure (i := 0) (v := ?_) rfl (by kernel_rfl) (by kernel_rfl) (by kernel_rfl) (fun _ _ _ h => h) (by rfl) ?_ ?_
      rotate_left
      · intro w; go_simp; try with_reducible rfl
      simp only [Act.put, List.setIfInBounds_toArray, List.set_cons_zero, List.set_cons_succ, List.getElem_toArray, List.getElem_cons_succ, List.getElem_cons_zero]
      refine wpAnyT_pure (i := 1) (v := ?_) rfl (by kernel_rfl) (by kernel_rfl) (by kernel_rfl) (fun _ _ _ h => h) (by rfl) ?_ ?_
      rotate_left
      · intro w; go_simp; try with_reducible rfl
      simp only [Act.put, List.setIfInBounds_toArray, List.set_cons_zero, List.set_cons_succ, List.getElem_toArray, List.getElem_cons_succ, List.getElem_cons_zero]
      refine wpAnyT_pure (i := 2) (v := ?_) rfl (by kernel_rfl) (by kernel_rfl) (by kernel_rfl) (fun _ _ _ h => h) (by rfl) ?_ ?_
      rotate_left
      · intro w; go_simp; try with_reducible rfl
      simp only [Act.put, List.setIfInBounds_toArray, List.set_cons_zero, List.set_cons_succ, List.getElem_toArray, List.getElem_cons_succ, List.getElem_cons_zero]
      refine wpAnyT_pure (i := 3) (v := ?_) rfl (by kernel_rfl) (by kernel_rfl) (by kernel_rfl) (fun _ _ _ h => h) (by rfl) ?_ ?_
      rotate_left
      · intro w; go_simp; try with_reducible rfl
      simp only [Act.put, List.setIfInBounds_toArray, List.set_cons_zero, List.set_cons_succ, List.getElem_toArray, List.getElem_cons_succ, List.getElem_cons_zero]
      refine wpAnyT_pure (i := 5) (v := ?_) rfl (by kernel_rfl) (by kernel_rfl) (by kernel_rfl) (fun _ _ _ h => h) (by rfl) ?_ ?_
      rotate_left
      · intro w; go_simp; try with_reducible rfl
      simp only [Act.put, List.setIfInBounds_toArray, List.set_cons_zero, List.set_cons_succ, List.getElem_toArray, List.getElem_cons_succ, List.getElem_cons_zero]
      refine wpAnyT_pure (i := 6) (v := ?_) rfl (by kernel_rfl) (by kernel_rfl) (by kernel_rfl) (fun _ _ _ h => h) (by rfl) ?_ ?_
      rotate_left
      · intro w; go_simp; try with_reducible rfl
      simp only [Act.put, List.setIfInBounds_toArray, List.set_cons_zero, List.set_cons_succ, List.getElem_toArray, List.getElem_cons_succ, List.getElem_cons_zero]
      refine wpAnyT_pure (i := 10) (v := ?_) rfl (by kernel_rfl) (by kernel_rfl) (by kernel_rfl) (fun _ _ _ h => h) (by rfl) ?_ ?_
      rotate_left
      · intro w; go_simp; try with_reducible rfl
      simp only [Act.put, List.setIfInBounds_toArray, List.set_cons_zero, List.set_cons_succ, List.getElem_toArray, List.getElem_cons_succ, List.getElem_cons_zero]
      refine wpAnyT_pure (i := 11) (v := ?_) rfl (by kernel_rfl) (by kernel_rfl) (by kernel_rfl) (fun _ _ _ h => h) (by rfl) ?_ ?_
      rotate_left
      · intro w; go_simp; try with_reducible rfl
      simp only [Act.put, List.setIfInBounds_toArray, List.set_cons_zero, List.set_cons_succ, List.getElem_toArray, List.getElem_cons_succ, List.getElem_cons_zero]
      refine wpAnyT_pure (i := 12) (v := ?_) rfl (by kernel_rfl) (by kernel_rfl) (by kernel_rfl) (fun _ _ _ h => h) (by rfl) ?_ ?_
      rotate_left
      · intro w; go_simp; try with_reducible rfl
      simp only [Act.put, List.setIfInBounds_toArray, List.set_cons_zero, List.set_cons_succ, List.getElem_toArray, List.getElem_cons_succ, List.getElem_cons_zero]
      refine wpAnyT_loadW (i := 13) (v := ?_) rfl (by kernel_rfl) (by kernel_rfl) (by kernel_rfl) (by kernel_rfl) (by kernel_rfl) (fun _ _ _ h => h) (Or.inl ⟨by rfl, ?_⟩) hSss4 ?_
      rotate_left
      · intro w hSw; obtain ⟨e0, e1, e2, e3, e4, e5, -⟩ := hSw; go_simp; try with_reducible rfl
      simp only [Act.put, List.setIfInBounds_toArray, List.set_cons_zero, List.set_cons_succ, List.getElem_toArray, List.getElem_cons_succ, List.getElem_cons_zero]
      refine wpAnyT_pure (i := 4) (v := (.int .i64 (r : Nat))) rfl (by kernel_rfl) (by kernel_rfl) (by kernel_rfl) (fun _ _ _ h => h) (by rfl) ?_ ?_
      · intro w; have hq := HQ.out; clear HQ; go_simp; rw [IntKind.wrap_i64] <;> omega
      simp only [Act.put, List.setIfInBounds_toArray, List.set_cons_zero, List.set_cons_succ, List.getElem_toArray, List.getElem_cons_succ, List.getElem_cons_zero]
      refine wpAnyT_pure (i := 7) (v := (.int .i64 (r : Nat))) rfl (by kernel_rfl) (by kernel_rfl) (by kernel_rfl) (fun _ _ _ h => h) (by rfl) ?_ ?_
      · intro w; have hq := HQ.out; clear HQ; go_simp; rw [IntKind.wrap_i64] <;> omega
      simp only [Act.put, List.setIfInBounds_toArray, List.set_cons_zero, List.set_cons_succ, List.getElem_toArray, List.getElem_cons_succ, List.getElem_cons_zero]
      refine wpAnyT_pure (i := 8) (v := ?_) rfl (by kernel_rfl) (by kernel_rfl) (by kernel_rfl) (fun _ _ _ h => h) (by rfl) ?_ ?_
      rotate_left
      · intro w; go_simp; try with_reducible rfl
      simp only [Act.put, List.setIfInBounds_toArray, List.set_cons_zero, List.set_cons_succ, List.getElem_toArray, List.getElem_cons_succ, List.getElem_cons_zero]
      refine wpAnyT_loadW (i := 9) (v := ?_) rfl (by kernel_rfl) (by kernel_rfl) (by kernel_rfl) (by kernel_rfl) (by kernel_rfl) (fun _ _ _ h => h) (Or.inl ⟨by rfl, ?_⟩) hSss4 ?_
      rotate_left
      · intro w hSw; obtain ⟨e0, e1, e2, e3, e4, e5, -⟩ := hSw; go_simp; try with_reducible rfl
      simp only [Act.put, List.setIfInBounds_toArray, List.set_cons_zero, List.set_cons_succ, List.getElem_toArray, List.getElem_cons_succ, List.getElem_cons_zero]
      refine wpAnyT_pure (i := 14) (v := ?_) rfl (by kernel_rfl) (by kernel_rfl) (by kernel_rfl) (fun _ _ _ h => h) (by rfl) ?_ ?_
      rotate_left
      · intro w; go_simp; try with_reducible rfl
      simp only [Act.put, List.setIfInBounds_toArray, List.set_cons_zero, List.set_cons_succ, List.getElem_toArray, List.getElem_cons_succ, List.getElem_cons_zero]
      refine wpAnyT_one (i := 15) (by kernel_rfl) rfl (by rfl) ?_
      have hbS : Below wc.heap.size wc s4 := hB_0_s4.trans ((hB_s4_s4).mono (hB_0_s4).size)
      obtain ⟨hsA, hnA⟩ := (HKU.out.below hbS).set Try.prog q (by rw [HSZJ.out]; omega) ⟨y1, y2, y3⟩
      have hgA := (HGU.out.step hbS).trans (gr_setCells g (kvs ⟨y1, y2, y3⟩) (q * 3) s4) (fun _ h => .inl h)
      refine wp_storeK (w' := (s4).setCells g (q * 3) (kvs ⟨y1, y2, y3⟩)) 53 (.tmp 51) (.tmp 46) rfl ⟨g, q * 3, none⟩ (.agg #[.string y1, .int .i64 y2, .int .i64 y3]) (by kernel_rfl) (by kernel_rfl) (sizeK _) hsA ?_
      generalize (s4).setCells g (q * 3) (kvs ⟨y1, y2, y3⟩) = w105 at hnA hgA ⊢
      clear hsA
      refine ⟨fun h => absurd h (by decide), ?_⟩
      try simp only [Act.put, List.setIfInBounds_toArray, List.set_cons_zero, List.set_cons_succ, List.getElem_toArray, List.getElem_cons_succ, List.getElem_cons_zero]
      refine wpAnyT_pure (i := 16) (v := ?_) rfl (by kernel_rfl) (by kernel_rfl) (by kernel_rfl) (fun _ _ _ h => h) (by rfl) ?_ ?_
      rotate_left
      · intro w; go_simp; try with_reducible rfl
      simp only [Act.put, List.setIfInBounds_toArray, List.set_cons_zero, List.set_cons_succ, List.getElem_toArray, List.getElem_cons_succ, List.getElem_cons_zero]
      refine wpAnyT_one (i := 17) (by kernel_rfl) rfl (by rfl) ?_
      obtain ⟨hsB, hnB⟩ := hnA.set Try.prog r (by rw [Array.size_setIfInBounds, HSZJ.out]; omega) ⟨x1, x2, x3⟩
      have hgB := hgA.trans (gr_setCells g (kvs ⟨x1, x2, x3⟩) (r * 3) w105) (fun _ h => .inl h)
      refine wp_storeK (w' := (w105).setCells g (r * 3) (kvs ⟨x1, x2, x3⟩)) 53 (.tmp 52) (.tmp 50) rfl ⟨g, r * 3, none⟩ (.agg #[.string x1, .int .i64 x2, .int .i64 x3]) (by kernel_rfl) (by kernel_rfl) (sizeK _) hsB ?_
      generalize (w105).setCells g (r * 3) (kvs ⟨x1, x2, x3⟩) = w106 at hnB hgB ⊢
      clear hsB hnA hgA
      refine ⟨fun h => absurd h (by decide), ?_⟩
      try simp only [Act.put, List.setIfInBounds_toArray, List.set_cons_zero, List.set_cons_succ, List.getElem_toArray, List.getElem_cons_succ, List.getElem_cons_zero]
      refine wpAnyT_done (by kernel_rfl) ?_ _
      obtain ⟨w6, rfl⟩ : ∃ x, x = w106 := ⟨_, rfl⟩
      rw [← HSW.out] at hnB
      have HKM := Lib.hid hnB
      have HGM := Lib.hid hgB
      have euI : ((q : Int) - 1) = (r : Int) := by have := HQ.out; omega
      clear hnB hgB HSW hC0
      go_wp2_with fail
      go_roundw
      case rel => exact ⟨r, Sort.swp dj q r, by go_num, by have := HQ.out; omega, by have := HQ.out; omega, HSZN.out, HNX.out, HKM.out, HGM.out⟩
      case measure => have := HQ.out; simp [intOf]; try omega
    subst ht
    have HFI := Lib.hid (show Sort.insInner (ltK ts) a i2 dk = dj from HSC.out.symm.trans (in_stop (ltK ts) dj a q r HQ.out ((Bool.and_eq_false_iff.1 HTB.out.symm).imp of_decide_eq_false id)))
    have HNX := Lib.hid (show Sort.insOuter (ltK ts) a b (i2 + 1) dj = res from by rw [← HFI.out]; exact HNO.out)
    clear HSC HKA HGA HTB
    go_wp2_with fail
    go_roundw
    case rel => exact ⟨i2 + 1, dj, by go_num, by omega, by omega, HSZJ.out, HNX.out, HKU.out, HGU.out⟩
    case measure => simp [intOf]; try omega
  have hltI : ¬ (i2 : Int) < (b : Int) := by omega
  have HFIN := Lib.hid (show dk = res from by rw [← HPL.out, out_stop (ltK ts) dk a b i2 hlt])
  go_wp2_with fail
  exact bodyPost_end (results_none rfl _ _ _) rfl ⟨rfl, HFIN.out ▸ HK2.out, HG2.out⟩
end Go.Proofs.Ytdcjocldggmdbaa
