/- Layer 53: the sort of many keys: siftDown. -/
import Derived.Test.YtdcjocldggmdbaaGreatS53c
set_option linter.unusedSimpArgs false
namespace Go.Proofs.YtdcjocldggmdbaaGreat
open Go.RowKit Go

theorem sift_end (lt : Ky → Ky → Bool) (hi first root : Nat) (d : Array Ky) (h : 2 * root + 1 ≥ hi) : Sort.siftDown lt hi first root d = d := by
  unfold Sort.siftDown
  rw [dif_pos h]
theorem sift_eq (lt : Ky → Ky → Bool) (hi first root c : Nat) (d : Array Ky) (h1 : ¬ 2 * root + 1 ≥ hi)
    (hc : (c = 2 * root + 2 ∧ 2 * root + 1 + 1 < hi ∧ lt d[first + (2 * root + 1)]! d[first + (2 * root + 1) + 1]! = true) ∨ (c = 2 * root + 1 ∧ ¬ (2 * root + 1 + 1 < hi ∧ lt d[first + (2 * root + 1)]! d[first + (2 * root + 1) + 1]! = true))) :
    Sort.siftDown lt hi first root d = if (!lt d[first + root]! d[first + c]!) = true then d else Sort.siftDown lt hi first c (Sort.swp d (first + root) (first + c)) := by
  conv => lhs; unfold Sort.siftDown
  rw [dif_neg h1]
  rcases hc with ⟨rfl, h2, h3⟩ | ⟨rfl, h2⟩
  · rw [if_pos (by rw [h3]; simp [h2])]
    split
    · rfl
    · first | rfl | rw [dif_pos (by omega)]
  · rw [if_neg (by simpa using h2)]
/-- A comparison of two keys of the row. -/
theorem cmpAt {S : Nat → Prop} {p : Nat} {ts : List Tk} {ne np m : Nat} {F : Nat → Prop} {w : World} (h : SCtx S p ts ne np m F w) (x y : Ky) (eb : Bool) (he : ltK ts x y = eb) :
    ∃ c : Int, decide (c < 0) = eb ∧ ∀ W, Gr F w W → Calls Tryz.prog 44 #[.pointer (some ⟨p, 0, none⟩), .agg #[.string x.task, .int .i64 x.ent, .int .i64 x.per], .agg #[.string y.task, .int .i64 y.ent, .int .i64 y.per]] W fun e w' => e = .returned (.int .i64 c) ∧ Below W.heap.size W w' :=
  ⟨cfK ts x y, he, fun W hW => cmpK (h.gr hW (fun _ e => .inl e)) x y⟩
set_option maxRecDepth 20000 in
set_option maxHeartbeats 4000000 in
theorem siftK {S : Nat → Prop} {F : Nat → Prop} (w : World) (p : Nat) (ts : List Tk) (ne np m : Nat) (hS : SCtx S p ts ne np m F w) (g cap n : Nat) (d : Array Ky) (hn : d.size = n) (hn2 : n ≤ 100000) (hK : KA w g d) (hFg : F g) (lo hi first : Nat) (hlo : lo ≤ 100000) (hfh : first + hi ≤ n) :
    Calls Tryz.prog 100 #[.slice (some ⟨g, 0, none⟩) n cap, .int .i64 (lo : Nat), .int .i64 (hi : Nat), .int .i64 (first : Nat), cmpV p] w fun e w' => e = .returned (.tuple #[]) ∧ KA w' g (Sort.siftDown (ltK ts) hi first lo d) ∧ Gr (fun x => x = g) w w' := by
  have HK := Lib.hid hK
  have HN := Lib.hid hn
  have HS := Lib.hid hS
  have HFG := Lib.hid hFg
  clear hK hn hS hFg
  unfold cmpV
  go_enter Tryz.func100, Tryz.ntmps100
  go_wp2_with fail
  go_loopw [10, 11] (fun rv _ wr => ∃ (root : Nat) (d' : Array Ky), root ≤ 100000 ∧ rv = .int .i64 (root : Nat) ∧ d'.size = n ∧ Sort.siftDown (ltK ts) hi first root d' = Sort.siftDown (ltK ts) hi first lo d ∧ KA wr g d' ∧ Gr (fun x => x = g) w wr) (fun rv _ _ => hi + 1 - (intOf rv).toNat)
  case atStart => exact ⟨lo, d, hlo, rfl, HN.out, rfl, HK.out, Gr.refl _ _⟩
  case round =>
    obtain ⟨root, d', hroot, rfl, hd', heq, hka, hg⟩ := hrel
    have HD' := Lib.hid hd'
    have HEQ := Lib.hid heq
    have HKA := Lib.hid hka
    have HG := Lib.hid hg
    clear heq hg hd'
    by_cases hend : 2 * root + 1 ≥ hi
    · have hendI : (hi : Int) ≤ 2 * (root : Int) + 1 := by omega
      have HFIN := Lib.hid (show Sort.siftDown (ltK ts) hi first lo d = d' from by rw [← HEQ.out, sift_end _ _ _ _ _ hend])
      clear hka
      go_wp2_with fail
      exact bodyPost_end (results_none rfl _ _ _) rfl ⟨rfl, by rw [HFIN.out]; exact HKA.out, HG.out⟩
    · have hendI : ¬ (hi : Int) ≤ 2 * (root : Int) + 1 := by omega
      go_wp2_with fail
      obtain ⟨c2, hc2⟩ : ∃ q, q = 2 * root + 2 := ⟨_, rfl⟩
      have HC2 := Lib.hid hc2
      by_cases h2 : 2 * root + 1 + 1 < hi
      · obtain ⟨q1, hq1⟩ : ∃ q, q = first + (2 * root + 1) := ⟨_, rfl⟩
        obtain ⟨q2, hq2⟩ : ∃ q, q = first + (2 * root + 1) + 1 := ⟨_, rfl⟩
        have hq1n : q1 < n := by omega
        have hq2n : q2 < n := by omega
        have hq1I : (q1 : Int) < (n : Int) := by omega
        have hq2I : (q2 : Int) < (n : Int) := by omega
        have hc2I : (c2 : Int) < (hi : Int) := by omega
        have HQ1 := Lib.hid hq1
        have HQ2 := Lib.hid hq2
        obtain ⟨m0, m1, m2⟩ := hka.cell q1 (by rw [HD'.out]; exact hq1n)
        obtain ⟨p0, p1, p2⟩ := hka.cell q2 (by rw [HD'.out]; exact hq2n)
        obtain ⟨eb3, heb3⟩ : ∃ q, ltK ts d'[q1]! d'[q2]! = q := ⟨_, rfl⟩
        have HEB3 := Lib.hid (show ltK ts d'[first + (2 * root + 1)]! d'[first + (2 * root + 1) + 1]! = eb3 from by rw [← hq2, ← hq1]; exact heb3)
        generalize d'[q1]! = x at m0 m1 m2 heb3
        generalize d'[q2]! = y at p0 p1 p2 heb3
        obtain ⟨cc, hcc, hcall⟩ := cmpAt (HS.out.gr HG.out (fun _ e => .inl (by rw [e]; exact HFG.out))) x y eb3 heb3
        have HCC := Lib.hid hcc
        have HCALL := Lib.hid hcall
        obtain ⟨x1, x2, x3⟩ := x
        obtain ⟨y1, y2, y3⟩ := y
        simp only at m0 m1 m2 p0 p1 p2 HCALL
        have hC3 : Cells [(⟨g, q1 * 3, none⟩, .string x1), (⟨g, q1 * 3 + 1, none⟩, .int .i64 x2), (⟨g, q1 * 3 + 2, none⟩, .int .i64 x3), (⟨g, q2 * 3, none⟩, .string y1), (⟨g, q2 * 3 + 1, none⟩, .int .i64 y2), (⟨g, q2 * 3 + 2, none⟩, .int .i64 y3)] wr := ⟨m0, m1, m2, p0, p1, p2, trivial⟩
        clear m0 m1 m2 p0 p1 p2 hka heb3 hcc hcall hq1 hq2 hc2
        refine wp_region_T (Cells [(⟨g, q1 * 3, none⟩, .string x1), (⟨g, q1 * 3 + 1, none⟩, .int .i64 x2), (⟨g, q1 * 3 + 2, none⟩, .int .i64 x3), (⟨g, q2 * 3, none⟩, .string y1), (⟨g, q2 * 3 + 1, none⟩, .int .i64 y2), (⟨g, q2 * 3 + 2, none⟩, .int .i64 y3)]) (fun _ => false) (by kernel_rfl) ?_
        have hSss1 := Cells.drew hC3
        have hB_0_s1 : Below wr.heap.size wr wr.drew := below_drew _
        generalize wr.drew = s1 at hSss1 hB_0_s1 ⊢
        have hB_s1_s1 := Below.refl s1.heap.size s1
        refine wpAnyT_pure (i := 0) (v := ?_) rfl (by kernel_rfl) (by kernel_rfl) (by kernel_rfl) (fun _ _ _ h => h) (by rfl) ?_ ?_
        rotate_left
        · intro w; go_simp; try with_reducible rfl
        simp only [Act.put, rgA, rgB, rgC, rgD, rgE, rgF]
        refine wpAnyT_pure (i := 2) (v := ?_) rfl (by kernel_rfl) (by kernel_rfl) (by kernel_rfl) (fun _ _ _ h => h) (by rfl) ?_ ?_
        rotate_left
        · intro w; go_simp; try with_reducible rfl
        simp only [Act.put, rgA, rgB, rgC, rgD, rgE, rgF]
        refine wpAnyT_pure (i := 1) (v := (.int .i64 (c2 : Nat))) rfl (by kernel_rfl) (by kernel_rfl) (by kernel_rfl) (fun _ _ _ h => h) (by rfl) ?_ ?_
        · intro w; have hq := HC2.out; clear HC2; go_simp; rw [IntKind.wrap_i64] <;> omega
        simp only [Act.put, rgA, rgB, rgC, rgD, rgE, rgF]
        refine wpAnyT_pure (i := 3) (v := (.bool true)) rfl (by kernel_rfl) (by kernel_rfl) (by kernel_rfl) (fun _ _ _ h => h) (by rfl) ?_ ?_
        · intro w; go_simp <;> omega
        simp only [Act.put, rgA, rgB, rgC, rgD, rgE, rgF]
        refine wpAnyT_pure (i := 4) (v := ?_) rfl (by kernel_rfl) (by kernel_rfl) (by kernel_rfl) (fun _ _ _ h => h) (by rfl) ?_ ?_
        rotate_left
        · intro w; go_simp; try with_reducible rfl
        simp only [Act.put, rgA, rgB, rgC, rgD, rgE, rgF]
        refine wpAnyT_pure (i := 5) (v := ?_) rfl (by kernel_rfl) (by kernel_rfl) (by kernel_rfl) (fun _ _ _ h => h) (by rfl) ?_ ?_
        rotate_left
        · intro w; go_simp; try with_reducible rfl
        simp only [Act.put, rgA, rgB, rgC, rgD, rgE, rgF]
        refine wpAnyT_pure (i := 6) (v := ?_) rfl (by kernel_rfl) (by kernel_rfl) (by kernel_rfl) (fun _ _ _ h => h) (by rfl) ?_ ?_
        rotate_left
        · intro w; go_simp; try with_reducible rfl
        simp only [Act.put, rgA, rgB, rgC, rgD, rgE, rgF]
        refine wpAnyT_pure (i := 7) (v := ?_) rfl (by kernel_rfl) (by kernel_rfl) (by kernel_rfl) (fun _ _ _ h => h) (by rfl) ?_ ?_
        rotate_left
        · intro w; go_simp; try with_reducible rfl
        simp only [Act.put, rgA, rgB, rgC, rgD, rgE, rgF]
        refine wpAnyT_pure (i := 8) (v := ?_) rfl (by kernel_rfl) (by kernel_rfl) (by kernel_rfl) (fun _ _ _ h => h) (by rfl) ?_ ?_
        rotate_left
        · intro w; go_simp; try with_reducible rfl
        simp only [Act.put, rgA, rgB, rgC, rgD, rgE, rgF]
        refine wpAnyT_pure (i := 12) (v := ?_) rfl (by kernel_rfl) (by kernel_rfl) (by kernel_rfl) (fun _ _ _ h => h) (by rfl) ?_ ?_
        rotate_left
        · intro w; go_simp; try with_reducible rfl
        simp only [Act.put, rgA, rgB, rgC, rgD, rgE, rgF]
        refine wpAnyT_pure (i := 13) (v := ?_) rfl (by kernel_rfl) (by kernel_rfl) (by kernel_rfl) (fun _ _ _ h => h) (by rfl) ?_ ?_
        rotate_left
        · intro w; go_simp; try with_reducible rfl
        simp only [Act.put, rgA, rgB, rgC, rgD, rgE, rgF]
        refine wpAnyT_pure (i := 14) (v := ?_) rfl (by kernel_rfl) (by kernel_rfl) (by kernel_rfl) (fun _ _ _ h => h) (by rfl) ?_ ?_
        rotate_left
        · intro w; go_simp; try with_reducible rfl
        simp only [Act.put, rgA, rgB, rgC, rgD, rgE, rgF]
        refine wpAnyT_pure (i := 9) (v := (.int .i64 (q1 : Nat))) rfl (by kernel_rfl) (by kernel_rfl) (by kernel_rfl) (fun _ _ _ h => h) (by rfl) ?_ ?_
        · intro w; have hq := HQ1.out; clear HQ1; go_simp; rw [IntKind.wrap_i64] <;> omega
        simp only [Act.put, rgA, rgB, rgC, rgD, rgE, rgF]
        refine wpAnyT_pure (i := 10) (v := ?_) rfl (by kernel_rfl) (by kernel_rfl) (by kernel_rfl) (fun _ _ _ h => h) (by rfl) ?_ ?_
        rotate_left
        · intro w; go_simp; try with_reducible rfl
        simp only [Act.put, rgA, rgB, rgC, rgD, rgE, rgF]
        refine wpAnyT_loadW (i := 11) (v := ?_) rfl (by kernel_rfl) (by kernel_rfl) (by kernel_rfl) (by kernel_rfl) (by kernel_rfl) (fun _ _ _ h => h) (Or.inl ⟨by rfl, ?_⟩) hSss1 ?_
        rotate_left
        · intro w hSw; obtain ⟨e0, e1, e2, e3, e4, e5, -⟩ := hSw; go_simp; try with_reducible rfl
        simp only [Act.put, rgA, rgB, rgC, rgD, rgE, rgF]
        refine wpAnyT_pure (i := 15) (v := (.int .i64 (q1 : Nat))) rfl (by kernel_rfl) (by kernel_rfl) (by kernel_rfl) (fun _ _ _ h => h) (by rfl) ?_ ?_
        · intro w; have hq := HQ1.out; clear HQ1; go_simp; rw [IntKind.wrap_i64] <;> omega
        simp only [Act.put, rgA, rgB, rgC, rgD, rgE, rgF]
        refine wpAnyT_pure (i := 16) (v := (.int .i64 (q2 : Nat))) rfl (by kernel_rfl) (by kernel_rfl) (by kernel_rfl) (fun _ _ _ h => h) (by rfl) ?_ ?_
        · intro w; have hq := HQ1.out; have hq' := HQ2.out; clear HQ1 HQ2; go_simp; rw [IntKind.wrap_i64] <;> omega
        simp only [Act.put, rgA, rgB, rgC, rgD, rgE, rgF]
        refine wpAnyT_pure (i := 17) (v := ?_) rfl (by kernel_rfl) (by kernel_rfl) (by kernel_rfl) (fun _ _ _ h => h) (by rfl) ?_ ?_
        rotate_left
        · intro w; go_simp; try with_reducible rfl
        simp only [Act.put, rgA, rgB, rgC, rgD, rgE, rgF]
        refine wpAnyT_loadW (i := 18) (v := ?_) rfl (by kernel_rfl) (by kernel_rfl) (by kernel_rfl) (by kernel_rfl) (by kernel_rfl) (fun _ _ _ h => h) (Or.inl ⟨by rfl, ?_⟩) hSss1 ?_
        rotate_left
        · intro w hSw; obtain ⟨e0, e1, e2, e3, e4, e5, -⟩ := hSw; go_simp; try with_reducible rfl
        simp only [Act.put, rgA, rgB, rgC, rgD, rgE, rgF]
        refine wpAnyT_one (i := 19) (by kernel_rfl) rfl (by rfl) ?_
        refine wp_enter (f := 44) (args := #[.pointer (some ⟨p, 0, none⟩), .agg #[.string x1, .int .i64 x2, .int .i64 x3], .agg #[.string y1, .int .i64 y2, .int .i64 y3]]) (by go_simp) (HCALL.out s1 (Gr.of_below (hB_0_s1.trans ((hB_s1_s1).mono (hB_0_s1).size)))) ?_
        rintro e w102 ⟨rfl, hX⟩
        have hB_s1_w102 := below_step hB_s1_s1 hX
        have hB_w102_w102 := Below.refl w102.heap.size w102
        have hSsw102 := Cells.below hB_s1_w102 hSss1
        clear hX
        refine ⟨_, rfl, fun _ _ => hSsw102, ?_⟩
        try simp only [Act.put, rgA, rgB, rgC, rgD, rgE, rgF]
        refine wpAnyT_pure (i := 20) (v := (.bool eb3)) rfl (by kernel_rfl) (by kernel_rfl) (by kernel_rfl) (fun _ _ _ h => h) (by rfl) ?_ ?_
        · intro w; have hq := HCC.out; clear HCC; go_simp <;> exact hq
        simp only [Act.put, rgA, rgB, rgC, rgD, rgE, rgF]
        refine wpAnyT_pure (i := 21) (v := ?_) rfl (by kernel_rfl) (by kernel_rfl) (by kernel_rfl) (fun _ _ _ h => h) (by rfl) ?_ ?_
        rotate_left
        · intro w; go_simp; try with_reducible rfl
        simp only [Act.put, rgA, rgB, rgC, rgD, rgE, rgF]
        refine wpAnyT_done (by kernel_rfl) ?_ _
        have hbP3 : Below wr.heap.size wr w102 := hB_0_s1.trans ((hB_s1_w102).mono (hB_0_s1).size)
        obtain ⟨w3, rfl⟩ : ∃ x, x = w102 := ⟨_, rfl⟩
        have HB3 := Lib.hid hbP3
        clear hbP3 hC3 HCC HCALL HQ1 HQ2
        cases eb3
        · obtain ⟨c, hc⟩ : ∃ q, q = 2 * root + 1 := ⟨_, rfl⟩
          have hdj : (c = 2 * root + 2 ∧ 2 * root + 1 + 1 < hi ∧ ltK ts d'[first + (2 * root + 1)]! d'[first + (2 * root + 1) + 1]! = true) ∨ (c = 2 * root + 1 ∧ ¬ (2 * root + 1 + 1 < hi ∧ ltK ts d'[first + (2 * root + 1)]! d'[first + (2 * root + 1) + 1]! = true)) := .inr ⟨hc, by rintro ⟨_, hx⟩; rw [HEB3.out] at hx; exact Bool.noConfusion hx⟩
          rw [show 2 * (root : Int) + 1 = ((c : Nat) : Int) from by omega]
          clear HEB3 HC2 hc2I
          have HNX := Lib.hid (sift_eq (ltK ts) hi first root c d' (by omega) hdj)
          have hcn : first + c < n := by omega
          obtain ⟨fr, hfr⟩ : ∃ q, q = first + root := ⟨_, rfl⟩
          obtain ⟨fc, hfc⟩ : ∃ q, q = first + c := ⟨_, rfl⟩
          rw [← hfr, ← hfc] at HNX
          have hfrn : fr < n := by omega
          have hfcn : fc < n := by omega
          have hfrI : (fr : Int) < (n : Int) := by omega
          have hfcI : (fc : Int) < (n : Int) := by omega
          have HFR := Lib.hid hfr
          have HFC := Lib.hid hfc
          have hka := HKA.out.below HB3.out
          obtain ⟨m0, m1, m2⟩ := hka.cell fr (by rw [HD'.out]; exact hfrn)
          obtain ⟨p0, p1, p2⟩ := hka.cell fc (by rw [HD'.out]; exact hfcn)
          have HSW := Lib.hid (show Sort.swp d' fr fc = (d'.setIfInBounds fr d'[fc]!).setIfInBounds fc d'[fr]! from rfl)
          generalize d'[fr]! = x at m0 m1 m2 HSW HNX
          generalize d'[fc]! = y at p0 p1 p2 HSW HNX
          obtain ⟨eb, heb⟩ : ∃ q, ltK ts x y = q := ⟨_, rfl⟩
          rw [heb] at HNX
          obtain ⟨cc, hcc, hcall⟩ := cmpAt (HS.out.gr (HG.out.step HB3.out) (fun _ e => .inl (by rw [e]; exact HFG.out))) x y eb heb
          have HCC := Lib.hid hcc
          have HCALL := Lib.hid hcall
          obtain ⟨x1, x2, x3⟩ := x
          obtain ⟨y1, y2, y3⟩ := y
          simp only at m0 m1 m2 p0 p1 p2 HCALL
          have hC5 : Cells [(⟨g, fr * 3, none⟩, .string x1), (⟨g, fr * 3 + 1, none⟩, .int .i64 x2), (⟨g, fr * 3 + 2, none⟩, .int .i64 x3), (⟨g, fc * 3, none⟩, .string y1), (⟨g, fc * 3 + 1, none⟩, .int .i64 y2), (⟨g, fc * 3 + 2, none⟩, .int .i64 y3)] w3 := ⟨m0, m1, m2, p0, p1, p2, trivial⟩
          have HK2 := Lib.hid hka
          have HG2 := Lib.hid (HG.out.step HB3.out)
          clear m0 m1 m2 p0 p1 p2 hka heb hcc hcall hfr hfc
          go_wp2_with fail
          refine wp_region_T (Cells [(⟨g, fr * 3, none⟩, .string x1), (⟨g, fr * 3 + 1, none⟩, .int .i64 x2), (⟨g, fr * 3 + 2, none⟩, .int .i64 x3), (⟨g, fc * 3, none⟩, .string y1), (⟨g, fc * 3 + 1, none⟩, .int .i64 y2), (⟨g, fc * 3 + 2, none⟩, .int .i64 y3)]) (fun _ => false) (by kernel_rfl) ?_
          have hSss3 := Cells.drew hC5
          have hB_0_s3 : Below w3.heap.size w3 w3.drew := below_drew _
          generalize w3.drew = s3 at hSss3 hB_0_s3 ⊢
          have hB_s3_s3 := Below.refl s3.heap.size s3
          refine wpAnyT_pure (i := 0) (v := ?_) rfl (by kernel_rfl) (by kernel_rfl) (by kernel_rfl) (fun _ _ _ h => h) (by rfl) ?_ ?_
          rotate_left
          · intro w; go_simp; try with_reducible rfl
          simp only [Act.put, rgA, rgB, rgC, rgD, rgE, rgF]
          refine wpAnyT_pure (i := 1) (v := ?_) rfl (by kernel_rfl) (by kernel_rfl) (by kernel_rfl) (fun _ _ _ h => h) (by rfl) ?_ ?_
          rotate_left
          · intro w; go_simp; try with_reducible rfl
          simp only [Act.put, rgA, rgB, rgC, rgD, rgE, rgF]
          refine wpAnyT_pure (i := 2) (v := ?_) rfl (by kernel_rfl) (by kernel_rfl) (by kernel_rfl) (fun _ _ _ h => h) (by rfl) ?_ ?_
          rotate_left
          · intro w; go_simp; try with_reducible rfl
          simp only [Act.put, rgA, rgB, rgC, rgD, rgE, rgF]
          refine wpAnyT_pure (i := 3) (v := ?_) rfl (by kernel_rfl) (by kernel_rfl) (by kernel_rfl) (fun _ _ _ h => h) (by rfl) ?_ ?_
          rotate_left
          · intro w; go_simp; try with_reducible rfl
          simp only [Act.put, rgA, rgB, rgC, rgD, rgE, rgF]
          refine wpAnyT_pure (i := 7) (v := ?_) rfl (by kernel_rfl) (by kernel_rfl) (by kernel_rfl) (fun _ _ _ h => h) (by rfl) ?_ ?_
          rotate_left
          · intro w; go_simp; try with_reducible rfl
          simp only [Act.put, rgA, rgB, rgC, rgD, rgE, rgF]
          refine wpAnyT_pure (i := 8) (v := ?_) rfl (by kernel_rfl) (by kernel_rfl) (by kernel_rfl) (fun _ _ _ h => h) (by rfl) ?_ ?_
          rotate_left
          · intro w; go_simp; try with_reducible rfl
          simp only [Act.put, rgA, rgB, rgC, rgD, rgE, rgF]
          refine wpAnyT_pure (i := 9) (v := ?_) rfl (by kernel_rfl) (by kernel_rfl) (by kernel_rfl) (fun _ _ _ h => h) (by rfl) ?_ ?_
          rotate_left
          · intro w; go_simp; try with_reducible rfl
          simp only [Act.put, rgA, rgB, rgC, rgD, rgE, rgF]
          refine wpAnyT_pure (i := 4) (v := (.int .i64 (fr : Nat))) rfl (by kernel_rfl) (by kernel_rfl) (by kernel_rfl) (fun _ _ _ h => h) (by rfl) ?_ ?_
          · intro w; have hq := HFR.out; clear HFR; go_simp; rw [IntKind.wrap_i64] <;> omega
          simp only [Act.put, rgA, rgB, rgC, rgD, rgE, rgF]
          refine wpAnyT_pure (i := 5) (v := ?_) rfl (by kernel_rfl) (by kernel_rfl) (by kernel_rfl) (fun _ _ _ h => h) (by rfl) ?_ ?_
          rotate_left
          · intro w; go_simp; try with_reducible rfl
          simp only [Act.put, rgA, rgB, rgC, rgD, rgE, rgF]
          refine wpAnyT_loadW (i := 6) (v := ?_) rfl (by kernel_rfl) (by kernel_rfl) (by kernel_rfl) (by kernel_rfl) (by kernel_rfl) (fun _ _ _ h => h) (Or.inl ⟨by rfl, ?_⟩) hSss3 ?_
          rotate_left
          · intro w hSw; obtain ⟨e0, e1, e2, e3, e4, e5, -⟩ := hSw; go_simp; try with_reducible rfl
          simp only [Act.put, rgA, rgB, rgC, rgD, rgE, rgF]
          refine wpAnyT_pure (i := 10) (v := (.int .i64 (fc : Nat))) rfl (by kernel_rfl) (by kernel_rfl) (by kernel_rfl) (fun _ _ _ h => h) (by rfl) ?_ ?_
          · intro w; have hq := HFC.out; clear HFC; go_simp; rw [IntKind.wrap_i64] <;> omega
          simp only [Act.put, rgA, rgB, rgC, rgD, rgE, rgF]
          refine wpAnyT_pure (i := 11) (v := ?_) rfl (by kernel_rfl) (by kernel_rfl) (by kernel_rfl) (fun _ _ _ h => h) (by rfl) ?_ ?_
          rotate_left
          · intro w; go_simp; try with_reducible rfl
          simp only [Act.put, rgA, rgB, rgC, rgD, rgE, rgF]
          refine wpAnyT_loadW (i := 12) (v := ?_) rfl (by kernel_rfl) (by kernel_rfl) (by kernel_rfl) (by kernel_rfl) (by kernel_rfl) (fun _ _ _ h => h) (Or.inl ⟨by rfl, ?_⟩) hSss3 ?_
          rotate_left
          · intro w hSw; obtain ⟨e0, e1, e2, e3, e4, e5, -⟩ := hSw; go_simp; try with_reducible rfl
          simp only [Act.put, rgA, rgB, rgC, rgD, rgE, rgF]
          refine wpAnyT_one (i := 13) (by kernel_rfl) rfl (by rfl) ?_
          refine wp_enter (f := 44) (args := #[.pointer (some ⟨p, 0, none⟩), .agg #[.string x1, .int .i64 x2, .int .i64 x3], .agg #[.string y1, .int .i64 y2, .int .i64 y3]]) (by go_simp) (HCALL.out s3 (Gr.of_below (hB_0_s3.trans ((hB_s3_s3).mono (hB_0_s3).size)))) ?_
          rintro e w104 ⟨rfl, hX⟩
          have hB_s3_w104 := below_step hB_s3_s3 hX
          have hB_w104_w104 := Below.refl w104.heap.size w104
          have hSsw104 := Cells.below hB_s3_w104 hSss3
          clear hX
          refine ⟨_, rfl, fun _ _ => hSsw104, ?_⟩
          try simp only [Act.put, rgA, rgB, rgC, rgD, rgE, rgF]
          refine wpAnyT_pure (i := 14) (v := (.bool eb)) rfl (by kernel_rfl) (by kernel_rfl) (by kernel_rfl) (fun _ _ _ h => h) (by rfl) ?_ ?_
          · intro w; have hq := HCC.out; clear HCC; go_simp <;> exact hq
          simp only [Act.put, rgA, rgB, rgC, rgD, rgE, rgF]
          refine wpAnyT_pure (i := 15) (v := ?_) rfl (by kernel_rfl) (by kernel_rfl) (by kernel_rfl) (fun _ _ _ h => h) (by rfl) ?_ ?_
          rotate_left
          · intro w; go_simp; try with_reducible rfl
          simp only [Act.put, rgA, rgB, rgC, rgD, rgE, rgF]
          refine wpAnyT_done (by kernel_rfl) ?_ _
          have hbP5 : Below w3.heap.size w3 w104 := hB_0_s3.trans ((hB_s3_w104).mono (hB_0_s3).size)
          obtain ⟨w5, rfl⟩ : ∃ x, x = w104 := ⟨_, rfl⟩
          have HK5 := Lib.hid (HK2.out.below hbP5)
          have HG5 := Lib.hid (HG2.out.step hbP5)
          have hC6 := Cells.below hbP5 hC5
          clear hbP5 hC5 HK2 HG2
          cases eb
          · have HFIN := Lib.hid (show Sort.siftDown (ltK ts) hi first lo d = d' from by rw [← HEQ.out, HNX.out]; rfl)
            go_wp2_with fail
            exact bodyPost_ret (results_none rfl _ _ _) rfl ⟨rfl, by rw [HFIN.out]; exact HK5.out, HG5.out⟩
          · have HNX2 := Lib.hid (show Sort.siftDown (ltK ts) hi first c (Sort.swp d' fr fc) = Sort.siftDown (ltK ts) hi first lo d from by rw [← HEQ.out, HNX.out]; rfl)
            go_wp2_with fail
            refine wp_region_T (Cells [(⟨g, fr * 3, none⟩, .string x1), (⟨g, fr * 3 + 1, none⟩, .int .i64 x2), (⟨g, fr * 3 + 2, none⟩, .int .i64 x3), (⟨g, fc * 3, none⟩, .string y1), (⟨g, fc * 3 + 1, none⟩, .int .i64 y2), (⟨g, fc * 3 + 2, none⟩, .int .i64 y3)]) (fun i => i == 21 || i == 23) (by kernel_rfl) ?_
            have hSss5 := Cells.drew hC6
            have hB_0_s5 : Below w5.heap.size w5 w5.drew := below_drew _
            generalize w5.drew = s5 at hSss5 hB_0_s5 ⊢
            have hB_s5_s5 := Below.refl s5.heap.size s5
            refine wpAnyT_pure (i := 0) (v := ?_) rfl (by kernel_rfl) (by kernel_rfl) (by kernel_rfl) (fun _ _ _ h => h) (by rfl) ?_ ?_
            rotate_left
            · intro w; go_simp; try with_reducible rfl
            simp only [Act.put, rgA, rgB, rgC, rgD, rgE, rgF]
            refine wpAnyT_pure (i := 1) (v := ?_) rfl (by kernel_rfl) (by kernel_rfl) (by kernel_rfl) (fun _ _ _ h => h) (by rfl) ?_ ?_
            rotate_left
            · intro w; go_simp; try with_reducible rfl
            simp only [Act.put, rgA, rgB, rgC, rgD, rgE, rgF]
            refine wpAnyT_pure (i := 2) (v := ?_) rfl (by kernel_rfl) (by kernel_rfl) (by kernel_rfl) (fun _ _ _ h => h) (by rfl) ?_ ?_
            rotate_left
            · intro w; go_simp; try with_reducible rfl
            simp only [Act.put, rgA, rgB, rgC, rgD, rgE, rgF]
            refine wpAnyT_pure (i := 4) (v := ?_) rfl (by kernel_rfl) (by kernel_rfl) (by kernel_rfl) (fun _ _ _ h => h) (by rfl) ?_ ?_
            rotate_left
            · intro w; go_simp; try with_reducible rfl
            simp only [Act.put, rgA, rgB, rgC, rgD, rgE, rgF]
            refine wpAnyT_pure (i := 5) (v := ?_) rfl (by kernel_rfl) (by kernel_rfl) (by kernel_rfl) (fun _ _ _ h => h) (by rfl) ?_ ?_
            rotate_left
            · intro w; go_simp; try with_reducible rfl
            simp only [Act.put, rgA, rgB, rgC, rgD, rgE, rgF]
            refine wpAnyT_pure (i := 6) (v := ?_) rfl (by kernel_rfl) (by kernel_rfl) (by kernel_rfl) (fun _ _ _ h => h) (by rfl) ?_ ?_
            rotate_left
            · intro w; go_simp; try with_reducible rfl
            simp only [Act.put, rgA, rgB, rgC, rgD, rgE, rgF]
            refine wpAnyT_pure (i := 8) (v := ?_) rfl (by kernel_rfl) (by kernel_rfl) (by kernel_rfl) (fun _ _ _ h => h) (by rfl) ?_ ?_
            rotate_left
            · intro w; go_simp; try with_reducible rfl
            simp only [Act.put, rgA, rgB, rgC, rgD, rgE, rgF]
            refine wpAnyT_pure (i := 9) (v := ?_) rfl (by kernel_rfl) (by kernel_rfl) (by kernel_rfl) (fun _ _ _ h => h) (by rfl) ?_ ?_
            rotate_left
            · intro w; go_simp; try with_reducible rfl
            simp only [Act.put, rgA, rgB, rgC, rgD, rgE, rgF]
            refine wpAnyT_pure (i := 10) (v := ?_) rfl (by kernel_rfl) (by kernel_rfl) (by kernel_rfl) (fun _ _ _ h => h) (by rfl) ?_ ?_
            rotate_left
            · intro w; go_simp; try with_reducible rfl
            simp only [Act.put, rgA, rgB, rgC, rgD, rgE, rgF]
            refine wpAnyT_pure (i := 14) (v := ?_) rfl (by kernel_rfl) (by kernel_rfl) (by kernel_rfl) (fun _ _ _ h => h) (by rfl) ?_ ?_
            rotate_left
            · intro w; go_simp; try with_reducible rfl
            simp only [Act.put, rgA, rgB, rgC, rgD, rgE, rgF]
            refine wpAnyT_pure (i := 15) (v := ?_) rfl (by kernel_rfl) (by kernel_rfl) (by kernel_rfl) (fun _ _ _ h => h) (by rfl) ?_ ?_
            rotate_left
            · intro w; go_simp; try with_reducible rfl
            simp only [Act.put, rgA, rgB, rgC, rgD, rgE, rgF]
            refine wpAnyT_pure (i := 16) (v := ?_) rfl (by kernel_rfl) (by kernel_rfl) (by kernel_rfl) (fun _ _ _ h => h) (by rfl) ?_ ?_
            rotate_left
            · intro w; go_simp; try with_reducible rfl
            simp only [Act.put, rgA, rgB, rgC, rgD, rgE, rgF]
            refine wpAnyT_pure (i := 3) (v := (.int .i64 (fr : Nat))) rfl (by kernel_rfl) (by kernel_rfl) (by kernel_rfl) (fun _ _ _ h => h) (by rfl) ?_ ?_
            · intro w; have hq := HFR.out; clear HFR; go_simp; rw [IntKind.wrap_i64] <;> omega
            simp only [Act.put, rgA, rgB, rgC, rgD, rgE, rgF]
            refine wpAnyT_pure (i := 7) (v := (.int .i64 (fc : Nat))) rfl (by kernel_rfl) (by kernel_rfl) (by kernel_rfl) (fun _ _ _ h => h) (by rfl) ?_ ?_
            · intro w; have hq := HFC.out; clear HFC; go_simp; rw [IntKind.wrap_i64] <;> omega
            simp only [Act.put, rgA, rgB, rgC, rgD, rgE, rgF]
            refine wpAnyT_pure (i := 11) (v := (.int .i64 (fc : Nat))) rfl (by kernel_rfl) (by kernel_rfl) (by kernel_rfl) (fun _ _ _ h => h) (by rfl) ?_ ?_
            · intro w; have hq := HFC.out; clear HFC; go_simp; rw [IntKind.wrap_i64] <;> omega
            simp only [Act.put, rgA, rgB, rgC, rgD, rgE, rgF]
            refine wpAnyT_pure (i := 12) (v := ?_) rfl (by kernel_rfl) (by kernel_rfl) (by kernel_rfl) (fun _ _ _ h => h) (by rfl) ?_ ?_
            rotate_left
            · intro w; go_simp; try with_reducible rfl
            simp only [Act.put, rgA, rgB, rgC, rgD, rgE, rgF]
            refine wpAnyT_loadW (i := 13) (v := ?_) rfl (by kernel_rfl) (by kernel_rfl) (by kernel_rfl) (by kernel_rfl) (by kernel_rfl) (fun _ _ _ h => h) (Or.inl ⟨by rfl, ?_⟩) hSss5 ?_
            rotate_left
            · intro w hSw; obtain ⟨e0, e1, e2, e3, e4, e5, -⟩ := hSw; go_simp; try with_reducible rfl
            simp only [Act.put, rgA, rgB, rgC, rgD, rgE, rgF]
            refine wpAnyT_pure (i := 17) (v := (.int .i64 (fr : Nat))) rfl (by kernel_rfl) (by kernel_rfl) (by kernel_rfl) (fun _ _ _ h => h) (by rfl) ?_ ?_
            · intro w; have hq := HFR.out; clear HFR; go_simp; rw [IntKind.wrap_i64] <;> omega
            simp only [Act.put, rgA, rgB, rgC, rgD, rgE, rgF]
            refine wpAnyT_pure (i := 18) (v := ?_) rfl (by kernel_rfl) (by kernel_rfl) (by kernel_rfl) (fun _ _ _ h => h) (by rfl) ?_ ?_
            rotate_left
            · intro w; go_simp; try with_reducible rfl
            simp only [Act.put, rgA, rgB, rgC, rgD, rgE, rgF]
            refine wpAnyT_loadW (i := 19) (v := ?_) rfl (by kernel_rfl) (by kernel_rfl) (by kernel_rfl) (by kernel_rfl) (by kernel_rfl) (fun _ _ _ h => h) (Or.inl ⟨by rfl, ?_⟩) hSss5 ?_
            rotate_left
            · intro w hSw; obtain ⟨e0, e1, e2, e3, e4, e5, -⟩ := hSw; go_simp; try with_reducible rfl
            simp only [Act.put, rgA, rgB, rgC, rgD, rgE, rgF]
            refine wpAnyT_pure (i := 20) (v := ?_) rfl (by kernel_rfl) (by kernel_rfl) (by kernel_rfl) (fun _ _ _ h => h) (by rfl) ?_ ?_
            rotate_left
            · intro w; go_simp; try with_reducible rfl
            simp only [Act.put, rgA, rgB, rgC, rgD, rgE, rgF]
            refine wpAnyT_one (i := 21) (by kernel_rfl) rfl (by rfl) ?_
            have hb13 : Below w5.heap.size w5 s5 := hB_0_s5.trans ((hB_s5_s5).mono (hB_0_s5).size)
            obtain ⟨hs13, hn13⟩ := (HK5.out.below hb13).set Tryz.prog fr (by rw [HD'.out]; exact hfrn) ⟨y1, y2, y3⟩
            have hg13 := (HG5.out.step hb13).trans (gr_setCells g (kvs ⟨y1, y2, y3⟩) (fr * 3) s5) (fun _ h => .inl h)
            refine wp_storeK (w' := (s5).setCells g (fr * 3) (kvs ⟨y1, y2, y3⟩)) 48 (.tmp 79) (.tmp 72) rfl ⟨g, fr * 3, none⟩ (.agg #[.string y1, .int .i64 y2, .int .i64 y3]) (by kernel_rfl) (by kernel_rfl) (sizeK _) hs13 ?_
            generalize (s5).setCells g (fr * 3) (kvs ⟨y1, y2, y3⟩) = w106 at hn13 hg13 ⊢
            clear hs13
            refine ⟨fun h => absurd h (by decide), ?_⟩
            try simp only [Act.put, rgA, rgB, rgC, rgD, rgE, rgF]
            refine wpAnyT_pure (i := 22) (v := ?_) rfl (by kernel_rfl) (by kernel_rfl) (by kernel_rfl) (fun _ _ _ h => h) (by rfl) ?_ ?_
            rotate_left
            · intro w; go_simp; try with_reducible rfl
            simp only [Act.put, rgA, rgB, rgC, rgD, rgE, rgF]
            refine wpAnyT_one (i := 23) (by kernel_rfl) rfl (by rfl) ?_
            obtain ⟨hs15, hn15⟩ := hn13.set Tryz.prog fc (by rw [Array.size_setIfInBounds, HD'.out]; exact hfcn) ⟨x1, x2, x3⟩
            have hg15 := hg13.trans (gr_setCells g (kvs ⟨x1, x2, x3⟩) (fc * 3) w106) (fun _ h => .inl h)
            refine wp_storeK (w' := (w106).setCells g (fc * 3) (kvs ⟨x1, x2, x3⟩)) 48 (.tmp 80) (.tmp 78) rfl ⟨g, fc * 3, none⟩ (.agg #[.string x1, .int .i64 x2, .int .i64 x3]) (by kernel_rfl) (by kernel_rfl) (sizeK _) hs15 ?_
            generalize (w106).setCells g (fc * 3) (kvs ⟨x1, x2, x3⟩) = w107 at hn15 hg15 ⊢
            clear hs15 hn13 hg13
            refine ⟨fun h => absurd h (by decide), ?_⟩
            try simp only [Act.put, rgA, rgB, rgC, rgD, rgE, rgF]
            refine wpAnyT_done (by kernel_rfl) ?_ _
            obtain ⟨w6, rfl⟩ : ∃ x, x = w107 := ⟨_, rfl⟩
            have HR6 := Lib.hid hn15
            have HG6 := Lib.hid hg15
            clear hn15 hg15
            go_wp2_with fail
            go_roundw
            case rel => exact ⟨c, Sort.swp d' fr fc, by omega, by go_num, by rw [swp_size]; exact HD'.out, HNX2.out, by rw [HSW.out]; exact HR6.out, HG6.out⟩
            case measure => simp [intOf]; try omega
        · obtain ⟨c, hc⟩ : ∃ q, q = c2 := ⟨_, rfl⟩
          have hdj : (c = 2 * root + 2 ∧ 2 * root + 1 + 1 < hi ∧ ltK ts d'[first + (2 * root + 1)]! d'[first + (2 * root + 1) + 1]! = true) ∨ (c = 2 * root + 1 ∧ ¬ (2 * root + 1 + 1 < hi ∧ ltK ts d'[first + (2 * root + 1)]! d'[first + (2 * root + 1) + 1]! = true)) := .inl ⟨by rw [hc]; exact HC2.out, h2, HEB3.out⟩
          have HCE := Lib.hid (show (2 * (root : Int) + 1) + 1 = ((c : Nat) : Int) from by have := HC2.out; omega)
          go_wp2_with fail
          rw [show (2 * (root : Int) + 1) + 1 = ((c : Nat) : Int) from HCE.out]
          clear HEB3 HC2 HCE hc2I
          have HNX := Lib.hid (sift_eq (ltK ts) hi first root c d' (by omega) hdj)
          have hcn : first + c < n := by omega
          obtain ⟨fr, hfr⟩ : ∃ q, q = first + root := ⟨_, rfl⟩
          obtain ⟨fc, hfc⟩ : ∃ q, q = first + c := ⟨_, rfl⟩
          rw [← hfr, ← hfc] at HNX
          have hfrn : fr < n := by omega
          have hfcn : fc < n := by omega
          have hfrI : (fr : Int) < (n : Int) := by omega
          have hfcI : (fc : Int) < (n : Int) := by omega
          have HFR := Lib.hid hfr
          have HFC := Lib.hid hfc
          have hkb := HKA.out.below HB3.out
          obtain ⟨m0, m1, m2⟩ := hkb.cell fr (by rw [HD'.out]; exact hfrn)
          obtain ⟨p0, p1, p2⟩ := hkb.cell fc (by rw [HD'.out]; exact hfcn)
          have HSW := Lib.hid (show Sort.swp d' fr fc = (d'.setIfInBounds fr d'[fc]!).setIfInBounds fc d'[fr]! from rfl)
          generalize d'[fr]! = x at m0 m1 m2 HSW HNX
          generalize d'[fc]! = y at p0 p1 p2 HSW HNX
          obtain ⟨eb, heb⟩ : ∃ q, ltK ts x y = q := ⟨_, rfl⟩
          rw [heb] at HNX
          obtain ⟨cc, hcc, hcall⟩ := cmpAt (HS.out.gr (HG.out.step HB3.out) (fun _ e => .inl (by rw [e]; exact HFG.out))) x y eb heb
          have HCC := Lib.hid hcc
          have HCALL := Lib.hid hcall
          obtain ⟨x1, x2, x3⟩ := x
          obtain ⟨y1, y2, y3⟩ := y
          simp only at m0 m1 m2 p0 p1 p2 HCALL
          have hC5 : Cells [(⟨g, fr * 3, none⟩, .string x1), (⟨g, fr * 3 + 1, none⟩, .int .i64 x2), (⟨g, fr * 3 + 2, none⟩, .int .i64 x3), (⟨g, fc * 3, none⟩, .string y1), (⟨g, fc * 3 + 1, none⟩, .int .i64 y2), (⟨g, fc * 3 + 2, none⟩, .int .i64 y3)] w3 := ⟨m0, m1, m2, p0, p1, p2, trivial⟩
          have HK2 := Lib.hid hkb
          have HG2 := Lib.hid (HG.out.step HB3.out)
          clear m0 m1 m2 p0 p1 p2 hkb heb hcc hcall hfr hfc
          go_wp2_with fail
          refine wp_region_T (Cells [(⟨g, fr * 3, none⟩, .string x1), (⟨g, fr * 3 + 1, none⟩, .int .i64 x2), (⟨g, fr * 3 + 2, none⟩, .int .i64 x3), (⟨g, fc * 3, none⟩, .string y1), (⟨g, fc * 3 + 1, none⟩, .int .i64 y2), (⟨g, fc * 3 + 2, none⟩, .int .i64 y3)]) (fun _ => false) (by kernel_rfl) ?_
          have hSss8 := Cells.drew hC5
          have hB_0_s8 : Below w3.heap.size w3 w3.drew := below_drew _
          generalize w3.drew = s8 at hSss8 hB_0_s8 ⊢
          have hB_s8_s8 := Below.refl s8.heap.size s8
          refine wpAnyT_pure (i := 0) (v := ?_) rfl (by kernel_rfl) (by kernel_rfl) (by kernel_rfl) (fun _ _ _ h => h) (by rfl) ?_ ?_
          rotate_left
          · intro w; go_simp; try with_reducible rfl
          simp only [Act.put, rgA, rgB, rgC, rgD, rgE, rgF]
          refine wpAnyT_pure (i := 1) (v := ?_) rfl (by kernel_rfl) (by kernel_rfl) (by kernel_rfl) (fun _ _ _ h => h) (by rfl) ?_ ?_
          rotate_left
          · intro w; go_simp; try with_reducible rfl
          simp only [Act.put, rgA, rgB, rgC, rgD, rgE, rgF]
          refine wpAnyT_pure (i := 2) (v := ?_) rfl (by kernel_rfl) (by kernel_rfl) (by kernel_rfl) (fun _ _ _ h => h) (by rfl) ?_ ?_
          rotate_left
          · intro w; go_simp; try with_reducible rfl
          simp only [Act.put, rgA, rgB, rgC, rgD, rgE, rgF]
          refine wpAnyT_pure (i := 3) (v := ?_) rfl (by kernel_rfl) (by kernel_rfl) (by kernel_rfl) (fun _ _ _ h => h) (by rfl) ?_ ?_
          rotate_left
          · intro w; go_simp; try with_reducible rfl
          simp only [Act.put, rgA, rgB, rgC, rgD, rgE, rgF]
          refine wpAnyT_pure (i := 7) (v := ?_) rfl (by kernel_rfl) (by kernel_rfl) (by kernel_rfl) (fun _ _ _ h => h) (by rfl) ?_ ?_
          rotate_left
          · intro w; go_simp; try with_reducible rfl
          simp only [Act.put, rgA, rgB, rgC, rgD, rgE, rgF]
          refine wpAnyT_pure (i := 8) (v := ?_) rfl (by kernel_rfl) (by kernel_rfl) (by kernel_rfl) (fun _ _ _ h => h) (by rfl) ?_ ?_
          rotate_left
          · intro w; go_simp; try with_reducible rfl
          simp only [Act.put, rgA, rgB, rgC, rgD, rgE, rgF]
          refine wpAnyT_pure (i := 9) (v := ?_) rfl (by kernel_rfl) (by kernel_rfl) (by kernel_rfl) (fun _ _ _ h => h) (by rfl) ?_ ?_
          rotate_left
          · intro w; go_simp; try with_reducible rfl
          simp only [Act.put, rgA, rgB, rgC, rgD, rgE, rgF]
          refine wpAnyT_pure (i := 4) (v := (.int .i64 (fr : Nat))) rfl (by kernel_rfl) (by kernel_rfl) (by kernel_rfl) (fun _ _ _ h => h) (by rfl) ?_ ?_
          · intro w; have hq := HFR.out; clear HFR; go_simp; rw [IntKind.wrap_i64] <;> omega
          simp only [Act.put, rgA, rgB, rgC, rgD, rgE, rgF]
          refine wpAnyT_pure (i := 5) (v := ?_) rfl (by kernel_rfl) (by kernel_rfl) (by kernel_rfl) (fun _ _ _ h => h) (by rfl) ?_ ?_
          rotate_left
          · intro w; go_simp; try with_reducible rfl
          simp only [Act.put, rgA, rgB, rgC, rgD, rgE, rgF]
          refine wpAnyT_loadW (i := 6) (v := ?_) rfl (by kernel_rfl) (by kernel_rfl) (by kernel_rfl) (by kernel_rfl) (by kernel_rfl) (fun _ _ _ h => h) (Or.inl ⟨by rfl, ?_⟩) hSss8 ?_
          rotate_left
          · intro w hSw; obtain ⟨e0, e1, e2, e3, e4, e5, -⟩ := hSw; go_simp; try with_reducible rfl
          simp only [Act.put, rgA, rgB, rgC, rgD, rgE, rgF]
          refine wpAnyT_pure (i := 10) (v := (.int .i64 (fc : Nat))) rfl (by kernel_rfl) (by kernel_rfl) (by kernel_rfl) (fun _ _ _ h => h) (by rfl) ?_ ?_
          · intro w; have hq := HFC.out; clear HFC; go_simp; rw [IntKind.wrap_i64] <;> omega
          simp only [Act.put, rgA, rgB, rgC, rgD, rgE, rgF]
          refine wpAnyT_pure (i := 11) (v := ?_) rfl (by kernel_rfl) (by kernel_rfl) (by kernel_rfl) (fun _ _ _ h => h) (by rfl) ?_ ?_
          rotate_left
          · intro w; go_simp; try with_reducible rfl
          simp only [Act.put, rgA, rgB, rgC, rgD, rgE, rgF]
          refine wpAnyT_loadW (i := 12) (v := ?_) rfl (by kernel_rfl) (by kernel_rfl) (by kernel_rfl) (by kernel_rfl) (by kernel_rfl) (fun _ _ _ h => h) (Or.inl ⟨by rfl, ?_⟩) hSss8 ?_
          rotate_left
          · intro w hSw; obtain ⟨e0, e1, e2, e3, e4, e5, -⟩ := hSw; go_simp; try with_reducible rfl
          simp only [Act.put, rgA, rgB, rgC, rgD, rgE, rgF]
          refine wpAnyT_one (i := 13) (by kernel_rfl) rfl (by rfl) ?_
          refine wp_enter (f := 44) (args := #[.pointer (some ⟨p, 0, none⟩), .agg #[.string x1, .int .i64 x2, .int .i64 x3], .agg #[.string y1, .int .i64 y2, .int .i64 y3]]) (by go_simp) (HCALL.out s8 (Gr.of_below (hB_0_s8.trans ((hB_s8_s8).mono (hB_0_s8).size)))) ?_
          rintro e w109 ⟨rfl, hX⟩
          have hB_s8_w109 := below_step hB_s8_s8 hX
          have hB_w109_w109 := Below.refl w109.heap.size w109
          have hSsw109 := Cells.below hB_s8_w109 hSss8
          clear hX
          refine ⟨_, rfl, fun _ _ => hSsw109, ?_⟩
          try simp only [Act.put, rgA, rgB, rgC, rgD, rgE, rgF]
          refine wpAnyT_pure (i := 14) (v := (.bool eb)) rfl (by kernel_rfl) (by kernel_rfl) (by kernel_rfl) (fun _ _ _ h => h) (by rfl) ?_ ?_
          · intro w; have hq := HCC.out; clear HCC; go_simp <;> exact hq
          simp only [Act.put, rgA, rgB, rgC, rgD, rgE, rgF]
          refine wpAnyT_pure (i := 15) (v := ?_) rfl (by kernel_rfl) (by kernel_rfl) (by kernel_rfl) (fun _ _ _ h => h) (by rfl) ?_ ?_
          rotate_left
          · intro w; go_simp; try with_reducible rfl
          simp only [Act.put, rgA, rgB, rgC, rgD, rgE, rgF]
          refine wpAnyT_done (by kernel_rfl) ?_ _
          have hbP5 : Below w3.heap.size w3 w109 := hB_0_s8.trans ((hB_s8_w109).mono (hB_0_s8).size)
          obtain ⟨w5, rfl⟩ : ∃ x, x = w109 := ⟨_, rfl⟩
          have HK5 := Lib.hid (HK2.out.below hbP5)
          have HG5 := Lib.hid (HG2.out.step hbP5)
          have hC6 := Cells.below hbP5 hC5
          clear hbP5 hC5 HK2 HG2
          cases eb
          · have HFIN := Lib.hid (show Sort.siftDown (ltK ts) hi first lo d = d' from by rw [← HEQ.out, HNX.out]; rfl)
            go_wp2_with fail
            exact bodyPost_ret (results_none rfl _ _ _) rfl ⟨rfl, by rw [HFIN.out]; exact HK5.out, HG5.out⟩
          · have HNX2 := Lib.hid (show Sort.siftDown (ltK ts) hi first c (Sort.swp d' fr fc) = Sort.siftDown (ltK ts) hi first lo d from by rw [← HEQ.out, HNX.out]; rfl)
            go_wp2_with fail
            refine wp_region_T (Cells [(⟨g, fr * 3, none⟩, .string x1), (⟨g, fr * 3 + 1, none⟩, .int .i64 x2), (⟨g, fr * 3 + 2, none⟩, .int .i64 x3), (⟨g, fc * 3, none⟩, .string y1), (⟨g, fc * 3 + 1, none⟩, .int .i64 y2), (⟨g, fc * 3 + 2, none⟩, .int .i64 y3)]) (fun i => i == 21 || i == 23) (by kernel_rfl) ?_
            have hSss10 := Cells.drew hC6
            have hB_0_s10 : Below w5.heap.size w5 w5.drew := below_drew _
            generalize w5.drew = s10 at hSss10 hB_0_s10 ⊢
            have hB_s10_s10 := Below.refl s10.heap.size s10
            refine wpAnyT_pure (i := 0) (v := ?_) rfl (by kernel_rfl) (by kernel_rfl) (by kernel_rfl) (fun _ _ _ h => h) (by rfl) ?_ ?_
            rotate_left
            · intro w; go_simp; try with_reducible rfl
            simp only [Act.put, rgA, rgB, rgC, rgD, rgE, rgF]
            refine wpAnyT_pure (i := 1) (v := ?_) rfl (by kernel_rfl) (by kernel_rfl) (by kernel_rfl) (fun _ _ _ h => h) (by rfl) ?_ ?_
            rotate_left
            · intro w; go_simp; try with_reducible rfl
            simp only [Act.put, rgA, rgB, rgC, rgD, rgE, rgF]
            refine wpAnyT_pure (i := 2) (v := ?_) rfl (by kernel_rfl) (by kernel_rfl) (by kernel_rfl) (fun _ _ _ h => h) (by rfl) ?_ ?_
            rotate_left
            · intro w; go_simp; try with_reducible rfl
            simp only [Act.put, rgA, rgB, rgC, rgD, rgE, rgF]
            refine wpAnyT_pure (i := 4) (v := ?_) rfl (by kernel_rfl) (by kernel_rfl) (by kernel_rfl) (fun _ _ _ h => h) (by rfl) ?_ ?_
            rotate_left
            · intro w; go_simp; try with_reducible rfl
            simp only [Act.put, rgA, rgB, rgC, rgD, rgE, rgF]
            refine wpAnyT_pure (i := 5) (v := ?_) rfl (by kernel_rfl) (by kernel_rfl) (by kernel_rfl) (fun _ _ _ h => h) (by rfl) ?_ ?_
            rotate_left
            · intro w; go_simp; try with_reducible rfl
            simp only [Act.put, rgA, rgB, rgC, rgD, rgE, rgF]
            refine wpAnyT_pure (i := 6) (v := ?_) rfl (by kernel_rfl) (by kernel_rfl) (by kernel_rfl) (fun _ _ _ h => h) (by rfl) ?_ ?_
            rotate_left
            · intro w; go_simp; try with_reducible rfl
            simp only [Act.put, rgA, rgB, rgC, rgD, rgE, rgF]
            refine wpAnyT_pure (i := 8) (v := ?_) rfl (by kernel_rfl) (by kernel_rfl) (by kernel_rfl) (fun _ _ _ h => h) (by rfl) ?_ ?_
            rotate_left
            · intro w; go_simp; try with_reducible rfl
            simp only [Act.put, rgA, rgB, rgC, rgD, rgE, rgF]
            refine wpAnyT_pure (i := 9) (v := ?_) rfl (by kernel_rfl) (by kernel_rfl) (by kernel_rfl) (fun _ _ _ h => h) (by rfl) ?_ ?_
            rotate_left
            · intro w; go_simp; try with_reducible rfl
            simp only [Act.put, rgA, rgB, rgC, rgD, rgE, rgF]
            refine wpAnyT_pure (i := 10) (v := ?_) rfl (by kernel_rfl) (by kernel_rfl) (by kernel_rfl) (fun _ _ _ h => h) (by rfl) ?_ ?_
            rotate_left
            · intro w; go_simp; try with_reducible rfl
            simp only [Act.put, rgA, rgB, rgC, rgD, rgE, rgF]
            refine wpAnyT_pure (i := 14) (v := ?_) rfl (by kernel_rfl) (by kernel_rfl) (by kernel_rfl) (fun _ _ _ h => h) (by rfl) ?_ ?_
            rotate_left
            · intro w; go_simp; try with_reducible rfl
            simp only [Act.put, rgA, rgB, rgC, rgD, rgE, rgF]
            refine wpAnyT_pure (i := 15) (v := ?_) rfl (by kernel_rfl) (by kernel_rfl) (by kernel_rfl) (fun _ _ _ h => h) (by rfl) ?_ ?_
            rotate_left
            · intro w; go_simp; try with_reducible rfl
            simp only [Act.put, rgA, rgB, rgC, rgD, rgE, rgF]
            refine wpAnyT_pure (i := 16) (v := ?_) rfl (by kernel_rfl) (by kernel_rfl) (by kernel_rfl) (fun _ _ _ h => h) (by rfl) ?_ ?_
            rotate_left
            · intro w; go_simp; try with_reducible rfl
            simp only [Act.put, rgA, rgB, rgC, rgD, rgE, rgF]
            refine wpAnyT_pure (i := 3) (v := (.int .i64 (fr : Nat))) rfl (by kernel_rfl) (by kernel_rfl) (by kernel_rfl) (fun _ _ _ h => h) (by rfl) ?_ ?_
            · intro w; have hq := HFR.out; clear HFR; go_simp; rw [IntKind.wrap_i64] <;> omega
            simp only [Act.put, rgA, rgB, rgC, rgD, rgE, rgF]
            refine wpAnyT_pure (i := 7) (v := (.int .i64 (fc : Nat))) rfl (by kernel_rfl) (by kernel_rfl) (by kernel_rfl) (fun _ _ _ h => h) (by rfl) ?_ ?_
            · intro w; have hq := HFC.out; clear HFC; go_simp; rw [IntKind.wrap_i64] <;> omega
            simp only [Act.put, rgA, rgB, rgC, rgD, rgE, rgF]
            refine wpAnyT_pure (i := 11) (v := (.int .i64 (fc : Nat))) rfl (by kernel_rfl) (by kernel_rfl) (by kernel_rfl) (fun _ _ _ h => h) (by rfl) ?_ ?_
            · intro w; have hq := HFC.out; clear HFC; go_simp; rw [IntKind.wrap_i64] <;> omega
            simp only [Act.put, rgA, rgB, rgC, rgD, rgE, rgF]
            refine wpAnyT_pure (i := 12) (v := ?_) rfl (by kernel_rfl) (by kernel_rfl) (by kernel_rfl) (fun _ _ _ h => h) (by rfl) ?_ ?_
            rotate_left
            · intro w; go_simp; try with_reducible rfl
            simp only [Act.put, rgA, rgB, rgC, rgD, rgE, rgF]
            refine wpAnyT_loadW (i := 13) (v := ?_) rfl (by kernel_rfl) (by kernel_rfl) (by kernel_rfl) (by kernel_rfl) (by kernel_rfl) (fun _ _ _ h => h) (Or.inl ⟨by rfl, ?_⟩) hSss10 ?_
            rotate_left
            · intro w hSw; obtain ⟨e0, e1, e2, e3, e4, e5, -⟩ := hSw; go_simp; try with_reducible rfl
            simp only [Act.put, rgA, rgB, rgC, rgD, rgE, rgF]
            refine wpAnyT_pure (i := 17) (v := (.int .i64 (fr : Nat))) rfl (by kernel_rfl) (by kernel_rfl) (by kernel_rfl) (fun _ _ _ h => h) (by rfl) ?_ ?_
            · intro w; have hq := HFR.out; clear HFR; go_simp; rw [IntKind.wrap_i64] <;> omega
            simp only [Act.put, rgA, rgB, rgC, rgD, rgE, rgF]
            refine wpAnyT_pure (i := 18) (v := ?_) rfl (by kernel_rfl) (by kernel_rfl) (by kernel_rfl) (fun _ _ _ h => h) (by rfl) ?_ ?_
            rotate_left
            · intro w; go_simp; try with_reducible rfl
            simp only [Act.put, rgA, rgB, rgC, rgD, rgE, rgF]
            refine wpAnyT_loadW (i := 19) (v := ?_) rfl (by kernel_rfl) (by kernel_rfl) (by kernel_rfl) (by kernel_rfl) (by kernel_rfl) (fun _ _ _ h => h) (Or.inl ⟨by rfl, ?_⟩) hSss10 ?_
            rotate_left
            · intro w hSw; obtain ⟨e0, e1, e2, e3, e4, e5, -⟩ := hSw; go_simp; try with_reducible rfl
            simp only [Act.put, rgA, rgB, rgC, rgD, rgE, rgF]
            refine wpAnyT_pure (i := 20) (v := ?_) rfl (by kernel_rfl) (by kernel_rfl) (by kernel_rfl) (fun _ _ _ h => h) (by rfl) ?_ ?_
            rotate_left
            · intro w; go_simp; try with_reducible rfl
            simp only [Act.put, rgA, rgB, rgC, rgD, rgE, rgF]
            refine wpAnyT_one (i := 21) (by kernel_rfl) rfl (by rfl) ?_
            have hb13 : Below w5.heap.size w5 s10 := hB_0_s10.trans ((hB_s10_s10).mono (hB_0_s10).size)
            obtain ⟨hs13, hn13⟩ := (HK5.out.below hb13).set Tryz.prog fr (by rw [HD'.out]; exact hfrn) ⟨y1, y2, y3⟩
            have hg13 := (HG5.out.step hb13).trans (gr_setCells g (kvs ⟨y1, y2, y3⟩) (fr * 3) s10) (fun _ h => .inl h)
            refine wp_storeK (w' := (s10).setCells g (fr * 3) (kvs ⟨y1, y2, y3⟩)) 48 (.tmp 79) (.tmp 72) rfl ⟨g, fr * 3, none⟩ (.agg #[.string y1, .int .i64 y2, .int .i64 y3]) (by kernel_rfl) (by kernel_rfl) (sizeK _) hs13 ?_
            generalize (s10).setCells g (fr * 3) (kvs ⟨y1, y2, y3⟩) = w111 at hn13 hg13 ⊢
            clear hs13
            refine ⟨fun h => absurd h (by decide), ?_⟩
            try simp only [Act.put, rgA, rgB, rgC, rgD, rgE, rgF]
            refine wpAnyT_pure (i := 22) (v := ?_) rfl (by kernel_rfl) (by kernel_rfl) (by kernel_rfl) (fun _ _ _ h => h) (by rfl) ?_ ?_
            rotate_left
            · intro w; go_simp; try with_reducible rfl
            simp only [Act.put, rgA, rgB, rgC, rgD, rgE, rgF]
            refine wpAnyT_one (i := 23) (by kernel_rfl) rfl (by rfl) ?_
            obtain ⟨hs15, hn15⟩ := hn13.set Tryz.prog fc (by rw [Array.size_setIfInBounds, HD'.out]; exact hfcn) ⟨x1, x2, x3⟩
            have hg15 := hg13.trans (gr_setCells g (kvs ⟨x1, x2, x3⟩) (fc * 3) w111) (fun _ h => .inl h)
            refine wp_storeK (w' := (w111).setCells g (fc * 3) (kvs ⟨x1, x2, x3⟩)) 48 (.tmp 80) (.tmp 78) rfl ⟨g, fc * 3, none⟩ (.agg #[.string x1, .int .i64 x2, .int .i64 x3]) (by kernel_rfl) (by kernel_rfl) (sizeK _) hs15 ?_
            generalize (w111).setCells g (fc * 3) (kvs ⟨x1, x2, x3⟩) = w112 at hn15 hg15 ⊢
            clear hs15 hn13 hg13
            refine ⟨fun h => absurd h (by decide), ?_⟩
            try simp only [Act.put, rgA, rgB, rgC, rgD, rgE, rgF]
            refine wpAnyT_done (by kernel_rfl) ?_ _
            obtain ⟨w6, rfl⟩ : ∃ x, x = w112 := ⟨_, rfl⟩
            have HR6 := Lib.hid hn15
            have HG6 := Lib.hid hg15
            clear hn15 hg15
            go_wp2_with fail
            go_roundw
            case rel => exact ⟨c, Sort.swp d' fr fc, by omega, by go_num, by rw [swp_size]; exact HD'.out, HNX2.out, by rw [HSW.out]; exact HR6.out, HG6.out⟩
            case measure => simp [intOf]; try omega
      · obtain ⟨c, hc⟩ : ∃ q, q = 2 * root + 1 := ⟨_, rfl⟩
        have hdj : (c = 2 * root + 2 ∧ 2 * root + 1 + 1 < hi ∧ ltK ts d'[first + (2 * root + 1)]! d'[first + (2 * root + 1) + 1]! = true) ∨ (c = 2 * root + 1 ∧ ¬ (2 * root + 1 + 1 < hi ∧ ltK ts d'[first + (2 * root + 1)]! d'[first + (2 * root + 1) + 1]! = true)) := .inr ⟨hc, fun hx => h2 hx.1⟩
        have hc2I : ¬ (c2 : Int) < (hi : Int) := by omega
        have hC3 : Cells [] wr := trivial
        refine wp_region_T (Cells []) (fun _ => false) (by kernel_rfl) ?_
        have hSss13 := Cells.drew hC3
        have hB_0_s13 : Below wr.heap.size wr wr.drew := below_drew _
        generalize wr.drew = s13 at hSss13 hB_0_s13 ⊢
        have hB_s13_s13 := Below.refl s13.heap.size s13
        refine wpAnyT_pure (i := 0) (v := ?_) rfl (by kernel_rfl) (by kernel_rfl) (by kernel_rfl) (fun _ _ _ h => h) (by rfl) ?_ ?_
        rotate_left
        · intro w; go_simp; try with_reducible rfl
        simp only [Act.put, rgA, rgB, rgC, rgD, rgE, rgF]
        refine wpAnyT_pure (i := 2) (v := ?_) rfl (by kernel_rfl) (by kernel_rfl) (by kernel_rfl) (fun _ _ _ h => h) (by rfl) ?_ ?_
        rotate_left
        · intro w; go_simp; try with_reducible rfl
        simp only [Act.put, rgA, rgB, rgC, rgD, rgE, rgF]
        refine wpAnyT_pure (i := 1) (v := (.int .i64 (c2 : Nat))) rfl (by kernel_rfl) (by kernel_rfl) (by kernel_rfl) (fun _ _ _ h => h) (by rfl) ?_ ?_
        · intro w; have hq := HC2.out; clear HC2; go_simp; rw [IntKind.wrap_i64] <;> omega
        simp only [Act.put, rgA, rgB, rgC, rgD, rgE, rgF]
        refine wpAnyT_pure (i := 3) (v := (.bool false)) rfl (by kernel_rfl) (by kernel_rfl) (by kernel_rfl) (fun _ _ _ h => h) (by rfl) ?_ ?_
        · intro w; go_simp <;> omega
        simp only [Act.put, rgA, rgB, rgC, rgD, rgE, rgF]
        refine wpAnyT_pure (i := 4) (v := ?_) rfl (by kernel_rfl) (by kernel_rfl) (by kernel_rfl) (fun _ _ _ h => h) (by rfl) ?_ ?_
        rotate_left
        · intro w; go_simp; try with_reducible rfl
        simp only [Act.put, rgA, rgB, rgC, rgD, rgE, rgF]
        refine wpAnyT_skip (i := 5) rfl (by kernel_rfl) (by kernel_rfl) (by kernel_rfl) (fun _ _ _ h => h) (by rfl) ?_
        simp only [Act.put, rgA, rgB, rgC, rgD, rgE, rgF]
        refine wpAnyT_skip (i := 6) rfl (by kernel_rfl) (by kernel_rfl) (by kernel_rfl) (fun _ _ _ h => h) (by rfl) ?_
        simp only [Act.put, rgA, rgB, rgC, rgD, rgE, rgF]
        refine wpAnyT_skip (i := 7) rfl (by kernel_rfl) (by kernel_rfl) (by kernel_rfl) (fun _ _ _ h => h) (by rfl) ?_
        simp only [Act.put, rgA, rgB, rgC, rgD, rgE, rgF]
        refine wpAnyT_skip (i := 8) rfl (by kernel_rfl) (by kernel_rfl) (by kernel_rfl) (fun _ _ _ h => h) (by rfl) ?_
        simp only [Act.put, rgA, rgB, rgC, rgD, rgE, rgF]
        refine wpAnyT_skip (i := 9) rfl (by kernel_rfl) (by kernel_rfl) (by kernel_rfl) (fun _ _ _ h => h) (by rfl) ?_
        simp only [Act.put, rgA, rgB, rgC, rgD, rgE, rgF]
        refine wpAnyT_skip (i := 10) rfl (by kernel_rfl) (by kernel_rfl) (by kernel_rfl) (fun _ _ _ h => h) (by rfl) ?_
        simp only [Act.put, rgA, rgB, rgC, rgD, rgE, rgF]
        refine wpAnyT_skip (i := 11) rfl (by kernel_rfl) (by kernel_rfl) (by kernel_rfl) (fun _ _ _ h => h) (by rfl) ?_
        simp only [Act.put, rgA, rgB, rgC, rgD, rgE, rgF]
        refine wpAnyT_skip (i := 12) rfl (by kernel_rfl) (by kernel_rfl) (by kernel_rfl) (fun _ _ _ h => h) (by rfl) ?_
        simp only [Act.put, rgA, rgB, rgC, rgD, rgE, rgF]
        refine wpAnyT_skip (i := 13) rfl (by kernel_rfl) (by kernel_rfl) (by kernel_rfl) (fun _ _ _ h => h) (by rfl) ?_
        simp only [Act.put, rgA, rgB, rgC, rgD, rgE, rgF]
        refine wpAnyT_skip (i := 14) rfl (by kernel_rfl) (by kernel_rfl) (by kernel_rfl) (fun _ _ _ h => h) (by rfl) ?_
        simp only [Act.put, rgA, rgB, rgC, rgD, rgE, rgF]
        refine wpAnyT_skip (i := 15) rfl (by kernel_rfl) (by kernel_rfl) (by kernel_rfl) (fun _ _ _ h => h) (by rfl) ?_
        simp only [Act.put, rgA, rgB, rgC, rgD, rgE, rgF]
        refine wpAnyT_skip (i := 16) rfl (by kernel_rfl) (by kernel_rfl) (by kernel_rfl) (fun _ _ _ h => h) (by rfl) ?_
        simp only [Act.put, rgA, rgB, rgC, rgD, rgE, rgF]
        refine wpAnyT_skip (i := 17) rfl (by kernel_rfl) (by kernel_rfl) (by kernel_rfl) (fun _ _ _ h => h) (by rfl) ?_
        simp only [Act.put, rgA, rgB, rgC, rgD, rgE, rgF]
        refine wpAnyT_skip (i := 18) rfl (by kernel_rfl) (by kernel_rfl) (by kernel_rfl) (fun _ _ _ h => h) (by rfl) ?_
        simp only [Act.put, rgA, rgB, rgC, rgD, rgE, rgF]
        refine wpAnyT_skip (i := 19) rfl (by kernel_rfl) (by kernel_rfl) (by kernel_rfl) (fun _ _ _ h => h) (by rfl) ?_
        simp only [Act.put, rgA, rgB, rgC, rgD, rgE, rgF]
        refine wpAnyT_skip (i := 20) rfl (by kernel_rfl) (by kernel_rfl) (by kernel_rfl) (fun _ _ _ h => h) (by rfl) ?_
        simp only [Act.put, rgA, rgB, rgC, rgD, rgE, rgF]
        refine wpAnyT_pure (i := 21) (v := ?_) rfl (by kernel_rfl) (by kernel_rfl) (by kernel_rfl) (fun _ _ _ h => h) (by rfl) ?_ ?_
        rotate_left
        · intro w; go_simp; try with_reducible rfl
        simp only [Act.put, rgA, rgB, rgC, rgD, rgE, rgF]
        refine wpAnyT_done (by kernel_rfl) ?_ _
        have hbP3 : Below wr.heap.size wr s13 := hB_0_s13.trans ((hB_s13_s13).mono (hB_0_s13).size)
        obtain ⟨w3, rfl⟩ : ∃ x, x = s13 := ⟨_, rfl⟩
        have HB3 := Lib.hid hbP3
        rw [show 2 * (root : Int) + 1 = ((c : Nat) : Int) from by omega]
        clear hbP3 HC2 hc2I hC3
        have HNX := Lib.hid (sift_eq (ltK ts) hi first root c d' (by omega) hdj)
        have hcn : first + c < n := by omega
        obtain ⟨fr, hfr⟩ : ∃ q, q = first + root := ⟨_, rfl⟩
        obtain ⟨fc, hfc⟩ : ∃ q, q = first + c := ⟨_, rfl⟩
        rw [← hfr, ← hfc] at HNX
        have hfrn : fr < n := by omega
        have hfcn : fc < n := by omega
        have hfrI : (fr : Int) < (n : Int) := by omega
        have hfcI : (fc : Int) < (n : Int) := by omega
        have HFR := Lib.hid hfr
        have HFC := Lib.hid hfc
        have hke := HKA.out.below HB3.out
        obtain ⟨m0, m1, m2⟩ := hke.cell fr (by rw [HD'.out]; exact hfrn)
        obtain ⟨p0, p1, p2⟩ := hke.cell fc (by rw [HD'.out]; exact hfcn)
        have HSW := Lib.hid (show Sort.swp d' fr fc = (d'.setIfInBounds fr d'[fc]!).setIfInBounds fc d'[fr]! from rfl)
        generalize d'[fr]! = x at m0 m1 m2 HSW HNX
        generalize d'[fc]! = y at p0 p1 p2 HSW HNX
        obtain ⟨eb, heb⟩ : ∃ q, ltK ts x y = q := ⟨_, rfl⟩
        rw [heb] at HNX
        obtain ⟨cc, hcc, hcall⟩ := cmpAt (HS.out.gr (HG.out.step HB3.out) (fun _ e => .inl (by rw [e]; exact HFG.out))) x y eb heb
        have HCC := Lib.hid hcc
        have HCALL := Lib.hid hcall
        obtain ⟨x1, x2, x3⟩ := x
        obtain ⟨y1, y2, y3⟩ := y
        simp only at m0 m1 m2 p0 p1 p2 HCALL
        have hC5 : Cells [(⟨g, fr * 3, none⟩, .string x1), (⟨g, fr * 3 + 1, none⟩, .int .i64 x2), (⟨g, fr * 3 + 2, none⟩, .int .i64 x3), (⟨g, fc * 3, none⟩, .string y1), (⟨g, fc * 3 + 1, none⟩, .int .i64 y2), (⟨g, fc * 3 + 2, none⟩, .int .i64 y3)] w3 := ⟨m0, m1, m2, p0, p1, p2, trivial⟩
        have HK2 := Lib.hid hke
        have HG2 := Lib.hid (HG.out.step HB3.out)
        clear m0 m1 m2 p0 p1 p2 hke heb hcc hcall hfr hfc
        go_wp2_with fail
        refine wp_region_T (Cells [(⟨g, fr * 3, none⟩, .string x1), (⟨g, fr * 3 + 1, none⟩, .int .i64 x2), (⟨g, fr * 3 + 2, none⟩, .int .i64 x3), (⟨g, fc * 3, none⟩, .string y1), (⟨g, fc * 3 + 1, none⟩, .int .i64 y2), (⟨g, fc * 3 + 2, none⟩, .int .i64 y3)]) (fun _ => false) (by kernel_rfl) ?_
        have hSss14 := Cells.drew hC5
        have hB_0_s14 : Below w3.heap.size w3 w3.drew := below_drew _
        generalize w3.drew = s14 at hSss14 hB_0_s14 ⊢
        have hB_s14_s14 := Below.refl s14.heap.size s14
        refine wpAnyT_pure (i := 0) (v := ?_) rfl (by kernel_rfl) (by kernel_rfl) (by kernel_rfl) (fun _ _ _ h => h) (by rfl) ?_ ?_
        rotate_left
        · intro w; go_simp; try with_reducible rfl
        simp only [Act.put, rgA, rgB, rgC, rgD, rgE, rgF]
        refine wpAnyT_pure (i := 1) (v := ?_) rfl (by kernel_rfl) (by kernel_rfl) (by kernel_rfl) (fun _ _ _ h => h) (by rfl) ?_ ?_
        rotate_left
        · intro w; go_simp; try with_reducible rfl
        simp only [Act.put, rgA, rgB, rgC, rgD, rgE, rgF]
        refine wpAnyT_pure (i := 2) (v := ?_) rfl (by kernel_rfl) (by kernel_rfl) (by kernel_rfl) (fun _ _ _ h => h) (by rfl) ?_ ?_
        rotate_left
        · intro w; go_simp; try with_reducible rfl
        simp only [Act.put, rgA, rgB, rgC, rgD, rgE, rgF]
        refine wpAnyT_pure (i := 3) (v := ?_) rfl (by kernel_rfl) (by kernel_rfl) (by kernel_rfl) (fun _ _ _ h => h) (by rfl) ?_ ?_
        rotate_left
        · intro w; go_simp; try with_reducible rfl
        simp only [Act.put, rgA, rgB, rgC, rgD, rgE, rgF]
        refine wpAnyT_pure (i := 7) (v := ?_) rfl (by kernel_rfl) (by kernel_rfl) (by kernel_rfl) (fun _ _ _ h => h) (by rfl) ?_ ?_
        rotate_left
        · intro w; go_simp; try with_reducible rfl
        simp only [Act.put, rgA, rgB, rgC, rgD, rgE, rgF]
        refine wpAnyT_pure (i := 8) (v := ?_) rfl (by kernel_rfl) (by kernel_rfl) (by kernel_rfl) (fun _ _ _ h => h) (by rfl) ?_ ?_
        rotate_left
        · intro w; go_simp; try with_reducible rfl
        simp only [Act.put, rgA, rgB, rgC, rgD, rgE, rgF]
        refine wpAnyT_pure (i := 9) (v := ?_) rfl (by kernel_rfl) (by kernel_rfl) (by kernel_rfl) (fun _ _ _ h => h) (by rfl) ?_ ?_
        rotate_left
        · intro w; go_simp; try with_reducible rfl
        simp only [Act.put, rgA, rgB, rgC, rgD, rgE, rgF]
        refine wpAnyT_pure (i := 4) (v := (.int .i64 (fr : Nat))) rfl (by kernel_rfl) (by kernel_rfl) (by kernel_rfl) (fun _ _ _ h => h) (by rfl) ?_ ?_
        · intro w; have hq := HFR.out; clear HFR; go_simp; rw [IntKind.wrap_i64] <;> omega
        simp only [Act.put, rgA, rgB, rgC, rgD, rgE, rgF]
        refine wpAnyT_pure (i := 5) (v := ?_) rfl (by kernel_rfl) (by kernel_rfl) (by kernel_rfl) (fun _ _ _ h => h) (by rfl) ?_ ?_
        rotate_left
        · intro w; go_simp; try with_reducible rfl
        simp only [Act.put, rgA, rgB, rgC, rgD, rgE, rgF]
        refine wpAnyT_loadW (i := 6) (v := ?_) rfl (by kernel_rfl) (by kernel_rfl) (by kernel_rfl) (by kernel_rfl) (by kernel_rfl) (fun _ _ _ h => h) (Or.inl ⟨by rfl, ?_⟩) hSss14 ?_
        rotate_left
        · intro w hSw; obtain ⟨e0, e1, e2, e3, e4, e5, -⟩ := hSw; go_simp; try with_reducible rfl
        simp only [Act.put, rgA, rgB, rgC, rgD, rgE, rgF]
        refine wpAnyT_pure (i := 10) (v := (.int .i64 (fc : Nat))) rfl (by kernel_rfl) (by kernel_rfl) (by kernel_rfl) (fun _ _ _ h => h) (by rfl) ?_ ?_
        · intro w; have hq := HFC.out; clear HFC; go_simp; rw [IntKind.wrap_i64] <;> omega
        simp only [Act.put, rgA, rgB, rgC, rgD, rgE, rgF]
        refine wpAnyT_pure (i := 11) (v := ?_) rfl (by kernel_rfl) (by kernel_rfl) (by kernel_rfl) (fun _ _ _ h => h) (by rfl) ?_ ?_
        rotate_left
        · intro w; go_simp; try with_reducible rfl
        simp only [Act.put, rgA, rgB, rgC, rgD, rgE, rgF]
        refine wpAnyT_loadW (i := 12) (v := ?_) rfl (by kernel_rfl) (by kernel_rfl) (by kernel_rfl) (by kernel_rfl) (by kernel_rfl) (fun _ _ _ h => h) (Or.inl ⟨by rfl, ?_⟩) hSss14 ?_
        rotate_left
        · intro w hSw; obtain ⟨e0, e1, e2, e3, e4, e5, -⟩ := hSw; go_simp; try with_reducible rfl
        simp only [Act.put, rgA, rgB, rgC, rgD, rgE, rgF]
        refine wpAnyT_one (i := 13) (by kernel_rfl) rfl (by rfl) ?_
        refine wp_enter (f := 44) (args := #[.pointer (some ⟨p, 0, none⟩), .agg #[.string x1, .int .i64 x2, .int .i64 x3], .agg #[.string y1, .int .i64 y2, .int .i64 y3]]) (by go_simp) (HCALL.out s14 (Gr.of_below (hB_0_s14.trans ((hB_s14_s14).mono (hB_0_s14).size)))) ?_
        rintro e w115 ⟨rfl, hX⟩
        have hB_s14_w115 := below_step hB_s14_s14 hX
        have hB_w115_w115 := Below.refl w115.heap.size w115
        have hSsw115 := Cells.below hB_s14_w115 hSss14
        clear hX
        refine ⟨_, rfl, fun _ _ => hSsw115, ?_⟩
        try simp only [Act.put, rgA, rgB, rgC, rgD, rgE, rgF]
        refine wpAnyT_pure (i := 14) (v := (.bool eb)) rfl (by kernel_rfl) (by kernel_rfl) (by kernel_rfl) (fun _ _ _ h => h) (by rfl) ?_ ?_
        · intro w; have hq := HCC.out; clear HCC; go_simp <;> exact hq
        simp only [Act.put, rgA, rgB, rgC, rgD, rgE, rgF]
        refine wpAnyT_pure (i := 15) (v := ?_) rfl (by kernel_rfl) (by kernel_rfl) (by kernel_rfl) (fun _ _ _ h => h) (by rfl) ?_ ?_
        rotate_left
        · intro w; go_simp; try with_reducible rfl
        simp only [Act.put, rgA, rgB, rgC, rgD, rgE, rgF]
        refine wpAnyT_done (by kernel_rfl) ?_ _
        have hbP5 : Below w3.heap.size w3 w115 := hB_0_s14.trans ((hB_s14_w115).mono (hB_0_s14).size)
        obtain ⟨w5, rfl⟩ : ∃ x, x = w115 := ⟨_, rfl⟩
        have HK5 := Lib.hid (HK2.out.below hbP5)
        have HG5 := Lib.hid (HG2.out.step hbP5)
        have hC6 := Cells.below hbP5 hC5
        clear hbP5 hC5 HK2 HG2
        cases eb
        · have HFIN := Lib.hid (show Sort.siftDown (ltK ts) hi first lo d = d' from by rw [← HEQ.out, HNX.out]; rfl)
          go_wp2_with fail
          exact bodyPost_ret (results_none rfl _ _ _) rfl ⟨rfl, by rw [HFIN.out]; exact HK5.out, HG5.out⟩
        · have HNX2 := Lib.hid (show Sort.siftDown (ltK ts) hi first c (Sort.swp d' fr fc) = Sort.siftDown (ltK ts) hi first lo d from by rw [← HEQ.out, HNX.out]; rfl)
          go_wp2_with fail
          refine wp_region_T (Cells [(⟨g, fr * 3, none⟩, .string x1), (⟨g, fr * 3 + 1, none⟩, .int .i64 x2), (⟨g, fr * 3 + 2, none⟩, .int .i64 x3), (⟨g, fc * 3, none⟩, .string y1), (⟨g, fc * 3 + 1, none⟩, .int .i64 y2), (⟨g, fc * 3 + 2, none⟩, .int .i64 y3)]) (fun i => i == 21 || i == 23) (by kernel_rfl) ?_
          have hSss16 := Cells.drew hC6
          have hB_0_s16 : Below w5.heap.size w5 w5.drew := below_drew _
          generalize w5.drew = s16 at hSss16 hB_0_s16 ⊢
          have hB_s16_s16 := Below.refl s16.heap.size s16
          refine wpAnyT_pure (i := 0) (v := ?_) rfl (by kernel_rfl) (by kernel_rfl) (by kernel_rfl) (fun _ _ _ h => h) (by rfl) ?_ ?_
          rotate_left
          · intro w; go_simp; try with_reducible rfl
          simp only [Act.put, rgA, rgB, rgC, rgD, rgE, rgF]
          refine wpAnyT_pure (i := 1) (v := ?_) rfl (by kernel_rfl) (by kernel_rfl) (by kernel_rfl) (fun _ _ _ h => h) (by rfl) ?_ ?_
          rotate_left
          · intro w; go_simp; try with_reducible rfl
          simp only [Act.put, rgA, rgB, rgC, rgD, rgE, rgF]
          refine wpAnyT_pure (i := 2) (v := ?_) rfl (by kernel_rfl) (by kernel_rfl) (by kernel_rfl) (fun _ _ _ h => h) (by rfl) ?_ ?_
          rotate_left
          · intro w; go_simp; try with_reducible rfl
          simp only [Act.put, rgA, rgB, rgC, rgD, rgE, rgF]
          refine wpAnyT_pure (i := 4) (v := ?_) rfl (by kernel_rfl) (by kernel_rfl) (by kernel_rfl) (fun _ _ _ h => h) (by rfl) ?_ ?_
          rotate_left
          · intro w; go_simp; try with_reducible rfl
          simp only [Act.put, rgA, rgB, rgC, rgD, rgE, rgF]
          refine wpAnyT_pure (i := 5) (v := ?_) rfl (by kernel_rfl) (by kernel_rfl) (by kernel_rfl) (fun _ _ _ h => h) (by rfl) ?_ ?_
          rotate_left
          · intro w; go_simp; try with_reducible rfl
          simp only [Act.put, rgA, rgB, rgC, rgD, rgE, rgF]
          refine wpAnyT_pure (i := 6) (v := ?_) rfl (by kernel_rfl) (by kernel_rfl) (by kernel_rfl) (fun _ _ _ h => h) (by rfl) ?_ ?_
          rotate_left
          · intro w; go_simp; try with_reducible rfl
          simp only [Act.put, rgA, rgB, rgC, rgD, rgE, rgF]
          refine wpAnyT_pure (i := 8) (v := ?_) rfl (by kernel_rfl) (by kernel_rfl) (by kernel_rfl) (fun _ _ _ h => h) (by rfl) ?_ ?_
          rotate_left
          · intro w; go_simp; try with_reducible rfl
          simp only [Act.put, rgA, rgB, rgC, rgD, rgE, rgF]
          refine wpAnyT_pure (i := 9) (v := ?_) rfl (by kernel_rfl) (by kernel_rfl) (by kernel_rfl) (fun _ _ _ h => h) (by rfl) ?_ ?_
          rotate_left
          · intro w; go_simp; try with_reducible rfl
          simp only [Act.put, rgA, rgB, rgC, rgD, rgE, rgF]
          refine wpAnyT_pure (i := 10) (v := ?_) rfl (by kernel_rfl) (by kernel_rfl) (by kernel_rfl) (fun _ _ _ h => h) (by rfl) ?_ ?_
          rotate_left
          · intro w; go_simp; try with_reducible rfl
          simp only [Act.put, rgA, rgB, rgC, rgD, rgE, rgF]
          refine wpAnyT_pure (i := 14) (v := ?_) rfl (by kernel_rfl) (by kernel_rfl) (by kernel_rfl) (fun _ _ _ h => h) (by rfl) ?_ ?_
          rotate_left
          · intro w; go_simp; try with_reducible rfl
          simp only [Act.put, rgA, rgB, rgC, rgD, rgE, rgF]
          refine wpAnyT_pure (i := 15) (v := ?_) rfl (by kernel_rfl) (by kernel_rfl) (by kernel_rfl) (fun _ _ _ h => h) (by rfl) ?_ ?_
          rotate_left
          · intro w; go_simp; try with_reducible rfl
          simp only [Act.put, rgA, rgB, rgC, rgD, rgE, rgF]
          refine wpAnyT_pure (i := 16) (v := ?_) rfl (by kernel_rfl) (by kernel_rfl) (by kernel_rfl) (fun _ _ _ h => h) (by rfl) ?_ ?_
          rotate_left
          · intro w; go_simp; try with_reducible rfl
          simp only [Act.put, rgA, rgB, rgC, rgD, rgE, rgF]
          refine wpAnyT_pure (i := 3) (v := (.int .i64 (fr : Nat))) rfl (by kernel_rfl) (by kernel_rfl) (by kernel_rfl) (fun _ _ _ h => h) (by rfl) ?_ ?_
          · intro w; have hq := HFR.out; clear HFR; go_simp; rw [IntKind.wrap_i64] <;> omega
          simp only [Act.put, rgA, rgB, rgC, rgD, rgE, rgF]
          refine wpAnyT_pure (i := 7) (v := (.int .i64 (fc : Nat))) rfl (by kernel_rfl) (by kernel_rfl) (by kernel_rfl) (fun _ _ _ h => h) (by rfl) ?_ ?_
          · intro w; have hq := HFC.out; clear HFC; go_simp; rw [IntKind.wrap_i64] <;> omega
          simp only [Act.put, rgA, rgB, rgC, rgD, rgE, rgF]
          refine wpAnyT_pure (i := 11) (v := (.int .i64 (fc : Nat))) rfl (by kernel_rfl) (by kernel_rfl) (by kernel_rfl) (fun _ _ _ h => h) (by rfl) ?_ ?_
          · intro w; have hq := HFC.out; clear HFC; go_simp; rw [IntKind.wrap_i64] <;> omega
          simp only [Act.put, rgA, rgB, rgC, rgD, rgE, rgF]
          refine wpAnyT_pure (i := 12) (v := ?_) rfl (by kernel_rfl) (by kernel_rfl) (by kernel_rfl) (fun _ _ _ h => h) (by rfl) ?_ ?_
          rotate_left
          · intro w; go_simp; try with_reducible rfl
          simp only [Act.put, rgA, rgB, rgC, rgD, rgE, rgF]
          refine wpAnyT_loadW (i := 13) (v := ?_) rfl (by kernel_rfl) (by kernel_rfl) (by kernel_rfl) (by kernel_rfl) (by kernel_rfl) (fun _ _ _ h => h) (Or.inl ⟨by rfl, ?_⟩) hSss16 ?_
          rotate_left
          · intro w hSw; obtain ⟨e0, e1, e2, e3, e4, e5, -⟩ := hSw; go_simp; try with_reducible rfl
          simp only [Act.put, rgA, rgB, rgC, rgD, rgE, rgF]
          refine wpAnyT_pure (i := 17) (v := (.int .i64 (fr : Nat))) rfl (by kernel_rfl) (by kernel_rfl) (by kernel_rfl) (fun _ _ _ h => h) (by rfl) ?_ ?_
          · intro w; have hq := HFR.out; clear HFR; go_simp; rw [IntKind.wrap_i64] <;> omega
          simp only [Act.put, rgA, rgB, rgC, rgD, rgE, rgF]
          refine wpAnyT_pure (i := 18) (v := ?_) rfl (by kernel_rfl) (by kernel_rfl) (by kernel_rfl) (fun _ _ _ h => h) (by rfl) ?_ ?_
          rotate_left
          · intro w; go_simp; try with_reducible rfl
          simp only [Act.put, rgA, rgB, rgC, rgD, rgE, rgF]
          refine wpAnyT_loadW (i := 19) (v := ?_) rfl (by kernel_rfl) (by kernel_rfl) (by kernel_rfl) (by kernel_rfl) (by kernel_rfl) (fun _ _ _ h => h) (Or.inl ⟨by rfl, ?_⟩) hSss16 ?_
          rotate_left
          · intro w hSw; obtain ⟨e0, e1, e2, e3, e4, e5, -⟩ := hSw; go_simp; try with_reducible rfl
          simp only [Act.put, rgA, rgB, rgC, rgD, rgE, rgF]
          refine wpAnyT_pure (i := 20) (v := ?_) rfl (by kernel_rfl) (by kernel_rfl) (by kernel_rfl) (fun _ _ _ h => h) (by rfl) ?_ ?_
          rotate_left
          · intro w; go_simp; try with_reducible rfl
          simp only [Act.put, rgA, rgB, rgC, rgD, rgE, rgF]
          refine wpAnyT_one (i := 21) (by kernel_rfl) rfl (by rfl) ?_
          have hb13 : Below w5.heap.size w5 s16 := hB_0_s16.trans ((hB_s16_s16).mono (hB_0_s16).size)
          obtain ⟨hs13, hn13⟩ := (HK5.out.below hb13).set Tryz.prog fr (by rw [HD'.out]; exact hfrn) ⟨y1, y2, y3⟩
          have hg13 := (HG5.out.step hb13).trans (gr_setCells g (kvs ⟨y1, y2, y3⟩) (fr * 3) s16) (fun _ h => .inl h)
          refine wp_storeK (w' := (s16).setCells g (fr * 3) (kvs ⟨y1, y2, y3⟩)) 48 (.tmp 79) (.tmp 72) rfl ⟨g, fr * 3, none⟩ (.agg #[.string y1, .int .i64 y2, .int .i64 y3]) (by kernel_rfl) (by kernel_rfl) (sizeK _) hs13 ?_
          generalize (s16).setCells g (fr * 3) (kvs ⟨y1, y2, y3⟩) = w117 at hn13 hg13 ⊢
          clear hs13
          refine ⟨fun h => absurd h (by decide), ?_⟩
          try simp only [Act.put, rgA, rgB, rgC, rgD, rgE, rgF]
          refine wpAnyT_pure (i := 22) (v := ?_) rfl (by kernel_rfl) (by kernel_rfl) (by kernel_rfl) (fun _ _ _ h => h) (by rfl) ?_ ?_
          rotate_left
          · intro w; go_simp; try with_reducible rfl
          simp only [Act.put, rgA, rgB, rgC, rgD, rgE, rgF]
          refine wpAnyT_one (i := 23) (by kernel_rfl) rfl (by rfl) ?_
          obtain ⟨hs15, hn15⟩ := hn13.set Tryz.prog fc (by rw [Array.size_setIfInBounds, HD'.out]; exact hfcn) ⟨x1, x2, x3⟩
          have hg15 := hg13.trans (gr_setCells g (kvs ⟨x1, x2, x3⟩) (fc * 3) w117) (fun _ h => .inl h)
          refine wp_storeK (w' := (w117).setCells g (fc * 3) (kvs ⟨x1, x2, x3⟩)) 48 (.tmp 80) (.tmp 78) rfl ⟨g, fc * 3, none⟩ (.agg #[.string x1, .int .i64 x2, .int .i64 x3]) (by kernel_rfl) (by kernel_rfl) (sizeK _) hs15 ?_
          generalize (w117).setCells g (fc * 3) (kvs ⟨x1, x2, x3⟩) = w118 at hn15 hg15 ⊢
          clear hs15 hn13 hg13
          refine ⟨fun h => absurd h (by decide), ?_⟩
          try simp only [Act.put, rgA, rgB, rgC, rgD, rgE, rgF]
          refine wpAnyT_done (by kernel_rfl) ?_ _
          obtain ⟨w6, rfl⟩ : ∃ x, x = w118 := ⟨_, rfl⟩
          have HR6 := Lib.hid hn15
          have HG6 := Lib.hid hg15
          clear hn15 hg15
          go_wp2_with fail
          go_roundw
          case rel => exact ⟨c, Sort.swp d' fr fc, by omega, by go_num, by rw [swp_size]; exact HD'.out, HNX2.out, by rw [HSW.out]; exact HR6.out, HG6.out⟩
          case measure => simp [intOf]; try omega
end Go.Proofs.YtdcjocldggmdbaaGreat
