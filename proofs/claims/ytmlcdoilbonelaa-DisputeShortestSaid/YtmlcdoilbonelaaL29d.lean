/- Chapter 29: the walks of DisputePath and DisputeShortest. -/
import Derived.Test.YtmlcdoilbonelaaC29h
namespace Go.Proofs.Ytmlcdoilbonelaa
open Go.RowKit Go

theorem dist_all : (all5.all fun s => all5.all fun t => stepsL.all fun x => decide ((nextF s x.1 x.2.1).2 = 0 → (pathL s t).length ≤ 1 + (pathL (nextF s x.1 x.2.1).1 t).length)) = true := by kernel_rfl
theorem dist_self : (all5.all fun s => decide ((pathL s s).length = 0)) = true := by kernel_rfl
theorem mem5 (x : Int) (a : 1 ≤ x) (b : x ≤ 5) : x ∈ all5 := by simp [all5]; omega
theorem next_in (s d a : Int) (h : (nextF s d a).2 = 0) : 1 ≤ s ∧ s ≤ 5 ∧ 0 ≤ d ∧ d ≤ 1 ∧ 0 ≤ a ∧ a ≤ 3 ∧ 1 ≤ (nextF s d a).1 ∧ (nextF s d a).1 ≤ 5 := by
  have hin : 1 ≤ s ∧ s ≤ 5 ∧ 0 ≤ d ∧ d ≤ 1 ∧ 0 ≤ a ∧ a ≤ 3 := by
    by_cases hin : 1 ≤ s ∧ s ≤ 5 ∧ 0 ≤ d ∧ d ≤ 1 ∧ 0 ≤ a ∧ a ≤ 3
    · exact hin
    · rw [nextF, if_neg hin] at h; cases h
  have hle := nextF_le s d a
  have : (nextF s d a).1 ≠ 0 := by
    unfold nextF at h ⊢
    rw [if_pos hin] at h ⊢
    split at h
    · cases h
    · rename_i hne
      rw [if_neg hne]
      exact hne
  omega
theorem dist_step (s t d a : Int) (h3 : 1 ≤ t) (h4 : t ≤ 5) (h : (nextF s d a).2 = 0) : (pathL s t).length ≤ 1 + (pathL (nextF s d a).1 t).length := by
  obtain ⟨h1, h2, h5, h6, h7, h8, _⟩ := next_in s d a h
  have hx : ((d, a, ()) : stT.den) ∈ stepsL := by
    have hd : d = 0 ∨ d = 1 := by omega
    have ha : a = 0 ∨ a = 1 ∨ a = 2 ∨ a = 3 := by omega
    rcases hd with rfl | rfl <;> rcases ha with rfl | rfl | rfl | rfl <;> simp [stepsL]
  have := List.all_eq_true.1 (List.all_eq_true.1 (List.all_eq_true.1 dist_all s (mem5 s h1 h2)) t (mem5 t h3 h4)) _ hx
  exact (of_decide_eq_true this) h
theorem runG_dist : ∀ (xs : List stT.den) (s : Int) (i : Nat), 1 ≤ s → s ≤ 5 → (runG s i xs).2.2 = 0 → (1 ≤ (runG s i xs).1 ∧ (runG s i xs).1 ≤ 5) ∧ (pathL s (runG s i xs).1).length ≤ xs.length
  | [], s, i, h1, h2, _ => ⟨⟨h1, h2⟩, by
    have := of_decide_eq_true (List.all_eq_true.1 dist_self s (mem5 s h1 h2))
    simp [runG, this]⟩
  | x :: xs, s, i, h1, h2, h => by
    rw [runG] at h ⊢
    split at h
    · rename_i h0
      rw [if_pos h0]
      have hn := next_in s x.1 x.2.1 h0
      have ih := runG_dist xs (nextF s x.1 x.2.1).1 (i + 1) hn.2.2.2.2.2.2.1 hn.2.2.2.2.2.2.2 h
      refine ⟨ih.1, ?_⟩
      have := dist_step s (runG (nextF s x.1 x.2.1).1 (i + 1) xs).1 x.1 x.2.1 ih.1.1 ih.1.2 h0
      simp only [List.length_cons]
      omega
    · rename_i h0
      exact absurd h h0
theorem runF_dist (s : Int) (xs : List stT.den) (h : (runF s xs).2.2 = 0) : 1 ≤ s ∧ s ≤ 5 ∧ 1 ≤ (runF s xs).1 ∧ (runF s xs).1 ≤ 5 ∧ (pathL s (runF s xs).1).length ≤ xs.length := by
  unfold runF at h ⊢
  split at h
  · rename_i h1
    rw [if_pos h1]
    have := runG_dist xs s 0 h1.1 h1.2 h
    exact ⟨h1.1, h1.2, this.1.1, this.1.2, this.2⟩
  · cases h

set_option maxHeartbeats 2000000 in
theorem pathWalk (w : World) (c0 : List Value) (s : (Ty.int .i64).den) (r0 : Rd (.int .i64) (fun b => b < w.heap.size) w c0 s) (c1 : List Value) (t : (Ty.int .i64).den) (r1 : Rd (.int .i64) (fun b => b < w.heap.size) w c1 t) :
    Calls Try.prog 5 #[valOf (.int .i64) c0, valOf (.int .i64) c1] w fun e w' => e = .returned (.bool true) ∧ Below w.heap.size w w' := by
  obtain ⟨rfl, -⟩ := id r0
  obtain ⟨rfl, -⟩ := id r1
  simp only [valOf, List.headD_cons]
  clear r0 r1
  change Int at s t
  by_cases hin : 1 ≤ s ∧ s ≤ 5 ∧ 1 ≤ t ∧ t ≤ 5
  case neg =>
    have HIN := Lib.hid hin; clear hin
    have hR0 : ∀ w : World, Rd (.sl stT) (fun b => b < w.heap.size) w [.slice none 0 0] [] := fun w => (Owns.nil stT 33 0 w).rd _ (fun _ h => h.elim) (fun _ h => by cases h)
    have HR0 := Lib.hid hR0; clear hR0
    go_enter Try.func5, Try.ntmps5
    go_wp2_with (first
      | (go_at_call 9; refine (awake_sum _).mono ?_; rintro e w1 ⟨rfl, hB1⟩)
      | (go_at_call 14; refine (path_out _ _ _ HIN.out).mono ?_; rintro e w2 ⟨rfl, hw⟩; subst w2)
      | (go_at_call 15; refine (refpath_sum _ _ _).mono ?_; rintro e w3 ⟨-, he, hB3⟩; have he' := he HIN.out; clear he; subst he')
      | (go_at_call 17; refine (from_sum _ _ [] (HR0.out _) (by simp)).mono ?_; rintro e w4 ⟨v4, rfl, hB4, hO4⟩; have HR4 := Lib.hid (hO4.rd (fun b => b < w4.heap.size) (fun _ h => h.elim) (fun b hb => (hO4.own b hb).2)); clear hO4)
      | (go_at_call 16; refine (same_sum _ _ _ [] [] HR4.out (HR0.out _)).mono ?_; rw [decide_eq_true rfl]; rintro e w5 ⟨rfl, hB5⟩))
    go_ret
    exact ⟨rfl, below_step (below_step (below_step hB1 hB3) hB4) hB5⟩
  obtain ⟨h1, h2, h3, h4⟩ := hin
  obtain ⟨-, hrun, hlen⟩ := pathR_some s t h1 h2 h3 h4
  obtain ⟨L, hL⟩ : ∃ L, pathL s t = L := ⟨_, rfl⟩
  rw [hL] at hrun hlen
  have hin : 1 ≤ s ∧ s ≤ 5 ∧ 1 ≤ t ∧ t ≤ 5 := ⟨h1, h2, h3, h4⟩
  have HIN := Lib.hid hin; clear hin
  have hp := fun w => path_walk w s t h1 h2 h3 h4
  rw [hL] at hp
  have hq := fun w => refpath_sum w s t
  rw [hL] at hq
  have HP := Lib.hid hp; clear hp
  have HQ := Lib.hid hq; clear hq
  have HRUN := Lib.hid hrun; clear hrun
  clear hL h1 h2 h3 h4
  go_enter Try.func5, Try.ntmps5
  go_wp2_with (first
    | (go_at_call 9; refine (awake_sum _).mono ?_; rintro e w1 ⟨rfl, hB1⟩)
    | (go_at_call 14; refine (HP.out _).mono ?_; rintro e w2 ⟨v2, rfl, hB2, hR2⟩; have HR2 := Lib.hid (hR2.keep (S' := fun b => b < w2.heap.size) (fun _ _ => rfl) (fun b hb => hb.2)); clear hR2)
    | (go_at_call 15; refine (HQ.out _).mono ?_; rintro e w3 ⟨he, -, hB3⟩; obtain ⟨v3, he', hO3⟩ := he HIN.out; clear he; subst he'; have HR2a := Lib.hid (HR2.out.alloc hB3); have HO3 := Lib.hid hO3; clear hO3)
    | (go_at_call 17; refine (from_sum _ _ L HR2a.out (by omega)).mono ?_; rintro e w4 ⟨v4, rfl, hB4, hO4⟩; have HR4 := Lib.hid (hO4.rd (fun b => b < w4.heap.size) (fun _ h => h.elim) (fun b hb => (hO4.own b hb).2)); clear hO4; have HO4 := Lib.hid (HO3.out.below hB4); have HR3 := Lib.hid (HO4.out.rd (fun b => b < w4.heap.size) (fun _ h => h.elim) (fun b hb => (HO4.out.own b hb).2)); have HR2b := Lib.hid (HR2a.out.alloc hB4))
    | (go_at_call 16; refine (same_sum _ _ _ L L HR4.out HR3.out).mono ?_; rw [decide_eq_true rfl]; rintro e w5 ⟨rfl, hB5⟩; have HR2c := Lib.hid (HR2b.out.alloc hB5))
    | (go_at_call 10; refine (run_sum _ _ _ _ HR2c.out).mono ?_; rw [HRUN.out]; rintro e w6 ⟨rfl, hB6⟩; obtain ⟨a2, l2, c2, he2, hl2, -⟩ := id HR2c.out; simp only [List.cons.injEq, and_true] at he2; subst he2; have hle : l2 ≤ 3 := Nat.le_trans (Nat.le_of_eq hl2.symm) hlen; clear hl2))
  go_ret
  refine ⟨ret_bool ?_, below_step (below_step (below_step (below_step (below_step hB1 hB2) hB3) hB4) hB5) hB6⟩
  simp
  omega

set_option maxHeartbeats 2000000 in
theorem shortestWalk (w : World) (c0 : List Value) (s : (Ty.int .i64).den) (r0 : Rd (.int .i64) (fun b => b < w.heap.size) w c0 s) (c1 : List Value) (xs : (Ty.sl stT).den) (r1 : Rd (.sl stT) (fun b => b < w.heap.size) w c1 xs) :
    Calls Try.prog 6 #[valOf (.int .i64) c0, valOf (.sl stT) c1] w fun e w' => e = .returned (.bool true) ∧ Below w.heap.size w w' := by
  obtain ⟨rfl, -⟩ := id r0
  obtain ⟨a, len, cap, rfl, hl, hlc, hcm, -⟩ := id r1
  simp only [valOf, List.headD_cons]
  clear r0
  change Int at s
  have HL := Lib.hid (show List.length xs = len from hl); clear hl
  have R1 := Lib.hid r1; clear r1
  have HK := Lib.hid (runF_dist s xs)
  obtain ⟨r, hr⟩ : ∃ r, runF s xs = r := ⟨_, rfl⟩
  rw [hr] at HK
  have HR := Lib.hid hr; clear hr
  by_cases h50 : 50 < len
  case pos =>
    have hB0 := Below.refl w.heap.size w
    go_enter Try.func6, Try.ntmps6
    go_wp2_with (go_at_call 9; refine (awake_sum _).mono ?_; rintro e w1 ⟨rfl, hB1⟩; replace hB0 := below_step hB0 hB1)
    go_ret
    exact ⟨rfl, hB0⟩
  go_enter Try.func6, Try.ntmps6
  go_wp2_with (first
    | (go_at_call 9; refine (awake_sum _).mono ?_; rintro e w1 ⟨rfl, hB1⟩; have HR1 := Lib.hid (R1.out.alloc hB1))
    | (go_at_call 11; refine (to_sum _ _ _ HR1.out (by have := HL.out; omega)).mono ?_; rintro e w2 ⟨v2, rfl, hB2, hO2⟩; have HR2 := Lib.hid (HR1.out.alloc hB2)))
  refine (run_sum _ _ _ _ (hO2.rd _ (fun _ h => h.elim) (fun b hb => (hO2.own b hb).2))).mono ?_
  rw [HR.out]
  rintro e w3 ⟨rfl, hB3⟩
  have hB0 := below_step (below_step hB1 hB2) hB3
  clear hO2 hB1 hB2 hB3 HR1 HR2 R1 HR
  by_cases he : r.2.2 = 0
  case neg =>
    have hq : (r.2.2 != 0) = true := by simpa using he
    clear HK he
    go_wp2
    go_ret
    exact ⟨rfl, hB0⟩
  obtain ⟨h1, h2, h3, h4, hle⟩ := HK.out he
  have hq : (r.2.2 != 0) = false := by simpa using he
  have hp := fun w => path_walk w s r.1 h1 h2 h3 h4
  obtain ⟨L, hL⟩ : ∃ L, pathL s r.1 = L := ⟨_, rfl⟩
  rw [hL] at hp hle
  have HP := Lib.hid hp; clear hp
  rw [HL.out] at hle
  clear hL h1 h2 h3 h4 HK he
  go_wp2_with (go_at_call 14; refine (HP.out _).mono ?_; rintro e w2 ⟨v2, rfl, hB2, hR2⟩; obtain ⟨a2, l2, c2, he2, hl2, -⟩ := id hR2; simp only [List.cons.injEq, and_true] at he2; subst he2; have hle2 : l2 ≤ len := Nat.le_trans (Nat.le_of_eq hl2.symm) hle; clear hR2 hl2 hle)
  go_ret
  refine ⟨ret_bool ?_, below_step hB0 hB2⟩
  simp
end Go.Proofs.Ytmlcdoilbonelaa
