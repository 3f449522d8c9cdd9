/- Chapter 29: the walks of DisputeNext and DisputeRun. -/
import Derived.Test.YtmlcdoilbonelaaC29g
namespace Go.Proofs.Ytmlcdoilbonelaa
open Go.RowKit Go

theorem nextWalk (w : World) (c0 : List Value) (s : (Ty.int .i64).den) (r0 : Rd (.int .i64) (fun b => b < w.heap.size) w c0 s) (c1 : List Value) (d : (Ty.int .i64).den) (r1 : Rd (.int .i64) (fun b => b < w.heap.size) w c1 d) (c2 : List Value) (a : (Ty.int .i64).den) (r2 : Rd (.int .i64) (fun b => b < w.heap.size) w c2 a) :
    Calls Try.prog 8 #[valOf (.int .i64) c0, valOf (.int .i64) c1, valOf (.int .i64) c2] w fun e w' => e = .returned (.bool true) ∧ Below w.heap.size w w' := by
  obtain ⟨rfl, -⟩ := id r0
  obtain ⟨rfl, -⟩ := id r1
  obtain ⟨rfl, -⟩ := id r2
  simp only [valOf, List.headD_cons]
  clear r0 r1 r2
  change Int at s d a
  obtain ⟨r, hr⟩ : ∃ r, nextF s d a = r := ⟨_, rfl⟩
  obtain ⟨y, hy⟩ : ∃ y, stepsL.any (canP s a) = y := ⟨_, rfl⟩
  obtain ⟨z, hz⟩ : ∃ z, confB s d = z := ⟨_, rfl⟩
  have HR := Lib.hid hr; clear hr
  have HY := Lib.hid hy; clear hy
  have HZ := Lib.hid hz; clear hz
  go_enter Try.func8, Try.ntmps8
  go_wp2_with (first
    | (go_at_call 9; refine (awake_sum _).mono ?_; rintro e w1 ⟨rfl, hB1⟩)
    | (go_at_call 19; refine (next_sum _ _ _ _).mono ?_; rw [HR.out]; rintro e w2 ⟨rfl, hB2⟩)
    | (go_at_call 20; refine (refnext_sum _ _ _ _).mono ?_; rw [HR.out]; rintro e w3 ⟨rfl, hw⟩; subst w3)
    | (go_at_call 21; refine (can_sum _ _ _).mono ?_; rw [HY.out]; rintro e w4 ⟨rfl, hB4⟩)
    | (go_at_call 22; refine (refcan_sum _ _ _).mono ?_; rw [HY.out]; rintro e w5 ⟨rfl, hw⟩; subst w5)
    | (go_at_call 18; refine (confirmed_sum _ _ _).mono ?_; rw [HZ.out]; rintro e w6 ⟨rfl, hw⟩; subst w6)
    | (go_at_call 23; refine (refconfirmed_sum _ _ _).mono ?_; rw [HZ.out]; rintro e w7 ⟨rfl, hw⟩; subst w7))
  go_ret
  exact ⟨ret_bool (by simp), below_step (below_step hB1 hB2) hB4⟩

theorem runWalk (w : World) (c0 : List Value) (s : (Ty.int .i64).den) (r0 : Rd (.int .i64) (fun b => b < w.heap.size) w c0 s) (c1 : List Value) (xs : (Ty.sl stT).den) (r1 : Rd (.sl stT) (fun b => b < w.heap.size) w c1 xs) :
    Calls Try.prog 3 #[valOf (.int .i64) c0, valOf (.sl stT) c1] w fun e w' => e = .returned (.bool true) ∧ Below w.heap.size w w' := by
  obtain ⟨rfl, -⟩ := id r0
  obtain ⟨a, len, cap, rfl, hl, hlc, hcm, -⟩ := id r1
  simp only [valOf, List.headD_cons]
  clear r0
  change Int at s
  have HL := Lib.hid (show List.length xs = len from hl); clear hl
  have R1 := Lib.hid r1; clear r1
  obtain ⟨r, hr⟩ : ∃ r, runF s xs = r := ⟨_, rfl⟩
  have HR := Lib.hid hr; clear hr
  by_cases h50 : 50 < len
  case pos =>
    have hB0 := Below.refl w.heap.size w
    go_enter Try.func3, Try.ntmps3
    go_wp2_with (go_at_call 9; refine (awake_sum _).mono ?_; rintro e w1 ⟨rfl, hB1⟩; replace hB0 := below_step hB0 hB1)
    go_ret
    exact ⟨rfl, hB0⟩
  go_enter Try.func3, Try.ntmps3
  go_wp2_with (first
    | (go_at_call 9; refine (awake_sum _).mono ?_; rintro e w1 ⟨rfl, hB1⟩; have HR1 := Lib.hid (R1.out.alloc hB1))
    | (go_at_call 11; refine (to_sum _ _ _ HR1.out (by have := HL.out; omega)).mono ?_; rintro e w2 ⟨v2, rfl, hB2, hO2⟩; have HR2 := Lib.hid (HR1.out.alloc hB2))
    | (go_at_call 10; refine (run_sum _ _ _ _ (hO2.rd _ (fun _ h => h.elim) (fun b hb => (hO2.own b hb).2))).mono ?_; rw [HR.out]; rintro e w3 ⟨rfl, hB3⟩; have HR3 := Lib.hid (HR2.out.alloc hB3))
    | (go_at_call 12; refine (refrun_sum _ _ _ _ HR3.out).mono ?_; rw [HR.out]; rintro e w4 ⟨rfl, hB4⟩))
  go_ret
  exact ⟨rfl, below_step (below_step (below_step hB1 hB2) hB3) hB4⟩
end Go.Proofs.Ytmlcdoilbonelaa
