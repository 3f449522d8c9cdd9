/- Chapter 29: the reference's Next; Can on both sides; Run on both sides. -/
import Derived.Test.YtmlcdoilbonelaaC29a
namespace Go.Proofs.Ytmlcdoilbonelaa
open Go.RowKit Go

theorem refnext_out (w : World) (s d a : Int) (hin : ¬(1 ≤ s ∧ s ≤ 5 ∧ 0 ≤ d ∧ d ≤ 1 ∧ 0 ≤ a ∧ a ≤ 3)) : Calls Try.prog 20 #[.int .i64 s, .int .i64 d, .int .i64 a] w fun e w' => e = .returned (.tuple #[.int .i64 0, .int .i64 1]) ∧ w' = w := by
  have Hin := Lib.hid hin; clear hin
  go_enter Try.func20, Try.ntmps20
  go_wp2_with (first | (go_at_call 25; refine (refstate_sum _ _).mono ?_; rintro e w1 ⟨rfl, rfl⟩) | (have hin := Hin.out; exfalso; omega))
  all_goals first
      | (go_ret2; exact ⟨rfl, rfl⟩)
      | (have hin := Hin.out; exfalso; omega)

attribute [local go_sem] confB
set_option maxHeartbeats 8000000 in
theorem refnext_in (w : World) (s d a : Int) (hs : s = 1 ∨ s = 2 ∨ s = 3 ∨ s = 4 ∨ s = 5) (hd : d = 0 ∨ d = 1) (ha : a = 0 ∨ a = 1 ∨ a = 2 ∨ a = 3) : Calls Try.prog 20 #[.int .i64 s, .int .i64 d, .int .i64 a] w fun e w' => e = .returned (.tuple #[.int .i64 (nextF s d a).1, .int .i64 (nextF s d a).2]) ∧ w' = w := by
  rcases hs with rfl | rfl | rfl | rfl | rfl <;> rcases hd with rfl | rfl <;> rcases ha with rfl | rfl | rfl | rfl <;>
  (go_enter Try.func20, Try.ntmps20
   go_wp2_with (first | (go_at_call 25; refine (refstate_sum _ _).mono ?_; rintro e w1 ⟨rfl, rfl⟩) | (go_at_call 23; refine (refconfirmed_sum _ _ _).mono ?_; rintro e w1 ⟨rfl, rfl⟩) | (go_at_call 30; refine (refwith_sum _ _ _).mono ?_; rintro e w1 ⟨rfl, rfl⟩))
   go_ret2
   exact ⟨rfl, rfl⟩)
theorem refnext_sum (w : World) (s d a : Int) : Calls Try.prog 20 #[.int .i64 s, .int .i64 d, .int .i64 a] w fun e w' => e = .returned (.tuple #[.int .i64 (nextF s d a).1, .int .i64 (nextF s d a).2]) ∧ w' = w := by
  by_cases hin : 1 ≤ s ∧ s ≤ 5 ∧ 0 ≤ d ∧ d ≤ 1 ∧ 0 ≤ a ∧ a ≤ 3
  · exact refnext_in w s d a (by omega) (by omega) (by omega)
  · rw [nextF, if_neg hin]
    exact refnext_out w s d a hin
end Go.Proofs.Ytmlcdoilbonelaa
