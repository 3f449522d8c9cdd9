/- Layer 48: the methods of a nil memo. -/
import Derived.Test.YtmmeieangbcfaaaC48a
set_option linter.unusedSimpArgs false
namespace Go.Proofs.Ytmmeieangbcfaaa
open Go.RowKit Go

theorem nilGet (w : World) (c : C4) : Calls Try.prog 10 #[.pointer none, c.v] w fun e w' => e = .returned (.tuple #[.int .i64 0, .int .i64 7]) ∧ Below w.heap.size w w' := by
  unfold C4.v
  go_enter Try.func10, Try.ntmps10
  go_wp2
  go_ret2
  exact ⟨rfl, (Below.refl _ w).alloc (Nat.le_refl _) _⟩
theorem nilChange (w : World) (c : C4) : Calls Try.prog 14 #[.pointer none, c.v] w fun e w' => e = .returned (.tuple #[]) ∧ Below w.heap.size w w' := by
  unfold C4.v
  go_enter Try.func14, Try.ntmps14
  go_wp2
  refine bodyPost_ret (results_none rfl _ _ _) rfl ?_
  exact ⟨rfl, (Below.refl _ w).alloc (Nat.le_refl _) _⟩
theorem nilReset (w : World) : Calls Try.prog 13 #[.pointer none] w fun e w' => e = .returned (.tuple #[]) ∧ w' = w := by
  go_enter Try.func13, Try.ntmps13
  go_wp2
  go_end0
  exact ⟨rfl, rfl⟩
theorem nilComputed (w : World) : Calls Try.prog 15 #[.pointer none] w fun e w' => e = .returned (.slice none 0 0) ∧ w' = w := by
  go_enter Try.func15, Try.ntmps15
  go_wp2
  go_ret
  exact ⟨rfl, rfl⟩
theorem nilKept (w : World) : Calls Try.prog 17 #[.pointer none] w fun e w' => e = .returned (.int .i64 0) ∧ w' = w := by
  go_enter Try.func17, Try.ntmps17
  go_wp2
  go_ret
  exact ⟨rfl, rfl⟩
end Go.Proofs.Ytmmeieangbcfaaa
