/- Layer 53: a sort of one signature. -/
import Derived.Test.YtdcjocldggmdbaaX53f
import Derived.Maps.RangeWalk
set_option linter.unusedSimpArgs false
namespace Go.Proofs.Ytdcjocldggmdbaa
open Go.RowKit Go

set_option maxRecDepth 20000 in
set_option maxHeartbeats 1000000 in
theorem insertS (w : World) (a : Option Addr) (cap : Nat) (fv : Value) :
    Calls Try.prog 82 #[.slice a 1 cap, .int .i64 0, .int .i64 1, fv] w fun e w' => e = .returned (.tuple #[]) ∧ w' = w := by
  go_enter Try.func82, Try.ntmps82
  go_wp2_with fail
  refine wp_loop_rounds 1 ?_
  repeat any_goals (rw [rounds_succ]; go_wp2)
  refine bodyPost_end (results_none rfl _ _ _) rfl ?_
  exact ⟨rfl, rfl⟩
set_option maxRecDepth 20000 in
set_option maxHeartbeats 1000000 in
theorem pdqS (w : World) (a : Option Addr) (cap : Nat) (r : Int) (fv : Value) :
    Calls Try.prog 65 #[.slice a 1 cap, .int .i64 0, .int .i64 1, .int .i64 r, fv] w fun e w' => e = .returned (.tuple #[]) ∧ w' = w := by
  go_enter Try.func65, Try.ntmps65
  go_wp2_with fail
  refine wp_loop_rounds 1 ?_
  repeat any_goals (rw [rounds_succ]; go_wp2_with fail)
  refine (insertS w a cap fv).mono ?_
  rintro e w1 ⟨rfl, rfl⟩
  go_wp2_with fail
  exact bodyPost_ret (results_none rfl _ _ _) rfl ⟨rfl, rfl⟩
set_option maxRecDepth 20000 in
set_option maxHeartbeats 1000000 in
theorem sortS (w : World) (a : Option Addr) (cap : Nat) (fv : Value) :
    Calls Try.prog 47 #[.slice a 1 cap, fv] w fun e w' => e = .returned (.tuple #[]) ∧ w' = w := by
  go_enter Try.func47, Try.ntmps47
  go_wp2_with fail
  refine (len53 w 1 (by omega)).mono ?_
  rintro e w1 ⟨r, rfl, rfl⟩
  go_wp2_with fail
  refine (pdqS w1 a cap r fv).mono ?_
  rintro e w2 ⟨rfl, rfl⟩
  go_wp2_with fail
  exact bodyPost_end (results_none rfl _ _ _) rfl ⟨rfl, rfl⟩
end Go.Proofs.Ytdcjocldggmdbaa
