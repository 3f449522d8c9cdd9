/- Layer 53: the reference's calendar (of the year 2026). -/
import Derived.Test.YtdcjocldggmdbaaW53t
set_option linter.unusedSimpArgs false
namespace Go.Proofs.Ytdcjocldggmdbaa
open Go.RowKit Go

def leapB (y : Int) : Bool := decide (y % 4 = 0) && (decide (y % 100 ≠ 0) || decide (y % 400 = 0))
set_option maxHeartbeats 1000000 in
theorem rleap53 (w : World) (y : Int) (h1 : 0 ≤ y) : Calls Try.prog 104 #[.int .i64 y] w fun e w' => e = .returned (.bool (leapB y)) ∧ w' = w := by
  go_enter Try.func104, Try.ntmps104
  go_wp2_with fail
  · go_ret
    rename_i e1 e2
    refine ⟨?_, rfl⟩
    simp [leapB, e1, e2]
    try rfl
  · go_ret
    rename_i e1 e2
    refine ⟨?_, rfl⟩
    simp [leapB, e1, e2]
  · go_ret
    rename_i e1
    refine ⟨?_, rfl⟩
    simp [leapB, e1]
/-- The days of the months of 2026. -/
def dim (m : Int) : Int := if m = 2 then 28 else if m = 4 ∨ m = 6 ∨ m = 9 ∨ m = 11 then 30 else 31
theorem months_at (w : World) (k : Nat) (hk : k < 12) (t : TypeId) (ht : Try.prog.underlying t = some (.array 12 3)) : Sem.run Try.prog (Instr.index t (.agg #[.int .i64 31, .int .i64 28, .int .i64 31, .int .i64 30, .int .i64 31, .int .i64 30, .int .i64 31, .int .i64 31, .int .i64 30, .int .i64 31, .int .i64 30, .int .i64 31]) (.int .i64 (k : Nat))) w = .ok (.int .i64 (dim (k + 1))) w := by
  have hp : ∀ (xs : Array Value) (off : Nat) (v : Value), xs[off]? = some v → (part 3 xs off).run Try.prog w = .ok v w := fun xs off v h => by simp [part, isAgg, run_underlying Try.underlying3, h]
  obtain rfl | rfl | rfl | rfl | rfl | rfl | rfl | rfl | rfl | rfl | rfl | rfl : k = 0 ∨ k = 1 ∨ k = 2 ∨ k = 3 ∨ k = 4 ∨ k = 5 ∨ k = 6 ∨ k = 7 ∨ k = 8 ∨ k = 9 ∨ k = 10 ∨ k = 11 := by omega
  all_goals simp [Instr.index, run_underlying ht, asIntOf]
  all_goals exact hp _ _ _ rfl
set_option maxRecDepth 20000 in
set_option maxHeartbeats 1000000 in
theorem rdays53 (w : World) (m : Int) (h1 : 1 ≤ m) (h2 : m ≤ 12) : Calls Try.prog 103 #[.int .i64 2026, .int .i64 m] w fun e w' => e = .returned (.int .i64 (dim m)) ∧ w' = w := by
  have hm : m = 1 ∨ m = 2 ∨ m = 3 ∨ m = 4 ∨ m = 5 ∨ m = 6 ∨ m = 7 ∨ m = 8 ∨ m = 9 ∨ m = 10 ∨ m = 11 ∨ m = 12 := by omega
  clear h1 h2
  have hl : leapB 2026 = false := by decide
  rcases hm with rfl | rfl | rfl | rfl | rfl | rfl | rfl | rfl | rfl | rfl | rfl | rfl
  · have hq : ∀ W, Sem.run Try.prog (Instr.index 165 (.agg #[.int .i64 31, .int .i64 28, .int .i64 31, .int .i64 30, .int .i64 31, .int .i64 30, .int .i64 31, .int .i64 31, .int .i64 30, .int .i64 31, .int .i64 30, .int .i64 31]) (.int .i64 0)) W = .ok (.int .i64 31) W := fun W => months_at W 0 (by omega) 165 Try.underlying165
    go_enter Try.func103, Try.ntmps103
    go_wp2_with fail
    go_ret
    exact ⟨rfl, rfl⟩
  · have hq : ∀ W, Sem.run Try.prog (Instr.index 165 (.agg #[.int .i64 31, .int .i64 28, .int .i64 31, .int .i64 30, .int .i64 31, .int .i64 30, .int .i64 31, .int .i64 31, .int .i64 30, .int .i64 31, .int .i64 30, .int .i64 31]) (.int .i64 1)) W = .ok (.int .i64 28) W := fun W => months_at W 1 (by omega) 165 Try.underlying165
    go_enter Try.func103, Try.ntmps103
    go_wp2_with fail
    refine (rleap53 _ 2026 (by omega)).mono ?_
    rintro e w2 ⟨rfl, rfl⟩
    rw [hl]
    go_wp2_with fail
    go_ret
    exact ⟨rfl, rfl⟩
  · have hq : ∀ W, Sem.run Try.prog (Instr.index 165 (.agg #[.int .i64 31, .int .i64 28, .int .i64 31, .int .i64 30, .int .i64 31, .int .i64 30, .int .i64 31, .int .i64 31, .int .i64 30, .int .i64 31, .int .i64 30, .int .i64 31]) (.int .i64 2)) W = .ok (.int .i64 31) W := fun W => months_at W 2 (by omega) 165 Try.underlying165
    go_enter Try.func103, Try.ntmps103
    go_wp2_with fail
    go_ret
    exact ⟨rfl, rfl⟩
  · have hq : ∀ W, Sem.run Try.prog (Instr.index 165 (.agg #[.int .i64 31, .int .i64 28, .int .i64 31, .int .i64 30, .int .i64 31, .int .i64 30, .int .i64 31, .int .i64 31, .int .i64 30, .int .i64 31, .int .i64 30, .int .i64 31]) (.int .i64 3)) W = .ok (.int .i64 30) W := fun W => months_at W 3 (by omega) 165 Try.underlying165
    go_enter Try.func103, Try.ntmps103
    go_wp2_with fail
    go_ret
    exact ⟨rfl, rfl⟩
  · have hq : ∀ W, Sem.run Try.prog (Instr.index 165 (.agg #[.int .i64 31, .int .i64 28, .int .i64 31, .int .i64 30, .int .i64 31, .int .i64 30, .int .i64 31, .int .i64 31, .int .i64 30, .int .i64 31, .int .i64 30, .int .i64 31]) (.int .i64 4)) W = .ok (.int .i64 31) W := fun W => months_at W 4 (by omega) 165 Try.underlying165
    go_enter Try.func103, Try.ntmps103
    go_wp2_with fail
    go_ret
    exact ⟨rfl, rfl⟩
  · have hq : ∀ W, Sem.run Try.prog (Instr.index 165 (.agg #[.int .i64 31, .int .i64 28, .int .i64 31, .int .i64 30, .int .i64 31, .int .i64 30, .int .i64 31, .int .i64 31, .int .i64 30, .int .i64 31, .int .i64 30, .int .i64 31]) (.int .i64 5)) W = .ok (.int .i64 30) W := fun W => months_at W 5 (by omega) 165 Try.underlying165
    go_enter Try.func103, Try.ntmps103
    go_wp2_with fail
    go_ret
    exact ⟨rfl, rfl⟩
  · have hq : ∀ W, Sem.run Try.prog (Instr.index 165 (.agg #[.int .i64 31, .int .i64 28, .int .i64 31, .int .i64 30, .int .i64 31, .int .i64 30, .int .i64 31, .int .i64 31, .int .i64 30, .int .i64 31, .int .i64 30, .int .i64 31]) (.int .i64 6)) W = .ok (.int .i64 31) W := fun W => months_at W 6 (by omega) 165 Try.underlying165
    go_enter Try.func103, Try.ntmps103
    go_wp2_with fail
    go_ret
    exact ⟨rfl, rfl⟩
  · have hq : ∀ W, Sem.run Try.prog (Instr.index 165 (.agg #[.int .i64 31, .int .i64 28, .int .i64 31, .int .i64 30, .int .i64 31, .int .i64 30, .int .i64 31, .int .i64 31, .int .i64 30, .int .i64 31, .int .i64 30, .int .i64 31]) (.int .i64 7)) W = .ok (.int .i64 31) W := fun W => months_at W 7 (by omega) 165 Try.underlying165
    go_enter Try.func103, Try.ntmps103
    go_wp2_with fail
    go_ret
    exact ⟨rfl, rfl⟩
  · have hq : ∀ W, Sem.run Try.prog (Instr.index 165 (.agg #[.int .i64 31, .int .i64 28, .int .i64 31, .int .i64 30, .int .i64 31, .int .i64 30, .int .i64 31, .int .i64 31, .int .i64 30, .int .i64 31, .int .i64 30, .int .i64 31]) (.int .i64 8)) W = .ok (.int .i64 30) W := fun W => months_at W 8 (by omega) 165 Try.underlying165
    go_enter Try.func103, Try.ntmps103
    go_wp2_with fail
    go_ret
    exact ⟨rfl, rfl⟩
  · have hq : ∀ W, Sem.run Try.prog (Instr.index 165 (.agg #[.int .i64 31, .int .i64 28, .int .i64 31, .int .i64 30, .int .i64 31, .int .i64 30, .int .i64 31, .int .i64 31, .int .i64 30, .int .i64 31, .int .i64 30, .int .i64 31]) (.int .i64 9)) W = .ok (.int .i64 31) W := fun W => months_at W 9 (by omega) 165 Try.underlying165
    go_enter Try.func103, Try.ntmps103
    go_wp2_with fail
    go_ret
    exact ⟨rfl, rfl⟩
  · have hq : ∀ W, Sem.run Try.prog (Instr.index 165 (.agg #[.int .i64 31, .int .i64 28, .int .i64 31, .int .i64 30, .int .i64 31, .int .i64 30, .int .i64 31, .int .i64 31, .int .i64 30, .int .i64 31, .int .i64 30, .int .i64 31]) (.int .i64 10)) W = .ok (.int .i64 30) W := fun W => months_at W 10 (by omega) 165 Try.underlying165
    go_enter Try.func103, Try.ntmps103
    go_wp2_with fail
    go_ret
    exact ⟨rfl, rfl⟩
  · have hq : ∀ W, Sem.run Try.prog (Instr.index 165 (.agg #[.int .i64 31, .int .i64 28, .int .i64 31, .int .i64 30, .int .i64 31, .int .i64 30, .int .i64 31, .int .i64 31, .int .i64 30, .int .i64 31, .int .i64 30, .int .i64 31]) (.int .i64 11)) W = .ok (.int .i64 31) W := fun W => months_at W 11 (by omega) 165 Try.underlying165
    go_enter Try.func103, Try.ntmps103
    go_wp2_with fail
    go_ret
    exact ⟨rfl, rfl⟩
end Go.Proofs.Ytdcjocldggmdbaa
