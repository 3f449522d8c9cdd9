/- Layer 53: the reference's calendar (of the year 2026). -/
import Derived.Test.YtdcjocldggmdbaaW53t
set_option linter.unusedSimpArgs false
namespace Go.Proofs.Ytdcjocldggmdbaa
open Go.RowKit Go

def leapB (y : Int) : Bool := decide (y % 4 = 0) && (decide (y % 100 ≠ 0) || decide (y % 400 = 0))
set_option maxHeartbeats 1000000 in
theorem rleap53 (w : World) (y : Int) (h1 : 0 ≤ y) : Calls Try.prog 104 #[.int .i64 y] w fun e w' => e = .returned (.bool (leapB y)) ∧ w' = w := by
  go_enter Try.func104, Try.ntmps104
  go_wp2_with fail
  · go_ret
    rename_i e1 e2
    refine ⟨?_, rfl⟩
    simp [leapB, e1, e2]
    try rfl
  · go_ret
    rename_i e1 e2
    refine ⟨?_, rfl⟩
    simp [leapB, e1, e2]
  · go_ret
    rename_i e1
    refine ⟨?_, rfl⟩
    simp [leapB, e1]
/-- The days of the months of 2026. -/
def dim (m : Int) : Int := if m = 2 then 28 else if m = 4 ∨ m = 6 ∨ m = 9 ∨ m = 11 then 30 else 31
theorem months_at (w : World) (k : Nat) (hk : k < 12) (t : TypeId) (ht : Try.prog.underlying t = some (.array 12 3)) : Sem.run Try.prog (Instr.index t (.agg #[.int .i64 31, .int .i64 28, .int .i64 31, .int .i64 30, .int .i64 31, .int .i64 30, .int .i64 31, .int .i64 31, .int .i64 30, .int .i64 31, .int .i64 30, .int .i64 31]) (.int .i64 (k : Nat))) w = .ok (.int .i64 (dim (k + 1))) w := by
  have hp : ∀ (xs : Array Value) (off : Nat) (v : Value), xs[off]? = some v → (part 3 xs off).run Try.prog w = .ok v w := fun xs off v h => by simp [part, isAgg, run_underlying Try.underlying3, h]
  obtain rfl | rfl | rfl | rfl | rfl | rfl | rfl | rfl | rfl | rfl | rfl | rfl : k = 0 ∨ k = 1 ∨ k = 2 ∨ k = 3 ∨ k = 4 ∨ k = 5 ∨ k = 6 ∨ k = 7 ∨ k = 8 ∨ k = 9 ∨ k = 10 ∨ k = 11 := by omega
  all_goals simp [Instr.index, run_underlying ht, asIntOf]
  all_goals exact hp _ _ _ rfl
set_option maxRecDepth 20000 in
set_option maxHeartbeats 1000000 in
theorem rdays53 (w : World) (m : Int) (h1 : 1 ≤ m) (h2 : m ≤ 12) : Calls Try.prog 103 #[.int .i64 2026, .int .i64 m] w fun e w' => e = .returned (.int .i64 (dim m)) ∧ w' = w := by
  have hm : m = 1 ∨ m = 2 ∨ m = 3 ∨ m = 4 ∨ m = 5 ∨ m = 6 ∨ m = 7 ∨ m = 8 ∨ m = 9 ∨ m = 10 ∨ m = 11 ∨ m = 12 := by omega
  clear h1 h2
  have hl : leapB 2026 = false := by decide
  rcases hm with rfl | rfl | rfl | rfl | rfl | rfl | rfl | rfl | rfl | rfl | rfl | rfl
  · have hq : ∀ W, Sem.run Try.prog (Instr.index 165 (.agg #[.int .i64 31, .int .i64 28, .int .i64 31, .int .i64 30, .int .i64 31, .int .i64 30, .int .i64 31, .int .i64 31, .int .i64 30, .int .i64 31, .int .i64 30, .int .i64 31]) (.int .i64 0)) W = .ok (.int .i64 31) W := fun W => months_at W 0 (by omega) 165 Try.underlying165
    go_enter Try.func103, Try.ntmps103
    go_wp2_with fail
    go_ret
    exact ⟨rfl, rfl⟩
  · have hq : ∀ W, Sem.run Try.prog (Instr.index 165 (.agg #[.int .i64 31, .int .i64 28, .int .i64 31, .int .i64 30, .int .i64 31, .int .i64 30, .int .i64 31, .int .i64 31, .int .i64 30, .int .i64 31, .int .i64 30, .int .i64 31]) (.int .i64 1)) W = .ok (.int .i64 28) W := fun W => months_at W 1 (by omega) 165 Try.underlying165
    go_enter Try.func103, Try.ntmps103
    go_wp2_with fail
    refine (rleap53 _ 2026 (by omega)).mono ?_
    rintro e w2 ⟨rfl, rfl⟩
    rw [hl]
    go_wp2_with fail
    go_ret
    exact ⟨rfl, rfl⟩
  · have hq : ∀ W, Sem.run Try.prog (Instr.index 165 (.agg #[.int .i64 31, .int .i64 28, .int .i64 31, .int .i64 30, .int .i64 31, .int .i64 30, .int .i64 31, .int .i64 31, .int .i64 30, .int .i64 31, .int .i64 30, .int .i64 31]) (.int .i64 2)) W = .ok (.int .i64 31) W := fun W => months_at W 2 (by omega) 165 Try.underlying165
    go_enter Try.func103, Try.ntmps103
    go_wp2_with fail
    go_ret
    exact ⟨rfl, rfl⟩
  · have hq : ∀ W, Sem.run Try.prog (Instr.index 165 (.agg #[.int .i64 31, .int .i64 28, .int .i64 31, .int .i64 30, .int .i64 31, .int .i64 30, .int .i64 31, .int .i64 31, .int .i64 30, .int .i64 31, .int .i64 30, .int .i64 31]) (.int .i64 3)) W = .ok (.int .i64 30) W := fun W => months_at W 3 (by omega) 165 Try.underlying165
    go_enter Try.func103, Try.ntmps103
    go_wp2_with fail
    go_ret
    exact ⟨rfl, rfl⟩
  · have hq : ∀ W, Sem.run Try.prog (Instr.index 165 (.agg #[.int .i64 31, .int .i64 28, .int .i64 31, .int .i64 30, .int .i64 31, .int .i64 30, .int .i64 31, .int .i64 31, .int .i64 30, .int .i64 31, .int .i64 30, .int .i64 31]) (.int .i64 4)) W = .ok (.int .i64 31) W := fun W => months_at W 4 (by omega) 165 Try.underlying165
    go_enter Try.func103, Try.ntmps103
    go_wp2_with fail
    go_ret
    exact ⟨rfl, rfl⟩
  · have hq : ∀ W, Sem.run Try.prog (Instr.index 165 (.agg #[.int .i64 31, .int .i64 28, .int .i64 31, .int .i64 30, .int .i64 31, .int .i64 30, .int .i64 31, .int .i64 31, .int .i64 30, .int .i64 31, .int .i64 30, .int .i64 31]) (.int .i64 5)) W = .ok (.int .i64 30) W := fun W => months_at W 5 (by omega) 165 Try.underlying165
    go_enter Try.func103, Try.ntmps103
    go_wp2_with fail
    go_ret
    exact ⟨rfl, rfl⟩
  · have hq : ∀ W, Sem.run Try.prog (Instr.index 165 (.agg #[.int .i64 31, .int .i64 28, .int .i64 31, .int .i64 30, .int .i64 31, .int .i64 30, .int .i64 31, .int .i64 31, .int .i64 30, .int .i64 31, .int .i64 30, .int .i64 31]) (.int .i64 6)) W = .ok (.int .i64 31) W := fun W => months_at W 6 (by omega) 165 Try.underlying165
    go_enter Try.func103, Try.ntmps103
    go_wp2_with fail
    go_ret
    exact ⟨rfl, rfl⟩
  · have hq : ∀ W, Sem.run Try.prog (Instr.index 165 (.agg #[.int .i64 31, .int .i64 28, .int .i64 31, .int .i64 30, .int .i64 31, .int .i64 30, .int .i64 31, .int .i64 31, .int .i64 30, .int .i64 31, .int .i64 30, .int .i64 31]) (.int .i64 7)) W = .ok (.int .i64 31) W := fun W => months_at W 7 (by omega) 165 Try.underlying165
    go_enter Try.func103, Try.ntmps103
    go_wp2_with fail
    go_ret
    exact ⟨rfl, rfl⟩
  · have hq : ∀ W, Sem.run Try.prog (Instr.index 165 (.agg #[.int .i64 31, .int .i64 28, .int .i64 31, .int .i64 30, .int .i64 31, .int .i64 30, .int .i64 31, .int .i64 31, .int .i64 30, .int .i64 31, .int .i64 30, .int .i64 31]) (.int .i64 8)) W = .ok (.int .i64 30) W := fun W => months_at W 8 (by omega) 165 Try.underlying165
    go_enter Try.func103, Try.ntmps103
    go_wp2_with fail
    go_ret
    exact ⟨rfl, rfl⟩
  · have hq : ∀ W, Sem.run Try.prog (Instr.index 165 (.agg #[.int .i64 31, .int .i64 28, .int .i64 31, .int .i64 30, .int .i64 31, .int .i64 30, .int .i64 31, .int .i64 31, .int .i64 30, .int .i64 31, .int .i64 30, .int .i64 31]) (.int .i64 9)) W = .ok (.int .i64 31) W := fun W => months_at W 9 (by omega) 165 Try.underlying165
    go_enter Try.func103, Try.ntmps103
    go_wp2_with fail
    go_ret
    exact ⟨rfl, rfl⟩
  · have hq : ∀ W, Sem.run Try.prog (Instr.index 165 (.agg #[.int .i64 31, .int .i64 28, .int .i64 31, .int .i64 30, .int .i64 31, .int .i64 30, .int .i64 31, .int .i64 31, .int .i64 30, .int .i64 31, .int .i64 30, .int .i64 31]) (.int .i64 10)) W = .ok (.int .i64 30) W := fun W => months_at W 10 (by omega) 165 Try.underlying165
    go_enter Try.func103, Try.ntmps103
    go_wp2_with fail
    go_ret
    exact ⟨rfl, rfl⟩
  · have hq : ∀ W, Sem.run Try.prog (Instr.index 165 (.agg #[.int .i64 31, .int .i64 28, .int .i64 31, .int .i64 30, .int .i64 31, .int .i64 30, .int .i64 31, .int .i64 31, .int .i64 30, .int .i64 31, .int .i64 30, .int .i64 31]) (.int .i64 11)) W = .ok (.int .i64 31) W := fun W => months_at W 11 (by omega) 165 Try.underlying165
    go_enter Try.func103, Try.ntmps103
    go_wp2_with fail
    go_ret
    exact ⟨rfl, rfl⟩
end Go.Proofs.Ytdcjocldggmdbaa

/- Layer 53: the reference's calendar: Of, Civil, Add, Valid. -/
set_option linter.unusedSimpArgs false
namespace Go.Proofs.Ytdcjocldggmdbaa
open Go.RowKit Go

def ydays : Nat → Int
  | 0 => 0
  | k + 1 => ydays k + (if leapB (1900 + (k : Int)) then 366 else 365)
def mdays : Nat → Int
  | 0 => 0
  | k + 1 => mdays k + dim ((k : Int) + 1)
theorem ydays_le (k : Nat) : 0 ≤ ydays k ∧ ydays k ≤ 366 * k := by
  induction k with
  | zero => exact ⟨Int.le_refl _, Int.le_refl _⟩
  | succ k ih =>
    unfold ydays
    split <;> omega
theorem dim_le (m : Int) : 28 ≤ dim m ∧ dim m ≤ 31 := by
  unfold dim
  split
  · omega
  · split <;> omega
theorem mdays_le (k : Nat) : 0 ≤ mdays k ∧ mdays k ≤ 31 * k := by
  induction k with
  | zero => exact ⟨Int.le_refl _, Int.le_refl _⟩
  | succ k ih =>
    unfold mdays
    have := dim_le ((k : Int) + 1)
    omega
theorem y126 : ydays 126 = 46021 := by decide +kernel
set_option maxRecDepth 20000 in
set_option maxHeartbeats 1000000 in
theorem rof53 (w : World) (m : Nat) (h1 : 1 ≤ m) (h2 : m ≤ 12) : Calls Try.prog 91 #[.int .i64 2026, .int .i64 (m : Nat), .int .i64 1] w fun e w' => e = .returned (.tuple #[.int .i64 (20454 + mdays (m - 1)), .int .i64 0]) ∧ w' = w := by
  have hd := dim_le (m : Int)
  have HQ := Lib.hid (rdays53 w m (by omega) (by omega))
  go_enter Try.func91, Try.ntmps91
  go_wp2_with fail
  refine HQ.out.mono ?_
  rintro e w2 ⟨rfl, rfl⟩
  generalize dim (m : Int) = dm at hd
  go_wp2_with fail
  clear hd
  go_loopw [8, 9] (fun o a wr => ∃ k : Nat, k ≤ 126 ∧ a = .int .i64 (1900 + (k : Int)) ∧ o = .int .i64 (-25567 + ydays k) ∧ wr = w2) (fun _ a _ => 2026 - (intOf a).toNat)
  case atStart => exact ⟨0, by omega, rfl, rfl, rfl⟩
  case round =>
    obtain ⟨k, hk, rfl, rfl, rfl⟩ := hrel
    by_cases hlt : k < 126
    · have hkI : (1900 + (k : Int)) < 2026 := by omega
      have hb := ydays_le k
      have hb1 : ydays k ≤ 50000 := by omega
      have HS := Lib.hid (show ydays (k + 1) = ydays k + (if leapB (1900 + (k : Int)) then 366 else 365) from rfl)
      have HLP := Lib.hid (rleap53 wr (1900 + (k : Int)) (by omega))
      obtain ⟨yk, hyk⟩ : ∃ q, ydays k = q := ⟨_, rfl⟩
      rw [hyk] at hb hb1 HS ⊢
      have hb0 := hb.1
      clear hyk hb
      go_wp2_with fail
      refine HLP.out.mono ?_
      rintro e w3 ⟨rfl, rfl⟩
      generalize leapB (1900 + (k : Int)) = lb at HS ⊢
      clear HLP
      cases lb
      · go_wp2_with fail
        go_roundw
        case rel => exact ⟨k + 1, by omega, by go_num, by rw [HS.out]; go_num, trivial⟩
        case measure => simp [intOf]; try omega
      · go_wp2_with fail
        go_roundw
        case rel => exact ⟨k + 1, by omega, by go_num, by rw [HS.out]; go_num, trivial⟩
        case measure => simp [intOf]; try omega
    · obtain rfl : k = 126 := by omega
      rw [y126, show (1900 + ((126 : Nat) : Int)) = 2026 from rfl, show (-25567 + 46021 : Int) = 20454 from rfl]
      clear hlt hk
      obtain ⟨w5, rfl⟩ : ∃ x, x = wr := ⟨_, rfl⟩
      go_wp2_with fail
      go_loopw [8, 10] (fun o b wr => ∃ j : Nat, j + 1 ≤ m ∧ b = .int .i64 ((j : Int) + 1) ∧ o = .int .i64 (20454 + mdays j) ∧ wr = w5) (fun _ b _ => m - (intOf b).toNat)
      case atStart => exact ⟨0, by omega, rfl, rfl, rfl⟩
      case round =>
        obtain ⟨j, hj, rfl, rfl, rfl⟩ := hrel
        have hb := mdays_le j
        have hb1 : mdays j ≤ 400 := by omega
        by_cases hlt : j + 1 < m
        · have hjI : (j : Int) + 1 < (m : Int) := by omega
          have hd := dim_le ((j : Int) + 1)
          have HS := Lib.hid (show mdays (j + 1) = mdays j + dim ((j : Int) + 1) from rfl)
          have HDD := Lib.hid (rdays53 wr ((j : Int) + 1) (by omega) (by omega))
          obtain ⟨yk, hyk⟩ : ∃ q, mdays j = q := ⟨_, rfl⟩
          rw [hyk] at hb hb1 HS ⊢
          have hb0 := hb.1
          clear hyk hb
          go_wp2_with fail
          refine HDD.out.mono ?_
          rintro e w3 ⟨rfl, rfl⟩
          generalize dim ((j : Int) + 1) = dj at HS hd ⊢
          have hd1 := hd.1
          have hd2 := hd.2
          clear HDD hd
          go_wp2_with fail
          go_roundw
          case rel => exact ⟨j + 1, by omega, by go_num, by rw [HS.out]; go_num, trivial⟩
          case measure => simp [intOf]; try omega
        · obtain rfl : m = j + 1 := by omega
          have hb0 := hb.1
          obtain ⟨yk, hyk⟩ : ∃ q, mdays j = q := ⟨_, rfl⟩
          have HYK := Lib.hid hyk
          rw [hyk] at hb0 hb1 ⊢
          clear hb hyk
          go_wp2_with fail
          refine bodyPost_ret (results_tmp2 rfl _ _ _) rfl ?_
          refine ⟨?_, rfl⟩
          rw [show j + 1 - 1 = j from rfl, HYK.out]
          simp
          try omega
end Go.Proofs.Ytdcjocldggmdbaa

/- Layer 53: the reference's calendar: Civil, Add, Valid. -/
set_option linter.unusedSimpArgs false
namespace Go.Proofs.Ytdcjocldggmdbaa
open Go.RowKit Go

theorem results_tmp4 {fn : Func} {t u v x : Tmp} (h : fn.results = #[.tmp t, .tmp u, .tmp v, .tmp x]) (tmps : Array Value) (P : Program) (w : World) :
    (results fn tmps).run P w = .ok (.tuple #[tmps.getD t undef, tmps.getD u undef, tmps.getD v undef, tmps.getD x undef]) w := by
  simp [results, h]
theorem rest_ge : ∀ k : Nat, k < 126 → (if leapB (1900 + (k : Int)) then 366 ≤ 46021 - ydays k else 365 ≤ 46021 - ydays k) := by decide +kernel
set_option maxRecDepth 20000 in
set_option maxHeartbeats 1000000 in
theorem rvaliddate53 (w : World) : Calls Try.prog 109 #[.int .i64 20454] w fun e w' => e = .returned (.bool true) ∧ w' = w := by
  go_enter Try.func109, Try.ntmps109
  go_wp2_with fail
  go_ret
  exact ⟨rfl, rfl⟩
set_option maxRecDepth 20000 in
set_option maxHeartbeats 1000000 in
theorem rcivil53 (w : World) : Calls Try.prog 105 #[.int .i64 20454] w fun e w' => e = .returned (.tuple #[.int .i64 2026, .int .i64 1, .int .i64 1, .int .i64 0]) ∧ w' = w := by
  go_enter Try.func105, Try.ntmps105
  go_wp2_with fail
  refine (rvaliddate53 w).mono ?_
  rintro e w2 ⟨rfl, rfl⟩
  go_wp2_with fail
  go_loopw [6, 8] (fun y r wr => ∃ k : Nat, k ≤ 126 ∧ y = .int .i64 (1900 + (k : Int)) ∧ r = .int .i64 (46021 - ydays k) ∧ wr = w2) (fun y _ _ => 2026 - (intOf y).toNat)
  case atStart => exact ⟨0, by omega, rfl, rfl, rfl⟩
  case round =>
    obtain ⟨k, hk, rfl, rfl, rfl⟩ := hrel
    by_cases hlt : k < 126
    · have hb := ydays_le k
      have hb1 : ydays k ≤ 50000 := by omega
      have HS := Lib.hid (show ydays (k + 1) = ydays k + (if leapB (1900 + (k : Int)) then 366 else 365) from rfl)
      have HLP := Lib.hid (rleap53 wr (1900 + (k : Int)) (by omega))
      have HGE := Lib.hid (rest_ge k hlt)
      obtain ⟨yk, hyk⟩ : ∃ q, ydays k = q := ⟨_, rfl⟩
      rw [hyk] at hb hb1 HS HGE ⊢
      have hb0 := hb.1
      clear hyk hb
      generalize hlb : leapB (1900 + (k : Int)) = lb at HS HLP HGE ⊢
      clear hlb
      go_wp2_with fail
      refine HLP.out.mono ?_
      rintro e w3 ⟨rfl, rfl⟩
      cases lb
      · have hge : 365 ≤ 46021 - yk := HGE.out
        go_wp2_with fail
        refine HLP.out.mono ?_
        rintro e w4 ⟨rfl, rfl⟩
        go_wp2_with fail
        refine HLP.out.mono ?_
        rintro e w5 ⟨rfl, rfl⟩
        go_wp2_with fail
        go_roundw
        case rel => exact ⟨k + 1, by omega, by go_num, by rw [HS.out]; go_num, trivial⟩
        case measure => simp [intOf]; try omega
      · have hge : 366 ≤ 46021 - yk := HGE.out
        go_wp2_with fail
        refine HLP.out.mono ?_
        rintro e w4 ⟨rfl, rfl⟩
        go_wp2_with fail
        go_roundw
        case rel => exact ⟨k + 1, by omega, by go_num, by rw [HS.out]; go_num, trivial⟩
        case measure => simp [intOf]; try omega
    · obtain rfl : k = 126 := by omega
      rw [y126, show (1900 + ((126 : Nat) : Int)) = 2026 from rfl, show (46021 - 46021 : Int) = 0 from rfl]
      clear hlt hk
      obtain ⟨w5, rfl⟩ : ∃ x, x = wr := ⟨_, rfl⟩
      have hl : leapB 2026 = false := by decide
      go_wp2_with fail
      refine (rleap53 w5 2026 (by omega)).mono ?_
      rintro e w6 ⟨rfl, rfl⟩
      rw [hl]
      go_wp2_with fail
      refine (rleap53 w6 2026 (by omega)).mono ?_
      rintro e w7 ⟨rfl, rfl⟩
      rw [hl]
      go_wp2_with fail
      go_loopw [7, 8] (fun m r wr => m = .int .i64 1 ∧ r = .int .i64 0 ∧ wr = w7) (fun _ _ _ => 0)
      case atStart => exact ⟨rfl, rfl, rfl⟩
      case round =>
        obtain ⟨rfl, rfl, rfl⟩ := hrel
        have hd1 : dim 1 = 31 := rfl
        go_wp2_with fail
        refine (rdays53 wr 1 (by omega) (by omega)).mono ?_
        rintro e w8 ⟨rfl, rfl⟩
        rw [hd1]
        go_wp2_with fail
        exact bodyPost_ret (results_tmp4 rfl _ _ _) rfl ⟨rfl, rfl⟩
set_option maxRecDepth 20000 in
set_option maxHeartbeats 1000000 in
theorem radd53 (w : World) : Calls Try.prog 92 #[.int .i64 20454, .int .i64 11] w fun e w' => (∃ d : Int, e = .returned (.tuple #[.int .i64 d, .int .i64 0])) ∧ w' = w := by
  go_enter Try.func92, Try.ntmps92
  go_wp2_with fail
  refine (rcivil53 w).mono ?_
  rintro e w2 ⟨rfl, rfl⟩
  go_wp2_with fail
  refine (rdays53 w2 12 (by omega) (by omega)).mono ?_
  rintro e w3 ⟨rfl, rfl⟩
  rw [show dim 12 = 31 from rfl]
  go_wp2_with fail
  refine (rof53 w3 12 (by omega) (by omega)).mono ?_
  rintro e w4 ⟨rfl, rfl⟩
  go_wp2_with fail
  exact bodyPost_ret (results_tmp2 rfl _ _ _) rfl ⟨⟨_, rfl⟩, rfl⟩
set_option maxRecDepth 20000 in
set_option maxHeartbeats 1000000 in
theorem rfirst53 (w : World) : Calls Try.prog 67 #[.agg #[.int .i64 2026, .int .i64 1, .int .i64 12], .int .i64 11] w fun e w' => (∃ d : Int, e = .returned (.tuple #[.int .i64 d, .int .i64 0])) ∧ Below w.heap.size w w' := by
  have hc := alloc_new' (w := w) (o := .cells #[.int .i64 2026, .int .i64 1, .int .i64 12] 78) rfl
  have x0 := blk_cell hc 0
  have x1 := blk_cell hc 1
  simp at x0 x1
  have HB := Lib.hid ((Below.refl w.heap.size w).alloc (Nat.le_refl _) (.cells #[.int .i64 2026, .int .i64 1, .int .i64 12] 78))
  clear hc
  go_enter Try.func67, Try.ntmps67
  go_wp2_with fail
  generalize w.alloc _ = w1 at HB ⊢
  refine (rof53 w1 1 (by omega) (by omega)).mono ?_
  rintro e w2 ⟨rfl, rfl⟩
  rw [show (20454 + mdays (1 - 1)) = 20454 from rfl]
  go_wp2_with fail
  refine (radd53 w2).mono ?_
  rintro e w3 ⟨⟨d, rfl⟩, rfl⟩
  go_wp2_with fail
  exact bodyPost_ret (results_tmp2 rfl _ _ _) rfl ⟨⟨_, rfl⟩, HB.out⟩
set_option maxRecDepth 20000 in
set_option maxHeartbeats 1000000 in
theorem rcal53 (w : World) : Calls Try.prog 52 #[.agg #[.int .i64 2026, .int .i64 1, .int .i64 12]] w fun e w' => e = .returned (.bool true) ∧ Below w.heap.size w w' := by
  have hc := alloc_new' (w := w) (o := .cells #[.int .i64 2026, .int .i64 1, .int .i64 12] 78) rfl
  have x0 := blk_cell hc 0
  have x1 := blk_cell hc 1
  have x2 := blk_cell hc 2
  simp at x0 x1 x2
  have HB := Lib.hid ((Below.refl w.heap.size w).alloc (Nat.le_refl _) (.cells #[.int .i64 2026, .int .i64 1, .int .i64 12] 78))
  clear hc
  go_enter Try.func52, Try.ntmps52
  go_wp2_with fail
  generalize w.alloc _ = w1 at HB ⊢
  refine (rfirst53 w1).mono ?_
  rintro e w2 ⟨⟨d, rfl⟩, hB2⟩
  have HB2 := Lib.hid (below_step HB.out hB2)
  clear hB2
  go_wp2_with fail
  go_ret
  exact ⟨rfl, HB2.out⟩
end Go.Proofs.Ytdcjocldggmdbaa

/- Layer 53: the reference's Name. -/
set_option linter.unusedSimpArgs false
namespace Go.Proofs.Ytdcjocldggmdbaa
open Go.RowKit Go

set_option maxRecDepth 20000 in
set_option maxHeartbeats 1000000 in
theorem rletter53 (w : World) (c : UInt8) : Calls Try.prog 53 #[.int .u8 c.toNat] w fun e w' => e = .returned (.bool (letB c)) ∧ w' = w := by
  obtain ⟨n, hn⟩ : ∃ n : Nat, c.toNat = n := ⟨_, rfl⟩
  have HL : letB c = ((decide (97 ≤ n) && decide (n ≤ 122)) || (decide (65 ≤ n) && decide (n ≤ 90))) := by unfold letB; rw [hn]
  rw [HL, hn]
  clear HL hn
  by_cases h1 : (97 : Int) ≤ (n : Int)
  · by_cases h2 : (n : Int) ≤ 122
    · have HX := Lib.hid (show ((decide (97 ≤ n) && decide (n ≤ 122)) || (decide (65 ≤ n) && decide (n ≤ 90))) = true from by simp; omega)
      rw [HX.out]
      go_enter Try.func53, Try.ntmps53
      go_wp2_with fail
      go_ret
      exact ⟨rfl, rfl⟩
    · have HX := Lib.hid (show ((decide (97 ≤ n) && decide (n ≤ 122)) || (decide (65 ≤ n) && decide (n ≤ 90))) = false from by simp; omega)
      rw [HX.out]
      have h3 : (65 : Int) ≤ (n : Int) := by omega
      have h4 : ¬ (n : Int) ≤ 90 := by omega
      go_enter Try.func53, Try.ntmps53
      go_wp2_with fail
      go_ret
      exact ⟨by first | rfl | simp [h4], rfl⟩
  · by_cases h3 : (65 : Int) ≤ (n : Int)
    · by_cases h4 : (n : Int) ≤ 90
      · have HX := Lib.hid (show ((decide (97 ≤ n) && decide (n ≤ 122)) || (decide (65 ≤ n) && decide (n ≤ 90))) = true from by simp; omega)
        rw [HX.out]
        go_enter Try.func53, Try.ntmps53
        go_wp2_with fail
        go_ret
        exact ⟨by first | rfl | simp [h4], rfl⟩
      · have HX := Lib.hid (show ((decide (97 ≤ n) && decide (n ≤ 122)) || (decide (65 ≤ n) && decide (n ≤ 90))) = false from by simp; omega)
        rw [HX.out]
        go_enter Try.func53, Try.ntmps53
        go_wp2_with fail
        go_ret
        exact ⟨by first | rfl | simp [h4], rfl⟩
    · have HX := Lib.hid (show ((decide (97 ≤ n) && decide (n ≤ 122)) || (decide (65 ≤ n) && decide (n ≤ 90))) = false from by simp; omega)
      rw [HX.out]
      go_enter Try.func53, Try.ntmps53
      go_wp2_with fail
      go_ret
      exact ⟨by first | rfl | simp [h3], rfl⟩
set_option maxRecDepth 20000 in
set_option maxHeartbeats 1000000 in
theorem rname53 (w : World) (s : ByteArray) (hs : s.size ≤ maxLen) :
    Calls Try.prog 34 #[.string s] w fun e w' => e = .returned (.bool (nameB s)) ∧ w' = w := by
  have hsz : s.size ≤ 9223372036854775807 := by simpa [maxLen] using hs
  go_enter Try.func34, Try.ntmps34
  go_wp2_with fail
  go_loopw [3] (fun i wr => ∃ (k : Nat), k ≤ s.size ∧ i = .int .i64 k ∧ (∀ j (hj : j < s.size), j < k → charB j s[j] = true) ∧ wr = w) (fun i _ => s.size - (intOf i).toNat)
  case atStart => exact ⟨0, Nat.zero_le _, rfl, fun j _ hj => absurd hj (by omega), rfl⟩
  case round =>
    obtain ⟨k, hk, rfl, hall, rfl⟩ := hrel
    have HALL := Lib.hid hall
    clear hall
    by_cases hlt : k < s.size
    · have hkI : (k : Int) < (s.size : Int) := by omega
      have HBAD := Lib.hid (show charB k s[k] = false → nameB s = false from fun h => name_bad (s := s) hlt h)
      have HGOOD := Lib.hid (show charB k s[k] = true → ∀ j (hj : j < s.size), j < k + 1 → charB j s[j] = true from fun h j hj hjk => by
        by_cases e : j = k
        · subst e; exact h
        · exact HALL.out j hj (by omega))
      have HLT := Lib.hid hlt
      have HLE := Lib.hid (rletter53 wr s[k])
      go_wp2_with fail
      refine HLE.out.mono ?_
      rintro e w2 ⟨rfl, rfl⟩
      generalize hlb : letB s[k] = lb
      have HCB := Lib.hid (show charB k s[k] = (lb || (decide (k ≠ 0) && (decide (s[k].toNat = 45) || (decide (48 ≤ s[k].toNat) && decide (s[k].toNat ≤ 57))))) from by rw [← hlb]; rfl)
      clear hlb HLE
      cases lb
      · go_wp2_with fail
        all_goals try subst_vars
        all_goals clear HALL
        all_goals first
          | (exfalso; omega)
          | (go_ret
             rw [HBAD.out (HCB.out.trans (by simp; omega))]
             exact ⟨rfl, rfl⟩)
          | (go_ret
             rw [HBAD.out (HCB.out.trans (by simp at *; omega))]
             exact ⟨rfl, rfl⟩)
          | (go_ret
             rw [HBAD.out (HCB.out.trans (by simp))]
             exact ⟨rfl, rfl⟩)
          | (refine ⟨⟨_, HLT.out, by go_num, HGOOD.out (HCB.out.trans (by simp; omega)), by first | rfl | trivial⟩, by have := HLT.out; simp [intOf]; try omega⟩)
          | (refine ⟨⟨_, HLT.out, by go_num, HGOOD.out (HCB.out.trans (by simp at *; omega)), by first | rfl | trivial⟩, by have := HLT.out; simp [intOf]; try omega⟩)
      · go_wp2_with fail
        go_roundw
        case rel => exact ⟨k + 1, HLT.out, by go_num, HGOOD.out (HCB.out.trans rfl), by first | rfl | trivial⟩
        case measure => have := HLT.out; simp [intOf]; try omega
    · obtain rfl : k = s.size := by omega
      have HN := Lib.hid (name_all (s := s) (fun j hj => HALL.out j hj hj))
      by_cases e1 : (1 : Int) ≤ (s.size : Int)
      · go_wp2_with fail
        go_ret
        have h1 : decide (1 ≤ s.size) = true := by simp; omega
        have h2 : decide ((s.size : Int) ≤ 16) = decide (s.size ≤ 16) := decide_eq_decide.2 (by omega)
        rw [HN.out, h1]
        refine ⟨?_, rfl⟩
        first | rw [← h2]; rfl | (simp; omega)
      · have H1 := Lib.hid (show decide (1 ≤ s.size) = false from decide_eq_false (by omega))
        go_wp2_with fail
        go_ret
        rw [HN.out, H1.out]
        exact ⟨rfl, rfl⟩
end Go.Proofs.Ytdcjocldggmdbaa

/- Layer 53: the reference's place and Few. -/
set_option linter.unusedSimpArgs false
namespace Go.Proofs.Ytdcjocldggmdbaa
open Go.RowKit Go

set_option maxRecDepth 20000 in
set_option maxHeartbeats 1000000 in
theorem rplace53 {S : Nat → Prop} (w : World) (a : Option Addr) (len cap : Nat) (xs : List taskT.den) (hx : Rd (.sl taskT) S w [.slice a len cap] xs) (n : ByteArray) :
    Calls Try.prog 35 #[.slice a len cap, .string n] w fun e w' => e = .returned (.int .i64 (plcI (xs.map tk) n)) ∧ w' = w := by
  obtain ⟨hl, hlc, hcm, -⟩ := id hx.sl_flat
  have HX := Lib.hid hx
  have HL := Lib.hid hl
  clear hx hl
  go_enter Try.func35, Try.ntmps35
  go_wp2_with fail
  go_loopw [5] (fun i wr => ∃ k : Nat, k ≤ len ∧ i = .int .i64 k ∧ (∀ j (hj : j < (xs.map tk).length), j < k → (xs.map tk)[j].name ≠ n) ∧ wr = w) (fun i _ => len - (intOf i).toNat)
  case atStart => exact ⟨0, Nat.zero_le _, rfl, fun j _ hj => absurd hj (by omega), rfl⟩
  case round =>
    obtain ⟨k, hk, rfl, hall, rfl⟩ := hrel
    have HALL := Lib.hid hall
    clear hall
    by_cases hlt : k < len
    · have hkI : (k : Int) < (len : Int) := by omega
      have hkx : k < xs.length := by rw [HL.out]; exact hlt
      obtain ⟨b, o, na, nl, nc, rfl, -, m0, m1, m2, m3, hnd, hnm⟩ := task_at HX.out k hkx
      have hget : (xs.map tk)[k]'(by rw [List.length_map]; exact hkx) = tk xs[k] := List.getElem_map _
      have HHIT := Lib.hid (show (tk xs[k]).name = n → plcI (xs.map tk) n = (k : Int) from fun e => by
        have hp : plc (xs.map tk) n = k := plc_hit (by rw [List.length_map]; exact hkx) (by rw [hget]; exact e) (fun j hj => HALL.out j (by rw [List.length_map]; omega) hj)
        unfold plcI
        rw [if_pos (by rw [hp, List.length_map]; exact hkx), hp])
      have HNXT := Lib.hid (show (tk xs[k]).name ≠ n → ∀ j (hj : j < (xs.map tk).length), j < k + 1 → (xs.map tk)[j].name ≠ n from fun h j hj hjk => by
        by_cases e : j = k
        · subst e; rw [hget]; exact h
        · exact HALL.out j hj (by omega))
      have HLT := Lib.hid hlt
      generalize (tk xs[k]).name = nm at m0 hnm HHIT HNXT
      clear hget m1 m2 m3 hnd hnm hkx hlt
      by_cases he : nm = n
      · have hq : (nm.toList == n.toList) = true := by rw [strB]; exact decide_eq_true he
        have HE := Lib.hid he
        clear he
        go_wp2_with fail
        go_ret
        rw [HHIT.out HE.out]
        exact ⟨rfl, rfl⟩
      · have hq : (nm.toList == n.toList) = false := by rw [strB]; exact decide_eq_false he
        have HE := Lib.hid he
        clear he
        have hl1 := HLT.out
        go_wp2_with fail
        go_roundw
        case rel => exact ⟨k + 1, HLT.out, by go_num, HNXT.out HE.out, by first | rfl | trivial⟩
        case measure => simp [intOf]; try omega
    · obtain rfl : k = len := by omega
      have hm : plcI (xs.map tk) n = -1 := by
        unfold plcI
        rw [plc_miss (fun j hj => HALL.out j hj (by rw [List.length_map, HL.out] at hj; exact hj)), if_neg (by omega)]
      have HM := Lib.hid hm
      clear hm
      go_wp2_with fail
      go_ret
      rw [HM.out]
      exact ⟨rfl, rfl⟩
def FewP (xs : List taskT.den) (w : World) (e : Ending) (w' : World) : Prop := ∃ b, e = .returned (.bool b) ∧ w' = w ∧ (b = true → xs.length ≤ 8 ∧ ∀ i (hi : i < xs.length), (tk xs[i]).needs.length ≤ 8)
set_option maxRecDepth 20000 in
set_option maxHeartbeats 1000000 in
theorem rfew53 {S : Nat → Prop} (w : World) (a : Option Addr) (len cap : Nat) (xs : List taskT.den) (hx : Rd (.sl taskT) S w [.slice a len cap] xs) :
    Calls Try.prog 31 #[.slice a len cap] w (FewP xs w) := by
  obtain ⟨hl, hlc, hcm, -⟩ := id hx.sl_flat
  have HX := Lib.hid hx
  have HL := Lib.hid hl
  clear hx hl
  go_enter Try.func31, Try.ntmps31
  go_wp2_with fail
  go_loopw [3, 4] (fun i _ wr => ∃ k : Nat, k ≤ len ∧ i = .int .i64 k ∧ (∀ j (hj : j < xs.length), j < k → (tk xs[j]).needs.length ≤ 8) ∧ wr = w) (fun i _ _ => len - (intOf i).toNat)
  case atStart => exact ⟨0, Nat.zero_le _, rfl, fun j _ hj => absurd hj (by omega), rfl⟩
  case round =>
    obtain ⟨k, hk, rfl, hall, rfl⟩ := hrel
    have HALL := Lib.hid hall
    clear hall
    by_cases hlt : k < len
    · have hkI : (k : Int) < (len : Int) := by omega
      have hkx : k < xs.length := by rw [HL.out]; exact hlt
      obtain ⟨b, o, na, nl, nc, rfl, -, m0, m1, m2, m3, hnd, hnm⟩ := task_at HX.out k hkx
      have HNXT := Lib.hid (show (tk xs[k]).needs.length ≤ 8 → ∀ j (hj : j < xs.length), j < k + 1 → (tk xs[j]).needs.length ≤ 8 from fun h j hj hjk => by
        by_cases e : j = k
        · subst e; exact h
        · exact HALL.out j hj (by omega))
      have HLT := Lib.hid hlt
      generalize tk xs[k] = t at m0 m1 m2 m3 hnd hnm HNXT
      obtain ⟨tnm, tnd, tg, ta⟩ := t
      simp only at m0 m1 hnd hnm
      have hnl : tnd.length = nl := hnd.sl_flat.1
      obtain ⟨-, hnc, hncm, hat⟩ := Rd.sl1 (e := .str) rfl hnd
      have HAT := Lib.hid hat
      have HNL := Lib.hid hnl
      clear m2 m3 hnd hat hnl hkx hlt
      by_cases h1 : (8 : Int) < (nl : Int)
      · go_wp2_with fail
        go_ret
        exact ⟨false, rfl, rfl, fun h => by cases h⟩
      by_cases h2 : (40 : Int) < (tnm.size : Int)
      · go_wp2_with fail
        go_ret
        exact ⟨false, rfl, rfl, fun h => by cases h⟩
      obtain ⟨w5, hw5⟩ : ∃ x, x = wr := ⟨_, rfl⟩
      go_wp2_with fail
      go_loopw [4] (fun i wr2 => ∃ j : Nat, j ≤ nl ∧ i = .int .i64 j ∧ wr2 = w5) (fun i _ => nl - (intOf i).toNat)
      case atStart => exact ⟨0, Nat.zero_le _, rfl, hw5.symm⟩
      case round =>
        obtain ⟨j, hj, rfl, rfl⟩ := hrel
        subst hw5
        by_cases hlt2 : j < nl
        · have hjI : (j : Int) < (nl : Int) := by omega
          have hjx : j < tnd.length := by rw [HNL.out]; exact hlt2
          obtain ⟨nb, no, nv, rfl, -, y0, hy⟩ := HAT.out j hjx
          obtain ⟨he, hsz⟩ := hy
          simp only [List.cons.injEq, and_true] at he
          subst he
          generalize tnd[j] = s at y0 hsz
          clear hjx
          by_cases h3 : (40 : Int) < (s.size : Int)
          · go_wp2_with fail
            go_ret
            exact ⟨false, rfl, rfl, fun h => by cases h⟩
          · go_wp2_with fail
            go_roundw
            case rel => exact ⟨j + 1, by omega, by go_num, by first | rfl | trivial⟩
            case measure => simp [intOf]; try omega
        · obtain rfl : j = nl := by omega
          have hl1 := HLT.out
          go_wp2_with fail
          go_roundw
          case rel => exact ⟨k + 1, HLT.out, by go_num, HNXT.out (by show tnd.length ≤ 8; rw [HNL.out]; omega), by first | rfl | trivial⟩
          case measure => simp [intOf]; try omega
    · obtain rfl : k = len := by omega
      by_cases h8 : (k : Int) ≤ 8
      · go_wp2_with fail
        go_ret
        exact ⟨true, by first | rfl | simp [h8], rfl, fun _ => ⟨by rw [HL.out]; omega, fun i hi => HALL.out i hi (by rw [HL.out] at hi; exact hi)⟩⟩
      · go_wp2_with fail
        go_ret
        exact ⟨false, by first | rfl | simp [h8], rfl, fun h => by cases h⟩
end Go.Proofs.Ytdcjocldggmdbaa

/- Layer 53: the reference's Valid. -/
set_option linter.unusedSimpArgs false
namespace Go.Proofs.Ytdcjocldggmdbaa
open Go.RowKit Go

def NeedAt (ts : List Tk) (i : Nat) (nds : List ByteArray) (k : Nat) : Prop := ∀ (hk : k < nds.length), plc ts nds[k] < i ∧ ∀ j (hj : j < k), nds[j] ≠ nds[k]
def RTask (ts : List Tk) (i : Nat) : Prop := ∀ (hi : i < ts.length), nameB ts[i].name = true ∧ plc ts ts[i].name = i ∧ ∀ k, k < ts[i].needs.length → NeedAt ts i ts[i].needs k
def RVal (ts : List Tk) : Prop := 1 ≤ ts.length ∧ ts.length ≤ 20 ∧ ∀ i, i < ts.length → RTask ts i
theorem plcI_lt {ts : List Tk} {n : ByteArray} {i : Nat} (hi : i ≤ ts.length) : (0 ≤ plcI ts n ∧ plcI ts n < (i : Int)) ↔ plc ts n < i := by
  unfold plcI
  split <;> omega
theorem plcI_eq {ts : List Tk} {n : ByteArray} {i : Nat} (hi : i < ts.length) : plcI ts n = (i : Int) ↔ plc ts n = i := by
  unfold plcI
  split <;> omega
theorem plc_mem {ts : List Tk} {n : ByteArray} {i : Nat} (hi : i ≤ ts.length) : hasN ((ts.take i).map Tk.name) n = true ↔ plc ts n < i := by
  rw [hasN_iff]
  constructor
  · intro h
    obtain ⟨t, ht, rfl⟩ := List.mem_map.1 h
    obtain ⟨j, hj, rfl⟩ := List.getElem_of_mem ht
    rw [List.length_take] at hj
    rw [List.getElem_take]
    have : plc ts ts[j].name ≤ j := by
      unfold plc
      exact Nat.le_of_not_lt fun hlt => by
        have := List.not_of_lt_findIdx (xs := ts) (p := fun t => decide (t.name = ts[j].name)) (i := j) hlt
        simp at this
    omega
  · intro h
    have hp := plc_name (ts := ts) (n := n) (by omega)
    refine List.mem_map.2 ⟨ts[plc ts n], ?_, hp⟩
    exact List.mem_iff_getElem.2 ⟨plc ts n, by rw [List.length_take]; omega, by rw [List.getElem_take]⟩
theorem rval_iff (ts : List Tk) : RVal ts ↔ ValidT ts := by
  unfold RVal ValidT
  refine and_congr Iff.rfl (and_congr Iff.rfl (forall_congr' fun i => forall_congr' fun hi => ?_))
  unfold RTask TaskOk NeedsOk NeedAt
  have hle : i ≤ ts.length := by omega
  constructor
  · intro h
    obtain ⟨h1, h2, h3⟩ := h hi
    refine ⟨fun j hj => ⟨(plc_mem hle).2 (h3 j hj hj).1, ?_⟩, ?_, h1⟩
    · cases hh : hasN (ts[i].needs.take j) ts[i].needs[j] with
      | false => rfl
      | true =>
        obtain ⟨m, hm, he⟩ := List.getElem_of_mem (hasN_iff.1 hh)
        rw [List.length_take] at hm
        rw [List.getElem_take] at he
        exact absurd he ((h3 j hj hj).2 m (by omega))
    · cases hh : hasN ((ts.take i).map Tk.name) ts[i].name with
      | false => rfl
      | true => have := (plc_mem hle).1 hh; omega
  · intro h _
    obtain ⟨h1, h2, h3⟩ := h
    refine ⟨h3, ?_, fun k hk _ => ⟨(plc_mem hle).1 (h1 k hk).1, fun j hj he => ?_⟩⟩
    · have h4 : ¬ plc ts ts[i].name < i := fun hlt => by rw [(plc_mem hle).2 hlt] at h2; cases h2
      have h5 : plc ts ts[i].name ≤ i := by
        unfold plc
        exact Nat.le_of_not_lt fun hlt => by
          have := List.not_of_lt_findIdx (xs := ts) (p := fun t => decide (t.name = ts[i].name)) (i := i) hlt
          simp at this
      omega
    · have := (h1 k hk).2
      have hm : hasN (ts[i].needs.take k) ts[i].needs[k] = true := hasN_iff.2 (List.mem_iff_getElem.2 ⟨j, by rw [List.length_take]; omega, by rw [List.getElem_take]; exact he⟩)
      rw [hm] at this
      cases this
end Go.Proofs.Ytdcjocldggmdbaa
