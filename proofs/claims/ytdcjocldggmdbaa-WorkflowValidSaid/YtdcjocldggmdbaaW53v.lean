/- Layer 53: the reference's calendar: Of, Civil, Add, Valid. -/
import Derived.Test.YtdcjocldggmdbaaW53u
set_option linter.unusedSimpArgs false
namespace Go.Proofs.Ytdcjocldggmdbaa
open Go.RowKit Go

def ydays : Nat → Int
  | 0 => 0
  | k + 1 => ydays k + (if leapB (1900 + (k : Int)) then 366 else 365)
def mdays : Nat → Int
  | 0 => 0
  | k + 1 => mdays k + dim ((k : Int) + 1)
theorem ydays_le (k : Nat) : 0 ≤ ydays k ∧ ydays k ≤ 366 * k := by
  induction k with
  | zero => exact ⟨Int.le_refl _, Int.le_refl _⟩
  | succ k ih =>
    unfold ydays
    split <;> omega
theorem dim_le (m : Int) : 28 ≤ dim m ∧ dim m ≤ 31 := by
  unfold dim
  split
  · omega
  · split <;> omega
theorem mdays_le (k : Nat) : 0 ≤ mdays k ∧ mdays k ≤ 31 * k := by
  induction k with
  | zero => exact ⟨Int.le_refl _, Int.le_refl _⟩
  | succ k ih =>
    unfold mdays
    have := dim_le ((k : Int) + 1)
    omega
theorem y126 : ydays 126 = 46021 := by decide +kernel
set_option maxRecDepth 20000 in
set_option maxHeartbeats 1000000 in
theorem rof53 (w : World) (m : Nat) (h1 : 1 ≤ m) (h2 : m ≤ 12) : Calls Try.prog 91 #[.int .i64 2026, .int .i64 (m : Nat), .int .i64 1] w fun e w' => e = .returned (.tuple #[.int .i64 (20454 + mdays (m - 1)), .int .i64 0]) ∧ w' = w := by
  have hd := dim_le (m : Int)
  have HQ := Lib.hid (rdays53 w m (by omega) (by omega))
  go_enter Try.func91, Try.ntmps91
  go_wp2_with fail
  refine HQ.out.mono ?_
  rintro e w2 ⟨rfl, rfl⟩
  generalize dim (m : Int) = dm at hd
  go_wp2_with fail
  clear hd
  go_loopw [8, 9] (fun o a wr => ∃ k : Nat, k ≤ 126 ∧ a = .int .i64 (1900 + (k : Int)) ∧ o = .int .i64 (-25567 + ydays k) ∧ wr = w2) (fun _ a _ => 2026 - (intOf a).toNat)
  case atStart => exact ⟨0, by omega, rfl, rfl, rfl⟩
  case round =>
    obtain ⟨k, hk, rfl, rfl, rfl⟩ := hrel
    by_cases hlt : k < 126
    · have hkI : (1900 + (k : Int)) < 2026 := by omega
      have hb := ydays_le k
      have hb1 : ydays k ≤ 50000 := by omega
      have HS := Lib.hid (show ydays (k + 1) = ydays k + (if leapB (1900 + (k : Int)) then 366 else 365) from rfl)
      have HLP := Lib.hid (rleap53 wr (1900 + (k : Int)) (by omega))
      obtain ⟨yk, hyk⟩ : ∃ q, ydays k = q := ⟨_, rfl⟩
      rw [hyk] at hb hb1 HS ⊢
      have hb0 := hb.1
      clear hyk hb
      go_wp2_with fail
      refine HLP.out.mono ?_
      rintro e w3 ⟨rfl, rfl⟩
      generalize leapB (1900 + (k : Int)) = lb at HS ⊢
      clear HLP
      cases lb
      · go_wp2_with fail
        go_roundw
        case rel => exact ⟨k + 1, by omega, by go_num, by rw [HS.out]; go_num, trivial⟩
        case measure => simp [intOf]; try omega
      · go_wp2_with fail
        go_roundw
        case rel => exact ⟨k + 1, by omega, by go_num, by rw [HS.out]; go_num, trivial⟩
        case measure => simp [intOf]; try omega
    · obtain rfl : k = 126 := by omega
      rw [y126, show (1900 + ((126 : Nat) : Int)) = 2026 from rfl, show (-25567 + 46021 : Int) = 20454 from rfl]
      clear hlt hk
      obtain ⟨w5, rfl⟩ : ∃ x, x = wr := ⟨_, rfl⟩
      go_wp2_with fail
      go_loopw [8, 10] (fun o b wr => ∃ j : Nat, j + 1 ≤ m ∧ b = .int .i64 ((j : Int) + 1) ∧ o = .int .i64 (20454 + mdays j) ∧ wr = w5) (fun _ b _ => m - (intOf b).toNat)
      case atStart => exact ⟨0, by omega, rfl, rfl, rfl⟩
      case round =>
        obtain ⟨j, hj, rfl, rfl, rfl⟩ := hrel
        have hb := mdays_le j
        have hb1 : mdays j ≤ 400 := by omega
        by_cases hlt : j + 1 < m
        · have hjI : (j : Int) + 1 < (m : Int) := by omega
          have hd := dim_le ((j : Int) + 1)
          have HS := Lib.hid (show mdays (j + 1) = mdays j + dim ((j : Int) + 1) from rfl)
          have HDD := Lib.hid (rdays53 wr ((j : Int) + 1) (by omega) (by omega))
          obtain ⟨yk, hyk⟩ : ∃ q, mdays j = q := ⟨_, rfl⟩
          rw [hyk] at hb hb1 HS ⊢
          have hb0 := hb.1
          clear hyk hb
          go_wp2_with fail
          refine HDD.out.mono ?_
          rintro e w3 ⟨rfl, rfl⟩
          generalize dim ((j : Int) + 1) = dj at HS hd ⊢
          have hd1 := hd.1
          have hd2 := hd.2
          clear HDD hd
          go_wp2_with fail
          go_roundw
          case rel => exact ⟨j + 1, by omega, by go_num, by rw [HS.out]; go_num, trivial⟩
          case measure => simp [intOf]; try omega
        · obtain rfl : m = j + 1 := by omega
          have hb0 := hb.1
          obtain ⟨yk, hyk⟩ : ∃ q, mdays j = q := ⟨_, rfl⟩
          have HYK := Lib.hid hyk
          rw [hyk] at hb0 hb1 ⊢
          clear hb hyk
          go_wp2_with fail
          refine bodyPost_ret (results_tmp2 rfl _ _ _) rfl ?_
          refine ⟨?_, rfl⟩
          rw [show j + 1 - 1 = j from rfl, HYK.out]
          simp
          try omega
end Go.Proofs.Ytdcjocldggmdbaa
