/- Layer 53: the calendar. -/
import Derived.Test.YtdcjocldggmdbaaW53o
set_option linter.unusedSimpArgs false
namespace Go.Proofs.Ytdcjocldggmdbaa
open Go.RowKit Go

def BoolP (w : World) (e : Ending) (w' : World) : Prop := ∃ b, e = .returned (.bool b) ∧ Below w.heap.size w w'
set_option maxHeartbeats 1000000 in
theorem leap53 (w : World) (y : Int) (h1 : 0 ≤ y) : Calls Try.prog 108 #[.int .i64 y] w (BoolP w) := by
  obtain ⟨r4, h4⟩ : ∃ r, y.tmod 4 = r := ⟨_, rfl⟩
  obtain ⟨r100, h100⟩ : ∃ r, y.tmod 100 = r := ⟨_, rfl⟩
  obtain ⟨r400, h400⟩ : ∃ r, y.tmod 400 = r := ⟨_, rfl⟩
  go_enter Try.func108, Try.ntmps108
  go_wp2_with fail
  all_goals
    go_ret
    exact ⟨_, rfl, Below.refl _ _⟩
def DayP (w : World) (e : Ending) (w' : World) : Prop := ∃ r : Int, e = .returned (.int .i64 r) ∧ 28 ≤ r ∧ r ≤ 31 ∧ Below w.heap.size w w'
set_option maxRecDepth 20000 in
set_option maxHeartbeats 1000000 in
theorem days53 (w : World) (y m : Int) (h1 : 1900 ≤ y) (h2 : y ≤ 2199) (h3 : 1 ≤ m) (h4 : m ≤ 12) : Calls Try.prog 101 #[.int .i64 y, .int .i64 m] w (DayP w) := by
  have a1 : ¬ y < 1900 := by omega
  have a2 : ¬ 2199 < y := by omega
  have HB := Lib.hid ((Below.refl w.heap.size w).alloc (Nat.le_refl _) (.cells #[.int .i64 31, .int .i64 28, .int .i64 31, .int .i64 30, .int .i64 31, .int .i64 30, .int .i64 31, .int .i64 31, .int .i64 30, .int .i64 31, .int .i64 30, .int .i64 31] 165))
  have hm : m = 1 ∨ m = 2 ∨ m = 3 ∨ m = 4 ∨ m = 5 ∨ m = 6 ∨ m = 7 ∨ m = 8 ∨ m = 9 ∨ m = 10 ∨ m = 11 ∨ m = 12 := by omega
  have hrow := heap_alloc_new w (.cells #[.int .i64 31, .int .i64 28, .int .i64 31, .int .i64 30, .int .i64 31, .int .i64 30, .int .i64 31, .int .i64 31, .int .i64 30, .int .i64 31, .int .i64 30, .int .i64 31] 165)
  have x0 := blk_cell hrow 0
  have x1 := blk_cell hrow 1
  have x2 := blk_cell hrow 2
  have x3 := blk_cell hrow 3
  have x4 := blk_cell hrow 4
  have x5 := blk_cell hrow 5
  have x6 := blk_cell hrow 6
  have x7 := blk_cell hrow 7
  have x8 := blk_cell hrow 8
  have x9 := blk_cell hrow 9
  have x10 := blk_cell hrow 10
  have x11 := blk_cell hrow 11
  simp at x0 x1 x2 x3 x4 x5 x6 x7 x8 x9 x10 x11
  have HRO := Lib.hid hrow
  clear hrow
  clear h3 h4
  rcases hm with rfl | rfl | rfl | rfl | rfl | rfl | rfl | rfl | rfl | rfl | rfl | rfl
  · go_enter Try.func101, Try.ntmps101
    go_wp2_with fail
    go_ret
    exact ⟨_, rfl, by omega, by omega, HB.out⟩
  · go_enter Try.func101, Try.ntmps101
    go_wp2_with fail
    refine (leap53 _ y (by omega)).mono ?_
    rintro e w2 ⟨b, rfl, hB2⟩
    have HB2 := Lib.hid (below_step HB.out hB2)
    have hr2 := (hB2.block _ (blk_lt HRO.out)).trans HRO.out
    have z1 := blk_cell hr2 1
    simp at z1
    clear hB2 hr2
    cases b
    · go_wp2_with fail
      go_ret
      exact ⟨_, rfl, by omega, by omega, HB2.out⟩
    · go_wp2_with fail
      go_ret
      exact ⟨_, rfl, by omega, by omega, HB2.out⟩
  · go_enter Try.func101, Try.ntmps101
    go_wp2_with fail
    go_ret
    exact ⟨_, rfl, by omega, by omega, HB.out⟩
  · go_enter Try.func101, Try.ntmps101
    go_wp2_with fail
    go_ret
    exact ⟨_, rfl, by omega, by omega, HB.out⟩
  · go_enter Try.func101, Try.ntmps101
    go_wp2_with fail
    go_ret
    exact ⟨_, rfl, by omega, by omega, HB.out⟩
  · go_enter Try.func101, Try.ntmps101
    go_wp2_with fail
    go_ret
    exact ⟨_, rfl, by omega, by omega, HB.out⟩
  · go_enter Try.func101, Try.ntmps101
    go_wp2_with fail
    go_ret
    exact ⟨_, rfl, by omega, by omega, HB.out⟩
  · go_enter Try.func101, Try.ntmps101
    go_wp2_with fail
    go_ret
    exact ⟨_, rfl, by omega, by omega, HB.out⟩
  · go_enter Try.func101, Try.ntmps101
    go_wp2_with fail
    go_ret
    exact ⟨_, rfl, by omega, by omega, HB.out⟩
  · go_enter Try.func101, Try.ntmps101
    go_wp2_with fail
    go_ret
    exact ⟨_, rfl, by omega, by omega, HB.out⟩
  · go_enter Try.func101, Try.ntmps101
    go_wp2_with fail
    go_ret
    exact ⟨_, rfl, by omega, by omega, HB.out⟩
  · go_enter Try.func101, Try.ntmps101
    go_wp2_with fail
    go_ret
    exact ⟨_, rfl, by omega, by omega, HB.out⟩
def IntP (w : World) (e : Ending) (w' : World) : Prop := ∃ r : Int, e = .returned (.int .i64 r) ∧ Below w.heap.size w w'
theorem begin53 (w : World) (y : Int) : Calls Try.prog 102 #[.int .i64 y] w (IntP w) := by
  go_enter Try.func102, Try.ntmps102
  go_wp2_with fail
  go_ret
  exact ⟨_, rfl, Below.refl _ _⟩
def DateP (w : World) (e : Ending) (w' : World) : Prop := ∃ r : Int, e = .returned (.tuple #[.int .i64 r, .int .i64 0]) ∧ Below w.heap.size w w'
set_option maxHeartbeats 1000000 in
theorem of53 (w : World) (y m : Int) (h1 : 1900 ≤ y) (h2 : y ≤ 2199) (h3 : 1 ≤ m) (h4 : m ≤ 12) : Calls Try.prog 90 #[.int .i64 y, .int .i64 m, .int .i64 1] w (DateP w) := by
  go_enter Try.func90, Try.ntmps90
  go_wp2_with fail
  refine (days53 w y m h1 h2 h3 h4).mono ?_
  rintro e w1 ⟨r1, rfl, ha, hb, hB1⟩
  have HB1 := Lib.hid hB1
  have hr1 : ¬ r1 < 1 := by omega
  clear hB1
  go_wp2_with fail
  refine (begin53 w1 y).mono ?_
  rintro e w2 ⟨r2, rfl, hB2⟩
  have HB2 := Lib.hid (below_step HB1.out hB2)
  clear hB2
  go_wp2_with fail
  go_loopw [8, 9] (fun n i wr => ∃ k r : Int, 1 ≤ k ∧ k ≤ m ∧ n = .int .i64 r ∧ i = .int .i64 k ∧ Below w.heap.size w wr) (fun _ i _ => (m - intOf i).toNat)
  case atStart => exact ⟨1, _, by omega, h3, rfl, rfl, HB2.out⟩
  case round =>
    obtain ⟨k, r, hk1, hk2, rfl, rfl, hB⟩ := hrel
    have HB := Lib.hid hB
    clear hB
    by_cases hlt : k < m
    · go_wp2_with fail
      refine (days53 wr y k h1 h2 hk1 (by omega)).mono ?_
      rintro e w4 ⟨r4, rfl, ha4, hb4, hB4⟩
      have HB4 := Lib.hid (below_step HB.out hB4)
      have HLT := Lib.hid hlt
      clear hB4
      go_wp2_with fail
      go_roundw
      case rel => exact ⟨k + 1, _, by omega, by have := HLT.out; omega, rfl, by go_num, HB4.out⟩
      case measure => simp [intOf]; omega
    · go_wp2_with fail
      refine bodyPost_ret (results_tmp2 rfl _ _ _) rfl ?_
      exact ⟨_, rfl, HB.out⟩
set_option maxHeartbeats 1000000 in
theorem first53 (w : World) (y mo pe : Int) (h1 : 1900 ≤ y) (h3 : 1 ≤ mo) (h4 : mo ≤ 12) (h5 : 1 ≤ pe) (h7 : 12 * y + mo - 1 + (pe - 1) < 26400) :
    Calls Try.prog 66 #[.agg #[.int .i64 y, .int .i64 mo, .int .i64 pe], .int .i64 (pe - 1)] w (DateP w) := by
  obtain ⟨n, hn⟩ : ∃ n, 12 * y + mo - 1 + (pe - 1) = n := ⟨_, rfl⟩
  have e1 : IntKind.i64.wrap (12 * y) = 12 * y := by rw [IntKind.wrap_i64] <;> omega
  have e2 : IntKind.i64.wrap (12 * y + mo) = 12 * y + mo := by rw [IntKind.wrap_i64] <;> omega
  have e3 : IntKind.i64.wrap (12 * y + mo - 1) = 12 * y + mo - 1 := by rw [IntKind.wrap_i64] <;> omega
  have e4 : IntKind.i64.wrap (12 * y + mo - 1 + (pe - 1)) = 12 * y + mo - 1 + (pe - 1) := by rw [IntKind.wrap_i64] <;> omega
  have hq : n.tdiv 12 = n / 12 := by rw [Int.tdiv_eq_ediv_of_nonneg]; omega
  have hr : n.tmod 12 = n % 12 := by rw [Int.tmod_eq_emod_of_nonneg]; omega
  have HO := Lib.hid fun W => of53 W (n / 12) (n % 12 + 1) (by omega) (by omega) (by omega) (by omega)
  have HB := Lib.hid ((Below.refl w.heap.size w).alloc (Nat.le_refl _) (.cells #[.int .i64 y, .int .i64 mo, .int .i64 pe] 78))
  have e5 : IntKind.i64.wrap (n / 12) = n / 12 := by rw [IntKind.wrap_i64] <;> omega
  have e6 : IntKind.i64.wrap (n % 12 + 1) = n % 12 + 1 := by rw [IntKind.wrap_i64] <;> omega
  rw [hn] at e4
  clear h1 h3 h4 h5 h7
  go_enter Try.func66, Try.ntmps66
  go_wp2_with fail
  refine (HO.out _).mono ?_
  rintro e w2 ⟨r, rfl, hB2⟩
  have HB2 := Lib.hid (below_step HB.out hB2)
  clear hB2
  go_wp2_with fail
  refine bodyPost_ret (results_tmp2 rfl _ _ _) rfl ?_
  exact ⟨_, rfl, HB2.out⟩
set_option maxHeartbeats 1000000 in
theorem calValid53 (w : World) (y mo pe : Int) (h1 : 1900 ≤ y) (h2 : y ≤ 2199) (h3 : 1 ≤ mo) (h4 : mo ≤ 12) (h5 : 1 ≤ pe) (h6 : pe ≤ 120) (h7 : 12 * y + mo - 1 + (pe - 1) < 26400) :
    Calls Try.prog 50 #[.agg #[.int .i64 y, .int .i64 mo, .int .i64 pe]] w fun e w' => e = .returned (.bool true) ∧ Below w.heap.size w w' := by
  have a1 : ¬ mo < 1 := by omega
  have a2 : ¬ 12 < mo := by omega
  have a3 : ¬ pe < 1 := by omega
  have a4 : ¬ 120 < pe := by omega
  have a5 : ¬ y < 1900 := by omega
  have a6 : ¬ 2199 < y := by omega
  have HH := Lib.hid (show 1900 ≤ y ∧ 1 ≤ mo ∧ 1 ≤ pe ∧ 12 * y + mo - 1 + (pe - 1) < 26400 from ⟨h1, h3, h5, h7⟩)
  have HB := Lib.hid ((Below.refl w.heap.size w).alloc (Nat.le_refl _) (.cells #[.int .i64 y, .int .i64 mo, .int .i64 pe] 78))
  have HF := Lib.hid fun W => first53 W y mo pe h1 h3 h4 h5 h7
  have hwp : IntKind.i64.wrap (pe - 1) = pe - 1 := by rw [IntKind.wrap_i64] <;> omega
  clear h1 h2 h3 h4 h5 h6 h7
  go_enter Try.func50, Try.ntmps50
  go_wp2_with fail
  refine (HF.out _).mono ?_
  rintro e w2 ⟨r, rfl, hB2⟩
  have HB2 := Lib.hid (below_step HB.out hB2)
  clear hB2
  go_wp2_with fail
  go_ret
  exact ⟨rfl, HB2.out⟩
end Go.Proofs.Ytdcjocldggmdbaa
