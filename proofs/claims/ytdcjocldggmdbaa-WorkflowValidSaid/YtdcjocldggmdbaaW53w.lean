/- Layer 53: the reference's calendar: Civil, Add, Valid. -/
import Derived.Test.YtdcjocldggmdbaaW53v
set_option linter.unusedSimpArgs false
namespace Go.Proofs.Ytdcjocldggmdbaa
open Go.RowKit Go

theorem results_tmp4 {fn : Func} {t u v x : Tmp} (h : fn.results = #[.tmp t, .tmp u, .tmp v, .tmp x]) (tmps : Array Value) (P : Program) (w : World) :
    (results fn tmps).run P w = .ok (.tuple #[tmps.getD t undef, tmps.getD u undef, tmps.getD v undef, tmps.getD x undef]) w := by
  simp [results, h]
theorem rest_ge : ∀ k : Nat, k < 126 → (if leapB (1900 + (k : Int)) then 366 ≤ 46021 - ydays k else 365 ≤ 46021 - ydays k) := by decide +kernel
set_option maxRecDepth 20000 in
set_option maxHeartbeats 1000000 in
theorem rvaliddate53 (w : World) : Calls Try.prog 109 #[.int .i64 20454] w fun e w' => e = .returned (.bool true) ∧ w' = w := by
  go_enter Try.func109, Try.ntmps109
  go_wp2_with fail
  go_ret
  exact ⟨rfl, rfl⟩
set_option maxRecDepth 20000 in
set_option maxHeartbeats 1000000 in
theorem rcivil53 (w : World) : Calls Try.prog 105 #[.int .i64 20454] w fun e w' => e = .returned (.tuple #[.int .i64 2026, .int .i64 1, .int .i64 1, .int .i64 0]) ∧ w' = w := by
  go_enter Try.func105, Try.ntmps105
  go_wp2_with fail
  refine (rvaliddate53 w).mono ?_
  rintro e w2 ⟨rfl, rfl⟩
  go_wp2_with fail
  go_loopw [6, 8] (fun y r wr => ∃ k : Nat, k ≤ 126 ∧ y = .int .i64 (1900 + (k : Int)) ∧ r = .int .i64 (46021 - ydays k) ∧ wr = w2) (fun y _ _ => 2026 - (intOf y).toNat)
  case atStart => exact ⟨0, by omega, rfl, rfl, rfl⟩
  case round =>
    obtain ⟨k, hk, rfl, rfl, rfl⟩ := hrel
    by_cases hlt : k < 126
    · have hb := ydays_le k
      have hb1 : ydays k ≤ 50000 := by omega
      have HS := Lib.hid (show ydays (k + 1) = ydays k + (if leapB (1900 + (k : Int)) then 366 else 365) from rfl)
      have HLP := Lib.hid (rleap53 wr (1900 + (k : Int)) (by omega))
      have HGE := Lib.hid (rest_ge k hlt)
      obtain ⟨yk, hyk⟩ : ∃ q, ydays k = q := ⟨_, rfl⟩
      rw [hyk] at hb hb1 HS HGE ⊢
      have hb0 := hb.1
      clear hyk hb
      generalize hlb : leapB (1900 + (k : Int)) = lb at HS HLP HGE ⊢
      clear hlb
      go_wp2_with fail
      refine HLP.out.mono ?_
      rintro e w3 ⟨rfl, rfl⟩
      cases lb
      · have hge : 365 ≤ 46021 - yk := HGE.out
        go_wp2_with fail
        refine HLP.out.mono ?_
        rintro e w4 ⟨rfl, rfl⟩
        go_wp2_with fail
        refine HLP.out.mono ?_
        rintro e w5 ⟨rfl, rfl⟩
        go_wp2_with fail
        go_roundw
        case rel => exact ⟨k + 1, by omega, by go_num, by rw [HS.out]; go_num, trivial⟩
        case measure => simp [intOf]; try omega
      · have hge : 366 ≤ 46021 - yk := HGE.out
        go_wp2_with fail
        refine HLP.out.mono ?_
        rintro e w4 ⟨rfl, rfl⟩
        go_wp2_with fail
        go_roundw
        case rel => exact ⟨k + 1, by omega, by go_num, by rw [HS.out]; go_num, trivial⟩
        case measure => simp [intOf]; try omega
    · obtain rfl : k = 126 := by omega
      rw [y126, show (1900 + ((126 : Nat) : Int)) = 2026 from rfl, show (46021 - 46021 : Int) = 0 from rfl]
      clear hlt hk
      obtain ⟨w5, rfl⟩ : ∃ x, x = wr := ⟨_, rfl⟩
      have hl : leapB 2026 = false := by decide
      go_wp2_with fail
      refine (rleap53 w5 2026 (by omega)).mono ?_
      rintro e w6 ⟨rfl, rfl⟩
      rw [hl]
      go_wp2_with fail
      refine (rleap53 w6 2026 (by omega)).mono ?_
      rintro e w7 ⟨rfl, rfl⟩
      rw [hl]
      go_wp2_with fail
      go_loopw [7, 8] (fun m r wr => m = .int .i64 1 ∧ r = .int .i64 0 ∧ wr = w7) (fun _ _ _ => 0)
      case atStart => exact ⟨rfl, rfl, rfl⟩
      case round =>
        obtain ⟨rfl, rfl, rfl⟩ := hrel
        have hd1 : dim 1 = 31 := rfl
        go_wp2_with fail
        refine (rdays53 wr 1 (by omega) (by omega)).mono ?_
        rintro e w8 ⟨rfl, rfl⟩
        rw [hd1]
        go_wp2_with fail
        exact bodyPost_ret (results_tmp4 rfl _ _ _) rfl ⟨rfl, rfl⟩
set_option maxRecDepth 20000 in
set_option maxHeartbeats 1000000 in
theorem radd53 (w : World) : Calls Try.prog 92 #[.int .i64 20454, .int .i64 11] w fun e w' => (∃ d : Int, e = .returned (.tuple #[.int .i64 d, .int .i64 0])) ∧ w' = w := by
  go_enter Try.func92, Try.ntmps92
  go_wp2_with fail
  refine (rcivil53 w).mono ?_
  rintro e w2 ⟨rfl, rfl⟩
  go_wp2_with fail
  refine (rdays53 w2 12 (by omega) (by omega)).mono ?_
  rintro e w3 ⟨rfl, rfl⟩
  rw [show dim 12 = 31 from rfl]
  go_wp2_with fail
  refine (rof53 w3 12 (by omega) (by omega)).mono ?_
  rintro e w4 ⟨rfl, rfl⟩
  go_wp2_with fail
  exact bodyPost_ret (results_tmp2 rfl _ _ _) rfl ⟨⟨_, rfl⟩, rfl⟩
set_option maxRecDepth 20000 in
set_option maxHeartbeats 1000000 in
theorem rfirst53 (w : World) : Calls Try.prog 67 #[.agg #[.int .i64 2026, .int .i64 1, .int .i64 12], .int .i64 11] w fun e w' => (∃ d : Int, e = .returned (.tuple #[.int .i64 d, .int .i64 0])) ∧ Below w.heap.size w w' := by
  have hc := alloc_new' (w := w) (o := .cells #[.int .i64 2026, .int .i64 1, .int .i64 12] 78) rfl
  have x0 := blk_cell hc 0
  have x1 := blk_cell hc 1
  simp at x0 x1
  have HB := Lib.hid ((Below.refl w.heap.size w).alloc (Nat.le_refl _) (.cells #[.int .i64 2026, .int .i64 1, .int .i64 12] 78))
  clear hc
  go_enter Try.func67, Try.ntmps67
  go_wp2_with fail
  generalize w.alloc _ = w1 at HB ⊢
  refine (rof53 w1 1 (by omega) (by omega)).mono ?_
  rintro e w2 ⟨rfl, rfl⟩
  rw [show (20454 + mdays (1 - 1)) = 20454 from rfl]
  go_wp2_with fail
  refine (radd53 w2).mono ?_
  rintro e w3 ⟨⟨d, rfl⟩, rfl⟩
  go_wp2_with fail
  exact bodyPost_ret (results_tmp2 rfl _ _ _) rfl ⟨⟨_, rfl⟩, HB.out⟩
set_option maxRecDepth 20000 in
set_option maxHeartbeats 1000000 in
theorem rcal53 (w : World) : Calls Try.prog 52 #[.agg #[.int .i64 2026, .int .i64 1, .int .i64 12]] w fun e w' => e = .returned (.bool true) ∧ Below w.heap.size w w' := by
  have hc := alloc_new' (w := w) (o := .cells #[.int .i64 2026, .int .i64 1, .int .i64 12] 78) rfl
  have x0 := blk_cell hc 0
  have x1 := blk_cell hc 1
  have x2 := blk_cell hc 2
  simp at x0 x1 x2
  have HB := Lib.hid ((Below.refl w.heap.size w).alloc (Nat.le_refl _) (.cells #[.int .i64 2026, .int .i64 1, .int .i64 12] 78))
  clear hc
  go_enter Try.func52, Try.ntmps52
  go_wp2_with fail
  generalize w.alloc _ = w1 at HB ⊢
  refine (rfirst53 w1).mono ?_
  rintro e w2 ⟨⟨d, rfl⟩, hB2⟩
  have HB2 := Lib.hid (below_step HB.out hB2)
  clear hB2
  go_wp2_with fail
  go_ret
  exact ⟨rfl, HB2.out⟩
end Go.Proofs.Ytdcjocldggmdbaa
