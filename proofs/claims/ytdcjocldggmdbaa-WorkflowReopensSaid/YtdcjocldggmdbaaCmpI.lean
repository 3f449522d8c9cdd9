/- cmp.Compare, cmp.Or at int. -/
import Derived.Test.YtdcjocldggmdbaaFr
import Derived.Test.YtdcjocldggmdbaaProg
set_option linter.unusedSimpArgs false
namespace Go.Proofs.Ytdcjocldggmdbaa
open Go.RowKit Go

def cmpI (a b : Int) : Int := if a < b then -1 else if b < a then 1 else 0
theorem nanI_sum (w : World) (a : Int) : Calls Try.prog 80 #[.int .i64 a] w fun e w' => e = .returned (.bool false) ∧ w' = w := by
  have h : (a != a) = false := by simp
  go_enter Try.func80, Try.ntmps80
  go_wp2
  go_ret
  exact ⟨rfl, rfl⟩
theorem compareI_sum (w : World) (a b : Int) : Calls Try.prog 61 #[.int .i64 a, .int .i64 b] w fun e w' => e = .returned (.int .i64 (cmpI a b)) ∧ w' = w := by
  unfold cmpI
  by_cases h1 : a < b
  · rw [if_pos h1]
    go_enter Try.func61, Try.ntmps61
    go_wp2_with (go_at_call 80; refine (nanI_sum _ _).mono ?_; rintro e w1 ⟨rfl, hw⟩; subst hw)
    all_goals
      go_ret
      exact ⟨rfl, rfl⟩
  · rw [if_neg h1]
    have h1' : ¬ a < b := h1
    by_cases h2 : b < a
    · rw [if_pos h2]
      have d1 : decide (a < b) = false := decide_eq_false h1
      go_enter Try.func61, Try.ntmps61
      go_wp2_with (go_at_call 80; refine (nanI_sum _ _).mono ?_; rintro e w1 ⟨rfl, hw⟩; subst hw)
      all_goals
        go_ret
        exact ⟨rfl, rfl⟩
    · rw [if_neg h2]
      have d1 : decide (a < b) = false := decide_eq_false h1
      have d2 : decide (b < a) = false := decide_eq_false h2
      go_enter Try.func61, Try.ntmps61
      go_wp2_with (go_at_call 80; refine (nanI_sum _ _).mono ?_; rintro e w1 ⟨rfl, hw⟩; subst hw)
      all_goals
        go_ret
        exact ⟨rfl, rfl⟩
def orI (a b c : Int) : Int := if a = 0 then (if b = 0 then c else b) else a
theorem or_sum (w : World) (g : Nat) (cap : Nat) (a b c : Int) (h0 : w.cell? ⟨g, 0, none⟩ = some (.int .i64 a)) (h1 : w.cell? ⟨g, 1, none⟩ = some (.int .i64 b)) (h2 : w.cell? ⟨g, 2, none⟩ = some (.int .i64 c)) :
    Calls Try.prog 60 #[.slice (some ⟨g, 0, none⟩) 3 cap] w fun e w' => e = .returned (.int .i64 (orI a b c)) ∧ w' = w := by
  unfold orI
  by_cases ha : a = 0
  · subst ha
    by_cases hb : b = 0
    · subst hb
      by_cases hc : c = 0
      · subst hc
        go_enter Try.func60, Try.ntmps60
        go_wp2
        refine wp_loop_rounds 5 ?_
        repeat any_goals (rw [rounds_succ]; go_wp2)
        all_goals
          go_ret
          exact ⟨rfl, rfl⟩
      · have hc' : (c != 0) = true := by simp [hc]
        go_enter Try.func60, Try.ntmps60
        go_wp2
        refine wp_loop_rounds 5 ?_
        repeat any_goals (rw [rounds_succ]; go_wp2)
        all_goals
          go_ret
          exact ⟨rfl, rfl⟩
    · have hb' : (b != 0) = true := by simp [hb]
      go_enter Try.func60, Try.ntmps60
      go_wp2
      refine wp_loop_rounds 5 ?_
      repeat any_goals (rw [rounds_succ]; go_wp2)
      all_goals
        go_ret
        exact ⟨by first | rfl | (rw [if_pos rfl, if_neg hb]; rfl), rfl⟩
  · have ha' : (a != 0) = true := by simp [ha]
    go_enter Try.func60, Try.ntmps60
    go_wp2
    refine wp_loop_rounds 5 ?_
    repeat any_goals (rw [rounds_succ]; go_wp2)
    all_goals
      go_ret
      exact ⟨by first | rfl | (rw [if_neg ha]; rfl), rfl⟩
theorem compareB (w : World) (a b : Int) : Calls Try.prog 61 #[.int .i64 a, .int .i64 b] w fun e w' => e = .returned (.int .i64 (cmpI a b)) ∧ Below w.heap.size w w' :=
  (compareI_sum w a b).mono fun _ _ ⟨h1, h2⟩ => ⟨h1, by rw [h2]; exact Below.refl _ _⟩
theorem orB (w : World) (g : Nat) (cap : Nat) (a b c : Int) (h0 : w.cell? ⟨g, 0, none⟩ = some (.int .i64 a)) (h1 : w.cell? ⟨g, 1, none⟩ = some (.int .i64 b)) (h2 : w.cell? ⟨g, 2, none⟩ = some (.int .i64 c)) :
    Calls Try.prog 60 #[.slice (some ⟨g, 0, none⟩) 3 cap] w fun e w' => e = .returned (.int .i64 (orI a b c)) ∧ Below w.heap.size w w' :=
  (or_sum w g cap a b c h0 h1 h2).mono fun _ _ ⟨h1, h2⟩ => ⟨h1, by rw [h2]; exact Below.refl _ _⟩
end Go.Proofs.Ytdcjocldggmdbaa
