/- Layer 16: the order of keys. -/
import Derived.Test.YtmlekhkgokgpbaaC16k
set_option linter.unusedSimpArgs false
namespace Go.Proofs.Ytmlekhkgokgpbaa
open Go.RowKit Go

def cmpI (a b : Int) : Int := if a < b then -1 else if b < a then 1 else 0
def cmpS (a b : ByteArray) : Int := if Op.bytesLess a.toList b.toList = true then -1 else if (a.toList == b.toList) = true then 0 else 1
theorem nanI_sum (w : World) (a : Int) : Calls Try.prog 58 #[.int .i64 a] w fun e w' => e = .returned (.bool false) ∧ w' = w := by
  have h : (a != a) = false := by simp
  go_enter Try.func58, Try.ntmps58
  go_wp2
  go_ret
  exact ⟨rfl, rfl⟩
theorem nanS_sum (w : World) (a : ByteArray) : Calls Try.prog 57 #[.string a] w fun e w' => e = .returned (.bool false) ∧ w' = w := by
  have h : (a.toList == a.toList) = true := by simp
  go_enter Try.func57, Try.ntmps57
  go_wp2
  go_ret
  exact ⟨rfl, rfl⟩
theorem compareI_sum (w : World) (a b : Int) : Calls Try.prog 51 #[.int .i64 a, .int .i64 b] w fun e w' => e = .returned (.int .i64 (cmpI a b)) ∧ w' = w := by
  unfold cmpI
  by_cases h1 : a < b
  · rw [if_pos h1]
    go_enter Try.func51, Try.ntmps51
    go_wp2_with (go_at_call 58; refine (nanI_sum _ _).mono ?_; rintro e w1 ⟨rfl, hw⟩; subst hw)
    all_goals
      go_ret
      exact ⟨rfl, rfl⟩
  · rw [if_neg h1]
    have h1' : ¬ a < b := h1
    by_cases h2 : b < a
    · rw [if_pos h2]
      have d1 : decide (a < b) = false := decide_eq_false h1
      go_enter Try.func51, Try.ntmps51
      go_wp2_with (go_at_call 58; refine (nanI_sum _ _).mono ?_; rintro e w1 ⟨rfl, hw⟩; subst hw)
      all_goals
        go_ret
        exact ⟨rfl, rfl⟩
    · rw [if_neg h2]
      have d1 : decide (a < b) = false := decide_eq_false h1
      have d2 : decide (b < a) = false := decide_eq_false h2
      go_enter Try.func51, Try.ntmps51
      go_wp2_with (go_at_call 58; refine (nanI_sum _ _).mono ?_; rintro e w1 ⟨rfl, hw⟩; subst hw)
      all_goals
        go_ret
        exact ⟨rfl, rfl⟩
theorem compareS_sum (w : World) (a b : ByteArray) : Calls Try.prog 50 #[.string a, .string b] w fun e w' => e = .returned (.int .i64 (cmpS a b)) ∧ w' = w := by
  unfold cmpS
  obtain ⟨x, hx⟩ : ∃ x, Op.bytesLess a.toList b.toList = x := ⟨_, rfl⟩
  obtain ⟨y, hy⟩ : ∃ y, (a.toList == b.toList) = y := ⟨_, rfl⟩
  rw [hx, hy]
  cases x
  · cases y
    · go_enter Try.func50, Try.ntmps50
      go_wp2_with (go_at_call 57; refine (nanS_sum _ _).mono ?_; rintro e w1 ⟨rfl, hw⟩; subst hw)
      all_goals
        first
        | (exfalso; simp_all; done)
        | (go_ret; exact ⟨by first | rfl | simp, by first | rfl | trivial⟩)
    · go_enter Try.func50, Try.ntmps50
      go_wp2_with (go_at_call 57; refine (nanS_sum _ _).mono ?_; rintro e w1 ⟨rfl, hw⟩; subst hw)
      all_goals
        first
        | (exfalso; simp_all; done)
        | (go_ret; exact ⟨by first | rfl | simp, by first | rfl | trivial⟩)
  · go_enter Try.func50, Try.ntmps50
    go_wp2_with (go_at_call 57; refine (nanS_sum _ _).mono ?_; rintro e w1 ⟨rfl, hw⟩; subst hw)
    all_goals
      go_ret
      exact ⟨by first | rfl | simp, by first | rfl | trivial⟩

def orI (a b c : Int) : Int := if a = 0 then (if b = 0 then c else b) else a
theorem or_sum (w : World) (g : Nat) (cap : Nat) (a b c : Int) (h0 : w.cell? ⟨g, 0, none⟩ = some (.int .i64 a)) (h1 : w.cell? ⟨g, 1, none⟩ = some (.int .i64 b)) (h2 : w.cell? ⟨g, 2, none⟩ = some (.int .i64 c)) :
    Calls Try.prog 49 #[.slice (some ⟨g, 0, none⟩) 3 cap] w fun e w' => e = .returned (.int .i64 (orI a b c)) ∧ w' = w := by
  unfold orI
  by_cases ha : a = 0
  · subst ha
    by_cases hb : b = 0
    · subst hb
      by_cases hc : c = 0
      · subst hc
        go_enter Try.func49, Try.ntmps49
        go_wp2
        refine wp_loop_rounds 5 ?_
        repeat any_goals (rw [rounds_succ]; go_wp2)
        all_goals
          go_ret
          exact ⟨rfl, rfl⟩
      · have hc' : (c != 0) = true := by simp [hc]
        go_enter Try.func49, Try.ntmps49
        go_wp2
        refine wp_loop_rounds 5 ?_
        repeat any_goals (rw [rounds_succ]; go_wp2)
        all_goals
          go_ret
          exact ⟨rfl, rfl⟩
    · have hb' : (b != 0) = true := by simp [hb]
      go_enter Try.func49, Try.ntmps49
      go_wp2
      refine wp_loop_rounds 5 ?_
      repeat any_goals (rw [rounds_succ]; go_wp2)
      all_goals
        go_ret
        exact ⟨by first | rfl | (rw [if_pos rfl, if_neg hb]; rfl), rfl⟩
  · have ha' : (a != 0) = true := by simp [ha]
    go_enter Try.func49, Try.ntmps49
    go_wp2
    refine wp_loop_rounds 5 ?_
    repeat any_goals (rw [rounds_succ]; go_wp2)
    all_goals
      go_ret
      exact ⟨by first | rfl | (rw [if_neg ha]; rfl), rfl⟩
end Go.Proofs.Ytmlekhkgokgpbaa
