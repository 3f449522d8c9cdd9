/- Layer 16: a proper rate. -/
import Derived.Test.YtmlekhkgokgpbaaC16a
set_option linter.unusedSimpArgs false
namespace Go.Proofs.Ytmlekhkgokgpbaa
open Go.RowKit Go

abbrev rateT : Ty := .pr .str (.pr (.int .i64) (.pr (.int .i64) (.pr (.int .i64) .un)))
def rateV (c : ByteArray) (k w v : Int) : Value := .agg #[.string c, .int .i64 k, .int .i64 w, .int .i64 v]
def dateB (d : Int) : Bool := decide (-25567 ≤ d) && decide (d ≤ 84005)
theorem date_sum (w : World) (d : Int) : Calls Try.prog 45 #[.int .i64 d] w fun e w' => e = .returned (.bool (dateB d)) ∧ w' = w := by
  unfold dateB
  by_cases h : -25567 ≤ d
  · go_enter Try.func45, Try.ntmps45
    go_wp2
    go_ret
    exact ⟨by rw [decide_eq_true h]; rfl, rfl⟩
  · have h' : ¬ (-25567 : Int) ≤ d := h
    go_enter Try.func45, Try.ntmps45
    go_wp2
    go_ret
    exact ⟨by rw [decide_eq_false (Int.not_le.2 h)]; rfl, rfl⟩
theorem refDate_sum (w : World) (d : Int) : Calls Try.prog 44 #[.int .i64 d] w fun e w' => e = .returned (.bool (dateB d)) ∧ w' = w := by
  unfold dateB
  by_cases h : -25567 ≤ d
  · go_enter Try.func44, Try.ntmps44
    go_wp2
    go_ret
    exact ⟨by rw [decide_eq_true h]; rfl, rfl⟩
  · have h' : ¬ (-25567 : Int) ≤ d := h
    go_enter Try.func44, Try.ntmps44
    go_wp2
    go_ret
    exact ⟨by rw [decide_eq_false (Int.not_le.2 h)]; rfl, rfl⟩

def properB (g c : ByteArray) (k w v : Int) : Bool :=
  if curB c = false then false else if (c.toList == g.toList) = true then false else if v < 1 then false else if 1000000000000 < v then false
  else if k = 1 then dateB w else if k = 2 then decide (0 ≤ w) && decide (w < 120) else false

set_option maxRecDepth 10000 in
set_option maxHeartbeats 1000000 in
theorem proper_sum (W : World) (g c : ByteArray) (k w v : Int) (hc : c.size ≤ maxLen) :
    Calls Try.prog 35 #[.string g, rateV c k w v] W fun e w' => e = .returned (.bool (properB g c k w v)) ∧ Below W.heap.size W w' := by
  unfold rateV properB
  have hh := heap_alloc_new W (.cells #[.string c, .int .i64 k, .int .i64 w, .int .i64 v] 35)
  have hB0 : Below W.heap.size W (W.alloc (.cells #[.string c, .int .i64 k, .int .i64 w, .int .i64 v] 35)) := (Below.refl _ W).alloc (Nat.le_refl _) _
  go_enter Try.func35, Try.ntmps35
  go_wp2_with fail
  generalize W.alloc (.cells #[.string c, .int .i64 k, .int .i64 w, .int .i64 v] 35) = W1 at *
  refine (Currency_sum W1 c hc).mono ?_
  rintro e w2 ⟨rfl, hB1⟩
  have hB2 := below_step hB0 hB1
  have h2 := (hB1.block _ (Array.getElem?_eq_some_iff.1 hh).1).trans hh
  have k0 : w2.cell? ⟨W.heap.size, 0, none⟩ = some (.string c) := blk_cell h2 0
  have k1 : w2.cell? ⟨W.heap.size, 1, none⟩ = some (.int .i64 k) := blk_cell h2 1
  have k2 : w2.cell? ⟨W.heap.size, 2, none⟩ = some (.int .i64 w) := blk_cell h2 2
  have k3 : w2.cell? ⟨W.heap.size, 3, none⟩ = some (.int .i64 v) := blk_cell h2 3
  clear hh h2 hB0 hB1
  obtain ⟨cb, hcb⟩ : ∃ cb, curB c = cb := ⟨_, rfl⟩
  obtain ⟨eb, heb⟩ : ∃ eb, (c.toList == g.toList) = eb := ⟨_, rfl⟩
  rw [hcb]
  cases cb
  · go_wp2
    all_goals
      go_ret
      exact ⟨by simp [hcb], hB2⟩
  cases eb
  rotate_left
  · go_wp2
    all_goals
      go_ret
      exact ⟨by simp only [hcb, heb]; simp, hB2⟩
  by_cases h1 : v < 1
  · go_wp2
    all_goals
      go_ret
      exact ⟨by simp only [hcb, heb]; simp [h1], hB2⟩
  have d1 : decide (v < 1) = false := decide_eq_false h1
  by_cases hm : 1000000000000 < v
  · go_wp2
    all_goals
      go_ret
      exact ⟨by simp only [hcb, heb]; simp [d1, hm], hB2⟩
  have dm : decide (1000000000000 < v) = false := decide_eq_false hm
  by_cases hk1 : k = 1
  · subst hk1
    go_wp2_with (go_at_call 45; refine (date_sum _ w).mono ?_; rintro e w3 ⟨rfl, hw⟩; subst hw)
    all_goals
      go_ret
      exact ⟨by simp only [hcb, heb]; simp [d1, dm], hB2⟩
  have hk1' : (k == 1) = false := by simp [hk1]
  by_cases hk2 : k = 2
  · subst hk2
    by_cases h0 : 0 ≤ w
    · go_wp2
      all_goals
        go_ret
        exact ⟨by simp only [hcb, heb]; simp [d1, dm, h0], hB2⟩
    · have h0' : ¬ (0 : Int) ≤ w := h0
      go_wp2
      all_goals
        go_ret
        exact ⟨by simp only [hcb, heb]; simp [d1, dm]; omega, hB2⟩
  have hk2' : (k == 2) = false := by simp [hk2]
  go_wp2
  all_goals
    go_ret
    exact ⟨by simp only [hcb, heb]; simp [d1, dm, hk1, hk2], hB2⟩
set_option maxRecDepth 10000 in
set_option maxHeartbeats 1000000 in
theorem refProper_sum (W : World) (g c : ByteArray) (k w v : Int) (hc : c.size ≤ maxLen) :
    Calls Try.prog 33 #[.string g, rateV c k w v] W fun e w' => e = .returned (.bool (properB g c k w v)) ∧ Below W.heap.size W w' := by
  unfold rateV properB
  have hh := heap_alloc_new W (.cells #[.string c, .int .i64 k, .int .i64 w, .int .i64 v] 35)
  have hB0 : Below W.heap.size W (W.alloc (.cells #[.string c, .int .i64 k, .int .i64 w, .int .i64 v] 35)) := (Below.refl _ W).alloc (Nat.le_refl _) _
  go_enter Try.func33, Try.ntmps33
  go_wp2_with fail
  generalize W.alloc (.cells #[.string c, .int .i64 k, .int .i64 w, .int .i64 v] 35) = W1 at *
  refine (refCurrency_sum W1 c hc).mono ?_
  rintro e w2 ⟨rfl, hw⟩
  subst hw
  have hB1 := Below.refl w2.heap.size w2
  have hB2 := below_step hB0 hB1
  have h2 := (hB1.block _ (Array.getElem?_eq_some_iff.1 hh).1).trans hh
  have k0 : w2.cell? ⟨W.heap.size, 0, none⟩ = some (.string c) := blk_cell h2 0
  have k1 : w2.cell? ⟨W.heap.size, 1, none⟩ = some (.int .i64 k) := blk_cell h2 1
  have k2 : w2.cell? ⟨W.heap.size, 2, none⟩ = some (.int .i64 w) := blk_cell h2 2
  have k3 : w2.cell? ⟨W.heap.size, 3, none⟩ = some (.int .i64 v) := blk_cell h2 3
  clear hh h2 hB0 hB1
  obtain ⟨cb, hcb⟩ : ∃ cb, curB c = cb := ⟨_, rfl⟩
  obtain ⟨eb, heb⟩ : ∃ eb, (c.toList == g.toList) = eb := ⟨_, rfl⟩
  rw [hcb]
  cases cb
  · go_wp2
    all_goals
      go_ret
      exact ⟨by simp [hcb], hB2⟩
  cases eb
  rotate_left
  · go_wp2
    all_goals
      go_ret
      exact ⟨by simp only [hcb, heb]; simp, hB2⟩
  by_cases h1 : v < 1
  · go_wp2
    all_goals
      go_ret
      exact ⟨by simp only [hcb, heb]; simp [h1], hB2⟩
  have d1 : decide (v < 1) = false := decide_eq_false h1
  by_cases hm : 1000000000000 < v
  · go_wp2
    all_goals
      go_ret
      exact ⟨by simp only [hcb, heb]; simp [d1, hm], hB2⟩
  have dm : decide (1000000000000 < v) = false := decide_eq_false hm
  by_cases hk1 : k = 1
  · subst hk1
    go_wp2_with (go_at_call 44; refine (refDate_sum _ w).mono ?_; rintro e w3 ⟨rfl, hw⟩; subst hw)
    all_goals
      go_ret
      exact ⟨by simp only [hcb, heb]; simp [d1, dm], hB2⟩
  have hk1' : (k == 1) = false := by simp [hk1]
  by_cases hk2 : k = 2
  · subst hk2
    by_cases h0 : 0 ≤ w
    · go_wp2
      all_goals
        go_ret
        exact ⟨by simp only [hcb, heb]; simp [d1, dm, h0], hB2⟩
    · have h0' : ¬ (0 : Int) ≤ w := h0
      go_wp2
      all_goals
        go_ret
        exact ⟨by simp only [hcb, heb]; simp [d1, dm]; omega, hB2⟩
  have hk2' : (k == 2) = false := by simp [hk2]
  go_wp2
  all_goals
    go_ret
    exact ⟨by simp only [hcb, heb]; simp [d1, dm, hk1, hk2], hB2⟩
end Go.Proofs.Ytmlekhkgokgpbaa
