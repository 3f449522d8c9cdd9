/- Layer 55: the contracts of the reference's Head, Verify, and of awake. -/
import Derived.Test.YtlfloekanfhlfaaGreatC55d
namespace Go.Proofs.YtlfloekanfhlfaaGreat
open Go.RowKit Go Go.Shelf

theorem linksI_length (rs : List (List Int)) : (linksI rs).length = rs.length := by simp [linksI, linksN]
theorem linksI_get (rs : List (List Int)) (k : Nat) (h : k < rs.length) : (linksI rs)[k]?.getD 0 = headI (rs.take (k + 1)) := by
  simp [linksI, linksN, h]

theorem matchN_at : ∀ (l m : List Int) (k : Nat), l.take k = m.take k → (l.length ≤ k ∨ m.length ≤ k ∨ k < l.length ∧ k < m.length ∧ l[k]?.getD 0 ≠ m[k]?.getD 0) → k ≤ l.length → k ≤ m.length → matchN l m = k
  | l, m, 0, _, h, _, _ => by
    rcases h with h | h | ⟨h1, h2, h3⟩
    · have : l = [] := List.eq_nil_of_length_eq_zero (by omega)
      subst this; cases m <;> rfl
    · have : m = [] := List.eq_nil_of_length_eq_zero (by omega)
      subst this; cases l <;> rfl
    · match l, m, h1, h2 with
      | a :: l, b :: m, _, _ =>
        have : a ≠ b := by simpa using h3
        simp [matchN, this]
  | [], _, k + 1, _, _, h, _ => by simp at h
  | _ :: _, [], k + 1, _, _, _, h => by simp at h
  | a :: l, b :: m, k + 1, he, h, hl, hm => by
    simp only [List.take_succ_cons, List.cons.injEq] at he
    obtain ⟨rfl, he⟩ := he
    have := matchN_at l m k he (by simpa using h) (by simpa using hl) (by simpa using hm)
    simp [matchN, this]

end Go.Proofs.YtlfloekanfhlfaaGreat
