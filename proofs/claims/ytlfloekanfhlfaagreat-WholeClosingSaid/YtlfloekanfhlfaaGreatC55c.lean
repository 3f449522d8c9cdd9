/- Layer 55: the contracts of Collect, Links, Head, Verify: for every records (at most a million), nothing that was there is changed. -/
import Derived.Test.YtlfloekanfhlfaaGreatC55b
namespace Go.Proofs.YtlfloekanfhlfaaGreat
open Go.RowKit Go Go.Shelf
attribute [local go_sem] Oper.semAt_some

def lastU (l : List U64) : Int := (l.map (·.1)).getLast?.getD 29793
theorem lastU_snoc (l : List U64) (x : U64) : lastU (l ++ [x]) = x.1 := by simp [lastU]
theorem lastU_links (rs : List (List Int)) : lastU (linksU rs rs.length) = headI rs := by
  cases h : rs.length with
  | zero => have : rs = [] := List.eq_nil_of_length_eq_zero h; subst this; rfl
  | succ n => rw [linksU_succ, lastU_snoc]; simp [linkU, ← h]

/-- How many links are right. -/
def matchN : List Int → List Int → Nat
  | a :: p, b :: q => if a = b then matchN p q + 1 else 0
  | _, _ => 0
theorem matchN_prefix : ∀ (p l : List Int), p <+: l → matchN l p = p.length
  | [], l, _ => by cases l <;> rfl
  | a :: p, [], h => by simp at h
  | a :: p, b :: l, h => by
    rw [List.cons_prefix_cons] at h
    obtain ⟨rfl, h⟩ := h
    simp [matchN, matchN_prefix p l h]
theorem matchN_stop : ∀ (p l r : List Int) (x : Int), p <+: l → (l.length ≤ p.length ∨ l[p.length]?.getD 0 ≠ x ∧ p.length < l.length) → matchN l (p ++ x :: r) = p.length
  | [], [], r, x, _, h => rfl
  | [], b :: l, r, x, _, h => by
    have : b ≠ x := by simpa using h
    simp [matchN, this]
  | a :: p, [], r, x, h, _ => by simp at h
  | a :: p, b :: l, r, x, h, hs => by
    rw [List.cons_prefix_cons] at h
    obtain ⟨rfl, h⟩ := h
    have := matchN_stop p l r x h (by simpa using hs)
    simp [matchN, this]

end Go.Proofs.YtlfloekanfhlfaaGreat
