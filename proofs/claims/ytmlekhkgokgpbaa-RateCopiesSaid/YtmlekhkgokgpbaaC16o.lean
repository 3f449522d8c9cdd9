/- Layer 16, plain: the order of keys is a total order. -/
import Derived.Test.YtmlekhkgokgpbaaC16m
import Derived.Sort.Walk0
import Derived.Shelf.SlSortCmp.NoneTotal
namespace Go.Proofs.Ytmlekhkgokgpbaa
open Go.RowKit Go

theorem cmpS_cases (a b : ByteArray) : (a.toList < b.toList ∧ cmpS a b = -1) ∨ (a.toList = b.toList ∧ cmpS a b = 0) ∨ (b.toList < a.toList ∧ cmpS a b = 1) := by
  unfold cmpS
  rw [bytesLess_eq]
  by_cases h1 : a.toList < b.toList
  · exact .inl ⟨h1, by rw [decide_eq_true h1]; rfl⟩
  · rw [decide_eq_false h1]
    by_cases h2 : a.toList = b.toList
    · exact .inr (.inl ⟨h2, by simp [h2]⟩)
    · refine .inr (.inr ⟨?_, by simp [h2]⟩)
      by_cases h3 : b.toList < a.toList
      · exact h3
      · exact absurd (List.le_antisymm (List.not_lt.1 h3) (List.not_lt.1 h1)) h2
def keyLt (x y : K3) : Prop := x.cur.toList < y.cur.toList ∨ (x.cur.toList = y.cur.toList ∧ (x.kind < y.kind ∨ (x.kind = y.kind ∧ x.when_ < y.when_)))
theorem befI_lt (x y : K3) : befI x y < 0 ↔ keyLt x y := by
  unfold befI keyLt orI cmpI
  rcases cmpS_cases x.cur y.cur with ⟨h, e⟩ | ⟨h, e⟩ | ⟨h, e⟩
  · rw [e]; simp [h]
  · rw [e, h]
    have hi : ¬ y.cur.toList < y.cur.toList := List.lt_irrefl _
    by_cases h1 : x.kind < y.kind
    · simp [h1]
    · by_cases h2 : y.kind < x.kind
      · have : ¬ x.kind = y.kind := by omega
        simp [h1, h2, this, hi]
      · have : x.kind = y.kind := by omega
        by_cases h3 : x.when_ < y.when_
        · simp [h3, this]
        · by_cases h4 : y.when_ < x.when_ <;> simp [h3, h4, this, hi]
  · have hn : ¬ x.cur.toList < y.cur.toList := fun h' => List.lt_irrefl _ (List.lt_trans h h')
    have hne : ¬ x.cur.toList = y.cur.toList := fun h' => by rw [h'] at h; exact List.lt_irrefl _ h
    rw [e]; simp [hn, hne]
end Go.Proofs.Ytmlekhkgokgpbaa
