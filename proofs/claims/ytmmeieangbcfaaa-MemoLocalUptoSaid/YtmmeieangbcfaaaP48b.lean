/- Layer 48, plain: what a call leaves alone: the cells in progress, and what is kept of them. -/
import Derived.Test.YtmmeieangbcfaaaP48
namespace Go.Proofs.Ytmmeieangbcfaaa
open Go.RowKit Go

def Keeps (s s' : MS) (K : C4 → Prop) : Prop := s'.prog = s.prog ∧ ∀ d, s.prog d = true → K d → s'.kept d = s.kept d
theorem Keeps.refl (s : MS) (K : C4 → Prop) : Keeps s s K := ⟨rfl, fun _ _ _ => rfl⟩
theorem Keeps.trans {s s' s'' : MS} {K : C4 → Prop} (h : Keeps s s' K) (k : Keeps s' s'' K) : Keeps s s'' K :=
  ⟨k.1.trans h.1, fun d hd hK => (k.2 d (by rw [h.1]; exact hd) hK).trans (h.2 d hd hK)⟩
theorem upd_back {α : Type} (f : C4 → α) (c : C4) (x : α) (y : α) (h : f c = y) : upd (upd f c x) c y = f := by
  funext d
  unfold upd
  split
  · rename_i e; rw [e, h]
  · rfl
/-- Started, something done with it, and done. -/
theorem keeps_done {s s' : MS} {c : C4} (hp : s.prog c = false) (h : Keeps (s.start c) s' (fun d => d ≠ c)) : Keeps s (s'.done c) (fun _ => True) := by
  refine ⟨?_, fun d hd _ => ?_⟩
  · show upd s'.prog c false = s.prog
    rw [h.1]
    exact upd_back _ _ _ _ hp
  · have hne : d ≠ c := fun e => by rw [e, hp] at hd; cases hd
    exact h.2 d (by show upd s.prog c true d = true; unfold upd; rw [if_neg hne]; exact hd) hne
theorem Keeps.mono {s s' : MS} {K K' : C4 → Prop} (h : Keeps s s' K) (hK : ∀ d, K' d → K d) : Keeps s s' K' := ⟨h.1, fun d hd hk => h.2 d hd (hK d hk)⟩
theorem keepsM (l : List Fm) : ∀ n, (∀ s c r s', getM l n s c = some (r, s') → Keeps s s' (fun _ => True)) ∧ (∀ s rs b s', sameM l n s rs = some (b, s') → Keeps s s' (fun _ => True)) ∧ (∀ s c r s', evalM l n s c = some (r, s') → Keeps s s' (fun d => d ≠ c)) ∧
    (∀ s fo i ts sum f r s', termsM l n s fo i ts sum f = some (r, s') → Keeps s s'.2 (fun _ => True)) := by
  intro n
  induction n with
  | zero => exact ⟨fun s c r s' h => by simp [getM] at h, fun s rs b s' h => by simp [sameM] at h, fun s c r s' h => by simp [evalM] at h, fun s fo i ts sum f r s' h => by simp [termsM] at h⟩
  | succ n ih =>
    obtain ⟨i1, i2, i3, i4⟩ := ih
    refine ⟨fun s c r s' h => ?_, fun s rs b s' h => ?_, fun s c r s' h => ?_, fun s fo i ts sum f r s' h => ?_⟩
    · unfold getM at h
      split at h
      · obtain ⟨rfl, rfl⟩ := (by simpa using h : _ ∧ _); exact Keeps.refl _ _
      · rename_i hp
        have hp : s.prog c = false := by simpa using hp
        split at h
        · cases h
        · split at h
          · rename_i x hx
            split at h
            · obtain ⟨rfl, rfl⟩ := (by simpa using h : _ ∧ _); exact Keeps.refl _ _
            · split at h
              · split at h
                · rename_i r0 s0 he
                  obtain ⟨rfl, rfl⟩ := (by simpa using h : _ ∧ _)
                  exact keeps_done hp (i3 _ _ _ _ he)
                · cases h
              · split at h
                · rename_i s0 he
                  obtain ⟨rfl, rfl⟩ := (by simpa using h : _ ∧ _)
                  have hk := (i2 _ _ _ _ he).mono (K' := fun d => d ≠ c) (fun _ _ => trivial)
                  refine keeps_done hp ⟨hk.1, fun d hd hne => ?_⟩
                  show upd s0.kept c _ d = _
                  unfold upd
                  rw [if_neg hne]
                  exact hk.2 d hd hne
                · rename_i s0 he
                  split at h
                  · rename_i r1 s1 he1
                    obtain ⟨rfl, rfl⟩ := (by simpa using h : _ ∧ _)
                    exact keeps_done hp (((i2 _ _ _ _ he).mono (fun _ _ => trivial)).trans (i3 _ _ _ _ he1))
                  · cases h
                · cases h
          · split at h
            · rename_i r0 s0 he
              obtain ⟨rfl, rfl⟩ := (by simpa using h : _ ∧ _)
              exact keeps_done hp (i3 _ _ _ _ he)
            · cases h
    · cases rs with
      | nil =>
        unfold sameM at h
        obtain ⟨rfl, rfl⟩ := (by simpa using h : _ ∧ _); exact Keeps.refl _ _
      | cons q rs =>
        unfold sameM at h
        split at h
        · cases h
        · rename_i v e s0 he
          split at h
          · obtain ⟨rfl, rfl⟩ := (by simpa using h : _ ∧ _)
            exact i1 _ _ _ _ he
          · exact (i1 _ _ _ _ he).trans (i2 _ _ _ _ h)
    · unfold evalM at h
      split at h
      · cases h
      · rename_i sum f s0 he
        have hk := (i4 _ _ _ _ _ _ _ _ he).mono (K' := fun d => d ≠ c) (fun _ _ => trivial)
        split at h
        · cases h
        · split at h
          · obtain ⟨rfl, rfl⟩ := (by simpa using h : _ ∧ _)
            refine ⟨hk.1, fun d hd hne => ?_⟩
            show upd s0.kept c none d = _
            unfold upd
            rw [if_neg hne]
            exact hk.2 d hd hne
          · obtain ⟨rfl, rfl⟩ := (by simpa using h : _ ∧ _)
            refine ⟨hk.1, fun d hd hne => ?_⟩
            show upd (upd s0.kept c none) c _ d = _
            unfold upd
            rw [if_neg hne, if_neg hne]
            exact hk.2 d hd hne
    · cases ts with
      | nil =>
        unfold termsM at h
        obtain ⟨rfl, rfl⟩ := (by simpa using h : _ ∧ _); exact Keeps.refl _ _
      | cons t ts =>
        unfold termsM at h
        split at h
        · cases h
        · rename_i v e s0 he
          split at h
          · cases h
          · split at h
            · obtain ⟨rfl, rfl⟩ := (by simpa using h : _ ∧ _)
              exact i1 _ _ _ _ he
            · exact (i1 _ _ _ _ he).trans (i4 _ _ _ _ _ _ _ _ h)
end Go.Proofs.Ytmmeieangbcfaaa
