/- Layer 48, plain: values are numbers of 64 bits. -/
import Derived.Test.YtmmeieangbcfaaaP48b
namespace Go.Proofs.Ytmmeieangbcfaaa
open Go.RowKit Go

def Wf64 (v : Int) : Prop := (Lit.int .i64 v).wf = true
def WfS (s : MS) : Prop := ∀ c x, s.kept c = some x → Wf64 x.value
theorem wf0 : Wf64 0 := by unfold Wf64; decide
theorem wf64_in {v : Int} (h : -9223372036854775808 ≤ v ∧ v ≤ 9223372036854775807) : Wf64 v := by
  simp [Wf64, Lit.wf, IntKind.min, IntKind.max, IntKind.signed, IntKind.bits]; omega
theorem wf64_out {v : Int} (h : Wf64 v) : -9223372036854775808 ≤ v ∧ v ≤ 9223372036854775807 := by
  simp [Wf64, Lit.wf, IntKind.min, IntKind.max, IntKind.signed, IntKind.bits] at h; omega
theorem wf_endV (f : Fm) (sum : Int) : Wf64 (endV f sum) := by
  have hw : -9223372036854775808 ≤ wrap64 (sum + f.add) ∧ wrap64 (sum + f.add) ≤ 9223372036854775807 := by
    unfold wrap64
    omega
  unfold endV
  split
  · rename_i h
    apply wf64_in
    generalize wrap64 (sum + f.add) = a at hw
    rcases Int.le_total 0 a with h0 | h0
    · have h1 := Int.tmod_nonneg f.md h0
      have h2 : a.tmod f.md ≤ a := by
        rw [Int.tmod_eq_emod_of_nonneg h0]
        by_cases h3 : a < f.md
        · rw [Int.emod_eq_of_lt h0 h3]; omega
        · have := Int.emod_lt_of_pos a (show 0 < f.md by omega); omega
      omega
    · have e : a.tmod f.md = -((-a).tmod f.md) := by rw [Int.neg_tmod, Int.neg_neg]
      have h0' : 0 ≤ -a := by omega
      have h1 := Int.tmod_nonneg f.md h0'
      have h2 : (-a).tmod f.md ≤ -a := by
        rw [Int.tmod_eq_emod_of_nonneg h0']
        by_cases h3 : -a < f.md
        · rw [Int.emod_eq_of_lt h0' h3]; omega
        · have := Int.emod_lt_of_pos (-a) (show 0 < f.md by omega); omega
      omega
  · exact wf64_in hw
theorem WfS.upd {s s' : MS} {c : C4} {o : Option Ent} (h : WfS s) (hk : s'.kept = upd s.kept c o) (ho : ∀ x, o = some x → Wf64 x.value) : WfS s' := by
  intro d x hx
  rw [hk] at hx
  unfold Go.Proofs.Ytmmeieangbcfaaa.upd at hx
  split at hx
  · exact ho x hx
  · exact h d x hx
theorem WfS.same {s s' : MS} (h : WfS s) (hk : s'.kept = s.kept) : WfS s' := fun d x hx => h d x (by rw [← hk]; exact hx)
theorem WfS.drop {s : MS} (h : WfS s) (c : C4) : WfS (s.drop c) := h.upd (c := c) (o := none) rfl (fun x hx => by cases hx)
theorem wfM (l : List Fm) : ∀ n, (∀ s c r s', WfS s → getM l n s c = some (r, s') → Wf64 r.1 ∧ (r.2 = 0 ∨ r.2 = 7 ∧ r.1 = 0) ∧ WfS s') ∧ (∀ s rs b s', WfS s → sameM l n s rs = some (b, s') → WfS s') ∧ (∀ s c r s', WfS s → evalM l n s c = some (r, s') → Wf64 r.1 ∧ (r.2 = 0 ∨ r.2 = 7 ∧ r.1 = 0) ∧ WfS s') ∧
    (∀ s fo i ts sum f r s', WfS s → termsM l n s fo i ts sum f = some (r, s') → WfS s'.2) := by
  intro n
  induction n with
  | zero => exact ⟨fun s c r s' _ h => by simp [getM] at h, fun s rs b s' _ h => by simp [sameM] at h, fun s c r s' _ h => by simp [evalM] at h, fun s fo i ts sum f r s' _ h => by simp [termsM] at h⟩
  | succ n ih =>
    obtain ⟨i1, i2, i3, i4⟩ := ih
    refine ⟨fun s c r s' hw h => ?_, fun s rs b s' hw h => ?_, fun s c r s' hw h => ?_, fun s fo i ts sum f r s' hw h => ?_⟩
    · have hws : WfS (s.start c) := hw.same rfl
      unfold getM at h
      split at h
      · obtain ⟨rfl, rfl⟩ := (by simpa using h : _ ∧ _); exact ⟨wf0, .inr ⟨rfl, rfl⟩, hw⟩
      · split at h
        · cases h
        · split at h
          · rename_i x hx
            split at h
            · obtain ⟨rfl, rfl⟩ := (by simpa using h : _ ∧ _); exact ⟨hw _ _ hx, .inl rfl, hw⟩
            · split at h
              · split at h
                · rename_i r0 s0 he
                  obtain ⟨rfl, rfl⟩ := (by simpa using h : _ ∧ _)
                  have := i3 _ _ _ _ hws he
                  exact ⟨this.1, this.2.1, this.2.2.same rfl⟩
                · cases h
              · split at h
                · rename_i s0 he
                  obtain ⟨rfl, rfl⟩ := (by simpa using h : _ ∧ _)
                  have := i2 _ _ _ _ hws he
                  refine ⟨hw _ _ hx, .inl rfl, (this.upd (s' := s0.check c x) (c := c) rfl (fun y hy => ?_)).same rfl⟩
                  obtain rfl := Option.some.inj hy
                  exact (hw _ _ hx : Wf64 x.value)
                · rename_i s0 he
                  split at h
                  · rename_i r1 s1 he1
                    obtain ⟨rfl, rfl⟩ := (by simpa using h : _ ∧ _)
                    have := i3 _ _ _ _ (i2 _ _ _ _ hws he) he1
                    exact ⟨this.1, this.2.1, this.2.2.same rfl⟩
                  · cases h
                · cases h
          · split at h
            · rename_i r0 s0 he
              obtain ⟨rfl, rfl⟩ := (by simpa using h : _ ∧ _)
              have := i3 _ _ _ _ hws he
              exact ⟨this.1, this.2.1, this.2.2.same rfl⟩
            · cases h
    · cases rs with
      | nil =>
        unfold sameM at h
        obtain ⟨rfl, rfl⟩ := (by simpa using h : _ ∧ _); exact hw
      | cons q rs =>
        unfold sameM at h
        split at h
        · cases h
        · rename_i v e s0 he
          split at h
          · obtain ⟨rfl, rfl⟩ := (by simpa using h : _ ∧ _)
            exact (i1 _ _ _ _ hw he).2.2
          · exact i2 _ _ _ _ (i1 _ _ _ _ hw he).2.2 h
    · unfold evalM at h
      split at h
      · cases h
      · rename_i sum f s0 he
        have hk := i4 _ _ _ _ _ _ _ _ hw he
        split at h
        · cases h
        · split at h
          · obtain ⟨rfl, rfl⟩ := (by simpa using h : _ ∧ _)
            exact ⟨wf0, .inr ⟨rfl, rfl⟩, hk.drop c⟩
          · obtain ⟨rfl, rfl⟩ := (by simpa using h : _ ∧ _)
            refine ⟨wf_endV _ _, .inl rfl, (hk.drop c).upd (c := c) rfl (fun x hx => ?_)⟩
            obtain rfl := Option.some.inj hx
            exact wf_endV _ _
    · cases ts with
      | nil =>
        unfold termsM at h
        obtain ⟨rfl, rfl⟩ := (by simpa using h : _ ∧ _); exact hw
      | cons t ts =>
        unfold termsM at h
        split at h
        · cases h
        · rename_i v e s0 he
          split at h
          · cases h
          · split at h
            · obtain ⟨rfl, rfl⟩ := (by simpa using h : _ ∧ _)
              exact (i1 _ _ _ _ hw he).2.2
            · exact i4 _ _ _ _ _ _ _ _ (i1 _ _ _ _ hw he).2.2 h
end Go.Proofs.Ytmmeieangbcfaaa
