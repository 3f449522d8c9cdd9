/- Layer 48, plain: on formulas without cycles Get returns the value, and computes what must be computed. -/
import Derived.Test.YtmmeieangbcfaaaP48c
namespace Go.Proofs.Ytmmeieangbcfaaa
open Go.RowKit Go

/-- The terms of a formula, read from g. -/
def runT (g : C4 → Int) (f : Fm) : Nat → List (C4 × Int) → Int → Fr1 → Int × Fr1
  | _, [], sum, fr => (sum, fr)
  | i, t :: ts, sum, fr =>
    if stopV f i (g t.1) = true then (nextV t.2 sum (g t.1), noteF fr t.1 (g t.1) 0) else runT g f (i + 1) ts (nextV t.2 sum (g t.1)) (noteF fr t.1 (g t.1) 0)
def evalG (g : C4 → Int) (f : Fm) : Int := endV f (runT g f 0 f.terms 0 ⟨[], false⟩).1
def readsG (g : C4 → Int) (f : Fm) : List (C4 × Int) := (runT g f 0 f.terms 0 ⟨[], false⟩).2.reads
def ranked (l : List Fm) : Prop := ∀ f ∈ l, ∀ t ∈ f.terms, t.1.st < f.cell.st
def rank (l : List Fm) (c : C4) : Nat := (l.filter fun f => decide (f.cell.st ≤ c.st)).length
theorem findF_mem (l : List Fm) (c : C4) : (findF l c ∈ l ∧ (findF l c).cell = c) ∨ findF l c = ⟨c, [], 0, 0, 0⟩ := by
  unfold findF
  cases h : l.reverse.find? fun f => decide (f.cell = c) with
  | none => exact .inr rfl
  | some f =>
    refine .inl ⟨?_, ?_⟩
    · exact List.mem_reverse.1 (List.mem_of_find?_eq_some h)
    · have := List.find?_some h
      simpa using this
theorem findF_ranked {l : List Fm} (h : ranked l) {c : C4} {t : C4 × Int} (ht : t ∈ (findF l c).terms) : t.1.st < c.st ∧ rank l t.1 < rank l c := by
  rcases findF_mem l c with ⟨h1, h2⟩ | h1
  · have hlt := h _ h1 t ht
    rw [h2] at hlt
    refine ⟨hlt, ?_⟩
    unfold rank
    have hsub : ∀ (m : List Fm), (m.filter fun f => decide (f.cell.st ≤ t.1.st)).length ≤ (m.filter fun f => decide (f.cell.st ≤ c.st)).length := by
      intro m
      induction m with
      | nil => simp
      | cons a m ih =>
        by_cases h3 : a.cell.st ≤ t.1.st
        · rw [List.filter_cons_of_pos (by simpa using h3), List.filter_cons_of_pos (by simp; omega)]
          simp only [List.length_cons]; omega
        · rw [List.filter_cons_of_neg (by simpa using h3)]
          by_cases h4 : a.cell.st ≤ c.st
          · rw [List.filter_cons_of_pos (by simpa using h4)]; simp only [List.length_cons]; omega
          · rw [List.filter_cons_of_neg (by simpa using h4)]; exact ih
    have hstrict : ∀ (m : List Fm), findF l c ∈ m → (m.filter fun f => decide (f.cell.st ≤ t.1.st)).length < (m.filter fun f => decide (f.cell.st ≤ c.st)).length := by
      intro m
      induction m with
      | nil => intro h; cases h
      | cons a m ih =>
        intro hm
        by_cases ha : a = findF l c
        · rw [List.filter_cons_of_neg (by rw [ha, h2]; simp; omega), List.filter_cons_of_pos (by rw [ha, h2]; simp)]
          have := hsub m
          simp only [List.length_cons]; omega
        · have hm' : findF l c ∈ m := by
            rcases List.mem_cons.1 hm with e | e
            · exact absurd e.symm ha
            · exact e
          have := ih hm'
          by_cases h3 : a.cell.st ≤ t.1.st
          · rw [List.filter_cons_of_pos (by simpa using h3), List.filter_cons_of_pos (by simp; omega)]
            simp only [List.length_cons]; omega
          · rw [List.filter_cons_of_neg (by simpa using h3)]
            by_cases h4 : a.cell.st ≤ c.st
            · rw [List.filter_cons_of_pos (by simpa using h4)]; simp only [List.length_cons]; omega
            · rw [List.filter_cons_of_neg (by simpa using h4)]; exact this
    exact hstrict l h1
  · rw [h1] at ht; cases ht
theorem rank_le (l : List Fm) (c : C4) : rank l c ≤ l.length := List.length_filter_le _ _

/-! ### what the terms read -/
theorem noteF_ok (fr : Fr1) (c : C4) (v : Int) : (noteF fr c v 0).failed = fr.failed ∧ (noteF fr c v 0).reads.length ≤ fr.reads.length + 1 ∧ (∀ r ∈ fr.reads, r ∈ (noteF fr c v 0).reads) ∧ (∀ r ∈ (noteF fr c v 0).reads, r ∈ fr.reads ∨ r = (c, v)) := by
  unfold noteF
  rw [if_neg (by decide)]
  split
  · exact ⟨rfl, by omega, fun r h => h, fun r h => .inl h⟩
  · refine ⟨rfl, by simp, fun r h => List.mem_append_left _ h, fun r h => ?_⟩
    rcases List.mem_append.1 h with h | h
    · exact .inl h
    · exact .inr (by simpa using h)
theorem noteF_has (fr : Fr1) (c : C4) (v : Int) : ∃ r ∈ (noteF fr c v 0).reads, r.1 = c := by
  unfold noteF
  rw [if_neg (by decide)]
  split
  · rename_i h
    obtain ⟨r, hr, hc⟩ := List.any_eq_true.1 h
    exact ⟨r, hr, by simpa using hc⟩
  · exact ⟨(c, v), by simp, rfl⟩
theorem runT_sub (g : C4 → Int) (f : Fm) : ∀ (ts : List (C4 × Int)) (i : Nat) (sum : Int) (fr : Fr1), (∀ r ∈ fr.reads, r ∈ (runT g f i ts sum fr).2.reads) := by
  intro ts
  induction ts with
  | nil => intro i sum fr r hr; exact hr
  | cons t ts ih =>
    intro i sum fr r hr
    unfold runT
    split
    · exact (noteF_ok fr t.1 _).2.2.1 r hr
    · exact ih _ _ _ r ((noteF_ok fr t.1 _).2.2.1 r hr)
/-- What is read has its value; the cells that are read are cells of terms. -/
theorem runT_reads (g : C4 → Int) (f : Fm) : ∀ (ts : List (C4 × Int)) (i : Nat) (sum : Int) (fr : Fr1), (∀ r ∈ fr.reads, r.2 = g r.1) →
    (∀ r ∈ (runT g f i ts sum fr).2.reads, r.2 = g r.1 ∧ (r ∈ fr.reads ∨ ∃ t ∈ ts, t.1 = r.1)) ∧ (runT g f i ts sum fr).2.reads.length ≤ fr.reads.length + ts.length ∧ (runT g f i ts sum fr).2.failed = fr.failed := by
  intro ts
  induction ts with
  | nil => intro i sum fr h; exact ⟨fun r hr => ⟨h r hr, .inl hr⟩, by simp [runT], rfl⟩
  | cons t ts ih =>
    intro i sum fr h
    obtain ⟨n1, n2, n3, n4⟩ := noteF_ok fr t.1 (g t.1)
    have hn : ∀ r ∈ (noteF fr t.1 (g t.1) 0).reads, r.2 = g r.1 := fun r hr => by
      rcases n4 r hr with h' | rfl
      · exact h r h'
      · rfl
    unfold runT
    split
    · refine ⟨fun r hr => ⟨hn r hr, ?_⟩, by simp only [List.length_cons]; omega, n1⟩
      rcases n4 r hr with h' | rfl
      · exact .inl h'
      · exact .inr ⟨t, List.mem_cons_self, rfl⟩
    · obtain ⟨k1, k2, k3⟩ := ih (i + 1) (nextV t.2 sum (g t.1)) (noteF fr t.1 (g t.1) 0) hn
      refine ⟨fun r hr => ⟨(k1 r hr).1, ?_⟩, by simp only [List.length_cons]; omega, k3.trans n1⟩
      rcases (k1 r hr).2 with h' | ⟨t', ht', e⟩
      · rcases n4 r h' with h'' | rfl
        · exact .inl h''
        · exact .inr ⟨t, List.mem_cons_self, rfl⟩
      · exact .inr ⟨t', List.mem_cons_of_mem _ ht', e⟩
/-- The same reads give the same. -/
theorem runT_replay (g g' : C4 → Int) (f : Fm) : ∀ (ts : List (C4 × Int)) (i : Nat) (sum : Int) (fr : Fr1), (∀ r ∈ (runT g f i ts sum fr).2.reads, g' r.1 = r.2) → (∀ r ∈ fr.reads, r.2 = g r.1) → runT g' f i ts sum fr = runT g f i ts sum fr := by
  intro ts
  induction ts with
  | nil => intro i sum fr _ _; rfl
  | cons t ts ih =>
    intro i sum fr h hfr
    obtain ⟨n1, n2, n3, n4⟩ := noteF_ok fr t.1 (g t.1)
    have hn : ∀ r ∈ (noteF fr t.1 (g t.1) 0).reads, r.2 = g r.1 := fun r hr => by
      rcases n4 r hr with h' | rfl
      · exact hfr r h'
      · rfl
    have hsub : ∀ r ∈ (noteF fr t.1 (g t.1) 0).reads, r ∈ (runT g f i (t :: ts) sum fr).2.reads := fun r hr => by
      unfold runT
      split
      · exact hr
      · exact runT_sub g f ts _ _ _ r hr
    have ht : g' t.1 = g t.1 := by
      obtain ⟨r, hr, hc⟩ := noteF_has fr t.1 (g t.1)
      have h1 := h r (hsub r hr)
      have h2 := hn r hr
      rw [hc] at h1 h2
      rw [h1, h2]
    unfold runT at h ⊢
    rw [ht]
    split
    · rfl
    · rename_i hs
      rw [if_neg hs] at h
      exact ih _ _ _ h hn
theorem reads_val {g : C4 → Int} {f : Fm} {r : C4 × Int} (hr : r ∈ readsG g f) : r.2 = g r.1 ∧ ∃ t ∈ f.terms, t.1 = r.1 := by
  have h := (runT_reads g f f.terms 0 0 ⟨[], false⟩ (fun r h => by cases h)).1 r hr
  refine ⟨h.1, ?_⟩
  rcases h.2 with h | h
  · cases h
  · exact h
theorem reads_len (g : C4 → Int) (f : Fm) : (readsG g f).length ≤ f.terms.length := by
  have h := (runT_reads g f f.terms 0 0 ⟨[], false⟩ (fun r h => by cases h)).2.1
  simpa [readsG] using h
theorem replay {g g' : C4 → Int} {f : Fm} (h : ∀ r ∈ readsG g f, g' r.1 = r.2) : evalG g' f = evalG g f ∧ readsG g' f = readsG g f := by
  have h := runT_replay g g' f f.terms 0 0 ⟨[], false⟩ h (fun r h => by cases h)
  unfold evalG readsG
  rw [h]
  exact ⟨rfl, rfl⟩

/-! ### the values of a sheet without cycles -/
def valF (l : List Fm) : Nat → C4 → Int
  | 0, _ => 0
  | n + 1, c => evalG (valF l n) (findF l c)
theorem runT_congr (g g' : C4 → Int) (f : Fm) : ∀ (ts : List (C4 × Int)) (i : Nat) (sum : Int) (fr : Fr1), (∀ t ∈ ts, g t.1 = g' t.1) → runT g f i ts sum fr = runT g' f i ts sum fr := by
  intro ts
  induction ts with
  | nil => intro i sum fr _; rfl
  | cons t ts ih =>
    intro i sum fr h
    unfold runT
    rw [h t List.mem_cons_self, ih _ _ _ (fun t ht => h t (List.mem_cons_of_mem _ ht))]
theorem evalG_congr {g g' : C4 → Int} {f : Fm} (h : ∀ t ∈ f.terms, g t.1 = g' t.1) : evalG g f = evalG g' f := by
  unfold evalG
  rw [runT_congr g g' f f.terms 0 0 _ h]
theorem valF_stable {l : List Fm} (hl : ranked l) : ∀ k c n m, rank l c < k → k ≤ n → k ≤ m → valF l n c = valF l m c := by
  intro k
  induction k with
  | zero => intro c n m h; omega
  | succ k ih =>
    intro c n m h hn hm
    obtain ⟨n, rfl⟩ : ∃ n', n = n' + 1 := ⟨n - 1, by omega⟩
    obtain ⟨m, rfl⟩ : ∃ m', m = m' + 1 := ⟨m - 1, by omega⟩
    unfold valF
    exact evalG_congr fun t ht => ih t.1 n m (by have := (findF_ranked hl ht).2; omega) (by omega) (by omega)
def valV (l : List Fm) (c : C4) : Int := valF l (l.length + 1) c
theorem valV_eq {l : List Fm} (hl : ranked l) (c : C4) : valV l c = evalG (valV l) (findF l c) := by
  show valF l (l.length + 1) c = _
  unfold valF
  exact evalG_congr fun t ht => valF_stable hl (rank l t.1 + 1) t.1 _ _ (by omega) (by have := (findF_ranked hl ht).2; have := rank_le l c; omega) (by have := rank_le l t.1; omega)
end Go.Proofs.Ytmmeieangbcfaaa
