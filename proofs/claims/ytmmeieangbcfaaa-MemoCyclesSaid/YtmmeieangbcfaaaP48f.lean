/- Layer 48, plain: formulas that read each other in a circle. -/
import Derived.Test.YtmmeieangbcfaaaP48e
namespace Go.Proofs.Ytmmeieangbcfaaa
open Go.RowKit Go

def cyT (c t : C4) : Fm := ⟨c, [(t, 1)], 0, 0, -1⟩
/-- Nothing is kept. -/
def Bare (s : MS) : Prop := ∀ d, s.kept d = none
theorem stop_neg (c t : C4) (i : Nat) (v : Int) : stopV (cyT c t) i v = false := by
  unfold stopV cyT
  have : ¬ ((i : Int) = -1) := by omega
  simp [this]
/-- A cell that reads one that fails. -/
theorem cy_fail {l : List Fm} {n : Nat} {s s1 : MS} {c t : C4} (hf : findF l c = cyT c t) (hp : s.prog c = false) (hpn : s.pn < most) (hk : Bare s) (hg : getM l n (s.start c) t = some ((0, 7), s1)) (h1 : Bare s1) (hpr : s1.prog = (s.start c).prog) (hpp : s1.pn = (s.start c).pn) (hn : s1.n < most) (hc : s1.comp.length < most) (hn1 : 1 ≤ n) :
    ∃ s', getM l (n + 3) s c = some ((0, 7), s') ∧ Bare s' ∧ s'.n = s1.n ∧ s'.prog = s.prog ∧ s'.pn = s.pn ∧ s'.comp.length = s1.comp.length + 1 := by
  obtain ⟨n, rfl⟩ : ∃ m, n = m + 1 := ⟨n - 1, by omega⟩
  refine ⟨(s1.drop c).done c, ?_, fun d => ?_, ?_, ?_, ?_, ?_⟩
  · unfold getM
    rw [if_neg (by rw [hp]; simp), if_neg (by omega), hk c]
    simp only
    unfold evalM
    rw [hf]
    have ht : termsM l (n + 1 + 1) (s.start c) (cyT c t) 0 (cyT c t).terms 0 ⟨[], false⟩ = some (nextV 1 0 0, noteF ⟨[], false⟩ t 0 7, s1) := by
      show termsM l (n + 1 + 1) (s.start c) (cyT c t) 0 [(t, 1)] 0 ⟨[], false⟩ = _
      unfold termsM
      simp only [hg]
      rw [if_neg (by unfold most; simp), if_neg (by rw [stop_neg]; simp)]
      unfold termsM
      rfl
    simp only [ht]
    rw [if_neg (by omega)]
    rfl
  · show upd s1.kept c none d = none
    unfold upd
    split
    · rfl
    · exact h1 d
  · show (if (s1.kept c).isSome = true then s1.n - 1 else s1.n) = s1.n
    rw [h1 c]; rfl
  · show upd s1.prog c false = s.prog
    rw [hpr]
    exact upd_back _ _ _ _ hp
  · show (if s1.prog c = true then s1.pn - 1 else s1.pn) = s.pn
    have e : s1.prog c = true := by rw [hpr]; show upd s.prog c true c = true; unfold upd; rw [if_pos rfl]
    rw [if_pos e, hpp]
    show (if s.prog c = true then s.pn else s.pn + 1) - 1 = s.pn
    rw [hp]; simp
  · show (s1.comp ++ [c]).length = _
    simp
theorem filter_start (cells : List C4) (s : MS) (c : C4) (hc : c ∈ cells) (hp : s.prog c = false) : (cells.filter fun d => !(s.start c).prog d).length + 1 ≤ (cells.filter fun d => !s.prog d).length := by
  have hsub : ∀ (m : List C4), (m.filter fun d => !(s.start c).prog d).length ≤ (m.filter fun d => !s.prog d).length := by
    intro m
    induction m with
    | nil => simp
    | cons a m ih =>
      by_cases ha : a = c
      · rw [List.filter_cons_of_neg (by rw [ha]; show ¬ (!upd s.prog c true c) = true; unfold upd; rw [if_pos rfl]; simp), List.filter_cons_of_pos (by rw [ha, hp]; rfl)]
        simp only [List.length_cons]; omega
      · have e : (s.start c).prog a = s.prog a := by show upd s.prog c true a = _; unfold upd; rw [if_neg ha]
        cases h : s.prog a
        · rw [List.filter_cons_of_pos (by rw [e, h]; rfl), List.filter_cons_of_pos (by rw [h]; rfl)]
          simp only [List.length_cons]; omega
        · rw [List.filter_cons_of_neg (by rw [e, h]; simp), List.filter_cons_of_neg (by rw [h]; simp)]; exact ih
  induction cells with
  | nil => cases hc
  | cons a m ih =>
    by_cases ha : a = c
    · rw [List.filter_cons_of_neg (by rw [ha]; show ¬ (!upd s.prog c true c) = true; unfold upd; rw [if_pos rfl]; simp), List.filter_cons_of_pos (by rw [ha, hp]; rfl)]
      have := hsub m
      simp only [List.length_cons]; omega
    · have hm : c ∈ m := by
        rcases List.mem_cons.1 hc with e | e
        · exact absurd e.symm ha
        · exact e
      have := ih hm
      have e : (s.start c).prog a = s.prog a := by show upd s.prog c true a = _; unfold upd; rw [if_neg ha]
      cases h : s.prog a
      · rw [List.filter_cons_of_pos (by rw [e, h]; rfl), List.filter_cons_of_pos (by rw [h]; rfl)]
        simp only [List.length_cons]; omega
      · rw [List.filter_cons_of_neg (by rw [e, h]; simp), List.filter_cons_of_neg (by rw [h]; simp)]; exact this
/-- Get of a cell on a circle. -/
theorem cy_get {l : List Fm} {cells : List C4} (hl : ∀ c ∈ cells, ∃ t ∈ cells, findF l c = cyT c t) : ∀ m s c n, c ∈ cells → (cells.filter fun d => !s.prog d).length ≤ m → Bare s → s.pn + m < most → s.comp.length + m < most → s.n < most → 3 * m + 1 ≤ n →
    ∃ s', getM l n s c = some ((0, 7), s') ∧ Bare s' ∧ s'.n = s.n ∧ s'.prog = s.prog ∧ s'.pn = s.pn ∧ s'.comp.length ≤ s.comp.length + m := by
  intro m
  induction m with
  | zero =>
    intro s c n hc hm hk hpn hco hn hf
    obtain ⟨n, rfl⟩ : ∃ k, n = k + 1 := ⟨n - 1, by omega⟩
    cases hp : s.prog c with
    | false => have := filter_start cells s c hc hp; omega
    | true =>
      refine ⟨s, ?_, hk, rfl, rfl, rfl, by omega⟩
      unfold getM
      rw [if_pos hp]
  | succ m ih =>
    intro s c n hc hm hk hpn hco hn hf
    cases hp : s.prog c with
    | true =>
      obtain ⟨n, rfl⟩ : ∃ k, n = k + 1 := ⟨n - 1, by omega⟩
      refine ⟨s, ?_, hk, rfl, rfl, rfl, by omega⟩
      unfold getM
      rw [if_pos hp]
    | false =>
      obtain ⟨n, rfl⟩ : ∃ k, n = k + 3 := ⟨n - 3, by omega⟩
      obtain ⟨t, ht, hfc⟩ := hl c hc
      have hs := filter_start cells s c hc hp
      have hpS : (s.start c).pn = s.pn + 1 := by show (if s.prog c = true then s.pn else s.pn + 1) = _; rw [hp]; simp
      obtain ⟨s1, h1, h2, h3, h4, h5, h6⟩ := ih (s.start c) t n ht (by omega) hk (by rw [hpS]; omega) (by show s.comp.length + m < most; omega) hn (by omega)
      have h6 : s1.comp.length ≤ s.comp.length + m := h6
      have h3 : s1.n = s.n := h3
      obtain ⟨s', k1, k2, k3, k4, k5, k6⟩ := cy_fail hfc hp (by omega) hk h1 h2 h4 h5 (by omega) (by omega) (by omega)
      exact ⟨s', k1, k2, k3.trans h3, k4, k5, by omega⟩
/-- Get of a cell that reads one on a circle. -/
theorem cy_read {l : List Fm} {cells : List C4} (hl : ∀ c ∈ cells, ∃ t ∈ cells, findF l c = cyT c t) (s : MS) (r t : C4) (n : Nat) (ht : t ∈ cells) (hf : findF l r = cyT r t) (hp : ∀ d, s.prog d = false) (hk : Bare s) (hpn : s.pn + cells.length + 1 < most) (hco : s.comp.length + cells.length + 1 < most) (hn : s.n < most) (hfu : 3 * cells.length + 4 ≤ n) :
    ∃ s', getM l n s r = some ((0, 7), s') ∧ Bare s' ∧ s'.n = s.n ∧ s'.prog = s.prog ∧ s'.pn = s.pn ∧ s'.comp.length ≤ s.comp.length + cells.length + 1 := by
  obtain ⟨n, rfl⟩ : ∃ k, n = k + 3 := ⟨n - 3, by omega⟩
  have hpS : (s.start r).pn = s.pn + 1 := by show (if s.prog r = true then s.pn else s.pn + 1) = _; rw [hp r]; simp
  obtain ⟨s1, h1, h2, h3, h4, h5, h6⟩ := cy_get hl cells.length (s.start r) t n ht (List.length_filter_le _ _) hk (by rw [hpS]; omega) (by show s.comp.length + _ < most; omega) hn (by omega)
  have h6 : s1.comp.length ≤ s.comp.length + cells.length := h6
  have h3 : s1.n = s.n := h3
  obtain ⟨s', k1, k2, k3, k4, k5, k6⟩ := cy_fail hf (hp r) (by omega) hk h1 h2 h4 h5 (by omega) (by omega) (by omega)
  exact ⟨s', k1, k2, k3.trans h3, k4, k5, by omega⟩

/-! ### the circle is broken -/
theorem small_next {v : Int} (h : -32768 ≤ v ∧ v ≤ 32767) : nextV 1 0 v = v ∧ endV ⟨⟨0, 0, 0, 0⟩, [], 0, 0, -1⟩ v = v := by
  have e1 : v.tmod 1000000 = v := by
    rcases Int.le_total 0 v with h0 | h0
    · rw [Int.tmod_eq_emod_of_nonneg h0]; omega
    · have : v.tmod 1000000 = -((-v).tmod 1000000) := by rw [Int.neg_tmod, Int.neg_neg]
      rw [this, Int.tmod_eq_emod_of_nonneg (by omega)]; omega
  have e2 : v.tmod 1000000000 = v := by
    rcases Int.le_total 0 v with h0 | h0
    · rw [Int.tmod_eq_emod_of_nonneg h0]; omega
    · have : v.tmod 1000000000 = -((-v).tmod 1000000000) := by rw [Int.neg_tmod, Int.neg_neg]
      rw [this, Int.tmod_eq_emod_of_nonneg (by omega)]; omega
  have e3 : ∀ x : Int, -9223372036854775808 ≤ x ∧ x ≤ 9223372036854775807 → wrap64 x = x := fun x hx => by unfold wrap64; omega
  refine ⟨?_, ?_⟩
  · unfold nextV
    rw [e1, e3 (1 * v) (by omega), e3 (0 + 1 * v) (by omega)]
    rw [show (0 : Int) + 1 * v = v by omega, e2]
  · unfold endV
    simp only
    rw [if_neg (by decide), e3 (v + 0) (by omega)]; omega
theorem endV_cy {v : Int} (h : -32768 ≤ v ∧ v ≤ 32767) (c t : C4) : endV (cyT c t) v = v := (small_next h).2
/-- A cell that reads one that has a value. -/
theorem cy_ok {l : List Fm} {n : Nat} {s s1 : MS} {c t : C4} {v : Int} (hv : -32768 ≤ v ∧ v ≤ 32767) (hf : findF l c = cyT c t) (hp : s.prog c = false) (hpn : s.pn < most) (hk : s.kept c = none) (hg : getM l n (s.start c) t = some ((v, 0), s1)) (h1 : s1.kept c = none) (hpr : s1.prog = (s.start c).prog) (hpp : s1.pn = (s.start c).pn) (hn : s1.n < most) (hc : s1.comp.length < most) (hn1 : 1 ≤ n) :
    ∃ s', getM l (n + 3) s c = some ((v, 0), s') ∧ (∀ d, d ≠ c → s'.kept d = s1.kept d) ∧ s'.n = s1.n + 1 ∧ s'.prog = s.prog ∧ s'.pn = s.pn ∧ s'.comp.length = s1.comp.length + 1 := by
  obtain ⟨n, rfl⟩ : ∃ m, n = m + 1 := ⟨n - 1, by omega⟩
  refine ⟨((s1.drop c).keep c ⟨v, [(t, v)], true, false⟩).done c, ?_, fun d hd => ?_, ?_, ?_, ?_, ?_⟩
  · unfold getM
    rw [if_neg (by rw [hp]; simp), if_neg (by omega), hk]
    simp only
    unfold evalM
    rw [hf]
    have ht : termsM l (n + 1 + 1) (s.start c) (cyT c t) 0 (cyT c t).terms 0 ⟨[], false⟩ = some (v, ⟨[(t, v)], false⟩, s1) := by
      show termsM l (n + 1 + 1) (s.start c) (cyT c t) 0 [(t, 1)] 0 ⟨[], false⟩ = _
      unfold termsM
      simp only [hg]
      rw [if_neg (by unfold most; simp), if_neg (by rw [stop_neg]; simp), (small_next hv).1]
      unfold termsM
      rfl
    simp only [ht]
    rw [if_neg (by omega), if_neg (by simp), endV_cy hv]
  · show upd (upd s1.kept c none) c _ d = _
    unfold upd
    rw [if_neg hd, if_neg hd]
  · show (if (upd s1.kept c none c).isSome = true then _ else (if (s1.kept c).isSome = true then s1.n - 1 else s1.n) + 1) = _
    have e0 : (upd s1.kept c none c).isSome = false := by unfold upd; rw [if_pos rfl]; rfl
    rw [e0, h1]
    simp
  · show upd s1.prog c false = s.prog
    rw [hpr]
    exact upd_back _ _ _ _ hp
  · show (if s1.prog c = true then s1.pn - 1 else s1.pn) = s.pn
    have e : s1.prog c = true := by rw [hpr]; show upd s.prog c true c = true; unfold upd; rw [if_pos rfl]
    rw [if_pos e, hpp]
    show (if s.prog c = true then s.pn else s.pn + 1) - 1 = s.pn
    rw [hp]; simp
  · show (s1.comp ++ [c]).length = _
    simp
/-- The cell whose formula has no terms. -/
theorem cy_last {l : List Fm} {s : MS} {c : C4} {v : Int} (n : Nat) (hv : -32768 ≤ v ∧ v ≤ 32767) (hf : findF l c = ⟨c, [], v, 0, 0⟩) (hp : s.prog c = false) (hpn : s.pn < most) (hk : s.kept c = none) (hn : s.n < most) (hc : s.comp.length < most) :
    ∃ s', getM l (n + 3) s c = some ((v, 0), s') ∧ (∀ d, d ≠ c → s'.kept d = s.kept d) ∧ s'.n = s.n + 1 ∧ s'.prog = s.prog ∧ s'.pn = s.pn ∧ s'.comp.length = s.comp.length + 1 := by
  have e3 : wrap64 (0 + v) = v := by unfold wrap64; omega
  refine ⟨(((s.start c).drop c).keep c ⟨v, [], true, false⟩).done c, ?_, fun d hd => ?_, ?_, ?_, ?_, ?_⟩
  · unfold getM
    rw [if_neg (by rw [hp]; simp), if_neg (by omega), hk]
    simp only
    unfold evalM
    rw [hf]
    simp only
    unfold termsM
    simp only
    rw [if_neg (by show ¬ (most ≤ s.n ∨ most ≤ s.comp.length); omega), if_neg (by simp)]
    have e4 : endV ⟨c, [], v, 0, 0⟩ 0 = v := by unfold endV; simp only; rw [if_neg (by decide), e3]
    rw [e4]
  · show upd (upd s.kept c none) c _ d = _
    unfold upd
    rw [if_neg hd, if_neg hd]
  · show (if (upd s.kept c none c).isSome = true then _ else (if (s.kept c).isSome = true then s.n - 1 else s.n) + 1) = _
    have e0 : (upd s.kept c none c).isSome = false := by unfold upd; rw [if_pos rfl]; rfl
    rw [e0, hk]
    simp
  · show upd (upd s.prog c true) c false = s.prog
    exact upd_back _ _ _ _ hp
  · show (if upd s.prog c true c = true then (s.start c).pn - 1 else (s.start c).pn) = s.pn
    have e : upd s.prog c true c = true := by unfold upd; rw [if_pos rfl]
    rw [if_pos e]
    show (if s.prog c = true then s.pn else s.pn + 1) - 1 = s.pn
    rw [hp]; simp
  · show (s.comp ++ [c]).length = _
    simp
/-- A chain of cells, each reading the next, the last one with a value. -/
theorem cy_chain {l : List Fm} {v : Int} (hv : -32768 ≤ v ∧ v ≤ 32767) : ∀ (ch : List C4) (c : C4) s n, (c :: ch).Nodup → (∀ i (h : i + 1 < (c :: ch).length), findF l (c :: ch)[i] = cyT (c :: ch)[i] (c :: ch)[i + 1]) → findF l ((c :: ch).getLast (by simp)) = ⟨(c :: ch).getLast (by simp), [], v, 0, 0⟩ →
    (∀ d ∈ c :: ch, s.prog d = false ∧ s.kept d = none) → s.pn + ch.length < most → s.n + ch.length < most → s.comp.length + ch.length < most → 3 * (ch.length + 1) ≤ n →
    ∃ s', getM l n s c = some ((v, 0), s') ∧ (∀ d, d ∉ c :: ch → s'.kept d = s.kept d) ∧ s'.n = s.n + ch.length + 1 ∧ s'.prog = s.prog ∧ s'.pn = s.pn ∧ s'.comp.length = s.comp.length + ch.length + 1 := by
  intro ch
  induction ch with
  | nil =>
    intro c s n _ _ hf hd hp hn hc hfu
    obtain ⟨n, rfl⟩ : ∃ k, n = k + 3 := ⟨n - 3, by simp at hfu; omega⟩
    obtain ⟨s', h1, h2, h3, h4, h5, h6⟩ := cy_last (l := l) n hv (by simpa using hf) (hd c (by simp)).1 (by simpa using hp) (hd c (by simp)).2 (by simpa using hn) (by simpa using hc)
    exact ⟨s', h1, fun d hd => h2 d (fun e => hd (by simp [e])), by simpa using h3, h4, h5, by simpa using h6⟩
  | cons b ch ih =>
    intro c s n hnd hf hl hd hp hn hc hfu
    simp only [List.length_cons] at hp hn hc hfu
    obtain ⟨n, rfl⟩ : ∃ k, n = k + 3 := ⟨n - 3, by omega⟩
    obtain ⟨hcn, hnb⟩ := List.nodup_cons.1 hnd
    have hpc := (hd c List.mem_cons_self).1
    have hpS : (s.start c).pn = s.pn + 1 := by show (if s.prog c = true then s.pn else s.pn + 1) = _; rw [hpc]; simp
    obtain ⟨s1, h1, h2, h3, h4, h5, h6⟩ := ih b (s.start c) n hnb (fun i h => by have := hf (i + 1) (by simpa using h); simpa using this) (by have := hl; rw [List.getLast_cons (by simp)] at this; exact this) (fun d hd' => ⟨by
      show upd s.prog c true d = false
      unfold upd
      rw [if_neg (fun e => hcn (by rw [← e]; exact hd'))]
      exact (hd d (List.mem_cons_of_mem _ hd')).1, (hd d (List.mem_cons_of_mem _ hd')).2⟩) (by rw [hpS]; omega) (by show s.n + _ < most; omega) (by show s.comp.length + _ < most; omega) (by omega)
    have h3 : s1.n = s.n + ch.length + 1 := h3
    have h6 : s1.comp.length = s.comp.length + ch.length + 1 := h6
    have h1c : s1.kept c = none := (h2 c hcn).trans (hd c List.mem_cons_self).2
    obtain ⟨s', k1, k2, k3, k4, k5, k6⟩ := cy_ok hv (hf 0 (by simp)) hpc (by omega) (hd c List.mem_cons_self).2 h1 h1c h4 h5 (by omega) (by omega) (by omega)
    refine ⟨s', k1, fun d hd' => ?_, by simp only [List.length_cons]; omega, k4, k5, by simp only [List.length_cons]; omega⟩
    rw [k2 d (fun e => hd' (by rw [e]; exact List.mem_cons_self))]
    exact h2 d (fun e => hd' (List.mem_cons_of_mem _ e))
end Go.Proofs.Ytmmeieangbcfaaa
