/- Layer 48, plain: what stands between the calls of a law, on formulas without cycles. -/
import Derived.Test.YtmmeieangbcfaaaP48e
import Derived.Test.YtmmeieangbcfaaaC48y
namespace Go.Proofs.Ytmmeieangbcfaaa
open Go.RowKit Go

structure TopI (l : List Fm) (s : MS) (b : Nat) : Prop where
  base : BaseI l (valV l) s
  prog : ∀ d, s.prog d = false
  pn : s.pn = 0
  n : s.n ≤ b
  comp : s.comp.length ≤ b
/-- Formulas without cycles, few and short. -/
def Small (l : List Fm) (m : Nat) : Prop := ranked l ∧ l.length ≤ m ∧ ∀ f ∈ l, f.terms.length ≤ 6
def cells48 : List Fm → List C4
  | [] => []
  | f :: l => f.terms.map (·.1) ++ cells48 l
theorem cells48_len : ∀ {l : List Fm}, (∀ f ∈ l, f.terms.length ≤ 6) → (cells48 l).length ≤ 6 * l.length := by
  intro l
  induction l with
  | nil => intro _; simp [cells48]
  | cons f l ih =>
    intro h
    have h1 := h f List.mem_cons_self
    have h2 := ih (fun g hg => h g (List.mem_cons_of_mem _ hg))
    unfold cells48
    rw [List.length_append, List.length_map, List.length_cons]
    omega
theorem cells48_mem : ∀ {l : List Fm} {f : Fm} {t : C4 × Int}, f ∈ l → t ∈ f.terms → t.1 ∈ cells48 l := by
  intro l
  induction l with
  | nil => intro f t h; cases h
  | cons g l ih =>
    intro f t h ht
    unfold cells48
    rcases List.mem_cons.1 h with rfl | h
    · exact List.mem_append_left _ (List.mem_map_of_mem ht)
    · exact List.mem_append_right _ (ih h ht)
theorem find_cells {l : List Fm} {c : C4} {t : C4 × Int} (h : t ∈ (findF l c).terms) : t.1 ∈ cells48 l := by
  rcases findF_mem l c with ⟨h1, -⟩ | h1
  · exact cells48_mem h1 h
  · rw [h1] at h; cases h
theorem find_small {l : List Fm} (h : ∀ f ∈ l, f.terms.length ≤ 6) (c : C4) : (findF l c).terms.length ≤ 6 := by
  rcases findF_mem l c with ⟨h1, -⟩ | h1
  · exact h _ h1
  · rw [h1]; simp
theorem findF_put (l : List Fm) (f : Fm) (c : C4) : findF (l ++ [f]) c = if f.cell = c then f else findF l c := by
  unfold findF
  rw [List.reverse_append, List.reverse_singleton, List.singleton_append, List.find?_cons]
  by_cases h : f.cell = c
  · rw [decide_eq_true h, if_pos h]; rfl
  · rw [decide_eq_false h, if_neg h]
theorem top_get {l : List Fm} {m b : Nat} {s : MS} (hs : Small l m) (hm : m ≤ 40) (h : TopI l s b) (hb : b ≤ 900000) (c : C4) (K : C4 → Prop) (hKc : K c) (hKu : ∀ d, K d → d = c ∨ d ∈ cells48 l)
    (Ka : ∀ d, K d → ∀ r ∈ readsG (valV l) (findF l d), K r.1) (Kb : ∀ d x, K d → s.kept d = some x → x.changed = false → ∀ r ∈ x.reads, K r.1) :
    ∃ s' nw, getM l 500 s c = some ((valV l c, 0), s') ∧ TopI l s' (b + 300) ∧ s'.comp = s.comp ++ nw ∧ nw.Nodup ∧ nw.length ≤ 300 ∧ (∀ d ∈ nw, K d ∧ Cause (valV l) s d) ∧ (∀ d x, s.kept d = some x → x.checked = true → s'.kept d = some x) ∧ Chk s' c := by
  obtain ⟨h1, h2, h3⟩ := hs
  have hmost : most = 1000000 := rfl
  have hUl : (c :: cells48 l).length ≤ 241 := by
    have := cells48_len h3
    simp only [List.length_cons]
    omega
  have hA : Call48 l (valV l) K s (c :: cells48 l) := by
    refine ⟨valV_eq h1, h1, find_small h3, fun d hd => ?_, Ka, Kb, ?_, ?_⟩
    · rcases hKu d hd with rfl | e
      · exact List.mem_cons_self
      · exact List.mem_cons_of_mem _ e
    · have := h.comp; omega
    · have := h.n; omega
  have hM : MidI l (valV l) K s s := ⟨h.base, ⟨[], by simp, List.nodup_nil, by simp, by simp⟩, fun d _ => rfl⟩
  have hrk := rank_le l c
  obtain ⟨s', k1, k2, k3, k4⟩ := get_ok hA (rank l c + 1) 500 s c (by omega) (by omega) hM hKc (fun d hd => by rw [h.prog d] at hd; cases hd) (by rw [h.pn]; omega)
  obtain ⟨nw, m1, m2, m3, m4⟩ := k2.nw
  have hnl : nw.length ≤ 241 := Nat.le_trans (nodup_le m2 (fun x hx => hA.hU x (m3 x hx).1)) hUl
  refine ⟨s', nw, k1, ⟨k2.base, fun d => by rw [k3.prog]; exact h.prog d, k3.pn.trans h.pn, ?_, ?_⟩, m1, m2, by omega, fun d hd => ⟨(m3 d hd).1, (m3 d hd).2.2⟩, k3.chk, k4⟩
  · have := h.n; omega
  · have := h.comp; rw [m1, List.length_append]; omega
theorem top_get0 {l : List Fm} {m b : Nat} {s : MS} (hs : Small l m) (hm : m ≤ 40) (h : TopI l s b) (hb : b ≤ 900000) (c : C4) :
    ∃ s' nw, getM l 500 s c = some ((valV l c, 0), s') ∧ TopI l s' (b + 300) ∧ s'.comp = s.comp ++ nw ∧ nw.Nodup ∧ nw.length ≤ 300 ∧ (∀ d ∈ nw, Cause (valV l) s d) ∧ (∀ d x, s.kept d = some x → x.checked = true → s'.kept d = some x) ∧ Chk s' c := by
  obtain ⟨s', nw, k1, k2, k3, k4, k5, k6, k7, k8⟩ := top_get hs hm h hb c (fun d => d = c ∨ d ∈ cells48 l) (.inl rfl) (fun _ h => h) (fun d _ r hr => by
    obtain ⟨t, ht, e⟩ := (reads_val hr).2
    exact .inr (by rw [← e]; exact find_cells ht)) (fun d x _ hx hc r hr => by
    obtain ⟨g, -, g2⟩ := h.base.t2 d x hx hc
    rw [g2] at hr
    obtain ⟨t, ht, e⟩ := (reads_val hr).2
    exact .inr (by rw [← e]; exact find_cells ht))
  exact ⟨s', nw, k1, k2, k3, k4, k5, fun d hd => (k6 d hd).2, k7, k8⟩
theorem top_chk {l : List Fm} {b : Nat} {s : MS} (h : TopI l s b) {c : C4} (hc : Chk s c) : getM l 500 s c = some ((valV l c, 0), s) := by
  obtain ⟨x, hx, hxc⟩ := hc
  have hmost : most = 1000000 := rfl
  unfold getM
  rw [if_neg (by rw [h.prog c]; simp), if_neg (by rw [h.pn]; omega), hx]
  simp only
  rw [if_pos hxc, (h.base.t1 c x hx hxc).1]
theorem top_new (l : List Fm) : TopI l newS 0 := ⟨⟨fun c x hx => (by cases hx), fun c x hx => (by cases hx)⟩, fun _ => rfl, rfl, Nat.le_refl _, Nat.le_refl _⟩
theorem top_reset {l : List Fm} {b : Nat} {s : MS} (h : TopI l s b) : TopI l { s with comp := [] } b := ⟨h.base.same rfl, h.prog, h.pn, h.n, Nat.zero_le _⟩
theorem change_kept {s : MS} {q d : C4} {y : Ent} (h : (s.change q).kept d = some y) : ∃ x, s.kept d = some x ∧ y = { x with checked := false, changed := x.changed || decide (d = q) } := by
  have h : (s.kept d).map (fun x => ({ x with checked := false, changed := x.changed || decide (d = q) } : Ent)) = some y := h
  cases hx : s.kept d with
  | none => rw [hx] at h; cases h
  | some x => rw [hx] at h; exact ⟨x, rfl, (Option.some.inj h).symm⟩
theorem top_same {l : List Fm} {b : Nat} {s : MS} (h : TopI l s b) (q : C4) : TopI l (s.change q) b := by
  refine ⟨⟨fun c y hy hc => ?_, fun c y hy hc => ?_⟩, h.prog, h.pn, h.n, h.comp⟩
  · obtain ⟨x, hx, rfl⟩ := change_kept hy
    cases hc
  · obtain ⟨x, hx, rfl⟩ := change_kept hy
    have hc : (x.changed || decide (c = q)) = false := hc
    rw [Bool.or_eq_false_iff] at hc
    exact h.base.t2 c x hx hc.1
theorem top_change {l : List Fm} {b : Nat} {s : MS} (h : TopI l s b) (f : Fm) : TopI (l ++ [f]) (s.change f.cell) b := by
  refine ⟨⟨fun c y hy hc => ?_, fun c y hy hc => ?_⟩, h.prog, h.pn, h.n, h.comp⟩
  · obtain ⟨x, hx, rfl⟩ := change_kept hy
    cases hc
  · obtain ⟨x, hx, rfl⟩ := change_kept hy
    have hc : (x.changed || decide (c = f.cell)) = false := hc
    rw [Bool.or_eq_false_iff] at hc
    rw [findF_put, if_neg (fun e => by have := of_decide_eq_false hc.2; exact this e.symm)]
    exact h.base.t2 c x hx hc.1
/-- A cell depends on q. -/
inductive Dep (l : List Fm) (q : C4) : C4 → Prop
  | here : Dep l q q
  | step {c : C4} {t : C4 × Int} : t ∈ (findF l c).terms → Dep l q t.1 → Dep l q c
theorem ranked_left {l : List Fm} {f : Fm} (h : ranked (l ++ [f])) : ranked l := fun g hg => h g (List.mem_append_left _ hg)
theorem val_same {l : List Fm} {f : Fm} (hr : ranked (l ++ [f])) : ∀ k c, rank (l ++ [f]) c < k → ¬ Dep (l ++ [f]) f.cell c → valV (l ++ [f]) c = valV l c := by
  intro k
  induction k with
  | zero => intro c h; omega
  | succ k ih =>
    intro c h hd
    have hne : f.cell ≠ c := fun e => hd (e ▸ Dep.here)
    rw [valV_eq hr c, valV_eq (ranked_left hr) c]
    have hf : findF (l ++ [f]) c = findF l c := by rw [findF_put, if_neg hne]
    have : ∀ t ∈ (findF (l ++ [f]) c).terms, valV (l ++ [f]) t.1 = valV l t.1 := fun t ht => ih t.1 (by have := (findF_ranked hr ht).2; omega) (fun e => hd (.step ht e))
    rw [evalG_congr this, hf]
theorem chk_reset {s : MS} {d : C4} : Chk { s with comp := [] } d ↔ Chk s d := Iff.rfl
theorem local_ok {l : List Fm} {f : Fm} {m b : Nat} {s : MS} (hs : Small (l ++ [f]) m) (hm : m ≤ 40) (h : TopI l s b) (hb : b ≤ 900000) (c : C4) :
    ∃ s', getM (l ++ [f]) 500 (MS.change { s with comp := [] } f.cell) c = some ((valV (l ++ [f]) c, 0), s') ∧ s'.comp.Nodup ∧ s'.comp.length ≤ 300 ∧ ∀ d ∈ s'.comp, Chk s d → Dep (l ++ [f]) f.cell d := by
  obtain ⟨s', nw, k1, k2, k3, k4, k5, k6, k7, k8⟩ := top_get0 hs hm (top_change (top_reset h) f) hb c
  have hc : s'.comp = nw := k3
  refine ⟨s', k1, by rw [hc]; exact k4, by rw [hc]; exact k5, fun d hd hk => ?_⟩
  rw [hc] at hd
  obtain ⟨x, hx, hxc⟩ := hk
  obtain ⟨g1, g2, g3, g4⟩ := h.base.t1 d x hx hxc
  by_cases hdq : d = f.cell
  · rw [hdq]; exact Dep.here
  have hkd : (MS.change { s with comp := [] } f.cell).kept d = some { x with checked := false, changed := x.changed || decide (d = f.cell) } := by
    show (s.kept d).map _ = _
    rw [hx]; rfl
  rcases k6 d hd with e | ⟨y, hy, e⟩
  · rw [hkd] at e; cases e
  · rw [hkd] at hy
    obtain rfl := Option.some.inj hy
    rcases e with e | ⟨r, hr, hv⟩
    · have e : (x.changed || decide (d = f.cell)) = true := e
      rw [g3, decide_eq_false hdq] at e
      cases e
    · have hr : r ∈ x.reads := hr
      rw [g2] at hr
      obtain ⟨q1, t, ht, q2⟩ := reads_val hr
      have hf : findF (l ++ [f]) d = findF l d := by rw [findF_put, if_neg (fun e => hdq e.symm)]
      refine Dep.step (t := t) (by rw [hf]; exact ht) ?_
      rw [q2]
      apply Classical.byContradiction
      intro hn
      exact hv (by rw [q1]; exact val_same hs.1 (rank (l ++ [f]) r.1 + 1) r.1 (by omega) hn)
theorem ends_ok {l : List Fm} {m b : Nat} {s : MS} (hs : Small l m) (hm : m ≤ 40) (h : TopI l s b) (hb : b ≤ 900000) (c q : C4) (hc : Chk s c) :
    ∃ s', getM l 500 (MS.change { s with comp := [] } q) c = some ((valV l c, 0), s') ∧ (s'.comp = [] ∨ s'.comp = [q]) := by
  have hkd : ∀ d x, s.kept d = some x → (MS.change { s with comp := [] } q).kept d = some { x with checked := false, changed := x.changed || decide (d = q) } := fun d x hx => by
    show (s.kept d).map _ = _
    rw [hx]; rfl
  obtain ⟨s', nw, k1, k2, k3, k4, k5, k6, k7, k8⟩ := top_get hs hm (top_same (top_reset h) q) hb c (fun d => Chk s d ∧ (d = c ∨ d ∈ cells48 l)) ⟨hc, .inl rfl⟩ (fun _ h => h.2) (fun d hd r hr => by
    obtain ⟨x, hx, hxc⟩ := hd.1
    obtain ⟨g1, g2, g3, g4⟩ := h.base.t1 d x hx hxc
    obtain ⟨t, ht, e⟩ := (reads_val hr).2
    exact ⟨g4 r (by rw [g2]; exact hr), .inr (by rw [← e]; exact find_cells ht)⟩) (fun d y hd hy _ r hr => by
    obtain ⟨x, hx, hxc⟩ := hd.1
    obtain ⟨g1, g2, g3, g4⟩ := h.base.t1 d x hx hxc
    rw [hkd d x hx] at hy
    obtain rfl := Option.some.inj hy
    have hr : r ∈ x.reads := hr
    refine ⟨g4 r hr, ?_⟩
    rw [g2] at hr
    obtain ⟨t, ht, e⟩ := (reads_val hr).2
    exact .inr (by rw [← e]; exact find_cells ht))
  have hcp : s'.comp = nw := k3
  refine ⟨s', k1, ?_⟩
  rw [hcp]
  have hall : ∀ d ∈ nw, d = q := fun d hd => by
    obtain ⟨⟨⟨x, hx, hxc⟩, -⟩, hca⟩ := k6 d hd
    obtain ⟨g1, g2, g3, g4⟩ := h.base.t1 d x hx hxc
    rcases hca with e | ⟨y, hy, e⟩
    · rw [hkd d x hx] at e; cases e
    · rw [hkd d x hx] at hy
      obtain rfl := Option.some.inj hy
      rcases e with e | ⟨r, hr, hv⟩
      · have e : (x.changed || decide (d = q)) = true := e
        rw [g3] at e
        simpa using e
      · have hr : r ∈ x.reads := hr
        rw [g2] at hr
        exact absurd (reads_val hr).1.symm hv
  match nw, hall, k4 with
  | [], _, _ => exact .inl rfl
  | [a], ha, _ => rw [ha a List.mem_cons_self]; exact .inr rfl
  | a :: b :: r, ha, hn =>
    exfalso
    have e1 := ha a List.mem_cons_self
    have e2 := ha b (List.mem_cons_of_mem _ List.mem_cons_self)
    rw [List.nodup_cons] at hn
    exact hn.1 (by rw [e1, ← e2]; exact List.mem_cons_self)
end Go.Proofs.Ytmmeieangbcfaaa
