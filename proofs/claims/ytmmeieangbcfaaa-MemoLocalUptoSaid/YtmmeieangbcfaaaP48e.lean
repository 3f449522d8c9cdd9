/- Layer 48, plain: Get on formulas without cycles. -/
import Derived.Test.YtmmeieangbcfaaaP48d
namespace Go.Proofs.Ytmmeieangbcfaaa
open Go.RowKit Go

def Chk (s : MS) (c : C4) : Prop := ∃ x, s.kept c = some x ∧ x.checked = true
/-- What is kept between calls. -/
structure BaseI (l : List Fm) (V : C4 → Int) (s : MS) : Prop where
  t1 : ∀ c x, s.kept c = some x → x.checked = true → x.value = V c ∧ x.reads = readsG V (findF l c) ∧ x.changed = false ∧ ∀ r ∈ x.reads, Chk s r.1
  t2 : ∀ c x, s.kept c = some x → x.changed = false → ∃ g, x.value = evalG g (findF l c) ∧ x.reads = readsG g (findF l c)
def Cause (V : C4 → Int) (s0 : MS) (d : C4) : Prop := s0.kept d = none ∨ ∃ x, s0.kept d = some x ∧ (x.changed = true ∨ ∃ r ∈ x.reads, V r.1 ≠ r.2)
/-- While a call goes on that began at s0. -/
structure MidI (l : List Fm) (V : C4 → Int) (K : C4 → Prop) (s0 s : MS) : Prop where
  base : BaseI l V s
  nw : ∃ nw : List C4, s.comp = s0.comp ++ nw ∧ nw.Nodup ∧ (∀ d ∈ nw, K d ∧ Chk s d ∧ Cause V s0 d) ∧ s.n ≤ s0.n + nw.length
  old : ∀ d, ¬ Chk s d → s.kept d = s0.kept d
structure ExtI (s s' : MS) : Prop where
  prog : s'.prog = s.prog
  pn : s'.pn = s.pn
  chk : ∀ d x, s.kept d = some x → x.checked = true → s'.kept d = some x
theorem ExtI.refl (s : MS) : ExtI s s := ⟨rfl, rfl, fun _ _ h _ => h⟩
theorem ExtI.trans {a b c : MS} (h : ExtI a b) (k : ExtI b c) : ExtI a c := ⟨k.prog.trans h.prog, k.pn.trans h.pn, fun d x hx hc => k.chk d x (h.chk d x hx hc) hc⟩
theorem ExtI.has {a b : MS} (h : ExtI a b) {c : C4} (hc : Chk a c) : Chk b c := by
  obtain ⟨x, hx, hk⟩ := hc
  exact ⟨x, h.chk c x hx hk, hk⟩
/-- Only what is in progress differs. -/
theorem BaseI.same {l : List Fm} {V : C4 → Int} {s s' : MS} (h : BaseI l V s) (hk : s'.kept = s.kept) : BaseI l V s' := by
  refine ⟨fun c x hx hc => ?_, fun c x hx => h.t2 c x (by rw [← hk]; exact hx)⟩
  obtain ⟨h1, h2, h3, h4⟩ := h.t1 c x (by rw [← hk]; exact hx) hc
  exact ⟨h1, h2, h3, fun r hr => by obtain ⟨y, hy, hyc⟩ := h4 r hr; exact ⟨y, by rw [hk]; exact hy, hyc⟩⟩
theorem chk_same {s s' : MS} (hk : s'.kept = s.kept) {c : C4} : Chk s' c ↔ Chk s c := by unfold Chk; rw [hk]
theorem MidI.same {l : List Fm} {V : C4 → Int} {K : C4 → Prop} {s0 s s' : MS} (h : MidI l V K s0 s) (hk : s'.kept = s.kept) (hc : s'.comp = s.comp) (hn : s'.n = s.n) : MidI l V K s0 s' := by
  refine ⟨h.base.same hk, ?_, fun d hd => by rw [hk]; exact h.old d (fun e => hd ((chk_same hk).2 e))⟩
  obtain ⟨nw, h1, h2, h3, h4⟩ := h.nw
  exact ⟨nw, by rw [hc]; exact h1, h2, fun d hd => ⟨(h3 d hd).1, (chk_same hk).2 (h3 d hd).2.1, (h3 d hd).2.2⟩, by rw [hn]; exact h4⟩
theorem nodup_le {α : Type} [DecidableEq α] : ∀ {l m : List α}, l.Nodup → (∀ x ∈ l, x ∈ m) → l.length ≤ m.length := by
  intro l
  induction l with
  | nil => intro m _ _; simp
  | cons a l ih =>
    intro m hn hs
    rw [List.nodup_cons] at hn
    have ha := hs a List.mem_cons_self
    have h1 : l.length ≤ (m.erase a).length := ih hn.2 (fun x hx => (List.mem_erase_of_ne (fun e => hn.1 (by rw [← e]; exact hx))).2 (hs x (List.mem_cons_of_mem _ hx)))
    rw [List.length_erase_of_mem ha] at h1
    have h2 : 0 < m.length := List.length_pos_of_mem ha
    simp only [List.length_cons]; omega

section
variable {l : List Fm} {V : C4 → Int} {K : C4 → Prop} {s0 : MS} {UU : List C4}
/-- What is supposed of a call. -/
structure Call48 (l : List Fm) (V : C4 → Int) (K : C4 → Prop) (s0 : MS) (UU : List C4) : Prop where
  hV : ∀ c, V c = evalG V (findF l c)
  hl : ranked l
  h6 : ∀ c, (findF l c).terms.length ≤ 6
  hU : ∀ d, K d → d ∈ UU
  Ka : ∀ d, K d → ∀ r ∈ readsG V (findF l d), K r.1
  Kb : ∀ d x, K d → s0.kept d = some x → x.changed = false → ∀ r ∈ x.reads, K r.1
  hc : s0.comp.length + UU.length < most
  hn : s0.n + UU.length < most
def GetOk (l : List Fm) (V : C4 → Int) (K : C4 → Prop) (s0 : MS) (k : Nat) : Prop :=
  ∀ n s c, rank l c < k → 10 * (rank l c + 1) ≤ n → MidI l V K s0 s → K c → (∀ d, s.prog d = true → c.st < d.st) → s.pn + rank l c < most → ∃ s', getM l n s c = some ((V c, 0), s') ∧ MidI l V K s0 s' ∧ ExtI s s' ∧ Chk s' c
theorem same_ok {k : Nat} (hG : GetOk l V K s0 k) : ∀ (rs : List (C4 × Int)) n s, MidI l V K s0 s → (∀ r ∈ rs, K r.1 ∧ rank l r.1 < k ∧ (∀ d, s.prog d = true → r.1.st < d.st) ∧ s.pn + rank l r.1 < most) → rs.length + 1 + 10 * k ≤ n →
    ∃ b s', sameM l n s rs = some (b, s') ∧ MidI l V K s0 s' ∧ ExtI s s' ∧ (b = true → ∀ r ∈ rs, V r.1 = r.2 ∧ Chk s' r.1) ∧ (b = false → ∃ r ∈ rs, V r.1 ≠ r.2) := by
  intro rs
  induction rs with
  | nil =>
    intro n s hM _ hn
    obtain ⟨n, rfl⟩ : ∃ m, n = m + 1 := ⟨n - 1, by omega⟩
    exact ⟨true, s, by simp [sameM], hM, ExtI.refl s, fun _ r hr => (by cases hr), fun h => (by cases h)⟩
  | cons q rs ih =>
    intro n s hM hr hn
    obtain ⟨n, rfl⟩ : ∃ m, n = m + 1 := ⟨n - 1, by omega⟩
    simp only [List.length_cons] at hn
    obtain ⟨h1, h2, h3, h4⟩ := hr q List.mem_cons_self
    obtain ⟨s1, hg, hM1, hE1, hC1⟩ := hG n s q.1 h2 (by omega) hM h1 h3 h4
    by_cases hv : V q.1 = q.2
    · obtain ⟨b, s2, k1, k2, k3, k4, k5⟩ := ih n s1 hM1 (fun r hr' => by
        obtain ⟨g1, g2, g3, g4⟩ := hr r (List.mem_cons_of_mem _ hr')
        exact ⟨g1, g2, fun d hd => g3 d (by rw [← hE1.prog]; exact hd), by rw [hE1.pn]; exact g4⟩) (by omega)
      refine ⟨b, s2, ?_, k2, hE1.trans k3, fun hb r hr' => ?_, fun hb => ?_⟩
      · unfold sameM
        simp only [hg, hv, ne_eq, not_true, or_self, if_false]
        exact k1
      · rcases List.mem_cons.1 hr' with rfl | hr'
        · exact ⟨hv, k3.has hC1⟩
        · exact k4 hb r hr'
      · obtain ⟨r, h, h'⟩ := k5 hb
        exact ⟨r, List.mem_cons_of_mem _ h, h'⟩
    · refine ⟨false, s1, ?_, hM1, hE1, fun hb => (by cases hb), fun _ => ⟨q, List.mem_cons_self, hv⟩⟩
      unfold sameM
      simp only [hg]
      rw [if_pos (.inr hv)]
theorem terms_ok {k : Nat} (hG : GetOk l V K s0 k) (fo : Fm) : ∀ (ts : List (C4 × Int)) n s i sum fr, MidI l V K s0 s → (∀ t ∈ ts, rank l t.1 < k ∧ (∀ d, s.prog d = true → t.1.st < d.st) ∧ s.pn + rank l t.1 < most) → (∀ r ∈ (runT V fo i ts sum fr).2.reads, K r.1) → fr.reads.length + ts.length < most → ts.length + 1 + 10 * k ≤ n →
    ∃ s', termsM l n s fo i ts sum fr = some ((runT V fo i ts sum fr).1, (runT V fo i ts sum fr).2, s') ∧ MidI l V K s0 s' ∧ ExtI s s' ∧ ∀ r ∈ (runT V fo i ts sum fr).2.reads, r ∈ fr.reads ∨ Chk s' r.1 := by
  intro ts
  induction ts with
  | nil =>
    intro n s i sum fr hM _ _ _ hn
    obtain ⟨n, rfl⟩ : ∃ m, n = m + 1 := ⟨n - 1, by omega⟩
    exact ⟨s, by simp [termsM, runT], hM, ExtI.refl s, fun r hr => .inl hr⟩
  | cons t ts ih =>
    intro n s i sum fr hM ht hK hb hn
    obtain ⟨n, rfl⟩ : ∃ m, n = m + 1 := ⟨n - 1, by omega⟩
    simp only [List.length_cons] at hn hb
    obtain ⟨h2, h3, h4⟩ := ht t List.mem_cons_self
    obtain ⟨n1, n2, n3, n4⟩ := noteF_ok fr t.1 (V t.1)
    have hsub : ∀ r ∈ (noteF fr t.1 (V t.1) 0).reads, r ∈ (runT V fo i (t :: ts) sum fr).2.reads := fun r hr => by
      unfold runT
      split
      · exact hr
      · exact runT_sub V fo ts _ _ _ r hr
    have hKt : K t.1 := by
      obtain ⟨r, hr, hc⟩ := noteF_has fr t.1 (V t.1)
      rw [← hc]
      exact hK r (hsub r hr)
    obtain ⟨s1, hg, hM1, hE1, hC1⟩ := hG n s t.1 h2 (by omega) hM hKt h3 h4
    unfold termsM
    simp only [hg]
    rw [if_neg (by omega)]
    unfold runT at hK ⊢
    split
    · refine ⟨s1, rfl, hM1, hE1, fun r hr => ?_⟩
      rcases n4 r hr with h | rfl
      · exact .inl h
      · exact .inr hC1
    · rename_i hs
      rw [if_neg hs] at hK
      obtain ⟨s2, k1, k2, k3, k4⟩ := ih n s1 (i + 1) (nextV t.2 sum (V t.1)) (noteF fr t.1 (V t.1) 0) hM1 (fun t' ht' => by
        obtain ⟨g2, g3, g4⟩ := ht t' (List.mem_cons_of_mem _ ht')
        exact ⟨g2, fun d hd => g3 d (by rw [← hE1.prog]; exact hd), by rw [hE1.pn]; exact g4⟩) hK (by omega) (by omega)
      refine ⟨s2, k1, k2, hE1.trans k3, fun r hr => ?_⟩
      rcases k4 r hr with h | h
      · rcases n4 r h with h | rfl
        · exact .inl h
        · exact .inr (k3.has hC1)
      · exact .inr h
theorem eval_ok (hA : Call48 l V K s0 UU) {k : Nat} (hG : GetOk l V K s0 k) (n : Nat) (s : MS) (c : C4) (hr : rank l c ≤ k) (hf : 10 * k + 8 ≤ n) (hM : MidI l V K s0 s) (hK : K c) (hp : ∀ d, s.prog d = true → c.st ≤ d.st) (hpc : s.prog c = true) (hpn : s.pn + rank l c ≤ most) (hn : ¬ Chk s c) (hca : Cause V s0 c) :
    ∃ s', evalM l n s c = some ((V c, 0), s') ∧ MidI l V K s0 s' ∧ ExtI s s' ∧ Chk s' c := by
  obtain ⟨n, rfl⟩ : ∃ m, n = m + 1 := ⟨n - 1, by omega⟩
  have h6 := hA.h6 c
  obtain ⟨s5, k1, k2, k3, k4⟩ := terms_ok hG (findF l c) (findF l c).terms n s 0 0 ⟨[], false⟩ hM (fun t ht => by
    obtain ⟨g1, g2⟩ := findF_ranked hA.hl ht
    exact ⟨by omega, fun d hd => by have := hp d hd; omega, by omega⟩) (hA.Ka c hK) (by unfold most; simp only [List.length_nil]; omega) (by omega)
  have hkc : s5.kept c = s.kept c := ((keepsM l n).2.2.2 _ _ _ _ _ _ _ _ k1).2 c hpc trivial
  have hn5 : ¬ Chk s5 c := fun ⟨x, hx, hxc⟩ => hn ⟨x, by rw [← hkc]; exact hx, hxc⟩
  have hfail : (runT V (findF l c) 0 (findF l c).terms 0 ⟨[], false⟩).2.failed = false := (runT_reads V (findF l c) (findF l c).terms 0 0 ⟨[], false⟩ (fun r h => by cases h)).2.2
  obtain ⟨nw, m1, m2, m3, m4⟩ := k2.nw
  have hcn : c ∉ nw := fun h => hn5 (m3 c h).2.1
  have hlen : nw.length + 1 ≤ UU.length := by
    have := nodup_le (l := c :: nw) (m := UU) (List.nodup_cons.2 ⟨hcn, m2⟩) (fun x hx => by
      rcases List.mem_cons.1 hx with rfl | hx
      · exact hA.hU _ hK
      · exact hA.hU _ (m3 x hx).1)
    simpa using this
  have hb : ¬ (most ≤ s5.n ∨ most ≤ s5.comp.length) := by
    have h1 := hA.hc
    have h2 := hA.hn
    rw [m1, List.length_append]
    omega
  have hval : endV (findF l c) (runT V (findF l c) 0 (findF l c).terms 0 ⟨[], false⟩).1 = V c := (hA.hV c).symm
  have hchk : ∀ d, Chk s5 d → Chk ((s5.drop c).keep c ⟨V c, readsG V (findF l c), true, false⟩) d := fun d hd => by
    by_cases e : d = c
    · exact ⟨⟨V c, readsG V (findF l c), true, false⟩, by show upd _ c _ d = _; unfold upd; rw [if_pos e], rfl⟩
    · obtain ⟨x, hx, hxc⟩ := hd
      exact ⟨x, by show upd (upd s5.kept c none) c _ d = _; unfold upd; rw [if_neg e, if_neg e]; exact hx, hxc⟩
  have hkc' : ∀ d, d ≠ c → ((s5.drop c).keep c ⟨V c, readsG V (findF l c), true, false⟩).kept d = s5.kept d := fun d e => by
    show upd (upd s5.kept c none) c _ d = _
    unfold upd
    rw [if_neg e, if_neg e]
  have hkcc : ((s5.drop c).keep c ⟨V c, readsG V (findF l c), true, false⟩).kept c = some ⟨V c, readsG V (findF l c), true, false⟩ := by
    show upd _ c _ c = _
    unfold upd
    rw [if_pos rfl]
  refine ⟨(s5.drop c).keep c ⟨V c, readsG V (findF l c), true, false⟩, ?_, ⟨⟨fun d x hx hxc => ?_, fun d x hx hxc => ?_⟩, ⟨nw ++ [c], ?_, ?_, ?_, ?_⟩, fun d hd => ?_⟩, ⟨k3.prog, k3.pn, fun d x hx hxc => ?_⟩, ⟨_, hkcc, rfl⟩⟩
  · unfold evalM
    simp only [k1]
    rw [if_neg hb, if_neg (by rw [hfail]; simp), hval]
    rfl
  · by_cases e : d = c
    · subst e
      rw [hkcc] at hx
      obtain rfl := Option.some.inj hx
      refine ⟨rfl, rfl, rfl, fun r hr => ?_⟩
      rcases k4 r hr with h | h
      · cases h
      · exact hchk _ h
    · rw [hkc' d e] at hx
      obtain ⟨h1, h2, h3, h4⟩ := k2.base.t1 d x hx hxc
      exact ⟨h1, h2, h3, fun r hr => hchk _ (h4 r hr)⟩
  · by_cases e : d = c
    · subst e
      rw [hkcc] at hx
      obtain rfl := Option.some.inj hx
      exact ⟨V, hA.hV d, rfl⟩
    · rw [hkc' d e] at hx
      exact k2.base.t2 d x hx hxc
  · show s5.comp ++ [c] = _
    rw [m1, List.append_assoc]
  · rw [List.nodup_append]
    exact ⟨m2, by simp, fun a ha b hb => by rw [List.mem_singleton] at hb; subst hb; exact fun e => hcn (e ▸ ha)⟩
  · intro d hd
    rcases List.mem_append.1 hd with h | h
    · exact ⟨(m3 d h).1, hchk d (m3 d h).2.1, (m3 d h).2.2⟩
    · rw [List.mem_singleton] at h
      subst h
      exact ⟨hK, ⟨_, hkcc, rfl⟩, hca⟩
  · show (if (upd s5.kept c none c).isSome = true then _ else _) ≤ _
    have e0 : (upd s5.kept c none c).isSome = false := by unfold upd; rw [if_pos rfl]; rfl
    rw [e0, if_neg (by simp), List.length_append]
    show (if (s5.kept c).isSome = true then s5.n - 1 else s5.n) + 1 ≤ _
    simp only [List.length_cons, List.length_nil]
    split <;> omega
  · have e : d ≠ c := fun e => hd (by rw [e]; exact ⟨_, hkcc, rfl⟩)
    rw [hkc' d e]
    exact k2.old d (fun h => hd (hchk d h))
  · have e : d ≠ c := fun e => hn (by rw [← e]; exact ⟨x, hx, hxc⟩)
    rw [hkc' d e]
    exact k3.chk d x hx hxc
theorem start_same (s : MS) (c : C4) : (s.start c).kept = s.kept ∧ (s.start c).comp = s.comp ∧ (s.start c).n = s.n := ⟨rfl, rfl, rfl⟩
theorem ext_done {s s' : MS} {c : C4} (hp : s.prog c = false) (h : ExtI (s.start c) s') : ExtI s (s'.done c) := by
  refine ⟨?_, ?_, fun d x hx hc => h.chk d x hx hc⟩
  · show upd s'.prog c false = s.prog
    rw [h.prog]
    exact upd_back _ _ _ _ hp
  · show (if s'.prog c = true then s'.pn - 1 else s'.pn) = s.pn
    have h1 : s'.prog c = true := by rw [h.prog]; show upd s.prog c true c = true; unfold upd; rw [if_pos rfl]
    rw [if_pos h1, h.pn]
    show (if s.prog c = true then s.pn else s.pn + 1) - 1 = s.pn
    rw [hp]; simp
theorem get_ok (hA : Call48 l V K s0 UU) : ∀ k, GetOk l V K s0 k := by
  intro k
  induction k with
  | zero => intro n s c h; omega
  | succ k hG =>
    intro n s c hr hf hM hK hp hpn
    obtain ⟨n, rfl⟩ : ∃ m, n = m + 1 := ⟨n - 1, by omega⟩
    by_cases hk : rank l c < k
    · exact hG _ s c hk hf hM hK hp hpn
    have hrk : rank l c = k := by omega
    have hpc : s.prog c = false := by
      cases h : s.prog c with
      | false => rfl
      | true => have := hp c h; omega
    have hpS : (s.start c).prog c = true := by show upd s.prog c true c = true; unfold upd; rw [if_pos rfl]
    have hpnS : (s.start c).pn = s.pn + 1 := by show (if s.prog c = true then s.pn else s.pn + 1) = _; rw [hpc]; simp
    have hpd : ∀ d, (s.start c).prog d = true → c.st ≤ d.st := fun d hd => by
      have hd' : upd s.prog c true d = true := hd
      unfold upd at hd'
      by_cases e : d = c
      · rw [e]; omega
      · rw [if_neg e] at hd'
        have := hp d hd'
        omega
    have hMS : MidI l V K s0 (s.start c) := hM.same rfl rfl rfl
    unfold getM
    rw [if_neg (by rw [hpc]; simp), if_neg (by omega)]
    have hev : ¬ Chk s c → Cause V s0 c → ∃ s', (match evalM l n (s.start c) c with | some (r, s') => some (r, s'.done c) | none => none) = some ((V c, 0), s') ∧ MidI l V K s0 s' ∧ ExtI s s' ∧ Chk s' c := fun hn hca => by
      obtain ⟨s1, k1, k2, k3, k4⟩ := eval_ok hA hG n (s.start c) c (by omega) (by omega) hMS hK hpd hpS (by omega) hn hca
      rw [k1]
      exact ⟨s1.done c, rfl, k2.same rfl rfl rfl, ext_done hpc k3, k4⟩
    cases hx : s.kept c with
    | none =>
      have hn : ¬ Chk s c := fun ⟨y, hy, _⟩ => by rw [hx] at hy; cases hy
      exact hev hn (.inl (by rw [← hM.old c hn]; exact hx))
    | some x =>
      simp only
      by_cases hxc : x.checked = true
      · rw [if_pos hxc]
        refine ⟨s, ?_, hM, ExtI.refl s, ⟨x, hx, hxc⟩⟩
        rw [(hM.base.t1 c x hx hxc).1]
      · rw [if_neg hxc]
        have hn : ¬ Chk s c := fun ⟨y, hy, hyc⟩ => by rw [hx] at hy; obtain rfl := Option.some.inj hy; exact hxc hyc
        have h0 : s0.kept c = some x := by rw [← hM.old c hn]; exact hx
        by_cases hxg : x.changed = true
        · rw [if_pos hxg]
          exact hev hn (.inr ⟨x, h0, .inl hxg⟩)
        · rw [if_neg hxg]
          have hxg : x.changed = false := by simpa using hxg
          obtain ⟨g, g1, g2⟩ := hM.base.t2 c x hx hxg
          have hrd : ∀ r ∈ x.reads, ∃ t ∈ (findF l c).terms, t.1 = r.1 := fun r hr => by
            rw [g2] at hr
            exact (reads_val hr).2
          obtain ⟨b, s5, k1, k2, k3, k4, k5⟩ := same_ok hG x.reads n (s.start c) hMS (fun r hr => by
            obtain ⟨t, ht, e⟩ := hrd r hr
            obtain ⟨q1, q2⟩ := findF_ranked hA.hl ht
            rw [e] at q1 q2
            exact ⟨hA.Kb c x hK h0 hxg r hr, by omega, fun d hd => by have := hpd d hd; omega, by omega⟩) (by
            have := reads_len g (findF l c)
            rw [← g2] at this
            have := hA.h6 c
            omega)
          have hkc : s5.kept c = s.kept c := ((keepsM l n).2.1 _ _ _ _ k1).2 c hpS trivial
          rw [k1]
          cases b with
          | true =>
            simp only
            have hall := k4 rfl
            obtain ⟨e1, e2⟩ := replay (g := g) (g' := V) (f := findF l c) (fun r hr => (hall r (by rw [g2]; exact hr)).1)
            have hxv : x.value = V c := by rw [hA.hV c, e1, ← g1]
            have hkd : ∀ d, d ≠ c → ((s5.check c x).done c).kept d = s5.kept d := fun d e => by
              show upd s5.kept c _ d = _
              unfold upd
              rw [if_neg e]
            have hkcc : ((s5.check c x).done c).kept c = some { x with checked := true } := by
              show upd s5.kept c _ c = _
              unfold upd
              rw [if_pos rfl]
            have hchk : ∀ d, Chk s5 d → Chk ((s5.check c x).done c) d := fun d hd => by
              by_cases e : d = c
              · rw [e]; exact ⟨_, hkcc, rfl⟩
              · obtain ⟨y, hy, hyc⟩ := hd
                exact ⟨y, by rw [hkd d e]; exact hy, hyc⟩
            have hEd := ext_done hpc k3
            refine ⟨(s5.check c x).done c, by rw [hxv], ⟨⟨fun d y hy hyc => ?_, fun d y hy hyc => ?_⟩, ?_, fun d hd => ?_⟩, ⟨hEd.prog, hEd.pn, fun d y hy hyc => ?_⟩, ⟨_, hkcc, rfl⟩⟩
            · by_cases e : d = c
              · subst e
                rw [hkcc] at hy
                obtain rfl := Option.some.inj hy
                exact ⟨hxv, by rw [e2]; exact g2, hxg, fun r hr => hchk _ (hall r hr).2⟩
              · rw [hkd d e] at hy
                obtain ⟨q1, q2, q3, q4⟩ := k2.base.t1 d y hy hyc
                exact ⟨q1, q2, q3, fun r hr => hchk _ (q4 r hr)⟩
            · by_cases e : d = c
              · subst e
                rw [hkcc] at hy
                obtain rfl := Option.some.inj hy
                exact ⟨g, g1, g2⟩
              · rw [hkd d e] at hy
                exact k2.base.t2 d y hy hyc
            · obtain ⟨nw, m1, m2, m3, m4⟩ := k2.nw
              exact ⟨nw, m1, m2, fun d hd => ⟨(m3 d hd).1, hchk d (m3 d hd).2.1, (m3 d hd).2.2⟩, m4⟩
            · have e : d ≠ c := fun e => hd (by rw [e]; exact ⟨_, hkcc, rfl⟩)
              rw [hkd d e]
              exact k2.old d (fun h => hd (hchk d h))
            · have e : d ≠ c := fun e => hn (by rw [← e]; exact ⟨y, hy, hyc⟩)
              rw [hkd d e]
              exact k3.chk d y hy hyc
          | false =>
            simp only
            have hn5 : ¬ Chk s5 c := fun ⟨y, hy, hyc⟩ => hn ⟨y, by rw [← hkc]; exact hy, hyc⟩
            obtain ⟨s1, q1, q2, q3, q4⟩ := eval_ok hA hG n s5 c (by omega) (by omega) k2 hK (fun d hd => hpd d (by rw [← k3.prog]; exact hd)) (by rw [k3.prog]; exact hpS) (by rw [k3.pn]; omega) hn5 (.inr ⟨x, h0, .inr (k5 rfl)⟩)
            rw [q1]
            exact ⟨s1.done c, rfl, q2.same rfl rfl rfl, ext_done hpc (k3.trans q3), q4⟩
end
end Go.Proofs.Ytmmeieangbcfaaa
