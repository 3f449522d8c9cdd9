/- Program independent: a region that draws its order: what only reckons is taken first; a load is taken first where its cell stands until the operations of T, which wait for it. -/
import Derived.Test.YtdcjocldggmdbaaFr
import Derived.Test.YtdcjocldggmdbaaColl
import Derived.OrdersHeld
namespace Go.Proofs.Ytdcjocldggmdbaa
open Go.RowKit Go

section
variable {P : Program} {ops : Array Oper} {Q : Exit → Act → World → Prop} {md : Region.Mode} {S : World → Prop} {T : Nat → Bool}

/-- Whatever order is picked from here on; S is kept by every operation but those of T. -/
def wpAnyT (P : Program) (md : Region.Mode) (ops : Array Oper) (Q : Exit → Act → World → Prop) (S : World → Prop) (T : Nat → Bool) : Nat → Array Bool → Act → World → Prop
  | 0, listed, a, w => Region.ready md ops listed = [] ∧ Q .normal a w
  | fuel + 1, listed, a, w =>
    (Region.ready md ops listed = [] → Q .normal a w) ∧
    ∀ i ∈ Region.ready md ops listed, wpOp P ops Q i (fun a' w' => (T i = false → S w → S w') ∧ wpAnyT P md ops Q S T fuel (listed.setIfInBounds i true) a' w') a w

theorem wpAny_of_T : ∀ (fuel : Nat) (listed : Array Bool) (a : Act) (w : World), wpAnyT P md ops Q S T fuel listed a w → wpAny P md ops Q fuel listed a w
  | 0, _, _, _, h => h
  | fuel + 1, _, _, _, h => ⟨h.1, fun i hi => wpOp_mono (fun a' w' h' => wpAny_of_T fuel _ a' w' h'.2) (h.2 i hi)⟩

theorem wpAnyT_first {i : Nat} {oi : Oper} {v : Value} (hi : ops[i]? = some oi) (hsel : ∀ (j : Nat) (o : Oper) cs b, ops[j]? = some o → o.op ≠ .select cs b)
    (hQ : ∀ c a w, Q (.panic c) (a.put oi.dst v) w → Q (.panic c) a w)
    (hT : ∀ j oj, ops[j]? = some oj → T j = true → ∃ e ∈ oj.after, Region.binds md e = true ∧ e.on = i) :
    ∀ (fuel : Nat) (listed : Array Bool) (a : Act) (w : World),
      (∀ j oj, ops[j]? = some oj → j ≠ i → listed.getD j true = false → (∀ e ∈ oj.after, Region.binds md e = true → e.on ≠ i) → oi.apart ops oj = true) →
      i ∈ Region.ready md ops listed → YieldsIf P ops S oi v a → S w →
      wpAnyT P md ops Q S T fuel (listed.setIfInBounds i true) (a.put oi.dst v) w → wpAnyT P md ops Q S T (fuel + 1) listed a w := by
  intro fuel
  induction fuel with
  | zero =>
    intro listed a w _ hr hy hS H
    refine ⟨fun h => (by rw [h] at hr; cases hr), fun j hj => ?_⟩
    by_cases hji : j = i
    · subst hji; exact hy.wpOp hi hS ⟨fun _ h => h, H⟩
    · have := ready_mono hj hji
      rw [H.1] at this
      cases this
  | succ fuel ih =>
    intro listed a w hfree hr hy hS H
    refine ⟨fun h => (by rw [h] at hr; cases hr), fun j hj => ?_⟩
    by_cases hji : j = i
    · subst hji; exact hy.wpOp hi hS ⟨fun _ h => h, H⟩
    · have h1 := H.2 j (ready_mono hj hji)
      obtain ⟨hjun, oj, hoj, hall⟩ := mem_ready.1 hj
      have hnot : ∀ e ∈ oj.after, Region.binds md e = true → e.on ≠ i := fun e he hb heq => by
        have h1 := hall e he hb
        have h0 := (mem_ready.1 hr).1
        rw [heq] at h1
        rcases Nat.lt_or_ge i listed.size with h' | h'
        · simp [h'] at h0 h1; rw [h0] at h1; cases h1
        · simp [Array.getElem?_eq_none h'] at h1
      have hTj : T j = false := by
        cases h : T j with
        | false => rfl
        | true =>
          obtain ⟨e, he, hb, heq⟩ := hT j oj hoj h
          exact absurd heq (hnot e he hb)
      have h2 := wpOp_putIf hoj (hfree j oj hoj hji hjun hnot) (fun cs b => hsel i oi cs b hi) (fun cs b => hsel j oj cs b hoj) hQ hy h1
      have hfree' : ∀ k ok, ops[k]? = some ok → k ≠ i → (listed.setIfInBounds j true).getD k true = false →
          (∀ e ∈ ok.after, Region.binds md e = true → e.on ≠ i) → oi.apart ops ok = true := fun k ok hk hki hun hno => by
        refine hfree k ok hk hki ?_ hno
        by_cases hjk : j = k
        · subst hjk; exact hjun
        · rw [getD_set_ne true hjk] at hun; exact hun
      refine wpOp_mono (fun a' w' h3 => ⟨fun h h' => h3.2.1 h h', ih (listed.setIfInBounds j true) a' w' hfree' (ready_mono hr (Ne.symm hji)) h3.1 (h3.2.1 hTj hS) ?_⟩) h2
      rw [Array.setIfInBounds_comm _ _ hji]
      exact h3.2.2

def waitsB (md : Region.Mode) (ops : Array Oper) : Nat → Nat → Nat → Bool
  | 0, _, _ => false
  | n + 1, j, i => match ops[j]? with
    | none => false
    | some o => o.after.any fun e => Region.binds md e && (e.on == i || waitsB md ops n e.on i)
def closedL (md : Region.Mode) (ops : Array Oper) (listed : Array Bool) : Prop :=
  ∀ j oj, ops[j]? = some oj → listed.getD j false = true → ∀ e ∈ oj.after, Region.binds md e = true → listed.getD e.on false = true
def closedB (md : Region.Mode) (ops : Array Oper) (listed : Array Bool) : Bool :=
  (List.range ops.size).all fun j => match ops[j]? with
    | none => true
    | some o => !listed.getD j false || o.after.all fun e => !Region.binds md e || listed.getD e.on false
theorem closedB_spec {md : Region.Mode} {ops : Array Oper} {listed : Array Bool} (h : closedB md ops listed = true) : closedL md ops listed := by
  intro j oj hj hl e he hb
  have h1 := List.all_eq_true.1 h j (by simpa using (Array.getElem?_eq_some_iff.1 hj).1)
  simp only [hj, hl, Bool.not_true, Bool.false_or] at h1
  obtain ⟨k, hk, rfl⟩ := Array.mem_iff_getElem.1 he
  have h2 := Array.all_eq_true.1 h1 k hk
  simpa [hb] using h2
theorem closedL_set {md : Region.Mode} {ops : Array Oper} {listed : Array Bool} {j : Nat} {oj : Oper} (h : closedL md ops listed) (hj : ops[j]? = some oj) (hall : ∀ e ∈ oj.after, Region.binds md e = true → listed.getD e.on false = true) :
    closedL md ops (listed.setIfInBounds j true) := by
  intro k ok hk hl e he hb
  by_cases hjk : j = k
  · subst hjk
    rw [hj] at hk
    cases hk
    exact getD_set_true (hall e he hb)
  · rw [getD_set_ne false hjk] at hl
    exact getD_set_true (h k ok hk hl e he hb)
theorem waitsB_listed {md : Region.Mode} {ops : Array Oper} {listed : Array Bool} (hcl : closedL md ops listed) : ∀ (n j i : Nat) {oj : Oper}, waitsB md ops n j i = true → ops[j]? = some oj →
    (∀ e ∈ oj.after, Region.binds md e = true → listed.getD e.on false = true) → listed.getD i false = true
  | 0, _, _, _, h, _, _ => by cases h
  | n + 1, j, i, oj, h, hj, hall => by
    rw [waitsB, hj] at h
    simp only [Array.any_eq_true, Bool.and_eq_true, Bool.or_eq_true, beq_iff_eq] at h
    obtain ⟨k, hk, hb, h⟩ := h
    have hl := hall _ (Array.getElem_mem hk) hb
    rcases h with h | h
    · rw [← h]; exact hl
    · cases ho : ops[oj.after[k].on]? with
      | none =>
        cases n with
        | zero => cases h
        | succ n => rw [waitsB, ho] at h; cases h
      | some o2 => exact waitsB_listed hcl n _ i h ho (hcl _ _ ho hl)

/-- The same, where T's operations wait for number i through others. -/
theorem wpAnyT_firstW {i : Nat} {oi : Oper} {v : Value} (hi : ops[i]? = some oi) (hsel : ∀ (j : Nat) (o : Oper) cs b, ops[j]? = some o → o.op ≠ .select cs b)
    (hQ : ∀ c a w, Q (.panic c) (a.put oi.dst v) w → Q (.panic c) a w)
    (hT : ∀ j oj, ops[j]? = some oj → T j = true → waitsB md ops ops.size j i = true) :
    ∀ (fuel : Nat) (listed : Array Bool) (a : Act) (w : World),
      (∀ j oj, ops[j]? = some oj → j ≠ i → listed.getD j true = false → (∀ e ∈ oj.after, Region.binds md e = true → e.on ≠ i) → oi.apart ops oj = true) →
      closedL md ops listed → i ∈ Region.ready md ops listed → YieldsIf P ops S oi v a → S w →
      wpAnyT P md ops Q S T fuel (listed.setIfInBounds i true) (a.put oi.dst v) w → wpAnyT P md ops Q S T (fuel + 1) listed a w := by
  intro fuel
  induction fuel with
  | zero =>
    intro listed a w _ _ hr hy hS H
    refine ⟨fun h => (by rw [h] at hr; cases hr), fun j hj => ?_⟩
    by_cases hji : j = i
    · subst hji; exact hy.wpOp hi hS ⟨fun _ h => h, H⟩
    · have := ready_mono hj hji
      rw [H.1] at this
      cases this
  | succ fuel ih =>
    intro listed a w hfree hcl hr hy hS H
    refine ⟨fun h => (by rw [h] at hr; cases hr), fun j hj => ?_⟩
    by_cases hji : j = i
    · subst hji; exact hy.wpOp hi hS ⟨fun _ h => h, H⟩
    · have h1 := H.2 j (ready_mono hj hji)
      obtain ⟨hjun, oj, hoj, hall⟩ := mem_ready.1 hj
      have hnot : ∀ e ∈ oj.after, Region.binds md e = true → e.on ≠ i := fun e he hb heq => by
        have h1 := hall e he hb
        have h0 := (mem_ready.1 hr).1
        rw [heq] at h1
        rcases Nat.lt_or_ge i listed.size with h' | h'
        · simp [h'] at h0 h1; rw [h0] at h1; cases h1
        · simp [Array.getElem?_eq_none h'] at h1
      have hTj : T j = false := by
        cases h : T j with
        | false => rfl
        | true =>
          have h1 := waitsB_listed hcl _ j i (hT j oj hoj h) hoj hall
          have h0 := (mem_ready.1 hr).1
          rcases Nat.lt_or_ge i listed.size with h' | h'
          · simp [h'] at h0 h1; rw [h0] at h1; cases h1
          · simp [Array.getElem?_eq_none h'] at h1
      have h2 := wpOp_putIf hoj (hfree j oj hoj hji hjun hnot) (fun cs b => hsel i oi cs b hi) (fun cs b => hsel j oj cs b hoj) hQ hy h1
      have hfree' : ∀ k ok, ops[k]? = some ok → k ≠ i → (listed.setIfInBounds j true).getD k true = false →
          (∀ e ∈ ok.after, Region.binds md e = true → e.on ≠ i) → oi.apart ops ok = true := fun k ok hk hki hun hno => by
        refine hfree k ok hk hki ?_ hno
        by_cases hjk : j = k
        · subst hjk; exact hjun
        · rw [getD_set_ne true hjk] at hun; exact hun
      refine wpOp_mono (fun a' w' h3 => ⟨fun h h' => h3.2.1 h h', ih (listed.setIfInBounds j true) a' w' hfree' (closedL_set hcl hoj hall) (ready_mono hr (Ne.symm hji)) h3.1 (h3.2.1 hTj hS) ?_⟩) h2
      rw [Array.setIfInBounds_comm _ _ hji]
      exact h3.2.2

theorem wpAnyT_first' {i : Nat} {oi : Oper} {v : Value} (hi : ops[i]? = some oi) (hsel : ∀ (j : Nat) (o : Oper) cs b, ops[j]? = some o → o.op ≠ .select cs b)
    (hQ : ∀ c a w, Q (.panic c) (a.put oi.dst v) w → Q (.panic c) a w) :
    ∀ (fuel : Nat) (listed : Array Bool) (a : Act) (w : World),
      (∀ j oj, ops[j]? = some oj → j ≠ i → listed.getD j true = false → (∀ e ∈ oj.after, Region.binds md e = true → e.on ≠ i) → oi.apart ops oj = true) →
      i ∈ Region.ready md ops listed → YieldsIf P ops (fun _ => True) oi v a →
      wpAnyT P md ops Q S T fuel (listed.setIfInBounds i true) (a.put oi.dst v) w → wpAnyT P md ops Q S T (fuel + 1) listed a w := by
  intro fuel
  induction fuel with
  | zero =>
    intro listed a w _ hr hy H
    refine ⟨fun h => (by rw [h] at hr; cases hr), fun j hj => ?_⟩
    by_cases hji : j = i
    · subst hji; exact hy.wpOp hi trivial ⟨fun _ h => h, H⟩
    · have := ready_mono hj hji
      rw [H.1] at this
      cases this
  | succ fuel ih =>
    intro listed a w hfree hr hy H
    refine ⟨fun h => (by rw [h] at hr; cases hr), fun j hj => ?_⟩
    by_cases hji : j = i
    · subst hji; exact hy.wpOp hi trivial ⟨fun _ h => h, H⟩
    · have h1 := H.2 j (ready_mono hj hji)
      obtain ⟨hjun, oj, hoj, hall⟩ := mem_ready.1 hj
      have hnot : ∀ e ∈ oj.after, Region.binds md e = true → e.on ≠ i := fun e he hb heq => by
        have h1 := hall e he hb
        have h0 := (mem_ready.1 hr).1
        rw [heq] at h1
        rcases Nat.lt_or_ge i listed.size with h' | h'
        · simp [h'] at h0 h1; rw [h0] at h1; cases h1
        · simp [Array.getElem?_eq_none h'] at h1
      have h2 := wpOp_putIf (S := fun _ => True) hoj (hfree j oj hoj hji hjun hnot) (fun cs b => hsel i oi cs b hi) (fun cs b => hsel j oj cs b hoj) hQ hy h1
      have hfree' : ∀ k ok, ops[k]? = some ok → k ≠ i → (listed.setIfInBounds j true).getD k true = false →
          (∀ e ∈ ok.after, Region.binds md e = true → e.on ≠ i) → oi.apart ops ok = true := fun k ok hk hki hun hno => by
        refine hfree k ok hk hki ?_ hno
        by_cases hjk : j = k
        · subst hjk; exact hjun
        · rw [getD_set_ne true hjk] at hun; exact hun
      refine wpOp_mono (fun a' w' h3 => ⟨h3.2.1, ih (listed.setIfInBounds j true) a' w' hfree' (ready_mono hr (Ne.symm hji)) h3.1 ?_⟩) h2
      rw [Array.setIfInBounds_comm _ _ hji]
      exact h3.2.2

/-- Every operation of T waits for number i. -/
def waitB (md : Region.Mode) (ops : Array Oper) (T : Nat → Bool) (i : Nat) : Bool :=
  (List.range ops.size).all fun j => !T j || ((ops[j]?).map fun o => o.after.any fun e => Region.binds md e && e.on == i).getD true
theorem waitB_spec {i : Nat} (h : waitB md ops T i = true) : ∀ j oj, ops[j]? = some oj → T j = true → ∃ e ∈ oj.after, Region.binds md e = true ∧ e.on = i := by
  intro j oj hj hT
  have h1 := List.all_eq_true.1 h j (by simpa using (Array.getElem?_eq_some_iff.1 hj).1)
  rw [hj, hT] at h1
  simp only [Bool.not_true, Bool.false_or, Option.map_some, Option.getD_some, Array.any_eq_true] at h1
  obtain ⟨k, hk, he⟩ := h1
  simp only [Bool.and_eq_true, beq_iff_eq] at he
  exact ⟨_, Array.getElem_mem hk, he.1, he.2⟩

/-- A load: taken first. -/
theorem wpAnyT_load {i : Nat} {oi : Oper} {v : Value} {fuel : Nat} {listed : Array Bool} {a : Act} {w : World} (hi : ops[i]? = some oi)
    (hs : Region.noSelect ops = true) (hf : Region.free md ops listed i = true) (hr : (Region.ready md ops listed).contains i = true) (ht : waitB md ops T i = true)
    (hQ : ∀ c a w, Q (.panic c) (a.put oi.dst v) w → Q (.panic c) a w) (hy : YieldsIf P ops S oi v a) (hS : S w)
    (h : wpAnyT P md ops Q S T fuel (listed.setIfInBounds i true) (a.put oi.dst v) w) : wpAnyT P md ops Q S T (fuel + 1) listed a w :=
  wpAnyT_first hi (Region.noSelect_spec hs) hQ (waitB_spec ht) fuel listed a w (Region.free_spec hi hf) (by simpa using hr) hy hS h
/-- A load whose cell stands until the operations of T, which wait for it through others. -/
theorem wpAnyT_loadW {i : Nat} {oi : Oper} {v : Value} {fuel : Nat} {listed : Array Bool} {a : Act} {w : World} (hi : ops[i]? = some oi)
    (hs : Region.noSelect ops = true) (hf : Region.free md ops listed i = true) (hr : (Region.ready md ops listed).contains i = true) (hc : closedB md ops listed = true) (ht : ((List.range ops.size).all fun j => !T j || waitsB md ops ops.size j i) = true)
    (hQ : ∀ c a w, Q (.panic c) (a.put oi.dst v) w → Q (.panic c) a w) (hy : YieldsIf P ops S oi v a) (hS : S w)
    (h : wpAnyT P md ops Q S T fuel (listed.setIfInBounds i true) (a.put oi.dst v) w) : wpAnyT P md ops Q S T (fuel + 1) listed a w :=
  wpAnyT_firstW hi (Region.noSelect_spec hs) hQ (fun j oj hoj hj => by
    have := List.all_eq_true.1 ht j (by simpa using (Array.getElem?_eq_some_iff.1 hoj).1)
    simpa [hj] using this) fuel listed a w (Region.free_spec hi hf) (closedB_spec hc) (by simpa using hr) hy hS h
/-- What only reckons: taken first. -/
theorem wpAnyT_pure {i : Nat} {oi : Oper} {v : Value} {fuel : Nat} {listed : Array Bool} {a : Act} {w : World} (hi : ops[i]? = some oi)
    (hs : Region.noSelect ops = true) (hf : Region.free md ops listed i = true) (hr : (Region.ready md ops listed).contains i = true)
    (hQ : ∀ c a w, Q (.panic c) (a.put oi.dst v) w → Q (.panic c) a w) (hw : Region.wanted oi (yielded ops a.tmps) = true) (hy : ∀ w, (execOp a.eval oi).run P w = .ok (.value v) w)
    (h : wpAnyT P md ops Q S T fuel (listed.setIfInBounds i true) (a.put oi.dst v) w) : wpAnyT P md ops Q S T (fuel + 1) listed a w :=
  wpAnyT_first' hi (Region.noSelect_spec hs) hQ fuel listed a w (Region.free_spec hi hf) (by simpa using hr) (.inl ⟨hw, fun w _ => hy w⟩) h
/-- What is not wanted: passed over. -/
theorem wpAnyT_skip {i : Nat} {oi : Oper} {fuel : Nat} {listed : Array Bool} {a : Act} {w : World} (hi : ops[i]? = some oi)
    (hs : Region.noSelect ops = true) (hf : Region.free md ops listed i = true) (hr : (Region.ready md ops listed).contains i = true)
    (hQ : ∀ c a w, Q (.panic c) (a.put oi.dst undef) w → Q (.panic c) a w) (hw : Region.wanted oi (yielded ops a.tmps) = false)
    (h : wpAnyT P md ops Q S T fuel (listed.setIfInBounds i true) (a.put oi.dst undef) w) : wpAnyT P md ops Q S T (fuel + 1) listed a w :=
  wpAnyT_first' hi (Region.noSelect_spec hs) hQ fuel listed a w (Region.free_spec hi hf) (by simpa using hr) (.inr ⟨hw, rfl⟩) h
theorem wpAnyT_all {rs : List Nat} {fuel : Nat} {listed : Array Bool} {a : Act} {w : World} (hr : Region.ready md ops listed = rs) (hne : rs ≠ [])
    (h : ∀ i ∈ rs, wpOp P ops Q i (fun a' w' => (T i = false → S w → S w') ∧ wpAnyT P md ops Q S T fuel (listed.setIfInBounds i true) a' w') a w) : wpAnyT P md ops Q S T (fuel + 1) listed a w :=
  ⟨fun h0 => absurd (hr ▸ h0) hne, hr ▸ h⟩
theorem wpAnyT_one {i : Nat} {fuel : Nat} {listed : Array Bool} {a : Act} {w : World} {oi : Oper} (hr : Region.ready md ops listed = [i]) (hi : ops[i]? = some oi) (hw : Region.wanted oi (yielded ops a.tmps) = true)
    (h : oi.wp P a w (fun a' w' => (T i = false → S w → S w') ∧ wpAnyT P md ops Q S T fuel (listed.setIfInBounds i true) a' w') Q) : wpAnyT P md ops Q S T (fuel + 1) listed a w := by
  refine wpAnyT_all hr (by simp) (fun j hj => ?_)
  obtain rfl : j = i := by simpa using hj
  unfold wpOp
  simp only [hi, hw, if_true]
  exact .inl h
theorem wpAnyT_two {i k : Nat} {fuel : Nat} {listed : Array Bool} {a : Act} {w : World} {oi ok : Oper} (hr : Region.ready md ops listed = [i, k]) (hi : ops[i]? = some oi) (hk : ops[k]? = some ok)
    (hw : Region.wanted oi (yielded ops a.tmps) = true) (hwk : Region.wanted ok (yielded ops a.tmps) = true)
    (h : oi.wp P a w (fun a' w' => (T i = false → S w → S w') ∧ wpAnyT P md ops Q S T fuel (listed.setIfInBounds i true) a' w') Q)
    (h2 : ok.wp P a w (fun a' w' => (T k = false → S w → S w') ∧ wpAnyT P md ops Q S T fuel (listed.setIfInBounds k true) a' w') Q) : wpAnyT P md ops Q S T (fuel + 1) listed a w := by
  refine wpAnyT_all hr (by simp) (fun j hj => ?_)
  have hj' : j = i ∨ j = k := by simpa using hj
  rcases hj' with rfl | rfl
  · unfold wpOp; simp only [hi, hw, if_true]; exact .inl h
  · unfold wpOp; simp only [hk, hwk, if_true]; exact .inl h2
/-- From here on another S, where every operation keeps it. -/
theorem wpAnyT_re {S' : World → Prop} (hs : ∀ w, S' w → S w) : ∀ (fuel : Nat) (listed : Array Bool) (a : Act) (w : World), S' w → wpAnyT P md ops Q S' (fun _ => false) fuel listed a w → wpAnyT P md ops Q S T fuel listed a w
  | 0, _, _, _, _, h => h
  | fuel + 1, _, _, _, h0, h => ⟨h.1, fun i hi => wpOp_mono (fun a' w' h' => ⟨fun _ _ => hs _ (h'.1 rfl h0), wpAnyT_re hs fuel _ a' w' (h'.1 rfl h0) h'.2⟩) (h.2 i hi)⟩
theorem wpAnyT_done {listed : Array Bool} {a : Act} {w : World} (hr : Region.ready md ops listed = []) (h : Q .normal a w) :
    ∀ fuel, wpAnyT P md ops Q S T fuel listed a w
  | 0 => ⟨hr, h⟩
  | _ + 1 => ⟨fun _ => h, by rw [hr]; simp⟩
theorem wp_region_T (S : World → Prop) (T : Nat → Bool) {id : Nat} {a : Act} {w : World} (hm : P.follows .mixedOrders = true)
    (h : wpAnyT P .any ops Q S T ops.size (Array.replicate ops.size false) a w.drew) : (Code.region id ops true).wp P Q a w :=
  wp_region_any hm (wpAny_of_T _ _ _ _ h)
end

section
variable {P : Program} {o : Oper} {a : Act} {w : World} {K : Act → World → Prop} {Q : Exit → Act → World → Prop}
theorem wp_value {v : Value} {w' : World} (he : (execOp a.eval o).run P w = .ok (.value v) w') (h : K (a.put o.dst v) w') : o.wp P a w K Q := by
  unfold Oper.wp; rw [he]; exact h
/-- A new block of one cell: what follows knows the block, not how it was made. -/
theorem wp_new1 {v u : Value} {te : TypeId} (he : (execOp a.eval o).run P w = .ok (.value v) (w.alloc (.cells #[u] te))) (h : ∀ w2, Below w.heap.size w w2 → w2.cell? ⟨w.heap.size, 0, none⟩ = some u → K (a.put o.dst v) w2) : o.wp P a w K Q :=
  wp_value he (h _ ((Below.refl _ w).alloc (Nat.le_refl _) _) (blk_cell (heap_alloc_new w _) 0))
theorem wp_enter {f : FuncId} {args : Array Value} {R : Ending → World → Prop} (he : (execOp a.eval o).run P w = .ok (.enter f args) w) (hc : Calls P f args w R)
    (h : ∀ e w', R e w' → ∃ v, e = .returned v ∧ K (a.put o.dst v) w') : o.wp P a w K Q := by
  unfold Oper.wp; rw [he]
  refine hc.mono fun e w' hr => ?_
  obtain ⟨v, rfl, hk⟩ := h e w' hr
  exact hk
theorem wp_app (s x : Operand) (t : TypeId)
    (ho : o.op = .call { callee := .builtin .append, args := #[s, x], argTypes := #[t, t] })
    {e : Ty} {base : Nat} {te : TypeId} {z : Value} {bytes : Nat} (hi : (P.info? te).map (fun i => (i.zero, i.size, i.bytes)) = some (some z, e.sz, bytes)) (ht : P.underlying t = some (.slice te)) (hz : z.cells.size = e.sz) (h0 : 0 < e.sz)
    {S : Nat → Prop} {v : Value} {xs : List e.den} (hv : a.eval s = v) (hown : Owns e te base S w v xs) (hbase : base ≤ w.heap.size)
    {sv : Value} (hsv : a.eval x = sv) {ys : List e.den} {news : List Value} (hs : Src w sv ys.length news) (hr : RdL e S w news ys) (hb : (xs.length + ys.length) * bytes ≤ 140737488355328) (hmx : xs.length + ys.length ≤ 9223372036854775807)
    (h : ∀ (ca : Option Addr) (cl cc : Nat) w', Owns e te base S w' (.slice ca cl cc) (xs ++ ys) → w.grownBy w' v.ownBlock → ((Value.slice ca cl cc).ownBlock = v.ownBlock ∨ (Value.slice ca cl cc).ownBlock = some w.heap.size) → K (a.put o.dst (.slice ca cl cc)) w') :
    o.wp P a w K Q := by
  obtain ⟨v', w', hrun, h1, h2, h3, h4⟩ := run_app (P := P) w (ty := o.type) hi ht hz h0 hown hbase hs hr hb hmx
  obtain ⟨ca, cl, cc, rfl, -⟩ := h1.slice
  unfold Oper.wp
  simp [execOp, ho, resolve, invoke, builtin, hv, hsv, hrun, Result.andThen]
  exact h ca cl cc w' h1 h2 h4
end
theorem Src.of_cell {w : World} {b m c : Nat} {u : Value} (hm : m = 1) (h : w.cell? ⟨b, 0, none⟩ = some u) : Src w (.slice (some ⟨b, 0, none⟩) m c) m [u] := by
  subst hm
  refine Src.of_cells fun j v hv => ?_
  match j, hv with
  | 0, hv => simp at hv; subst hv; exact h
  | n + 1, hv => simp at hv
theorem RdL.mono {e : Ty} {S S' : Nat → Prop} {w : World} {vs : List Value} {xs : List e.den} (h : RdL e S w vs xs) (hs : ∀ b, S b → S' b) : RdL e S' w vs xs := h.keep (fun _ _ => rfl) hs

/-! ### append onto a full slice that is read: a new row -/
section
variable {P : Program} (w : World)
theorem run_appF {e : Ty} {t ty te : TypeId} {z : Value} {bytes : Nat} (hi : (P.info? te).map (fun i => (i.zero, i.size, i.bytes)) = some (some z, e.sz, bytes)) (ht : P.underlying t = some (.slice te)) (hz : z.cells.size = e.sz) (h0 : 0 < e.sz)
    {S : Nat → Prop} {a : Option Addr} {n : Nat} {xs : List e.den} (hx : Rd (.sl e) S w [.slice a n n] xs) (hn0 : 0 < n) (hS : ∀ b, S b → b < w.heap.size)
    {ad : Addr} {c m : Nat} {ys : List e.den} {news : List Value} (hm : ys.length = m) (hnews : ∀ j u, news[j]? = some u → w.cell? (ad.add j) = some u) (hr : RdL e S w news ys) (hm0 : 0 < m) (hb : (xs.length + m) * bytes ≤ 140737488355328) (hmx : xs.length + m ≤ 9223372036854775807) :
    ∃ va vl vc w', (Builtin.append_ #[t, t] ty #[.slice a n n, .slice (some ad) m c]).run P w = .ok (.slice va vl vc) w' ∧ Owns e te w.heap.size S w' (.slice va vl vc) (xs ++ ys) ∧ Below w.heap.size w w' := by
  obtain ⟨i, hi', hz0, hz1, hz2⟩ := info_parts hi
  clear hi
  subst hz2
  subst hm
  obtain ⟨hl, -, -, ws, h7, h8⟩ := hx.sl_flat
  subst hl
  have hnl : news.length = ys.length * i.size := by rw [hr.len, hz1]
  have hwl := h7.len
  rcases h8 with h8 | ⟨g, off, rfl, hSg, hc⟩
  · omega
  have holds : ∀ j u, ws[j]? = some u → w.cell? ((⟨g, off, none⟩ : Addr).add j) = some u := fun j u hu => by
    rw [Addr.add_none]; exact hc j u hu
  have hrun := run_append_grow (P := P) w t ty te i z ht hi' hz0 ⟨g, off, none⟩ xs.length xs.length ws (by rw [hwl, hz1]) holds ad ys.length c news hnl hnews (by omega) (by omega) (growslice_fits (by omega) hb)
  have hge := grownCap_ge w (xs.length + ys.length) xs.length te
  have hcm : grownCap w (xs.length + ys.length) xs.length te ≤ maxLen := grownCap_le_maxLen w _ xs.length te (by simp [maxLen]; omega)
  generalize grownCap w (xs.length + ys.length) xs.length te = gc at hge hcm hrun
  have hk : ∀ (o : Obj) (b : Nat), S b → (w.drew.alloc o).heap[b]? = w.heap[b]? := fun o b hb => heap_alloc_old w.drew _ (hS b hb)
  refine ⟨_, _, _, _, hrun, ⟨ws ++ news, ⟨by rw [List.length_append, hwl, hnl, hz1, List.length_append, Nat.add_mul], .inr ⟨w.heap.size, gc, _, by rw [List.length_append], Nat.le_refl _, heap_alloc_new w.drew _, by rw [List.length_append]; exact hge, by simpa [maxLen] using hcm, ?_, ?_⟩⟩, (h7.append hr).keep (hk _) (fun _ h => h), fun b hb => ⟨?_, Nat.lt_of_lt_of_le (hS b hb) (by simp)⟩⟩, ((Below.refl _ w).drew).alloc (Nat.le_refl _) _⟩
  · simp only [Array.size_append, List.size_toArray, size_zeroCells, hz, hwl, hnl, hz1, ← Nat.add_mul]
    congr 1
    omega
  · simp only [Array.toList_append, List.append_assoc]
    rw [← List.append_assoc, List.take_left' (by rw [List.length_append, hwl, hnl, hz1, List.length_append, Nat.add_mul])]
  · have := hS b hb
    simp [Value.ownBlock]; omega

theorem wpList_appF {ops : Array Oper} {rest : List Oper} {o : Oper} {a : Act} {Q : Exit → Act → World → Prop} (hgd : o.guard = none) (s x : Operand) (t : TypeId)
    (ho : o.op = .call { callee := .builtin .append, args := #[s, x], argTypes := #[t, t] })
    {e : Ty} {te : TypeId} {z : Value} {bytes : Nat} (hi : (P.info? te).map (fun i => (i.zero, i.size, i.bytes)) = some (some z, e.sz, bytes)) (ht : P.underlying t = some (.slice te)) (hz : z.cells.size = e.sz) (h0 : 0 < e.sz)
    {S : Nat → Prop} {va : Option Addr} {n : Nat} {xs : List e.den} (hv : a.eval s = .slice va n n) (hx : Rd (.sl e) S w [.slice va n n] xs) (hn0 : 0 < n) (hS : ∀ b, S b → b < w.heap.size)
    {ad : Addr} {c m : Nat} (hsv : a.eval x = .slice (some ad) m c) {ys : List e.den} {news : List Value} (hm : ys.length = m) (hnews : ∀ j u, news[j]? = some u → w.cell? (ad.add j) = some u) (hr : RdL e S w news ys) (hm0 : 0 < m) (hb : (xs.length + m) * bytes ≤ 140737488355328) (hmx : xs.length + m ≤ 9223372036854775807)
    (h : ∀ ca cl cc w', Owns e te w.heap.size S w' (.slice ca cl cc) (xs ++ ys) → Below w.heap.size w w' → wpList P ops Q rest (a.put o.dst (.slice ca cl cc)) w') :
    wpList P ops Q (o :: rest) a w := by
  refine wpList_plain hgd fun K hK => ?_
  obtain ⟨ca, cl, cc, w', hrun, h1, h2⟩ := run_appF (P := P) w (ty := o.type) hi ht hz h0 hx hn0 hS (c := c) hm hnews hr hm0 hb hmx
  unfold Oper.wp
  simp [execOp, ho, resolve, invoke, builtin, hv, hsv, hrun, Result.andThen]
  exact hK _ _ (h ca cl cc w' h1 h2)
end
end Go.Proofs.Ytdcjocldggmdbaa

/- Program independent: cells that stand; a literal that is built, and appended to, in a region that draws its order. -/
namespace Go.Proofs.Ytdcjocldggmdbaa
open Go.RowKit Go

/-- Cells that stand. -/
def Cells : List (Addr × Value) → World → Prop
  | [], _ => True
  | (a, v) :: r, w => w.cell? a = some v ∧ Cells r w
theorem Cells.below {w w' : World} (hB : Below w.heap.size w w') : ∀ {l : List (Addr × Value)}, Cells l w → Cells l w'
  | [], _ => trivial
  | (_, _) :: _, h => ⟨cell_below h.1 hB, Cells.below hB h.2⟩
def CellsLt (n : Nat) : List (Addr × Value) → Prop
  | [] => True
  | (a, _) :: r => a.block < n ∧ CellsLt n r
theorem Cells.belowN {n : Nat} {w w' : World} (hB : Below n w w') : ∀ {l : List (Addr × Value)}, CellsLt n l → Cells l w → Cells l w'
  | [], _, _ => trivial
  | (_, _) :: _, hl, h => ⟨(hB.cell hl.1).trans h.1, Cells.belowN hB hl.2 h.2⟩
theorem Cells.drew {w : World} {l : List (Addr × Value)} (h : Cells l w) : Cells l w.drew := by
  induction l with
  | nil => trivial
  | cons x l ih => exact ⟨h.1, ih h.2⟩

section
variable {P : Program} {o : Oper} {a : Act} {w : World} {K : Act → World → Prop} {Q : Exit → Act → World → Prop}
/-- A new block: what follows knows the block, not how it was made. -/
theorem wp_newrow {v : Value} {cs : Array Value} {te : TypeId} (he : (execOp a.eval o).run P w = .ok (.value v) (w.alloc (.cells cs te))) (h : ∀ w2, Below w.heap.size w w2 → w2.heap[w.heap.size]? = some (.cells cs te (0, 0)) → K (a.put o.dst v) w2) : o.wp P a w K Q :=
  wp_value he (h _ ((Below.refl _ w).alloc (Nat.le_refl _) _) (heap_alloc_new w _))

theorem run_appLit {e : Ty} {t ty te : TypeId} {z : Value} {bytes : Nat} (hi : (P.info? te).map (fun i => (i.zero, i.size, i.bytes)) = some (some z, e.sz, bytes)) (ht : P.underlying t = some (.slice te)) (hz : z.cells.size = e.sz) (h0 : 0 < e.sz)
    {S : Nat → Prop} {b base : Nat} (hb : w.heap[b]? = some (.cells #[] te (0, 0))) (hbase : base ≤ b) {sv : Value} {ys : List e.den} {news : List Value} (hs : Src w sv ys.length news) (hr : RdL e S w news ys) (hS : ∀ x, S x → x ≠ b ∧ x < w.heap.size)
    (hbt : ys.length * bytes ≤ 140737488355328) (hmx : ys.length ≤ 9223372036854775807) :
    ∃ va vl vc w', (Builtin.append_ #[t, t] ty #[.slice (some ⟨b, 0, none⟩) 0 0, sv]).run P w = .ok (.slice va vl vc) w' ∧ Owns e te base S w' (.slice va vl vc) ys ∧ Below w.heap.size w w' := by
  obtain ⟨i, hi', hz0, hz1, hz2⟩ := info_parts hi
  clear hi
  subst hz2
  have hbl : b < w.heap.size := (Array.getElem?_eq_some_iff.1 hb).1
  by_cases hm : ys.length = 0
  · obtain rfl : ys = [] := List.eq_nil_of_length_eq_zero hm
    have hsv : ∃ a c, sv = .slice a 0 c := by
      rcases hs with ⟨c, rfl, _⟩ | ⟨a, c, rfl, _⟩
      · exact ⟨_, _, rfl⟩
      · exact ⟨_, _, rfl⟩
    obtain ⟨a', c, rfl⟩ := hsv
    have hf : ∀ (a : Option Addr) w', (Builtin.firstCells i.size 0 (.slice a 0 c)).run P w' = .ok #[] w' := by
      intro a w'
      cases a with
      | none => simp [Builtin.firstCells]
      | some a => simp [Builtin.firstCells, loadCells, loadCellsFrom]
    refine ⟨some ⟨b, 0, none⟩, 0, 0, w, ?_, ⟨[], ⟨by simp, .inr ⟨b, 0, #[], rfl, hbase, hb, Nat.le_refl _, by simp, by simp, by simp⟩⟩, rfl, fun x hx => ⟨fun e' => (hS x hx).1 (by simpa [Value.ownBlock] using e'.symm), (hS x hx).2⟩⟩, Below.refl _ _⟩
    simp [Builtin.append_, run_underlying ht, sizeOf, typeInfo, hi', Builtin.lenOf, hf, storeCells]
  · obtain ⟨ad, c, rfl, hnews⟩ : ∃ ad c, sv = .slice (some ad) ys.length c ∧ ∀ j u, news[j]? = some u → w.cell? (ad.add j) = some u := by
      rcases hs with ⟨c, _, h0', _⟩ | ⟨a', c, rfl, ⟨h0', _⟩ | ⟨ad, rfl, h⟩⟩
      · exact absurd h0' hm
      · exact absurd h0' hm
      · exact ⟨ad, c, rfl, h⟩
    have hnl : news.length = ys.length * i.size := by rw [hr.len, hz1]
    have hrun := run_append_grow (P := P) w t ty te i z ht hi' hz0 ⟨b, 0, none⟩ 0 0 [] (by simp) (fun j u hu => by simp at hu) ad ys.length c news hnl hnews (by omega) (by omega) (growslice_fits (by omega) (by simpa using hbt))
    have hge := grownCap_ge w (0 + ys.length) 0 te
    have hcm : grownCap w (0 + ys.length) 0 te ≤ maxLen := grownCap_le_maxLen w _ 0 te (by simp [maxLen]; omega)
    generalize grownCap w (0 + ys.length) 0 te = gc at hge hcm hrun
    have hk : ∀ (o : Obj) (b : Nat), S b → (w.drew.alloc o).heap[b]? = w.heap[b]? := fun o b hb => heap_alloc_old w.drew _ (hS b hb).2
    refine ⟨_, _, _, _, hrun, ⟨news, ⟨by rw [hnl, hz1], .inr ⟨w.heap.size, gc, _, by rw [Nat.zero_add], by omega, heap_alloc_new w.drew _, by omega, by simpa [maxLen] using hcm, ?_, ?_⟩⟩, hr.keep (hk _) (fun _ h => h), fun x hx => ⟨?_, Nat.lt_of_lt_of_le (hS x hx).2 (by simp)⟩⟩, ((Below.refl _ w).drew).alloc (Nat.le_refl _) _⟩
    · simp only [Array.size_append, List.size_toArray, size_zeroCells, hz, hnl, hz1, ← Nat.add_mul, List.length_nil]
      rw [Nat.zero_add, ← Nat.add_mul]
      congr 1
      omega
    · simp only [Array.toList_append, List.append_assoc]
      rw [List.nil_append, List.take_left' (by rw [hnl, hz1])]
    · have := hS x hx
      simp [Value.ownBlock]; omega
theorem wp_appLit (s x : Operand) (t : TypeId)
    (ho : o.op = .call { callee := .builtin .append, args := #[s, x], argTypes := #[t, t] })
    {e : Ty} {te : TypeId} {z : Value} {bytes : Nat} (hi : (P.info? te).map (fun i => (i.zero, i.size, i.bytes)) = some (some z, e.sz, bytes)) (ht : P.underlying t = some (.slice te)) (hz : z.cells.size = e.sz) (h0 : 0 < e.sz)
    {S : Nat → Prop} {b base : Nat} (hv : a.eval s = .slice (some ⟨b, 0, none⟩) 0 0) (hb : w.heap[b]? = some (.cells #[] te (0, 0))) (hbase : base ≤ b)
    {sv : Value} (hsv : a.eval x = sv) {ys : List e.den} (hr : Rd (.sl e) S w [sv] ys) (hS : ∀ x, S x → x ≠ b ∧ x < w.heap.size) (hbt : ys.length * bytes ≤ 140737488355328) (hmx : ys.length ≤ 9223372036854775807)
    (h : ∀ (ca : Option Addr) (cl cc : Nat) w', Owns e te base S w' (.slice ca cl cc) ys → Below w.heap.size w w' → K (a.put o.dst (.slice ca cl cc)) w') :
    o.wp P a w K Q := by
  obtain ⟨news, hs, hrl⟩ := hr.src
  obtain ⟨ca, cl, cc, w', hrun, h1, h2⟩ := run_appLit (P := P) (w := w) (ty := o.type) hi ht hz h0 hb hbase hs hrl hS hbt hmx
  unfold Oper.wp
  simp [execOp, ho, resolve, invoke, builtin, hv, hsv, hrun, Result.andThen]
  exact h ca cl cc w' h1 h2
end
end Go.Proofs.Ytdcjocldggmdbaa

/- Program independent: a walk that is cut: what stands behind a part of the code is told by the slots that it has filled. -/
namespace Go.Proofs.Ytdcjocldggmdbaa
open Go.RowKit Go

def puts (a : Act) : List Tmp → List Value → Act
  | d :: ds, v :: vs => puts (a.put (some d) v) ds vs
  | _, _ => a
def CutTo (a : Act) (ds : List Tmp) (I : List Value → World → Prop) (a' : Act) (w' : World) : Prop := ∃ vs, a' = puts a ds vs ∧ I vs w'
theorem wp_cut {P : Program} {c : Code} {Q : Exit → Act → World → Prop} {a : Act} {w : World} (ds : List Tmp) (I : List Value → World → Prop)
    (h1 : c.wp P (Exit.then (CutTo a ds I) (fun _ _ _ => False)) a w) (h2 : ∀ vs w', I vs w' → Q .normal (puts a ds vs) w') : c.wp P Q a w := by
  refine Code.wp_mono (fun e a' w' q => ?_) h1
  cases e <;> first | exact q.elim | skip
  obtain ⟨vs, rfl, hI⟩ := q
  exact h2 vs w' hI
theorem cut_leaf {a a' : Act} {ds : List Tmp} {I : List Value → World → Prop} {w' : World} (h : a' = puts a ds (ds.map fun d => a'.tmps.getD d undef)) (hI : I (ds.map fun d => a'.tmps.getD d undef) w') : Exit.then (CutTo a ds I) (fun _ _ _ => False) .normal a' w' := (⟨_, h, hI⟩ : CutTo a ds I a' w')
end Go.Proofs.Ytdcjocldggmdbaa
