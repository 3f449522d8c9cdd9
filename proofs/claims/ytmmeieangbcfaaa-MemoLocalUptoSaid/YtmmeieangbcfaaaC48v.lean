/- Layer 48: Change. -/
import Derived.Test.YtmmeieangbcfaaaC48u
import Derived.Maps.RangeWalk
set_option linter.unusedSimpArgs false
namespace Go.Proofs.Ytmmeieangbcfaaa
open Go.RowKit Go

/-- What reads as a key is a cell. -/
theorem keyOf_cell {v : Value} {kl : Lit} (h : keyOf Try.prog 26 v = some kl) : ∃ c : C4, c.ok ∧ v = c.v ∧ kl = c.l := by
  have hkt : Try.prog.keyType 26 = true := by kernel_rfl
  have hco : Try.prog.cellsOf 26 = 4 := by kernel_rfl
  have hc3 : Try.prog.cellsOf 3 = 1 := by kernel_rfl
  obtain ⟨n, hn⟩ : ∃ n, Try.prog.types.size = n + 1 := ⟨Try.prog.types.size - 1, by have : 0 < Try.prog.types.size := of_decide_eq_true (by kernel_rfl); omega⟩
  have h0 := h
  have hcell : ∀ (d : Nat) (a : Value) (ls : List Lit), Try.prog.keyLits (d + 1) 3 [a] = some ls → ∃ x : Int, a = .int .i64 x ∧ (Lit.int .i64 x).wf = true := by
    intro d a ls ha
    cases a <;> simp [Program.keyLits, Try.underlying3] at ha
    obtain ⟨⟨rfl, h2⟩, -⟩ := ha
    exact ⟨_, rfl, by simpa using h2⟩
  unfold keyOf at h
  simp only [Try.underlying26, hkt, hn] at h
  split at h
  · rename_i hf
    have hf : v.formed Try.prog 26 = true := by simpa using hf
    obtain ⟨cs, rfl⟩ : ∃ cs, v = .agg cs := by cases v <;> first | exact ⟨_, rfl⟩ | simp [Value.formed, Try.underlying26] at hf
    simp only [Value.formed, Try.underlying26, hco, beq_iff_eq] at hf
    obtain ⟨cs⟩ := cs
    match cs, hf with
    | [a, b, c, d], _ =>
      simp only [Value.cells] at h
      unfold Program.keyLits at h
      simp only [Try.underlying26, hco, hc3] at h
      simp only [hc3, List.length_cons, List.length_nil, true_and, List.mapM_cons, List.mapM_nil, List.drop_zero, List.take, List.drop] at h
      have hn' : ∃ m, n = m + 1 := ⟨n - 1, by have : 1 < Try.prog.types.size := of_decide_eq_true (by kernel_rfl); omega⟩
      obtain ⟨m, rfl⟩ := hn'
      cases h1 : Try.prog.keyLits (m + 1 + 1) 3 [a] with
      | none => simp [h1] at h
      | some l1 =>
      cases h2 : Try.prog.keyLits (m + 1 + 1) 3 [b] with
      | none => simp [h1, h2] at h
      | some l2 =>
      cases h3 : Try.prog.keyLits (m + 1 + 1) 3 [c] with
      | none => simp [h1, h2, h3] at h
      | some l3 =>
      cases h4 : Try.prog.keyLits (m + 1 + 1) 3 [d] with
      | none => simp [h1, h2, h3, h4] at h
      | some l4 =>
      obtain ⟨a, rfl, w1⟩ := hcell _ _ _ h1
      obtain ⟨b, rfl, w2⟩ := hcell _ _ _ h2
      obtain ⟨c, rfl, w3⟩ := hcell _ _ _ h3
      obtain ⟨d, rfl, w4⟩ := hcell _ _ _ h4
      refine ⟨⟨a, b, c, d⟩, ⟨w1, w2, w3, w4⟩, rfl, ?_⟩
      unfold C4.l C4.v
      simp only
      rw [h0]; rfl
  · cases h
theorem ranges_has {P : Program} {k : TypeId} {R : Value → Option (DataW Unit × List MemPlace)} {w : World} {b r n : Nat} {D : DataW Unit} {left : Lit → Bool} {cnt : Nat} (K : Maps.Keyed P k) (h : w.ranges P k R b r n D left cnt) (kl : Lit) (hl : left kl = true) : Maps.has D kl = true := by
  obtain ⟨es, clock, since, seen, c0, hb, F, hs, rfl, hr, hold, hc, h1, h2, h3⟩ := h
  obtain ⟨x, hx, rfl⟩ := h2 kl hl
  obtain ⟨y, hy⟩ := F.reads x hx
  exact List.any_eq_true.2 ⟨WideElems.rg P k R x, mem_sorted.2 (List.mem_map.2 ⟨x, hx, rfl⟩), WideAt.sameKey_self (by rw [WideElems.rg_of hy]; exact K.key (WideElems.rd_key hy))⟩
theorem cellL_same (c d : C4) (hc : c.ok) (hd : d.ok) : (C4.l d).sameKey (C4.l c) = decide (d = c) := by
  by_cases h : d = c
  · subst h
    rw [WideAt.sameKey_self (cellK.K.key (C4.l_eq d hd))]
    simp
  · rw [decide_eq_false h]
    cases hs : (C4.l d).sameKey (C4.l c)
    · rfl
    · exact absurd (cellK.inj d c hd hc (WideAt.sameKey_eq hs)) h
/-- An entry's marks are set. -/
theorem MemoIn.mark {F : Nat → Nat} {w : World} {p : Nat} {iv : Value} {s : MS} {st : List (Option Nat)} {kb pb : Nat} {sv cv : Value} {eb : C4 → Option Nat} (h : MemoIn F w p iv s st kb pb sv cv eb) (c : C4) (x y : Ent) (hx : s.kept c = some x) (e : Nat) (he : eb c = some e) (i : Nat) (u : Value)
    (hv : y.value = x.value) (hr : y.reads = x.reads) (hi : ∀ a b : Value, (#[a, b, .bool x.checked, .bool x.changed] : Array Value).setIfInBounds i u = #[a, b, .bool y.checked, .bool y.changed]) :
    MemoIn F (w.setCell ⟨e, i, none⟩ u) p iv { s with kept := upd s.kept c (some y) } st kb pb sv cv eb ∧ Gr (Mem F) w (w.setCell ⟨e, i, none⟩ u) := by
  have hE := h.ent c x e hx he
  have hgs := gr_setCell w e i u
  have hg : Gr (fun b => F b = 2 ∨ F b = 6) w (w.setCell ⟨e, i, none⟩ u) := hgs.mono (fun b hb => .inl (.inr (by rw [hb]; exact hE.1)))
  refine ⟨h.kept (n' := s.n) (fun _ _ => rfl) (fun b hb => by simpa using h.dom b hb) hg (MapG.gr h.mke hgs (fun e' => by have h1 := h.fk; rw [e', hE.1] at h1; omega)) ?_ ?_ h.inj h.okc, hg.mono (fun b hb => .inl (by unfold Mem; rcases hb with e | e <;> rw [e] <;> decide))⟩
  · intro d
    unfold upd
    split
    · rename_i hd; subst hd; rw [he]; rfl
    · exact h.some_ d
  · intro d z e' hz he'
    unfold upd at hz
    split at hz
    · rename_i hd
      subst hd
      obtain rfl := Option.some.inj hz
      obtain rfl := Option.some.inj (he.symm.trans he')
      obtain ⟨h0, hwv, ra, rl, rc, h1, h2⟩ := hE
      refine ⟨h0, by rw [hv]; exact hwv, ra, rl, rc, ?_, ?_⟩
      · have := blk_set (i := i) h1 u
        rw [hi] at this
        rw [hv]; exact this
      · rw [hr]
        exact h2.gr hgs (fun b hb => ⟨h.dom b (by rw [hb]; decide), fun e' => by rw [e', h0] at hb; omega⟩) (fun _ h => h)
    · rename_i hd
      exact (h.ent d z e' hz he').gr hgs (fun e2 => hd (h.inj d c e' he' (by rw [e2]; exact he))) (fun b hb => ⟨h.dom b (by rw [hb]; decide), fun e2 => by have := hE.1; rw [e2] at hb; omega⟩)
/-- The marks of those entries that have come. -/
noncomputable def unch (left : Lit → Bool) (k : C4 → Option Ent) : C4 → Option Ent := fun d => (k d).map fun x => if left (C4.l d) = true then x else { x with checked := false }
def MS.change (s : MS) (c : C4) : MS := { s with kept := fun d => (s.kept d).map fun x => { x with checked := false, changed := x.changed || decide (d = c) } }
theorem unch_start {left : Lit → Bool} {k : C4 → Option Ent} (h : ∀ d x, k d = some x → left (C4.l d) = true) : unch left k = k := by
  funext d
  unfold unch
  cases hk : k d with
  | none => rfl
  | some x => simp [h d x hk]
theorem unch_end {left : Lit → Bool} {k : C4 → Option Ent} (h : ∀ kl, left kl = false) : unch left k = fun d => (k d).map fun x => { x with checked := false } := by
  funext d
  unfold unch
  cases hk : k d with
  | none => rfl
  | some x => simp [h]
theorem unch_step {left : Lit → Bool} {k : C4 → Option Ent} {c : C4} (hc : c.ok) (hok : ∀ d x, k d = some x → d.ok) {x : Ent} (hx : k c = some x) (hl : left (C4.l c) = true) :
    upd (unch left k) c (some { x with checked := false }) = unch (fun z => left z && !z.sameKey (C4.l c)) k := by
  funext d
  unfold upd unch
  by_cases hd : d = c
  · subst hd
    simp [hx, cellL_same d d hc hc]
  · rw [if_neg hd]
    cases hk : k d with
    | none => rfl
    | some y => simp [cellL_same c d hc (hok d y hk), hd]
/-- The step of the loop over the kept cells. -/
theorem wpList_next48 {w : World} {ops : Array Oper} {rest : List Oper} {o : Oper} {a : Act} {Q : Exit → Act → World → Prop} (hg : o.guard = none) (it : Operand) (hop : o.op = Op.next it false) {b r n m : Nat} {D : DataW Unit} {left : Lit → Bool} {cnt : Nat} {f : C4 → Option Nat}
    (hit : a.eval it = .pointer (some ⟨r, 0, none⟩)) (h : w.ranges Try.prog 26 entE.R b r n D left cnt) (hf : ∀ x : C4, x.ok → Maps.has D (C4.l x) = (f x).isSome ∧ D.atKey (C4.l x) (entE.d entE.z) = entE.d (((f x).map some).getD entE.z))
    (hDone : (∀ kl, left kl = false) → wpList Try.prog ops Q rest (a.put o.dst (.tuple #[.bool false])) w)
    (hMore : ∀ (c : C4) (e : Nat) (w' : World) (cnt' : Nat), c.ok → f c = some e → left (C4.l c) = true → w'.ranges Try.prog 26 entE.R b r n D (fun z => left z && !z.sameKey (C4.l c)) cnt' → cnt' < cnt →
      w.grownBy w' (some r) → w'.heap.size = w.heap.size → Sem.run Try.prog (Instr.entry (.pointer (some ⟨r, 0, none⟩))) w' = .ok (.tuple #[c.v, .pointer (some ⟨e, 0, none⟩)]) w' → wpList Try.prog ops Q rest (a.put o.dst (.tuple #[.bool true, c.v, .pointer (some ⟨e, 0, none⟩)])) w') :
    wpList Try.prog ops Q (o :: rest) a w := by
  refine wpList_next_ranges w hg it hop 26 cellK.K entE.R C4.v ptrV (fun key kl hk => by obtain ⟨c, -, rfl, -⟩ := keyOf_cell hk; exact ⟨c, rfl⟩) (fun v y hy => ?_) b r n D left cnt hit h (fun _ hl => hDone hl) ?_
  · unfold entE ptrEl at hy
    simp only at hy
    unfold ptrR at hy
    split at hy
    · exact ⟨none, rfl⟩
    · rename_i bb
      exact ⟨some bb, rfl⟩
    · cases hy
  · intro c q kl y w' cnt' hkey hl hR hat hrg hlt hgr hsz hen
    obtain ⟨c', hok, hcv, rfl⟩ := keyOf_cell hkey
    obtain rfl := C4.v_inj hcv
    have hh := ranges_has cellK.K h _ hl
    have hfc := hf c hok
    rw [hh] at hfc
    obtain ⟨e, he⟩ := Option.isSome_iff_exists.1 hfc.1.symm
    have h2 := hat (entE.d entE.z)
    rw [hfc.2, he] at h2
    have hy : y.1 = ptrD q := by
      have := entE.hR q trivial
      have hR' : entE.R (ptrV q) = some y := hR
      rw [show entE.R (ptrV q) = some (ptrD q, []) from this] at hR'
      rw [← Option.some.inj hR']
    rw [hy] at h2
    have hqe : q = some e := by
      have h3 : ptrD (some e) = ptrD q := h2
      cases q with
      | none => simp [ptrD] at h3
      | some b => simp [ptrD] at h3; rw [show e = b from Int.ofNat.inj h3]
    subst hqe
    exact hMore c e w' cnt' hok he hl hrg hlt hgr hsz hen
end Go.Proofs.Ytmmeieangbcfaaa
