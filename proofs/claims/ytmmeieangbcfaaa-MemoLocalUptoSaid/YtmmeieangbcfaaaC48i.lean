/- Layer 48: a memo in memory: the computed cells, the entries. -/
import Derived.Test.YtmmeieangbcfaaaC48h
set_option linter.unusedSimpArgs false
namespace Go.Proofs.Ytmmeieangbcfaaa
open Go.RowKit Go

/-- A computed cell more, stored in the memo's row. -/
theorem MemoIn.setComp {F : Nat → Nat} {w w1 : World} {p : Nat} {iv : Value} {s : MS} {st : List (Option Nat)} {kb pb : Nat} {sv cv cv' : Value} {eb : C4 → Option Nat} {comp' : List C4} (h : MemoIn F w p iv s st kb pb sv cv eb)
    (g : w.grownBy w1 cv.ownBlock) (ho : Owns cellT 26 0 (fun _ => False) w1 cv' (comp'.map C4.d)) (hb : ∀ b, cv'.ownBlock = some b → cv.ownBlock = some b ∨ w.heap.size ≤ b) :
    ∃ F', MemoIn F' (w1.setCell ⟨p, 4, none⟩ cv') p iv { s with comp := comp' } st kb pb sv cv' eb ∧ (∀ b, b < w.heap.size → F' b = F b) ∧ Gr (Mem F) w (w1.setCell ⟨p, 4, none⟩ cv') := by
  have hF : ∀ b, b < w.heap.size → (if cv'.ownBlock = some b then 5 else F b) = F b := fun b hlt => by
    split
    · rename_i e
      rcases hb b e with e' | e'
      · exact (h.cf b e').symm
      · omega
    · rfl
  have hgp : Gr (fun b => F b = 1 ∨ F b = 4 ∨ F b = 5) w (w1.setCell ⟨p, 4, none⟩ cv') := ((Gr.refl _ w).grown g (fun x e => .inl (.inr (.inr (h.cf x e))))).setCell (.inl (.inl h.fp)) _
  have hpw : cv.ownBlock ≠ some p := fun e => by have h1 := h.cf p e; have h2 := h.fp; omega
  have hr1 := blk_gr (Gr.of_grown g) h.row hpw
  have hr2 := blk_set (i := 4) hr1 cv'
  simp at hr2
  have hsp : cv'.ownBlock ≠ some p := fun e => by
    rcases hb p e with e' | e'
    · exact hpw e'
    · have := blk_lt h.row; omega
  refine ⟨fun b => if cv'.ownBlock = some b then 5 else F b, h.turn (fun b hb' => hF b (h.dom b hb')) ?_ hgp hr2 ?_ ?_ (ho.gr (gr_setCell _ _ _ _) (fun _ h => h.elim) (fun b e hbp => hsp (hbp ▸ e))) (fun b e => by simp [e]), hF, hgp.mono (fun x hx => .inl (by unfold Mem; rcases hx with e | e | e <;> rw [e] <;> decide))⟩
  · intro b hb'
    split at hb'
    · rename_i e
      simpa using (ho.own b e).2
    · exact Nat.lt_of_lt_of_le (h.dom b hb') hgp.size
  · refine ownsRow_gr (ownsRow_gr h.stk (Gr.of_grown g) (fun b e e' => ?_)) (gr_setCell _ _ _ _) (fun b e e' => ?_)
    · have h1 := h.cf b e'; have h2 := h.sf b e; omega
    · have h1 := h.sf b e; have h2 := h.fp; rw [e'] at h1; omega
  · intro b e
    have h1 := h.sf b e
    exact (hF b (h.dom b (by rw [h1]; decide))).trans h1
/-- The kept cells have turned: the map, entries. -/
theorem MemoIn.kept {F F' : Nat → Nat} {w w' : World} {p : Nat} {iv : Value} {s : MS} {st : List (Option Nat)} {kb pb : Nat} {sv cv : Value} {eb eb' : C4 → Option Nat} {kept' : C4 → Option Ent} {n' : Nat} (h : MemoIn F w p iv s st kb pb sv cv eb)
    (hF : ∀ b, F b ≠ 0 → F' b = F b) (hd : ∀ b, F' b ≠ 0 → b < w'.heap.size) (hg : Gr (fun b => F b = 2 ∨ F b = 6) w w') (hm : MapE w' kb n' eb')
    (hs : ∀ c, (kept' c).isSome = (eb' c).isSome) (he : ∀ c x e, kept' c = some x → eb' c = some e → EntAt F' w' e x) (hi : ∀ c d e, eb' c = some e → eb' d = some e → c = d) (hok : ∀ c e, eb' c = some e → c.ok) : MemoIn F' w' p iv { s with kept := kept', n := n' } st kb pb sv cv eb' :=
  have hne : ∀ b k, F b = k → k ≠ 2 → k ≠ 6 → ¬ (F b = 2 ∨ F b = 6) := fun b k e h1 h4 hb => by omega
  { row := blk_gr hg h.row (hne _ _ h.fp (by decide) (by decide))
    fp := (hF p (by rw [h.fp]; decide)).trans h.fp
    fk := (hF kb (by rw [h.fk]; decide)).trans h.fk
    fg := (hF pb (by rw [h.fg]; decide)).trans h.fg
    mke := hm
    mpr := MapG.gr h.mpr hg (hne _ _ h.fg (by decide) (by decide))
    stk := ownsRow_gr h.stk hg (fun b hb => hne _ _ (h.sf b hb) (by decide) (by decide))
    sf := fun b hb => (hF b (by rw [h.sf b hb]; decide)).trans (h.sf b hb)
    cmp := h.cmp.gr hg (fun _ h => h.elim) (fun b hb => hne _ _ (h.cf b hb) (by decide) (by decide))
    cf := fun b hb => (hF b (by rw [h.cf b hb]; decide)).trans (h.cf b hb)
    some_ := hs
    ent := he
    inj := hi
    dom := hd
    okc := hok }
theorem okc_none {eb : C4 → Option Nat} (h : ∀ c e, eb c = some e → c.ok) (c : C4) : ∀ d e, upd eb c none d = some e → d.ok := by
  intro d e hd
  unfold upd at hd
  split at hd
  · cases hd
  · exact h d e hd
theorem okc_some {eb : C4 → Option Nat} (h : ∀ c e, eb c = some e → c.ok) (c : C4) (hc : c.ok) (n : Nat) : ∀ d e, upd eb c (some n) d = some e → d.ok := by
  intro d e hd
  unfold upd at hd
  split at hd
  · rename_i h9; rw [h9]; exact hc
  · exact h d e hd
/-- A kept cell is checked. -/
theorem MemoIn.check {F : Nat → Nat} {w : World} {p : Nat} {iv : Value} {s : MS} {st : List (Option Nat)} {kb pb : Nat} {sv cv : Value} {eb : C4 → Option Nat} (h : MemoIn F w p iv s st kb pb sv cv eb) (c : C4) (x : Ent) (hx : s.kept c = some x) (e : Nat) (he : eb c = some e) :
    MemoIn F (w.setCell ⟨e, 2, none⟩ (.bool true)) p iv (s.check c x) st kb pb sv cv eb ∧ Gr (Mem F) w (w.setCell ⟨e, 2, none⟩ (.bool true)) := by
  have hE := h.ent c x e hx he
  have hgs := gr_setCell w e 2 (.bool true)
  have hg : Gr (fun b => F b = 2 ∨ F b = 6) w (w.setCell ⟨e, 2, none⟩ (.bool true)) := hgs.mono (fun b hb => .inl (.inr (by rw [hb]; exact hE.1)))
  refine ⟨h.kept (n' := s.n) (fun _ _ => rfl) (fun b hb => by simpa using h.dom b hb) hg (MapG.gr h.mke hgs (fun e' => by have h1 := h.fk; rw [e', hE.1] at h1; omega)) ?_ ?_ h.inj h.okc, hg.mono (fun b hb => .inl (by unfold Mem; rcases hb with e | e <;> rw [e] <;> decide))⟩
  · intro d
    unfold upd
    split
    · rename_i hd; subst hd; rw [he]; rfl
    · exact h.some_ d
  · intro d y e' hy he'
    unfold upd at hy
    split at hy
    · rename_i hd
      subst hd
      obtain rfl := Option.some.inj hy
      obtain rfl := Option.some.inj (he.symm.trans he')
      obtain ⟨h0, hv, ra, rl, rc, h1, h2⟩ := hE
      refine ⟨h0, hv, ra, rl, rc, ?_, h2.gr hgs (fun b hb => ⟨h.dom b (by rw [hb]; decide), fun e' => by rw [e', h0] at hb; omega⟩) (fun _ h => h)⟩
      have := blk_set (i := 2) h1 (.bool true)
      simpa using this
    · rename_i hd
      exact (h.ent d y e' hy he').gr hgs (fun e2 => hd (h.inj d c e' he' (by rw [e2]; exact he))) (fun b hb => ⟨h.dom b (by rw [hb]; decide), fun e2 => by have := hE.1; rw [e2] at hb; omega⟩)
/-- A cell is kept no more. -/
theorem MemoIn.drop {F : Nat → Nat} {w : World} {p : Nat} {iv : Value} {s : MS} {st : List (Option Nat)} {kb pb : Nat} {sv cv : Value} {eb : C4 → Option Nat} (h : MemoIn F w p iv s st kb pb sv cv eb) (c : C4) (hc : c.ok) (ty : TypeId) :
    ∃ w', Sem.run Try.prog (Builtin.delete_ #[64, 26] ty #[.map (some kb), c.v]) w = .ok (.tuple #[]) w' ∧
      MemoIn F w' p iv { s with kept := upd s.kept c none, n := if (s.kept c).isSome then s.n - 1 else s.n } st kb pb sv cv (upd eb c none) ∧ Gr (Mem F) w w' := by
  obtain ⟨w', h1, h2, h3⟩ := h.mke.drop c hc ty
  have hgk := Gr.of_turned h3
  have hg : Gr (fun b => F b = 2 ∨ F b = 6) w w' := hgk.mono (fun b hb => .inl (.inl (by rw [hb]; exact h.fk)))
  rw [← h.some_ c] at h2
  refine ⟨w', h1, h.kept (fun _ _ => rfl) (fun b hb => Nat.lt_of_lt_of_le (h.dom b hb) hg.size) hg h2 ?_ ?_ ?_ (okc_none h.okc c), hg.mono (fun b hb => .inl (by unfold Mem; rcases hb with e | e <;> rw [e] <;> decide))⟩
  · intro d
    unfold upd
    split
    · rfl
    · exact h.some_ d
  · intro d y e' hy he'
    unfold upd at hy he'
    split at hy
    · cases hy
    · rename_i hd
      rw [if_neg hd] at he'
      have h6 := (h.ent d y e' hy he').1
      exact (h.ent d y e' hy he').gr hgk (fun e2 => by have := h.fk; rw [e2] at h6; omega) (fun b hb => ⟨h.dom b (by rw [hb]; decide), fun e2 => by have := h.fk; rw [e2] at hb; omega⟩)
  · intro d d' e h1' h2'
    unfold upd at h1' h2'
    split at h1'
    · cases h1'
    · split at h2'
      · cases h2'
      · exact h.inj d d' e h1' h2'
/-- A new entry is kept: its row is at e, its reads are none of the memo's yet. -/
theorem MemoIn.keep {F : Nat → Nat} {w : World} {p : Nat} {iv : Value} {s : MS} {st : List (Option Nat)} {kb pb : Nat} {sv cv : Value} {eb : C4 → Option Nat} (h : MemoIn F w p iv s st kb pb sv cv eb) (hn : s.n ≤ most) (c : C4) (hc : c.ok) (x : Ent) (hxv : (Lit.int .i64 x.value).wf = true)
    (e : Nat) (he0 : F e = 0) (rv : Value) (ra : Option Addr) (rl rc : Nat) (hrv : rv = .slice ra rl rc) (hrow : w.heap[e]? = some (.cells #[.int .i64 x.value, .slice ra rl rc, .bool x.checked, .bool x.changed] 73 (0, 0)))
    (hO : Owns readT 77 0 (fun _ => False) w rv (rdsD x.reads)) (hf0 : ∀ b, rv.ownBlock = some b → F b = 0 ∧ b ≠ e) :
    ∃ w' F', Sem.run Try.prog (Instr.mapUpdate 64 (.map (some kb)) c.v (.pointer (some ⟨e, 0, none⟩))) w = .ok () w' ∧
      MemoIn F' w' p iv (s.keep c x) st kb pb sv cv (upd eb c (some e)) ∧ Gr (Mem F) w w' ∧ ∀ b, b ≠ e → rv.ownBlock ≠ some b → F' b = F b := by
  subst hrv
  obtain ⟨w', h1, h2, h3⟩ := h.mke.store hn c hc e
  have hgk := Gr.of_turned h3
  have hg : Gr (fun b => F b = 2 ∨ F b = 6) w w' := hgk.mono (fun b hb => .inl (.inl (by rw [hb]; exact h.fk)))
  rw [← h.some_ c] at h2
  have hek : e ≠ kb := fun e2 => by have := h.fk; rw [← e2, he0] at this; omega
  have hF : ∀ b, F b ≠ 0 → (if b = e then 6 else if (Value.slice ra rl rc).ownBlock = some b then 7 else F b) = F b := fun b hb => by
    rw [if_neg (fun e2 => hb (by rw [e2]; exact he0)), if_neg (fun e2 => hb (hf0 b e2).1)]
  have hlt := blk_lt hrow
  refine ⟨w', fun b => if b = e then 6 else if (Value.slice ra rl rc).ownBlock = some b then 7 else F b, h1, h.kept hF ?_ hg h2 ?_ ?_ ?_ (okc_some h.okc c hc e), hg.mono (fun b hb => .inl (by unfold Mem; rcases hb with e | e <;> rw [e] <;> decide)), ?_⟩
  · intro b hb
    refine Nat.lt_of_lt_of_le ?_ hg.size
    by_cases h1 : b = e
    · rw [h1]; exact hlt
    · by_cases h2 : (Value.slice ra rl rc).ownBlock = some b
      · exact (hO.own b h2).2
      · rw [if_neg h1, if_neg h2] at hb; exact h.dom b hb
  · intro d
    unfold upd
    split
    · rfl
    · exact h.some_ d
  · intro d y e' hy he'
    unfold upd at hy he'
    split at hy
    · rename_i hd
      rw [if_pos hd] at he'
      obtain rfl := Option.some.inj hy
      obtain rfl := Option.some.inj he'
      have hO' := hO.gr hgk (fun _ h => h.elim) (fun b hb e2 => by have h1 := (hf0 b hb).1; have h2 := h.fk; rw [e2] at h1; omega)
      exact ⟨if_pos rfl, hxv, ra, rl, rc, blk_gr hgk hrow hek, hO'.rd _ (fun _ h => h.elim) (fun b hb => by show (if b = e then 6 else if (Value.slice ra rl rc).ownBlock = some b then 7 else F b) = 7; rw [if_neg (hf0 b hb).2, if_pos hb])⟩
    · rename_i hd
      rw [if_neg hd] at he'
      have h6 := (h.ent d y e' hy he').1
      exact ((h.ent d y e' hy he').gr hgk (fun e2 => by have := h.fk; rw [e2] at h6; omega) (fun b hb => ⟨h.dom b (by rw [hb]; decide), fun e2 => by have := h.fk; rw [e2] at hb; omega⟩)).role hF
  · intro d d' e1 h1' h2'
    unfold upd at h1' h2'
    have hold : ∀ d e1, eb d = some e1 → F e1 ≠ 0 := fun d e1 hd => by
      have hs := h.some_ d
      rw [hd] at hs
      obtain ⟨y, hy⟩ := Option.isSome_iff_exists.1 hs
      rw [(h.ent d y e1 hy hd).1]; decide
    split at h1'
    · rename_i hd
      split at h2'
      · rename_i hd'
        rw [hd, hd']
      · obtain rfl := Option.some.inj h1'
        exact absurd he0 (hold _ _ h2')
    · split at h2'
      · obtain rfl := Option.some.inj h2'
        exact absurd he0 (hold _ _ h1')
      · exact h.inj d d' e1 h1' h2'
  · intro b h1 h2
    show (if b = e then 6 else if (Value.slice ra rl rc).ownBlock = some b then 7 else F b) = F b
    rw [if_neg h1, if_neg h2]
end Go.Proofs.Ytmmeieangbcfaaa
