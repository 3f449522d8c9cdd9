/- Layer 48: a memo in memory. F says what a block is: 1 the memo's row, 2 the map of kept cells, 3 the map of cells in progress, 4 the stack's row, 5 the row of the computed cells, 6 an entry, 7 a row of reads, 0 none of these. -/
import Derived.Test.YtmmeieangbcfaaaC48g
set_option linter.unusedSimpArgs false
namespace Go.Proofs.Ytmmeieangbcfaaa
open Go.RowKit Go

def EntAt (F : Nat → Nat) (w : World) (e : Nat) (x : Ent) : Prop :=
  F e = 6 ∧ (Lit.int .i64 x.value).wf = true ∧ ∃ ra rl rc, w.heap[e]? = some (.cells #[.int .i64 x.value, .slice ra rl rc, .bool x.checked, .bool x.changed] 73 (0, 0)) ∧ Rd (.sl readT) (fun b => F b = 7) w [.slice ra rl rc] (rdsD x.reads)
/-- The blocks that a call may turn: all but the rows of reads. -/
def Mem (F : Nat → Nat) (b : Nat) : Prop := F b ≠ 0 ∧ F b ≠ 7
structure MemoIn (F : Nat → Nat) (w : World) (p : Nat) (iv : Value) (s : MS) (st : List (Option Nat)) (kb pb : Nat) (sv cv : Value) (eb : C4 → Option Nat) : Prop where
  row : w.heap[p]? = some (.cells #[iv, .map (some kb), .map (some pb), sv, cv] 68 (0, 0))
  fp : F p = 1
  fk : F kb = 2
  fg : F pb = 3
  mke : MapE w kb s.n eb
  mpr : MapPr w pb s.pn s.prog
  stk : w.ownsRow 0 61 1 sv st.length (st.map ptrV)
  sf : ∀ b, sv.ownBlock = some b → F b = 4
  cmp : Owns cellT 26 0 (fun _ => False) w cv (s.comp.map C4.d)
  cf : ∀ b, cv.ownBlock = some b → F b = 5
  some_ : ∀ c, (s.kept c).isSome = (eb c).isSome
  ent : ∀ c x e, s.kept c = some x → eb c = some e → EntAt F w e x
  inj : ∀ c d e, eb c = some e → eb d = some e → c = d
  dom : ∀ b, F b ≠ 0 → b < w.heap.size
  okc : ∀ c e, eb c = some e → c.ok
theorem EntAt.gr {F : Nat → Nat} {G : Nat → Prop} {w w' : World} {e : Nat} {x : Ent} (h : EntAt F w e x) (hg : Gr G w w') (he : ¬ G e) (hd : ∀ b, F b = 7 → b < w.heap.size ∧ ¬ G b) : EntAt F w' e x := by
  obtain ⟨h0, hv, ra, rl, rc, h1, h2⟩ := h
  exact ⟨h0, hv, ra, rl, rc, blk_gr hg h1 he, h2.gr hg hd (fun _ h => h)⟩
theorem ownsRow_gr {w w' : World} {base n size : Nat} {e : TypeId} {v : Value} {xs : List Value} {G : Nat → Prop} (h : w.ownsRow base e size v n xs) (hg : Gr G w w') (hd : ∀ b, v.ownBlock = some b → ¬ G b) : w'.ownsRow base e size v n xs := by
  obtain ⟨h1, h2⟩ := h
  refine ⟨h1, ?_⟩
  rcases h2 with h0 | ⟨g, cap, cur, rfl, hb, hh, hr⟩
  · exact .inl h0
  · exact .inr ⟨g, cap, cur, rfl, hb, blk_gr hg hh (hd g rfl), hr⟩
/-- Blocks that are none of the memo's. -/
theorem MemoIn.gr {F : Nat → Nat} {G : Nat → Prop} {w w' : World} {p : Nat} {iv : Value} {s : MS} {st : List (Option Nat)} {kb pb : Nat} {sv cv : Value} {eb : C4 → Option Nat} (h : MemoIn F w p iv s st kb pb sv cv eb) (hg : Gr G w w') (hd : ∀ b, F b ≠ 0 → ¬ G b) : MemoIn F w' p iv s st kb pb sv cv eb where
  row := blk_gr hg h.row (hd _ (by rw [h.fp]; decide))
  fp := h.fp
  fk := h.fk
  fg := h.fg
  mke := MapG.gr h.mke hg (hd _ (by rw [h.fk]; decide))
  mpr := MapG.gr h.mpr hg (hd _ (by rw [h.fg]; decide))
  stk := ownsRow_gr h.stk hg (fun b hb => hd b (by rw [h.sf b hb]; decide))
  sf := h.sf
  cmp := h.cmp.gr hg (fun _ h => h.elim) (fun b hb => hd b (by rw [h.cf b hb]; decide))
  cf := h.cf
  some_ := h.some_
  ent := fun c x e hx he => (h.ent c x e hx he).gr hg (hd e (by rw [(h.ent c x e hx he).1]; decide)) (fun b hb => ⟨h.dom b (by rw [hb]; decide), hd b (by rw [hb]; decide)⟩)
  inj := h.inj
  dom := fun b hb => Nat.lt_of_lt_of_le (h.dom b hb) hg.size
  okc := h.okc
theorem MemoIn.below {F : Nat → Nat} {w w' : World} {p : Nat} {iv : Value} {s : MS} {st : List (Option Nat)} {kb pb : Nat} {sv cv : Value} {eb : C4 → Option Nat} (h : MemoIn F w p iv s st kb pb sv cv eb) (hB : Below w.heap.size w w') : MemoIn F w' p iv s st kb pb sv cv eb :=
  h.gr (G := fun _ => False) (Gr.of_below hB) (fun _ _ h => h)
/-- One map has turned: the cells in progress. -/
theorem MemoIn.prog {F : Nat → Nat} {w w' : World} {p : Nat} {iv : Value} {s : MS} {st : List (Option Nat)} {kb pb : Nat} {sv cv : Value} {eb : C4 → Option Nat} (h : MemoIn F w p iv s st kb pb sv cv eb) {g : C4 → Bool} {n : Nat} (hg : Gr (fun b => b = pb) w w') (hm : MapPr w' pb n g) : MemoIn F w' p iv { s with prog := g, pn := n } st kb pb sv cv eb :=
  have hne : ∀ b k, F b = k → k ≠ 3 → ¬ b = pb := fun b k e hk hb => hk (by rw [← e, hb, h.fg])
  { row := blk_gr hg h.row (hne _ _ h.fp (by decide))
    fp := h.fp
    fk := h.fk
    fg := h.fg
    mke := MapG.gr h.mke hg (hne _ _ h.fk (by decide))
    mpr := hm
    stk := ownsRow_gr h.stk hg (fun b hb => hne _ _ (h.sf b hb) (by decide))
    sf := h.sf
    cmp := h.cmp.gr hg (fun _ h => h.elim) (fun b hb => hne _ _ (h.cf b hb) (by decide))
    cf := h.cf
    some_ := h.some_
    ent := fun c x e hx he => (h.ent c x e hx he).gr hg (hne _ _ (h.ent c x e hx he).1 (by decide)) (fun b hb => ⟨h.dom b (by rw [hb]; decide), hne _ _ hb (by decide)⟩)
    inj := h.inj
    dom := fun b hb => Nat.lt_of_lt_of_le (h.dom b hb) hg.size
    okc := h.okc }
theorem MemoIn.start {F : Nat → Nat} {w : World} {p : Nat} {iv : Value} {s : MS} {st : List (Option Nat)} {kb pb : Nat} {sv cv : Value} {eb : C4 → Option Nat} (h : MemoIn F w p iv s st kb pb sv cv eb) (hn : s.pn ≤ most) (c : C4) (hc : c.ok) :
    ∃ w', Sem.run Try.prog (Instr.mapUpdate 65 (.map (some pb)) c.v (.bool true)) w = .ok () w' ∧ MemoIn F w' p iv (s.start c) st kb pb sv cv eb ∧ Gr (Mem F) w w' := by
  obtain ⟨w', h1, h2, h3⟩ := h.mpr.store hn c hc
  exact ⟨w', h1, h.prog (Gr.of_turned h3) h2, (Gr.of_turned h3).mono (fun x e => .inl (by unfold Mem; rw [e, h.fg]; decide))⟩
theorem MemoIn.done {F : Nat → Nat} {w : World} {p : Nat} {iv : Value} {s : MS} {st : List (Option Nat)} {kb pb : Nat} {sv cv : Value} {eb : C4 → Option Nat} (h : MemoIn F w p iv s st kb pb sv cv eb) (c : C4) (hc : c.ok) (ty : TypeId) :
    ∃ w', Sem.run Try.prog (Builtin.delete_ #[65, 26] ty #[.map (some pb), c.v]) w = .ok (.tuple #[]) w' ∧ MemoIn F w' p iv (s.done c) st kb pb sv cv eb ∧ Gr (Mem F) w w' := by
  obtain ⟨w', h1, h2, h3⟩ := h.mpr.drop c hc ty
  exact ⟨w', h1, h.prog (Gr.of_turned h3) h2, (Gr.of_turned h3).mono (fun x e => .inl (by unfold Mem; rw [e, h.fg]; decide))⟩
theorem EntAt.role {F F' : Nat → Nat} {w : World} {e : Nat} {x : Ent} (h : EntAt F w e x) (hF : ∀ b, F b ≠ 0 → F' b = F b) : EntAt F' w e x := by
  obtain ⟨h0, hv, ra, rl, rc, h1, h2⟩ := h
  exact ⟨(hF e (by rw [h0]; decide)).trans h0, hv, ra, rl, rc, h1, h2.keep (fun _ _ => rfl) (fun b hb => (hF b (by rw [hb]; decide)).trans hb)⟩
/-- The row, the stack and the computed cells have turned. -/
theorem MemoIn.turn {F F' : Nat → Nat} {w w' : World} {p : Nat} {iv : Value} {s : MS} {st st' : List (Option Nat)} {kb pb : Nat} {sv cv sv' cv' : Value} {eb : C4 → Option Nat} {comp' : List C4} (h : MemoIn F w p iv s st kb pb sv cv eb)
    (hF : ∀ b, F b ≠ 0 → F' b = F b) (hd : ∀ b, F' b ≠ 0 → b < w'.heap.size) (hg : Gr (fun b => F b = 1 ∨ F b = 4 ∨ F b = 5) w w')
    (hrow : w'.heap[p]? = some (.cells #[iv, .map (some kb), .map (some pb), sv', cv'] 68 (0, 0)))
    (hst : w'.ownsRow 0 61 1 sv' st'.length (st'.map ptrV)) (hsf : ∀ b, sv'.ownBlock = some b → F' b = 4)
    (hcm : Owns cellT 26 0 (fun _ => False) w' cv' (comp'.map C4.d)) (hcf : ∀ b, cv'.ownBlock = some b → F' b = 5) : MemoIn F' w' p iv { s with comp := comp' } st' kb pb sv' cv' eb :=
  have hne : ∀ b k, F b = k → k ≠ 1 → k ≠ 4 → k ≠ 5 → ¬ (F b = 1 ∨ F b = 4 ∨ F b = 5) := fun b k e h1 h4 h5 hb => by omega
  { row := hrow
    fp := (hF p (by rw [h.fp]; decide)).trans h.fp
    fk := (hF kb (by rw [h.fk]; decide)).trans h.fk
    fg := (hF pb (by rw [h.fg]; decide)).trans h.fg
    mke := MapG.gr h.mke hg (hne _ _ h.fk (by decide) (by decide) (by decide))
    mpr := MapG.gr h.mpr hg (hne _ _ h.fg (by decide) (by decide) (by decide))
    stk := hst
    sf := hsf
    cmp := hcm
    cf := hcf
    some_ := h.some_
    ent := fun c x e hx he => ((h.ent c x e hx he).gr hg (hne _ _ (h.ent c x e hx he).1 (by decide) (by decide) (by decide)) (fun b hb => ⟨h.dom b (by rw [hb]; decide), hne _ _ hb (by decide) (by decide) (by decide)⟩)).role hF
    inj := h.inj
    dom := hd
    okc := h.okc }
theorem row_lt {w : World} {base n size : Nat} {e : TypeId} {v : Value} {xs : List Value} (h : w.ownsRow base e size v n xs) {b : Nat} (hb : v.ownBlock = some b) : b < w.heap.size := by
  obtain ⟨h1, h2⟩ := h
  rcases h2 with ⟨rfl, _⟩ | ⟨g, cap, cur, rfl, _, hh, _⟩
  · cases hb
  · cases hb; exact blk_lt hh
/-- The stack after an append or a cut, stored in the memo's row. -/
theorem MemoIn.setStack {F : Nat → Nat} {w w1 : World} {p : Nat} {iv : Value} {s : MS} {st st' : List (Option Nat)} {kb pb : Nat} {sv cv sv' : Value} {eb : C4 → Option Nat} (h : MemoIn F w p iv s st kb pb sv cv eb)
    (g : w.grownBy w1 sv.ownBlock) (ho : w1.ownsRow 0 61 1 sv' st'.length (st'.map ptrV)) (hb : ∀ b, sv'.ownBlock = some b → sv.ownBlock = some b ∨ w.heap.size ≤ b) :
    ∃ F', MemoIn F' (w1.setCell ⟨p, 3, none⟩ sv') p iv s st' kb pb sv' cv eb ∧ (∀ b, b < w.heap.size → F' b = F b) ∧ Gr (Mem F) w (w1.setCell ⟨p, 3, none⟩ sv') := by
  have hF : ∀ b, b < w.heap.size → (if sv'.ownBlock = some b then 4 else F b) = F b := fun b hlt => by
    split
    · rename_i e
      rcases hb b e with e' | e'
      · exact (h.sf b e').symm
      · omega
    · rfl
  have hgp : Gr (fun b => F b = 1 ∨ F b = 4 ∨ F b = 5) w (w1.setCell ⟨p, 3, none⟩ sv') := ((Gr.refl _ w).grown g (fun x e => .inl (.inr (.inl (h.sf x e))))).setCell (.inl (.inl h.fp)) _
  have hpw : sv.ownBlock ≠ some p := fun e => by have h1 := h.sf p e; have h2 := h.fp; omega
  have hr1 := blk_gr (Gr.of_grown g) h.row hpw
  have hr2 := blk_set (i := 3) hr1 sv'
  simp at hr2
  have hsp : sv'.ownBlock ≠ some p := fun e => by
    rcases hb p e with e' | e'
    · exact hpw e'
    · have := blk_lt h.row; omega
  refine ⟨fun b => if sv'.ownBlock = some b then 4 else F b, h.turn (comp' := s.comp) (fun b hb' => hF b (h.dom b hb')) ?_ hgp hr2 (ownsRow_gr ho (gr_setCell _ _ _ _) (fun b e hbp => hsp (hbp ▸ e))) (fun b e => by simp [e]) ?_ ?_, hF, hgp.mono (fun x hx => .inl (by unfold Mem; rcases hx with e | e | e <;> rw [e] <;> decide))⟩
  · intro b hb'
    split at hb'
    · rename_i e
      simpa using row_lt ho e
    · exact Nat.lt_of_lt_of_le (h.dom b hb') hgp.size
  · refine (h.cmp.gr (Gr.of_grown g) (fun _ h => h.elim) (fun b e e' => ?_)).gr (gr_setCell _ _ _ _) (fun _ h => h.elim) (fun b e e' => ?_)
    · have h1 := h.sf b e'; have h2 := h.cf b e; omega
    · have h1 := h.cf b e; have h2 := h.fp; rw [e'] at h1; omega
  · intro b e
    have h1 := h.cf b e
    exact (hF b (h.dom b (by rw [h1]; decide))).trans h1
end Go.Proofs.Ytmmeieangbcfaaa
