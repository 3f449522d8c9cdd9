/- Layer 48: a memo and its sheet, as the laws hold them. -/
import Derived.Test.YtmmeieangbcfaaaC48x
set_option linter.unusedSimpArgs false
namespace Go.Proofs.Ytmmeieangbcfaaa
open Go.RowKit Go

/-- The blocks that calls may turn: the memo's, the sheet's, the row of its formulas. -/
def OW (F : Nat → Nat) (sp : Nat) (v : Value) (b : Nat) : Prop := F b ≠ 0 ∨ b = sp ∨ v.ownBlock = some b
structure Pl (n0 : Nat) (F : Nat → Nat) (w : World) (p sp kb pb : Nat) (s : MS) (xs : List formT.den) (v : Value) (SS : Nat → Prop) : Prop where
  m : ∃ sv cv eb, MemoIn F w p (sheetV sp) s [] kb pb sv cv eb
  row : w.heap[sp]? = some (.cells #[v] 46 (0, 0))
  own : Owns formT 41 n0 SS w v xs
  fs : F sp = 0
  fv : ∀ b, v.ownBlock = some b → F b = 0 ∧ b ≠ sp
  fS : ∀ b, SS b → F b = 0 ∧ b ≠ sp
  sp0 : n0 ≤ sp
  f0 : ∀ b, F b ≠ 0 → n0 ≤ b
/-- What a step leaves. -/
structure Stp (n0 sp : Nat) (F : Nat → Nat) (v : Value) (w : World) (F' : Nat → Nat) (v' : Value) (w' : World) : Prop where
  gr : Gr (OW F sp v) w w'
  ow : ∀ b, b < w.heap.size → OW F' sp v' b → OW F sp v b
theorem Stp.refl (n0 sp : Nat) (F : Nat → Nat) (v : Value) (w : World) : Stp n0 sp F v w F v w := ⟨Gr.refl _ _, fun _ _ h => h⟩
theorem Stp.trans {n0 sp : Nat} {F F1 F2 : Nat → Nat} {v v1 v2 : Value} {w w1 w2 : World} (h : Stp n0 sp F v w F1 v1 w1) (k : Stp n0 sp F1 v1 w1 F2 v2 w2) : Stp n0 sp F v w F2 v2 w2 :=
  ⟨h.gr.trans k.gr (fun x hx => by
    by_cases hl : x < w.heap.size
    · exact .inl (h.ow x hl hx)
    · exact .inr (Nat.le_of_not_lt hl)), fun b hb hb' => h.ow b hb (k.ow b (Nat.lt_of_lt_of_le hb h.gr.size) hb')⟩
theorem Stp.below {n0 sp : Nat} {F : Nat → Nat} {v : Value} {w w' : World} (hB : Below w.heap.size w w') : Stp n0 sp F v w F v w' := ⟨Gr.of_below hB, fun _ _ h => h⟩
/-- A block that is none of theirs stays. -/
theorem Stp.blk {n0 sp : Nat} {F F' : Nat → Nat} {v v' : Value} {w w' : World} (h : Stp n0 sp F v w F' v' w') {b : Nat} {o : Obj} (hb : w.heap[b]? = some o) (hn : ¬ OW F sp v b) : w'.heap[b]? = some o ∧ ¬ OW F' sp v' b :=
  ⟨blk_gr h.gr hb hn, fun e => hn (h.ow b (blk_lt hb) e)⟩
theorem Pl.ow0 {n0 : Nat} {F : Nat → Nat} {w : World} {p sp kb pb : Nat} {s : MS} {xs : List formT.den} {v : Value} {SS : Nat → Prop} (h : Pl n0 F w p sp kb pb s xs v SS) : ∀ b, OW F sp v b → n0 ≤ b := by
  intro b hb
  rcases hb with h1 | h1 | h1
  · exact h.f0 b h1
  · rw [h1]; exact h.sp0
  · exact (h.own.own b h1).1
theorem Pl.below {n0 : Nat} {F : Nat → Nat} {w w' : World} {p sp kb pb : Nat} {s : MS} {xs : List formT.den} {v : Value} {SS : Nat → Prop} (h : Pl n0 F w p sp kb pb s xs v SS) (hB : Below w.heap.size w w') : Pl n0 F w' p sp kb pb s xs v SS := by
  obtain ⟨sv, cv, eb, hm⟩ := h.m
  exact ⟨⟨sv, cv, eb, hm.below hB⟩, (hB.block _ (blk_lt h.row)).trans h.row, h.own.below hB, h.fs, h.fv, h.fS, h.sp0, h.f0⟩
/-- Only the memo has turned. -/
theorem Pl.memo {n0 : Nat} {F : Nat → Nat} {w : World} {p sp kb pb : Nat} {s : MS} {xs : List formT.den} {v : Value} {SS : Nat → Prop} (h : Pl n0 F w p sp kb pb s xs v SS) (hn : n0 ≤ w.heap.size) {F' : Nat → Nat} {w' : World} {s' : MS} {sv cv : Value} {eb : C4 → Option Nat} (hM : MemoIn F' w' p (sheetV sp) s' [] kb pb sv cv eb) (hF : ∀ b, b < w.heap.size → F' b = F b) (hG : Gr (Mem F) w w') :
    Pl n0 F' w' p sp kb pb s' xs v SS ∧ Stp n0 sp F v w F' v w' := by
  refine ⟨⟨⟨sv, cv, eb, hM⟩, blk_gr hG h.row (fun e => e.1 h.fs), h.own.gr hG (fun b hb e => e.1 (h.fS b hb).1) (fun b hb e => e.1 (h.fv b hb).1), (hF _ (blk_lt h.row)).trans h.fs, fun b hb => ⟨(hF b (h.own.own b hb).2).trans (h.fv b hb).1, (h.fv b hb).2⟩, fun b hb => ⟨(hF b (h.own.bound b hb).2).trans (h.fS b hb).1, (h.fS b hb).2⟩, h.sp0, fun b hb => ?_⟩, ⟨hG.mono (fun b hb => .inl (.inl hb.1)), fun b hb hb' => ?_⟩⟩
  · by_cases hl : b < w.heap.size
    · exact h.f0 b (by rw [← hF b hl]; exact hb)
    · omega
  · rcases hb' with h1 | h1 | h1
    · exact .inl (by rw [← hF b hb]; exact h1)
    · exact .inr (.inl h1)
    · exact .inr (.inr h1)
theorem Pl.sheet {n0 : Nat} {F : Nat → Nat} {w : World} {p sp kb pb : Nat} {s : MS} {xs : List formT.den} {v : Value} {SS : Nat → Prop} (h : Pl n0 F w p sp kb pb s xs v SS) :
    SheetAt (fun b => SS b ∨ v.ownBlock = some b) w sp (xs.map fm) ∧ ∀ b, (SS b ∨ v.ownBlock = some b) ∨ b = sp → b < w.heap.size ∧ F b = 0 := by
  obtain ⟨a, len, cap, rfl, -⟩ := h.own.slice
  refine ⟨⟨a, len, cap, xs, h.row, h.own.rd _ (fun b hb => .inl hb) (fun b hb => .inr hb), rfl⟩, fun b hb => ?_⟩
  rcases hb with (hb | hb) | hb
  · exact ⟨(h.own.bound b hb).2, (h.fS b hb).1⟩
  · exact ⟨(h.own.own b hb).2, (h.fv b hb).1⟩
  · rw [hb]; exact ⟨blk_lt h.row, h.fs⟩
/-- What Get leaves. -/
def GetP (n0 : Nat) (F : Nat → Nat) (w : World) (p sp kb pb : Nat) (s' : MS) (xs : List formT.den) (v : Value) (SS : Nat → Prop) (r : Int × Int) (e : Ending) (w' : World) : Prop :=
  e = .returned (.tuple #[.int .i64 r.1, .int .i64 r.2]) ∧ ∃ F', Pl n0 F' w' p sp kb pb s' xs v SS ∧ Stp n0 sp F v w F' v w'
theorem Pl.get {n0 : Nat} {F : Nat → Nat} {w : World} {p sp kb pb : Nat} {s s' : MS} {xs : List formT.den} {v : Value} {SS : Nat → Prop} (h : Pl n0 F w p sp kb pb s xs v SS) (hn : n0 ≤ w.heap.size) (n : Nat) (hm : n ≤ most) (c : C4) (hc : c.ok) (r : Int × Int) (hg : getM (xs.map fm) n s c = some (r, s')) :
    Calls Try.prog 10 #[.pointer (some ⟨p, 0, none⟩), c.v] w (GetP n0 F w p sp kb pb s' xs v SS r) := by
  obtain ⟨sv, cv, eb, hM⟩ := h.m
  obtain ⟨h1, h2⟩ := h.sheet
  refine (get_top (xs.map fm) _ sp p kb pb n (get48 _ _ _ _ _ _ _) hm w c r s' hM h1 h2 hc hg).mono ?_
  rintro e w' ⟨rfl, F', sv', cv', eb', hM', hF', hG', -⟩
  exact ⟨rfl, F', h.memo hn hM' hF' hG'⟩
theorem Pl.change {n0 : Nat} {F : Nat → Nat} {w : World} {p sp kb pb : Nat} {s : MS} {xs : List formT.den} {v : Value} {SS : Nat → Prop} (h : Pl n0 F w p sp kb pb s xs v SS) (hn : n0 ≤ w.heap.size) (c : C4) (hc : c.ok) :
    Calls Try.prog 14 #[.pointer (some ⟨p, 0, none⟩), c.v] w fun e w' => e = .returned (.tuple #[]) ∧ Pl n0 F w' p sp kb pb (s.change c) xs v SS ∧ Stp n0 sp F v w F v w' := by
  obtain ⟨sv, cv, eb, hM⟩ := h.m
  refine (change48 w hM c hc).mono ?_
  rintro e w' ⟨rfl, hM', hG'⟩
  exact ⟨rfl, h.memo hn hM' (fun _ _ => rfl) hG'⟩
theorem Pl.reset {n0 : Nat} {F : Nat → Nat} {w : World} {p sp kb pb : Nat} {s : MS} {xs : List formT.den} {v : Value} {SS : Nat → Prop} (h : Pl n0 F w p sp kb pb s xs v SS) (hn : n0 ≤ w.heap.size) :
    Calls Try.prog 13 #[.pointer (some ⟨p, 0, none⟩)] w fun e w' => e = .returned (.tuple #[]) ∧ Pl n0 F w' p sp kb pb { s with comp := [] } xs v SS ∧ Stp n0 sp F v w F v w' := by
  obtain ⟨sv, cv, eb, hM⟩ := h.m
  refine (reset48 w hM).mono ?_
  rintro e w' ⟨rfl, hM', hG'⟩
  exact ⟨rfl, h.memo hn hM' (fun _ _ => rfl) hG'⟩
theorem Pl.computed {n0 : Nat} {F : Nat → Nat} {w : World} {p sp kb pb : Nat} {s : MS} {xs : List formT.den} {v : Value} {SS : Nat → Prop} (h : Pl n0 F w p sp kb pb s xs v SS) (hl : s.comp.length ≤ most) :
    Calls Try.prog 15 #[.pointer (some ⟨p, 0, none⟩)] w fun e w' => ∃ v, e = .returned v ∧ Below w.heap.size w w' ∧ Owns cellT 26 w.heap.size (fun _ => False) w' v (s.comp.map C4.d) := by
  obtain ⟨sv, cv, eb, hM⟩ := h.m
  exact computed48 w hM hl
theorem Pl.kept {n0 : Nat} {F : Nat → Nat} {w : World} {p sp kb pb : Nat} {s : MS} {xs : List formT.den} {v : Value} {SS : Nat → Prop} (h : Pl n0 F w p sp kb pb s xs v SS) :
    Calls Try.prog 17 #[.pointer (some ⟨p, 0, none⟩)] w fun e w' => e = .returned (.int .i64 s.n) ∧ w' = w := by
  obtain ⟨sv, cv, eb, hM⟩ := h.m
  exact kept48 w hM
/-- A new memo on a sheet. -/
theorem Pl.new {n0 : Nat} {w : World} {sp : Nat} {xs : List formT.den} {v : Value} {SS : Nat → Prop} (hn : n0 ≤ w.heap.size) (hr : w.heap[sp]? = some (.cells #[v] 46 (0, 0))) (ho : Owns formT 41 n0 SS w v xs) (hv : ∀ b, v.ownBlock = some b → b ≠ sp) (hS : ∀ b, SS b → b ≠ sp) (h0 : n0 ≤ sp) :
    Calls Try.prog 11 #[sheetV sp] w fun e w' => e = .returned (.pointer (some ⟨w.heap.size + 2, 0, none⟩)) ∧ Below w.heap.size w w' ∧ w'.heap.size = w.heap.size + 3 ∧ ∃ F, Pl n0 F w' (w.heap.size + 2) sp w.heap.size (w.heap.size + 1) newS xs v SS ∧ ∀ b, b < w.heap.size → F b = 0 := by
  refine (new48 w sp).mono ?_
  rintro e w' ⟨rfl, hB, hsz, hM⟩
  have hz : ∀ b, b < w.heap.size → (if b = w.heap.size + 2 then 1 else if b = w.heap.size then 2 else if b = w.heap.size + 1 then 3 else 0) = 0 := fun b hb => by
    rw [if_neg (by omega), if_neg (by omega), if_neg (by omega)]
  refine ⟨rfl, hB, hsz, _, ⟨⟨_, _, _, hM⟩, (hB.block _ (blk_lt hr)).trans hr, ho.below hB, hz _ (blk_lt hr), fun b hb => ⟨hz b (ho.own b hb).2, hv b hb⟩, fun b hb => ⟨hz b (ho.bound b hb).2, hS b hb⟩, h0, fun b hb => ?_⟩, hz⟩
  by_cases hl : b < w.heap.size
  · exact absurd (hz b hl) hb
  · omega
theorem info_form : (Try.prog.info? 41).map (fun i => (i.zero, i.size, i.bytes)) = some (some (.agg #[.int .i64 0, .int .i64 0, .int .i64 0, .int .i64 0, .slice none 0 0, .int .i16 0, .int .u8 0, .int .i8 0]), formT.sz, 64) := by kernel_rfl
/-- The sheet has one formula more. -/
theorem Pl.put {n0 : Nat} {F : Nat → Nat} {w w1 : World} {p sp kb pb : Nat} {s : MS} {xs xs' : List formT.den} {v v' : Value} {SS SS' : Nat → Prop} (h : Pl n0 F w p sp kb pb s xs v SS) (g : w.grownBy w1 v.ownBlock) (ho : Owns formT 41 n0 SS' w1 v' xs') (hb : v'.ownBlock = v.ownBlock ∨ v'.ownBlock = some w.heap.size) (hn : n0 ≤ w.heap.size) (hS : ∀ b, SS' b → F b = 0 ∧ b ≠ sp) :
    Pl n0 F (w1.setCell ⟨sp, 0, none⟩ v') p sp kb pb s xs' v' SS' ∧ Stp n0 sp F v w F v' (w1.setCell ⟨sp, 0, none⟩ v') := by
  obtain ⟨sv, cv, eb, hM⟩ := h.m
  have hz : F w.heap.size = 0 := by
    by_cases e : F w.heap.size = 0
    · exact e
    · exact absurd (hM.dom _ e) (Nat.lt_irrefl _)
  have hvs : v.ownBlock ≠ some sp := fun e => (h.fv sp e).2 rfl
  have hv' : ∀ b, v'.ownBlock = some b → F b = 0 ∧ b ≠ sp := fun b e => by
    rcases hb with e' | e'
    · exact h.fv b (e' ▸ e)
    · rw [e'] at e
      obtain rfl := Option.some.inj e
      exact ⟨hz, fun e2 => by have := blk_lt h.row; omega⟩
  have hr1 := blk_gr (Gr.of_grown g) h.row hvs
  have hr2 := blk_set (i := 0) hr1 v'
  simp at hr2
  have hgs := gr_setCell w1 sp 0 v'
  have hG : Gr (fun b => v.ownBlock = some b ∨ b = sp) w (w1.setCell ⟨sp, 0, none⟩ v') := ((Gr.of_grown g).mono (fun x e => .inl (.inl e))).trans hgs (fun x e => .inl (.inr e))
  refine ⟨⟨⟨sv, cv, eb, hM.gr hG (fun b hb e => e.elim (fun e => hb (h.fv b e).1) (fun e => hb (by rw [e]; exact h.fs)))⟩, hr2, ho.gr hgs (fun b hb e => (hS b hb).2 e) (fun b hb e => (hv' b hb).2 e), h.fs, hv', hS, h.sp0, h.f0⟩, ⟨hG.mono (fun b e => .inl (e.elim (fun e => .inr (.inr e)) (fun e => .inr (.inl e)))), fun b hb' e => ?_⟩⟩
  rcases e with e | e | e
  · exact .inl e
  · exact .inr (.inl e)
  · rcases hb with e' | e'
    · exact .inr (.inr (e' ▸ e))
    · rw [e'] at e
      obtain rfl := Option.some.inj e
      omega
end Go.Proofs.Ytmmeieangbcfaaa
