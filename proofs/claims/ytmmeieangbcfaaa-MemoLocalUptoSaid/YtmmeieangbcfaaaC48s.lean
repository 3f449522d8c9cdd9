/- Layer 48: Get, while an evaluation is in progress. -/
import Derived.Test.YtmmeieangbcfaaaC48q
import Derived.Test.YtmmeieangbcfaaaP48c
set_option linter.unusedSimpArgs false
namespace Go.Proofs.Ytmmeieangbcfaaa
open Go.RowKit Go

theorem MemoIn.wf {F : Nat → Nat} {w : World} {p : Nat} {iv : Value} {s : MS} {st : List (Option Nat)} {kb pb : Nat} {sv cv : Value} {eb : C4 → Option Nat} (h : MemoIn F w p iv s st kb pb sv cv eb) : WfS s := by
  intro c x hx
  obtain ⟨e, he⟩ : ∃ e, eb c = some e := Option.isSome_iff_exists.1 (by rw [← h.some_, hx]; rfl)
  exact (h.ent c x e hx he).2.1
theorem FrAt.cut {F : Nat → Prop} {w : World} {fb : Nat} {f : Fr1} (h : FrAt F w fb f) : FrAt (fun b => F b ∧ b < w.heap.size) w fb f := by
  obtain ⟨h0, rv, h1, h2, h3⟩ := h
  exact ⟨⟨h0, blk_lt h1⟩, rv, h1, h2, fun b hb => ⟨⟨(h3 b hb).1, (h2.own b hb).2⟩, (h3 b hb).2⟩⟩
/-- What a call from an evaluation leaves; P: the blocks of the evaluation. -/
def LeftF (F : Nat → Nat) (P : Nat → Prop) (w : World) (p sp : Nat) (st : List (Option Nat)) (fb kb pb : Nat) (s' : MS) (eb : C4 → Option Nat) (K : C4 → Prop) (f' : Fr1) (out : Value) (e : Ending) (w' : World) : Prop :=
  e = .returned out ∧ ∃ F' sv' cv' eb' P', MemoIn F' w' p (sheetV sp) s' (st ++ [some fb]) kb pb sv' cv' eb' ∧ (∀ b, b < w.heap.size → F' b = F b) ∧ Gr (fun b => Mem F b ∨ P b) w w' ∧ (∀ d, K d → eb' d = eb d) ∧ FrAt P' w' fb f' ∧ (∀ b, P' b → (P b ∨ w.heap.size ≤ b) ∧ b < w'.heap.size ∧ F' b = 0)
theorem note48 {F : Nat → Prop} (w : World) (fb : Nat) (f : Fr1) (hF : FrAt F w fb f) (hlen : f.reads.length ≤ most) (c : C4) (hc : c.ok) (v e : Int) (hv : Wf64 v) :
    Calls Try.prog 21 #[.pointer (some ⟨fb, 0, none⟩), c.v, .int .i64 v, .int .i64 e] w fun en w' => en = .returned (.tuple #[]) ∧ FrAt (fun b => F b ∨ w.heap.size ≤ b) w' fb (noteF f c v e) ∧ Gr F w w' := by
  by_cases he : e = 0
  · subst he; exact note48_ok w fb f hF hlen c hc v hv
  · exact note48_bad w fb f hF c v e he
/-- get, then note. -/
theorem note_left {F F9 : Nat → Nat} {P : Nat → Prop} {w w1 w9 w' : World} {p sp : Nat} {s' : MS} {st : List (Option Nat)} {fb kb pb : Nat} {sv9 cv9 : Value} {eb eb9 : C4 → Option Nat} {K : C4 → Prop} {f' : Fr1} {v : Value}
    (hB1 : Below w.heap.size w w1) (h9 : MemoIn F9 w9 p (sheetV sp) s' (st ++ [some fb]) kb pb sv9 cv9 eb9) (hF9 : ∀ b, b < w1.heap.size → F9 b = F b) (hG9 : Gr (Mem F) w1 w9) (hK : ∀ d, K d → eb9 d = eb d) (hP : ∀ b, P b → b < w.heap.size ∧ F b = 0)
    (hf : FrAt (fun b => P b ∨ w9.heap.size ≤ b) w' fb f') (hG : Gr P w9 w') : LeftF F P w p sp st fb kb pb s' eb K f' v (.returned v) w' := by
  have hle : w.heap.size ≤ w9.heap.size := Nat.le_trans hB1.size hG9.size
  have hFP : ∀ b, P b → F9 b = 0 := fun b hb => (hF9 b (Nat.lt_of_lt_of_le (hP b hb).1 hB1.size)).trans (hP b hb).2
  refine ⟨rfl, F9, sv9, cv9, eb9, _, h9.gr hG (fun b hb e => hb (hFP b e)), fun b hb => hF9 b (Nat.lt_of_lt_of_le hb hB1.size), ?_, hK, hf.cut, fun b hb => ?_⟩
  · exact (((Gr.of_below hB1).trans hG9 (fun _ h => .inl (.inl h))).trans hG (fun x hx => .inl (.inr hx)))
  · rcases hb.1 with h1 | h1
    · exact ⟨.inl h1, hb.2, hFP b h1⟩
    · refine ⟨.inr (by omega), hb.2, ?_⟩
      by_cases e : F9 b = 0
      · exact e
      · exact absurd (h9.dom b e) (by omega)
def GetF (l : List Fm) (SB : Nat → Prop) (sp p kb pb n : Nat) : Prop :=
  ∀ F w s st sv cv eb c r s' fb f P, MemoIn F w p (sheetV sp) s (st ++ [some fb]) kb pb sv cv eb → st.length + 1 + n ≤ most → SheetAt SB w sp l → (∀ b, SB b ∨ b = sp → b < w.heap.size ∧ F b = 0) → c.ok → f.reads.length ≤ most → FrAt P w fb f → (∀ b, P b → b < w.heap.size ∧ F b = 0) → getM l n s c = some (r, s') →
    Calls Try.prog 10 #[.pointer (some ⟨p, 0, none⟩), c.v] w (LeftF F P w p sp st fb kb pb s' eb (fun d => s.prog d = true) (noteF f c r.1 r.2) (.tuple #[.int .i64 r.1, .int .i64 r.2]))
set_option maxRecDepth 20000 in
set_option maxHeartbeats 1000000 in
theorem get_frame (l : List Fm) (SB : Nat → Prop) (sp p kb pb n : Nat) (hG : GetC l SB sp p kb pb n) : GetF l SB sp p kb pb n := by
  intro F w s st sv cv eb c r s' fb f P h hn hsh hs hc hfl hfr hP hg
  have hB1 : Below w.heap.size w (w.alloc (.cells #[.int .i64 c.st, .int .i64 c.en, .int .i64 c.ot, .int .i64 c.pe] 26)) := (Below.refl _ w).alloc (Nat.le_refl _) _
  have hcb := heap_alloc_new w (.cells #[.int .i64 c.st, .int .i64 c.en, .int .i64 c.ot, .int .i64 c.pe] 26)
  obtain ⟨g, cap, rfl, hc1, hc2, hrow, hcell⟩ := row_pop h.stk
  have h1 := h.below hB1
  have HCALL := Lib.hid (hG F _ s (st ++ [some fb]) _ cv eb c r s' h1 (by simpa using hn) (hsh.left hs (Gr.of_below hB1)) (fun b hb => ⟨Nat.lt_of_lt_of_le (hs b hb).1 hB1.size, (hs b hb).2⟩) hc hg)
  have HW := Lib.hid ((wfM l n).1 s c r s' h.wf hg).1
  have hwr : IntKind.i64.wrap (st.length : Int) = (st.length : Int) := by
    simp [IntKind.wrap, IntKind.signed, IntKind.bits]
    omega
  have hcI : (st.length : Int) < (st.length + 1 : Int) := by omega
  have hc0 : (0 : Int) ≤ (st.length : Int) := by omega
  have hn0 : ¬ ((st.length : Int) + 1 = 0) := by omega
  have k3 := blk_cell h1.row 3
  simp at k3
  have hr0 : F w.heap.size = 0 := by
    by_cases e : F w.heap.size = 0
    · exact e
    · exact absurd (h.dom _ e) (Nat.lt_irrefl _)
  have HR0 := Lib.hid hr0
  have hcell1 := cell_below hcell hB1
  have HB1 := Lib.hid hB1
  have HFR := Lib.hid hfr
  have HFL := Lib.hid hfl
  have HP := Lib.hid hP
  have HCB := Lib.hid hcb
  have HC := Lib.hid hc
  obtain ⟨c1, c2, c3, c4⟩ := c
  obtain ⟨rv, re⟩ := r
  unfold C4.v at *
  simp only at *
  have y0 := blk_cell hcb 0
  have y1 := blk_cell hcb 1
  have y2 := blk_cell hcb 2
  have y3 := blk_cell hcb 3
  simp at y0 y1 y2 y3
  unfold ptrV at hcell1
  simp only at hcell1
  clear h hsh hs hc hg hB1 hcb h1 hG hcell hrow hfr hfl hP hr0
  go_enter Try.func10, Try.ntmps10
  go_wp2_with (first | (go_at_call 21; refine (HN.out).mono ?_; rintro e8 w8 ⟨rfl, hf8, hG8⟩; have HF8 := Lib.hid hf8; have HG8 := Lib.hid hG8; clear hf8 hG8) | (go_at_call 20; refine (HCALL.out).mono ?_; rintro e9 w9 ⟨rfl, F9, sv9, cv9, eb9, hM9, hF9, hG9, hK9⟩; have hn := note48 w9 fb f (FrAt.gr (FrAt.gr HFR.out (Gr.of_below (F := fun _ => False) HB1.out) (fun _ _ h => h)) hG9 (fun b hb e => e.1 (HP.out b hb).2)) HFL.out ⟨c1, c2, c3, c4⟩ HC.out rv re HW.out; have hbx := blk_gr hG9 HCB.out (fun e => e.1 HR0.out); have z0 := blk_cell hbx 0; have z1 := blk_cell hbx 1; have z2 := blk_cell hbx 2; have z3 := blk_cell hbx 3; simp at z0 z1 z2 z3; have HM9 := Lib.hid hM9; have HF9 := Lib.hid hF9; have HG9 := Lib.hid hG9; have HK9 := Lib.hid hK9; have HN := Lib.hid hn; clear hM9 hF9 hG9 hK9 hn hbx; unfold C4.v at HN; simp only at HN))
  go_ret2
  exact note_left HB1.out HM9.out HF9.out HG9.out HK9.out HP.out HF8.out HG8.out
end Go.Proofs.Ytmmeieangbcfaaa
