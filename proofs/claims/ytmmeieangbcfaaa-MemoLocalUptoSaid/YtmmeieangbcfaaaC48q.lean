/- Layer 48: Get, with no evaluation in progress. -/
import Derived.Test.YtmmeieangbcfaaaC48p
set_option linter.unusedSimpArgs false
namespace Go.Proofs.Ytmmeieangbcfaaa
open Go.RowKit Go

theorem row_slice {w : World} {te : TypeId} {sv : Value} {n : Nat} {xs : List Value} (h : w.ownsRow 0 te 1 sv n xs) : ∃ ca cc, sv = .slice ca n cc := by
  rcases h.2 with ⟨rfl, rfl⟩ | ⟨g, cap, cur, rfl, _⟩
  · exact ⟨_, _, rfl⟩
  · exact ⟨_, _, rfl⟩
set_option maxRecDepth 20000 in
set_option maxHeartbeats 1000000 in
theorem get_top (l : List Fm) (SB : Nat → Prop) (sp p kb pb n : Nat) (hG : GetC l SB sp p kb pb n) (hn : n ≤ most) {F : Nat → Nat} (w : World) {s : MS} {sv cv : Value} {eb : C4 → Option Nat} (c : C4) (r : Int × Int) (s' : MS)
    (h : MemoIn F w p (sheetV sp) s [] kb pb sv cv eb) (hsh : SheetAt SB w sp l) (hs : ∀ b, SB b ∨ b = sp → b < w.heap.size ∧ F b = 0) (hc : c.ok) (hg : getM l n s c = some (r, s')) :
    Calls Try.prog 10 #[.pointer (some ⟨p, 0, none⟩), c.v] w (Left48 F w p sp [] kb pb s' eb (fun d => s.prog d = true) (.tuple #[.int .i64 r.1, .int .i64 r.2])) := by
  have hB1 : Below w.heap.size w (w.alloc (.cells #[.int .i64 c.st, .int .i64 c.en, .int .i64 c.ot, .int .i64 c.pe] 26)) := (Below.refl _ w).alloc (Nat.le_refl _) _
  have hcb := heap_alloc_new w (.cells #[.int .i64 c.st, .int .i64 c.en, .int .i64 c.ot, .int .i64 c.pe] 26)
  obtain ⟨ca, cc, rfl⟩ := row_slice h.stk
  have h1 := h.below hB1
  have HCALL := Lib.hid (hG F _ s [] _ cv eb c r s' h1 (by simpa using hn) (hsh.left hs (Gr.of_below hB1)) (fun b hb => ⟨Nat.lt_of_lt_of_le (hs b hb).1 hB1.size, (hs b hb).2⟩) hc hg)
  have HB1 := Lib.hid hB1
  obtain ⟨c1, c2, c3, c4⟩ := c
  unfold C4.v at *
  simp only at *
  have y0 := blk_cell hcb 0
  have y1 := blk_cell hcb 1
  have y2 := blk_cell hcb 2
  have y3 := blk_cell hcb 3
  have k3 := blk_cell h1.row 3
  simp at y0 y1 y2 y3 k3
  clear h hsh hs hc hg hB1 hcb h1 hG
  go_enter Try.func10, Try.ntmps10
  go_wp2_with (go_at_call 20; refine (HCALL.out).mono ?_; rintro e9 w9 ⟨rfl, F9, sv9, cv9, eb9, hM9, hF9, hG9, hK9⟩)
  go_ret2
  exact ⟨rfl, F9, sv9, cv9, eb9, hM9, fun b hb => hF9 b (Nat.lt_of_lt_of_le hb HB1.out.size), (Gr.of_below HB1.out).trans hG9 (fun _ h => .inl h), hK9⟩
end Go.Proofs.Ytmmeieangbcfaaa
