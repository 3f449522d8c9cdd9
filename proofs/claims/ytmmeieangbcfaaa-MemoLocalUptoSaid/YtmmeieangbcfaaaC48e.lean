/- Layer 48: what a frame notes. -/
import Derived.Test.YtmmeieangbcfaaaC48d
set_option linter.unusedSimpArgs false
namespace Go.Proofs.Ytmmeieangbcfaaa
open Go.RowKit Go

abbrev readT : Ty := .pr cellT (.pr (.int .i64) .un)
def rdD (r : C4 × Int) : readT.den := (r.1.d, r.2, ())
def rdsD (l : List (C4 × Int)) : List readT.den := l.map rdD
theorem readT_sz : readT.sz = 5 := rfl
/-- A read of a list, in memory. -/
theorem read_at {S : Nat → Prop} {w : World} {a : Option Addr} {len cap : Nat} {l : List (C4 × Int)} (h : Rd (.sl readT) S w [.slice a len cap] (rdsD l)) (i : Nat) (hi : i < l.length) :
    ∃ b off, a = some ⟨b, off, none⟩ ∧ S b ∧ w.cell? ⟨b, off + i * 5, none⟩ = some (.int .i64 l[i].1.st) ∧ w.cell? ⟨b, off + i * 5 + 1, none⟩ = some (.int .i64 l[i].1.en) ∧ w.cell? ⟨b, off + i * 5 + 2, none⟩ = some (.int .i64 l[i].1.ot) ∧ w.cell? ⟨b, off + i * 5 + 3, none⟩ = some (.int .i64 l[i].1.pe) ∧
      w.cell? ⟨b, off + i * 5 + 4, none⟩ = some (.int .i64 l[i].2) ∧ l[i].1.ok ∧ (Lit.int .i64 l[i].2).wf = true := by
  obtain ⟨hl, -, -, vs, hr, hor⟩ := h.sl_flat
  have hi' : i < (rdsD l).length := by unfold rdsD; rw [List.length_map]; exact hi
  obtain ⟨c, hc, hcc, hrd⟩ := hr.at_ i hi'
  have he : (rdsD l)[i] = rdD l[i] := by show (List.map rdD l)[i]'hi' = _; exact List.getElem_map _
  rw [he] at hrd
  rcases hor with h0 | ⟨b, off, rfl, hb, hcell⟩
  · omega
  · generalize l[i] = s at hrd ⊢
    obtain ⟨⟨x1, x2, x3, x4⟩, fa⟩ := s
    obtain ⟨cc, rr, rfl, ⟨c1, r1, rfl, ⟨rfl, h1⟩, c2, r2, rfl, ⟨rfl, h2⟩, c3, r3, rfl, ⟨rfl, h3⟩, c4, r4, rfl, ⟨rfl, h4⟩, rfl⟩, c5, r5, rfl, ⟨rfl, h5⟩, rfl⟩ := hrd
    refine ⟨b, off, rfl, hb, ?_, ?_, ?_, ?_, ?_, ⟨h1, h2, h3, h4⟩, h5⟩
    · rw [show off + i * 5 = off + (i * readT.sz + 0) by rw [readT_sz]; omega]; exact hcell _ _ (hcc 0 _ rfl)
    · rw [show off + i * 5 + 1 = off + (i * readT.sz + 1) by rw [readT_sz]; omega]; exact hcell _ _ (hcc 1 _ rfl)
    · rw [show off + i * 5 + 2 = off + (i * readT.sz + 2) by rw [readT_sz]; omega]; exact hcell _ _ (hcc 2 _ rfl)
    · rw [show off + i * 5 + 3 = off + (i * readT.sz + 3) by rw [readT_sz]; omega]; exact hcell _ _ (hcc 3 _ rfl)
    · rw [show off + i * 5 + 4 = off + (i * readT.sz + 4) by rw [readT_sz]; omega]; exact hcell _ _ (hcc 4 _ rfl)
def readV (r : C4 × Int) : Value := .agg #[.int .i64 r.1.st, .int .i64 r.1.en, .int .i64 r.1.ot, .int .i64 r.1.pe, .int .i64 r.2]
theorem readSame (w : World) (r : C4 × Int) (c : C4) (cb : Nat) (hb : w.heap[cb]? = some (.cells #[.int .i64 c.st, .int .i64 c.en, .int .i64 c.ot, .int .i64 c.pe] 26 (0, 0))) :
    Calls Try.prog 27 #[readV r, .pointer (some ⟨cb, 0, none⟩)] w fun e w' => e = .returned (.bool (decide (r.1 = c))) ∧ Below w.heap.size w w' := by
  obtain ⟨⟨r1, r2, r3, r4⟩, rv⟩ := r
  obtain ⟨c1, c2, c3, c4⟩ := c
  have heq := fun W => cell_eql W ⟨r1, r2, r3, r4⟩ ⟨c1, c2, c3, c4⟩
  have hgd : Try.prog.eqGuardType Try.prog.depth 26 = false := by kernel_rfl
  unfold C4.v at heq
  unfold readV
  have hB : Below w.heap.size w (w.alloc (.cells #[.int .i64 r1, .int .i64 r2, .int .i64 r3, .int .i64 r4, .int .i64 rv] 77)) := (Below.refl _ w).alloc (Nat.le_refl _) _
  have hb' := (hB.block _ (blk_lt hb)).trans hb
  have k0 := blk_cell hb' 0
  have k1 := blk_cell hb' 1
  have k2 := blk_cell hb' 2
  have k3 := blk_cell hb' 3
  simp at k0 k1 k2 k3 heq
  clear hb hb'
  go_enter Try.func27, Try.ntmps27
  go_wp2
  go_ret
  exact ⟨by simp, hB⟩
end Go.Proofs.Ytmmeieangbcfaaa
