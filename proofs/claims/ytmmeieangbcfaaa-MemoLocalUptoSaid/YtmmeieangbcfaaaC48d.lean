/- Layer 48: the reference's Next, End. -/
import Derived.Test.YtmmeieangbcfaaaC48c
set_option linter.unusedSimpArgs false
namespace Go.Proofs.Ytmmeieangbcfaaa
open Go.RowKit Go

/-- A term of a list, in memory. -/
theorem term_at {S : Nat → Prop} {w : World} {a : Option Addr} {len cap : Nat} {xs : List termT.den} (h : Rd (.sl termT) S w [.slice a len cap] xs) (i : Nat) (hi : i < xs.length) :
    ∃ b off, a = some ⟨b, off, none⟩ ∧ S b ∧ w.cell? ⟨b, off + i * 5, none⟩ = some (.int .i64 (tm xs[i]).1.st) ∧ w.cell? ⟨b, off + i * 5 + 1, none⟩ = some (.int .i64 (tm xs[i]).1.en) ∧ w.cell? ⟨b, off + i * 5 + 2, none⟩ = some (.int .i64 (tm xs[i]).1.ot) ∧ w.cell? ⟨b, off + i * 5 + 3, none⟩ = some (.int .i64 (tm xs[i]).1.pe) ∧
      w.cell? ⟨b, off + i * 5 + 4, none⟩ = some (.int .i16 (tm xs[i]).2) ∧ (tm xs[i]).1.ok ∧ (Lit.int .i16 (tm xs[i]).2).wf = true := by
  obtain ⟨hl, -, -, vs, hr, hor⟩ := h.sl_flat
  obtain ⟨c, hc, hcc, hrd⟩ := hr.at_ i hi
  rcases hor with h0 | ⟨b, off, rfl, hb, hcell⟩
  · omega
  · generalize xs[i] = s at hrd ⊢
    obtain ⟨⟨x1, x2, x3, x4, ⟨⟩⟩, fa, ⟨⟩⟩ := s
    obtain ⟨cc, rr, rfl, ⟨c1, r1, rfl, ⟨rfl, h1⟩, c2, r2, rfl, ⟨rfl, h2⟩, c3, r3, rfl, ⟨rfl, h3⟩, c4, r4, rfl, ⟨rfl, h4⟩, rfl⟩, c5, r5, rfl, ⟨rfl, h5⟩, rfl⟩ := hrd
    refine ⟨b, off, rfl, hb, ?_, ?_, ?_, ?_, ?_, ⟨h1, h2, h3, h4⟩, h5⟩
    · rw [show off + i * 5 = off + (i * termT.sz + 0) by rw [termT_sz]; omega]; exact hcell _ _ (hcc 0 _ rfl)
    · rw [show off + i * 5 + 1 = off + (i * termT.sz + 1) by rw [termT_sz]; omega]; exact hcell _ _ (hcc 1 _ rfl)
    · rw [show off + i * 5 + 2 = off + (i * termT.sz + 2) by rw [termT_sz]; omega]; exact hcell _ _ (hcc 2 _ rfl)
    · rw [show off + i * 5 + 3 = off + (i * termT.sz + 3) by rw [termT_sz]; omega]; exact hcell _ _ (hcc 3 _ rfl)
    · rw [show off + i * 5 + 4 = off + (i * termT.sz + 4) by rw [termT_sz]; omega]; exact hcell _ _ (hcc 4 _ rfl)
theorem wrap_i16 {n : Int} (h : (Lit.int .i16 n).wf = true) : wrap64 n = n := IntWalk.wrap64_in n (by simp [Lit.wf, IntKind.min, IntKind.max, IntKind.signed, IntKind.bits] at h; omega)
theorem wrap_i8 {n : Int} (h : (Lit.int .i8 n).wf = true) : wrap64 n = n := IntWalk.wrap64_in n (by simp [Lit.wf, IntKind.min, IntKind.max, IntKind.signed, IntKind.bits] at h; omega)
theorem wrap_u8 {n : Int} (h : (Lit.int .u8 n).wf = true) : wrap64 n = n := IntWalk.wrap64_in n (by simp [Lit.wf, IntKind.min, IntKind.max, IntKind.signed, IntKind.bits] at h; omega)
set_option maxRecDepth 20000 in
set_option maxHeartbeats 1000000 in
theorem next48 {S : Nat → Prop} (w : World) (v : Value) (f : Fm) (h : FormV S w v f) (hS : ∀ b, S b → b < w.heap.size) (i : Nat) (hi : i < f.terms.length) (sum value : Int) :
    Calls Try.prog 46 #[v, .int .i64 i, .int .i64 sum, .int .i64 value] w fun e w' => e = .returned (.tuple #[.int .i64 (nextV f.terms[i].2 sum value), .bool (stopV f i value)]) ∧ Below w.heap.size w w' := by
  obtain ⟨ta, tl, tc, ts, rfl, hT, ht, hc, hw1, hw2, hw3⟩ := h
  have hl := hT.sl_flat.1
  have hits : i < ts.length := by rw [ht, List.length_map] at hi; exact hi
  have hB1 : ∀ o, Below w.heap.size w (w.alloc o) := fun o => (Below.refl _ w).alloc (Nat.le_refl _) o
  have hti : f.terms[i] = tm ts[i] := by simp only [ht]; exact List.getElem_map _
  rw [hti]
  have hT1 := fun o => hT.below (hB1 o) hS
  have hat := fun o => term_at (hT1 o) i hits
  generalize tm ts[i] = q at hat
  obtain ⟨⟨q1, q2, q3, q4⟩, qf⟩ := q
  obtain ⟨⟨d1, d2, d3, d4⟩, ft, fa, fmd, fs⟩ := f
  obtain ⟨b, off, rfl, -, m0, m1, m2, m3, m4, -, hqw⟩ := hat (.cells #[.int .i64 d1, .int .i64 d2, .int .i64 d3, .int .i64 d4, .slice ta tl tc, .int .i16 fa, .int .u8 fmd, .int .i8 fs] 41)
  have hiI : (i : Int) < (tl : Int) := by omega
  clear hat hT1 hT ht hc hi hti hl hits
  unfold stopV nextV
  simp only at m0 m1 m2 m3 m4 hw1 hw2 hw3 hqw ⊢
  have e1 := wrap_i16 hqw
  have e2 := wrap_i8 hw3
  go_enter Try.func46, Try.ntmps46
  go_wp2
  all_goals
    go_ret2
    exact ⟨by simp [*], (Below.refl _ w).alloc (Nat.le_refl _) _⟩
set_option maxRecDepth 20000 in
set_option maxHeartbeats 1000000 in
theorem end48 {S : Nat → Prop} (w : World) (v : Value) (f : Fm) (h : FormV S w v f) (sum : Int) :
    Calls Try.prog 47 #[v, .int .i64 sum] w fun e w' => e = .returned (.int .i64 (endV f sum)) ∧ Below w.heap.size w w' := by
  obtain ⟨ta, tl, tc, ts, rfl, hT, ht, hc, hw1, hw2, hw3⟩ := h
  obtain ⟨⟨d1, d2, d3, d4⟩, ft, fa, fmd, fs⟩ := f
  clear hT ht hc
  unfold endV
  simp only at hw1 hw2 hw3 ⊢
  have e1 := wrap_i16 hw1
  have e2 := wrap_u8 hw2
  by_cases h2 : 2 ≤ fmd
  · rw [if_pos h2]
    have hne : fmd ≠ 0 := by omega
    have hd : decide (2 ≤ fmd) = true := decide_eq_true h2
    go_enter Try.func47, Try.ntmps47
    go_wp2
    all_goals
      go_ret
      exact ⟨by simp [*], (Below.refl _ w).alloc (Nat.le_refl _) _⟩
  · rw [if_neg h2]
    have hd : decide (2 ≤ fmd) = false := decide_eq_false h2
    go_enter Try.func47, Try.ntmps47
    go_wp2
    all_goals
      go_ret
      exact ⟨by simp [*], (Below.refl _ w).alloc (Nat.le_refl _) _⟩
end Go.Proofs.Ytmmeieangbcfaaa
