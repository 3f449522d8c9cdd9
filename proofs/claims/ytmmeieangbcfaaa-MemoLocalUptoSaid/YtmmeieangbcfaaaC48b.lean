/- Layer 48: the reference's Find, Next, End. -/
import Derived.Test.YtmmeieangbcfaaaC48a
import Derived.Laws.ResultCell
set_option linter.unusedSimpArgs false
namespace Go.Proofs.Ytmmeieangbcfaaa
open Go.RowKit Go

theorem below_setRow {n p : Nat} {w W : World} (h : Below n w W) (hp : n ≤ p) (cs : Array Value) : Below n w (W.setRow p cs) :=
  ⟨h.os, h.tape, h.output, by simpa using h.size, fun k hk => (setRow_other W p k _ (by omega)).trans (h.block k hk)⟩
theorem gr_setRow (w : World) (p : Nat) (cs : Array Value) : Gr (fun b => b = p) w (w.setRow p cs) := ⟨rfl, rfl, rfl, by simp, fun k hk hf => setRow_other _ _ _ _ hf⟩
theorem cell_eql (w : World) (c d : C4) : Sem.run Try.prog (binOp .eql 26 c.v d.v) w = .ok (.bool (decide (c = d))) w := by
  obtain ⟨a, b, e, f⟩ := c
  obtain ⟨a', b', e', f'⟩ := d
  have u3 := Try.underlying3
  have hS : Try.prog.underlying 26 = some (.struct (Try.prog.fieldsOf 26)) := by kernel_rfl
  have hp : Try.prog.stoodInHeld 26 = false := by kernel_rfl
  unfold C4.v
  rw [run_eql_struct, show (10000 : Nat) = 9999 + 1 from rfl, run_equalIn_agg w 9999 26 _ _ hS hp]
  simp only [Program.fieldsOf, Try.underlying26]
  go_simp
  by_cases h1 : a = a' <;> by_cases h2 : b = b' <;> by_cases h3 : e = e' <;> by_cases h4 : f = f' <;> simp [h1, h2, h3, h4]
theorem findF_hit {l : List Fm} {c : C4} {k : Nat} (hk : k < l.length) (h1 : l[k].cell = c) (h2 : ∀ j (hj : j < l.length), k < j → l[j].cell ≠ c) : findF l c = l[k] := by
  have e : l = l.take k ++ l[k] :: l.drop (k + 1) := by rw [List.getElem_cons_drop, List.take_append_drop]
  have hn : (l.drop (k + 1)).reverse.find? (fun f => decide (f.cell = c)) = none := by
    rw [List.find?_eq_none]
    intro x hx
    rw [List.mem_reverse] at hx
    obtain ⟨i, hi, rfl⟩ := List.getElem_of_mem hx
    rw [List.length_drop] at hi
    rw [List.getElem_drop]
    simpa using h2 (k + 1 + i) (by omega) (by omega)
  unfold findF
  conv => lhs; rw [e]
  rw [List.reverse_append, List.reverse_cons, List.append_assoc, List.find?_append, hn, List.singleton_append, List.find?_cons, decide_eq_true h1]
  rfl
theorem findF_miss {l : List Fm} {c : C4} (h : ∀ j (hj : j < l.length), l[j].cell ≠ c) : findF l c = ⟨c, [], 0, 0, 0⟩ := by
  unfold findF
  rw [List.find?_eq_none.2]
  · rfl
  · intro x hx
    rw [List.mem_reverse] at hx
    obtain ⟨i, hi, rfl⟩ := List.getElem_of_mem hx
    simpa using h i hi
/-- A formula as a value. -/
def FormV (S : Nat → Prop) (w : World) (v : Value) (f : Fm) : Prop :=
  ∃ (ta : Option Addr) (tl tc : Nat) (ts : List termT.den), v = .agg #[.int .i64 f.cell.st, .int .i64 f.cell.en, .int .i64 f.cell.ot, .int .i64 f.cell.pe, .slice ta tl tc, .int .i16 f.add, .int .u8 f.md, .int .i8 f.skip] ∧ Rd (.sl termT) S w [.slice ta tl tc] ts ∧ f.terms = ts.map tm ∧
    f.cell.ok ∧ (Lit.int .i16 f.add).wf = true ∧ (Lit.int .u8 f.md).wf = true ∧ (Lit.int .i8 f.skip).wf = true
theorem FormV.gr {S F : Nat → Prop} {w w' : World} {v : Value} {f : Fm} (h : FormV S w v f) (hg : Gr F w w') (hS : ∀ b, S b → b < w.heap.size ∧ ¬ F b) : FormV S w' v f := by
  obtain ⟨ta, tl, tc, ts, rfl, h1, h2⟩ := h
  exact ⟨ta, tl, tc, ts, rfl, h1.gr hg hS (fun _ h => h), h2⟩
theorem formT_sz : formT.sz = 8 := rfl
theorem termT_sz : termT.sz = 5 := rfl
/-- A formula of a list, in memory. -/
theorem form_at {S : Nat → Prop} {w : World} {a : Option Addr} {len cap : Nat} {xs : List formT.den} (h : Rd (.sl formT) S w [.slice a len cap] xs) (i : Nat) (hi : i < xs.length) :
    ∃ b off ta tl tc, a = some ⟨b, off, none⟩ ∧ S b ∧ w.cell? ⟨b, off + i * 8, none⟩ = some (.int .i64 (fm xs[i]).cell.st) ∧ w.cell? ⟨b, off + i * 8 + 1, none⟩ = some (.int .i64 (fm xs[i]).cell.en) ∧ w.cell? ⟨b, off + i * 8 + 2, none⟩ = some (.int .i64 (fm xs[i]).cell.ot) ∧ w.cell? ⟨b, off + i * 8 + 3, none⟩ = some (.int .i64 (fm xs[i]).cell.pe) ∧
      w.cell? ⟨b, off + i * 8 + 4, none⟩ = some (.slice ta tl tc) ∧ w.cell? ⟨b, off + i * 8 + 5, none⟩ = some (.int .i16 (fm xs[i]).add) ∧ w.cell? ⟨b, off + i * 8 + 6, none⟩ = some (.int .u8 (fm xs[i]).md) ∧ w.cell? ⟨b, off + i * 8 + 7, none⟩ = some (.int .i8 (fm xs[i]).skip) ∧
      FormV S w (.agg #[.int .i64 (fm xs[i]).cell.st, .int .i64 (fm xs[i]).cell.en, .int .i64 (fm xs[i]).cell.ot, .int .i64 (fm xs[i]).cell.pe, .slice ta tl tc, .int .i16 (fm xs[i]).add, .int .u8 (fm xs[i]).md, .int .i8 (fm xs[i]).skip]) (fm xs[i]) := by
  obtain ⟨hl, -, -, vs, hr, hor⟩ := h.sl_flat
  obtain ⟨c, hc, hcc, hrd⟩ := hr.at_ i hi
  rcases hor with h0 | ⟨b, off, rfl, hb, hcell⟩
  · omega
  · generalize xs[i] = s at hrd ⊢
    obtain ⟨⟨x1, x2, x3, x4, ⟨⟩⟩, ts, ad, md, sk, ⟨⟩⟩ := s
    obtain ⟨cc, rr, rfl, ⟨c1, r1, rfl, ⟨rfl, h1⟩, c2, r2, rfl, ⟨rfl, h2⟩, c3, r3, rfl, ⟨rfl, h3⟩, c4, r4, rfl, ⟨rfl, h4⟩, rfl⟩, c5, r5, rfl, h5, c6, r6, rfl, ⟨rfl, h6⟩, c7, r7, rfl, ⟨rfl, h7⟩, c8, r8, rfl, ⟨rfl, h8⟩, rfl⟩ := hrd
    obtain ⟨ta, tl, tc, rfl, h5'⟩ := id h5
    refine ⟨b, off, ta, tl, tc, rfl, hb, ?_, ?_, ?_, ?_, ?_, ?_, ?_, ?_, ta, tl, tc, ts, rfl, h5, rfl, ⟨h1, h2, h3, h4⟩, h6, h7, h8⟩
    · rw [show off + i * 8 = off + (i * formT.sz + 0) by rw [formT_sz]; omega]; exact hcell _ _ (hcc 0 _ rfl)
    · rw [show off + i * 8 + 1 = off + (i * formT.sz + 1) by rw [formT_sz]; omega]; exact hcell _ _ (hcc 1 _ rfl)
    · rw [show off + i * 8 + 2 = off + (i * formT.sz + 2) by rw [formT_sz]; omega]; exact hcell _ _ (hcc 2 _ rfl)
    · rw [show off + i * 8 + 3 = off + (i * formT.sz + 3) by rw [formT_sz]; omega]; exact hcell _ _ (hcc 3 _ rfl)
    · rw [show off + i * 8 + 4 = off + (i * formT.sz + 4) by rw [formT_sz]; omega]; exact hcell _ _ (hcc 4 _ rfl)
    · rw [show off + i * 8 + 5 = off + (i * formT.sz + 5) by rw [formT_sz]; omega]; exact hcell _ _ (hcc 5 _ rfl)
    · rw [show off + i * 8 + 6 = off + (i * formT.sz + 6) by rw [formT_sz]; omega]; exact hcell _ _ (hcc 6 _ rfl)
    · rw [show off + i * 8 + 7 = off + (i * formT.sz + 7) by rw [formT_sz]; omega]; exact hcell _ _ (hcc 7 _ rfl)
end Go.Proofs.Ytmmeieangbcfaaa
