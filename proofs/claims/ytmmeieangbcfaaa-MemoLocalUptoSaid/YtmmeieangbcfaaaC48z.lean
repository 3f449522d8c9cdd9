/- Layer 48: a sheet that is made; cells of a list. -/
import Derived.Test.YtmmeieangbcfaaaC48y
set_option linter.unusedSimpArgs false
namespace Go.Proofs.Ytmmeieangbcfaaa
open Go.RowKit Go

theorem cellT_sz : cellT.sz = 4 := rfl
/-- A cell of a list, in memory. -/
theorem cell_at {S : Nat → Prop} {w : World} {a : Option Addr} {len cap : Nat} {xs : List cellT.den} (h : Rd (.sl cellT) S w [.slice a len cap] xs) (i : Nat) (hi : i < xs.length) :
    ∃ b off, a = some ⟨b, off, none⟩ ∧ S b ∧ w.cell? ⟨b, off + i * 4, none⟩ = some (.int .i64 (c4 xs[i]).st) ∧ w.cell? ⟨b, off + i * 4 + 1, none⟩ = some (.int .i64 (c4 xs[i]).en) ∧ w.cell? ⟨b, off + i * 4 + 2, none⟩ = some (.int .i64 (c4 xs[i]).ot) ∧ w.cell? ⟨b, off + i * 4 + 3, none⟩ = some (.int .i64 (c4 xs[i]).pe) ∧ (c4 xs[i]).ok := by
  obtain ⟨hl, -, -, vs, hr, hor⟩ := h.sl_flat
  obtain ⟨c, hc, hcc, hrd⟩ := hr.at_ i hi
  rcases hor with h0 | ⟨b, off, rfl, hb, hcell⟩
  · omega
  · generalize xs[i] = s at hrd ⊢
    obtain ⟨x1, x2, x3, x4, ⟨⟩⟩ := s
    obtain ⟨c1, r1, rfl, ⟨rfl, h1⟩, c2, r2, rfl, ⟨rfl, h2⟩, c3, r3, rfl, ⟨rfl, h3⟩, c4, r4, rfl, ⟨rfl, h4⟩, rfl⟩ := hrd
    refine ⟨b, off, rfl, hb, ?_, ?_, ?_, ?_, ⟨h1, h2, h3, h4⟩⟩
    · rw [show off + i * 4 = off + (i * cellT.sz + 0) by rw [cellT_sz]; omega]; exact hcell _ _ (hcc 0 _ rfl)
    · rw [show off + i * 4 + 1 = off + (i * cellT.sz + 1) by rw [cellT_sz]; omega]; exact hcell _ _ (hcc 1 _ rfl)
    · rw [show off + i * 4 + 2 = off + (i * cellT.sz + 2) by rw [cellT_sz]; omega]; exact hcell _ _ (hcc 2 _ rfl)
    · rw [show off + i * 4 + 3 = off + (i * cellT.sz + 3) by rw [cellT_sz]; omega]; exact hcell _ _ (hcc 3 _ rfl)
/-- A sheet whose formulas are the law's own. -/
structure ShO (n0 : Nat) (w : World) (sp : Nat) (xs : List formT.den) (v : Value) (SS : Nat → Prop) : Prop where
  row : w.heap[sp]? = some (.cells #[v] 46 (0, 0))
  own : Owns formT 41 n0 SS w v xs
  hv : ∀ b, v.ownBlock = some b → b ≠ sp
  hS : ∀ b, SS b → b ≠ sp
  h0 : n0 ≤ sp
theorem Owns.wider {e : Ty} {te : TypeId} {base : Nat} {S S' : Nat → Prop} {w : World} {v : Value} {xs : List e.den} (h : Owns e te base S w v xs) (hs : ∀ b, S b → S' b) (hb : ∀ b, S' b → v.ownBlock ≠ some b ∧ b < w.heap.size) : Owns e te base S' w v xs := by
  obtain ⟨vs, h1, h2, h3⟩ := h
  exact ⟨vs, h1, h2.keep (fun _ _ => rfl) hs, hb⟩
theorem ShO.below {n0 : Nat} {w w' : World} {sp : Nat} {xs : List formT.den} {v : Value} {SS : Nat → Prop} (h : ShO n0 w sp xs v SS) (hB : Below w.heap.size w w') : ShO n0 w' sp xs v SS :=
  ⟨(hB.block _ (blk_lt h.row)).trans h.row, h.own.below hB, h.hv, h.hS, h.h0⟩
/-- A block of terms more. -/
theorem ShO.wider {n0 : Nat} {w : World} {sp : Nat} {xs : List formT.den} {v : Value} {SS : Nat → Prop} (h : ShO n0 w sp xs v SS) (b : Nat) (hb : b < w.heap.size) (h1 : b ≠ sp) (h2 : v.ownBlock ≠ some b) : ShO n0 w sp xs v (fun c => SS c ∨ c = b) :=
  ⟨h.row, h.own.wider (fun _ h => .inl h) (fun c hc => by
    rcases hc with hc | rfl
    · exact h.own.bound c hc
    · exact ⟨h2, hb⟩), h.hv, fun c hc => hc.elim (h.hS c) (fun e => by rw [e]; exact h1), h.h0⟩
theorem ShO.put {n0 : Nat} {w w1 : World} {sp : Nat} {xs xs' : List formT.den} {v v' : Value} {SS : Nat → Prop} (h : ShO n0 w sp xs v SS) (g : w.grownBy w1 v.ownBlock) (ho : Owns formT 41 n0 SS w1 v' xs') (hb : v'.ownBlock = v.ownBlock ∨ v'.ownBlock = some w.heap.size) :
    ShO n0 (w1.setCell ⟨sp, 0, none⟩ v') sp xs' v' SS ∧ Gr (fun b => v.ownBlock = some b ∨ b = sp) w (w1.setCell ⟨sp, 0, none⟩ v') := by
  have hvs : v.ownBlock ≠ some sp := fun e => h.hv sp e rfl
  have hv' : ∀ b, v'.ownBlock = some b → b ≠ sp := fun b e => by
    rcases hb with e' | e'
    · exact h.hv b (e' ▸ e)
    · rw [e'] at e
      obtain rfl := Option.some.inj e
      exact fun e2 => by have := blk_lt h.row; omega
  have hr1 := blk_gr (Gr.of_grown g) h.row hvs
  have hr2 := blk_set (i := 0) hr1 v'
  simp at hr2
  have hgs := gr_setCell w1 sp 0 v'
  exact ⟨⟨hr2, ho.gr hgs (fun b hb e => h.hS b hb e) (fun b hb e => hv' b hb e), hv', h.hS, h.h0⟩, ((Gr.of_grown g).mono (fun x e => .inl (.inl e))).trans hgs (fun x e => .inl (.inr e))⟩
theorem ShO.below0 {n0 : Nat} {w w' : World} {sp : Nat} {xs : List formT.den} {v : Value} {SS : Nat → Prop} (h : ShO n0 w sp xs v SS) (hg : Gr (fun b => v.ownBlock = some b ∨ b = sp) w w') (hn : n0 ≤ w.heap.size) : Below n0 w w' :=
  hg.below (fun b hb => hb.elim (fun e => (h.own.own b e).1) (fun e => by rw [e]; exact h.h0)) hn
theorem ShO.nil {n0 : Nat} {w : World} {sp : Nat} (h : w.heap[sp]? = some (.cells #[.slice none 0 0] 46 (0, 0))) (h0 : n0 ≤ sp) : ShO n0 w sp [] (.slice none 0 0) (fun _ => False) :=
  ⟨h, Owns.nil _ _ _ _, fun b hb => by simp [Value.ownBlock] at hb, fun _ h => h.elim, h0⟩
theorem ShO.new {n0 : Nat} {w : World} {sp : Nat} {xs : List formT.den} {v : Value} {SS : Nat → Prop} (h : ShO n0 w sp xs v SS) (hn : n0 ≤ w.heap.size) :
    Calls Try.prog 11 #[sheetV sp] w fun e w' => e = .returned (.pointer (some ⟨w.heap.size + 2, 0, none⟩)) ∧ Below w.heap.size w w' ∧ w'.heap.size = w.heap.size + 3 ∧ ∃ F, Pl n0 F w' (w.heap.size + 2) sp w.heap.size (w.heap.size + 1) newS xs v SS ∧ ∀ b, b < w.heap.size → F b = 0 :=
  Pl.new hn h.row h.own h.hv h.hS h.h0
/-- A formula as cells. -/
theorem form_rd {S : Nat → Prop} {w : World} {c : cellT.den} (hc : (c4 c).ok) {tv : Value} {ts : List termT.den} (ht : Rd (.sl termT) S w [tv] ts) {ad md sk : Int} (h1 : (Lit.int .i16 ad).wf = true) (h2 : (Lit.int .u8 md).wf = true) (h3 : (Lit.int .i8 sk).wf = true) :
    Rd formT S w [.int .i64 (c4 c).st, .int .i64 (c4 c).en, .int .i64 (c4 c).ot, .int .i64 (c4 c).pe, tv, .int .i16 ad, .int .u8 md, .int .i8 sk] (c, ts, ad, md, sk, ()) := by
  obtain ⟨x1, x2, x3, x4, ⟨⟩⟩ := c
  exact ⟨[.int .i64 x1, .int .i64 x2, .int .i64 x3, .int .i64 x4], _, rfl, cell_rd hc, [tv], _, rfl, ht, _, _, rfl, ⟨rfl, h1⟩, _, _, rfl, ⟨rfl, h2⟩, _, _, rfl, ⟨rfl, h3⟩, rfl⟩
theorem noterms_rd {S : Nat → Prop} {w : World} : Rd (.sl termT) S w [.slice none 0 0] [] := ⟨none, 0, 0, rfl, rfl, Nat.le_refl _, by decide, .inl rfl⟩
theorem oneterm_rd {S : Nat → Prop} {w : World} {b : Nat} {t : cellT.den} {f : Int} (hS : S b) (h : (c4 t).ok) (hf : (Lit.int .i16 f).wf = true) (hb : w.heap[b]? = some (.cells #[.int .i64 (c4 t).st, .int .i64 (c4 t).en, .int .i64 (c4 t).ot, .int .i64 (c4 t).pe, .int .i16 f] 53 (0, 0))) :
    Rd (.sl termT) S w [.slice (some ⟨b, 0, none⟩) 1 1] [(t, f, ())] := by
  obtain ⟨a1, a2, a3, a4, ⟨⟩⟩ := t
  refine ⟨_, 1, 1, rfl, rfl, Nat.le_refl _, by decide, .inr ⟨b, 0, rfl, hS, fun i hi => ?_⟩⟩
  have hi : i < 1 := hi
  obtain rfl : i = 0 := by omega
  exact ⟨[.int .i64 a1, .int .i64 a2, .int .i64 a3, .int .i64 a4, .int .i16 f], rfl, fun j u hu => by rw [show 0 + 0 * termT.sz + j = j by omega, blk_cell hb]; simpa [c4] using hu, ⟨_, _, rfl, cell_rd h, _, _, rfl, ⟨rfl, hf⟩, rfl⟩⟩
end Go.Proofs.Ytmmeieangbcfaaa
