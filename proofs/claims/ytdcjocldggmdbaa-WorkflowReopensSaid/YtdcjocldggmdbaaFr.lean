/- Program independent: what a call may have turned ('Gr': only blocks of F, of those that were there), slices carried over it; bytes as strings; slice expressions. -/
import Derived.Test.YtdcjocldggmdbaaBase
import Derived.Laws.BytesArg
import Derived.Laws.Bits64
namespace Go.Proofs.Ytdcjocldggmdbaa
open Go.RowKit Go

/-- Of the blocks that were there, only those of F may have turned. -/
structure Gr (F : Nat → Prop) (w w' : World) : Prop where
  os : w'.os = w.os
  tape : w'.tape = w.tape
  output : w'.output = w.output
  size : w.heap.size ≤ w'.heap.size
  block : ∀ k, k < w.heap.size → ¬ F k → w'.heap[k]? = w.heap[k]?

theorem Gr.refl (F : Nat → Prop) (w : World) : Gr F w w := ⟨rfl, rfl, rfl, Nat.le_refl _, fun _ _ _ => rfl⟩
theorem Gr.trans {F G : Nat → Prop} {a b c : World} (h : Gr F a b) (k : Gr G b c) (hG : ∀ x, G x → F x ∨ a.heap.size ≤ x) : Gr F a c :=
  ⟨k.os.trans h.os, k.tape.trans h.tape, k.output.trans h.output, Nat.le_trans h.size k.size, fun x hx hf => (k.block x (Nat.lt_of_lt_of_le hx h.size) (fun e => by
    rcases hG x e with h' | h'
    · exact hf h'
    · omega)).trans (h.block x hx hf)⟩
theorem Gr.mono {F G : Nat → Prop} {a b : World} (h : Gr F a b) (hG : ∀ x, F x → G x ∨ a.heap.size ≤ x) : Gr G a b := (Gr.refl G a).trans h hG
theorem Gr.of_below {F : Nat → Prop} {w w' : World} (h : Below w.heap.size w w') : Gr F w w' := ⟨h.os, h.tape, h.output, h.size, fun k hk _ => h.block k hk⟩
theorem Gr.below {F : Nat → Prop} {w w' : World} {n : Nat} (h : Gr F w w') (hF : ∀ b, F b → n ≤ b) (hn : n ≤ w.heap.size) : Below n w w' :=
  ⟨h.os, h.tape, h.output, h.size, fun k hk => h.block k (by omega) (fun e => by have := hF k e; omega)⟩
theorem Gr.of_grown {w w' : World} {row : Option Nat} (h : w.grownBy w' row) : Gr (fun b => row = some b) w w' := ⟨h.os, h.tape, h.output, h.size, fun k hk hf => h.block k hk (fun e => hf e.symm)⟩
theorem Gr.drew {F : Nat → Prop} {a w : World} (h : Gr F a w) : Gr F a w.drew := ⟨h.os, h.tape, h.output, h.size, h.block⟩
theorem Gr.drewN {F : Nat → Prop} {a w : World} (h : Gr F a w) (m : Nat) : Gr F a (w.drewN m) := ⟨h.os, h.tape, h.output, h.size, h.block⟩
theorem Gr.alloc {F : Nat → Prop} {a w : World} (h : Gr F a w) (o : Obj) : Gr F a (w.alloc o) :=
  h.trans (G := fun _ => False) (Gr.of_below ((Below.refl _ w).alloc (Nat.le_refl _) o)) (fun _ h => h.elim)
theorem Gr.setCell {F : Nat → Prop} {a w : World} (h : Gr F a w) {p : Addr} (hp : F p.block ∨ a.heap.size ≤ p.block) (u : Value) : Gr F a (w.setCell p u) :=
  h.trans (G := fun b => b = p.block) ⟨rfl, rfl, rfl, by simp [World.setCell], fun k hk hf => Below.heap_setCell _ _ _ _ hf⟩ (fun x e => by rw [e]; exact hp)
theorem Gr.step {F : Nat → Prop} {a b c : World} (h : Gr F a b) (k : Below b.heap.size b c) : Gr F a c := h.trans (G := fun _ => False) (Gr.of_below k) (fun _ h => h.elim)
theorem Gr.grown {F : Nat → Prop} {a b c : World} {row : Option Nat} (h : Gr F a b) (k : b.grownBy c row) (hr : ∀ x, row = some x → F x ∨ a.heap.size ≤ x) : Gr F a c := h.trans (Gr.of_grown k) (fun x e => hr x e)

theorem Gr.cell {F : Nat → Prop} {w w' : World} (h : Gr F w w') {p : Addr} {v : Value} (hc : w.cell? p = some v) (hf : ¬ F p.block) : w'.cell? p = some v :=
  (World.cell?_of_block (w := w) (h.block p.block (World.block_lt_of_cell? w p hc) hf)).trans hc
theorem Rd.gr {t : Ty} {S S' : Nat → Prop} {F : Nat → Prop} {w w' : World} {cs : List Value} {x : t.den} (h : Rd t S w cs x) (hg : Gr F w w') (hS : ∀ b, S b → b < w.heap.size ∧ ¬ F b) (hs : ∀ b, S b → S' b) : Rd t S' w' cs x :=
  h.keep (fun b hb => hg.block b (hS b hb).1 (hS b hb).2) hs
theorem Owns.gr {e : Ty} {te : TypeId} {base : Nat} {S : Nat → Prop} {F : Nat → Prop} {w w' : World} {v : Value} {xs : List e.den} (h : Owns e te base S w v xs) (hg : Gr F w w') (hS : ∀ b, S b → ¬ F b) (hv : ∀ b, v.ownBlock = some b → ¬ F b) : Owns e te base S w' v xs :=
  h.keep (fun b hb => by
    rcases hb with hb | hb
    · exact hg.block b (h.bound b hb).2 (hS b hb)
    · exact hg.block b (h.own b hb).2 (hv b hb)) hg.size
theorem blk_gr {F : Nat → Prop} {w w' : World} (hg : Gr F w w') {p : Nat} {o : Obj} (h : w.heap[p]? = some o) (hf : ¬ F p) : w'.heap[p]? = some o :=
  (hg.block p (Array.getElem?_eq_some_iff.1 h).1 hf).trans h
theorem blk_lt {w : World} {p : Nat} {o : Obj} (h : w.heap[p]? = some o) : p < w.heap.size := (Array.getElem?_eq_some_iff.1 h).1
theorem blk_set {w : World} {p i : Nat} {cs : Array Value} {t : TypeId} (h : w.heap[p]? = some (.cells cs t (0, 0))) (u : Value) : (w.setCell ⟨p, i, none⟩ u).heap[p]? = some (.cells (cs.setIfInBounds i u) t (0, 0)) := by
  simp [World.setCell, Array.getElem?_modify, h]
theorem blk_cell {w : World} {p : Nat} {cs : Array Value} {t : TypeId} (h : w.heap[p]? = some (.cells cs t (0, 0))) (i : Nat) : w.cell? ⟨p, i, none⟩ = cs[i]? := cell_of_row w p i cs t (0, 0) h
theorem blk_frozen {w : World} {p : Nat} {cs : Array Value} {t : TypeId} (h : w.heap[p]? = some (.cells cs t (0, 0))) (i : Nat) : w.frozen? ⟨p, i, none⟩ = false := by simp [World.frozen?, h]

/-! ### A slice of what is read -/
theorem Rd.drop {e : Ty} {S : Nat → Prop} {w : World} {a : Option Addr} {len cap : Nat} {xs : List e.den} (h : Rd (.sl e) S w [.slice a len cap] xs) (k : Nat) (hk : k ≤ len) :
    Rd (.sl e) S w [.slice (if cap = k then a else a.map (·.add (k * e.sz))) (len - k) (cap - k)] (xs.drop k) := by
  obtain ⟨a', l', c', he, h1, h2, h3, h4⟩ := h
  simp only [List.cons.injEq, Value.slice.injEq, and_true] at he
  obtain ⟨rfl, rfl, rfl⟩ := he
  have h1' : List.length xs = len := h1
  refine ⟨_, len - k, cap - k, rfl, ?_, by omega, by omega, ?_⟩
  · rw [List.length_drop, h1']
  · rcases h4 with h0 | ⟨b, off, rfl, hb, hx⟩
    · exact .inl (by omega)
    · by_cases hck : len - k = 0
      · exact .inl hck
      · right
        rw [if_neg (by omega)]
        refine ⟨b, off + k * e.sz, by rw [Option.map_some, Addr.add_none], hb, fun i hi => ?_⟩
        rw [List.length_drop] at hi
        obtain ⟨vs, hl, hc, hr⟩ := hx (i + k) (by omega)
        refine ⟨vs, hl, fun j u hu => ?_, ?_⟩
        · rw [← hc j u hu, Nat.add_mul]; congr 2; omega
        · have : (xs.drop k)[i]'(by rw [List.length_drop]; omega) = xs[i + k]'(by omega) := by simp [Nat.add_comm]
          simp only [List.get_eq_getElem] at hr ⊢
          rw [this]; exact hr

theorem Rd.recap {e : Ty} {S : Nat → Prop} {w : World} {a : Option Addr} {len cap cap' : Nat} {xs : List e.den} (h : Rd (.sl e) S w [.slice a len cap] xs) (h1 : len ≤ cap') (h2 : cap' ≤ 9223372036854775807) : Rd (.sl e) S w [.slice a len cap'] xs := by
  obtain ⟨a', l', c', he, k1, k2, k3, k4⟩ := h
  simp only [List.cons.injEq, Value.slice.injEq, and_true] at he
  obtain ⟨rfl, rfl, rfl⟩ := he
  exact ⟨a, len, cap', rfl, k1, h1, h2, k4⟩

/-! ### Bytes as a string -/
def okB (xs : List Int) : Prop := ∀ x ∈ xs, (Lit.int .u8 x).wf = true
theorem strOfNums_inj {xs ys : List Int} (hx : okB xs) (hy : okB ys) (h : strOfNums xs = strOfNums ys) : xs = ys := by
  have h1 : (strOfNums xs).data.toList = (strOfNums ys).data.toList := by rw [h]
  rw [strOfNums_data, strOfNums_data] at h1
  clear h
  induction xs generalizing ys with
  | nil => cases ys with
    | nil => rfl
    | cons y ys => simp at h1
  | cons x xs ih => cases ys with
    | nil => simp at h1
    | cons y ys =>
      simp only [List.map_cons, List.cons.injEq] at h1
      have e1 := wf_u8 (hx x (by simp))
      have e2 := wf_u8 (hy y (by simp))
      have e3 : x.toNat % 256 = y.toNat % 256 := by simpa using congrArg UInt8.toNat h1.1
      have : x = y := by omega
      rw [this, ih (fun z hz => hx z (by simp [hz])) (fun z hz => hy z (by simp [hz])) h1.2]
theorem Rd.conv {P : Program} {S : Nat → Prop} {w : World} {a : Option Addr} {len cap : Nat} {xs : List Int} (h : Rd (.sl (.int .u8)) S w [.slice a len cap] xs) {src e dst : TypeId} (hs : P.underlying src = some (.slice e)) (he : P.underlying e = some (.int .u8)) (hd : P.underlying dst = some .string) :
    (convert src dst (.slice a len cap)).run P w = .ok (.string (strOfNums xs)) w := by
  obtain ⟨h1, h2, h3, h4, h5⟩ := h.ints
  by_cases h0 : len = 0
  · subst h0
    have hx : xs = [] := List.eq_nil_of_length_eq_zero h1
    subst hx
    cases a with
    | none => rw [run_convert_bytes_nil w src e hs he 0 cap dst hd]; rfl
    | some ad => 
      rw [run_convert_bytes_string w src dst e _ 0 cap hs he hd, run_bytesToString w _ 0 cap [] (by simp [loadCells, loadCellsFrom])]
      rfl
  · obtain ⟨b, off, rfl, _, _⟩ := h4 0 (by omega)
    refine run_convert_bytes_arg w src e hs he b off len cap xs h1 (fun i hi => ?_) dst hd
    obtain ⟨b', off', hb, _, hc⟩ := h4 i hi
    cases hb
    rw [hc, List.getD_eq_getElem?_getD]
theorem Rd.okB {S : Nat → Prop} {w : World} {v : Value} {xs : List Int} (h : Rd (.sl (.int .u8)) S w [v] xs) : okB xs := by
  obtain ⟨a, l, c, he, _⟩ := id h
  simp only [List.cons.injEq, and_true] at he
  subst he
  exact h.ints.2.2.2.2
theorem okB_append {xs ys : List Int} (hx : Go.Proofs.Ytdcjocldggmdbaa.okB xs) (hy : Go.Proofs.Ytdcjocldggmdbaa.okB ys) : Go.Proofs.Ytdcjocldggmdbaa.okB (xs ++ ys) := fun z hz => by
  rcases List.mem_append.1 hz with h | h
  · exact hx z h
  · exact hy z h
theorem strEq (xs ys : List Int) (hx : Go.Proofs.Ytdcjocldggmdbaa.okB xs) (hy : Go.Proofs.Ytdcjocldggmdbaa.okB ys) : decide (strOfNums xs = strOfNums ys) = decide (xs = ys) :=
  decide_eq_decide.2 ⟨fun e => strOfNums_inj hx hy e, fun e => by rw [e]⟩

/-! ### n<<8 | x -/
theorem bits_or_u64_nat (a b : Nat) (ha : a < 18446744073709551616) (hb : b < 18446744073709551616) :
    bits .or .u64 (a : Int) (b : Int) = ((a ||| b : Nat) : Int) := by
  have hx : a ||| b < 2 ^ 64 := Nat.or_lt_two_pow (by omega) (by omega)
  have h1 : (BitVec.ofInt 64 (a : Int)).toNat = a := by
    rw [BitVec.ofInt_natCast, BitVec.toNat_ofNat]; exact Nat.mod_eq_of_lt (by omega)
  have h2 : (BitVec.ofInt 64 (b : Int)).toNat = b := by
    rw [BitVec.ofInt_natCast, BitVec.toNat_ofNat]; exact Nat.mod_eq_of_lt (by omega)
  show IntKind.u64.wrap ((BitVec.ofInt 64 (a : Int) ||| BitVec.ofInt 64 (b : Int)).toNat : Int) = _
  rw [BitVec.toNat_or, h1, h2, IntKind.wrap_u64]
  omega
theorem or_byte_nat (n x : Nat) (hx : x < 256) : n * 256 ||| x = n * 256 + x := by
  have := Nat.shiftLeft_add_eq_or_of_lt (i := 8) (b := x) hx n
  rw [Nat.shiftLeft_eq] at this
  exact this.symm
theorem or_byte (n x : Nat) (hx : x < 256) (hn : n * 256 < 18446744073709551616) : bits .or .u64 ((n * 256 : Nat) : Int) (x : Int) = ((n * 256 + x : Nat) : Int) := by
  rw [bits_or_u64_nat _ _ hn (by omega), or_byte_nat n x hx]
theorem xor_ones (n : Nat) (h : n < 2 ^ 64) : (2 ^ 64 - 1) ^^^ n = 2 ^ 64 - 1 - n := by
  apply Nat.eq_of_testBit_eq
  intro i
  rw [Nat.testBit_xor, Nat.testBit_two_pow_sub_one, show 2 ^ 64 - 1 - n = 2 ^ 64 - (n + 1) by omega, Nat.testBit_two_pow_sub_succ h]
  by_cases hi : i < 64
  · simp [hi]
  · have : n.testBit i = false := Nat.testBit_lt_two_pow (Nat.lt_of_lt_of_le h (Nat.pow_le_pow_right (by omega) (by omega)))
    simp [hi, this]
theorem xor_max (n : Nat) (h : n < 18446744073709551616) : bits .xor .u64 IntKind.u64.max (n : Int) = 18446744073709551615 - (n : Int) := by
  have e : IntKind.u64.max = ((18446744073709551615 : Nat) : Int) := by decide
  rw [e, bits_xor_u64_nat _ _ (by decide) h]
  have := xor_ones n h
  rw [show (18446744073709551615 : Nat) = 2 ^ 64 - 1 by decide, this]
  omega
end Go.Proofs.Ytdcjocldggmdbaa
