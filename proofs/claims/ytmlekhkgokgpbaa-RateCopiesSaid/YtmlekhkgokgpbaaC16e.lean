/- Layer 16: maps keyed by the keys of rates. -/
import Derived.Test.YtmlekhkgokgpbaaC16d
import Derived.Maps.OwnSet
import Derived.Maps.Ext
import Derived.DeepKeys5
set_option linter.unusedSimpArgs false
set_option maxRecDepth 50000
namespace Go.Proofs.Ytmlekhkgokgpbaa
open Go.RowKit Go

/-! ### The keys of one map -/
theorem laidOut16 : laidOutB Try.prog = true := by kernel_rfl
theorem row58 : (58 : TypeId) < Try.prog.types.size := of_decide_eq_true (by kernel_rfl)
theorem wide58 : (match Try.prog.underlying 58 with | some (.array _ _) | some (.struct _) => true | _ => false) = true := by kernel_rfl
theorem law58 : WideMaps.KeyLaw Try.prog 58 := deep_law_laid laidOut16 (m := 2) (by omega) row58 (by kernel_rfl) wide58
theorem keyed58 : Maps.Keyed Try.prog 58 := Maps.Keyed.of_law law58

structure K3 where
  cur : ByteArray
  kind : Int
  when_ : Int
def K3.v (x : K3) : Value := .agg #[.string x.cur, .int .i64 x.kind, .int .i64 x.when_]
def K3.ok (x : K3) : Prop := x.cur.size ≤ maxLen ∧ (Lit.int .i64 x.kind).wf = true ∧ (Lit.int .i64 x.when_).wf = true
theorem K3.lit (x : K3) (h : x.ok) : ∃ l, keyOf Try.prog 58 x.v = some l := by
  obtain ⟨c, k, w⟩ := x
  obtain ⟨h1, h2, h3⟩ := h
  have hkt : Try.prog.keyType 58 = true := by kernel_rfl
  have hco : Try.prog.cellsOf 58 = 3 := by kernel_rfl
  have hc9 : Try.prog.cellsOf 9 = 1 := by kernel_rfl
  have hc3 : Try.prog.cellsOf 3 = 1 := by kernel_rfl
  have hfm : (K3.v ⟨c, k, w⟩).formed Try.prog 58 = true := by simp [K3.v, Value.formed, Try.underlying58, hco]
  obtain ⟨n, hn⟩ : ∃ n, Try.prog.types.size = n + 1 := ⟨Try.prog.types.size - 1, by have : 0 < Try.prog.types.size := of_decide_eq_true (by kernel_rfl); omega⟩
  refine ⟨.string (keyBytes [.string c.data.toList, .int .i64 k, .int .i64 w]), ?_⟩
  unfold keyOf
  simp only [Try.underlying58, hkt, hfm, Bool.and_self, if_true, hn]
  simp only [K3.v, Value.cells, Program.keyLits, Try.underlying58, Try.underlying9, Try.underlying3, hco, hc9, hc3]
  simp at h1 h2 h3
  simp [Program.keyLits, Try.underlying9, Try.underlying3, hc9, hc3, h1, h2, h3]
theorem tiled58 : Try.prog.tiled 2 58 = true := by kernel_rfl
theorem K3.inj {x y : K3} {l : Lit} (hx : keyOf Try.prog 58 x.v = some l) (hy : keyOf Try.prog 58 y.v = some l) : x = y := by
  have h := keyOf_inj_deep tiled58 wide58 hx hy
  obtain ⟨c, k, w⟩ := x
  obtain ⟨c2, k2, w2⟩ := y
  simp only [K3.v, Value.agg.injEq] at h
  simpa using h
noncomputable def K3.l (x : K3) : Lit := (keyOf Try.prog 58 x.v).getD (.bool false)
theorem K3.l_eq (x : K3) (h : x.ok) : keyOf Try.prog 58 x.v = some x.l := by
  obtain ⟨l, hl⟩ := x.lit h
  rw [K3.l, hl]; rfl
theorem K3.l_ne {x y : K3} (hx : x.ok) (hy : y.ok) (h : x ≠ y) : x.l ≠ y.l := fun e => h (K3.inj (x.l_eq hx) (by rw [e]; exact y.l_eq hy))

def same3 (a b : K3) : Bool := (a.cur.toList == b.cur.toList) && (a.kind == b.kind) && (a.when_ == b.when_)
theorem same3_iff (a b : K3) : same3 a b = true ↔ a = b := by
  obtain ⟨c, k, w⟩ := a
  obtain ⟨d, m, v⟩ := b
  unfold same3
  simp only [Bool.and_eq_true, beq_iff_eq, K3.mk.injEq]
  constructor
  · rintro ⟨⟨h1, h2⟩, h3⟩
    rw [ByteArray.toList_eq, ByteArray.toList_eq] at h1
    refine ⟨?_, h2, h3⟩
    have := Array.toList_inj.1 h1
    cases c; cases d
    simpa using this
  · rintro ⟨rfl, rfl, rfl⟩
    exact ⟨⟨rfl, rfl⟩, rfl⟩

/-! ### A map from keys to bools -/
/-- Block b is a map of at most n entries; 'm[x]' is f x. -/
def MapKB (w : World) (b n : Nat) (f : K3 → Bool) : Prop :=
  ∃ D : DataW Unit, w.ownsMap Try.prog 58 (plainElem Try.prog 4) b n D ∧ ∀ x : K3, x.ok → D.atKey x.l (.lit (.bool false)) = .lit (.bool (f x))
theorem zero_bool16 (w : World) : (zeroValue 4).run Try.prog w = .ok (.bool false) w := by kernel_rfl
theorem MapKB.lookup {w : World} {b n : Nat} {f : K3 → Bool} {t : TypeId} (h : MapKB w b n f) (ht : Try.prog.underlying t = some (.map 58 4)) (x : K3) (hx : x.ok) :
    Sem.run Try.prog (Instr.lookup t (.map (some b)) x.v false) w = .ok (.bool (f x)) w := by
  obtain ⟨D, hD, hf⟩ := h
  obtain ⟨v, ps, hrun, hv⟩ := hD.lookup keyed58 ht (zero_bool16 w) (plainElem_bool Try.underlying4 false) (x.l_eq hx)
  rw [hf x hx] at hv
  rw [hrun]
  unfold plainElem at hv
  rw [Try.underlying4] at hv
  cases v <;> simp at hv
  rw [hv.1]
theorem MapKB.made (w : World) : MapKB (w.alloc (.map #[] 0)) w.heap.size 0 (fun _ => false) :=
  ⟨.map [], World.ownsMap_made w Try.prog _ _, fun x _ => rfl⟩
theorem MapKB.keep {w w' : World} {b n : Nat} {f : K3 → Bool} (h : MapKB w b n f) (hw : w'.heap[b]? = w.heap[b]?) : MapKB w' b n f := by
  obtain ⟨D, ⟨es, clock, hb, r⟩, hf⟩ := h
  exact ⟨D, ⟨es, clock, hw.trans hb, r⟩, hf⟩
theorem MapKB.lt {w : World} {b n : Nat} {f : K3 → Bool} (h : MapKB w b n f) : b < w.heap.size := by
  obtain ⟨D, hD, _⟩ := h; exact hD.lt
theorem MapKB.below {w w' : World} {b n : Nat} {f : K3 → Bool} (h : MapKB w b n f) (hB : Below w.heap.size w w') : MapKB w' b n f := h.keep (hB.block b h.lt)
theorem MapKB.update {w : World} {b n : Nat} {f : K3 → Bool} {t : TypeId} (h : MapKB w b n f) (ht : Try.prog.underlying t = some (.map 58 4)) (hn : n < maxLen) (y : K3) (hy : y.ok) (z : Bool) :
    ∃ w', Sem.run Try.prog (Instr.mapUpdate t (.map (some b)) y.v (.bool z)) w = .ok () w' ∧ MapKB w' b (n + 1) (fun x => if same3 y x = true then z else f x) ∧ w.grownBy w' (some b) := by
  obtain ⟨D, hD, hf⟩ := h
  obtain ⟨w', hrun, h1, h2⟩ := hD.update keyed58 ht hn (y.l_eq hy) (plainElem_bool Try.underlying4 z)
  refine ⟨w', hrun, ⟨_, h1, fun x hx => ?_⟩, h2⟩
  by_cases e : x = y
  · subst e
    simp only [if_pos ((same3_iff x x).2 rfl)]
    rw [Maps.atKey_put_same hD.isMap (keyed58.key (x.l_eq hx))]
  · simp only [if_neg (fun h => e ((same3_iff y x).1 h).symm)]
    rw [Maps.atKey_put_other (K3.l_ne hx hy e), hf x hx]

/-! ### A map from keys to ints -/
/-- Block b is a map of m entries; f x is what the key x leads to. -/
def MapKI (w : World) (b m : Nat) (f : K3 → Option Int) : Prop :=
  ∃ D : DataW Unit, w.ownsMap Try.prog 58 (plainElem Try.prog 3) b m D ∧ Maps.size D = m ∧
    ∀ x : K3, x.ok → Maps.has D x.l = (f x).isSome ∧ D.atKey x.l (.lit (.int .i64 0)) = .lit (.int .i64 ((f x).getD 0))
theorem zero_int16 (w : World) : (zeroValue 3).run Try.prog w = .ok (.int .i64 0) w := by kernel_rfl
theorem ownsMap_exact {P : Program} {k : TypeId} {R : Value → Option (DataW Unit × List MemPlace)} {w : World} {b n : Nat} {D : DataW Unit} (h : w.ownsMap P k R b n D) : w.ownsMap P k R b (Maps.size D) D := by
  obtain ⟨es, clock, hb, F, hs, rfl⟩ := h
  exact ⟨es, clock, hb, F, by simp [Maps.size, length_sorted], rfl⟩
theorem MapKI.look {w : World} {b m : Nat} {f : K3 → Option Int} {t : TypeId} (h : MapKI w b m f) (ht : Try.prog.underlying t = some (.map 58 3)) (x : K3) (hx : x.ok) :
    Sem.run Try.prog (Instr.lookup t (.map (some b)) x.v true) w = .ok (.tuple #[.int .i64 ((f x).getD 0), .bool (f x).isSome]) w := by
  obtain ⟨D, hD, hm, hf⟩ := h
  obtain ⟨v, ps, hrun, hv⟩ := hD.look_ok keyed58 ht (zero_int16 w) (plainElem_int Try.underlying3 (q := .i64) (a := 0) (by decide)) (x.l_eq hx)
  rw [(hf x hx).2] at hv
  obtain ⟨a, rfl, hz, -⟩ := plainElem_int_inv Try.underlying3 hv
  simp only [Prod.mk.injEq, DataW.lit.injEq, Lit.int.injEq, true_and] at hz
  rw [hrun, (hf x hx).1, ← hz.1]
theorem MapKI.look1 {w : World} {b m : Nat} {f : K3 → Option Int} {t : TypeId} (h : MapKI w b m f) (ht : Try.prog.underlying t = some (.map 58 3)) (x : K3) (hx : x.ok) :
    Sem.run Try.prog (Instr.lookup t (.map (some b)) x.v false) w = .ok (.int .i64 ((f x).getD 0)) w := by
  obtain ⟨D, hD, hm, hf⟩ := h
  obtain ⟨v, ps, hrun, hv⟩ := hD.lookup keyed58 ht (zero_int16 w) (plainElem_int Try.underlying3 (q := .i64) (a := 0) (by decide)) (x.l_eq hx)
  rw [(hf x hx).2] at hv
  obtain ⟨a, rfl, hz, -⟩ := plainElem_int_inv Try.underlying3 hv
  simp only [Prod.mk.injEq, DataW.lit.injEq, Lit.int.injEq, true_and] at hz
  rw [hrun, ← hz.1]
theorem MapKI.len {w : World} {b m : Nat} {f : K3 → Option Int} {t : TypeId} (h : MapKI w b m f) (ht : Try.prog.underlying t = some (.map 58 3)) (ty : TypeId) :
    Sem.run Try.prog (Builtin.len_ #[t] ty #[.map (some b)]) w = .ok (.int .i64 m) w := by
  obtain ⟨D, hD, hm, hf⟩ := h
  rw [← hm]
  exact hD.len ht ty
theorem MapKI.made (w : World) : MapKI (w.alloc (.map #[] 0)) w.heap.size 0 (fun _ => none) :=
  ⟨.map [], World.ownsMap_made w Try.prog _ _, rfl, fun x _ => ⟨rfl, rfl⟩⟩
theorem MapKI.keep {w w' : World} {b m : Nat} {f : K3 → Option Int} (h : MapKI w b m f) (hw : w'.heap[b]? = w.heap[b]?) : MapKI w' b m f := by
  obtain ⟨D, ⟨es, clock, hb, r⟩, hm, hf⟩ := h
  exact ⟨D, ⟨es, clock, hw.trans hb, r⟩, hm, hf⟩
theorem MapKI.lt {w : World} {b m : Nat} {f : K3 → Option Int} (h : MapKI w b m f) : b < w.heap.size := by
  obtain ⟨D, hD, _⟩ := h; exact hD.lt
theorem MapKI.below {w w' : World} {b m : Nat} {f : K3 → Option Int} (h : MapKI w b m f) (hB : Below w.heap.size w w') : MapKI w' b m f := h.keep (hB.block b h.lt)
theorem MapKI.update {w : World} {b m : Nat} {f : K3 → Option Int} {t : TypeId} (h : MapKI w b m f) (ht : Try.prog.underlying t = some (.map 58 3)) (hn : m < maxLen) (y : K3) (hy : y.ok) (z : Int) (hz : (Lit.int .i64 z).wf = true) :
    ∃ w', Sem.run Try.prog (Instr.mapUpdate t (.map (some b)) y.v (.int .i64 z)) w = .ok () w' ∧ MapKI w' b (if (f y).isSome then m else m + 1) (fun x => if same3 y x = true then some z else f x) ∧ w.grownBy w' (some b) := by
  obtain ⟨D, hD, hm, hf⟩ := h
  obtain ⟨w', hrun, h1, h2⟩ := hD.update keyed58 ht hn (y.l_eq hy) (plainElem_int Try.underlying3 hz)
  have hsz := Maps.size_put (k := y.l) (hD.tidy keyed58) (.lit (.int .i64 z))
  rw [(hf y hy).1, hm] at hsz
  refine ⟨w', hrun, ⟨_, by rw [← hsz]; exact ownsMap_exact h1, hsz, fun x hx => ?_⟩, h2⟩
  by_cases e : x = y
  · subst e
    simp only [if_pos ((same3_iff x x).2 rfl)]
    rw [Maps.atKey_put_same hD.isMap (keyed58.key (x.l_eq hx)), Maps.has_put_same hD.isMap (keyed58.key (x.l_eq hx))]
    simp
  · simp only [if_neg (fun h => e ((same3_iff y x).1 h).symm)]
    rw [Maps.atKey_put_other (K3.l_ne hx hy e), Maps.has_put_other (K3.l_ne hx hy e)]
    exact hf x hx
end Go.Proofs.Ytmlekhkgokgpbaa
