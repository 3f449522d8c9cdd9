/- Layer 28: one line with many, plain; the finder seen from a side; the pairs. -/
import Derived.Test.YtpobckedeffjmaaRegIn
import Derived.Laws.Bits64b
set_option linter.unusedSimpArgs false
set_option maxRecDepth 50000
namespace Go.Proofs.Ytpobckedeffjmaa
open Go.RowKit Go
theorem alloc_old' {w : World} {b : Nat} {x y : Obj} (h : w.heap[b]? = some x) : (w.alloc y).heap[b]? = some x := (heap_alloc_old w y (blk_lt h)).trans h
theorem alloc_new' {w : World} {b : Nat} {x : Obj} (h : b = w.heap.size) : (w.alloc x).heap[b]? = some x := by subst h; exact heap_alloc_new w x

/-! ### Plain -/
def candA (x : Int) (r : List O3) (ur : List Bool) (k : Nat) : List Nat := ((List.range k).filter fun j => !uat ur j && oppB x (lat r j).n).take 12
theorem candA_len (x : Int) (r : List O3) (ur : List Bool) (k : Nat) : (candA x r ur k).length ≤ 12 := by unfold candA; rw [List.length_take]; omega
theorem candA_lt {x : Int} {r : List O3} {ur : List Bool} {k j : Nat} (h : j ∈ candA x r ur k) : j < k := by
  have := List.mem_of_mem_take h
  simp at this
  exact this.1
theorem candA_add {x : Int} {r : List O3} {ur : List Bool} {k : Nat} (h1 : (!uat ur k && oppB x (lat r k).n) = true) (h2 : (candA x r ur k).length < 12) : candA x r ur (k + 1) = candA x r ur k ++ [k] := by
  unfold candA at *
  rw [List.range_succ, List.filter_append]
  rw [List.length_take] at h2
  rw [show ([k].filter fun j => !uat ur j && oppB x (lat r j).n) = [k] from by simp only [List.filter_cons, h1, if_true, List.filter_nil]]
  rw [List.take_of_length_le (by rw [List.length_append, List.length_singleton]; omega), List.take_of_length_le (by omega)]
theorem candA_no {x : Int} {r : List O3} {ur : List Bool} {k : Nat} (h1 : (!uat ur k && oppB x (lat r k).n) = false) : candA x r ur (k + 1) = candA x r ur k := by
  unfold candA
  rw [List.range_succ, List.filter_append]
  rw [show ([k].filter fun j => !uat ur j && oppB x (lat r j).n) = [] from by simp only [List.filter_cons, h1, List.filter_nil, Bool.false_eq_true, if_false], List.append_nil]
theorem candA_full {x : Int} {r : List O3} {ur : List Bool} {k : Nat} (h2 : ¬ (candA x r ur k).length < 12) : candA x r ur (k + 1) = candA x r ur k := by
  unfold candA at *
  rw [List.length_take] at h2
  rw [List.range_succ, List.filter_append, List.take_append_of_le_length (by omega)]
/-- The candidates that a mask picks, of the first b ones. -/
def bitA (cs : List Nat) (m b : Nat) : List Nat := ((List.range b).filter fun j => m.testBit j).map fun j => cs[j]?.getD 0
def bitsL (cs : List Nat) (m : Nat) : List Nat := bitA cs m cs.length
theorem bitA_yes {cs : List Nat} {m b : Nat} (h : m.testBit b = true) : bitA cs m (b + 1) = bitA cs m b ++ [cs[b]?.getD 0] := by
  unfold bitA
  rw [List.range_succ, List.filter_append, List.map_append]
  simp [h]
theorem bitA_no {cs : List Nat} {m b : Nat} (h : m.testBit b = false) : bitA cs m (b + 1) = bitA cs m b := by
  unfold bitA
  rw [List.range_succ, List.filter_append, List.map_append]
  simp [h]
theorem bitA_len (cs : List Nat) (m b : Nat) : (bitA cs m b).length ≤ b := by
  unfold bitA
  rw [List.length_map]
  exact Nat.le_trans (List.length_filter_le _ _) (by simp)
def sumM (x : Int) (r : List O3) (ks : List Nat) : Int := ks.foldl (fun s k => s + (lat r k).n) x
theorem sumM_snoc (x : Int) (r : List O3) (ks : List Nat) (k : Nat) : sumM x r (ks ++ [k]) = sumM x r ks + (lat r k).n := by
  unfold sumM; rw [List.foldl_append]; rfl
def refsM (r : List O3) (ks : List Nat) : List R2 := ks.map fun k => (lat r k).r
def setAll (u : List Bool) (ks : List Nat) : List Bool := ks.foldl (fun u k => u.set k true) u
theorem setAll_snoc (u : List Bool) (ks : List Nat) (k : Nat) : setAll u (ks ++ [k]) = (setAll u ks).set k true := by
  unfold setAll; rw [List.foldl_append]; rfl
def unfit (x : Int) (r : List O3) (cs : List Nat) (tol : Int) (m : Nat) : Bool := decide (tol < szI (sumM x r (bitsL cs m)))
def manyPick (x : Int) (r : List O3) (cs : List Nat) (tol : Int) : Option Nat := (subsL cs.length).find? fun m => !unfit x r cs tol m
def prP (sw : Bool) (x : R2) (rs : List R2) : P2 := if sw then (rs, [x]) else ([x], rs)
def manyStep (sw : Bool) (l r : List O3) (tol : Int) (st : FS) (i : Nat) : FS :=
  if uat st.ul i then st else
    match manyPick (lat l i).n r (candA (lat l i).n r st.ur r.length) tol with
    | none => st
    | some m => ⟨st.ul.set i true, setAll st.ur (bitsL (candA (lat l i).n r st.ur r.length) m), st.out ++ [prP sw (lat l i).r (refsM r (bitsL (candA (lat l i).n r st.ur r.length) m))]⟩
def manyAt (sw : Bool) (l r : List O3) (tol : Int) (st : FS) (i : Nat) : FS := (List.range i).foldl (manyStep sw l r tol) st
theorem manyAt_succ (sw : Bool) (l r : List O3) (tol : Int) (st : FS) (i : Nat) : manyAt sw l r tol st (i + 1) = manyStep sw l r tol (manyAt sw l r tol st i) i := by
  unfold manyAt
  rw [List.range_succ, List.foldl_append]; rfl
theorem manyStep_len (sw : Bool) (l r : List O3) (tol : Int) (st : FS) (i : Nat) : (manyStep sw l r tol st i).out.length ≤ st.out.length + 1 := by
  unfold manyStep
  split
  · omega
  · split
    · omega
    · simp
theorem manyAt_len (sw : Bool) (l r : List O3) (tol : Int) (st : FS) (i : Nat) : (manyAt sw l r tol st i).out.length ≤ st.out.length + i := by
  induction i with
  | zero => simp [manyAt]
  | succ i ih => rw [manyAt_succ]; have := manyStep_len sw l r tol (manyAt sw l r tol st i) i; omega
theorem find_split {α : Type} {p : α → Bool} {pre rest : List α} {x : α} (h1 : ∀ y ∈ pre, p y = false) (h2 : p x = true) : (pre ++ x :: rest).find? p = some x := by
  rw [List.find?_append, List.find?_eq_none.2 (fun y hy => by rw [h1 y hy]; decide)]
  simp [h2]
/-! ### The finder, from a side -/
def o1 (sw : Bool) : Nat := if sw then 2 else 0
def o2 (sw : Bool) : Nat := if sw then 0 else 2
def FinV (sw : Bool) (base B g1 g2 : Nat) (a1 : Option Addr) (c1 : Nat) (l1 : List O3) (a2 : Option Addr) (c2 : Nat) (l2 : List O3) (tol : Int) (W : World) (st : FS) : Prop :=
  match sw with
  | false => Fin6 base B g1 g2 a1 c1 l1 a2 c2 l2 tol W st
  | true => Fin6 base B g2 g1 a2 c2 l2 a1 c1 l1 tol W ⟨st.ur, st.ul, st.out⟩
section
variable {sw : Bool} {base B g1 g2 : Nat} {a1 : Option Addr} {c1 : Nat} {l1 : List O3} {a2 : Option Addr} {c2 : Nat} {l2 : List O3} {tol : Int} {W : World} {st : FS}
theorem FinV.cs (h : FinV sw base B g1 g2 a1 c1 l1 a2 c2 l2 tol W st) :
    (W.cell? ⟨B, o1 sw, none⟩ = some (.slice a1 l1.length c1) ∧ W.cell? ⟨B, o1 sw + 1, none⟩ = some (.slice (some ⟨g1, 0, none⟩) l1.length l1.length)) ∧ (W.cell? ⟨B, o2 sw, none⟩ = some (.slice a2 l2.length c2) ∧ W.cell? ⟨B, o2 sw + 1, none⟩ = some (.slice (some ⟨g2, 0, none⟩) l2.length l2.length)) ∧ W.cell? ⟨B, 4, none⟩ = some (.int .i64 tol) := by
  cases sw with
  | false => exact Fin6.cs h
  | true =>
    obtain ⟨h1, h2, h3⟩ := Fin6.cs h
    exact ⟨h2, h1, h3⟩
theorem FinV.below (h : FinV sw base B g1 g2 a1 c1 l1 a2 c2 l2 tol W st) {W' : World} (hB : Below W.heap.size W W') : FinV sw base B g1 g2 a1 c1 l1 a2 c2 l2 tol W' st := by
  cases sw <;> exact Fin6.below h hB
theorem FinV.kc (h : FinV sw base B g1 g2 a1 c1 l1 a2 c2 l2 tol W st) {W' : World} (hk : KC W W') (hb0 : ∀ b, b < base → W'.heap[b]? = W.heap[b]?) : FinV sw base B g1 g2 a1 c1 l1 a2 c2 l2 tol W' st := by
  cases sw <;> exact Fin6.kc h hk hb0
theorem FinV.left (h : FinV sw base B g1 g2 a1 c1 l1 a2 c2 l2 tol W st) : W.heap[g1]? = some (.cells (bRow st.ul) 4 (0, 0)) ∧ st.ul.length = l1.length := by
  cases sw with
  | false => exact ⟨Fin6.left h, Fin6.ll h⟩
  | true => exact ⟨Fin6.right h, Fin6.lr h⟩
theorem FinV.right (h : FinV sw base B g1 g2 a1 c1 l1 a2 c2 l2 tol W st) : W.heap[g2]? = some (.cells (bRow st.ur) 4 (0, 0)) ∧ st.ur.length = l2.length := by
  cases sw with
  | false => exact ⟨Fin6.right h, Fin6.lr h⟩
  | true => exact ⟨Fin6.left h, Fin6.ll h⟩
theorem FinV.d (h : FinV sw base B g1 g2 a1 c1 l1 a2 c2 l2 tol W st) : base ≤ B ∧ base ≤ g1 ∧ base ≤ g2 ∧ B ≠ g1 ∧ B ≠ g2 ∧ g1 ≠ g2 := by
  cases sw with
  | false => exact Fin6.d h
  | true =>
    obtain ⟨h1, h2, h3, h4, h5, h6⟩ := Fin6.d h
    exact ⟨h1, h3, h2, h5, h4, fun e => h6 e.symm⟩
theorem FinV.rds (h : FinV sw base B g1 g2 a1 c1 l1 a2 c2 l2 tol W st) : Rd (.sl openT) (fun b => b < base) W [.slice a1 l1.length c1] (l1.map O3.d) ∧ Rd (.sl openT) (fun b => b < base) W [.slice a2 l2.length c2] (l2.map O3.d) := by
  cases sw with
  | false => exact ⟨Fin6.rl h, Fin6.rr h⟩
  | true => exact ⟨Fin6.rr h, Fin6.rl h⟩
theorem FinV.lt (h : FinV sw base B g1 g2 a1 c1 l1 a2 c2 l2 tol W st) : base ≤ W.heap.size ∧ B < W.heap.size ∧ g1 < W.heap.size ∧ g2 < W.heap.size := by
  refine ⟨?_, ?_, blk_lt h.left.1, blk_lt h.right.1⟩
  · cases sw <;> exact Fin6.lt h
  · exact World.block_lt_of_cell? W ⟨B, 4, none⟩ h.cs.2.2
theorem FinV.am (h : FinV sw base B g1 g2 a1 c1 l1 a2 c2 l2 tol W st) : (∀ x ∈ l1, amtB x.n = true) ∧ (∀ x ∈ l2, amtB x.n = true) ∧ l1.length ≤ 60 ∧ l2.length ≤ 60 ∧ 0 ≤ tol ∧ tol ≤ 1000000000000 := by
  cases sw with
  | false => exact Fin6.am h
  | true =>
    obtain ⟨h1, h2, h3, h4, h5⟩ := Fin6.am h
    exact ⟨h2, h1, h4, h3, h5⟩
theorem FinV.setL (h : FinV sw base B g1 g2 a1 c1 l1 a2 c2 l2 tol W st) (i : Nat) (b : Bool) :
    FinV sw base B g1 g2 a1 c1 l1 a2 c2 l2 tol (W.setCell ⟨g1, i, none⟩ (.bool b)) ⟨st.ul.set i b, st.ur, st.out⟩ ∧ Gr (fun x => x = g1) W (W.setCell ⟨g1, i, none⟩ (.bool b)) := by
  cases sw with
  | false => exact Fin6.setL h i b
  | true => exact Fin6.setR h i b
theorem FinV.setR (h : FinV sw base B g1 g2 a1 c1 l1 a2 c2 l2 tol W st) (i : Nat) (b : Bool) :
    FinV sw base B g1 g2 a1 c1 l1 a2 c2 l2 tol (W.setCell ⟨g2, i, none⟩ (.bool b)) ⟨st.ul, st.ur.set i b, st.out⟩ ∧ Gr (fun x => x = g2) W (W.setCell ⟨g2, i, none⟩ (.bool b)) := by
  cases sw with
  | false => exact Fin6.setR h i b
  | true => exact Fin6.setL h i b
theorem FinV.row (h : FinV sw base B g1 g2 a1 c1 l1 a2 c2 l2 tol W st) : ∃ cs : Array Value, W.heap[B]? = some (.cells cs 80 (0, 0)) := by
  cases sw with
  | false => obtain ⟨⟨vo, hb, -⟩, -⟩ := h; exact ⟨_, hb⟩
  | true => obtain ⟨⟨vo, hb, -⟩, -⟩ := h; exact ⟨_, hb⟩
theorem FinV.outs (h : FinV sw base B g1 g2 a1 c1 l1 a2 c2 l2 tol W st) :
    ∃ oa ol oc S, W.cell? ⟨B, 5, none⟩ = some (.slice oa ol oc) ∧ Owns pairT 39 base S W (.slice oa ol oc) (st.out.map pairD) ∧ (∀ b, S b → (base ≤ b ∧ b ≠ B ∧ b ≠ g1 ∧ b ≠ g2) ∧ cellsAt W b) ∧ ∀ b, (Value.slice oa ol oc).ownBlock = some b → b ≠ B ∧ b ≠ g1 ∧ b ≠ g2 := by
  cases sw with
  | false => exact Fin6.outs h
  | true =>
    obtain ⟨oa, ol, oc, S, h1, h2, h3, h4⟩ := Fin6.outs h
    exact ⟨oa, ol, oc, S, h1, h2, fun b hb => ⟨⟨(h3 b hb).1.1, (h3 b hb).1.2.1, (h3 b hb).1.2.2.2, (h3 b hb).1.2.2.1⟩, (h3 b hb).2⟩, fun b hb => ⟨(h4 b hb).1, (h4 b hb).2.2, (h4 b hb).2.1⟩⟩
theorem FinV.push (h : FinV sw base B g1 g2 a1 c1 l1 a2 c2 l2 tol W st) {W' : World}
    {F : Nat → Prop} {S' : Nat → Prop} {v' : Value} {p : P2} (hg : Gr F W W') (hF : ∀ b, F b → base ≤ b ∧ b ≠ B ∧ b ≠ g1 ∧ b ≠ g2)
    (hO : Owns pairT 39 base S' W' v' ((st.out ++ [p]).map pairD)) (hS : ∀ b, S' b → (base ≤ b ∧ b ≠ B ∧ b ≠ g1 ∧ b ≠ g2) ∧ cellsAt W' b) (hv : ∀ b, v'.ownBlock = some b → b ≠ B ∧ b ≠ g1 ∧ b ≠ g2) :
    FinV sw base B g1 g2 a1 c1 l1 a2 c2 l2 tol (W'.setCell ⟨B, 5, none⟩ v') ⟨st.ul, st.ur, st.out ++ [p]⟩ := by
  cases sw with
  | false => exact Fin6.push h hg hF hO hS hv
  | true => exact Fin6.push h hg (fun b hb => ⟨(hF b hb).1, (hF b hb).2.1, (hF b hb).2.2.2, (hF b hb).2.2.1⟩) hO (fun b hb => ⟨⟨(hS b hb).1.1, (hS b hb).1.2.1, (hS b hb).1.2.2.2, (hS b hb).1.2.2.1⟩, (hS b hb).2⟩) (fun b hb => ⟨(hv b hb).1, (hv b hb).2.2, (hv b hb).2.1⟩)
end
/-! ### The pairs -/
theorem pairF (w : World) (xe xl : Int) (va : Option Addr) (vl vc : Nat) : Calls Try.prog 28 #[.agg #[.int .i64 xe, .int .i64 xl], .slice va vl vc] w fun e w' => ∃ b, e = .returned (.agg #[.slice (some ⟨b, 0, none⟩) 1 1, .slice va vl vc]) ∧ w.heap.size ≤ b ∧ w'.heap[b]? = some (.cells #[.int .i64 xe, .int .i64 xl] 41 (0, 0)) ∧ Below w.heap.size w w' := by
  go_enter Try.func28, Try.ntmps28
  go_wp2
  have hg : ((((w.alloc (.cells #[.int .i64 xe, .int .i64 xl] 41)).alloc (.cells #[.slice (some ⟨w.heap.size + 1 + 1, 0, none⟩) 1 1, .slice va vl vc] 39)).alloc (.cells #[.int .i64 xe, .int .i64 xl] 41))).heap[w.heap.size + 1]? = some (.cells #[.slice (some ⟨w.heap.size + 1 + 1, 0, none⟩) 1 1, .slice va vl vc] 39 (0, 0)) := alloc_old' (alloc_new' (by simp))
  refine bodyPost_ret (results_cell_row (P := Try.prog) rfl _ _ (w.heap.size + 1) 39 #[.slice (some ⟨w.heap.size + 1 + 1, 0, none⟩) 1 1, .slice va vl vc] (0, 0) _ (by kernel_rfl) hg Try.underlying39 rfl (by kernel_rfl)) rfl ?_
  exact ⟨w.heap.size + 1 + 1, rfl, by omega, alloc_new' (by simp), (((Below.refl w.heap.size w).alloc (Nat.le_refl _) _).alloc (by simp) _).alloc (by simp; omega) _⟩
theorem pairT' (w : World) (xe xl : Int) (va : Option Addr) (vl vc : Nat) : Calls Try.prog 29 #[.agg #[.int .i64 xe, .int .i64 xl], .slice va vl vc] w fun e w' => ∃ b, e = .returned (.agg #[.slice va vl vc, .slice (some ⟨b, 0, none⟩) 1 1]) ∧ w.heap.size ≤ b ∧ w'.heap[b]? = some (.cells #[.int .i64 xe, .int .i64 xl] 41 (0, 0)) ∧ Below w.heap.size w w' := by
  go_enter Try.func29, Try.ntmps29
  go_wp2
  have hg : ((((w.alloc (.cells #[.int .i64 xe, .int .i64 xl] 41)).alloc (.cells #[.slice va vl vc, .slice (some ⟨w.heap.size + 1 + 1, 0, none⟩) 1 1] 39)).alloc (.cells #[.int .i64 xe, .int .i64 xl] 41))).heap[w.heap.size + 1]? = some (.cells #[.slice va vl vc, .slice (some ⟨w.heap.size + 1 + 1, 0, none⟩) 1 1] 39 (0, 0)) := alloc_old' (alloc_new' (by simp))
  refine bodyPost_ret (results_cell_row (P := Try.prog) rfl _ _ (w.heap.size + 1) 39 #[.slice va vl vc, .slice (some ⟨w.heap.size + 1 + 1, 0, none⟩) 1 1] (0, 0) _ (by kernel_rfl) hg Try.underlying39 rfl (by kernel_rfl)) rfl ?_
  exact ⟨w.heap.size + 1 + 1, rfl, by omega, alloc_new' (by simp), (((Below.refl w.heap.size w).alloc (Nat.le_refl _) _).alloc (by simp) _).alloc (by simp; omega) _⟩
end Go.Proofs.Ytpobckedeffjmaa

/- Layer 28: a round of many. -/
set_option linter.unusedSimpArgs false
set_option maxRecDepth 50000
namespace Go.Proofs.Ytpobckedeffjmaa
open Go.RowKit Go
attribute [local go_sem] Oper.semAt_some

theorem bitT (m b : Nat) (hm : m < 4096) : (bits .and .u64 ((m : Int) / 2 ^ b) 1 == 1) = m.testBit b := by
  have h1 : ((m : Int) / 2 ^ b) = ((m / 2 ^ b : Nat) : Int) := by simp
  rw [h1, show (1 : Int) = ((1 : Nat) : Int) from rfl, bits_and_u64_nat _ _ (by have := Nat.div_le_self m (2 ^ b); omega) (by decide)]
  rw [Nat.testBit, Nat.shiftRight_eq_div_pow, Nat.and_comm]
  have h2 : 1 &&& m / 2 ^ b = 0 ∨ 1 &&& m / 2 ^ b = 1 := by rw [Nat.one_and_eq_mod_two]; omega
  rcases h2 with h2 | h2 <;> rw [h2] <;> rfl
def rfBody : Code → Option Code
  | .rangeFunc _ _ _ b => some b
  | .seq a b => (rfBody a).or (rfBody b)
  | .block _ a => rfBody a
  | .loop a => rfBody a
  | .cond _ a b => (rfBody a).or (rfBody b)
  | _ => none
noncomputable def manyBody : Code := ((Try.f27.body).bind rfBody).getD .skip

/-- The row of what has been found is none of the boxes. -/
def OV (B N : Nat) (W : World) : Prop := ∀ a l c, W.cell? ⟨B, 5, none⟩ = some (.slice a l c) → ∀ b, (Value.slice a l c).ownBlock = some b → b < N ∨ N + 4 ≤ b
theorem OV.of_cell {B N : Nat} {W W' : World} (h : OV B N W) (hc : W'.heap[B]? = W.heap[B]?) : OV B N W' := fun a l c he => h a l c (by
  rw [← he]; unfold World.cell?; simp only [hc])
theorem KN.of_below' {w w' : World} (h : Below w.heap.size w w') : KN w w' := KN.of_below h
theorem KN.of_gr {F : Nat → Prop} {W W' : World} (hg : Gr F W W') (hF : ∀ b, F b → cellsAt W b) : KN W W' := fun b o ho hc =>
  (hg.block _ (Array.getElem?_eq_some_iff.1 ho).1 (fun e => by
    obtain ⟨o', h1, h2⟩ := hF b e
    rw [ho] at h1; cases h1; rw [hc] at h2; cases h2)).trans ho
/-- What a pair's maker answers. -/
def PairC (sw : Bool) (gp : Nat) : Prop := ∀ (w : World) (xe xl : Int) (va : Option Addr) (vl vc : Nat), Calls Try.prog gp #[.agg #[.int .i64 xe, .int .i64 xl], .slice va vl vc] w fun e w' =>
  ∃ b a1 l1 c1 a2 l2 c2, e = .returned (.agg #[.slice a1 l1 c1, .slice a2 l2 c2]) ∧ (if sw then Value.slice a1 l1 c1 = .slice va vl vc ∧ Value.slice a2 l2 c2 = .slice (some ⟨b, 0, none⟩) 1 1 else Value.slice a2 l2 c2 = .slice va vl vc ∧ Value.slice a1 l1 c1 = .slice (some ⟨b, 0, none⟩) 1 1) ∧
    w.heap.size ≤ b ∧ w'.heap[b]? = some (.cells #[.int .i64 xe, .int .i64 xl] 41 (0, 0)) ∧ Below w.heap.size w w'
theorem pairC_F : PairC false 28 := fun w xe xl va vl vc => (pairF w xe xl va vl vc).mono (by
  rintro e w' ⟨b, rfl, h1, h2, h3⟩
  exact ⟨b, _, _, _, _, _, _, rfl, by simp, h1, h2, h3⟩)
theorem pairC_T : PairC true 29 := fun w xe xl va vl vc => (pairT' w xe xl va vl vc).mono (by
  rintro e w' ⟨b, rfl, h1, h2, h3⟩
  exact ⟨b, _, _, _, _, _, _, rfl, by simp, h1, h2, h3⟩)
/-- The memory of a round of many. -/
structure MC (sw : Bool) (base B g1 g2 : Nat) (a1 : Option Addr) (c1 : Nat) (l1 : List O3) (a2 : Option Addr) (c2 : Nat) (l2 : List O3) (tol : Int) (gp N bi bx bc i : Nat) (xe xl xn : Int) (ca : Option Addr) (cc : Nat) (cs : List Nat) (W : World) (so : FS) : Prop where
  fin : FinV sw base B g1 g2 a1 c1 l1 a2 c2 l2 tol W so
  cells : Cells [(⟨N, 0, none⟩, .pointer (some ⟨B, 0, none⟩)), (⟨N + 1, 0, none⟩, .pointer (some ⟨B, o1 sw, none⟩)), (⟨N + 2, 0, none⟩, .pointer (some ⟨B, o2 sw, none⟩)), (⟨N + 3, 0, none⟩, .func (.func gp) #[] #[]), (⟨bi, 0, none⟩, .int .i64 i), (⟨bx, 0, none⟩, .int .i64 xe), (⟨bx, 1, none⟩, .int .i64 xl), (⟨bx, 2, none⟩, .int .i64 xn), (⟨bc, 0, none⟩, .slice ca cs.length cc)] W
  cand : ∀ j (hj : j < cs.length), ∃ gc, ca = some ⟨gc, 0, none⟩ ∧ N + 4 ≤ gc ∧ gc < W.heap.size ∧ W.cell? ⟨gc, j, none⟩ = some (.int .i64 (cs[j] : Int))
  n : B < N ∧ g1 < N ∧ g2 < N ∧ base ≤ N ∧ N + 4 ≤ bi ∧ N + 4 ≤ bx ∧ N + 4 ≤ bc
  cl : cs.length ≤ 12 ∧ ∀ k ∈ cs, k < l2.length
  ov : OV B N W
section
variable {sw : Bool} {base B g1 g2 : Nat} {a1 : Option Addr} {c1 : Nat} {l1 : List O3} {a2 : Option Addr} {c2 : Nat} {l2 : List O3} {tol : Int} {gp N bi bx bc i : Nat} {xe xl xn : Int} {ca : Option Addr} {cc : Nat} {cs : List Nat} {W W' : World} {so : FS}
theorem MC.below (h : MC sw base B g1 g2 a1 c1 l1 a2 c2 l2 tol gp N bi bx bc i xe xl xn ca cc cs W so) (hB : Below W.heap.size W W') : MC sw base B g1 g2 a1 c1 l1 a2 c2 l2 tol gp N bi bx bc i xe xl xn ca cc cs W' so :=
  ⟨h.fin.below hB, h.cells.below hB, fun j hj => by
    obtain ⟨gc, h1, h2, h3, h4⟩ := h.cand j hj
    exact ⟨gc, h1, h2, Nat.lt_of_lt_of_le h3 hB.size, cell_below h4 hB⟩, h.n, h.cl, h.ov.of_cell (hB.block _ h.fin.lt.2.1)⟩
theorem MC.below' (h : MC sw base B g1 g2 a1 c1 l1 a2 c2 l2 tol gp N bi bx bc i xe xl xn ca cc cs W so) (hB : Below W.heap.size W W') : MC sw base B g1 g2 a1 c1 l1 a2 c2 l2 tol gp N bi bx bc i xe xl xn ca cc cs W' so := h.below hB
/-- Only older blocks have turned. -/
theorem MC.gr (h : MC sw base B g1 g2 a1 c1 l1 a2 c2 l2 tol gp N bi bx bc i xe xl xn ca cc cs W so) {F : Nat → Prop} (hg : Gr F W W') (hF : ∀ b, F b → b < N) {so' : FS} (hf : FinV sw base B g1 g2 a1 c1 l1 a2 c2 l2 tol W' so') (hov : OV B N W') : MC sw base B g1 g2 a1 c1 l1 a2 c2 l2 tol gp N bi bx bc i xe xl xn ca cc cs W' so' := by
  obtain ⟨h1, ⟨e0, e1, e2, e3, e4, e5, e6, e7, e8, -⟩, h3, h4, h5, h6⟩ := h
  obtain ⟨n0, n1, n2, n3, n4, n5, n6⟩ := h4
  refine ⟨hf, ⟨hg.cell e0 (fun e => ?_), hg.cell e1 (fun e => ?_), hg.cell e2 (fun e => ?_), hg.cell e3 (fun e => ?_), hg.cell e4 (fun e => ?_), hg.cell e5 (fun e => ?_), hg.cell e6 (fun e => ?_), hg.cell e7 (fun e => ?_), hg.cell e8 (fun e => ?_), trivial⟩, fun j hj => ?_, ⟨n0, n1, n2, n3, n4, n5, n6⟩, h5, hov⟩
  all_goals try (have := hF _ e; simp only at this; omega)
  obtain ⟨gc, k1, k2, k3, k4⟩ := h3 j hj
  exact ⟨gc, k1, k2, Nat.lt_of_lt_of_le k3 hg.size, hg.cell k4 (fun e => by have := hF _ e; simp only at this; omega)⟩
end
/-- So far no mask fits. -/
def IM (x : Int) (r : List O3) (cs : List Nat) (tol : Int) (wq : World) (pre : List Nat) (W : World) : Prop := Below wq.heap.size wq W ∧ ∀ m ∈ pre, unfit x r cs tol m = true
/-- The last mask fits, and has been taken. -/
def IX (sw : Bool) (base B g1 g2 : Nat) (a1 : Option Addr) (c1 : Nat) (l1 : List O3) (a2 : Option Addr) (c2 : Nat) (l2 : List O3) (tol : Int) (N : Nat) (xe xl xn : Int) (cs : List Nat) (i : Nat) (so : FS) (wq : World) (id : Nat) (ms : List Nat) (W : World) : Prop :=
  id = 4 ∧ (∃ pre m, ms = pre ++ [m] ∧ (∀ y ∈ pre, unfit xn l2 cs tol y = true) ∧ unfit xn l2 cs tol m = false ∧
    FinV sw base B g1 g2 a1 c1 l1 a2 c2 l2 tol W ⟨so.ul.set i true, setAll so.ur (bitsL cs m), so.out ++ [prP sw ⟨xe, xl⟩ (refsM l2 (bitsL cs m))]⟩) ∧
  Gr (fun b => (base ≤ b ∧ b < N) ∨ N + 4 ≤ b) wq W ∧ KN wq W ∧ OV B N W
set_option maxHeartbeats 4000000 in
theorem many_body {sw : Bool} {base B g1 g2 : Nat} {a1 : Option Addr} {c1 : Nat} {l1 : List O3} {a2 : Option Addr} {c2 : Nat} {l2 : List O3} {tol : Int} {gp N bi bx bc i : Nat} {xe xl xn : Int} {ca : Option Addr} {cc : Nat} {cs : List Nat} {so : FS} (wq : World)
    (hM : MC sw base B g1 g2 a1 c1 l1 a2 c2 l2 tol gp N bi bx bc i xe xl xn ca cc cs wq so)
    (l n : Nat) (pre : List Nat) (m : Nat) (W : World) (hm : m < 4096) (hI : IM xn l2 cs tol wq pre W) (hx : amtB xn = true) (hil : i < l1.length) (hxo : R2.ok ⟨xe, xl⟩) (hol : so.out.length ≤ 3000)
    (eg : ∀ args w, (callFunc gp args).run Try.prog w = .ok (.enter gp args) w) (hpr : PairC sw gp)
    {u0 u1 u2 u3 u11 u12 u14 u15 u16 u17 u18 u19 u20 u21 u22 u23 u24 u25 u26 u27 u28 u29 u30 u31 u32 u33 u34 u35 u36 u37 u38 u39 u40 u41 u42 u43 u44 u45 u46 u47 u48 u49 u50 u51 u52 u53 u54 u55 u56 u57 u58 u59 u60 u61 u62 u63 u64 u65 u66 u67 u68 u69 u70 u71 u72 u73 u74 u76 u77 u78 u79 u80 u81 u82 u83 u84 u85 u86 u87 u88 u89 u90 u91 u92 u93 u94 u95 u96 u97 u98 u99 u100 u101 u102 u103 u104 u105 u106 u107 u108 u109 u110 u111 u112 u113 u114 u115 u116 u117 u118 u119 u120 u121 u122 u123 u124 u125 u126 u127 u128 u129 u130 u131 u132 u133 u134 u135 u136 u137 u138 u139 u140 u141 u142 u143 u144 u145 u146 u147 u148 u149 u150 u151 u152 u153 u154 u155 u156 u157 u158 : Value} :
    manyBody.wpIn (Fence.wide.inRound l) n Try.prog (postL (IM xn l2 cs tol wq) (IX sw base B g1 g2 a1 c1 l1 a2 c2 l2 tol N xe xl xn cs i so wq) (pre ++ [m]) W) { tmps := #[u0, u1, u2, u3, .pointer (some ⟨N, 0, none⟩), .pointer (some ⟨N + 1, 0, none⟩), .pointer (some ⟨N + 2, 0, none⟩), .pointer (some ⟨N + 3, 0, none⟩), .pointer (some ⟨bi, 0, none⟩), .pointer (some ⟨bx, 0, none⟩), .pointer (some ⟨bc, 0, none⟩), u11, u12, .int .u64 (m : Int), u14, u15, u16, u17, u18, u19, u20, u21, u22, u23, u24, u25, u26, u27, u28, u29, u30, u31, u32, u33, u34, u35, u36, u37, u38, u39, u40, u41, u42, u43, u44, u45, u46, u47, u48, u49, u50, u51, u52, u53, u54, u55, u56, u57, u58, u59, u60, u61, u62, u63, u64, u65, u66, u67, u68, u69, u70, u71, u72, u73, u74, .int .u64 (m : Int), u76, u77, u78, u79, u80, u81, u82, u83, u84, u85, u86, u87, u88, u89, u90, u91, u92, u93, u94, u95, u96, u97, u98, u99, u100, u101, u102, u103, u104, u105, u106, u107, u108, u109, u110, u111, u112, u113, u114, u115, u116, u117, u118, u119, u120, u121, u122, u123, u124, u125, u126, u127, u128, u129, u130, u131, u132, u133, u134, u135, u136, u137, u138, u139, u140, u141, u142, u143, u144, u145, u146, u147, u148, u149, u150, u151, u152, u153, u154, u155, u156, u157, u158], defers := [] } W := by
  unfold manyBody
  simp only [Try.f27, Option.bind, rfBody, Option.or, Option.getD]
  have hMW := hM.below' hI.1
  obtain ⟨e0, e1, e2, e3, e4, e5, e6, e7, e8, -⟩ := hMW.cells
  obtain ⟨hx0, hx1, hx2⟩ := amt_bounds hx
  have hcl := hMW.cl.1
  have HM := Lib.hid hMW
  have HI := Lib.hid hI
  have Hm := Lib.hid hm
  have HIL := Lib.hid hil
  have HPR := Lib.hid hpr
  have HXO := Lib.hid hxo
  have HOL := Lib.hid hol
  clear hpr hxo hol
  have hiI : (i : Int) < (l1.length : Int) := by omega
  clear hM hI hx hMW hm hil e0 e1 e3 e4 e5 e6
  gi_wp2_with fail
  gi_loopw [14, 15, 80] (fun sv rv iv wr => ∃ (b : Nat), b ≤ cs.length ∧ iv = .int .i64 (b : Int) ∧ sv = .int .i64 (sumM xn l2 (bitA cs m b)) ∧ Owns refT 41 W.heap.size (fun _ => False) wr rv ((refsM l2 (bitA cs m b)).map R2.d) ∧ Below W.heap.size W wr ∧ -(1000000000000 * ((b : Int) + 1)) ≤ sumM xn l2 (bitA cs m b) ∧ sumM xn l2 (bitA cs m b) ≤ 1000000000000 * ((b : Int) + 1)) (fun _ _ iv _ => cs.length - (intOf iv).toNat)
  case atStart => exact ⟨0, Nat.zero_le _, rfl, rfl, Owns.nil _ _ _ _, Below.refl _ _, by simp only [bitA, sumM, List.range_zero, List.filter_nil, List.map_nil, List.foldl_nil]; omega, by simp only [bitA, sumM, List.range_zero, List.filter_nil, List.map_nil, List.foldl_nil]; omega⟩
  case round =>
    obtain ⟨b, hb, rfl, rfl, hO, hB, hs1, hs2⟩ := hrel
    have HO := Lib.hid hO
    have HB := Lib.hid hB
    obtain ⟨av, lv, cv, rfl, hlv, -⟩ := hO.slice
    rw [List.length_map, refsM, List.length_map] at hlv
    have hlv2 : lv ≤ 12 := by rw [hlv]; exact Nat.le_trans (bitA_len cs m b) (Nat.le_trans hb hcl)
    have HMR := HM.out.below hB
    have e2 := cell_below e2 hB
    have e7 := cell_below e7 hB
    have e8 := cell_below e8 hB
    by_cases hbl : b < cs.length
    · have hbI : (b : Int) < (cs.length : Int) := by omega
      obtain ⟨gc, rfl, -, -, hcj⟩ := HMR.cand b hbl
      have hck := HMR.cl.2 cs[b] (List.getElem_mem hbl)
      have HGB := Lib.hid (show cs[b]?.getD 0 = cs[b] from by simp [hbl])
      obtain ⟨k, hk⟩ : ∃ k, cs[b] = k := ⟨_, rfl⟩
      rw [hk] at hcj hck HGB
      obtain ⟨⟨q0, q1⟩, ⟨q2, q3⟩, q4⟩ := HMR.fin.cs
      obtain ⟨yb, yo, rfl, -, n0, n1, n2, hyo⟩ := open_at HMR.fin.rds.2 k hck
      rw [lat_get hck] at n0 n1 n2 hyo
      have hya := HMR.fin.am.2.1 l2[k] (List.getElem_mem hck)
      rw [lat_get hck] at hya
      obtain ⟨y, hy⟩ : ∃ y, lat l2 k = y := ⟨_, rfl⟩
      rw [hy] at n0 n1 n2 hyo hya
      have HY := Lib.hid hy
      have HYO := Lib.hid hyo
      obtain ⟨⟨ye, yl⟩, yn⟩ := y
      obtain ⟨hy0, hy1, hy2⟩ := amt_bounds hya
      simp only at n0 n1 n2 hy0 hy1 hy2
      have HMR := Lib.hid HMR
      have HBL := Lib.hid hbl
      have hkI : (k : Int) < (l2.length : Int) := by omega
      clear hbl hyo hya hy hO hB hk
      have hbt := bitT m b Hm.out
      cases htb : m.testBit b with
      | false =>
        rw [htb] at hbt
        have HBA := Lib.hid (bitA_no (cs := cs) htb)
        clear htb
        gi_wp2_with fail
        refine ⟨⟨b + 1, HBL.out, by simp, by rw [HBA.out], by rw [HBA.out]; exact HO.out, HB.out, by rw [HBA.out]; omega, by rw [HBA.out]; omega⟩, ?_⟩
        have := HBL.out; simp only [intOf]; omega
      | true =>
        rw [htb] at hbt
        have HBA := Lib.hid ((bitA_yes (cs := cs) htb).trans (by rw [HGB.out]))
        have HHL := Lib.hid (show (refsM l2 (bitA cs m b)).length ≤ 12 from by rw [refsM, List.length_map]; exact Nat.le_trans (bitA_len cs m b) (by have := HBL.out; omega))
        clear htb
        gi_wp2_with (gi_at_builtin; go_must (refine wpListIn_app _ rfl _ _ 37 rfl (e := refT) (te := 41) info_ref Try.underlying37 rfl (by decide) (v := .slice av lv cv) rfl (Owns.alloc HO.out _) (by have := HB.out.size; simp only [World.size_alloc]; omega) rfl (ys := [R2.d ⟨ye, yl⟩]) (Src.new _ [_, _] _ _ _) (RdL.one (e := refT) (ref_rd (r := ⟨ye, yl⟩) HYO.out.1)) (by have := HHL.out; simp only [List.length_map, List.length_cons, List.length_nil]; omega) (by have := HHL.out; simp only [List.length_map, List.length_cons, List.length_nil]; omega) ?_); intro v' w1 O1 g1 _ hob; have HO1 := Lib.hid O1; have HG1 := Lib.hid g1; clear O1 g1 hob)
        have hsum : sumM xn l2 (bitA cs m (b + 1)) = sumM xn l2 (bitA cs m b) + yn := by rw [HBA.out, sumM_snoc, HY.out]
        refine ⟨⟨b + 1, HBL.out, by simp, ?_, ?_, ?_, by rw [hsum]; omega, by rw [hsum]; omega⟩, ?_⟩
        · rw [hsum]
        · rw [HBA.out, refsM, List.map_append, List.map_append]
          simp only [List.map_cons, List.map_nil, HY.out]
          exact HO1.out
        · exact (HB.out.alloc HB.out.size _).grown HG1.out (by have := HB.out.size; simp only [World.size_alloc]; omega) (fun c hc => (HO.out.own c hc).1)
        · have := HBL.out; simp only [intOf]; omega
    · obtain ⟨wA, rfl⟩ : ∃ q, q = wr := ⟨_, rfl⟩
      obtain rfl : b = cs.length := by omega
      have hbI : ¬ ((cs.length : Nat) : Int) < (cs.length : Int) := by omega
      obtain ⟨⟨q0, q1⟩, ⟨q2, q3⟩, q4⟩ := HMR.fin.cs
      obtain ⟨e0, e1, -, e3, e4, e5, e6, -⟩ := HMR.cells
      obtain ⟨ss, hss⟩ : ∃ q, szI (sumM xn l2 (bitA cs m cs.length)) = q := ⟨_, rfl⟩
      have HSS := Lib.hid hss
      have HUF := Lib.hid (show unfit xn l2 cs tol m = decide (tol < ss) from by unfold unfit bitsL; rw [hss])
      have HMR := Lib.hid HMR
      have hC0 : Cells [(⟨N, 0, none⟩, .pointer (some ⟨B, 0, none⟩)), (⟨B, 4, none⟩, .int .i64 tol)] wA := ⟨e0, q4, trivial⟩
      clear hbl hB hO hss hb hlv hlv2
      gi_wp2_with fail
      refine wpIn_region_T (Cells [(⟨N, 0, none⟩, .pointer (some ⟨B, 0, none⟩)), (⟨B, 4, none⟩, .int .i64 tol)]) (fun _ => false) (by kernel_rfl) (by kernel_rfl) (fun _ _ h => h) ?_
      have hSss1 := Cells.drew hC0
      have hB_0_s1 : Below wA.heap.size wA wA.drew := below_drew _
      generalize wA.drew = s1 at hSss1 hB_0_s1 ⊢
      have hB_s1_s1 := Below.refl s1.heap.size s1
      refine wpAnyT_pure (i := 0) (v := ?_) rfl (by kernel_rfl) (by kernel_rfl) (by kernel_rfl) (fun _ _ _ h => h) (by rfl) ?_ ?_
      rotate_left
      · intro w; go_simp; try with_reducible rfl
      simp only [Act.put, rgA, rgB, rgC, rgD, rgE, rgF]
      refine wpAnyT_loadW (i := 2) (v := ?_) rfl (by kernel_rfl) (by kernel_rfl) (by kernel_rfl) (by kernel_rfl) (by kernel_rfl) (fun _ _ _ h => h) (Or.inl ⟨by rfl, ?_⟩) hSss1 ?_
      rotate_left
      · intro w hSw; obtain ⟨e0, e1, -⟩ := hSw; go_simp; try with_reducible rfl
      simp only [Act.put, rgA, rgB, rgC, rgD, rgE, rgF]
      refine wpAnyT_pure (i := 3) (v := ?_) rfl (by kernel_rfl) (by kernel_rfl) (by kernel_rfl) (fun _ _ _ h => h) (by rfl) ?_ ?_
      rotate_left
      · intro w; go_simp; try with_reducible rfl
      simp only [Act.put, rgA, rgB, rgC, rgD, rgE, rgF]
      refine wpAnyT_pure (i := 4) (v := ?_) rfl (by kernel_rfl) (by kernel_rfl) (by kernel_rfl) (fun _ _ _ h => h) (by rfl) ?_ ?_
      rotate_left
      · intro w; go_simp; try with_reducible rfl
      simp only [Act.put, rgA, rgB, rgC, rgD, rgE, rgF]
      refine wpAnyT_loadW (i := 5) (v := ?_) rfl (by kernel_rfl) (by kernel_rfl) (by kernel_rfl) (by kernel_rfl) (by kernel_rfl) (fun _ _ _ h => h) (Or.inl ⟨by rfl, ?_⟩) hSss1 ?_
      rotate_left
      · intro w hSw; obtain ⟨e0, e1, -⟩ := hSw; go_simp; try with_reducible rfl
      simp only [Act.put, rgA, rgB, rgC, rgD, rgE, rgF]
      refine wpAnyT_one (i := 1) (by kernel_rfl) rfl (by rfl) ?_
      refine wp_enter (f := 40) (args := #[.int .i64 (sumM xn l2 (bitA cs m cs.length))]) (by go_simp) (size28 _ _ (by omega)) ?_
      rintro e y1 ⟨rfl, hw9⟩
      rw [hw9, HSS.out]
      clear hw9
      refine ⟨_, rfl, fun _ h => h, ?_⟩
      try simp only [Act.put, rgA, rgB, rgC, rgD, rgE, rgF]
      refine wpAnyT_pure (i := 6) (v := ?_) rfl (by kernel_rfl) (by kernel_rfl) (by kernel_rfl) (fun _ _ _ h => h) (by rfl) ?_ ?_
      rotate_left
      · intro w; go_simp; try with_reducible rfl
      simp only [Act.put, rgA, rgB, rgC, rgD, rgE, rgF]
      refine wpAnyT_done (by kernel_rfl) ?_ _
      obtain ⟨wE, rfl⟩ : ∃ q, q = s1 := ⟨_, rfl⟩
      have HBE := Lib.hid (show Below W.heap.size W wE from HB.out.trans (hB_0_s1.mono HB.out.size))
      have HBR := Lib.hid hB_0_s1
      clear hSss1 hB_0_s1 hB_s1_s1
      by_cases hun : tol < ss
      · have HU := Lib.hid (show unfit xn l2 cs tol m = true from by rw [HUF.out, decide_eq_true hun])
        gi_wp2_with fail
        refine ⟨HBE.out, HI.out.1.trans (HBE.out.mono HI.out.1.size), fun y hy => ?_⟩
        rcases List.mem_append.1 hy with hy | hy
        · exact HI.out.2 y hy
        · rw [List.mem_singleton.1 hy]; exact HU.out
      have HU := Lib.hid (show unfit xn l2 cs tol m = false from by rw [HUF.out, decide_eq_false hun])
      -- the mask fits
      have hME := HMR.out.below HBR.out
      obtain ⟨⟨q0, q1⟩, -⟩ := hME.fin.cs
      obtain ⟨-, e1, -, -, e4, -⟩ := hME.cells
      have hC0 : Cells [(⟨N + 1, 0, none⟩, .pointer (some ⟨B, o1 sw, none⟩)), (⟨B, o1 sw + 1, none⟩, .slice (some ⟨g1, 0, none⟩) l1.length l1.length), (⟨bi, 0, none⟩, .int .i64 (i : Int))] wE := ⟨e1, q1, e4, trivial⟩
      have HME := Lib.hid hME
      clear hME q0 q1 e1 e4
      gi_wp2_with fail
      refine wpIn_region_T (Cells [(⟨N + 1, 0, none⟩, .pointer (some ⟨B, o1 sw, none⟩)), (⟨B, o1 sw + 1, none⟩, .slice (some ⟨g1, 0, none⟩) l1.length l1.length), (⟨bi, 0, none⟩, .int .i64 (i : Int))]) (fun i => i == 6) (by kernel_rfl) (by kernel_rfl) (fun _ _ h => h) ?_
      have hSss2 := Cells.drew hC0
      have hB_0_s2 : Below wE.heap.size wE wE.drew := below_drew _
      generalize wE.drew = s2 at hSss2 hB_0_s2 ⊢
      have hB_s2_s2 := Below.refl s2.heap.size s2
      refine wpAnyT_loadW (i := 0) (v := ?_) rfl (by kernel_rfl) (by kernel_rfl) (by kernel_rfl) (by kernel_rfl) (by kernel_rfl) (fun _ _ _ h => h) (Or.inl ⟨by rfl, ?_⟩) hSss2 ?_
      rotate_left
      · intro w hSw; obtain ⟨e0, e1, e2, -⟩ := hSw; go_simp; try with_reducible rfl
      simp only [Act.put, rgA, rgB, rgC, rgD, rgE, rgF]
      refine wpAnyT_pure (i := 1) (v := ?_) rfl (by kernel_rfl) (by kernel_rfl) (by kernel_rfl) (fun _ _ _ h => h) (by rfl) ?_ ?_
      rotate_left
      · intro w; go_simp; try with_reducible rfl
      simp only [Act.put, rgA, rgB, rgC, rgD, rgE, rgF]
      refine wpAnyT_pure (i := 2) (v := ?_) rfl (by kernel_rfl) (by kernel_rfl) (by kernel_rfl) (fun _ _ _ h => h) (by rfl) ?_ ?_
      rotate_left
      · intro w; go_simp; try with_reducible rfl
      simp only [Act.put, rgA, rgB, rgC, rgD, rgE, rgF]
      refine wpAnyT_loadW (i := 3) (v := ?_) rfl (by kernel_rfl) (by kernel_rfl) (by kernel_rfl) (by kernel_rfl) (by kernel_rfl) (fun _ _ _ h => h) (Or.inl ⟨by rfl, ?_⟩) hSss2 ?_
      rotate_left
      · intro w hSw; obtain ⟨e0, e1, e2, -⟩ := hSw; go_simp; try with_reducible rfl
      simp only [Act.put, rgA, rgB, rgC, rgD, rgE, rgF]
      refine wpAnyT_loadW (i := 4) (v := ?_) rfl (by kernel_rfl) (by kernel_rfl) (by kernel_rfl) (by kernel_rfl) (by kernel_rfl) (fun _ _ _ h => h) (Or.inl ⟨by rfl, ?_⟩) hSss2 ?_
      rotate_left
      · intro w hSw; obtain ⟨e0, e1, e2, -⟩ := hSw; go_simp; try with_reducible rfl
      simp only [Act.put, rgA, rgB, rgC, rgD, rgE, rgF]
      refine wpAnyT_pure (i := 5) (v := ?_) rfl (by kernel_rfl) (by kernel_rfl) (by kernel_rfl) (fun _ _ _ h => h) (by rfl) ?_ ?_
      rotate_left
      · intro w; go_simp; try with_reducible rfl
      simp only [Act.put, rgA, rgB, rgC, rgD, rgE, rgF]
      refine wpAnyT_one (i := 6) (by kernel_rfl) rfl (by rfl) ?_
      have hMS := HME.out.below hB_0_s2
      have hcl6 := bRow_at hMS.fin.left.1 (k := i) (by rw [hMS.fin.left.2]; exact HIL.out)
      have hfl6 := blk_frozen hMS.fin.left.1 i
      obtain ⟨HFL, hgL⟩ := hMS.fin.setL i true
      refine wp_store1 (w' := (s2).setCell ⟨g1, i, none⟩ (.bool true)) 4 (.tmp 124) (.const (.bool true)) rfl ⟨g1, i, none⟩ (.bool true) (by kernel_rfl) (by kernel_rfl) (by go_simp) ?_
      generalize (s2).setCell ⟨g1, i, none⟩ (.bool true) = w103 at HFL hgL ⊢
      have hd := hMS.fin.d
      have HMN := Lib.hid (hMS.gr hgL (fun b e => by rw [e]; exact hMS.n.2.1) HFL (hMS.ov.of_cell (hgL.block _ hMS.fin.lt.2.1 (fun e => hd.2.2.2.1 e))))
      have HGN := Lib.hid ((Gr.of_below (F := fun x => x = g1) (hB_0_s2)).trans hgL (fun _ e => .inl e))
      clear hcl6 hfl6 HFL hgL hMS hd
      refine ⟨fun h => absurd h (by decide), ?_⟩
      try simp only [Act.put, rgA, rgB, rgC, rgD, rgE, rgF]
      refine wpAnyT_done (by kernel_rfl) ?_ _
      obtain ⟨wF, rfl⟩ : ∃ q, q = w103 := ⟨_, rfl⟩
      clear hSss2 hB_0_s2 hB_s2_s2
      obtain ⟨-, -, e2, -, -, -, -, -, e8, -⟩ := HMN.out.cells
      gi_wp2_with fail
      clear e2 e8
      gi_loopw [127] (fun iv wr => ∃ (b : Nat), b ≤ cs.length ∧ iv = .int .i64 (b : Int) ∧ FinV sw base B g1 g2 a1 c1 l1 a2 c2 l2 tol wr ⟨so.ul.set i true, setAll so.ur (bitA cs m b), so.out⟩ ∧ Gr (fun x => x = g2) wF wr) (fun iv _ => cs.length - (intOf iv).toNat)
      case atStart => exact ⟨0, Nat.zero_le _, rfl, HMN.out.fin, Gr.refl _ _⟩
      case round =>
        obtain ⟨b, hb, rfl, hFb, hGb⟩ := hrel
        have hd := hFb.d
        have hMb := HMN.out.gr hGb (fun x e => by rw [e]; exact HMN.out.n.2.2.1) hFb (HMN.out.ov.of_cell (hGb.block _ HMN.out.fin.lt.2.1 (fun e => hd.2.2.2.2.1 e)))
        have HFb := Lib.hid hFb
        have HGb := Lib.hid hGb
        obtain ⟨e0, -, e2, e3, -, e5, e6, -, e8, -⟩ := hMb.cells
        obtain ⟨-, ⟨q2, q3⟩, q4⟩ := hMb.fin.cs
        by_cases hbl : b < cs.length
        · have hbI : (b : Int) < (cs.length : Int) := by omega
          obtain ⟨gc, rfl, -, -, hcj⟩ := hMb.cand b hbl
          have hck := hMb.cl.2 cs[b] (List.getElem_mem hbl)
          have HGB := Lib.hid (show cs[b]?.getD 0 = cs[b] from by simp [hbl])
          obtain ⟨k, hk⟩ : ∃ k, cs[b] = k := ⟨_, rfl⟩
          rw [hk] at hcj hck HGB
          have hcu := bRow_at hFb.right.1 (k := k) (by rw [hFb.right.2]; exact hck)
          have hfu := blk_frozen hFb.right.1 k
          have hset := Lib.hid (hFb.setR k true)
          have HBL := Lib.hid hbl
          have hkI : (k : Int) < (l2.length : Int) := by omega
          clear hbl hFb hGb hMb hb hk e0 e3 e5 e6 q4
          have hbt := bitT m b Hm.out
          cases htb : m.testBit b with
          | false =>
            rw [htb] at hbt
            have HBA := Lib.hid (bitA_no (cs := cs) htb)
            clear htb
            gi_wp2_with fail
            refine ⟨⟨b + 1, HBL.out, by simp, by rw [HBA.out]; exact HFb.out, HGb.out⟩, ?_⟩
            have := HBL.out; simp only [intOf]; omega
          | true =>
            rw [htb] at hbt
            have HBA := Lib.hid ((bitA_yes (cs := cs) htb).trans (by rw [HGB.out]))
            clear htb
            gi_wp2_with fail
            refine ⟨⟨b + 1, HBL.out, by simp, by rw [HBA.out, setAll_snoc]; exact hset.out.1, HGb.out.trans hset.out.2 (fun _ e => .inl e)⟩, ?_⟩
            have := HBL.out; simp only [intOf]; omega
        · obtain rfl : b = cs.length := by omega
          have hbI : ¬ ((cs.length : Nat) : Int) < (cs.length : Int) := by omega
          obtain ⟨wG, rfl⟩ : ∃ q, q = wr := ⟨_, rfl⟩
          obtain ⟨oa, ol, oc, SO, q5, hO5, hSO, hvO⟩ := HM.out.fin.outs
          have hltW := HM.out.fin.lt
          have hnW := HM.out.n
          have HOV := Lib.hid (HM.out.ov _ _ _ q5)
          have HOW := Lib.hid hO5.own
          -- what has been found lies as it lay
          have HGW := Lib.hid (show Gr (fun x => x = g1 ∨ x = g2) W wG from ((((Gr.of_below (F := fun x => x = g1 ∨ x = g2) HB.out).trans (Gr.of_below (F := fun x => x = g1 ∨ x = g2) HBR.out) (fun _ e => .inl e)).trans HGN.out (fun _ e => .inl (.inl e))).trans HGb.out (fun _ e => .inl (.inr e))))
          have HGA := Lib.hid (show Gr (fun x => x = g1 ∨ x = g2) wA wG from ((Gr.of_below (F := fun x => x = g1 ∨ x = g2) HBR.out).trans HGN.out (fun _ e => .inl (.inl e))).trans HGb.out (fun _ e => .inl (.inr e)))
          have q5 := HGW.out.cell q5 (fun e => by rcases e with e | e <;> (simp only at e; omega))
          have hOG := hO5.gr HGW.out (fun b hb e => by have := (hSO b hb).1; rcases e with e | e <;> omega) (fun b hb e => by have := hvO b hb; rcases e with e | e <;> omega)
          have hRG := HO.out.gr HGA.out (fun _ h => h.elim) (fun b hb e => by have := (HO.out.own b hb).1; rcases e with e | e <;> omega)
          have HSO := Lib.hid (show ∀ b, SO b → (base ≤ b ∧ b ≠ B ∧ b ≠ g1 ∧ b ≠ g2) ∧ cellsAt wG b from fun b hb => ⟨(hSO b hb).1, (hSO b hb).2.gr HGW.out (fun e => by have := (hSO b hb).1; rcases e with e | e <;> omega)⟩)
          have HVO := Lib.hid hvO
          have HLT := Lib.hid hltW
          have HNW := Lib.hid hnW
          have HWG := Lib.hid (show W.heap.size ≤ wG.heap.size from HGW.out.size)
          have HOG := Lib.hid hOG
          have HRG := Lib.hid hRG
          have HRO := Lib.hid HO.out.own
          have HMB := Lib.hid hMb
          have hC0 : Cells [(⟨N, 0, none⟩, .pointer (some ⟨B, 0, none⟩)), (⟨B, 5, none⟩, .slice oa ol oc), (⟨N + 3, 0, none⟩, .func (.func gp) #[] #[])] wG := ⟨e0, q5, e3, trivial⟩
          clear hbl hFb hGb hMb hb e0 e2 e3 e5 e6 e8 q2 q3 q4 q5 hO5 hSO hvO hOG hRG hltW hnW hd
          gi_wp2_with fail
          refine wpIn_region_T (Cells [(⟨N, 0, none⟩, .pointer (some ⟨B, 0, none⟩)), (⟨B, 5, none⟩, .slice oa ol oc), (⟨N + 3, 0, none⟩, .func (.func gp) #[] #[])]) (fun i => i == 14) (by kernel_rfl) (by kernel_rfl) (fun _ _ h => h) ?_
          have hSss4 := Cells.drew hC0
          have hB_0_s4 : Below wG.heap.size wG wG.drew := below_drew _
          generalize wG.drew = s4 at hSss4 hB_0_s4 ⊢
          have hB_s4_s4 := Below.refl s4.heap.size s4
          refine wpAnyT_pure (i := 6) (v := ?_) rfl (by kernel_rfl) (by kernel_rfl) (by kernel_rfl) (fun _ _ _ h => h) (by rfl) ?_ ?_
          rotate_left
          · intro w; go_simp; try with_reducible rfl
          simp only [Act.put, rgA, rgB, rgC, rgD, rgE, rgF]
          refine wpAnyT_pure (i := 8) (v := ?_) rfl (by kernel_rfl) (by kernel_rfl) (by kernel_rfl) (fun _ _ _ h => h) (by rfl) ?_ ?_
          rotate_left
          · intro w; go_simp; try with_reducible rfl
          simp only [Act.put, rgA, rgB, rgC, rgD, rgE, rgF]
          refine wpAnyT_loadW (i := 0) (v := ?_) rfl (by kernel_rfl) (by kernel_rfl) (by kernel_rfl) (by kernel_rfl) (by kernel_rfl) (fun _ _ _ h => h) (Or.inl ⟨by rfl, ?_⟩) hSss4 ?_
          rotate_left
          · intro w hSw; obtain ⟨e0, e1, e2, -⟩ := hSw; go_simp; try with_reducible rfl
          simp only [Act.put, rgA, rgB, rgC, rgD, rgE, rgF]
          refine wpAnyT_loadW (i := 1) (v := ?_) rfl (by kernel_rfl) (by kernel_rfl) (by kernel_rfl) (by kernel_rfl) (by kernel_rfl) (fun _ _ _ h => h) (Or.inl ⟨by rfl, ?_⟩) hSss4 ?_
          rotate_left
          · intro w hSw; obtain ⟨e0, e1, e2, -⟩ := hSw; go_simp; try with_reducible rfl
          simp only [Act.put, rgA, rgB, rgC, rgD, rgE, rgF]
          refine wpAnyT_pure (i := 2) (v := ?_) rfl (by kernel_rfl) (by kernel_rfl) (by kernel_rfl) (fun _ _ _ h => h) (by rfl) ?_ ?_
          rotate_left
          · intro w; go_simp; try with_reducible rfl
          simp only [Act.put, rgA, rgB, rgC, rgD, rgE, rgF]
          refine wpAnyT_pure (i := 3) (v := ?_) rfl (by kernel_rfl) (by kernel_rfl) (by kernel_rfl) (fun _ _ _ h => h) (by rfl) ?_ ?_
          rotate_left
          · intro w; go_simp; try with_reducible rfl
          simp only [Act.put, rgA, rgB, rgC, rgD, rgE, rgF]
          refine wpAnyT_loadW (i := 4) (v := ?_) rfl (by kernel_rfl) (by kernel_rfl) (by kernel_rfl) (by kernel_rfl) (by kernel_rfl) (fun _ _ _ h => h) (Or.inl ⟨by rfl, ?_⟩) hSss4 ?_
          rotate_left
          · intro w hSw; obtain ⟨e0, e1, e2, -⟩ := hSw; go_simp; try with_reducible rfl
          simp only [Act.put, rgA, rgB, rgC, rgD, rgE, rgF]
          refine wpAnyT_loadW (i := 5) (v := ?_) rfl (by kernel_rfl) (by kernel_rfl) (by kernel_rfl) (by kernel_rfl) (by kernel_rfl) (fun _ _ _ h => h) (Or.inl ⟨by rfl, ?_⟩) hSss4 ?_
          rotate_left
          · intro w hSw; obtain ⟨e0, e1, e2, -⟩ := hSw; go_simp; try with_reducible rfl
          simp only [Act.put, rgA, rgB, rgC, rgD, rgE, rgF]
          refine wpAnyT_one (i := 7) (by kernel_rfl) rfl (by rfl) ?_
          obtain ⟨-, -, -, -, -, e5, e6, -⟩ := (HMB.out.below hB_0_s4).cells
          refine wp_value (v := .agg #[.int .i64 xe, .int .i64 xl]) (w' := s4) (by go_simp) ?_
          clear e5 e6
          refine ⟨fun _ h => h, ?_⟩
          try simp only [Act.put, rgA, rgB, rgC, rgD, rgE, rgF]
          refine wpAnyT_one (i := 9) (by kernel_rfl) rfl (by rfl) ?_
          refine wp_enter (f := gp) (args := #[.agg #[.int .i64 xe, .int .i64 xl], .slice av lv cv]) (by go_simp) (HPR.out s4 xe xl av lv cv) ?_
          rintro e w105 ⟨b9, p1, pl1, pc1, p2, pl2, pc2, rfl, hpv, hge9, hN9, hX⟩
          have hge9 : wG.heap.size ≤ b9 := Nat.le_trans (hB_0_s4).size (Nat.le_trans (hB_s4_s4).size hge9)
          have hB_s4_w105 := below_step hB_s4_s4 hX
          have hB_w105_w105 := Below.refl w105.heap.size w105
          have hSsw105 := Cells.below hB_s4_w105 hSss4
          clear hX
          refine ⟨_, rfl, fun _ _ => hSsw105, ?_⟩
          try simp only [Act.put, rgA, rgB, rgC, rgD, rgE, rgF]
          refine wpAnyT_one (i := 10) (by kernel_rfl) rfl (by rfl) ?_
          obtain ⟨b10, hb10⟩ : ∃ b, w105.heap.size = b := ⟨_, rfl⟩
          have hge10 : wG.heap.size ≤ b10 := hb10 ▸ Nat.le_trans (hB_0_s4).size (hB_s4_w105).size
          refine wp_newrow (v := .slice (some ⟨b10, 0, none⟩) 1 1) (cs := #[.slice p1 pl1 pc1, .slice p2 pl2 pc2]) (te := 39) (by rw [← hb10]; go_simp) ?_
          intro w106 hX hN10
          rw [hb10] at hN10
          have hB_s4_w106 := below_step hB_s4_w105 hX
          have hB_w105_w106 := below_step hB_w105_w105 hX
          have hB_w106_w106 := Below.refl w106.heap.size w106
          have hSsw106 := Cells.below hB_s4_w106 hSss4
          clear hX
          refine ⟨fun _ _ => hSsw106, ?_⟩
          try simp only [Act.put, rgA, rgB, rgC, rgD, rgE, rgF]
          refine wpAnyT_one (i := 11) (by kernel_rfl) rfl (by rfl) ?_
          have hq9 := ((hB_w105_w106).block _ (blk_lt hN9)).trans hN9
          have hq10 := ((hB_w106_w106).block _ (blk_lt hN10)).trans hN10
          have hbP : Below wG.heap.size wG w106 := hB_0_s4.trans ((hB_s4_w106).mono (hB_0_s4).size)
          have hO20 := HOG.out.below hbP
          have hR20 := HRG.out.below hbP
          have hlt := HLT.out
          have hnw := HNW.out
          have hwg := HWG.out
          have hsz := hbP.size
          have hq5 := hSsw106
          obtain ⟨hq0, hq5, hq3, -⟩ := hq5
          have hbnd : ∀ b, (SO b ∨ b = b9 ∨ (Value.slice av lv cv).ownBlock = some b) → ((base ≤ b ∧ b ≠ B ∧ b ≠ g1 ∧ b ≠ g2) ∧ cellsAt w106 b) ∧ (Value.slice oa ol oc).ownBlock ≠ some b ∧ b < (w106).heap.size := by
            rintro b (hb | rfl | hb)
            · exact ⟨⟨(HSO.out b hb).1, (HSO.out b hb).2.below hbP⟩, hO20.bound b hb⟩
            · exact ⟨⟨⟨by omega, by omega, by omega, by omega⟩, ⟨_, hq9, rfl⟩⟩, fun e => by have := (HOW.out _ e).2; omega, blk_lt hq9⟩
            · have hr := HRO.out b hb
              exact ⟨⟨⟨by omega, by omega, by omega, by omega⟩, hR20.cellsAt b hb⟩, fun e => by have := (HOW.out _ e).2; omega, (hR20.own b hb).2⟩
          have hO21 : Owns pairT 39 base (fun b => SO b ∨ b = b9 ∨ (Value.slice av lv cv).ownBlock = some b) w106 (.slice oa ol oc) _ := hO20.mono (fun _ h => .inl h) (fun b hb => (hbnd b hb).2)
          have hr1 : Rd (.sl refT) (fun b => SO b ∨ b = b9 ∨ (Value.slice av lv cv).ownBlock = some b) w106 [.slice (some ⟨b9, 0, none⟩) 1 1] [R2.d ⟨xe, xl⟩] := ref1_rd (x := ⟨xe, xl⟩) hq9 HXO.out (.inr (.inl rfl))
          have hr2 := hR20.rd (fun b => SO b ∨ b = b9 ∨ (Value.slice av lv cv).ownBlock = some b) (fun _ h => h.elim) (fun b hb => .inr (.inr hb))
          have hrd : Rd pairT (fun b => SO b ∨ b = b9 ∨ (Value.slice av lv cv).ownBlock = some b) w106 [.slice p1 pl1 pc1, .slice p2 pl2 pc2] (pairD (prP sw ⟨xe, xl⟩ (refsM l2 (bitA cs m cs.length)))) := by
            by_cases hsw : sw = true
            · rw [if_pos hsw] at hpv
              rw [hpv.1, hpv.2]
              unfold prP
              rw [if_pos hsw]
              exact pair_rd hr2 hr1
            · rw [if_neg hsw] at hpv
              rw [hpv.1, hpv.2]
              unfold prP
              rw [if_neg hsw]
              exact pair_rd hr1 hr2
          refine wp_app (.tmp 148) (.tmp 154) 24 rfl (e := pairT) (te := 39) info_pair Try.underlying24 rfl (by decide) (base := base) (S := fun b => SO b ∨ b = b9 ∨ (Value.slice av lv cv).ownBlock = some b) (v := .slice oa ol oc) (xs := so.out.map pairD) (by kernel_rfl) hO21 (by omega) (sv := .slice (some ⟨b10, 0, none⟩) 1 1) (by kernel_rfl) (ys := [pairD (prP sw ⟨xe, xl⟩ (refsM l2 (bitA cs m cs.length)))]) (Src.of_cells (news := [.slice p1 pl1 pc1, .slice p2 pl2 pc2]) (fun j u hu => by rw [Nat.zero_add, blk_cell hq10]; simpa using hu)) (RdL.one (e := pairT) hrd) (by have := HOL.out; simp only [List.length_map, List.length_cons, List.length_nil]; omega) (by have := HOL.out; simp only [List.length_map, List.length_cons, List.length_nil]; omega) ?_
          intro ca11 cl11 cc11 w107 O20 g20 ob20
          have hfin := HMB.out.fin.below hbP
          have hpush := hfin.push (Gr.of_grown g20) (p := prP sw ⟨xe, xl⟩ (refsM l2 (bitA cs m cs.length))) (fun b e => ⟨(HOW.out b e).1, HVO.out b e⟩) (by rw [List.map_append]; exact O20) (fun b hb => ⟨(hbnd b hb).1.1, (hbnd b hb).1.2.gr (Gr.of_grown g20) (fun e => (hbnd b hb).2.1 e)⟩) (fun b hb => by
            rcases ob20 with e | e
            · rw [e] at hb; exact HVO.out b hb
            · rw [e] at hb; cases hb; exact ⟨by omega, by omega, by omega⟩)
          obtain ⟨rcs, hrow⟩ := hfin.row
          have hb21 := blk_gr (Gr.of_grown g20) hrow (fun e => (HVO.out _ e).1 rfl)
          have hq5 := (Gr.of_grown g20).cell hq5 (fun e => (HVO.out _ e).1 rfl)
          have hXS : Cells [(⟨N, 0, none⟩, .pointer (some ⟨B, 0, none⟩)), (⟨B, 5, none⟩, .slice oa ol oc), (⟨N + 3, 0, none⟩, .func (.func gp) #[] #[])] w107 := ⟨(Gr.of_grown g20).cell hq0 (fun e => by have := HOV.out _ e; simp only at this; omega), hq5, (Gr.of_grown g20).cell hq3 (fun e => by have := HOV.out _ e; simp only at this; omega), trivial⟩
          clear hq0 hq3
          have HPU := Lib.hid hpush
          have HGF := Lib.hid ((Gr.of_below (F := fun b => (Value.slice oa ol oc).ownBlock = some b) hbP).trans (Gr.of_grown g20) (fun _ e => .inl e))
          have HOB := Lib.hid (show ∀ b, (Value.slice ca11 cl11 cc11).ownBlock = some b → b < N ∨ N + 4 ≤ b from fun b hb => by
            rcases ob20 with e | e
            · rw [e] at hb; exact HOV.out b hb
            · rw [e] at hb; cases hb; right; have := blk_lt hq10; have h1 := HMB.out.n; have h2 := HMB.out.cells.2.2.2.2.1; have h3 := World.block_lt_of_cell? _ _ h2; simp only at h3; omega)
          clear hpush hq9 hq10 hO20 hR20 hO21 hrd hr1 hr2 O20 g20 ob20 hfin hrow hlt hnw hwg hsz hbnd
          have hSsw107 := hXS
          have hB_w107_w107 := Below.refl w107.heap.size w107
          refine ⟨fun _ _ => hSsw107, ?_⟩
          try simp only [Act.put, rgA, rgB, rgC, rgD, rgE, rgF]
          refine wpAnyT_pure (i := 12) (v := ?_) rfl (by kernel_rfl) (by kernel_rfl) (by kernel_rfl) (fun _ _ _ h => h) (by rfl) ?_ ?_
          rotate_left
          · intro w; go_simp; try with_reducible rfl
          simp only [Act.put, rgA, rgB, rgC, rgD, rgE, rgF]
          refine wpAnyT_pure (i := 13) (v := ?_) rfl (by kernel_rfl) (by kernel_rfl) (by kernel_rfl) (fun _ _ _ h => h) (by rfl) ?_ ?_
          rotate_left
          · intro w; go_simp; try with_reducible rfl
          simp only [Act.put, rgA, rgB, rgC, rgD, rgE, rgF]
          refine wpAnyT_one (i := 14) (by kernel_rfl) rfl (by rfl) ?_
          have hf21 := blk_frozen hb21 5
          refine wp_store1 (w' := (w107).setCell ⟨B, 5, none⟩ (.slice ca11 cl11 cc11)) 24 (.tmp 157) (.tmp 155) rfl ⟨B, 5, none⟩ (.slice ca11 cl11 cc11) (by kernel_rfl) (by kernel_rfl) (by go_simp) ?_
          have HGS := Lib.hid (show Gr (fun x => x = B) w107 ((w107).setCell ⟨B, 5, none⟩ (.slice ca11 cl11 cc11)) from Gr.setCell (Gr.refl _ _) (by exact .inl rfl) _)
          have HOF := Lib.hid (show OV B N ((w107).setCell ⟨B, 5, none⟩ (.slice ca11 cl11 cc11)) from fun a l c hc => by
            rw [blk_cell (blk_set hb21 (i := 5) _)] at hc
            have h5 : 5 < rcs.size := by
              rw [blk_cell hb21] at hq5
              exact (Array.getElem?_eq_some_iff.1 hq5).1
            rw [Array.getElem?_setIfInBounds_self_of_lt h5] at hc
            cases hc
            exact HOB.out)
          generalize (w107).setCell ⟨B, 5, none⟩ (.slice ca11 cl11 cc11) = w108 at HPU HGS HOF ⊢
          have HCB := Lib.hid (show cellsAt w107 B from ⟨_, hb21, rfl⟩)
          clear hf21 hb21 hq5
          refine ⟨fun h => absurd h (by decide), ?_⟩
          try simp only [Act.put, rgA, rgB, rgC, rgD, rgE, rgF]
          refine wpAnyT_done (by kernel_rfl) ?_ _
          gi_wp2_with fail
          have hlt := HLT.out
          have hnw := HNW.out
          have hkW : KN W wG := KN.of_gr HGW.out (fun b e => by
            rcases e with rfl | rfl
            · exact ⟨_, HM.out.fin.left.1, rfl⟩
            · exact ⟨_, HM.out.fin.right.1, rfl⟩)
          have hk2 := (hkW.trans (KN.of_gr HGF.out (fun b e => HOG.out.cellsAt b e))).trans (KN.of_gr HGS.out (fun b e => by rw [e]; exact HCB.out))
          refine ⟨hk2, rfl, ⟨pre, m, rfl, HI.out.2, HU.out, HPU.out⟩, ?_, (KN.of_below' HI.out.1).trans hk2, HOF.out⟩
          have hdd := HM.out.fin.d
          refine (((Gr.of_below (F := fun b => (base ≤ b ∧ b < N) ∨ N + 4 ≤ b) HI.out.1).trans HGW.out (fun b e => .inl (.inl (by rcases e with rfl | rfl <;> omega)))).trans HGF.out (fun b e => .inl (by have h1 := HOV.out b e; have h2 := (HOW.out b e).1; omega))).trans HGS.out (fun b e => .inl (.inl (by rw [e]; omega)))
end Go.Proofs.Ytpobckedeffjmaa
