/- Layer 53: the sort of few keys (by insertion; what is asked is that it leaves a permutation). -/
import Derived.Test.YtdcjocldggmdbaaW53g
import Derived.Test.YtdcjocldggmdbaaColl
import Derived.Laws.IdiomCopy
set_option linter.unusedSimpArgs false
namespace Go.Proofs.Ytdcjocldggmdbaa
open Go.RowKit Go

/-- Keys in a row. -/
def KRow (w : World) (g : Nat) (l : List Ky) : Prop := ∃ cs : Array Value, w.heap[g]? = some (.cells cs 53 (0, 0)) ∧ ∀ i (hi : i < l.length), cs[i * 3]? = some (.string l[i].task) ∧ cs[i * 3 + 1]? = some (.int .i64 l[i].ent) ∧ cs[i * 3 + 2]? = some (.int .i64 l[i].per)
theorem KRow.lt {w : World} {g : Nat} {l : List Ky} (h : KRow w g l) : g < w.heap.size := by obtain ⟨cs, h1, -⟩ := h; exact blk_lt h1
theorem KRow.below {w w' : World} {g : Nat} {l : List Ky} (h : KRow w g l) (hB : Below w.heap.size w w') : KRow w' g l := by
  obtain ⟨cs, h1, h2⟩ := h
  exact ⟨cs, (hB.block _ (blk_lt h1)).trans h1, h2⟩
theorem KRow.cell {w : World} {g : Nat} {l : List Ky} (h : KRow w g l) (i : Nat) (hi : i < l.length) : w.cell? ⟨g, i * 3, none⟩ = some (.string l[i].task) ∧ w.cell? ⟨g, i * 3 + 1, none⟩ = some (.int .i64 l[i].ent) ∧ w.cell? ⟨g, i * 3 + 2, none⟩ = some (.int .i64 l[i].per) := by
  obtain ⟨cs, h1, h2⟩ := h
  obtain ⟨a, b, c⟩ := h2 i hi
  exact ⟨(blk_cell h1 _).trans a, (blk_cell h1 _).trans b, (blk_cell h1 _).trans c⟩
theorem KRow.rd {w : World} {g : Nat} {l : List Ky} (h : KRow w g l) (hok : ∀ k ∈ l, k.ok) (cap : Nat) (hc : l.length ≤ cap) (hm : cap ≤ 9223372036854775807) : Rd (.sl keyT) (fun b => b = g) w [.slice (some ⟨g, 0, none⟩) l.length cap] (l.map Ky.d) := by
  refine ⟨_, _, cap, rfl, List.length_map _, hc, hm, .inr ⟨g, 0, rfl, rfl, fun i hi => ?_⟩⟩
  have hi' : i < l.length := by rw [List.length_map] at hi; exact hi
  obtain ⟨a, b, c⟩ := h.cell i hi'
  refine ⟨[.string l[i].task, .int .i64 l[i].ent, .int .i64 l[i].per], rfl, fun j u hu => ?_, ?_⟩
  · rw [show 0 + i * keyT.sz + j = i * 3 + j by rw [keyT_sz]; omega]
    match j, hu with
    | 0, hu => rw [Nat.add_zero, a]; simpa using hu
    | 1, hu => rw [b]; simpa using hu
    | 2, hu => rw [c]; simpa using hu
    | j + 3, hu => simp at hu
  · show Rd keyT _ _ _ (List.map Ky.d l)[i]
    rw [List.getElem_map]
    exact key_rd (hok _ (List.getElem_mem hi'))
def kvs (k : Ky) : List Value := [.string k.task, .int .i64 k.ent, .int .i64 k.per]
theorem gr_setCells (b : Nat) : ∀ (vs : List Value) (o : Nat) (w : World), Gr (fun x => x = b) w (w.setCells b o vs)
  | [], _, w => Gr.refl _ w
  | v :: r, o, w => (show Gr (fun x => x = b) w (w.setCell ⟨b, o, none⟩ v) from (Gr.refl (fun x => x = b) w).setCell (.inl rfl) v).trans (gr_setCells b r (o + 1) _) (fun _ h => .inl h)
/-- A key is written. -/
theorem KRow.set {w : World} {g : Nat} {l : List Ky} (h : KRow w g l) (P : Program) (j : Nat) (hj : j < l.length) (k : Ky) :
    Sem.run P (storeCells ⟨g, j * 3, none⟩ (kvs k)) w = .ok () (w.setCells g (j * 3) (kvs k)) ∧ KRow (w.setCells g (j * 3) (kvs k)) g (l.set j k) := by
  obtain ⟨cs, h1, h2⟩ := h
  obtain ⟨a0, a1, a2⟩ := h2 j hj
  constructor
  · have := run_storeCells_cells (P := P) g (j * 3) (kvs k) 0 w (fun c hc => ?_) (fun c hc => ?_) (fun v hv => ?_)
    · simpa using this
    · have hc : c < 3 := hc
      rw [Nat.add_zero, blk_cell h1]
      match c, hc with
      | 0, _ => rw [Nat.add_zero, a0]; rfl
      | 1, _ => rw [a1]; rfl
      | 2, _ => rw [a2]; rfl
    · exact blk_frozen h1 _
    · simp [kvs] at hv
      rcases hv with rfl | rfl | rfl <;> rfl
  · have e0 := blk_set (i := j * 3) h1 (.string k.task)
    have e1 := blk_set (i := j * 3 + 1) e0 (.int .i64 k.ent)
    have e2 := blk_set (i := j * 3 + 1 + 1) e1 (.int .i64 k.per)
    refine ⟨_, e2, fun i hi => ?_⟩
    rw [List.length_set] at hi
    obtain ⟨b0, b1, b2⟩ := h2 i hi
    have l0 := (Array.getElem?_eq_some_iff.1 a0).1
    have l1 := (Array.getElem?_eq_some_iff.1 a1).1
    have l2 := (Array.getElem?_eq_some_iff.1 a2).1
    simp only [Array.getElem?_setIfInBounds, Array.size_setIfInBounds]
    by_cases e : i = j
    · subst e
      rw [List.getElem_set_self]
      refine ⟨?_, ?_, ?_⟩
      · rw [if_neg (by omega), if_neg (by omega), if_pos rfl, if_pos l0]
      · rw [if_neg (by omega), if_pos rfl, if_pos l1]
      · rw [if_pos (by omega), if_pos (by omega)]
    · rw [List.getElem_set_ne (fun e' => e e'.symm)]
      refine ⟨?_, ?_, ?_⟩
      · rw [if_neg (by omega), if_neg (by omega), if_neg (by omega)]; exact b0
      · rw [if_neg (by omega), if_neg (by omega), if_neg (by omega)]; exact b1
      · rw [if_neg (by omega), if_neg (by omega), if_neg (by omega)]; exact b2
theorem swap_perm (l : List Ky) (i j : Nat) (hi : i < l.length) (hj : j < l.length) : ((l.set i l[j]).set j l[i]).Perm l := by
  have h := Array.swap_perm (xs := l.toArray) (i := i) (j := j) (by simpa using hi) (by simpa using hj)
  rw [Array.perm_iff_toList_perm] at h
  simpa [Array.swap] using h
theorem wp_storeK {P : Program} {o : Oper} {a : Act} {w w' : World} {K : Act → World → Prop} {Q : Exit → Act → World → Prop} (ty : TypeId) (x y : Operand) (ho : o.op = .store ty x y) (p : Addr) (v : Value)
    (hx : a.eval x = .pointer (some p)) (hy : a.eval y = v) (hsz : (Go.sizeOf ty).run P w = .ok v.cells.size w) (hrun : (storeCells p v.cells.toList).run P w = .ok () w') (h : K (a.put o.dst undef) w') : o.wp P a w K Q := by
  have hst : (storeVar ty p v).run P w = .ok () w' := by
    unfold storeVar
    simp only [Sem.run_bind, hsz, Result.andThen_ok]
    rw [if_neg (by simp)]
    exact hrun
  unfold Oper.wp execOp
  simp only [ho, hx, hy, Instr.storeAt, Instr.sureAddr, Sem.run_bind, Sem.run_pure, Result.andThen_ok, hst]
  exact h
end Go.Proofs.Ytdcjocldggmdbaa
