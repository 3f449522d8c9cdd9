/- Program independent: cells that stand; a literal that is built, and appended to, in a region that draws its order. -/
import Derived.Test.YtdcjocldggmdbaaRegT
namespace Go.Proofs.Ytdcjocldggmdbaa
open Go.RowKit Go

/-- Cells that stand. -/
def Cells : List (Addr × Value) → World → Prop
  | [], _ => True
  | (a, v) :: r, w => w.cell? a = some v ∧ Cells r w
theorem Cells.below {w w' : World} (hB : Below w.heap.size w w') : ∀ {l : List (Addr × Value)}, Cells l w → Cells l w'
  | [], _ => trivial
  | (_, _) :: _, h => ⟨cell_below h.1 hB, Cells.below hB h.2⟩
def CellsLt (n : Nat) : List (Addr × Value) → Prop
  | [] => True
  | (a, _) :: r => a.block < n ∧ CellsLt n r
theorem Cells.belowN {n : Nat} {w w' : World} (hB : Below n w w') : ∀ {l : List (Addr × Value)}, CellsLt n l → Cells l w → Cells l w'
  | [], _, _ => trivial
  | (_, _) :: _, hl, h => ⟨(hB.cell hl.1).trans h.1, Cells.belowN hB hl.2 h.2⟩
theorem Cells.drew {w : World} {l : List (Addr × Value)} (h : Cells l w) : Cells l w.drew := by
  induction l with
  | nil => trivial
  | cons x l ih => exact ⟨h.1, ih h.2⟩

section
variable {P : Program} {o : Oper} {a : Act} {w : World} {K : Act → World → Prop} {Q : Exit → Act → World → Prop}
/-- A new block: what follows knows the block, not how it was made. -/
theorem wp_newrow {v : Value} {cs : Array Value} {te : TypeId} (he : (execOp a.eval o).run P w = .ok (.value v) (w.alloc (.cells cs te))) (h : ∀ w2, Below w.heap.size w w2 → w2.heap[w.heap.size]? = some (.cells cs te (0, 0)) → K (a.put o.dst v) w2) : o.wp P a w K Q :=
  wp_value he (h _ ((Below.refl _ w).alloc (Nat.le_refl _) _) (heap_alloc_new w _))

theorem run_appLit {e : Ty} {t ty te : TypeId} {z : Value} {bytes : Nat} (hi : (P.info? te).map (fun i => (i.zero, i.size, i.bytes)) = some (some z, e.sz, bytes)) (ht : P.underlying t = some (.slice te)) (hz : z.cells.size = e.sz) (h0 : 0 < e.sz)
    {S : Nat → Prop} {b base : Nat} (hb : w.heap[b]? = some (.cells #[] te (0, 0))) (hbase : base ≤ b) {sv : Value} {ys : List e.den} {news : List Value} (hs : Src w sv ys.length news) (hr : RdL e S w news ys) (hS : ∀ x, S x → x ≠ b ∧ x < w.heap.size)
    (hbt : ys.length * bytes ≤ 140737488355328) (hmx : ys.length ≤ 9223372036854775807) :
    ∃ va vl vc w', (Builtin.append_ #[t, t] ty #[.slice (some ⟨b, 0, none⟩) 0 0, sv]).run P w = .ok (.slice va vl vc) w' ∧ Owns e te base S w' (.slice va vl vc) ys ∧ Below w.heap.size w w' := by
  obtain ⟨i, hi', hz0, hz1, hz2⟩ := info_parts hi
  clear hi
  subst hz2
  have hbl : b < w.heap.size := (Array.getElem?_eq_some_iff.1 hb).1
  by_cases hm : ys.length = 0
  · obtain rfl : ys = [] := List.eq_nil_of_length_eq_zero hm
    have hsv : ∃ a c, sv = .slice a 0 c := by
      rcases hs with ⟨c, rfl, _⟩ | ⟨a, c, rfl, _⟩
      · exact ⟨_, _, rfl⟩
      · exact ⟨_, _, rfl⟩
    obtain ⟨a', c, rfl⟩ := hsv
    have hf : ∀ (a : Option Addr) w', (Builtin.firstCells i.size 0 (.slice a 0 c)).run P w' = .ok #[] w' := by
      intro a w'
      cases a with
      | none => simp [Builtin.firstCells]
      | some a => simp [Builtin.firstCells, loadCells, loadCellsFrom]
    refine ⟨some ⟨b, 0, none⟩, 0, 0, w, ?_, ⟨[], ⟨by simp, .inr ⟨b, 0, #[], rfl, hbase, hb, Nat.le_refl _, by simp, by simp, by simp⟩⟩, rfl, fun x hx => ⟨fun e' => (hS x hx).1 (by simpa [Value.ownBlock] using e'.symm), (hS x hx).2⟩⟩, Below.refl _ _⟩
    simp [Builtin.append_, run_underlying ht, sizeOf, typeInfo, hi', Builtin.lenOf, hf, storeCells]
  · obtain ⟨ad, c, rfl, hnews⟩ : ∃ ad c, sv = .slice (some ad) ys.length c ∧ ∀ j u, news[j]? = some u → w.cell? (ad.add j) = some u := by
      rcases hs with ⟨c, _, h0', _⟩ | ⟨a', c, rfl, ⟨h0', _⟩ | ⟨ad, rfl, h⟩⟩
      · exact absurd h0' hm
      · exact absurd h0' hm
      · exact ⟨ad, c, rfl, h⟩
    have hnl : news.length = ys.length * i.size := by rw [hr.len, hz1]
    have hrun := run_append_grow (P := P) w t ty te i z ht hi' hz0 ⟨b, 0, none⟩ 0 0 [] (by simp) (fun j u hu => by simp at hu) ad ys.length c news hnl hnews (by omega) (by omega) (growslice_fits (by omega) (by simpa using hbt))
    have hge := grownCap_ge w (0 + ys.length) 0 te
    have hcm : grownCap w (0 + ys.length) 0 te ≤ maxLen := grownCap_le_maxLen w _ 0 te (by simp [maxLen]; omega)
    generalize grownCap w (0 + ys.length) 0 te = gc at hge hcm hrun
    have hk : ∀ (o : Obj) (b : Nat), S b → (w.drew.alloc o).heap[b]? = w.heap[b]? := fun o b hb => heap_alloc_old w.drew _ (hS b hb).2
    refine ⟨_, _, _, _, hrun, ⟨news, ⟨by rw [hnl, hz1], .inr ⟨w.heap.size, gc, _, by rw [Nat.zero_add], by omega, heap_alloc_new w.drew _, by omega, by simpa [maxLen] using hcm, ?_, ?_⟩⟩, hr.keep (hk _) (fun _ h => h), fun x hx => ⟨?_, Nat.lt_of_lt_of_le (hS x hx).2 (by simp)⟩⟩, ((Below.refl _ w).drew).alloc (Nat.le_refl _) _⟩
    · simp only [Array.size_append, List.size_toArray, size_zeroCells, hz, hnl, hz1, ← Nat.add_mul, List.length_nil]
      rw [Nat.zero_add, ← Nat.add_mul]
      congr 1
      omega
    · simp only [Array.toList_append, List.append_assoc]
      rw [List.nil_append, List.take_left' (by rw [hnl, hz1])]
    · have := hS x hx
      simp [Value.ownBlock]; omega
theorem wp_appLit (s x : Operand) (t : TypeId)
    (ho : o.op = .call { callee := .builtin .append, args := #[s, x], argTypes := #[t, t] })
    {e : Ty} {te : TypeId} {z : Value} {bytes : Nat} (hi : (P.info? te).map (fun i => (i.zero, i.size, i.bytes)) = some (some z, e.sz, bytes)) (ht : P.underlying t = some (.slice te)) (hz : z.cells.size = e.sz) (h0 : 0 < e.sz)
    {S : Nat → Prop} {b base : Nat} (hv : a.eval s = .slice (some ⟨b, 0, none⟩) 0 0) (hb : w.heap[b]? = some (.cells #[] te (0, 0))) (hbase : base ≤ b)
    {sv : Value} (hsv : a.eval x = sv) {ys : List e.den} (hr : Rd (.sl e) S w [sv] ys) (hS : ∀ x, S x → x ≠ b ∧ x < w.heap.size) (hbt : ys.length * bytes ≤ 140737488355328) (hmx : ys.length ≤ 9223372036854775807)
    (h : ∀ (ca : Option Addr) (cl cc : Nat) w', Owns e te base S w' (.slice ca cl cc) ys → Below w.heap.size w w' → K (a.put o.dst (.slice ca cl cc)) w') :
    o.wp P a w K Q := by
  obtain ⟨news, hs, hrl⟩ := hr.src
  obtain ⟨ca, cl, cc, w', hrun, h1, h2⟩ := run_appLit (P := P) (w := w) (ty := o.type) hi ht hz h0 hb hbase hs hrl hS hbt hmx
  unfold Oper.wp
  simp [execOp, ho, resolve, invoke, builtin, hv, hsv, hrun, Result.andThen]
  exact h ca cl cc w' h1 h2
end
end Go.Proofs.Ytdcjocldggmdbaa
