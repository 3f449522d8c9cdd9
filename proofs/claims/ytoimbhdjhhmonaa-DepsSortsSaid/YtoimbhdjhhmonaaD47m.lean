/- Layer 47: slices.Compact, Clone, ContainsFunc at cells. -/
import Derived.Test.YtoimbhdjhhmonaaD47k
import Derived.Laws.IdiomCopy
set_option linter.unusedSimpArgs false
set_option maxRecDepth 50000
namespace Go.Proofs.Ytoimbhdjhhmonaa
open Go.RowKit Go

theorem wp_storeK {P : Program} {o : Oper} {a : Act} {w w' : World} {K : Act → World → Prop} {Q : Exit → Act → World → Prop} (ty : TypeId) (x y : Operand) (ho : o.op = .store ty x y) (p : Addr) (v : Value)
    (hx : a.eval x = .pointer (some p)) (hy : a.eval y = v) (hsz : (Go.sizeOf ty).run P w = .ok v.cells.size w) (hrun : (storeCells p v.cells.toList).run P w = .ok () w') (h : K (a.put o.dst undef) w') : o.wp P a w K Q := by
  have hst : (storeVar ty p v).run P w = .ok () w' := by
    unfold storeVar
    simp only [Sem.run_bind, hsz, Result.andThen_ok]
    rw [if_neg (by simp)]
    exact hrun
  unfold Oper.wp execOp
  simp only [ho, hx, hy, Instr.storeAt, Instr.sureAddr, Sem.run_bind, Sem.run_pure, Result.andThen_ok, hst]
  exact h
theorem wpList_storeK {P : Program} {ops : Array Oper} {rest : List Oper} {o : Oper} {a : Act} {w w' : World} {Q : Exit → Act → World → Prop} (hg : o.guard = none) (ty : TypeId) (x y : Operand) (ho : o.op = .store ty x y) (p : Addr) (v : Value)
    (hx : a.eval x = .pointer (some p)) (hy : a.eval y = v) (hsz : (Go.sizeOf ty).run P w = .ok v.cells.size w) (hrun : (storeCells p v.cells.toList).run P w = .ok () w') (h : wpList P ops Q rest (a.put o.dst undef) w') : wpList P ops Q (o :: rest) a w :=
  wpList_plain hg fun K hK => wp_storeK ty x y ho p v hx hy hsz hrun (hK _ _ h)
theorem gr_setCells (b : Nat) : ∀ (vs : List Value) (o : Nat) (w : World), Gr (fun x => x = b) w (w.setCells b o vs)
  | [], _, w => Gr.refl _ w
  | v :: r, o, w => (show Gr (fun x => x = b) w (w.setCell ⟨b, o, none⟩ v) from (Gr.refl (fun x => x = b) w).setCell (.inl rfl) v).trans (gr_setCells b r (o + 1) _) (fun _ h => .inl h)
/-- A cell is written. -/
theorem CRow.set {w : World} {g : Nat} {l : List C4} (h : CRow w g l) (P : Program) (j : Nat) (hj : j < l.length) (k : C4) :
    Sem.run P (storeCells ⟨g, j * 4, none⟩ (encC k)) w = .ok () (w.setCells g (j * 4) (encC k)) ∧ CRow (w.setCells g (j * 4) (encC k)) g (l.set j k) := by
  obtain ⟨cs, h1, h2⟩ := h
  obtain ⟨a0, a1, a2, a3⟩ := h2 j hj
  constructor
  · have := run_storeCells_cells (P := P) g (j * 4) (encC k) 0 w (fun c hc => ?_) (fun c hc => ?_) (fun v hv => ?_)
    · simpa using this
    · have hc : c < 4 := hc
      rw [Nat.add_zero, blk_cell h1]
      match c, hc with
      | 0, _ => rw [Nat.add_zero, a0]; rfl
      | 1, _ => rw [a1]; rfl
      | 2, _ => rw [a2]; rfl
      | 3, _ => rw [a3]; rfl
    · exact blk_frozen h1 _
    · simp [encC] at hv
      rcases hv with rfl | rfl | rfl | rfl <;> rfl
  · have e0 := blk_set (i := j * 4) h1 (.int .i64 k.st)
    have e1 := blk_set (i := j * 4 + 1) e0 (.int .i64 k.en)
    have e2 := blk_set (i := j * 4 + 1 + 1) e1 (.int .i64 k.ot)
    have e3 := blk_set (i := j * 4 + 1 + 1 + 1) e2 (.int .i64 k.pe)
    refine ⟨_, e3, fun i hi => ?_⟩
    rw [List.length_set] at hi
    obtain ⟨b0, b1, b2, b3⟩ := h2 i hi
    have l0 := (Array.getElem?_eq_some_iff.1 a0).1
    have l1 := (Array.getElem?_eq_some_iff.1 a1).1
    have l2 := (Array.getElem?_eq_some_iff.1 a2).1
    have l3 := (Array.getElem?_eq_some_iff.1 a3).1
    simp only [Array.getElem?_setIfInBounds, Array.size_setIfInBounds]
    by_cases e : i = j
    · subst e
      rw [List.getElem_set_self]
      refine ⟨?_, ?_, ?_, ?_⟩
      · rw [if_neg (by omega), if_neg (by omega), if_neg (by omega), if_pos rfl, if_pos l0]
      · rw [if_neg (by omega), if_neg (by omega), if_pos rfl, if_pos l1]
      · rw [if_neg (by omega), if_pos (by omega), if_pos (by omega)]
      · rw [if_pos (by omega), if_pos (by omega)]
    · rw [List.getElem_set_ne (fun e' => e e'.symm)]
      refine ⟨?_, ?_, ?_, ?_⟩
      · rw [if_neg (by omega), if_neg (by omega), if_neg (by omega), if_neg (by omega)]; exact b0
      · rw [if_neg (by omega), if_neg (by omega), if_neg (by omega), if_neg (by omega)]; exact b1
      · rw [if_neg (by omega), if_neg (by omega), if_neg (by omega), if_neg (by omega)]; exact b2
      · rw [if_neg (by omega), if_neg (by omega), if_neg (by omega), if_neg (by omega)]; exact b3
theorem setCells_row {g : Nat} {t : TypeId} : ∀ (vs : List Value) (off : Nat) (w : World) (cs : Array Value), w.heap[g]? = some (.cells cs t (0, 0)) → ∃ cs', (w.setCells g off vs).heap[g]? = some (.cells cs' t (0, 0)) ∧ cs'.size = cs.size ∧ ∀ i, i < off → cs'[i]? = cs[i]?
  | [], off, w, cs, h => ⟨cs, h, rfl, fun _ _ => rfl⟩
  | v :: r, off, w, cs, h => by
    have h1 := blk_set (i := off) h v
    obtain ⟨cs', h2, h3, h4⟩ := setCells_row r (off + 1) (w.setCell ⟨g, off, none⟩ v) _ h1
    refine ⟨cs', h2, by rw [h3]; simp, fun i hi => ?_⟩
    rw [h4 i (by omega), Array.getElem?_setIfInBounds, if_neg (by omega)]
/-- clear(s[k:]): what is ahead of it stays. -/
theorem CRow.clear {w : World} {g : Nat} {l : List C4} (h : CRow w g l) (k n cap : Nat) (hn : 0 < n) (hk : k + n = l.length) (ty : TypeId) :
    ∃ w', (Builtin.clear_ #[23] ty #[.slice (some ⟨g, k * 4, none⟩) n cap]).run Try.prog w = .ok (.tuple #[]) w' ∧ CRow w' g (l.take k) ∧ Gr (fun b => b = g) w w' := by
  obtain ⟨cs, h1, h2⟩ := id h
  have hz : (zeroValue 38).run Try.prog w = .ok (.agg #[.int .i64 0, .int .i64 0, .int .i64 0, .int .i64 0]) w := by kernel_rfl
  obtain ⟨zs, hzs⟩ : ∃ zs, (Builtin.zeroCells (Value.agg #[.int .i64 0, .int .i64 0, .int .i64 0, .int .i64 0]).cells n).toList = zs := ⟨_, rfl⟩
  have hsz : zs.length = n * 4 := by rw [← hzs, Array.length_toList, size_zeroCells]; rfl
  have hone : ∀ v ∈ zs, v = .int .i64 0 := by
    intro v hv
    rw [← hzs] at hv
    unfold Builtin.zeroCells at hv
    simp only [Array.toList_map, List.mem_map] at hv
    obtain ⟨i, -, rfl⟩ := hv
    have h4 : i % 4 < 4 := Nat.mod_lt _ (by omega)
    show (#[Value.int .i64 0, .int .i64 0, .int .i64 0, .int .i64 0] : Array Value)[i % 4]! = _
    generalize i % 4 = r at h4
    match r, h4 with
    | 0, _ => rfl
    | 1, _ => rfl
    | 2, _ => rfl
    | 3, _ => rfl
  have hrun := run_storeCells_cells (P := Try.prog) g (k * 4) zs 0 w (fun c hc => ?_) (fun c hc => blk_frozen h1 _) (fun v hv => ?_)
  · refine ⟨w.setCells g (k * 4) zs, ?_, ?_, gr_setCells g zs (k * 4) w⟩
    · obtain ⟨m, rfl⟩ : ∃ m, n = m + 1 := ⟨n - 1, by omega⟩
      rw [Nat.add_zero] at hrun
      simp [Builtin.clear_, run_underlying Try.underlying23, hz, Sem.run_bind, Result.andThen, hzs, hrun]
    · obtain ⟨cs', h3, -, h4⟩ := setCells_row zs (k * 4) w cs h1
      refine ⟨cs', h3, fun i hi => ?_⟩
      rw [List.length_take] at hi
      rw [List.getElem_take]
      obtain ⟨b0, b1, b2, b3⟩ := h2 i (by omega)
      exact ⟨by rw [h4 _ (by omega)]; exact b0, by rw [h4 _ (by omega)]; exact b1, by rw [h4 _ (by omega)]; exact b2, by rw [h4 _ (by omega)]; exact b3⟩
  · rw [hsz] at hc
    obtain ⟨b0, b1, b2, b3⟩ := h2 (k + c / 4) (by omega)
    rw [Nat.add_zero, blk_cell h1]
    have h4 : c % 4 < 4 := Nat.mod_lt _ (by omega)
    have he : k * 4 + c = (k + c / 4) * 4 + c % 4 := by omega
    rw [he]
    generalize c % 4 = r at h4
    match r, h4 with
    | 0, _ => rw [Nat.add_zero, b0]; rfl
    | 1, _ => rw [b1]; rfl
    | 2, _ => rw [b2]; rfl
    | 3, _ => rw [b3]; rfl
  · rw [hone v hv]; rfl
theorem cell_eql (w : World) (x y : C4) : Sem.run Try.prog (binOp .eql 38 x.v y.v) w = .ok (.bool (decide (x = y))) w := by
  obtain ⟨c, k, u, z⟩ := x
  obtain ⟨d, m, v, z'⟩ := y
  have u3 := Try.underlying3
  have hS : Try.prog.underlying 38 = some (.struct (Try.prog.fieldsOf 38)) := by kernel_rfl
  have hp : Try.prog.stoodInHeld 38 = false := by kernel_rfl
  unfold C4.v
  rw [run_eql_struct, show (10000 : Nat) = 9999 + 1 from rfl, run_equalIn_agg w 9999 38 _ _ hS hp]
  simp only [Program.fieldsOf, Try.underlying38]
  go_simp
  by_cases h1 : c = d <;> by_cases h2 : k = m <;> by_cases h3 : u = v <;> by_cases h4 : z = z' <;> simp [h1, h2, h3, h4]
theorem cell_neq (w : World) (x y : C4) : Sem.run Try.prog (binOp .neq 38 x.v y.v) w = .ok (.bool (!decide (x = y))) w := by
  have h := cell_eql w x y
  unfold C4.v at h ⊢
  rw [run_eql_struct] at h
  rw [run_neq_struct]
  cases hr : (Op.equalIn 10000 38 (.agg #[.int .i64 x.st, .int .i64 x.en, .int .i64 x.ot, .int .i64 x.pe]) (.agg #[.int .i64 y.st, .int .i64 y.en, .int .i64 y.ot, .int .i64 y.pe])).run Try.prog w with
  | ok b w' =>
    rw [hr] at h
    simp only [Result.andThen] at h ⊢
    cases h
    rfl
  | _ => rw [hr] at h; simp [Result.andThen] at h
theorem sizeC' (w : World) : (Go.sizeOf 38).run Try.prog w = .ok 4 w := by kernel_rfl
/-- What Compact leaves. -/
def CompP (base g : Nat) (cap : Nat) (w : World) (l : List C4) (e : Ending) (w' : World) : Prop :=
  e = .returned (.slice (some ⟨g, 0, none⟩) (dedA l).length cap) ∧ CRow w' g (dedA l) ∧ Gr (fun b => b = g) w w'
theorem last_take {l : List C4} {q : Nat} (hq : 0 < q) (h : q ≤ l.length) : (l.take q).getLast? = some (l[q - 1]'(by omega)) := by
  rw [List.getLast?_eq_getElem?, List.length_take, Nat.min_eq_left h, List.getElem?_take]
  rw [if_pos (by omega), List.getElem?_eq_getElem (by omega)]
set_option maxHeartbeats 4000000 in
theorem compact47 (base : Nat) (w : World) (g cap : Nat) (l : List C4) (hR : CRow w g l) (hok : ∀ k ∈ l, k.ok) (hlc : l.length ≤ cap) (hcm : cap ≤ 9223372036854775807) (hln : l.length ≤ 1000000) :
    Calls Try.prog 52 #[.slice (some ⟨g, 0, none⟩) l.length cap] w (CompP base g cap w l) := by
  have HR := Lib.hid hR
  have HLC := Lib.hid hlc
  have hgd : Try.prog.eqGuardType Try.prog.depth 38 = false := by kernel_rfl
  obtain ⟨n, hn⟩ : ∃ n, l.length = n := ⟨_, rfl⟩
  rw [hn] at hln ⊢
  have HN := Lib.hid hn
  clear hR hok hlc hn
  go_enter Try.func52, Try.ntmps52
  by_cases h2 : (n : Int) < 2
  · have hd : dedA l = l := by
      have hl : l.length < 2 := by have := HN.out; omega
      match l, hl with
      | [], _ => rfl
      | [a], _ => rfl
    go_wp2_with fail
    go_ret
    exact ⟨by rw [hd, HN.out]; rfl, by rw [hd]; exact HR.out, Gr.refl _ _⟩
  have h2' : ¬ n < 2 := by omega
  go_wp2_with fail
  go_loopw [3] (fun i wr => ∃ (q : Nat), 1 ≤ q ∧ q ≤ n ∧ i = .int .i64 q ∧ dedA (l.take q) = l.take q ∧ Below w.heap.size w wr) (fun i _ => n + 1 - (intOf i).toNat)
  case atStart =>
    refine ⟨1, by omega, by omega, rfl, ?_, Below.refl _ _⟩
    have h1 := HN.out
    match l, h1 with
    | a :: r, _ => rfl
    | [], h1 => simp at h1; omega
  obtain ⟨q, hq1, hq, rfl, hde, hB⟩ := hrel
  have HDE := Lib.hid hde
  have HB := Lib.hid hB
  have HRr := Lib.hid (HR.out.below hB)
  clear hde hB
  by_cases hlt : q < n
  · have hkI : ((q : Nat) : Int) < (n : Int) := by omega
    obtain ⟨j, hj⟩ : ∃ j, q = j + 1 := ⟨q - 1, by omega⟩
    have HQ := Lib.hid hj
    have hjI : ((j : Nat) : Int) < (n : Int) := by omega
    have hqI : ((q : Nat) : Int) - 1 = (j : Nat) := by omega
    have hql : q < l.length := by rw [HN.out]; exact hlt
    have hjl : j < l.length := by omega
    obtain ⟨m0, m1, m2, m3⟩ := HRr.out.cell q hql
    obtain ⟨p0, p1, p2, p3⟩ := HRr.out.cell j hjl
    have hlast : (l.take q).getLast? = some l[j] := by
      rw [last_take hq1 (by omega)]
      congr 1
      simp only [hj, Nat.add_sub_cancel]
    have hsucc : l.take (q + 1) = l.take q ++ [l[q]] := List.take_succ_eq_append_getElem hql
    have HLA := Lib.hid hlast
    have HSU := Lib.hid hsucc
    have heq := fun W => cell_eql W l[q] l[j]
    obtain ⟨eb, heb⟩ : ∃ eb, decide (l[q] = l[j]) = eb := ⟨_, rfl⟩
    rw [heb] at heq
    have HEB := Lib.hid heb
    have HX := Lib.hid (show eb = false → dedA (l.take (q + 1)) = l.take (q + 1) from fun h => by
      rw [hsucc, dedA_add (by rw [hlast]; intro e; exact of_decide_eq_false (heb.trans h) (Option.some.inj e).symm), HDE.out])
    have HY := Lib.hid (show eb = true → dedA (l.take (q + 1)) = l.take q from fun h => by
      rw [hsucc, dedA_same (by rw [hlast, of_decide_eq_true (heb.trans h)]), HDE.out])
    clear hlast hsucc heb
    generalize l[q] = x at m0 m1 m2 m3 heq HSU HEB
    generalize l[j] = y at p0 p1 p2 p3 heq HLA HEB
    obtain ⟨x1, x2, x3, x4⟩ := x
    obtain ⟨y1, y2, y3, y4⟩ := y
    unfold C4.v at heq
    simp only at m0 m1 m2 m3 p0 p1 p2 p3 heq
    have hC0 : Cells [(⟨g, q * 4, none⟩, .int .i64 x1), (⟨g, q * 4 + 1, none⟩, .int .i64 x2), (⟨g, q * 4 + 2, none⟩, .int .i64 x3), (⟨g, q * 4 + 3, none⟩, .int .i64 x4), (⟨g, j * 4, none⟩, .int .i64 y1), (⟨g, j * 4 + 1, none⟩, .int .i64 y2), (⟨g, j * 4 + 2, none⟩, .int .i64 y3), (⟨g, j * 4 + 3, none⟩, .int .i64 y4)] wr := ⟨m0, m1, m2, m3, p0, p1, p2, p3, trivial⟩
    have HLT := Lib.hid hlt
    have HWP := Lib.hid (show IntKind.i64.wrap ((q : Int) - 1) = (j : Nat) from by rw [IntKind.wrap_i64] <;> omega)
    clear m0 m1 m2 m3 p0 p1 p2 p3 hlt hql hjl hj
    go_wp2_with fail
    refine wp_region_T (Cells [(⟨g, q * 4, none⟩, .int .i64 x1), (⟨g, q * 4 + 1, none⟩, .int .i64 x2), (⟨g, q * 4 + 2, none⟩, .int .i64 x3), (⟨g, q * 4 + 3, none⟩, .int .i64 x4), (⟨g, j * 4, none⟩, .int .i64 y1), (⟨g, j * 4 + 1, none⟩, .int .i64 y2), (⟨g, j * 4 + 2, none⟩, .int .i64 y3), (⟨g, j * 4 + 3, none⟩, .int .i64 y4)]) (fun _ => false) (by kernel_rfl) ?_
    have hSss1 := Cells.drew hC0
    have hB_0_s1 : Below wr.heap.size wr wr.drew := below_drew _
    generalize wr.drew = s1 at hSss1 hB_0_s1 ⊢
    have hB_s1_s1 := Below.refl s1.heap.size s1
    refine wpAnyT_pure (i := 0) (v := ?_) rfl (by kernel_rfl) (by kernel_rfl) (by kernel_rfl) (fun _ _ _ h => h) (by rfl) ?_ ?_
    rotate_left
    · intro w; go_simp; try with_reducible rfl
    simp only [Act.put, rgA, rgB, rgC, rgD, rgE, rgF]
    refine wpAnyT_pure (i := 1) (v := ?_) rfl (by kernel_rfl) (by kernel_rfl) (by kernel_rfl) (fun _ _ _ h => h) (by rfl) ?_ ?_
    rotate_left
    · intro w; go_simp; try with_reducible rfl
    simp only [Act.put, rgA, rgB, rgC, rgD, rgE, rgF]
    refine wpAnyT_pure (i := 2) (v := ?_) rfl (by kernel_rfl) (by kernel_rfl) (by kernel_rfl) (fun _ _ _ h => h) (by rfl) ?_ ?_
    rotate_left
    · intro w; go_simp; try with_reducible rfl
    simp only [Act.put, rgA, rgB, rgC, rgD, rgE, rgF]
    refine wpAnyT_pure (i := 4) (v := ?_) rfl (by kernel_rfl) (by kernel_rfl) (by kernel_rfl) (fun _ _ _ h => h) (by rfl) ?_ ?_
    rotate_left
    · intro w; go_simp; try with_reducible rfl
    simp only [Act.put, rgA, rgB, rgC, rgD, rgE, rgF]
    refine wpAnyT_pure (i := 5) (v := ?_) rfl (by kernel_rfl) (by kernel_rfl) (by kernel_rfl) (fun _ _ _ h => h) (by rfl) ?_ ?_
    rotate_left
    · intro w; go_simp; try with_reducible rfl
    simp only [Act.put, rgA, rgB, rgC, rgD, rgE, rgF]
    refine wpAnyT_loadW (i := 3) (v := ?_) rfl (by kernel_rfl) (by kernel_rfl) (by kernel_rfl) (by kernel_rfl) (by kernel_rfl) (fun _ _ _ h => h) (Or.inl ⟨by rfl, ?_⟩) hSss1 ?_
    rotate_left
    · intro w hSw; obtain ⟨e0, e1, e2, e3, e4, e5, e6, e7, -⟩ := hSw; go_simp; try with_reducible rfl
    simp only [Act.put, rgA, rgB, rgC, rgD, rgE, rgF]
    refine wpAnyT_pure (i := 6) (v := (.int .i64 (j : Nat))) rfl (by kernel_rfl) (by kernel_rfl) (by kernel_rfl) (fun _ _ _ h => h) (by rfl) ?_ ?_
    · intro w; go_simp <;> first | omega | (rw [IntKind.wrap_i64] <;> omega)
    simp only [Act.put, rgA, rgB, rgC, rgD, rgE, rgF]
    refine wpAnyT_pure (i := 7) (v := ?_) rfl (by kernel_rfl) (by kernel_rfl) (by kernel_rfl) (fun _ _ _ h => h) (by rfl) ?_ ?_
    rotate_left
    · intro w; go_simp; try with_reducible rfl
    simp only [Act.put, rgA, rgB, rgC, rgD, rgE, rgF]
    refine wpAnyT_loadW (i := 8) (v := ?_) rfl (by kernel_rfl) (by kernel_rfl) (by kernel_rfl) (by kernel_rfl) (by kernel_rfl) (fun _ _ _ h => h) (Or.inl ⟨by rfl, ?_⟩) hSss1 ?_
    rotate_left
    · intro w hSw; obtain ⟨e0, e1, e2, e3, e4, e5, e6, e7, -⟩ := hSw; go_simp; try with_reducible rfl
    simp only [Act.put, rgA, rgB, rgC, rgD, rgE, rgF]
    refine wpAnyT_pure (i := 9) (v := ?_) rfl (by kernel_rfl) (by kernel_rfl) (by kernel_rfl) (fun _ _ _ h => h) (by rfl) ?_ ?_
    rotate_left
    · intro w; go_simp; try with_reducible rfl
    simp only [Act.put, rgA, rgB, rgC, rgD, rgE, rgF]
    refine wpAnyT_done (by kernel_rfl) ?_ _
    have HBP := Lib.hid (HB.out.trans ((hB_0_s1.trans ((hB_s1_s1).mono (hB_0_s1).size)).mono HB.out.size))
    obtain ⟨w6, rfl⟩ : ∃ x, x = s1 := ⟨_, rfl⟩
    clear hC0
    cases eb
    · go_wp2_with fail
      go_roundw
      case rel => exact ⟨q + 1, by omega, HLT.out, by go_num, HX.out (by first | rfl | trivial), HBP.out⟩
      case measure => simp [intOf]; try omega
    · have HY0 := Lib.hid (HY.out (by first | rfl | trivial))
      have HR6 := Lib.hid (HR.out.below HBP.out)
      have HLC2 := Lib.hid (show n ≤ cap from by have h1 := HLC.out; rw [HN.out] at h1; exact h1)
      have hcq : ¬ cap = q := by have := HLC2.out; have := HLT.out; omega
      have hqn : q ≤ n := by have := HLT.out; omega
      have hncap : n ≤ cap := HLC2.out
      clear HX HY HEB HLA HSU heq HRr HB HWP hqI hjI
      go_wp2_with fail
      go_loopw [3, 5] (fun kv iv wr => ∃ (p kw : Nat) (d : List C4), 1 ≤ p ∧ q + p ≤ n ∧ iv = .int .i64 p ∧ kv = .int .i64 kw ∧ kw + 1 ≤ q + p ∧ CRow wr g d ∧ d.length = n ∧ d.take kw = dedA (l.take (q + p)) ∧ (∀ i, q + p ≤ i + 1 → d[i]? = l[i]?) ∧ Gr (fun b => b = g) w wr) (fun _ iv _ => n - q - (intOf iv).toNat)
      case atStart => exact ⟨1, q, l, Nat.le_refl _, HLT.out, rfl, rfl, Nat.le_refl _, HR6.out, HN.out, HY0.out.symm, fun _ _ => rfl, Gr.of_below HBP.out⟩
      obtain ⟨p, kw, d, hp1, hpn, rfl, rfl, hkw, hrow, hdl, hdt, hdi, hg⟩ := hrel
      have HROW := Lib.hid hrow
      have HDL := Lib.hid hdl
      have HDT := Lib.hid hdt
      have HDI := Lib.hid hdi
      have HG := Lib.hid hg
      clear hrow hdl hdt hdi hg
      by_cases hlp : q + p < n
      · have hpI : (p : Int) < ((n - q : Nat) : Int) := by omega
        obtain ⟨i, hi⟩ : ∃ i, p = i + 1 := ⟨p - 1, by omega⟩
        have hiI : (i : Int) < ((n - q : Nat) : Int) := by omega
        have hpi : (p : Int) - 1 = (i : Nat) := by omega
        have hpl : q + p < l.length := by rw [HN.out]; exact hlp
        have hil : q + i < l.length := by omega
        have e1 : d[q + p]'(by rw [HDL.out]; exact hlp) = l[q + p] := by
          have := HDI.out (q + p) (by omega)
          rw [List.getElem?_eq_getElem (by rw [HDL.out]; exact hlp), List.getElem?_eq_getElem hpl] at this
          exact Option.some.inj this
        have e2 : d[q + i]'(by rw [HDL.out]; omega) = l[q + i] := by
          have := HDI.out (q + i) (by omega)
          rw [List.getElem?_eq_getElem (by rw [HDL.out]; omega), List.getElem?_eq_getElem hil] at this
          exact Option.some.inj this
        obtain ⟨m0, m1, m2, m3⟩ := HROW.out.cell (q + p) (by rw [HDL.out]; exact hlp)
        obtain ⟨p0, p1, p2, p3⟩ := HROW.out.cell (q + i) (by rw [HDL.out]; omega)
        rw [e1] at m0 m1 m2 m3
        rw [e2] at p0 p1 p2 p3
        have hlast : (l.take (q + p)).getLast? = some l[q + i] := by
          rw [last_take (by omega) (by omega)]
          congr 1
          simp only [hi, ← Nat.add_assoc, Nat.add_sub_cancel]
        have hsucc : l.take (q + (p + 1)) = l.take (q + p) ++ [l[q + p]] := List.take_succ_eq_append_getElem hpl
        have hneq := fun W => cell_neq W l[q + p] l[q + i]
        obtain ⟨nb, hnb⟩ : ∃ nb, decide (l[q + p] = l[q + i]) = nb := ⟨_, rfl⟩
        rw [hnb] at hneq
        have HX := Lib.hid (show nb = false → dedA (l.take (q + (p + 1))) = dedA (l.take (q + p)) ++ [l[q + p]] from fun h => by
          rw [hsucc, dedA_add (by rw [hlast]; intro e; exact of_decide_eq_false (hnb.trans h) (Option.some.inj e).symm)])
        have HY := Lib.hid (show nb = true → dedA (l.take (q + (p + 1))) = dedA (l.take (q + p)) from fun h => by
          rw [hsucc, dedA_same (by rw [hlast, of_decide_eq_true (hnb.trans h)])])
        clear hlast hsucc hnb e1 e2
        generalize l[q + p] = x at m0 m1 m2 m3 hneq HX
        generalize l[q + i] = y at p0 p1 p2 p3 hneq
        have HXE := Lib.hid (show encC x = encC x from rfl)
        obtain ⟨x1, x2, x3, x4⟩ := x
        obtain ⟨y1, y2, y3, y4⟩ := y
        unfold C4.v at hneq
        simp only [Nat.add_mul] at m0 m1 m2 m3 p0 p1 p2 p3 hneq
        have hC0 : Cells [(⟨g, q * 4 + p * 4, none⟩, .int .i64 x1), (⟨g, q * 4 + p * 4 + 1, none⟩, .int .i64 x2), (⟨g, q * 4 + p * 4 + 2, none⟩, .int .i64 x3), (⟨g, q * 4 + p * 4 + 3, none⟩, .int .i64 x4), (⟨g, q * 4 + i * 4, none⟩, .int .i64 y1), (⟨g, q * 4 + i * 4 + 1, none⟩, .int .i64 y2), (⟨g, q * 4 + i * 4 + 2, none⟩, .int .i64 y3), (⟨g, q * 4 + i * 4 + 3, none⟩, .int .i64 y4)] wr := ⟨m0, m1, m2, m3, p0, p1, p2, p3, trivial⟩
        have HLP := Lib.hid hlp
        have HII := Lib.hid hi
        clear m0 m1 m2 m3 p0 p1 p2 p3 hlp hpl hil hi
        go_wp2_with fail
        refine wp_region_T (Cells [(⟨g, q * 4 + p * 4, none⟩, .int .i64 x1), (⟨g, q * 4 + p * 4 + 1, none⟩, .int .i64 x2), (⟨g, q * 4 + p * 4 + 2, none⟩, .int .i64 x3), (⟨g, q * 4 + p * 4 + 3, none⟩, .int .i64 x4), (⟨g, q * 4 + i * 4, none⟩, .int .i64 y1), (⟨g, q * 4 + i * 4 + 1, none⟩, .int .i64 y2), (⟨g, q * 4 + i * 4 + 2, none⟩, .int .i64 y3), (⟨g, q * 4 + i * 4 + 3, none⟩, .int .i64 y4)]) (fun _ => false) (by kernel_rfl) ?_
        have hSss2 := Cells.drew hC0
        have hB_0_s2 : Below wr.heap.size wr wr.drew := below_drew _
        generalize wr.drew = s2 at hSss2 hB_0_s2 ⊢
        have hB_s2_s2 := Below.refl s2.heap.size s2
        refine wpAnyT_pure (i := 0) (v := ?_) rfl (by kernel_rfl) (by kernel_rfl) (by kernel_rfl) (fun _ _ _ h => h) (by rfl) ?_ ?_
        rotate_left
        · intro w; go_simp; try with_reducible rfl
        simp only [Act.put, rgA, rgB, rgC, rgD, rgE, rgF]
        refine wpAnyT_pure (i := 1) (v := ?_) rfl (by kernel_rfl) (by kernel_rfl) (by kernel_rfl) (fun _ _ _ h => h) (by rfl) ?_ ?_
        rotate_left
        · intro w; go_simp; try with_reducible rfl
        simp only [Act.put, rgA, rgB, rgC, rgD, rgE, rgF]
        refine wpAnyT_pure (i := 2) (v := ?_) rfl (by kernel_rfl) (by kernel_rfl) (by kernel_rfl) (fun _ _ _ h => h) (by rfl) ?_ ?_
        rotate_left
        · intro w; go_simp; try with_reducible rfl
        simp only [Act.put, rgA, rgB, rgC, rgD, rgE, rgF]
        refine wpAnyT_pure (i := 4) (v := ?_) rfl (by kernel_rfl) (by kernel_rfl) (by kernel_rfl) (fun _ _ _ h => h) (by rfl) ?_ ?_
        rotate_left
        · intro w; go_simp; try with_reducible rfl
        simp only [Act.put, rgA, rgB, rgC, rgD, rgE, rgF]
        refine wpAnyT_pure (i := 5) (v := ?_) rfl (by kernel_rfl) (by kernel_rfl) (by kernel_rfl) (fun _ _ _ h => h) (by rfl) ?_ ?_
        rotate_left
        · intro w; go_simp; try with_reducible rfl
        simp only [Act.put, rgA, rgB, rgC, rgD, rgE, rgF]
        refine wpAnyT_loadW (i := 3) (v := ?_) rfl (by kernel_rfl) (by kernel_rfl) (by kernel_rfl) (by kernel_rfl) (by kernel_rfl) (fun _ _ _ h => h) (Or.inl ⟨by rfl, ?_⟩) hSss2 ?_
        rotate_left
        · intro w hSw; obtain ⟨e0, e1, e2, e3, e4, e5, e6, e7, -⟩ := hSw; go_simp; try with_reducible rfl
        simp only [Act.put, rgA, rgB, rgC, rgD, rgE, rgF]
        refine wpAnyT_pure (i := 6) (v := (.int .i64 (i : Nat))) rfl (by kernel_rfl) (by kernel_rfl) (by kernel_rfl) (fun _ _ _ h => h) (by rfl) ?_ ?_
        · intro w; go_simp <;> first | omega | (rw [IntKind.wrap_i64] <;> omega)
        simp only [Act.put, rgA, rgB, rgC, rgD, rgE, rgF]
        refine wpAnyT_pure (i := 7) (v := ?_) rfl (by kernel_rfl) (by kernel_rfl) (by kernel_rfl) (fun _ _ _ h => h) (by rfl) ?_ ?_
        rotate_left
        · intro w; go_simp; try with_reducible rfl
        simp only [Act.put, rgA, rgB, rgC, rgD, rgE, rgF]
        refine wpAnyT_loadW (i := 8) (v := ?_) rfl (by kernel_rfl) (by kernel_rfl) (by kernel_rfl) (by kernel_rfl) (by kernel_rfl) (fun _ _ _ h => h) (Or.inl ⟨by rfl, ?_⟩) hSss2 ?_
        rotate_left
        · intro w hSw; obtain ⟨e0, e1, e2, e3, e4, e5, e6, e7, -⟩ := hSw; go_simp; try with_reducible rfl
        simp only [Act.put, rgA, rgB, rgC, rgD, rgE, rgF]
        refine wpAnyT_pure (i := 9) (v := ?_) rfl (by kernel_rfl) (by kernel_rfl) (by kernel_rfl) (fun _ _ _ h => h) (by rfl) ?_ ?_
        rotate_left
        · intro w; go_simp; try with_reducible rfl
        simp only [Act.put, rgA, rgB, rgC, rgD, rgE, rgF]
        refine wpAnyT_done (by kernel_rfl) ?_ _
        have HB11 := Lib.hid (hB_0_s2.trans ((hB_s2_s2).mono (hB_0_s2).size))
        have hC1 := Cells.below HB11.out hC0
        obtain ⟨w11, rfl⟩ : ∃ x, x = s2 := ⟨_, rfl⟩
        have HROW2 := Lib.hid (HROW.out.below HB11.out)
        have HG2 := Lib.hid (HG.out.trans (Gr.of_below HB11.out) (fun _ h => .inl h))
        clear hC0
        cases nb
        · obtain ⟨m0, m1, m2, m3, -⟩ := hC1
          have hkn : kw < n := by have := HLP.out; omega
          have hknI : (kw : Int) < (n : Int) := by omega
          obtain ⟨hs, hnrow⟩ := HROW2.out.set Try.prog kw (by rw [HDL.out]; exact hkn) ⟨x1, x2, x3, x4⟩
          have HGS := Lib.hid (gr_setCells g (encC ⟨x1, x2, x3, x4⟩) (kw * 4) w11)
          have HNR := Lib.hid hnrow
          have HD2 := Lib.hid (show (d.set kw ⟨x1, x2, x3, x4⟩).take (kw + 1) = dedA (l.take (q + (p + 1))) from by
            rw [HX.out (by first | rfl | trivial), ← HDT.out, List.take_succ_eq_append_getElem (by rw [List.length_set, HDL.out]; exact hkn), List.getElem_set_self, List.take_set_of_le (Nat.le_refl _)])
          have HD3 := Lib.hid (show ∀ i, q + (p + 1) ≤ i + 1 → (d.set kw ⟨x1, x2, x3, x4⟩)[i]? = l[i]? from fun i hi => by
            rw [List.getElem?_set_ne (by omega)]
            exact HDI.out i (by omega))
          clear hnrow
          go_wp2_with (refine wpList_storeK rfl 38 (.tmp 51) (.tmp 50) rfl ⟨g, kw * 4, none⟩ (.agg #[.int .i64 x1, .int .i64 x2, .int .i64 x3, .int .i64 x4]) rfl rfl (sizeC' _) hs ?_)
          go_roundw
          case rel => exact ⟨p + 1, kw + 1, d.set kw ⟨x1, x2, x3, x4⟩, by omega, HLP.out, by go_num, by go_num, by omega, HNR.out, by rw [List.length_set]; exact HDL.out, HD2.out, HD3.out, HG2.out.trans HGS.out (fun _ h => .inl h)⟩
          case measure => (have := HLP.out; simp [intOf]; try omega)
        · clear hC1
          go_wp2_with fail
          go_roundw
          case rel => exact ⟨p + 1, kw, d, by omega, HLP.out, by go_num, rfl, by omega, HROW2.out, HDL.out, by rw [HY.out (by first | rfl | trivial)]; exact HDT.out, fun i hi => HDI.out i (by omega), HG2.out⟩
          case measure => (have := HLP.out; simp [intOf]; try omega)
      · have hqp : q + p = n := by omega
        have hall : l.take (q + p) = l := List.take_of_length_le (by rw [HN.out]; omega)
        have HD4 := Lib.hid (show d.take kw = dedA l from by rw [HDT.out, hall])
        have HKW := Lib.hid (show (dedA l).length = kw from by rw [← HD4.out, List.length_take, HDL.out]; omega)
        have hkn : kw < n := by omega
        have hpI : ¬ (p : Int) < ((n - q : Nat) : Int) := by omega
        have hknI : (kw : Int) ≤ (n : Int) := by omega
        have hkcI : (kw : Int) ≤ (cap : Int) := by omega
        have hck : ¬ cap = kw := by omega
        obtain ⟨w', hrun, hcr, hgc⟩ := HROW.out.clear kw (n - kw) (cap - kw) (by omega) (by rw [HDL.out]; omega) 0
        have HCR := Lib.hid hcr
        have HGC := Lib.hid hgc
        clear hcr hgc hall
        go_wp2_with fail
        go_ret
        exact ⟨by rw [HKW.out]; rfl, by have h := HCR.out; rw [HD4.out] at h; exact h, HG.out.trans HGC.out (fun _ h => .inl h)⟩
  · obtain rfl : n = q := by omega
    have hall : l.take n = l := List.take_of_length_le (by rw [HN.out]; exact Nat.le_refl _)
    have hd : dedA l = l := by have := HDE.out; rw [hall] at this; exact this
    clear hall
    go_wp2_with fail
    go_ret
    exact ⟨by rw [hd, HN.out]; rfl, by rw [hd]; exact HRr.out, Gr.of_below HB.out⟩
end Go.Proofs.Ytoimbhdjhhmonaa

/- Layer 47: valid cells; Clone, ContainsFunc. -/
set_option linter.unusedSimpArgs false
set_option maxRecDepth 50000
namespace Go.Proofs.Ytoimbhdjhhmonaa
open Go.RowKit Go

set_option maxHeartbeats 1000000 in
theorem valid47 (w : World) (c : C4) : Calls Try.prog 47 #[c.v] w fun e w' => e = .returned (.bool (validC c)) ∧ Below w.heap.size w w' := by
  obtain ⟨s, en, ot, pe⟩ := c
  have hB := (Below.refl w.heap.size w).alloc (Nat.le_refl _) (.cells #[.int .i64 s, .int .i64 en, .int .i64 ot, .int .i64 pe] 38)
  have HK := Lib.hid (heap_alloc_new w (.cells #[.int .i64 s, .int .i64 en, .int .i64 ot, .int .i64 pe] 38))
  have HB := Lib.hid hB
  clear hB
  have HU := Lib.hid (fun W => uses47 W s)
  have HN := Lib.hid (fun W => known47 W s)
  have HI1 := Lib.hid (fun W => in47 W (useE s) en 12)
  have HI2 := Lib.hid (fun W => in47 W (useO s) ot 12)
  have HI3 := Lib.hid (fun W => in47 W (useP s) pe 120)
  unfold validC C4.v
  simp only
  generalize knownB s = kb at HU HN ⊢
  generalize inB (useE s) en 12 = b1 at HI1 ⊢
  generalize inB (useO s) ot 12 = b2 at HI2 ⊢
  generalize inB (useP s) pe 120 = b3 at HI3 ⊢
  generalize useE s = ue at HU HI1
  generalize useO s = uo at HU HI2 ⊢
  generalize useP s = up at HU HI3
  go_enter Try.func47, Try.ntmps47
  go_wp2_with fail
  generalize World.alloc _ _ = w1 at *
  have y0 := blk_cell HK.out 0
  have y1 := blk_cell HK.out 1
  have y2 := blk_cell HK.out 2
  have y3 := blk_cell HK.out 3
  simp at y0 y1 y2 y3
  have hX := HU.out w1
  refine Calls.mono hX ?_
  clear hX
  rintro e w2 ⟨rfl, hb2⟩
  have HB2 := Lib.hid (below_step HB.out hb2)
  have HK2 := Lib.hid ((hb2.block _ (blk_lt HK.out)).trans HK.out)
  clear hb2 y0 y1 y2 y3 HU HK HB
  have y0 := blk_cell HK2.out 0
  have y1 := blk_cell HK2.out 1
  have y2 := blk_cell HK2.out 2
  have y3 := blk_cell HK2.out 3
  simp at y0 y1 y2 y3
  go_wp2_with fail
  have hX := HN.out w2
  refine Calls.mono hX ?_
  clear hX
  rintro e w3 ⟨rfl, hw3⟩
  rw [hw3]
  clear hw3 w3 HN
  cases kb
  · go_wp2_with fail
    go_ret
    exact ⟨rfl, HB2.out⟩
  go_wp2_with fail
  have hX := HI1.out w2
  refine Calls.mono hX ?_
  clear hX
  rintro e w3 ⟨rfl, hw3⟩
  rw [hw3]
  clear hw3 w3
  cases b1
  · go_wp2_with fail
    go_ret
    exact ⟨rfl, HB2.out⟩
  go_wp2_with fail
  have hX := HI2.out w2
  refine Calls.mono hX ?_
  clear hX
  rintro e w3 ⟨rfl, hw3⟩
  rw [hw3]
  clear hw3 w3
  cases b2
  · go_wp2_with fail
    go_ret
    exact ⟨rfl, HB2.out⟩
  go_wp2_with fail
  have hX := HI3.out w2
  refine Calls.mono hX ?_
  clear hX
  rintro e w3 ⟨rfl, hw3⟩
  rw [hw3]
  clear hw3 w3
  cases b3
  · go_wp2_with fail
    go_ret
    exact ⟨rfl, HB2.out⟩
  cases uo
  · go_wp2_with fail
    go_ret
    exact ⟨rfl, HB2.out⟩
  · by_cases he : en = ot
    · subst he
      go_wp2_with fail
      go_ret
      exact ⟨ret_bool (by simp), HB2.out⟩
    · go_wp2_with fail
      go_ret
      exact ⟨ret_bool (by simp [he]), HB2.out⟩
theorem ruses47 (w : World) (s : Int) : Calls Try.prog 68 #[.int .i64 s] w fun e w' => e = .returned (.tuple #[.bool (useE s), .bool (useO s), .bool (useP s)]) ∧ w' = w := by
  by_cases hin : 1 ≤ s ∧ s ≤ 22
  · have hs : s = 1 ∨ s = 2 ∨ s = 3 ∨ s = 4 ∨ s = 5 ∨ s = 6 ∨ s = 7 ∨ s = 8 ∨ s = 9 ∨ s = 10 ∨ s = 11 ∨ s = 12 ∨ s = 13 ∨ s = 14 ∨ s = 15 ∨ s = 16 ∨ s = 17 ∨ s = 18 ∨ s = 19 ∨ s = 20 ∨ s = 21 ∨ s = 22 := by omega
    clear hin
    rcases hs with rfl | rfl | rfl | rfl | rfl | rfl | rfl | rfl | rfl | rfl | rfl | rfl | rfl | rfl | rfl | rfl | rfl | rfl | rfl | rfl | rfl | rfl
    all_goals
      go_enter Try.func68, Try.ntmps68
      go_wp2_with fail
      refine bodyPost_ret (results_tmp3 rfl _ _ _) rfl ?_
      exact ⟨rfl, rfl⟩
  · have h1 : useE s = false := by unfold useE; simp; omega
    have h2 : useO s = false := by unfold useO; simp; omega
    have h3 : useP s = false := by unfold useP; simp; omega
    rw [h1, h2, h3]
    have n1 : (s == 1) = false := by simp; omega
    have n2 : (s == 5) = false := by simp; omega
    have n3 : (s == 7) = false := by simp; omega
    have n4 : (s == 8) = false := by simp; omega
    have n5 : (s == 9) = false := by simp; omega
    have n6 : (s == 10) = false := by simp; omega
    have n7 : (s == 11) = false := by simp; omega
    have n8 : (s == 12) = false := by simp; omega
    have n9 : (s == 13) = false := by simp; omega
    have n10 : (s == 14) = false := by simp; omega
    have n11 : (s == 15) = false := by simp; omega
    have n12 : (s == 16) = false := by simp; omega
    have n13 : (s == 17) = false := by simp; omega
    have n14 : (s == 18) = false := by simp; omega
    have n15 : (s == 19) = false := by simp; omega
    have n16 : (s == 20) = false := by simp; omega
    have n17 : (s == 21) = false := by simp; omega
    have n18 : (s == 22) = false := by simp; omega
    clear hin h1 h2 h3
    go_enter Try.func68, Try.ntmps68
    go_wp2_with fail
    refine bodyPost_ret (results_tmp3 rfl _ _ _) rfl ?_
    exact ⟨rfl, rfl⟩
end Go.Proofs.Ytoimbhdjhhmonaa

/- Layer 47: cloning cells; which cells are not valid. -/
set_option linter.unusedSimpArgs false
set_option maxRecDepth 20000
namespace Go.Proofs.Ytoimbhdjhhmonaa
open Go.RowKit Go

theorem clone47 {S : Nat → Prop} (w : World) (a : Option Addr) (len cap : Nat) (xs : List cellT.den) (h : Rd (.sl cellT) S w [.slice a len cap] xs) (hS : ∀ b, S b → b < w.heap.size) (hlen : len ≤ 1000000) :
    Calls Try.prog 37 #[.slice a len cap] w fun e w' => ∃ v, e = .returned v ∧ Below w.heap.size w w' ∧ Owns cellT 38 w.heap.size (fun _ => False) w' v xs := by
  obtain ⟨a', len', cap', he, h1, h2, h3, h4⟩ := id h
  simp only [List.cons.injEq, Value.slice.injEq, and_true] at he
  obtain ⟨rfl, rfl, rfl⟩ := he
  have hz := fun w => Lib.run_eql_slice_nil (P := Try.prog) w 23 _ a len cap 0 0 Try.underlying23
  cases a with
  | none =>
    have h0 : len = 0 := by
      rcases h4 with h0 | ⟨b, off, h0, _⟩
      · exact h0
      · cases h0
    subst h0
    obtain rfl : xs = [] := List.eq_nil_of_length_eq_zero h1
    clear h h4 h1
    simp only [Option.isNone] at hz
    go_enter Try.func37, Try.ntmps37
    go_wp2
    go_ret
    exact ⟨_, rfl, Below.refl _ _, Owns.nil _ _ _ _⟩
  | some ad =>
    clear h4
    have H := Lib.hid h
    have H1 := Lib.hid h1
    clear h h1
    simp only [Option.isNone] at hz
    go_enter Try.func37, Try.ntmps37
    go_wp2_with (at_builtin; go_must (refine wpList_copy w rfl _ _ 23 rfl (e := cellT) info_cell Try.underlying23 rfl (by decide) rfl (S := S) (sv := .slice (some ad) len cap) (xs := xs) rfl H.out hS H1.out (by omega) (by omega) ?_; intro g cv w1 O1 hg hB1 h5 h6; have HO1 := Lib.hid (Owns.flat (e := cellT) rfl O1); clear O1))
    go_ret
    exact ⟨_, rfl, hB1, HO1.out⟩
theorem setLit47 (w : World) (c : C4) : Calls Try.prog 49 #[c.v] w fun e w' => e = .returned (.bool (!validC c)) ∧ Below w.heap.size w w' := by
  obtain ⟨c1, c2, c3, c4⟩ := c
  have hB0 : Below w.heap.size w (w.alloc (.cells #[.int .i64 c1, .int .i64 c2, .int .i64 c3, .int .i64 c4] 38)) := (Below.refl _ w).alloc (Nat.le_refl _) _
  have HB0 := Lib.hid hB0
  have HV := Lib.hid (valid47 (w.alloc (.cells #[.int .i64 c1, .int .i64 c2, .int .i64 c3, .int .i64 c4] 38)) ⟨c1, c2, c3, c4⟩)
  clear hB0
  unfold C4.v at *
  go_enter Try.func49, Try.ntmps49
  go_wp2_with (go_at_call 47; refine HV.out.mono ?_; rintro e w1 ⟨rfl, hw⟩; have HW := Lib.hid hw; clear hw)
  go_ret
  exact ⟨by first | rfl | simp, HB0.out.trans (HW.out.mono (by simp))⟩
set_option maxHeartbeats 1000000 in
theorem indexV47 {S : Nat → Prop} (w : World) (a : Option Addr) (len cap : Nat) (l : List C4) (hx : Rd (.sl cellT) S w [.slice a len cap] (l.map C4.d)) (hS : ∀ b, S b → b < w.heap.size) :
    Calls Try.prog 42 #[.slice a len cap, .func (.func 49) #[] #[]] w fun e w' => (∃ r : Int, e = .returned (.int .i64 r) ∧ decide (0 ≤ r) = l.any (fun c => !validC c)) ∧ Below w.heap.size w w' := by
  obtain ⟨hl, hlc, hm, -⟩ := hx.sl_flat
  rw [show (l.map C4.d).length = l.length from List.length_map _] at hl
  have HX := Lib.hid hx
  have HL := Lib.hid hl
  have HS := Lib.hid hS
  clear hx hl hS
  go_enter Try.func42, Try.ntmps42
  go_wp2_with fail
  go_loopw [5, 8] (fun _ i wr => ∃ (k : Nat), k ≤ len ∧ i = .int .i64 k ∧ (l.take k).any (fun c => !validC c) = false ∧ Below w.heap.size w wr) (fun _ i _ => len - (intOf i).toNat)
  case atStart => exact ⟨0, Nat.zero_le _, rfl, rfl, Below.refl _ _⟩
  case round =>
    obtain ⟨k, hk, rfl, hany, hB⟩ := hrel
    have HB := Lib.hid hB
    by_cases hlt : k < len
    · have hkx : k < l.length := by rw [HL.out]; exact hlt
      obtain ⟨b, o, rfl, -, m0, m1, m2, m3, -⟩ := cell_at (HX.out.below hB HS.out) k hkx
      have hstep : (l.take (k + 1)).any (fun c => !validC c) = !validC l[k] := by
        rw [List.take_succ_eq_append_getElem hkx, List.any_append, hany]
        simp
      have hsome : (!validC l[k]) = true → l.any (fun c => !validC c) = true := fun h => List.any_eq_true.2 ⟨l[k], List.getElem_mem hkx, h⟩
      have HST := Lib.hid hstep
      have HSO := Lib.hid hsome
      have hkI : (k : Int) < (len : Int) := by omega
      clear hstep hsome hany hB
      generalize l[k] = q at m0 m1 m2 m3 HST HSO
      have HCL := Lib.hid (setLit47 wr q)
      obtain ⟨bd, hbd⟩ : ∃ bd, (!validC q) = bd := ⟨_, rfl⟩
      rw [hbd] at HST HSO HCL
      clear hbd
      obtain ⟨q1, q2, q3, q4⟩ := q
      unfold C4.v at HCL
      simp only at m0 m1 m2 m3
      cases bd
      · go_wp2_with (go_at_call 49; refine (HCL.out).mono ?_; rintro e w1 ⟨rfl, hw⟩; have HW := Lib.hid hw; clear hw)
        go_roundw
        case rel => exact ⟨k + 1, by omega, by go_num, HST.out, below_step HB.out HW.out⟩
        case measure => simp [intOf]; omega
      · go_wp2_with (go_at_call 49; refine (HCL.out).mono ?_; rintro e w1 ⟨rfl, hw⟩; have HW := Lib.hid hw; clear hw)
        go_ret
        refine ⟨⟨(k : Int), ?_, ?_⟩, ?_⟩
        · first | rfl | simp
        · rw [HSO.out (by first | rfl | trivial)]; exact decide_eq_true (by omega)
        · exact below_step HB.out HW.out
    · obtain rfl : k = len := by omega
      rw [List.take_of_length_le (by rw [HL.out]; exact Nat.le_refl _)] at hany
      have HN := Lib.hid hany
      clear hany hB
      go_wp2_with fail
      go_ret
      refine ⟨⟨-1, ?_, ?_⟩, ?_⟩
      · first | rfl | simp
      · rw [HN.out]; rfl
      · exact HB.out
set_option maxHeartbeats 1000000 in
theorem containsV47 {S : Nat → Prop} (w : World) (a : Option Addr) (len cap : Nat) (l : List C4) (hx : Rd (.sl cellT) S w [.slice a len cap] (l.map C4.d)) (hS : ∀ b, S b → b < w.heap.size) :
    Calls Try.prog 48 #[.slice a len cap, .func (.func 49) #[] #[]] w fun e w' => e = .returned (.bool (l.any (fun c => !validC c))) ∧ Below w.heap.size w w' := by
  have HX := Lib.hid (indexV47 w a len cap l hx hS)
  clear hx
  go_enter Try.func48, Try.ntmps48
  go_wp2_with fail
  refine (HX.out).mono ?_
  rintro e w1 ⟨⟨r, rfl, hr⟩, hw⟩
  go_wp2
  go_ret
  exact ⟨by rw [← hr]; rfl, hw⟩
end Go.Proofs.Ytoimbhdjhhmonaa

/- Layer 47: a graph in memory. F says what a block is: 1 the graph's row, 2 the map of the reads, 3 the map of the readers, 4 a set of readers, 5 a row of reads, 0 none of these. -/
set_option linter.unusedSimpArgs false
namespace Go.Proofs.Ytoimbhdjhhmonaa
open Go.RowKit Go

def SlAt (F : Nat → Nat) (w : World) (s : SlV) (l : List C4) : Prop :=
  (s = ⟨none, 0, 0⟩ ∧ l = []) ∨ ∃ g cap, s = ⟨some (g, 0), l.length, cap⟩ ∧ F g = 5 ∧ l.length ≤ cap ∧ cap ≤ 9223372036854775807 ∧ CRow w g l ∧ ∀ x ∈ l, x.ok
theorem SlAt.rd {F : Nat → Nat} {w : World} {s : SlV} {l : List C4} (h : SlAt F w s l) : Rd (.sl cellT) (fun b => F b = 5) w [s.v] (l.map C4.d) := by
  rcases h with ⟨rfl, rfl⟩ | ⟨g, cap, rfl, h1, h2, h3, h4, h5⟩
  · exact ⟨none, 0, 0, rfl, rfl, Nat.le_refl _, by decide, .inl rfl⟩
  · exact (h4.rd h5 cap h2 h3).keep (fun _ _ => rfl) (fun b e => by rw [e]; exact h1)
theorem SlAt.keep {F F' : Nat → Nat} {w w' : World} {s : SlV} {l : List C4} (h : SlAt F w s l) (hF : ∀ b, F b = 5 → F' b = 5) (hw : ∀ b, F b = 5 → w'.heap[b]? = w.heap[b]?) : SlAt F' w' s l := by
  rcases h with h | ⟨g, cap, e, h1, h2, h3, h4, h5⟩
  · exact .inl h
  · exact .inr ⟨g, cap, e, hF g h1, h2, h3, h4.keep (hw g h1), h5⟩
theorem SlAt.form {F : Nat → Nat} {w : World} {s : SlV} {l : List C4} (h : SlAt F w s l) : ∃ a c, s.v = .slice a l.length c := by
  rcases h with ⟨rfl, rfl⟩ | ⟨g, cap, rfl, -⟩
  · exact ⟨_, _, rfl⟩
  · exact ⟨_, _, rfl⟩
theorem SlAt.of_slc {F : Nat → Nat} {base : Nat} {w : World} {v : Value} {l : List C4} (h : SlC base w v l) : ∃ s : SlV, s.v = v ∧ SlAt (fun b => if v.ownBlock = some b then 5 else F b) w s l := by
  rcases h with ⟨rfl, rfl⟩ | ⟨g, cap, rfl, h1, h2, h3, h4, h5⟩
  · exact ⟨⟨none, 0, 0⟩, rfl, .inl ⟨rfl, rfl⟩⟩
  · exact ⟨⟨some (g, 0), l.length, cap⟩, rfl, .inr ⟨g, cap, rfl, by simp [Value.ownBlock], h2, h3, h4, h5⟩⟩
/-- The set of readers, as a map's contents. -/
def setF (s : C4 → Bool) (c : C4) : Option Bool := if s c then some true else none
structure DepM (F : Nat → Nat) (w : World) (p mr ms n k K : Nat) (sl : C4 → Option SlV) (rd : C4 → Option (List C4)) (ib : C4 → Option Nat) (rs : C4 → C4 → Bool) : Prop where
  row : w.heap[p]? = some (.cells #[.map (some mr), .map (some ms)] 62 (0, 0))
  fp : F p = 1
  fr : F mr = 2
  fs : F ms = 3
  mapr : MapG cellK slE w mr n sl
  maps : MapG cellK mapE w ms k (fun d => (ib d).map some)
  som : ∀ c, (sl c).isSome = (rd c).isSome
  sls : ∀ c s l, sl c = some s → rd c = some l → SlAt F w s l
  inn : ∀ d b, ib d = some b → F b = 4 ∧ ∃ cnt, cnt ≤ K ∧ MapG cellK boolE w b cnt (setF (rs d))
  inj : ∀ d e b, ib d = some b → ib e = some b → d = e
  okc : ∀ c, (sl c).isSome = true → c.ok
  oki : ∀ d, (ib d).isSome = true → d.ok
  okr : ∀ d c, rs d c = true → (ib d).isSome = true ∧ c.ok
  dom : ∀ b, F b ≠ 0 → b < w.heap.size
  hk : k ≤ K
  len : ∀ c l, rd c = some l → l.length ≤ 200
variable {F : Nat → Nat} {w w' : World} {p mr ms n k K : Nat} {sl : C4 → Option SlV} {rd : C4 → Option (List C4)} {ib : C4 → Option Nat} {rs : C4 → C4 → Bool}
/-- Blocks of no part have turned. -/
theorem DepM.gr {G : Nat → Prop} (h : DepM F w p mr ms n k K sl rd ib rs) (hg : Gr G w w') (hd : ∀ b, F b ≠ 0 → ¬ G b) : DepM F w' p mr ms n k K sl rd ib rs where
  row := blk_gr hg h.row (hd _ (by rw [h.fp]; decide))
  fp := h.fp
  fr := h.fr
  fs := h.fs
  mapr := h.mapr.gr hg (hd _ (by rw [h.fr]; decide))
  maps := h.maps.gr hg (hd _ (by rw [h.fs]; decide))
  som := h.som
  sls := fun c s l hs hl => (h.sls c s l hs hl).keep (fun _ e => e) (fun b e => hg.block b (h.dom b (by rw [e]; decide)) (hd b (by rw [e]; decide)))
  inn := fun d b e => by obtain ⟨h1, cnt, h2, h3⟩ := h.inn d b e; exact ⟨h1, cnt, h2, h3.gr hg (hd b (by rw [h1]; decide))⟩
  inj := h.inj
  okc := h.okc
  oki := h.oki
  okr := h.okr
  dom := fun b hb => Nat.lt_of_lt_of_le (h.dom b hb) hg.size
  hk := h.hk
  len := h.len
theorem DepM.below (h : DepM F w p mr ms n k K sl rd ib rs) (hB : Below w.heap.size w w') : DepM F w' p mr ms n k K sl rd ib rs :=
  h.gr (G := fun _ => False) (Gr.of_below hB) (fun _ _ h => h)
/-- One map has turned: the reads. -/
theorem DepM.turnR {n' : Nat} {sl' : C4 → Option SlV} {rd' : C4 → Option (List C4)} {F' : Nat → Nat} (h : DepM F w p mr ms n k K sl rd ib rs) (hg : Gr (fun b => b = mr) w w') (hM : MapG cellK slE w' mr n' sl')
    (hF : ∀ b, F b ≠ 0 → F' b = F b) (hdom : ∀ b, F' b ≠ 0 → b < w'.heap.size)
    (hsom : ∀ c, (sl' c).isSome = (rd' c).isSome) (hsl : ∀ c s l, sl' c = some s → rd' c = some l → SlAt F' w' s l) (hok : ∀ c, (sl' c).isSome = true → c.ok) (hlen : ∀ c l, rd' c = some l → l.length ≤ 200) : DepM F' w' p mr ms n' k K sl' rd' ib rs :=
  have hne : ∀ b j, F b = j → j ≠ 2 → ¬ b = mr := fun b j e hj hb => hj (by rw [← e, hb, h.fr])
  { row := blk_gr hg h.row (hne _ _ h.fp (by decide))
    fp := (hF p (by rw [h.fp]; decide)).trans h.fp
    fr := (hF mr (by rw [h.fr]; decide)).trans h.fr
    fs := (hF ms (by rw [h.fs]; decide)).trans h.fs
    mapr := hM
    maps := h.maps.gr hg (hne _ _ h.fs (by decide))
    som := hsom
    sls := hsl
    inn := fun d b e => by obtain ⟨h1, cnt, h2, h3⟩ := h.inn d b e; exact ⟨(hF b (by rw [h1]; decide)).trans h1, cnt, h2, h3.gr hg (hne _ _ h1 (by decide))⟩
    inj := h.inj
    okc := hok
    oki := h.oki
    okr := h.okr
    dom := hdom
    hk := h.hk
    len := hlen }
/-- The map of the readers has turned, or a set in it; new sets may have come. -/
theorem DepM.turnS {k' K' : Nat} {ib' : C4 → Option Nat} {rs' : C4 → C4 → Bool} {F' : Nat → Nat} (h : DepM F w p mr ms n k K sl rd ib rs) (hg : Gr (fun b => F b = 3 ∨ F b = 4) w w') (hM : MapG cellK mapE w' ms k' (fun d => (ib' d).map some))
    (hF : ∀ b, F b ≠ 0 → F' b = F b) (hdom : ∀ b, F' b ≠ 0 → b < w'.heap.size)
    (hinn : ∀ d b, ib' d = some b → F' b = 4 ∧ ∃ cnt, cnt ≤ K' ∧ MapG cellK boolE w' b cnt (setF (rs' d))) (hinj : ∀ d e b, ib' d = some b → ib' e = some b → d = e)
    (hoki : ∀ d, (ib' d).isSome = true → d.ok) (hokr : ∀ d c, rs' d c = true → (ib' d).isSome = true ∧ c.ok) (hk' : k' ≤ K') : DepM F' w' p mr ms n k' K' sl rd ib' rs' :=
  have hne : ∀ b j, F b = j → j ≠ 3 → j ≠ 4 → ¬ (F b = 3 ∨ F b = 4) := fun b j e h3 h4 hb => by omega
  { row := blk_gr hg h.row (hne _ _ h.fp (by decide) (by decide))
    fp := (hF p (by rw [h.fp]; decide)).trans h.fp
    fr := (hF mr (by rw [h.fr]; decide)).trans h.fr
    fs := (hF ms (by rw [h.fs]; decide)).trans h.fs
    mapr := h.mapr.gr hg (hne _ _ h.fr (by decide) (by decide))
    maps := hM
    som := h.som
    sls := fun c s l hs hl => (h.sls c s l hs hl).keep (fun b e => (hF b (by rw [e]; decide)).trans e) (fun b e => hg.block b (h.dom b (by rw [e]; decide)) (hne _ _ e (by decide) (by decide)))
    inn := hinn
    inj := hinj
    okc := h.okc
    oki := hoki
    okr := hokr
    dom := hdom
    hk := hk'
    len := h.len }
/-- delete(g.reads, c) -/
theorem DepM.dropR (h : DepM F w p mr ms n k K sl rd ib rs) (c : C4) (hc : c.ok) (ty : TypeId) :
    ∃ w', Sem.run Try.prog (Builtin.delete_ #[59, 38] ty #[.map (some mr), c.v]) w = .ok (.tuple #[]) w' ∧ Gr (fun b => b = mr) w w' ∧
      DepM F w' p mr ms (if (rd c).isSome then n - 1 else n) k K (fun x => if x = c then none else sl x) (fun x => if x = c then none else rd x) ib rs := by
  obtain ⟨w', h1, h2, h3⟩ := h.mapr.drop Try.underlying59 c hc ty
  have hg := Gr.of_turned h3
  rw [h.som c] at h2
  refine ⟨w', h1, hg, h.turnR hg h2 (fun _ _ => rfl) (fun b hb => Nat.lt_of_lt_of_le (h.dom b hb) hg.size) (fun x => ?_) (fun x s l hs hl => ?_) (fun x hx => ?_) (fun x l hl => ?_)⟩
  · by_cases e : x = c
    · simp [e]
    · simp [e, h.som x]
  · by_cases e : x = c
    · simp [e] at hs
    · simp only [if_neg e] at hs hl
      exact (h.sls x s l hs hl).keep (fun _ e => e) (fun b e' => hg.block b (h.dom b (by rw [e']; decide)) (fun e2 => by rw [e2, h.fr] at e'; cases e'))
  · by_cases e : x = c
    · rw [e]; exact hc
    · simp only [if_neg e] at hx
      exact h.okc x hx
  · by_cases e : x = c
    · simp [e] at hl
    · simp only [if_neg e] at hl
      exact h.len x l hl
/-- g.reads[c] = l -/
theorem DepM.putR (h : DepM F w p mr ms n k K sl rd ib rs) (hn : n < maxLen) (c : C4) (hc : c.ok) (s : SlV) (l : List C4) (hl : l.length ≤ 200) (base : Nat) (hb : base ≤ w.heap.size) (hfree : ∀ b, base ≤ b → F b = 0) (hs : SlC base w s.v l) :
    ∃ w' F', Sem.run Try.prog (Instr.mapUpdate 59 (.map (some mr)) c.v s.v) w = .ok () w' ∧ Gr (fun b => b = mr) w w' ∧ (∀ b, b < base → F' b = F b) ∧
      (∀ b, F' b ≠ 0 → F b ≠ 0 ∨ s.v.ownBlock = some b) ∧ DepM F' w' p mr ms (if (rd c).isSome then n else n + 1) k K (fun x => if x = c then some s else sl x) (fun x => if x = c then some l else rd x) ib rs := by
  obtain ⟨w', h1, h2, h3⟩ := h.mapr.store Try.underlying59 hn c hc s trivial
  have hg := Gr.of_turned h3
  rw [h.som c] at h2
  obtain ⟨s', e, hat⟩ := SlAt.of_slc (F := F) hs
  have hes : s' = s := by
    obtain ⟨_ | ⟨a, o⟩, l1, c1⟩ := s <;> obtain ⟨_ | ⟨a', o'⟩, l2, c2⟩ := s' <;> simp [SlV.v] at e ⊢
    · exact e
    · exact ⟨⟨e.1.1, e.1.2⟩, e.2⟩
  subst hes
  have hown : ∀ b, s'.v.ownBlock = some b → base ≤ b ∧ b < w.heap.size := fun b hb => by
    rcases hs with ⟨e, -⟩ | ⟨g, cap, e, h1, -, -, h4, -⟩
    · rw [e] at hb; cases hb
    · rw [e] at hb; cases hb; exact ⟨h1, h4.lt⟩
  have hF : ∀ b, F b ≠ 0 → (if s'.v.ownBlock = some b then 5 else F b) = F b := fun b hb => by
    rw [if_neg]
    intro e
    exact hb (hfree b (hown b e).1)
  refine ⟨w', fun b => if s'.v.ownBlock = some b then 5 else F b, h1, hg, fun b hb => ?_, fun b hb => ?_, h.turnR hg h2 hF (fun b hb => ?_) (fun x => ?_) (fun x s l hs hl => ?_) (fun x hx => ?_) (fun x l hl => ?_)⟩
  · show (if s'.v.ownBlock = some b then 5 else F b) = F b
    rw [if_neg]
    intro e
    have := (hown b e).1
    omega
  · by_cases e : s'.v.ownBlock = some b
    · exact .inr e
    · simp only [if_neg e] at hb
      exact .inl hb
  · refine Nat.lt_of_lt_of_le ?_ hg.size
    by_cases e : s'.v.ownBlock = some b
    · exact (hown b e).2
    · simp only [if_neg e] at hb
      exact h.dom b hb
  · by_cases e : x = c
    · simp [e]
    · simp [e, h.som x]
  · by_cases e : x = c
    · simp only [if_pos e, Option.some.injEq] at hs hl
      subst hs hl
      exact hat.keep (fun _ e => e) (fun b e' => hg.block b (by
        by_cases e2 : s'.v.ownBlock = some b
        · exact (hown b e2).2
        · simp only [if_neg e2] at e'; exact h.dom b (by rw [e']; decide)) (fun e2 => by
        subst e2
        rw [hF b (by rw [h.fr]; decide), h.fr] at e'
        cases e'))
    · simp only [if_neg e] at hs hl
      exact (h.sls x s l hs hl).keep (fun b e' => (hF b (by rw [e']; decide)).trans e') (fun b e' => hg.block b (h.dom b (by rw [e']; decide)) (fun e2 => by rw [e2, h.fr] at e'; cases e'))
  · by_cases e : x = c
    · rw [e]; exact hc
    · simp only [if_neg e] at hx
      exact h.okc x hx
  · by_cases e : x = c
    · simp only [if_pos e, Option.some.injEq] at hl
      subst hl; assumption
    · simp only [if_neg e] at hl
      exact h.len x l hl
/-- delete(g.readers[d], c) -/
theorem DepM.dropI (h : DepM F w p mr ms n k K sl rd ib rs) (d c : C4) (b : Nat) (hd : ib d = some b) (hc : c.ok) (ty : TypeId) :
    ∃ w', Sem.run Try.prog (Builtin.delete_ #[57, 38] ty #[.map (some b), c.v]) w = .ok (.tuple #[]) w' ∧ Gr (fun b => F b = 3 ∨ F b = 4) w w' ∧
      DepM F w' p mr ms n k K sl rd ib (fun x y => rs x y && !(decide (x = d) && decide (y = c))) := by
  obtain ⟨hb4, cnt, hcK, hm⟩ := h.inn d b hd
  obtain ⟨w', h1, h2, h3⟩ := hm.drop Try.underlying57 c hc ty
  have hg := Gr.of_turned h3
  have hg' : Gr (fun b => F b = 3 ∨ F b = 4) w w' := hg.mono (fun x e => .inl (.inr (by rw [e]; exact hb4)))
  refine ⟨w', h1, hg', h.turnS hg' (h.maps.gr hg (fun e => by rw [← e, h.fs] at hb4; cases hb4)) (fun _ _ => rfl) (fun b hb => Nat.lt_of_lt_of_le (h.dom b hb) hg.size) (fun x b2 hx => ?_) h.inj h.oki (fun x y hxy => h.okr x y (by simp only [Bool.and_eq_true] at hxy; exact hxy.1)) h.hk⟩
  obtain ⟨e4, cnt2, hc2, hm2⟩ := h.inn x b2 hx
  refine ⟨e4, ?_⟩
  by_cases e : x = d
  · subst e
    rw [hd] at hx
    cases hx
    refine ⟨_, ?_, h2.congr (fun y hy => ?_)⟩
    · split <;> omega
    · by_cases e2 : y = c
      · simp [setF, e2]
      · simp [setF, e2]
  · refine ⟨cnt2, hc2, (hm2.gr hg (fun e2 => e (h.inj x d b (e2 ▸ hx) hd))).congr (fun y hy => ?_)⟩
    simp [setF, e]
/-- delete(g.readers, d) -/
theorem DepM.dropS (h : DepM F w p mr ms n k K sl rd ib rs) (d : C4) (hd : d.ok) (h0 : ∀ y, rs d y = false) (ty : TypeId) :
    ∃ w', Sem.run Try.prog (Builtin.delete_ #[60, 38] ty #[.map (some ms), d.v]) w = .ok (.tuple #[]) w' ∧ Gr (fun b => F b = 3 ∨ F b = 4) w w' ∧
      ∃ k', DepM F w' p mr ms n k' K sl rd (fun x => if x = d then none else ib x) rs := by
  obtain ⟨w', h1, h2, h3⟩ := h.maps.drop Try.underlying60 d hd ty
  have hg := Gr.of_turned h3
  have hg' : Gr (fun b => F b = 3 ∨ F b = 4) w w' := hg.mono (fun x e => .inl (.inl (by rw [e]; exact h.fs)))
  refine ⟨w', h1, hg', _, h.turnS hg' (h2.congr (fun x hx => ?_)) (fun _ _ => rfl) (fun b hb => Nat.lt_of_lt_of_le (h.dom b hb) hg.size) (fun x b2 hx => ?_) (fun x y b hx hy => ?_) (fun x hx => ?_) (fun x y hxy => ?_) (by have := h.hk; split <;> omega)⟩
  · by_cases e : x = d <;> simp [e]
  · by_cases e : x = d
    · simp [e] at hx
    · simp only [if_neg e] at hx
      obtain ⟨e4, cnt2, hc2, hm2⟩ := h.inn x b2 hx
      exact ⟨e4, cnt2, hc2, hm2.gr hg (fun e2 => by rw [e2, h.fs] at e4; cases e4)⟩
  · by_cases e : x = d
    · simp [e] at hx
    · by_cases e' : y = d
      · simp [e'] at hy
      · simp only [if_neg e, if_neg e'] at hx hy
        exact h.inj x y b hx hy
  · by_cases e : x = d
    · rw [e]; exact hd
    · simp only [if_neg e] at hx
      exact h.oki x hx
  · have e : ¬ x = d := fun e => by rw [e, h0 y] at hxy; cases hxy
    simp only [if_neg e]
    exact h.okr x y hxy
/-- g.readers[d] = map[api.Cell]bool{}, the map just made -/
theorem DepM.newI (h : DepM F w p mr ms n k K sl rd ib rs) (hK : K < 1000000) (d : C4) (hd : d.ok) (hi : ib d = none) (b : Nat) (hbF : F b = 0) (hb : b < w.heap.size) (hm : MapG cellK boolE w b 0 (fun _ => none)) :
    ∃ w' F', Sem.run Try.prog (Instr.mapUpdate 60 (.map (some ms)) d.v (.map (some b))) w = .ok () w' ∧ Gr (fun b => F b = 3 ∨ F b = 4) w w' ∧ (∀ x, x ≠ b → F' x = F x) ∧
      ∃ k', DepM F' w' p mr ms n k' (K + 1) sl rd (fun x => if x = d then some b else ib x) rs := by
  obtain ⟨w', h1, h2, h3⟩ := h.maps.store Try.underlying60 (by have := h.hk; simp [maxLen]; omega) d hd (some b) trivial
  have hg := Gr.of_turned h3
  have hg' : Gr (fun b => F b = 3 ∨ F b = 4) w w' := hg.mono (fun x e => .inl (.inl (by rw [e]; exact h.fs)))
  have h0 : ∀ y, rs d y = false := fun y => by
    cases e : rs d y with
    | false => rfl
    | true => have := (h.okr d y e).1; rw [hi] at this; cases this
  have hF : ∀ x, F x ≠ 0 → (if x = b then 4 else F x) = F x := fun x hx => by
    rw [if_neg]
    intro e
    rw [e] at hx
    exact hx hbF
  refine ⟨w', fun x => if x = b then 4 else F x, h1, hg', fun x hx => if_neg hx, _, h.turnS hg' (h2.congr (fun x hx => ?_)) hF (fun x hx => Nat.lt_of_lt_of_le ?_ hg.size) (fun x b2 hx => ?_) (fun x y b2 hx hy => ?_) (fun x hx => ?_) (fun x y hxy => ?_) (by have := h.hk; split <;> omega)⟩
  · by_cases e : x = d <;> simp [e]
  · by_cases e : x = b
    · rw [e]; exact hb
    · simp only [if_neg e] at hx
      exact h.dom x hx
  · by_cases e : x = d
    · simp only [if_pos e, Option.some.injEq] at hx
      subst hx e
      refine ⟨if_pos rfl, 0, by omega, (hm.gr hg (fun e2 => by rw [e2, h.fs] at hbF; cases hbF)).congr (fun y hy => ?_)⟩
      simp [setF, h0 y]
    · simp only [if_neg e] at hx
      obtain ⟨e4, cnt2, hc2, hm2⟩ := h.inn x b2 hx
      exact ⟨(hF b2 (by rw [e4]; decide)).trans e4, cnt2, by omega, hm2.gr hg (fun e2 => by rw [e2, h.fs] at e4; cases e4)⟩
  · have hnb : ∀ z, ib z ≠ some b := fun z e => by have := (h.inn z b e).1; rw [hbF] at this; cases this
    by_cases e : x = d
    · by_cases e' : y = d
      · rw [e, e']
      · simp only [if_pos e, if_neg e', Option.some.injEq] at hx hy
        subst hx
        exact absurd hy (hnb y)
    · by_cases e' : y = d
      · simp only [if_neg e, if_pos e', Option.some.injEq] at hx hy
        subst hy
        exact absurd hx (hnb x)
      · simp only [if_neg e, if_neg e'] at hx hy
        exact h.inj x y b2 hx hy
  · by_cases e : x = d
    · rw [e]; exact hd
    · simp only [if_neg e] at hx
      exact h.oki x hx
  · have e : ¬ x = d := fun e => by rw [e, h0 y] at hxy; cases hxy
    simp only [if_neg e]
    exact h.okr x y hxy
/-- g.readers[d][c] = true -/
theorem DepM.putI (h : DepM F w p mr ms n k K sl rd ib rs) (hK : K < 1000000) (d c : C4) (b : Nat) (hd : ib d = some b) (hc : c.ok) :
    ∃ w', Sem.run Try.prog (Instr.mapUpdate 57 (.map (some b)) c.v (.bool true)) w = .ok () w' ∧ Gr (fun b => F b = 3 ∨ F b = 4) w w' ∧
      DepM F w' p mr ms n k (K + 1) sl rd ib (fun x y => rs x y || (decide (x = d) && decide (y = c))) := by
  obtain ⟨hb4, cnt, hcK, hm⟩ := h.inn d b hd
  obtain ⟨w', h1, h2, h3⟩ := hm.store Try.underlying57 (by simp [maxLen]; omega) c hc true trivial
  have hg := Gr.of_turned h3
  have hg' : Gr (fun b => F b = 3 ∨ F b = 4) w w' := hg.mono (fun x e => .inl (.inr (by rw [e]; exact hb4)))
  refine ⟨w', h1, hg', h.turnS hg' (h.maps.gr hg (fun e => by rw [← e, h.fs] at hb4; cases hb4)) (fun _ _ => rfl) (fun b hb => Nat.lt_of_lt_of_le (h.dom b hb) hg.size) (fun x b2 hx => ?_) h.inj h.oki (fun x y hxy => ?_) (Nat.le_succ_of_le h.hk)⟩
  · obtain ⟨e4, cnt2, hc2, hm2⟩ := h.inn x b2 hx
    refine ⟨e4, ?_⟩
    by_cases e : x = d
    · subst e
      rw [hd] at hx
      cases hx
      refine ⟨_, ?_, h2.congr (fun y hy => ?_)⟩
      · split <;> omega
      · by_cases e2 : y = c
        · simp [setF, e2]
        · simp [setF, e2]
    · refine ⟨cnt2, by omega, (hm2.gr hg (fun e2 => e (h.inj x d b (e2 ▸ hx) hd))).congr (fun y hy => ?_)⟩
      simp [setF, e]
  · simp only [Bool.or_eq_true, Bool.and_eq_true, decide_eq_true_eq] at hxy
    rcases hxy with hxy | ⟨rfl, rfl⟩
    · exact h.okr x y hxy
    · exact ⟨by rw [hd]; rfl, hc⟩
end Go.Proofs.Ytoimbhdjhhmonaa
