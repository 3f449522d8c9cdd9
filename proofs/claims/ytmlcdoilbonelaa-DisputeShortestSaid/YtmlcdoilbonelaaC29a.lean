/- Chapter 29: the table, Next, Confirmed. -/
import Derived.Test.YtmlcdoilbonelaaProg
import Derived.Test.YtmlcdoilbonelaaRead
import Derived.Great.Walk
import Derived.Great.BuildSlice
namespace Go.Proofs.Ytmlcdoilbonelaa
open Go.RowKit Go

theorem known_sum (w : World) (s : Int) : Calls Try.prog 24 #[.int .i64 s] w fun e w' => e = .returned (.bool (decide (1 ≤ s) && decide (s ≤ 5))) ∧ w' = w := by
  go_enter Try.func24, Try.ntmps24
  go_wp2_with fail
  all_goals go_ret
  all_goals refine ⟨ret_bool ?_, rfl⟩
  all_goals simp
  all_goals omega

theorem results_cell {P : Program} {fn : Func} {k : Tmp} {t : TypeId} {tmps : Array Value} {w : World} {ad : Addr} {v : Value} (hres : fn.results = #[.cell k t]) (h : tmps.getD k undef = .pointer (some ad)) (hl : (loadVar t ad).run P w = .ok v w) :
    (results fn tmps).run P w = .ok v w := by
  simp at h
  simp [results, hres, h, asAddr, hl]

def tblI : List Int := [0, 0, 0, 0, 0, 0, 0, 0, 2, 3, 0, 0, 5, 5, 0, 0, 0, 4, 1, 0, 5, 5, 0, 0, 4, 0, 0, 1, 5, 5, 0, 0, 0, 0, 3, 2, 5, 5, 0, 0, 0, 0, 0, 0, 0, 0, 1, 1]
def tbl : Array Value := (tblI.map (Value.int .i64)).toArray
def tbl0 : Array Value := ((List.replicate 48 0).map (Value.int .i64)).toArray
attribute [local irreducible] wpList Code.wp in
set_option maxRecDepth 100000 in
theorem table_sum (w : World) : Calls Try.prog 29 #[] w fun e w' => e = .returned (.agg tbl) ∧ Below w.heap.size w w' := by
  go_enter Try.func29, Try.ntmps29
  have hB1 : Below w.heap.size w ((w.alloc (.cells tbl0 57)).setRow w.heap.size tbl) := by
    refine ((Below.refl w.heap.size w).alloc (Nat.le_refl _) (.cells tbl0 57)).trans ?_
    exact ⟨rfl, rfl, rfl, by simp, fun k hk => setRow_other _ _ _ _ (Nat.ne_of_lt hk)⟩
  have hg : ((w.alloc (.cells tbl0 57)).setRow w.heap.size tbl).heap[w.heap.size]? = some (.cells tbl 57 (0, 0)) := setRow_heap _ _ tbl0 tbl 57 _ (heap_alloc_new w _)
  apply wp_seq_k; intro K0 hK0
  apply wp_region_lit
  refine Go.Great.wpList_allocTo rfl (some 0) rfl (.pointer (some ⟨w.heap.size, 0, none⟩)) (.cells tbl0 57) (by rfl) ?_
  refine wpList_nil ?_
  refine hK0 _ _ ?_
  clear hK0 K0
  apply wp_seq_k; intro K0 hK0
  apply wp_region_lit
  refine wpList_build rfl _ _ rfl (by kernel_rfl) ?_
  refine wpList_build rfl _ _ rfl (by kernel_rfl) ?_
  refine wpList_build rfl _ _ rfl (by kernel_rfl) ?_
  refine wpList_build rfl _ _ rfl (by kernel_rfl) ?_
  refine wpList_build rfl _ _ rfl (by kernel_rfl) ?_
  refine wpList_build rfl _ _ rfl (by kernel_rfl) ?_
  refine wpList_build rfl _ _ rfl (by kernel_rfl) ?_
  refine wpList_build rfl _ _ rfl (by kernel_rfl) ?_
  refine wpList_build rfl _ _ rfl (by kernel_rfl) ?_
  refine wpList_build rfl _ _ rfl (by kernel_rfl) ?_
  refine wpList_build rfl _ _ rfl (by kernel_rfl) ?_
  refine wpList_build rfl _ _ rfl (by kernel_rfl) ?_
  refine wpList_build rfl _ _ rfl (by kernel_rfl) ?_
  refine wpList_build rfl _ _ rfl (by kernel_rfl) ?_
  refine wpList_build rfl _ _ rfl (by kernel_rfl) ?_
  refine wpList_build rfl _ _ rfl (by kernel_rfl) ?_
  refine wpList_build rfl _ _ rfl (by kernel_rfl) ?_
  refine wpList_build rfl _ _ rfl (by kernel_rfl) ?_
  refine wpList_build rfl _ _ rfl (by kernel_rfl) ?_
  refine wpList_build rfl _ _ rfl (by kernel_rfl) ?_
  refine wpList_build rfl _ _ rfl (by kernel_rfl) ?_
  refine wpList_build rfl _ _ rfl (by kernel_rfl) ?_
  refine wpList_build rfl _ _ rfl (by kernel_rfl) ?_
  refine wpList_build rfl _ _ rfl (by kernel_rfl) ?_
  refine wpList_build rfl _ _ rfl (by kernel_rfl) ?_
  refine wpList_build rfl _ _ rfl (by kernel_rfl) ?_
  refine wpList_store_row rfl _ _ _ rfl w.heap.size tbl (by kernel_rfl) (by kernel_rfl) 57 tbl0 (heap_alloc_new w _) (by kernel_rfl) (by kernel_rfl) (by kernel_rfl) ?_
  refine wpList_nil ?_
  refine hK0 _ _ ?_
  clear hK0 K0
  apply wp_ret
  refine bodyPost_ret (v := .agg tbl) ?_ (by rfl) ⟨rfl, hB1⟩
  have hr := run_loadVar_row (P := Try.prog) _ w.heap.size 57 57 tbl _ _ hg Try.underlying57 (by rfl) (by kernel_rfl)
  exact results_cell (k := 0) rfl (by kernel_rfl) hr

def ent (s a d : Nat) : Int := tblI.getD (8 * s + 2 * a + d) 0
def nextF (s d a : Int) : Int × Int :=
  if 1 ≤ s ∧ s ≤ 5 ∧ 0 ≤ d ∧ d ≤ 1 ∧ 0 ≤ a ∧ a ≤ 3 then
    if ent s.toNat a.toNat d.toNat = 0 then (0, 7) else (ent s.toNat a.toNat d.toNat, 0)
  else (0, 1)

theorem idx1 (w : World) (s : Int) (h1 : 1 ≤ s) (h2 : s ≤ 5) : (Instr.index 57 (.agg tbl) (.int .i64 s)).run Try.prog w = .ok (.agg (((tblI.drop (8 * s.toNat)).take 8).map (Value.int .i64)).toArray) w := by
  have hs : s = 1 ∨ s = 2 ∨ s = 3 ∨ s = 4 ∨ s = 5 := by omega
  rcases hs with rfl | rfl | rfl | rfl | rfl <;> (show _ = _; kernel_rfl)
theorem idx2 (w : World) (s a : Int) (h1 : 1 ≤ s) (h2 : s ≤ 5) (h3 : 0 ≤ a) (h4 : a ≤ 3) : (Instr.index 56 (.agg (((tblI.drop (8 * s.toNat)).take 8).map (Value.int .i64)).toArray) (.int .i64 a)).run Try.prog w = .ok (.agg (((tblI.drop (8 * s.toNat + 2 * a.toNat)).take 2).map (Value.int .i64)).toArray) w := by
  have hs : s = 1 ∨ s = 2 ∨ s = 3 ∨ s = 4 ∨ s = 5 := by omega
  have ha : a = 0 ∨ a = 1 ∨ a = 2 ∨ a = 3 := by omega
  rcases hs with rfl | rfl | rfl | rfl | rfl <;> rcases ha with rfl | rfl | rfl | rfl <;> (show _ = _; kernel_rfl)
theorem idx3 (w : World) (s a d : Int) (h1 : 1 ≤ s) (h2 : s ≤ 5) (h3 : 0 ≤ a) (h4 : a ≤ 3) (h5 : 0 ≤ d) (h6 : d ≤ 1) : (Instr.index 55 (.agg (((tblI.drop (8 * s.toNat + 2 * a.toNat)).take 2).map (Value.int .i64)).toArray) (.int .i64 d)).run Try.prog w = .ok (.int .i64 (ent s.toNat a.toNat d.toNat)) w := by
  have hs : s = 1 ∨ s = 2 ∨ s = 3 ∨ s = 4 ∨ s = 5 := by omega
  have ha : a = 0 ∨ a = 1 ∨ a = 2 ∨ a = 3 := by omega
  have hd : d = 0 ∨ d = 1 := by omega
  rcases hs with rfl | rfl | rfl | rfl | rfl <;> rcases ha with rfl | rfl | rfl | rfl <;> rcases hd with rfl | rfl <;> (show _ = _; kernel_rfl)

theorem next_sum (w : World) (s d a : Int) : Calls Try.prog 19 #[.int .i64 s, .int .i64 d, .int .i64 a] w fun e w' => e = .returned (.tuple #[.int .i64 (nextF s d a).1, .int .i64 (nextF s d a).2]) ∧ Below w.heap.size w w' := by
  by_cases hin : 1 ≤ s ∧ s ≤ 5 ∧ 0 ≤ d ∧ d ≤ 1 ∧ 0 ≤ a ∧ a ≤ 3
  · obtain ⟨h1, h2, h3, h4, h5, h6⟩ := hin
    have hF : nextF s d a = if ent s.toNat a.toNat d.toNat = 0 then (0, 7) else (ent s.toNat a.toNat d.toNat, 0) := by rw [nextF, if_pos ⟨h1, h2, h3, h4, h5, h6⟩]
    have i1 := fun w => idx1 w s h1 h2
    have i2 := fun w => idx2 w s a h1 h2 h5 h6
    have i3 := fun w => idx3 w s a d h1 h2 h5 h6 h3 h4
    generalize ent s.toNat a.toNat d.toNat = E at hF i3
    generalize hR1 : (((tblI.drop (8 * s.toNat)).take 8).map (Value.int .i64)).toArray = R1 at i1 i2
    generalize hR2 : (((tblI.drop (8 * s.toNat + 2 * a.toNat)).take 2).map (Value.int .i64)).toArray = R2 at i2 i3
    have HR1 := Lib.hid hR1; clear hR1
    have HR2 := Lib.hid hR2; clear hR2
    have HF := Lib.hid hF; clear hF
    go_enter Try.func19, Try.ntmps19
    go_wp2_with (first | (go_at_call 24; refine (known_sum _ _).mono ?_; rintro e w1 ⟨rfl, rfl⟩) | (go_at_call 29; refine (table_sum _).mono ?_; rintro e w1 ⟨rfl, hB⟩))
    · go_ret2
      rw [HF.out]
      have hE : E = 0 := by simpa using ‹(E == 0) = true›
      rw [if_pos hE]
      exact ⟨rfl, hB⟩
    · go_ret2
      rw [HF.out]
      have hE : ¬ E = 0 := by simpa using ‹(E == 0) = false›
      rw [if_neg hE]
      exact ⟨rfl, hB⟩
  · have hF : nextF s d a = (0, 1) := by rw [nextF, if_neg hin]
    rw [hF]
    have HF := Lib.hid hF; clear hF
    have Hin := Lib.hid hin; clear hin
    go_enter Try.func19, Try.ntmps19
    go_wp2_with (first | (go_at_call 24; refine (known_sum _ _).mono ?_; rintro e w1 ⟨rfl, rfl⟩) | (go_at_call 29; refine (table_sum _).mono ?_; rintro e w1 ⟨rfl, hB⟩))
    all_goals first
      | (go_ret2; exact ⟨rfl, Below.refl _ _⟩)
      | (have hin := Hin.out; exfalso; omega)

def confB (s d : Int) : Bool := d == 0 && (s == 2 || s == 4) || d == 1 && (s == 3 || s == 4)
theorem confirmed_sum (w : World) (s d : Int) : Calls Try.prog 18 #[.int .i64 s, .int .i64 d] w fun e w' => e = .returned (.bool (confB s d)) ∧ w' = w := by
  go_enter Try.func18, Try.ntmps18
  go_wp2_with fail
  all_goals (go_ret; refine ⟨ret_bool ?_, rfl⟩; first | rfl | (simp_all [confB]; done) | (simp_all [confB] <;> omega))
theorem refstate_sum (w : World) (s : Int) : Calls Try.prog 25 #[.int .i64 s] w fun e w' => e = .returned (.bool (decide (1 ≤ s) && decide (s ≤ 5))) ∧ w' = w := by
  go_enter Try.func25, Try.ntmps25
  go_wp2_with fail
  all_goals (go_ret; refine ⟨ret_bool ?_, rfl⟩; first | rfl | (simp_all [confB]; done) | (simp_all [confB] <;> omega))
theorem refwith_sum (w : World) (l r : Bool) : Calls Try.prog 30 #[.bool l, .bool r] w fun e w' => e = .returned (.int .i64 (if l then (if r then 4 else 2) else if r then 3 else 1)) ∧ w' = w := by
  cases l <;> cases r
  all_goals go_enter Try.func30, Try.ntmps30
  all_goals go_wp2_with fail
  all_goals (go_ret; exact ⟨rfl, rfl⟩)
theorem refconfirmed_sum (w : World) (s d : Int) : Calls Try.prog 23 #[.int .i64 s, .int .i64 d] w fun e w' => e = .returned (.bool (confB s d)) ∧ w' = w := by
  go_enter Try.func23, Try.ntmps23
  go_wp2_with fail
  all_goals (go_ret; refine ⟨ret_bool ?_, rfl⟩; first | rfl | (simp_all [confB]; done) | (simp_all [confB] <;> omega))

end Go.Proofs.Ytmlcdoilbonelaa
