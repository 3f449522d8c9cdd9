/- Chapter 29: steps, Clone, Can on both sides. -/
import Derived.Test.YtmlcdoilbonelaaC29c
import Derived.Lib.SliceRun
namespace Go.Proofs.Ytmlcdoilbonelaa
open Go.RowKit Go

theorem info_st : (Try.prog.info? 33).map (fun i => (i.zero, i.size, i.bytes)) = some (some (.agg #[.int .i64 0, .int .i64 0]), 2, 16) := by kernel_rfl
theorem RdL.st1 {S : Nat → Prop} {w : World} {x y : Int} (hx : (Lit.int .i64 x).wf = true) (hy : (Lit.int .i64 y).wf = true) : RdL stT S w [.int .i64 x, .int .i64 y] [(x, y, ())] :=
  RdL.one ⟨_, _, rfl, ⟨rfl, hx⟩, _, _, rfl, ⟨rfl, hy⟩, rfl⟩
def stepsL : List stT.den := [(0, 0, ()), (0, 1, ()), (0, 2, ()), (0, 3, ()), (1, 0, ()), (1, 1, ()), (1, 2, ()), (1, 3, ())]

set_option maxHeartbeats 2000000 in
theorem steps_sum (w : World) : Calls Try.prog 26 #[] w fun e w' => ∃ v, e = .returned v ∧ Below w.heap.size w w' ∧ Owns stT 33 w.heap.size (fun _ => False) w' v stepsL := by
  go_enter Try.func26, Try.ntmps26
  have O := Owns.nil stT 33 w.heap.size w
  have hB := Below.refl w.heap.size w
  go_wp2
  repeat any_goals ((first | rw [rounds_succ] | (refine wp_loop_rounds 5 ?_; rw [rounds_succ])); go_wp2_with (at_builtin; go_must (refine wpList_app _ rfl _ _ 27 rfl (e := stT) info_st Try.underlying27 rfl (by decide) rfl (Owns.alloc (by assumption) _) (by have := hB.size; simp only [World.size_alloc]; omega) rfl (ys := [(_, _, ())]) (Src.new _ [_, _] _ _ _) (RdL.st1 rfl rfl) (by simp) (by simp) ?_; intro v' w1 O1 g1 _ _; have hB1 := (hB.alloc hB.size _).grown g1 (by simp only [World.size_alloc]; have := hB.size; omega) (fun k e => (O.own k e).1); clear g1 hB O; have O := O1; have hB := hB1; clear O1 hB1)))
  go_ret
  exact ⟨_, rfl, hB, O⟩
theorem clone_sum (w : World) (v : Value) (xs : List stT.den) (h : Rd (.sl stT) (fun b => b < w.heap.size) w [v] xs) (hl : xs.length ≤ 1000) :
    Calls Try.prog 27 #[v] w fun e w' => ∃ v, e = .returned v ∧ Below w.heap.size w w' ∧ Owns stT 33 w.heap.size (fun _ => False) w' v xs := by
  obtain ⟨a, len, cap, he, h1, h2, h3, h4⟩ := id h
  simp only [List.cons.injEq, and_true] at he
  subst he
  have hlen : len ≤ 1000 := by have : List.length xs = len := h1; omega
  cases a with
  | none =>
    have h0 : len = 0 := by
      rcases h4 with h0 | ⟨b, off, h0, _⟩
      · exact h0
      · cases h0
    subst h0
    obtain rfl : xs = [] := List.eq_nil_of_length_eq_zero h1
    clear h h4 h1
    have hq := fun w => Lib.run_eql_slice_nil (P := Try.prog) w 27 _ none 0 cap 0 0 Try.underlying27
    simp only [Option.isNone] at hq
    go_enter Try.func27, Try.ntmps27
    go_wp2
    go_ret
    exact ⟨_, rfl, Below.refl _ _, Owns.nil _ _ _ _⟩
  | some ad =>
    clear h4
    have hq := fun w => Lib.run_eql_slice_nil (P := Try.prog) w 27 _ (some ad) len cap 0 0 Try.underlying27
    simp only [Option.isNone] at hq
    go_enter Try.func27, Try.ntmps27
    go_wp2_with (at_builtin; go_must (refine wpList_copy w rfl _ _ 27 rfl (e := stT) info_st Try.underlying27 rfl (by decide) rfl (S := fun b => b < w.heap.size) (sv := .slice (some ad) len cap) (xs := xs) rfl h (fun _ h => h) h1 (by omega) (by omega) ?_; intro g cv w1 O1 hg hB h5 h6))
    go_ret
    exact ⟨_, rfl, hB, (O1.flat rfl)⟩

def canP (s to : Int) (x : stT.den) : Bool := (nextF s x.1 x.2.1).2 == 0 && (nextF s x.1 x.2.1).1 == to

theorem can1_sum (w : World) (s to x y : Int) (p q : Nat) (hp : w.cell? ⟨p, 0, none⟩ = some (.int .i64 s)) (hq : w.cell? ⟨q, 0, none⟩ = some (.int .i64 to)) :
    Calls Try.prog 32 #[.agg #[.int .i64 x, .int .i64 y], .pointer (some ⟨p, 0, none⟩), .pointer (some ⟨q, 0, none⟩)] w fun e w' => e = .returned (.bool (canP s to (x, y, ()))) ∧ Below w.heap.size w w' := by
  have hc : Hid (canP s to (x, y, ()) = ((nextF s x y).2 == 0 && (nextF s x y).1 == to)) := Lib.hid rfl
  obtain ⟨r, hr⟩ : ∃ r, nextF s x y = r := ⟨_, rfl⟩
  have hp2 : ∀ o, (w.alloc o).cell? ⟨p, 0, none⟩ = some (.int .i64 s) := fun o => cell_below hp ((Below.refl _ w).alloc (Nat.le_refl _) o)
  have hq2 : ∀ o, (w.alloc o).cell? ⟨q, 0, none⟩ = some (.int .i64 to) := fun o => cell_below hq ((Below.refl _ w).alloc (Nat.le_refl _) o)
  go_enter Try.func32, Try.ntmps32
  go_wp2_with (first | (go_at_call 19; refine (next_sum _ _ _ _).mono ?_; rintro e w1 ⟨rfl, hB1⟩; have hq3 := cell_below (hq2 _) hB1))
  · have h1 : r.2 = 0 := by assumption
    go_ret
    refine ⟨ret_bool ?_, below_step ((Below.refl _ w).alloc (Nat.le_refl _) _) hB1⟩
    rw [hc.out, hr, h1]
    simp
  · go_ret
    refine ⟨ret_bool ?_, below_step ((Below.refl _ w).alloc (Nat.le_refl _) _) hB1⟩
    rw [hc.out, hr]
    simp_all

end Go.Proofs.Ytmlcdoilbonelaa
