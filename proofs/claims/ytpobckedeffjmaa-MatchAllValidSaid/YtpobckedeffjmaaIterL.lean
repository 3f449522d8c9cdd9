/- Layer 28: slices.Grow, slices.Concat of two slices. -/
import Derived.Test.YtpobckedeffjmaaM28a
import Derived.Shelf.Spec.SlicesGrow
import Derived.Shelf.SlGeneric
import Derived.Shelf.SlSortCmp.NoneTotal
import Derived.Ground.SlsfProg
import Derived.RangeFuncNested
import Derived.RangeFuncLeaves
import Derived.RangeFuncCalls
set_option linter.unusedSimpArgs false
set_option maxRecDepth 50000
namespace Go.Proofs.Ytpobckedeffjmaa
section
open Go.Shelf Go.RowKit Go.Lib
def growO'_ren : Go.Shelf.Ren := ⟨fun | 4 => 49 | n => n, fun | 22 => 28 | 25 => 48 | 3 => 3 | 4 => 4 | 9 => 9 | 20 => 20 | 0 => 0 | n => n, fun | n => n⟩
theorem growO' : Go.Proofs.Lays8.n4 Try.prog growO'_ren := {
  mixed := by kernel_rfl
  f4 := ⟨Try.f49.name, by decide, Try.func49.trans (congrArg some (by kernel_rfl))⟩
  t0 := Try.underlying0
  a0 := Try.isAgg0
  z0 := Try.sizeOf0
  v0 := Try.zeroValue0
  t3 := Try.underlying3
  a3 := Try.isAgg3
  z3 := Try.sizeOf3
  v3 := Try.zeroValue3
  t4 := Try.underlying4
  a4 := Try.isAgg4
  z4 := Try.sizeOf4
  v4 := Try.zeroValue4
  t9 := Try.underlying9
  a9 := Try.isAgg9
  z9 := Try.sizeOf9
  v9 := Try.zeroValue9
  t20 := Try.underlying20
  a20 := Try.isAgg20
  z20 := Try.sizeOf20
  v20 := Try.zeroValue20
  t22 := Try.underlying28
  a22 := Try.isAgg28
  z22 := Try.sizeOf28
  v22 := Try.zeroValue28 }
def growR'_ren : Go.Shelf.Ren := ⟨fun | 4 => 47 | n => n, fun | 22 => 37 | 25 => 41 | 3 => 3 | 4 => 4 | 9 => 9 | 20 => 20 | 0 => 0 | 2 => 3 | n => n, fun | n => n⟩
theorem growR' : Go.Proofs.Lays8.n4 Try.prog growR'_ren := {
  mixed := by kernel_rfl
  f4 := ⟨Try.f47.name, by decide, Try.func47.trans (congrArg some (by kernel_rfl))⟩
  t0 := Try.underlying0
  a0 := Try.isAgg0
  z0 := Try.sizeOf0
  v0 := Try.zeroValue0
  t3 := Try.underlying3
  a3 := Try.isAgg3
  z3 := Try.sizeOf3
  v3 := Try.zeroValue3
  t4 := Try.underlying4
  a4 := Try.isAgg4
  z4 := Try.sizeOf4
  v4 := Try.zeroValue4
  t9 := Try.underlying9
  a9 := Try.isAgg9
  z9 := Try.sizeOf9
  v9 := Try.zeroValue9
  t20 := Try.underlying20
  a20 := Try.isAgg20
  z20 := Try.sizeOf20
  v20 := Try.zeroValue20
  t22 := Try.underlying37
  a22 := Try.isAgg37
  z22 := Try.sizeOf37
  v22 := Try.zeroValue37 }
end
open Go.RowKit Go
/-- Grow of a nil slice: an empty row of the caller's own. -/
theorem growR (w : World) (n : Nat) (hn : n ≤ 1000000) : Calls Try.prog 47 #[.slice none 0 0, .int .i64 n] w fun e w' =>
    ∃ a cap, e = .returned (.slice a 0 cap) ∧ Owns refT 41 w.heap.size (fun _ => False) w' (.slice a 0 cap) [] ∧ Below w.heap.size w w' := by
  by_cases h0 : n = 0
  · subst h0
    refine (Any8.slices_Grow_room growR' none 0 0 0 w (by omega) (by omega) (by omega) (by omega)).mono ?_
    rintro e w' ⟨rfl, rfl⟩
    exact ⟨none, 0, rfl, Owns.nil _ _ _ _, Below.refl _ _⟩
  · obtain ⟨i0, hi0, hz0, hs0, hb0⟩ : ∃ i0 : TypeInfo, Try.prog.info? 41 = some i0 ∧ i0.zero = some (.agg #[.int .i64 0, .int .i64 0]) ∧ i0.size = 2 ∧ i0.bytes = 16 := by
      have h := info_ref
      rw [Option.map_eq_some_iff] at h
      obtain ⟨i0, h1, h2⟩ := h
      simp only [Prod.mk.injEq] at h2
      exact ⟨i0, h1, h2.1, h2.2.1, h2.2.2⟩
    have hcap := grownCap_ge w (0 + n) 0 41
    have hcm := grownCap_le_maxLen w (0 + n) 0 41 (by simp [maxLen]; omega)
    refine (Any8.slices_Grow_grow growR' i0 (.agg #[.int .i64 0, .int .i64 0]) hi0 hz0 (by rw [hs0]; decide) none 0 0 n [] w (by omega) (by omega) (by rw [hb0]; omega) (by omega) (by simp) (fun _ => rfl) (fun a h => by cases h)).mono ?_
    rintro e w' ⟨rfl, rfl⟩
    refine ⟨_, _, rfl, ⟨[], ⟨by simp, .inr ⟨w.heap.size, _, _, rfl, Nat.le_refl _, heap_alloc_new _ _, Nat.zero_le _, hcm, ?_, by simp⟩⟩, rfl, fun _ h => h.elim⟩, ((Below.refl w.heap.size w).drew).alloc (Nat.le_refl _) _⟩
    have e5 : refT.sz = 2 := rfl
    have ez : ((.agg #[.int .i64 0, .int .i64 0]) : Value).cells.size = 2 := rfl
    change (_ : Array Value).size = grownCap w (0 + n) 0 41 * refT.sz
    rw [e5]
    simp only [Array.size_append, size_zeroCells, ez, List.size_toArray, List.length_nil]
    rw [show growR'_ren.t 25 = 41 from rfl]
    omega
set_option maxHeartbeats 1000000 in
/-- Concat of two slices. -/
theorem concatR {S : Nat → Prop} (w : World) (sb : Nat) (a1 : Option Addr) (c1 : Nat) (l1 : List R2) (a2 : Option Addr) (c2 : Nat) (l2 : List R2)
    (hb : w.heap[sb]? = some (.cells #[.slice a1 l1.length c1, .slice a2 l2.length c2] 37 (0, 0))) (h1 : Rd (.sl refT) S w [.slice a1 l1.length c1] (l1.map R2.d)) (h2 : Rd (.sl refT) S w [.slice a2 l2.length c2] (l2.map R2.d)) (hS : ∀ b, S b → b < w.heap.size) (hl1 : l1.length ≤ 1000) (hl2 : l2.length ≤ 1000) :
    Calls Try.prog 37 #[.slice (some ⟨sb, 0, none⟩) 2 2] w fun e w' => ∃ v, e = .returned v ∧ Owns refT 41 w.heap.size (fun _ => False) w' v ((l1 ++ l2).map R2.d) ∧ Below w.heap.size w w' := by
  have HSB := Lib.hid hb
  have HLL := Lib.hid (And.intro hl1 hl2)
  have H1 := Lib.hid h1
  have H2 := Lib.hid h2
  have HS := Lib.hid hS
  have HG := Lib.hid (growR w (l1.length + l2.length) (by omega))
  have z0 := blk_cell hb 0
  have z1 := blk_cell hb 1
  simp only [List.getElem?_toArray, List.getElem?_cons_zero, List.getElem?_cons_succ] at z0 z1
  rw [show ((l1.length + l2.length : Nat) : Int) = (l1.length : Int) + (l2.length : Int) from by omega] at HG
  clear hb h1 h2 hS
  go_enter Try.func37, Try.ntmps37
  go_wp2_with fail
  refine wp_loop_rounds 3 ?_
  rw [rounds_succ]
  go_wp2_with fail
  rw [rounds_succ]
  go_wp2_with fail
  rw [rounds_succ]
  go_wp2_with fail
  refine HG.out.mono ?_
  rintro e w1 ⟨oa0, oc0, rfl, hO, hB⟩
  have HB0 := Lib.hid hB
  have HO0 := Lib.hid (show Owns refT 41 w.heap.size (fun _ => False) w1 (.slice oa0 0 oc0) (([] : List R2).map R2.d) from hO)
  clear hO hB z0 z1
  have z0 := blk_cell ((HB0.out.block _ (blk_lt HSB.out)).trans HSB.out) 0
  have z1 := blk_cell ((HB0.out.block _ (blk_lt HSB.out)).trans HSB.out) 1
  simp only [List.getElem?_toArray, List.getElem?_cons_zero, List.getElem?_cons_succ] at z0 z1
  go_wp2_with fail
  refine wp_loop_rounds 3 ?_
  rw [rounds_succ]
  go_wp2_with (at_builtin; have hq := HO0; clear hq; obtain ⟨news, hsrc, hrl⟩ := (H1.out.below HB0.out HS.out).src; go_must (refine wpList_app _ rfl _ _ 37 rfl (e := refT) (te := 41) info_ref Try.underlying37 rfl (by decide) (base := w.heap.size) (S := fun _ => False) (v := .slice oa0 0 oc0) (xs := ([]).map R2.d) rfl HO0.out HB0.out.size rfl (ys := l1.map R2.d) hsrc (hrl.flat (e := refT) rfl) (by have hll := HLL.out; simp only [List.length_map, List.length_append, List.length_nil]; omega) (by have hll := HLL.out; simp only [List.length_map, List.length_append, List.length_nil]; omega) ?_); intro v' w1 O9 g9 _ ob9; have HB1 := Lib.hid (HB0.out.grown g9 HB0.out.size (fun c hc => (HO0.out.own c hc).1)); rw [← List.map_append] at O9; obtain ⟨oa1, ol1, oc1, rfl, -⟩ := O9.slice; have HO1 := Lib.hid O9; clear O9 g9 ob9 hsrc hrl HO0 z0 z1; have z0 := blk_cell ((HB1.out.block _ (blk_lt HSB.out)).trans HSB.out) 0; have z1 := blk_cell ((HB1.out.block _ (blk_lt HSB.out)).trans HSB.out) 1; simp only [List.getElem?_toArray, List.getElem?_cons_zero, List.getElem?_cons_succ] at z0 z1)
  rw [rounds_succ]
  go_wp2_with (at_builtin; have hq := HO1; clear hq; obtain ⟨news, hsrc, hrl⟩ := (H2.out.below HB1.out HS.out).src; go_must (refine wpList_app _ rfl _ _ 37 rfl (e := refT) (te := 41) info_ref Try.underlying37 rfl (by decide) (base := w.heap.size) (S := fun _ => False) (v := .slice oa1 ol1 oc1) (xs := ([] ++ l1).map R2.d) rfl HO1.out HB1.out.size rfl (ys := l2.map R2.d) hsrc (hrl.flat (e := refT) rfl) (by have hll := HLL.out; simp only [List.length_map, List.length_append, List.length_nil]; omega) (by have hll := HLL.out; simp only [List.length_map, List.length_append, List.length_nil]; omega) ?_); intro v' w2 O9 g9 _ ob9; have HB2 := Lib.hid (HB1.out.grown g9 HB1.out.size (fun c hc => (HO1.out.own c hc).1)); rw [← List.map_append] at O9; obtain ⟨oa2, ol2, oc2, rfl, -⟩ := O9.slice; have HO2 := Lib.hid O9; clear O9 g9 ob9 hsrc hrl HO1 z0 z1; have z0 := blk_cell ((HB2.out.block _ (blk_lt HSB.out)).trans HSB.out) 0; have z1 := blk_cell ((HB2.out.block _ (blk_lt HSB.out)).trans HSB.out) 1; simp only [List.getElem?_toArray, List.getElem?_cons_zero, List.getElem?_cons_succ] at z0 z1)
  rw [rounds_succ]
  go_wp2_with fail
  go_ret
  exact ⟨_, rfl, by simpa using HO2.out, HB2.out⟩
/-- Grow of a nil slice: an empty row of the caller's own. -/
theorem growO (w : World) (n : Nat) (hn : n ≤ 1000000) : Calls Try.prog 49 #[.slice none 0 0, .int .i64 n] w fun e w' =>
    ∃ a cap, e = .returned (.slice a 0 cap) ∧ Owns openT 48 w.heap.size (fun _ => False) w' (.slice a 0 cap) [] ∧ Below w.heap.size w w' := by
  by_cases h0 : n = 0
  · subst h0
    refine (Any8.slices_Grow_room growO' none 0 0 0 w (by omega) (by omega) (by omega) (by omega)).mono ?_
    rintro e w' ⟨rfl, rfl⟩
    exact ⟨none, 0, rfl, Owns.nil _ _ _ _, Below.refl _ _⟩
  · obtain ⟨i0, hi0, hz0, hs0, hb0⟩ : ∃ i0 : TypeInfo, Try.prog.info? 48 = some i0 ∧ i0.zero = some (.agg #[.int .i64 0, .int .i64 0, .int .i64 0]) ∧ i0.size = 3 ∧ i0.bytes = 24 := by
      have h := info_open
      rw [Option.map_eq_some_iff] at h
      obtain ⟨i0, h1, h2⟩ := h
      simp only [Prod.mk.injEq] at h2
      exact ⟨i0, h1, h2.1, h2.2.1, h2.2.2⟩
    have hcap := grownCap_ge w (0 + n) 0 48
    have hcm := grownCap_le_maxLen w (0 + n) 0 48 (by simp [maxLen]; omega)
    refine (Any8.slices_Grow_grow growO' i0 (.agg #[.int .i64 0, .int .i64 0, .int .i64 0]) hi0 hz0 (by rw [hs0]; decide) none 0 0 n [] w (by omega) (by omega) (by rw [hb0]; omega) (by omega) (by simp) (fun _ => rfl) (fun a h => by cases h)).mono ?_
    rintro e w' ⟨rfl, rfl⟩
    refine ⟨_, _, rfl, ⟨[], ⟨by simp, .inr ⟨w.heap.size, _, _, rfl, Nat.le_refl _, heap_alloc_new _ _, Nat.zero_le _, hcm, ?_, by simp⟩⟩, rfl, fun _ h => h.elim⟩, ((Below.refl w.heap.size w).drew).alloc (Nat.le_refl _) _⟩
    have e5 : openT.sz = 3 := rfl
    have ez : ((.agg #[.int .i64 0, .int .i64 0, .int .i64 0]) : Value).cells.size = 3 := rfl
    change (_ : Array Value).size = grownCap w (0 + n) 0 48 * openT.sz
    rw [e5]
    simp only [Array.size_append, size_zeroCells, ez, List.size_toArray, List.length_nil]
    rw [show growO'_ren.t 25 = 48 from rfl]
    omega
set_option maxHeartbeats 1000000 in
/-- Concat of two slices. -/
theorem concatO {S : Nat → Prop} (w : World) (sb : Nat) (a1 : Option Addr) (c1 : Nat) (l1 : List O3) (a2 : Option Addr) (c2 : Nat) (l2 : List O3)
    (hb : w.heap[sb]? = some (.cells #[.slice a1 l1.length c1, .slice a2 l2.length c2] 28 (0, 0))) (h1 : Rd (.sl openT) S w [.slice a1 l1.length c1] (l1.map O3.d)) (h2 : Rd (.sl openT) S w [.slice a2 l2.length c2] (l2.map O3.d)) (hS : ∀ b, S b → b < w.heap.size) (hl1 : l1.length ≤ 1000) (hl2 : l2.length ≤ 1000) :
    Calls Try.prog 39 #[.slice (some ⟨sb, 0, none⟩) 2 2] w fun e w' => ∃ v, e = .returned v ∧ Owns openT 48 w.heap.size (fun _ => False) w' v ((l1 ++ l2).map O3.d) ∧ Below w.heap.size w w' := by
  have HSB := Lib.hid hb
  have HLL := Lib.hid (And.intro hl1 hl2)
  have H1 := Lib.hid h1
  have H2 := Lib.hid h2
  have HS := Lib.hid hS
  have HG := Lib.hid (growO w (l1.length + l2.length) (by omega))
  have z0 := blk_cell hb 0
  have z1 := blk_cell hb 1
  simp only [List.getElem?_toArray, List.getElem?_cons_zero, List.getElem?_cons_succ] at z0 z1
  rw [show ((l1.length + l2.length : Nat) : Int) = (l1.length : Int) + (l2.length : Int) from by omega] at HG
  clear hb h1 h2 hS
  go_enter Try.func39, Try.ntmps39
  go_wp2_with fail
  refine wp_loop_rounds 3 ?_
  rw [rounds_succ]
  go_wp2_with fail
  rw [rounds_succ]
  go_wp2_with fail
  rw [rounds_succ]
  go_wp2_with fail
  refine HG.out.mono ?_
  rintro e w1 ⟨oa0, oc0, rfl, hO, hB⟩
  have HB0 := Lib.hid hB
  have HO0 := Lib.hid (show Owns openT 48 w.heap.size (fun _ => False) w1 (.slice oa0 0 oc0) (([] : List O3).map O3.d) from hO)
  clear hO hB z0 z1
  have z0 := blk_cell ((HB0.out.block _ (blk_lt HSB.out)).trans HSB.out) 0
  have z1 := blk_cell ((HB0.out.block _ (blk_lt HSB.out)).trans HSB.out) 1
  simp only [List.getElem?_toArray, List.getElem?_cons_zero, List.getElem?_cons_succ] at z0 z1
  go_wp2_with fail
  refine wp_loop_rounds 3 ?_
  rw [rounds_succ]
  go_wp2_with (at_builtin; have hq := HO0; clear hq; obtain ⟨news, hsrc, hrl⟩ := (H1.out.below HB0.out HS.out).src; go_must (refine wpList_app _ rfl _ _ 28 rfl (e := openT) (te := 48) info_open Try.underlying28 rfl (by decide) (base := w.heap.size) (S := fun _ => False) (v := .slice oa0 0 oc0) (xs := ([]).map O3.d) rfl HO0.out HB0.out.size rfl (ys := l1.map O3.d) hsrc (hrl.flat (e := openT) rfl) (by have hll := HLL.out; simp only [List.length_map, List.length_append, List.length_nil]; omega) (by have hll := HLL.out; simp only [List.length_map, List.length_append, List.length_nil]; omega) ?_); intro v' w1 O9 g9 _ ob9; have HB1 := Lib.hid (HB0.out.grown g9 HB0.out.size (fun c hc => (HO0.out.own c hc).1)); rw [← List.map_append] at O9; obtain ⟨oa1, ol1, oc1, rfl, -⟩ := O9.slice; have HO1 := Lib.hid O9; clear O9 g9 ob9 hsrc hrl HO0 z0 z1; have z0 := blk_cell ((HB1.out.block _ (blk_lt HSB.out)).trans HSB.out) 0; have z1 := blk_cell ((HB1.out.block _ (blk_lt HSB.out)).trans HSB.out) 1; simp only [List.getElem?_toArray, List.getElem?_cons_zero, List.getElem?_cons_succ] at z0 z1)
  rw [rounds_succ]
  go_wp2_with (at_builtin; have hq := HO1; clear hq; obtain ⟨news, hsrc, hrl⟩ := (H2.out.below HB1.out HS.out).src; go_must (refine wpList_app _ rfl _ _ 28 rfl (e := openT) (te := 48) info_open Try.underlying28 rfl (by decide) (base := w.heap.size) (S := fun _ => False) (v := .slice oa1 ol1 oc1) (xs := ([] ++ l1).map O3.d) rfl HO1.out HB1.out.size rfl (ys := l2.map O3.d) hsrc (hrl.flat (e := openT) rfl) (by have hll := HLL.out; simp only [List.length_map, List.length_append, List.length_nil]; omega) (by have hll := HLL.out; simp only [List.length_map, List.length_append, List.length_nil]; omega) ?_); intro v' w2 O9 g9 _ ob9; have HB2 := Lib.hid (HB1.out.grown g9 HB1.out.size (fun c hc => (HO1.out.own c hc).1)); rw [← List.map_append] at O9; obtain ⟨oa2, ol2, oc2, rfl, -⟩ := O9.slice; have HO2 := Lib.hid O9; clear O9 g9 ob9 hsrc hrl HO1 z0 z1; have z0 := blk_cell ((HB2.out.block _ (blk_lt HSB.out)).trans HSB.out) 0; have z1 := blk_cell ((HB2.out.block _ (blk_lt HSB.out)).trans HSB.out) 1; simp only [List.getElem?_toArray, List.getElem?_cons_zero, List.getElem?_cons_succ] at z0 z1)
  rw [rounds_succ]
  go_wp2_with fail
  go_ret
  exact ⟨_, rfl, by simpa using HO2.out, HB2.out⟩
end Go.Proofs.Ytpobckedeffjmaa

/- Layer 28: size, opposite, the law's open, lines. -/
set_option linter.unusedSimpArgs false
set_option maxRecDepth 50000
namespace Go.Proofs.Ytpobckedeffjmaa
open Go.RowKit Go

def szI (n : Int) : Int := max n (-n)
def oppB (a b : Int) : Bool := !(decide (a < 0) == decide (b < 0))
theorem size28 (w : World) (n : Int) (h : -9000000000000000000 ≤ n ∧ n ≤ 9000000000000000000) : Calls Try.prog 40 #[.int .i64 n] w fun e w' => e = .returned (.int .i64 (szI n)) ∧ w' = w := by
  go_enter Try.func40, Try.ntmps40
  go_wp2_with fail
  go_ret
  exact ⟨rfl, rfl⟩
theorem opposite28 (w : World) (a b : Int) : Calls Try.prog 41 #[.int .i64 a, .int .i64 b] w fun e w' => e = .returned (.bool (oppB a b)) ∧ w' = w := by
  go_enter Try.func41, Try.ntmps41
  go_wp2
  go_ret
  exact ⟨rfl, rfl⟩
/-- What is valid: amounts, references each once. -/
def amtB (n : Int) : Bool := !(decide (n = 0)) && !(decide (1000000000000 < n)) && !(decide (n < -1000000000000))
def linesB (l r : List O3) : Bool := decide (l.length ≤ 60) && decide (r.length ≤ 60) && (decide (((l ++ r).map (·.r)).Nodup) && (l ++ r).all (fun x => amtB x.n))
theorem nodup_snoc {α : Type} {l : List α} {a : α} : (l ++ [a]).Nodup ↔ l.Nodup ∧ a ∉ l := by
  rw [List.nodup_append]
  constructor
  · exact fun h => ⟨h.1, fun ha => h.2.2 a ha a (by simp) rfl⟩
  · exact fun h => ⟨h.1, by simp, fun x hx y hy e => by simp at hy; subst hy; subst e; exact h.2 hx⟩
set_option maxHeartbeats 2000000 in
theorem lines28 {S : Nat → Prop} (w : World) (a1 : Option Addr) (c1 : Nat) (l : List O3) (a2 : Option Addr) (c2 : Nat) (r : List O3)
    (h1 : Rd (.sl openT) S w [.slice a1 l.length c1] (l.map O3.d)) (h2 : Rd (.sl openT) S w [.slice a2 r.length c2] (r.map O3.d)) (hS : ∀ b, S b → b < w.heap.size) :
    Calls Try.prog 25 #[.slice a1 l.length c1, .slice a2 r.length c2] w fun e w' => e = .returned (.bool (linesB l r)) ∧ Below w.heap.size w w' := by
  have hmm := fun w => @run_makeMap Try.prog w
  have hlm1 : l.length ≤ 9223372036854775807 := Nat.le_trans ((rd_len h1) ▸ h1.sl_flat.2.1) h1.sl_flat.2.2.1
  have hlm2 : r.length ≤ 9223372036854775807 := Nat.le_trans ((rd_len h2) ▸ h2.sl_flat.2.1) h2.sl_flat.2.2.1
  have H1 := Lib.hid h1
  have H2 := Lib.hid h2
  have HS := Lib.hid hS
  obtain ⟨lb, hlb⟩ : ∃ x, linesB l r = x := ⟨_, rfl⟩
  rw [hlb]
  have HLB := Lib.hid hlb
  clear h1 h2 hS hlb
  go_enter Try.func25, Try.ntmps25
  by_cases hl60 : l.length ≤ 60
  case neg =>
    have hI : (60 : Int) < (l.length : Int) := by omega
    have HF := Lib.hid (show lb = false from by rw [← HLB.out]; unfold linesB; rw [decide_eq_false hl60]; rfl)
    go_wp2_with fail
    go_ret
    exact ⟨by rw [HF.out]; rfl, Below.refl _ _⟩
  have hI1 : ¬ (60 : Int) < (l.length : Int) := by omega
  by_cases hr60 : r.length ≤ 60
  case neg =>
    have hI : (60 : Int) < (r.length : Int) := by omega
    have HF := Lib.hid (show lb = false from by rw [← HLB.out]; unfold linesB; rw [decide_eq_false hr60, Bool.and_false]; rfl)
    go_wp2_with fail
    go_ret
    exact ⟨by rw [HF.out]; rfl, Below.refl _ _⟩
  have hI2 : ¬ (60 : Int) < (r.length : Int) := by omega
  have HLB2 := Lib.hid (show lb = (decide (((l ++ r).map (·.r)).Nodup) && (l ++ r).all (fun x => amtB x.n)) from by rw [← HLB.out]; unfold linesB; rw [decide_eq_true hl60, decide_eq_true hr60]; rfl)
  have HLR := Lib.hid (And.intro hl60 hr60)
  have hm0 : MapG refK boolE (w.alloc (.map #[] 0)) w.heap.size 0 (fun _ => none) := MapG.made w
  have hB1 := (Below.refl w.heap.size w).alloc (Nat.le_refl _) (.map #[] 0)
  have hrow := heap_alloc_new (w.alloc (.map #[] 0)) (.cells #[.slice a1 l.length c1, .slice a2 r.length c2] 28)
  have hB2 := (Below.refl (w.alloc (.map #[] 0)).heap.size (w.alloc (.map #[] 0))).alloc (Nat.le_refl _) (.cells #[.slice a1 l.length c1, .slice a2 r.length c2] 28)
  have hB12 := below_step hB1 hB2
  have HCC := Lib.hid (concatO ((w.alloc (.map #[] 0)).alloc (.cells #[.slice a1 l.length c1, .slice a2 r.length c2] 28)) (w.alloc (.map #[] 0)).heap.size a1 c1 l a2 c2 r hrow (H1.out.below hB12 HS.out) (H2.out.below hB12 HS.out) (fun b hb => Nat.lt_of_lt_of_le (HS.out b hb) hB12.size) (by omega) (by omega))
  have HM1 := Lib.hid (hm0.below hB2)
  have HB1 := Lib.hid hB12
  clear hm0 hB1 hrow hB2 hB12
  rw [World.size_alloc] at HCC
  go_wp2_with fail
  refine HCC.out.mono ?_
  rintro e w2 ⟨v, rfl, hO, hB2⟩
  have HM2 := Lib.hid (HM1.out.below hB2)
  have HB2 := Lib.hid (below_step HB1.out hB2)
  have hO2 := hO.base (base' := w.heap.size + 1) (by simp)
  obtain ⟨va, vl, vc, rfl, hvl, -⟩ := hO.slice
  obtain ⟨al, hal⟩ : ∃ x, l ++ r = x := ⟨_, rfl⟩
  rw [hal] at hO2 HLB2
  have hvl2 : vl = al.length := by rw [hvl, ← hal, List.length_map]
  subst hvl2
  have HAN := Lib.hid (show al.length ≤ 120 from by rw [← hal, List.length_append]; omega)
  have HO2 := Lib.hid hO2
  have hal1 := HAN.out
  clear hO hO2 hB2 hal hvl HCC HM1 hI1 hI2 hl60 hr60
  go_wp2_with fail
  go_loopw [22] (fun iv wr => ∃ (k m : Nat), k ≤ al.length ∧ iv = .int .i64 k ∧ m ≤ k ∧ MapG refK boolE wr w.heap.size m (setF (fun x => decide (x ∈ (al.take k).map (·.r)))) ∧ ((al.take k).map (·.r)).Nodup ∧ (al.take k).all (fun x => amtB x.n) = true ∧ Gr (fun b => b = w.heap.size) w2 wr) (fun iv _ => al.length - (intOf iv).toNat)
  case atStart => exact ⟨0, 0, Nat.zero_le _, rfl, Nat.le_refl _, HM2.out.congr (fun x _ => by simp [setF]), by simp, rfl, Gr.refl _ _⟩
  obtain ⟨k, m, hk, rfl, hmk, hM, hnd, hall, hG⟩ := hrel
  have HM := Lib.hid hM
  have HND := Lib.hid hnd
  have HALL := Lib.hid hall
  have HG := Lib.hid hG
  have HMK := Lib.hid hmk
  have HBR := Lib.hid (show Below w.heap.size w wr from HB2.out.trans (hG.below (fun b e => by omega) HB2.out.size))
  clear hM hnd hall hG hmk
  by_cases hlt : k < al.length
  · have hkI : (k : Int) < (al.length : Int) := by omega
    have hO3 := HO2.out.gr HG.out (fun _ h => h.elim) (fun b e e2 => by have := (HO2.out.own b e).1; omega)
    obtain ⟨b, o, rfl, -, m0, m1, m2, hxo⟩ := open_at (hO3.rd (fun b => b < wr.heap.size) (fun _ h => h.elim) (fun b e => (hO3.own b e).2)) k hlt
    have HTK := Lib.hid (List.take_succ_eq_append_getElem hlt)
    have HIN := Lib.hid (List.getElem_mem hlt)
    have HLT := Lib.hid hlt
    generalize al[k] = x at m0 m1 m2 hxo HTK HIN
    have HXO := Lib.hid hxo.1
    obtain ⟨⟨xe, xl⟩, xn⟩ := x
    simp only at m0 m1 m2
    obtain ⟨sb, hsb⟩ : ∃ q, decide ((⟨xe, xl⟩ : R2) ∈ (al.take k).map (·.r)) = q := ⟨_, rfl⟩
    have HSB := Lib.hid hsb
    have HBAD1 := Lib.hid (show sb = true → lb = false from fun h => by
      rw [HLB2.out, decide_eq_false, Bool.false_and]
      intro hn
      have h2 : ((al.take (k + 1)).map (·.r)).Nodup := hn.sublist ((List.take_sublist _ _).map _)
      rw [HTK.out, List.map_append, List.map_cons, List.map_nil, nodup_snoc] at h2
      exact h2.2 (of_decide_eq_true (hsb.trans h)))
    have HBAD2 := Lib.hid (show amtB xn = false → lb = false from fun h => by
      rw [HLB2.out, show al.all (fun x => amtB x.n) = false from List.all_eq_false.2 ⟨_, HIN.out, by simp [h]⟩, Bool.and_false])
    have hBa := (Below.refl wr.heap.size wr).alloc (Nat.le_refl _) (.cells #[.int .i64 xe, .int .i64 xl, .int .i64 xn] 48)
    have hqb := heap_alloc_new wr (.cells #[.int .i64 xe, .int .i64 xl, .int .i64 xn] 48)
    have hm4 := HM.out.below hBa
    have hlk := hm4.look1 Try.underlying96 ⟨xe, xl⟩ HXO.out
    rw [show ((setF (fun x => decide (x ∈ (al.take k).map (·.r))) ⟨xe, xl⟩).getD boolE.z) = sb from by unfold setF; simp only [hsb]; cases sb <;> rfl] at hlk
    change Sem.run Try.prog (Instr.lookup 96 (.map (some w.heap.size)) (.agg #[.int .i64 xe, .int .i64 xl]) false) _ = .ok (.bool sb) _ at hlk
    have HM4 := Lib.hid hm4
    have HBA := Lib.hid hBa
    have HBX := Lib.hid (below_step HBR.out hBa)
    have k0 := blk_cell hqb 0
    have k1 := blk_cell hqb 1
    have k2 := blk_cell hqb 2
    simp only [List.getElem?_toArray, List.getElem?_cons_zero, List.getElem?_cons_succ] at k0 k1 k2
    clear hO3 hxo hBa hqb hm4 hlt hsb
    go_upto_region 7 with fail
    generalize World.alloc wr (.cells #[.int .i64 xe, .int .i64 xl, .int .i64 xn] 48) = wa at *
    cases sb
    case true =>
      have HF := Lib.hid (HBAD1.out (by first | rfl | trivial))
      go_wp2_with fail
      go_ret
      exact ⟨by rw [HF.out]; rfl, HBX.out⟩
    by_cases hz : xn = 0
    case pos =>
      have HF := Lib.hid (HBAD2.out (by unfold amtB; rw [decide_eq_true hz]; rfl))
      go_wp2_with fail
      go_ret
      exact ⟨by rw [HF.out]; rfl, HBX.out⟩
    by_cases hg : 1000000000000 < xn
    case pos =>
      have HF := Lib.hid (HBAD2.out (by unfold amtB; rw [decide_eq_true hg]; simp))
      go_wp2_with fail
      go_ret
      exact ⟨by rw [HF.out]; rfl, HBX.out⟩
    by_cases hs : xn < -1000000000000
    case pos =>
      have HF := Lib.hid (HBAD2.out (by unfold amtB; rw [decide_eq_true hs]; simp))
      go_wp2_with fail
      go_ret
      exact ⟨by rw [HF.out]; rfl, HBX.out⟩
    have HAM := Lib.hid (show amtB xn = true from by unfold amtB; rw [decide_eq_false hz, decide_eq_false hg, decide_eq_false hs]; rfl)
    obtain ⟨wb, hrun, hM5, hT⟩ := HM4.out.store Try.underlying96 (by have := HMK.out; have := HAN.out; simp [maxLen]; omega) ⟨xe, xl⟩ HXO.out true trivial
    change Sem.run Try.prog (Instr.mapUpdate 96 (.map (some w.heap.size)) (.agg #[.int .i64 xe, .int .i64 xl]) (.bool true)) wa = _ at hrun
    have HG5 := Lib.hid (show Gr (fun b => b = w.heap.size) w2 wb from (HG.out.step HBA.out).trans (Gr.of_turned hT) (fun x e => .inl e))
    have HM5 := Lib.hid hM5
    clear hM5 hT
    go_wp2_with fail
    clear hlk hrun k0 k1 k2 m0 m1 m2
    go_roundw
    case rel =>
      refine ⟨k + 1, _, HLT.out, by go_num, ?_, HM5.out.congr (fun y hy => ?_), ?_, ?_, HG5.out⟩
      · have := HMK.out
        split <;> omega
      · have hsf := of_decide_eq_false HSB.out
        rw [HTK.out]
        unfold setF
        by_cases e : y = ⟨xe, xl⟩
        · simp [e]
        · simp [e]
      · rw [HTK.out, List.map_append, List.map_cons, List.map_nil, nodup_snoc]
        exact ⟨HND.out, of_decide_eq_false HSB.out⟩
      · rw [HTK.out, List.all_append, HALL.out]
        simp [HAM.out]
    case measure => simp [intOf]; try omega
  · obtain rfl : k = al.length := by omega
    have hnd := HND.out
    have hall := HALL.out
    rw [List.take_length] at hnd hall
    have HT := Lib.hid (show lb = true from by rw [HLB2.out, decide_eq_true hnd, hall]; rfl)
    clear hnd hall
    go_wp2_with fail
    go_ret
    exact ⟨by rw [HT.out]; rfl, HBR.out⟩
end Go.Proofs.Ytpobckedeffjmaa

/- Layer 28: the number of ones, the reverse of bits. -/
set_option linter.unusedSimpArgs false
set_option maxRecDepth 50000
namespace Go.Proofs.Ytpobckedeffjmaa
open Go.RowKit Go

def oc1 (k m x : Int) : Int := IntKind.u64.wrap (bits .and .u64 (x / k) m + bits .and .u64 x m)
def oc3 (x : Int) : Int := bits .and .u64 (IntKind.u64.wrap (x / 16 + x)) 1085102592571150095
def oc4 (k x : Int) : Int := IntKind.u64.wrap (x + x / k)
def popI (x : Int) : Int := bits .and .i64 (wrap64 (oc4 4294967296 (oc4 65536 (oc4 256 (oc3 (oc1 4 3689348814741910323 (oc1 2 6148914691236517205 x))))))) 127
def swI (k m x : Int) : Int := bits .or .u64 (bits .and .u64 (x / k) m) (IntKind.u64.wrap (bits .and .u64 x m * k))
def rbI (x : Int) : Int :=
  let x1 := swI 65536 281470681808895 (swI 256 71777214294589695 x)
  bits .or .u64 (x1 / 4294967296) (IntKind.u64.wrap (x1 * 4294967296))
def rvI (x : Int) : Int := rbI (swI 16 1085102592571150095 (swI 4 3689348814741910323 (swI 2 6148914691236517205 x)))
theorem ones64 (w : World) (x : Int) : Calls Try.prog 59 #[.int .u64 x] w fun e w' => e = .returned (.int .i64 (popI x)) ∧ w' = w := by
  unfold popI
  generalize hs1 : oc1 2 6148914691236517205 x = s1
  unfold oc1 at hs1
  have HS1 := Lib.hid hs1
  clear hs1
  generalize hs2 : oc1 4 3689348814741910323 s1 = s2
  unfold oc1 at hs2
  have HS2 := Lib.hid hs2
  clear hs2
  generalize hs3 : oc3 s2 = s3
  unfold oc3 at hs3
  have HS3 := Lib.hid hs3
  clear hs3
  generalize hs4 : oc4 256 s3 = s4
  unfold oc4 at hs4
  have HS4 := Lib.hid hs4
  clear hs4
  generalize hs5 : oc4 65536 s4 = s5
  unfold oc4 at hs5
  have HS5 := Lib.hid hs5
  clear hs5
  generalize hs6 : oc4 4294967296 s5 = s6
  unfold oc4 at hs6
  have HS6 := Lib.hid hs6
  clear hs6
  go_enter Try.func59, Try.ntmps59
  go_upto_region 2 with fail
  rw [HS1.out]
  go_upto_region 3 with fail
  rw [HS2.out]
  go_upto_region 4 with fail
  rw [HS3.out]
  go_upto_region 5 with fail
  rw [HS4.out]
  go_upto_region 6 with fail
  rw [HS5.out]
  go_upto_region 7 with fail
  rw [HS6.out]
  go_wp2_with fail
  go_ret
  exact ⟨rfl, rfl⟩
theorem ones28 (w : World) (x : Int) : Calls Try.prog 51 #[.int .u64 x] w fun e w' => e = .returned (.int .i64 (popI x)) ∧ w' = w := by
  have HC := Lib.hid (ones64 w x)
  go_enter Try.func51, Try.ntmps51
  go_wp2_with fail
  refine HC.out.mono ?_
  rintro e w1 ⟨rfl, rfl⟩
  go_wp2_with fail
  go_ret
  exact ⟨rfl, rfl⟩
theorem revB64 (w : World) (x : Int) : Calls Try.prog 75 #[.int .u64 x] w fun e w' => e = .returned (.int .u64 (rbI x)) ∧ w' = w := by
  unfold rbI
  generalize hs1 : swI 256 71777214294589695 x = s1
  unfold swI at hs1
  have HS1 := Lib.hid hs1
  clear hs1
  generalize hs2 : swI 65536 281470681808895 s1 = s2
  unfold swI at hs2
  have HS2 := Lib.hid hs2
  clear hs2
  simp only
  go_enter Try.func75, Try.ntmps75
  go_upto_region 2 with fail
  rw [HS1.out]
  go_upto_region 3 with fail
  rw [HS2.out]
  go_wp2_with fail
  go_ret
  exact ⟨rfl, rfl⟩
theorem rev64 (w : World) (x : Int) : Calls Try.prog 63 #[.int .u64 x] w fun e w' => e = .returned (.int .u64 (rvI x)) ∧ w' = w := by
  unfold rvI
  have HR := Lib.hid (fun y => revB64 w y)
  generalize hs1 : swI 2 6148914691236517205 x = s1
  unfold swI at hs1
  generalize hs2 : swI 4 3689348814741910323 s1 = s2
  unfold swI at hs2
  generalize hs3 : swI 16 1085102592571150095 s2 = s3
  unfold swI at hs3
  have HS1 := Lib.hid hs1
  have HS2 := Lib.hid hs2
  have HS3 := Lib.hid hs3
  clear hs1 hs2 hs3
  go_enter Try.func63, Try.ntmps63
  go_upto_region 2 with fail
  rw [HS1.out]
  go_upto_region 3 with fail
  rw [HS2.out]
  go_upto_region 4 with fail
  rw [HS3.out]
  go_wp2_with fail
  refine (HR.out s3).mono ?_
  rintro e w1 ⟨rfl, rfl⟩
  go_wp2_with fail
  go_ret
  exact ⟨rfl, rfl⟩
theorem rev28 (w : World) (x : Int) : Calls Try.prog 54 #[.int .u64 x] w fun e w' => e = .returned (.int .u64 (rvI x)) ∧ w' = w := by
  have HC := Lib.hid (rev64 w x)
  go_enter Try.func54, Try.ntmps54
  go_wp2_with fail
  refine HC.out.mono ?_
  rintro e w1 ⟨rfl, rfl⟩
  go_wp2_with fail
  go_ret
  exact ⟨rfl, rfl⟩
/-- The comparison of two masks. -/
def cmI (a b : Int) : Int := if rvI b < rvI a then -1 else if rvI a < rvI b then 1 else 0
theorem cmp28 (w : World) (a b : Int) : Calls Try.prog 53 #[.int .u64 a, .int .u64 b] w fun e w' => e = .returned (.int .i64 (cmI a b)) ∧ w' = w := by
  have HA := Lib.hid (rev28 w a)
  have HB := Lib.hid (rev28 w b)
  unfold cmI
  generalize rvI a = x at HA ⊢
  generalize rvI b = y at HB ⊢
  by_cases h1 : y < x
  · rw [if_pos h1]
    go_enter Try.func53, Try.ntmps53
    go_wp2_with fail
    refine HA.out.mono ?_
    rintro e w1 ⟨rfl, hw⟩
    rw [hw]
    clear hw w1 HA
    go_wp2_with fail
    refine HB.out.mono ?_
    rintro e w1 ⟨rfl, hw⟩
    rw [hw]
    clear hw w1 HB
    go_wp2_with fail
    go_ret
    exact ⟨rfl, rfl⟩
  · rw [if_neg h1]
    by_cases h2 : x < y
    · rw [if_pos h2]
      go_enter Try.func53, Try.ntmps53
      go_wp2_with fail
      refine HA.out.mono ?_
      rintro e w1 ⟨rfl, hw⟩
      rw [hw]
      clear hw w1 HA
      go_wp2_with fail
      refine HB.out.mono ?_
      rintro e w1 ⟨rfl, hw⟩
      rw [hw]
      clear hw w1 HB
      go_wp2_with fail
      go_ret
      exact ⟨rfl, rfl⟩
    · rw [if_neg h2]
      go_enter Try.func53, Try.ntmps53
      go_wp2_with fail
      refine HA.out.mono ?_
      rintro e w1 ⟨rfl, hw⟩
      rw [hw]
      clear hw w1 HA
      go_wp2_with fail
      refine HB.out.mono ?_
      rintro e w1 ⟨rfl, hw⟩
      rw [hw]
      clear hw w1 HB
      go_wp2_with fail
      go_ret
      exact ⟨rfl, rfl⟩
end Go.Proofs.Ytpobckedeffjmaa

/- Layer 28, plain: masks of subsets, in order. -/
namespace Go.Proofs.Ytpobckedeffjmaa
open Go.RowKit Go

/-- The lists of n of a list's members, in lexicographic order of places. -/
def combL : List Nat → Nat → List (List Nat)
  | _, 0 => [[]]
  | [], _ + 1 => []
  | a :: l, n + 1 => (combL l n).map (a :: ·) ++ combL l (n + 1)
def maskOf (l : List Nat) : Nat := l.foldr (fun i m => 2 ^ i + m) 0
def masksK (k n : Nat) : List Nat := (combL (List.range k) n).map maskOf
/-- The reverse of twelve bits. -/
def rv12 (m : Nat) : Nat := (List.range 12).foldr (fun i s => (if m.testBit i then 2 ^ (11 - i) else 0) + s) 0
def popc (n : Nat) : Nat := (List.range 12).foldr (fun i s => (if n.testBit i then 1 else 0) + s) 0
def chk1 : Bool := (List.range 4096).all fun n => popI (n : Int) == (popc n : Int) && rvI (n : Int) == ((rv12 n * 4503599627370496 : Nat) : Int)
theorem chk1_ok : chk1 = true := by decide +kernel
def chainB : List Nat → Bool
  | a :: b :: l => decide (rv12 b < rv12 a) && chainB (b :: l)
  | _ => true
def chk2 (k n : Nat) : Bool := chainB (masksK k n) && (masksK k n).all (fun m => decide (m < 2 ^ k) && popc m == n) && (masksK k n).length == ((List.range (2 ^ k)).filter fun m => popc m == n).length
def chk3 : Bool := (List.range 13).all fun k => (List.range 13).all fun n => chk2 k n
theorem chk3_ok : chk3 = true := by decide +kernel
end Go.Proofs.Ytpobckedeffjmaa

/- Layer 28, plain: the masks of n ones, sorted, are those of the combinations. -/
namespace Go.Proofs.Ytpobckedeffjmaa
open Go.RowKit Go

theorem chainB_pw : ∀ l : List Nat, chainB l = true → l.Pairwise (fun a b => rv12 b < rv12 a)
  | [], _ => .nil
  | [a], _ => List.pairwise_singleton _ _
  | a :: b :: l, h => by
    unfold chainB at h
    rw [Bool.and_eq_true] at h
    have h1 := of_decide_eq_true h.1
    have h2 := chainB_pw (b :: l) h.2
    refine List.pairwise_cons.2 ⟨fun x hx => ?_, h2⟩
    rcases List.mem_cons.1 hx with rfl | hx
    · exact h1
    · have := (List.pairwise_cons.1 h2).1 x hx
      omega
theorem chk2_at {k n : Nat} (hk : k ≤ 12) (hn : n ≤ 12) : chk2 k n = true := by
  have h := chk3_ok
  unfold chk3 at h
  rw [List.all_eq_true] at h
  have h1 := h k (List.mem_range.2 (by omega))
  rw [List.all_eq_true] at h1
  exact h1 n (List.mem_range.2 (by omega))
theorem masks_pw {k n : Nat} (hk : k ≤ 12) (hn : n ≤ 12) : (masksK k n).Pairwise (fun a b => rv12 b < rv12 a) := by
  have h := chk2_at hk hn
  unfold chk2 at h
  rw [Bool.and_eq_true, Bool.and_eq_true] at h
  exact chainB_pw _ h.1.1
theorem masks_lt {k n m : Nat} (hk : k ≤ 12) (hn : n ≤ 12) (hm : m ∈ masksK k n) : m < 2 ^ k ∧ popc m = n := by
  have h := chk2_at hk hn
  unfold chk2 at h
  rw [Bool.and_eq_true, Bool.and_eq_true, List.all_eq_true] at h
  have := h.1.2 m hm
  rw [Bool.and_eq_true, beq_iff_eq] at this
  exact ⟨of_decide_eq_true this.1, this.2⟩
def popL (k n : Nat) : List Nat := (List.range (2 ^ k)).filter fun m => popc m == n
theorem mem_popL {k n m : Nat} : m ∈ popL k n ↔ m < 2 ^ k ∧ popc m = n := by
  unfold popL
  rw [List.mem_filter, List.mem_range, beq_iff_eq]
theorem popL_nodup (k n : Nat) : (popL k n).Nodup := List.nodup_range.sublist List.filter_sublist
theorem masks_nodup {k n : Nat} (hk : k ≤ 12) (hn : n ≤ 12) : (masksK k n).Nodup := (masks_pw hk hn).imp fun {a b} h e => by subst e; omega
theorem masks_perm {k n : Nat} (hk : k ≤ 12) (hn : n ≤ 12) : (masksK k n).Perm (popL k n) := by
  have hp : (masksK k n).Perm ((popL k n).filter (fun x => decide (x ∈ masksK k n))) := (List.perm_ext_iff_of_nodup (masks_nodup hk hn) ((popL_nodup k n).sublist List.filter_sublist)).2 fun x => by
    rw [List.mem_filter, mem_popL]
    exact ⟨fun hx => ⟨masks_lt hk hn hx, decide_eq_true hx⟩, fun hx => of_decide_eq_true hx.2⟩
  have hl : (masksK k n).length = (popL k n).length := by
    have h := chk2_at hk hn
    unfold chk2 at h
    rw [Bool.and_eq_true, beq_iff_eq] at h
    exact h.2
  have hf : (popL k n).filter (fun x => decide (x ∈ masksK k n)) = popL k n := List.filter_sublist.eq_of_length (by rw [← hp.length_eq, hl])
  rw [hf] at hp
  exact hp
theorem masks_uniq {k n : Nat} (hk : k ≤ 12) (hn : n ≤ 12) {l : List Nat} (hp : l.Perm (popL k n)) (hs : l.Pairwise (fun a b => ¬ rv12 a < rv12 b)) : l = masksK k n := by
  have hp2 : l.Perm (masksK k n) := hp.trans (masks_perm hk hn).symm
  refine hp2.eq_of_pairwise (le := fun a b => ¬ rv12 a < rv12 b) (fun a b ha hb h1 h2 => ?_) hs ((masks_pw hk hn).imp fun {a b} h => by omega)
  have ha' := hp2.mem_iff.1 ha
  have he : rv12 a = rv12 b := by omega
  obtain ⟨i, hi, rfl⟩ := List.mem_iff_getElem.1 ha'
  obtain ⟨j, hj, rfl⟩ := List.mem_iff_getElem.1 hb
  have hpw := List.pairwise_iff_getElem.1 (masks_pw hk hn)
  rcases Nat.lt_trichotomy i j with h | h | h
  · have := hpw i j hi hj h; omega
  · subst h; rfl
  · have := hpw j i hj hi h; omega
theorem chk1_at {n : Nat} (h : n < 4096) : popI (n : Int) = (popc n : Int) ∧ rvI (n : Int) = ((rv12 n * 4503599627370496 : Nat) : Int) := by
  have h1 := chk1_ok
  unfold chk1 at h1
  rw [List.all_eq_true] at h1
  have h2 := h1 n (List.mem_range.2 h)
  rw [Bool.and_eq_true, beq_iff_eq, beq_iff_eq] at h2
  exact h2
theorem cm_lt {a b : Nat} (ha : a < 4096) (hb : b < 4096) : cmI (a : Int) (b : Int) < 0 ↔ rv12 b < rv12 a := by
  unfold cmI
  rw [(chk1_at ha).2, (chk1_at hb).2]
  split
  · rename_i h
    exact ⟨fun _ => by omega, fun _ => by decide⟩
  · rename_i h
    constructor
    · intro h2
      split at h2
      · exact absurd h2 (by decide)
      · exact absurd h2 (by decide)
    · intro h2
      omega
theorem masks_4096 {k n m : Nat} (hk : k ≤ 12) (hn : n ≤ 12) (hm : m ∈ masksK k n) : m < 4096 := by
  have h1 := (masks_lt hk hn hm).1
  have h2 : 2 ^ k ≤ 2 ^ 12 := Nat.pow_le_pow_right (by decide) hk
  omega
end Go.Proofs.Ytpobckedeffjmaa

/- Layer 28: the sort of masks. -/
set_option linter.unusedSimpArgs false
set_option maxRecDepth 50000
namespace Go.Proofs.Ytpobckedeffjmaa
section
open Go.Shelf Go.RowKit Go.Lib Go.Sort
def sortM_ren : Go.Shelf.Ren := ⟨fun | 6 => 52 | 15 => 61 | 14 => 60 | 28 => 72 | 29 => 73 | 20 => 64 | 21 => 65 | 22 => 66 | 23 => 67 | 24 => 68 | 25 => 69 | 26 => 70 | 27 => 71 | 46 => 76 | 47 => 77 | 48 => 78 | 49 => 79 | 50 => 80 | 57 => 81 | n => n, fun | 22 => 118 | 24 => 105 | 25 => 122 | 3 => 3 | 39 => 105 | 0 => 0 | 53 => 127 | 55 => 129 | 4 => 4 | 46 => 135 | 45 => 134 | 50 => 139 | 5 => 5 | 9 => 9 | 66 => 141 | 70 => 145 | 76 => 147 | 77 => 148 | n => n, fun | n => n⟩
theorem sortM : Go.Proofs.SlLaysF.n6 Try.prog sortM_ren := {
  mixed := by kernel_rfl
  f6 := ⟨Try.f52.name, by decide, Try.func52.trans (congrArg some (by kernel_rfl))⟩
  f14 := ⟨Try.f60.name, by decide, Try.func60.trans (congrArg some (by kernel_rfl))⟩
  f15 := Try.func61.trans (congrArg some (by kernel_rfl))
  f20 := ⟨Try.f64.name, by decide, Try.func64.trans (congrArg some (by kernel_rfl))⟩
  f21 := ⟨Try.f65.name, by decide, Try.func65.trans (congrArg some (by kernel_rfl))⟩
  f22 := ⟨Try.f66.name, by decide, Try.func66.trans (congrArg some (by kernel_rfl))⟩
  f23 := ⟨Try.f67.name, by decide, Try.func67.trans (congrArg some (by kernel_rfl))⟩
  f24 := ⟨Try.f68.name, by decide, Try.func68.trans (congrArg some (by kernel_rfl))⟩
  f25 := ⟨Try.f69.name, by decide, Try.func69.trans (congrArg some (by kernel_rfl))⟩
  f26 := ⟨Try.f70.name, by decide, Try.func70.trans (congrArg some (by kernel_rfl))⟩
  f27 := ⟨Try.f71.name, by decide, Try.func71.trans (congrArg some (by kernel_rfl))⟩
  f28 := Try.func72.trans (congrArg some (by kernel_rfl))
  f29 := Try.func73.trans (congrArg some (by kernel_rfl))
  f46 := ⟨Try.f76.name, by decide, Try.func76.trans (congrArg some (by kernel_rfl))⟩
  f47 := Try.func77.trans (congrArg some (by kernel_rfl))
  f48 := Try.func78.trans (congrArg some (by kernel_rfl))
  f49 := ⟨Try.f79.name, by decide, Try.func79.trans (congrArg some (by kernel_rfl))⟩
  f50 := ⟨Try.f80.name, by decide, Try.func80.trans (congrArg some (by kernel_rfl))⟩
  f57 := ⟨Try.f81.name, by decide, Try.func81.trans (congrArg some (by kernel_rfl))⟩
  t0 := Try.underlying0
  a0 := Try.isAgg0
  z0 := Try.sizeOf0
  v0 := Try.zeroValue0
  t3 := Try.underlying3
  a3 := Try.isAgg3
  z3 := Try.sizeOf3
  v3 := Try.zeroValue3
  t4 := Try.underlying4
  a4 := Try.isAgg4
  z4 := Try.sizeOf4
  v4 := Try.zeroValue4
  t5 := Try.underlying5
  a5 := Try.isAgg5
  z5 := Try.sizeOf5
  v5 := Try.zeroValue5
  t9 := Try.underlying9
  a9 := Try.isAgg9
  z9 := Try.sizeOf9
  v9 := Try.zeroValue9
  t22 := Try.underlying118
  a22 := Try.isAgg118
  z22 := Try.sizeOf118
  v22 := Try.zeroValue118
  a24 := Try.isAgg105
  z24 := Try.sizeOf105
  t25 := Try.underlying122
  a25 := Try.isAgg122
  z25 := Try.sizeOf122
  v25 := Try.zeroValue122
  t39 := Try.underlying105
  a39 := Try.isAgg105
  z39 := Try.sizeOf105
  v39 := Try.zeroValue105
  t45 := Try.underlying134
  a45 := Try.isAgg134
  z45 := Try.sizeOf134
  v45 := Try.zeroValue134
  t46 := Try.underlying135
  a46 := Try.isAgg135
  z46 := Try.sizeOf135
  v46 := Try.zeroValue135
  t50 := Try.underlying139
  a50 := Try.isAgg139
  z50 := Try.sizeOf139
  v50 := Try.zeroValue139
  t53 := Try.underlying127
  a53 := Try.isAgg127
  z53 := Try.sizeOf127
  v53 := Try.zeroValue127
  t55 := Try.underlying129
  a55 := Try.isAgg129
  z55 := Try.sizeOf129
  v55 := Try.zeroValue129
  t66 := Try.underlying141
  a66 := Try.isAgg141
  z66 := Try.sizeOf141
  v66 := Try.zeroValue141
  t70 := Try.underlying145
  a70 := Try.isAgg145
  z70 := Try.sizeOf145
  v70 := Try.zeroValue145
  t76 := Try.underlying147
  a76 := Try.isAgg147
  z76 := Try.sizeOf147
  v76 := Try.zeroValue147
  t77 := Try.underlying148
  a77 := Try.isAgg148
  z77 := Try.sizeOf148
  v77 := Try.zeroValue148 }
end
open Go.RowKit Go

def encM (x : Fin 4096) : Value := .int .u64 (x.val : Int)
def cm (x y : Fin 4096) : Int := cmI (x.val : Int) (y.val : Int)
theorem cm_iff (x y : Fin 4096) : cm x y < 0 ↔ rv12 y.val < rv12 x.val := cm_lt x.isLt y.isLt
theorem swoM : Sort.SWO (ltOf cm) where
  irrefl x := by unfold ltOf; rw [decide_eq_false_iff_not, cm_iff]; omega
  trans x y z h1 h2 := by unfold ltOf at *; rw [decide_eq_true_iff, cm_iff] at *; omega
  ntrans x y z h1 h2 := by unfold ltOf at *; rw [decide_eq_false_iff_not, cm_iff] at *; omega
/-- Masks in a row of their own. -/
def SlM (base : Nat) (w : World) (v : Value) (l : List Nat) : Prop :=
  (v = .slice none 0 0 ∧ l = []) ∨ ∃ g cap, v = .slice (some ⟨g, 0, none⟩) l.length cap ∧ base ≤ g ∧ g < w.heap.size ∧ l.length ≤ cap ∧ cap ≤ 9223372036854775807 ∧ ∀ i (hi : i < l.length), w.cell? ⟨g, i, none⟩ = some (.int .u64 (l[i] : Int))
theorem SlM.form {base : Nat} {w : World} {v : Value} {l : List Nat} (h : SlM base w v l) : ∃ a c, v = .slice a l.length c := by
  rcases h with ⟨rfl, rfl⟩ | ⟨g, cap, rfl, -⟩
  · exact ⟨_, _, rfl⟩
  · exact ⟨_, _, rfl⟩
theorem SlM.cell {base : Nat} {w : World} {a : Option Addr} {n c : Nat} {l : List Nat} (h : SlM base w (.slice a n c) l) (i : Nat) (hi : i < l.length) : ∃ g, a = some ⟨g, 0, none⟩ ∧ base ≤ g ∧ g < w.heap.size ∧ w.cell? ⟨g, i, none⟩ = some (.int .u64 (l[i] : Int)) := by
  rcases h with ⟨-, rfl⟩ | ⟨g, cap, he, h1, h2, -, -, h5⟩
  · simp at hi
  · simp only [Value.slice.injEq] at he
    exact ⟨g, he.1, h1, h2, h5 i hi⟩
theorem SlM.keep {base : Nat} {w w' : World} {v : Value} {l : List Nat} (h : SlM base w v l) (hw : ∀ b, v.ownBlock = some b → w'.heap[b]? = w.heap[b]?) (hsz : w.heap.size ≤ w'.heap.size) : SlM base w' v l := by
  rcases h with h | ⟨g, cap, rfl, h1, h2, h3, h4, h5⟩
  · exact .inl h
  · refine .inr ⟨g, cap, rfl, h1, Nat.lt_of_lt_of_le h2 hsz, h3, h4, fun i hi => ?_⟩
    have hg := hw g rfl
    rw [← h5 i hi]
    unfold World.cell?
    simp only [hg]
theorem SlM.below {base : Nat} {w w' : World} {v : Value} {l : List Nat} (h : SlM base w v l) (hB : Below w.heap.size w w') : SlM base w' v l := by
  refine h.keep (fun b hb => hB.block b ?_) hB.size
  rcases h with ⟨rfl, -⟩ | ⟨g, cap, rfl, -, h2, -⟩
  · cases hb
  · cases hb; exact h2
open Go.Sort in
theorem below_sortW {α : Type} [Inhabited α] (enc : α → Value) (w : World) (blk off n : Nat) (d : Array α) (os : Array Obj) (B : Nat) (hB : B ≤ blk) (hw : B ≤ w.heap.size) : Below B w (sortWorld enc w blk off n d os) := by
  refine ⟨rfl, rfl, rfl, ?_, fun i hi => ?_⟩
  · show w.heap.size ≤ (w.heap.modify blk _ ++ os).size
    rw [Array.size_append, Array.size_modify]; omega
  · show (w.heap.modify blk _ ++ os)[i]? = _
    rw [Array.getElem?_append_left (by rw [Array.size_modify]; omega), Array.getElem?_modify]
    rw [if_neg (by omega)]
instance : Inhabited (Fin 4096) := ⟨0⟩
open Go.Sort in
theorem sortM28 {base : Nat} (w : World) (v : Value) (k n : Nat) (hk : k ≤ 12) (hn : n ≤ 12) (hO : Owns (.int .u64) 105 base (fun _ => False) w v ((popL k n).map fun m : Nat => (m : Int))) (hb : base ≤ w.heap.size) :
    Calls Try.prog 52 #[v, .func (.func 53) #[] #[]] w fun e w' => e = .returned (.tuple #[]) ∧ SlM base w' v (masksK k n) ∧ Below base w w' := by
  have hsmall : ∀ m ∈ popL k n, m < 4096 := fun m hm => masks_4096 hk hn ((masks_perm hk hn).mem_iff.2 hm)
  have hmp := masks_perm hk hn
  have hp4 : (popL k n).length ≤ 4096 := by
    unfold popL
    refine Nat.le_trans (List.length_filter_le _ _) ?_
    rw [List.length_range]
    exact Nat.le_trans (Nat.pow_le_pow_right (by decide) hk) (by decide : 2 ^ 12 ≤ 4096)
  have hun : ∀ l : List Nat, l.Perm (popL k n) → l.Pairwise (fun a b => ¬ rv12 a < rv12 b) → l = masksK k n := fun l => masks_uniq hk hn
  generalize popL k n = pl at hO hsmall hmp hun hp4
  have hrow := hO
  rcases hO.len with ⟨rfl, h0⟩ | ⟨g, cap, rfl, hbg, hgw, hlc, hcm⟩
  · have hs0 : pl = [] := by simpa using h0
    subst hs0
    have hm0 : masksK k n = [] := by have := hmp.length_eq; exact List.length_eq_zero_iff.1 (by simpa using this)
    refine (AnyF.slices_SortFunc_none (P := Try.prog) { sortM with } none 0 (.func (.func 53) #[] #[]) w).mono ?_
    rintro e w' ⟨he, rfl⟩
    exact ⟨he, .inl ⟨rfl, hm0⟩, Below.refl _ _⟩
  · rw [List.length_map] at hlc ⊢
    -- the data
    obtain ⟨d, hd⟩ : ∃ d : List (Fin 4096), d.map (·.val) = pl := ⟨pl.pmap (fun m h => (⟨m, h⟩ : Fin 4096)) hsmall, by rw [List.map_pmap]; simp⟩
    have hdl : d.length = pl.length := by rw [← hd, List.length_map]
    have hH : Holds encM w g 0 d.toArray := by
      intro j hj
      have hj' : j < d.length := by simpa using hj
      obtain ⟨vs, ho, hr, -⟩ := hrow
      refine ⟨?_, ?_⟩
      · obtain ⟨c, hc, hcc, hrd⟩ := hr.at_ j (by rw [List.length_map, ← hdl]; exact hj')
        rw [List.getElem_map] at hrd
        obtain ⟨rfl, -⟩ := hrd
        have hv := ho.cells (g := g) rfl j
        rw [Addr.add_none] at hv
        have h2 := hcc 0 _ rfl
        have hx : (d.toArray)[j]! = d[j] := by simp [hj']
        rw [hx]
        have hpl : pl[j]'(by rw [← hdl]; exact hj') = d[j].val := by subst hd; simp
        unfold encM
        rw [← hpl]
        have e1 : j * (Ty.int .u64).sz + 0 = j := by simp [Ty.sz]
        rw [e1] at h2
        rw [Nat.zero_add] at hv ⊢
        exact hv _ h2
      · rcases ho.2 with ⟨he, _⟩ | ⟨g', cap', cur, he, -, hgb, -⟩
        · cases he
        · simp only [Value.slice.injEq, Option.some.injEq, Addr.mk.injEq, true_and] at he
          obtain ⟨⟨rfl, -⟩, -⟩ := he
          simp [World.frozen?, hgb]
    have eg : ∀ args w, (callFunc 53 args).run Try.prog w = .ok (.enter 53 args) w := enters_of Try.func53 (by kernel_rfl) rfl
    have hcmp : CmpLays1 Try.prog 53 #[] encM cm g 0 d.toArray.size w := by
      intro m' os dk _ x y
      refine (cmp28 _ x.val y.val).mono ?_
      rintro e w' ⟨he, rfl⟩
      exact ⟨he, 0, #[], by simp [grow, World.drewN_zero]⟩
    rw [show pl.length = d.toArray.size from by simp [hdl]]
    refine (Any.slices_SortFunc sortM encM (fun x => rfl) cm swoM 53 #[] g 0 cap d.toArray w eg hcmp hH hgw (by simp [hdl]; omega)).mono ?_
    rintro e w' ⟨he, d', n', os, hP, hSo, rfl⟩
    have hsz : d'.size = d.length := hP.1.trans (by simp)
    have hperm : d'.toList.Perm d := by
      have := hP.2.2
      rw [show d'.extract 0 d.toArray.size = d' from by rw [show d.toArray.size = d'.size from by simp [hsz]]; exact Array.extract_size, show d.toArray.extract 0 d.toArray.size = d.toArray from Array.extract_size] at this
      exact this
    have hmk : d'.toList.map (·.val) = masksK k n := hun _ (by rw [← hd]; exact hperm.map _) (by
      rw [List.pairwise_map, List.pairwise_iff_getElem]
      intro i j hi hj hij
      have hi' : i < d'.size := by simpa using hi
      have hj' : j < d'.size := by simpa using hj
      have := hSo i j (Nat.zero_le _) hij (by simp; omega)
      rw [getElem!_pos d' i hi', getElem!_pos d' j hj'] at this
      simp only [Array.getElem_toList]
      unfold ltOf at this
      rw [decide_eq_false_iff_not, cm_iff] at this
      exact this)
    have hk2 := holds_sortWorld encM w g 0 n' d.toArray d' os hgw hH (by simp [hsz])
    refine ⟨he, .inr ⟨g, cap, ?_, hbg, ?_, ?_, by simpa [maxLen] using hcm, fun i hi => ?_⟩, below_sortW _ _ _ _ _ _ _ _ hbg hb⟩
    · rw [← hmk, List.length_map]; simp [hsz]
    · have := (below_sortW encM w g 0 n' d' os base hbg hb).size; omega
    · rw [← hmk, List.length_map]; simp [hsz]; omega
    · have hi' : i < d'.size := by rw [← hmk, List.length_map] at hi; simpa using hi
      have := (hk2 i hi').1
      rw [Nat.zero_add, getElem!_pos d' i hi'] at this
      rw [this]
      have : (masksK k n)[i] = d'[i].val := by
        have := congrArg (fun l => l[i]?) hmk
        simp [hi'] at this
        rw [List.getElem?_eq_getElem hi] at this
        exact (Option.some.inj this).symm
      unfold encM
      rw [this]
end Go.Proofs.Ytpobckedeffjmaa

/- Program independent: a range over a function whose iterator hands out a list known ahead, and writes cells of its own meanwhile. -/
set_option linter.unusedVariables false
namespace Go.Proofs.Ytpobckedeffjmaa
open Go.RowKit Go

/-- J stands whatever turns at block B and beyond. -/
def AbG {β : Type} (B : Nat) (J : β → World → Prop) : Prop := ∀ s W W', J s W → Gr (fun b => B ≤ b) W W' → J s W'
/-- Whatever cells there were are there. -/
def KC (W W' : World) : Prop := W.heap.size ≤ W'.heap.size ∧ ∀ (b : Nat) (o : Obj), W.heap[b]? = some o → o.isCells = true → W'.heap[b]? = some o
theorem KC.trans {a b c : World} (h : KC a b) (k : KC b c) : KC a c := ⟨Nat.le_trans h.1 k.1, fun x o ho hc => k.2 x o (h.2 x o ho hc) hc⟩
theorem KC.of_below {w w' : World} (h : Below w.heap.size w w') : KC w w' := ⟨h.size, fun b o ho _ => (h.block b (Array.getElem?_eq_some_iff.1 ho).1).trans ho⟩
theorem KC.putObj {W : World} {l : Nat} {o : Obj} (o' : Obj) (hl : W.heap[l]? = some o) (ho : o.isCells = false) : KC W (W.putObj l o') := by
  refine ⟨by simp [World.putObj], fun b x hb hx => ?_⟩
  rw [World.putObj_heap_other (by intro e; subst e; rw [hl] at hb; cases hb; rw [ho] at hx; cases hx)]
  exact hb
theorem gr_putObj {F : Nat → Prop} (W : World) (l : Nat) (o : Obj) (hl : F l) : Gr F W (W.putObj l o) :=
  ⟨rfl, rfl, rfl, by simp [World.putObj], fun k _ hf => World.putObj_heap_other (by intro e; subst e; exact hf hl)⟩
/-- Whatever was no cells is there. -/
def KN (W W' : World) : Prop := ∀ (b : Nat) (o : Obj), W.heap[b]? = some o → o.isCells = false → W'.heap[b]? = some o
theorem KN.of_below {w w' : World} (h : Below w.heap.size w w') : KN w w' := fun b o ho _ => (h.block b (Array.getElem?_eq_some_iff.1 ho).1).trans ho
theorem KN.trans {a b c : World} (h : KN a b) (k : KN b c) : KN a c := fun x o ho hc => k x o (h x o ho hc) hc
/-- The iterator's contract: L comes, or a part of it. -/
def IterL {α : Type} (P : Program) (g : Nat) (lb : Array Value) (encs : α → Array Value) (L : List α) (w : World) : Prop :=
  ∀ (n l : Nat) (J Jx : List α → World → Prop) (W : World), 1 ≤ n → Below w.heap.size w W → AbG W.heap.size J →
    (∀ pre x rest W1, L = pre ++ x :: rest → J pre W1 → YieldAt Fence.wide (n - 1) P l (encs x) W1 fun e W' =>
      (e = .returned (.bool true) ∧ J (pre ++ [x]) W' ∧ KC W1 W') ∨ (e = .returned (.bool false) ∧ Jx (pre ++ [x]) W')) →
    J [] W →
    CallsIn Fence.wide n P g (#[.func (.yield l) #[] #[]] ++ lb) W fun e W' => (∃ v, e = .returned v) ∧ (J L W' ∨ ∃ pre x rest, L = pre ++ x :: rest ∧ Jx (pre ++ [x]) W')
/-- How a round may be left. -/
def postL {α : Type} (I : List α → World → Prop) (Ix : Nat → List α → World → Prop) (xs : List α) (W : World) : Exit → Act → World → Prop
  | .normal, _, W' => Below W.heap.size W W' ∧ I xs W'
  | .exit id, _, W' => KN W W' ∧ Ix id xs W'
  | _, _, _ => False
theorem wpIn_rangeL {P : Program} {α : Type} {n : Nat} {g : Operand} {ps : Array Tmp} {assign body : Code} {Q : Exit → Act → World → Prop} {a : Act} {w w0 : World} {gf : Nat} {lb : Array Value} {encs : α → Array Value} {L : List α}
    (hn : 2 ≤ n) (hg : a.eval g = .func (.func gf) #[] lb) (eg : ∀ args w, (callFunc gf args).run P w = .ok (.enter gf args) w) (hiter : IterL P gf lb encs L w0) (hb0 : Below w0.heap.size w0 w) (hps : ∀ x, (encs x).size = ps.size)
    (I : List α → World → Prop) (Ix : Nat → List α → World → Prop) (hI : AbG w.heap.size I) (hIx : ∀ id s W l o o', Ix id s W → w.heap.size ≤ l → W.heap[l]? = some o → o.isCells = false → Ix id s (W.putObj l o'))
    (h0 : I [] w) (a₁ : α → Act)
    (hassign : ∀ (l : Nat) (x : α) (W : World) (K : Act → World → Prop), K (a₁ x) W →
      assign.wpIn (Fence.wide.inRound l) (n - 1 - 1) P (Exit.then K (fun _ _ _ => False)) { tmps := (ps.zip (encs x)).foldl (fun t (p, v) => t.setIfInBounds p v) a.tmps, defers := [] } W)
    (hbody : ∀ (l : Nat) (pre : List α) (x : α) (rest : List α) (W : World), L = pre ++ x :: rest → w.heap.size ≤ l → I pre W → body.wpIn (Fence.wide.inRound l) (n - 1 - 1) P (postL I Ix (pre ++ [x]) W) (a₁ x) W)
    (hdone : ∀ (D : Nat) (W : World), w.heap.size ≤ D → I L W → W.heap[D]? = some (.deferred (some [])) → Q .normal { a with defers := { target := .collected D, args := #[] } :: a.defers } W)
    (hstop : ∀ (D id : Nat) (pre : List α) (x : α) (rest : List α) (W : World), w.heap.size ≤ D → L = pre ++ x :: rest → Ix id (pre ++ [x]) W → W.heap[D]? = some (.deferred (some [])) → (Code.exit id).wpIn Fence.wide n P Q { a with defers := { target := .collected D, args := #[] } :: a.defers } W) :
    (Code.rangeFunc g ps assign body).wpIn Fence.wide n P Q a w := by
  refine wpIn_rangeFunc fun fn _ => ?_
  -- the record, and the block for the rounds' deferred calls
  let rc : LoopState → Option Code → Loop := fun st pe => { state := st, pending := pe, fn, tmps := a.tmps, params := ps, assign, body, defers := w.heap.size }
  let W1 := (w.alloc (.deferred (some []))).alloc (.loop (rc .ready none))
  have hD1 : W1.heap[w.heap.size]? = some (.deferred (some [])) := heap_alloc2_old w _ _
  have hR1 : W1.heap[w.heap.size + 1]? = some (.loop (rc .ready none)) := heap_alloc2_new w _ _
  have hB1 : Below w.heap.size w W1 := ((Below.refl _ w).alloc (Nat.le_refl _) _).alloc (by simp) _
  have hs1 : W1.heap.size = w.heap.size + 2 := by show ((w.alloc _).alloc _).heap.size = _; simp
  refine ⟨w.heap.size + 1, [{ target := .collected w.heap.size, args := #[] }], W1, { target := .fn (.func gf) lb, args := #[.func (.yield (w.heap.size + 1)) #[] #[]] }, W1, gf,
    #[.func (.yield (w.heap.size + 1)) #[] #[]] ++ lb, W1, run_enterLoop_outer _ _ _ _ _, ?_, fun _ _ => trivial, by simp [invoke, go_sem, eg], fun h => by simp [Fence.wide] at h, ?_⟩
  · simp only [resolve, hg]
    simp [go_sem]
  refine (hiter (n - 1) (w.heap.size + 1)
    (fun pre W => I pre W ∧ W.heap[w.heap.size + 1]? = some (.loop (rc .ready none)) ∧ W.heap[w.heap.size]? = some (.deferred (some [])))
    (fun pre W => ∃ id, Ix id pre W ∧ W.heap[w.heap.size + 1]? = some (.loop (rc .done (some (.exit id)))) ∧ W.heap[w.heap.size]? = some (.deferred (some [])))
    W1 (by omega) (hb0.trans (hB1.mono hb0.size)) ?_ ?_ ⟨hI _ _ _ h0 (Gr.of_below hB1), hR1, hD1⟩).mono ?_
  · rintro s A B ⟨h1, h2, h3⟩ hG
    refine ⟨hI _ _ _ h1 (hG.mono fun x hx => .inl (by show w.heap.size ≤ x; have : W1.heap.size ≤ x := hx; omega)), ?_, ?_⟩
    · exact (hG.block _ (Array.getElem?_eq_some_iff.1 h2).1 (by rw [hs1]; omega)).trans h2
    · exact (hG.block _ (Array.getElem?_eq_some_iff.1 h3).1 (by rw [hs1]; omega)).trans h3
  · rintro pre x rest W hL ⟨hi, hl, hk⟩
    have hlt := (Array.getElem?_eq_some_iff.1 hl).1
    refine ⟨fn, _, assign, body, run_yield hl (hps x), roundIn_of_wpIn trivial (hassign _ x W _ ?_)⟩
    refine ⟨_, run_beginRound hl rfl, ?_⟩
    generalize hW2 : W.putObj (w.heap.size + 1) (.loop { rc .ready none with state := .busy }) = W2
    have hg2 : Gr (fun b => w.heap.size ≤ b) W W2 := by rw [← hW2]; exact gr_putObj W _ _ (by omega)
    have hl2 : W2.heap[w.heap.size + 1]? = some (.loop { rc .ready none with state := .busy }) := by rw [← hW2]; exact World.putObj_heap_same hlt
    have hk2 : W2.heap[w.heap.size]? = some (.deferred (some [])) := by rw [← hW2]; exact (World.putObj_heap_other (by omega)).trans hk
    have hc2 : KC W W2 := by rw [← hW2]; exact KC.putObj _ hl rfl
    refine wpIn_mono (hbody _ pre x rest W2 hL (by omega) (hI _ _ _ hi hg2)) ?_
    rintro e a3 W3 hp
    cases e with
    | normal =>
      obtain ⟨hb3, hi3⟩ := hp
      have hl3 := KN.of_below hb3 _ _ hl2 rfl
      have hk3 := KN.of_below hb3 _ _ hk2 rfl
      refine ⟨_, _, run_endRound none hl3, .inl ⟨rfl, ⟨hI _ _ _ hi3 (gr_putObj W3 _ _ (by omega)), ?_, ?_⟩, hc2.trans ((KC.of_below hb3).trans (KC.putObj _ hl3 rfl))⟩⟩
      · exact World.putObj_heap_same (Array.getElem?_eq_some_iff.1 hl3).1
      · exact (World.putObj_heap_other (by omega)).trans hk3
    | exit id =>
      obtain ⟨hk3, hi3⟩ := hp
      have hl3 := hk3 _ _ hl2 rfl
      refine ⟨_, _, run_endRound (some (.exit id)) hl3, .inr ⟨rfl, id, hIx _ _ _ _ _ _ hi3 (by omega) hl3 rfl, ?_, ?_⟩⟩
      · exact World.putObj_heap_same (Array.getElem?_eq_some_iff.1 hl3).1
      · exact (World.putObj_heap_other (by omega)).trans (hk3 _ _ hk2 rfl)
    | ret => exact hp.elim
    | goto t => exact hp.elim
    | panic c => exact hp.elim
    | outgrown => exact hp.elim
  · rintro e W2 ⟨⟨v, rfl⟩, (⟨hi, hl, hk⟩ | ⟨pre, x, rest, hL, id, hi, hl, hk⟩)⟩
    · exact ⟨none, _, run_endLoop hl (by simp [rc]), hdone _ _ (Nat.le_refl _) (hI _ _ _ hi (gr_putObj W2 _ _ (by omega))) ((World.putObj_heap_other (by omega)).trans hk)⟩
    · exact ⟨some (.exit id), _, run_endLoop hl (by simp [rc]), hstop _ id pre x rest _ (Nat.le_refl _) hL (hIx _ _ _ _ _ _ hi (by omega) hl rfl) ((World.putObj_heap_other (by omega)).trans hk)⟩
end Go.Proofs.Ytpobckedeffjmaa
