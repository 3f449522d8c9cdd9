/- Layer 47: the sort of cells (by the kit's sort). -/
import Derived.Test.YtoimbhdjhhmonaaD47c
import Derived.Shelf.SlSortCmp.NoneTotal
import Derived.Shelf.SlGeneric
import Derived.Ground.SlsfProg
import Derived.Sort.MapsRangeIn
import Derived.Sort.KeysCollected
import Derived.RangeFuncNested
set_option linter.unusedSimpArgs false
set_option maxRecDepth 50000
namespace Go.Proofs.Ytoimbhdjhhmonaa
section
open Go.Shelf Go.RowKit Go.Lib Go.Sort
def sortC_ren : Go.Shelf.Ren := ⟨fun | 6 => 51 | 15 => 66 | 14 => 65 | 28 => 81 | 29 => 82 | 20 => 73 | 21 => 74 | 22 => 75 | 23 => 76 | 24 => 77 | 25 => 78 | 26 => 79 | 27 => 80 | 46 => 85 | 47 => 86 | 48 => 87 | 49 => 88 | 50 => 89 | 57 => 90 | n => n, fun | 22 => 23 | 24 => 38 | 25 => 71 | 3 => 3 | 39 => 86 | 0 => 0 | 53 => 109 | 55 => 111 | 4 => 4 | 46 => 103 | 45 => 102 | 50 => 69 | 5 => 5 | 9 => 9 | 66 => 114 | 70 => 118 | 76 => 120 | 77 => 121 | n => n, fun | n => n⟩
theorem sortC : Go.Proofs.SlLaysF0.n6 Try.prog sortC_ren := {
  mixed := by kernel_rfl
  f6 := ⟨Try.f51.name, by decide, Try.func51.trans (congrArg some (by kernel_rfl))⟩
  f14 := ⟨Try.f65.name, by decide, Try.func65.trans (congrArg some (by kernel_rfl))⟩
  f15 := Try.func66.trans (congrArg some (by kernel_rfl))
  f20 := ⟨Try.f73.name, by decide, Try.func73.trans (congrArg some (by kernel_rfl))⟩
  f21 := ⟨Try.f74.name, by decide, Try.func74.trans (congrArg some (by kernel_rfl))⟩
  f22 := ⟨Try.f75.name, by decide, Try.func75.trans (congrArg some (by kernel_rfl))⟩
  f23 := ⟨Try.f76.name, by decide, Try.func76.trans (congrArg some (by kernel_rfl))⟩
  f24 := ⟨Try.f77.name, by decide, Try.func77.trans (congrArg some (by kernel_rfl))⟩
  f25 := ⟨Try.f78.name, by decide, Try.func78.trans (congrArg some (by kernel_rfl))⟩
  f26 := ⟨Try.f79.name, by decide, Try.func79.trans (congrArg some (by kernel_rfl))⟩
  f27 := ⟨Try.f80.name, by decide, Try.func80.trans (congrArg some (by kernel_rfl))⟩
  f28 := Try.func81.trans (congrArg some (by kernel_rfl))
  f29 := Try.func82.trans (congrArg some (by kernel_rfl))
  f46 := ⟨Try.f85.name, by decide, Try.func85.trans (congrArg some (by kernel_rfl))⟩
  f47 := Try.func86.trans (congrArg some (by kernel_rfl))
  f48 := Try.func87.trans (congrArg some (by kernel_rfl))
  f49 := ⟨Try.f88.name, by decide, Try.func88.trans (congrArg some (by kernel_rfl))⟩
  f50 := ⟨Try.f89.name, by decide, Try.func89.trans (congrArg some (by kernel_rfl))⟩
  f57 := ⟨Try.f90.name, by decide, Try.func90.trans (congrArg some (by kernel_rfl))⟩
  t0 := Try.underlying0
  a0 := Try.isAgg0
  z0 := Try.sizeOf0
  v0 := Try.zeroValue0
  t3 := Try.underlying3
  a3 := Try.isAgg3
  z3 := Try.sizeOf3
  v3 := Try.zeroValue3
  t4 := Try.underlying4
  a4 := Try.isAgg4
  z4 := Try.sizeOf4
  v4 := Try.zeroValue4
  t5 := Try.underlying5
  a5 := Try.isAgg5
  z5 := Try.sizeOf5
  v5 := Try.zeroValue5
  t9 := Try.underlying9
  a9 := Try.isAgg9
  z9 := Try.sizeOf9
  v9 := Try.zeroValue9
  t22 := Try.underlying23
  a22 := Try.isAgg23
  z22 := Try.sizeOf23
  v22 := Try.zeroValue23
  t25 := Try.underlying71
  a25 := Try.isAgg71
  z25 := Try.sizeOf71
  v25 := Try.zeroValue71
  t39 := Try.underlying86
  a39 := Try.isAgg86
  z39 := Try.sizeOf86
  v39 := Try.zeroValue86
  t45 := Try.underlying102
  a45 := Try.isAgg102
  z45 := Try.sizeOf102
  v45 := Try.zeroValue102
  t46 := Try.underlying103
  a46 := Try.isAgg103
  z46 := Try.sizeOf103
  v46 := Try.zeroValue103
  t50 := Try.underlying69
  a50 := Try.isAgg69
  z50 := Try.sizeOf69
  v50 := Try.zeroValue69
  t53 := Try.underlying109
  a53 := Try.isAgg109
  z53 := Try.sizeOf109
  v53 := Try.zeroValue109
  t55 := Try.underlying111
  a55 := Try.isAgg111
  z55 := Try.sizeOf111
  v55 := Try.zeroValue111
  t66 := Try.underlying114
  a66 := Try.isAgg114
  z66 := Try.sizeOf114
  v66 := Try.zeroValue114
  t70 := Try.underlying118
  a70 := Try.isAgg118
  z70 := Try.sizeOf118
  v70 := Try.zeroValue118
  t76 := Try.underlying120
  a76 := Try.isAgg120
  z76 := Try.sizeOf120
  v76 := Try.zeroValue120
  t77 := Try.underlying121
  a77 := Try.isAgg121
  z77 := Try.sizeOf121
  v77 := Try.zeroValue121 }

end
open Go.RowKit Go

def encC (c : C4) : List Value := [.int .i64 c.st, .int .i64 c.en, .int .i64 c.ot, .int .i64 c.pe]
theorem swoC : Sort.SWO (ltOf cfC) where
  irrefl x := by unfold ltOf; rw [decide_eq_false_iff_not, cfC_lt]; exact ltC_irr x
  trans x y z h1 h2 := by unfold ltOf at *; rw [decide_eq_true_iff, cfC_lt] at *; exact ltC_trans h1 h2
  ntrans x y z h1 h2 := by
    unfold ltOf at *
    rw [decide_eq_false_iff_not, cfC_lt] at *
    intro h
    rcases ltC_tot x y with h' | rfl | h'
    · exact h1 h'
    · exact h2 h
    · exact h2 (ltC_trans h' h)
open Go.Sort in
theorem holdsC {base : Nat} {w : World} {g len cap : Nat} {ss : List C4} (h : Owns cellT 38 base (fun _ => False) w (.slice (some ⟨g, 0, none⟩) len cap) (ss.map C4.d)) :
    g < w.heap.size ∧ base ≤ g ∧ len = ss.length ∧ HoldsK encC 4 w g 0 ss.toArray ∧ ∀ s ∈ ss, s.ok := by
  obtain ⟨vs, ho, hr, -⟩ := id h
  have hgg := h.own g rfl
  have hlen : len = ss.length := by
    obtain ⟨a, l, c, he, hl, -⟩ := h.slice
    simp only [Value.slice.injEq] at he
    obtain ⟨-, rfl, rfl⟩ := he
    simpa using hl
  have hok : ∀ s ∈ ss, s.ok := by
    intro s hs
    obtain ⟨i, hi, rfl⟩ := List.getElem_of_mem hs
    obtain ⟨c, hc, hcc, hrd⟩ := hr.at_ i (by rw [List.length_map]; exact hi)
    rw [List.getElem_map] at hrd
    generalize ss[i] = q at hrd ⊢
    obtain ⟨x1, x2, x3, x4⟩ := q
    obtain ⟨d1, r1, rfl, ⟨rfl, h1⟩, d2, r2, rfl, ⟨rfl, h2⟩, d3, r3, rfl, ⟨rfl, h3⟩, d4, r4, rfl, ⟨rfl, h4⟩, rfl⟩ := hrd
    exact ⟨h1, h2, h3, h4⟩
  refine ⟨hgg.2, hgg.1, hlen, fun j hj => ?_, hok⟩
  rw [size_flatK] at hj
  have hj3 : j < ss.length * 4 := by simpa using hj
  rw [get_flatK _ _ _ _ hj]
  have hi : j / 4 < ss.length := by omega
  refine ⟨?_, ?_⟩
  · obtain ⟨c, hc, hcc, hrd⟩ := hr.at_ (j / 4) (by simpa using hi)
    have hv := ho.cells (g := g) rfl j
    rw [Addr.add_none] at hv
    rw [Nat.zero_add] at hv ⊢
    refine hv _ ?_
    have hx : (ss.toArray)[j / 4]! = ss[j / 4] := by simp [hi]
    rw [hx]
    rw [List.getElem_map] at hrd
    generalize ss[j / 4] = q at hrd ⊢
    obtain ⟨x1, x2, x3, x4⟩ := q
    obtain ⟨d1, r1, rfl, ⟨rfl, h1⟩, d2, r2, rfl, ⟨rfl, h2⟩, d3, r3, rfl, ⟨rfl, h3⟩, d4, r4, rfl, ⟨rfl, h4⟩, rfl⟩ := hrd
    have hm : j = j / 4 * cellT.sz + j % 4 := by rw [show cellT.sz = 4 from rfl]; omega
    have h5 : j % 4 < 4 := Nat.mod_lt _ (by omega)
    generalize hr3 : j % 4 = r at *
    rw [hm]
    refine hcc r _ ?_
    match r, h5 with
    | 0, _ => rfl
    | 1, _ => rfl
    | 2, _ => rfl
    | 3, _ => rfl
  · rcases ho.2 with ⟨he, _⟩ | ⟨g', cap', cur, he, -, hgb, -⟩
    · cases he
    · simp only [Value.slice.injEq, Option.some.injEq, Addr.mk.injEq, true_and] at he
      obtain ⟨⟨rfl, -⟩, -⟩ := he
      simp [World.frozen?, hgb]
theorem isAggC (w : World) : Sem.run Try.prog (isAgg 38) w = .ok true w := by kernel_rfl
theorem sizeC (w : World) : Sem.run Try.prog (Go.sizeOf 38) w = .ok 4 w := by kernel_rfl
open Go.Sort in
theorem below_sortWd {α : Type} [Inhabited α] (enc : α → List Value) (k : Nat) (w : World) (blk off n : Nat) (d : Array α) (os : Array Obj) (B : Nat) (hB : B ≤ blk) (hw : B ≤ w.heap.size) : Below B w (sortWorldK enc k w blk off n d os) := by
  refine ⟨rfl, rfl, rfl, ?_, fun i hi => ?_⟩
  · exact size_sortWorldK_c enc k w blk off n d os
  · show (w.heap.modify blk _ ++ os)[i]? = _
    rw [Array.getElem?_append_left (by rw [Array.size_modify]; omega), Array.getElem?_modify]
    rw [if_neg (by omega)]
/-- Cells in a row of their own. -/
def CRow (w : World) (g : Nat) (l : List C4) : Prop := ∃ cs : Array Value, w.heap[g]? = some (.cells cs 38 (0, 0)) ∧ ∀ i (hi : i < l.length), cs[i * 4]? = some (.int .i64 l[i].st) ∧ cs[i * 4 + 1]? = some (.int .i64 l[i].en) ∧ cs[i * 4 + 2]? = some (.int .i64 l[i].ot) ∧ cs[i * 4 + 3]? = some (.int .i64 l[i].pe)
theorem CRow.lt {w : World} {g : Nat} {l : List C4} (h : CRow w g l) : g < w.heap.size := by obtain ⟨cs, h1, -⟩ := h; exact blk_lt h1
theorem CRow.keep {w w' : World} {g : Nat} {l : List C4} (h : CRow w g l) (hw : w'.heap[g]? = w.heap[g]?) : CRow w' g l := by
  obtain ⟨cs, h1, h2⟩ := h
  exact ⟨cs, hw.trans h1, h2⟩
theorem CRow.below {w w' : World} {g : Nat} {l : List C4} (h : CRow w g l) (hB : Below w.heap.size w w') : CRow w' g l := h.keep (hB.block _ h.lt)
theorem CRow.gr {F : Nat → Prop} {w w' : World} {g : Nat} {l : List C4} (h : CRow w g l) (hG : Gr F w w') (hF : ¬ F g) : CRow w' g l := h.keep (hG.block _ h.lt hF)
theorem CRow.cell {w : World} {g : Nat} {l : List C4} (h : CRow w g l) (i : Nat) (hi : i < l.length) : w.cell? ⟨g, i * 4, none⟩ = some (.int .i64 l[i].st) ∧ w.cell? ⟨g, i * 4 + 1, none⟩ = some (.int .i64 l[i].en) ∧ w.cell? ⟨g, i * 4 + 2, none⟩ = some (.int .i64 l[i].ot) ∧ w.cell? ⟨g, i * 4 + 3, none⟩ = some (.int .i64 l[i].pe) := by
  obtain ⟨cs, h1, h2⟩ := h
  obtain ⟨a, b, c, d⟩ := h2 i hi
  exact ⟨(blk_cell h1 _).trans a, (blk_cell h1 _).trans b, (blk_cell h1 _).trans c, (blk_cell h1 _).trans d⟩
theorem CRow.take {w : World} {g : Nat} {l : List C4} (h : CRow w g l) (k : Nat) : CRow w g (l.take k) := by
  obtain ⟨cs, h1, h2⟩ := h
  refine ⟨cs, h1, fun i hi => ?_⟩
  rw [List.length_take] at hi
  rw [List.getElem_take]
  exact h2 i (by omega)
theorem CRow.rd {w : World} {g : Nat} {l : List C4} (h : CRow w g l) (hok : ∀ k ∈ l, k.ok) (cap : Nat) (hc : l.length ≤ cap) (hm : cap ≤ 9223372036854775807) : Rd (.sl cellT) (fun b => b = g) w [.slice (some ⟨g, 0, none⟩) l.length cap] (l.map C4.d) := by
  refine ⟨_, _, cap, rfl, List.length_map _, hc, hm, .inr ⟨g, 0, rfl, rfl, fun i hi => ?_⟩⟩
  have hi' : i < l.length := by rw [List.length_map] at hi; exact hi
  obtain ⟨a, b, c, d⟩ := h.cell i hi'
  refine ⟨encC l[i], rfl, fun j u hu => ?_, ?_⟩
  · rw [show 0 + i * cellT.sz + j = i * 4 + j by rw [show cellT.sz = 4 from rfl]; omega]
    match j, hu with
    | 0, hu => rw [Nat.add_zero, a]; simpa [encC] using hu
    | 1, hu => rw [b]; simpa [encC] using hu
    | 2, hu => rw [c]; simpa [encC] using hu
    | 3, hu => rw [d]; simpa [encC] using hu
    | j + 4, hu => simp [encC] at hu
  · show Rd cellT _ _ _ (List.map C4.d l)[i]
    rw [List.getElem_map]
    exact cell_rd (hok _ (List.getElem_mem hi'))
/-- A list of cells in a slice of its own. -/
def SlC (base : Nat) (w : World) (v : Value) (l : List C4) : Prop :=
  (v = .slice none 0 0 ∧ l = []) ∨ ∃ g cap, v = .slice (some ⟨g, 0, none⟩) l.length cap ∧ base ≤ g ∧ l.length ≤ cap ∧ cap ≤ 9223372036854775807 ∧ CRow w g l ∧ ∀ s ∈ l, s.ok
theorem SlC.rd {base : Nat} {w : World} {v : Value} {l : List C4} (h : SlC base w v l) : Rd (.sl cellT) (fun b => base ≤ b ∧ b < w.heap.size) w [v] (l.map C4.d) := by
  rcases h with ⟨rfl, rfl⟩ | ⟨g, cap, rfl, h1, h2, h3, h4, h5⟩
  · exact ⟨none, 0, 0, rfl, rfl, Nat.le_refl _, by decide, .inl rfl⟩
  · exact (h4.rd h5 cap h2 h3).keep (fun _ _ => rfl) (fun b e => by rw [e]; exact ⟨h1, h4.lt⟩)
theorem SlC.below {base : Nat} {w w' : World} {v : Value} {l : List C4} (h : SlC base w v l) (hB : Below w.heap.size w w') : SlC base w' v l := by
  rcases h with h | ⟨g, cap, h0, h1, h2, h3, h4, h5⟩
  · exact .inl h
  · exact .inr ⟨g, cap, h0, h1, h2, h3, h4.below hB, h5⟩
theorem SlC.of_owns {base : Nat} {w : World} {v : Value} {l : List C4} (h : Owns cellT 38 base (fun _ => False) w v (l.map C4.d)) : SlC base w v l := by
  rcases h.len with ⟨rfl, h0⟩ | ⟨g, cap, rfl, hbg, hgw, hlc, hcm⟩
  · exact .inl ⟨rfl, by simpa using h0⟩
  · obtain ⟨h1, h2, h3, h4, h5⟩ := holdsC h
    rw [List.length_map] at hlc ⊢
    obtain ⟨o, ho, hc⟩ := h.row_cells g rfl
    obtain ⟨vs, hro, -, -⟩ := h
    rcases hro.2 with ⟨he, _⟩ | ⟨g', cap', cur, he, -, hgb, -⟩
    · cases he
    · simp only [Value.slice.injEq, Option.some.injEq, Addr.mk.injEq, true_and] at he
      obtain ⟨⟨rfl, -⟩, -⟩ := he
      refine .inr ⟨_, cap, rfl, h2, hlc, hcm, ⟨cur, hgb, fun i hi => ?_⟩, h5⟩
      have a := (Go.Sort.HoldsK.cell h4 (i := i) (c := 0) (by simpa using hi) (by omega)).1
      have b := (Go.Sort.HoldsK.cell h4 (i := i) (c := 1) (by simpa using hi) (by omega)).1
      have c := (Go.Sort.HoldsK.cell h4 (i := i) (c := 2) (by simpa using hi) (by omega)).1
      have d := (Go.Sort.HoldsK.cell h4 (i := i) (c := 3) (by simpa using hi) (by omega)).1
      simp [hi, encC, blk_cell hgb] at a b c d
      exact ⟨a, b, c, d⟩
/-- What the sort of cells leaves. -/
def SortCP (base : Nat) (w : World) (v : Value) (l : List C4) (e : Ending) (w' : World) : Prop :=
  e = .returned (.tuple #[]) ∧ ∃ l' : List C4, l'.Perm l ∧ l'.Pairwise (fun x y => ¬ ltC y x) ∧ SlC base w' v l' ∧ Below base w w'
open Go.Sort in
theorem sortCells {base : Nat} (w : World) (v : Value) (l : List C4) (hO : Owns cellT 38 base (fun _ => False) w v (l.map C4.d)) (hb : base ≤ w.heap.size) (hl : l.length ≤ 1000000) :
    Calls Try.prog 51 #[v, .func (.func 40) #[] #[]] w (SortCP base w v l) := by
  have hSL := SlC.of_owns hO
  rcases hO.len with ⟨rfl, h0⟩ | ⟨g, cap, rfl, hbg, hgw, hlc, hcm⟩
  · have hs0 : l = [] := by simpa using h0
    subst hs0
    refine (AnyF.slices_SortFunc_none (P := Try.prog) sortC none 0 (.func (.func 40) #[] #[]) w).mono ?_
    rintro e w' ⟨he, rfl⟩
    exact ⟨he, [], List.Perm.refl _, List.Pairwise.nil, hSL, Below.refl _ _⟩
  · rw [List.length_map] at hlc
    obtain ⟨h1, h2, h3, h4, h5⟩ := holdsC hO
    rw [h3]
    have eg : ∀ args w, (callFunc 40 args).run Try.prog w = .ok (.enter 40 args) w := enters_of Try.func40 (by kernel_rfl) rfl
    have hcmp : CmpLays Try.prog 40 #[] encC 4 cfC g 0 l.toArray.size w := by
      intro m' os dk _ x y
      refine (Dr.compare47 _ x y).mono ?_
      rintro e w' ⟨he, hd⟩
      exact ⟨he, hd.grow⟩
    refine (AnyQ.slices_SortFunc sortC 4 isAggC sizeC encC (fun _ => rfl) (fun x v hv => by simp [encC] at hv; rcases hv with rfl | rfl | rfl | rfl <;> rfl) cfC swoC 40 #[] g 0 cap l.toArray w eg hcmp h4 h1 (by simp; omega)).mono ?_
    rintro e w' ⟨he, d', n', os, hP, hSo, rfl⟩
    have hsz : d'.size = l.length := hP.1.trans (by simp)
    have hperm : d'.toList.Perm l := by
      have := hP.2.2
      rw [show d'.extract 0 l.toArray.size = d' from by rw [show l.toArray.size = d'.size from by simp [hsz]]; exact Array.extract_size, show l.toArray.extract 0 l.toArray.size = l.toArray from Array.extract_size] at this
      exact this
    refine ⟨he, d'.toList, hperm, ?_, ?_, below_sortWd _ _ _ _ _ _ _ _ _ hbg hb⟩
    · rw [List.pairwise_iff_getElem]
      intro i j hi hj hij
      have hi' : i < d'.size := by simpa using hi
      have hj' : j < d'.size := by simpa using hj
      have := hSo i j (Nat.zero_le _) hij (by simp; omega)
      rw [getElem!_pos d' i hi', getElem!_pos d' j hj'] at this
      simp only [Array.getElem_toList]
      unfold ltOf at this
      rw [decide_eq_false_iff_not, cfC_lt] at this
      exact this
    · have hk := holdsK_sortWorldK_c encC 4 w g 0 l.toArray d' n' os h4 h1 (by simp [hsz])
      have hlen : d'.toList.length = l.length := by simp [hsz]
      rcases hSL with ⟨he, -⟩ | ⟨g', cap', he, -, -, -, ⟨cs, hcs, -⟩, -⟩
      · simp at he
      · simp only [Value.slice.injEq, Option.some.injEq, Addr.mk.injEq, true_and] at he
        obtain ⟨⟨rfl, -⟩, -, -⟩ := he
        have hblk : ∃ o', (sortWorldK encC 4 w g 0 n' d' os).heap[g]? = some o' ∧ ∃ cs', o' = .cells cs' 38 (0, 0) := by
          show ∃ o', (w.heap.modify g _ ++ os)[g]? = some o' ∧ _
          rw [Array.getElem?_append_left (by rw [Array.size_modify]; omega), Array.getElem?_modify, if_pos rfl, hcs]
          exact ⟨_, rfl, _, rfl⟩
        obtain ⟨_, hcs', cs', rfl⟩ := hblk
        refine .inr ⟨g, cap, by rw [hlen], hbg, by rw [hlen]; omega, hcm, ⟨cs', hcs', fun i hi => ?_⟩, fun s hs => h5 s (hperm.mem_iff.1 hs)⟩
        have hi' : i < d'.size := by simpa using hi
        have a := (hk.cell (i := i) (c := 0) hi' (by omega)).1
        have b := (hk.cell (i := i) (c := 1) hi' (by omega)).1
        have c := (hk.cell (i := i) (c := 2) hi' (by omega)).1
        have d := (hk.cell (i := i) (c := 3) hi' (by omega)).1
        simp [hi', encC, blk_cell hcs'] at a b c d
        simp only [Array.getElem_toList]
        exact ⟨a, b, c, d⟩
end Go.Proofs.Ytoimbhdjhhmonaa

/- Layer 47: the keys of a map come out of maps.Keys, one by one. -/
set_option linter.unusedSimpArgs false
set_option maxRecDepth 50000
namespace Go.Proofs.Ytoimbhdjhhmonaa
open Go.RowKit Go Go.Shelf
attribute [local go_sem] Oper.semAt_some
theorem C4.l_ne {x y : C4} (hx : x.ok) (hy : y.ok) (h : x ≠ y) : x.l ≠ y.l := fun e => h (cellK.inj x y hx hy e)

abbrev C4o := { x : C4 // x.ok }
/-- The keys met so far. -/
def Coll47 (D : DataW Unit) (left : Lit → Bool) (ss : List C4o) : Prop :=
  ss.Nodup ∧ ∀ x : C4o, x ∈ ss ↔ Maps.has D x.1.l = true ∧ left x.1.l = false
theorem C4o.l_inj {x y : C4o} (h : x.1.l = y.1.l) : x = y := by
  by_cases e : x.1 = y.1
  · exact Subtype.ext e
  · exact absurd h (C4.l_ne x.2 y.2 e)
theorem Coll47.start (D : DataW Unit) : Coll47 D (Maps.has D) [] := ⟨List.nodup_nil, fun x => by simp⟩
theorem C4o.same_self (x : C4o) : x.1.l.sameKey x.1.l = true := by
  obtain ⟨bs, h⟩ : ∃ bs, x.1.l = .string bs := by
    obtain ⟨_, _, _, _, e⟩ := keyOf_top wideC (x.1.l_eq x.2)
    exact ⟨_, e⟩
  rw [h]
  simp [Lit.sameKey]
theorem Coll47.step {D : DataW Unit} {left : Lit → Bool} {ss : List C4o} (h : Coll47 D left ss) (x : C4o) (hl : left x.1.l = true) (hh : Maps.has D x.1.l = true) :
    Coll47 D (fun z => left z && !z.sameKey x.1.l) (ss ++ [x]) := by
  refine ⟨List.nodup_append.2 ⟨h.1, by simp, fun a ha b hb e => ?_⟩, fun y => ?_⟩
  · simp only [List.mem_singleton] at hb
    subst hb; subst e
    have := ((h.2 a).1 ha).2
    rw [hl] at this
    cases this
  · by_cases e : y = x
    · subst e
      simp [hh, C4o.same_self]
    · have hne : y.1.l ≠ x.1.l := fun h => e (C4o.l_inj h)
      rw [List.mem_append, List.mem_singleton, h.2 y]
      simp [e, Maps.sameKey_ne hne]

set_option maxHeartbeats 1000000 in
/-- maps.Keys' closure: the keys come one by one, each once. -/
theorem keys47_in (n : Nat) (hn : 1 ≤ n) (l Bm b nn : Nat) (D : DataW Unit) (J Jx : List C4o → World → Prop)
    (hY : ∀ pre x W, J pre W → pre.length < Maps.size D → YieldAt Fence.wide (n - 1) Try.prog l #[x.1.v] W fun e W' =>
      (e = .returned (.bool true) ∧ J (pre ++ [x]) W' ∧ KeepsWalks W W') ∨ (e = .returned (.bool false) ∧ Jx (pre ++ [x]) W'))
    (W : World) (hJ : AbidesFrom W.heap.size J) (hm : W.cell? ⟨Bm, 0, none⟩ = some (.map (some b))) (hown : W.ownsMap Try.prog 38 (plainElem Try.prog 4) b nn D) (h0 : J [] W) :
    CallsIn Fence.wide n Try.prog 70 #[.func (.yield l) #[] #[], .pointer (some ⟨Bm, 0, none⟩)] W fun e W' => (∃ v, e = .returned v) ∧
      ((∃ ss, ((ss.Nodup ∧ ∀ x : C4o, x ∈ ss ↔ Maps.has D x.1.l = true) ∧ ss.length ≤ Maps.size D) ∧ J ss W') ∨ (∃ pre, True ∧ Jx pre W')) := by
  refine callsIn_of_wp Try.func70 rfl trivial ?_ rfl
  simp only [Try.ntmps70, List.size_toArray, List.length_cons, List.length_nil, Nat.reduceAdd, Nat.reduceSub, Array.replicate_succ, Array.replicate_zero, List.push_toArray, List.append_toArray, List.nil_append, List.cons_append]
  gi_wp2_with (first
    | (gi_at_range; refine wpListIn_range_own _ rfl _ 57 rfl 38 4 cellK.K Try.underlying57 _ b nn _ rfl hown ?_; intro w0 hrg0 hg0 hs0)
    | gi_in)
  go_frame
  gi_loopw [3] (fun _ wr => ∃ (left : Lit → Bool) (cnt : Nat) (ss : List C4o), wr.ranges Try.prog 38 (plainElem Try.prog 4) b W.heap.size nn D left cnt ∧ ss.length + cnt ≤ Maps.size D ∧ Coll47 D left ss ∧ J ss wr)
    (fun _ wr => wr.rangeLeft b W.heap.size)
  case atStart =>
    exact ⟨_, _, [], hrg0, by simp, Coll47.start D, hJ [] W w0 none h0 hg0 (fun r e => by cases e)⟩
  case round =>
    obtain ⟨left, cnt, ss, hrg, hcs, hC, hJs⟩ := hrel
    gi_wp2_with (first
      | (gi_at_next; refine wpListIn_next_ranges _ rfl _ rfl 38 cellK.K (plainElem Try.prog 4) C4.v id (fun key kl hk => by obtain ⟨x, -, hx, -⟩ := cell_inv hk; exact ⟨x, hx⟩) (fun v _ _ => ⟨v, rfl⟩) b W.heap.size nn _ _ _ rfl hrg ?_ ?_)
      | gi_in)
    · -- nothing is left
      intro hc0 hl0
      gi_wp2
      go_end0
      exact ⟨⟨_, rfl⟩, .inl ⟨ss, ⟨⟨hC.1, fun x => by rw [hC.2 x, hl0]; simp⟩, by omega⟩, hJs⟩⟩
    · -- an entry has come
      intro x c kl yd yp w2 cnt2 hkey hlk hv hat hrg2 hlt hg2 hs2 hen
      obtain ⟨x', hx', ex, rfl⟩ := cell_inv hkey
      obtain rfl : x = x' := C4.v_inj ex
      have hJ2 : J ss w2 := hJ ss wr w2 (some W.heap.size) hJs hg2 (fun r e => by cases e; exact ⟨Nat.le_refl _, hrg.iter_walk⟩)
      have hJ3 : J ss (w2.alloc (.cells #[.int .i64 x.st, .int .i64 x.en, .int .i64 x.ot, .int .i64 x.pe] 38)) := hJ ss w2 _ none hJ2 (World.grownBy_alloc _ _ none) (fun r e => by cases e)
      obtain ⟨fn, tmps, assign, body, hy, hR⟩ := hY ss ⟨x, hx'⟩ _ hJ3 (by omega)
      have hC2 := hC.step ⟨x, hx'⟩ hlk (Go.Maps.has_true_of_atKey hat)
      clear hs2 hJs hg2 hat hv hJ2 hJ3
      obtain ⟨kc, kk, kw, kz⟩ := x
      unfold C4.v at hen hy
      simp only at hen hy hR
      gi_wp2
      refine hR.mono ?_
      rintro e W3 (⟨rfl, hJ3, hk3⟩ | ⟨rfl, hJx3⟩)
      · have hrg3 := hrg2.of_walks ((KeepsWalks.alloc _ _).trans hk3)
        gi_wp2
        go_roundw
        case rel => exact ⟨_, cnt2, _, hrg3, by simp; omega, hC2, hJ3⟩
        case measure => rw [hrg3.left_eq, hrg.left_eq]; exact hlt
      · gi_wp2
        refine bodyPost_ret (results_none rfl _ _ _) rfl ?_
        exact ⟨⟨_, rfl⟩, .inr ⟨_, trivial, hJx3⟩⟩

theorem keys47_stops (n : Nat) (hn : 1 ≤ n) (Bm b nn : Nat) (D : DataW Unit) (w : World)
    (hm : w.cell? ⟨Bm, 0, none⟩ = some (.map (some b))) (hown : w.ownsMap Try.prog 38 (plainElem Try.prog 4) b nn D) :
    SeqStopsK Fence.wide n Try.prog 70 #[.pointer (some ⟨Bm, 0, none⟩)] (fun x : C4o => #[x.1.v]) KeepsWalks
      (fun ss => (ss.Nodup ∧ ∀ x : C4o, x ∈ ss ↔ Maps.has D x.1.l = true) ∧ ss.length ≤ Maps.size D) (fun _ => True) (Maps.size D) w := fun l J Jx W hW hJ _ hY h0 => by
  have hm' := (hW.cell (p := ⟨Bm, 0, none⟩) (World.block_lt_of_cell? w ⟨Bm, 0, none⟩ hm)).trans hm
  have hown' : W.ownsMap Try.prog 38 (plainElem Try.prog 4) b nn D := by
    have hbl := hown.lt
    obtain ⟨es, clock, hb, Ft, hs, hD⟩ := hown
    exact ⟨es, clock, (hW.block b hbl).trans hb, Ft, hs, hD⟩
  exact keys47_in n hn l Bm b nn D J Jx hY W hJ hm' hown' h0
end Go.Proofs.Ytoimbhdjhhmonaa

/- Layer 47: slices.AppendSeq of the keys. -/
set_option linter.unusedSimpArgs false
namespace Go.Proofs.Ytoimbhdjhhmonaa
open Go.RowKit Go Go.Shelf
attribute [local go_sem] Oper.semAt_some

theorem info_cell : (Try.prog.info? 38).map (fun i => (i.zero, i.size, i.bytes)) = some (some (.agg #[.int .i64 0, .int .i64 0, .int .i64 0, .int .i64 0]), 4, 32) := by kernel_rfl
/-- What the loop over the keys does to the world. -/
def Col47 (B T : Nat) (w : World) (xs : List C4o) (W : World) : Prop :=
  ∃ v, Boxed W T 23 v ∧ Owns cellT 38 B (fun _ => False) W v (xs.map (fun x => x.1.d)) ∧ Below B w W ∧ v.ownBlock ≠ some T
theorem Col47.ownFrom (B T D : Nat) (w : World) (hB : B ≤ w.heap.size) (hD : B ≤ D) : OwnFrom D (Col47 B T w) := by
  intro s W W' row h hg hr
  obtain ⟨v, hb, ho, hbel, hne⟩ := h
  have hrow : ∀ (k : Nat) (o : Obj), W.heap[k]? = some o → o.isCells = true → W'.heap[k]? = W.heap[k]? := by
    intro k o hk ho'
    refine hg.block k (Array.getElem?_eq_some_iff.1 hk).1 (fun e => ?_)
    obtain ⟨_, o', ho', hc'⟩ := hr k e.symm
    rw [hk] at ho'
    cases ho'
    simp_all
  refine ⟨v, (hrow T _ hb rfl).trans hb, ho.keep (fun b hb' => ?_) hg.size, ?_, hne⟩
  · rcases hb' with hb' | hb'
    · exact hb'.elim
    · obtain ⟨o, h1, h2⟩ := ho.row_cells b hb'
      exact hrow b o h1 h2
  · exact ownFrom_below (β := Unit) (n₀ := B) (B := D) (w₀ := w) hB hD () W W' row hbel hg hr

set_option maxRecDepth 100000 in
set_option maxHeartbeats 2000000 in
theorem AppendSeq47 (Bm N : Nat) (Q : List C4o → Prop) (w : World) (hN : N ≤ 1000000)
    (hst : SeqStopsK Fence.wide (9 - 1) Try.prog 70 #[.pointer (some ⟨Bm, 0, none⟩)] (fun x : C4o => #[x.1.v]) KeepsWalks (fun ss => Q ss ∧ ss.length ≤ N) (fun _ => True) N (w.alloc (.cells #[.slice none 0 0] 23))) :
    Calls Try.prog 83 #[.slice none 0 0, .func (.func 70) #[] #[.pointer (some ⟨Bm, 0, none⟩)]] w fun e w' =>
      ∃ v, ∃ ss : List C4o, e = .returned v ∧ (Q ss ∧ ss.length ≤ N) ∧ Owns cellT 38 w.heap.size (fun _ => False) w' v (ss.map (fun x => x.1.d)) ∧ Below w.heap.size w w' := by
  refine (callsIn_wide (n := 9)).1 ?_
  refine callsIn_of_wp_marks Try.func83 rfl trivial ?_ rfl
  simp only [Try.ntmps83, List.size_toArray, List.length_cons, List.length_nil, Nat.reduceAdd, Nat.reduceSub, Array.replicate_succ, Array.replicate_zero, List.push_toArray, List.append_toArray, List.nil_append, List.cons_append]
  gi_wp2
  have bS := Boxed.new w 23 (.slice none 0 0)
  have hB0 : Below w.heap.size w (w.alloc (.cells #[.slice none 0 0] 23)) := (Below.refl _ w).alloc (Nat.le_refl _) _
  refine wpIn_rangeFunc_ownH rfl (by omega) (gf := 70) (lb := #[.pointer (some ⟨Bm, 0, none⟩)]) rfl trivial (enters_of Try.func70 (by kernel_rfl) rfl)
    hst (fun h k => h.trans k) (fun W l o o' _ hl _ hw => KeepsWalks.putObj o' hl hw) (Below.refl _ _) (fun _ => rfl)
    (Col47 w.heap.size w.heap.size w) (fun _ _ _ => False) (Col47.ownFrom _ _ _ _ (Nat.le_refl _) (by simp)) (fun _ _ _ _ _ hs _ _ => hs)
    ⟨_, bS, (Owns.nil _ _ _ _), hB0, by simp [Value.ownBlock]⟩
    (fun x a' W => ∃ Bx, W.heap[Bx]? = some (.cells #[.int .i64 x.1.st, .int .i64 x.1.en, .int .i64 x.1.ot, .int .i64 x.1.pe] 38 (0, 0)) ∧ a' = { tmps := #[.slice none 0 0, .func (.func 70) #[] #[.pointer (some ⟨Bm, 0, none⟩)], .pointer (some ⟨w.heap.size, 0, none⟩), undef, .slice none 0 0, .pointer (some ⟨Bx, 0, none⟩), .func (.func 70) #[] #[.pointer (some ⟨Bm, 0, none⟩)], .agg #[.int .i64 x.1.st, .int .i64 x.1.en, .int .i64 x.1.ot, .int .i64 x.1.pe], undef, undef, undef, undef, undef], defers := [] })
    (fun x a' _ X Y row hs hg hr => by
      obtain ⟨Bx, h2, h3⟩ := hs
      refine ⟨Bx, (hg.block Bx (Array.getElem?_eq_some_iff.1 h2).1 (fun e => ?_)).trans h2, h3⟩
      obtain ⟨_, o, ho, hc⟩ := hr Bx e.symm
      rw [h2] at ho; cases ho; cases hc)
    ?assign ?body ?done ?stop
  case assign =>
    rintro l pre x W K hI hK
    obtain ⟨x, hx⟩ := x
    obtain ⟨kc, kk, kw, kz⟩ := x
    unfold C4.v
    gi_wp2
    refine hK _ _ ((KeepsOthers.alloc _ _).from _) (KeepsWalks.alloc _ _) ?_ ⟨W.heap.size, World.alloc_heap_new W _, rfl⟩
    exact Col47.ownFrom _ _ (w.heap.size + 1) _ (Nat.le_refl _) (by omega) _ W _ none hI (World.grownBy_alloc _ _ none) (fun r e => by cases e)
  case body =>
    rintro l pre x a' W hl ⟨r, hr⟩ ⟨v, hv, hO, hB, hne⟩ ⟨Bx, hBx, rfl⟩ hlt
    obtain ⟨x, hx⟩ := x
    obtain ⟨kc, kk, kw, kz⟩ := x
    have hc := hv.cell
    have hf := hv.frozen
    clear hr
    have c0 := blk_cell hBx 0
    have c1 := blk_cell hBx 1
    have c2 := blk_cell hBx 2
    have c3 := blk_cell hBx 3
    simp at c0 c1 c2 c3
    gi_wp2_with (gi_at_builtin; go_must (refine wpListIn_app _ rfl _ _ 23 rfl (e := cellT) (te := 38) info_cell Try.underlying23 rfl (by decide) (v := v) rfl (Owns.alloc hO _) (by have := hB.size; simp only [World.size_alloc]; omega) rfl (ys := [C4.d ⟨kc, kk, kw, kz⟩]) (Src.new _ [_, _, _, _] _ _ _) (RdL.one (cell_rd (c := ⟨kc, kk, kw, kz⟩) hx)) (by simp; omega) (by simp; omega) ?_; intro v' w1 O1 g1 _ hob; clear hc hf; have hb1 : Boxed w1 w.heap.size 23 v := (hv.alloc _).kept g1 (fun e => hne e.symm); have hc1 := hb1.cell; have hf1 := hb1.frozen; obtain ⟨av, lv, capv, rfl, hl, _⟩ := O1.slice; have HL := Lib.hid hl; clear hl))
    obtain ⟨h1, h2, h3, h4, h5, h6⟩ := box_app hv hO hne (Nat.le_refl _) g1 O1 hob hB (Nat.le_refl _) (fun _ h => h.elim)
    exact ⟨h1.from _, h1.walks, _, h3, by simpa using h4, h5, h6⟩
  case done =>
    rintro D' ys W hD hS ⟨v, hv, hO, hB, _⟩ hK
    have hc := hv.cell
    obtain ⟨av, lv, capv, rfl, hl, _⟩ := hO.slice
    have HL := Lib.hid hl
    have HS := Lib.hid hS
    clear hl hS
    gi_wp2
    refine ⟨by simp, .inl ⟨_, _, rfl, run_takeDeferred hK, ?_⟩⟩
    refine ⟨_, results_tmp rfl _ _ _, _, ys, rfl, HS.out, ?_, hB.trans (belowK_b (w := w) (Nat.le_refl _) W D' _ _ (by simp at hD; omega) hK rfl rfl)⟩
    refine hO.keep (fun b hb => World.putObj_heap_other ?_) (by simp)
    rcases hb with hb | hb
    · exact hb.elim
    · obtain ⟨o, h1, h2⟩ := hO.row_cells b hb
      intro e
      subst e
      rw [hK] at h1
      cases h1
      cases h2
  case stop =>
    rintro D' c pre W _ _ h _
    exact h.elim
end Go.Proofs.Ytoimbhdjhhmonaa

/- Layer 47, plain: equal neighbours taken out. -/
namespace Go.Proofs.Ytoimbhdjhhmonaa
open Go.RowKit Go

def dedStep (acc : List C4) (x : C4) : List C4 := if acc.getLast? = some x then acc else acc ++ [x]
def dedA (l : List C4) : List C4 := l.foldl dedStep []
theorem dedA_snoc (l : List C4) (x : C4) : dedA (l ++ [x]) = dedStep (dedA l) x := by unfold dedA; rw [List.foldl_append]; rfl
theorem snocInd47 {P : List C4 → Prop} (h0 : P []) (h1 : ∀ l a, P l → P (l ++ [a])) (l : List C4) : P l := by
  rw [← List.reverse_reverse l]
  induction l.reverse with
  | nil => exact h0
  | cons a l ih => rw [List.reverse_cons]; exact h1 _ _ ih
theorem dedA_last (l : List C4) : (dedA l).getLast? = l.getLast? := by
  refine snocInd47 (P := fun l => (dedA l).getLast? = l.getLast?) rfl (fun l a ih => ?_) l
  rw [dedA_snoc]
  unfold dedStep
  split
  · rename_i h
    rw [h]; simp
  · simp
theorem dedA_add {l : List C4} {x : C4} (h : l.getLast? ≠ some x) : dedA (l ++ [x]) = dedA l ++ [x] := by
  rw [dedA_snoc]; unfold dedStep; rw [dedA_last, if_neg h]
theorem dedA_same {l : List C4} {x : C4} (h : l.getLast? = some x) : dedA (l ++ [x]) = dedA l := by
  rw [dedA_snoc]; unfold dedStep; rw [dedA_last, if_pos h]
theorem dedA_mem (l : List C4) (x : C4) : x ∈ dedA l ↔ x ∈ l := by
  refine snocInd47 (P := fun l => x ∈ dedA l ↔ x ∈ l) (by simp [dedA]) (fun l a ih => ?_) l
  by_cases h : l.getLast? = some a
  · rw [dedA_same h, ih, List.mem_append, List.mem_singleton]
    exact ⟨.inl, fun h' => h'.elim id (fun e => e ▸ List.mem_of_getLast? h)⟩
  · rw [dedA_add h, List.mem_append, List.mem_append, ih]
theorem dedA_len (l : List C4) : (dedA l).length ≤ l.length := by
  refine snocInd47 (P := fun l => (dedA l).length ≤ l.length) (by simp [dedA]) (fun l a ih => ?_) l
  by_cases h : l.getLast? = some a
  · rw [dedA_same h, List.length_append, List.length_singleton]; omega
  · rw [dedA_add h, List.length_append, List.length_append, List.length_singleton]; omega
/-- Of a list in weak order it is the list in order. -/
theorem dedA_srt (l : List C4) (h : l.Pairwise fun x y => ¬ ltC y x) : Srt (dedA l) := by
  refine snocInd47 (P := fun l => (l.Pairwise fun x y => ¬ ltC y x) → Srt (dedA l)) (fun _ => by simp [dedA]) (fun l a ih hp => ?_) l h
  rw [List.pairwise_append] at hp
  by_cases he : l.getLast? = some a
  · rw [dedA_same he]; exact ih hp.1
  · rw [dedA_add he, Srt, List.pairwise_append]
    refine ⟨ih hp.1, List.pairwise_singleton _ _, fun x hx y hy => ?_⟩
    rw [List.mem_singleton] at hy
    subst hy
    have hxl := (dedA_mem l x).1 hx
    have h1 := hp.2.2 x hxl y (by simp)
    rcases ltC_tot x y with h2 | h2 | h2
    · exact h2
    · subst h2
      exfalso
      -- x is in l, the last of l is not x, and is not less than x: then x < last <= x
      have hne : l ≠ [] := fun e => by rw [e] at hxl; simp at hxl
      have hlast : l.getLast? = some (l.getLast hne) := List.getLast?_eq_some_getLast hne
      have hlx : l.getLast hne ≠ x := fun e => he (by rw [hlast, e])
      have h3 := hp.2.2 (l.getLast hne) (List.getLast_mem hne) x (by simp)
      have h4 : ¬ ltC (l.getLast hne) x := by
        have hs : l = l.dropLast ++ [l.getLast hne] := (List.dropLast_concat_getLast hne).symm
        have hp1 := hp.1
        rw [hs, List.pairwise_append] at hp1
        have hm : x ∈ l.dropLast ++ [l.getLast hne] := hs ▸ hxl
        rcases List.mem_append.1 hm with h | h
        · exact hp1.2.2 x h _ (by simp)
        · exact absurd (List.mem_singleton.1 h).symm hlx
      rcases ltC_tot (l.getLast hne) x with h5 | h5 | h5
      · exact h4 h5
      · exact hlx h5
      · exact h3 h5
    · exact absurd h2 h1
theorem dedA_srtC {l l' : List C4} (hp : l'.Perm l) (h : l'.Pairwise fun x y => ¬ ltC y x) : dedA l' = srtC l :=
  (srtC_eq (dedA_srt l' h) fun x => by rw [dedA_mem, hp.mem_iff]).symm
end Go.Proofs.Ytoimbhdjhhmonaa

/- Layer 47: the keys of a set, in order. -/
set_option linter.unusedSimpArgs false
namespace Go.Proofs.Ytoimbhdjhhmonaa
open Go.RowKit Go Go.Shelf

theorem Keys47 (b : Option Nat) (w : World) :
    Calls Try.prog 56 #[.map b] w fun e w' => e = .returned (.func (.func 70) #[] #[.pointer (some ⟨w.heap.size, 0, none⟩)]) ∧ w' = w.alloc (.cells #[.map b] 57) := by
  go_enter Try.func56, Try.ntmps56
  go_wp2
  go_ret
  exact ⟨rfl, rfl⟩
set_option maxHeartbeats 400000 in
theorem Collect47 (Bm N : Nat) (Q : List C4o → Prop) (w : World) (hN : N ≤ 1000000)
    (hst : SeqStopsK Fence.wide (9 - 1) Try.prog 70 #[.pointer (some ⟨Bm, 0, none⟩)] (fun x : C4o => #[x.1.v]) KeepsWalks (fun ss => Q ss ∧ ss.length ≤ N) (fun _ => True) N (w.alloc (.cells #[.slice none 0 0] 23))) :
    Calls Try.prog 69 #[.func (.func 70) #[] #[.pointer (some ⟨Bm, 0, none⟩)]] w fun e w' =>
      ∃ v, ∃ ss : List C4o, e = .returned v ∧ (Q ss ∧ ss.length ≤ N) ∧ Owns cellT 38 w.heap.size (fun _ => False) w' v (ss.map (fun x => x.1.d)) ∧ Below w.heap.size w w' := by
  have H := Lib.hid (AppendSeq47 Bm N Q w hN hst)
  clear hst
  go_enter Try.func69, Try.ntmps69
  go_wp2_with (go_at_call 83; refine H.out.mono ?_; rintro e w' ⟨v, ss, rfl, hS, hO, hB⟩)
  obtain ⟨av, lv, capv, rfl, hl, _⟩ := hO.slice
  go_ret
  exact ⟨_, ss, rfl, hS, hO, hB⟩
theorem srt_of_nodup {l : List C4} (hn : l.Nodup) (h : l.Pairwise fun x y => ¬ ltC y x) : Srt l :=
  (h.and hn).imp fun {a b} h => by
    rcases ltC_tot a b with h' | h' | h'
    · exact h'
    · exact absurd h' h.2
    · exact absurd h' h.1
set_option maxRecDepth 10000 in
set_option maxHeartbeats 1000000 in
theorem SortedFunc47 (Bm N : Nat) (Q : List C4o → Prop) (w : World) (hN : N ≤ 1000000)
    (hst : SeqStopsK Fence.wide (9 - 1) Try.prog 70 #[.pointer (some ⟨Bm, 0, none⟩)] (fun x : C4o => #[x.1.v]) KeepsWalks (fun ss => Q ss ∧ ss.length ≤ N) (fun _ => True) N (w.alloc (.cells #[.slice none 0 0] 23))) :
    Calls Try.prog 55 #[.func (.func 70) #[] #[.pointer (some ⟨Bm, 0, none⟩)], .func (.func 40) #[] #[]] w fun e w' =>
      ∃ v, ∃ ss : List C4o, ∃ ys : List C4, e = .returned v ∧ (Q ss ∧ ss.length ≤ N) ∧ (ys.Perm (ss.map (·.1)) ∧ ys.Pairwise fun x y => ¬ ltC y x) ∧ SlC w.heap.size w' v ys ∧ Below w.heap.size w w' := by
  have H := Lib.hid (Collect47 Bm N Q w hN hst)
  clear hst
  go_enter Try.func55, Try.ntmps55
  go_wp2_with (go_at_call 69; refine H.out.mono ?_; rintro e w1 ⟨v, ss, rfl, hS, hO, hB⟩; have HS := Lib.hid hS; have HO := Lib.hid hO; have HB := Lib.hid hB; clear hS hO; obtain ⟨av, lv, capv, rfl, hl, hcv, -⟩ := HO.out.slice; have HL := Lib.hid hl; clear hl)
  rw [show (ss.map fun x => x.1.d) = (ss.map (·.1)).map C4.d by simp] at HO
  refine (sortCells (base := w.heap.size) w1 _ (ss.map (·.1)) HO.out hB.size (by rw [List.length_map]; exact Nat.le_trans HS.out.2 hN)).mono ?_
  rintro e w2 ⟨rfl, ys, hp, hw, hK, hB2⟩
  have HK := Lib.hid hK
  have HP := Lib.hid hp
  have HW := Lib.hid hw
  clear hK hp hw
  go_wp2
  go_ret
  exact ⟨_, ss, ys, rfl, HS.out, ⟨HP.out, HW.out⟩, HK.out, HB.out.trans hB2⟩
/-- What 'ordered' hands back: the keys in order. -/
def OrdP (p : C4 → Bool) (m : Nat) (w : World) (e : Ending) (w' : World) : Prop :=
  ∃ v ys, e = .returned v ∧ Srt ys ∧ (∀ x ∈ ys, x.ok) ∧ (∀ x : C4, x.ok → (x ∈ ys ↔ p x = true)) ∧ ys.length ≤ m ∧ SlC w.heap.size w' v ys ∧ Below w.heap.size w w'
theorem SlC.mono {base base' : Nat} {w : World} {v : Value} {l : List C4} (h : SlC base w v l) (hb : base' ≤ base) : SlC base' w v l := by
  rcases h with h | ⟨g, cap, h1, h2, h3⟩
  · exact .inl h
  · exact .inr ⟨g, cap, h1, Nat.le_trans hb h2, h3⟩
theorem SlC.form {base : Nat} {w : World} {v : Value} {l : List C4} (h : SlC base w v l) : ∃ a c, v = .slice a l.length c := by
  rcases h with ⟨rfl, rfl⟩ | ⟨g, cap, rfl, -⟩
  · exact ⟨_, _, rfl⟩
  · exact ⟨_, _, rfl⟩
theorem ordered_core47 (b : Option Nat) (w : World) (N : Nat) (hN : N ≤ 1000000) (Q : List C4o → Prop) (p : C4 → Bool) (m : Nat)
    (hst : SeqStopsK Fence.wide (9 - 1) Try.prog 70 #[.pointer (some ⟨w.heap.size, 0, none⟩)] (fun x : C4o => #[x.1.v]) KeepsWalks (fun ss => Q ss ∧ ss.length ≤ N) (fun _ => True) N ((w.alloc (.cells #[.map b] 57)).alloc (.cells #[.slice none 0 0] 23)))
    (hQ : ∀ ss, Q ss ∧ ss.length ≤ N → ss.Nodup ∧ (∀ x : C4o, x ∈ ss ↔ p x.1 = true) ∧ ss.length ≤ m) :
    Calls Try.prog 35 #[.map b] w (OrdP p m w) := by
  have hB0 : Below w.heap.size w (w.alloc (.cells #[.map b] 57)) := (Below.refl _ w).alloc (Nat.le_refl _) _
  have HB0 := Lib.hid hB0
  have HS := Lib.hid (SortedFunc47 w.heap.size N Q (w.alloc (.cells #[.map b] 57)) hN hst)
  have HQ := Lib.hid hQ
  clear hB0 hst hQ
  go_enter Try.func35, Try.ntmps35
  go_wp2_with fail
  refine (Keys47 _ _).mono ?_
  rintro e w1 ⟨rfl, rfl⟩
  go_wp2_with fail
  refine HS.out.mono ?_
  rintro e w2 ⟨v, ss, ys, rfl, hq, ⟨hp, hw⟩, hK, hB2⟩
  have HK := Lib.hid hK
  have HB2 := Lib.hid hB2
  have HP := Lib.hid hp
  have HW := Lib.hid hw
  have HX := Lib.hid (HQ.out ss hq)
  obtain ⟨a, c, rfl⟩ := hK.form
  clear hK hp hB2 hw hq
  go_wp2_with fail
  go_ret
  obtain ⟨h1, h2, h3⟩ := HX.out
  have hn : (ss.map (·.1)).Nodup := by
    unfold List.Nodup
    rw [List.pairwise_map]
    exact h1.imp fun {a b} h e => h (Subtype.ext e)
  have hm : ∀ x, x ∈ ys ↔ ∃ h : x.ok, (⟨x, h⟩ : C4o) ∈ ss := fun x => by
    rw [HP.out.mem_iff, List.mem_map]
    constructor
    · rintro ⟨y, hy, rfl⟩
      exact ⟨y.2, hy⟩
    · rintro ⟨h, hx⟩
      exact ⟨_, hx, rfl⟩
  exact ⟨_, ys, rfl, srt_of_nodup (HP.out.nodup_iff.2 hn) HW.out, fun x hx => ((hm x).1 hx).1, fun x hx => by rw [hm x]; exact ⟨fun ⟨_, h⟩ => (h2 _).1 h, fun h => ⟨hx, (h2 ⟨x, hx⟩).2 h⟩⟩, by rw [HP.out.length_eq, List.length_map]; exact h3, HK.out.mono (by simp), HB0.out.trans (HB2.out.mono (by simp))⟩
set_option maxRecDepth 10000 in
theorem ordered47 (w : World) (b m : Nat) (f : C4 → Option Bool) (hM : MapG cellK boolE w b m f) (hm : m ≤ 1000000) :
    Calls Try.prog 35 #[.map (some b)] w (OrdP (fun x => (f x).isSome) m w) := by
  obtain ⟨D, hD, hs, hf⟩ := hM
  have hBB : Below w.heap.size w ((w.alloc (.cells #[.map (some b)] 57)).alloc (.cells #[.slice none 0 0] 23)) := ((Below.refl _ w).alloc (Nat.le_refl _) _).alloc (by simp) _
  have hown : ((w.alloc (.cells #[.map (some b)] 57)).alloc (.cells #[.slice none 0 0] 23)).ownsMap Try.prog 38 (plainElem Try.prog 4) b m D := by
    have hbl := hD.lt
    obtain ⟨es, clock, hb, r⟩ := hD
    exact ⟨es, clock, (hBB.block b hbl).trans hb, r⟩
  refine ordered_core47 (some b) w m hm (fun ss => ss.Nodup ∧ ∀ x : C4o, x ∈ ss ↔ Maps.has D x.1.l = true) _ m ?_ ?_
  · rw [← hs]
    exact keys47_stops (9 - 1) (by omega) w.heap.size b m D _ (((Below.refl _ _).alloc (Nat.le_refl _) _).cell (p := ⟨w.heap.size, 0, none⟩) (by simp) |>.trans (blk_cell (heap_alloc_new w (.cells #[.map (some b)] 57)) 0)) hown
  · rintro ss ⟨⟨h1, h2⟩, h3⟩
    exact ⟨h1, fun x => by rw [h2 x, ← (hf x.1 x.2).1]; exact Iff.rfl, h3⟩
end Go.Proofs.Ytoimbhdjhhmonaa
