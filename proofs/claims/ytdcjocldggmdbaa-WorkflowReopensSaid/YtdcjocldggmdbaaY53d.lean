/- Layer 53: the sort of signatures (by the kit's sort). -/
import Derived.Test.YtdcjocldggmdbaaY53c
import Derived.Test.YtdcjocldggmdbaaY53b
import Derived.Shelf.SlSortCmp.NoneTotal
import Derived.Shelf.SlGeneric
import Derived.Ground.SlsfProg
set_option linter.unusedSimpArgs false
set_option maxRecDepth 50000
namespace Go.Proofs.Ytdcjocldggmdbaa
section
open Go.Shelf Go.RowKit Go.Lib Go.Sort
def sortSg_ren : Go.Shelf.Ren := ⟨fun | 6 => 47 | 15 => 59 | 14 => 65 | 28 => 78 | 29 => 79 | 20 => 82 | 21 => 83 | 22 => 84 | 23 => 85 | 24 => 86 | 25 => 87 | 26 => 88 | 27 => 89 | 46 => 98 | 47 => 94 | 48 => 95 | 49 => 99 | 50 => 100 | 57 => 107 | n => n, fun | 22 => 65 | 24 => 70 | 25 => 106 | 3 => 3 | 39 => 119 | 0 => 0 | 53 => 139 | 55 => 141 | 4 => 4 | 46 => 132 | 45 => 131 | 50 => 136 | 5 => 5 | 9 => 9 | 66 => 150 | 70 => 154 | 76 => 161 | 77 => 162 | n => n, fun | n => n⟩
theorem sortSg : Go.Proofs.SlLaysF0.n6 Try.prog sortSg_ren := {
  mixed := by kernel_rfl
  f6 := ⟨Try.f47.name, by decide, Try.func47.trans (congrArg some (by kernel_rfl))⟩
  f14 := ⟨Try.f65.name, by decide, Try.func65.trans (congrArg some (by kernel_rfl))⟩
  f15 := Try.func59.trans (congrArg some (by kernel_rfl))
  f20 := ⟨Try.f82.name, by decide, Try.func82.trans (congrArg some (by kernel_rfl))⟩
  f21 := ⟨Try.f83.name, by decide, Try.func83.trans (congrArg some (by kernel_rfl))⟩
  f22 := ⟨Try.f84.name, by decide, Try.func84.trans (congrArg some (by kernel_rfl))⟩
  f23 := ⟨Try.f85.name, by decide, Try.func85.trans (congrArg some (by kernel_rfl))⟩
  f24 := ⟨Try.f86.name, by decide, Try.func86.trans (congrArg some (by kernel_rfl))⟩
  f25 := ⟨Try.f87.name, by decide, Try.func87.trans (congrArg some (by kernel_rfl))⟩
  f26 := ⟨Try.f88.name, by decide, Try.func88.trans (congrArg some (by kernel_rfl))⟩
  f27 := ⟨Try.f89.name, by decide, Try.func89.trans (congrArg some (by kernel_rfl))⟩
  f28 := Try.func78.trans (congrArg some (by kernel_rfl))
  f29 := Try.func79.trans (congrArg some (by kernel_rfl))
  f46 := ⟨Try.f98.name, by decide, Try.func98.trans (congrArg some (by kernel_rfl))⟩
  f47 := Try.func94.trans (congrArg some (by kernel_rfl))
  f48 := Try.func95.trans (congrArg some (by kernel_rfl))
  f49 := ⟨Try.f99.name, by decide, Try.func99.trans (congrArg some (by kernel_rfl))⟩
  f50 := ⟨Try.f100.name, by decide, Try.func100.trans (congrArg some (by kernel_rfl))⟩
  f57 := ⟨Try.f107.name, by decide, Try.func107.trans (congrArg some (by kernel_rfl))⟩
  t0 := Try.underlying0
  a0 := Try.isAgg0
  z0 := Try.sizeOf0
  v0 := Try.zeroValue0
  t3 := Try.underlying3
  a3 := Try.isAgg3
  z3 := Try.sizeOf3
  v3 := Try.zeroValue3
  t4 := Try.underlying4
  a4 := Try.isAgg4
  z4 := Try.sizeOf4
  v4 := Try.zeroValue4
  t5 := Try.underlying5
  a5 := Try.isAgg5
  z5 := Try.sizeOf5
  v5 := Try.zeroValue5
  t9 := Try.underlying9
  a9 := Try.isAgg9
  z9 := Try.sizeOf9
  v9 := Try.zeroValue9
  t22 := Try.underlying65
  a22 := Try.isAgg65
  z22 := Try.sizeOf65
  v22 := Try.zeroValue65
  t25 := Try.underlying106
  a25 := Try.isAgg106
  z25 := Try.sizeOf106
  v25 := Try.zeroValue106
  t39 := Try.underlying119
  a39 := Try.isAgg119
  z39 := Try.sizeOf119
  v39 := Try.zeroValue119
  t45 := Try.underlying131
  a45 := Try.isAgg131
  z45 := Try.sizeOf131
  v45 := Try.zeroValue131
  t46 := Try.underlying132
  a46 := Try.isAgg132
  z46 := Try.sizeOf132
  v46 := Try.zeroValue132
  t50 := Try.underlying136
  a50 := Try.isAgg136
  z50 := Try.sizeOf136
  v50 := Try.zeroValue136
  t53 := Try.underlying139
  a53 := Try.isAgg139
  z53 := Try.sizeOf139
  v53 := Try.zeroValue139
  t55 := Try.underlying141
  a55 := Try.isAgg141
  z55 := Try.sizeOf141
  v55 := Try.zeroValue141
  t66 := Try.underlying150
  a66 := Try.isAgg150
  z66 := Try.sizeOf150
  v66 := Try.zeroValue150
  t70 := Try.underlying154
  a70 := Try.isAgg154
  z70 := Try.sizeOf154
  v70 := Try.zeroValue154
  t76 := Try.underlying161
  a76 := Try.isAgg161
  z76 := Try.sizeOf161
  v76 := Try.zeroValue161
  t77 := Try.underlying162
  a77 := Try.isAgg162
  z77 := Try.sizeOf162
  v77 := Try.zeroValue162 }

end
open Go.RowKit Go

instance : Inhabited Sg := ⟨(⟨⟨#[]⟩, 0, 0⟩, ⟨#[]⟩)⟩
def encSg (s : Sg) : List Value := [.string s.1.task, .int .i64 s.1.ent, .int .i64 s.1.per, .string s.2]
def sgd (s : Sg) : sgT.den := (s.1.d, s.2, ())
def cfSg (ts : List Tk) (x y : Sg) : Int := cfK ts x.1 y.1
theorem swoSg (ts : List Tk) : Sort.SWO (ltOf (cfSg ts)) where
  irrefl x := (swoK ts).irrefl x.1
  trans x y z := (swoK ts).trans x.1 y.1 z.1
  ntrans x y z := (swoK ts).ntrans x.1 y.1 z.1
set_option maxHeartbeats 1000000 in
/-- The comparison of two signatures. -/
theorem sgLess {S : Nat → Prop} (w : World) (p : Nat) (ts : List Tk) (ne np m : Nat) (h : WfT S w p ts ne np m) (cb : Nat) (hcb : w.heap[cb]? = some (.cells #[.pointer (some ⟨p, 0, none⟩)] 27 (0, 0))) (x y : Sg) :
    Calls Try.prog 48 #[.agg (encSg x).toArray, .agg (encSg y).toArray, .pointer (some ⟨cb, 0, none⟩)] w fun e w' => e = .returned (.int .i64 (cfSg ts x y)) ∧ Dr.Below w.heap.size w w' := by
  obtain ⟨⟨x1, x2, x3⟩, x4⟩ := x
  obtain ⟨⟨y1, y2, y3⟩, y4⟩ := y
  have hB : Dr.Below w.heap.size w ((w.alloc (.cells #[.string x1, .int .i64 x2, .int .i64 x3, .string x4] 70)).alloc (.cells #[.string y1, .int .i64 y2, .int .i64 y3, .string y4] 70)) := ((Dr.Below.refl _ w).alloc (Nat.le_refl _) _).alloc (by simp) _
  have HC := Lib.hid (Dr.compare53 _ p ts ne np m (h.below hB.b) ⟨x1, x2, x3⟩ ⟨y1, y2, y3⟩)
  have k0 := blk_cell ((hB.block _ (blk_lt hcb)).trans hcb) 0
  simp at k0
  have HB := Lib.hid hB
  have HK := Lib.hid (show cfSg ts ((⟨x1, x2, x3⟩ : Ky), x4) ((⟨y1, y2, y3⟩ : Ky), y4) = orI (cmpI x3 y3) (cmpI (plcI ts x1) (plcI ts y1)) (cmpI x2 y2) from rfl)
  unfold Ky.v at HC
  simp only at HC
  clear hB h hcb
  rw [HK.out]
  show Calls Try.prog 48 #[.agg #[.string x1, .int .i64 x2, .int .i64 x3, .string x4], .agg #[.string y1, .int .i64 y2, .int .i64 y3, .string y4], .pointer (some ⟨cb, 0, none⟩)] w _
  go_enter Try.func48, Try.ntmps48
  go_wp2_with fail
  have hX := HC.out
  refine Calls.mono hX ?_
  clear hX
  rintro e w1 ⟨rfl, hw⟩
  have HW := Lib.hid (Dr.below_step HB.out hw)
  clear hw HC
  go_wp2_with fail
  go_ret
  exact ⟨rfl, HW.out⟩
open Go.Sort in
theorem holdsSg {base : Nat} {w : World} {g len cap : Nat} {ss : List Sg} (h : Owns sgT 70 base (fun _ => False) w (.slice (some ⟨g, 0, none⟩) len cap) (ss.map sgd)) :
    g < w.heap.size ∧ base ≤ g ∧ len = ss.length ∧ HoldsK encSg 4 w g 0 ss.toArray ∧ ∀ s ∈ ss, s.1.ok ∧ s.2.size ≤ maxLen := by
  obtain ⟨vs, ho, hr, -⟩ := id h
  have hgg := h.own g rfl
  have hlen : len = ss.length := by
    obtain ⟨a, l, c, he, hl, -⟩ := h.slice
    simp only [Value.slice.injEq] at he
    obtain ⟨-, rfl, rfl⟩ := he
    simpa using hl
  refine ⟨hgg.2, hgg.1, hlen, fun j hj => ?_, fun s hs => ?_⟩
  · rw [size_flatK] at hj
    have hj3 : j < ss.length * 4 := by simpa using hj
    rw [get_flatK _ _ _ _ hj]
    have hi : j / 4 < ss.length := by omega
    refine ⟨?_, ?_⟩
    · obtain ⟨c, hc, hcc, hrd⟩ := hr.at_ (j / 4) (by simpa using hi)
      have hv := ho.cells (g := g) rfl j
      rw [Addr.add_none] at hv
      rw [Nat.zero_add] at hv ⊢
      refine hv _ ?_
      have hx : (ss.toArray)[j / 4]! = ss[j / 4] := by simp [hi]
      rw [hx]
      rw [List.getElem_map] at hrd
      generalize ss[j / 4] = q at hrd ⊢
      obtain ⟨⟨x, y, z⟩, u⟩ := q
      obtain ⟨c1, r1, rfl, ⟨d1, s1, rfl, ⟨rfl, h1⟩, d2, s2, rfl, ⟨rfl, h2⟩, d3, s3, rfl, ⟨rfl, h3⟩, rfl⟩, c2, r2, rfl, ⟨rfl, h4⟩, rfl⟩ := hrd
      have hm : j = j / 4 * sgT.sz + j % 4 := by rw [show sgT.sz = 4 from rfl]; omega
      have h3 : j % 4 < 4 := Nat.mod_lt _ (by omega)
      generalize hr3 : j % 4 = r at *
      rw [hm]
      refine hcc r _ ?_
      match r, h3 with
      | 0, _ => rfl
      | 1, _ => rfl
      | 2, _ => rfl
      | 3, _ => rfl
    · rcases ho.2 with ⟨he, _⟩ | ⟨g', cap', cur, he, -, hgb, -⟩
      · cases he
      · simp only [Value.slice.injEq, Option.some.injEq, Addr.mk.injEq, true_and] at he
        obtain ⟨⟨rfl, -⟩, -⟩ := he
        simp [World.frozen?, hgb]
  · obtain ⟨i, hi, rfl⟩ := List.getElem_of_mem hs
    obtain ⟨c, hc, hcc, hrd⟩ := hr.at_ i (by simpa using hi)
    rw [List.getElem_map] at hrd
    generalize ss[i] = q at hrd ⊢
    obtain ⟨⟨x, y, z⟩, u⟩ := q
    obtain ⟨c1, r1, rfl, ⟨d1, s1, rfl, ⟨rfl, h1⟩, d2, s2, rfl, ⟨rfl, h2⟩, d3, s3, rfl, ⟨rfl, h3⟩, rfl⟩, c2, r2, rfl, ⟨rfl, h4⟩, rfl⟩ := hrd
    exact ⟨⟨h1, h2, h3⟩, h4⟩
open Go.Sort in
theorem rd_holdsSg {w : World} {g cap : Nat} {ys : List Sg} (h : HoldsK encSg 4 w g 0 ys.toArray) (hok : ∀ s ∈ ys, s.1.ok ∧ s.2.size ≤ maxLen) (hc : ys.length ≤ cap) (hm : cap ≤ 9223372036854775807) :
    Rd (.sl sgT) (fun b => b = g) w [.slice (some ⟨g, 0, none⟩) ys.length cap] (ys.map sgd) := by
  refine ⟨_, _, cap, rfl, List.length_map _, hc, hm, .inr ⟨g, 0, rfl, rfl, fun i hi => ?_⟩⟩
  have hi' : i < ys.length := by rw [List.length_map] at hi; exact hi
  have a := (h.cell (i := i) (c := 0) (by simpa using hi') (by omega)).1
  have b := (h.cell (i := i) (c := 1) (by simpa using hi') (by omega)).1
  have c := (h.cell (i := i) (c := 2) (by simpa using hi') (by omega)).1
  have d := (h.cell (i := i) (c := 3) (by simpa using hi') (by omega)).1
  simp [hi', encSg] at a b c d
  have ho := hok _ (List.getElem_mem hi')
  refine ⟨encSg ys[i], rfl, fun j u hu => ?_, ?_⟩
  · rw [show 0 + i * sgT.sz + j = i * 4 + j by rw [show sgT.sz = 4 from rfl]; omega]
    match j, hu with
    | 0, hu => rw [Nat.add_zero, a]; simpa [encSg] using hu
    | 1, hu => rw [b]; simpa [encSg] using hu
    | 2, hu => rw [c]; simpa [encSg] using hu
    | 3, hu => rw [d]; simpa [encSg] using hu
    | j + 4, hu => simp [encSg] at hu
  · show Rd sgT _ _ _ (List.map sgd ys)[i]
    rw [List.getElem_map]
    exact sg_rd ho.1 ho.2
theorem isAggSg (w : World) : Sem.run Try.prog (isAgg 70) w = .ok true w := by kernel_rfl
theorem sizeSg (w : World) : Sem.run Try.prog (Go.sizeOf 70) w = .ok 4 w := by kernel_rfl
open Go.Sort in
theorem below_sortWd {α : Type} [Inhabited α] (enc : α → List Value) (k : Nat) (w : World) (blk off n : Nat) (d : Array α) (os : Array Obj) (B : Nat) (hB : B ≤ blk) (hw : B ≤ w.heap.size) : Below B w (sortWorldK enc k w blk off n d os) := by
  refine ⟨rfl, rfl, rfl, ?_, fun i hi => ?_⟩
  · exact size_sortWorldK_c enc k w blk off n d os
  · show (w.heap.modify blk _ ++ os)[i]? = _
    rw [Array.getElem?_append_left (by rw [Array.size_modify]; omega), Array.getElem?_modify]
    rw [if_neg (by omega)]
theorem gr_of_belowN {B : Nat} {w w' : World} (h : Below B w w') : Gr (fun b => B ≤ b) w w' := ⟨h.os, h.tape, h.output, h.size, fun k _ hf => h.block k (Nat.lt_of_not_le hf)⟩
/-- What the sort of signatures leaves. -/
def SortSgP (ts : List Tk) (base : Nat) (w : World) (v : Value) (l : List Sg) (e : Ending) (w' : World) : Prop :=
  e = .returned (.tuple #[]) ∧ ∃ l' : List Sg, l'.Perm l ∧ l'.Pairwise (fun x y => ltK ts y.1 x.1 = false) ∧ Rd (.sl sgT) (fun b => b < w'.heap.size) w' [v] (l'.map sgd) ∧ Below base w w'
open Go.Sort in
theorem sortSgs {S : Nat → Prop} {base : Nat} (w : World) (p : Nat) (ts : List Tk) (ne np m : Nat) (hW : WfT S w p ts ne np m) (cb : Nat) (hcb : w.heap[cb]? = some (.cells #[.pointer (some ⟨p, 0, none⟩)] 27 (0, 0))) (v : Value) (l : List Sg) (hO : Owns sgT 70 base (fun _ => False) w v (l.map sgd)) (hn : l.length ≤ 1000000) (hp : p < base) (hS : ∀ b, S b → b < base) (hcbb : cb < base) (hb : base ≤ w.heap.size) :
    Calls Try.prog 47 #[v, .func (.func 48) #[] #[.pointer (some ⟨cb, 0, none⟩)]] w (SortSgP ts base w v l) := by
  rcases hO.len with ⟨rfl, h0⟩ | ⟨g, cap, rfl, hbg, hgw, hlc, hcm⟩
  · have hs0 : l = [] := by simpa using h0
    subst hs0
    refine (AnyF.slices_SortFunc_none (P := Try.prog) sortSg none 0 (.func (.func 48) #[] #[.pointer (some ⟨cb, 0, none⟩)]) w).mono ?_
    rintro e w' ⟨he, rfl⟩
    exact ⟨he, [], List.Perm.refl _, List.Pairwise.nil, ⟨none, 0, 0, rfl, rfl, Nat.le_refl _, by decide, .inl rfl⟩, Below.refl _ _⟩
  · rw [List.length_map] at hlc
    obtain ⟨h1, h2, h3, h4, h5⟩ := holdsSg hO
    rw [h3]
    have eg : ∀ args w, (callFunc 48 args).run Try.prog w = .ok (.enter 48 args) w := enters_of Try.func48 (by kernel_rfl) rfl
    have hcmp : CmpLays Try.prog 48 #[.pointer (some ⟨cb, 0, none⟩)] encSg 4 (cfSg ts) g 0 l.toArray.size w := by
      intro m' os dk _ x y
      have hbl := below_sortWd encSg 4 w g 0 m' dk os base hbg hb
      have hg := gr_of_belowN hbl
      refine (sgLess _ p ts ne np m (hW.gr hg (by omega) (fun b hb' => by have := hS b hb'; omega)) cb ((hbl.block _ hcbb).trans hcb) x y).mono ?_
      rintro e w' ⟨he, hd⟩
      exact ⟨he, hd.grow⟩
    refine (AnyQ.slices_SortFunc sortSg 4 isAggSg sizeSg encSg (fun _ => rfl) (fun x v hv => by simp [encSg] at hv; rcases hv with rfl | rfl | rfl | rfl <;> rfl) (cfSg ts) (swoSg ts) 48 #[.pointer (some ⟨cb, 0, none⟩)] g 0 cap l.toArray w eg hcmp h4 h1 (by simp; omega)).mono ?_
    rintro e w' ⟨he, d', n', os, hP, hSo, rfl⟩
    have hsz : d'.size = l.length := hP.1.trans (by simp)
    have hperm : d'.toList.Perm l := by
      have := hP.2.2
      rw [show d'.extract 0 l.toArray.size = d' from by rw [show l.toArray.size = d'.size from by simp [hsz]]; exact Array.extract_size, show l.toArray.extract 0 l.toArray.size = l.toArray from Array.extract_size] at this
      exact this
    refine ⟨he, d'.toList, hperm, ?_, ?_, below_sortWd _ _ _ _ _ _ _ _ _ hbg hb⟩
    · rw [List.pairwise_iff_getElem]
      intro i j hi hj hij
      have hi' : i < d'.size := by simpa using hi
      have hj' : j < d'.size := by simpa using hj
      have := hSo i j (Nat.zero_le _) hij (by simp; omega)
      rw [getElem!_pos d' i hi', getElem!_pos d' j hj'] at this
      simp only [Array.getElem_toList]
      exact this
    · have hk := holdsK_sortWorldK_c encSg 4 w g 0 l.toArray d' n' os h4 h1 (by simp [hsz])
      have hszw := size_sortWorldK_c encSg 4 w g 0 n' d' os
      have hr := rd_holdsSg (w := sortWorldK encSg 4 w g 0 n' d' os) (g := g) (cap := cap) (ys := d'.toList) (by simpa using hk) (fun s hs => h5 s (hperm.mem_iff.1 hs)) (by simp [hsz]; omega) hcm
      have e2 : d'.toList.length = l.length := by simp [hsz]
      rw [e2] at hr
      exact hr.keep (fun _ _ => rfl) (fun b e => by rw [e]; omega)
end Go.Proofs.Ytdcjocldggmdbaa
