/- Layer 47: slices.Insert of one cell. -/
import Derived.Test.YtoimbhdjhhmonaaE47i
import Derived.Deep.DeepCutAuto
import Derived.Lib.AppendZerosOnto
import Derived.Lib.Overlaps
import Derived.Shelf.Spec.SlicesInsert
import Derived.Laws.CopyRow
import Derived.Test.YtoimbhdjhhmonaaD47k
import Derived.Test.YtoimbhdjhhmonaaD47s
set_option linter.unusedSimpArgs false
set_option linter.unusedVariables false
set_option maxRecDepth 50000
namespace Go.Proofs.Ytoimbhdjhhmonaa
open Go.RowKit Go Go.Shelf

/-! ### plain: rows of cells as lists of values -/
def flatE (l : List C4) : List Value := l.flatMap encC
theorem flatE_cons (x : C4) (l : List C4) : flatE (x :: l) = encC x ++ flatE l := rfl
theorem flatE_append (a b : List C4) : flatE (a ++ b) = flatE a ++ flatE b := List.flatMap_append
theorem encC_len (x : C4) : (encC x).length = 4 := rfl
theorem flatE_len (l : List C4) : (flatE l).length = l.length * 4 := by
  induction l with
  | nil => rfl
  | cons x l ih => rw [flatE_cons, List.length_append, encC_len, ih, List.length_cons]; omega
theorem flatE_split (l : List C4) (i : Nat) : flatE l = flatE (l.take i) ++ flatE (l.drop i) := by rw [← flatE_append, List.take_append_drop]
theorem flatE_one (l : List C4) : ∀ v ∈ flatE l, v.oneCell' = true := by
  intro v hv
  unfold flatE at hv
  rw [List.mem_flatMap] at hv
  obtain ⟨x, -, hx⟩ := hv
  simp [encC] at hx
  rcases hx with rfl | rfl | rfl | rfl <;> rfl
theorem rdl_flatE {S : Nat → Prop} {w : World} : ∀ {l : List C4} {ws : List Value}, RdL cellT S w ws (l.map C4.d) → ws = flatE l ∧ ∀ x ∈ l, x.ok
  | [], ws, h => by cases h; exact ⟨rfl, fun _ h => by cases h⟩
  | x :: l, ws, h => by
    obtain ⟨c, r, rfl, h1, h2⟩ := h
    obtain ⟨rfl, h3⟩ := rdl_flatE h2
    obtain ⟨s1, s2, s3, s4⟩ := x
    obtain ⟨d1, r1, rfl, ⟨rfl, k1⟩, d2, r2, rfl, ⟨rfl, k2⟩, d3, r3, rfl, ⟨rfl, k3⟩, d4, r4, rfl, ⟨rfl, k4⟩, rfl⟩ := h1
    refine ⟨rfl, fun y hy => ?_⟩
    rcases List.mem_cons.1 hy with rfl | hy
    · exact ⟨k1, k2, k3, k4⟩
    · exact h3 y hy
theorem flatE_rdl {S : Nat → Prop} {w : World} : ∀ {l : List C4}, (∀ x ∈ l, x.ok) → RdL cellT S w (flatE l) (l.map C4.d)
  | [], _ => rfl
  | x :: l, h => ⟨encC x, flatE l, rfl, cell_rd (h x List.mem_cons_self), flatE_rdl (fun y hy => h y (List.mem_cons_of_mem _ hy))⟩
/-- Cells in a slice of one's own that may have been cut at its head. -/
def SlO (base : Nat) (w : World) (v : Value) (l : List C4) : Prop := OwnsO cellT 38 base (fun _ => False) w v (l.map C4.d)
theorem SlO.open_ {base : Nat} {w : World} {v : Value} {l : List C4} (h : SlO base w v l) : ∃ g off cap cur, v = .slice (some ⟨g, off, none⟩) l.length cap ∧ l.length ≤ cap ∧ cap ≤ 9223372036854775807 ∧ base ≤ g ∧ w.heap[g]? = some (.cells cur 38 (0, 0)) ∧ off + cap * 4 ≤ cur.size ∧
    (∀ j u, (flatE l)[j]? = some u → cur[off + j]? = some u) ∧ ∀ x ∈ l, x.ok := by
  obtain ⟨g, off, len, cap, cur, ws, rfl, h1, h2, h3, h4, h5, h6, h7, h8, -⟩ := h
  obtain ⟨rfl, hok⟩ := rdl_flatE h7
  rw [List.length_map] at h1
  subst h1
  exact ⟨g, off, cap, cur, rfl, h2, h3, h4, h5, h6, h8, hok⟩
theorem SlO.made {base : Nat} {w : World} {g off cap : Nat} {cur : Array Value} {l : List C4} (h2 : l.length ≤ cap) (h3 : cap ≤ 9223372036854775807) (h4 : base ≤ g) (h5 : w.heap[g]? = some (.cells cur 38 (0, 0))) (h6 : off + cap * 4 ≤ cur.size)
    (h8 : ∀ j u, (flatE l)[j]? = some u → cur[off + j]? = some u) (hok : ∀ x ∈ l, x.ok) : SlO base w (.slice (some ⟨g, off, none⟩) l.length cap) l :=
  ⟨g, off, l.length, cap, cur, flatE l, rfl, List.length_map _, h2, h3, h4, h5, h6, flatE_rdl hok, h8, fun _ h => h.elim⟩
/-- Values written over a part of a row. -/
def putV (cur : Array Value) (o : Nat) (vs : List Value) : Array Value := (cur.toList.take o ++ vs ++ cur.toList.drop (o + vs.length)).toArray
theorem putV_size {cur : Array Value} {o : Nat} {vs : List Value} (h : o + vs.length ≤ cur.size) : (putV cur o vs).size = cur.size := by
  simp [putV]; omega
theorem putV_ahead {cur : Array Value} {o : Nat} {vs : List Value} (h : o + vs.length ≤ cur.size) {j : Nat} (hj : j < o) : (putV cur o vs)[j]? = cur[j]? := by
  unfold putV
  rw [List.getElem?_toArray, List.append_assoc, List.getElem?_append_left (by rw [List.length_take, Array.length_toList]; omega), List.getElem?_take_of_lt hj, Array.getElem?_toList]
theorem putV_in {cur : Array Value} {o : Nat} {vs : List Value} (h : o + vs.length ≤ cur.size) {j : Nat} (hj : j < vs.length) : (putV cur o vs)[o + j]? = vs[j]? := by
  unfold putV
  have hl : (cur.toList.take o).length = o := by rw [List.length_take, Array.length_toList]; omega
  rw [List.getElem?_toArray, List.append_assoc, List.getElem?_append_right (by rw [hl]; omega), hl, List.getElem?_append_left (by omega)]
  congr 1
  omega
theorem putV_behind {cur : Array Value} {o : Nat} {vs : List Value} (h : o + vs.length ≤ cur.size) {j : Nat} (hj : o + vs.length ≤ j) : (putV cur o vs)[j]? = cur[j]? := by
  unfold putV
  have hl : (cur.toList.take o ++ vs).length = o + vs.length := by rw [List.length_append, List.length_take, Array.length_toList]; omega
  rw [List.getElem?_toArray, List.getElem?_append_right (by rw [hl]; omega), hl, List.getElem?_drop, Array.getElem?_toList]
  congr 1
  omega
/-- What lies in the row behind a shift by one cell and a store of the cell. -/
theorem ins_row {cur : Array Value} {off : Nat} {l : List C4} {i : Nat} (x : C4) (hi : i ≤ l.length) (hsz : off + (l.length + 1) * 4 ≤ cur.size) (h : ∀ j u, (flatE (l.take i))[j]? = some u → cur[off + j]? = some u)
    {cur1 : Array Value} (hc1 : cur1 = putV cur (off + (i + 1) * 4) (flatE (l.drop i))) {cur2 : Array Value} (hc2 : cur2 = putV cur1 (off + i * 4) (encC x)) :
    cur2.size = cur.size ∧ ∀ j u, (flatE (l.take i ++ x :: l.drop i))[j]? = some u → cur2[off + j]? = some u := by
  have hd : (flatE (l.drop i)).length = (l.length - i) * 4 := by rw [flatE_len, List.length_drop]
  have ht : (flatE (l.take i)).length = i * 4 := by rw [flatE_len, List.length_take, Nat.min_eq_left hi]
  have f1 : off + (i + 1) * 4 + (flatE (l.drop i)).length ≤ cur.size := by rw [hd]; omega
  have s1 : cur1.size = cur.size := by rw [hc1]; exact putV_size f1
  have f2 : off + i * 4 + (encC x).length ≤ cur1.size := by rw [s1, encC_len]; omega
  refine ⟨by rw [hc2, putV_size f2, s1], fun j u hu => ?_⟩
  rw [flatE_append, flatE_cons] at hu
  by_cases h1 : j < i * 4
  · rw [List.getElem?_append_left (by omega)] at hu
    rw [hc2, putV_ahead f2 (by omega), hc1, putV_ahead f1 (by omega)]
    exact h j u hu
  · rw [List.getElem?_append_right (by omega), ht] at hu
    by_cases h2 : j < i * 4 + 4
    · rw [List.getElem?_append_left (by rw [encC_len]; omega)] at hu
      rw [hc2, show off + j = off + i * 4 + (j - i * 4) from by omega, putV_in f2 (by rw [encC_len]; omega)]
      exact hu
    · rw [List.getElem?_append_right (by rw [encC_len]; omega), encC_len] at hu
      have hlt := (List.getElem?_eq_some_iff.1 hu).1
      rw [hc2, putV_behind f2 (by rw [encC_len]; omega), hc1, show off + j = off + (i + 1) * 4 + (j - i * 4 - 4) from by omega, putV_in f1 hlt]
      exact hu
theorem run_copy_rowK {P : Program} (w : World) (dT sT ty elem : TypeId) (g o dLen dCap : Nat) (a : Addr) (sLen sCap : Nat) (cur : Array Value) (t : TypeId) (cs : List Value) (n sz : Nat)
    (hu : P.underlying dT = some (.slice elem)) (hs : (P.info? elem).map (·.size) = some sz)
    (hg : w.heap[g]? = some (.cells cur t (0, 0))) (hn : n = Nat.min sLen dLen) (hl : cs.length = n * sz)
    (hsrc : ∀ j v, cs[j]? = some v → w.cell? (a.add j) = some v) (hfit : o + cs.length ≤ cur.size) (h1 : ∀ v ∈ cs, v.oneCell' = true) :
    (Builtin.copy_ #[dT, sT] ty #[.slice (some ⟨g, o, none⟩) dLen dCap, .slice (some a) sLen sCap]).run P w = .ok (goInt n) (w.setRow g (putV cur o cs)) := by
  have hl' := run_loadCells_list (P := P) w a cs hsrc
  have hst := run_storeCells_at P g o t cs 0 cur w hg (by simpa using hfit) h1
  cases hq : P.info? elem with
  | none => simp [hq] at hs
  | some i =>
    have hi : i.size = sz := by simpa [hq] using hs
    rw [hl] at hl'
    simp only [Nat.add_zero] at hst
    simp [Builtin.copy_, run_underlying hu, Builtin.lenOf, Builtin.firstCells, sizeOf, typeInfo, hq, hi, ← hn, hl', hst, putV]
theorem infoC : (Try.prog.info? 38).map (fun i => (i.zero, i.size, i.bytes)) = some (some (.agg #[.int .i64 0, .int .i64 0, .int .i64 0, .int .i64 0]), 4, 32) := by kernel_rfl
theorem sizC : (Try.prog.info? 38).map (·.size) = some 4 := by kernel_rfl
/-- What Insert leaves. -/
def InsP (base : Nat) (w : World) (v : Value) (l : List C4) (i : Nat) (x : C4) (e : Ending) (w' : World) : Prop :=
  ∃ v', e = .returned v' ∧ SlO base w' v' (l.take i ++ x :: l.drop i) ∧ Gr (fun b => v.ownBlock = some b) w w' ∧ (v'.ownBlock = v.ownBlock ∨ ∃ b, v'.ownBlock = some b ∧ w.heap.size ≤ b)
set_option maxHeartbeats 2000000 in
theorem insert_shift {base : Nat} (w : World) {g off cap : Nat} {cur : Array Value} {l : List C4} (hcap : cap ≤ 9223372036854775807) (hbg : base ≤ g) (hg : w.heap[g]? = some (.cells cur 38 (0, 0))) (hsz : off + cap * 4 ≤ cur.size)
    (hcell : ∀ j u, (flatE l)[j]? = some u → cur[off + j]? = some u) (hok : ∀ x ∈ l, x.ok) (hB0 : base ≤ w.heap.size) {i : Nat} (hi : i < l.length) (hroom : l.length + 1 ≤ cap) {x : C4} (hx : x.ok) {vb : Nat} (hvb : w.heap[vb]? = some (.cells #[.int .i64 x.st, .int .i64 x.en, .int .i64 x.ot, .int .i64 x.pe] 38 (0, 0))) (hne : vb ≠ g) :
    Calls Try.prog 41 #[.slice (some ⟨g, off, none⟩) l.length cap, .int .i64 i, .slice (some ⟨vb, 0, none⟩) 1 1] w (InsP base w (.slice (some ⟨g, off, none⟩) l.length cap) l i x) := by
  have hov : ∀ lb cb, (callFunc 60 #[.slice (some ⟨vb, 0, none⟩) 1 1, .slice (some ⟨g, off + (i + 1) * 4, none⟩) lb cb]).run Try.prog w = .ok (.value (.bool false)) w := fun lb cb => by
    rw [run_callFunc_extern Try.func60 (by kernel_rfl) (by kernel_rfl) (by kernel_rfl) (e := Extern.SlicesOverlaps.overlaps #[23, 23] #[4]) (by kernel_rfl),
      Lib.run_overlaps_apart w 23 4 38 Try.underlying23 4 sizeC' ⟨vb, 0, none⟩ ⟨g, off + (i + 1) * 4, none⟩ 1 1 lb cb hne 38 38 4 cur.size (by simp [World.shape?, hvb]) (by simp [World.shape?, hg]) (by omega) (by simp [World.frozen?, hvb]) (by simp [World.frozen?, hvb])]
    rfl
  have HOK := Lib.hid (show ∀ y ∈ l.take i ++ x :: l.drop i, y.ok from fun y hy => by
    rw [List.mem_append, List.mem_cons] at hy
    rcases hy with hy | rfl | hy
    · exact hok y (List.mem_of_mem_take hy)
    · exact hx
    · exact hok y (List.mem_of_mem_drop hy))
  obtain ⟨n, hn⟩ : ∃ n, l.length = n := ⟨_, rfl⟩
  have hdl : (flatE (l.drop i)).length = (n - i) * 4 := by rw [flatE_len, List.length_drop, hn]
  have hct : ∀ j u, (flatE (l.take i))[j]? = some u → cur[off + j]? = some u := fun j u hu => hcell j u (by
    rw [flatE_split l i, List.getElem?_append_left (List.getElem?_eq_some_iff.1 hu).1]
    exact hu)
  obtain ⟨cur1, hc1⟩ : ∃ c, c = putV cur (off + (i + 1) * 4) (flatE (l.drop i)) := ⟨_, rfl⟩
  obtain ⟨cur2, hc2⟩ : ∃ c, c = putV cur1 (off + i * 4) (encC x) := ⟨_, rfl⟩
  have hrow := ins_row x (Nat.le_of_lt hi) (by omega) hct hc1 hc2
  rw [hn] at hi hroom ⊢
  have hf1 : off + (i + 1) * 4 + (flatE (l.drop i)).length ≤ cur.size := by rw [hdl]; omega
  have s1 : cur1.size = cur.size := by rw [hc1]; exact putV_size hf1
  have hlt : (flatE (l.take i)).length = i * 4 := by rw [flatE_len, List.length_take, hn, Nat.min_eq_left (by omega)]
  have hcp1 : ∀ (W : World), W.heap[g]? = w.heap[g]? → ∀ ty dl dc sc, dl = n - i → (Builtin.copy_ #[23, 23] ty #[.slice (some ⟨g, off + (i + 1) * 4, none⟩) dl dc, .slice (some ⟨g, off + i * 4, none⟩) (n + 1 - i) sc]).run Try.prog W = .ok (goInt ((n - i : Nat))) (W.setRow g cur1) := fun W hW ty dl dc sc hdd => by
    subst hdd
    rw [hc1]
    refine run_copy_rowK W _ _ ty 38 g _ _ dc _ _ sc cur 38 (flatE (l.drop i)) (n - i) 4 Try.underlying23 sizC (hW.trans hg) (by simp only [Nat.min_def]; split <;> omega) hdl (fun j v hj => ?_) hf1 (flatE_one _)
    rw [Addr.add_lit, cell_of_row W g _ cur 38 _ (hW.trans hg), Nat.add_assoc]
    refine hcell _ v ?_
    rw [flatE_split l i, List.getElem?_append_right (by omega), hlt]
    rw [show i * 4 + j - i * 4 = j from by omega]
    exact hj
  have hcp2 : ∀ (W : World), W.heap[g]? = some (.cells cur1 38 (0, 0)) → W.heap[vb]? = w.heap[vb]? → ∀ ty dc, (Builtin.copy_ #[23, 23] ty #[.slice (some ⟨g, off + i * 4, none⟩) (n + 1 - i) dc, .slice (some ⟨vb, 0, none⟩) 1 1]).run Try.prog W = .ok (goInt 1) (W.setRow g cur2) := fun W hW hW2 ty dc => by
    rw [hc2]
    refine run_copy_rowK W _ _ ty 38 g _ _ dc _ _ 1 cur1 38 (encC x) 1 4 Try.underlying23 sizC hW (by simp only [Nat.min_def]; split <;> omega) rfl (fun j v hj => ?_) (by rw [s1, encC_len]; omega) (fun v hv => by simp [encC] at hv; rcases hv with rfl | rfl | rfl | rfl <;> rfl)
    rw [Addr.add_lit, Nat.zero_add, cell_of_row W vb _ _ 38 _ (hW2.trans hvb)]
    simpa [encC] using hj
  have HG := Lib.hid hg
  have HVB := Lib.hid hvb
  have HROW := Lib.hid hrow
  have HN := Lib.hid hn
  have HSZ := Lib.hid hsz
  clear hg hvb hrow hn hsz hcell hct hc1 hc2 hf1 s1 hlt hdl hok hx
  go_enter Try.func41, Try.ntmps41
  have hw1 : IntKind.i64.wrap ((i : Int) + 1) = (i : Int) + 1 := by rw [IntKind.wrap_i64]; omega
  have htn : ((i : Int) + 1).toNat = i + 1 := by omega
  have hb2 : ¬ (cap = i + 1) := by omega
  have hb3 : (i : Int) ≤ (n : Int) + 1 := by omega
  have hb4 : ¬ (cap = i) := by omega
  have hb1 : (0 : Int) ≤ (i : Int) + 1 := by omega
  have hin : i ≤ n := by omega
  go_upto_region 15 with (simp only [hov])
  have hC0 : Cells [] w := trivial
  refine wp_region_T (Cells []) (fun i => i == 8) (by kernel_rfl) ?_
  have hSss1 := Cells.drew hC0
  have hB_0_s1 : Below w.heap.size w w.drew := below_drew _
  generalize w.drew = s1 at hSss1 hB_0_s1 ⊢
  have hB_s1_s1 := Below.refl s1.heap.size s1
  refine wpAnyT_pure (i := 0) (v := ?_) rfl (by kernel_rfl) (by kernel_rfl) (by kernel_rfl) (fun _ _ _ h => h) (by rfl) ?_ ?_
  rotate_left
  · intro w; go_simp; try with_reducible rfl
  simp only [Act.put, rgA, rgB, rgC, rgD, rgE, rgF]
  refine wpAnyT_pure (i := 1) (v := ?_) rfl (by kernel_rfl) (by kernel_rfl) (by kernel_rfl) (fun _ _ _ h => h) (by rfl) ?_ ?_
  rotate_left
  · intro w; go_simp; try with_reducible rfl
  simp only [Act.put, rgA, rgB, rgC, rgD, rgE, rgF]
  refine wpAnyT_pure (i := 2) (v := ?_) rfl (by kernel_rfl) (by kernel_rfl) (by kernel_rfl) (fun _ _ _ h => h) (by rfl) ?_ ?_
  rotate_left
  · intro w; go_simp; try with_reducible rfl
  simp only [Act.put, rgA, rgB, rgC, rgD, rgE, rgF]
  refine wpAnyT_pure (i := 3) (v := ?_) rfl (by kernel_rfl) (by kernel_rfl) (by kernel_rfl) (fun _ _ _ h => h) (by rfl) ?_ ?_
  rotate_left
  · intro w; go_simp; try with_reducible rfl
  simp only [Act.put, rgA, rgB, rgC, rgD, rgE, rgF]
  refine wpAnyT_pure (i := 4) (v := ?_) rfl (by kernel_rfl) (by kernel_rfl) (by kernel_rfl) (fun _ _ _ h => h) (by rfl) ?_ ?_
  rotate_left
  · intro w; go_simp; try with_reducible rfl
  simp only [Act.put, rgA, rgB, rgC, rgD, rgE, rgF]
  refine wpAnyT_pure (i := 5) (v := ?_) rfl (by kernel_rfl) (by kernel_rfl) (by kernel_rfl) (fun _ _ _ h => h) (by rfl) ?_ ?_
  rotate_left
  · intro w; go_simp; try with_reducible rfl
  simp only [Act.put, rgA, rgB, rgC, rgD, rgE, rgF]
  refine wpAnyT_pure (i := 6) (v := ?_) rfl (by kernel_rfl) (by kernel_rfl) (by kernel_rfl) (fun _ _ _ h => h) (by rfl) ?_ ?_
  rotate_left
  · intro w; go_simp; try with_reducible rfl
  simp only [Act.put, rgA, rgB, rgC, rgD, rgE, rgF]
  refine wpAnyT_pure (i := 7) (v := ?_) rfl (by kernel_rfl) (by kernel_rfl) (by kernel_rfl) (fun _ _ _ h => h) (by rfl) ?_ ?_
  rotate_left
  · intro w; go_simp; try with_reducible rfl
  simp only [Act.put, rgA, rgB, rgC, rgD, rgE, rgF]
  refine wpAnyT_one (i := 8) (by kernel_rfl) rfl (by rfl) ?_
  have hPh : (s1).heap[g]? = w.heap[g]? := (hB_0_s1.trans ((hB_s1_s1).mono (hB_0_s1).size)).block g (blk_lt HG.out)
  have hPv : (s1).heap[vb]? = w.heap[vb]? := (hB_0_s1.trans ((hB_s1_s1).mono (hB_0_s1).size)).block vb (blk_lt HVB.out)
  refine wp_copy_runI s1 (.tmp 73) (.tmp 76) 23 23 rfl (.slice (some ⟨g, off + (i + 1) * 4, none⟩) (n - i) (cap - (i + 1))) (.slice (some ⟨g, off + i * 4, none⟩) (n + 1 - i) (cap - i)) (by kernel_rfl) (by kernel_rfl) (hcp1 s1 hPh _ _ _ _ rfl) ?_
  obtain ⟨w102, hN⟩ : ∃ x, x = (s1).setRow g cur1 := ⟨_, rfl⟩
  rw [← hN]
  have hgN : w102.heap[g]? = some (.cells cur1 38 (0, 0)) := by rw [hN]; exact setRow_heap _ g cur _ _ _ (hPh.trans HG.out)
  have hvN : w102.heap[vb]? = w.heap[vb]? := by rw [hN, setRow_other _ _ _ _ hne]; exact hPv
  have hbN : Gr (fun b => b = g) w w102 := by rw [hN]; exact (Gr.of_below (hB_0_s1.trans ((hB_s1_s1).mono (hB_0_s1).size)) : Gr (fun b => b = g) w s1).trans (gr_setRow _ _ _) (fun _ h => .inl h)
  clear hN hPh hPv
  refine ⟨fun h => absurd h (by decide), ?_⟩
  try simp only [Act.put, rgA, rgB, rgC, rgD, rgE, rgF]
  refine wpAnyT_done (by kernel_rfl) ?_ _
  obtain ⟨w7, rfl⟩ : ∃ x, x = w102 := ⟨_, rfl⟩
  go_wp2_with (at_builtin; refine wpList_copy_runI _ rfl _ _ 23 23 rfl _ _ rfl rfl (hcp2 _ hgN hvN _ _) ?_)
  go_ret
  refine ⟨_, rfl, ?_, (hbN.trans (gr_setRow _ _ _) (fun _ h => .inl h)).mono (fun b e => .inl (by rw [e]; rfl)), .inl rfl⟩
  obtain ⟨hz, hcc⟩ := HROW.out
  have hlen : (l.take i ++ x :: l.drop i).length = n + 1 := by
    have := HN.out
    rw [List.length_append, List.length_cons, List.length_take, List.length_drop]
    omega
  have := SlO.made (base := base) (w := (w7).setRow g cur2) (g := g) (off := off) (cap := cap) (cur := cur2) (l := l.take i ++ x :: l.drop i) (by omega) hcap hbg (setRow_heap _ g cur1 _ _ _ hgN) (by rw [hz]; exact HSZ.out) hcc HOK.out
  rw [hlen] at this
  exact this
theorem map_snoc_C (l : List C4) (x : C4) : l.map C4.d ++ [C4.d x] = (l ++ [x]).map C4.d := by simp
set_option maxHeartbeats 2000000 in
theorem insert_end {base : Nat} (w : World) {v : Value} {l : List C4} (hO : SlO base w v l) (hB0 : base ≤ w.heap.size) (hll : l.length ≤ 1000000) {x : C4} (hx : x.ok) {vb : Nat} (hvb : w.heap[vb]? = some (.cells #[.int .i64 x.st, .int .i64 x.en, .int .i64 x.ot, .int .i64 x.pe] 38 (0, 0))) :
    Calls Try.prog 41 #[v, .int .i64 l.length, .slice (some ⟨vb, 0, none⟩) 1 1] w (InsP base w v l l.length x) := by
  have HO := Lib.hid hO
  have HX := Lib.hid hx
  have HVB := Lib.hid hvb
  obtain ⟨g, off, cap, cur, rfl, h1, h2, h3, h4, h5, -, -⟩ := hO.open_
  have hob : ∀ c, (Value.slice (some ⟨g, off, none⟩) l.length cap).ownBlock = some c → base ≤ c := fun c hc => by simp [Value.ownBlock] at hc; rw [← hc]; exact h3
  have HOB := Lib.hid hob
  obtain ⟨n, hn⟩ : ∃ n, l.length = n := ⟨_, rfl⟩
  have HN := Lib.hid hn
  rw [hn] at hll HO HOB h1 ⊢
  clear hO hx hvb h4 h5 hn hob h3
  go_enter Try.func41, Try.ntmps41
  have HNW := Lib.hid (show ∀ j u, (encC x)[j]? = some u → w.cell? ((⟨vb, 0, none⟩ : Addr).add j) = some u from fun j u hu => by
    rw [Addr.add_lit, Nat.zero_add, blk_cell HVB.out]
    simpa [encC] using hu)
  go_wp2_with (at_builtin; go_must (refine wpList_appO _ rfl _ _ 23 rfl (e := cellT) (te := 38) info_cell Try.underlying23 rfl (by decide) (base := base) (S := fun _ => False) (v := .slice (some ⟨g, off, none⟩) n cap) (xs := l.map C4.d) rfl HO.out hB0 rfl (ys := [C4.d x]) rfl (news := encC x) HNW.out (RdL.one (e := cellT) (cell_rd HX.out)) (by omega) (by rw [List.length_map, HN.out]; omega) (by rw [List.length_map, HN.out]; omega) ?_); intro v' w' O' g' ob'; rw [map_snoc_C] at O'; have HO2 := Lib.hid (show SlO base w' v' (l ++ [x]) from O'); have HB := Lib.hid (And.intro (Gr.of_grown g') ob'); clear O' g' ob')
  all_goals go_ret
  all_goals refine ⟨_, rfl, ?_, HB.out.1.mono (fun b e => .inl e), HB.out.2.imp id (fun h => ⟨_, h, Nat.le_refl _⟩)⟩
  all_goals (rw [show l.take n ++ x :: l.drop n = l ++ [x] from by rw [← HN.out, List.take_length, List.drop_length]]; exact HO2.out)
theorem ins_row2 {cur : Array Value} {l : List C4} {i : Nat} (x : C4) (hi : i ≤ l.length) (hsz : (l.length + 1) * 4 ≤ cur.size) (h : ∀ (j : Nat) u, (flatE (l.take i))[j]? = some u → cur[j]? = some u)
    {cur1 : Array Value} (hc1 : cur1 = putV cur (i * 4) (encC x)) {cur2 : Array Value} (hc2 : cur2 = putV cur1 ((i + 1) * 4) (flatE (l.drop i))) :
    cur2.size = cur.size ∧ ∀ (j : Nat) u, (flatE (l.take i ++ x :: l.drop i))[j]? = some u → cur2[0 + j]? = some u := by
  have hd : (flatE (l.drop i)).length = (l.length - i) * 4 := by rw [flatE_len, List.length_drop]
  have ht : (flatE (l.take i)).length = i * 4 := by rw [flatE_len, List.length_take, Nat.min_eq_left hi]
  have f1 : i * 4 + (encC x).length ≤ cur.size := by rw [encC_len]; omega
  have s1 : cur1.size = cur.size := by rw [hc1]; exact putV_size f1
  have f2 : (i + 1) * 4 + (flatE (l.drop i)).length ≤ cur1.size := by rw [s1, hd]; omega
  refine ⟨by rw [hc2, putV_size f2, s1], fun j u hu => ?_⟩
  rw [flatE_append, flatE_cons] at hu
  rw [Nat.zero_add]
  by_cases h1 : j < i * 4
  · rw [List.getElem?_append_left (by omega)] at hu
    rw [hc2, putV_ahead f2 (by omega), hc1, putV_ahead f1 (by omega)]
    exact h j u hu
  · rw [List.getElem?_append_right (by omega), ht] at hu
    by_cases h2 : j < i * 4 + 4
    · rw [List.getElem?_append_left (by rw [encC_len]; omega)] at hu
      rw [hc2, putV_ahead f2 (by omega), hc1, show j = i * 4 + (j - i * 4) from by omega, putV_in f1 (by rw [encC_len]; omega)]
      exact hu
    · rw [List.getElem?_append_right (by rw [encC_len]; omega), encC_len] at hu
      have hlt := (List.getElem?_eq_some_iff.1 hu).1
      rw [hc2, show j = (i + 1) * 4 + (j - i * 4 - 4) from by omega, putV_in f2 hlt]
      exact hu
set_option maxHeartbeats 2000000 in
theorem insert_grow {base : Nat} (w : World) {g off cap : Nat} {cur : Array Value} {l : List C4} (hg : w.heap[g]? = some (.cells cur 38 (0, 0)))
    (hcell : ∀ j u, (flatE l)[j]? = some u → cur[off + j]? = some u) (hok : ∀ x ∈ l, x.ok) (hB0 : base ≤ w.heap.size) (hll : l.length ≤ 1000000) (hlc : l.length ≤ cap) {i : Nat} (hi : i < l.length) (hroom : cap < l.length + 1) {x : C4} (hx : x.ok) {vb : Nat} (hvb : w.heap[vb]? = some (.cells #[.int .i64 x.st, .int .i64 x.en, .int .i64 x.ot, .int .i64 x.pe] 38 (0, 0))) :
    Calls Try.prog 41 #[.slice (some ⟨g, off, none⟩) l.length cap, .int .i64 i, .slice (some ⟨vb, 0, none⟩) 1 1] w (InsP base w (.slice (some ⟨g, off, none⟩) l.length cap) l i x) := by
  have HOK := Lib.hid (show ∀ y ∈ l.take i ++ x :: l.drop i, y.ok from fun y hy => by
    rw [List.mem_append, List.mem_cons] at hy
    rcases hy with hy | rfl | hy
    · exact hok y (List.mem_of_mem_take hy)
    · exact hx
    · exact hok y (List.mem_of_mem_drop hy))
  obtain ⟨n, hn⟩ : ∃ n, l.length = n := ⟨_, rfl⟩
  have hdl : (flatE (l.drop i)).length = (n - i) * 4 := by rw [flatE_len, List.length_drop, hn]
  have hlt : (flatE (l.take i)).length = i * 4 := by rw [flatE_len, List.length_take, hn, Nat.min_eq_left (by omega)]
  have hct : ∀ j u, (flatE (l.take i))[j]? = some u → cur[off + j]? = some u := fun j u hu => hcell j u (by
    rw [flatE_split l i, List.getElem?_append_left (List.getElem?_eq_some_iff.1 hu).1]
    exact hu)
  obtain ⟨i0, hi0, hz0, hzs, hzb⟩ := info_parts infoC
  have hold : (Builtin.firstCells i0.size i (.slice (some ⟨g, off, none⟩) i cap)).run Try.prog w.drew = .ok (flatE (l.take i)).toArray w.drew := by
    rw [hzs]
    refine run_firstCells_some w.drew 4 i ⟨g, off, none⟩ i cap (flatE (l.take i)) hlt (fun j v hj => ?_)
    rw [Addr.add_lit, cell_of_row w.drew g _ cur 38 _ hg]
    exact hct j v hj
  have hkk : (n : Int) + 1 - (i : Int) = ((n + 1 - i : Nat) : Int) := by omega
  have hik : i + (n + 1 - i) = n + 1 := by omega
  have hrz : ∀ ty, (Builtin.append_ #[23, 3] ty #[.slice (some ⟨g, off, none⟩) i cap, .int .i64 ((n : Int) + 1 - (i : Int))]).run Try.prog w =
      .ok (.slice (some ⟨w.heap.size, 0, none⟩) (n + 1) (grownCap w (n + 1) cap 38)) (w.drew.alloc (.cells ((flatE (l.take i)).toArray ++ Builtin.zeroCells (Value.agg #[.int .i64 0, .int .i64 0, .int .i64 0, .int .i64 0]).cells (n + 1 - i) ++ Builtin.zeroCells (Value.agg #[.int .i64 0, .int .i64 0, .int .i64 0, .int .i64 0]).cells (grownCap w (n + 1) cap 38 - (n + 1))) 38)) := fun ty => by
    have h := Lib.run_append_grow_zeros w 23 3 ty 38 i0 _ .i64 .i64 Try.underlying23 Try.underlying3 hi0 hz0 (some ⟨g, off, none⟩) i cap (flatE (l.take i)) hold (n + 1 - i) (by omega) (by omega) (by omega) (by omega) (by rw [hzb]; omega) (by rw [hzb, hik]; exact growslice_fits (show cap < n + 1 by omega) (by omega))
    rw [hik] at h
    rw [hkk]
    exact h
  obtain ⟨G, hG⟩ : ∃ G, G = grownCap w (n + 1) cap 38 := ⟨_, rfl⟩
  obtain ⟨ROW, hROW⟩ : ∃ ROW : Array Value, ROW = (flatE (l.take i)).toArray ++ Builtin.zeroCells (Value.agg #[.int .i64 0, .int .i64 0, .int .i64 0, .int .i64 0]).cells (n + 1 - i) ++ Builtin.zeroCells (Value.agg #[.int .i64 0, .int .i64 0, .int .i64 0, .int .i64 0]).cells (G - (n + 1)) := ⟨_, rfl⟩
  rw [← hG] at hrz
  rw [← hROW] at hrz
  have hGn : n + 1 ≤ G := by rw [hG]; exact grownCap_ge w _ _ _
  have hG63 : G ≤ 9223372036854775807 := by
    have := grownCap_le_maxLen w (n + 1) cap 38 (by unfold maxLen; omega)
    rw [← hG] at this
    unfold maxLen at this
    omega
  have hRz : ROW.size = G * 4 := by
    rw [hROW]
    simp only [Array.size_append, List.size_toArray, size_zeroCells, hlt, Value.cells]
    show i * 4 + (n + 1 - i) * 4 + (G - (n + 1)) * 4 = G * 4
    omega
  have hRc : ∀ (j : Nat) u, (flatE (l.take i))[j]? = some u → ROW[j]? = some u := fun j u hj => by
    have hjl := (List.getElem?_eq_some_iff.1 hj).1
    rw [hROW, Array.append_assoc, Array.getElem?_append_left (by simpa using hjl)]
    simpa using hj
  obtain ⟨W1, hW1⟩ : ∃ W1, W1 = w.drew.alloc (.cells ROW 38) := ⟨_, rfl⟩
  rw [← hW1] at hrz
  have hbW : Below w.heap.size w W1 := by rw [hW1]; exact (below_drew w).alloc (Nat.le_refl _) _
  have hRW : W1.heap[w.heap.size]? = some (.cells ROW 38 (0, 0)) := by rw [hW1]; exact heap_alloc_new w.drew _
  clear hW1 hG hROW hold hkk hik hi0 hz0 hzs hzb
  obtain ⟨cur1, hc1⟩ : ∃ c, c = putV ROW (i * 4) (encC x) := ⟨_, rfl⟩
  obtain ⟨cur2, hc2⟩ : ∃ c, c = putV cur1 ((i + 1) * 4) (flatE (l.drop i)) := ⟨_, rfl⟩
  have hrow := ins_row2 x (Nat.le_of_lt hi) (by omega) hRc hc1 hc2
  have f1 : i * 4 + (encC x).length ≤ ROW.size := by rw [encC_len]; omega
  have s1 : cur1.size = ROW.size := by rw [hc1]; exact putV_size f1
  have hgw := blk_lt hg
  have hvw := blk_lt hvb
  have hcp1 : ∀ (W : World), W.heap[w.heap.size]? = W1.heap[w.heap.size]? → W.heap[vb]? = w.heap[vb]? → ∀ ty dc, (Builtin.copy_ #[23, 23] ty #[.slice (some ⟨w.heap.size, i * 4, none⟩) (n + 1 - i) dc, .slice (some ⟨vb, 0, none⟩) 1 1]).run Try.prog W = .ok (goInt 1) (W.setRow w.heap.size cur1) := fun W hW hW2 ty dc => by
    rw [hc1]
    refine run_copy_rowK W _ _ ty 38 w.heap.size _ _ dc _ _ 1 ROW 38 (encC x) 1 4 Try.underlying23 sizC (hW.trans hRW) (by simp only [Nat.min_def]; split <;> omega) rfl (fun j v hj => ?_) f1 (fun v hv => by simp [encC] at hv; rcases hv with rfl | rfl | rfl | rfl <;> rfl)
    rw [Addr.add_lit, Nat.zero_add, cell_of_row W vb _ _ 38 _ (hW2.trans hvb)]
    simpa [encC] using hj
  have hcp2 : ∀ (W : World), W.heap[w.heap.size]? = some (.cells cur1 38 (0, 0)) → W.heap[g]? = w.heap[g]? → ∀ ty dc sc, (Builtin.copy_ #[23, 23] ty #[.slice (some ⟨w.heap.size, (i + 1) * 4, none⟩) (n - i) dc, .slice (some ⟨g, off + i * 4, none⟩) (n - i) sc]).run Try.prog W = .ok (goInt ((n - i : Nat))) (W.setRow w.heap.size cur2) := fun W hW hW2 ty dc sc => by
    rw [hc2]
    refine run_copy_rowK W _ _ ty 38 w.heap.size _ _ dc _ _ sc cur1 38 (flatE (l.drop i)) (n - i) 4 Try.underlying23 sizC hW (by simp only [Nat.min_def]; split <;> omega) hdl (fun j v hj => ?_) (by rw [s1, hdl, hRz]; omega) (flatE_one _)
    rw [Addr.add_lit, cell_of_row W g _ cur 38 _ (hW2.trans hg), Nat.add_assoc]
    refine hcell _ v ?_
    rw [flatE_split l i, List.getElem?_append_right (by omega), hlt]
    rw [show i * 4 + j - i * 4 = j from by omega]
    exact hj
  rw [hn] at hi hroom hlc hll ⊢
  have HG := Lib.hid hg
  have HVB := Lib.hid hvb
  have HROW := Lib.hid hrow
  have HN := Lib.hid hn
  have HGS := Lib.hid (And.intro hgw hvw)
  have HRZ := Lib.hid hRz
  have HRW := Lib.hid hRW
  have HBW := Lib.hid hbW
  clear hg hvb hrow hn hcell hct hc1 hc2 f1 s1 hlt hdl hok hx hgw hvw hRz hRc hRW hbW
  have hw1 : IntKind.i64.wrap ((i : Int) + 1) = (i : Int) + 1 := by rw [IntKind.wrap_i64]; omega
  have htn : ((i : Int) + 1).toNat = i + 1 := by omega
  have hb2 : ¬ (G = i + 1) := by omega
  have hb3 : (i : Int) ≤ (n : Int) + 1 := by omega
  have hb4 : ¬ (G = i) := by omega
  have hb5 : ¬ (cap = i) := by omega
  have hb1 : (0 : Int) ≤ (i : Int) + 1 := by omega
  have hin : i ≤ n := by omega
  have hwn : IntKind.i64.wrap ((n : Int) + 1) = (n : Int) + 1 := by rw [IntKind.wrap_i64]; omega
  have hwd : IntKind.i64.wrap ((n : Int) + 1 - (i : Int)) = (n : Int) + 1 - (i : Int) := by rw [IntKind.wrap_i64]; omega
  go_enter Try.func41, Try.ntmps41
  go_upto_region 10 with (at_builtin; refine Lib.wpList_append_run _ rfl _ _ _ _ rfl _ _ rfl rfl _ _ (hrz _) ?_)
  have hcpA := fun ty dc => hcp1 W1 rfl (HBW.out.block _ HGS.out.2) ty dc
  go_upto_region 11 with (at_builtin; go_must (refine wpList_copy_runI _ rfl _ _ 23 23 rfl _ _ rfl rfl (hcpA _ _) ?_))
  obtain ⟨W2, hW2⟩ : ∃ x, x = W1.setRow w.heap.size cur1 := ⟨_, rfl⟩
  rw [← hW2]
  have hg2 : W2.heap[w.heap.size]? = some (.cells cur1 38 (0, 0)) := by rw [hW2]; exact setRow_heap _ _ ROW _ _ _ HRW.out
  have hb2' : Below w.heap.size w W2 := by rw [hW2]; exact below_setRow HBW.out (Nat.le_refl _) _
  clear hW2
  have hC0 : Cells [] W2 := trivial
  refine wp_region_T (Cells []) (fun i => i == 8) (by kernel_rfl) ?_
  have hSss3 := Cells.drew hC0
  have hB_0_s3 : Below W2.heap.size W2 W2.drew := below_drew _
  generalize W2.drew = s3 at hSss3 hB_0_s3 ⊢
  have hB_s3_s3 := Below.refl s3.heap.size s3
  refine wpAnyT_pure (i := 0) (v := ?_) rfl (by kernel_rfl) (by kernel_rfl) (by kernel_rfl) (fun _ _ _ h => h) (by rfl) ?_ ?_
  rotate_left
  · intro w; go_simp; try with_reducible rfl
  simp only [Act.put, rgA, rgB, rgC, rgD, rgE, rgF]
  refine wpAnyT_pure (i := 1) (v := ?_) rfl (by kernel_rfl) (by kernel_rfl) (by kernel_rfl) (fun _ _ _ h => h) (by rfl) ?_ ?_
  rotate_left
  · intro w; go_simp; try with_reducible rfl
  simp only [Act.put, rgA, rgB, rgC, rgD, rgE, rgF]
  refine wpAnyT_pure (i := 2) (v := ?_) rfl (by kernel_rfl) (by kernel_rfl) (by kernel_rfl) (fun _ _ _ h => h) (by rfl) ?_ ?_
  rotate_left
  · intro w; go_simp; try with_reducible rfl
  simp only [Act.put, rgA, rgB, rgC, rgD, rgE, rgF]
  refine wpAnyT_pure (i := 3) (v := ?_) rfl (by kernel_rfl) (by kernel_rfl) (by kernel_rfl) (fun _ _ _ h => h) (by rfl) ?_ ?_
  rotate_left
  · intro w; go_simp; try with_reducible rfl
  simp only [Act.put, rgA, rgB, rgC, rgD, rgE, rgF]
  refine wpAnyT_pure (i := 4) (v := ?_) rfl (by kernel_rfl) (by kernel_rfl) (by kernel_rfl) (fun _ _ _ h => h) (by rfl) ?_ ?_
  rotate_left
  · intro w; go_simp; try with_reducible rfl
  simp only [Act.put, rgA, rgB, rgC, rgD, rgE, rgF]
  refine wpAnyT_pure (i := 5) (v := ?_) rfl (by kernel_rfl) (by kernel_rfl) (by kernel_rfl) (fun _ _ _ h => h) (by rfl) ?_ ?_
  rotate_left
  · intro w; go_simp; try with_reducible rfl
  simp only [Act.put, rgA, rgB, rgC, rgD, rgE, rgF]
  refine wpAnyT_pure (i := 6) (v := ?_) rfl (by kernel_rfl) (by kernel_rfl) (by kernel_rfl) (fun _ _ _ h => h) (by rfl) ?_ ?_
  rotate_left
  · intro w; go_simp; try with_reducible rfl
  simp only [Act.put, rgA, rgB, rgC, rgD, rgE, rgF]
  refine wpAnyT_pure (i := 7) (v := ?_) rfl (by kernel_rfl) (by kernel_rfl) (by kernel_rfl) (fun _ _ _ h => h) (by rfl) ?_ ?_
  rotate_left
  · intro w; go_simp; try with_reducible rfl
  simp only [Act.put, rgA, rgB, rgC, rgD, rgE, rgF]
  refine wpAnyT_one (i := 8) (by kernel_rfl) rfl (by rfl) ?_
  have hbP : Below W2.heap.size W2 s3 := hB_0_s3.trans ((hB_s3_s3).mono (hB_0_s3).size)
  have hbw : Below w.heap.size w s3 := below_step hb2' hbP
  have hgP : (s3).heap[w.heap.size]? = some (.cells cur1 38 (0, 0)) := (hbP.block _ (blk_lt hg2)).trans hg2
  refine wp_copy_runI s3 (.tmp 50) (.tmp 53) 23 23 rfl (.slice (some ⟨w.heap.size, (i + 1) * 4, none⟩) (n - i) (G - (i + 1))) (.slice (some ⟨g, off + i * 4, none⟩) (n - i) (cap - i)) (by kernel_rfl) (by kernel_rfl) (hcp2 s3 hgP (hbw.block _ HGS.out.1) _ _ _) ?_
  obtain ⟨w104, hN⟩ : ∃ x, x = (s3).setRow w.heap.size cur2 := ⟨_, rfl⟩
  rw [← hN]
  have hgN : w104.heap[w.heap.size]? = some (.cells cur2 38 (0, 0)) := by rw [hN]; exact setRow_heap _ _ cur1 _ _ _ hgP
  have hbN : Below w.heap.size w w104 := by rw [hN]; exact below_setRow hbw (Nat.le_refl _) _
  clear hN hbP hbw hgP
  refine ⟨fun h => absurd h (by decide), ?_⟩
  try simp only [Act.put, rgA, rgB, rgC, rgD, rgE, rgF]
  refine wpAnyT_done (by kernel_rfl) ?_ _
  obtain ⟨w7, rfl⟩ : ∃ x, x = w104 := ⟨_, rfl⟩
  go_wp2_with fail
  go_ret
  refine ⟨_, rfl, ?_, Gr.of_below hbN, .inr ⟨_, rfl, Nat.le_refl _⟩⟩
  obtain ⟨hz, hcc⟩ := HROW.out
  have hlen : (l.take i ++ x :: l.drop i).length = n + 1 := by
    have := HN.out
    rw [List.length_append, List.length_cons, List.length_take, List.length_drop]
    omega
  have := SlO.made (base := base) (w := w7) (g := w.heap.size) (off := 0) (cap := G) (cur := cur2) (l := l.take i ++ x :: l.drop i) (by omega) hG63 hB0 hgN (by rw [hz, HRZ.out]; omega) hcc HOK.out
  rw [hlen] at this
  exact this
/-- slices.Insert(s, i, x). -/
theorem insert47 {base : Nat} (w : World) {v : Value} {l : List C4} (hO : SlO base w v l) (hB0 : base ≤ w.heap.size) (hll : l.length ≤ 1000000) {i : Nat} (hi : i ≤ l.length) {x : C4} (hx : x.ok) {vb : Nat} (hvb : w.heap[vb]? = some (.cells #[.int .i64 x.st, .int .i64 x.en, .int .i64 x.ot, .int .i64 x.pe] 38 (0, 0))) (hne : v.ownBlock ≠ some vb) :
    Calls Try.prog 41 #[v, .int .i64 i, .slice (some ⟨vb, 0, none⟩) 1 1] w (InsP base w v l i x) := by
  by_cases he : i = l.length
  · subst he
    exact insert_end w hO hB0 hll hx hvb
  · obtain ⟨g, off, cap, cur, rfl, h1, h2, h3, h4, h5, h6, h7⟩ := hO.open_
    by_cases hr : l.length + 1 ≤ cap
    · exact insert_shift w h2 h3 h4 h5 h6 h7 hB0 (by omega) hr hx hvb (fun e => hne (by simp [Value.ownBlock, e]))
    · exact insert_grow w h4 h6 h7 hB0 hll h1 (by omega) (by omega) hx hvb
end Go.Proofs.Ytoimbhdjhhmonaa

/- Layer 47, plain: Order. Which cells are ready, and how the list of ready cells turns when one cell is put out. -/
set_option linter.unusedSimpArgs false
namespace Go.Proofs.Ytoimbhdjhhmonaa
open Go.RowKit Go

/-- A cell that may be put out next: it is not out, all its reads are. -/
def okO (rd : C4 → List C4) (out : List C4) (c : C4) : Bool := !decide (c ∈ out) && (rd c).all (fun r => decide (r ∈ out))
theorem okO_iff {rd : C4 → List C4} {out : List C4} {c : C4} : okO rd out c = true ↔ c ∉ out ∧ ∀ r ∈ rd c, r ∈ out := by
  unfold okO; simp
/-- The ready cells, in order. -/
def rdyO (all : List C4) (rd : C4 → List C4) (out : List C4) : List C4 := all.filter (okO rd out)
/-- The ready cells while c is put out and its readers in done have been looked at. -/
def parO (all : List C4) (rd : C4 → List C4) (out : List C4) (c : C4) (done : List C4) : List C4 :=
  all.filter (fun x => (okO rd out x && !decide (x = c)) || (decide (x ∈ done) && okO rd (out ++ [c]) x))
theorem srt_filter {l : List C4} (h : Srt l) (p : C4 → Bool) : Srt (l.filter p) := List.Pairwise.filter p h
theorem parO_nil {all : List C4} {rd : C4 → List C4} {out t : List C4} {c : C4} (hs : Srt all) (h : rdyO all rd out = c :: t) : parO all rd out c [] = t := by
  have h1 : Srt (c :: t) := h ▸ srt_filter hs _
  have hct : ∀ x ∈ t, ltC c x := (List.pairwise_cons.1 h1).1
  refine (srt_filter hs _).ext (List.pairwise_cons.1 h1).2 fun x => ?_
  have hm : x ∈ rdyO all rd out ↔ x = c ∨ x ∈ t := by rw [h]; simp
  unfold rdyO at hm
  rw [List.mem_filter] at hm ⊢
  constructor
  · rintro ⟨ha, hb⟩
    simp at hb
    exact (hm.1 ⟨ha, hb.1⟩).resolve_left hb.2
  · intro hx
    have := hm.2 (.inr hx)
    refine ⟨this.1, ?_⟩
    have hne : x ≠ c := fun e => ltC_ne (hct x hx) e.symm
    simp [this.2, hne]
theorem parO_all {all : List C4} {rd : C4 → List C4} {out done : List C4} {c : C4} (hs : Srt all) (hd : ∀ x ∈ all, c ∈ rd x → x ∈ done) : parO all rd out c done = rdyO all rd (out ++ [c]) := by
  refine (srt_filter hs _).ext (srt_filter hs _) fun x => ?_
  unfold rdyO
  rw [List.mem_filter, List.mem_filter]
  simp only [Bool.or_eq_true, Bool.and_eq_true, decide_eq_true_eq, okO_iff, Bool.not_eq_true', decide_eq_false_iff_not, List.mem_append, List.mem_singleton]
  constructor
  · rintro ⟨ha, ⟨⟨h1, h2⟩, h3⟩ | hb⟩
    · exact ⟨ha, fun h => h.elim h1 h3, fun r hr => .inl (h2 r hr)⟩
    · exact ⟨ha, hb.2⟩
  · rintro ⟨ha, h1, h2⟩
    refine ⟨ha, ?_⟩
    by_cases hc : c ∈ rd x
    · exact .inr ⟨hd x ha hc, h1, h2⟩
    · exact .inl ⟨⟨fun h => h1 (.inl h), fun r hr => (h2 r hr).resolve_right fun e => hc (e ▸ hr)⟩, fun e => h1 (.inr e)⟩
/-- How many reads of d are not out. -/
def opnO (rd : C4 → List C4) (out : List C4) (d : C4) : Nat := (rd d).countP (fun r => !decide (r ∈ out))
theorem opnO_zero {rd : C4 → List C4} {out : List C4} {d : C4} (hd : d ∉ out) : opnO rd out d = 0 ↔ okO rd out d = true := by
  rw [okO_iff]
  unfold opnO
  rw [List.countP_eq_zero]
  simp [hd]
theorem opnO_step {rd : C4 → List C4} {out : List C4} {c d : C4} (hn : (rd d).Nodup) (hc : c ∉ out) (hr : c ∈ rd d) : opnO rd out d = opnO rd (out ++ [c]) d + 1 := by
  unfold opnO
  generalize rd d = l at hn hr
  induction l with
  | nil => cases hr
  | cons a l ih =>
    rw [List.nodup_cons] at hn
    rw [List.countP_cons, List.countP_cons]
    by_cases ha : a = c
    · subst ha
      have he : l.countP (fun r => !decide (r ∈ out ++ [a])) = l.countP (fun r => !decide (r ∈ out)) := by
        refine List.countP_congr fun r hr2 => ?_
        have : r ≠ a := fun e => hn.1 (e ▸ hr2)
        simp [this]
      rw [he]
      simp [hc]
    · have hr2 : c ∈ l := (List.mem_cons.1 hr).resolve_left (fun e => ha e.symm)
      rw [ih hn.2 hr2]
      have : (!decide (a ∈ out ++ [c])) = (!decide (a ∈ out)) := by simp [ha]
      rw [this]
      omega
theorem opnO_other {rd : C4 → List C4} {out : List C4} {c d : C4} (hr : c ∉ rd d) : opnO rd (out ++ [c]) d = opnO rd out d := by
  unfold opnO
  refine List.countP_congr fun r h => ?_
  have : r ≠ c := fun e => hr (e ▸ h)
  simp [this]
end Go.Proofs.Ytoimbhdjhhmonaa

/- Layer 47, plain: Cycle. The two ways of choosing the next cell agree. -/
namespace Go.Proofs.Ytoimbhdjhhmonaa
open Go.RowKit Go

theorem Rch.trans {rs : C4 → C4 → Bool} {a b c : C4} (h : Rch rs a b) (k : Rch rs b c) : Rch rs a c := by
  induction k with
  | one h' => exact .step h h'
  | step _ h' ih => exact .step ih h'
/-- On the way of Cycle: the first cell, or one that depends on it and on which it depends. -/
def OnC (rs : C4 → C4 → Bool) (first c : C4) : Prop := Rch rs c first ∧ Rch rs first c
theorem OnC.first {rs : C4 → C4 → Bool} {first : C4} (h : Rch rs first first) : OnC rs first first := ⟨h, h⟩
theorem onC_next {rs : C4 → C4 → Bool} {first c d : C4} (hf : Rch rs first first) (h : OnC rs first c) (hd : rs d c = true) (ht : d = first ∨ Rch rs first d) : OnC rs first d :=
  ⟨h.1.head hd, ht.elim (fun e => e ▸ hf) id⟩
/-- There is always a next cell. -/
theorem onC_some {rs : C4 → C4 → Bool} {first c : C4} (h : OnC rs first c) : ∃ d, rs d c = true ∧ (d = first ∨ Rch rs first d) := by
  cases h.2 with
  | one h' => exact ⟨first, h', .inl rfl⟩
  | step h1 h' => exact ⟨_, h', .inr h1⟩
end Go.Proofs.Ytoimbhdjhhmonaa

/- Layer 47, plain: Order's whole result, how far it has come, and when it is whole. -/
set_option linter.unusedSimpArgs false
namespace Go.Proofs.Ytoimbhdjhhmonaa
open Go.RowKit Go

theorem nodup_len {α : Type} [DecidableEq α] : ∀ {a b : List α}, a.Nodup → (∀ x ∈ a, x ∈ b) → a.length ≤ b.length
  | [], _, _, _ => Nat.zero_le _
  | x :: a, b, h, hs => by
    rw [List.nodup_cons] at h
    have hx := hs x List.mem_cons_self
    have h1 := nodup_len (a := a) (b := b.erase x) h.2 (fun y hy => by
      have hne : y ≠ x := fun e => h.1 (e ▸ hy)
      rw [List.mem_erase_of_ne hne]
      exact hs y (List.mem_cons_of_mem _ hy))
    have h2 := List.length_erase_of_mem hx
    have h3 : 0 < b.length := List.length_pos_of_mem hx
    rw [List.length_cons]
    omega
theorem nodup_full {α : Type} [DecidableEq α] {a b : List α} (ha : a.Nodup) (hs : ∀ x ∈ a, x ∈ b) (hl : b.length ≤ a.length) : ∀ x ∈ b, x ∈ a := by
  intro x hx
  by_cases h : x ∈ a
  · exact h
  · have h1 := nodup_len (a := x :: a) (b := b) (List.nodup_cons.2 ⟨h, ha⟩) (fun y hy => by
      rcases List.mem_cons.1 hy with rfl | hy
      · exact hx
      · exact hs y hy)
    rw [List.length_cons] at h1
    omega
/-- The cells that are put out, one after another. -/
def ordR (all : List C4) (rd : C4 → List C4) : Nat → List C4 → List C4
  | 0, out => out
  | n + 1, out => match rdyO all rd out with
    | [] => out
    | c :: _ => ordR all rd n (out ++ [c])
def finO (all : List C4) (rd : C4 → List C4) : List C4 := ordR all rd all.length []
/-- How far Order has come. -/
structure OrdI (all : List C4) (rd : C4 → List C4) (out : List C4) : Prop where
  nd : out.Nodup
  sub : ∀ x ∈ out, x ∈ all
  top : ∀ i (hi : i < out.length), ∀ r ∈ rd out[i], r ∈ out.take i
  fin : ordR all rd (all.length - out.length) out = finO all rd
theorem OrdI.nil (all : List C4) (rd : C4 → List C4) : OrdI all rd [] := ⟨List.nodup_nil, fun _ h => (by cases h), fun i hi => (by simp at hi), rfl⟩
theorem OrdI.len {all : List C4} {rd : C4 → List C4} {out : List C4} (h : OrdI all rd out) : out.length ≤ all.length := nodup_len h.nd h.sub
theorem OrdI.step {all : List C4} {rd : C4 → List C4} {out : List C4} (h : OrdI all rd out) {c : C4} {t : List C4} (hr : rdyO all rd out = c :: t) : OrdI all rd (out ++ [c]) ∧ out.length < all.length ∧ c ∈ all ∧ okO rd out c = true := by
  have hc : c ∈ rdyO all rd out := by rw [hr]; exact List.mem_cons_self
  unfold rdyO at hc
  rw [List.mem_filter] at hc
  obtain ⟨ha, hok⟩ := hc
  have hno := (okO_iff.1 hok).1
  have hnd : (out ++ [c]).Nodup := by
    rw [List.nodup_append]
    refine ⟨h.nd, by simp, fun x hx y hy => ?_⟩
    rw [List.mem_singleton] at hy
    subst hy
    exact fun e => hno (e ▸ hx)
  have hsub : ∀ x ∈ out ++ [c], x ∈ all := fun x hx => by
    rw [List.mem_append, List.mem_singleton] at hx
    rcases hx with hx | rfl
    · exact h.sub x hx
    · exact ha
  have hl := nodup_len hnd hsub
  rw [List.length_append, List.length_singleton] at hl
  refine ⟨⟨hnd, hsub, fun i hi r hir => ?_, ?_⟩, by omega, ha, hok⟩
  · rw [List.length_append, List.length_singleton] at hi
    by_cases hlt : i < out.length
    · rw [List.getElem_append_left hlt] at hir
      rw [List.take_append_of_le_length (by omega)]
      exact h.top i hlt r hir
    · obtain rfl : i = out.length := by omega
      rw [List.getElem_append_right (Nat.le_refl _)] at hir
      simp only [Nat.sub_self, List.getElem_cons_zero] at hir
      rw [List.take_append_of_le_length (Nat.le_refl _), List.take_length]
      exact (okO_iff.1 hok).2 r hir
  · have hf := h.fin
    obtain ⟨k, hk⟩ : ∃ k, all.length - out.length = k + 1 := ⟨all.length - out.length - 1, by omega⟩
    rw [hk, ordR, hr] at hf
    rw [List.length_append, List.length_singleton, show all.length - (out.length + 1) = k from by omega]
    exact hf
theorem OrdI.stop {all : List C4} {rd : C4 → List C4} {out : List C4} (h : OrdI all rd out) (hr : rdyO all rd out = []) : finO all rd = out := by
  rw [← h.fin]
  cases all.length - out.length with
  | zero => rfl
  | succ k => rw [ordR, hr]
theorem ordR_inv {all : List C4} {rd : C4 → List C4} : ∀ (n : Nat) {out : List C4}, OrdI all rd out → all.length - out.length = n → OrdI all rd (ordR all rd n out) ∧ (rdyO all rd (ordR all rd n out) = [] ∨ all.length ≤ (ordR all rd n out).length)
  | 0, out, h, hn => ⟨h, .inr (by rw [ordR]; omega)⟩
  | n + 1, out, h, hn => by
    cases hr : rdyO all rd out with
    | nil => rw [ordR, hr]; exact ⟨h, .inl hr⟩
    | cons c t =>
      obtain ⟨h1, h2, -, -⟩ := h.step hr
      rw [ordR, hr]
      exact ordR_inv n h1 (by rw [List.length_append, List.length_singleton]; omega)
theorem finO_inv (all : List C4) (rd : C4 → List C4) : OrdI all rd (finO all rd) ∧ (rdyO all rd (finO all rd) = [] ∨ all.length ≤ (finO all rd).length) :=
  ordR_inv all.length (OrdI.nil all rd) rfl
/-- All are out: there is no cycle. -/
theorem OrdI.before {all : List C4} {rd : C4 → List C4} {rs : C4 → C4 → Bool} (hrs : ∀ d y, rs d y = true ↔ d ∈ rd y) {out : List C4} (h : OrdI all rd out) {d x : C4} (hr : Rch rs d x) : ∀ i (hi : i < out.length), out[i] = x → ∃ j, ∃ hj : j < out.length, j < i ∧ out[j] = d := by
  have hone : ∀ {d x : C4}, rs d x = true → ∀ i (hi : i < out.length), out[i] = x → ∃ j, ∃ hj : j < out.length, j < i ∧ out[j] = d := fun {d x} h' i hi e => by
    have h1 := h.top i hi d (by rw [e]; exact (hrs _ _).1 h')
    obtain ⟨j, hj, e2⟩ := List.getElem_of_mem h1
    rw [List.length_take] at hj
    rw [List.getElem_take] at e2
    exact ⟨j, by omega, by omega, e2⟩
  induction hr with
  | one h' => exact hone h'
  | step _ h' ih =>
    intro i hi e
    obtain ⟨j, hj, hlt, e2⟩ := hone h' i hi e
    obtain ⟨j', hj', hlt', e3⟩ := ih j hj e2
    exact ⟨j', hj', by omega, e3⟩
theorem OrdI.acyc {all : List C4} {rd : C4 → List C4} {rs : C4 → C4 → Bool} (hrs : ∀ d y, rs d y = true ↔ d ∈ rd y) {out : List C4} (h : OrdI all rd out) {c : C4} (hc : c ∈ out) : ¬ Rch rs c c := by
  intro hr
  obtain ⟨i, hi, e⟩ := List.getElem_of_mem hc
  obtain ⟨j, hj, hlt, e2⟩ := h.before hrs hr i hi e
  have h1 := List.pairwise_iff_getElem.1 h.nd j i hj hi hlt
  exact h1 (e2.trans e.symm)
open Classical in
theorem countP_lt {α : Type} (p q : α → Prop) (hpq : ∀ x, p x → q x) : ∀ {l : List α} {r : α}, r ∈ l → q r → ¬ p r → l.countP (fun x => decide (p x)) < l.countP (fun x => decide (q x)) := by
  have hle : ∀ l : List α, l.countP (fun x => decide (p x)) ≤ l.countP (fun x => decide (q x)) := fun l => List.countP_mono_left (fun x _ hx => decide_eq_true (hpq x (of_decide_eq_true hx)))
  intro l r hr hq hp
  induction l with
  | nil => cases hr
  | cons a l ih =>
    rw [List.countP_cons, List.countP_cons]
    rcases List.mem_cons.1 hr with rfl | hr
    · have := hle l
      simp only [hp, hq, decide_true, decide_false, if_true]
      simp
      omega
    · have := ih hr
      by_cases h1 : p a
      · simp only [h1, hpq a h1, decide_true, if_true]
        omega
      · simp only [h1, decide_false]
        simp
        omega
/-- Where each of some cells reads one of them, some cell reads itself over others. -/
theorem cyc_of {rs : C4 → C4 → Bool} {B : List C4} (hB : ∀ b ∈ B, ∃ r ∈ B, rs r b = true) {b : C4} (hb : b ∈ B) : ∃ c ∈ B, Rch rs c c := by
  classical
  refine Classical.byContradiction fun hno => ?_
  have hac : ∀ c ∈ B, ¬ Rch rs c c := fun c hc h => hno ⟨c, hc, h⟩
  have key : ∀ (n : Nat) (b : C4), b ∈ B → B.countP (fun x => decide (Rch rs x b)) < n → False := by
    intro n
    induction n with
    | zero => intro b _ h; omega
    | succ n ih =>
      intro b hb hn
      obtain ⟨r, hr, hrb⟩ := hB b hb
      refine ih r hr ?_
      have := countP_lt (fun x => Rch rs x r) (fun x => Rch rs x b) (fun x hx => .step hx hrb) hr (.one hrb) (hac r hr)
      omega
  exact key _ b hb (Nat.lt_succ_self _)
/-- Not all are out: there is a cycle. -/
theorem finO_cyc {all : List C4} {rd : C4 → List C4} {rs : C4 → C4 → Bool} (hs : Srt all) (hrs : ∀ d y, rs d y = true ↔ d ∈ rd y) (hcl : ∀ c ∈ all, ∀ r ∈ rd c, r ∈ all) (hl : (finO all rd).length < all.length) : ∃ c ∈ all, Rch rs c c := by
  obtain ⟨h1, h2⟩ := finO_inv all rd
  have h3 : rdyO all rd (finO all rd) = [] := h2.resolve_right (by omega)
  have hex : ∃ b ∈ all, b ∉ finO all rd := by
    refine Classical.byContradiction fun hno => ?_
    have : ∀ x ∈ all, x ∈ finO all rd := fun x hx => Classical.byContradiction fun h => hno ⟨x, hx, h⟩
    have := nodup_len hs.nodup this
    omega
  obtain ⟨b, hb, hbo⟩ := hex
  have hB : ∀ b ∈ all.filter (fun x => !decide (x ∈ finO all rd)), ∃ r ∈ all.filter (fun x => !decide (x ∈ finO all rd)), rs r b = true := fun b hb => by
    rw [List.mem_filter] at hb
    obtain ⟨hba, hbn⟩ := hb
    have hbn : b ∉ finO all rd := by simpa using hbn
    have hnr : b ∉ rdyO all rd (finO all rd) := by rw [h3]; simp
    unfold rdyO at hnr
    rw [List.mem_filter] at hnr
    have hnk : ¬ okO rd (finO all rd) b = true := fun h => hnr ⟨hba, h⟩
    rw [okO_iff] at hnk
    have : ∃ r ∈ rd b, r ∉ finO all rd := Classical.byContradiction fun hno => hnk ⟨hbn, fun r hr => Classical.byContradiction fun h => hno ⟨r, hr, h⟩⟩
    obtain ⟨r, hr, hrn⟩ := this
    exact ⟨r, List.mem_filter.2 ⟨hcl b hba r hr, by simpa using hrn⟩, (hrs _ _).2 hr⟩
  obtain ⟨c, hc, hcc⟩ := cyc_of hB (b := b) (List.mem_filter.2 ⟨hb, by simpa using hbo⟩)
  exact ⟨c, (List.mem_filter.1 hc).1, hcc⟩
theorem finO_acyc {all : List C4} {rd : C4 → List C4} {rs : C4 → C4 → Bool} (hrs : ∀ d y, rs d y = true ↔ d ∈ rd y) (hl : all.length ≤ (finO all rd).length) : (∀ c ∈ all, ¬ Rch rs c c) ∧ ∀ x, x ∈ finO all rd ↔ x ∈ all := by
  obtain ⟨h1, -⟩ := finO_inv all rd
  have h2 := nodup_full h1.nd h1.sub hl
  exact ⟨fun c hc => h1.acyc hrs (h2 c hc), fun x => ⟨h1.sub x, h2 x⟩⟩
end Go.Proofs.Ytoimbhdjhhmonaa

/- Layer 47, plain: Cycle's whole result. -/
set_option linter.unusedSimpArgs false
namespace Go.Proofs.Ytoimbhdjhhmonaa
open Go.RowKit Go

/-- The test of a read. -/
noncomputable def tsC (rs : C4 → C4 → Bool) (first d : C4) : Bool := @decide (d = first ∨ Rch rs first d) (Classical.propDecidable _)
theorem tsC_iff {rs : C4 → C4 → Bool} {first d : C4} : tsC rs first d = true ↔ (d = first ∨ Rch rs first d) := @decide_eq_true_iff _ (Classical.propDecidable _)
/-- The next cell of the way. -/
noncomputable def nxC (rs : C4 → C4 → Bool) (rd : C4 → List C4) (first c : C4) : C4 := ((rd c).find? (tsC rs first)).getD c
noncomputable def itC (rs : C4 → C4 → Bool) (rd : C4 → List C4) (first : C4) : Nat → C4
  | 0 => first
  | n + 1 => nxC rs rd first (itC rs rd first n)
noncomputable def wayC (rs : C4 → C4 → Bool) (rd : C4 → List C4) (first : C4) (k : Nat) : List C4 := (List.range k).map (itC rs rd first)
theorem wayC_len {rs : C4 → C4 → Bool} {rd : C4 → List C4} {first : C4} (k : Nat) : (wayC rs rd first k).length = k := by simp [wayC]
theorem wayC_get {rs : C4 → C4 → Bool} {rd : C4 → List C4} {first : C4} {k i : Nat} (h : i < (wayC rs rd first k).length) : (wayC rs rd first k)[i] = itC rs rd first i := by simp [wayC]
theorem wayC_succ {rs : C4 → C4 → Bool} {rd : C4 → List C4} {first : C4} (k : Nat) : wayC rs rd first (k + 1) = wayC rs rd first k ++ [itC rs rd first k] := by simp [wayC, List.range_succ]
theorem nxC_eq {rs : C4 → C4 → Bool} {rd : C4 → List C4} {first c : C4} {j : Nat} (hj : j < (rd c).length) (ht : (rd c)[j] = first ∨ Rch rs first (rd c)[j]) (hn : ∀ i (hi : i < j), ¬ ((rd c)[i]'(by omega) = first ∨ Rch rs first ((rd c)[i]'(by omega)))) : nxC rs rd first c = (rd c)[j] := by
  unfold nxC
  have : (rd c).find? (tsC rs first) = some (rd c)[j] := by
    rw [List.find?_eq_some_iff_getElem]
    refine ⟨tsC_iff.2 ht, j, hj, rfl, fun i hi => ?_⟩
    have := hn i hi
    rw [← tsC_iff] at this
    simpa using this
  rw [this]
  rfl
theorem itC_on {rs : C4 → C4 → Bool} {rd : C4 → List C4} {first : C4} (hrs : ∀ d y, rs d y = true ↔ d ∈ rd y) (hf : Rch rs first first) : ∀ k, OnC rs first (itC rs rd first k) ∧ rs (itC rs rd first (k + 1)) (itC rs rd first k) = true
  | k => by
    have h0 : OnC rs first (itC rs rd first k) := by
      cases k with
      | zero => exact OnC.first hf
      | succ k =>
        obtain ⟨h1, h2⟩ := itC_on hrs hf k
        refine onC_next hf h1 h2 ?_
        show nxC rs rd first (itC rs rd first k) = first ∨ Rch rs first (nxC rs rd first (itC rs rd first k))
        obtain ⟨d, hd, ht⟩ := onC_some h1
        unfold nxC
        cases hfi : (rd (itC rs rd first k)).find? (tsC rs first) with
        | none =>
          rw [List.find?_eq_none] at hfi
          exact absurd (tsC_iff.2 ht) (hfi d ((hrs _ _).1 hd))
        | some x => exact tsC_iff.1 (List.find?_some hfi)
    refine ⟨h0, ?_⟩
    show rs (nxC rs rd first (itC rs rd first k)) (itC rs rd first k) = true
    obtain ⟨d, hd, ht⟩ := onC_some h0
    unfold nxC
    cases hfi : (rd (itC rs rd first k)).find? (tsC rs first) with
    | none =>
      rw [List.find?_eq_none] at hfi
      exact absurd (tsC_iff.2 ht) (hfi d ((hrs _ _).1 hd))
    | some x =>
      exact (hrs _ _).2 (List.mem_of_find?_eq_some hfi)
/-- What Cycle returns. -/
def CycQ (all : List C4) (rs : C4 → C4 → Bool) (rd : C4 → List C4) (ys : List C4) : Prop :=
  (ys = [] ∧ ∀ c ∈ all, ¬ Rch rs c c) ∨
  ∃ (at_ : Nat) (ha : at_ < all.length) (i k : Nat), Rch rs all[at_] all[at_] ∧ (∀ j (hj : j < at_), ¬ Rch rs (all[j]'(by omega)) (all[j]'(by omega))) ∧ i < k ∧ (wayC rs rd all[at_] k).Nodup ∧ itC rs rd all[at_] k = itC rs rd all[at_] i ∧ ys = (wayC rs rd all[at_] k).drop i
/-- The cells of a cycle read each other, each once. -/
theorem CycQ.reads {all : List C4} {rs : C4 → C4 → Bool} {rd : C4 → List C4} {ys : List C4} (hrs : ∀ d y, rs d y = true ↔ d ∈ rd y) (h : CycQ all rs rd ys) : ys.Nodup ∧ ∀ i (hi : i < ys.length), (ys[(i + 1) % ys.length]'(Nat.mod_lt _ (by omega))) ∈ rd ys[i] := by
  rcases h with ⟨rfl, -⟩ | ⟨a, ha, i, k, h1, h2, h3, h4, h5, rfl⟩
  · exact ⟨List.nodup_nil, fun i hi => by simp at hi⟩
  · refine ⟨h4.sublist (List.drop_sublist _ _), fun j hj => ?_⟩
    have hlen : ((wayC rs rd all[a] k).drop i).length = k - i := by rw [List.length_drop, wayC_len]
    rw [hlen] at hj
    have hg : ∀ q (hq : q < ((wayC rs rd all[a] k).drop i).length), ((wayC rs rd all[a] k).drop i)[q] = itC rs rd all[a] (i + q) := fun q hq => by
      rw [List.getElem_drop, wayC_get]
    rw [hg, hg]
    have hr := (itC_on hrs h1 (i + j)).2
    by_cases hlast : j + 1 = k - i
    · have e1 : (j + 1) % ((wayC rs rd all[a] k).drop i).length = 0 := by rw [hlen, hlast, Nat.mod_self]
      rw [e1, Nat.add_zero, ← h5]
      have : i + j + 1 = k := by omega
      rw [this] at hr
      exact (hrs _ _).1 hr
    · have e1 : (j + 1) % ((wayC rs rd all[a] k).drop i).length = j + 1 := by rw [hlen, Nat.mod_eq_of_lt (by omega)]
      rw [e1]
      exact (hrs _ _).1 hr
theorem CycQ.some {all : List C4} {rs : C4 → C4 → Bool} {rd : C4 → List C4} {ys : List C4} (h : CycQ all rs rd ys) (hc : ∃ c ∈ all, Rch rs c c) : 0 < ys.length := by
  rcases h with ⟨-, hn⟩ | ⟨a, ha, i, k, h1, h2, h3, h4, h5, rfl⟩
  · obtain ⟨c, h1, h2⟩ := hc
    exact absurd h2 (hn c h1)
  · rw [List.length_drop, wayC_len]; omega
theorem CycQ.none {all : List C4} {rs : C4 → C4 → Bool} {rd : C4 → List C4} {ys : List C4} (h : CycQ all rs rd ys) (hc : ∀ c ∈ all, ¬ Rch rs c c) : ys = [] := by
  rcases h with ⟨h, -⟩ | ⟨a, ha, i, k, h1, -⟩
  · exact h
  · exact absurd h1 (hc _ (List.getElem_mem ha))
end Go.Proofs.Ytoimbhdjhhmonaa
