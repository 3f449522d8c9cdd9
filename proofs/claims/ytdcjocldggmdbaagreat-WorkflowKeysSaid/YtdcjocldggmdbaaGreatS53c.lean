/- Layer 53: the sort of many keys: the row as an array; order2, median, medianAdjacent. -/
import Derived.Test.YtdcjocldggmdbaaGreatW53i
import Derived.Sort.Defs
set_option linter.unusedSimpArgs false
namespace Go.Proofs.YtdcjocldggmdbaaGreat
open Go.RowKit Go

instance : Inhabited Ky := ⟨⟨⟨#[]⟩, 0, 0⟩⟩
/-- Keys in a row, as an array. -/
def KA (w : World) (g : Nat) (d : Array Ky) : Prop := KRow w g d.toList
/-- The order of keys. -/
def cfK (ts : List Tk) (x y : Ky) : Int := orI (cmpI x.per y.per) (cmpI (plcI ts x.task) (plcI ts y.task)) (cmpI x.ent y.ent)
def ltK (ts : List Tk) (x y : Ky) : Bool := decide (cfK ts x y < 0)
theorem KA.cell {w : World} {g : Nat} {d : Array Ky} (h : KA w g d) (i : Nat) (hi : i < d.size) : w.cell? ⟨g, i * 3, none⟩ = some (.string d[i]!.task) ∧ w.cell? ⟨g, i * 3 + 1, none⟩ = some (.int .i64 d[i]!.ent) ∧ w.cell? ⟨g, i * 3 + 2, none⟩ = some (.int .i64 d[i]!.per) := by
  have := KRow.cell h i (by simpa using hi)
  rw [getElem!_pos d i hi]
  simpa using this
theorem KA.below {w w' : World} {g : Nat} {d : Array Ky} (h : KA w g d) (hB : Below w.heap.size w w') : KA w' g d := KRow.below h hB
theorem KA.gr {w w' : World} {g : Nat} {d : Array Ky} {F : Nat → Prop} (h : KA w g d) (hG : Gr F w w') (hF : ¬ F g) : KA w' g d := by
  obtain ⟨cs, h1, h2⟩ := h
  exact ⟨cs, blk_gr hG h1 hF, h2⟩
theorem KA.lt {w : World} {g : Nat} {d : Array Ky} (h : KA w g d) : g < w.heap.size := KRow.lt h
/-- What a sort reads: the workflow. -/
structure SCtx (S : Nat → Prop) (p : Nat) (ts : List Tk) (ne np m : Nat) (F : Nat → Prop) (w : World) : Prop where
  wf : WfT S w p ts ne np m
  fp : ¬ F p
  fS : ∀ b, S b → ¬ F b
theorem SCtx.gr {S : Nat → Prop} {p : Nat} {ts : List Tk} {ne np m : Nat} {F G : Nat → Prop} {w w' : World} (h : SCtx S p ts ne np m F w) (hG : Gr G w w') (hg : ∀ b, G b → F b ∨ w.heap.size ≤ b) : SCtx S p ts ne np m F w' :=
  ⟨h.wf.gr (hG.mono hg) h.fp h.fS, h.fp, h.fS⟩
theorem cmpK {S : Nat → Prop} {p : Nat} {ts : List Tk} {ne np m : Nat} {F : Nat → Prop} {w : World} (h : SCtx S p ts ne np m F w) (x y : Ky) :
    Calls Tryz.prog 44 #[.pointer (some ⟨p, 0, none⟩), x.v, y.v] w fun e w' => e = .returned (.int .i64 (cfK ts x y)) ∧ Below w.heap.size w w' := compare53 w p ts ne np m h.wf x y
set_option maxRecDepth 20000 in
set_option maxHeartbeats 2000000 in
theorem order2K {S : Nat → Prop} {F : Nat → Prop} (w : World) (p : Nat) (ts : List Tk) (ne np m : Nat) (hS : SCtx S p ts ne np m F w) (g cap n : Nat) (d : Array Ky) (hn : d.size = n) (hn2 : n ≤ 100000) (hK : KA w g d) (a b sb : Nat) (ha : a < n) (hb : b < n) (s : Nat) (hs2 : s ≤ 1000) (hs : w.heap[sb]? = some (.cells #[.int .i64 (s : Nat)] 3 (0, 0))) (hF : F sb) (hsg : sb ≠ g) :
    Calls Tryz.prog 106 #[.slice (some ⟨g, 0, none⟩) n cap, .int .i64 (a : Nat), .int .i64 (b : Nat), .pointer (some ⟨sb, 0, none⟩), cmpV p] w fun e w' => e = .returned (.tuple #[.int .i64 ((Sort.order2 (ltK ts) d a b s).1 : Nat), .int .i64 ((Sort.order2 (ltK ts) d a b s).2.1 : Nat)]) ∧ w'.heap[sb]? = some (.cells #[.int .i64 ((Sort.order2 (ltK ts) d a b s).2.2 : Nat)] 3 (0, 0)) ∧ Gr (fun x => x = sb) w w' := by
  obtain ⟨m0, m1, m2⟩ := hK.cell b (by omega)
  obtain ⟨p0, p1, p2⟩ := hK.cell a (by omega)
  have hbn : (b : Int) < (n : Int) := by omega
  have han : (a : Int) < (n : Int) := by omega
  obtain ⟨r, hr⟩ : ∃ r, Sort.order2 (ltK ts) d a b s = r := ⟨_, rfl⟩
  rw [hr]
  unfold Sort.order2 at hr
  generalize d[b]! = x at m0 m1 m2 hr
  generalize d[a]! = y at p0 p1 p2 hr
  obtain ⟨c, hc⟩ : ∃ c, cfK ts x y = c := ⟨_, rfl⟩
  have hlt : ltK ts x y = decide (c < 0) := by unfold ltK; rw [hc]
  rw [hlt] at hr
  have HC := Lib.hid (fun (W : World) (hW : Gr (fun _ => False) w W) => cmpK (hS.gr hW (fun _ h => h.elim)) x y)
  rw [hc] at HC
  obtain ⟨eb, heb⟩ : ∃ eb, decide (c < 0) = eb := ⟨_, rfl⟩
  rw [heb] at hr
  have HEB := Lib.hid heb
  have HR := Lib.hid hr
  have HS := Lib.hid hs
  clear hc hlt heb hr hS hs
  obtain ⟨x1, x2, x3⟩ := x
  obtain ⟨y1, y2, y3⟩ := y
  unfold Ky.v at HC
  simp only at m0 m1 m2 p0 p1 p2 HC
  have hC0 : Cells [(⟨g, b * 3, none⟩, .string x1), (⟨g, b * 3 + 1, none⟩, .int .i64 x2), (⟨g, b * 3 + 2, none⟩, .int .i64 x3), (⟨g, a * 3, none⟩, .string y1), (⟨g, a * 3 + 1, none⟩, .int .i64 y2), (⟨g, a * 3 + 2, none⟩, .int .i64 y3)] w := ⟨m0, m1, m2, p0, p1, p2, trivial⟩
  clear m0 m1 m2 p0 p1 p2 hK
  unfold cmpV
  go_enter Tryz.func106, Tryz.ntmps106
  go_wp2_with fail
  refine wp_region_T (Cells [(⟨g, b * 3, none⟩, .string x1), (⟨g, b * 3 + 1, none⟩, .int .i64 x2), (⟨g, b * 3 + 2, none⟩, .int .i64 x3), (⟨g, a * 3, none⟩, .string y1), (⟨g, a * 3 + 1, none⟩, .int .i64 y2), (⟨g, a * 3 + 2, none⟩, .int .i64 y3)]) (fun _ => false) (by kernel_rfl) ?_
  have hSss1 := Cells.drew hC0
  have hB_0_s1 : Below w.heap.size w w.drew := below_drew _
  generalize w.drew = s1 at hSss1 hB_0_s1 ⊢
  have hB_s1_s1 := Below.refl s1.heap.size s1
  refine wpAnyT_pure (i := 0) (v := ?_) rfl (by kernel_rfl) (by kernel_rfl) (by kernel_rfl) (fun _ _ _ h => h) (by rfl) ?_ ?_
  rotate_left
  · intro w; go_simp; try with_reducible rfl
  simp only [Act.put, rgA, rgB, rgC, rgD, rgE, rgF]
  refine wpAnyT_pure (i := 1) (v := ?_) rfl (by kernel_rfl) (by kernel_rfl) (by kernel_rfl) (fun _ _ _ h => h) (by rfl) ?_ ?_
  rotate_left
  · intro w; go_simp; try with_reducible rfl
  simp only [Act.put, rgA, rgB, rgC, rgD, rgE, rgF]
  refine wpAnyT_pure (i := 2) (v := ?_) rfl (by kernel_rfl) (by kernel_rfl) (by kernel_rfl) (fun _ _ _ h => h) (by rfl) ?_ ?_
  rotate_left
  · intro w; go_simp; try with_reducible rfl
  simp only [Act.put, rgA, rgB, rgC, rgD, rgE, rgF]
  refine wpAnyT_pure (i := 3) (v := ?_) rfl (by kernel_rfl) (by kernel_rfl) (by kernel_rfl) (fun _ _ _ h => h) (by rfl) ?_ ?_
  rotate_left
  · intro w; go_simp; try with_reducible rfl
  simp only [Act.put, rgA, rgB, rgC, rgD, rgE, rgF]
  refine wpAnyT_pure (i := 5) (v := ?_) rfl (by kernel_rfl) (by kernel_rfl) (by kernel_rfl) (fun _ _ _ h => h) (by rfl) ?_ ?_
  rotate_left
  · intro w; go_simp; try with_reducible rfl
  simp only [Act.put, rgA, rgB, rgC, rgD, rgE, rgF]
  refine wpAnyT_pure (i := 6) (v := ?_) rfl (by kernel_rfl) (by kernel_rfl) (by kernel_rfl) (fun _ _ _ h => h) (by rfl) ?_ ?_
  rotate_left
  · intro w; go_simp; try with_reducible rfl
  simp only [Act.put, rgA, rgB, rgC, rgD, rgE, rgF]
  refine wpAnyT_pure (i := 7) (v := ?_) rfl (by kernel_rfl) (by kernel_rfl) (by kernel_rfl) (fun _ _ _ h => h) (by rfl) ?_ ?_
  rotate_left
  · intro w; go_simp; try with_reducible rfl
  simp only [Act.put, rgA, rgB, rgC, rgD, rgE, rgF]
  refine wpAnyT_loadW (i := 4) (v := ?_) rfl (by kernel_rfl) (by kernel_rfl) (by kernel_rfl) (by kernel_rfl) (by kernel_rfl) (fun _ _ _ h => h) (Or.inl ⟨by rfl, ?_⟩) hSss1 ?_
  rotate_left
  · intro w hSw; obtain ⟨e0, e1, e2, e3, e4, e5, -⟩ := hSw; go_simp; try with_reducible rfl
  simp only [Act.put, rgA, rgB, rgC, rgD, rgE, rgF]
  refine wpAnyT_loadW (i := 8) (v := ?_) rfl (by kernel_rfl) (by kernel_rfl) (by kernel_rfl) (by kernel_rfl) (by kernel_rfl) (fun _ _ _ h => h) (Or.inl ⟨by rfl, ?_⟩) hSss1 ?_
  rotate_left
  · intro w hSw; obtain ⟨e0, e1, e2, e3, e4, e5, -⟩ := hSw; go_simp; try with_reducible rfl
  simp only [Act.put, rgA, rgB, rgC, rgD, rgE, rgF]
  refine wpAnyT_one (i := 9) (by kernel_rfl) rfl (by rfl) ?_
  refine wp_enter (f := 44) (args := #[.pointer (some ⟨p, 0, none⟩), .agg #[.string x1, .int .i64 x2, .int .i64 x3], .agg #[.string y1, .int .i64 y2, .int .i64 y3]]) (by go_simp) (HC.out s1 (Gr.of_below (hB_0_s1.trans ((hB_s1_s1).mono (hB_0_s1).size)))) ?_
  rintro e w102 ⟨rfl, hX⟩
  have hB_s1_w102 := below_step hB_s1_s1 hX
  have hB_w102_w102 := Below.refl w102.heap.size w102
  have hSsw102 := Cells.below hB_s1_w102 hSss1
  clear hX
  refine ⟨_, rfl, fun _ _ => hSsw102, ?_⟩
  try simp only [Act.put, rgA, rgB, rgC, rgD, rgE, rgF]
  refine wpAnyT_one (i := 10) (by kernel_rfl) rfl (by rfl) ?_
  refine wp_value (v := .bool eb) (w' := w102) (by have hq := HEB.out; clear HEB; go_simp <;> exact hq) ?_
  refine ⟨fun _ h => h, ?_⟩
  try simp only [Act.put, rgA, rgB, rgC, rgD, rgE, rgF]
  refine wpAnyT_done (by kernel_rfl) ?_ _
  have hbP : Below w.heap.size w w102 := hB_0_s1.trans ((hB_s1_w102).mono (hB_0_s1).size)
  obtain ⟨w3, rfl⟩ : ∃ x, x = w102 := ⟨_, rfl⟩
  have hs3 := (hbP.block _ (blk_lt HS.out)).trans HS.out
  have HS3 := Lib.hid hs3
  have HBP := Lib.hid hbP
  have z0 := blk_cell hs3 0
  have f0 := blk_frozen hs3 0
  simp at z0
  clear hs3 hbP hC0
  cases eb
  · have hr := HR.out
    simp at hr
    subst hr
    go_wp2_with fail
    exact bodyPost_ret (results_tmp2 rfl _ _ _) rfl ⟨rfl, HS3.out, Gr.of_below HBP.out⟩
  · have hr := HR.out
    simp at hr
    subst hr
    have HSET := Lib.hid (blk_set (i := 0) HS3.out (.int .i64 ((s : Int) + 1)))
    have HGS := Lib.hid ((Gr.of_below (F := fun x => x = sb) HBP.out).setCell (p := ⟨sb, 0, none⟩) (.inl rfl) (.int .i64 ((s : Int) + 1)))
    go_wp2_with fail
    exact bodyPost_ret (results_tmp2 rfl _ _ _) rfl ⟨rfl, by simpa using HSET.out, HGS.out⟩
end Go.Proofs.YtdcjocldggmdbaaGreat

/- Layer 53: the sort of many keys: median, medianAdjacent. -/
set_option linter.unusedSimpArgs false
namespace Go.Proofs.YtdcjocldggmdbaaGreat
open Go.RowKit Go

theorem order2_lt (lt : Ky → Ky → Bool) (d : Array Ky) (a b s n : Nat) (ha : a < n) (hb : b < n) : (Sort.order2 lt d a b s).1 < n ∧ (Sort.order2 lt d a b s).2.1 < n ∧ (Sort.order2 lt d a b s).2.2 ≤ s + 1 := by
  unfold Sort.order2
  split <;> simp <;> omega
theorem median_lt (lt : Ky → Ky → Bool) (d : Array Ky) (a b c s n : Nat) (ha : a < n) (hb : b < n) (hc : c < n) : (Sort.median lt d a b c s).1 < n ∧ (Sort.median lt d a b c s).2 ≤ s + 3 := by
  unfold Sort.median
  obtain ⟨h1, h2, h3⟩ := order2_lt lt d a b s n ha hb
  obtain ⟨h4, h5, h6⟩ := order2_lt lt d _ c (Sort.order2 lt d a b s).2.2 n h2 hc
  obtain ⟨h7, h8, h9⟩ := order2_lt lt d _ _ (Sort.order2 lt d (Sort.order2 lt d a b s).2.1 c (Sort.order2 lt d a b s).2.2).2.2 n h1 h4
  exact ⟨h8, Nat.le_trans h9 (by omega)⟩
set_option maxRecDepth 20000 in
set_option maxHeartbeats 2000000 in
theorem medianK {S : Nat → Prop} {F : Nat → Prop} (w : World) (p : Nat) (ts : List Tk) (ne np m : Nat) (hS : SCtx S p ts ne np m F w) (g cap n : Nat) (d : Array Ky) (hn : d.size = n) (hn2 : n ≤ 100000) (hK : KA w g d) (a b c sb : Nat) (ha : a < n) (hb : b < n) (hc : c < n) (s : Nat) (hs2 : s ≤ 900) (hs : w.heap[sb]? = some (.cells #[.int .i64 (s : Nat)] 3 (0, 0))) (hF : F sb) (hsg : sb ≠ g) :
    Calls Tryz.prog 102 #[.slice (some ⟨g, 0, none⟩) n cap, .int .i64 (a : Nat), .int .i64 (b : Nat), .int .i64 (c : Nat), .pointer (some ⟨sb, 0, none⟩), cmpV p] w fun e w' => e = .returned (.int .i64 ((Sort.median (ltK ts) d a b c s).1 : Nat)) ∧ w'.heap[sb]? = some (.cells #[.int .i64 ((Sort.median (ltK ts) d a b c s).2 : Nat)] 3 (0, 0)) ∧ Gr (fun x => x = sb) w w' := by
  have HO := Lib.hid (fun (W : World) (hW : Gr (fun x => x = sb) w W) (a b : Nat) (ha : a < n) (hb : b < n) (s : Nat) (hs2 : s ≤ 1000) (hs : W.heap[sb]? = some (.cells #[.int .i64 (s : Nat)] 3 (0, 0))) => order2K W p ts ne np m (hS.gr hW (fun x e => .inl (by rw [e]; exact hF))) g cap n d hn hn2 (hK.gr hW (fun e => hsg e.symm)) a b sb ha hb s hs2 hs hF hsg)
  obtain ⟨r1, hr1⟩ : ∃ r, Sort.order2 (ltK ts) d a b s = r := ⟨_, rfl⟩
  obtain ⟨r2, hr2⟩ : ∃ r, Sort.order2 (ltK ts) d r1.2.1 c r1.2.2 = r := ⟨_, rfl⟩
  obtain ⟨r3, hr3⟩ : ∃ r, Sort.order2 (ltK ts) d r1.1 r2.1 r2.2.2 = r := ⟨_, rfl⟩
  have hm : Sort.median (ltK ts) d a b c s = (r3.2.1, r3.2.2) := by unfold Sort.median; simp only [hr1, hr2, hr3]
  have l1 := order2_lt (ltK ts) d a b s n ha hb
  rw [hr1] at l1
  have l2 := order2_lt (ltK ts) d r1.2.1 c r1.2.2 n l1.2.1 hc
  rw [hr2] at l2
  rw [hm]
  have H1 := Lib.hid hr1
  have H2 := Lib.hid hr2
  have H3 := Lib.hid hr3
  have HS := Lib.hid hs
  have L1 := Lib.hid l1
  have L2 := Lib.hid l2
  clear hr1 hr2 hr3 hm l1 l2 hs hS hK
  obtain ⟨fv, hfv⟩ : ∃ v, cmpV p = v := ⟨_, rfl⟩
  rw [hfv] at HO ⊢
  clear hfv
  go_enter Tryz.func102, Tryz.ntmps102
  go_wp2_with fail
  refine (HO.out w (Gr.refl _ _) a b ha hb s (by omega) HS.out).mono ?_
  rw [H1.out]
  rintro e w1 ⟨rfl, hs1, hg1⟩
  have HS1 := Lib.hid hs1
  have HG1 := Lib.hid hg1
  clear hs1 hg1
  go_wp2_with fail
  refine (HO.out w1 HG1.out r1.2.1 c L1.out.2.1 hc r1.2.2 (by have := L1.out.2.2; omega) HS1.out).mono ?_
  rw [H2.out]
  rintro e w2 ⟨rfl, hs2', hg2⟩
  have HS2 := Lib.hid hs2'
  have HG2 := Lib.hid (HG1.out.trans hg2 (fun _ e => .inl e))
  clear hs2' hg2
  go_wp2_with fail
  refine (HO.out w2 HG2.out r1.1 r2.1 L1.out.1 L2.out.1 r2.2.2 (by have := L1.out.2.2; have := L2.out.2.2; omega) HS2.out).mono ?_
  rw [H3.out]
  rintro e w3 ⟨rfl, hs3, hg3⟩
  have HS3 := Lib.hid hs3
  have HG3 := Lib.hid (HG2.out.trans hg3 (fun _ e => .inl e))
  clear hs3 hg3
  go_wp2_with fail
  go_ret
  exact ⟨rfl, HS3.out, HG3.out⟩
set_option maxRecDepth 20000 in
set_option maxHeartbeats 2000000 in
theorem medianAdjK {S : Nat → Prop} {F : Nat → Prop} (w : World) (p : Nat) (ts : List Tk) (ne np m : Nat) (hS : SCtx S p ts ne np m F w) (g cap n : Nat) (d : Array Ky) (hn : d.size = n) (hn2 : n ≤ 100000) (hK : KA w g d) (a sb : Nat) (ha0 : 1 ≤ a) (ha : a + 1 < n) (s : Nat) (hs2 : s ≤ 900) (hs : w.heap[sb]? = some (.cells #[.int .i64 (s : Nat)] 3 (0, 0))) (hF : F sb) (hsg : sb ≠ g) :
    Calls Tryz.prog 101 #[.slice (some ⟨g, 0, none⟩) n cap, .int .i64 (a : Nat), .pointer (some ⟨sb, 0, none⟩), cmpV p] w fun e w' => e = .returned (.int .i64 ((Sort.medianAdjacent (ltK ts) d a s).1 : Nat)) ∧ w'.heap[sb]? = some (.cells #[.int .i64 ((Sort.medianAdjacent (ltK ts) d a s).2 : Nat)] 3 (0, 0)) ∧ Gr (fun x => x = sb) w w' := by
  have HM := Lib.hid (medianK w p ts ne np m hS g cap n d hn hn2 hK (a - 1) a (a + 1) sb (by omega) (by omega) ha s hs2 hs hF hsg)
  have e1 : ((a - 1 : Nat) : Int) = (a : Int) - 1 := by omega
  have e2 : ((a + 1 : Nat) : Int) = (a : Int) + 1 := by omega
  rw [e1, e2] at HM
  unfold Sort.medianAdjacent
  obtain ⟨fv, hfv⟩ : ∃ v, cmpV p = v := ⟨_, rfl⟩
  rw [hfv] at HM ⊢
  have hmw1 : (1 : Int) ≤ (a : Int) := by omega
  have hmw2 : (a : Int) ≤ 100000 := by omega
  clear hfv e1 e2 hS hK hs
  go_enter Tryz.func101, Tryz.ntmps101
  go_wp2_with fail
  refine HM.out.mono ?_
  rintro e w1 ⟨rfl, h1, h2⟩
  have H1 := Lib.hid h1
  have H2 := Lib.hid h2
  clear h1 h2
  go_wp2_with fail
  go_ret
  exact ⟨rfl, H1.out, H2.out⟩
end Go.Proofs.YtdcjocldggmdbaaGreat

/- Layer 53: the sort of many keys: reverseRange. -/
set_option linter.unusedSimpArgs false
namespace Go.Proofs.YtdcjocldggmdbaaGreat
open Go.RowKit Go

theorem KA.set {w : World} {g : Nat} {d : Array Ky} (h : KA w g d) (P : Program) (j : Nat) (hj : j < d.size) (k : Ky) :
    Sem.run P (storeCells ⟨g, j * 3, none⟩ (kvs k)) w = .ok () (w.setCells g (j * 3) (kvs k)) ∧ KA (w.setCells g (j * 3) (kvs k)) g (d.setIfInBounds j k) := by
  have := KRow.set h P j (by simpa using hj) k
  refine ⟨this.1, ?_⟩
  unfold KA
  rw [Array.toList_setIfInBounds]
  exact this.2
theorem swp_size (d : Array Ky) (i j : Nat) : (Sort.swp d i j).size = d.size := by simp [Sort.swp]
set_option maxRecDepth 20000 in
set_option maxHeartbeats 2000000 in
theorem reverseK (w : World) (g cap n : Nat) (d : Array Ky) (hn : d.size = n) (hn2 : n ≤ 100000) (hK : KA w g d) (a b : Nat) (hb1 : 1 ≤ b) (hab : a ≤ b) (hb : b ≤ n) (fv : Value) :
    Calls Tryz.prog 86 #[.slice (some ⟨g, 0, none⟩) n cap, .int .i64 (a : Nat), .int .i64 (b : Nat), fv] w fun e w' => e = .returned (.tuple #[]) ∧ KA w' g (Sort.reverseRange d a b) ∧ Gr (fun x => x = g) w w' := by
  unfold Sort.reverseRange
  have HK := Lib.hid hK
  have HN := Lib.hid hn
  clear hK hn
  go_enter Tryz.func86, Tryz.ntmps86
  go_wp2_with fail
  go_loopw [8, 9] (fun iv jv wr => ∃ (i j : Nat) (d' : Array Ky), iv = .int .i64 (i : Nat) ∧ jv = .int .i64 (j : Nat) ∧ j < n ∧ d'.size = n ∧ Sort.reverseLoop i j d' = Sort.reverseLoop a (b - 1) d ∧ KA wr g d' ∧ Gr (fun x => x = g) w wr) (fun _ jv _ => (intOf jv).toNat)
  case atStart => exact ⟨a, b - 1, d, rfl, by go_num, by omega, HN.out, rfl, HK.out, Gr.refl _ _⟩
  case round =>
    obtain ⟨i, j, d', rfl, rfl, hjn, hd', heq, hka, hg⟩ := hrel
    have HD' := Lib.hid hd'
    have HEQ := Lib.hid heq
    have HKA := Lib.hid hka
    have HG := Lib.hid hg
    clear heq hg
    by_cases hlt : i < j
    · have hijI : (i : Int) < (j : Int) := by omega
      have hjnI : (j : Int) < (n : Int) := by omega
      have hinI : (i : Int) < (n : Int) := by omega
      have HNX := Lib.hid (show Sort.reverseLoop (i + 1) (j - 1) (Sort.swp d' i j) = Sort.reverseLoop a (b - 1) d from by
        rw [← HEQ.out]
        conv => rhs; unfold Sort.reverseLoop
        rw [if_pos hlt])
      obtain ⟨m0, m1, m2⟩ := hka.cell j (by omega)
      obtain ⟨p0, p1, p2⟩ := hka.cell i (by omega)
      have HLT := Lib.hid hlt
      have HSW := Lib.hid (show Sort.swp d' i j = (d'.setIfInBounds i d'[j]!).setIfInBounds j d'[i]! from rfl)
      generalize d'[j]! = x at m0 m1 m2 HSW
      generalize d'[i]! = y at p0 p1 p2 HSW
      obtain ⟨x1, x2, x3⟩ := x
      obtain ⟨y1, y2, y3⟩ := y
      simp only at m0 m1 m2 p0 p1 p2
      have hC0 : Cells [(⟨g, j * 3, none⟩, .string x1), (⟨g, j * 3 + 1, none⟩, .int .i64 x2), (⟨g, j * 3 + 2, none⟩, .int .i64 x3), (⟨g, i * 3, none⟩, .string y1), (⟨g, i * 3 + 1, none⟩, .int .i64 y2), (⟨g, i * 3 + 2, none⟩, .int .i64 y3)] wr := ⟨m0, m1, m2, p0, p1, p2, trivial⟩
      clear m0 m1 m2 p0 p1 p2 hka hlt hd'
      go_wp2_with fail
      refine wp_region_T (Cells [(⟨g, j * 3, none⟩, .string x1), (⟨g, j * 3 + 1, none⟩, .int .i64 x2), (⟨g, j * 3 + 2, none⟩, .int .i64 x3), (⟨g, i * 3, none⟩, .string y1), (⟨g, i * 3 + 1, none⟩, .int .i64 y2), (⟨g, i * 3 + 2, none⟩, .int .i64 y3)]) (fun i => i == 13 || i == 15) (by kernel_rfl) ?_
      have hSss1 := Cells.drew hC0
      have hB_0_s1 : Below wr.heap.size wr wr.drew := below_drew _
      generalize wr.drew = s1 at hSss1 hB_0_s1 ⊢
      have hB_s1_s1 := Below.refl s1.heap.size s1
      refine wpAnyT_pure (i := 0) (v := ?_) rfl (by kernel_rfl) (by kernel_rfl) (by kernel_rfl) (fun _ _ _ h => h) (by rfl) ?_ ?_
      rotate_left
      · intro w; go_simp; try with_reducible rfl
      simp only [Act.put, rgA, rgB, rgC, rgD, rgE, rgF]
      refine wpAnyT_pure (i := 1) (v := ?_) rfl (by kernel_rfl) (by kernel_rfl) (by kernel_rfl) (fun _ _ _ h => h) (by rfl) ?_ ?_
      rotate_left
      · intro w; go_simp; try with_reducible rfl
      simp only [Act.put, rgA, rgB, rgC, rgD, rgE, rgF]
      refine wpAnyT_pure (i := 2) (v := ?_) rfl (by kernel_rfl) (by kernel_rfl) (by kernel_rfl) (fun _ _ _ h => h) (by rfl) ?_ ?_
      rotate_left
      · intro w; go_simp; try with_reducible rfl
      simp only [Act.put, rgA, rgB, rgC, rgD, rgE, rgF]
      refine wpAnyT_pure (i := 3) (v := ?_) rfl (by kernel_rfl) (by kernel_rfl) (by kernel_rfl) (fun _ _ _ h => h) (by rfl) ?_ ?_
      rotate_left
      · intro w; go_simp; try with_reducible rfl
      simp only [Act.put, rgA, rgB, rgC, rgD, rgE, rgF]
      refine wpAnyT_pure (i := 4) (v := ?_) rfl (by kernel_rfl) (by kernel_rfl) (by kernel_rfl) (fun _ _ _ h => h) (by rfl) ?_ ?_
      rotate_left
      · intro w; go_simp; try with_reducible rfl
      simp only [Act.put, rgA, rgB, rgC, rgD, rgE, rgF]
      refine wpAnyT_pure (i := 5) (v := ?_) rfl (by kernel_rfl) (by kernel_rfl) (by kernel_rfl) (fun _ _ _ h => h) (by rfl) ?_ ?_
      rotate_left
      · intro w; go_simp; try with_reducible rfl
      simp only [Act.put, rgA, rgB, rgC, rgD, rgE, rgF]
      refine wpAnyT_pure (i := 6) (v := ?_) rfl (by kernel_rfl) (by kernel_rfl) (by kernel_rfl) (fun _ _ _ h => h) (by rfl) ?_ ?_
      rotate_left
      · intro w; go_simp; try with_reducible rfl
      simp only [Act.put, rgA, rgB, rgC, rgD, rgE, rgF]
      refine wpAnyT_pure (i := 8) (v := ?_) rfl (by kernel_rfl) (by kernel_rfl) (by kernel_rfl) (fun _ _ _ h => h) (by rfl) ?_ ?_
      rotate_left
      · intro w; go_simp; try with_reducible rfl
      simp only [Act.put, rgA, rgB, rgC, rgD, rgE, rgF]
      refine wpAnyT_pure (i := 9) (v := ?_) rfl (by kernel_rfl) (by kernel_rfl) (by kernel_rfl) (fun _ _ _ h => h) (by rfl) ?_ ?_
      rotate_left
      · intro w; go_simp; try with_reducible rfl
      simp only [Act.put, rgA, rgB, rgC, rgD, rgE, rgF]
      refine wpAnyT_pure (i := 10) (v := ?_) rfl (by kernel_rfl) (by kernel_rfl) (by kernel_rfl) (fun _ _ _ h => h) (by rfl) ?_ ?_
      rotate_left
      · intro w; go_simp; try with_reducible rfl
      simp only [Act.put, rgA, rgB, rgC, rgD, rgE, rgF]
      refine wpAnyT_loadW (i := 7) (v := ?_) rfl (by kernel_rfl) (by kernel_rfl) (by kernel_rfl) (by kernel_rfl) (by kernel_rfl) (fun _ _ _ h => h) (Or.inl ⟨by rfl, ?_⟩) hSss1 ?_
      rotate_left
      · intro w hSw; obtain ⟨e0, e1, e2, e3, e4, e5, -⟩ := hSw; go_simp; try with_reducible rfl
      simp only [Act.put, rgA, rgB, rgC, rgD, rgE, rgF]
      refine wpAnyT_loadW (i := 11) (v := ?_) rfl (by kernel_rfl) (by kernel_rfl) (by kernel_rfl) (by kernel_rfl) (by kernel_rfl) (fun _ _ _ h => h) (Or.inl ⟨by rfl, ?_⟩) hSss1 ?_
      rotate_left
      · intro w hSw; obtain ⟨e0, e1, e2, e3, e4, e5, -⟩ := hSw; go_simp; try with_reducible rfl
      simp only [Act.put, rgA, rgB, rgC, rgD, rgE, rgF]
      refine wpAnyT_pure (i := 12) (v := ?_) rfl (by kernel_rfl) (by kernel_rfl) (by kernel_rfl) (fun _ _ _ h => h) (by rfl) ?_ ?_
      rotate_left
      · intro w; go_simp; try with_reducible rfl
      simp only [Act.put, rgA, rgB, rgC, rgD, rgE, rgF]
      refine wpAnyT_one (i := 13) (by kernel_rfl) rfl (by rfl) ?_
      have hb13 : Below wr.heap.size wr s1 := hB_0_s1.trans ((hB_s1_s1).mono (hB_0_s1).size)
      obtain ⟨hs13, hn13⟩ := (HKA.out.below hb13).set Tryz.prog i (by rw [HD'.out]; omega) ⟨x1, x2, x3⟩
      have hg13 := (HG.out.step hb13).trans (gr_setCells g (kvs ⟨x1, x2, x3⟩) (i * 3) s1) (fun _ h => .inl h)
      refine wp_storeK (w' := (s1).setCells g (i * 3) (kvs ⟨x1, x2, x3⟩)) 48 (.tmp 28) (.tmp 23) rfl ⟨g, i * 3, none⟩ (.agg #[.string x1, .int .i64 x2, .int .i64 x3]) (by kernel_rfl) (by kernel_rfl) (sizeK _) hs13 ?_
      generalize (s1).setCells g (i * 3) (kvs ⟨x1, x2, x3⟩) = w102 at hn13 hg13 ⊢
      clear hs13
      refine ⟨fun h => absurd h (by decide), ?_⟩
      try simp only [Act.put, rgA, rgB, rgC, rgD, rgE, rgF]
      refine wpAnyT_pure (i := 14) (v := ?_) rfl (by kernel_rfl) (by kernel_rfl) (by kernel_rfl) (fun _ _ _ h => h) (by rfl) ?_ ?_
      rotate_left
      · intro w; go_simp; try with_reducible rfl
      simp only [Act.put, rgA, rgB, rgC, rgD, rgE, rgF]
      refine wpAnyT_one (i := 15) (by kernel_rfl) rfl (by rfl) ?_
      obtain ⟨hs15, hn15⟩ := hn13.set Tryz.prog j (by rw [Array.size_setIfInBounds, HD'.out]; exact hjn) ⟨y1, y2, y3⟩
      have hg15 := hg13.trans (gr_setCells g (kvs ⟨y1, y2, y3⟩) (j * 3) w102) (fun _ h => .inl h)
      refine wp_storeK (w' := (w102).setCells g (j * 3) (kvs ⟨y1, y2, y3⟩)) 48 (.tmp 29) (.tmp 27) rfl ⟨g, j * 3, none⟩ (.agg #[.string y1, .int .i64 y2, .int .i64 y3]) (by kernel_rfl) (by kernel_rfl) (sizeK _) hs15 ?_
      generalize (w102).setCells g (j * 3) (kvs ⟨y1, y2, y3⟩) = w103 at hn15 hg15 ⊢
      clear hs15 hn13 hg13
      refine ⟨fun h => absurd h (by decide), ?_⟩
      try simp only [Act.put, rgA, rgB, rgC, rgD, rgE, rgF]
      refine wpAnyT_done (by kernel_rfl) ?_ _
      obtain ⟨w4, rfl⟩ : ∃ x, x = w103 := ⟨_, rfl⟩
      have HR4 := Lib.hid hn15
      have HG4 := Lib.hid hg15
      clear hn15 hg15
      go_wp2_with fail
      go_roundw
      case rel => exact ⟨i + 1, j - 1, Sort.swp d' i j, by go_num, by go_num, by omega, by rw [swp_size]; exact HD'.out, HNX.out, by rw [HSW.out]; exact HR4.out, HG4.out⟩
      case measure => have := HLT.out; simp [intOf]; try omega
    · have hijI : ¬ (i : Int) < (j : Int) := by omega
      have HFIN := Lib.hid (show Sort.reverseLoop a (b - 1) d = d' from by
        rw [← HEQ.out]
        unfold Sort.reverseLoop
        rw [if_neg hlt])
      go_wp2_with fail
      exact bodyPost_end (results_none rfl _ _ _) rfl ⟨rfl, by rw [HFIN.out]; exact HKA.out, HG.out⟩
end Go.Proofs.YtdcjocldggmdbaaGreat
