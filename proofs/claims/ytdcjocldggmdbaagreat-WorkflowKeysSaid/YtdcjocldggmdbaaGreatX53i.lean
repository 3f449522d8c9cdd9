/- Layer 53: start. -/
import Derived.Test.YtdcjocldggmdbaaGreatX53e
import Derived.Maps.RangeWalk
set_option linter.unusedSimpArgs false
namespace Go.Proofs.YtdcjocldggmdbaaGreat
open Go.RowKit Go

theorem results_tct {P : Program} {fn : Func} {p t u : Tmp} {ty : TypeId} (h : fn.results = #[.tmp t, .cell p ty, .tmp u]) (tmps : Array Value) (w : World) (g : Nat) (te : TypeId) (cs : Array Value) (fr : Nat × Nat) (d : TypeDesc)
    (hp : tmps.getD p undef = .pointer (some ⟨g, 0, none⟩)) (hg : w.heap[g]? = some (.cells cs te fr))
    (hu : P.underlying ty = some d) (hd : (match d with | .struct _ | .array _ _ => true | _ => false) = true) (hi : (P.info? ty).map (·.size) = some cs.size) :
    (results fn tmps).run P w = .ok (.tuple #[tmps.getD t undef, .agg cs, tmps.getD u undef]) w := by
  have hp' : tmps[p]?.getD undef = .pointer (some ⟨g, 0, none⟩) := by simpa using hp
  simp [results, h, hp', asAddr, run_loadVar_row w g te ty cs fr d hg hu hd hi]
def StartC (n : Nat) (ts : List Tk) (a0 : Option Addr) (l0 c0 : Nat) (w : World) (q : Option Addr) (x1 x2 : Int) (a : Option Addr) (l c : Nat) (w' : World) : Prop :=
  (q = none ∧ ¬ (1 ≤ n ∧ n ≤ 12 ∧ ValidT ts)) ∨ ((1 ≤ n ∧ n ≤ 12 ∧ ValidT ts) ∧ (x1 = (n : Int) ∧ x2 = 12 ∧ a = a0 ∧ l = l0 ∧ c = c0) ∧ ∃ SS p m, q = some ⟨p, 0, none⟩ ∧ w.heap.size ≤ m ∧ WfIn SS w' p ts n 12 m 0 (fun _ => none))
def StartP (n : Nat) (ts : List Tk) (a0 : Option Addr) (l0 c0 : Nat) (w : World) (e : Ending) (w' : World) : Prop :=
  ∃ (q : Option Addr) (x1 x2 : Int) (a : Option Addr) (l c : Nat), e = .returned (.tuple #[.pointer q, .agg #[.int .i64 x1, .int .i64 x2, .slice a l c, .slice none 0 0], .bool true]) ∧ Below w.heap.size w w' ∧ StartC n ts a0 l0 c0 w q x1 x2 a l c w'
theorem WfIn.setRow' {S : Nat → Prop} {w w' : World} {p r : Nat} {ts : List Tk} {ne np m n : Nat} {f : Ky → Option ByteArray} (h : WfIn S w p ts ne np m n f) (hG : Gr (fun b => b = r) w w') (hp : p ≠ r) (hm : m ≠ r) (hS : ∀ b, S b → b ≠ r) : WfIn S w' p ts ne np m n f :=
  ⟨h.wf.gr hG hp hS, MapG.gr h.mp hG hm, h.mS, h.pm⟩
set_option maxRecDepth 20000 in
set_option maxHeartbeats 4000000 in
theorem start53 {S : Nat → Prop} (w : World) (n : Int) (a : Option Addr) (len cap : Nat) (xs : List taskT.den) (hx : Rd (.sl taskT) S w [.slice a len cap] xs) (hS : ∀ b, S b → b < w.heap.size) (hlen : len ≤ 1000) (hns : ∀ i (hi : i < xs.length), (tk xs[i]).needs.length ≤ 1000) :
    Calls Tryz.prog 6 #[.agg #[.int .i64 n, .slice a len cap]] w (StartP (gN n) (xs.map tk) a len cap w) := by
  have hB1 := (Below.refl w.heap.size w).alloc (Nat.le_refl _) (.cells #[.int .i64 n, .slice a len cap] 24)
  have hB := hB1.alloc (by simp) (.cells #[.int .i64 0, .int .i64 0, .slice none 0 0, .slice none 0 0] 35)
  have hp := alloc_old' (o := .cells #[.int .i64 0, .int .i64 0, .slice none 0 0, .slice none 0 0] 35) (alloc_new' (w := w) (o := .cells #[.int .i64 n, .slice a len cap] 24) rfl)
  have hr := alloc_new' (w := w.alloc (.cells #[.int .i64 n, .slice a len cap] 24)) (o := .cells #[.int .i64 0, .int .i64 0, .slice none 0 0, .slice none 0 0] 35) (n := w.heap.size + 1) (by simp)
  have HP := Lib.hid hp
  have HR := Lib.hid hr
  have HB := Lib.hid hB
  have HX := Lib.hid (hx.below hB hS)
  have HS := Lib.hid (show ∀ b, S b → b < ((w.alloc (.cells #[.int .i64 n, .slice a len cap] 24)).alloc (.cells #[.int .i64 0, .int .i64 0, .slice none 0 0, .slice none 0 0] 35)).heap.size from fun b hb => Nat.lt_of_lt_of_le (hS b hb) hB.size)
  have HXL := Lib.hid (show xs.length = len from hx.sl_flat.1)
  have HNS := Lib.hid hns
  have hgN : gN n ≤ 14 := by unfold gN; omega
  clear hx hp hr hB hB1 hS hns
  go_enter Tryz.func6, Tryz.ntmps6
  go_wp2_with fail
  generalize hw1 : World.alloc (w.alloc _) _ = w1 at HP HR HB HX HS ⊢
  clear hw1
  obtain ⟨pb, hpb⟩ : ∃ q, w.heap.size = q := ⟨_, rfl⟩
  have HPB := Lib.hid hpb
  rw [hpb] at HP HR ⊢
  clear hpb
  have HC0 : Cells [(⟨pb, 0, none⟩, .int .i64 n), (⟨pb, 1, none⟩, .slice a len cap)] w1 := ⟨blk_cell HP.out 0, blk_cell HP.out 1, trivial⟩
  refine wp_region_T (Cells [(⟨pb, 0, none⟩, .int .i64 n), (⟨pb, 1, none⟩, .slice a len cap)]) (fun _ => false) (by kernel_rfl) ?_
  have hSss1 := Cells.drew HC0
  have hB_0_s1 : Below w1.heap.size w1 w1.drew := below_drew _
  generalize w1.drew = s1 at hSss1 hB_0_s1 ⊢
  have hB_s1_s1 := Below.refl s1.heap.size s1
  refine wpAnyT_pure (i := 0) (v := ?_) rfl (by kernel_rfl) (by kernel_rfl) (by kernel_rfl) (fun _ _ _ h => h) (by rfl) ?_ ?_
  rotate_left
  · intro w; go_simp; try with_reducible rfl
  simp only [Act.put, rgA, rgB, rgC, rgD, rgE, rgF]
  refine wpAnyT_pure (i := 3) (v := ?_) rfl (by kernel_rfl) (by kernel_rfl) (by kernel_rfl) (fun _ _ _ h => h) (by rfl) ?_ ?_
  rotate_left
  · intro w; go_simp; try with_reducible rfl
  simp only [Act.put, rgA, rgB, rgC, rgD, rgE, rgF]
  refine wpAnyT_loadW (i := 1) (v := ?_) rfl (by kernel_rfl) (by kernel_rfl) (by kernel_rfl) (by kernel_rfl) (by kernel_rfl) (fun _ _ _ h => h) (Or.inl ⟨by rfl, ?_⟩) hSss1 ?_
  rotate_left
  · intro w hSw; obtain ⟨e0, e1, -⟩ := hSw; go_simp; try with_reducible rfl
  simp only [Act.put, rgA, rgB, rgC, rgD, rgE, rgF]
  refine wpAnyT_loadW (i := 4) (v := ?_) rfl (by kernel_rfl) (by kernel_rfl) (by kernel_rfl) (by kernel_rfl) (by kernel_rfl) (fun _ _ _ h => h) (Or.inl ⟨by rfl, ?_⟩) hSss1 ?_
  rotate_left
  · intro w hSw; obtain ⟨e0, e1, -⟩ := hSw; go_simp; try with_reducible rfl
  simp only [Act.put, rgA, rgB, rgC, rgD, rgE, rgF]
  refine wpAnyT_one (i := 2) (by kernel_rfl) rfl (by rfl) ?_
  refine wp_enter (f := 18) (args := #[.int .i64 n, .int .i64 12]) (by go_simp) (group53 _ n 12) ?_
  rintro e w102 ⟨ea, ec, rfl, hX⟩
  have hB_s1_w102 := below_step hB_s1_s1 hX
  have hB_w102_w102 := Below.refl w102.heap.size w102
  have hSsw102 := Cells.below hB_s1_w102 hSss1
  clear hX
  refine ⟨_, rfl, fun _ _ => hSsw102, ?_⟩
  try simp only [Act.put, rgA, rgB, rgC, rgD, rgE, rgF]
  refine wpAnyT_one (i := 5) (by kernel_rfl) rfl (by rfl) ?_
  have hbP : Below w1.heap.size w1 w102 := hB_0_s1.trans ((hB_s1_w102).mono hB_0_s1.size)
  refine wp_enter (f := 22) (args := #[.slice a len cap]) (by go_simp) (own53 _ a len cap xs (HX.out.below hbP HS.out) (fun b hb => Nat.lt_of_lt_of_le (HS.out b hb) hbP.size) hlen HNS.out) ?_
  rintro e w103 ⟨oa, ol, oc, S5, rfl, hR5, hS5, hX⟩
  have HR5 := Lib.hid hR5
  have HS5 := Lib.hid hS5
  clear hR5 hS5 hbP
  have hB_s1_w103 := below_step hB_s1_w102 hX
  have hB_w102_w103 := below_step hB_w102_w102 hX
  have hB_w103_w103 := Below.refl w103.heap.size w103
  have hSsw103 := Cells.below hB_s1_w103 hSss1
  clear hX
  refine ⟨_, rfl, fun _ _ => hSsw103, ?_⟩
  try simp only [Act.put, rgA, rgB, rgC, rgD, rgE, rgF]
  refine wpAnyT_one (i := 6) (by kernel_rfl) rfl (by rfl) ?_
  refine wp_enter (f := 17) (args := #[.agg (grpE 12 ea (gN n) ec), .slice oa ol oc]) (by go_simp) (new53 _ ⟨#[]⟩ 2026 1 12 none 0 0 (fun _ => 0) ea (gN n) ec (by omega) (by omega) (by omega) (by omega) (by omega) (by omega) (by omega) (by omega) oa ol oc xs HR5.out HS5.out (by have h1 := HR5.out.sl_flat.1; have h2 := HXL.out; omega) (fun i hi => Nat.le_trans (HNS.out i hi) (by omega))) ?_
  rintro e w104 hnew
  obtain ⟨q, er, rfl, hX, hcase⟩ : ∃ (q : Option Addr) (er : Int), e = .returned (.tuple #[.pointer q, .int .i64 er]) ∧ Below (w103).heap.size w103 w104 ∧ ((q = none ∧ er = 1 ∧ ¬ (1 ≤ gN n ∧ gN n ≤ 12 ∧ ValidT (xs.map tk))) ∨ ((∃ SS p m, q = some ⟨p, 0, none⟩ ∧ (w103).heap.size ≤ m ∧ WfIn SS w104 p (xs.map tk) (gN n) 12 m 0 (fun _ => none) ∧ (w103).heap.size ≤ p ∧ ∀ b, SS b → (w103).heap.size ≤ b) ∧ er = 0 ∧ (1 ≤ gN n ∧ gN n ≤ 12 ∧ ValidT (xs.map tk)))) := by
    rcases hnew with ⟨h1, h2, h3⟩ | ⟨h1, SS, p, m, h2, h3, h4, h5, h6, h7⟩
    · exact ⟨none, 1, h2, h3, .inl ⟨rfl, rfl, h1⟩⟩
    · exact ⟨_, 0, h2, h3, .inr ⟨⟨SS, p, m, rfl, h4, h5, h6, h7⟩, rfl, h1⟩⟩
  have HCASE0 := Lib.hid hcase
  have HSZ6 := Lib.hid (show w1.heap.size ≤ (w103).heap.size from (hB_0_s1.trans ((hB_s1_w103).mono hB_0_s1.size)).size)
  clear hcase
  have hB_s1_w104 := below_step hB_s1_w103 hX
  have hB_w102_w104 := below_step hB_w102_w103 hX
  have hB_w103_w104 := below_step hB_w103_w103 hX
  have hB_w104_w104 := Below.refl w104.heap.size w104
  have hSsw104 := Cells.below hB_s1_w104 hSss1
  clear hX
  refine ⟨_, rfl, fun _ _ => hSsw104, ?_⟩
  try simp only [Act.put, rgA, rgB, rgC, rgD, rgE, rgF]
  refine wpAnyT_pure (i := 7) (v := ?_) rfl (by kernel_rfl) (by kernel_rfl) (by kernel_rfl) (fun _ _ _ h => h) (by rfl) ?_ ?_
  rotate_left
  · intro w; go_simp; try with_reducible rfl
  simp only [Act.put, rgA, rgB, rgC, rgD, rgE, rgF]
  refine wpAnyT_pure (i := 8) (v := ?_) rfl (by kernel_rfl) (by kernel_rfl) (by kernel_rfl) (fun _ _ _ h => h) (by rfl) ?_ ?_
  rotate_left
  · intro w; go_simp; try with_reducible rfl
  simp only [Act.put, rgA, rgB, rgC, rgD, rgE, rgF]
  refine wpAnyT_pure (i := 9) (v := ?_) rfl (by kernel_rfl) (by kernel_rfl) (by kernel_rfl) (fun _ _ _ h => h) (by rfl) ?_ ?_
  rotate_left
  · intro w; go_simp; try with_reducible rfl
  simp only [Act.put, rgA, rgB, rgC, rgD, rgE, rgF]
  refine wpAnyT_pure (i := 10) (v := ?_) rfl (by kernel_rfl) (by kernel_rfl) (by kernel_rfl) (fun _ _ _ h => h) (by rfl) ?_ ?_
  rotate_left
  · intro w; go_simp; try with_reducible rfl
  simp only [Act.put, rgA, rgB, rgC, rgD, rgE, rgF]
  refine wpAnyT_pure (i := 11) (v := ?_) rfl (by kernel_rfl) (by kernel_rfl) (by kernel_rfl) (fun _ _ _ h => h) (by rfl) ?_ ?_
  rotate_left
  · intro w; go_simp; try with_reducible rfl
  simp only [Act.put, rgA, rgB, rgC, rgD, rgE, rgF]
  refine wpAnyT_done (by kernel_rfl) ?_ _
  have hbP : Below w1.heap.size w1 w104 := hB_0_s1.trans ((hB_s1_w104).mono hB_0_s1.size)
  have HCASE := Lib.hid (show (q = none ∧ er = 1 ∧ ¬ (1 ≤ gN n ∧ gN n ≤ 12 ∧ ValidT (xs.map tk))) ∨ ((∃ SS p m, q = some ⟨p, 0, none⟩ ∧ w1.heap.size ≤ m ∧ WfIn SS w104 p (xs.map tk) (gN n) 12 m 0 (fun _ => none) ∧ w1.heap.size ≤ p ∧ ∀ b, SS b → w1.heap.size ≤ b) ∧ er = 0 ∧ (1 ≤ gN n ∧ gN n ≤ 12 ∧ ValidT (xs.map tk))) from HCASE0.out.imp id (fun h => ⟨by
    obtain ⟨SS, p, m, g1, g2, g3, g4, g5⟩ := h.1
    exact ⟨SS, p, m, g1, Nat.le_trans HSZ6.out g2, g3.below hB_w104_w104, Nat.le_trans HSZ6.out g4, fun b hb => Nat.le_trans HSZ6.out (g5 b hb)⟩, h.2⟩))
  obtain ⟨w2, rfl⟩ : ∃ x, x = w104 := ⟨_, rfl⟩
  have HB2 := Lib.hid (below_step HB.out hbP)
  have HP2 := Lib.hid ((hbP.block _ (blk_lt HP.out)).trans HP.out)
  have HR2 := Lib.hid ((hbP.block _ (blk_lt HR.out)).trans HR.out)
  have HX2 := Lib.hid (HX.out.below hbP HS.out)
  have HS2 := Lib.hid (show ∀ b, S b → b < w2.heap.size from fun b hb => Nat.lt_of_lt_of_le (HS.out b hb) hbP.size)
  have hC2 : Cells [(⟨pb, 0, none⟩, .int .i64 n), (⟨pb, 1, none⟩, .slice a len cap)] w2 := ⟨blk_cell HP2.out 0, blk_cell HP2.out 1, trivial⟩
  have HPW := Lib.hid (show pb + 1 < w1.heap.size from blk_lt HR.out)
  have HWW := Lib.hid (show w.heap.size ≤ w1.heap.size from HB.out.size)
  clear hbP HP HR HB HX HS HC0
  go_wp2_with fail
  refine wp_cut [19, 20, 21, 22, 23, 24, 25, 26, 27, 7, 8] (fun vs w' => ∃ (v19 v20 v21 v22 v23 v24 v25 v26 v27 : Value) (rb : Nat) (er2 x1 x2 : Int) (ra : Option Addr) (rl rc : Nat), vs = [v19, v20, v21, v22, v23, v24, v25, v26, v27, .pointer (some ⟨rb, 0, none⟩), .int .i64 er2] ∧ Below w2.heap.size w2 w' ∧ w'.heap[rb]? = some (.cells #[.int .i64 x1, .int .i64 x2, .slice ra rl rc, .slice none 0 0] 35 (0, 0)) ∧ ((1 ≤ gN n ∧ gN n ≤ 12 ∧ ValidT (xs.map tk)) ∧ er2 = 0 ∧ x1 = (gN n : Int) ∧ x2 = 12 ∧ ra = a ∧ rl = len ∧ rc = cap ∨ ¬ (1 ≤ gN n ∧ gN n ≤ 12 ∧ ValidT (xs.map tk)) ∧ er2 = 1)) ?_ ?_
  · skip
    refine wp_region_T (Cells [(⟨pb, 0, none⟩, .int .i64 n), (⟨pb, 1, none⟩, .slice a len cap)]) (fun i => i == 10) (by kernel_rfl) ?_
    have hSss5 := Cells.drew hC2
    have hB_0_s5 : Below w2.heap.size w2 w2.drew := below_drew _
    generalize w2.drew = s5 at hSss5 hB_0_s5 ⊢
    have hB_s5_s5 := Below.refl s5.heap.size s5
    refine wpAnyT_pure (i := 0) (v := ?_) rfl (by kernel_rfl) (by kernel_rfl) (by kernel_rfl) (fun _ _ _ h => h) (by rfl) ?_ ?_
    rotate_left
    · intro w; go_simp; try with_reducible rfl
    simp only [Act.put, rgA, rgB, rgC, rgD, rgE, rgF]
    refine wpAnyT_pure (i := 3) (v := ?_) rfl (by kernel_rfl) (by kernel_rfl) (by kernel_rfl) (fun _ _ _ h => h) (by rfl) ?_ ?_
    rotate_left
    · intro w; go_simp; try with_reducible rfl
    simp only [Act.put, rgA, rgB, rgC, rgD, rgE, rgF]
    refine wpAnyT_loadW (i := 1) (v := ?_) rfl (by kernel_rfl) (by kernel_rfl) (by kernel_rfl) (by kernel_rfl) (by kernel_rfl) (fun _ _ _ h => h) (Or.inl ⟨by rfl, ?_⟩) hSss5 ?_
    rotate_left
    · intro w hSw; obtain ⟨e0, e1, -⟩ := hSw; go_simp; try with_reducible rfl
    simp only [Act.put, rgA, rgB, rgC, rgD, rgE, rgF]
    refine wpAnyT_loadW (i := 4) (v := ?_) rfl (by kernel_rfl) (by kernel_rfl) (by kernel_rfl) (by kernel_rfl) (by kernel_rfl) (fun _ _ _ h => h) (Or.inl ⟨by rfl, ?_⟩) hSss5 ?_
    rotate_left
    · intro w hSw; obtain ⟨e0, e1, -⟩ := hSw; go_simp; try with_reducible rfl
    simp only [Act.put, rgA, rgB, rgC, rgD, rgE, rgF]
    refine wpAnyT_two (i := 2) (k := 9) (by kernel_rfl) rfl rfl (by rfl) (by rfl) ?_ ?_
    · skip
      refine wp_enter (f := 18) (args := #[.int .i64 n, .int .i64 12]) (by go_simp) (group53 _ n 12) ?_
      rintro e w106 ⟨ea2, ec2, rfl, hX⟩
      have hB_s5_w106 := below_step hB_s5_s5 hX
      have hB_w106_w106 := Below.refl w106.heap.size w106
      have hSsw106 := Cells.below hB_s5_w106 hSss5
      clear hX
      refine ⟨_, rfl, fun _ _ => hSsw106, ?_⟩
      try simp only [Act.put, rgA, rgB, rgC, rgD, rgE, rgF]
      refine wpAnyT_two (i := 5) (k := 9) (by kernel_rfl) rfl rfl (by rfl) (by rfl) ?_ ?_
      · skip
        have hbP : Below w2.heap.size w2 w106 := hB_0_s5.trans ((hB_s5_w106).mono hB_0_s5.size)
        refine wp_enter (f := 23) (args := #[.agg (grpE 12 ea2 (gN n) ec2), .slice a len cap]) (by go_simp) (rnew53 _ ea2 (gN n) ec2 (by omega) a len cap xs (HX2.out.below hbP HS2.out) (fun b hb => Nat.lt_of_lt_of_le (HS2.out b hb) hbP.size)) ?_
        rintro e w107 ⟨x1, x2, er2, ra, rl, rc, rfl, hX, hcase2⟩
        have HCASE2 := Lib.hid hcase2
        clear hcase2 hbP
        have hB_s5_w107 := below_step hB_s5_w106 hX
        have hB_w106_w107 := below_step hB_w106_w106 hX
        have hB_w107_w107 := Below.refl w107.heap.size w107
        have hSsw107 := Cells.below hB_s5_w107 hSss5
        clear hX
        refine ⟨_, rfl, fun _ _ => hSsw107, ?_⟩
        try simp only [Act.put, rgA, rgB, rgC, rgD, rgE, rgF]
        refine wpAnyT_pure (i := 6) (v := ?_) rfl (by kernel_rfl) (by kernel_rfl) (by kernel_rfl) (fun _ _ _ h => h) (by rfl) ?_ ?_
        rotate_left
        · intro w; go_simp; try with_reducible rfl
        simp only [Act.put, rgA, rgB, rgC, rgD, rgE, rgF]
        refine wpAnyT_pure (i := 7) (v := ?_) rfl (by kernel_rfl) (by kernel_rfl) (by kernel_rfl) (fun _ _ _ h => h) (by rfl) ?_ ?_
        rotate_left
        · intro w; go_simp; try with_reducible rfl
        simp only [Act.put, rgA, rgB, rgC, rgD, rgE, rgF]
        refine wpAnyT_pure (i := 8) (v := ?_) rfl (by kernel_rfl) (by kernel_rfl) (by kernel_rfl) (fun _ _ _ h => h) (by rfl) ?_ ?_
        rotate_left
        · intro w; go_simp; try with_reducible rfl
        simp only [Act.put, rgA, rgB, rgC, rgD, rgE, rgF]
        refine wpAnyT_one (i := 9) (by kernel_rfl) rfl (by rfl) ?_
        obtain ⟨b9, hb9⟩ : ∃ b, w107.heap.size = b := ⟨_, rfl⟩
        have hge9 : s5.heap.size ≤ b9 := hb9 ▸ (hB_s5_w107).size
        refine wp_newrow (v := .pointer (some ⟨b9, 0, none⟩)) (cs := #[.int .i64 0, .int .i64 0, .slice none 0 0, .slice none 0 0]) (te := 35) (by rw [← hb9]; go_simp) ?_
        intro w108 hX hN9
        rw [hb9] at hN9
        have hB_s5_w108 := below_step hB_s5_w107 hX
        have hB_w106_w108 := below_step hB_w106_w107 hX
        have hB_w107_w108 := below_step hB_w107_w107 hX
        have hB_w108_w108 := Below.refl w108.heap.size w108
        have hSsw108 := Cells.below hB_s5_w108 hSss5
        clear hX
        refine ⟨fun _ _ => hSsw108, ?_⟩
        try simp only [Act.put, rgA, rgB, rgC, rgD, rgE, rgF]
        refine wpAnyT_one (i := 10) (by kernel_rfl) rfl (by rfl) ?_
        have hq9 := ((hB_w108_w108).block _ (blk_lt hN9)).trans hN9
        have hrow := setRow_heap _ _ _ #[.int .i64 x1, .int .i64 x2, .slice ra rl rc, .slice none 0 0] _ _ hq9
        have hbN := below_setRow (n := w2.heap.size) (p := b9) (hB_0_s5.trans ((hB_s5_w108).mono hB_0_s5.size)) (by have := (hB_0_s5).size; omega) #[.int .i64 x1, .int .i64 x2, .slice ra rl rc, .slice none 0 0]
        refine wp_store_row 35 _ _ rfl b9 #[.int .i64 x1, .int .i64 x2, .slice ra rl rc, .slice none 0 0] (by kernel_rfl) (by kernel_rfl) 35 _ hq9 (by kernel_rfl) (by rfl) (by simp [Value.oneCell']) ?_
        generalize World.setRow _ _ _ = w109 at hrow hbN ⊢
        refine ⟨fun h => absurd h (by decide), ?_⟩
        try simp only [Act.put, rgA, rgB, rgC, rgD, rgE, rgF]
        refine wpAnyT_pure (i := 11) (v := ?_) rfl (by kernel_rfl) (by kernel_rfl) (by kernel_rfl) (fun _ _ _ h => h) (by rfl) ?_ ?_
        rotate_left
        · intro w; go_simp; try with_reducible rfl
        simp only [Act.put, rgA, rgB, rgC, rgD, rgE, rgF]
        refine wpAnyT_done (by kernel_rfl) ?_ _
        refine cut_leaf ?_ ?_
        focus kernel_rfl
        exact ⟨_, _, _, _, _, _, _, _, _, b9, er2, x1, x2, ra, rl, rc, rfl, hbN, hrow, HCASE2.out⟩
      · skip
        obtain ⟨b9, hb9⟩ : ∃ b, w106.heap.size = b := ⟨_, rfl⟩
        have hge9 : s5.heap.size ≤ b9 := hb9 ▸ (hB_s5_w106).size
        refine wp_newrow (v := .pointer (some ⟨b9, 0, none⟩)) (cs := #[.int .i64 0, .int .i64 0, .slice none 0 0, .slice none 0 0]) (te := 35) (by rw [← hb9]; go_simp) ?_
        intro w110 hX hN9
        rw [hb9] at hN9
        have hB_s5_w110 := below_step hB_s5_w106 hX
        have hB_w106_w110 := below_step hB_w106_w106 hX
        have hB_w110_w110 := Below.refl w110.heap.size w110
        have hSsw110 := Cells.below hB_s5_w110 hSss5
        clear hX
        refine ⟨fun _ _ => hSsw110, ?_⟩
        try simp only [Act.put, rgA, rgB, rgC, rgD, rgE, rgF]
        refine wpAnyT_one (i := 5) (by kernel_rfl) rfl (by rfl) ?_
        have hbP : Below w2.heap.size w2 w110 := hB_0_s5.trans ((hB_s5_w110).mono hB_0_s5.size)
        refine wp_enter (f := 23) (args := #[.agg (grpE 12 ea2 (gN n) ec2), .slice a len cap]) (by go_simp) (rnew53 _ ea2 (gN n) ec2 (by omega) a len cap xs (HX2.out.below hbP HS2.out) (fun b hb => Nat.lt_of_lt_of_le (HS2.out b hb) hbP.size)) ?_
        rintro e w111 ⟨x1, x2, er2, ra, rl, rc, rfl, hX, hcase2⟩
        have HCASE2 := Lib.hid hcase2
        clear hcase2 hbP
        have hB_s5_w111 := below_step hB_s5_w110 hX
        have hB_w106_w111 := below_step hB_w106_w110 hX
        have hB_w110_w111 := below_step hB_w110_w110 hX
        have hB_w111_w111 := Below.refl w111.heap.size w111
        have hSsw111 := Cells.below hB_s5_w111 hSss5
        clear hX
        refine ⟨_, rfl, fun _ _ => hSsw111, ?_⟩
        try simp only [Act.put, rgA, rgB, rgC, rgD, rgE, rgF]
        refine wpAnyT_pure (i := 6) (v := ?_) rfl (by kernel_rfl) (by kernel_rfl) (by kernel_rfl) (fun _ _ _ h => h) (by rfl) ?_ ?_
        rotate_left
        · intro w; go_simp; try with_reducible rfl
        simp only [Act.put, rgA, rgB, rgC, rgD, rgE, rgF]
        refine wpAnyT_pure (i := 7) (v := ?_) rfl (by kernel_rfl) (by kernel_rfl) (by kernel_rfl) (fun _ _ _ h => h) (by rfl) ?_ ?_
        rotate_left
        · intro w; go_simp; try with_reducible rfl
        simp only [Act.put, rgA, rgB, rgC, rgD, rgE, rgF]
        refine wpAnyT_pure (i := 8) (v := ?_) rfl (by kernel_rfl) (by kernel_rfl) (by kernel_rfl) (fun _ _ _ h => h) (by rfl) ?_ ?_
        rotate_left
        · intro w; go_simp; try with_reducible rfl
        simp only [Act.put, rgA, rgB, rgC, rgD, rgE, rgF]
        refine wpAnyT_one (i := 10) (by kernel_rfl) rfl (by rfl) ?_
        have hq9 := ((hB_w110_w111).block _ (blk_lt hN9)).trans hN9
        have hrow := setRow_heap _ _ _ #[.int .i64 x1, .int .i64 x2, .slice ra rl rc, .slice none 0 0] _ _ hq9
        have hbN := below_setRow (n := w2.heap.size) (p := b9) (hB_0_s5.trans ((hB_s5_w111).mono hB_0_s5.size)) (by have := (hB_0_s5).size; omega) #[.int .i64 x1, .int .i64 x2, .slice ra rl rc, .slice none 0 0]
        refine wp_store_row 35 _ _ rfl b9 #[.int .i64 x1, .int .i64 x2, .slice ra rl rc, .slice none 0 0] (by kernel_rfl) (by kernel_rfl) 35 _ hq9 (by kernel_rfl) (by rfl) (by simp [Value.oneCell']) ?_
        generalize World.setRow _ _ _ = w112 at hrow hbN ⊢
        refine ⟨fun h => absurd h (by decide), ?_⟩
        try simp only [Act.put, rgA, rgB, rgC, rgD, rgE, rgF]
        refine wpAnyT_pure (i := 11) (v := ?_) rfl (by kernel_rfl) (by kernel_rfl) (by kernel_rfl) (fun _ _ _ h => h) (by rfl) ?_ ?_
        rotate_left
        · intro w; go_simp; try with_reducible rfl
        simp only [Act.put, rgA, rgB, rgC, rgD, rgE, rgF]
        refine wpAnyT_done (by kernel_rfl) ?_ _
        refine cut_leaf ?_ ?_
        focus kernel_rfl
        exact ⟨_, _, _, _, _, _, _, _, _, b9, er2, x1, x2, ra, rl, rc, rfl, hbN, hrow, HCASE2.out⟩
    · skip
      obtain ⟨b9, hb9⟩ : ∃ b, s5.heap.size = b := ⟨_, rfl⟩
      have hge9 : s5.heap.size ≤ b9 := hb9 ▸ (hB_s5_s5).size
      refine wp_newrow (v := .pointer (some ⟨b9, 0, none⟩)) (cs := #[.int .i64 0, .int .i64 0, .slice none 0 0, .slice none 0 0]) (te := 35) (by rw [← hb9]; go_simp) ?_
      intro w113 hX hN9
      rw [hb9] at hN9
      have hB_s5_w113 := below_step hB_s5_s5 hX
      have hB_w113_w113 := Below.refl w113.heap.size w113
      have hSsw113 := Cells.below hB_s5_w113 hSss5
      clear hX
      refine ⟨fun _ _ => hSsw113, ?_⟩
      try simp only [Act.put, rgA, rgB, rgC, rgD, rgE, rgF]
      refine wpAnyT_one (i := 2) (by kernel_rfl) rfl (by rfl) ?_
      refine wp_enter (f := 18) (args := #[.int .i64 n, .int .i64 12]) (by go_simp) (group53 _ n 12) ?_
      rintro e w114 ⟨ea2, ec2, rfl, hX⟩
      have hB_s5_w114 := below_step hB_s5_w113 hX
      have hB_w113_w114 := below_step hB_w113_w113 hX
      have hB_w114_w114 := Below.refl w114.heap.size w114
      have hSsw114 := Cells.below hB_s5_w114 hSss5
      clear hX
      refine ⟨_, rfl, fun _ _ => hSsw114, ?_⟩
      try simp only [Act.put, rgA, rgB, rgC, rgD, rgE, rgF]
      refine wpAnyT_one (i := 5) (by kernel_rfl) rfl (by rfl) ?_
      have hbP : Below w2.heap.size w2 w114 := hB_0_s5.trans ((hB_s5_w114).mono hB_0_s5.size)
      refine wp_enter (f := 23) (args := #[.agg (grpE 12 ea2 (gN n) ec2), .slice a len cap]) (by go_simp) (rnew53 _ ea2 (gN n) ec2 (by omega) a len cap xs (HX2.out.below hbP HS2.out) (fun b hb => Nat.lt_of_lt_of_le (HS2.out b hb) hbP.size)) ?_
      rintro e w115 ⟨x1, x2, er2, ra, rl, rc, rfl, hX, hcase2⟩
      have HCASE2 := Lib.hid hcase2
      clear hcase2 hbP
      have hB_s5_w115 := below_step hB_s5_w114 hX
      have hB_w113_w115 := below_step hB_w113_w114 hX
      have hB_w114_w115 := below_step hB_w114_w114 hX
      have hB_w115_w115 := Below.refl w115.heap.size w115
      have hSsw115 := Cells.below hB_s5_w115 hSss5
      clear hX
      refine ⟨_, rfl, fun _ _ => hSsw115, ?_⟩
      try simp only [Act.put, rgA, rgB, rgC, rgD, rgE, rgF]
      refine wpAnyT_pure (i := 6) (v := ?_) rfl (by kernel_rfl) (by kernel_rfl) (by kernel_rfl) (fun _ _ _ h => h) (by rfl) ?_ ?_
      rotate_left
      · intro w; go_simp; try with_reducible rfl
      simp only [Act.put, rgA, rgB, rgC, rgD, rgE, rgF]
      refine wpAnyT_pure (i := 7) (v := ?_) rfl (by kernel_rfl) (by kernel_rfl) (by kernel_rfl) (fun _ _ _ h => h) (by rfl) ?_ ?_
      rotate_left
      · intro w; go_simp; try with_reducible rfl
      simp only [Act.put, rgA, rgB, rgC, rgD, rgE, rgF]
      refine wpAnyT_pure (i := 8) (v := ?_) rfl (by kernel_rfl) (by kernel_rfl) (by kernel_rfl) (fun _ _ _ h => h) (by rfl) ?_ ?_
      rotate_left
      · intro w; go_simp; try with_reducible rfl
      simp only [Act.put, rgA, rgB, rgC, rgD, rgE, rgF]
      refine wpAnyT_one (i := 10) (by kernel_rfl) rfl (by rfl) ?_
      have hq9 := ((hB_w113_w115).block _ (blk_lt hN9)).trans hN9
      have hrow := setRow_heap _ _ _ #[.int .i64 x1, .int .i64 x2, .slice ra rl rc, .slice none 0 0] _ _ hq9
      have hbN := below_setRow (n := w2.heap.size) (p := b9) (hB_0_s5.trans ((hB_s5_w115).mono hB_0_s5.size)) (by have := (hB_0_s5).size; omega) #[.int .i64 x1, .int .i64 x2, .slice ra rl rc, .slice none 0 0]
      refine wp_store_row 35 _ _ rfl b9 #[.int .i64 x1, .int .i64 x2, .slice ra rl rc, .slice none 0 0] (by kernel_rfl) (by kernel_rfl) 35 _ hq9 (by kernel_rfl) (by rfl) (by simp [Value.oneCell']) ?_
      generalize World.setRow _ _ _ = w116 at hrow hbN ⊢
      refine ⟨fun h => absurd h (by decide), ?_⟩
      try simp only [Act.put, rgA, rgB, rgC, rgD, rgE, rgF]
      refine wpAnyT_pure (i := 11) (v := ?_) rfl (by kernel_rfl) (by kernel_rfl) (by kernel_rfl) (fun _ _ _ h => h) (by rfl) ?_ ?_
      rotate_left
      · intro w; go_simp; try with_reducible rfl
      simp only [Act.put, rgA, rgB, rgC, rgD, rgE, rgF]
      refine wpAnyT_done (by kernel_rfl) ?_ _
      refine cut_leaf ?_ ?_
      focus kernel_rfl
      exact ⟨_, _, _, _, _, _, _, _, _, b9, er2, x1, x2, ra, rl, rc, rfl, hbN, hrow, HCASE2.out⟩
  rintro vs w3 ⟨v19, v20, v21, v22, v23, v24, v25, v26, v27, rb, er2, x1, x2, ra, rl, rc, rfl, hB3, hrow3, hcase2⟩
  simp only [puts, Act.put, List.setIfInBounds_toArray, List.set_cons_zero, List.set_cons_succ]
  have HB3 := Lib.hid (below_step HB2.out hB3)
  have HR3 := Lib.hid ((hB3.block _ (blk_lt HR2.out)).trans HR2.out)
  have HC3 : Cells [(⟨rb, 0, none⟩, .int .i64 x1), (⟨rb, 1, none⟩, .int .i64 x2), (⟨rb, 2, none⟩, .slice ra rl rc), (⟨rb, 3, none⟩, .slice none 0 0)] w3 := ⟨blk_cell hrow3 0, blk_cell hrow3 1, blk_cell hrow3 2, blk_cell hrow3 3, trivial⟩
  have HB23 := Lib.hid hB3
  clear hB3 hrow3 HB2 HP2 HR2 HX2 HS2 hC2 HXL HNS
  rcases HCASE.out with ⟨h1, h2, h3⟩ | ⟨⟨SS, pp, mm, h1, g2, g3, g4, g5⟩, h2, h3⟩
  · have h4 : er2 = 1 := hcase2.elim (fun h => absurd h.1 h3) (fun h => h.2)
    have HN3 := Lib.hid h3
    clear HCASE hcase2 h3
    subst h1
    subst h2
    subst h4
    go_wp2_with fail
    refine wp_region_T (Cells [(⟨rb, 0, none⟩, .int .i64 x1), (⟨rb, 1, none⟩, .int .i64 x2), (⟨rb, 2, none⟩, .slice ra rl rc), (⟨rb, 3, none⟩, .slice none 0 0)]) (fun i => i == 13) (by kernel_rfl) ?_
    have hSss17 := Cells.drew HC3
    have hB_0_s17 : Below w3.heap.size w3 w3.drew := below_drew _
    generalize w3.drew = s17 at hSss17 hB_0_s17 ⊢
    have hB_s17_s17 := Below.refl s17.heap.size s17
    refine wpAnyT_pure (i := 0) (v := ?_) rfl (by kernel_rfl) (by kernel_rfl) (by kernel_rfl) (fun _ _ _ h => h) (by rfl) ?_ ?_
    rotate_left
    · intro w; go_simp; try with_reducible rfl
    simp only [Act.put, rgA, rgB, rgC, rgD, rgE, rgF]
    refine wpAnyT_pure (i := 2) (v := ?_) rfl (by kernel_rfl) (by kernel_rfl) (by kernel_rfl) (fun _ _ _ h => h) (by rfl) ?_ ?_
    rotate_left
    · intro w; go_simp; try with_reducible rfl
    simp only [Act.put, rgA, rgB, rgC, rgD, rgE, rgF]
    refine wpAnyT_pure (i := 3) (v := ?_) rfl (by kernel_rfl) (by kernel_rfl) (by kernel_rfl) (fun _ _ _ h => h) (by rfl) ?_ ?_
    rotate_left
    · intro w; go_simp; try with_reducible rfl
    simp only [Act.put, rgA, rgB, rgC, rgD, rgE, rgF]
    refine wpAnyT_pure (i := 4) (v := ?_) rfl (by kernel_rfl) (by kernel_rfl) (by kernel_rfl) (fun _ _ _ h => h) (by rfl) ?_ ?_
    rotate_left
    · intro w; go_simp; try with_reducible rfl
    simp only [Act.put, rgA, rgB, rgC, rgD, rgE, rgF]
    refine wpAnyT_pure (i := 5) (v := ?_) rfl (by kernel_rfl) (by kernel_rfl) (by kernel_rfl) (fun _ _ _ h => h) (by rfl) ?_ ?_
    rotate_left
    · intro w; go_simp; try with_reducible rfl
    simp only [Act.put, rgA, rgB, rgC, rgD, rgE, rgF]
    refine wpAnyT_pure (i := 6) (v := ?_) rfl (by kernel_rfl) (by kernel_rfl) (by kernel_rfl) (fun _ _ _ h => h) (by rfl) ?_ ?_
    rotate_left
    · intro w; go_simp; try with_reducible rfl
    simp only [Act.put, rgA, rgB, rgC, rgD, rgE, rgF]
    refine wpAnyT_pure (i := 7) (v := ?_) rfl (by kernel_rfl) (by kernel_rfl) (by kernel_rfl) (fun _ _ _ h => h) (by rfl) ?_ ?_
    rotate_left
    · intro w; go_simp; try with_reducible rfl
    simp only [Act.put, rgA, rgB, rgC, rgD, rgE, rgF]
    refine wpAnyT_pure (i := 8) (v := ?_) rfl (by kernel_rfl) (by kernel_rfl) (by kernel_rfl) (fun _ _ _ h => h) (by rfl) ?_ ?_
    rotate_left
    · intro w; go_simp; try with_reducible rfl
    simp only [Act.put, rgA, rgB, rgC, rgD, rgE, rgF]
    refine wpAnyT_pure (i := 9) (v := ?_) rfl (by kernel_rfl) (by kernel_rfl) (by kernel_rfl) (fun _ _ _ h => h) (by rfl) ?_ ?_
    rotate_left
    · intro w; go_simp; try with_reducible rfl
    simp only [Act.put, rgA, rgB, rgC, rgD, rgE, rgF]
    refine wpAnyT_pure (i := 10) (v := ?_) rfl (by kernel_rfl) (by kernel_rfl) (by kernel_rfl) (fun _ _ _ h => h) (by rfl) ?_ ?_
    rotate_left
    · intro w; go_simp; try with_reducible rfl
    simp only [Act.put, rgA, rgB, rgC, rgD, rgE, rgF]
    refine wpAnyT_pure (i := 11) (v := ?_) rfl (by kernel_rfl) (by kernel_rfl) (by kernel_rfl) (fun _ _ _ h => h) (by rfl) ?_ ?_
    rotate_left
    · intro w; go_simp; try with_reducible rfl
    simp only [Act.put, rgA, rgB, rgC, rgD, rgE, rgF]
    refine wpAnyT_pure (i := 12) (v := ?_) rfl (by kernel_rfl) (by kernel_rfl) (by kernel_rfl) (fun _ _ _ h => h) (by rfl) ?_ ?_
    rotate_left
    · intro w; go_simp; try with_reducible rfl
    simp only [Act.put, rgA, rgB, rgC, rgD, rgE, rgF]
    refine wpAnyT_loadW (i := 1) (v := ?_) rfl (by kernel_rfl) (by kernel_rfl) (by kernel_rfl) (by kernel_rfl) (by kernel_rfl) (fun _ _ _ h => h) (Or.inl ⟨by rfl, ?_⟩) hSss17 ?_
    rotate_left
    · intro w hSw; obtain ⟨e0, e1, e2, e3, -⟩ := hSw; go_simp; try with_reducible rfl
    simp only [Act.put, rgA, rgB, rgC, rgD, rgE, rgF]
    refine wpAnyT_one (i := 13) (by kernel_rfl) rfl (by rfl) ?_
    have hbP : Below w3.heap.size w3 s17 := hB_0_s17.trans ((hB_s17_s17).mono (hB_0_s17).size)
    have hq := (hbP.block _ (blk_lt HR3.out)).trans HR3.out
    have hrow := setRow_heap _ _ _ #[.int .i64 x1, .int .i64 x2, .slice ra rl rc, .slice none 0 0] _ _ hq
    have hbN := below_setRow (n := w.heap.size) (p := pb + 1) (below_step HB3.out hbP) (by rw [HPB.out]; omega) #[.int .i64 x1, .int .i64 x2, .slice ra rl rc, .slice none 0 0]
    have hG := gr_setRow s17 (pb + 1) #[.int .i64 x1, .int .i64 x2, .slice ra rl rc, .slice none 0 0]
    have hP := HB23.out.trans (hbP.mono HB23.out.size)
    refine wp_store_row 35 _ _ rfl (pb + 1) #[.int .i64 x1, .int .i64 x2, .slice ra rl rc, .slice none 0 0] (by kernel_rfl) (by kernel_rfl) 35 _ hq (by kernel_rfl) (by rfl) (by simp [Value.oneCell']) ?_
    generalize World.setRow _ _ _ = w118 at hrow hbN hG ⊢
    refine ⟨fun h => absurd h (by decide), ?_⟩
    try simp only [Act.put, rgA, rgB, rgC, rgD, rgE, rgF]
    refine wpAnyT_pure (i := 14) (v := ?_) rfl (by kernel_rfl) (by kernel_rfl) (by kernel_rfl) (fun _ _ _ h => h) (by rfl) ?_ ?_
    rotate_left
    · intro w; go_simp; try with_reducible rfl
    simp only [Act.put, rgA, rgB, rgC, rgD, rgE, rgF]
    refine wpAnyT_done (by kernel_rfl) ?_ _
    obtain ⟨w4, rfl⟩ : ∃ x, x = w118 := ⟨_, rfl⟩
    have HROW := Lib.hid hrow
    have HBN := Lib.hid hbN
    have HFIN := Lib.hid (show StartC (gN n) (xs.map tk) a len cap w none x1 x2 ra rl rc w4 from .inl ⟨rfl, HN3.out⟩)
    clear hrow hbN hq hbP hG hP
    go_wp2_with fail
    refine bodyPost_ret (results_tct rfl _ _ (pb + 1) 35 _ (0, 0) _ rfl HROW.out Tryz.underlying35 rfl (by kernel_rfl)) rfl ?_
    exact ⟨_, x1, x2, ra, rl, rc, rfl, HBN.out, HFIN.out⟩
  · have h4 := hcase2.elim (fun h => h.2) (fun h => absurd h3 h.1)
    obtain ⟨h4, h5⟩ := h4
    have HN3 := Lib.hid h3
    have HN5 := Lib.hid h5
    have HG2 := Lib.hid g2
    have HG3 := Lib.hid g3
    have HG4 := Lib.hid g4
    have HG5 := Lib.hid g5
    clear HCASE hcase2 h3 h5 g2 g3 g4 g5
    subst h1
    subst h2
    subst h4
    go_wp2_with fail
    refine wp_region_T (Cells [(⟨rb, 0, none⟩, .int .i64 x1), (⟨rb, 1, none⟩, .int .i64 x2), (⟨rb, 2, none⟩, .slice ra rl rc), (⟨rb, 3, none⟩, .slice none 0 0)]) (fun i => i == 13) (by kernel_rfl) ?_
    have hSss19 := Cells.drew HC3
    have hB_0_s19 : Below w3.heap.size w3 w3.drew := below_drew _
    generalize w3.drew = s19 at hSss19 hB_0_s19 ⊢
    have hB_s19_s19 := Below.refl s19.heap.size s19
    refine wpAnyT_pure (i := 0) (v := ?_) rfl (by kernel_rfl) (by kernel_rfl) (by kernel_rfl) (fun _ _ _ h => h) (by rfl) ?_ ?_
    rotate_left
    · intro w; go_simp; try with_reducible rfl
    simp only [Act.put, rgA, rgB, rgC, rgD, rgE, rgF]
    refine wpAnyT_pure (i := 2) (v := ?_) rfl (by kernel_rfl) (by kernel_rfl) (by kernel_rfl) (fun _ _ _ h => h) (by rfl) ?_ ?_
    rotate_left
    · intro w; go_simp; try with_reducible rfl
    simp only [Act.put, rgA, rgB, rgC, rgD, rgE, rgF]
    refine wpAnyT_pure (i := 3) (v := ?_) rfl (by kernel_rfl) (by kernel_rfl) (by kernel_rfl) (fun _ _ _ h => h) (by rfl) ?_ ?_
    rotate_left
    · intro w; go_simp; try with_reducible rfl
    simp only [Act.put, rgA, rgB, rgC, rgD, rgE, rgF]
    refine wpAnyT_pure (i := 4) (v := ?_) rfl (by kernel_rfl) (by kernel_rfl) (by kernel_rfl) (fun _ _ _ h => h) (by rfl) ?_ ?_
    rotate_left
    · intro w; go_simp; try with_reducible rfl
    simp only [Act.put, rgA, rgB, rgC, rgD, rgE, rgF]
    refine wpAnyT_pure (i := 5) (v := ?_) rfl (by kernel_rfl) (by kernel_rfl) (by kernel_rfl) (fun _ _ _ h => h) (by rfl) ?_ ?_
    rotate_left
    · intro w; go_simp; try with_reducible rfl
    simp only [Act.put, rgA, rgB, rgC, rgD, rgE, rgF]
    refine wpAnyT_pure (i := 6) (v := ?_) rfl (by kernel_rfl) (by kernel_rfl) (by kernel_rfl) (fun _ _ _ h => h) (by rfl) ?_ ?_
    rotate_left
    · intro w; go_simp; try with_reducible rfl
    simp only [Act.put, rgA, rgB, rgC, rgD, rgE, rgF]
    refine wpAnyT_pure (i := 7) (v := ?_) rfl (by kernel_rfl) (by kernel_rfl) (by kernel_rfl) (fun _ _ _ h => h) (by rfl) ?_ ?_
    rotate_left
    · intro w; go_simp; try with_reducible rfl
    simp only [Act.put, rgA, rgB, rgC, rgD, rgE, rgF]
    refine wpAnyT_pure (i := 8) (v := ?_) rfl (by kernel_rfl) (by kernel_rfl) (by kernel_rfl) (fun _ _ _ h => h) (by rfl) ?_ ?_
    rotate_left
    · intro w; go_simp; try with_reducible rfl
    simp only [Act.put, rgA, rgB, rgC, rgD, rgE, rgF]
    refine wpAnyT_pure (i := 9) (v := ?_) rfl (by kernel_rfl) (by kernel_rfl) (by kernel_rfl) (fun _ _ _ h => h) (by rfl) ?_ ?_
    rotate_left
    · intro w; go_simp; try with_reducible rfl
    simp only [Act.put, rgA, rgB, rgC, rgD, rgE, rgF]
    refine wpAnyT_pure (i := 10) (v := ?_) rfl (by kernel_rfl) (by kernel_rfl) (by kernel_rfl) (fun _ _ _ h => h) (by rfl) ?_ ?_
    rotate_left
    · intro w; go_simp; try with_reducible rfl
    simp only [Act.put, rgA, rgB, rgC, rgD, rgE, rgF]
    refine wpAnyT_pure (i := 11) (v := ?_) rfl (by kernel_rfl) (by kernel_rfl) (by kernel_rfl) (fun _ _ _ h => h) (by rfl) ?_ ?_
    rotate_left
    · intro w; go_simp; try with_reducible rfl
    simp only [Act.put, rgA, rgB, rgC, rgD, rgE, rgF]
    refine wpAnyT_pure (i := 12) (v := ?_) rfl (by kernel_rfl) (by kernel_rfl) (by kernel_rfl) (fun _ _ _ h => h) (by rfl) ?_ ?_
    rotate_left
    · intro w; go_simp; try with_reducible rfl
    simp only [Act.put, rgA, rgB, rgC, rgD, rgE, rgF]
    refine wpAnyT_loadW (i := 1) (v := ?_) rfl (by kernel_rfl) (by kernel_rfl) (by kernel_rfl) (by kernel_rfl) (by kernel_rfl) (fun _ _ _ h => h) (Or.inl ⟨by rfl, ?_⟩) hSss19 ?_
    rotate_left
    · intro w hSw; obtain ⟨e0, e1, e2, e3, -⟩ := hSw; go_simp; try with_reducible rfl
    simp only [Act.put, rgA, rgB, rgC, rgD, rgE, rgF]
    refine wpAnyT_one (i := 13) (by kernel_rfl) rfl (by rfl) ?_
    have hbP : Below w3.heap.size w3 s19 := hB_0_s19.trans ((hB_s19_s19).mono (hB_0_s19).size)
    have hq := (hbP.block _ (blk_lt HR3.out)).trans HR3.out
    have hrow := setRow_heap _ _ _ #[.int .i64 x1, .int .i64 x2, .slice ra rl rc, .slice none 0 0] _ _ hq
    have hbN := below_setRow (n := w.heap.size) (p := pb + 1) (below_step HB3.out hbP) (by rw [HPB.out]; omega) #[.int .i64 x1, .int .i64 x2, .slice ra rl rc, .slice none 0 0]
    have hG := gr_setRow s19 (pb + 1) #[.int .i64 x1, .int .i64 x2, .slice ra rl rc, .slice none 0 0]
    have hP := HB23.out.trans (hbP.mono HB23.out.size)
    refine wp_store_row 35 _ _ rfl (pb + 1) #[.int .i64 x1, .int .i64 x2, .slice ra rl rc, .slice none 0 0] (by kernel_rfl) (by kernel_rfl) 35 _ hq (by kernel_rfl) (by rfl) (by simp [Value.oneCell']) ?_
    generalize World.setRow _ _ _ = w120 at hrow hbN hG ⊢
    refine ⟨fun h => absurd h (by decide), ?_⟩
    try simp only [Act.put, rgA, rgB, rgC, rgD, rgE, rgF]
    refine wpAnyT_pure (i := 14) (v := ?_) rfl (by kernel_rfl) (by kernel_rfl) (by kernel_rfl) (fun _ _ _ h => h) (by rfl) ?_ ?_
    rotate_left
    · intro w; go_simp; try with_reducible rfl
    simp only [Act.put, rgA, rgB, rgC, rgD, rgE, rgF]
    refine wpAnyT_done (by kernel_rfl) ?_ _
    obtain ⟨w4, rfl⟩ : ∃ x, x = w120 := ⟨_, rfl⟩
    have HROW := Lib.hid hrow
    have HBN := Lib.hid hbN
    have HFIN := Lib.hid (show StartC (gN n) (xs.map tk) a len cap w (some ⟨pp, 0, none⟩) x1 x2 ra rl rc w4 from .inr ⟨HN3.out, HN5.out, SS, pp, mm, rfl, Nat.le_trans HWW.out HG2.out, (HG3.out.below hP).setRow' hG (by have := HPW.out; have := HG4.out; omega) (by have := HPW.out; have := HG2.out; omega) (fun b hb => by have := HPW.out; have := HG5.out b hb; omega)⟩)
    clear hrow hbN hq hbP hG hP
    go_wp2_with fail
    refine bodyPost_ret (results_tct rfl _ _ (pb + 1) 35 _ (0, 0) _ rfl HROW.out Tryz.underlying35 rfl (by kernel_rfl)) rfl ?_
    exact ⟨_, x1, x2, ra, rl, rc, rfl, HBN.out, HFIN.out⟩
end Go.Proofs.YtdcjocldggmdbaaGreat

/- Layer 53: a sort of one signature. -/
set_option linter.unusedSimpArgs false
namespace Go.Proofs.YtdcjocldggmdbaaGreat
open Go.RowKit Go

set_option maxRecDepth 20000 in
set_option maxHeartbeats 1000000 in
theorem insertS (w : World) (a : Option Addr) (cap : Nat) (fv : Value) :
    Calls Tryz.prog 69 #[.slice a 1 cap, .int .i64 0, .int .i64 1, fv] w fun e w' => e = .returned (.tuple #[]) ∧ w' = w := by
  go_enter Tryz.func69, Tryz.ntmps69
  go_wp2_with fail
  refine wp_loop_rounds 1 ?_
  repeat any_goals (rw [rounds_succ]; go_wp2)
  refine bodyPost_end (results_none rfl _ _ _) rfl ?_
  exact ⟨rfl, rfl⟩
set_option maxRecDepth 20000 in
set_option maxHeartbeats 1000000 in
theorem pdqS (w : World) (a : Option Addr) (cap : Nat) (r : Int) (fv : Value) :
    Calls Tryz.prog 58 #[.slice a 1 cap, .int .i64 0, .int .i64 1, .int .i64 r, fv] w fun e w' => e = .returned (.tuple #[]) ∧ w' = w := by
  go_enter Tryz.func58, Tryz.ntmps58
  go_wp2_with fail
  refine wp_loop_rounds 1 ?_
  repeat any_goals (rw [rounds_succ]; go_wp2_with fail)
  refine (insertS w a cap fv).mono ?_
  rintro e w1 ⟨rfl, rfl⟩
  go_wp2_with fail
  exact bodyPost_ret (results_none rfl _ _ _) rfl ⟨rfl, rfl⟩
set_option maxRecDepth 20000 in
set_option maxHeartbeats 1000000 in
theorem sortS (w : World) (a : Option Addr) (cap : Nat) (fv : Value) :
    Calls Tryz.prog 42 #[.slice a 1 cap, fv] w fun e w' => e = .returned (.tuple #[]) ∧ w' = w := by
  go_enter Tryz.func42, Tryz.ntmps42
  go_wp2_with fail
  refine (len53 w 1 (by omega)).mono ?_
  rintro e w1 ⟨r, rfl, rfl⟩
  go_wp2_with fail
  refine (pdqS w1 a cap r fv).mono ?_
  rintro e w2 ⟨rfl, rfl⟩
  go_wp2_with fail
  exact bodyPost_end (results_none rfl _ _ _) rfl ⟨rfl, rfl⟩
end Go.Proofs.YtdcjocldggmdbaaGreat

/- Layer 53: what reads as a key; the step of a range over what is signed. -/
set_option linter.unusedSimpArgs false
set_option maxRecDepth 50000
namespace Go.Proofs.YtdcjocldggmdbaaGreat
open Go.RowKit Go

theorem keyOf_key {v : Value} {kl : Lit} (h : keyOf Tryz.prog 48 v = some kl) : ∃ c : Ky, c.ok ∧ v = c.v ∧ kl = c.l := by
  have hkt : Tryz.prog.keyType 48 = true := by kernel_rfl
  have hco : Tryz.prog.cellsOf 48 = 3 := by kernel_rfl
  have hc3 : Tryz.prog.cellsOf 3 = 1 := by kernel_rfl
  have hc9 : Tryz.prog.cellsOf 9 = 1 := by kernel_rfl
  obtain ⟨n, hn⟩ : ∃ n, Tryz.prog.types.size = n + 1 := ⟨Tryz.prog.types.size - 1, by have : 0 < Tryz.prog.types.size := of_decide_eq_true (by kernel_rfl); omega⟩
  have h0 := h
  have hcell : ∀ (d : Nat) (a : Value) (ls : List Lit), Tryz.prog.keyLits (d + 1) 3 [a] = some ls → ∃ x : Int, a = .int .i64 x ∧ (Lit.int .i64 x).wf = true := by
    intro d a ls ha
    cases a <;> simp [Program.keyLits, Tryz.underlying3] at ha
    obtain ⟨⟨rfl, h2⟩, -⟩ := ha
    exact ⟨_, rfl, by simpa using h2⟩
  have hcelS : ∀ (d : Nat) (a : Value) (ls : List Lit), Tryz.prog.keyLits (d + 1) 9 [a] = some ls → ∃ x : ByteArray, a = .string x ∧ x.size ≤ maxLen := by
    intro d a ls ha
    cases a <;> simp [Program.keyLits, Tryz.underlying9] at ha
    exact ⟨_, rfl, by first | exact ha.1 | (simpa using ha.1)⟩
  unfold keyOf at h
  simp only [Tryz.underlying48, hkt, hn] at h
  split at h
  · rename_i hf
    have hf : v.formed Tryz.prog 48 = true := by simpa using hf
    obtain ⟨cs, rfl⟩ : ∃ cs, v = .agg cs := by cases v <;> first | exact ⟨_, rfl⟩ | simp [Value.formed, Tryz.underlying48] at hf
    simp only [Value.formed, Tryz.underlying48, hco, beq_iff_eq] at hf
    obtain ⟨cs⟩ := cs
    match cs, hf with
    | [a, b, c], _ =>
      simp only [Value.cells] at h
      unfold Program.keyLits at h
      simp only [Tryz.underlying48, hco, hc3, hc9] at h
      simp only [hc3, hc9, List.length_cons, List.length_nil, true_and, List.mapM_cons, List.mapM_nil, List.drop_zero, List.take, List.drop] at h
      have hn' : ∃ m, n = m + 1 := ⟨n - 1, by have : 1 < Tryz.prog.types.size := of_decide_eq_true (by kernel_rfl); omega⟩
      obtain ⟨m, rfl⟩ := hn'
      cases h1 : Tryz.prog.keyLits (m + 1 + 1) 9 [a] with
      | none => simp [h1] at h
      | some l1 =>
      cases h2 : Tryz.prog.keyLits (m + 1 + 1) 3 [b] with
      | none => simp [h1, h2] at h
      | some l2 =>
      cases h3 : Tryz.prog.keyLits (m + 1 + 1) 3 [c] with
      | none => simp [h1, h2, h3] at h
      | some l3 =>
      obtain ⟨a, rfl, w1⟩ := hcelS _ _ _ h1
      obtain ⟨b, rfl, w2⟩ := hcell _ _ _ h2
      obtain ⟨c, rfl, w3⟩ := hcell _ _ _ h3
      refine ⟨⟨a, b, c⟩, ⟨w1, w2, w3⟩, rfl, ?_⟩
      unfold Ky.l Ky.v
      simp only
      rw [h0]; rfl
  · cases h
theorem ranges_has53 {P : Program} {k : TypeId} {R : Value → Option (DataW Unit × List MemPlace)} {w : World} {b r n : Nat} {D : DataW Unit} {left : Lit → Bool} {cnt : Nat} (K : Maps.Keyed P k) (h : w.ranges P k R b r n D left cnt) (kl : Lit) (hl : left kl = true) : Maps.has D kl = true := by
  obtain ⟨es, clock, since, seen, c0, hb, F, hs, rfl, hr, hold, hc, h1, h2, h3⟩ := h
  obtain ⟨x, hx, rfl⟩ := h2 kl hl
  obtain ⟨y, hy⟩ := F.reads x hx
  exact List.any_eq_true.2 ⟨WideElems.rg P k R x, mem_sorted.2 (List.mem_map.2 ⟨x, hx, rfl⟩), WideAt.sameKey_self (by rw [WideElems.rg_of hy]; exact K.key (WideElems.rd_key hy))⟩
/-- The step of the loop over what is signed. -/
theorem wpList_next53 {w : World} {ops : Array Oper} {rest : List Oper} {o : Oper} {a : Act} {Q : Exit → Act → World → Prop} (hg : o.guard = none) (it : Operand) (hop : o.op = Op.next it false) {b r n : Nat} {D : DataW Unit} {left : Lit → Bool} {cnt : Nat} {f : Ky → Option ByteArray}
    (hit : a.eval it = .pointer (some ⟨r, 0, none⟩)) (h : w.ranges Tryz.prog 48 strE.R b r n D left cnt) (hf : ∀ x : Ky, x.ok → Maps.has D (Ky.l x) = (f x).isSome)
    (hDone : (∀ kl, left kl = false) → wpList Tryz.prog ops Q rest (a.put o.dst (.tuple #[.bool false])) w)
    (hMore : ∀ (c : Ky) (s : ByteArray) (w' : World) (cnt' : Nat), c.ok → s.size ≤ maxLen → (f c).isSome = true → left (Ky.l c) = true → w'.ranges Tryz.prog 48 strE.R b r n D (fun z => left z && !z.sameKey (Ky.l c)) cnt' → cnt' < cnt →
      w.grownBy w' (some r) → w'.heap.size = w.heap.size → Sem.run Tryz.prog (Instr.entry (.pointer (some ⟨r, 0, none⟩))) w' = .ok (.tuple #[c.v, .string s]) w' → wpList Tryz.prog ops Q rest (a.put o.dst (.tuple #[.bool true, c.v, .string s])) w') :
    wpList Tryz.prog ops Q (o :: rest) a w := by
  refine wpList_next_ranges w hg it hop 48 keyK.K strE.R Ky.v Value.string (fun key kl hk => by obtain ⟨c, -, rfl, -⟩ := keyOf_key hk; exact ⟨c, rfl⟩) (fun v y hy => ?_) b r n D left cnt hit h (fun _ hl => hDone hl) ?_
  · unfold strE at hy
    simp only at hy
    unfold plainElem at hy
    rw [Tryz.underlying9] at hy
    cases v <;> simp at hy
    exact ⟨_, rfl⟩
  · intro c s kl y w' cnt' hkey hl hR hat hrg hlt hgr hsz hen
    obtain ⟨c', hok, hcv, rfl⟩ := keyOf_key hkey
    obtain rfl := Ky.v_inj hcv
    have hh := ranges_has53 keyK.K h _ hl
    have hfc := hf c hok
    rw [hh] at hfc
    have hs : s.size ≤ maxLen := by
      have hR' : strE.R (.string s) = some y := hR
      unfold strE at hR'
      simp only at hR'
      unfold plainElem at hR'
      rw [Tryz.underlying9] at hR'
      by_cases hsz' : s.size ≤ maxLen
      · exact hsz'
      · simp [hsz'] at hR'
    exact hMore c s w' cnt' hok hs hfc.symm hl hrg hlt hgr hsz hen
end Go.Proofs.YtdcjocldggmdbaaGreat

/- Layer 53: Signatures, of one signature. -/
set_option linter.unusedSimpArgs false
set_option maxRecDepth 50000
namespace Go.Proofs.YtdcjocldggmdbaaGreat
open Go.RowKit Go

abbrev sgT : Ty := .pr keyT (.pr .str .un)
theorem info_sg : (Tryz.prog.info? 100).map (fun i => (i.zero, i.size, i.bytes)) = some (some (.agg #[.string ⟨#[]⟩, .int .i64 0, .int .i64 0, .string ⟨#[]⟩]), sgT.sz, 48) := by kernel_rfl
theorem sg_rd {S : Nat → Prop} {w : World} {k : Ky} {s : ByteArray} (h : k.ok) (hs : s.size ≤ maxLen) : Rd sgT S w [.string k.task, .int .i64 k.ent, .int .i64 k.per, .string s] (k.d, s, ()) :=
  ⟨[_, _, _], _, rfl, key_rd h, [_], _, rfl, ⟨rfl, hs⟩, rfl⟩
theorem key_same (x k : Ky) (hx : x.ok) : (Ky.l x).sameKey (Ky.l x) = true := WideAt.sameKey_self (keyK.K.key (Ky.l_eq x hx))
set_option maxRecDepth 20000 in
set_option maxHeartbeats 4000000 in
theorem sigs53 {S : Nat → Prop} (w : World) (p : Nat) (ts : List Tk) (ne np m n : Nat) (f : Ky → Option ByteArray) (h : WfIn S w p ts ne np m n f) (k0 : Ky) (hk0 : k0.ok) (hf : ∀ x : Ky, x.ok → (f x).isSome = true → x = k0) (hs : (f k0).isSome = true) :
    Calls Tryz.prog 20 #[.pointer (some ⟨p, 0, none⟩)] w fun e w' => ∃ a c, e = .returned (.slice a 1 c) ∧ Below w.heap.size w w' := by
  have hB := (Below.refl w.heap.size w).alloc (Nat.le_refl _) (.cells #[.pointer (some ⟨p, 0, none⟩)] 32)
  have h1 := h.below hB
  obtain ⟨wa, wl, wc, wxs, hrow, -, -⟩ := h1.wf.row
  have k3 := blk_cell hrow 3
  simp at k3
  obtain ⟨D, hown, hsz, hD0⟩ := id h1.mp
  have HH := Lib.hid h1
  have HBX := Lib.hid hB
  have HF := Lib.hid hf
  have HK0 := Lib.hid hk0
  have HOWN := Lib.hid hown
  have HD := Lib.hid (show ∀ x : Ky, x.ok → Maps.has D (Ky.l x) = (f x).isSome from fun x hx => (hD0 x hx).1)
  have HST := Lib.hid (show Maps.has D (Ky.l k0) = true from by rw [← hs]; exact (hD0 k0 hk0).1)
  clear h hB h1 hrow hown hsz hD0 hf hk0 hs
  go_enter Tryz.func20, Tryz.ntmps20
  go_wp2_with (at_range; go_must (refine wpList_range_own _ rfl _ 90 rfl 48 9 keyK.K Tryz.underlying90 strE.R m n D rfl HOWN.out ?_); intro w0 hrg0 hg0 hs0)
  go_frame
  have hkB : Below w.heap.size w (w.alloc (.cells #[.pointer (some ⟨p, 0, none⟩)] 32)) := HBX.out
  generalize hw1 : w.alloc (.cells #[.pointer (some ⟨p, 0, none⟩)] 32) = w1 at *
  have hr1 : w1.heap.size = w.heap.size + 1 := by rw [← hw1]; simp
  have HR1 := Lib.hid hr1
  have hmr : m ≠ w1.heap.size := fun e => by have := HH.out.mp.lt; omega
  clear hw1
  have HB0 := Lib.hid (show Below w1.heap.size w1 w0 from (Below.refl w1.heap.size w1).grown hg0 (Nat.le_refl _) (fun c hc => by cases hc))
  have HRG := Lib.hid hrg0
  have hsz0 : w0.heap.size = w1.heap.size + 1 := hs0
  have HSZ := Lib.hid hsz0
  clear hrg0 hg0 hs0 hr1 hkB hsz0
  go_loopw [3] (fun ov wr => ∃ (left : Lit → Bool) (cnt : Nat) (xs : List sgT.den), Owns sgT 100 (w1.heap.size + 1) (fun _ => False) wr ov xs ∧ wr.ranges Tryz.prog 48 strE.R m (w1.heap.size) n D left cnt ∧ ((left (Ky.l k0) = true ∧ xs = []) ∨ (left (Ky.l k0) = false ∧ xs.length = 1)) ∧ Below w1.heap.size w1 wr ∧ w1.heap.size + 1 ≤ wr.heap.size) (fun _ wr => wr.rangeLeft m (w1.heap.size))
  case atStart => exact ⟨Maps.has D, _, [], Owns.nil _ _ _ _, HRG.out, .inl ⟨HST.out, rfl⟩, HB0.out, by rw [HSZ.out]; exact Nat.le_refl _⟩
  case round =>
    obtain ⟨left, cnt, xs, hO, hrg, hcase, hB, hle⟩ := hrel
    obtain ⟨oa, ol, oc, rfl, hol, -⟩ := hO.slice
    have HO := Lib.hid hO
    have HRGr := Lib.hid hrg
    have HCASE := Lib.hid hcase
    have HB := Lib.hid hB
    have HOL := Lib.hid hol
    clear hO hrg hcase hB hol
    go_wp2_with (first | (at_next; go_must (refine wpList_next53 rfl _ rfl (f := f) rfl HRGr.out HD.out ?_ ?_)) | go_in)
    · intro hl0
      have hx1 : ol = 1 := by
        rcases HCASE.out with ⟨h1, -⟩ | ⟨-, h2⟩
        · rw [hl0] at h1; cases h1
        · rw [HOL.out]; exact h2
      subst hx1
      clear hl0
      go_wp2_with fail
      refine (sortS wr oa oc _).mono ?_
      rintro e w3 ⟨rfl, rfl⟩
      go_wp2_with fail
      go_ret
      exact ⟨_, _, rfl, HBX.out.trans (HB.out.mono (by rw [HR1.out]; omega))⟩
    · intro c s w2 cnt2 hcok hsok hfc hlc hrg2 hlt hg2 hs2 hen
      have hck : c = k0 := HF.out c hcok hfc
      subst hck
      obtain ⟨c1, c2, c3⟩ := c
      unfold Ky.v at hen ⊢
      simp only at hen ⊢
      have HXS := Lib.hid (show xs = [] from by
        rcases HCASE.out with ⟨-, h2⟩ | ⟨h1, -⟩
        · exact h2
        · rw [hlc] at h1; cases h1)
      have hO2 : Owns sgT 100 (w1.heap.size + 1) (fun _ => False) w2 (.slice oa ol oc) xs := HO.out.gr (Gr.of_grown hg2) (fun _ h => h.elim) (fun b e1 e2 => by have := (HO.out.own b e1).1; have := Option.some.inj e2; omega)
      have HO2 := Lib.hid hO2
      have HB2 := Lib.hid (HB.out.grown hg2 HB.out.size (fun c hc => by have := Option.some.inj hc; omega))
      have HRG2 := Lib.hid hrg2
      have HLT := Lib.hid hlt
      have HS2 := Lib.hid hs2
      have HOK := Lib.hid (And.intro hcok hsok)
      clear hcok hsok hfc hlc hrg2 hlt hg2 hs2 hO2
      have hmlt : m < w1.heap.size := HH.out.mp.lt
      go_wp2_with (at_builtin; go_must (refine wpList_app _ rfl _ _ 71 rfl (e := sgT) (te := 100) info_sg Tryz.underlying71 rfl (by decide) (base := w1.heap.size + 1) (S := fun _ => False) (v := .slice oa ol oc) (xs := xs) rfl ((HO2.out.alloc _).alloc _) (by have := HS2.out; simp only [World.size_alloc]; omega) (sv := .slice (some ⟨w2.heap.size + 1, 0, none⟩) 1 1) rfl (ys := [(Ky.d ⟨c1, c2, c3⟩, s, ())]) (by simpa using Src.new (w2.alloc (.cells #[.string c1, .int .i64 c2, .int .i64 c3] 48)) [.string c1, .int .i64 c2, .int .i64 c3, .string s] 100 1 1) (RdL.one (e := sgT) (sg_rd HOK.out.1 HOK.out.2)) (by rw [HXS.out]; simp) (by rw [HXS.out]; simp) ?_; intro v' w9 O9 g9 _ ob9; have HO9 := Lib.hid O9; have HB9 := Lib.hid (((HB2.out.alloc HB2.out.size (.cells #[.string c1, .int .i64 c2, .int .i64 c3] 48)).alloc (by have := HB2.out.size; simp only [World.size_alloc]; omega) (.cells #[.string c1, .int .i64 c2, .int .i64 c3, .string s] 100)).grown g9 (by have := HB2.out.size; simp only [World.size_alloc]; omega) (fun c hc => by have := (HO2.out.own c hc).1; omega)); have HRG9 := Lib.hid (((HRG2.out.kept (World.grownBy_alloc w2 (.cells #[.string c1, .int .i64 c2, .int .i64 c3] 48) none) (by simp) (by simp)).kept (World.grownBy_alloc (w2.alloc (.cells #[.string c1, .int .i64 c2, .int .i64 c3] 48)) (.cells #[.string c1, .int .i64 c2, .int .i64 c3, .string s] 100) none) (by simp) (by simp)).kept g9 (fun e => by have := (HO2.out.own m e.symm).1; omega) (fun e => by have := (HO2.out.own _ e.symm).1; omega)); have HLE9 := Lib.hid (show w1.heap.size + 1 ≤ w9.heap.size from by have h1 := g9.size; have h2 := HS2.out; simp only [World.size_alloc] at h1; omega); clear O9 g9 ob9))
      go_roundw
      case rel => exact ⟨_, cnt2, _, HO9.out, HRG9.out, .inr ⟨by simp [key_same _ ⟨c1, c2, c3⟩ HOK.out.1], by rw [HXS.out]; rfl⟩, HB9.out, HLE9.out⟩
      case measure => rw [HRG9.out.left_eq, HRGr.out.left_eq]; exact HLT.out
end Go.Proofs.YtdcjocldggmdbaaGreat
