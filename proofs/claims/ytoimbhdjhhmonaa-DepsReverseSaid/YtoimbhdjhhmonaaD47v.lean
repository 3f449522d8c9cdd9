/- Layer 47: the reference's Compare. -/
import Derived.Test.YtoimbhdjhhmonaaD47m
import Derived.Test.YtoimbhdjhhmonaaP47c
set_option linter.unusedSimpArgs false
set_option maxRecDepth 50000
namespace Go.Proofs.Ytoimbhdjhhmonaa
open Go.RowKit Go

def C4.at_ (c : C4) : Nat → Int
  | 0 => c.st
  | 1 => c.pe
  | 2 => c.en
  | _ => c.ot
theorem cmp_self (a : Int) : cmpI a a = 0 := by unfold cmpI; rw [if_neg (by omega), if_neg (by omega)]
theorem cmp_lt {a b : Int} (h : a < b) : cmpI a b = -1 := by unfold cmpI; rw [if_pos h]
theorem cmp_gt {a b : Int} (h : b < a) : cmpI a b = 1 := by unfold cmpI; rw [if_neg (by omega), if_pos h]
theorem cfC_first {x y : C4} {q : Nat} (hq : q < 4) (h : ∀ j, j < q → x.at_ j = y.at_ j) : (x.at_ q < y.at_ q → cfC x y = -1) ∧ (y.at_ q < x.at_ q → cfC x y = 1) := by
  obtain ⟨x1, x2, x3, x4⟩ := x
  obtain ⟨y1, y2, y3, y4⟩ := y
  unfold cfC
  match q, hq with
  | 0, _ =>
    simp only [C4.at_]
    exact ⟨fun h' => by rw [cmp_lt h']; rfl, fun h' => by rw [cmp_gt h']; rfl⟩
  | 1, _ =>
    have h0 := h 0 (by omega)
    simp only [C4.at_] at h0 ⊢
    subst h0
    exact ⟨fun h' => by rw [cmp_self, cmp_lt h']; rfl, fun h' => by rw [cmp_self, cmp_gt h']; rfl⟩
  | 2, _ =>
    have h0 := h 0 (by omega)
    have h1 := h 1 (by omega)
    simp only [C4.at_] at h0 h1 ⊢
    subst h0 h1
    exact ⟨fun h' => by rw [cmp_self, cmp_self, cmp_lt h']; rfl, fun h' => by rw [cmp_self, cmp_self, cmp_gt h']; rfl⟩
  | 3, _ =>
    have h0 := h 0 (by omega)
    have h1 := h 1 (by omega)
    have h2 := h 2 (by omega)
    simp only [C4.at_] at h0 h1 h2 ⊢
    subst h0 h1 h2
    exact ⟨fun h' => by rw [cmp_self, cmp_self, cmp_self, cmp_lt h']; rfl, fun h' => by rw [cmp_self, cmp_self, cmp_self, cmp_gt h']; rfl⟩
theorem cfC_all {x y : C4} (h : ∀ j, j < 4 → x.at_ j = y.at_ j) : cfC x y = 0 := by
  obtain ⟨x1, x2, x3, x4⟩ := x
  obtain ⟨y1, y2, y3, y4⟩ := y
  have h0 := h 0 (by omega)
  have h1 := h 1 (by omega)
  have h2 := h 2 (by omega)
  have h3 := h 3 (by omega)
  simp only [C4.at_] at h0 h1 h2 h3
  rw [cfC_zero]
  simp [h0, h1, h2, h3]
theorem row4_at {w : World} {b : Nat} {x : C4} {t : TypeId} (h : w.heap[b]? = some (.cells #[.int .i64 x.st, .int .i64 x.pe, .int .i64 x.en, .int .i64 x.ot] t (0, 0))) {q : Nat} (hq : q < 4) : w.cell? ⟨b, q, none⟩ = some (.int .i64 (x.at_ q)) := by
  rw [blk_cell h]
  match q, hq with
  | 0, _ => rfl
  | 1, _ => rfl
  | 2, _ => rfl
  | 3, _ => rfl
set_option maxHeartbeats 1000000 in
theorem rcompare47 (w : World) (x y : C4) :
    Calls Try.prog 57 #[x.v, y.v] w fun e w' => e = .returned (.int .i64 (cfC x y)) ∧ Below w.heap.size w w' := by
  have HF := Lib.hid (fun q (hq : q < 4) h => cfC_first (x := x) (y := y) hq h)
  have HA := Lib.hid (fun h => cfC_all (x := x) (y := y) h)
  generalize cfC x y = r at HF HA ⊢
  have hB := (Below.refl w.heap.size w).alloc (Nat.le_refl _) (.cells #[.int .i64 x.st, .int .i64 x.en, .int .i64 x.ot, .int .i64 x.pe] 38)
  have hB := hB.alloc hB.size (.cells #[.int .i64 y.st, .int .i64 y.en, .int .i64 y.ot, .int .i64 y.pe] 38)
  have hx := heap_alloc2_old w (.cells #[.int .i64 x.st, .int .i64 x.en, .int .i64 x.ot, .int .i64 x.pe] 38) (.cells #[.int .i64 y.st, .int .i64 y.en, .int .i64 y.ot, .int .i64 y.pe] 38)
  have hy := heap_alloc2_new w (.cells #[.int .i64 x.st, .int .i64 x.en, .int .i64 x.ot, .int .i64 x.pe] 38) (.cells #[.int .i64 y.st, .int .i64 y.en, .int .i64 y.ot, .int .i64 y.pe] 38)
  have HX := Lib.hid hx
  have HY := Lib.hid hy
  have HB := Lib.hid hB
  clear hB hx hy
  unfold C4.v
  go_enter Try.func57, Try.ntmps57
  go_upto_region 1 with fail
  generalize World.alloc (World.alloc w _) _ = w1 at *
  have y0 := blk_cell HX.out 0
  have y1 := blk_cell HX.out 1
  have y2 := blk_cell HX.out 2
  have y3 := blk_cell HX.out 3
  have z0 := blk_cell HY.out 0
  have z1 := blk_cell HY.out 1
  have z2 := blk_cell HY.out 2
  have z3 := blk_cell HY.out 3
  simp at y0 y1 y2 y3 z0 z1 z2 z3
  have H5 := Lib.hid (heap_alloc_new w1 (.cells #[.int .i64 x.st, .int .i64 x.pe, .int .i64 x.en, .int .i64 x.ot] 99))
  have HB5 := Lib.hid ((Below.refl w1.heap.size w1).alloc (Nat.le_refl _) (.cells #[.int .i64 x.st, .int .i64 x.pe, .int .i64 x.en, .int .i64 x.ot] 99))
  go_upto_region 2 with fail
  generalize World.alloc w1 _ = w2 at *
  have HY2 := Lib.hid ((HB5.out.block _ (blk_lt HY.out)).trans HY.out)
  clear y0 y1 y2 y3 z0 z1 z2 z3 HX HY
  have z0 := blk_cell HY2.out 0
  have z1 := blk_cell HY2.out 1
  have z2 := blk_cell HY2.out 2
  have z3 := blk_cell HY2.out 3
  simp at z0 z1 z2 z3
  have H6 := Lib.hid (heap_alloc_new w2 (.cells #[.int .i64 y.st, .int .i64 y.pe, .int .i64 y.en, .int .i64 y.ot] 99))
  have HB6 := Lib.hid ((Below.refl w2.heap.size w2).alloc (Nat.le_refl _) (.cells #[.int .i64 y.st, .int .i64 y.pe, .int .i64 y.en, .int .i64 y.ot] 99))
  go_upto_region 3 with fail
  generalize World.alloc w2 _ = w3 at *
  have HX3 := Lib.hid ((HB6.out.block _ (blk_lt H5.out)).trans H5.out)
  have HB3 := Lib.hid (below_step HB.out (below_step HB5.out HB6.out))
  obtain ⟨bx, hbx⟩ : ∃ b, w1.heap.size = b := ⟨_, rfl⟩
  obtain ⟨by_, hby⟩ : ∃ b, w2.heap.size = b := ⟨_, rfl⟩
  rw [hbx] at HX3 ⊢
  rw [hby] at H6 ⊢
  clear hbx hby z0 z1 z2 z3 HY2 H5 HB HB5 HB6
  go_wp2_with fail
  go_loopw [7] (fun i wr => ∃ q : Nat, q ≤ 4 ∧ i = .int .i64 q ∧ (∀ j, j < q → x.at_ j = y.at_ j) ∧ Below w3.heap.size w3 wr) (fun i _ => 4 - (intOf i).toNat)
  case atStart => exact ⟨0, by omega, rfl, fun j hj => absurd hj (by omega), Below.refl _ _⟩
  obtain ⟨q, hq, rfl, hno, hBr⟩ := hrel
  have HNO := Lib.hid hno
  have HBr := Lib.hid hBr
  clear hno
  by_cases hlt : q < 4
  · have hqI : (q : Int) < 4 := by omega
    have HLT := Lib.hid hlt
    have mx := row4_at ((hBr.block _ (blk_lt HX3.out)).trans HX3.out) hlt
    have my := row4_at ((hBr.block _ (blk_lt H6.out)).trans H6.out) hlt
    have HFQ := Lib.hid (HF.out q hlt HNO.out)
    have HNN := Lib.hid (show x.at_ q = y.at_ q → ∀ j, j < q + 1 → x.at_ j = y.at_ j from fun h j hj => by
      by_cases e : j = q
      · rw [e]; exact h
      · exact HNO.out j (by omega))
    generalize x.at_ q = a at mx HFQ HNN
    generalize y.at_ q = b at my HFQ HNN
    have hC0 : Cells [(⟨bx, q, none⟩, .int .i64 a), (⟨by_, q, none⟩, .int .i64 b)] wr := ⟨mx, my, trivial⟩
    clear mx my hBr hlt
    obtain ⟨lb, hlb⟩ : ∃ lb, decide (a < b) = lb := ⟨_, rfl⟩
    obtain ⟨gb, hgb⟩ : ∃ gb, decide (b < a) = gb := ⟨_, rfl⟩
    have HLB := Lib.hid hlb
    have HGB := Lib.hid hgb
    clear hlb hgb
    go_wp2_with fail
    refine wp_region_T (Cells [(⟨bx, q, none⟩, .int .i64 a), (⟨by_, q, none⟩, .int .i64 b)]) (fun _ => false) (by kernel_rfl) ?_
    have hSss1 := Cells.drew hC0
    have hB_0_s1 : Below wr.heap.size wr wr.drew := below_drew _
    generalize wr.drew = s1 at hSss1 hB_0_s1 ⊢
    have hB_s1_s1 := Below.refl s1.heap.size s1
    refine wpAnyT_pure (i := 0) (v := ?_) rfl (by kernel_rfl) (by kernel_rfl) (by kernel_rfl) (fun _ _ _ h => h) (by rfl) ?_ ?_
    rotate_left
    · intro w; go_simp; try with_reducible rfl
    simp only [Act.put, rgA, rgB, rgC, rgD, rgE, rgF]
    refine wpAnyT_pure (i := 1) (v := ?_) rfl (by kernel_rfl) (by kernel_rfl) (by kernel_rfl) (fun _ _ _ h => h) (by rfl) ?_ ?_
    rotate_left
    · intro w; go_simp; try with_reducible rfl
    simp only [Act.put, rgA, rgB, rgC, rgD, rgE, rgF]
    refine wpAnyT_pure (i := 3) (v := ?_) rfl (by kernel_rfl) (by kernel_rfl) (by kernel_rfl) (fun _ _ _ h => h) (by rfl) ?_ ?_
    rotate_left
    · intro w; go_simp; try with_reducible rfl
    simp only [Act.put, rgA, rgB, rgC, rgD, rgE, rgF]
    refine wpAnyT_pure (i := 4) (v := ?_) rfl (by kernel_rfl) (by kernel_rfl) (by kernel_rfl) (fun _ _ _ h => h) (by rfl) ?_ ?_
    rotate_left
    · intro w; go_simp; try with_reducible rfl
    simp only [Act.put, rgA, rgB, rgC, rgD, rgE, rgF]
    refine wpAnyT_loadW (i := 2) (v := ?_) rfl (by kernel_rfl) (by kernel_rfl) (by kernel_rfl) (by kernel_rfl) (by kernel_rfl) (fun _ _ _ h => h) (Or.inl ⟨by rfl, ?_⟩) hSss1 ?_
    rotate_left
    · intro w hSw; obtain ⟨e0, e1, -⟩ := hSw; go_simp; try with_reducible rfl
    simp only [Act.put, rgA, rgB, rgC, rgD, rgE, rgF]
    refine wpAnyT_loadW (i := 5) (v := ?_) rfl (by kernel_rfl) (by kernel_rfl) (by kernel_rfl) (by kernel_rfl) (by kernel_rfl) (fun _ _ _ h => h) (Or.inl ⟨by rfl, ?_⟩) hSss1 ?_
    rotate_left
    · intro w hSw; obtain ⟨e0, e1, -⟩ := hSw; go_simp; try with_reducible rfl
    simp only [Act.put, rgA, rgB, rgC, rgD, rgE, rgF]
    refine wpAnyT_pure (i := 6) (v := (.bool lb)) rfl (by kernel_rfl) (by kernel_rfl) (by kernel_rfl) (fun _ _ _ h => h) (by rfl) ?_ ?_
    · intro w; have hq := HLB.out; go_simp <;> exact hq
    simp only [Act.put, rgA, rgB, rgC, rgD, rgE, rgF]
    refine wpAnyT_done (by kernel_rfl) ?_ _
    have HB7 := Lib.hid (hB_0_s1.trans ((hB_s1_s1).mono (hB_0_s1).size))
    have hC1 := Cells.below HB7.out hC0
    obtain ⟨w7, rfl⟩ : ∃ x, x = s1 := ⟨_, rfl⟩
    cases lb
    · go_wp2_with fail
      refine wp_region_T (Cells [(⟨bx, q, none⟩, .int .i64 a), (⟨by_, q, none⟩, .int .i64 b)]) (fun _ => false) (by kernel_rfl) ?_
      have hSss2 := Cells.drew hC1
      have hB_0_s2 : Below w7.heap.size w7 w7.drew := below_drew _
      generalize w7.drew = s2 at hSss2 hB_0_s2 ⊢
      have hB_s2_s2 := Below.refl s2.heap.size s2
      refine wpAnyT_pure (i := 0) (v := ?_) rfl (by kernel_rfl) (by kernel_rfl) (by kernel_rfl) (fun _ _ _ h => h) (by rfl) ?_ ?_
      rotate_left
      · intro w; go_simp; try with_reducible rfl
      simp only [Act.put, rgA, rgB, rgC, rgD, rgE, rgF]
      refine wpAnyT_pure (i := 1) (v := ?_) rfl (by kernel_rfl) (by kernel_rfl) (by kernel_rfl) (fun _ _ _ h => h) (by rfl) ?_ ?_
      rotate_left
      · intro w; go_simp; try with_reducible rfl
      simp only [Act.put, rgA, rgB, rgC, rgD, rgE, rgF]
      refine wpAnyT_pure (i := 3) (v := ?_) rfl (by kernel_rfl) (by kernel_rfl) (by kernel_rfl) (fun _ _ _ h => h) (by rfl) ?_ ?_
      rotate_left
      · intro w; go_simp; try with_reducible rfl
      simp only [Act.put, rgA, rgB, rgC, rgD, rgE, rgF]
      refine wpAnyT_pure (i := 4) (v := ?_) rfl (by kernel_rfl) (by kernel_rfl) (by kernel_rfl) (fun _ _ _ h => h) (by rfl) ?_ ?_
      rotate_left
      · intro w; go_simp; try with_reducible rfl
      simp only [Act.put, rgA, rgB, rgC, rgD, rgE, rgF]
      refine wpAnyT_loadW (i := 2) (v := ?_) rfl (by kernel_rfl) (by kernel_rfl) (by kernel_rfl) (by kernel_rfl) (by kernel_rfl) (fun _ _ _ h => h) (Or.inl ⟨by rfl, ?_⟩) hSss2 ?_
      rotate_left
      · intro w hSw; obtain ⟨e0, e1, -⟩ := hSw; go_simp; try with_reducible rfl
      simp only [Act.put, rgA, rgB, rgC, rgD, rgE, rgF]
      refine wpAnyT_loadW (i := 5) (v := ?_) rfl (by kernel_rfl) (by kernel_rfl) (by kernel_rfl) (by kernel_rfl) (by kernel_rfl) (fun _ _ _ h => h) (Or.inl ⟨by rfl, ?_⟩) hSss2 ?_
      rotate_left
      · intro w hSw; obtain ⟨e0, e1, -⟩ := hSw; go_simp; try with_reducible rfl
      simp only [Act.put, rgA, rgB, rgC, rgD, rgE, rgF]
      refine wpAnyT_pure (i := 6) (v := (.bool gb)) rfl (by kernel_rfl) (by kernel_rfl) (by kernel_rfl) (fun _ _ _ h => h) (by rfl) ?_ ?_
      · intro w; have hq := HGB.out; go_simp <;> exact hq
      simp only [Act.put, rgA, rgB, rgC, rgD, rgE, rgF]
      refine wpAnyT_done (by kernel_rfl) ?_ _
      have HB8 := Lib.hid (HBr.out.trans ((HB7.out.trans ((hB_0_s2.trans ((hB_s2_s2).mono (hB_0_s2).size)).mono HB7.out.size)).mono HBr.out.size))
      obtain ⟨w8, rfl⟩ : ∃ x, x = s2 := ⟨_, rfl⟩
      cases gb
      · go_wp2_with fail
        go_roundw
        case rel => exact ⟨q + 1, HLT.out, by go_num, HNN.out (by have h1 := of_decide_eq_false HLB.out; have h2 := of_decide_eq_false HGB.out; omega), HB8.out⟩
        case measure => simp [intOf]; try omega
      · go_wp2_with fail
        go_ret
        exact ⟨by rw [HFQ.out.2 (of_decide_eq_true HGB.out)]; rfl, below_step HB3.out HB8.out⟩
    · go_wp2_with fail
      go_ret
      exact ⟨by rw [HFQ.out.1 (of_decide_eq_true HLB.out)]; rfl, below_step HB3.out (HBr.out.trans (HB7.out.mono HBr.out.size))⟩
  · obtain rfl : q = 4 := by omega
    clear hBr
    go_wp2_with fail
    go_ret
    exact ⟨by rw [HA.out HNO.out]; rfl, below_step HB3.out HBr.out⟩
end Go.Proofs.Ytoimbhdjhhmonaa

/- Layer 47: the reference's Has, Put, Sorted, Same. -/
set_option linter.unusedSimpArgs false
set_option maxRecDepth 50000
namespace Go.Proofs.Ytoimbhdjhhmonaa
open Go.RowKit Go

theorem map_snoc_d (l : List C4) (c : C4) : l.map C4.d ++ [c.d] = (l ++ [c]).map C4.d := by simp
set_option maxHeartbeats 1000000 in
theorem rhas47 {S : Nat → Prop} (w : World) (a : Option Addr) (cap : Nat) (l : List C4) (hx : Rd (.sl cellT) S w [.slice a l.length cap] (l.map C4.d)) (hS : ∀ b, S b → b < w.heap.size) (c : C4) :
    Calls Try.prog 18 #[.slice a l.length cap, c.v] w fun e w' => e = .returned (.bool (decide (c ∈ l))) ∧ Below w.heap.size w w' := by
  have hlm : l.length ≤ 9223372036854775807 := Nat.le_trans (hx.sl_flat.1 ▸ hx.sl_flat.2.1) hx.sl_flat.2.2.1
  obtain ⟨db, hdb⟩ : ∃ b, decide (c ∈ l) = b := ⟨_, rfl⟩
  rw [hdb]
  have HDB := Lib.hid hdb
  clear hdb
  obtain ⟨c1, c2, c3, c4⟩ := c
  have hB := (Below.refl w.heap.size w).alloc (Nat.le_refl _) (.cells #[.int .i64 c1, .int .i64 c2, .int .i64 c3, .int .i64 c4] 38)
  have hkb := heap_alloc_new w (.cells #[.int .i64 c1, .int .i64 c2, .int .i64 c3, .int .i64 c4] 38)
  have HB := Lib.hid hB
  have HKB := Lib.hid hkb
  unfold C4.v
  simp only
  have HX := Lib.hid (hx.below hB hS)
  have HS := Lib.hid (fun b hb => Nat.lt_of_lt_of_le (hS b hb) hB.size)
  clear hB hkb hx hS
  go_enter Try.func18, Try.ntmps18
  go_wp2_with fail
  generalize World.alloc _ _ = w1 at *
  go_loopw [5] (fun i wr => ∃ (k : Nat), k ≤ l.length ∧ i = .int .i64 k ∧ (⟨c1, c2, c3, c4⟩ : C4) ∉ l.take k ∧ Below w1.heap.size w1 wr) (fun i _ => l.length - (intOf i).toNat)
  case atStart => exact ⟨0, Nat.zero_le _, rfl, by simp, Below.refl _ _⟩
  obtain ⟨k, hk, rfl, hno, hBr⟩ := hrel
  have HNO := Lib.hid hno
  have HBR := Lib.hid hBr
  have hkb := (hBr.block _ (blk_lt HKB.out)).trans HKB.out
  clear hno
  by_cases hlt : k < l.length
  · have hkI : (k : Int) < (l.length : Int) := by omega
    obtain ⟨b, o, rfl, -, m0, m1, m2, m3, -⟩ := cell_at (HX.out.below hBr HS.out) k hlt
    have HTK := Lib.hid (List.take_succ_eq_append_getElem hlt)
    have HIN := Lib.hid (List.getElem_mem hlt)
    generalize l[k] = y at m0 m1 m2 m3 HTK HIN
    have heql := fun W => cell_eql W y ⟨c1, c2, c3, c4⟩
    obtain ⟨eb, heb⟩ : ∃ eb, decide (y = ⟨c1, c2, c3, c4⟩) = eb := ⟨_, rfl⟩
    rw [heb] at heql
    have HEB := Lib.hid heb
    obtain ⟨y1, y2, y3, y4⟩ := y
    unfold C4.v at heql
    simp only at m0 m1 m2 m3 heql
    have HLT := Lib.hid hlt
    have hC0 : Cells [(⟨b, o + k * 4, none⟩, .int .i64 y1), (⟨b, o + k * 4 + 1, none⟩, .int .i64 y2), (⟨b, o + k * 4 + 2, none⟩, .int .i64 y3), (⟨b, o + k * 4 + 3, none⟩, .int .i64 y4), (⟨w.heap.size, 0, none⟩, .int .i64 c1), (⟨w.heap.size, 1, none⟩, .int .i64 c2), (⟨w.heap.size, 2, none⟩, .int .i64 c3), (⟨w.heap.size, 3, none⟩, .int .i64 c4)] wr := ⟨m0, m1, m2, m3, blk_cell hkb 0, blk_cell hkb 1, blk_cell hkb 2, blk_cell hkb 3, trivial⟩
    clear m0 m1 m2 m3 hlt hBr heb hkb
    go_wp2_with fail
    refine wp_region_T (Cells [(⟨b, o + k * 4, none⟩, .int .i64 y1), (⟨b, o + k * 4 + 1, none⟩, .int .i64 y2), (⟨b, o + k * 4 + 2, none⟩, .int .i64 y3), (⟨b, o + k * 4 + 3, none⟩, .int .i64 y4), (⟨w.heap.size, 0, none⟩, .int .i64 c1), (⟨w.heap.size, 1, none⟩, .int .i64 c2), (⟨w.heap.size, 2, none⟩, .int .i64 c3), (⟨w.heap.size, 3, none⟩, .int .i64 c4)]) (fun _ => false) (by kernel_rfl) ?_
    have hSss1 := Cells.drew hC0
    have hB_0_s1 : Below wr.heap.size wr wr.drew := below_drew _
    generalize wr.drew = s1 at hSss1 hB_0_s1 ⊢
    have hB_s1_s1 := Below.refl s1.heap.size s1
    refine wpAnyT_pure (i := 0) (v := ?_) rfl (by kernel_rfl) (by kernel_rfl) (by kernel_rfl) (fun _ _ _ h => h) (by rfl) ?_ ?_
    rotate_left
    · intro w; go_simp; try with_reducible rfl
    simp only [Act.put, rgA, rgB, rgC, rgD, rgE, rgF]
    refine wpAnyT_pure (i := 1) (v := ?_) rfl (by kernel_rfl) (by kernel_rfl) (by kernel_rfl) (fun _ _ _ h => h) (by rfl) ?_ ?_
    rotate_left
    · intro w; go_simp; try with_reducible rfl
    simp only [Act.put, rgA, rgB, rgC, rgD, rgE, rgF]
    refine wpAnyT_pure (i := 2) (v := ?_) rfl (by kernel_rfl) (by kernel_rfl) (by kernel_rfl) (fun _ _ _ h => h) (by rfl) ?_ ?_
    rotate_left
    · intro w; go_simp; try with_reducible rfl
    simp only [Act.put, rgA, rgB, rgC, rgD, rgE, rgF]
    refine wpAnyT_loadW (i := 3) (v := ?_) rfl (by kernel_rfl) (by kernel_rfl) (by kernel_rfl) (by kernel_rfl) (by kernel_rfl) (fun _ _ _ h => h) (Or.inl ⟨by rfl, ?_⟩) hSss1 ?_
    rotate_left
    · intro w hSw; obtain ⟨e0, e1, e2, e3, e4, e5, e6, e7, -⟩ := hSw; go_simp; try with_reducible rfl
    simp only [Act.put, rgA, rgB, rgC, rgD, rgE, rgF]
    refine wpAnyT_loadW (i := 4) (v := ?_) rfl (by kernel_rfl) (by kernel_rfl) (by kernel_rfl) (by kernel_rfl) (by kernel_rfl) (fun _ _ _ h => h) (Or.inl ⟨by rfl, ?_⟩) hSss1 ?_
    rotate_left
    · intro w hSw; obtain ⟨e0, e1, e2, e3, e4, e5, e6, e7, -⟩ := hSw; go_simp; try with_reducible rfl
    simp only [Act.put, rgA, rgB, rgC, rgD, rgE, rgF]
    refine wpAnyT_pure (i := 5) (v := ?_) rfl (by kernel_rfl) (by kernel_rfl) (by kernel_rfl) (fun _ _ _ h => h) (by rfl) ?_ ?_
    rotate_left
    · intro w; go_simp; try with_reducible rfl
    simp only [Act.put, rgA, rgB, rgC, rgD, rgE, rgF]
    refine wpAnyT_done (by kernel_rfl) ?_ _
    have HBP := Lib.hid (HBR.out.trans ((hB_0_s1.trans ((hB_s1_s1).mono (hB_0_s1).size)).mono HBR.out.size))
    obtain ⟨w4, rfl⟩ : ∃ x, x = s1 := ⟨_, rfl⟩
    clear hC0
    cases eb
    · go_wp2_with fail
      go_roundw
      case rel => exact ⟨k + 1, HLT.out, by go_num, by rw [HTK.out, List.mem_append, List.mem_singleton]; exact fun h => h.elim HNO.out (fun e => of_decide_eq_false HEB.out e.symm), HBP.out⟩
      case measure => simp [intOf]; try omega
    · go_wp2_with fail
      go_ret
      exact ⟨by rw [← HDB.out, decide_eq_true (by rw [← of_decide_eq_true HEB.out]; exact HIN.out)]; rfl, HB.out.trans (HBP.out.mono HB.out.size)⟩
  · obtain rfl : k = l.length := by omega
    have HDF := Lib.hid (show db = false from by rw [← HDB.out]; exact decide_eq_false (by have := HNO.out; rwa [List.take_length] at this))
    clear hBr hkb
    go_wp2_with fail
    go_ret
    exact ⟨by rw [HDF.out]; rfl, HB.out.trans (HBR.out.mono HB.out.size)⟩
set_option maxHeartbeats 2000000 in
theorem rput47 {S : Nat → Prop} (w : World) (a : Option Addr) (cap : Nat) (l : List C4) (hx : Rd (.sl cellT) S w [.slice a l.length cap] (l.map C4.d)) (hS : ∀ b, S b → b < w.heap.size) (hsr : Srt l) (hok : ∀ x ∈ l, x.ok) (hl : l.length ≤ 100000) (c : C4) (hc : c.ok) :
    Calls Try.prog 36 #[.slice a l.length cap, c.v] w (ReadsP w (insC l c)) := by
  have HC := Lib.hid hc
  have HOK := Lib.hid hok
  have HEND := Lib.hid (putL_end (c := c) hsr)
  have HSR := Lib.hid hsr
  have HCR := Lib.hid (fun W y => rcompare47 W c y)
  have HP0 := Lib.hid (show putL [] c = [] from rfl)
  have HPS := Lib.hid (fun k (hk : k < l.length) => putL_snoc (c := c) (l := l.take k) (y := l[k]) (by rw [← List.take_succ_eq_append_getElem hk]; exact hsr.sublist (List.take_sublist _ _)))
  have HPT := Lib.hid (fun k (hk : k < l.length) => putD_snoc (l.take k) c l[k])
  have HPB := Lib.hid (fun k => show (putL (l.take k) c).length ≤ 100001 from by
    have h1 := insC_len (l.take k) c
    have h2 := List.length_take_le' k l
    unfold putL
    split <;> omega)
  have HTF := Lib.hid (List.take_length (l := l))
  obtain ⟨c1, c2, c3, c4⟩ := c
  have hB := (Below.refl w.heap.size w).alloc (Nat.le_refl _) (.cells #[.int .i64 c1, .int .i64 c2, .int .i64 c3, .int .i64 c4] 38)
  have hkb := heap_alloc_new w (.cells #[.int .i64 c1, .int .i64 c2, .int .i64 c3, .int .i64 c4] 38)
  have HB := Lib.hid hB
  have HKB := Lib.hid hkb
  unfold C4.v
  simp only
  have HX := Lib.hid (hx.below hB hS)
  have HS := Lib.hid (fun b hb => Nat.lt_of_lt_of_le (hS b hb) hB.size)
  clear hB hkb hx hS hsr hok hc
  go_enter Try.func36, Try.ntmps36
  go_wp2_with fail
  generalize hw1 : World.alloc _ _ = w1 at *
  clear hw1
  obtain ⟨gb, hgb⟩ : ∃ x, w.heap.size = x := ⟨_, rfl⟩
  have HGB := Lib.hid hgb
  rw [hgb] at HKB ⊢
  clear hgb
  go_loopw [5, 6, 7] (fun o d i wr => ∃ (k : Nat) (oa : Option Addr) (ol oc : Nat), k ≤ l.length ∧ i = .int .i64 k ∧ o = .slice oa ol oc ∧ d = .bool (putD (l.take k) ⟨c1, c2, c3, c4⟩) ∧ Owns cellT 38 w1.heap.size (fun _ => False) wr (.slice oa ol oc) ((putL (l.take k) ⟨c1, c2, c3, c4⟩).map C4.d) ∧ Below w1.heap.size w1 wr) (fun _ _ i _ => l.length - (intOf i).toNat)
  case atStart => exact ⟨0, none, 0, 0, Nat.zero_le _, rfl, rfl, rfl, by rw [List.take_zero, HP0.out]; exact Owns.nil _ _ _ _, Below.refl _ _⟩
  obtain ⟨k, oa0, ol0, oc0, hk, rfl, rfl, rfl, hO, hBr⟩ := hrel
  have HO0 := Lib.hid hO
  have HB0 := Lib.hid hBr
  have hkb := (hBr.block _ (blk_lt HKB.out)).trans HKB.out
  have HPN := Lib.hid (HPB.out k)
  clear hO
  obtain ⟨dn, hdn⟩ : ∃ x, putD (l.take k) ⟨c1, c2, c3, c4⟩ = x := ⟨_, rfl⟩
  rw [hdn]
  by_cases hlt : k < l.length
  · have hkI : (k : Int) < (l.length : Int) := by omega
    obtain ⟨b, o, rfl, hbS, m0, m1, m2, m3, -⟩ := cell_at HX.out k hlt
    have HLT := Lib.hid hlt
    have hPS := HPS.out k hlt
    have hPT := HPT.out k hlt
    have HYO := Lib.hid (HOK.out _ (List.getElem_mem hlt))
    rw [← List.take_succ_eq_append_getElem hlt] at hPS hPT
    have hCM := fun W => HCR.out W l[k]
    generalize l[k] = y at m0 m1 m2 m3 hPS hPT HYO hCM
    obtain ⟨r, hr⟩ : ∃ r, cfC ⟨c1, c2, c3, c4⟩ y = r := ⟨_, rfl⟩
    obtain ⟨pl, hpl⟩ : ∃ r, putL (l.take k) ⟨c1, c2, c3, c4⟩ = r := ⟨_, rfl⟩
    rw [hdn, hr, hpl] at hPS
    rw [hdn, hr] at hPT
    rw [hpl] at HO0 HPN
    simp only [hr] at hCM
    have HPD := Lib.hid hPT
    have HPL := Lib.hid hPS
    obtain ⟨y1, y2, y3, y4⟩ := y
    unfold C4.v at hCM
    simp only at m0 m1 m2 m3 hCM
    have HCM := Lib.hid hCM
    have HC0 := Lib.hid (show Cells [(⟨b, o + k * 4, none⟩, .int .i64 y1), (⟨b, o + k * 4 + 1, none⟩, .int .i64 y2), (⟨b, o + k * 4 + 2, none⟩, .int .i64 y3), (⟨b, o + k * 4 + 3, none⟩, .int .i64 y4), (⟨gb, 0, none⟩, .int .i64 c1), (⟨gb, 1, none⟩, .int .i64 c2), (⟨gb, 2, none⟩, .int .i64 c3), (⟨gb, 3, none⟩, .int .i64 c4)] w1 from ⟨m0, m1, m2, m3, blk_cell HKB.out 0, blk_cell HKB.out 1, blk_cell HKB.out 2, blk_cell HKB.out 3, trivial⟩)
    have hbl := HS.out b hbS
    have hgl := blk_lt HKB.out
    have HCL := Lib.hid (show CellsLt w1.heap.size [(⟨b, o + k * 4, none⟩, .int .i64 y1), (⟨b, o + k * 4 + 1, none⟩, .int .i64 y2), (⟨b, o + k * 4 + 2, none⟩, .int .i64 y3), (⟨b, o + k * 4 + 3, none⟩, .int .i64 y4), (⟨gb, 0, none⟩, .int .i64 c1), (⟨gb, 1, none⟩, .int .i64 c2), (⟨gb, 2, none⟩, .int .i64 c3), (⟨gb, 3, none⟩, .int .i64 c4)] from ⟨hbl, hbl, hbl, hbl, hgl, hgl, hgl, hgl, trivial⟩)
    have hC0 := Cells.belowN hBr HCL.out HC0.out
    clear m0 m1 m2 m3 hlt hBr hkb hPS hPT hCM hdn hr hpl hbl hgl hbS
    go_wp2_with fail
    refine wp_region_T (Cells [(⟨b, o + k * 4, none⟩, .int .i64 y1), (⟨b, o + k * 4 + 1, none⟩, .int .i64 y2), (⟨b, o + k * 4 + 2, none⟩, .int .i64 y3), (⟨b, o + k * 4 + 3, none⟩, .int .i64 y4), (⟨gb, 0, none⟩, .int .i64 c1), (⟨gb, 1, none⟩, .int .i64 c2), (⟨gb, 2, none⟩, .int .i64 c3), (⟨gb, 3, none⟩, .int .i64 c4)]) (fun _ => false) (by kernel_rfl) ?_
    have hSss2 := Cells.drew hC0
    have hB_0_s2 : Below wr.heap.size wr wr.drew := below_drew _
    generalize wr.drew = s2 at hSss2 hB_0_s2 ⊢
    have hB_s2_s2 := Below.refl s2.heap.size s2
    refine wpAnyT_pure (i := 1) (v := ?_) rfl (by kernel_rfl) (by kernel_rfl) (by kernel_rfl) (fun _ _ _ h => h) (by rfl) ?_ ?_
    rotate_left
    · intro w; go_simp; try with_reducible rfl
    simp only [Act.put, rgA, rgB, rgC, rgD, rgE, rgF]
    refine wpAnyT_pure (i := 2) (v := ?_) rfl (by kernel_rfl) (by kernel_rfl) (by kernel_rfl) (fun _ _ _ h => h) (by rfl) ?_ ?_
    rotate_left
    · intro w; go_simp; try with_reducible rfl
    simp only [Act.put, rgA, rgB, rgC, rgD, rgE, rgF]
    refine wpAnyT_pure (i := 3) (v := ?_) rfl (by kernel_rfl) (by kernel_rfl) (by kernel_rfl) (fun _ _ _ h => h) (by rfl) ?_ ?_
    rotate_left
    · intro w; go_simp; try with_reducible rfl
    simp only [Act.put, rgA, rgB, rgC, rgD, rgE, rgF]
    refine wpAnyT_loadW (i := 0) (v := ?_) rfl (by kernel_rfl) (by kernel_rfl) (by kernel_rfl) (by kernel_rfl) (by kernel_rfl) (fun _ _ _ h => h) (Or.inl ⟨by rfl, ?_⟩) hSss2 ?_
    rotate_left
    · intro w hSw; obtain ⟨e0, e1, e2, e3, e4, e5, e6, e7, -⟩ := hSw; go_simp; try with_reducible rfl
    simp only [Act.put, rgA, rgB, rgC, rgD, rgE, rgF]
    refine wpAnyT_loadW (i := 4) (v := ?_) rfl (by kernel_rfl) (by kernel_rfl) (by kernel_rfl) (by kernel_rfl) (by kernel_rfl) (fun _ _ _ h => h) (Or.inl ⟨by rfl, ?_⟩) hSss2 ?_
    rotate_left
    · intro w hSw; obtain ⟨e0, e1, e2, e3, e4, e5, e6, e7, -⟩ := hSw; go_simp; try with_reducible rfl
    simp only [Act.put, rgA, rgB, rgC, rgD, rgE, rgF]
    refine wpAnyT_one (i := 5) (by kernel_rfl) rfl (by rfl) ?_
    refine wp_enter (f := 57) (args := #[.agg #[.int .i64 c1, .int .i64 c2, .int .i64 c3, .int .i64 c4], .agg #[.int .i64 y1, .int .i64 y2, .int .i64 y3, .int .i64 y4]]) (by go_simp) (HCM.out s2) ?_
    rintro e w103 ⟨rfl, hX⟩
    have hB_s2_w103 := below_step hB_s2_s2 hX
    have hB_w103_w103 := Below.refl w103.heap.size w103
    have hSsw103 := Cells.below hB_s2_w103 hSss2
    clear hX
    refine ⟨_, rfl, fun _ _ => hSsw103, ?_⟩
    try simp only [Act.put, rgA, rgB, rgC, rgD, rgE, rgF]
    refine wpAnyT_pure (i := 6) (v := ?_) rfl (by kernel_rfl) (by kernel_rfl) (by kernel_rfl) (fun _ _ _ h => h) (by rfl) ?_ ?_
    rotate_left
    · intro w; go_simp; try with_reducible rfl
    simp only [Act.put, rgA, rgB, rgC, rgD, rgE, rgF]
    refine wpAnyT_done (by kernel_rfl) ?_ _
    have hBW := hB_0_s2.trans ((hB_s2_w103).mono (hB_0_s2).size)
    have HO1 := Lib.hid (HO0.out.below hBW)
    have HB1 := Lib.hid (HB0.out.trans (hBW.mono HB0.out.size))
    obtain ⟨w4, rfl⟩ : ∃ x, x = w103 := ⟨_, rfl⟩
    clear hBW
    clear hC0
    obtain ⟨z0, z1, z2, z3, n0, n1, n2, n3, -⟩ := Cells.belowN (HB1.out) HCL.out HC0.out
    obtain ⟨oa1, hoa1⟩ : ∃ x, x = oa0 := ⟨_, rfl⟩
    obtain ⟨ol1, hol1⟩ : ∃ x, x = ol0 := ⟨_, rfl⟩
    obtain ⟨oc1, hoc1⟩ : ∃ x, x = oc0 := ⟨_, rfl⟩
    rw [← hoa1, ← hol1, ← hoc1] at HO1 ⊢
    clear hoa1 hol1 hoc1 HO0 HB0
    by_cases hr0 : r < 0
    · have hrz : r ≤ 0 := by omega
      have HPE := Lib.hid (show putD (l.take (k + 1)) ⟨c1, c2, c3, c4⟩ = true from by rw [HPD.out, decide_eq_true hrz, Bool.or_true])
      cases dn
      · have HPM := Lib.hid (show putL (l.take (k + 1)) ⟨c1, c2, c3, c4⟩ = pl ++ [⟨c1, c2, c3, c4⟩] ++ [⟨y1, y2, y3, y4⟩] from by rw [HPL.out, decide_eq_true hr0]; rfl)
        go_wp2_with (first | (at_builtin; have hq := HO1; clear hq; go_must (refine wpList_app _ rfl _ _ 23 rfl (e := cellT) (te := 38) info_cell Try.underlying23 rfl (by decide) (base := w1.heap.size) (S := fun _ => False) (v := .slice oa1 ol1 oc1) (xs := (pl).map C4.d) rfl (HO1.out.alloc _) (by have := HB1.out.size; simp only [World.size_alloc]; omega) rfl (ys := [C4.d ⟨c1, c2, c3, c4⟩]) (Src.new _ [_, _, _, _] _ _ _) (RdL.one (e := cellT) (cell_rd HC.out)) (by have := HPN.out; rw [List.length_map]; simp only [List.length_singleton, List.length_append] at *; omega) (by have := HPN.out; rw [List.length_map]; simp only [List.length_singleton, List.length_append] at *; omega) ?_; intro v' w2 O9 g9 _ ob9; have HG9 := Lib.hid (((Below.refl w1.heap.size w4).alloc (by have := HB1.out.size; omega) _).grown g9 (by have := HB1.out.size; simp only [World.size_alloc]; omega) (fun c hc => (HO1.out.own c hc).1)); have HB2 := Lib.hid (HB1.out.trans (HG9.out.mono (by first | exact Nat.le_refl _ | exact HB1.out.size))); rw [map_snoc_d] at O9; obtain ⟨oa2, ol2, oc2, rfl, -⟩ := O9.slice; have HO2 := Lib.hid O9; clear O9 g9 ob9 HG9 HO1; clear z0 z1 z2 z3 n0 n1 n2 n3; obtain ⟨z0, z1, z2, z3, n0, n1, n2, n3, -⟩ := Cells.belowN HB2.out HCL.out HC0.out)) | (at_builtin; have hq := HO2; clear hq; go_must (refine wpList_app _ rfl _ _ 23 rfl (e := cellT) (te := 38) info_cell Try.underlying23 rfl (by decide) (base := w1.heap.size) (S := fun _ => False) (v := .slice oa2 ol2 oc2) (xs := (pl ++ [(⟨c1, c2, c3, c4⟩ : C4)]).map C4.d) rfl (HO2.out.alloc _) (by have := HB2.out.size; simp only [World.size_alloc]; omega) rfl (ys := [C4.d ⟨y1, y2, y3, y4⟩]) (Src.new _ [_, _, _, _] _ _ _) (RdL.one (e := cellT) (cell_rd HYO.out)) (by have := HPN.out; rw [List.length_map]; simp only [List.length_singleton, List.length_append] at *; omega) (by have := HPN.out; rw [List.length_map]; simp only [List.length_singleton, List.length_append] at *; omega) ?_; intro v' w3 O9 g9 _ ob9; have HG9 := Lib.hid (((Below.refl w1.heap.size w2).alloc (by have := HB2.out.size; omega) _).grown g9 (by have := HB2.out.size; simp only [World.size_alloc]; omega) (fun c hc => (HO2.out.own c hc).1)); have HB3 := Lib.hid (HB2.out.trans (HG9.out.mono (by first | exact Nat.le_refl _ | exact HB2.out.size))); rw [map_snoc_d] at O9; obtain ⟨oa3, ol3, oc3, rfl, -⟩ := O9.slice; have HO3 := Lib.hid O9; clear O9 g9 ob9 HG9 HO2; skip)))
        go_wp2_with fail
        go_roundw
        case rel => exact ⟨k + 1, _, _, _, HLT.out, by go_num, rfl, by rw [HPE.out], by rw [HPM.out]; exact HO3.out, HB3.out⟩
        case measure => simp [intOf]; try omega
      · have HPM := Lib.hid (show putL (l.take (k + 1)) ⟨c1, c2, c3, c4⟩ = pl ++ [⟨y1, y2, y3, y4⟩] from by rw [HPL.out, Bool.not_true, Bool.and_false]; rfl)
        go_wp2_with (at_builtin; have hq := HO1; clear hq; go_must (refine wpList_app _ rfl _ _ 23 rfl (e := cellT) (te := 38) info_cell Try.underlying23 rfl (by decide) (base := w1.heap.size) (S := fun _ => False) (v := .slice oa1 ol1 oc1) (xs := (pl).map C4.d) rfl (HO1.out.alloc _) (by have := HB1.out.size; simp only [World.size_alloc]; omega) rfl (ys := [C4.d ⟨y1, y2, y3, y4⟩]) (Src.new _ [_, _, _, _] _ _ _) (RdL.one (e := cellT) (cell_rd HYO.out)) (by have := HPN.out; rw [List.length_map]; simp only [List.length_singleton, List.length_append] at *; omega) (by have := HPN.out; rw [List.length_map]; simp only [List.length_singleton, List.length_append] at *; omega) ?_; intro v' w2 O9 g9 _ ob9; have HG9 := Lib.hid ((((Below.refl w1.heap.size w4)).alloc (by have := HB1.out.size; omega) _).grown g9 (by have := HB1.out.size; simp only [World.size_alloc]; omega) (fun c hc => (HO1.out.own c hc).1)); have HB2 := Lib.hid (HB1.out.trans (HG9.out.mono (by first | exact Nat.le_refl _ | exact HB1.out.size))); rw [map_snoc_d] at O9; obtain ⟨oa2, ol2, oc2, rfl, -⟩ := O9.slice; have HO2 := Lib.hid O9; clear O9 g9 ob9 HG9 HO1; skip))
        go_wp2_with fail
        go_roundw
        case rel => exact ⟨k + 1, _, _, _, HLT.out, by go_num, rfl, by rw [HPE.out], by rw [HPM.out]; exact HO2.out, HB2.out⟩
        case measure => simp [intOf]; try omega
    · have HPM := Lib.hid (show putL (l.take (k + 1)) ⟨c1, c2, c3, c4⟩ = pl ++ [⟨y1, y2, y3, y4⟩] from by rw [HPL.out, decide_eq_false hr0]; rfl)
      by_cases hrz : r ≤ 0
      · have HPE := Lib.hid (show putD (l.take (k + 1)) ⟨c1, c2, c3, c4⟩ = true from by rw [HPD.out, decide_eq_true hrz, Bool.or_true])
        cases dn
        · skip
          go_wp2_with (at_builtin; have hq := HO1; clear hq; go_must (refine wpList_app _ rfl _ _ 23 rfl (e := cellT) (te := 38) info_cell Try.underlying23 rfl (by decide) (base := w1.heap.size) (S := fun _ => False) (v := .slice oa1 ol1 oc1) (xs := (pl).map C4.d) rfl (HO1.out.alloc _) (by have := HB1.out.size; simp only [World.size_alloc]; omega) rfl (ys := [C4.d ⟨y1, y2, y3, y4⟩]) (Src.new _ [_, _, _, _] _ _ _) (RdL.one (e := cellT) (cell_rd HYO.out)) (by have := HPN.out; rw [List.length_map]; simp only [List.length_singleton, List.length_append] at *; omega) (by have := HPN.out; rw [List.length_map]; simp only [List.length_singleton, List.length_append] at *; omega) ?_; intro v' w2 O9 g9 _ ob9; have HG9 := Lib.hid ((((Below.refl w1.heap.size w4)).alloc (by have := HB1.out.size; omega) _).grown g9 (by have := HB1.out.size; simp only [World.size_alloc]; omega) (fun c hc => (HO1.out.own c hc).1)); have HB2 := Lib.hid (HB1.out.trans (HG9.out.mono (by first | exact Nat.le_refl _ | exact HB1.out.size))); rw [map_snoc_d] at O9; obtain ⟨oa2, ol2, oc2, rfl, -⟩ := O9.slice; have HO2 := Lib.hid O9; clear O9 g9 ob9 HG9 HO1; skip))
          go_wp2_with fail
          go_roundw
          case rel => exact ⟨k + 1, _, _, _, HLT.out, by go_num, rfl, by rw [HPE.out], by rw [HPM.out]; exact HO2.out, HB2.out⟩
          case measure => simp [intOf]; try omega
        · skip
          go_wp2_with (at_builtin; have hq := HO1; clear hq; go_must (refine wpList_app _ rfl _ _ 23 rfl (e := cellT) (te := 38) info_cell Try.underlying23 rfl (by decide) (base := w1.heap.size) (S := fun _ => False) (v := .slice oa1 ol1 oc1) (xs := (pl).map C4.d) rfl (HO1.out.alloc _) (by have := HB1.out.size; simp only [World.size_alloc]; omega) rfl (ys := [C4.d ⟨y1, y2, y3, y4⟩]) (Src.new _ [_, _, _, _] _ _ _) (RdL.one (e := cellT) (cell_rd HYO.out)) (by have := HPN.out; rw [List.length_map]; simp only [List.length_singleton, List.length_append] at *; omega) (by have := HPN.out; rw [List.length_map]; simp only [List.length_singleton, List.length_append] at *; omega) ?_; intro v' w2 O9 g9 _ ob9; have HG9 := Lib.hid ((((Below.refl w1.heap.size w4)).alloc (by have := HB1.out.size; omega) _).grown g9 (by have := HB1.out.size; simp only [World.size_alloc]; omega) (fun c hc => (HO1.out.own c hc).1)); have HB2 := Lib.hid (HB1.out.trans (HG9.out.mono (by first | exact Nat.le_refl _ | exact HB1.out.size))); rw [map_snoc_d] at O9; obtain ⟨oa2, ol2, oc2, rfl, -⟩ := O9.slice; have HO2 := Lib.hid O9; clear O9 g9 ob9 HG9 HO1; skip))
          go_wp2_with fail
          go_roundw
          case rel => exact ⟨k + 1, _, _, _, HLT.out, by go_num, rfl, by rw [HPE.out], by rw [HPM.out]; exact HO2.out, HB2.out⟩
          case measure => simp [intOf]; try omega
      · have HPE := Lib.hid (show putD (l.take (k + 1)) ⟨c1, c2, c3, c4⟩ = dn from by rw [HPD.out, decide_eq_false hrz, Bool.or_false])
        cases dn
        · skip
          go_wp2_with (at_builtin; have hq := HO1; clear hq; go_must (refine wpList_app _ rfl _ _ 23 rfl (e := cellT) (te := 38) info_cell Try.underlying23 rfl (by decide) (base := w1.heap.size) (S := fun _ => False) (v := .slice oa1 ol1 oc1) (xs := (pl).map C4.d) rfl (HO1.out.alloc _) (by have := HB1.out.size; simp only [World.size_alloc]; omega) rfl (ys := [C4.d ⟨y1, y2, y3, y4⟩]) (Src.new _ [_, _, _, _] _ _ _) (RdL.one (e := cellT) (cell_rd HYO.out)) (by have := HPN.out; rw [List.length_map]; simp only [List.length_singleton, List.length_append] at *; omega) (by have := HPN.out; rw [List.length_map]; simp only [List.length_singleton, List.length_append] at *; omega) ?_; intro v' w2 O9 g9 _ ob9; have HG9 := Lib.hid ((((Below.refl w1.heap.size w4)).alloc (by have := HB1.out.size; omega) _).grown g9 (by have := HB1.out.size; simp only [World.size_alloc]; omega) (fun c hc => (HO1.out.own c hc).1)); have HB2 := Lib.hid (HB1.out.trans (HG9.out.mono (by first | exact Nat.le_refl _ | exact HB1.out.size))); rw [map_snoc_d] at O9; obtain ⟨oa2, ol2, oc2, rfl, -⟩ := O9.slice; have HO2 := Lib.hid O9; clear O9 g9 ob9 HG9 HO1; skip))
          go_wp2_with fail
          go_roundw
          case rel => exact ⟨k + 1, _, _, _, HLT.out, by go_num, rfl, by rw [HPE.out], by rw [HPM.out]; exact HO2.out, HB2.out⟩
          case measure => simp [intOf]; try omega
        · skip
          go_wp2_with (at_builtin; have hq := HO1; clear hq; go_must (refine wpList_app _ rfl _ _ 23 rfl (e := cellT) (te := 38) info_cell Try.underlying23 rfl (by decide) (base := w1.heap.size) (S := fun _ => False) (v := .slice oa1 ol1 oc1) (xs := (pl).map C4.d) rfl (HO1.out.alloc _) (by have := HB1.out.size; simp only [World.size_alloc]; omega) rfl (ys := [C4.d ⟨y1, y2, y3, y4⟩]) (Src.new _ [_, _, _, _] _ _ _) (RdL.one (e := cellT) (cell_rd HYO.out)) (by have := HPN.out; rw [List.length_map]; simp only [List.length_singleton, List.length_append] at *; omega) (by have := HPN.out; rw [List.length_map]; simp only [List.length_singleton, List.length_append] at *; omega) ?_; intro v' w2 O9 g9 _ ob9; have HG9 := Lib.hid ((((Below.refl w1.heap.size w4)).alloc (by have := HB1.out.size; omega) _).grown g9 (by have := HB1.out.size; simp only [World.size_alloc]; omega) (fun c hc => (HO1.out.own c hc).1)); have HB2 := Lib.hid (HB1.out.trans (HG9.out.mono (by first | exact Nat.le_refl _ | exact HB1.out.size))); rw [map_snoc_d] at O9; obtain ⟨oa2, ol2, oc2, rfl, -⟩ := O9.slice; have HO2 := Lib.hid O9; clear O9 g9 ob9 HG9 HO1; skip))
          go_wp2_with fail
          go_roundw
          case rel => exact ⟨k + 1, _, _, _, HLT.out, by go_num, rfl, by rw [HPE.out], by rw [HPM.out]; exact HO2.out, HB2.out⟩
          case measure => simp [intOf]; try omega
  · obtain rfl : k = l.length := by omega
    have hend := HEND.out
    rw [HTF.out] at HO0 hdn HPN
    rw [hdn] at hend
    obtain ⟨pl, hpl⟩ : ∃ r, putL l ⟨c1, c2, c3, c4⟩ = r := ⟨_, rfl⟩
    rw [hpl] at hend HO0 HPN
    have n0 := blk_cell hkb 0
    have n1 := blk_cell hkb 1
    have n2 := blk_cell hkb 2
    have n3 := blk_cell hkb 3
    simp only [List.getElem?_toArray, List.getElem?_cons_zero, List.getElem?_cons_succ] at n0 n1 n2 n3
    clear hBr hkb hdn hpl
    have HE := Lib.hid hend
    clear hend
    cases dn
    · skip
      go_wp2_with (at_builtin; have hq := HO0; clear hq; go_must (refine wpList_app _ rfl _ _ 23 rfl (e := cellT) (te := 38) info_cell Try.underlying23 rfl (by decide) (base := w1.heap.size) (S := fun _ => False) (v := .slice oa0 ol0 oc0) (xs := (pl).map C4.d) rfl (HO0.out.alloc _) (by have := HB0.out.size; simp only [World.size_alloc]; omega) rfl (ys := [C4.d ⟨c1, c2, c3, c4⟩]) (Src.new _ [_, _, _, _] _ _ _) (RdL.one (e := cellT) (cell_rd HC.out)) (by have := HPN.out; rw [List.length_map]; simp only [List.length_singleton, List.length_append] at *; omega) (by have := HPN.out; rw [List.length_map]; simp only [List.length_singleton, List.length_append] at *; omega) ?_; intro v' w2 O9 g9 _ ob9; have HG9 := Lib.hid ((((Below.refl w1.heap.size wr)).alloc (by have := HB0.out.size; omega) _).grown g9 (by have := HB0.out.size; simp only [World.size_alloc]; omega) (fun c hc => (HO0.out.own c hc).1)); have HB2 := Lib.hid (HB0.out.trans (HG9.out.mono (by first | exact Nat.le_refl _ | exact HB0.out.size))); rw [map_snoc_d] at O9; obtain ⟨oa2, ol2, oc2, rfl, -⟩ := O9.slice; have HO2 := Lib.hid O9; clear O9 g9 ob9 HG9 HO0; skip))
      clear n0 n1 n2 n3
      go_wp2_with fail
      go_ret
      refine ⟨_, rfl, ?_, ?_⟩
      · have h1 := HE.out
        rw [← h1]
        exact SlC.of_owns (HO2.out.base HB.out.size)
      · exact HB.out.trans (HB2.out.mono HB.out.size)
    · clear n0 n1 n2 n3
      go_wp2_with fail
      go_ret
      refine ⟨_, rfl, ?_, ?_⟩
      · have h1 := HE.out
        rw [← h1]
        exact SlC.of_owns (HO0.out.base HB.out.size)
      · exact HB.out.trans (HB0.out.mono HB.out.size)
end Go.Proofs.Ytoimbhdjhhmonaa
