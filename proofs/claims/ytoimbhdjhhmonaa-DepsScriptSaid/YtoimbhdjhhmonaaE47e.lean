/- Layer 47: DepsScript. -/
import Derived.Test.YtoimbhdjhhmonaaE47d
set_option linter.unusedSimpArgs false
set_option maxRecDepth 50000
namespace Go.Proofs.Ytoimbhdjhhmonaa
open Go.RowKit Go

set_option maxHeartbeats 4000000 in
theorem scriptWalk47 (w : World) (c0 : List Value) (x0 : (Ty.sl stepT).den) (r0 : Rd (.sl stepT) (fun b => b < w.heap.size) w c0 x0) (cc1 : List Value) (x1 : cellT.den) (r1 : Rd cellT (fun b => b < w.heap.size) w cc1 x1) :
    Calls Try.prog 5 #[valOf (Ty.sl stepT) c0, valOf cellT cc1] w fun e w' => e = .returned (.bool true) ∧ Below w.heap.size w w' := by
  obtain ⟨a, len, cap, rfl, hl0, -⟩ := id r0
  have HL := Lib.hid (show x0.length = len from hl0)
  have HX := Lib.hid r0
  have HS := Lib.hid (show ∀ b, b < w.heap.size → b < w.heap.size from fun _ h => h)
  have hlm : len ≤ 9223372036854775807 := Nat.le_trans r0.sl_flat.2.1 r0.sl_flat.2.2.1
  obtain ⟨c1, c2, c3, c4', ⟨⟩⟩ := x1
  obtain ⟨k1, kr1, rfl, ⟨rfl, h1⟩, k2, kr2, rfl, ⟨rfl, h2⟩, k3, kr3, rfl, ⟨rfl, h3⟩, k4, kr4, rfl, ⟨rfl, h4⟩, rfl⟩ := r1
  have HCO := Lib.hid (show C4.ok ⟨c1, c2, c3, c4'⟩ from ⟨h1, h2, h3, h4⟩)
  change Int at c1 c2 c3 c4'
  change Calls _ _ #[.slice a len cap, .agg #[.int .i64 c1, .int .i64 c2, .int .i64 c3, .int .i64 c4']] _ _
  have hB := (Below.refl w.heap.size w).alloc (Nat.le_refl _) (.cells #[.int .i64 c1, .int .i64 c2, .int .i64 c3, .int .i64 c4'] 38)
  have hkb := heap_alloc_new w (.cells #[.int .i64 c1, .int .i64 c2, .int .i64 c3, .int .i64 c4'] 38)
  have HB0 := Lib.hid hB
  have HKB := Lib.hid hkb
  clear r0 hl0 hB hkb h1 h2 h3 h4
  go_enter Try.func5, Try.ntmps5
  go_wp2_with fail
  generalize hw0 : World.alloc _ _ = w0 at *
  clear hw0
  obtain ⟨gb, hgb⟩ : ∃ x, w.heap.size = x := ⟨_, rfl⟩
  have HGB := Lib.hid hgb
  rw [hgb] at HKB
  clear hgb
  rw [HGB.out]
  have HAW := Lib.hid (awake47 w0)
  go_wp2_with fail
  refine HAW.out.mono ?_
  clear HAW
  rintro e w1 ⟨rfl, hB1⟩
  have HB1 := Lib.hid (below_step HB0.out hB1)
  have HK1 := Lib.hid ((hB1.block _ (blk_lt HKB.out)).trans HKB.out)
  clear hB1
  have HFW := Lib.hid (few47 w1 a len cap x0 (HX.out.below HB1.out (fun _ h => h)) (fun b hb => Nat.lt_of_lt_of_le hb HB1.out.size))
  obtain ⟨fb, hfb⟩ : ∃ x, fewB x0 = x := ⟨_, rfl⟩
  rw [hfb] at HFW
  have HFB := Lib.hid hfb
  clear hfb
  go_wp2_with fail
  refine HFW.out.mono ?_
  clear HFW
  rintro e w2 ⟨rfl, hB2⟩
  have HB2 := Lib.hid (below_step HB1.out hB2)
  have HK2 := Lib.hid ((hB2.block _ (blk_lt HK1.out)).trans HK1.out)
  clear hB2
  cases fb
  case false =>
    go_wp2_with fail
    go_ret
    exact ⟨rfl, HB2.out⟩
  have HFB2 := Lib.hid (show fewB x0 = true from HFB.out)
  have HBU := Lib.hid (build47 w2 a len cap x0 (HX.out.below HB2.out (fun _ h => h)) (fun b hb => Nat.lt_of_lt_of_le hb HB2.out.size) HFB2.out)
  have HM := Lib.hid (show len ≤ 30 from by
    have h := HFB2.out
    unfold fewB at h
    rw [Bool.and_eq_true] at h
    have h2 := of_decide_eq_true h.2
    rw [HL.out] at h2
    exact h2)
  go_wp2_with fail
  refine HBU.out.mono ?_
  clear HBU
  rintro e w3 ⟨F, p, mr, ms, n, K, G, ha, hc, rfl, hG, hF, hB3⟩
  have HG3 := Lib.hid hG
  have HB3 := Lib.hid (below_step HB2.out hB3)
  have HK3 := Lib.hid ((hB3.block _ (blk_lt HK2.out)).trans HK2.out)
  clear hG hF hB3
  go_upto_region 6 with fail
  have hC0 : Cells [(⟨gb, 0, none⟩, .int .i64 c1), (⟨gb, 1, none⟩, .int .i64 c2), (⟨gb, 2, none⟩, .int .i64 c3), (⟨gb, 3, none⟩, .int .i64 c4')] w3 := ⟨blk_cell HK3.out 0, blk_cell HK3.out 1, blk_cell HK3.out 2, blk_cell HK3.out 3, trivial⟩
  have hm30 := HM.out
  have HM30 := Lib.hid (And.intro (show len ≤ 100 from by omega) (show len ≤ 1000 from by omega))
  clear hm30
  refine wp_region_T (Cells [(⟨gb, 0, none⟩, .int .i64 c1), (⟨gb, 1, none⟩, .int .i64 c2), (⟨gb, 2, none⟩, .int .i64 c3), (⟨gb, 3, none⟩, .int .i64 c4')]) (fun _ => false) (by kernel_rfl) ?_
  have hSss1 := Cells.drew hC0
  have hB_0_s1 : Below w3.heap.size w3 w3.drew := below_drew _
  generalize w3.drew = s1 at hSss1 hB_0_s1 ⊢
  have hB_s1_s1 := Below.refl s1.heap.size s1
  refine wpAnyT_pure (i := 0) (v := ?_) rfl (by kernel_rfl) (by kernel_rfl) (by kernel_rfl) (fun _ _ _ h => h) (by rfl) ?_ ?_
  rotate_left
  · intro w; go_simp; try with_reducible rfl
  simp only [Act.put, rgA, rgB, rgC, rgD, rgE, rgF]
  refine wpAnyT_pure (i := 1) (v := ?_) rfl (by kernel_rfl) (by kernel_rfl) (by kernel_rfl) (fun _ _ _ h => h) (by rfl) ?_ ?_
  rotate_left
  · intro w; go_simp; try with_reducible rfl
  simp only [Act.put, rgA, rgB, rgC, rgD, rgE, rgF]
  refine wpAnyT_pure (i := 2) (v := ?_) rfl (by kernel_rfl) (by kernel_rfl) (by kernel_rfl) (fun _ _ _ h => h) (by rfl) ?_ ?_
  rotate_left
  · intro w; go_simp; try with_reducible rfl
  simp only [Act.put, rgA, rgB, rgC, rgD, rgE, rgF]
  refine wpAnyT_pure (i := 3) (v := ?_) rfl (by kernel_rfl) (by kernel_rfl) (by kernel_rfl) (fun _ _ _ h => h) (by rfl) ?_ ?_
  rotate_left
  · intro w; go_simp; try with_reducible rfl
  simp only [Act.put, rgA, rgB, rgC, rgD, rgE, rgF]
  refine wpAnyT_pure (i := 5) (v := ?_) rfl (by kernel_rfl) (by kernel_rfl) (by kernel_rfl) (fun _ _ _ h => h) (by rfl) ?_ ?_
  rotate_left
  · intro w; go_simp; try with_reducible rfl
  simp only [Act.put, rgA, rgB, rgC, rgD, rgE, rgF]
  refine wpAnyT_one (i := 4) (by kernel_rfl) rfl (by rfl) ?_
  have hbP : Below w3.heap.size w3 s1 := hB_0_s1.trans ((hB_s1_s1).mono hB_0_s1.size)
  have hgp := HG3.out.below hbP
  refine wp_enter (f := 16) (args := #[.pointer (some ⟨p, 0, none⟩)]) (by go_simp) (hgp.cells HM30.out.2) ?_
  rintro e w102 ⟨v, rfl, hs, hX⟩
  obtain ⟨va4, vc4, rfl⟩ := hs.form
  have HS4 := Lib.hid hs
  clear hs hbP hgp
  have hB_s1_w102 := below_step hB_s1_s1 hX
  have hB_w102_w102 := Below.refl w102.heap.size w102
  have hSsw102 := Cells.below hB_s1_w102 hSss1
  clear hX
  refine ⟨_, rfl, fun _ _ => hSsw102, ?_⟩
  try simp only [Act.put, rgA, rgB, rgC, rgD, rgE, rgF]
  refine wpAnyT_one (i := 6) (by kernel_rfl) rfl (by rfl) ?_
  have hbP : Below w3.heap.size w3 w102 := hB_0_s1.trans ((hB_s1_w102).mono hB_0_s1.size)
  have hgp := HG3.out.below hbP
  refine wp_enter (f := 19) (args := #[.slice ha G.length hc]) (by go_simp) (hgp.rcells HM30.out.1) ?_
  rintro e w103 ⟨v, rfl, hs, hX⟩
  obtain ⟨va6, vc6, rfl⟩ := hs.form
  have HS6 := Lib.hid hs
  clear hs hbP hgp
  have hB_s1_w103 := below_step hB_s1_w102 hX
  have hB_w102_w103 := below_step hB_w102_w102 hX
  have hB_w103_w103 := Below.refl w103.heap.size w103
  have hSsw103 := Cells.below hB_s1_w103 hSss1
  clear hX
  refine ⟨_, rfl, fun _ _ => hSsw103, ?_⟩
  try simp only [Act.put, rgA, rgB, rgC, rgD, rgE, rgF]
  refine wpAnyT_one (i := 7) (by kernel_rfl) rfl (by rfl) ?_
  refine wp_enter (f := 12) (args := #[.slice va4 (cellsG G).length vc4, .slice va6 (cellsG G).length vc6]) (by go_simp) (BG.same (HS4.out.below hB_w102_w103) (HS6.out.below hB_w103_w103)) ?_
  rintro e w104 ⟨rfl, hX⟩
  have hB_s1_w104 := below_step hB_s1_w103 hX
  have hB_w102_w104 := below_step hB_w102_w103 hX
  have hB_w103_w104 := below_step hB_w103_w103 hX
  have hB_w104_w104 := Below.refl w104.heap.size w104
  have hSsw104 := Cells.below hB_s1_w104 hSss1
  clear hX
  refine ⟨_, rfl, fun _ _ => hSsw104, ?_⟩
  try simp only [Act.put, rgA, rgB, rgC, rgD, rgE, rgF]
  refine wpAnyT_pure (i := 8) (v := ?_) rfl (by kernel_rfl) (by kernel_rfl) (by kernel_rfl) (fun _ _ _ h => h) (by rfl) ?_ ?_
  rotate_left
  · intro w; go_simp; try with_reducible rfl
  simp only [Act.put, rgA, rgB, rgC, rgD, rgE, rgF]
  refine wpAnyT_pure (i := 9) (v := ?_) rfl (by kernel_rfl) (by kernel_rfl) (by kernel_rfl) (fun _ _ _ h => h) (by rfl) ?_ ?_
  rotate_left
  · intro w; go_simp; try with_reducible rfl
  simp only [Act.put, rgA, rgB, rgC, rgD, rgE, rgF]
  refine wpAnyT_pure (i := 10) (v := ?_) rfl (by kernel_rfl) (by kernel_rfl) (by kernel_rfl) (fun _ _ _ h => h) (by rfl) ?_ ?_
  rotate_left
  · intro w; go_simp; try with_reducible rfl
  simp only [Act.put, rgA, rgB, rgC, rgD, rgE, rgF]
  refine wpAnyT_pure (i := 11) (v := ?_) rfl (by kernel_rfl) (by kernel_rfl) (by kernel_rfl) (fun _ _ _ h => h) (by rfl) ?_ ?_
  rotate_left
  · intro w; go_simp; try with_reducible rfl
  simp only [Act.put, rgA, rgB, rgC, rgD, rgE, rgF]
  refine wpAnyT_pure (i := 14) (v := ?_) rfl (by kernel_rfl) (by kernel_rfl) (by kernel_rfl) (fun _ _ _ h => h) (by rfl) ?_ ?_
  rotate_left
  · intro w; go_simp; try with_reducible rfl
  simp only [Act.put, rgA, rgB, rgC, rgD, rgE, rgF]
  refine wpAnyT_loadW (i := 12) (v := ?_) rfl (by kernel_rfl) (by kernel_rfl) (by kernel_rfl) (by kernel_rfl) (by kernel_rfl) (fun _ _ _ h => h) (Or.inl ⟨by rfl, ?_⟩) hSsw104 ?_
  rotate_left
  · intro w hSw; obtain ⟨e0, e1, e2, e3, -⟩ := hSw; go_simp; try with_reducible rfl
  simp only [Act.put, rgA, rgB, rgC, rgD, rgE, rgF]
  refine wpAnyT_loadW (i := 15) (v := ?_) rfl (by kernel_rfl) (by kernel_rfl) (by kernel_rfl) (by kernel_rfl) (by kernel_rfl) (fun _ _ _ h => h) (Or.inl ⟨by rfl, ?_⟩) hSsw104 ?_
  rotate_left
  · intro w hSw; obtain ⟨e0, e1, e2, e3, -⟩ := hSw; go_simp; try with_reducible rfl
  simp only [Act.put, rgA, rgB, rgC, rgD, rgE, rgF]
  refine wpAnyT_one (i := 13) (by kernel_rfl) rfl (by rfl) ?_
  have hbP : Below w3.heap.size w3 w104 := hB_0_s1.trans ((hB_s1_w104).mono hB_0_s1.size)
  have hgp := HG3.out.below hbP
  refine wp_enter (f := 17) (args := #[.pointer (some ⟨p, 0, none⟩), .agg #[.int .i64 c1, .int .i64 c2, .int .i64 c3, .int .i64 c4']]) (by go_simp) (hgp.reads ⟨c1, c2, c3, c4'⟩ HCO.out) ?_
  rintro e w105 ⟨v, rfl, hs, hX⟩
  obtain ⟨va13, vc13, rfl⟩ := hs.form
  have HS13 := Lib.hid hs
  clear hs hbP hgp
  have hB_s1_w105 := below_step hB_s1_w104 hX
  have hB_w102_w105 := below_step hB_w102_w104 hX
  have hB_w103_w105 := below_step hB_w103_w104 hX
  have hB_w104_w105 := below_step hB_w104_w104 hX
  have hB_w105_w105 := Below.refl w105.heap.size w105
  have hSsw105 := Cells.below hB_s1_w105 hSss1
  clear hX
  refine ⟨_, rfl, fun _ _ => hSsw105, ?_⟩
  try simp only [Act.put, rgA, rgB, rgC, rgD, rgE, rgF]
  refine wpAnyT_one (i := 16) (by kernel_rfl) rfl (by rfl) ?_
  have hbP : Below w3.heap.size w3 w105 := hB_0_s1.trans ((hB_s1_w105).mono hB_0_s1.size)
  have hgp := HG3.out.below hbP
  refine wp_enter (f := 20) (args := #[.slice ha G.length hc, .agg #[.int .i64 c1, .int .i64 c2, .int .i64 c3, .int .i64 c4']]) (by go_simp) (hgp.rreads ⟨c1, c2, c3, c4'⟩) ?_
  rintro e w106 ⟨va16, vc16, rfl, hX, hr⟩
  have hsz := hX.size
  have HR16 := Lib.hid (hr.keep (S' := fun b => b < (w106).heap.size) (fun _ _ => rfl) (fun b hb => Nat.lt_of_lt_of_le hb.1 hsz))
  clear hr hbP hgp hsz
  have hB_s1_w106 := below_step hB_s1_w105 hX
  have hB_w102_w106 := below_step hB_w102_w105 hX
  have hB_w103_w106 := below_step hB_w103_w105 hX
  have hB_w104_w106 := below_step hB_w104_w105 hX
  have hB_w105_w106 := below_step hB_w105_w105 hX
  have hB_w106_w106 := Below.refl w106.heap.size w106
  have hSsw106 := Cells.below hB_s1_w106 hSss1
  clear hX
  refine ⟨_, rfl, fun _ _ => hSsw106, ?_⟩
  try simp only [Act.put, rgA, rgB, rgC, rgD, rgE, rgF]
  refine wpAnyT_one (i := 17) (by kernel_rfl) rfl (by rfl) ?_
  refine wp_enter (f := 12) (args := #[.slice va13 ((lkG G ⟨c1, c2, c3, c4'⟩).getD []).length vc13, .slice va16 ((lkG G ⟨c1, c2, c3, c4'⟩).getD []).length vc16]) (by go_simp) (same47 w106 va13 vc13 va16 vc16 ((lkG G ⟨c1, c2, c3, c4'⟩).getD []) (HS13.out.below hB_w105_w106).rd (HR16.out.below hB_w106_w106 (fun _ h => h)) (fun b h => h.2) (fun b h => Nat.lt_of_lt_of_le h (hB_w106_w106).size)) ?_
  rintro e w107 ⟨rfl, hX⟩
  have hB_s1_w107 := below_step hB_s1_w106 hX
  have hB_w102_w107 := below_step hB_w102_w106 hX
  have hB_w103_w107 := below_step hB_w103_w106 hX
  have hB_w104_w107 := below_step hB_w104_w106 hX
  have hB_w105_w107 := below_step hB_w105_w106 hX
  have hB_w106_w107 := below_step hB_w106_w106 hX
  have hB_w107_w107 := Below.refl w107.heap.size w107
  have hSsw107 := Cells.below hB_s1_w107 hSss1
  clear hX
  refine ⟨_, rfl, fun _ _ => hSsw107, ?_⟩
  try simp only [Act.put, rgA, rgB, rgC, rgD, rgE, rgF]
  refine wpAnyT_pure (i := 18) (v := ?_) rfl (by kernel_rfl) (by kernel_rfl) (by kernel_rfl) (fun _ _ _ h => h) (by rfl) ?_ ?_
  rotate_left
  · intro w; go_simp; try with_reducible rfl
  simp only [Act.put, rgA, rgB, rgC, rgD, rgE, rgF]
  refine wpAnyT_pure (i := 19) (v := ?_) rfl (by kernel_rfl) (by kernel_rfl) (by kernel_rfl) (fun _ _ _ h => h) (by rfl) ?_ ?_
  rotate_left
  · intro w; go_simp; try with_reducible rfl
  simp only [Act.put, rgA, rgB, rgC, rgD, rgE, rgF]
  refine wpAnyT_pure (i := 20) (v := ?_) rfl (by kernel_rfl) (by kernel_rfl) (by kernel_rfl) (fun _ _ _ h => h) (by rfl) ?_ ?_
  rotate_left
  · intro w; go_simp; try with_reducible rfl
  simp only [Act.put, rgA, rgB, rgC, rgD, rgE, rgF]
  refine wpAnyT_pure (i := 21) (v := ?_) rfl (by kernel_rfl) (by kernel_rfl) (by kernel_rfl) (fun _ _ _ h => h) (by rfl) ?_ ?_
  rotate_left
  · intro w; go_simp; try with_reducible rfl
  simp only [Act.put, rgA, rgB, rgC, rgD, rgE, rgF]
  refine wpAnyT_pure (i := 24) (v := ?_) rfl (by kernel_rfl) (by kernel_rfl) (by kernel_rfl) (fun _ _ _ h => h) (by rfl) ?_ ?_
  rotate_left
  · intro w; go_simp; try with_reducible rfl
  simp only [Act.put, rgA, rgB, rgC, rgD, rgE, rgF]
  refine wpAnyT_loadW (i := 22) (v := ?_) rfl (by kernel_rfl) (by kernel_rfl) (by kernel_rfl) (by kernel_rfl) (by kernel_rfl) (fun _ _ _ h => h) (Or.inl ⟨by rfl, ?_⟩) hSsw107 ?_
  rotate_left
  · intro w hSw; obtain ⟨e0, e1, e2, e3, -⟩ := hSw; go_simp; try with_reducible rfl
  simp only [Act.put, rgA, rgB, rgC, rgD, rgE, rgF]
  refine wpAnyT_loadW (i := 25) (v := ?_) rfl (by kernel_rfl) (by kernel_rfl) (by kernel_rfl) (by kernel_rfl) (by kernel_rfl) (fun _ _ _ h => h) (Or.inl ⟨by rfl, ?_⟩) hSsw107 ?_
  rotate_left
  · intro w hSw; obtain ⟨e0, e1, e2, e3, -⟩ := hSw; go_simp; try with_reducible rfl
  simp only [Act.put, rgA, rgB, rgC, rgD, rgE, rgF]
  refine wpAnyT_one (i := 23) (by kernel_rfl) rfl (by rfl) ?_
  have hbP : Below w3.heap.size w3 w107 := hB_0_s1.trans ((hB_s1_w107).mono hB_0_s1.size)
  have hgp := HG3.out.below hbP
  refine wp_enter (f := 21) (args := #[.pointer (some ⟨p, 0, none⟩), .agg #[.int .i64 c1, .int .i64 c2, .int .i64 c3, .int .i64 c4']]) (by go_simp) (hgp.readers HM30.out.2 ⟨c1, c2, c3, c4'⟩ HCO.out) ?_
  rintro e w108 ⟨v, rfl, hs, hX⟩
  obtain ⟨va23, vc23, rfl⟩ := hs.form
  have HS23 := Lib.hid hs
  clear hs hbP hgp
  have hB_s1_w108 := below_step hB_s1_w107 hX
  have hB_w102_w108 := below_step hB_w102_w107 hX
  have hB_w103_w108 := below_step hB_w103_w107 hX
  have hB_w104_w108 := below_step hB_w104_w107 hX
  have hB_w105_w108 := below_step hB_w105_w107 hX
  have hB_w106_w108 := below_step hB_w106_w107 hX
  have hB_w107_w108 := below_step hB_w107_w107 hX
  have hB_w108_w108 := Below.refl w108.heap.size w108
  have hSsw108 := Cells.below hB_s1_w108 hSss1
  clear hX
  refine ⟨_, rfl, fun _ _ => hSsw108, ?_⟩
  try simp only [Act.put, rgA, rgB, rgC, rgD, rgE, rgF]
  refine wpAnyT_one (i := 26) (by kernel_rfl) rfl (by rfl) ?_
  have hbP : Below w3.heap.size w3 w108 := hB_0_s1.trans ((hB_s1_w108).mono hB_0_s1.size)
  have hgp := HG3.out.below hbP
  refine wp_enter (f := 22) (args := #[.slice ha G.length hc, .agg #[.int .i64 c1, .int .i64 c2, .int .i64 c3, .int .i64 c4']]) (by go_simp) (hgp.rreaders HM30.out.1 ⟨c1, c2, c3, c4'⟩) ?_
  rintro e w109 ⟨v, rfl, hs, hX⟩
  obtain ⟨va26, vc26, rfl⟩ := hs.form
  have HS26 := Lib.hid hs
  clear hs hbP hgp
  have hB_s1_w109 := below_step hB_s1_w108 hX
  have hB_w102_w109 := below_step hB_w102_w108 hX
  have hB_w103_w109 := below_step hB_w103_w108 hX
  have hB_w104_w109 := below_step hB_w104_w108 hX
  have hB_w105_w109 := below_step hB_w105_w108 hX
  have hB_w106_w109 := below_step hB_w106_w108 hX
  have hB_w107_w109 := below_step hB_w107_w108 hX
  have hB_w108_w109 := below_step hB_w108_w108 hX
  have hB_w109_w109 := Below.refl w109.heap.size w109
  have hSsw109 := Cells.below hB_s1_w109 hSss1
  clear hX
  refine ⟨_, rfl, fun _ _ => hSsw109, ?_⟩
  try simp only [Act.put, rgA, rgB, rgC, rgD, rgE, rgF]
  refine wpAnyT_one (i := 27) (by kernel_rfl) rfl (by rfl) ?_
  refine wp_enter (f := 12) (args := #[.slice va23 (rdrsG G ⟨c1, c2, c3, c4'⟩).length vc23, .slice va26 (rdrsG G ⟨c1, c2, c3, c4'⟩).length vc26]) (by go_simp) (BG.same (HS23.out.below hB_w108_w109) (HS26.out.below hB_w109_w109)) ?_
  rintro e w110 ⟨rfl, hX⟩
  have hB_s1_w110 := below_step hB_s1_w109 hX
  have hB_w102_w110 := below_step hB_w102_w109 hX
  have hB_w103_w110 := below_step hB_w103_w109 hX
  have hB_w104_w110 := below_step hB_w104_w109 hX
  have hB_w105_w110 := below_step hB_w105_w109 hX
  have hB_w106_w110 := below_step hB_w106_w109 hX
  have hB_w107_w110 := below_step hB_w107_w109 hX
  have hB_w108_w110 := below_step hB_w108_w109 hX
  have hB_w109_w110 := below_step hB_w109_w109 hX
  have hB_w110_w110 := Below.refl w110.heap.size w110
  have hSsw110 := Cells.below hB_s1_w110 hSss1
  clear hX
  refine ⟨_, rfl, fun _ _ => hSsw110, ?_⟩
  try simp only [Act.put, rgA, rgB, rgC, rgD, rgE, rgF]
  refine wpAnyT_pure (i := 28) (v := ?_) rfl (by kernel_rfl) (by kernel_rfl) (by kernel_rfl) (fun _ _ _ h => h) (by rfl) ?_ ?_
  rotate_left
  · intro w; go_simp; try with_reducible rfl
  simp only [Act.put, rgA, rgB, rgC, rgD, rgE, rgF]
  refine wpAnyT_pure (i := 29) (v := ?_) rfl (by kernel_rfl) (by kernel_rfl) (by kernel_rfl) (fun _ _ _ h => h) (by rfl) ?_ ?_
  rotate_left
  · intro w; go_simp; try with_reducible rfl
  simp only [Act.put, rgA, rgB, rgC, rgD, rgE, rgF]
  refine wpAnyT_done (by kernel_rfl) ?_ _
  have hbP : Below w3.heap.size w3 w110 := hB_0_s1.trans ((hB_s1_w110).mono hB_0_s1.size)
  have HG4 := Lib.hid (HG3.out.below hbP)
  have HB4 := Lib.hid (below_step HB3.out hbP)
  clear hbP
  obtain ⟨w4, rfl⟩ : ∃ x, x = w110 := ⟨_, rfl⟩
  clear hC0
  go_wp2_with fail
  go_loopw [8] (fun iv wr => ∃ (k : Nat), k ≤ len ∧ iv = .int .i64 k ∧ Below w4.heap.size w4 wr) (fun iv _ => len - (intOf iv).toNat)
  case atStart => exact ⟨0, Nat.zero_le _, rfl, Below.refl _ _⟩
  obtain ⟨k, hk, rfl, hB⟩ := hrel
  have HBR := Lib.hid hB
  have HGR := Lib.hid (HG4.out.below hB)
  have HBW := Lib.hid (below_step HB4.out hB)
  by_cases hlt : k < len
  · have hkI : (k : Int) < (len : Int) := by omega
    have hkx : k < x0.length := by rw [HL.out]; exact hlt
    obtain ⟨b, o, ra, rc, rfl, -, m0, m1, m2, m3, -, -, -, hco⟩ := step_at (HX.out.below HBW.out (fun _ h => h)) k hkx
    have HLT := Lib.hid hlt
    generalize c4 x0[k].1 = y at m0 m1 m2 m3 hco
    have HYO := Lib.hid hco
    obtain ⟨y1, y2, y3, y4⟩ := y
    simp only at m0 m1 m2 m3
    have hC1 : Cells [(⟨b, o + k * 6, none⟩, .int .i64 y1), (⟨b, o + k * 6 + 1, none⟩, .int .i64 y2), (⟨b, o + k * 6 + 2, none⟩, .int .i64 y3), (⟨b, o + k * 6 + 3, none⟩, .int .i64 y4)] wr := ⟨m0, m1, m2, m3, trivial⟩
    clear m0 m1 m2 m3 hco hkx hlt hB
    go_upto_region 11 with fail
    refine wp_region_T (Cells [(⟨b, o + k * 6, none⟩, .int .i64 y1), (⟨b, o + k * 6 + 1, none⟩, .int .i64 y2), (⟨b, o + k * 6 + 2, none⟩, .int .i64 y3), (⟨b, o + k * 6 + 3, none⟩, .int .i64 y4)]) (fun _ => false) (by kernel_rfl) ?_
    have hSss11 := Cells.drew hC1
    have hB_0_s11 : Below wr.heap.size wr wr.drew := below_drew _
    generalize wr.drew = s11 at hSss11 hB_0_s11 ⊢
    have hB_s11_s11 := Below.refl s11.heap.size s11
    refine wpAnyT_pure (i := 0) (v := ?_) rfl (by kernel_rfl) (by kernel_rfl) (by kernel_rfl) (fun _ _ _ h => h) (by rfl) ?_ ?_
    rotate_left
    · intro w; go_simp; try with_reducible rfl
    simp only [Act.put, rgA, rgB, rgC, rgD, rgE, rgF]
    refine wpAnyT_pure (i := 1) (v := ?_) rfl (by kernel_rfl) (by kernel_rfl) (by kernel_rfl) (fun _ _ _ h => h) (by rfl) ?_ ?_
    rotate_left
    · intro w; go_simp; try with_reducible rfl
    simp only [Act.put, rgA, rgB, rgC, rgD, rgE, rgF]
    refine wpAnyT_pure (i := 2) (v := ?_) rfl (by kernel_rfl) (by kernel_rfl) (by kernel_rfl) (fun _ _ _ h => h) (by rfl) ?_ ?_
    rotate_left
    · intro w; go_simp; try with_reducible rfl
    simp only [Act.put, rgA, rgB, rgC, rgD, rgE, rgF]
    refine wpAnyT_pure (i := 3) (v := ?_) rfl (by kernel_rfl) (by kernel_rfl) (by kernel_rfl) (fun _ _ _ h => h) (by rfl) ?_ ?_
    rotate_left
    · intro w; go_simp; try with_reducible rfl
    simp only [Act.put, rgA, rgB, rgC, rgD, rgE, rgF]
    refine wpAnyT_pure (i := 4) (v := ?_) rfl (by kernel_rfl) (by kernel_rfl) (by kernel_rfl) (fun _ _ _ h => h) (by rfl) ?_ ?_
    rotate_left
    · intro w; go_simp; try with_reducible rfl
    simp only [Act.put, rgA, rgB, rgC, rgD, rgE, rgF]
    refine wpAnyT_pure (i := 7) (v := ?_) rfl (by kernel_rfl) (by kernel_rfl) (by kernel_rfl) (fun _ _ _ h => h) (by rfl) ?_ ?_
    rotate_left
    · intro w; go_simp; try with_reducible rfl
    simp only [Act.put, rgA, rgB, rgC, rgD, rgE, rgF]
    refine wpAnyT_pure (i := 8) (v := ?_) rfl (by kernel_rfl) (by kernel_rfl) (by kernel_rfl) (fun _ _ _ h => h) (by rfl) ?_ ?_
    rotate_left
    · intro w; go_simp; try with_reducible rfl
    simp only [Act.put, rgA, rgB, rgC, rgD, rgE, rgF]
    refine wpAnyT_pure (i := 9) (v := ?_) rfl (by kernel_rfl) (by kernel_rfl) (by kernel_rfl) (fun _ _ _ h => h) (by rfl) ?_ ?_
    rotate_left
    · intro w; go_simp; try with_reducible rfl
    simp only [Act.put, rgA, rgB, rgC, rgD, rgE, rgF]
    refine wpAnyT_pure (i := 10) (v := ?_) rfl (by kernel_rfl) (by kernel_rfl) (by kernel_rfl) (fun _ _ _ h => h) (by rfl) ?_ ?_
    rotate_left
    · intro w; go_simp; try with_reducible rfl
    simp only [Act.put, rgA, rgB, rgC, rgD, rgE, rgF]
    refine wpAnyT_pure (i := 11) (v := ?_) rfl (by kernel_rfl) (by kernel_rfl) (by kernel_rfl) (fun _ _ _ h => h) (by rfl) ?_ ?_
    rotate_left
    · intro w; go_simp; try with_reducible rfl
    simp only [Act.put, rgA, rgB, rgC, rgD, rgE, rgF]
    refine wpAnyT_loadW (i := 5) (v := ?_) rfl (by kernel_rfl) (by kernel_rfl) (by kernel_rfl) (by kernel_rfl) (by kernel_rfl) (fun _ _ _ h => h) (Or.inl ⟨by rfl, ?_⟩) hSss11 ?_
    rotate_left
    · intro w hSw; obtain ⟨e0, e1, e2, e3, -⟩ := hSw; go_simp; try with_reducible rfl
    simp only [Act.put, rgA, rgB, rgC, rgD, rgE, rgF]
    refine wpAnyT_loadW (i := 12) (v := ?_) rfl (by kernel_rfl) (by kernel_rfl) (by kernel_rfl) (by kernel_rfl) (by kernel_rfl) (fun _ _ _ h => h) (Or.inl ⟨by rfl, ?_⟩) hSss11 ?_
    rotate_left
    · intro w hSw; obtain ⟨e0, e1, e2, e3, -⟩ := hSw; go_simp; try with_reducible rfl
    simp only [Act.put, rgA, rgB, rgC, rgD, rgE, rgF]
    refine wpAnyT_one (i := 6) (by kernel_rfl) rfl (by rfl) ?_
    have hbP : Below wr.heap.size wr s11 := hB_0_s11.trans ((hB_s11_s11).mono hB_0_s11.size)
    have hgp := HGR.out.below hbP
    refine wp_enter (f := 17) (args := #[.pointer (some ⟨p, 0, none⟩), .agg #[.int .i64 y1, .int .i64 y2, .int .i64 y3, .int .i64 y4]]) (by go_simp) (hgp.reads ⟨y1, y2, y3, y4⟩ HYO.out) ?_
    rintro e w112 ⟨v, rfl, hs, hX⟩
    obtain ⟨va6, vc6, rfl⟩ := hs.form
    have HS6 := Lib.hid hs
    clear hs hbP hgp
    have hB_s11_w112 := below_step hB_s11_s11 hX
    have hB_w112_w112 := Below.refl w112.heap.size w112
    have hSsw112 := Cells.below hB_s11_w112 hSss11
    clear hX
    refine ⟨_, rfl, fun _ _ => hSsw112, ?_⟩
    try simp only [Act.put, rgA, rgB, rgC, rgD, rgE, rgF]
    refine wpAnyT_one (i := 13) (by kernel_rfl) rfl (by rfl) ?_
    have hbP : Below wr.heap.size wr w112 := hB_0_s11.trans ((hB_s11_w112).mono hB_0_s11.size)
    have hgp := HGR.out.below hbP
    refine wp_enter (f := 20) (args := #[.slice ha G.length hc, .agg #[.int .i64 y1, .int .i64 y2, .int .i64 y3, .int .i64 y4]]) (by go_simp) (hgp.rreads ⟨y1, y2, y3, y4⟩) ?_
    rintro e w113 ⟨va13, vc13, rfl, hX, hr⟩
    have hsz := hX.size
    have HR13 := Lib.hid (hr.keep (S' := fun b => b < (w113).heap.size) (fun _ _ => rfl) (fun b hb => Nat.lt_of_lt_of_le hb.1 hsz))
    clear hr hbP hgp hsz
    have hB_s11_w113 := below_step hB_s11_w112 hX
    have hB_w112_w113 := below_step hB_w112_w112 hX
    have hB_w113_w113 := Below.refl w113.heap.size w113
    have hSsw113 := Cells.below hB_s11_w113 hSss11
    clear hX
    refine ⟨_, rfl, fun _ _ => hSsw113, ?_⟩
    try simp only [Act.put, rgA, rgB, rgC, rgD, rgE, rgF]
    refine wpAnyT_one (i := 14) (by kernel_rfl) rfl (by rfl) ?_
    refine wp_enter (f := 12) (args := #[.slice va6 ((lkG G ⟨y1, y2, y3, y4⟩).getD []).length vc6, .slice va13 ((lkG G ⟨y1, y2, y3, y4⟩).getD []).length vc13]) (by go_simp) (same47 w113 va6 vc6 va13 vc13 ((lkG G ⟨y1, y2, y3, y4⟩).getD []) (HS6.out.below hB_w112_w113).rd (HR13.out.below hB_w113_w113 (fun _ h => h)) (fun b h => h.2) (fun b h => Nat.lt_of_lt_of_le h (hB_w113_w113).size)) ?_
    rintro e w114 ⟨rfl, hX⟩
    have hB_s11_w114 := below_step hB_s11_w113 hX
    have hB_w112_w114 := below_step hB_w112_w113 hX
    have hB_w113_w114 := below_step hB_w113_w113 hX
    have hB_w114_w114 := Below.refl w114.heap.size w114
    have hSsw114 := Cells.below hB_s11_w114 hSss11
    clear hX
    refine ⟨_, rfl, fun _ _ => hSsw114, ?_⟩
    try simp only [Act.put, rgA, rgB, rgC, rgD, rgE, rgF]
    refine wpAnyT_pure (i := 15) (v := ?_) rfl (by kernel_rfl) (by kernel_rfl) (by kernel_rfl) (fun _ _ _ h => h) (by rfl) ?_ ?_
    rotate_left
    · intro w; go_simp; try with_reducible rfl
    simp only [Act.put, rgA, rgB, rgC, rgD, rgE, rgF]
    refine wpAnyT_pure (i := 16) (v := ?_) rfl (by kernel_rfl) (by kernel_rfl) (by kernel_rfl) (fun _ _ _ h => h) (by rfl) ?_ ?_
    rotate_left
    · intro w; go_simp; try with_reducible rfl
    simp only [Act.put, rgA, rgB, rgC, rgD, rgE, rgF]
    refine wpAnyT_pure (i := 17) (v := ?_) rfl (by kernel_rfl) (by kernel_rfl) (by kernel_rfl) (fun _ _ _ h => h) (by rfl) ?_ ?_
    rotate_left
    · intro w; go_simp; try with_reducible rfl
    simp only [Act.put, rgA, rgB, rgC, rgD, rgE, rgF]
    refine wpAnyT_pure (i := 18) (v := ?_) rfl (by kernel_rfl) (by kernel_rfl) (by kernel_rfl) (fun _ _ _ h => h) (by rfl) ?_ ?_
    rotate_left
    · intro w; go_simp; try with_reducible rfl
    simp only [Act.put, rgA, rgB, rgC, rgD, rgE, rgF]
    refine wpAnyT_pure (i := 19) (v := ?_) rfl (by kernel_rfl) (by kernel_rfl) (by kernel_rfl) (fun _ _ _ h => h) (by rfl) ?_ ?_
    rotate_left
    · intro w; go_simp; try with_reducible rfl
    simp only [Act.put, rgA, rgB, rgC, rgD, rgE, rgF]
    refine wpAnyT_pure (i := 20) (v := ?_) rfl (by kernel_rfl) (by kernel_rfl) (by kernel_rfl) (fun _ _ _ h => h) (by rfl) ?_ ?_
    rotate_left
    · intro w; go_simp; try with_reducible rfl
    simp only [Act.put, rgA, rgB, rgC, rgD, rgE, rgF]
    refine wpAnyT_pure (i := 21) (v := ?_) rfl (by kernel_rfl) (by kernel_rfl) (by kernel_rfl) (fun _ _ _ h => h) (by rfl) ?_ ?_
    rotate_left
    · intro w; go_simp; try with_reducible rfl
    simp only [Act.put, rgA, rgB, rgC, rgD, rgE, rgF]
    refine wpAnyT_pure (i := 24) (v := ?_) rfl (by kernel_rfl) (by kernel_rfl) (by kernel_rfl) (fun _ _ _ h => h) (by rfl) ?_ ?_
    rotate_left
    · intro w; go_simp; try with_reducible rfl
    simp only [Act.put, rgA, rgB, rgC, rgD, rgE, rgF]
    refine wpAnyT_pure (i := 25) (v := ?_) rfl (by kernel_rfl) (by kernel_rfl) (by kernel_rfl) (fun _ _ _ h => h) (by rfl) ?_ ?_
    rotate_left
    · intro w; go_simp; try with_reducible rfl
    simp only [Act.put, rgA, rgB, rgC, rgD, rgE, rgF]
    refine wpAnyT_pure (i := 26) (v := ?_) rfl (by kernel_rfl) (by kernel_rfl) (by kernel_rfl) (fun _ _ _ h => h) (by rfl) ?_ ?_
    rotate_left
    · intro w; go_simp; try with_reducible rfl
    simp only [Act.put, rgA, rgB, rgC, rgD, rgE, rgF]
    refine wpAnyT_pure (i := 27) (v := ?_) rfl (by kernel_rfl) (by kernel_rfl) (by kernel_rfl) (fun _ _ _ h => h) (by rfl) ?_ ?_
    rotate_left
    · intro w; go_simp; try with_reducible rfl
    simp only [Act.put, rgA, rgB, rgC, rgD, rgE, rgF]
    refine wpAnyT_pure (i := 28) (v := ?_) rfl (by kernel_rfl) (by kernel_rfl) (by kernel_rfl) (fun _ _ _ h => h) (by rfl) ?_ ?_
    rotate_left
    · intro w; go_simp; try with_reducible rfl
    simp only [Act.put, rgA, rgB, rgC, rgD, rgE, rgF]
    refine wpAnyT_loadW (i := 22) (v := ?_) rfl (by kernel_rfl) (by kernel_rfl) (by kernel_rfl) (by kernel_rfl) (by kernel_rfl) (fun _ _ _ h => h) (Or.inl ⟨by rfl, ?_⟩) hSsw114 ?_
    rotate_left
    · intro w hSw; obtain ⟨e0, e1, e2, e3, -⟩ := hSw; go_simp; try with_reducible rfl
    simp only [Act.put, rgA, rgB, rgC, rgD, rgE, rgF]
    refine wpAnyT_loadW (i := 29) (v := ?_) rfl (by kernel_rfl) (by kernel_rfl) (by kernel_rfl) (by kernel_rfl) (by kernel_rfl) (fun _ _ _ h => h) (Or.inl ⟨by rfl, ?_⟩) hSsw114 ?_
    rotate_left
    · intro w hSw; obtain ⟨e0, e1, e2, e3, -⟩ := hSw; go_simp; try with_reducible rfl
    simp only [Act.put, rgA, rgB, rgC, rgD, rgE, rgF]
    refine wpAnyT_one (i := 23) (by kernel_rfl) rfl (by rfl) ?_
    have hbP : Below wr.heap.size wr w114 := hB_0_s11.trans ((hB_s11_w114).mono hB_0_s11.size)
    have hgp := HGR.out.below hbP
    refine wp_enter (f := 21) (args := #[.pointer (some ⟨p, 0, none⟩), .agg #[.int .i64 y1, .int .i64 y2, .int .i64 y3, .int .i64 y4]]) (by go_simp) (hgp.readers HM30.out.2 ⟨y1, y2, y3, y4⟩ HYO.out) ?_
    rintro e w115 ⟨v, rfl, hs, hX⟩
    obtain ⟨va23, vc23, rfl⟩ := hs.form
    have HS23 := Lib.hid hs
    clear hs hbP hgp
    have hB_s11_w115 := below_step hB_s11_w114 hX
    have hB_w112_w115 := below_step hB_w112_w114 hX
    have hB_w113_w115 := below_step hB_w113_w114 hX
    have hB_w114_w115 := below_step hB_w114_w114 hX
    have hB_w115_w115 := Below.refl w115.heap.size w115
    have hSsw115 := Cells.below hB_s11_w115 hSss11
    clear hX
    refine ⟨_, rfl, fun _ _ => hSsw115, ?_⟩
    try simp only [Act.put, rgA, rgB, rgC, rgD, rgE, rgF]
    refine wpAnyT_one (i := 30) (by kernel_rfl) rfl (by rfl) ?_
    have hbP : Below wr.heap.size wr w115 := hB_0_s11.trans ((hB_s11_w115).mono hB_0_s11.size)
    have hgp := HGR.out.below hbP
    refine wp_enter (f := 22) (args := #[.slice ha G.length hc, .agg #[.int .i64 y1, .int .i64 y2, .int .i64 y3, .int .i64 y4]]) (by go_simp) (hgp.rreaders HM30.out.1 ⟨y1, y2, y3, y4⟩) ?_
    rintro e w116 ⟨v, rfl, hs, hX⟩
    obtain ⟨va30, vc30, rfl⟩ := hs.form
    have HS30 := Lib.hid hs
    clear hs hbP hgp
    have hB_s11_w116 := below_step hB_s11_w115 hX
    have hB_w112_w116 := below_step hB_w112_w115 hX
    have hB_w113_w116 := below_step hB_w113_w115 hX
    have hB_w114_w116 := below_step hB_w114_w115 hX
    have hB_w115_w116 := below_step hB_w115_w115 hX
    have hB_w116_w116 := Below.refl w116.heap.size w116
    have hSsw116 := Cells.below hB_s11_w116 hSss11
    clear hX
    refine ⟨_, rfl, fun _ _ => hSsw116, ?_⟩
    try simp only [Act.put, rgA, rgB, rgC, rgD, rgE, rgF]
    refine wpAnyT_one (i := 31) (by kernel_rfl) rfl (by rfl) ?_
    refine wp_enter (f := 12) (args := #[.slice va23 (rdrsG G ⟨y1, y2, y3, y4⟩).length vc23, .slice va30 (rdrsG G ⟨y1, y2, y3, y4⟩).length vc30]) (by go_simp) (BG.same (HS23.out.below hB_w115_w116) (HS30.out.below hB_w116_w116)) ?_
    rintro e w117 ⟨rfl, hX⟩
    have hB_s11_w117 := below_step hB_s11_w116 hX
    have hB_w112_w117 := below_step hB_w112_w116 hX
    have hB_w113_w117 := below_step hB_w113_w116 hX
    have hB_w114_w117 := below_step hB_w114_w116 hX
    have hB_w115_w117 := below_step hB_w115_w116 hX
    have hB_w116_w117 := below_step hB_w116_w116 hX
    have hB_w117_w117 := Below.refl w117.heap.size w117
    have hSsw117 := Cells.below hB_s11_w117 hSss11
    clear hX
    refine ⟨_, rfl, fun _ _ => hSsw117, ?_⟩
    try simp only [Act.put, rgA, rgB, rgC, rgD, rgE, rgF]
    refine wpAnyT_pure (i := 32) (v := ?_) rfl (by kernel_rfl) (by kernel_rfl) (by kernel_rfl) (fun _ _ _ h => h) (by rfl) ?_ ?_
    rotate_left
    · intro w; go_simp; try with_reducible rfl
    simp only [Act.put, rgA, rgB, rgC, rgD, rgE, rgF]
    refine wpAnyT_pure (i := 33) (v := ?_) rfl (by kernel_rfl) (by kernel_rfl) (by kernel_rfl) (fun _ _ _ h => h) (by rfl) ?_ ?_
    rotate_left
    · intro w; go_simp; try with_reducible rfl
    simp only [Act.put, rgA, rgB, rgC, rgD, rgE, rgF]
    refine wpAnyT_done (by kernel_rfl) ?_ _
    have hbP : Below wr.heap.size wr w117 := hB_0_s11.trans ((hB_s11_w117).mono hB_0_s11.size)
    have HB5 := Lib.hid (below_step HBR.out hbP)
    clear hbP
    go_wp2_with fail
    go_roundw
    case rel => exact ⟨k + 1, HLT.out, by go_num, HB5.out⟩
    case measure => simp [intOf]; try omega
  · obtain rfl : k = len := by omega
    clear hB
    go_wp2_with fail
    go_ret
    exact ⟨rfl, HBW.out⟩
end Go.Proofs.Ytoimbhdjhhmonaa
