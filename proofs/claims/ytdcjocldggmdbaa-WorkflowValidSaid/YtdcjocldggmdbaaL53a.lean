/- The law WorkflowValid, walked. -/
import Derived.Test.YtdcjocldggmdbaaX53j
import Derived.Test.YtdcjocldggmdbaaRead
set_option linter.unusedSimpArgs false
namespace Go.Proofs.Ytdcjocldggmdbaa
open Go.RowKit Go

set_option maxRecDepth 20000 in
set_option maxHeartbeats 1000000 in
theorem rdefault53 (w : World) :
    Calls Try.prog 12 #[] w fun e w' => ∃ b, e = .returned (.slice (some ⟨b, 0, none⟩) 6 6) ∧ Rd (.sl taskT) (fun b => w.heap.size ≤ b ∧ b < w'.heap.size) w' [.slice (some ⟨b, 0, none⟩) 6 6] (dfl.map Tk.d) ∧ Below w.heap.size w w' := by
  go_enter Try.func12, Try.ntmps12
  go_wp2_with fail
  go_ret
  refine ⟨_, rfl, dfl_rd (n := w.heap.size) (b0 := w.heap.size) (b1 := w.heap.size + 1) (b2 := w.heap.size + 1 + 1) (b3 := w.heap.size + 1 + 1 + 1) (b4 := w.heap.size + 1 + 1 + 1 + 1) (t9 := 9) (t38 := 39) (fr := (0, 0)) (by omega) ?_ ?_ ?_ ?_ ?_, (((((Below.refl w.heap.size w).alloc (Nat.le_refl _) _).alloc (by simp) _).alloc (by simp <;> omega) _).alloc (by simp <;> omega) _).alloc (by simp <;> omega) _⟩
  · exact alloc_old' (alloc_old' (alloc_old' (alloc_old' (alloc_new' rfl))))
  · exact alloc_old' (alloc_old' (alloc_old' (alloc_new' (by simp))))
  · exact alloc_old' (alloc_old' (alloc_new' (by simp)))
  · exact alloc_old' (alloc_new' (by simp))
  · exact alloc_new' (by simp)
abbrev planT : Ty := .pr (.int .i64) (.pr (.sl taskT) .un)
set_option maxRecDepth 20000 in
set_option maxHeartbeats 4000000 in
theorem validWalk53 (w : World) (c0 : List Value) (x0 : planT.den) (r0 : Rd planT (fun b => b < w.heap.size) w c0 x0) :
    Calls Try.prog 3 #[valOf planT c0] w fun e w' => e = .returned (.bool true) ∧ Below w.heap.size w w' := by
  obtain ⟨n, xs, ⟨⟩⟩ := x0
  obtain ⟨k1, kr1, rfl, ⟨rfl, hn⟩, k2, kr2, rfl, hx, rfl⟩ := r0
  obtain ⟨a, len, cap, rfl, hl, hlc, hcm, -⟩ := id hx
  change List taskT.den at xs
  change Calls _ _ #[.agg #[.int .i64 n, .slice a len cap]] _ _
  have hp := alloc_new' (w := w) (o := .cells #[.int .i64 n, .slice a len cap] 24) rfl
  have hB := (Below.refl w.heap.size w).alloc (Nat.le_refl _) (.cells #[.int .i64 n, .slice a len cap] 24)
  have HP := Lib.hid hp
  have HB := Lib.hid hB
  have HX := Lib.hid (show Rd (.sl taskT) (fun b => b < (w.alloc (.cells #[.int .i64 n, .slice a len cap] 24)).heap.size) (w.alloc (.cells #[.int .i64 n, .slice a len cap] 24)) [.slice a len cap] xs from Rd.alloc hx hB)
  have HL := Lib.hid (show xs.length = len from hl)
  clear hx hl hn hp hB
  go_enter Try.func3, Try.ntmps3
  go_wp2_with fail
  generalize w.alloc _ = w1 at HP HB HX ⊢
  obtain ⟨pb, hpb⟩ : ∃ q, w.heap.size = q := ⟨_, rfl⟩
  have HPB := Lib.hid hpb
  rw [hpb] at HP ⊢
  clear hpb
  refine (awake53 w1).mono ?_
  rintro e w2 ⟨rfl, hB2⟩
  have HP2 := Lib.hid ((hB2.block _ (blk_lt HP.out)).trans HP.out)
  have HB2 := Lib.hid (below_step HB.out hB2)
  have HX2 := Lib.hid (HX.out.alloc hB2)
  have x0 := blk_cell HP2.out 0
  have x1 := blk_cell HP2.out 1
  simp at x0 x1
  clear hB2 HP HB HX
  go_wp2_with fail
  refine (few53 w2 n a len cap xs HX2.out (fun b hb => hb)).mono ?_
  rintro e w3 ⟨fb, rfl, hB3, hfb⟩
  have HP3 := Lib.hid ((hB3.block _ (blk_lt HP2.out)).trans HP2.out)
  have HB3 := Lib.hid (below_step HB2.out hB3)
  have HX3 := Lib.hid (HX2.out.alloc hB3)
  have HFB := Lib.hid hfb
  clear hB3 hfb HP2 HB2 HX2 x0 x1
  cases fb
  · go_wp2_with fail
    go_ret
    exact ⟨rfl, HB3.out⟩
  have HFW := Lib.hid (HFB.out rfl)
  have hlen8 : len ≤ 8 := by rw [← HL.out]; exact HFW.out.1
  have x0 := blk_cell HP3.out 0
  have x1 := blk_cell HP3.out 1
  simp at x0 x1
  go_wp2_with fail
  refine (start53 w3 n a len cap xs HX3.out (fun b hb => hb) (by omega) (fun i hi => Nat.le_trans (HFW.out.2 i hi) (by omega))).mono ?_
  rintro e w4 ⟨q, y1, y2, sa, sl, sc, rfl, hB4⟩
  have HP4 := Lib.hid ((hB4.block _ (blk_lt HP3.out)).trans HP3.out)
  have HB4 := Lib.hid (below_step HB3.out hB4)
  have HX4 := Lib.hid (HX3.out.alloc hB4)
  clear hB4 HP3 HB3 HX3 x0 x1
  go_wp2_with fail
  have hBa := (Below.refl w4.heap.size w4).alloc (Nat.le_refl _) (.cells #[.int .i64 y1, .int .i64 y2, .slice sa sl sc, .slice none 0 0] 30)
  have HP5 := Lib.hid ((hBa.block _ (blk_lt HP4.out)).trans HP4.out)
  have HB5 := Lib.hid (below_step HB4.out hBa)
  have HX5 := Lib.hid (HX4.out.alloc hBa)
  clear hBa HP4 HB4 HX4
  generalize w4.alloc (.cells #[.int .i64 y1, .int .i64 y2, .slice sa sl sc, .slice none 0 0] 30) = w5 at HP5 HB5 HX5 ⊢
  refine (default53 w5).mono ?_
  rintro e w6 ⟨db, rfl, hd6, hB6⟩
  have HD6 := Lib.hid hd6
  have HP6 := Lib.hid ((hB6.block _ (blk_lt HP5.out)).trans HP5.out)
  have HB6 := Lib.hid (below_step HB5.out hB6)
  have HX6 := Lib.hid (HX5.out.alloc hB6)
  clear hd6 hB6 HP5 HB5 HX5
  go_wp2_with fail
  refine (rdefault53 w6).mono ?_
  rintro e w7 ⟨rb, rfl, hd7, hB7⟩
  have HE7 := Lib.hid (hd7.keep (S' := fun b => b < w7.heap.size) (fun _ _ => rfl) (fun b hb => hb.2))
  have HD7 := Lib.hid (Rd.keep (S' := fun b => b < w7.heap.size) (fun b hb => hB7.block b hb.2) (fun b hb => Nat.lt_of_lt_of_le hb.2 hB7.size) HD6.out)
  have HP7 := Lib.hid ((hB7.block _ (blk_lt HP6.out)).trans HP6.out)
  have HB7 := Lib.hid (below_step HB6.out hB7)
  have HX7 := Lib.hid (HX6.out.alloc hB7)
  clear hd7 hB7 HP6 HB6 HX6 HD6
  go_wp2_with fail
  go_loopw [8, 9] (fun i _ wr => ∃ k : Nat, k ≤ 6 ∧ i = .int .i64 k ∧ Below w7.heap.size w7 wr) (fun i _ _ => 6 - (intOf i).toNat)
  case atStart => exact ⟨0, by omega, rfl, Below.refl _ _⟩
  case round =>
    obtain ⟨k, hk, rfl, hB⟩ := hrel
    have HBk := Lib.hid hB
    clear hB
    by_cases hlt : k < 6
    · have hkI : (k : Int) < 6 := by omega
      have hkx : k < (dfl.map Tk.d).length := hlt
      obtain ⟨b1, o1, na, nl, nc, hb1, hS1, m0, m1, m2, m3, hnd, hnm⟩ := task_at HD7.out k hkx
      simp only [Option.some.injEq, Addr.mk.injEq, and_true] at hb1
      obtain ⟨rfl, rfl⟩ := hb1
      obtain ⟨b2, o2, na2, nl2, nc2, hb2, hS2, e0, e1, e2, e3, hnd2, hnm2⟩ := task_at HE7.out k hkx
      simp only [Option.some.injEq, Addr.mk.injEq, and_true] at hb2
      obtain ⟨rfl, rfl⟩ := hb2
      rw [Nat.zero_add] at m0 m1 m2 m3 e0 e1 e2 e3
      generalize tk (dfl.map Tk.d)[k] = t at m0 m1 m2 m3 hnd hnm e0 e1 e2 e3 hnd2 hnm2
      obtain ⟨tnm, tnd, tg, ta⟩ := t
      simp only at m0 m1 m2 m3 hnd hnm e0 e1 e2 e3 hnd2 hnm2
      obtain rfl : nl = nl2 := by rw [← hnd.sl_flat.1, hnd2.sl_flat.1]
      have HNL := Lib.hid (show tnd.length = nl from hnd.sl_flat.1)
      have HNC := Lib.hid (And.intro hnd.sl_flat.2.1 hnd.sl_flat.2.2.1)
      have hnlm : nl ≤ 9223372036854775807 := by have := HNC.out; omega
      obtain ⟨-, -, -, hat1⟩ := Rd.sl1 (e := .str) rfl hnd
      obtain ⟨-, -, -, hat2⟩ := Rd.sl1 (e := .str) rfl hnd2
      have HA1 := Lib.hid hat1
      have HA2 := Lib.hid hat2
      have HM1 := Lib.hid m1
      have HE1 := Lib.hid e1
      have HTR := Lib.hid (fun (W : World) (hW : Below w7.heap.size w7 W) (p : Addr) (v : Value) (hb : p.block < w7.heap.size) (h : w7.cell? p = some v) => (World.cell?_of_block (w := w7) (w' := W) (a := p) (hW.block p.block hb)).trans h)
      have f0 := HTR.out wr HBk.out _ _ hS1 m0
      have f1 := HTR.out wr HBk.out _ _ hS1 m1
      have f2 := HTR.out wr HBk.out _ _ hS1 m2
      have f3 := HTR.out wr HBk.out _ _ hS1 m3
      have g0 := HTR.out wr HBk.out _ _ hS2 e0
      have g1 := HTR.out wr HBk.out _ _ hS2 e1
      have g2 := HTR.out wr HBk.out _ _ hS2 e2
      have g3 := HTR.out wr HBk.out _ _ hS2 e3
      have hq : (tnm.toList == tnm.toList) = true := by simp
      have HLT := Lib.hid hlt
      clear hnd hnd2 hnm hnm2 hat1 hat2 hkx m0 m1 m2 m3 e0 e1 e2 e3
      go_wp2_with fail
      go_quiet (fail)
      go_wp2_with fail
      clear f0 f1 f2 f3 g0 g1 g2 g3 hq
      go_loopw [9] (fun i wr2 => ∃ j : Nat, j ≤ nl ∧ i = .int .i64 j ∧ Below w7.heap.size w7 wr2) (fun i _ => nl - (intOf i).toNat)
      case atStart => exact ⟨0, Nat.zero_le _, rfl, below_drewN HBk.out _⟩
      case round =>
        obtain ⟨j, hj, rfl, hB9⟩ := hrel
        have HB9 := Lib.hid hB9
        clear hB9
        have f1 := HTR.out wr HB9.out _ _ hS1 HM1.out
        have g1 := HTR.out wr HB9.out _ _ hS2 HE1.out
        by_cases hlt2 : j < nl
        · have hjI : (j : Int) < (nl : Int) := by omega
          have hjx : j < tnd.length := by rw [HNL.out]; exact hlt2
          obtain ⟨nb, no, nv, rfl, hSn, u0, hu⟩ := HA1.out j hjx
          obtain ⟨he, -⟩ := hu
          simp only [List.cons.injEq, and_true] at he
          subst he
          obtain ⟨nb2, no2, nv2, rfl, hSn2, u2, hu2⟩ := HA2.out j hjx
          obtain ⟨he2, -⟩ := hu2
          simp only [List.cons.injEq, and_true] at he2
          subst he2
          generalize tnd[j] = sj at u0 u2
          have v0 := HTR.out wr HB9.out _ _ hSn u0
          have v2 := HTR.out wr HB9.out _ _ hSn2 u2
          have hq : (sj.toList == sj.toList) = true := by simp
          clear u0 u2 hjx
          go_wp2_with fail
          go_quiet (fail)
          go_wp2_with fail
          go_roundw
          case rel => exact ⟨j + 1, by omega, by go_num, below_drewN HB9.out _⟩
          case measure => simp [intOf]; try omega
        · obtain rfl : j = nl := by omega
          have hl1 := HLT.out
          go_wp2_with fail
          go_roundw
          case rel => exact ⟨k + 1, by omega, by go_num, HB9.out⟩
          case measure => simp [intOf]; try omega
    · obtain rfl : k = 6 := by omega
      obtain ⟨w8, rfl⟩ : ∃ x, x = wr := ⟨_, rfl⟩
      have hp8 := (HBk.out.block _ (blk_lt HP7.out)).trans HP7.out
      have HX8 := Lib.hid (HX7.out.alloc HBk.out)
      have HB8 := Lib.hid (below_step HB7.out HBk.out)
      have HC0 : Cells [(⟨pb, 1, none⟩, .slice a len cap)] w8 := ⟨blk_cell hp8 1, trivial⟩
      clear hp8
      go_wp2_with fail
      refine wp_region_T (Cells [(⟨pb, 1, none⟩, .slice a len cap)]) (fun _ => false) (by kernel_rfl) ?_
      have hSss1 := Cells.drew HC0
      have hB_0_s1 : Below w8.heap.size w8 w8.drew := below_drew _
      generalize w8.drew = s1 at hSss1 hB_0_s1 ⊢
      have hB_s1_s1 := Below.refl s1.heap.size s1
      refine wpAnyT_pure (i := 0) (v := ?_) rfl (by kernel_rfl) (by kernel_rfl) (by kernel_rfl) (fun _ _ _ h => h) (by rfl) ?_ ?_
      rotate_left
      · intro w; go_simp; try with_reducible rfl
      simp only [Act.put, List.setIfInBounds_toArray, List.set_cons_zero, List.set_cons_succ, List.getElem_toArray, List.getElem_cons_succ, List.getElem_cons_zero]
      refine wpAnyT_pure (i := 1) (v := ?_) rfl (by kernel_rfl) (by kernel_rfl) (by kernel_rfl) (fun _ _ _ h => h) (by rfl) ?_ ?_
      rotate_left
      · intro w; go_simp; try with_reducible rfl
      simp only [Act.put, List.setIfInBounds_toArray, List.set_cons_zero, List.set_cons_succ, List.getElem_toArray, List.getElem_cons_succ, List.getElem_cons_zero]
      refine wpAnyT_pure (i := 2) (v := ?_) rfl (by kernel_rfl) (by kernel_rfl) (by kernel_rfl) (fun _ _ _ h => h) (by rfl) ?_ ?_
      rotate_left
      · intro w; go_simp; try with_reducible rfl
      simp only [Act.put, List.setIfInBounds_toArray, List.set_cons_zero, List.set_cons_succ, List.getElem_toArray, List.getElem_cons_succ, List.getElem_cons_zero]
      refine wpAnyT_pure (i := 6) (v := ?_) rfl (by kernel_rfl) (by kernel_rfl) (by kernel_rfl) (fun _ _ _ h => h) (by rfl) ?_ ?_
      rotate_left
      · intro w; go_simp; try with_reducible rfl
      simp only [Act.put, List.setIfInBounds_toArray, List.set_cons_zero, List.set_cons_succ, List.getElem_toArray, List.getElem_cons_succ, List.getElem_cons_zero]
      refine wpAnyT_loadW (i := 3) (v := ?_) rfl (by kernel_rfl) (by kernel_rfl) (by kernel_rfl) (by kernel_rfl) (by kernel_rfl) (fun _ _ _ h => h) (Or.inl ⟨by rfl, ?_⟩) hSss1 ?_
      rotate_left
      · intro w hSw; obtain ⟨e0, -⟩ := hSw; go_simp; try with_reducible rfl
      simp only [Act.put, List.setIfInBounds_toArray, List.set_cons_zero, List.set_cons_succ, List.getElem_toArray, List.getElem_cons_succ, List.getElem_cons_zero]
      refine wpAnyT_loadW (i := 7) (v := ?_) rfl (by kernel_rfl) (by kernel_rfl) (by kernel_rfl) (by kernel_rfl) (by kernel_rfl) (fun _ _ _ h => h) (Or.inl ⟨by rfl, ?_⟩) hSss1 ?_
      rotate_left
      · intro w hSw; obtain ⟨e0, -⟩ := hSw; go_simp; try with_reducible rfl
      simp only [Act.put, List.setIfInBounds_toArray, List.set_cons_zero, List.set_cons_succ, List.getElem_toArray, List.getElem_cons_succ, List.getElem_cons_zero]
      refine wpAnyT_one (i := 4) (by kernel_rfl) rfl (by rfl) ?_
      have hbP : Below w8.heap.size w8 s1 := hB_0_s1.trans ((hB_s1_s1).mono hB_0_s1.size)
      refine wp_enter (f := 14) (args := #[.slice a len cap]) (by go_simp) (own53 _ a len cap xs (HX8.out.alloc hbP) (fun b hb => hb) (by omega) (fun i hi => Nat.le_trans (HFW.out.2 i hi) (by omega))) ?_
      rintro e w102 ⟨oa, ol, oc, S5, rfl, hR5, hS5, hX⟩
      have HR5 := Lib.hid hR5
      have HS5 := Lib.hid hS5
      clear hR5 hS5 hbP
      have hB_s1_w102 := below_step hB_s1_s1 hX
      have hB_w102_w102 := Below.refl w102.heap.size w102
      have hSsw102 := Cells.below hB_s1_w102 hSss1
      clear hX
      refine ⟨_, rfl, fun _ _ => hSsw102, ?_⟩
      try simp only [Act.put, List.setIfInBounds_toArray, List.set_cons_zero, List.set_cons_succ, List.getElem_toArray, List.getElem_cons_succ, List.getElem_cons_zero]
      refine wpAnyT_one (i := 5) (by kernel_rfl) rfl (by rfl) ?_
      refine wp_enter (f := 13) (args := #[.slice oa ol oc]) (by go_simp) (valid53 _ oa ol oc xs HR5.out HS5.out (by have h1 := HR5.out.sl_flat.1; have h2 := HL.out; omega) (fun i hi => Nat.le_trans (HFW.out.2 i hi) (by omega))) ?_
      rintro e w103 ⟨bv1, rfl, hX, hv1⟩
      have hB_s1_w103 := below_step hB_s1_w102 hX
      have hB_w102_w103 := below_step hB_w102_w102 hX
      have hB_w103_w103 := Below.refl w103.heap.size w103
      have hSsw103 := Cells.below hB_s1_w103 hSss1
      clear hX
      refine ⟨_, rfl, fun _ _ => hSsw103, ?_⟩
      try simp only [Act.put, List.setIfInBounds_toArray, List.set_cons_zero, List.set_cons_succ, List.getElem_toArray, List.getElem_cons_succ, List.getElem_cons_zero]
      refine wpAnyT_one (i := 8) (by kernel_rfl) rfl (by rfl) ?_
      have hbP : Below w8.heap.size w8 w103 := hB_0_s1.trans ((hB_s1_w103).mono hB_0_s1.size)
      refine wp_enter (f := 15) (args := #[.slice a len cap]) (by go_simp) (rvalid53 _ a len cap xs (HX8.out.alloc hbP) (fun b hb => hb)) ?_
      rintro e w104 ⟨bv2, rfl, hX, hv2⟩
      obtain rfl : bv1 = bv2 := by
        rw [Bool.eq_iff_iff, hv1, hv2]
      clear hbP hv1 hv2
      have hB_s1_w104 := below_step hB_s1_w103 hX
      have hB_w102_w104 := below_step hB_w102_w103 hX
      have hB_w103_w104 := below_step hB_w103_w103 hX
      have hB_w104_w104 := Below.refl w104.heap.size w104
      have hSsw104 := Cells.below hB_s1_w104 hSss1
      clear hX
      refine ⟨_, rfl, fun _ _ => hSsw104, ?_⟩
      try simp only [Act.put, List.setIfInBounds_toArray, List.set_cons_zero, List.set_cons_succ, List.getElem_toArray, List.getElem_cons_succ, List.getElem_cons_zero]
      refine wpAnyT_one (i := 9) (by kernel_rfl) rfl (by rfl) ?_
      refine wp_value (v := .bool true) (w' := w104) (by go_simp) ?_
      refine ⟨fun _ h => h, ?_⟩
      try simp only [Act.put, List.setIfInBounds_toArray, List.set_cons_zero, List.set_cons_succ, List.getElem_toArray, List.getElem_cons_succ, List.getElem_cons_zero]
      refine wpAnyT_pure (i := 10) (v := ?_) rfl (by kernel_rfl) (by kernel_rfl) (by kernel_rfl) (fun _ _ _ h => h) (by rfl) ?_ ?_
      rotate_left
      · intro w; go_simp; try with_reducible rfl
      simp only [Act.put, List.setIfInBounds_toArray, List.set_cons_zero, List.set_cons_succ, List.getElem_toArray, List.getElem_cons_succ, List.getElem_cons_zero]
      refine wpAnyT_pure (i := 11) (v := ?_) rfl (by kernel_rfl) (by kernel_rfl) (by kernel_rfl) (fun _ _ _ h => h) (by rfl) ?_ ?_
      rotate_left
      · intro w; go_simp; try with_reducible rfl
      simp only [Act.put, List.setIfInBounds_toArray, List.set_cons_zero, List.set_cons_succ, List.getElem_toArray, List.getElem_cons_succ, List.getElem_cons_zero]
      refine wpAnyT_done (by kernel_rfl) ?_ _
      have hbP : Below w8.heap.size w8 w104 := hB_0_s1.trans ((hB_s1_w104).mono hB_0_s1.size)
      go_wp2_with fail
      go_ret
      exact ⟨rfl, below_step HB8.out hbP⟩
end Go.Proofs.Ytdcjocldggmdbaa
