/- Layer 47: the reference's Cycle. -/
import Derived.Test.YtoimbhdjhhmonaaE47p
set_option linter.unusedSimpArgs false
set_option linter.unusedVariables false
set_option maxRecDepth 50000
namespace Go.Proofs.Ytoimbhdjhhmonaa
open Go.RowKit Go Go.Shelf

/-- A cell in a block of its own. -/
def BoxC (w : World) (b : Nat) (c : C4) : Prop := w.heap[b]? = some (.cells #[.int .i64 c.st, .int .i64 c.en, .int .i64 c.ot, .int .i64 c.pe] 38 (0, 0))
theorem BoxC.lt {w : World} {b : Nat} {c : C4} (h : BoxC w b c) : b < w.heap.size := blk_lt h
theorem BoxC.gr {w w' : World} {b : Nat} {c : C4} {G : Nat → Prop} (h : BoxC w b c) (hg : Gr G w w') (hb : ¬ G b) : BoxC w' b c := blk_gr hg h hb
theorem BoxC.below {w w' : World} {b : Nat} {c : C4} (h : BoxC w b c) (hB : Below w.heap.size w w') : BoxC w' b c := (hB.block _ h.lt).trans h
theorem BoxC.cells {w : World} {b : Nat} {c : C4} (h : BoxC w b c) : w.cell? ⟨b, 0, none⟩ = some (.int .i64 c.st) ∧ w.cell? ⟨b, 1, none⟩ = some (.int .i64 c.en) ∧ w.cell? ⟨b, 2, none⟩ = some (.int .i64 c.ot) ∧ w.cell? ⟨b, 3, none⟩ = some (.int .i64 c.pe) :=
  ⟨blk_cell h 0, blk_cell h 1, blk_cell h 2, blk_cell h 3⟩
/-- A cell is put into it. -/
theorem BoxC.store {w : World} {b : Nat} {c : C4} (h : BoxC w b c) (P : Program) (d : C4) :
    ∃ w', Sem.run P (storeCells ⟨b, 0, none⟩ (C4.v d).cells.toList) w = .ok () w' ∧ BoxC w' b d ∧ Gr (fun x => x = b) w w' := by
  have hrun := run_storeCells_cells (P := P) b 0 (encC d) 0 w (fun j hj => by
    rw [encC_len] at hj
    rw [blk_cell h]
    match j, hj with
    | 0, _ => rfl
    | 1, _ => rfl
    | 2, _ => rfl
    | 3, _ => rfl) (fun j hj => blk_frozen h _) (fun v hv => by
    simp [encC] at hv
    rcases hv with rfl | rfl | rfl | rfl <;> rfl)
  have e0 := blk_set (i := 0) h (.int .i64 d.st)
  have e1 := blk_set (i := 0 + 1) e0 (.int .i64 d.en)
  have e2 := blk_set (i := 0 + 1 + 1) e1 (.int .i64 d.ot)
  have e3 := blk_set (i := 0 + 1 + 1 + 1) e2 (.int .i64 d.pe)
  exact ⟨_, hrun, e3, gr_setCells b (encC d) 0 w⟩
set_option maxHeartbeats 4000000 in
theorem rcycle47 {S : Nat → Prop} {m : Nat} (w : World) (a : Option Addr) (cap : Nat) (G : List En4) (hx : Rd (.sl entT) S w [.slice a G.length cap] (G.map entD)) (hS : ∀ b, S b → b < w.heap.size) (hG : GI m G) (hm : m ≤ 100) :
    Calls Try.prog 26 #[.slice a G.length cap] w (CycleP w (cellsG G) (lkG G)) := by
  have HX := Lib.hid hx
  have HS := Lib.hid hS
  have HGI := Lib.hid hG
  have HA := Lib.hid hG.allG
  have HGL := Lib.hid (show G.length ≤ 100 from Nat.le_trans hG.num hm)
  have HCL := Lib.hid (rcells47 w a cap G hx hS HGL.out (fun e he => by have := hG.len e he; omega))
  obtain ⟨al, hal⟩ : ∃ al, cellsG G = al := ⟨_, rfl⟩
  have HAL := Lib.hid (show al.length ≤ 4000 from by have := cellsG_len hG; rw [hal] at this; have := HGL.out; omega)
  rw [hal] at HCL HA ⊢
  have hall := HAL.out
  clear hx hS hG hal hm
  go_enter Try.func26, Try.ntmps26
  go_wp2_with fail
  refine HCL.out.mono ?_
  rintro e w1 ⟨v, rfl, hsl, hB1⟩
  obtain ⟨oa, oc, rfl⟩ := hsl.form
  have HSL := Lib.hid hsl
  have HB1 := Lib.hid hB1
  clear hsl hB1
  go_upto_region 3 with fail
  have HBX0 := Lib.hid (show BoxC (w1.alloc (.cells #[.int .i64 0, .int .i64 0, .int .i64 0, .int .i64 0] 38)) w1.heap.size ⟨0, 0, 0, 0⟩ from heap_alloc_new w1 _)
  have HB2 := Lib.hid ((Below.refl w1.heap.size w1).alloc (Nat.le_refl _) (.cells #[.int .i64 0, .int .i64 0, .int .i64 0, .int .i64 0] 38))
  generalize World.alloc _ _ = w2 at *
  go_wp2_with fail
  go_loopw [5, 6] (fun s5 s6 wr => ∃ (j : Nat), j ≤ al.length ∧ s6 = .int .i64 j ∧ Below w1.heap.size w1 wr ∧ ((s5 = .bool false ∧ BoxC wr w1.heap.size ⟨0, 0, 0, 0⟩ ∧ ∀ x ∈ al.take j, ¬ Rch (rsOf (lkG G)) x x) ∨ (s5 = .bool true ∧ ∃ (i0 : Nat) (hi : i0 < al.length), BoxC wr w1.heap.size al[i0] ∧ Rch (rsOf (lkG G)) al[i0] al[i0] ∧ ∀ i (hi2 : i < i0), ¬ Rch (rsOf (lkG G)) (al[i]'(by omega)) (al[i]'(by omega))))) (fun _ s6 _ => al.length - (intOf s6).toNat)
  case atStart => exact ⟨0, Nat.zero_le _, rfl, HB2.out, .inl ⟨rfl, HBX0.out, (fun x hx => by simp at hx)⟩⟩
  case round =>
    obtain ⟨j, hj, rfl, hB, hor⟩ := hrel
    have HB := Lib.hid hB
    have HBW := Lib.hid (below_step HB1.out hB)
    clear hB
    rcases hor with ⟨rfl, hbx, hno⟩ | ⟨rfl, i0, hi0, hbx, hr0, hn0⟩
    · have HBX := Lib.hid hbx
      have HNO := Lib.hid hno
      clear hbx hno
      by_cases hjl : j < al.length
      · have hjI : (j : Int) < (al.length : Int) := by omega
        obtain ⟨b, o, hoa, hbo, m0, m1, m2, m3, hcok⟩ := cell_at (HSL.out.rd.below HB.out (fun b hb => hb.2)) j hjl
        obtain ⟨c, hc⟩ : ∃ x, x = al[j]'hjl := ⟨_, rfl⟩
        rw [← hc] at m0 m1 m2 m3 hcok
        have HCE := Lib.hid hc
        have HJ := Lib.hid hjl
        have HCO := Lib.hid hcok
        have HTK := Lib.hid (show al.take (j + 1) = al.take j ++ [c] from by rw [hc]; exact List.take_succ_eq_append_getElem hjl)
        have HBO := Lib.hid (show b < w1.heap.size from hbo.2)
        obtain ⟨tb, htb⟩ : ∃ tb : Bool, tb = true ↔ Rch (rsOf (lkG G)) c c := ⟨@decide _ (Classical.propDecidable _), @decide_eq_true_iff _ (Classical.propDecidable _)⟩
        have HTB := Lib.hid htb
        clear hc hcok hbo htb
        subst hoa
        obtain ⟨c1, c2, c3, c4⟩ := c
        simp only at m0 m1 m2 m3
        have hC0 : Cells [(⟨b, o + j * 4, none⟩, .int .i64 c1), (⟨b, o + j * 4 + 1, none⟩, .int .i64 c2), (⟨b, o + j * 4 + 2, none⟩, .int .i64 c3), (⟨b, o + j * 4 + 3, none⟩, .int .i64 c4)] wr := ⟨m0, m1, m2, m3, trivial⟩
        have HM := Lib.hid (And.intro m0 (And.intro m1 (And.intro m2 m3)))
        clear m0 m1 m2 m3
        go_upto_region 7 with fail
        go_cut [37] (fun s wx => s = .bool tb ∧ Below wr.heap.size wr wx)
        case first =>
          refine wp_region_T (Cells [(⟨b, o + j * 4, none⟩, .int .i64 c1), (⟨b, o + j * 4 + 1, none⟩, .int .i64 c2), (⟨b, o + j * 4 + 2, none⟩, .int .i64 c3), (⟨b, o + j * 4 + 3, none⟩, .int .i64 c4)]) (fun _ => false) (by kernel_rfl) ?_
          have hSss1 := Cells.drew hC0
          have hB_0_s1 : Below wr.heap.size wr wr.drew := below_drew _
          generalize wr.drew = s1 at hSss1 hB_0_s1 ⊢
          have hB_s1_s1 := Below.refl s1.heap.size s1
          refine wpAnyT_pure (i := 0) (v := ?_) rfl (by kernel_rfl) (by kernel_rfl) (by kernel_rfl) (fun _ _ _ h => h) (by rfl) ?_ ?_
          rotate_left
          · intro w; go_simp; try with_reducible rfl
          simp only [Act.put, rgA, rgB, rgC, rgD, rgE, rgF]
          refine wpAnyT_pure (i := 1) (v := ?_) rfl (by kernel_rfl) (by kernel_rfl) (by kernel_rfl) (fun _ _ _ h => h) (by rfl) ?_ ?_
          rotate_left
          · intro w; go_simp; try with_reducible rfl
          simp only [Act.put, rgA, rgB, rgC, rgD, rgE, rgF]
          refine wpAnyT_pure (i := 2) (v := ?_) rfl (by kernel_rfl) (by kernel_rfl) (by kernel_rfl) (fun _ _ _ h => h) (by rfl) ?_ ?_
          rotate_left
          · intro w; go_simp; try with_reducible rfl
          simp only [Act.put, rgA, rgB, rgC, rgD, rgE, rgF]
          refine wpAnyT_pure (i := 3) (v := ?_) rfl (by kernel_rfl) (by kernel_rfl) (by kernel_rfl) (fun _ _ _ h => h) (by rfl) ?_ ?_
          rotate_left
          · intro w; go_simp; try with_reducible rfl
          simp only [Act.put, rgA, rgB, rgC, rgD, rgE, rgF]
          refine wpAnyT_pure (i := 7) (v := ?_) rfl (by kernel_rfl) (by kernel_rfl) (by kernel_rfl) (fun _ _ _ h => h) (by rfl) ?_ ?_
          rotate_left
          · intro w; go_simp; try with_reducible rfl
          simp only [Act.put, rgA, rgB, rgC, rgD, rgE, rgF]
          refine wpAnyT_pure (i := 8) (v := ?_) rfl (by kernel_rfl) (by kernel_rfl) (by kernel_rfl) (fun _ _ _ h => h) (by rfl) ?_ ?_
          rotate_left
          · intro w; go_simp; try with_reducible rfl
          simp only [Act.put, rgA, rgB, rgC, rgD, rgE, rgF]
          refine wpAnyT_pure (i := 9) (v := ?_) rfl (by kernel_rfl) (by kernel_rfl) (by kernel_rfl) (fun _ _ _ h => h) (by rfl) ?_ ?_
          rotate_left
          · intro w; go_simp; try with_reducible rfl
          simp only [Act.put, rgA, rgB, rgC, rgD, rgE, rgF]
          refine wpAnyT_loadW (i := 4) (v := ?_) rfl (by kernel_rfl) (by kernel_rfl) (by kernel_rfl) (by kernel_rfl) (by kernel_rfl) (fun _ _ _ h => h) (Or.inl ⟨by rfl, ?_⟩) hSss1 ?_
          rotate_left
          · intro w hSw; obtain ⟨e0, e1, e2, e3, -⟩ := hSw; go_simp; try with_reducible rfl
          simp only [Act.put, rgA, rgB, rgC, rgD, rgE, rgF]
          refine wpAnyT_loadW (i := 10) (v := ?_) rfl (by kernel_rfl) (by kernel_rfl) (by kernel_rfl) (by kernel_rfl) (by kernel_rfl) (fun _ _ _ h => h) (Or.inl ⟨by rfl, ?_⟩) hSss1 ?_
          rotate_left
          · intro w hSw; obtain ⟨e0, e1, e2, e3, -⟩ := hSw; go_simp; try with_reducible rfl
          simp only [Act.put, rgA, rgB, rgC, rgD, rgE, rgF]
          refine wpAnyT_one (i := 5) (by kernel_rfl) rfl (by rfl) ?_
          obtain ⟨nb, hnb⟩ : ∃ b, b = s1.heap.size := ⟨_, rfl⟩
          refine wp_newrow (v := .slice (some ⟨nb, 0, none⟩) 1 1) (cs := #[.int .i64 c1, .int .i64 c2, .int .i64 c3, .int .i64 c4]) (te := 38) (by rw [hnb]; go_simp) ?_
          rw [← hnb]
          intro w102 hX hrow
          rw [hnb] at hX
          have HRO := Lib.hid hrow
          clear hrow hnb
          have hB_s1_w102 := below_step hB_s1_s1 hX
          have hB_w102_w102 := Below.refl w102.heap.size w102
          have hSsw102 := Cells.below hB_s1_w102 hSss1
          clear hX
          refine ⟨fun _ _ => hSsw102, ?_⟩
          try simp only [Act.put, rgA, rgB, rgC, rgD, rgE, rgF]
          refine wpAnyT_one (i := 6) (by kernel_rfl) rfl (by rfl) ?_
          have hbP : Below wr.heap.size wr w102 := hB_0_s1.trans ((hB_s1_w102).mono (hB_0_s1).size)
          have hgP := HX.out.below (below_step HBW.out hbP) HS.out
          have hr5 := ((hB_w102_w102).block _ (blk_lt HRO.out)).trans HRO.out
          have hl5 : Rd (.sl cellT) (fun b => b = nb) w102 [.slice (some ⟨nb, 0, none⟩) ([⟨c1, c2, c3, c4⟩] : List C4).length 1] (([⟨c1, c2, c3, c4⟩] : List C4).map C4.d) := CRow.rd (l := [⟨c1, c2, c3, c4⟩]) ⟨_, hr5, fun i hi => by
            have : i = 0 := by simp at hi; omega
            subst this
            exact ⟨rfl, rfl, rfl, rfl⟩⟩ (fun k hk => by rw [List.mem_singleton] at hk; rw [hk]; exact HCO.out) 1 (Nat.le_refl _) (by decide)
          refine wp_enter (f := 14) (args := #[.slice a G.length cap, .slice (some ⟨nb, 0, none⟩) 1 1]) (by go_simp) (raffected47 w102 a cap G hgP (fun b hb => Nat.lt_of_lt_of_le (HS.out b hb) (below_step HBW.out hbP).size) HGI.out (by have := HGL.out; omega) (some ⟨nb, 0, none⟩) 1 [⟨c1, c2, c3, c4⟩] hl5 (fun b hb => by rw [hb]; exact blk_lt hr5)) ?_
          rintro e w103 ⟨v6, ys, rfl, -, hmem, hsl, hX⟩
          obtain ⟨va, vc, rfl⟩ := hsl.form
          have HSL6 := Lib.hid hsl
          have HDY := Lib.hid (show decide ((⟨c1, c2, c3, c4⟩ : C4) ∈ ys) = tb from by
            have h1 : (⟨c1, c2, c3, c4⟩ : C4) ∈ ys ↔ tb = true := by rw [hmem, HTB.out]; simp
            rw [Bool.eq_iff_iff, decide_eq_true_iff]
            exact h1)
          clear hsl hmem hbP hgP hr5 hl5
          have hB_s1_w103 := below_step hB_s1_w102 hX
          have hB_w102_w103 := below_step hB_w102_w102 hX
          have hB_w103_w103 := Below.refl w103.heap.size w103
          have hSsw103 := Cells.below hB_s1_w103 hSss1
          clear hX
          refine ⟨_, rfl, fun _ _ => hSsw103, ?_⟩
          try simp only [Act.put, rgA, rgB, rgC, rgD, rgE, rgF]
          refine wpAnyT_one (i := 11) (by kernel_rfl) rfl (by rfl) ?_
          have hha := rhas47 w103 va vc ys (HSL6.out.below hB_w103_w103).rd (fun b hb => hb.2) ⟨c1, c2, c3, c4⟩
          rw [HDY.out] at hha
          unfold C4.v at hha
          refine wp_enter (f := 18) (args := #[.slice va ys.length vc, .agg #[.int .i64 c1, .int .i64 c2, .int .i64 c3, .int .i64 c4]]) (by go_simp) hha ?_
          rintro e w104 ⟨rfl, hX⟩
          clear hha
          have hB_s1_w104 := below_step hB_s1_w103 hX
          have hB_w102_w104 := below_step hB_w102_w103 hX
          have hB_w103_w104 := below_step hB_w103_w103 hX
          have hB_w104_w104 := Below.refl w104.heap.size w104
          have hSsw104 := Cells.below hB_s1_w104 hSss1
          clear hX
          refine ⟨_, rfl, fun _ _ => hSsw104, ?_⟩
          try simp only [Act.put, rgA, rgB, rgC, rgD, rgE, rgF]
          refine wpAnyT_done (by kernel_rfl) ?_ _
          have HBN := Lib.hid (hB_0_s1.trans ((hB_s1_w104).mono (hB_0_s1).size))
          go_wp2_with fail
          go_meet
          case rel => exact ⟨rfl, HBN.out⟩
        obtain ⟨rfl, hB7⟩ := hcut
        have HB8 := Lib.hid (HB.out.trans (hB7.mono HB.out.size))
        have HBX8 := Lib.hid (HBX.out.below hB7)
        obtain ⟨m0, m1, m2, m3⟩ := HM.out
        have n0 := cell_below m0 hB7
        have n1 := cell_below m1 hB7
        have n2 := cell_below m2 hB7
        have n3 := cell_below m3 hB7
        clear m0 m1 m2 m3 hB7 hC0
        cases tb with
        | false =>
          clear n0 n1 n2 n3
          go_wp2_with fail
          go_roundw
          case rel =>
            refine ⟨j + 1, HJ.out, by go_num, HB8.out, .inl ⟨rfl, HBX8.out, fun x hx => ?_⟩⟩
            rw [HTK.out, List.mem_append, List.mem_singleton] at hx
            rcases hx with hx | rfl
            · exact HNO.out x hx
            · exact fun h => by have := HTB.out.2 h; cases this
          case measure => simp [intOf]; omega
        | true =>
          obtain ⟨w9, hs, hbx9, hg9⟩ := HBX8.out.store Try.prog ⟨c1, c2, c3, c4⟩
          unfold C4.v at hs
          have HBX9 := Lib.hid hbx9
          have HB9 := Lib.hid (HB8.out.trans (hg9.below (n := w1.heap.size) (fun b e => by omega) HB8.out.size))
          clear hbx9 hg9
          go_wp2_with (refine wpList_storeK rfl 38 (.tmp 4) (.tmp 41) rfl ⟨w1.heap.size, 0, none⟩ (.agg #[.int .i64 c1, .int .i64 c2, .int .i64 c3, .int .i64 c4]) rfl rfl (sizeC' _) hs ?_)
          go_roundw
          case rel =>
            refine ⟨j + 1, HJ.out, by go_num, HB9.out, .inr ⟨rfl, j, HJ.out, ?_, ?_, fun i hi => ?_⟩⟩
            · rw [← HCE.out]; exact HBX9.out
            · rw [← HCE.out]; exact HTB.out.1 (by first | rfl | trivial)
            · exact HNO.out _ (by
                have h1 : i < (al.take j).length := by rw [List.length_take]; have := HJ.out; omega
                have h2 : (al.take j)[i] = al[i]'(by have := HJ.out; omega) := List.getElem_take
                rw [← h2]
                exact List.getElem_mem h1)
          case measure => simp [intOf]; omega
      · have hjI : ¬ (j : Int) < (al.length : Int) := by omega
        obtain rfl : j = al.length := by omega
        have HNA := Lib.hid (show ∀ x ∈ al, ¬ Rch (rsOf (lkG G)) x x from fun x hx => HNO.out x (by rw [List.take_length]; exact hx))
        go_wp2_with fail
        go_ret
        exact ⟨none, 0, [], rfl, .inl ⟨rfl, HNA.out⟩, (fun x hx => by cases hx), Nat.zero_le _, ⟨none, 0, 0, rfl, rfl, Nat.le_refl _, by decide, .inl rfl⟩, HBW.out⟩
    · obtain ⟨f, hf⟩ : ∃ x, x = al[i0]'hi0 := ⟨_, rfl⟩
      rw [← hf] at hbx hr0
      have HBX := Lib.hid hbx
      have HR0 := Lib.hid hr0
      have HN0 := Lib.hid hn0
      have HI0 := Lib.hid hi0
      have HFE := Lib.hid hf
      have HFO := Lib.hid (show f.ok from by rw [hf]; exact HA.out.ok _ (List.getElem_mem hi0))
      clear hbx hr0 hn0 hf
      obtain ⟨f1, f2, f3, f4⟩ := f
      obtain ⟨k0, k1, k2, k3⟩ := HBX.out.cells
      simp only at k0 k1 k2 k3
      go_upto_region 5 with fail
      go_cut [23] (fun s wx => s = .bool false ∧ wx = wr)
      case first =>
        by_cases hjl : j < al.length
        · have hjI : (j : Int) < (al.length : Int) := by omega
          go_wp2_with fail
          go_meet
          exact ⟨rfl, rfl⟩
        · have hjI : ¬ (j : Int) < (al.length : Int) := by omega
          go_wp2_with fail
          go_meet
          exact ⟨rfl, rfl⟩
      obtain ⟨rfl, hwx⟩ := hcut
      subst hwx
      generalize wc = w3 at *
      go_upto_region 13 with fail
      have hBa := (Below.refl w3.heap.size w3).alloc (Nat.le_refl _) (.cells #[.int .i64 f1, .int .i64 f2, .int .i64 f3, .int .i64 f4] 38)
      have HBA := Lib.hid (show BoxC (w3.alloc (.cells #[.int .i64 f1, .int .i64 f2, .int .i64 f3, .int .i64 f4] 38)) w3.heap.size ⟨f1, f2, f3, f4⟩ from heap_alloc_new w3 _)
      have HBX4 := Lib.hid (HBX.out.below hBa)
      have HB4 := Lib.hid (HB.out.trans (hBa.mono HB.out.size))
      have hs4 : (w3.alloc (.cells #[.int .i64 f1, .int .i64 f2, .int .i64 f3, .int .i64 f4] 38)).heap.size = w3.heap.size + 1 := by simp
      have HS4 := Lib.hid (Nat.le_of_eq hs4.symm)
      have HFA := Lib.hid (show w1.heap.size < w3.heap.size from HBX.out.lt)
      clear hBa hs4 k0 k1 k2 k3
      generalize World.alloc _ _ = w4 at *
      go_loopw [7] (fun s7 wr => ∃ (k : Nat), (wayC (rsOf (lkG G)) (rdL (lkG G)) ⟨f1, f2, f3, f4⟩ k).Nodup ∧ Owns cellT 38 (w3.heap.size + 1) (fun _ => False) wr s7 ((wayC (rsOf (lkG G)) (rdL (lkG G)) ⟨f1, f2, f3, f4⟩ k).map C4.d) ∧ BoxC wr w3.heap.size (itC (rsOf (lkG G)) (rdL (lkG G)) ⟨f1, f2, f3, f4⟩ k) ∧ BoxC wr w1.heap.size ⟨f1, f2, f3, f4⟩ ∧ Below w1.heap.size w1 wr ∧ w3.heap.size + 1 ≤ wr.heap.size) (fun s7 _ => al.length + 1 - slLen s7)
      case atStart => exact ⟨0, by simp [wayC], by simpa [wayC] using Owns.nil cellT 38 (w3.heap.size + 1) _, HBA.out, HBX4.out, HB4.out, HS4.out⟩
      case round =>
        obtain ⟨k, hnd, hO, hba, hbf, hBr, hsz⟩ := hrel
        have HND := Lib.hid hnd
        have HO := Lib.hid hO
        have HBAr := Lib.hid hba
        have HBFr := Lib.hid hbf
        have HBr := Lib.hid hBr
        have HSZ := Lib.hid hsz
        have HKL := Lib.hid (way_len HA.out HR0.out hnd)
        obtain ⟨ws, hws⟩ : ∃ x, wayC (rsOf (lkG G)) (rdL (lkG G)) ⟨f1, f2, f3, f4⟩ k = x := ⟨_, rfl⟩
        have HWE := Lib.hid hws
        have HWL := Lib.hid (show ws.length = k from by rw [← hws, wayC_len])
        obtain ⟨c, hc⟩ : ∃ x, itC (rsOf (lkG G)) (rdL (lkG G)) ⟨f1, f2, f3, f4⟩ k = x := ⟨_, rfl⟩
        have HCE := Lib.hid hc
        have HCO := Lib.hid (show c.ok from by rw [← hc]; exact HA.out.ok _ (way_mem HA.out HR0.out k))
        rw [hws] at HO HND hO
        rw [hc] at HBAr
        obtain ⟨ua, ul, uc, rfl, hul, -⟩ := hO.slice
        have HUL := Lib.hid (show ws.length = ul from by rw [List.length_map] at hul; exact hul.symm)
        have hrh := rhas47 wr ua uc ws (S := fun b => w3.heap.size + 1 ≤ b ∧ b < wr.heap.size) (by rw [HUL.out]; exact (SlC.of_owns hO).rd) (fun b hb => hb.2) c
        rw [HUL.out] at hrh
        obtain ⟨hb, hhb⟩ : ∃ x, decide (c ∈ ws) = x := ⟨_, rfl⟩
        rw [hhb] at hrh
        have HHB := Lib.hid hhb
        have hum : ul ≤ 4000 := by have := HKL.out; have := HAL.out; have := HWL.out; have := HUL.out; omega
        have HUM := Lib.hid hum
        clear hnd hO hba hbf hBr hsz hws hc hul hhb
        obtain ⟨c1, c2, c3, c4⟩ := c
        unfold C4.v at hrh
        have HRH := Lib.hid hrh
        obtain ⟨k0, k1, k2, k3⟩ := HBAr.out.cells
        simp only at k0 k1 k2 k3
        clear hrh
        go_wp2_with fail
        refine HRH.out.mono ?_
        rintro e w5 ⟨rfl, hB5⟩
        have HB5 := Lib.hid hB5
        have HO5 := Lib.hid (HO.out.below hB5)
        have HBA5 := Lib.hid (HBAr.out.below hB5)
        have HBF5 := Lib.hid (HBFr.out.below hB5)
        have HBW5 := Lib.hid (show Below w1.heap.size w1 w5 from HBr.out.trans (hB5.mono HBr.out.size))
        have HSZ5 := Lib.hid (show w3.heap.size + 1 ≤ w5.heap.size from Nat.le_trans HSZ.out hB5.size)
        clear hB5 k0 k1 k2 k3
        obtain ⟨k0, k1, k2, k3⟩ := HBA5.out.cells
        simp only at k0 k1 k2 k3
        cases hb with
        | true =>
          have HCM := Lib.hid (of_decide_eq_true HHB.out)
          go_wp2_with fail
          go_loopw [13] (fun s13 wy => ∃ (q : Nat), q ≤ ul ∧ s13 = .int .i64 q ∧ (∀ x ∈ ws.take q, ¬ x = ⟨c1, c2, c3, c4⟩) ∧ Below w5.heap.size w5 wy) (fun s13 _ => ul - (intOf s13).toNat)
          case atStart => exact ⟨0, Nat.zero_le _, rfl, (fun x hx => by simp at hx), Below.refl _ _⟩
          case round =>
            obtain ⟨q, hq, rfl, hno, hBy⟩ := hrel
            have HNO := Lib.hid hno
            have HBy := Lib.hid hBy
            have hrdy := (SlC.of_owns (HO5.out.below hBy)).rd
            have HRDY := Lib.hid hrdy
            have HBAy := Lib.hid (HBA5.out.below hBy)
            have HBWy := Lib.hid (HBW5.out.trans (hBy.mono HBW5.out.size))
            clear hno hBy k0 k1 k2 k3
            by_cases hql : q < ul
            · have hqI : (q : Int) < (ul : Int) := by omega
              have hqw : q < ws.length := by rw [HUL.out]; exact hql
              obtain ⟨b6, o6, hua, -, m0, m1, m2, m3, -⟩ := cell_at hrdy q hqw
              have huc : ul ≤ uc := hrdy.sl_flat.2.1
              obtain ⟨d, hd⟩ : ∃ x, x = ws[q]'hqw := ⟨_, rfl⟩
              rw [← hd] at m0 m1 m2 m3
              have HDE := Lib.hid hd
              have HQW := Lib.hid hqw
              have HTK := Lib.hid (show ws.take (q + 1) = ws.take q ++ [d] from by rw [hd]; exact List.take_succ_eq_append_getElem hqw)
              have heq := fun W => cell_eql W d ⟨c1, c2, c3, c4⟩
              have hgd : Try.prog.eqGuardType Try.prog.depth 38 = false := by kernel_rfl
              obtain ⟨eb, heb⟩ : ∃ eb, decide (d = (⟨c1, c2, c3, c4⟩ : C4)) = eb := ⟨_, rfl⟩
              rw [heb] at heq
              have HEB := Lib.hid heb
              clear hd heb hrdy
              subst hua
              obtain ⟨d1, d2, d3, d4⟩ := d
              unfold C4.v at heq
              simp only at m0 m1 m2 m3 heq
              obtain ⟨k0, k1, k2, k3⟩ := HBAy.out.cells
              simp only at k0 k1 k2 k3
              have hC0 : Cells [(⟨b6, o6 + q * 4, none⟩, .int .i64 d1), (⟨b6, o6 + q * 4 + 1, none⟩, .int .i64 d2), (⟨b6, o6 + q * 4 + 2, none⟩, .int .i64 d3), (⟨b6, o6 + q * 4 + 3, none⟩, .int .i64 d4), (⟨w3.heap.size, 0, none⟩, .int .i64 c1), (⟨w3.heap.size, 1, none⟩, .int .i64 c2), (⟨w3.heap.size, 2, none⟩, .int .i64 c3), (⟨w3.heap.size, 3, none⟩, .int .i64 c4)] wr := ⟨m0, m1, m2, m3, k0, k1, k2, k3, trivial⟩
              clear m0 m1 m2 m3 k0 k1 k2 k3
              go_upto_region 27 with fail
              refine wp_region_T (Cells [(⟨b6, o6 + q * 4, none⟩, .int .i64 d1), (⟨b6, o6 + q * 4 + 1, none⟩, .int .i64 d2), (⟨b6, o6 + q * 4 + 2, none⟩, .int .i64 d3), (⟨b6, o6 + q * 4 + 3, none⟩, .int .i64 d4), (⟨w3.heap.size, 0, none⟩, .int .i64 c1), (⟨w3.heap.size, 1, none⟩, .int .i64 c2), (⟨w3.heap.size, 2, none⟩, .int .i64 c3), (⟨w3.heap.size, 3, none⟩, .int .i64 c4)]) (fun _ => false) (by kernel_rfl) ?_
              have hSss5 := Cells.drew hC0
              have hB_0_s5 : Below wr.heap.size wr wr.drew := below_drew _
              generalize wr.drew = s5 at hSss5 hB_0_s5 ⊢
              have hB_s5_s5 := Below.refl s5.heap.size s5
              refine wpAnyT_pure (i := 0) (v := ?_) rfl (by kernel_rfl) (by kernel_rfl) (by kernel_rfl) (fun _ _ _ h => h) (by rfl) ?_ ?_
              rotate_left
              · intro w; go_simp; try with_reducible rfl
              simp only [Act.put, rgA, rgB, rgC, rgD, rgE, rgF]
              refine wpAnyT_pure (i := 1) (v := ?_) rfl (by kernel_rfl) (by kernel_rfl) (by kernel_rfl) (fun _ _ _ h => h) (by rfl) ?_ ?_
              rotate_left
              · intro w; go_simp; try with_reducible rfl
              simp only [Act.put, rgA, rgB, rgC, rgD, rgE, rgF]
              refine wpAnyT_pure (i := 2) (v := ?_) rfl (by kernel_rfl) (by kernel_rfl) (by kernel_rfl) (fun _ _ _ h => h) (by rfl) ?_ ?_
              rotate_left
              · intro w; go_simp; try with_reducible rfl
              simp only [Act.put, rgA, rgB, rgC, rgD, rgE, rgF]
              refine wpAnyT_loadW (i := 3) (v := ?_) rfl (by kernel_rfl) (by kernel_rfl) (by kernel_rfl) (by kernel_rfl) (by kernel_rfl) (fun _ _ _ h => h) (Or.inl ⟨by rfl, ?_⟩) hSss5 ?_
              rotate_left
              · intro w hSw; obtain ⟨e0, e1, e2, e3, e4, e5, e6, e7, -⟩ := hSw; go_simp; try with_reducible rfl
              simp only [Act.put, rgA, rgB, rgC, rgD, rgE, rgF]
              refine wpAnyT_loadW (i := 4) (v := ?_) rfl (by kernel_rfl) (by kernel_rfl) (by kernel_rfl) (by kernel_rfl) (by kernel_rfl) (fun _ _ _ h => h) (Or.inl ⟨by rfl, ?_⟩) hSss5 ?_
              rotate_left
              · intro w hSw; obtain ⟨e0, e1, e2, e3, e4, e5, e6, e7, -⟩ := hSw; go_simp; try with_reducible rfl
              simp only [Act.put, rgA, rgB, rgC, rgD, rgE, rgF]
              refine wpAnyT_pure (i := 5) (v := ?_) rfl (by kernel_rfl) (by kernel_rfl) (by kernel_rfl) (fun _ _ _ h => h) (by rfl) ?_ ?_
              rotate_left
              · intro w; go_simp; try with_reducible rfl
              simp only [Act.put, rgA, rgB, rgC, rgD, rgE, rgF]
              refine wpAnyT_done (by kernel_rfl) ?_ _
              have HBN := Lib.hid (hB_0_s5.trans ((hB_s5_s5).mono (hB_0_s5).size))
              obtain ⟨w8, rfl⟩ : ∃ x, x = s5 := ⟨_, rfl⟩
              clear hC0
              cases eb with
              | false =>
                go_wp2_with fail
                go_roundw
                case rel =>
                  refine ⟨q + 1, by have := HQW.out; have := HUL.out; omega, by go_num, fun x hx => ?_, below_step HBy.out HBN.out⟩
                  rw [HTK.out, List.mem_append, List.mem_singleton] at hx
                  rcases hx with hx | rfl
                  · exact HNO.out x hx
                  · exact of_decide_eq_false HEB.out
                case measure => simp [intOf]; omega
              | true =>
                have HCQ := Lib.hid (show CycQ al (rsOf (lkG G)) (rdL (lkG G)) (ws.drop q) from by
                  refine .inr ⟨i0, HI0.out, q, k, ?_⟩
                  rw [← HFE.out]
                  refine ⟨HR0.out, HN0.out, by have := HQW.out; have := HWL.out; omega, by rw [HWE.out]; exact HND.out, ?_, by rw [HWE.out]⟩
                  rw [HCE.out, ← of_decide_eq_true HEB.out, HDE.out]
                  have h1 : ws[q]'HQW.out = (wayC (rsOf (lkG G)) (rdL (lkG G)) ⟨f1, f2, f3, f4⟩ k)[q]'(by rw [HWE.out]; exact HQW.out) := by
                    have hwe := HWE.out
                    subst hwe
                    rfl
                  rw [h1, wayC_get])
                have HDR := Lib.hid ((HRDY.out.below HBN.out (fun b hb => hb.2)).drop q (by omega))
                have hne : ¬ uc = q := by omega
                have HQL := Lib.hid hql
                go_wp2_with fail
                go_ret
                refine ⟨some ⟨b6, o6 + q * 4, none⟩, uc - q, ws.drop q, ?_, HCQ.out, fun x hx => ?_, ?_, ?_, below_step HB1.out (HBWy.out.trans (HBN.out.mono HBWy.out.size))⟩
                · rw [List.length_drop, HUL.out]; rfl
                · refine way_sub HA.out HR0.out k x ?_
                  rw [HWE.out]
                  exact List.mem_of_mem_drop hx
                · rw [List.length_drop]; have := HWL.out; have := HKL.out; omega
                · have h1 := HDR.out
                  rw [if_neg hne, Option.map_some, Addr.add_lit, show q * cellT.sz = q * 4 from rfl] at h1
                  rw [List.length_drop, HUL.out, List.map_drop]
                  refine h1.keep (fun _ _ => rfl) (fun b hb => ?_)
                  have hb' : w3.heap.size + 1 ≤ b ∧ b < wr.heap.size := hb
                  exact ⟨by have := HFA.out; have := HB1.out.size; omega, Nat.lt_of_lt_of_le hb'.2 HBN.out.size⟩
            · exfalso
              have e : q = ul := by omega
              have h1 := HCM.out
              rw [← List.take_length (l := ws), HUL.out, ← e] at h1
              exact HNO.out _ h1 rfl
        | false =>
          have HND1 := Lib.hid (show (wayC (rsOf (lkG G)) (rdL (lkG G)) ⟨f1, f2, f3, f4⟩ (k + 1)).Nodup from way_snoc (by rw [HWE.out]; exact HND.out) (fun x hx e => of_decide_eq_false HHB.out (by rw [HWE.out] at hx; rw [← HCE.out, e]; exact hx)))
          have HW1 := Lib.hid (show ws ++ [⟨c1, c2, c3, c4⟩] = wayC (rsOf (lkG G)) (rdL (lkG G)) ⟨f1, f2, f3, f4⟩ (k + 1) from by rw [wayC_succ, HWE.out, HCE.out])
          go_upto_region 15 with (at_builtin; have hq := HO5; clear hq; go_must (refine wpList_app _ rfl _ _ 23 rfl (e := cellT) (te := 38) info_cell Try.underlying23 rfl (by decide) (base := w3.heap.size + 1) (S := fun _ => False) (v := .slice ua ul uc) (xs := ws.map C4.d) rfl (HO5.out.alloc _) (by have := HSZ5.out; simp only [World.size_alloc]; omega) rfl (ys := [C4.d ⟨c1, c2, c3, c4⟩]) (Src.new _ [_, _, _, _] _ _ _) (RdL.one (e := cellT) (cell_rd HCO.out)) (by have h1 := HUM.out; have h2 := HUL.out; rw [List.length_map]; simp only [List.length_singleton]; omega) (by have h1 := HUM.out; have h2 := HUL.out; rw [List.length_map]; simp only [List.length_singleton]; omega) ?_; intro v' w6 O9 g9 _ ob9; have HG6 := Lib.hid (((Gr.refl (fun b => Value.ownBlock (.slice ua ul uc) = some b) w5).alloc (.cells #[.int .i64 c1, .int .i64 c2, .int .i64 c3, .int .i64 c4] 38)).grown g9 (fun c hc => .inl hc)); rw [map_snoc_d] at O9; obtain ⟨xa, xl, xc, rfl, hxl, -⟩ := O9.slice; have HXL := Lib.hid hxl; have HO6 := Lib.hid O9; clear O9 g9 ob9 hxl; skip))
          have HOW := Lib.hid (HO5.out.own)
          have HBA6 := Lib.hid (HBA5.out.gr HG6.out (fun e => by have := (HOW.out _ e).1; omega))
          have HBF6 := Lib.hid (HBF5.out.gr HG6.out (fun e => by have := (HOW.out _ e).1; have := HFA.out; omega))
          have HBW6 := Lib.hid (HBW5.out.trans (HG6.out.below (n := w1.heap.size) (fun b e => by have := (HOW.out b e).1; have := HFA.out; omega) HBW5.out.size))
          have HSZ6 := Lib.hid (show w3.heap.size + 1 ≤ w6.heap.size from Nat.le_trans HSZ5.out HG6.out.size)
          have HGW6 := Lib.hid (below_step HB1.out HBW6.out)
          clear k0 k1 k2 k3
          obtain ⟨k0, k1, k2, k3⟩ := HBA6.out.cells
          simp only at k0 k1 k2 k3
          obtain ⟨rds, hrds⟩ : ∃ x, (lkG G ⟨c1, c2, c3, c4⟩).getD [] = x := ⟨_, rfl⟩
          have hre := rreads47 w6 a cap G (HX.out.below HGW6.out HS.out) (fun b hb => Nat.lt_of_lt_of_le (HS.out b hb) HGW6.out.size) ⟨c1, c2, c3, c4⟩
          rw [hrds] at hre
          unfold C4.v at hre
          have HRE := Lib.hid hre
          have HRQ := Lib.hid (show rdL (lkG G) (itC (rsOf (lkG G)) (rdL (lkG G)) ⟨f1, f2, f3, f4⟩ k) = rds from by rw [HCE.out]; exact hrds)
          clear hre hrds
          go_wp2_with fail
          refine HRE.out.mono ?_
          rintro e w7 ⟨ra, rc, rfl, hB7, hr7⟩
          have HR7 := Lib.hid hr7
          have hrm : rds.length ≤ 9223372036854775807 := Nat.le_trans (by have := hr7.sl_flat; rw [List.length_map] at this; exact Nat.le_trans (Nat.le_of_eq this.1) this.2.1) hr7.sl_flat.2.2.1
          have HBA7 := Lib.hid (HBA6.out.below hB7)
          have HBF7 := Lib.hid (HBF6.out.below hB7)
          have HB67 := Lib.hid hB7
          have HSZ7 := Lib.hid (show w3.heap.size + 1 ≤ w7.heap.size from Nat.le_trans HSZ6.out hB7.size)
          have HS7 := Lib.hid (show ∀ b, S b → b < w7.heap.size from fun b hb => Nat.lt_of_lt_of_le (HS.out b hb) (Nat.le_trans HGW6.out.size hB7.size))
          have HO7 := Lib.hid (HO6.out.below hB7)
          have HBW7 := Lib.hid (HBW6.out.trans (hB7.mono HBW6.out.size))
          clear k0 k1 k2 k3 hr7 hB7
          obtain ⟨k0, k1, k2, k3⟩ := HBA7.out.cells
          simp only at k0 k1 k2 k3
          go_upto_region 17 with fail
          have hBa := (Below.refl w7.heap.size w7).alloc (Nat.le_refl _) (.cells #[.int .i64 c1, .int .i64 c2, .int .i64 c3, .int .i64 c4] 38)
          have HBNX := Lib.hid (show BoxC (w7.alloc (.cells #[.int .i64 c1, .int .i64 c2, .int .i64 c3, .int .i64 c4] 38)) w7.heap.size ⟨c1, c2, c3, c4⟩ from heap_alloc_new w7 _)
          have HBa := Lib.hid hBa
          clear hBa k0 k1 k2 k3
          generalize World.alloc _ _ = w8 at *
          go_wp2_with fail
          go_loopw [11, 12] (fun s11 s12 wy => ∃ (q : Nat), q ≤ rds.length ∧ s12 = .int .i64 q ∧ Below w7.heap.size w7 wy ∧ ((s11 = .bool false ∧ BoxC wy w7.heap.size ⟨c1, c2, c3, c4⟩ ∧ ∀ x ∈ rds.take q, ¬ PTst (lkG G) ⟨f1, f2, f3, f4⟩ x) ∨ (s11 = .bool true ∧ BoxC wy w7.heap.size (itC (rsOf (lkG G)) (rdL (lkG G)) ⟨f1, f2, f3, f4⟩ (k + 1))))) (fun _ s12 _ => rds.length - (intOf s12).toNat)
          case atStart => exact ⟨0, Nat.zero_le _, rfl, HBa.out, .inl ⟨rfl, HBNX.out, (fun x hx => by simp at hx)⟩⟩
          case round =>
            obtain ⟨q, hq, rfl, hBy, hor⟩ := hrel
            have HBy := Lib.hid hBy
            have HBAy := Lib.hid (HBA7.out.below hBy)
            have HBFy := Lib.hid (HBF7.out.below hBy)
            have HBWy := Lib.hid (HBW7.out.trans (hBy.mono HBW7.out.size))
            have HGWy := Lib.hid (below_step HB1.out HBWy.out)
            have HSZy := Lib.hid (show w3.heap.size + 1 ≤ wr.heap.size from Nat.le_trans HSZ7.out hBy.size)
            clear hBy
            rcases hor with ⟨rfl, hbn, hno⟩ | ⟨rfl, hbn⟩
            · have HBN := Lib.hid hbn
              have HNO := Lib.hid hno
              clear hbn hno
              by_cases hql : q < rds.length
              · have hqI : (q : Int) < (rds.length : Int) := by omega
                obtain ⟨b6, o6, hra, hb6, m0, m1, m2, m3, hdok⟩ := cell_at (HR7.out.below HBy.out HS7.out) q hql
                obtain ⟨d, hd⟩ : ∃ x, x = rds[q]'hql := ⟨_, rfl⟩
                rw [← hd] at m0 m1 m2 m3 hdok
                have HDE := Lib.hid hd
                have HQL := Lib.hid hql
                have HDO := Lib.hid hdok
                have HDM := Lib.hid (show d ∈ rds from by rw [hd]; exact List.getElem_mem hql)
                have HTK := Lib.hid (show rds.take (q + 1) = rds.take q ++ [d] from by rw [hd]; exact List.take_succ_eq_append_getElem hql)
                have HTST := Lib.hid (show (d = ⟨f1, f2, f3, f4⟩ ∨ (Rch (rsOf (lkG G)) ⟨f1, f2, f3, f4⟩ d ∧ Rch (rsOf (lkG G)) d ⟨f1, f2, f3, f4⟩)) ↔ PTst (lkG G) ⟨f1, f2, f3, f4⟩ d from
                  onC_test HR0.out (itC_on (fun d y => rsOf_rdL (lkG G) d y) HR0.out k).1 ((rsOf_rdL (lkG G) _ _).2 (by rw [HRQ.out]; exact HDM.out)))
                have heq := fun W => cell_eql W d ⟨f1, f2, f3, f4⟩
                have hgd : Try.prog.eqGuardType Try.prog.depth 38 = false := by kernel_rfl
                obtain ⟨eb, heb⟩ : ∃ eb, decide (d = (⟨f1, f2, f3, f4⟩ : C4)) = eb := ⟨_, rfl⟩
                rw [heb] at heq
                have HEB := Lib.hid heb
                obtain ⟨t2, ht2⟩ : ∃ tb : Bool, tb = true ↔ Rch (rsOf (lkG G)) ⟨f1, f2, f3, f4⟩ d := ⟨@decide _ (Classical.propDecidable _), @decide_eq_true_iff _ (Classical.propDecidable _)⟩
                obtain ⟨t3, ht3⟩ : ∃ tb : Bool, tb = true ↔ Rch (rsOf (lkG G)) d ⟨f1, f2, f3, f4⟩ := ⟨@decide _ (Classical.propDecidable _), @decide_eq_true_iff _ (Classical.propDecidable _)⟩
                have HT2 := Lib.hid ht2
                have HT3 := Lib.hid ht3
                have HTT := Lib.hid (show (eb || (t2 && t3)) = true ↔ PTst (lkG G) ⟨f1, f2, f3, f4⟩ d from by
                  rw [← HTST.out, Bool.or_eq_true, Bool.and_eq_true, ht2, ht3, ← heb, decide_eq_true_eq])
                have HR7y := Lib.hid (HR7.out.below HBy.out HS7.out)
                clear hd hdok heb ht2 ht3 hb6
                subst hra
                obtain ⟨d1, d2, d3, d4⟩ := d
                unfold C4.v at heq
                simp only at m0 m1 m2 m3 heq
                obtain ⟨k0, k1, k2, k3⟩ := HBFy.out.cells
                simp only at k0 k1 k2 k3
                have hC0 : Cells [(⟨b6, o6 + q * 4, none⟩, .int .i64 d1), (⟨b6, o6 + q * 4 + 1, none⟩, .int .i64 d2), (⟨b6, o6 + q * 4 + 2, none⟩, .int .i64 d3), (⟨b6, o6 + q * 4 + 3, none⟩, .int .i64 d4), (⟨w1.heap.size, 0, none⟩, .int .i64 f1), (⟨w1.heap.size, 1, none⟩, .int .i64 f2), (⟨w1.heap.size, 2, none⟩, .int .i64 f3), (⟨w1.heap.size, 3, none⟩, .int .i64 f4)] wr := ⟨m0, m1, m2, m3, k0, k1, k2, k3, trivial⟩
                have HM := Lib.hid (And.intro m0 (And.intro m1 (And.intro m2 m3)))
                clear m0 m1 m2 m3 k0 k1 k2 k3
                obtain ⟨tb, htb⟩ : ∃ x, (eb || (t2 && t3)) = x := ⟨_, rfl⟩
                rw [htb] at HTT
                have HTBE := Lib.hid htb
                clear htb
                go_upto_region 21 with fail
                go_cut [94] (fun s wx => s = .bool tb ∧ Below wr.heap.size wr wx)
                case first =>
                  cases eb with
                  | true =>
                    refine wp_region_T (Cells [(⟨b6, o6 + q * 4, none⟩, .int .i64 d1), (⟨b6, o6 + q * 4 + 1, none⟩, .int .i64 d2), (⟨b6, o6 + q * 4 + 2, none⟩, .int .i64 d3), (⟨b6, o6 + q * 4 + 3, none⟩, .int .i64 d4), (⟨w1.heap.size, 0, none⟩, .int .i64 f1), (⟨w1.heap.size, 1, none⟩, .int .i64 f2), (⟨w1.heap.size, 2, none⟩, .int .i64 f3), (⟨w1.heap.size, 3, none⟩, .int .i64 f4)]) (fun _ => false) (by kernel_rfl) ?_
                    have hSss6 := Cells.drew hC0
                    have hB_0_s6 : Below wr.heap.size wr wr.drew := below_drew _
                    generalize wr.drew = s6 at hSss6 hB_0_s6 ⊢
                    have hB_s6_s6 := Below.refl s6.heap.size s6
                    refine wpAnyT_pure (i := 0) (v := ?_) rfl (by kernel_rfl) (by kernel_rfl) (by kernel_rfl) (fun _ _ _ h => h) (by rfl) ?_ ?_
                    rotate_left
                    · intro w; go_simp; try with_reducible rfl
                    simp only [Act.put, rgA, rgB, rgC, rgD, rgE, rgF]
                    refine wpAnyT_pure (i := 1) (v := ?_) rfl (by kernel_rfl) (by kernel_rfl) (by kernel_rfl) (fun _ _ _ h => h) (by rfl) ?_ ?_
                    rotate_left
                    · intro w; go_simp; try with_reducible rfl
                    simp only [Act.put, rgA, rgB, rgC, rgD, rgE, rgF]
                    refine wpAnyT_pure (i := 2) (v := ?_) rfl (by kernel_rfl) (by kernel_rfl) (by kernel_rfl) (fun _ _ _ h => h) (by rfl) ?_ ?_
                    rotate_left
                    · intro w; go_simp; try with_reducible rfl
                    simp only [Act.put, rgA, rgB, rgC, rgD, rgE, rgF]
                    refine wpAnyT_loadW (i := 3) (v := ?_) rfl (by kernel_rfl) (by kernel_rfl) (by kernel_rfl) (by kernel_rfl) (by kernel_rfl) (fun _ _ _ h => h) (Or.inl ⟨by rfl, ?_⟩) hSss6 ?_
                    rotate_left
                    · intro w hSw; obtain ⟨e0, e1, e2, e3, e4, e5, e6, e7, -⟩ := hSw; go_simp; try with_reducible rfl
                    simp only [Act.put, rgA, rgB, rgC, rgD, rgE, rgF]
                    refine wpAnyT_loadW (i := 4) (v := ?_) rfl (by kernel_rfl) (by kernel_rfl) (by kernel_rfl) (by kernel_rfl) (by kernel_rfl) (fun _ _ _ h => h) (Or.inl ⟨by rfl, ?_⟩) hSss6 ?_
                    rotate_left
                    · intro w hSw; obtain ⟨e0, e1, e2, e3, e4, e5, e6, e7, -⟩ := hSw; go_simp; try with_reducible rfl
                    simp only [Act.put, rgA, rgB, rgC, rgD, rgE, rgF]
                    refine wpAnyT_pure (i := 5) (v := ?_) rfl (by kernel_rfl) (by kernel_rfl) (by kernel_rfl) (fun _ _ _ h => h) (by rfl) ?_ ?_
                    rotate_left
                    · intro w; go_simp; try with_reducible rfl
                    simp only [Act.put, rgA, rgB, rgC, rgD, rgE, rgF]
                    refine wpAnyT_pure (i := 6) (v := ?_) rfl (by kernel_rfl) (by kernel_rfl) (by kernel_rfl) (fun _ _ _ h => h) (by rfl) ?_ ?_
                    rotate_left
                    · intro w; go_simp; try with_reducible rfl
                    simp only [Act.put, rgA, rgB, rgC, rgD, rgE, rgF]
                    refine wpAnyT_skip (i := 7) rfl (by kernel_rfl) (by kernel_rfl) (by kernel_rfl) (fun _ _ _ h => h) (by rfl) ?_
                    simp only [Act.put, rgA, rgB, rgC, rgD, rgE, rgF]
                    refine wpAnyT_skip (i := 8) rfl (by kernel_rfl) (by kernel_rfl) (by kernel_rfl) (fun _ _ _ h => h) (by rfl) ?_
                    simp only [Act.put, rgA, rgB, rgC, rgD, rgE, rgF]
                    refine wpAnyT_skip (i := 9) rfl (by kernel_rfl) (by kernel_rfl) (by kernel_rfl) (fun _ _ _ h => h) (by rfl) ?_
                    simp only [Act.put, rgA, rgB, rgC, rgD, rgE, rgF]
                    refine wpAnyT_skip (i := 10) rfl (by kernel_rfl) (by kernel_rfl) (by kernel_rfl) (fun _ _ _ h => h) (by rfl) ?_
                    simp only [Act.put, rgA, rgB, rgC, rgD, rgE, rgF]
                    refine wpAnyT_skip (i := 11) rfl (by kernel_rfl) (by kernel_rfl) (by kernel_rfl) (fun _ _ _ h => h) (by rfl) ?_
                    simp only [Act.put, rgA, rgB, rgC, rgD, rgE, rgF]
                    refine wpAnyT_skip (i := 12) rfl (by kernel_rfl) (by kernel_rfl) (by kernel_rfl) (fun _ _ _ h => h) (by rfl) ?_
                    simp only [Act.put, rgA, rgB, rgC, rgD, rgE, rgF]
                    refine wpAnyT_skip (i := 13) rfl (by kernel_rfl) (by kernel_rfl) (by kernel_rfl) (fun _ _ _ h => h) (by rfl) ?_
                    simp only [Act.put, rgA, rgB, rgC, rgD, rgE, rgF]
                    refine wpAnyT_skip (i := 14) rfl (by kernel_rfl) (by kernel_rfl) (by kernel_rfl) (fun _ _ _ h => h) (by rfl) ?_
                    simp only [Act.put, rgA, rgB, rgC, rgD, rgE, rgF]
                    refine wpAnyT_skip (i := 15) rfl (by kernel_rfl) (by kernel_rfl) (by kernel_rfl) (fun _ _ _ h => h) (by rfl) ?_
                    simp only [Act.put, rgA, rgB, rgC, rgD, rgE, rgF]
                    refine wpAnyT_skip (i := 16) rfl (by kernel_rfl) (by kernel_rfl) (by kernel_rfl) (fun _ _ _ h => h) (by rfl) ?_
                    simp only [Act.put, rgA, rgB, rgC, rgD, rgE, rgF]
                    refine wpAnyT_skip (i := 17) rfl (by kernel_rfl) (by kernel_rfl) (by kernel_rfl) (fun _ _ _ h => h) (by rfl) ?_
                    simp only [Act.put, rgA, rgB, rgC, rgD, rgE, rgF]
                    refine wpAnyT_skip (i := 18) rfl (by kernel_rfl) (by kernel_rfl) (by kernel_rfl) (fun _ _ _ h => h) (by rfl) ?_
                    simp only [Act.put, rgA, rgB, rgC, rgD, rgE, rgF]
                    refine wpAnyT_skip (i := 19) rfl (by kernel_rfl) (by kernel_rfl) (by kernel_rfl) (fun _ _ _ h => h) (by rfl) ?_
                    simp only [Act.put, rgA, rgB, rgC, rgD, rgE, rgF]
                    refine wpAnyT_skip (i := 20) rfl (by kernel_rfl) (by kernel_rfl) (by kernel_rfl) (fun _ _ _ h => h) (by rfl) ?_
                    simp only [Act.put, rgA, rgB, rgC, rgD, rgE, rgF]
                    refine wpAnyT_skip (i := 21) rfl (by kernel_rfl) (by kernel_rfl) (by kernel_rfl) (fun _ _ _ h => h) (by rfl) ?_
                    simp only [Act.put, rgA, rgB, rgC, rgD, rgE, rgF]
                    refine wpAnyT_skip (i := 22) rfl (by kernel_rfl) (by kernel_rfl) (by kernel_rfl) (fun _ _ _ h => h) (by rfl) ?_
                    simp only [Act.put, rgA, rgB, rgC, rgD, rgE, rgF]
                    refine wpAnyT_skip (i := 23) rfl (by kernel_rfl) (by kernel_rfl) (by kernel_rfl) (fun _ _ _ h => h) (by rfl) ?_
                    simp only [Act.put, rgA, rgB, rgC, rgD, rgE, rgF]
                    refine wpAnyT_skip (i := 24) rfl (by kernel_rfl) (by kernel_rfl) (by kernel_rfl) (fun _ _ _ h => h) (by rfl) ?_
                    simp only [Act.put, rgA, rgB, rgC, rgD, rgE, rgF]
                    refine wpAnyT_skip (i := 25) rfl (by kernel_rfl) (by kernel_rfl) (by kernel_rfl) (fun _ _ _ h => h) (by rfl) ?_
                    simp only [Act.put, rgA, rgB, rgC, rgD, rgE, rgF]
                    refine wpAnyT_skip (i := 26) rfl (by kernel_rfl) (by kernel_rfl) (by kernel_rfl) (fun _ _ _ h => h) (by rfl) ?_
                    simp only [Act.put, rgA, rgB, rgC, rgD, rgE, rgF]
                    refine wpAnyT_pure (i := 27) (v := ?_) rfl (by kernel_rfl) (by kernel_rfl) (by kernel_rfl) (fun _ _ _ h => h) (by rfl) ?_ ?_
                    rotate_left
                    · intro w; go_simp; try with_reducible rfl
                    simp only [Act.put, rgA, rgB, rgC, rgD, rgE, rgF]
                    refine wpAnyT_done (by kernel_rfl) ?_ _
                    have HBN2 := Lib.hid (hB_0_s6.trans ((hB_s6_s6).mono (hB_0_s6).size))
                    go_wp2_with fail
                    go_meet
                    case rel => exact ⟨by rw [← HTBE.out]; rfl, HBN2.out⟩
                  | false =>
                    cases t2 with
                    | false =>
                      refine wp_region_T (Cells [(⟨b6, o6 + q * 4, none⟩, .int .i64 d1), (⟨b6, o6 + q * 4 + 1, none⟩, .int .i64 d2), (⟨b6, o6 + q * 4 + 2, none⟩, .int .i64 d3), (⟨b6, o6 + q * 4 + 3, none⟩, .int .i64 d4), (⟨w1.heap.size, 0, none⟩, .int .i64 f1), (⟨w1.heap.size, 1, none⟩, .int .i64 f2), (⟨w1.heap.size, 2, none⟩, .int .i64 f3), (⟨w1.heap.size, 3, none⟩, .int .i64 f4)]) (fun _ => false) (by kernel_rfl) ?_
                      have hSss7 := Cells.drew hC0
                      have hB_0_s7 : Below wr.heap.size wr wr.drew := below_drew _
                      generalize wr.drew = s7 at hSss7 hB_0_s7 ⊢
                      have hB_s7_s7 := Below.refl s7.heap.size s7
                      refine wpAnyT_pure (i := 0) (v := ?_) rfl (by kernel_rfl) (by kernel_rfl) (by kernel_rfl) (fun _ _ _ h => h) (by rfl) ?_ ?_
                      rotate_left
                      · intro w; go_simp; try with_reducible rfl
                      simp only [Act.put, rgA, rgB, rgC, rgD, rgE, rgF]
                      refine wpAnyT_pure (i := 1) (v := ?_) rfl (by kernel_rfl) (by kernel_rfl) (by kernel_rfl) (fun _ _ _ h => h) (by rfl) ?_ ?_
                      rotate_left
                      · intro w; go_simp; try with_reducible rfl
                      simp only [Act.put, rgA, rgB, rgC, rgD, rgE, rgF]
                      refine wpAnyT_pure (i := 2) (v := ?_) rfl (by kernel_rfl) (by kernel_rfl) (by kernel_rfl) (fun _ _ _ h => h) (by rfl) ?_ ?_
                      rotate_left
                      · intro w; go_simp; try with_reducible rfl
                      simp only [Act.put, rgA, rgB, rgC, rgD, rgE, rgF]
                      refine wpAnyT_loadW (i := 3) (v := ?_) rfl (by kernel_rfl) (by kernel_rfl) (by kernel_rfl) (by kernel_rfl) (by kernel_rfl) (fun _ _ _ h => h) (Or.inl ⟨by rfl, ?_⟩) hSss7 ?_
                      rotate_left
                      · intro w hSw; obtain ⟨e0, e1, e2, e3, e4, e5, e6, e7, -⟩ := hSw; go_simp; try with_reducible rfl
                      simp only [Act.put, rgA, rgB, rgC, rgD, rgE, rgF]
                      refine wpAnyT_loadW (i := 4) (v := ?_) rfl (by kernel_rfl) (by kernel_rfl) (by kernel_rfl) (by kernel_rfl) (by kernel_rfl) (fun _ _ _ h => h) (Or.inl ⟨by rfl, ?_⟩) hSss7 ?_
                      rotate_left
                      · intro w hSw; obtain ⟨e0, e1, e2, e3, e4, e5, e6, e7, -⟩ := hSw; go_simp; try with_reducible rfl
                      simp only [Act.put, rgA, rgB, rgC, rgD, rgE, rgF]
                      refine wpAnyT_pure (i := 5) (v := ?_) rfl (by kernel_rfl) (by kernel_rfl) (by kernel_rfl) (fun _ _ _ h => h) (by rfl) ?_ ?_
                      rotate_left
                      · intro w; go_simp; try with_reducible rfl
                      simp only [Act.put, rgA, rgB, rgC, rgD, rgE, rgF]
                      refine wpAnyT_pure (i := 6) (v := ?_) rfl (by kernel_rfl) (by kernel_rfl) (by kernel_rfl) (fun _ _ _ h => h) (by rfl) ?_ ?_
                      rotate_left
                      · intro w; go_simp; try with_reducible rfl
                      simp only [Act.put, rgA, rgB, rgC, rgD, rgE, rgF]
                      refine wpAnyT_pure (i := 7) (v := ?_) rfl (by kernel_rfl) (by kernel_rfl) (by kernel_rfl) (fun _ _ _ h => h) (by rfl) ?_ ?_
                      rotate_left
                      · intro w; go_simp; try with_reducible rfl
                      simp only [Act.put, rgA, rgB, rgC, rgD, rgE, rgF]
                      refine wpAnyT_pure (i := 11) (v := ?_) rfl (by kernel_rfl) (by kernel_rfl) (by kernel_rfl) (fun _ _ _ h => h) (by rfl) ?_ ?_
                      rotate_left
                      · intro w; go_simp; try with_reducible rfl
                      simp only [Act.put, rgA, rgB, rgC, rgD, rgE, rgF]
                      refine wpAnyT_pure (i := 12) (v := ?_) rfl (by kernel_rfl) (by kernel_rfl) (by kernel_rfl) (fun _ _ _ h => h) (by rfl) ?_ ?_
                      rotate_left
                      · intro w; go_simp; try with_reducible rfl
                      simp only [Act.put, rgA, rgB, rgC, rgD, rgE, rgF]
                      refine wpAnyT_pure (i := 13) (v := ?_) rfl (by kernel_rfl) (by kernel_rfl) (by kernel_rfl) (fun _ _ _ h => h) (by rfl) ?_ ?_
                      rotate_left
                      · intro w; go_simp; try with_reducible rfl
                      simp only [Act.put, rgA, rgB, rgC, rgD, rgE, rgF]
                      refine wpAnyT_loadW (i := 8) (v := ?_) rfl (by kernel_rfl) (by kernel_rfl) (by kernel_rfl) (by kernel_rfl) (by kernel_rfl) (fun _ _ _ h => h) (Or.inl ⟨by rfl, ?_⟩) hSss7 ?_
                      rotate_left
                      · intro w hSw; obtain ⟨e0, e1, e2, e3, e4, e5, e6, e7, -⟩ := hSw; go_simp; try with_reducible rfl
                      simp only [Act.put, rgA, rgB, rgC, rgD, rgE, rgF]
                      refine wpAnyT_loadW (i := 14) (v := ?_) rfl (by kernel_rfl) (by kernel_rfl) (by kernel_rfl) (by kernel_rfl) (by kernel_rfl) (fun _ _ _ h => h) (Or.inl ⟨by rfl, ?_⟩) hSss7 ?_
                      rotate_left
                      · intro w hSw; obtain ⟨e0, e1, e2, e3, e4, e5, e6, e7, -⟩ := hSw; go_simp; try with_reducible rfl
                      simp only [Act.put, rgA, rgB, rgC, rgD, rgE, rgF]
                      refine wpAnyT_one (i := 9) (by kernel_rfl) rfl (by rfl) ?_
                      obtain ⟨nb9, hnb⟩ : ∃ b, b = s7.heap.size := ⟨_, rfl⟩
                      refine wp_newrow (v := .slice (some ⟨nb9, 0, none⟩) 1 1) (cs := #[.int .i64 f1, .int .i64 f2, .int .i64 f3, .int .i64 f4]) (te := 38) (by rw [hnb]; go_simp) ?_
                      rw [← hnb]
                      intro w108 hX hrow
                      rw [hnb] at hX
                      have HRO9 := Lib.hid hrow
                      clear hrow hnb
                      have hB_s7_w108 := below_step hB_s7_s7 hX
                      have hB_w108_w108 := Below.refl w108.heap.size w108
                      have hSsw108 := Cells.below hB_s7_w108 hSss7
                      clear hX
                      refine ⟨fun _ _ => hSsw108, ?_⟩
                      try simp only [Act.put, rgA, rgB, rgC, rgD, rgE, rgF]
                      refine wpAnyT_one (i := 10) (by kernel_rfl) rfl (by rfl) ?_
                      have hbP : Below wr.heap.size wr w108 := hB_0_s7.trans ((hB_s7_w108).mono (hB_0_s7).size)
                      have hgP := HX.out.below (below_step HGWy.out hbP) HS.out
                      have hr5 := ((hB_w108_w108).block _ (blk_lt HRO9.out)).trans HRO9.out
                      have hl5 : Rd (.sl cellT) (fun b => b = nb9) w108 [.slice (some ⟨nb9, 0, none⟩) ([⟨f1, f2, f3, f4⟩] : List C4).length 1] (([⟨f1, f2, f3, f4⟩] : List C4).map C4.d) := CRow.rd (l := [⟨f1, f2, f3, f4⟩]) ⟨_, hr5, fun i hi => by
                        have : i = 0 := by simp at hi; omega
                        subst this
                        exact ⟨rfl, rfl, rfl, rfl⟩⟩ (fun k hk => by rw [List.mem_singleton] at hk; rw [hk]; exact HFO.out) 1 (Nat.le_refl _) (by decide)
                      refine wp_enter (f := 14) (args := #[.slice a G.length cap, .slice (some ⟨nb9, 0, none⟩) 1 1]) (by go_simp) (raffected47 w108 a cap G hgP (fun b hb => Nat.lt_of_lt_of_le (HS.out b hb) (below_step HGWy.out hbP).size) HGI.out (by have := HGL.out; omega) (some ⟨nb9, 0, none⟩) 1 [⟨f1, f2, f3, f4⟩] hl5 (fun b hb => by rw [hb]; exact blk_lt hr5)) ?_
                      rintro e w109 ⟨v6, ys9, rfl, -, hmem, hsl, hX⟩
                      obtain ⟨va9, vc9, rfl⟩ := hsl.form
                      have HSL9 := Lib.hid hsl
                      have HDY9 := Lib.hid (show decide ((⟨d1, d2, d3, d4⟩ : C4) ∈ ys9) = false from by
                        have h1 : (⟨d1, d2, d3, d4⟩ : C4) ∈ ys9 ↔ false = true := by rw [hmem, HT2.out]; simp
                        rw [Bool.eq_iff_iff, decide_eq_true_iff]
                        exact h1)
                      clear hsl hmem hbP hgP hr5 hl5
                      have hB_s7_w109 := below_step hB_s7_w108 hX
                      have hB_w108_w109 := below_step hB_w108_w108 hX
                      have hB_w109_w109 := Below.refl w109.heap.size w109
                      have hSsw109 := Cells.below hB_s7_w109 hSss7
                      clear hX
                      refine ⟨_, rfl, fun _ _ => hSsw109, ?_⟩
                      try simp only [Act.put, rgA, rgB, rgC, rgD, rgE, rgF]
                      refine wpAnyT_one (i := 15) (by kernel_rfl) rfl (by rfl) ?_
                      have hha := rhas47 w109 va9 vc9 ys9 (HSL9.out.below hB_w109_w109).rd (fun b hb => hb.2) ⟨d1, d2, d3, d4⟩
                      rw [HDY9.out] at hha
                      unfold C4.v at hha
                      refine wp_enter (f := 18) (args := #[.slice va9 ys9.length vc9, .agg #[.int .i64 d1, .int .i64 d2, .int .i64 d3, .int .i64 d4]]) (by go_simp) hha ?_
                      rintro e w110 ⟨rfl, hX⟩
                      clear hha
                      have hB_s7_w110 := below_step hB_s7_w109 hX
                      have hB_w108_w110 := below_step hB_w108_w109 hX
                      have hB_w109_w110 := below_step hB_w109_w109 hX
                      have hB_w110_w110 := Below.refl w110.heap.size w110
                      have hSsw110 := Cells.below hB_s7_w110 hSss7
                      clear hX
                      refine ⟨_, rfl, fun _ _ => hSsw110, ?_⟩
                      try simp only [Act.put, rgA, rgB, rgC, rgD, rgE, rgF]
                      refine wpAnyT_pure (i := 16) (v := ?_) rfl (by kernel_rfl) (by kernel_rfl) (by kernel_rfl) (fun _ _ _ h => h) (by rfl) ?_ ?_
                      rotate_left
                      · intro w; go_simp; try with_reducible rfl
                      simp only [Act.put, rgA, rgB, rgC, rgD, rgE, rgF]
                      refine wpAnyT_skip (i := 17) rfl (by kernel_rfl) (by kernel_rfl) (by kernel_rfl) (fun _ _ _ h => h) (by rfl) ?_
                      simp only [Act.put, rgA, rgB, rgC, rgD, rgE, rgF]
                      refine wpAnyT_skip (i := 18) rfl (by kernel_rfl) (by kernel_rfl) (by kernel_rfl) (fun _ _ _ h => h) (by rfl) ?_
                      simp only [Act.put, rgA, rgB, rgC, rgD, rgE, rgF]
                      refine wpAnyT_skip (i := 19) rfl (by kernel_rfl) (by kernel_rfl) (by kernel_rfl) (fun _ _ _ h => h) (by rfl) ?_
                      simp only [Act.put, rgA, rgB, rgC, rgD, rgE, rgF]
                      refine wpAnyT_skip (i := 20) rfl (by kernel_rfl) (by kernel_rfl) (by kernel_rfl) (fun _ _ _ h => h) (by rfl) ?_
                      simp only [Act.put, rgA, rgB, rgC, rgD, rgE, rgF]
                      refine wpAnyT_skip (i := 21) rfl (by kernel_rfl) (by kernel_rfl) (by kernel_rfl) (fun _ _ _ h => h) (by rfl) ?_
                      simp only [Act.put, rgA, rgB, rgC, rgD, rgE, rgF]
                      refine wpAnyT_skip (i := 22) rfl (by kernel_rfl) (by kernel_rfl) (by kernel_rfl) (fun _ _ _ h => h) (by rfl) ?_
                      simp only [Act.put, rgA, rgB, rgC, rgD, rgE, rgF]
                      refine wpAnyT_skip (i := 23) rfl (by kernel_rfl) (by kernel_rfl) (by kernel_rfl) (fun _ _ _ h => h) (by rfl) ?_
                      simp only [Act.put, rgA, rgB, rgC, rgD, rgE, rgF]
                      refine wpAnyT_skip (i := 24) rfl (by kernel_rfl) (by kernel_rfl) (by kernel_rfl) (fun _ _ _ h => h) (by rfl) ?_
                      simp only [Act.put, rgA, rgB, rgC, rgD, rgE, rgF]
                      refine wpAnyT_skip (i := 25) rfl (by kernel_rfl) (by kernel_rfl) (by kernel_rfl) (fun _ _ _ h => h) (by rfl) ?_
                      simp only [Act.put, rgA, rgB, rgC, rgD, rgE, rgF]
                      refine wpAnyT_pure (i := 26) (v := ?_) rfl (by kernel_rfl) (by kernel_rfl) (by kernel_rfl) (fun _ _ _ h => h) (by rfl) ?_ ?_
                      rotate_left
                      · intro w; go_simp; try with_reducible rfl
                      simp only [Act.put, rgA, rgB, rgC, rgD, rgE, rgF]
                      refine wpAnyT_pure (i := 27) (v := ?_) rfl (by kernel_rfl) (by kernel_rfl) (by kernel_rfl) (fun _ _ _ h => h) (by rfl) ?_ ?_
                      rotate_left
                      · intro w; go_simp; try with_reducible rfl
                      simp only [Act.put, rgA, rgB, rgC, rgD, rgE, rgF]
                      refine wpAnyT_done (by kernel_rfl) ?_ _
                      have HBN2 := Lib.hid (hB_0_s7.trans ((hB_s7_w110).mono (hB_0_s7).size))
                      go_wp2_with fail
                      go_meet
                      case rel => exact ⟨by rw [← HTBE.out]; rfl, HBN2.out⟩
                    | true =>
                      refine wp_region_T (Cells [(⟨b6, o6 + q * 4, none⟩, .int .i64 d1), (⟨b6, o6 + q * 4 + 1, none⟩, .int .i64 d2), (⟨b6, o6 + q * 4 + 2, none⟩, .int .i64 d3), (⟨b6, o6 + q * 4 + 3, none⟩, .int .i64 d4), (⟨w1.heap.size, 0, none⟩, .int .i64 f1), (⟨w1.heap.size, 1, none⟩, .int .i64 f2), (⟨w1.heap.size, 2, none⟩, .int .i64 f3), (⟨w1.heap.size, 3, none⟩, .int .i64 f4)]) (fun _ => false) (by kernel_rfl) ?_
                      have hSss11 := Cells.drew hC0
                      have hB_0_s11 : Below wr.heap.size wr wr.drew := below_drew _
                      generalize wr.drew = s11 at hSss11 hB_0_s11 ⊢
                      have hB_s11_s11 := Below.refl s11.heap.size s11
                      refine wpAnyT_pure (i := 0) (v := ?_) rfl (by kernel_rfl) (by kernel_rfl) (by kernel_rfl) (fun _ _ _ h => h) (by rfl) ?_ ?_
                      rotate_left
                      · intro w; go_simp; try with_reducible rfl
                      simp only [Act.put, rgA, rgB, rgC, rgD, rgE, rgF]
                      refine wpAnyT_pure (i := 1) (v := ?_) rfl (by kernel_rfl) (by kernel_rfl) (by kernel_rfl) (fun _ _ _ h => h) (by rfl) ?_ ?_
                      rotate_left
                      · intro w; go_simp; try with_reducible rfl
                      simp only [Act.put, rgA, rgB, rgC, rgD, rgE, rgF]
                      refine wpAnyT_pure (i := 2) (v := ?_) rfl (by kernel_rfl) (by kernel_rfl) (by kernel_rfl) (fun _ _ _ h => h) (by rfl) ?_ ?_
                      rotate_left
                      · intro w; go_simp; try with_reducible rfl
                      simp only [Act.put, rgA, rgB, rgC, rgD, rgE, rgF]
                      refine wpAnyT_loadW (i := 3) (v := ?_) rfl (by kernel_rfl) (by kernel_rfl) (by kernel_rfl) (by kernel_rfl) (by kernel_rfl) (fun _ _ _ h => h) (Or.inl ⟨by rfl, ?_⟩) hSss11 ?_
                      rotate_left
                      · intro w hSw; obtain ⟨e0, e1, e2, e3, e4, e5, e6, e7, -⟩ := hSw; go_simp; try with_reducible rfl
                      simp only [Act.put, rgA, rgB, rgC, rgD, rgE, rgF]
                      refine wpAnyT_loadW (i := 4) (v := ?_) rfl (by kernel_rfl) (by kernel_rfl) (by kernel_rfl) (by kernel_rfl) (by kernel_rfl) (fun _ _ _ h => h) (Or.inl ⟨by rfl, ?_⟩) hSss11 ?_
                      rotate_left
                      · intro w hSw; obtain ⟨e0, e1, e2, e3, e4, e5, e6, e7, -⟩ := hSw; go_simp; try with_reducible rfl
                      simp only [Act.put, rgA, rgB, rgC, rgD, rgE, rgF]
                      refine wpAnyT_pure (i := 5) (v := ?_) rfl (by kernel_rfl) (by kernel_rfl) (by kernel_rfl) (fun _ _ _ h => h) (by rfl) ?_ ?_
                      rotate_left
                      · intro w; go_simp; try with_reducible rfl
                      simp only [Act.put, rgA, rgB, rgC, rgD, rgE, rgF]
                      refine wpAnyT_pure (i := 6) (v := ?_) rfl (by kernel_rfl) (by kernel_rfl) (by kernel_rfl) (fun _ _ _ h => h) (by rfl) ?_ ?_
                      rotate_left
                      · intro w; go_simp; try with_reducible rfl
                      simp only [Act.put, rgA, rgB, rgC, rgD, rgE, rgF]
                      refine wpAnyT_pure (i := 7) (v := ?_) rfl (by kernel_rfl) (by kernel_rfl) (by kernel_rfl) (fun _ _ _ h => h) (by rfl) ?_ ?_
                      rotate_left
                      · intro w; go_simp; try with_reducible rfl
                      simp only [Act.put, rgA, rgB, rgC, rgD, rgE, rgF]
                      refine wpAnyT_pure (i := 11) (v := ?_) rfl (by kernel_rfl) (by kernel_rfl) (by kernel_rfl) (fun _ _ _ h => h) (by rfl) ?_ ?_
                      rotate_left
                      · intro w; go_simp; try with_reducible rfl
                      simp only [Act.put, rgA, rgB, rgC, rgD, rgE, rgF]
                      refine wpAnyT_pure (i := 12) (v := ?_) rfl (by kernel_rfl) (by kernel_rfl) (by kernel_rfl) (fun _ _ _ h => h) (by rfl) ?_ ?_
                      rotate_left
                      · intro w; go_simp; try with_reducible rfl
                      simp only [Act.put, rgA, rgB, rgC, rgD, rgE, rgF]
                      refine wpAnyT_pure (i := 13) (v := ?_) rfl (by kernel_rfl) (by kernel_rfl) (by kernel_rfl) (fun _ _ _ h => h) (by rfl) ?_ ?_
                      rotate_left
                      · intro w; go_simp; try with_reducible rfl
                      simp only [Act.put, rgA, rgB, rgC, rgD, rgE, rgF]
                      refine wpAnyT_loadW (i := 8) (v := ?_) rfl (by kernel_rfl) (by kernel_rfl) (by kernel_rfl) (by kernel_rfl) (by kernel_rfl) (fun _ _ _ h => h) (Or.inl ⟨by rfl, ?_⟩) hSss11 ?_
                      rotate_left
                      · intro w hSw; obtain ⟨e0, e1, e2, e3, e4, e5, e6, e7, -⟩ := hSw; go_simp; try with_reducible rfl
                      simp only [Act.put, rgA, rgB, rgC, rgD, rgE, rgF]
                      refine wpAnyT_loadW (i := 14) (v := ?_) rfl (by kernel_rfl) (by kernel_rfl) (by kernel_rfl) (by kernel_rfl) (by kernel_rfl) (fun _ _ _ h => h) (Or.inl ⟨by rfl, ?_⟩) hSss11 ?_
                      rotate_left
                      · intro w hSw; obtain ⟨e0, e1, e2, e3, e4, e5, e6, e7, -⟩ := hSw; go_simp; try with_reducible rfl
                      simp only [Act.put, rgA, rgB, rgC, rgD, rgE, rgF]
                      refine wpAnyT_one (i := 9) (by kernel_rfl) rfl (by rfl) ?_
                      obtain ⟨nb9, hnb⟩ : ∃ b, b = s11.heap.size := ⟨_, rfl⟩
                      refine wp_newrow (v := .slice (some ⟨nb9, 0, none⟩) 1 1) (cs := #[.int .i64 f1, .int .i64 f2, .int .i64 f3, .int .i64 f4]) (te := 38) (by rw [hnb]; go_simp) ?_
                      rw [← hnb]
                      intro w112 hX hrow
                      rw [hnb] at hX
                      have HRO9 := Lib.hid hrow
                      clear hrow hnb
                      have hB_s11_w112 := below_step hB_s11_s11 hX
                      have hB_w112_w112 := Below.refl w112.heap.size w112
                      have hSsw112 := Cells.below hB_s11_w112 hSss11
                      clear hX
                      refine ⟨fun _ _ => hSsw112, ?_⟩
                      try simp only [Act.put, rgA, rgB, rgC, rgD, rgE, rgF]
                      refine wpAnyT_one (i := 10) (by kernel_rfl) rfl (by rfl) ?_
                      have hbP : Below wr.heap.size wr w112 := hB_0_s11.trans ((hB_s11_w112).mono (hB_0_s11).size)
                      have hgP := HX.out.below (below_step HGWy.out hbP) HS.out
                      have hr5 := ((hB_w112_w112).block _ (blk_lt HRO9.out)).trans HRO9.out
                      have hl5 : Rd (.sl cellT) (fun b => b = nb9) w112 [.slice (some ⟨nb9, 0, none⟩) ([⟨f1, f2, f3, f4⟩] : List C4).length 1] (([⟨f1, f2, f3, f4⟩] : List C4).map C4.d) := CRow.rd (l := [⟨f1, f2, f3, f4⟩]) ⟨_, hr5, fun i hi => by
                        have : i = 0 := by simp at hi; omega
                        subst this
                        exact ⟨rfl, rfl, rfl, rfl⟩⟩ (fun k hk => by rw [List.mem_singleton] at hk; rw [hk]; exact HFO.out) 1 (Nat.le_refl _) (by decide)
                      refine wp_enter (f := 14) (args := #[.slice a G.length cap, .slice (some ⟨nb9, 0, none⟩) 1 1]) (by go_simp) (raffected47 w112 a cap G hgP (fun b hb => Nat.lt_of_lt_of_le (HS.out b hb) (below_step HGWy.out hbP).size) HGI.out (by have := HGL.out; omega) (some ⟨nb9, 0, none⟩) 1 [⟨f1, f2, f3, f4⟩] hl5 (fun b hb => by rw [hb]; exact blk_lt hr5)) ?_
                      rintro e w113 ⟨v6, ys9, rfl, -, hmem, hsl, hX⟩
                      obtain ⟨va9, vc9, rfl⟩ := hsl.form
                      have HSL9 := Lib.hid hsl
                      have HDY9 := Lib.hid (show decide ((⟨d1, d2, d3, d4⟩ : C4) ∈ ys9) = true from by
                        have h1 : (⟨d1, d2, d3, d4⟩ : C4) ∈ ys9 ↔ true = true := by rw [hmem, HT2.out]; simp
                        rw [Bool.eq_iff_iff, decide_eq_true_iff]
                        exact h1)
                      clear hsl hmem hbP hgP hr5 hl5
                      have hB_s11_w113 := below_step hB_s11_w112 hX
                      have hB_w112_w113 := below_step hB_w112_w112 hX
                      have hB_w113_w113 := Below.refl w113.heap.size w113
                      have hSsw113 := Cells.below hB_s11_w113 hSss11
                      clear hX
                      refine ⟨_, rfl, fun _ _ => hSsw113, ?_⟩
                      try simp only [Act.put, rgA, rgB, rgC, rgD, rgE, rgF]
                      refine wpAnyT_one (i := 15) (by kernel_rfl) rfl (by rfl) ?_
                      have hha := rhas47 w113 va9 vc9 ys9 (HSL9.out.below hB_w113_w113).rd (fun b hb => hb.2) ⟨d1, d2, d3, d4⟩
                      rw [HDY9.out] at hha
                      unfold C4.v at hha
                      refine wp_enter (f := 18) (args := #[.slice va9 ys9.length vc9, .agg #[.int .i64 d1, .int .i64 d2, .int .i64 d3, .int .i64 d4]]) (by go_simp) hha ?_
                      rintro e w114 ⟨rfl, hX⟩
                      clear hha
                      have hB_s11_w114 := below_step hB_s11_w113 hX
                      have hB_w112_w114 := below_step hB_w112_w113 hX
                      have hB_w113_w114 := below_step hB_w113_w113 hX
                      have hB_w114_w114 := Below.refl w114.heap.size w114
                      have hSsw114 := Cells.below hB_s11_w114 hSss11
                      clear hX
                      refine ⟨_, rfl, fun _ _ => hSsw114, ?_⟩
                      try simp only [Act.put, rgA, rgB, rgC, rgD, rgE, rgF]
                      refine wpAnyT_pure (i := 16) (v := ?_) rfl (by kernel_rfl) (by kernel_rfl) (by kernel_rfl) (fun _ _ _ h => h) (by rfl) ?_ ?_
                      rotate_left
                      · intro w; go_simp; try with_reducible rfl
                      simp only [Act.put, rgA, rgB, rgC, rgD, rgE, rgF]
                      refine wpAnyT_pure (i := 17) (v := ?_) rfl (by kernel_rfl) (by kernel_rfl) (by kernel_rfl) (fun _ _ _ h => h) (by rfl) ?_ ?_
                      rotate_left
                      · intro w; go_simp; try with_reducible rfl
                      simp only [Act.put, rgA, rgB, rgC, rgD, rgE, rgF]
                      refine wpAnyT_pure (i := 18) (v := ?_) rfl (by kernel_rfl) (by kernel_rfl) (by kernel_rfl) (fun _ _ _ h => h) (by rfl) ?_ ?_
                      rotate_left
                      · intro w; go_simp; try with_reducible rfl
                      simp only [Act.put, rgA, rgB, rgC, rgD, rgE, rgF]
                      refine wpAnyT_pure (i := 19) (v := ?_) rfl (by kernel_rfl) (by kernel_rfl) (by kernel_rfl) (fun _ _ _ h => h) (by rfl) ?_ ?_
                      rotate_left
                      · intro w; go_simp; try with_reducible rfl
                      simp only [Act.put, rgA, rgB, rgC, rgD, rgE, rgF]
                      refine wpAnyT_pure (i := 20) (v := ?_) rfl (by kernel_rfl) (by kernel_rfl) (by kernel_rfl) (fun _ _ _ h => h) (by rfl) ?_ ?_
                      rotate_left
                      · intro w; go_simp; try with_reducible rfl
                      simp only [Act.put, rgA, rgB, rgC, rgD, rgE, rgF]
                      refine wpAnyT_loadW (i := 21) (v := ?_) rfl (by kernel_rfl) (by kernel_rfl) (by kernel_rfl) (by kernel_rfl) (by kernel_rfl) (fun _ _ _ h => h) (Or.inl ⟨by rfl, ?_⟩) hSsw114 ?_
                      rotate_left
                      · intro w hSw; obtain ⟨e0, e1, e2, e3, e4, e5, e6, e7, -⟩ := hSw; go_simp; try with_reducible rfl
                      simp only [Act.put, rgA, rgB, rgC, rgD, rgE, rgF]
                      refine wpAnyT_loadW (i := 24) (v := ?_) rfl (by kernel_rfl) (by kernel_rfl) (by kernel_rfl) (by kernel_rfl) (by kernel_rfl) (fun _ _ _ h => h) (Or.inl ⟨by rfl, ?_⟩) hSsw114 ?_
                      rotate_left
                      · intro w hSw; obtain ⟨e0, e1, e2, e3, e4, e5, e6, e7, -⟩ := hSw; go_simp; try with_reducible rfl
                      simp only [Act.put, rgA, rgB, rgC, rgD, rgE, rgF]
                      refine wpAnyT_one (i := 22) (by kernel_rfl) rfl (by rfl) ?_
                      obtain ⟨nb22, hnb⟩ : ∃ b, b = w114.heap.size := ⟨_, rfl⟩
                      refine wp_newrow (v := .slice (some ⟨nb22, 0, none⟩) 1 1) (cs := #[.int .i64 d1, .int .i64 d2, .int .i64 d3, .int .i64 d4]) (te := 38) (by rw [hnb]; go_simp) ?_
                      rw [← hnb]
                      intro w115 hX hrow
                      rw [hnb] at hX
                      have HRO22 := Lib.hid hrow
                      clear hrow hnb
                      have hB_s11_w115 := below_step hB_s11_w114 hX
                      have hB_w112_w115 := below_step hB_w112_w114 hX
                      have hB_w113_w115 := below_step hB_w113_w114 hX
                      have hB_w114_w115 := below_step hB_w114_w114 hX
                      have hB_w115_w115 := Below.refl w115.heap.size w115
                      have hSsw115 := Cells.below hB_s11_w115 hSss11
                      clear hX
                      refine ⟨fun _ _ => hSsw115, ?_⟩
                      try simp only [Act.put, rgA, rgB, rgC, rgD, rgE, rgF]
                      refine wpAnyT_one (i := 23) (by kernel_rfl) rfl (by rfl) ?_
                      have hbP : Below wr.heap.size wr w115 := hB_0_s11.trans ((hB_s11_w115).mono (hB_0_s11).size)
                      have hgP := HX.out.below (below_step HGWy.out hbP) HS.out
                      have hr5 := ((hB_w115_w115).block _ (blk_lt HRO22.out)).trans HRO22.out
                      have hl5 : Rd (.sl cellT) (fun b => b = nb22) w115 [.slice (some ⟨nb22, 0, none⟩) ([⟨d1, d2, d3, d4⟩] : List C4).length 1] (([⟨d1, d2, d3, d4⟩] : List C4).map C4.d) := CRow.rd (l := [⟨d1, d2, d3, d4⟩]) ⟨_, hr5, fun i hi => by
                        have : i = 0 := by simp at hi; omega
                        subst this
                        exact ⟨rfl, rfl, rfl, rfl⟩⟩ (fun k hk => by rw [List.mem_singleton] at hk; rw [hk]; exact HDO.out) 1 (Nat.le_refl _) (by decide)
                      refine wp_enter (f := 14) (args := #[.slice a G.length cap, .slice (some ⟨nb22, 0, none⟩) 1 1]) (by go_simp) (raffected47 w115 a cap G hgP (fun b hb => Nat.lt_of_lt_of_le (HS.out b hb) (below_step HGWy.out hbP).size) HGI.out (by have := HGL.out; omega) (some ⟨nb22, 0, none⟩) 1 [⟨d1, d2, d3, d4⟩] hl5 (fun b hb => by rw [hb]; exact blk_lt hr5)) ?_
                      rintro e w116 ⟨v6, ys22, rfl, -, hmem, hsl, hX⟩
                      obtain ⟨va22, vc22, rfl⟩ := hsl.form
                      have HSL22 := Lib.hid hsl
                      have HDY22 := Lib.hid (show decide ((⟨f1, f2, f3, f4⟩ : C4) ∈ ys22) = t3 from by
                        have h1 : (⟨f1, f2, f3, f4⟩ : C4) ∈ ys22 ↔ t3 = true := by rw [hmem, HT3.out]; simp
                        rw [Bool.eq_iff_iff, decide_eq_true_iff]
                        exact h1)
                      clear hsl hmem hbP hgP hr5 hl5
                      have hB_s11_w116 := below_step hB_s11_w115 hX
                      have hB_w112_w116 := below_step hB_w112_w115 hX
                      have hB_w113_w116 := below_step hB_w113_w115 hX
                      have hB_w114_w116 := below_step hB_w114_w115 hX
                      have hB_w115_w116 := below_step hB_w115_w115 hX
                      have hB_w116_w116 := Below.refl w116.heap.size w116
                      have hSsw116 := Cells.below hB_s11_w116 hSss11
                      clear hX
                      refine ⟨_, rfl, fun _ _ => hSsw116, ?_⟩
                      try simp only [Act.put, rgA, rgB, rgC, rgD, rgE, rgF]
                      refine wpAnyT_one (i := 25) (by kernel_rfl) rfl (by rfl) ?_
                      have hha := rhas47 w116 va22 vc22 ys22 (HSL22.out.below hB_w116_w116).rd (fun b hb => hb.2) ⟨f1, f2, f3, f4⟩
                      rw [HDY22.out] at hha
                      unfold C4.v at hha
                      refine wp_enter (f := 18) (args := #[.slice va22 ys22.length vc22, .agg #[.int .i64 f1, .int .i64 f2, .int .i64 f3, .int .i64 f4]]) (by go_simp) hha ?_
                      rintro e w117 ⟨rfl, hX⟩
                      clear hha
                      have hB_s11_w117 := below_step hB_s11_w116 hX
                      have hB_w112_w117 := below_step hB_w112_w116 hX
                      have hB_w113_w117 := below_step hB_w113_w116 hX
                      have hB_w114_w117 := below_step hB_w114_w116 hX
                      have hB_w115_w117 := below_step hB_w115_w116 hX
                      have hB_w116_w117 := below_step hB_w116_w116 hX
                      have hB_w117_w117 := Below.refl w117.heap.size w117
                      have hSsw117 := Cells.below hB_s11_w117 hSss11
                      clear hX
                      refine ⟨_, rfl, fun _ _ => hSsw117, ?_⟩
                      try simp only [Act.put, rgA, rgB, rgC, rgD, rgE, rgF]
                      refine wpAnyT_pure (i := 26) (v := ?_) rfl (by kernel_rfl) (by kernel_rfl) (by kernel_rfl) (fun _ _ _ h => h) (by rfl) ?_ ?_
                      rotate_left
                      · intro w; go_simp; try with_reducible rfl
                      simp only [Act.put, rgA, rgB, rgC, rgD, rgE, rgF]
                      refine wpAnyT_pure (i := 27) (v := ?_) rfl (by kernel_rfl) (by kernel_rfl) (by kernel_rfl) (fun _ _ _ h => h) (by rfl) ?_ ?_
                      rotate_left
                      · intro w; go_simp; try with_reducible rfl
                      simp only [Act.put, rgA, rgB, rgC, rgD, rgE, rgF]
                      refine wpAnyT_done (by kernel_rfl) ?_ _
                      have HBN2 := Lib.hid (hB_0_s11.trans ((hB_s11_w117).mono (hB_0_s11).size))
                      go_wp2_with fail
                      go_meet
                      case rel => exact ⟨by rw [← HTBE.out]; cases t3 <;> rfl, HBN2.out⟩
                obtain ⟨rfl, hB9⟩ := hcut
                clear heq hgd hC0
                have HB9 := Lib.hid (below_step HBy.out hB9)
                have HBN9 := Lib.hid (HBN.out.below hB9)
                obtain ⟨m0, m1, m2, m3⟩ := HM.out
                have n0 := cell_below m0 hB9
                have n1 := cell_below m1 hB9
                have n2 := cell_below m2 hB9
                have n3 := cell_below m3 hB9
                clear m0 m1 m2 m3 hB9
                cases tb with
                | false =>
                  clear n0 n1 n2 n3
                  go_wp2_with fail
                  go_roundw
                  case rel =>
                    refine ⟨q + 1, HQL.out, by go_num, HB9.out, .inl ⟨rfl, HBN9.out, fun x hx => ?_⟩⟩
                    rw [HTK.out, List.mem_append, List.mem_singleton] at hx
                    rcases hx with hx | rfl
                    · exact HNO.out x hx
                    · exact fun h => by have := HTT.out.2 h; cases this
                  case measure => simp [intOf]; omega
                | true =>
                  have HNE := Lib.hid (show itC (rsOf (lkG G)) (rdL (lkG G)) ⟨f1, f2, f3, f4⟩ (k + 1) = ⟨d1, d2, d3, d4⟩ from by
                    have h1 := HQL.out
                    have h2 := HNO.out
                    have h3 := HTT.out.1 (by first | rfl | trivial)
                    have h4 := HDE.out
                    have hrq := HRQ.out
                    clear HNO HTT HDE HQL HTK HDM HR7 HR7y
                    subst hrq
                    rw [h4] at h3
                    rw [way_next HR0.out k h1 h3 (fun i hi => h2 _ (by
                      have e1 : i < ((rdL (lkG G) (itC (rsOf (lkG G)) (rdL (lkG G)) ⟨f1, f2, f3, f4⟩ k)).take q).length := by rw [List.length_take]; omega
                      have e2 : ((rdL (lkG G) (itC (rsOf (lkG G)) (rdL (lkG G)) ⟨f1, f2, f3, f4⟩ k)).take q)[i] = (rdL (lkG G) (itC (rsOf (lkG G)) (rdL (lkG G)) ⟨f1, f2, f3, f4⟩ k))[i]'(by omega) := List.getElem_take
                      rw [← e2]
                      exact List.getElem_mem e1)), h4])
                  obtain ⟨w10, hs, hbx10, hg10⟩ := HBN9.out.store Try.prog ⟨d1, d2, d3, d4⟩
                  unfold C4.v at hs
                  have HBX10 := Lib.hid hbx10
                  have HB10 := Lib.hid (HB9.out.trans (hg10.below (n := w7.heap.size) (fun b e => by omega) HB9.out.size))
                  clear hbx10 hg10
                  go_wp2_with (refine wpList_storeK rfl 38 (.tmp 10) (.tmp 98) rfl ⟨w7.heap.size, 0, none⟩ (.agg #[.int .i64 d1, .int .i64 d2, .int .i64 d3, .int .i64 d4]) rfl rfl (sizeC' _) hs ?_)
                  go_roundw
                  case rel => exact ⟨q + 1, HQL.out, by go_num, HB10.out, .inr ⟨rfl, by rw [HNE.out]; exact HBX10.out⟩⟩
                  case measure => simp [intOf]; omega
              · exfalso
                have e : q = rds.length := by omega
                obtain ⟨d, hd, ht⟩ := way_some HR0.out k
                rw [HRQ.out] at hd
                exact HNO.out d (by rw [e, List.take_length]; exact hd) ht
            · have HBN := Lib.hid hbn
              clear hbn
              obtain ⟨d, hd⟩ : ∃ x, itC (rsOf (lkG G)) (rdL (lkG G)) ⟨f1, f2, f3, f4⟩ (k + 1) = x := ⟨_, rfl⟩
              have HDE := Lib.hid hd
              rw [hd] at HBN
              clear hd
              obtain ⟨d1, d2, d3, d4⟩ := d
              obtain ⟨k0, k1, k2, k3⟩ := HBN.out.cells
              simp only at k0 k1 k2 k3
              go_upto_region 19 with fail
              go_cut [64] (fun s wx => s = .bool false ∧ wx = wr)
              case first =>
                by_cases hjl : q < rds.length
                · have hjI : (q : Int) < (rds.length : Int) := by omega
                  go_wp2_with fail
                  go_meet
                  exact ⟨rfl, rfl⟩
                · have hjI : ¬ (q : Int) < (rds.length : Int) := by omega
                  go_wp2_with fail
                  go_meet
                  exact ⟨rfl, rfl⟩
              obtain ⟨rfl, hwx⟩ := hcut
              subst hwx
              obtain ⟨w11, hs, hbx11, hg11⟩ := HBAy.out.store Try.prog ⟨d1, d2, d3, d4⟩
              unfold C4.v at hs
              have HBX11 := Lib.hid hbx11
              have HOy := Lib.hid (HO7.out.below HBy.out)
              have HO11 := Lib.hid (HOy.out.gr hg11 (fun _ h => h.elim) (fun b hb e => by have := (HOy.out.own b hb).1; omega))
              have HBF11 := Lib.hid (HBFy.out.gr hg11 (fun e => by have := HFA.out; omega))
              have HB11 := Lib.hid (HBWy.out.trans (hg11.below (n := w1.heap.size) (fun b e => by have := HFA.out; omega) HBWy.out.size))
              have HSZ11 := Lib.hid (Nat.le_trans HSZy.out hg11.size)
              clear hbx11 hg11
              go_wp2_with (refine wpList_storeK rfl 38 (.tmp 8) (.tmp 99) rfl ⟨w3.heap.size, 0, none⟩ (.agg #[.int .i64 d1, .int .i64 d2, .int .i64 d3, .int .i64 d4]) rfl rfl (sizeC' _) hs ?_)
              go_roundw
              case rel => exact ⟨k + 1, HND1.out, by rw [← HW1.out]; exact HO11.out, by rw [HDE.out]; exact HBX11.out, HBF11.out, HB11.out, HSZ11.out⟩
              case measure =>
                have h1 := way_len HA.out HR0.out HND1.out
                have h2 := HXL.out
                rw [List.length_map, List.length_append, List.length_singleton] at h2
                have h3 := HUL.out
                have h4 := HWL.out
                simp only [slLen]
                omega
end Go.Proofs.Ytoimbhdjhhmonaa
