/- Layer 28: the reference's AllValid. -/
import Derived.Test.YtpobckedeffjmaaO28k
set_option linter.unusedSimpArgs false
set_option maxRecDepth 50000
namespace Go.Proofs.Ytpobckedeffjmaa
open Go.RowKit Go

theorem refsA_len {es : List En} {ms : List M4} (h : allB es ms = true) : (refsA ms).length ≤ 24 * ms.length := by
  have h1 := (allB_iff.1 h).1
  clear h
  induction ms with
  | nil => simp [refsA]
  | cons m ms ih =>
    have h2 := ih fun x hx => h1 x (by simp [hx])
    obtain ⟨h3, h4, -⟩ := okM_len (h1 m (by simp))
    unfold refsA at *
    rw [List.flatMap_cons, List.length_append, List.length_append, List.length_cons]
    omega
set_option maxHeartbeats 8000000 in
theorem rallValid28 {S : Nat → Prop} (w : World) (bs : Array Value) (es : List En) (ms : List M4) (h : Bk S w bs es ms) (hS : ∀ b, S b → b < w.heap.size) (h40 : es.length ≤ 40) (h8 : ∀ e ∈ es, e.ln.length ≤ 8) (h20 : ms.length ≤ 20) :
    Calls Try.prog 23 #[.agg bs] w fun e w' => e = .returned (.bool (allB es ms)) ∧ Below w.heap.size w w' := by
  have HSZ := Lib.hid h.sz
  have H := Lib.hid h
  have HS := Lib.hid hS
  have H8 := Lib.hid h8
  obtain ⟨ma, mc, hm, hMR⟩ := h.m
  have HMR := Lib.hid hMR
  obtain ⟨ab, hab⟩ : ∃ q, allB es ms = q := ⟨_, rfl⟩
  rw [hab]
  have HAB := Lib.hid hab
  have hrow := heap_alloc_new w (.cells bs 65)
  have HB0 := Lib.hid ((Below.refl w.heap.size w).alloc (Nat.le_refl _) (.cells bs 65))
  have HR0 := Lib.hid hrow
  have HM24 := Lib.hid hm
  clear hMR hm hrow h hS h8 hab
  go_enter Try.func23, Try.ntmps23
  go_wp2_with fail
  generalize World.alloc w (.cells bs 65) = w0 at *
  obtain ⟨n, hn⟩ : ∃ q, w.heap.size = q := ⟨_, rfl⟩
  rw [hn] at HR0
  have HN := Lib.hid hn
  simp only [hn]
  clear hn
  have hlmm : ms.length ≤ 9223372036854775807 := by omega
  go_loopw [3, 4] (fun v iv wr => ∃ (k : Nat) (av : Option Addr) (cv : Nat), k ≤ ms.length ∧ iv = .int .i64 (k : Int) ∧ v = .slice av (refsA (ms.take k)).length cv ∧ Owns refT 41 w0.heap.size (fun _ => False) wr (.slice av (refsA (ms.take k)).length cv) ((refsA (ms.take k)).map R2.d) ∧ allB es (ms.take k) = true ∧ Below w0.heap.size w0 wr) (fun _ iv _ => ms.length - (intOf iv).toNat)
  case atStart => exact ⟨0, none, 0, Nat.zero_le _, rfl, rfl, Owns.nil _ _ _ _, rfl, Below.refl _ _⟩
  case round =>
    obtain ⟨k, av, cv, hk, rfl, rfl, hO, hall, hB⟩ := hrel
    have HO := Lib.hid hO
    have HALL := Lib.hid hall
    have HB := Lib.hid hB
    have HRLN := Lib.hid (show (refsA (ms.take k)).length ≤ 1000 from by have := refsA_len hall; rw [List.length_take] at this; omega)
    have HBW := Lib.hid (below_step HB0.out hB)
    have HROWr := Lib.hid ((hB.block _ (blk_lt HR0.out)).trans HR0.out)
    have d24 : wr.cell? ⟨n, 24, none⟩ = some (.slice ma ms.length mc) := (blk_cell HROWr.out 24).trans HM24.out
    obtain ⟨us, hus⟩ : ∃ q, refsA (ms.take k) = q := ⟨_, rfl⟩
    have HUS := Lib.hid hus
    rw [hus] at HO HRLN
    simp only [hus]
    clear hO hall hB hus
    by_cases hkl : k < ms.length
    · have hkI : (k : Int) < (ms.length : Int) := by omega
      obtain ⟨mb, mo, la, lc, ra, rc, rfl, -, ⟨m0, m1, m2, m3⟩, hL, hR, hwi, -⟩ := match_at (HMR.out.below HBW.out HS.out) k hkl
      have HTK := Lib.hid (List.take_succ_eq_append_getElem hkl)
      have HKL := Lib.hid hkl
      generalize ms[k] = m at m0 m1 m2 m3 hL hR HTK hwi
      obtain ⟨id, L, R, st⟩ := m
      simp only at m0 m1 m2 m3 hL hR hwi
      have HSN := Lib.hid (show ab = true → allB es (ms.take k ++ [⟨id, L, R, st⟩]) = true from fun e => by rw [← HTK.out]; exact allB_take (HAB.out.trans e) _)
      have hbx := (Below.refl wr.heap.size wr).alloc (Nat.le_refl _) (.cells #[.int .i64 id, .slice la L.length lc, .slice ra R.length rc, .int .i64 st] 67)
      have hqx := heap_alloc_new wr (.cells #[.int .i64 id, .slice la L.length lc, .slice ra R.length rc, .int .i64 st] 67)
      have HBX0 := Lib.hid (below_step HB.out hbx)
      have HBX := Lib.hid (below_step HBW.out hbx)
      have HQX := Lib.hid hqx
      have HRWX := Lib.hid ((hbx.block _ (blk_lt HROWr.out)).trans HROWr.out)
      have HLx := Lib.hid (hL.below hbx (fun b hb => Nat.lt_of_lt_of_le (HS.out b hb) HBW.out.size))
      have HRx := Lib.hid (hR.below hbx (fun b hb => Nat.lt_of_lt_of_le (HS.out b hb) HBW.out.size))
      have HOx := Lib.hid (HO.out.below hbx)
      clear hbx hqx hL hR hwi hkl hk
      go_upto_region 6 with fail
      clear m0 m1 m2 m3 d24
      generalize World.alloc wr (.cells #[.int .i64 id, .slice la L.length lc, .slice ra R.length rc, .int .i64 st] 67) = wx at *
      obtain ⟨bx, hbxe⟩ : ∃ q, wr.heap.size = q := ⟨_, rfl⟩
      rw [hbxe] at HQX
      have HBXE := Lib.hid hbxe
      simp only [hbxe]
      clear hbxe
      have HROW := Lib.hid HRWX.out
      have HROM := Lib.hid HQX.out
      have HVL := Lib.hid (rvalidM28 (S := S) (S2 := S) wx bs es ms (H.out.below HBX.out HS.out) (fun b hb => Nat.lt_of_lt_of_le (HS.out b hb) HBX.out.size) h40 H8.out id st (la) lc L ra rc R HLx.out HRx.out (fun b hb => Nat.lt_of_lt_of_le (HS.out b hb) HBX.out.size))
      obtain ⟨vb, hvb⟩ : ∃ q, decide ((sidesM es L R st).2.2 = 0) = q := ⟨_, rfl⟩
      rw [hvb] at HVL
      have HVB := Lib.hid hvb
      clear hvb
      go_wp2_with (first | (have hq := HROW; clear HROW; refine wpList_load_row rfl 65 _ rfl n rfl 65 bs (0, 0) _ hq.out Try.underlying65 rfl (by rw [HSZ.out]; kernel_rfl) ?_; clear hq) | (have hq := HROM; clear HROM; refine wpList_load_row rfl 67 _ rfl bx rfl 67 _ (0, 0) _ hq.out Try.underlying67 rfl (by kernel_rfl) ?_; clear hq))
      refine HVL.out.mono ?_
      rintro e w1 ⟨rfl, hB1⟩
      have HBY := Lib.hid (below_step HBX.out hB1)
      have HBY0 := Lib.hid (below_step HBX0.out hB1)
      have HQY := Lib.hid ((hB1.block _ (blk_lt HQX.out)).trans HQX.out)
      cases vb with
      | false =>
        have HF := Lib.hid (show ab = false from by
          cases hab : ab with
          | false => rfl
          | true =>
            have h1 := (allB_snoc.1 (HSN.out hab)).2.1
            unfold okM at h1
            rw [Bool.and_eq_true] at h1
            have h2 : decide ((sidesM es L R st).2.2 = 0) = true := h1.2
            rw [HVB.out] at h2
            cases h2)
        go_wp2_with fail
        go_ret
        exact ⟨by rw [HF.out]; rfl, HBY.out⟩
      | true =>
        have y0 : w1.cell? ⟨bx, 0, none⟩ = some (.int .i64 id) := blk_cell HQY.out 0
        by_cases hid1 : id < 1
        · have HF := Lib.hid (show ab = false from by
            cases hab : ab with
            | false => rfl
            | true =>
              have h1 := (allB_snoc.1 (HSN.out hab)).2.1
              unfold okM at h1
              rw [Bool.and_eq_true] at h1
              have := of_decide_eq_true h1.1
              simp only at this
              omega)
          go_wp2_with fail
          go_ret
          exact ⟨by rw [HF.out]; rfl, HBY.out⟩
        have hok : okM es ⟨id, L, R, st⟩ = true := by unfold okM; rw [Bool.and_eq_true]; exact ⟨decide_eq_true (by simp only; omega), HVB.out⟩
        obtain ⟨hl12, hr12, hndm⟩ := okM_len hok
        simp only at hl12 hr12 hndm
        have HOKM := Lib.hid hok
        have HNDM := Lib.hid hndm
        have HLy := Lib.hid (HLx.out.below hB1 (fun b hb => Nat.lt_of_lt_of_le (HS.out b hb) HBX.out.size))
        have HRy := Lib.hid (HRx.out.below hB1 (fun b hb => Nat.lt_of_lt_of_le (HS.out b hb) HBX.out.size))
        have HRWY := Lib.hid ((hB1.block _ (blk_lt HRWX.out)).trans HRWX.out)
        have HOy := Lib.hid (HOx.out.below hB1)
        clear hok hndm hB1
        go_wp2_with fail
        clear y0
        go_loopw [6] (fun jv wr => ∃ (j : Nat), j ≤ k ∧ jv = .int .i64 (j : Int) ∧ (∀ x ∈ ms.take j, x.id ≠ id) ∧ Below w1.heap.size w1 wr) (fun jv _ => k - (intOf jv).toNat)
        case atStart => exact ⟨0, Nat.zero_le _, rfl, fun x hx => by simp at hx, Below.refl _ _⟩
        case round =>
          obtain ⟨j, hj, rfl, hne, hBj⟩ := hrel
          have HNE := Lib.hid hne
          have HBJ := Lib.hid hBj
          have HBJW := Lib.hid (below_step HBY.out hBj)
          by_cases hji : j < k
          · have hjI : (j : Int) < (k : Int) := by omega
            have hjl : j < ms.length := by have := HKL.out; omega
            obtain ⟨mb', mo', la', lc', ra', rc', hme, -, ⟨p0, -, -, -⟩, -, -, -, -⟩ := match_at (HMR.out.below HBJW.out HS.out) j hjl
            cases hme
            have HTJ := Lib.hid (List.take_succ_eq_append_getElem hjl)
            have HMJ := Lib.hid (show ms[j].id ∈ (ms.take k).map (·.id) from List.mem_map.2 ⟨ms[j], List.mem_take_iff_getElem.2 ⟨j, by omega, rfl⟩, rfl⟩)
            have HJI := Lib.hid hji
            generalize ms[j] = y at p0 HTJ HMJ
            obtain ⟨yid, yl, yr, ys⟩ := y
            simp only at p0
            obtain ⟨eb, heb⟩ : ∃ q, decide (yid = id) = q := ⟨_, rfl⟩
            have HEB := Lib.hid heb
            have hrj := (hBj.block _ (blk_lt HRWY.out)).trans HRWY.out
            have hqj := (hBj.block _ (blk_lt HQY.out)).trans HQY.out
            have hC0 : Cells [(⟨n, 24, none⟩, .slice (some ⟨mb, mo, none⟩) ms.length mc), (⟨mb, mo + j * 4, none⟩, .int .i64 yid), (⟨bx, 0, none⟩, .int .i64 id)] wr := ⟨(blk_cell hrj 24).trans HM24.out, p0, blk_cell hqj 0, trivial⟩
            have hjmI : (j : Int) < (ms.length : Int) := by omega
            clear hne hBj hj hji heb p0 hrj hqj
            go_wp2_with fail
            refine wp_region_T (Cells [(⟨n, 24, none⟩, .slice (some ⟨mb, mo, none⟩) ms.length mc), (⟨mb, mo + j * 4, none⟩, .int .i64 yid), (⟨bx, 0, none⟩, .int .i64 id)]) (fun _ => false) (by kernel_rfl) ?_
            have hSss1 := Cells.drew hC0
            have hB_0_s1 : Below wr.heap.size wr wr.drew := below_drew _
            generalize wr.drew = s1 at hSss1 hB_0_s1 ⊢
            have hB_s1_s1 := Below.refl s1.heap.size s1
            refine wpAnyT_pure (i := 0) (v := ?_) rfl (by kernel_rfl) (by kernel_rfl) (by kernel_rfl) (fun _ _ _ h => h) (by rfl) ?_ ?_
            rotate_left
            · intro w; go_simp; try with_reducible rfl
            simp only [Act.put, rgA, rgB, rgC, rgD, rgE, rgF]
            refine wpAnyT_pure (i := 2) (v := ?_) rfl (by kernel_rfl) (by kernel_rfl) (by kernel_rfl) (fun _ _ _ h => h) (by rfl) ?_ ?_
            rotate_left
            · intro w; go_simp; try with_reducible rfl
            simp only [Act.put, rgA, rgB, rgC, rgD, rgE, rgF]
            refine wpAnyT_pure (i := 6) (v := ?_) rfl (by kernel_rfl) (by kernel_rfl) (by kernel_rfl) (fun _ _ _ h => h) (by rfl) ?_ ?_
            rotate_left
            · intro w; go_simp; try with_reducible rfl
            simp only [Act.put, rgA, rgB, rgC, rgD, rgE, rgF]
            refine wpAnyT_loadW (i := 1) (v := ?_) rfl (by kernel_rfl) (by kernel_rfl) (by kernel_rfl) (by kernel_rfl) (by kernel_rfl) (fun _ _ _ h => h) (Or.inl ⟨by rfl, ?_⟩) hSss1 ?_
            rotate_left
            · intro w hSw; obtain ⟨e0, e1, e2, -⟩ := hSw; go_simp; try with_reducible rfl
            simp only [Act.put, rgA, rgB, rgC, rgD, rgE, rgF]
            refine wpAnyT_pure (i := 3) (v := ?_) rfl (by kernel_rfl) (by kernel_rfl) (by kernel_rfl) (fun _ _ _ h => h) (by rfl) ?_ ?_
            rotate_left
            · intro w; go_simp; try with_reducible rfl
            simp only [Act.put, rgA, rgB, rgC, rgD, rgE, rgF]
            refine wpAnyT_pure (i := 4) (v := ?_) rfl (by kernel_rfl) (by kernel_rfl) (by kernel_rfl) (fun _ _ _ h => h) (by rfl) ?_ ?_
            rotate_left
            · intro w; go_simp; try with_reducible rfl
            simp only [Act.put, rgA, rgB, rgC, rgD, rgE, rgF]
            refine wpAnyT_loadW (i := 5) (v := ?_) rfl (by kernel_rfl) (by kernel_rfl) (by kernel_rfl) (by kernel_rfl) (by kernel_rfl) (fun _ _ _ h => h) (Or.inl ⟨by rfl, ?_⟩) hSss1 ?_
            rotate_left
            · intro w hSw; obtain ⟨e0, e1, e2, -⟩ := hSw; go_simp; try with_reducible rfl
            simp only [Act.put, rgA, rgB, rgC, rgD, rgE, rgF]
            refine wpAnyT_loadW (i := 7) (v := ?_) rfl (by kernel_rfl) (by kernel_rfl) (by kernel_rfl) (by kernel_rfl) (by kernel_rfl) (fun _ _ _ h => h) (Or.inl ⟨by rfl, ?_⟩) hSss1 ?_
            rotate_left
            · intro w hSw; obtain ⟨e0, e1, e2, -⟩ := hSw; go_simp; try with_reducible rfl
            simp only [Act.put, rgA, rgB, rgC, rgD, rgE, rgF]
            refine wpAnyT_pure (i := 8) (v := (.bool eb)) rfl (by kernel_rfl) (by kernel_rfl) (by kernel_rfl) (fun _ _ _ h => h) (by rfl) ?_ ?_
            · intro w; have hq := HEB.out; clear HEB; go_simp; try (rw [← hq]; by_cases e : yid = id <;> simp [e])
            simp only [Act.put, rgA, rgB, rgC, rgD, rgE, rgF]
            refine wpAnyT_done (by kernel_rfl) ?_ _
            have HBE := Lib.hid (below_step HBJ.out hB_0_s1)
            obtain ⟨wE, rfl⟩ : ∃ q, q = s1 := ⟨_, rfl⟩
            cases eb with
            | true =>
              have HF := Lib.hid (show ab = false from by
                cases hab : ab with
                | false => rfl
                | true =>
                  have h3 := (allB_snoc.1 (HSN.out hab)).2.2.1
                  simp only at h3
                  have h4 := HMJ.out
                  rw [of_decide_eq_true HEB.out] at h4
                  exact absurd h4 h3)
              go_wp2_with fail
              go_ret
              exact ⟨by rw [HF.out]; rfl, below_step HBY.out HBE.out⟩
            | false =>
              go_wp2_with fail
              go_roundw
              case rel =>
                refine ⟨j + 1, HJI.out, by go_num, ?_, HBE.out⟩
                intro z hz
                rw [HTJ.out] at hz
                rcases List.mem_append.1 hz with hz | hz
                · exact HNE.out z hz
                · rw [List.mem_singleton.1 hz]; exact of_decide_eq_false HEB.out
              case measure => have := HJI.out; simp [intOf]; try omega
          · obtain rfl : j = k := by omega
            have hjI : ¬ (j : Int) < (j : Int) := by omega
            have HIDS := Lib.hid (show id ∉ (ms.take j).map (·.id) from fun hm => by
              obtain ⟨y, hy, he⟩ := List.mem_map.1 hm
              exact hne y hy he)
            obtain ⟨w2, rfl⟩ : ∃ q, q = wr := ⟨_, rfl⟩
            have hqj := (hBj.block _ (blk_lt HQY.out)).trans HQY.out
            have HO2 := Lib.hid (HOy.out.below hBj)
            have HL2 := Lib.hid (HLy.out.below hBj (fun b hb => Nat.lt_of_lt_of_le (HS.out b hb) HBY.out.size))
            have HR2 := Lib.hid (HRy.out.below hBj (fun b hb => Nat.lt_of_lt_of_le (HS.out b hb) HBY.out.size))
            have HB20 := Lib.hid (below_step HBY0.out hBj)
            have hnS : ∀ b, S b → b < w2.heap.size := fun b hb => Nat.lt_of_lt_of_le (HS.out b hb) HBJW.out.size
            have HNS := Lib.hid hnS
            have hC0 : Cells [(⟨bx, 1, none⟩, .slice la L.length lc), (⟨bx, 2, none⟩, .slice ra R.length rc)] w2 := ⟨blk_cell hqj 1, blk_cell hqj 2, trivial⟩
            clear hne hBj hj hji hqj hnS
            go_wp2_with fail
            refine wp_region_T (Cells [(⟨bx, 1, none⟩, .slice la L.length lc), (⟨bx, 2, none⟩, .slice ra R.length rc)]) (fun i => i == 6) (by kernel_rfl) ?_
            have hSss2 := Cells.drew hC0
            have hB_0_s2 : Below w2.heap.size w2 w2.drew := below_drew _
            generalize w2.drew = s2 at hSss2 hB_0_s2 ⊢
            have hB_s2_s2 := Below.refl s2.heap.size s2
            refine wpAnyT_pure (i := 1) (v := ?_) rfl (by kernel_rfl) (by kernel_rfl) (by kernel_rfl) (fun _ _ _ h => h) (by rfl) ?_ ?_
            rotate_left
            · intro w; go_simp; try with_reducible rfl
            simp only [Act.put, rgA, rgB, rgC, rgD, rgE, rgF]
            refine wpAnyT_pure (i := 4) (v := ?_) rfl (by kernel_rfl) (by kernel_rfl) (by kernel_rfl) (fun _ _ _ h => h) (by rfl) ?_ ?_
            rotate_left
            · intro w; go_simp; try with_reducible rfl
            simp only [Act.put, rgA, rgB, rgC, rgD, rgE, rgF]
            refine wpAnyT_loadW (i := 2) (v := ?_) rfl (by kernel_rfl) (by kernel_rfl) (by kernel_rfl) (by kernel_rfl) (by kernel_rfl) (fun _ _ _ h => h) (Or.inl ⟨by rfl, ?_⟩) hSss2 ?_
            rotate_left
            · intro w hSw; obtain ⟨e0, e1, -⟩ := hSw; go_simp; try with_reducible rfl
            simp only [Act.put, rgA, rgB, rgC, rgD, rgE, rgF]
            refine wpAnyT_loadW (i := 5) (v := ?_) rfl (by kernel_rfl) (by kernel_rfl) (by kernel_rfl) (by kernel_rfl) (by kernel_rfl) (fun _ _ _ h => h) (Or.inl ⟨by rfl, ?_⟩) hSss2 ?_
            rotate_left
            · intro w hSw; obtain ⟨e0, e1, -⟩ := hSw; go_simp; try with_reducible rfl
            simp only [Act.put, rgA, rgB, rgC, rgD, rgE, rgF]
            refine wpAnyT_one (i := 0) (by kernel_rfl) rfl (by rfl) ?_
            obtain ⟨b0, hb0⟩ : ∃ b, s2.heap.size = b := ⟨_, rfl⟩
            have hge0 : s2.heap.size ≤ b0 := hb0 ▸ (hB_s2_s2).size
            refine wp_newrow (v := .slice (some ⟨b0, 0, none⟩) 0 0) (cs := #[]) (te := 41) (by rw [← hb0]; go_simp) ?_
            intro w103 hX hN0
            rw [hb0] at hN0
            have hB_s2_w103 := below_step hB_s2_s2 hX
            have hB_w103_w103 := Below.refl w103.heap.size w103
            have hSsw103 := Cells.below hB_s2_w103 hSss2
            clear hX
            refine ⟨fun _ _ => hSsw103, ?_⟩
            try simp only [Act.put, rgA, rgB, rgC, rgD, rgE, rgF]
            refine wpAnyT_one (i := 3) (by kernel_rfl) rfl (by rfl) ?_
            have hq0 := ((hB_w103_w103).block _ (blk_lt hN0)).trans hN0
            have hbq : Below w2.heap.size w2 w103 := hB_0_s2.trans ((hB_s2_w103).mono hB_0_s2.size)
            refine wp_appLit (.tmp 44) (.tmp 46) 37 rfl (e := refT) (te := 41) info_ref Try.underlying37 rfl (by decide) (S := S) (base := s2.heap.size) (b := b0) (by kernel_rfl) hq0 hge0 (sv := .slice la L.length lc) (by kernel_rfl) (ys := L.map R2.d) (HL2.out.below hbq HNS.out) (fun x hx => ⟨by have h1 := HNS.out x hx; have h2 := (hB_0_s2).size; omega, by have h1 := HNS.out x hx; have h2 := hbq.size; omega⟩) (by rw [List.length_map]; omega) (by rw [List.length_map]; omega) ?_
            intro ca3 cl3 cc3 w104 O3' hX
            have HO3 := Lib.hid (Owns.flat (e := refT) rfl O3')
            clear O3' hq0 hbq
            have hB_s2_w104 := below_step hB_s2_w103 hX
            have hB_w103_w104 := below_step hB_w103_w103 hX
            have hB_w104_w104 := Below.refl w104.heap.size w104
            have hSsw104 := Cells.below hB_s2_w104 hSss2
            clear hX
            refine ⟨fun _ _ => hSsw104, ?_⟩
            try simp only [Act.put, rgA, rgB, rgC, rgD, rgE, rgF]
            refine wpAnyT_one (i := 6) (by kernel_rfl) rfl (by rfl) ?_
            have hbq : Below w2.heap.size w2 w104 := hB_0_s2.trans ((hB_s2_w104).mono hB_0_s2.size)
            obtain ⟨news, hsrc, hrl⟩ := (HR2.out.below hbq HNS.out).src
            refine wp_app (.tmp 47) (.tmp 49) 37 rfl (e := refT) (te := 41) info_ref Try.underlying37 rfl (by decide) (base := s2.heap.size) (S := fun _ => False) (v := .slice ca3 cl3 cc3) (xs := L.map R2.d) (by kernel_rfl) (HO3.out.below hB_w104_w104) (hB_s2_w104).size (sv := .slice ra R.length rc) (by kernel_rfl) (ys := R.map R2.d) hsrc (hrl.flat (e := refT) rfl) (by simp only [List.length_map]; omega) (by simp only [List.length_map]; omega) ?_
            intro ca6 cl6 cc6 w105 O6 g6 ob6
            have hX6 : Below s2.heap.size s2 w105 := (hB_s2_w104).grown g6 (hB_s2_w104).size (fun c hc => (HO3.out.own c hc).1)
            have HBA := Lib.hid (show Below w2.heap.size w2 w105 from hB_0_s2.trans (hX6.mono hB_0_s2.size))
            have HOA := Lib.hid (O6.base hB_0_s2.size)
            clear O6 g6 ob6 hrl hsrc hbq hX6
            refine ⟨fun h => absurd h (by decide), ?_⟩
            try simp only [Act.put, rgA, rgB, rgC, rgD, rgE, rgF]
            refine wpAnyT_pure (i := 7) (v := ?_) rfl (by kernel_rfl) (by kernel_rfl) (by kernel_rfl) (fun _ _ _ h => h) (by rfl) ?_ ?_
            rotate_left
            · intro w; go_simp; try with_reducible rfl
            simp only [Act.put, rgA, rgB, rgC, rgD, rgE, rgF]
            refine wpAnyT_done (by kernel_rfl) ?_ _
            obtain ⟨w3, rfl⟩ : ∃ q, q = w105 := ⟨_, rfl⟩
            rw [← List.map_append] at HOA
            obtain ⟨al, hal⟩ : ∃ q, L ++ R = q := ⟨_, rfl⟩
            rw [hal] at HOA
            have HAL := Lib.hid hal
            have hal24 : al.length ≤ 24 := by rw [← hal, List.length_append]; omega
            obtain ⟨_, _, _, he6, hl6, -⟩ := HOA.out.slice
            cases he6
            rw [List.length_map] at hl6
            subst hl6
            have HOU := Lib.hid (HO2.out.below HBA.out)
            have HB30 := Lib.hid (below_step HB20.out HBA.out)
            have HBW3 := Lib.hid (below_step HBJW.out HBA.out)
            clear hal
            go_wp2_with fail
            go_loopw [8] (fun iv wr => ∃ (i : Nat), i ≤ al.length ∧ iv = .int .i64 (i : Int) ∧ (∀ x ∈ al.take i, x ∉ us) ∧ Below w3.heap.size w3 wr) (fun iv _ => al.length - (intOf iv).toNat)
            case atStart => exact ⟨0, Nat.zero_le _, rfl, fun x hx => by simp at hx, Below.refl _ _⟩
            case round =>
              obtain ⟨i, hi, rfl, hnin, hBi⟩ := hrel
              have HNIN := Lib.hid hnin
              have HBI := Lib.hid hBi
              have HBIW := Lib.hid (below_step HBW3.out hBi)
              by_cases hil : i < al.length
              · have hiI : (i : Int) < (al.length : Int) := by omega
                have hOA3 := HOA.out.below hBi
                obtain ⟨b, o, hae, -, q0, q1, -⟩ := ref_at (hOA3.rd (fun b => b < wr.heap.size) (fun _ h => h.elim) (fun b e => (hOA3.own b e).2)) i hil
                cases hae
                have HTI := Lib.hid (List.take_succ_eq_append_getElem hil)
                have HIL := Lib.hid hil
                have HMEM := Lib.hid (show al[i] ∈ al from List.getElem_mem hil)
                generalize al[i] = z at q0 q1 HTI HMEM
                obtain ⟨xe, xl⟩ := z
                simp only at q0 q1
                obtain ⟨sb, hsb⟩ : ∃ q, decide ((⟨xe, xl⟩ : R2) ∈ us) = q := ⟨_, rfl⟩
                have hU3 := HOU.out.below hBi
                have HIN := Lib.hid (in28 (S := fun b => b < wr.heap.size) wr av cv us ⟨xe, xl⟩ (hU3.rd _ (fun _ h => h.elim) (fun b hb => (hU3.own b hb).2)) (fun b hb => hb))
                rw [hsb] at HIN
                have HSB := Lib.hid hsb
                clear hnin hBi hi hil hOA3 hU3 hsb
                go_wp2_with fail
                refine HIN.out.mono ?_
                rintro e wE ⟨rfl, hBE⟩
                have HBE := Lib.hid (below_step HBI.out hBE)
                clear hBE q0 q1
                cases sb with
                | true =>
                  have HF := Lib.hid (show ab = false from by
                    cases hab : ab with
                    | false => rfl
                    | true =>
                      have h5 := (allB_snoc.1 (HSN.out hab)).2.2.2.2
                      simp only at h5
                      rw [HAL.out, HUS.out] at h5
                      exact absurd (of_decide_eq_true HSB.out) (h5 _ HMEM.out))
                  go_wp2_with fail
                  go_ret
                  exact ⟨by rw [HF.out]; rfl, below_step HBW3.out HBE.out⟩
                | false =>
                  go_wp2_with fail
                  go_roundw
                  case rel =>
                    refine ⟨i + 1, HIL.out, by go_num, ?_, HBE.out⟩
                    intro y hy
                    rw [HTI.out] at hy
                    rcases List.mem_append.1 hy with hy | hy
                    · exact HNIN.out y hy
                    · rw [List.mem_singleton.1 hy]; exact of_decide_eq_false HSB.out
                  case measure => have := HIL.out; simp [intOf]; try omega
              · obtain rfl : i = al.length := by omega
                have hiI : ¬ ((al.length : Nat) : Int) < (al.length : Int) := by omega
                have HOUi := Lib.hid (HOU.out.below hBi)
                have hOAi := HOA.out.below hBi
                have HOAi := Lib.hid (hOAi.rd (fun b => b < wr.heap.size) (fun _ h => h.elim) (fun b e => (hOAi.own b e).2))
                have HB40 := Lib.hid (below_step HB30.out hBi)
                clear hnin hBi hi hil hOAi
                go_wp2_with (at_builtin; obtain ⟨news, hsrc, hrl⟩ := HOAi.out.src; go_must (refine wpList_app _ rfl _ _ 37 rfl (e := refT) (te := 41) info_ref Try.underlying37 rfl (by decide) (v := .slice av us.length cv) rfl HOUi.out HB40.out.size rfl hsrc (hrl.flat (e := refT) rfl) (by have := HRLN.out; simp only [List.length_map]; omega) (by have := HRLN.out; simp only [List.length_map]; omega) ?_); intro v' wF O1 g1 _ hob; obtain ⟨aF, lF, cF, rfl, hlF, -⟩ := O1.slice; have HO1 := Lib.hid O1; have HLF := Lib.hid hlF; have HB50 := Lib.hid (HB40.out.grown g1 HB40.out.size (fun c hc => (HOUi.out.own c hc).1)); clear O1 g1 hob hsrc hrl hlF)
                go_roundw
                case rel =>
                  have hre : refsA (ms.take (j + 1)) = us ++ al := by rw [HTK.out, refsA_snoc, HUS.out]; simp only; rw [HAL.out]
                  refine ⟨j + 1, aF, cF, HKL.out, by go_num, ?_, ?_, ?_, HB50.out⟩
                  · rw [hre, HLF.out]; simp
                  · have h := HO1.out
                    rw [← List.map_append, ← hre, HLF.out] at h
                    rw [show (us.map R2.d ++ al.map R2.d).length = (refsA (ms.take (j + 1))).length from by rw [hre]; simp] at h
                    exact h
                  · rw [HTK.out, allB_snoc]
                    refine ⟨HALL.out, HOKM.out, HIDS.out, HNDM.out, ?_⟩
                    simp only
                    rw [HAL.out, HUS.out]
                    have h7 := HNIN.out
                    rw [List.take_length] at h7
                    exact h7
                case measure => have := HKL.out; simp [intOf]; try omega
    · obtain rfl : k = ms.length := by omega
      have hkI : ¬ ((ms.length : Nat) : Int) < (ms.length : Int) := by omega
      have HT := Lib.hid (show ab = true from by rw [← HAB.out]; have h := HALL.out; rwa [List.take_length] at h)
      have h300 : (ms.length : Int) ≤ 300 := by omega
      clear hkl hk
      go_wp2_with fail
      go_ret
      exact ⟨by rw [HT.out]; rfl, HBW.out⟩
end Go.Proofs.Ytpobckedeffjmaa

/- Layer 28: MatchAllValid. -/
set_option linter.unusedSimpArgs false
set_option maxRecDepth 50000
namespace Go.Proofs.Ytpobckedeffjmaa
open Go.RowKit Go

theorem sidesM_st {es : List En} {L R : List R2} {st st' : Int} (h : (sidesM es L R st).2.2 = 0) (h1 : 1 ≤ st') (h5 : st' ≤ 5) : (sidesM es L R st').2.2 = 0 := by
  unfold sidesM at h ⊢
  cases hl : entP es L with
  | none => rw [hl] at h; cases h
  | some p =>
    rw [hl] at h
    cases hr : entP es R with
    | none => rw [hr] at h; cases h
    | some q =>
      rw [hr] at h
      simp only at h ⊢
      split at h
      · rename_i hc
        rw [if_pos ⟨hc.1, hc.2.1, hc.2.2.1, h1, h5, hc.2.2.2.2.2⟩]
      · cases h
theorem allB_erase {es : List En} {ms : List M4} (h : allB es ms = true) {k : Nat} (hk : k < ms.length) : allB es (ms.take k ++ ms.drop (k + 1)) = true := by
  have hs : ms = ms.take k ++ ms[k] :: ms.drop (k + 1) := by rw [← List.drop_eq_getElem_cons hk, List.take_append_drop]
  rw [allB_iff] at h ⊢
  obtain ⟨h1, h2, h3⟩ := h
  have hsub : (ms.take k ++ ms.drop (k + 1)).Sublist ms := by
    conv => rhs; rw [hs]
    exact (List.Sublist.refl _).append (List.sublist_cons_self _ _)
  refine ⟨fun m hm => h1 m (hsub.subset hm), h2.sublist (hsub.map _), ?_⟩
  rw [hs] at h3
  unfold refsA at h3 ⊢
  rw [List.flatMap_append, List.flatMap_cons] at h3
  rw [List.flatMap_append]
  exact h3.sublist ((List.Sublist.refl _).append (List.sublist_append_right _ _))
theorem allB_state {es : List En} {ms : List M4} (h : allB es ms = true) {k : Nat} (hk : k < ms.length) {s : Int} (h1 : 1 ≤ s) (h5 : s ≤ 5) : allB es (ms.set k ⟨ms[k].id, ms[k].l, ms[k].r, s⟩) = true := by
  rw [allB_iff] at h ⊢
  obtain ⟨g1, g2, g3⟩ := h
  have hid : (ms.set k ⟨ms[k].id, ms[k].l, ms[k].r, s⟩).map (·.id) = ms.map (·.id) := by
    refine List.ext_getElem (by simp) fun i a b => ?_
    simp only [List.getElem_map, List.getElem_set]
    split
    · rename_i e; subst e; rfl
    · rfl
  have hrf : refsA (ms.set k ⟨ms[k].id, ms[k].l, ms[k].r, s⟩) = refsA ms := by
    unfold refsA
    rw [List.flatMap_def, List.flatMap_def]
    congr 1
    refine List.ext_getElem (by simp) fun i a b => ?_
    simp only [List.getElem_map, List.getElem_set]
    split
    · rename_i e; subst e; rfl
    · rfl
  refine ⟨fun m hm => ?_, by rw [hid]; exact g2, by rw [hrf]; exact g3⟩
  obtain ⟨i, hi, rfl⟩ := List.mem_iff_getElem.1 hm
  rw [List.getElem_set]
  split
  · rename_i e
    subst e
    have := g1 ms[k] (List.getElem_mem hk)
    unfold okM at this ⊢
    rw [Bool.and_eq_true] at this ⊢
    exact ⟨this.1, decide_eq_true (sidesM_st (of_decide_eq_true this.2) h1 h5)⟩
  · exact g1 _ (List.getElem_mem _)
theorem info_match : (Try.prog.info? 67).map (fun i => (i.zero, i.size, i.bytes)) = some (some (.agg #[.int .i64 0, .slice none 0 0, .slice none 0 0, .int .i64 0]), matchT.sz, 64) := by kernel_rfl
abbrev bk0 : Array Value := #[.string ⟨#[]⟩, .int .i64 0, .int .i64 0, .int .i64 0, .slice none 0 0, .int .i64 0, .int .i64 0, .int .i64 0, .int .i64 0, .int .i64 0, .int .i64 0, .int .i64 0, .int .i64 0, .int .i64 0, .int .i64 0, .int .i64 0, .int .i64 0, .int .i64 0, .int .i64 0, .int .i64 0, .slice none 0 0, .slice none 0 0, .slice none 0 0, .slice none 0 0, .slice none 0 0, .slice none 0 0, .string ⟨#[]⟩]
end Go.Proofs.Ytpobckedeffjmaa

/- Layer 28: one match's state is set in a row of the call's own. -/
set_option linter.unusedSimpArgs false
namespace Go.Proofs.Ytpobckedeffjmaa
open Go.RowKit Go

/-- What a row of matches holds, with the parts that are needed for a store of a state. -/
theorem own_state {te : TypeId} {base : Nat} {S : Nat → Prop} {w : World} {ca : Option Addr} {cl cc : Nat} {ms : List M4} (h : Owns matchT te base S w (.slice ca cl cc) (ms.map M4.d)) {k : Nat} (hk : k < ms.length) :
    ∃ g, ca = some ⟨g, 0, none⟩ ∧ cl = ms.length ∧ base ≤ g ∧ ms.length ≤ cc ∧ cc ≤ 9223372036854775807 ∧ (∃ cur, w.heap[g]? = some (.cells cur te (0, 0))) ∧ (∃ u, w.cell? ⟨g, k * 4 + 3, none⟩ = some u) ∧
      ∀ (st : Int) (_ : 1 ≤ st ∧ st ≤ 5) (T : Nat → Prop), (∀ b, S b → T b) → T g →
        Rd (.sl matchT) T (w.setCell ⟨g, k * 4 + 3, none⟩ (.int .i64 st)) [.slice (some ⟨g, 0, none⟩) ms.length cc] ((ms.set k ⟨ms[k].id, ms[k].l, ms[k].r, st⟩).map M4.d) := by
  obtain ⟨vs, ho, hr, hS⟩ := h
  rcases ho.2 with ⟨hn, h0⟩ | ⟨g, cap, cur, hv, hb, hg, h1, h2, h3, h4⟩
  · rw [List.length_map] at h0; omega
  simp only [Value.slice.injEq] at hv
  obtain ⟨rfl, rfl, rfl⟩ := hv
  have hvl : vs.length = ms.length * 4 := by have := hr.len; rw [List.length_map] at this; exact this
  have hcell : ∀ j u, vs[j]? = some u → w.cell? ⟨g, j, none⟩ = some u := by
    intro j u hu
    rw [← h4] at hu
    rw [blk_cell hg j]
    rw [List.getElem?_take] at hu
    split at hu
    · simpa using hu
    · cases hu
  have hgS : ∀ b, S b → b ≠ g := fun b hb e => (hS b hb).1 (by rw [e]; rfl)
  rw [List.length_map] at h1
  refine ⟨g, rfl, by simp, hb, h1, by simpa [maxLen] using h2, ⟨cur, hg⟩, ⟨vs[k * 4 + 3]'(by omega), hcell _ _ (List.getElem?_eq_getElem _)⟩, ?_⟩
  intro st hst T hST hTg
  have hlen : List.length ((ms.set k ⟨ms[k].id, ms[k].l, ms[k].r, st⟩).map M4.d) = ms.length := by simp
  refine ⟨_, _, _, rfl, hlen, h1, by simpa [maxLen] using h2, .inr ⟨g, 0, rfl, hTg, fun i hi => ?_⟩⟩
  have hi' : i < ms.length := by rw [hlen] at hi; exact hi
  obtain ⟨c, hc, hcc, hrd⟩ := hr.at_ i (by rw [List.length_map]; exact hi')
  have hkeep : ∀ b, S b → (w.setCell ⟨g, k * 4 + 3, none⟩ (.int .i64 st)).heap[b]? = w.heap[b]? := fun b hb => heap_setCell_other w ⟨g, k * 4 + 3, none⟩ b _ (hgS b hb)
  have hother : ∀ (j : Nat) (u : Value), c[j]? = some u → i * 4 + j ≠ k * 4 + 3 → (w.setCell ⟨g, k * 4 + 3, none⟩ (.int .i64 st)).cell? ⟨g, 0 + i * matchT.sz + j, none⟩ = some u := by
    intro j u hu hne
    have e1 : 0 + i * matchT.sz + j = i * 4 + j := by show 0 + i * 4 + j = _; omega
    rw [e1, World.cell?_setCell_other w _ _ _ (by intro e; simp only [Addr.mk.injEq] at e; exact hne e.2.1.symm)]
    exact hcell _ _ (hcc j u hu)
  rw [List.getElem_map] at hrd
  have hc4 : c.length = 4 := hc
  by_cases hik : i = k
  · subst hik
    have hx : List.get (α := matchT.den) ((ms.set i ⟨ms[i].id, ms[i].l, ms[i].r, st⟩).map M4.d) ⟨i, hi⟩ = M4.d ⟨ms[i].id, ms[i].l, ms[i].r, st⟩ := by
      simp
    rw [hx]
    obtain ⟨c1, d1, e1, r1, c2, d2, e2, r2, c3, d3, e3, r3, c4, d4, e4, r4, r5⟩ := hrd
    obtain ⟨rfl, hw1⟩ := r1
    obtain ⟨rfl, hw4⟩ := r4
    cases r5
    have l2 : c2.length = 1 := r2.len
    have l3 : c3.length = 1 := r3.len
    obtain ⟨v2, rfl⟩ := List.length_eq_one_iff.1 l2
    obtain ⟨v3, rfl⟩ := List.length_eq_one_iff.1 l3
    subst e4 e3 e2 e1
    refine ⟨[.int .i64 ms[i].id, v2, v3, .int .i64 st], rfl, ?_, ⟨[.int .i64 ms[i].id], [v2, v3, .int .i64 st], rfl, ⟨rfl, hw1⟩, [v2], [v3, .int .i64 st], rfl, r2.keep hkeep hST, [v3], [.int .i64 st], rfl, r3.keep hkeep hST, [.int .i64 st], [], rfl, ⟨rfl, ?_⟩, rfl⟩⟩
    · intro j u hu
      match j with
      | 0 => exact hother 0 u hu (by omega)
      | 1 => exact hother 1 u hu (by omega)
      | 2 => exact hother 2 u hu (by omega)
      | 3 =>
        have e1 : 0 + i * matchT.sz + 3 = i * 4 + 3 := by show 0 + i * 4 + 3 = _; omega
        rw [e1, World.cell?_setCell_same w _ _ (hcell (i * 4 + 3) _ (hcc 3 _ rfl))]
        exact hu
      | j + 4 => cases hu
    · have h5 := hst.1; have h6 := hst.2; simp only [M4.d]; simp [Lit.wf, IntKind.min, IntKind.max, IntKind.signed, IntKind.bits]; omega
  · have hx : List.get (α := matchT.den) ((ms.set k ⟨ms[k].id, ms[k].l, ms[k].r, st⟩).map M4.d) ⟨i, hi⟩ = M4.d ms[i] := by
      simp [List.getElem_set]
      intro e
      exact absurd e.symm hik
    rw [hx]
    refine ⟨c, hc, fun j u hu => ?_, hrd.keep hkeep hST⟩
    have hj := (List.getElem?_eq_some_iff.1 hu).1
    exact hother j u hu (by omega)
theorem Bk.put {S T : Nat → Prop} {W : World} {bs : Array Value} {es : List En} {ms ms' : List M4} (h : Bk S W bs es ms) (hST : ∀ b, S b → T b) (a : Option Addr) (l c : Nat) (hl : l = ms'.length) (hm : Rd (.sl matchT) T W [.slice a l c] (ms'.map M4.d)) :
    Bk T W (bs.setIfInBounds 24 (.slice a l c)) es ms' := by
  subst hl
  obtain ⟨h0, ⟨a1, c1, h1, h2⟩, -⟩ := h
  refine ⟨by rw [Array.size_setIfInBounds]; exact h0, ⟨a1, c1, by rw [Array.getElem?_setIfInBounds_ne (by decide)]; exact h1, h2.keep (fun _ _ => rfl) hST⟩, a, c, ?_, hm⟩
  rw [Array.getElem?_setIfInBounds_self_of_lt (by omega)]
end Go.Proofs.Ytpobckedeffjmaa
