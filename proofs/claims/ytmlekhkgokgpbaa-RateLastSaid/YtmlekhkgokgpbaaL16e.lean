/- Layer 16: the law RateLast. -/
import Derived.Test.YtmlekhkgokgpbaaC16y
import Derived.Test.YtmlekhkgokgpbaaL16c
import Derived.Test.YtmlekhkgokgpbaaP16e
set_option linter.unusedSimpArgs false
namespace Go.Proofs.Ytmlekhkgokgpbaa
open Go.RowKit Go
set_option maxRecDepth 20000 in
set_option maxHeartbeats 500000 in
theorem lastWalk16 (w : World) (c0 : List Value) (g : Ty.den .str) (r0 : Rd .str (fun b => b < w.heap.size) w c0 g) (c1 : List Value) (xs : (Ty.sl rateT).den) (r1 : Rd (.sl rateT) (fun b => b < w.heap.size) w c1 xs) :
    Calls Try.prog 6 #[valOf .str c0, valOf (.sl rateT) c1] w fun e w' => e = .returned (.bool true) ∧ Below w.heap.size w w' := by
  obtain ⟨rfl, hg⟩ := r0
  obtain ⟨a, len, cap, rfl, hl, hlc, hcm, -⟩ := id r1
  change List rateT.den at xs
  change ByteArray at g
  simp only [valOf, List.headD_cons]
  have R1 := Lib.hid r1
  have HL := Lib.hid (show xs.length = len from hl)
  have HGS := Lib.hid hg
  clear r1 hl hg
  obtain ⟨fb, hfb⟩ : ∃ fb, fewR g xs = fb := ⟨_, rfl⟩
  have hfew := fun W (hB : Below w.heap.size w W) => few16_sum W g a len cap xs (R1.out.alloc hB)
  rw [hfb] at hfew
  have HFEW := Lib.hid hfew
  have HFB := Lib.hid hfb
  clear hfew hfb
  cases fb
  · go_enter Try.func6, Try.ntmps6
    go_wp2_with (first | (go_at_call 11; refine (awake16_sum _).mono ?_; rintro e w1 ⟨rfl, hB1⟩) | (go_at_call 12; refine (HFEW.out _ hB1).mono ?_; rintro e w2 ⟨rfl, hw2⟩; subst hw2))
    go_ret
    exact ⟨rfl, hB1⟩
  obtain ⟨hg20, hl200, -⟩ := few_len HFB.out
  obtain ⟨cb, hcb⟩ : ∃ cb, curB g = cb := ⟨_, rfl⟩
  have hlen200 : len ≤ 200 := by have := HL.out; omega
  have HCB := Lib.hid hcb
  clear hl200 hcb
  cases cb
  · go_enter Try.func6, Try.ntmps6
    go_wp2_with (first | (go_at_call 11; refine (awake16_sum _).mono ?_; rintro e w1 ⟨rfl, hB1⟩) | (go_at_call 12; refine (HFEW.out _ hB1).mono ?_; rintro e w2 ⟨rfl, hw2⟩; subst hw2) | (go_at_call 13; refine (New_bad _ g HGS.out HCB.out).mono ?_; rintro e w3 ⟨rfl, hB3⟩; replace hB3 := below_step hB1 hB3))
    go_ret
    exact ⟨rfl, hB3⟩
  obtain ⟨t, ht⟩ : ∃ t, tb0.setAll g xs = t := ⟨_, rfl⟩
  obtain ⟨zs, hzs⟩ := TbOk.setAll (xs := xs) g TbOk.zero (keys_ok R1.out)
  have hl1000 : xs.length ≤ 1000 := by have := HL.out; omega
  have hlv := list_valid hl1000 HCB.out hzs
  have hlast := fun k (hk : k ∈ zs) => lastR_row hl1000 hzs hk
  have htm := Tb.setAll_m g xs tb0
  have hth := Tb.setAll_hs g xs tb0
  have hmh := setAll_m_hs g xs hl1000
  rw [ht] at hlv hlast htm hth hzs hmh
  have htz : tb0.m = 0 := rfl
  have hhz : tb0.hs.length = 0 := rfl
  have htl : t.m ≤ 200 ∧ t.hs.length ≤ 200 := by have := HL.out; omega
  have HT := Lib.hid ht
  have HLV := Lib.hid hlv
  have HTL := Lib.hid (fun F W p (h : TabT F W p g t) => List_tb F W p g t zs hzs h (by omega))
  have HTH := Lib.hid (fun F W p (h : TabT F W p g t) => History_sum F W p g t h (by omega))
  have HZ := Lib.hid (show (rowsOf t.f zs).length = zs.length ∧ zs.length ≤ 200 ∧ zs.length ≤ t.hs.length by rw [rowsOf, List.length_map]; have := hzs.2; omega)
  have HPW := Lib.hid hzs.1.1
  have HLAST := Lib.hid hlast
  have HTL2 := Lib.hid htl
  clear ht hlv hlast hzs htl htm hth hmh htz hhz hl1000
  go_enter Try.func6, Try.ntmps6
  go_wp2_with (first
    | (go_at_call 11; refine (awake16_sum _).mono ?_; rintro e w1 ⟨rfl, hB1⟩)
    | (go_at_call 12; refine (HFEW.out _ hB1).mono ?_; rintro e w2 ⟨rfl, hw2⟩; subst hw2)
    | (go_at_call 13; refine (New_ok _ g HGS.out HCB.out).mono ?_; rintro e w3 ⟨p, F, rfl, hT3, hF3, hB13⟩; have HT3 := Lib.hid (show TabT F w3 p g tb0 from hT3); have HF3 := Lib.hid (show ∀ b, F b → w.heap.size ≤ b from fun b hb => Nat.le_trans hB1.size (hF3 b hb)); have hB3 := below_step hB1 hB13; clear hT3 hF3 hB13)
    | (go_at_call 18; refine (set16_sum F (fun b => b < w.heap.size) _ p g tb0 HT3.out a len cap xs (R1.out.below hB3 (fun _ h => h)) (fun b hb => ⟨Nat.lt_of_lt_of_le hb hB3.size, fun h => by have := HF3.out b h; omega⟩) (by have h0 : tb0.m = 0 := rfl; omega)).mono ?_; rintro e w5 ⟨rfl, F5, hT5, hF5, hG5⟩; rw [HT.out] at hT5; have HT5 := Lib.hid hT5; have hB5 := hB3.trans (hG5.below HF3.out hB3.size); clear hT5 hF5 hG5)
    | (go_at_call 22; refine (HTL.out _ _ _ HT5.out).mono ?_; rintro e w7 ⟨v7, rfl, hO7, hB57⟩; obtain ⟨a7, l7, c7, rfl, hl7, -, -⟩ := hO7.slice; have HO7 := Lib.hid hO7; have HL7 := Lib.hid (show l7 = zs.length ∧ l7 ≤ 200 by have := HZ.out; omega); have HT7 := Lib.hid (TabIn.below HT5.out hB57); have hB7 := below_step hB5 hB57; clear hO7 hl7)
    | (go_at_call 23; refine (HTH.out _ _ _ HT7.out).mono ?_; rintro e w8 ⟨v8, rfl, hB78, hO8⟩; obtain ⟨a8, l8, c8, rfl, hl8, -, -⟩ := hO8.slice; have HO8 := Lib.hid hO8; have HL8 := Lib.hid (show l8 = t.hs.length ∧ l8 ≤ 200 by have := HTL2.out; omega); have HO78 := Lib.hid (HO7.out.below hB78); have hB8 := below_step hB7 hB78; clear hO8 hl8)
    | (go_at_call 24; refine (Valid_sum _ g a7 l7 c7 (rowsOf t.f zs) (rdOwn HO78.out) (fun _ h => h) HGS.out (by have := HL7.out; omega)).mono ?_; rw [HLV.out]; rintro e w9 ⟨rfl, hB89⟩; have HC9 := Lib.hid (rdOwn (HO78.out.below hB89)); have HH9 := Lib.hid (rdOwn (HO8.out.below hB89)); have hB9 := below_step hB8 hB89))
  clear HO7 HO8 HO78 HT7 HT5 HT3
  have hl7b := HL7.out.2
  have hl8b := HL8.out.2
  go_loopw [9] (fun i wr => ∃ (k : Nat), k ≤ l7 ∧ i = .int .i64 k ∧ Below w9.heap.size w9 wr) (fun i _ => l7 - (intOf i).toNat)
  case atStart => exact ⟨0, Nat.zero_le _, rfl, Below.refl _ _⟩
  case round =>
    obtain ⟨k, hk, rfl, hBr⟩ := hrel
    by_cases hlt : k < l7
    · have hkz : k < zs.length := by have := HL7.out; omega
      have hkr : k < (rowsOf t.f zs).length := by have := HZ.out; omega
      have hrow : (rowsOf t.f zs)[k] = rowR t.f zs[k] := rows_at t.f zs k hkr hkz
      obtain ⟨b7, o7, rfl, hb7, k0, k1, k2, k3, -⟩ := rate_at (HC9.out.alloc hBr) k hkr
      have hb79 : b7 < w9.heap.size := by
        obtain ⟨b', off', e, hb', -⟩ := rate_at HC9.out k hkr
        cases e
        exact hb'
      rw [hrow] at k0 k1 k2 k3
      have hla := HLAST.out zs[k] (List.getElem_mem hkz)
      have hkk : (rt (rowR t.f zs[k])).k = zs[k] := rfl
      have hbef : ∀ k', k = k' + 1 → ∀ (h' : k' < (rowsOf t.f zs).length), beforeK (rt (rowsOf t.f zs)[k']) (rt (rowR t.f zs[k])) = true := fun k' e h' => by
        subst e
        have h'' : k' < zs.length := by have := HZ.out; omega
        rw [beforeK_dec, decide_eq_true_iff]
        rw [rows_at t.f zs k' h' h'']
        exact (List.pairwise_iff_getElem.1 HPW.out) k' (k' + 1) h'' hkz (by omega)
      generalize zs[k] = zk at *
      generalize rt (rowR t.f zk) = cr at *
      obtain ⟨cc, ck, cw, cv⟩ := cr
      subst hkk
      simp only at k0 k1 k2 k3
      have hK9 : Cells [(⟨b7, o7 + k * 4, none⟩, .string cc), (⟨b7, o7 + k * 4 + 1, none⟩, .int .i64 ck), (⟨b7, o7 + k * 4 + 2, none⟩, .int .i64 cw), (⟨b7, o7 + k * 4 + 3, none⟩, .int .i64 cv)] w9 := ⟨(hBr.cell (p := ⟨b7, o7 + k * 4, none⟩) hb79).symm.trans k0, (hBr.cell (p := ⟨b7, o7 + k * 4 + 1, none⟩) hb79).symm.trans k1, (hBr.cell (p := ⟨b7, o7 + k * 4 + 2, none⟩) hb79).symm.trans k2, (hBr.cell (p := ⟨b7, o7 + k * 4 + 3, none⟩) hb79).symm.trans k3, trivial⟩
      have HK9 := Lib.hid hK9
      clear hK9
      have HLA := Lib.hid hla
      have HBEF := Lib.hid hbef
      have HBR := Lib.hid hBr
      have HLT := Lib.hid hlt
      have hrs := hBr.size
      have hkI : (k : Int) < (l7 : Int) := by omega
      clear hla hbef hrow hBr hb7 hkz hkr
      go_wp2_with fail
      refine wp_cut [44, 45, 46, 47, 48, 49, 50, 51, 52, 53, 54, 55, 56, 57, 58] (fun vs w' => (∃ v44 v45 v46 v47 v48 v49 v50 v51 v52 v53 v54 v55 v56 v57, vs = [v44, v45, v46, v47, v48, v49, v50, v51, v52, v53, v54, v55, v56, v57, .bool false]) ∧ Below w9.heap.size w9 w') ?_ ?_
      · cases k with
        | zero =>
          have hC0 : Cells [] wr := trivial
          refine wp_region_T (Cells []) (fun _ => false) (by kernel_rfl) ?_
          have hSss1 := Cells.drew hC0
          have hB_0_s1 : Below wr.heap.size wr wr.drew := below_drew _
          generalize wr.drew = s1 at hSss1 hB_0_s1 ⊢
          have hB_s1_s1 := Below.refl s1.heap.size s1
          refine wpAnyT_pure (i := 0) (v := ?_) rfl (by kernel_rfl) (by kernel_rfl) (by kernel_rfl) (fun _ _ _ h => h) (by rfl) ?_ ?_
          rotate_left
          · intro w; go_simp; try with_reducible rfl
          simp only [Act.put, List.setIfInBounds_toArray, List.set_cons_zero, List.set_cons_succ, List.getElem_toArray, List.getElem_cons_succ, List.getElem_cons_zero]
          refine wpAnyT_pure (i := 1) (v := ?_) rfl (by kernel_rfl) (by kernel_rfl) (by kernel_rfl) (fun _ _ _ h => h) (by rfl) ?_ ?_
          rotate_left
          · intro w; go_simp; try with_reducible rfl
          simp only [Act.put, List.setIfInBounds_toArray, List.set_cons_zero, List.set_cons_succ, List.getElem_toArray, List.getElem_cons_succ, List.getElem_cons_zero]
          refine wpAnyT_pure (i := 2) (v := ?_) rfl (by kernel_rfl) (by kernel_rfl) (by kernel_rfl) (fun _ _ _ h => h) (by rfl) ?_ ?_
          rotate_left
          · intro w; go_simp; try with_reducible rfl
          simp only [Act.put, List.setIfInBounds_toArray, List.set_cons_zero, List.set_cons_succ, List.getElem_toArray, List.getElem_cons_succ, List.getElem_cons_zero]
          refine wpAnyT_skip (i := 3) rfl (by kernel_rfl) (by kernel_rfl) (by kernel_rfl) (fun _ _ _ h => h) (by rfl) ?_
          simp only [Act.put, List.setIfInBounds_toArray, List.set_cons_zero, List.set_cons_succ, List.getElem_toArray, List.getElem_cons_succ, List.getElem_cons_zero]
          refine wpAnyT_skip (i := 4) rfl (by kernel_rfl) (by kernel_rfl) (by kernel_rfl) (fun _ _ _ h => h) (by rfl) ?_
          simp only [Act.put, List.setIfInBounds_toArray, List.set_cons_zero, List.set_cons_succ, List.getElem_toArray, List.getElem_cons_succ, List.getElem_cons_zero]
          refine wpAnyT_skip (i := 5) rfl (by kernel_rfl) (by kernel_rfl) (by kernel_rfl) (fun _ _ _ h => h) (by rfl) ?_
          simp only [Act.put, List.setIfInBounds_toArray, List.set_cons_zero, List.set_cons_succ, List.getElem_toArray, List.getElem_cons_succ, List.getElem_cons_zero]
          refine wpAnyT_skip (i := 6) rfl (by kernel_rfl) (by kernel_rfl) (by kernel_rfl) (fun _ _ _ h => h) (by rfl) ?_
          simp only [Act.put, List.setIfInBounds_toArray, List.set_cons_zero, List.set_cons_succ, List.getElem_toArray, List.getElem_cons_succ, List.getElem_cons_zero]
          refine wpAnyT_skip (i := 7) rfl (by kernel_rfl) (by kernel_rfl) (by kernel_rfl) (fun _ _ _ h => h) (by rfl) ?_
          simp only [Act.put, List.setIfInBounds_toArray, List.set_cons_zero, List.set_cons_succ, List.getElem_toArray, List.getElem_cons_succ, List.getElem_cons_zero]
          refine wpAnyT_skip (i := 8) rfl (by kernel_rfl) (by kernel_rfl) (by kernel_rfl) (fun _ _ _ h => h) (by rfl) ?_
          simp only [Act.put, List.setIfInBounds_toArray, List.set_cons_zero, List.set_cons_succ, List.getElem_toArray, List.getElem_cons_succ, List.getElem_cons_zero]
          refine wpAnyT_skip (i := 9) rfl (by kernel_rfl) (by kernel_rfl) (by kernel_rfl) (fun _ _ _ h => h) (by rfl) ?_
          simp only [Act.put, List.setIfInBounds_toArray, List.set_cons_zero, List.set_cons_succ, List.getElem_toArray, List.getElem_cons_succ, List.getElem_cons_zero]
          refine wpAnyT_skip (i := 10) rfl (by kernel_rfl) (by kernel_rfl) (by kernel_rfl) (fun _ _ _ h => h) (by rfl) ?_
          simp only [Act.put, List.setIfInBounds_toArray, List.set_cons_zero, List.set_cons_succ, List.getElem_toArray, List.getElem_cons_succ, List.getElem_cons_zero]
          refine wpAnyT_skip (i := 11) rfl (by kernel_rfl) (by kernel_rfl) (by kernel_rfl) (fun _ _ _ h => h) (by rfl) ?_
          simp only [Act.put, List.setIfInBounds_toArray, List.set_cons_zero, List.set_cons_succ, List.getElem_toArray, List.getElem_cons_succ, List.getElem_cons_zero]
          refine wpAnyT_skip (i := 12) rfl (by kernel_rfl) (by kernel_rfl) (by kernel_rfl) (fun _ _ _ h => h) (by rfl) ?_
          simp only [Act.put, List.setIfInBounds_toArray, List.set_cons_zero, List.set_cons_succ, List.getElem_toArray, List.getElem_cons_succ, List.getElem_cons_zero]
          refine wpAnyT_skip (i := 13) rfl (by kernel_rfl) (by kernel_rfl) (by kernel_rfl) (fun _ _ _ h => h) (by rfl) ?_
          simp only [Act.put, List.setIfInBounds_toArray, List.set_cons_zero, List.set_cons_succ, List.getElem_toArray, List.getElem_cons_succ, List.getElem_cons_zero]
          refine wpAnyT_pure (i := 14) (v := ?_) rfl (by kernel_rfl) (by kernel_rfl) (by kernel_rfl) (fun _ _ _ h => h) (by rfl) ?_ ?_
          rotate_left
          · intro w; go_simp; try with_reducible rfl
          simp only [Act.put, List.setIfInBounds_toArray, List.set_cons_zero, List.set_cons_succ, List.getElem_toArray, List.getElem_cons_succ, List.getElem_cons_zero]
          refine wpAnyT_done (by kernel_rfl) ?_ _
          refine cut_leaf ?_ ?_
          focus kernel_rfl
          exact ⟨⟨_, _, _, _, _, _, _, _, _, _, _, _, _, _, rfl⟩, below_step HBR.out (below_step hB_0_s1 hB_s1_s1)⟩
        | succ k' =>
          have hkr' : k' < (rowsOf t.f zs).length := by have := HZ.out; have := HL7.out; omega
          obtain ⟨b', o', e', hb', m0, m1, m2, m3, -⟩ := rate_at (HC9.out.alloc HBR.out) k' hkr'
          have hbf := HBEF.out k' rfl hkr'
          generalize rt (rowsOf t.f zs)[k'] = pr at m0 m1 m2 m3 hbf
          obtain ⟨pc, pk, pw, pv⟩ := pr
          simp only [Option.some.injEq, Addr.mk.injEq, and_true] at e' m0 m1 m2 m3
          obtain ⟨rfl, rfl⟩ := e'
          have hbs := fun W => before_sum W ⟨pc, pk, pw, pv⟩ ⟨cc, ck, cw, cv⟩
          rw [hbf] at hbs
          unfold Rt.v rateV at hbs
          have HBS := Lib.hid hbs
          clear hbs hbf hb'
          have hC0 : Cells [(⟨b7, o7 + k' * 4, none⟩, .string pc), (⟨b7, o7 + k' * 4 + 1, none⟩, .int .i64 pk), (⟨b7, o7 + k' * 4 + 2, none⟩, .int .i64 pw), (⟨b7, o7 + k' * 4 + 3, none⟩, .int .i64 pv), (⟨b7, o7 + (k' + 1) * 4, none⟩, .string cc), (⟨b7, o7 + (k' + 1) * 4 + 1, none⟩, .int .i64 ck), (⟨b7, o7 + (k' + 1) * 4 + 2, none⟩, .int .i64 cw), (⟨b7, o7 + (k' + 1) * 4 + 3, none⟩, .int .i64 cv)] wr := ⟨m0, m1, m2, m3, k0, k1, k2, k3, trivial⟩
          have hk2 : (0 : Int) ≤ (k' : Int) + 1 := by omega
          have hk3 : (k' : Int) + 1 < (l7 : Int) := by omega
          have hk4 : k' < l7 := by omega
          have hwr : IntKind.i64.wrap (k' : Int) = (k' : Int) := by rw [IntKind.wrap_i64]; omega
          refine wp_region_T (Cells [(⟨b7, o7 + k' * 4, none⟩, .string pc), (⟨b7, o7 + k' * 4 + 1, none⟩, .int .i64 pk), (⟨b7, o7 + k' * 4 + 2, none⟩, .int .i64 pw), (⟨b7, o7 + k' * 4 + 3, none⟩, .int .i64 pv), (⟨b7, o7 + (k' + 1) * 4, none⟩, .string cc), (⟨b7, o7 + (k' + 1) * 4 + 1, none⟩, .int .i64 ck), (⟨b7, o7 + (k' + 1) * 4 + 2, none⟩, .int .i64 cw), (⟨b7, o7 + (k' + 1) * 4 + 3, none⟩, .int .i64 cv)]) (fun _ => false) (by kernel_rfl) ?_
          have hSss2 := Cells.drew hC0
          have hB_0_s2 : Below wr.heap.size wr wr.drew := below_drew _
          generalize wr.drew = s2 at hSss2 hB_0_s2 ⊢
          have hB_s2_s2 := Below.refl s2.heap.size s2
          refine wpAnyT_pure (i := 0) (v := ?_) rfl (by kernel_rfl) (by kernel_rfl) (by kernel_rfl) (fun _ _ _ h => h) (by rfl) ?_ ?_
          rotate_left
          · intro w; go_simp; try with_reducible rfl
          simp only [Act.put, List.setIfInBounds_toArray, List.set_cons_zero, List.set_cons_succ, List.getElem_toArray, List.getElem_cons_succ, List.getElem_cons_zero]
          refine wpAnyT_one (i := 1) (by kernel_rfl) rfl (by rfl) ?_
          refine wp_value (v := .bool true) (w' := s2) (by go_simp; try omega) ?_
          refine ⟨fun _ h => h, ?_⟩
          try simp only [Act.put, List.setIfInBounds_toArray, List.set_cons_zero, List.set_cons_succ, List.getElem_toArray, List.getElem_cons_succ, List.getElem_cons_zero]
          refine wpAnyT_pure (i := 2) (v := ?_) rfl (by kernel_rfl) (by kernel_rfl) (by kernel_rfl) (fun _ _ _ h => h) (by rfl) ?_ ?_
          rotate_left
          · intro w; go_simp; try with_reducible rfl
          simp only [Act.put, List.setIfInBounds_toArray, List.set_cons_zero, List.set_cons_succ, List.getElem_toArray, List.getElem_cons_succ, List.getElem_cons_zero]
          refine wpAnyT_pure (i := 3) (v := ?_) rfl (by kernel_rfl) (by kernel_rfl) (by kernel_rfl) (fun _ _ _ h => h) (by rfl) ?_ ?_
          rotate_left
          · intro w; go_simp; try with_reducible rfl
          simp only [Act.put, List.setIfInBounds_toArray, List.set_cons_zero, List.set_cons_succ, List.getElem_toArray, List.getElem_cons_succ, List.getElem_cons_zero]
          refine wpAnyT_pure (i := 4) (v := ?_) rfl (by kernel_rfl) (by kernel_rfl) (by kernel_rfl) (fun _ _ _ h => h) (by rfl) ?_ ?_
          rotate_left
          · intro w; go_simp; try with_reducible rfl
          simp only [Act.put, List.setIfInBounds_toArray, List.set_cons_zero, List.set_cons_succ, List.getElem_toArray, List.getElem_cons_succ, List.getElem_cons_zero]
          refine wpAnyT_pure (i := 8) (v := ?_) rfl (by kernel_rfl) (by kernel_rfl) (by kernel_rfl) (fun _ _ _ h => h) (by rfl) ?_ ?_
          rotate_left
          · intro w; go_simp; try with_reducible rfl
          simp only [Act.put, List.setIfInBounds_toArray, List.set_cons_zero, List.set_cons_succ, List.getElem_toArray, List.getElem_cons_succ, List.getElem_cons_zero]
          refine wpAnyT_pure (i := 9) (v := ?_) rfl (by kernel_rfl) (by kernel_rfl) (by kernel_rfl) (fun _ _ _ h => h) (by rfl) ?_ ?_
          rotate_left
          · intro w; go_simp; try with_reducible rfl
          simp only [Act.put, List.setIfInBounds_toArray, List.set_cons_zero, List.set_cons_succ, List.getElem_toArray, List.getElem_cons_succ, List.getElem_cons_zero]
          refine wpAnyT_pure (i := 10) (v := ?_) rfl (by kernel_rfl) (by kernel_rfl) (by kernel_rfl) (fun _ _ _ h => h) (by rfl) ?_ ?_
          rotate_left
          · intro w; go_simp; try with_reducible rfl
          simp only [Act.put, List.setIfInBounds_toArray, List.set_cons_zero, List.set_cons_succ, List.getElem_toArray, List.getElem_cons_succ, List.getElem_cons_zero]
          refine wpAnyT_loadW (i := 11) (v := ?_) rfl (by kernel_rfl) (by kernel_rfl) (by kernel_rfl) (by kernel_rfl) (by kernel_rfl) (fun _ _ _ h => h) (Or.inl ⟨by rfl, ?_⟩) hSss2 ?_
          rotate_left
          · intro w hSw; obtain ⟨e0, e1, e2, e3, e4, e5, e6, e7, -⟩ := hSw; go_simp; try with_reducible rfl
          simp only [Act.put, List.setIfInBounds_toArray, List.set_cons_zero, List.set_cons_succ, List.getElem_toArray, List.getElem_cons_succ, List.getElem_cons_zero]
          refine wpAnyT_one (i := 5) (by kernel_rfl) rfl (by rfl) ?_
          refine wp_value (v := .int .i64 (k' : Int)) (w' := s2) (by go_simp; try omega) ?_
          refine ⟨fun _ h => h, ?_⟩
          try simp only [Act.put, List.setIfInBounds_toArray, List.set_cons_zero, List.set_cons_succ, List.getElem_toArray, List.getElem_cons_succ, List.getElem_cons_zero]
          refine wpAnyT_pure (i := 6) (v := ?_) rfl (by kernel_rfl) (by kernel_rfl) (by kernel_rfl) (fun _ _ _ h => h) (by rfl) ?_ ?_
          rotate_left
          · intro w; go_simp; try with_reducible rfl
          simp only [Act.put, List.setIfInBounds_toArray, List.set_cons_zero, List.set_cons_succ, List.getElem_toArray, List.getElem_cons_succ, List.getElem_cons_zero]
          refine wpAnyT_loadW (i := 7) (v := ?_) rfl (by kernel_rfl) (by kernel_rfl) (by kernel_rfl) (by kernel_rfl) (by kernel_rfl) (fun _ _ _ h => h) (Or.inl ⟨by rfl, ?_⟩) hSss2 ?_
          rotate_left
          · intro w hSw; obtain ⟨e0, e1, e2, e3, e4, e5, e6, e7, -⟩ := hSw; go_simp; try with_reducible rfl
          simp only [Act.put, List.setIfInBounds_toArray, List.set_cons_zero, List.set_cons_succ, List.getElem_toArray, List.getElem_cons_succ, List.getElem_cons_zero]
          refine wpAnyT_one (i := 12) (by kernel_rfl) rfl (by rfl) ?_
          refine wp_enter (f := 25) (args := #[.agg #[.string pc, .int .i64 pk, .int .i64 pw, .int .i64 pv], .agg #[.string cc, .int .i64 ck, .int .i64 cw, .int .i64 cv]]) (by go_simp) (HBS.out _) ?_
          rintro e w103 ⟨rfl, hX⟩
          have hB_s2_w103 := below_step hB_s2_s2 hX
          have hB_w103_w103 := Below.refl w103.heap.size w103
          have hSsw103 := Cells.below hB_s2_w103 hSss2
          clear hX
          refine ⟨_, rfl, fun _ _ => hSsw103, ?_⟩
          try simp only [Act.put, List.setIfInBounds_toArray, List.set_cons_zero, List.set_cons_succ, List.getElem_toArray, List.getElem_cons_succ, List.getElem_cons_zero]
          refine wpAnyT_pure (i := 13) (v := ?_) rfl (by kernel_rfl) (by kernel_rfl) (by kernel_rfl) (fun _ _ _ h => h) (by rfl) ?_ ?_
          rotate_left
          · intro w; go_simp; try with_reducible rfl
          simp only [Act.put, List.setIfInBounds_toArray, List.set_cons_zero, List.set_cons_succ, List.getElem_toArray, List.getElem_cons_succ, List.getElem_cons_zero]
          refine wpAnyT_pure (i := 14) (v := ?_) rfl (by kernel_rfl) (by kernel_rfl) (by kernel_rfl) (fun _ _ _ h => h) (by rfl) ?_ ?_
          rotate_left
          · intro w; go_simp; try with_reducible rfl
          simp only [Act.put, List.setIfInBounds_toArray, List.set_cons_zero, List.set_cons_succ, List.getElem_toArray, List.getElem_cons_succ, List.getElem_cons_zero]
          refine wpAnyT_done (by kernel_rfl) ?_ _
          refine cut_leaf ?_ ?_
          focus kernel_rfl
          exact ⟨⟨_, _, _, _, _, _, _, _, _, _, _, _, _, _, rfl⟩, below_step HBR.out (below_step hB_0_s2 hB_s2_w103)⟩
      rintro vs wx ⟨⟨v44, v45, v46, v47, v48, v49, v50, v51, v52, v53, v54, v55, v56, v57, rfl⟩, hBx⟩
      simp only [puts, Act.put, List.setIfInBounds_toArray, List.set_cons_zero, List.set_cons_succ]
      clear k0 k1 k2 k3
      go_wp2_with fail
      have hnx0 := heap_alloc_new wx (.cells #[.string ⟨#[]⟩, .int .i64 0, .int .i64 0, .int .i64 0] 35)
      have hBx1 := below_step hBx ((Below.refl _ wx).alloc (Nat.le_refl _) (.cells #[.string ⟨#[]⟩, .int .i64 0, .int .i64 0, .int .i64 0] 35))
      have hnx9 := hBx.size
      generalize hnxx : wx.heap.size = nx at *
      generalize wx.alloc (.cells #[.string ⟨#[]⟩, .int .i64 0, .int .i64 0, .int .i64 0] 35) = wy at *
      clear hnxx hBx
      go_loopw [11] (fun j wj => ∃ (m : Nat) (rc : ByteArray) (rk rw_ rv : Int), m ≤ l8 ∧ j = .int .i64 m ∧ lastR (t.hs.take m) ⟨cc, ck, cw⟩ = ⟨rc, rk, rw_, rv⟩ ∧ wj.heap[nx]? = some (.cells #[.string rc, .int .i64 rk, .int .i64 rw_, .int .i64 rv] 35 (0, 0)) ∧ Below w9.heap.size w9 wj) (fun j _ => l8 - (intOf j).toNat)
      case atStart => exact ⟨0, ByteArray.empty, 0, 0, 0, Nat.zero_le _, rfl, rfl, hnx0, hBx1⟩
      case round =>
        clear hnx0 hBx1
        obtain ⟨m, rc, rk, rw_, rv, hm, rfl, hlr, hnx, hBj⟩ := hrel
        have hCj := Cells.below hBj HK9.out
        by_cases hml : m < l8
        · have hmh : m < t.hs.length := by have := HL8.out; omega
          obtain ⟨b8, o8, rfl, -, m0, m1, m2, m3, -⟩ := rate_at (HH9.out.alloc hBj) m hmh
          have hhit := lastR_hit (t.hs.take m) t.hs[m] ⟨cc, ck, cw⟩
          have hmiss := lastR_miss (t.hs.take m) t.hs[m] ⟨cc, ck, cw⟩
          rw [← List.take_succ_eq_append_getElem hmh] at hhit hmiss
          unfold keyR at hhit hmiss
          generalize rt t.hs[m] = hr at m0 m1 m2 m3 hhit hmiss
          obtain ⟨hc, hkd, hw, hv⟩ := hr
          simp only at m0 m1 m2 m3
          obtain ⟨ss, hss⟩ : ∃ ss, sameK ⟨hc, hkd, hw, hv⟩ ⟨cc, ck, cw, cv⟩ = ss := ⟨_, rfl⟩
          have hsk := fun W => sameKey_sum W ⟨hc, hkd, hw, hv⟩ ⟨cc, ck, cw, cv⟩
          rw [hss] at hsk
          unfold Rt.v rateV at hsk
          have HSK := Lib.hid hsk
          have hhit' : ss = true → lastR (t.hs.take (m + 1)) ⟨cc, ck, cw⟩ = ⟨hc, hkd, hw, hv⟩ := fun e => hhit (by rw [e, sameK_eq, same3_iff] at hss; exact hss)
          have hmiss' : ss = false → lastR (t.hs.take (m + 1)) ⟨cc, ck, cw⟩ = ⟨rc, rk, rw_, rv⟩ := fun e => (hmiss (by rw [e, sameK_eq, same3_false] at hss; exact hss)).trans hlr
          have HHIT := Lib.hid hhit'
          have HMISS := Lib.hid hmiss'
          have hmI : (m : Int) < (l8 : Int) := by omega
          have HNX := Lib.hid hnx
          have HML := Lib.hid hml
          have hnl := blk_lt hnx
          clear hsk hss hhit hmiss hhit' hmiss' hlr hnx
          obtain ⟨k0, k1, k2, k3, -⟩ := hCj
          go_wp2_with fail
          have hC1 : Cells [(⟨b8, o8 + m * 4, none⟩, .string hc), (⟨b8, o8 + m * 4 + 1, none⟩, .int .i64 hkd), (⟨b8, o8 + m * 4 + 2, none⟩, .int .i64 hw), (⟨b8, o8 + m * 4 + 3, none⟩, .int .i64 hv), (⟨b7, o7 + k * 4, none⟩, .string cc), (⟨b7, o7 + k * 4 + 1, none⟩, .int .i64 ck), (⟨b7, o7 + k * 4 + 2, none⟩, .int .i64 cw), (⟨b7, o7 + k * 4 + 3, none⟩, .int .i64 cv)] wr := ⟨m0, m1, m2, m3, k0, k1, k2, k3, trivial⟩
          clear m0 m1 m2 m3 k0 k1 k2 k3
          refine wp_region_T (Cells [(⟨b8, o8 + m * 4, none⟩, .string hc), (⟨b8, o8 + m * 4 + 1, none⟩, .int .i64 hkd), (⟨b8, o8 + m * 4 + 2, none⟩, .int .i64 hw), (⟨b8, o8 + m * 4 + 3, none⟩, .int .i64 hv), (⟨b7, o7 + k * 4, none⟩, .string cc), (⟨b7, o7 + k * 4 + 1, none⟩, .int .i64 ck), (⟨b7, o7 + k * 4 + 2, none⟩, .int .i64 cw), (⟨b7, o7 + k * 4 + 3, none⟩, .int .i64 cv)]) (fun _ => false) (by kernel_rfl) ?_
          have hSss4 := Cells.drew hC1
          have hB_0_s4 : Below wr.heap.size wr wr.drew := below_drew _
          generalize wr.drew = s4 at hSss4 hB_0_s4 ⊢
          have hB_s4_s4 := Below.refl s4.heap.size s4
          refine wpAnyT_pure (i := 0) (v := ?_) rfl (by kernel_rfl) (by kernel_rfl) (by kernel_rfl) (fun _ _ _ h => h) (by rfl) ?_ ?_
          rotate_left
          · intro w; go_simp; try with_reducible rfl
          simp only [Act.put, List.setIfInBounds_toArray, List.set_cons_zero, List.set_cons_succ, List.getElem_toArray, List.getElem_cons_succ, List.getElem_cons_zero]
          refine wpAnyT_pure (i := 1) (v := ?_) rfl (by kernel_rfl) (by kernel_rfl) (by kernel_rfl) (fun _ _ _ h => h) (by rfl) ?_ ?_
          rotate_left
          · intro w; go_simp; try with_reducible rfl
          simp only [Act.put, List.setIfInBounds_toArray, List.set_cons_zero, List.set_cons_succ, List.getElem_toArray, List.getElem_cons_succ, List.getElem_cons_zero]
          refine wpAnyT_pure (i := 2) (v := ?_) rfl (by kernel_rfl) (by kernel_rfl) (by kernel_rfl) (fun _ _ _ h => h) (by rfl) ?_ ?_
          rotate_left
          · intro w; go_simp; try with_reducible rfl
          simp only [Act.put, List.setIfInBounds_toArray, List.set_cons_zero, List.set_cons_succ, List.getElem_toArray, List.getElem_cons_succ, List.getElem_cons_zero]
          refine wpAnyT_pure (i := 4) (v := ?_) rfl (by kernel_rfl) (by kernel_rfl) (by kernel_rfl) (fun _ _ _ h => h) (by rfl) ?_ ?_
          rotate_left
          · intro w; go_simp; try with_reducible rfl
          simp only [Act.put, List.setIfInBounds_toArray, List.set_cons_zero, List.set_cons_succ, List.getElem_toArray, List.getElem_cons_succ, List.getElem_cons_zero]
          refine wpAnyT_pure (i := 5) (v := ?_) rfl (by kernel_rfl) (by kernel_rfl) (by kernel_rfl) (fun _ _ _ h => h) (by rfl) ?_ ?_
          rotate_left
          · intro w; go_simp; try with_reducible rfl
          simp only [Act.put, List.setIfInBounds_toArray, List.set_cons_zero, List.set_cons_succ, List.getElem_toArray, List.getElem_cons_succ, List.getElem_cons_zero]
          refine wpAnyT_pure (i := 6) (v := ?_) rfl (by kernel_rfl) (by kernel_rfl) (by kernel_rfl) (fun _ _ _ h => h) (by rfl) ?_ ?_
          rotate_left
          · intro w; go_simp; try with_reducible rfl
          simp only [Act.put, List.setIfInBounds_toArray, List.set_cons_zero, List.set_cons_succ, List.getElem_toArray, List.getElem_cons_succ, List.getElem_cons_zero]
          refine wpAnyT_loadW (i := 3) (v := ?_) rfl (by kernel_rfl) (by kernel_rfl) (by kernel_rfl) (by kernel_rfl) (by kernel_rfl) (fun _ _ _ h => h) (Or.inl ⟨by rfl, ?_⟩) hSss4 ?_
          rotate_left
          · intro w hSw; obtain ⟨e0, e1, e2, e3, e4, e5, e6, e7, -⟩ := hSw; go_simp; try with_reducible rfl
          simp only [Act.put, List.setIfInBounds_toArray, List.set_cons_zero, List.set_cons_succ, List.getElem_toArray, List.getElem_cons_succ, List.getElem_cons_zero]
          refine wpAnyT_loadW (i := 7) (v := ?_) rfl (by kernel_rfl) (by kernel_rfl) (by kernel_rfl) (by kernel_rfl) (by kernel_rfl) (fun _ _ _ h => h) (Or.inl ⟨by rfl, ?_⟩) hSss4 ?_
          rotate_left
          · intro w hSw; obtain ⟨e0, e1, e2, e3, e4, e5, e6, e7, -⟩ := hSw; go_simp; try with_reducible rfl
          simp only [Act.put, List.setIfInBounds_toArray, List.set_cons_zero, List.set_cons_succ, List.getElem_toArray, List.getElem_cons_succ, List.getElem_cons_zero]
          refine wpAnyT_one (i := 8) (by kernel_rfl) rfl (by rfl) ?_
          refine wp_enter (f := 20) (args := #[.agg #[.string hc, .int .i64 hkd, .int .i64 hw, .int .i64 hv], .agg #[.string cc, .int .i64 ck, .int .i64 cw, .int .i64 cv]]) (by go_simp) (HSK.out _) ?_
          rintro e w105 ⟨rfl, hX⟩
          have hB_s4_w105 := below_step hB_s4_s4 hX
          have hB_w105_w105 := Below.refl w105.heap.size w105
          have hSsw105 := Cells.below hB_s4_w105 hSss4
          clear hX
          refine ⟨_, rfl, fun _ _ => hSsw105, ?_⟩
          try simp only [Act.put, List.setIfInBounds_toArray, List.set_cons_zero, List.set_cons_succ, List.getElem_toArray, List.getElem_cons_succ, List.getElem_cons_zero]
          refine wpAnyT_done (by kernel_rfl) ?_ _
          have hBP : Below wr.heap.size wr w105 := hB_0_s4.trans ((hB_s4_w105).mono hB_0_s4.size)
          have hB9P := below_step hBj hBP
          have hnP : w105.heap[nx]? = some (.cells #[.string rc, .int .i64 rk, .int .i64 rw_, .int .i64 rv] 35 (0, 0)) := (hBP.block nx hnl).trans HNX.out
          obtain ⟨m0, m1, m2, m3, -⟩ := hSsw105
          cases ss
          · go_wp2
            go_roundw
            case rel => exact ⟨m + 1, rc, rk, rw_, rv, HML.out, by go_num, HMISS.out rfl, hnP, hB9P⟩
            case measure => have := HML.out; simp [intOf]; omega
          · have z0 := blk_cell hnP 0
            have z1 := blk_cell hnP 1
            have z2 := blk_cell hnP 2
            have z3 := blk_cell hnP 3
            have f0 := blk_frozen hnP 0
            have f1 := blk_frozen hnP 1
            have f2 := blk_frozen hnP 2
            have f3 := blk_frozen hnP 3
            simp at z0 z1 z2 z3
            go_wp2_with fail
            have hnQ := blk_set (blk_set (blk_set (blk_set hnP (.string hc) (i := 0)) (.int .i64 hkd) (i := 1)) (.int .i64 hw) (i := 2)) (.int .i64 hv) (i := 3)
            have hB9Q : Below w9.heap.size w9 ((((w105.setCell ⟨nx, 0, none⟩ (.string hc)).setCell ⟨nx, 1, none⟩ (.int .i64 hkd)).setCell ⟨nx, 2, none⟩ (.int .i64 hw)).setCell ⟨nx, 3, none⟩ (.int .i64 hv)) := (((hB9P.setCell (p := ⟨nx, 0, none⟩) hnx9 _).setCell (p := ⟨nx, 1, none⟩) hnx9 _).setCell (p := ⟨nx, 2, none⟩) hnx9 _).setCell (p := ⟨nx, 3, none⟩) hnx9 _
            generalize (((w105.setCell ⟨nx, 0, none⟩ (.string hc)).setCell ⟨nx, 1, none⟩ (.int .i64 hkd)).setCell ⟨nx, 2, none⟩ (.int .i64 hw)).setCell ⟨nx, 3, none⟩ (.int .i64 hv) = wq at hnQ hB9Q ⊢
            go_roundw
            case rel => exact ⟨m + 1, hc, hkd, hw, hv, HML.out, by go_num, HHIT.out rfl, by simpa using hnQ, hB9Q⟩
            case measure => have := HML.out; simp [intOf]; omega
        · obtain rfl : m = l8 := by omega
          rw [List.take_of_length_le (by have := HL8.out; omega)] at hlr
          have he : (⟨rc, rk, rw_, rv⟩ : Rt) = ⟨cc, ck, cw, cv⟩ := hlr.symm.trans HLA.out
          simp only [Rt.mk.injEq] at he
          obtain ⟨rfl, rfl, rfl, rfl⟩ := he
          clear hlr
          have hne := fun W => rate_neq W rc rc rk rk rw_ rw_ rv rv
          have heq : eqR ⟨rc, rk, rw_, rv⟩ ⟨rc, rk, rw_, rv⟩ = true := (eqR_iff _ _).2 rfl
          rw [heq] at hne
          clear heq
          obtain ⟨k0, k1, k2, k3, -⟩ := hCj
          obtain ⟨z0, z1, z2, z3⟩ := rate_blk hnx
          have hgd : Try.prog.eqGuardType Try.prog.depth 35 = false := by kernel_rfl
          go_wp2_with fail
          have hC1 : Cells [(⟨nx, 0, none⟩, .string rc), (⟨nx, 1, none⟩, .int .i64 rk), (⟨nx, 2, none⟩, .int .i64 rw_), (⟨nx, 3, none⟩, .int .i64 rv), (⟨b7, o7 + k * 4, none⟩, .string rc), (⟨b7, o7 + k * 4 + 1, none⟩, .int .i64 rk), (⟨b7, o7 + k * 4 + 2, none⟩, .int .i64 rw_), (⟨b7, o7 + k * 4 + 3, none⟩, .int .i64 rv)] wr := ⟨z0, z1, z2, z3, k0, k1, k2, k3, trivial⟩
          clear z0 z1 z2 z3 k0 k1 k2 k3
          refine wp_region_T (Cells [(⟨nx, 0, none⟩, .string rc), (⟨nx, 1, none⟩, .int .i64 rk), (⟨nx, 2, none⟩, .int .i64 rw_), (⟨nx, 3, none⟩, .int .i64 rv), (⟨b7, o7 + k * 4, none⟩, .string rc), (⟨b7, o7 + k * 4 + 1, none⟩, .int .i64 rk), (⟨b7, o7 + k * 4 + 2, none⟩, .int .i64 rw_), (⟨b7, o7 + k * 4 + 3, none⟩, .int .i64 rv)]) (fun _ => false) (by kernel_rfl) ?_
          have hSss6 := Cells.drew hC1
          have hB_0_s6 : Below wr.heap.size wr wr.drew := below_drew _
          generalize wr.drew = s6 at hSss6 hB_0_s6 ⊢
          have hB_s6_s6 := Below.refl s6.heap.size s6
          refine wpAnyT_pure (i := 1) (v := ?_) rfl (by kernel_rfl) (by kernel_rfl) (by kernel_rfl) (fun _ _ _ h => h) (by rfl) ?_ ?_
          rotate_left
          · intro w; go_simp; try with_reducible rfl
          simp only [Act.put, List.setIfInBounds_toArray, List.set_cons_zero, List.set_cons_succ, List.getElem_toArray, List.getElem_cons_succ, List.getElem_cons_zero]
          refine wpAnyT_pure (i := 2) (v := ?_) rfl (by kernel_rfl) (by kernel_rfl) (by kernel_rfl) (fun _ _ _ h => h) (by rfl) ?_ ?_
          rotate_left
          · intro w; go_simp; try with_reducible rfl
          simp only [Act.put, List.setIfInBounds_toArray, List.set_cons_zero, List.set_cons_succ, List.getElem_toArray, List.getElem_cons_succ, List.getElem_cons_zero]
          refine wpAnyT_pure (i := 3) (v := ?_) rfl (by kernel_rfl) (by kernel_rfl) (by kernel_rfl) (fun _ _ _ h => h) (by rfl) ?_ ?_
          rotate_left
          · intro w; go_simp; try with_reducible rfl
          simp only [Act.put, List.setIfInBounds_toArray, List.set_cons_zero, List.set_cons_succ, List.getElem_toArray, List.getElem_cons_succ, List.getElem_cons_zero]
          refine wpAnyT_loadW (i := 0) (v := ?_) rfl (by kernel_rfl) (by kernel_rfl) (by kernel_rfl) (by kernel_rfl) (by kernel_rfl) (fun _ _ _ h => h) (Or.inl ⟨by rfl, ?_⟩) hSss6 ?_
          rotate_left
          · intro w hSw; obtain ⟨e0, e1, e2, e3, e4, e5, e6, e7, -⟩ := hSw; go_simp; try with_reducible rfl
          simp only [Act.put, List.setIfInBounds_toArray, List.set_cons_zero, List.set_cons_succ, List.getElem_toArray, List.getElem_cons_succ, List.getElem_cons_zero]
          refine wpAnyT_loadW (i := 4) (v := ?_) rfl (by kernel_rfl) (by kernel_rfl) (by kernel_rfl) (by kernel_rfl) (by kernel_rfl) (fun _ _ _ h => h) (Or.inl ⟨by rfl, ?_⟩) hSss6 ?_
          rotate_left
          · intro w hSw; obtain ⟨e0, e1, e2, e3, e4, e5, e6, e7, -⟩ := hSw; go_simp; try with_reducible rfl
          simp only [Act.put, List.setIfInBounds_toArray, List.set_cons_zero, List.set_cons_succ, List.getElem_toArray, List.getElem_cons_succ, List.getElem_cons_zero]
          refine wpAnyT_pure (i := 5) (v := ?_) rfl (by kernel_rfl) (by kernel_rfl) (by kernel_rfl) (fun _ _ _ h => h) (by rfl) ?_ ?_
          rotate_left
          · intro w; go_simp; try with_reducible rfl
          simp only [Act.put, List.setIfInBounds_toArray, List.set_cons_zero, List.set_cons_succ, List.getElem_toArray, List.getElem_cons_succ, List.getElem_cons_zero]
          refine wpAnyT_done (by kernel_rfl) ?_ _
          go_wp2_with fail
          go_roundw
          case rel => exact ⟨k + 1, HLT.out, by go_num, below_step hBj (hB_0_s6.trans ((hB_s6_s6).mono hB_0_s6.size))⟩
          case measure => have := HLT.out; simp [intOf]; omega
    · obtain rfl : k = l7 := by omega
      have hge : (k : Int) ≤ (l8 : Int) := by have := HL7.out; have := HL8.out; have := HZ.out; omega
      go_wp2
      go_ret
      exact ⟨by simp, below_step hB9 hBr⟩
end Go.Proofs.Ytmlekhkgokgpbaa
