/- Layer 16: the law RateRebuilds. -/
import Derived.Test.YtmlekhkgokgpbaaC16y
import Derived.Test.YtmlekhkgokgpbaaL16c
import Derived.Test.YtmlekhkgokgpbaaP16d
set_option linter.unusedSimpArgs false
namespace Go.Proofs.Ytmlekhkgokgpbaa
open Go.RowKit Go
set_option maxRecDepth 20000 in
set_option maxHeartbeats 500000 in
theorem rebuildsWalk16 (w : World) (c0 : List Value) (g : Ty.den .str) (r0 : Rd .str (fun b => b < w.heap.size) w c0 g) (c1 : List Value) (xs : (Ty.sl rateT).den) (r1 : Rd (.sl rateT) (fun b => b < w.heap.size) w c1 xs) :
    Calls Try.prog 9 #[valOf .str c0, valOf (.sl rateT) c1] w fun e w' => e = .returned (.bool true) ∧ Below w.heap.size w w' := by
  obtain ⟨rfl, hg⟩ := r0
  obtain ⟨a, len, cap, rfl, hl, hlc, hcm, -⟩ := id r1
  change List rateT.den at xs
  change ByteArray at g
  simp only [valOf, List.headD_cons]
  have R1 := Lib.hid r1
  have HL := Lib.hid (show xs.length = len from hl)
  have HGS := Lib.hid hg
  clear r1 hl hg
  obtain ⟨fb, hfb⟩ : ∃ fb, fewR g xs = fb := ⟨_, rfl⟩
  have hfew := fun W (hB : Below w.heap.size w W) => few16_sum W g a len cap xs (R1.out.alloc hB)
  rw [hfb] at hfew
  have HFEW := Lib.hid hfew
  have HFB := Lib.hid hfb
  clear hfew hfb
  cases fb
  · go_enter Try.func9, Try.ntmps9
    go_wp2_with (first | (go_at_call 11; refine (awake16_sum _).mono ?_; rintro e w1 ⟨rfl, hB1⟩) | (go_at_call 12; refine (HFEW.out _ hB1).mono ?_; rintro e w2 ⟨rfl, hw2⟩; subst hw2))
    go_ret
    exact ⟨rfl, hB1⟩
  obtain ⟨hg20, hl200, -⟩ := few_len HFB.out
  obtain ⟨cb, hcb⟩ : ∃ cb, curB g = cb := ⟨_, rfl⟩
  have hlen200 : len ≤ 200 := by have := HL.out; omega
  have HCB := Lib.hid hcb
  clear hl200 hcb
  cases cb
  · go_enter Try.func9, Try.ntmps9
    go_wp2_with (first | (go_at_call 11; refine (awake16_sum _).mono ?_; rintro e w1 ⟨rfl, hB1⟩) | (go_at_call 12; refine (HFEW.out _ hB1).mono ?_; rintro e w2 ⟨rfl, hw2⟩; subst hw2) | (go_at_call 13; first | (refine (New_bad _ g HGS.out HCB.out).mono ?_; rintro e w4 ⟨rfl, hB4⟩; replace hB4 := below_step hB3 hB4) | (refine (New_bad _ g HGS.out HCB.out).mono ?_; rintro e w3 ⟨rfl, hB3⟩; replace hB3 := below_step hB1 hB3)))
    go_ret
    exact ⟨rfl, hB4⟩
  obtain ⟨t, ht⟩ : ∃ t, tb0.setAll g xs = t := ⟨_, rfl⟩
  obtain ⟨zs, hzs⟩ := TbOk.setAll (xs := xs) g TbOk.zero (keys_ok R1.out)
  have hl1000 : xs.length ≤ 1000 := by have := HL.out; omega
  have hlv := list_valid hl1000 HCB.out hzs
  obtain ⟨zs', hzs'⟩ := TbOk.setAll (xs := rowsOf (tb0.setAll g xs).f zs) g TbOk.zero (fun y hy => by
    unfold rowsOf at hy
    rw [List.mem_map] at hy
    obtain ⟨k, hk, rfl⟩ := hy
    exact hzs.1.2.1 k hk)
  have hla := list_again hl1000 HCB.out hzs hzs'
  have hsa := setAll_again g xs hl1000
  have htm := Tb.setAll_m g xs tb0
  have hth := Tb.setAll_hs g xs tb0
  rw [ht] at hlv hzs' hla hsa htm hth hzs
  obtain ⟨v, hv⟩ : ∃ v, tb0.setAll g (rowsOf t.f zs) = v := ⟨_, rfl⟩
  rw [hv] at hzs' hla
  have htz : tb0.m = 0 := rfl
  have hhz : tb0.hs.length = 0 := rfl
  have hvm : v.m ≤ 200 := by
    have h1 := congrArg List.length hla
    rw [rowsOf, rowsOf, List.length_map, List.length_map, ← hzs'.2, ← hzs.2] at h1
    have := HL.out
    omega
  have htl : t.m ≤ 200 ∧ t.hs.length ≤ 200 := by have := HL.out; omega
  have HT := Lib.hid ht
  have HV := Lib.hid hv
  have HSA := Lib.hid hsa
  have HLV := Lib.hid hlv
  have HTL := Lib.hid (fun F W p (h : TabT F W p g t) => List_tb F W p g t zs hzs h (by omega))
  have HVL := Lib.hid (fun F W p (h : TabT F W p g v) => List_tb F W p g v zs' hzs' h (by omega))
  have HTH := Lib.hid (fun F W p (h : TabT F W p g t) => History_sum F W p g t h (by omega))
  have HLA := Lib.hid hla
  have HSL := Lib.hid (fun ys : List rateT.den => show sameL ys ys = true from decide_eq_true rfl)
  have HTL2 := Lib.hid htl
  have HZ := Lib.hid (show (rowsOf t.f zs).length ≤ 200 by rw [rowsOf, List.length_map, ← hzs.2]; omega)
  clear ht hv hsa hlv hzs hzs' hla htl htm hth hvm htz hhz hl1000
  go_enter Try.func9, Try.ntmps9
  go_wp2_with (first
    | (go_at_call 11; refine (awake16_sum _).mono ?_; rintro e w1 ⟨rfl, hB1⟩)
    | (go_at_call 12; refine (HFEW.out _ hB1).mono ?_; rintro e w2 ⟨rfl, hw2⟩; subst hw2)
    | (go_at_call 13; first
      | (refine (New_ok _ g HGS.out HCB.out).mono ?_; rintro e w4 ⟨q, G, rfl, hT4, hG4, hB34⟩; have HU4 := Lib.hid (show TabT G w4 q g tb0 from hT4); have HG4 := Lib.hid hG4; have HT4 := Lib.hid (TabIn.below HT3.out hB34); have HF4 := Lib.hid (show ∀ b, F b → b < w3.heap.size from HT3.out.1); have hB4 := below_step hB3 hB34; have hs34 := hB34.size; clear hT4 hG4 hB34)
      | (refine (New_ok _ g HGS.out HCB.out).mono ?_; rintro e w3 ⟨p, F, rfl, hT3, hF3, hB13⟩; have HT3 := Lib.hid (show TabT F w3 p g tb0 from hT3); have HF3 := Lib.hid (show ∀ b, F b → w.heap.size ≤ b from fun b hb => Nat.le_trans hB1.size (hF3 b hb)); have hB3 := below_step hB1 hB13; clear hT3 hF3 hB13))
    | (go_at_call 18; first
      | (refine (set16_sum G (fun b => (Value.slice a6 l6 c6).ownBlock = some b) _ q g tb0 HU6.out a6 l6 c6 t.hs (HO6.out.rd _ (fun _ h => h.elim) (fun _ h => h)) (fun b hb => ⟨(HO6.out.own b hb).2, fun h => by have := (HO6.out.own b hb).1; have := HU4.out.1 b h; omega⟩) (by have := HTL2.out; have h0 : tb0.m = 0 := rfl; have := HL6.out; omega)).mono ?_; rintro e w7 ⟨rfl, G7, hT7, hF7, hG7⟩; rw [HSA.out] at hT7; have HU7 := Lib.hid hT7; have HT7 := Lib.hid (TabIn.gr HT6.out hG7 (fun b hb h => by have := HU4.out.1 b h; have := HG4.out b h; rcases HF5.out b hb with h' | h'; (have := HF4.out b h'; omega); omega)); have hB7 := hB6.trans (hG7.below (fun b h => Nat.le_trans hB3.size (HG4.out b h)) hB6.size); clear hT7 hF7 hG7)
      | (refine (set16_sum F (fun b => b < w.heap.size) _ p g tb0 HT4.out a len cap xs (R1.out.below hB4 (fun _ h => h)) (fun b hb => ⟨Nat.lt_of_lt_of_le hb hB4.size, fun h => by have := HF3.out b h; omega⟩) (by have h0 : tb0.m = 0 := rfl; omega)).mono ?_; rintro e w5 ⟨rfl, F5, hT5, hF5, hG5⟩; rw [HT.out] at hT5; have HT5 := Lib.hid hT5; have HF5 := Lib.hid hF5; have HU5 := Lib.hid (TabIn.gr HU4.out hG5 (fun b hb h => by have := HF4.out b h; have := HG4.out b hb; omega)); have hB5 := hB4.trans (hG5.below HF3.out hB4.size); have hs45 := hG5.size; clear hT5 hF5 hG5))
    | (go_at_call 23; first
      | (refine (HTH.out _ _ _ HT14.out).mono ?_; rintro e w15 ⟨v15, rfl, hB1415, hO15⟩; obtain ⟨a15, l15, c15, rfl, -⟩ := hO15.slice; have HO15 := Lib.hid hO15; have HO14' := Lib.hid (HO14.out.below hB1415); have hB15 := below_step hB14 hB1415; clear hO15)
      | (refine (HTH.out _ _ _ HU13.out).mono ?_; rintro e w14 ⟨v14, rfl, hB1314, hO14⟩; obtain ⟨a14, l14, c14, rfl, -⟩ := hO14.slice; have HO14 := Lib.hid hO14; have HT14 := Lib.hid (TabIn.below HT13.out hB1314); have hB14 := below_step hB13 hB1314; clear hO14)
      | (refine (HTH.out _ _ _ HT5.out).mono ?_; rintro e w6 ⟨v6, rfl, hB56, hO6⟩; obtain ⟨a6, l6, c6, rfl, hl6, -⟩ := hO6.slice; have HO6 := Lib.hid hO6; have HL6 := Lib.hid hl6; have HT6 := Lib.hid (TabIn.below HT5.out hB56); have HU6 := Lib.hid (TabIn.below HU5.out hB56); have hB6 := below_step hB5 hB56; clear hO6 hl6))
    | (go_at_call 31; refine (Of_ok _ g a8 l8 c8 (rowsOf t.f zs) (rdOwn HO8.out) (fun _ h => h) HGS.out HLV.out).mono ?_; rintro e w9 ⟨r, H, rfl, hT9, hF9, hB89⟩; rw [HV.out] at hT9; have HV9 := Lib.hid hT9; have HT9 := Lib.hid (TabIn.below HT8.out hB89); have HU9 := Lib.hid (TabIn.below HU8.out hB89); have hB9 := below_step hB8 hB89; clear hT9 hF9)
    | (go_at_call 22; first
      | (refine (HTL.out _ _ _ HT12b.out).mono ?_; rintro e w13 ⟨v13, rfl, hO13, hB1213⟩; obtain ⟨a13, l13, c13, rfl, -⟩ := hO13.slice; have HO13 := Lib.hid hO13; have HO12' := Lib.hid (HO12.out.below hB1213); have HT13a := Lib.hid (TabIn.below HT12b.out hB1213); have HU13a := Lib.hid (TabIn.below HU12b.out hB1213); have hB13a := below_step hB12 hB1213; clear hO13)
      | (refine (HTL.out _ _ _ HU11.out).mono ?_; rintro e w12 ⟨v12, rfl, hO12, hB1112⟩; obtain ⟨a12, l12, c12, rfl, -⟩ := hO12.slice; have HO12 := Lib.hid hO12; have HT12b := Lib.hid (TabIn.below HT11.out hB1112); have HU12b := Lib.hid (TabIn.below HU11.out hB1112); have hB12 := below_step hB11 hB1112; clear hO12)
      | (refine (HTL.out _ _ _ HT10.out).mono ?_; rintro e w10b ⟨v10b, rfl, hO10b, hB10b⟩; obtain ⟨a10b, l10b, c10b, rfl, -⟩ := hO10b.slice; have HO10b := Lib.hid hO10b; have HO10' := Lib.hid (HO10.out.below hB10b); have HT10b := Lib.hid (TabIn.below HT10.out hB10b); have HU10b := Lib.hid (TabIn.below HU10.out hB10b); have hB10c := below_step hB10 hB10b; clear hO10b)
      | (refine (HVL.out _ _ _ HV9.out).mono ?_; rintro e w10 ⟨v10, rfl, hO10, hB910⟩; rw [HLA.out] at hO10; obtain ⟨a10, l10, c10, rfl, -⟩ := hO10.slice; have HO10 := Lib.hid hO10; have HT10 := Lib.hid (TabIn.below HT9.out hB910); have HU10 := Lib.hid (TabIn.below HU9.out hB910); have hB10 := below_step hB9 hB910; clear hO10)
      | (refine (HTL.out _ _ _ HT7.out).mono ?_; rintro e w8 ⟨v8, rfl, hO8, hB78⟩; obtain ⟨a8, l8, c8, rfl, -⟩ := hO8.slice; have HO8 := Lib.hid hO8; have HT8 := Lib.hid (TabIn.below HT7.out hB78); have HU8 := Lib.hid (TabIn.below HU7.out hB78); have hB8 := below_step hB7 hB78; clear hO8))
    | (go_at_call 21; first
      | (refine (Same16_sum _ a14 a15 l14 c14 l15 c15 _ _ (rdOwn HO14'.out) (rdOwn HO15.out) (fun _ h => h) (fun _ h => h)).mono ?_; rw [HSL.out]; rintro e w16 ⟨rfl, hB1516⟩; have hB16 := below_step hB15 hB1516)
      | (refine (Same16_sum _ a12 a13 l12 c12 l13 c13 _ _ (rdOwn HO12'.out) (rdOwn HO13.out) (fun _ h => h) (fun _ h => h)).mono ?_; rw [HSL.out]; rintro e w13b ⟨rfl, hB13b⟩; have HT13 := Lib.hid (TabIn.below HT13a.out hB13b); have HU13 := Lib.hid (TabIn.below HU13a.out hB13b); have hB13 := below_step hB13a hB13b)
      | (refine (Same16_sum _ a10 a10b l10 c10 l10b c10b _ _ (rdOwn HO10'.out) (rdOwn HO10b.out) (fun _ h => h) (fun _ h => h)).mono ?_; rw [HSL.out]; rintro e w11 ⟨rfl, hB1011⟩; have HT11 := Lib.hid (TabIn.below HT10b.out hB1011); have HU11 := Lib.hid (TabIn.below HU10b.out hB1011); have hB11 := below_step hB10c hB1011)))
  go_ret
  exact ⟨rfl, hB16⟩
end Go.Proofs.Ytmlekhkgokgpbaa
