/- Layer 16: the law RateScript. -/
import Derived.Test.YtmlekhkgokgpbaaC16y
set_option linter.unusedSimpArgs false
namespace Go.Proofs.Ytmlekhkgokgpbaa
open Go.RowKit Go

theorem few_len {g : ByteArray} {xs : List rateT.den} (h : fewR g xs = true) : g.size ≤ 20 ∧ xs.length ≤ 200 ∧ ∀ x ∈ xs, (rt x).cur.size ≤ 20 := by
  unfold fewR at h
  simp only [Bool.and_eq_true, decide_eq_true_eq, List.all_eq_true] at h
  exact ⟨by omega, by omega, h.1⟩
theorem TbOk.ys_len {t : Tb} {ys : List K3} (h : TbOk t ys) : ys.length = t.m := h.2.symm
set_option maxRecDepth 20000 in
set_option maxHeartbeats 500000 in
theorem scriptWalk16 (w : World) (c0 : List Value) (g : Ty.den .str) (r0 : Rd .str (fun b => b < w.heap.size) w c0 g) (c1 : List Value) (xs : (Ty.sl rateT).den) (r1 : Rd (.sl rateT) (fun b => b < w.heap.size) w c1 xs) :
    Calls Try.prog 3 #[valOf .str c0, valOf (.sl rateT) c1] w fun e w' => e = .returned (.bool true) ∧ Below w.heap.size w w' := by
  obtain ⟨rfl, hg⟩ := r0
  obtain ⟨a, len, cap, rfl, hl, hlc, hcm, -⟩ := id r1
  change List rateT.den at xs
  change ByteArray at g
  simp only [valOf, List.headD_cons]
  have R1 := Lib.hid r1
  have HL := Lib.hid (show xs.length = len from hl)
  have HGS := Lib.hid hg
  clear r1 hl hg
  obtain ⟨fb, hfb⟩ : ∃ fb, fewR g xs = fb := ⟨_, rfl⟩
  have hfew := fun W (hB : Below w.heap.size w W) => few16_sum W g a len cap xs (R1.out.alloc hB)
  rw [hfb] at hfew
  have HFEW := Lib.hid hfew
  have HFB := Lib.hid hfb
  clear hfew hfb
  cases fb
  · go_enter Try.func3, Try.ntmps3
    go_wp2_with (first | (go_at_call 11; refine (awake16_sum _).mono ?_; rintro e w1 ⟨rfl, hB1⟩) | (go_at_call 12; refine (HFEW.out _ hB1).mono ?_; rintro e w2 ⟨rfl, hw2⟩; subst hw2))
    go_ret
    exact ⟨rfl, hB1⟩
  obtain ⟨hg20, hl200, -⟩ := few_len HFB.out
  obtain ⟨cb, hcb⟩ : ∃ cb, curB g = cb := ⟨_, rfl⟩
  have hlen200 : len ≤ 200 := by have := HL.out; omega
  have HCB := Lib.hid hcb
  clear hl200 hcb
  cases cb
  · go_enter Try.func3, Try.ntmps3
    go_wp2_with (first | (go_at_call 11; refine (awake16_sum _).mono ?_; rintro e w1 ⟨rfl, hB1⟩) | (go_at_call 12; refine (HFEW.out _ hB1).mono ?_; rintro e w2 ⟨rfl, hw2⟩; subst hw2) | (go_at_call 13; refine (New_bad _ g HGS.out HCB.out).mono ?_; rintro e w3 ⟨rfl, hB3⟩; replace hB3 := below_step hB1 hB3) | (go_at_call 14; refine (refNew_bad _ g HGS.out HCB.out).mono ?_; rintro e w4 ⟨rfl, hB4⟩; replace hB4 := below_step hB3 hB4))
    go_ret
    exact ⟨rfl, below_step hB4 ((Below.refl _ _).alloc (Nat.le_refl _) _)⟩
  go_enter Try.func3, Try.ntmps3
  go_wp2_with (first | (go_at_call 11; refine (awake16_sum _).mono ?_; rintro e w1 ⟨rfl, hB1⟩) | (go_at_call 12; refine (HFEW.out _ hB1).mono ?_; rintro e w2 ⟨rfl, hw2⟩; subst hw2) | (go_at_call 13; refine (New_ok _ g HGS.out HCB.out).mono ?_; rintro e w3 ⟨p, F, rfl, hT3, hF3, hB3⟩; have HT3 := Lib.hid (show TabT F w3 p g tb0 from hT3); have HF3 := Lib.hid (show ∀ b, F b → w.heap.size ≤ b from fun b hb => Nat.le_trans hB1.size (hF3 b hb)); replace hB3 := below_step hB1 hB3; clear hT3 hF3) | (go_at_call 14; refine (refNew_sum _ g HGS.out HCB.out).mono ?_; rintro e w4 ⟨v4, rfl, ⟨-, ha, hl, hc, la, ll, lc, rfl, h41, h42⟩, hB4⟩; have HT4 := Lib.hid (TabIn.below HT3.out hB4); have HR4 := Lib.hid (show RefT (fun _ => False) w4 (.agg #[.string g, .slice ha hl hc, .slice la ll lc]) g [] [] from ⟨fun _ h => h.elim, ha, hl, hc, la, ll, lc, rfl, h41, h42⟩); have hB34 := hB4; replace hB4 := below_step hB3 hB4; clear h41 h42))
  have hpn : w.heap.size ≤ w4.heap.size := hB4.size
  have hh0 := heap_alloc_new w4 (.cells #[.string g, .slice ha hl hc, .slice la ll lc] 30)
  have hBa : Below w4.heap.size w4 (w4.alloc (.cells #[.string g, .slice ha hl hc, .slice la ll lc] 30)) := (Below.refl _ w4).alloc (Nat.le_refl _) _
  have HT5 := Lib.hid (TabIn.below HT4.out hBa)
  have HR5 := Lib.hid (HR4.out.below hBa)
  have HF5 := Lib.hid (show ∀ b, F b → w.heap.size ≤ b ∧ b ≠ w4.heap.size from fun b hb => ⟨HF3.out b hb, by have := HT4.out.1 b hb; omega⟩)
  have HB5 := Lib.hid (below_step hB4 hBa)
  generalize hW5 : w4.alloc (.cells #[.string g, .slice ha hl hc, .slice la ll lc] 30) = w5 at *
  clear hW5 hBa HT4 HR4 HT3 HF3 hB1 hB3 hB4 hB34
  generalize w4.heap.size = pn at *
  have hpnw : w.heap.size ≤ pn := hpn
  go_loopw [9] (fun i wr => ∃ (k : Nat) (F S : Nat → Prop) (t : Tb) (ys : List K3) (ha : Option Addr) (hl hc : Nat) (la : Option Addr) (ll lc : Nat), k ≤ len ∧ i = .int .i64 k ∧ TbOk t ys ∧ TabT F wr p g t ∧ RefT S wr (.agg #[.string g, .slice ha hl hc, .slice la ll lc]) g t.hs (rowsOf t.f ys) ∧ wr.heap[pn]? = some (.cells #[.string g, .slice ha hl hc, .slice la ll lc] 30 (0, 0)) ∧ (∀ b, F b → w.heap.size ≤ b ∧ b ≠ pn ∧ ¬ S b) ∧ (∀ b, S b → b ≠ pn) ∧ t.m ≤ k ∧ t.hs.length ≤ k ∧ Below w.heap.size w wr) (fun i _ => len - (intOf i).toNat)
  case atStart => exact ⟨0, F, fun _ => False, tb0, [], ha, hl, hc, la, ll, lc, Nat.zero_le _, rfl, TbOk.zero, HT5.out, HR5.out, hh0, fun b hb => ⟨(HF5.out b hb).1, (HF5.out b hb).2, fun h => h⟩, fun _ h => h.elim, Nat.le_refl _, Nat.le_refl _, HB5.out⟩
  case round =>
    clear HT5 HR5 HF5 HB5 hh0
    obtain ⟨k, F, S, t, ys, ha, hl, hc, la, ll, lc, hk, rfl, hok, hT, hR, hx, hF, hS, htm, hth, hB⟩ := hrel
    have HOK := Lib.hid hok
    have HT := Lib.hid hT
    have HR := Lib.hid hR
    have HX := Lib.hid hx
    have HF := Lib.hid hF
    have HS := Lib.hid hS
    have HB := Lib.hid hB
    have hwrw := hB.size
    have HTM := Lib.hid (show t.m ≤ k ∧ t.hs.length ≤ k ∧ k ≤ 200 from ⟨htm, hth, by omega⟩)
    clear hok hT hR hx hF hS htm hth hB
    by_cases hlt : k < len
    · have hkx : k < xs.length := by rw [HL.out]; exact hlt
      have hxr := R1.out.alloc HB.out
      obtain ⟨b, off, rfl, hb, k0, k1, k2, k3, hszc⟩ := rate_at hxr k hkx
      have hbw : b < w.heap.size := by
        obtain ⟨b', off', e, hb', -⟩ := rate_at R1.out k hkx
        cases e
        exact hb'
      have hrok := rate_ok hxr k hkx
      generalize rt xs[k] = r at k0 k1 k2 k3 hrok
      have hset := fun W (hT : TabT F W p g t) => Set_any F W p g t hT r hrok.1 hrok.2 (by have := HTM.out; omega)
      have href := fun W (hR : RefT S W (.agg #[.string g, .slice ha hl hc, .slice la ll lc]) g t.hs (rowsOf t.f ys)) => refSet_sum W _ g t.hs (rowsOf t.f ys) hR r hrok.1 hrok.2 (by have := HTM.out; omega) (by have := HTM.out; have := HOK.out.2; rw [rowsOf, List.length_map]; omega)
      rw [rset_eq g HOK.out r hrok.1] at href
      have hok' := HOK.out.set g r hrok.1
      have hm' := Tb.set_m g t r
      have hh' := Tb.set_hs g t r
      generalize insIf g t ys r = ys' at href hok'
      obtain ⟨er, t', hst⟩ : ∃ er t', t.set g r = (er, t') := ⟨_, _, rfl⟩
      rw [hst] at hset href hok' hm' hh'
      obtain ⟨rc, rk, rw_, rv⟩ := r
      simp only at k0 k1 k2 k3 href hset hok' hm' hh'
      unfold Rt.v rateV at hset href
      have HSET := Lib.hid hset
      have HREF := Lib.hid href
      have HOK' := Lib.hid hok'
      have HTM' := Lib.hid (show t'.m ≤ k + 1 ∧ t'.hs.length ≤ k + 1 by have := HTM.out; omega)
      have hkI : (k : Int) < (len : Int) := by omega
      clear hset href hok' hm' hh' hst hxr hrok hszc hb
      have hx0 : wr.cell? ⟨pn, 0, none⟩ = some (.string g) := blk_cell HX.out 0
      have hx1 : wr.cell? ⟨pn, 1, none⟩ = some (.slice ha hl hc) := blk_cell HX.out 1
      have hx2 : wr.cell? ⟨pn, 2, none⟩ = some (.slice la ll lc) := blk_cell HX.out 2
      go_wp2_with fail
      have hC0 : Cells [(⟨b, off + k * 4, none⟩, .string rc), (⟨b, off + k * 4 + 1, none⟩, .int .i64 rk), (⟨b, off + k * 4 + 2, none⟩, .int .i64 rw_), (⟨b, off + k * 4 + 3, none⟩, .int .i64 rv), (⟨pn, 0, none⟩, .string g), (⟨pn, 1, none⟩, .slice ha hl hc), (⟨pn, 2, none⟩, .slice la ll lc)] wr := ⟨k0, k1, k2, k3, hx0, hx1, hx2, trivial⟩
      clear k0 k1 k2 k3 hx0 hx1 hx2
      refine wp_region_T (Cells [(⟨b, off + k * 4, none⟩, .string rc), (⟨b, off + k * 4 + 1, none⟩, .int .i64 rk), (⟨b, off + k * 4 + 2, none⟩, .int .i64 rw_), (⟨b, off + k * 4 + 3, none⟩, .int .i64 rv), (⟨pn, 0, none⟩, .string g), (⟨pn, 1, none⟩, .slice ha hl hc), (⟨pn, 2, none⟩, .slice la ll lc)]) (fun _ => false) (by kernel_rfl) ?_
      have hSss1 := Cells.drew hC0
      have hB_0_s1 : Below wr.heap.size wr wr.drew := below_drew _
      generalize wr.drew = s1 at hSss1 hB_0_s1 ⊢
      have hB_s1_s1 := Below.refl s1.heap.size s1
      refine wpAnyT_pure (i := 1) (v := ?_) rfl (by kernel_rfl) (by kernel_rfl) (by kernel_rfl) (fun _ _ _ h => h) (by rfl) ?_ ?_
      rotate_left
      · intro w; go_simp; try with_reducible rfl
      simp only [Act.put, List.setIfInBounds_toArray, List.set_cons_zero, List.set_cons_succ, List.getElem_toArray, List.getElem_cons_succ, List.getElem_cons_zero]
      refine wpAnyT_pure (i := 2) (v := ?_) rfl (by kernel_rfl) (by kernel_rfl) (by kernel_rfl) (fun _ _ _ h => h) (by rfl) ?_ ?_
      rotate_left
      · intro w; go_simp; try with_reducible rfl
      simp only [Act.put, List.setIfInBounds_toArray, List.set_cons_zero, List.set_cons_succ, List.getElem_toArray, List.getElem_cons_succ, List.getElem_cons_zero]
      refine wpAnyT_pure (i := 3) (v := ?_) rfl (by kernel_rfl) (by kernel_rfl) (by kernel_rfl) (fun _ _ _ h => h) (by rfl) ?_ ?_
      rotate_left
      · intro w; go_simp; try with_reducible rfl
      simp only [Act.put, List.setIfInBounds_toArray, List.set_cons_zero, List.set_cons_succ, List.getElem_toArray, List.getElem_cons_succ, List.getElem_cons_zero]
      refine wpAnyT_loadW (i := 0) (v := ?_) rfl (by kernel_rfl) (by kernel_rfl) (by kernel_rfl) (by kernel_rfl) (by kernel_rfl) (fun _ _ _ h => h) (Or.inl ⟨by rfl, ?_⟩) hSss1 ?_
      rotate_left
      · intro w hSw; obtain ⟨e0, e1, e2, e3, e4, e5, e6, -⟩ := hSw; go_simp; try with_reducible rfl
      simp only [Act.put, List.setIfInBounds_toArray, List.set_cons_zero, List.set_cons_succ, List.getElem_toArray, List.getElem_cons_succ, List.getElem_cons_zero]
      refine wpAnyT_loadW (i := 4) (v := ?_) rfl (by kernel_rfl) (by kernel_rfl) (by kernel_rfl) (by kernel_rfl) (by kernel_rfl) (fun _ _ _ h => h) (Or.inl ⟨by rfl, ?_⟩) hSss1 ?_
      rotate_left
      · intro w hSw; obtain ⟨e0, e1, e2, e3, e4, e5, e6, -⟩ := hSw; go_simp; try with_reducible rfl
      simp only [Act.put, List.setIfInBounds_toArray, List.set_cons_zero, List.set_cons_succ, List.getElem_toArray, List.getElem_cons_succ, List.getElem_cons_zero]
      refine wpAnyT_two (i := 5) (k := 9) (by kernel_rfl) rfl rfl (by rfl) (by rfl) ?_ ?_
      · skip
        obtain ⟨z5, hz5⟩ : ∃ z, s1.heap.size = z := ⟨_, rfl⟩
        refine wp_enter (f := 15) (args := #[.agg #[.string g, .slice ha hl hc, .slice la ll lc], .agg #[.string rc, .int .i64 rk, .int .i64 rw_, .int .i64 rv]]) (by go_simp) (HREF.out _ (HR.out.below (hB_0_s1.trans ((hB_s1_s1).mono hB_0_s1.size)))) ?_
        rintro e w102 ⟨v5, rfl, ⟨-, ha5, hl5, hc5, la5, ll5, lc5, rfl, h51, h52⟩, hX⟩
        rw [hz5] at h51 h52
        have hP5 := (hB_s1_s1).size
        have HR51 := Lib.hid h51
        have HR52 := Lib.hid h52
        clear h51 h52
        have hB_s1_w102 := below_step hB_s1_s1 hX
        have hB_w102_w102 := Below.refl w102.heap.size w102
        have hSsw102 := Cells.below hB_s1_w102 hSss1
        clear hX
        refine ⟨_, rfl, fun _ _ => hSsw102, ?_⟩
        try simp only [Act.put, List.setIfInBounds_toArray, List.set_cons_zero, List.set_cons_succ, List.getElem_toArray, List.getElem_cons_succ, List.getElem_cons_zero]
        refine wpAnyT_pure (i := 6) (v := ?_) rfl (by kernel_rfl) (by kernel_rfl) (by kernel_rfl) (fun _ _ _ h => h) (by rfl) ?_ ?_
        rotate_left
        · intro w; go_simp; try with_reducible rfl
        simp only [Act.put, List.setIfInBounds_toArray, List.set_cons_zero, List.set_cons_succ, List.getElem_toArray, List.getElem_cons_succ, List.getElem_cons_zero]
        refine wpAnyT_pure (i := 7) (v := ?_) rfl (by kernel_rfl) (by kernel_rfl) (by kernel_rfl) (fun _ _ _ h => h) (by rfl) ?_ ?_
        rotate_left
        · intro w; go_simp; try with_reducible rfl
        simp only [Act.put, List.setIfInBounds_toArray, List.set_cons_zero, List.set_cons_succ, List.getElem_toArray, List.getElem_cons_succ, List.getElem_cons_zero]
        refine wpAnyT_pure (i := 8) (v := ?_) rfl (by kernel_rfl) (by kernel_rfl) (by kernel_rfl) (fun _ _ _ h => h) (by rfl) ?_ ?_
        rotate_left
        · intro w; go_simp; try with_reducible rfl
        simp only [Act.put, List.setIfInBounds_toArray, List.set_cons_zero, List.set_cons_succ, List.getElem_toArray, List.getElem_cons_succ, List.getElem_cons_zero]
        refine wpAnyT_one (i := 9) (by kernel_rfl) rfl (by rfl) ?_
        obtain ⟨b9, hb9⟩ : ∃ b, w102.heap.size = b := ⟨_, rfl⟩
        have hge9 : s1.heap.size ≤ b9 := hb9 ▸ (hB_s1_w102).size
        refine wp_newrow (v := .pointer (some ⟨b9, 0, none⟩)) (cs := #[.string ⟨#[]⟩, .slice none 0 0, .slice none 0 0]) (te := 30) (by rw [← hb9]; go_simp) ?_
        intro w103 hX hN9
        rw [hb9] at hN9
        have hB_s1_w103 := below_step hB_s1_w102 hX
        have hB_w102_w103 := below_step hB_w102_w102 hX
        have hB_w103_w103 := Below.refl w103.heap.size w103
        have hSsw103 := Cells.below hB_s1_w103 hSss1
        clear hX
        refine ⟨fun _ _ => hSsw103, ?_⟩
        try simp only [Act.put, List.setIfInBounds_toArray, List.set_cons_zero, List.set_cons_succ, List.getElem_toArray, List.getElem_cons_succ, List.getElem_cons_zero]
        refine wpAnyT_one (i := 10) (by kernel_rfl) rfl (by rfl) ?_
        have hq9 := ((hB_w103_w103).block _ (blk_lt hN9)).trans hN9
        refine wp_store_row 30 (.tmp 10) (.tmp 56) rfl b9 #[.string g, .slice ha5 hl5 hc5, .slice la5 ll5 lc5] (by kernel_rfl) (by kernel_rfl) 30 _ hq9 (by kernel_rfl) (by rfl) (by simp [Value.oneCell']) ?_
        have hblk := setRow_heap (w103) b9 _ #[.string g, .slice ha5 hl5 hc5, .slice la5 ll5 lc5] _ _ hq9
        have hX := Below.setRow' (hB_s1_w103) hge9 #[.string g, .slice ha5 hl5 hc5, .slice la5 ll5 lc5]
        have hgr : Gr (fun b => b = b9) (w103) ((w103).setRow b9 #[.string g, .slice ha5 hl5 hc5, .slice la5 ll5 lc5]) := ⟨rfl, rfl, rfl, by simp, fun k hk hf => setRow_other _ _ _ _ hf⟩
        generalize (w103).setRow b9 #[.string g, .slice ha5 hl5 hc5, .slice la5 ll5 lc5] = w104 at hblk hX hgr ⊢
        have hnot : b9 < z5 ∨ w102.heap.size ≤ b9 := by first | exact .inl (by have := blk_lt hN9; omega) | exact .inr (by omega)
        have hSx : ∀ b, (S b ∨ (z5 ≤ b ∧ b < w102.heap.size)) → b < w102.heap.size ∧ b ≠ b9 := fun b hb => by
          rcases hb with hb | hb
          · have := HR.out.1 b hb
            have := hB_0_s1.size
            have := (hB_s1_w102).size
            omega
          · omega
        have hfin : ∃ S5 : Nat → Prop, Rd (.sl rateT) S5 w104 [.slice ha5 hl5 hc5] t'.hs ∧ Rd (.sl rateT) S5 w104 [.slice la5 ll5 lc5] (rowsOf t'.f ys') ∧ ∀ b, S5 b → b < w104.heap.size ∧ (S b ∨ wr.heap.size ≤ b) :=
          ⟨fun b => S b ∨ (z5 ≤ b ∧ b < w102.heap.size), (HR51.out.below hB_w102_w103 (fun b hb => (hSx b hb).1)).gr hgr (fun b hb => ⟨Nat.lt_of_lt_of_le (hSx b hb).1 (hB_w102_w103).size, (hSx b hb).2⟩) (fun _ h => h),
            (HR52.out.below hB_w102_w103 (fun b hb => (hSx b hb).1)).gr hgr (fun b hb => ⟨Nat.lt_of_lt_of_le (hSx b hb).1 (hB_w102_w103).size, (hSx b hb).2⟩) (fun _ h => h),
            fun b hb => ⟨Nat.lt_of_lt_of_le (hSx b hb).1 (Nat.le_trans (hB_w102_w103).size hgr.size), hb.elim .inl (fun h => .inr (by have := hB_0_s1.size; have := hP5; omega))⟩⟩
        obtain ⟨S5, h51, h52, h53⟩ := hfin
        have HN1 := Lib.hid h51
        have HN2 := Lib.hid h52
        have HN3 := Lib.hid h53
        have hge9' := hge9
        clear hgr hnot hSx h51 h52 h53 HR51 HR52
        have hB_s1_w104 := hX
        have hB_w104_w104 := Below.refl w104.heap.size w104
        have hSsw104 := Cells.below hB_s1_w104 hSss1
        clear hX
        refine ⟨fun _ _ => hSsw104, ?_⟩
        try simp only [Act.put, List.setIfInBounds_toArray, List.set_cons_zero, List.set_cons_succ, List.getElem_toArray, List.getElem_cons_succ, List.getElem_cons_zero]
        refine wpAnyT_pure (i := 11) (v := ?_) rfl (by kernel_rfl) (by kernel_rfl) (by kernel_rfl) (fun _ _ _ h => h) (by rfl) ?_ ?_
        rotate_left
        · intro w; go_simp; try with_reducible rfl
        simp only [Act.put, List.setIfInBounds_toArray, List.set_cons_zero, List.set_cons_succ, List.getElem_toArray, List.getElem_cons_succ, List.getElem_cons_zero]
        refine wpAnyT_done (by kernel_rfl) ?_ _
        obtain ⟨k0, k1, k2, k3, x0, x1, x2, -⟩ := hSsw104
        have hwrP : Below wr.heap.size wr w104 := hB_0_s1.trans ((hB_s1_w104).mono hB_0_s1.size)
        have hszP := hwrP.size
        have hwr9 : wr.heap.size ≤ b9 := Nat.le_trans hB_0_s1.size hge9
        have hTP : TabT F w104 p g t := TabIn.below HT.out hwrP
        have hpP : w104.heap[pn]? = some (.cells #[.string g, .slice ha hl hc, .slice la ll lc] 30 (0, 0)) := (hwrP.block pn (blk_lt HX.out)).trans HX.out
        have hpnl := blk_lt HX.out
        have HTP := Lib.hid hTP
        have HPP := Lib.hid hpP
        have HBL := Lib.hid hblk
        have HWP := Lib.hid hwrP
        clear hTP hpP hblk hwrP
        go_wp2_with (go_at_call 16; refine (HSET.out _ HTP.out).mono ?_; rintro e w7 ⟨rfl, F7, hT7, hF7, hG7⟩; have hb7 := blk_gr hG7 HBL.out (fun h => by have := HT.out.1 _ h; omega); have hp7 := blk_gr hG7 HPP.out (fun h => (HF.out _ h).2.1 rfl); have y0 := blk_cell hb7 0; have y1 := blk_cell hb7 1; have y2 := blk_cell hb7 2; have z0 := blk_cell hp7 0; have z1 := blk_cell hp7 1; have z2 := blk_cell hp7 2; have f0 := blk_frozen hp7 0; have f1 := blk_frozen hp7 1; have f2 := blk_frozen hp7 2; simp at y0 y1 y2 z0 z1 z2; have HT7 := Lib.hid hT7; have HF7 := Lib.hid hF7; have HG7 := Lib.hid hG7; have HP7 := Lib.hid hp7; clear hT7 hF7 hG7 hb7 hp7)
        have hp8 := blk_set (blk_set (blk_set HP7.out (.string g) (i := 0)) (.slice ha5 hl5 hc5) (i := 1)) (.slice la5 ll5 lc5) (i := 2)
        have hg8 : Gr (fun b => b = pn) w7 (((w7.setCell ⟨pn, 0, none⟩ (.string g)).setCell ⟨pn, 1, none⟩ (.slice ha5 hl5 hc5)).setCell ⟨pn, 2, none⟩ (.slice la5 ll5 lc5)) := (((Gr.refl (fun b => b = pn) w7).setCell (p := ⟨pn, 0, none⟩) (Or.inl rfl) _).setCell (p := ⟨pn, 1, none⟩) (Or.inl rfl) _).setCell (p := ⟨pn, 2, none⟩) (Or.inl rfl) _
        have hB8 : Below w.heap.size w (((w7.setCell ⟨pn, 0, none⟩ (.string g)).setCell ⟨pn, 1, none⟩ (.slice ha5 hl5 hc5)).setCell ⟨pn, 2, none⟩ (.slice la5 ll5 lc5)) := (((((below_step HB.out HWP.out).trans (HG7.out.below (fun b hb => (HF.out b hb).1) (below_step HB.out HWP.out).size)).setCell (p := ⟨pn, 0, none⟩) hpnw _).setCell (p := ⟨pn, 1, none⟩) hpnw _).setCell (p := ⟨pn, 2, none⟩) hpnw _)
        generalize ((w7.setCell ⟨pn, 0, none⟩ (.string g)).setCell ⟨pn, 1, none⟩ (.slice ha5 hl5 hc5)).setCell ⟨pn, 2, none⟩ (.slice la5 ll5 lc5) = w8 at hp8 hg8 hB8 ⊢
        have hgs7 := HG7.out.size
        go_roundw
        case rel =>
          refine ⟨k + 1, F7, S5, t', ys', ha5, hl5, hc5, la5, ll5, lc5, by omega, by go_num, HOK'.out, ?_, ?_, ?_, ?_, ?_, HTM'.out.1, HTM'.out.2, hB8⟩
          · refine TabIn.gr HT7.out hg8 (fun b hb e => ?_)
            rcases HF7.out b hb with h | h
            · exact (HF.out b h).2.1 e
            · omega
          · have hR8 : RefT S5 w104 (.agg #[.string g, .slice ha5 hl5 hc5, .slice la5 ll5 lc5]) g t'.hs (rowsOf t'.f ys') := ⟨fun b hb => (HN3.out b hb).1, ha5, hl5, hc5, la5, ll5, lc5, rfl, HN1.out, HN2.out⟩
            refine (hR8.gr HG7.out (fun b hb e => ?_)).gr hg8 (fun b hb e => ?_)
            · rcases (HN3.out b hb).2 with h | h
              · exact (HF.out b e).2.2 h
              · have := HT.out.1 b e; omega
            · rcases (HN3.out b hb).2 with h | h
              · exact HS.out b h e
              · omega
          · simpa using hp8
          · intro b hb
            rcases HF7.out b hb with h | h
            · refine ⟨(HF.out b h).1, (HF.out b h).2.1, fun e => ?_⟩
              rcases (HN3.out b e).2 with h' | h'
              · exact (HF.out b h).2.2 h'
              · have := HT.out.1 b h; omega
            · refine ⟨by omega, by omega, fun e => ?_⟩
              have := (HN3.out b e).1
              omega
          · intro b hb e
            rcases (HN3.out b hb).2 with h | h
            · exact HS.out b h e
            · omega
        case measure => simp [intOf]; omega
      · skip
        obtain ⟨b9, hb9⟩ : ∃ b, s1.heap.size = b := ⟨_, rfl⟩
        have hge9 : s1.heap.size ≤ b9 := hb9 ▸ (hB_s1_s1).size
        refine wp_newrow (v := .pointer (some ⟨b9, 0, none⟩)) (cs := #[.string ⟨#[]⟩, .slice none 0 0, .slice none 0 0]) (te := 30) (by rw [← hb9]; go_simp) ?_
        intro w105 hX hN9
        rw [hb9] at hN9
        have hB_s1_w105 := below_step hB_s1_s1 hX
        have hB_w105_w105 := Below.refl w105.heap.size w105
        have hSsw105 := Cells.below hB_s1_w105 hSss1
        clear hX
        refine ⟨fun _ _ => hSsw105, ?_⟩
        try simp only [Act.put, List.setIfInBounds_toArray, List.set_cons_zero, List.set_cons_succ, List.getElem_toArray, List.getElem_cons_succ, List.getElem_cons_zero]
        refine wpAnyT_one (i := 5) (by kernel_rfl) rfl (by rfl) ?_
        obtain ⟨z5, hz5⟩ : ∃ z, w105.heap.size = z := ⟨_, rfl⟩
        refine wp_enter (f := 15) (args := #[.agg #[.string g, .slice ha hl hc, .slice la ll lc], .agg #[.string rc, .int .i64 rk, .int .i64 rw_, .int .i64 rv]]) (by go_simp) (HREF.out _ (HR.out.below (hB_0_s1.trans ((hB_s1_w105).mono hB_0_s1.size)))) ?_
        rintro e w106 ⟨v5, rfl, ⟨-, ha5, hl5, hc5, la5, ll5, lc5, rfl, h51, h52⟩, hX⟩
        rw [hz5] at h51 h52
        have hP5 := (hB_s1_w105).size
        have HR51 := Lib.hid h51
        have HR52 := Lib.hid h52
        clear h51 h52
        have hB_s1_w106 := below_step hB_s1_w105 hX
        have hB_w105_w106 := below_step hB_w105_w105 hX
        have hB_w106_w106 := Below.refl w106.heap.size w106
        have hSsw106 := Cells.below hB_s1_w106 hSss1
        clear hX
        refine ⟨_, rfl, fun _ _ => hSsw106, ?_⟩
        try simp only [Act.put, List.setIfInBounds_toArray, List.set_cons_zero, List.set_cons_succ, List.getElem_toArray, List.getElem_cons_succ, List.getElem_cons_zero]
        refine wpAnyT_pure (i := 6) (v := ?_) rfl (by kernel_rfl) (by kernel_rfl) (by kernel_rfl) (fun _ _ _ h => h) (by rfl) ?_ ?_
        rotate_left
        · intro w; go_simp; try with_reducible rfl
        simp only [Act.put, List.setIfInBounds_toArray, List.set_cons_zero, List.set_cons_succ, List.getElem_toArray, List.getElem_cons_succ, List.getElem_cons_zero]
        refine wpAnyT_pure (i := 7) (v := ?_) rfl (by kernel_rfl) (by kernel_rfl) (by kernel_rfl) (fun _ _ _ h => h) (by rfl) ?_ ?_
        rotate_left
        · intro w; go_simp; try with_reducible rfl
        simp only [Act.put, List.setIfInBounds_toArray, List.set_cons_zero, List.set_cons_succ, List.getElem_toArray, List.getElem_cons_succ, List.getElem_cons_zero]
        refine wpAnyT_pure (i := 8) (v := ?_) rfl (by kernel_rfl) (by kernel_rfl) (by kernel_rfl) (fun _ _ _ h => h) (by rfl) ?_ ?_
        rotate_left
        · intro w; go_simp; try with_reducible rfl
        simp only [Act.put, List.setIfInBounds_toArray, List.set_cons_zero, List.set_cons_succ, List.getElem_toArray, List.getElem_cons_succ, List.getElem_cons_zero]
        refine wpAnyT_one (i := 10) (by kernel_rfl) rfl (by rfl) ?_
        have hq9 := ((hB_w105_w106).block _ (blk_lt hN9)).trans hN9
        refine wp_store_row 30 (.tmp 10) (.tmp 56) rfl b9 #[.string g, .slice ha5 hl5 hc5, .slice la5 ll5 lc5] (by kernel_rfl) (by kernel_rfl) 30 _ hq9 (by kernel_rfl) (by rfl) (by simp [Value.oneCell']) ?_
        have hblk := setRow_heap (w106) b9 _ #[.string g, .slice ha5 hl5 hc5, .slice la5 ll5 lc5] _ _ hq9
        have hX := Below.setRow' (hB_s1_w106) hge9 #[.string g, .slice ha5 hl5 hc5, .slice la5 ll5 lc5]
        have hgr : Gr (fun b => b = b9) (w106) ((w106).setRow b9 #[.string g, .slice ha5 hl5 hc5, .slice la5 ll5 lc5]) := ⟨rfl, rfl, rfl, by simp, fun k hk hf => setRow_other _ _ _ _ hf⟩
        generalize (w106).setRow b9 #[.string g, .slice ha5 hl5 hc5, .slice la5 ll5 lc5] = w107 at hblk hX hgr ⊢
        have hnot : b9 < z5 ∨ w106.heap.size ≤ b9 := by first | exact .inl (by have := blk_lt hN9; omega) | exact .inr (by omega)
        have hSx : ∀ b, (S b ∨ (z5 ≤ b ∧ b < w106.heap.size)) → b < w106.heap.size ∧ b ≠ b9 := fun b hb => by
          rcases hb with hb | hb
          · have := HR.out.1 b hb
            have := hB_0_s1.size
            have := (hB_s1_w106).size
            omega
          · omega
        have hfin : ∃ S5 : Nat → Prop, Rd (.sl rateT) S5 w107 [.slice ha5 hl5 hc5] t'.hs ∧ Rd (.sl rateT) S5 w107 [.slice la5 ll5 lc5] (rowsOf t'.f ys') ∧ ∀ b, S5 b → b < w107.heap.size ∧ (S b ∨ wr.heap.size ≤ b) :=
          ⟨fun b => S b ∨ (z5 ≤ b ∧ b < w106.heap.size), (HR51.out.below hB_w106_w106 (fun b hb => (hSx b hb).1)).gr hgr (fun b hb => ⟨Nat.lt_of_lt_of_le (hSx b hb).1 (hB_w106_w106).size, (hSx b hb).2⟩) (fun _ h => h),
            (HR52.out.below hB_w106_w106 (fun b hb => (hSx b hb).1)).gr hgr (fun b hb => ⟨Nat.lt_of_lt_of_le (hSx b hb).1 (hB_w106_w106).size, (hSx b hb).2⟩) (fun _ h => h),
            fun b hb => ⟨Nat.lt_of_lt_of_le (hSx b hb).1 (Nat.le_trans (hB_w106_w106).size hgr.size), hb.elim .inl (fun h => .inr (by have := hB_0_s1.size; have := hP5; omega))⟩⟩
        obtain ⟨S5, h51, h52, h53⟩ := hfin
        have HN1 := Lib.hid h51
        have HN2 := Lib.hid h52
        have HN3 := Lib.hid h53
        have hge9' := hge9
        clear hgr hnot hSx h51 h52 h53 HR51 HR52
        have hB_s1_w107 := hX
        have hB_w107_w107 := Below.refl w107.heap.size w107
        have hSsw107 := Cells.below hB_s1_w107 hSss1
        clear hX
        refine ⟨fun _ _ => hSsw107, ?_⟩
        try simp only [Act.put, List.setIfInBounds_toArray, List.set_cons_zero, List.set_cons_succ, List.getElem_toArray, List.getElem_cons_succ, List.getElem_cons_zero]
        refine wpAnyT_pure (i := 11) (v := ?_) rfl (by kernel_rfl) (by kernel_rfl) (by kernel_rfl) (fun _ _ _ h => h) (by rfl) ?_ ?_
        rotate_left
        · intro w; go_simp; try with_reducible rfl
        simp only [Act.put, List.setIfInBounds_toArray, List.set_cons_zero, List.set_cons_succ, List.getElem_toArray, List.getElem_cons_succ, List.getElem_cons_zero]
        refine wpAnyT_done (by kernel_rfl) ?_ _
        obtain ⟨k0, k1, k2, k3, x0, x1, x2, -⟩ := hSsw107
        have hwrP : Below wr.heap.size wr w107 := hB_0_s1.trans ((hB_s1_w107).mono hB_0_s1.size)
        have hszP := hwrP.size
        have hwr9 : wr.heap.size ≤ b9 := Nat.le_trans hB_0_s1.size hge9
        have hTP : TabT F w107 p g t := TabIn.below HT.out hwrP
        have hpP : w107.heap[pn]? = some (.cells #[.string g, .slice ha hl hc, .slice la ll lc] 30 (0, 0)) := (hwrP.block pn (blk_lt HX.out)).trans HX.out
        have hpnl := blk_lt HX.out
        have HTP := Lib.hid hTP
        have HPP := Lib.hid hpP
        have HBL := Lib.hid hblk
        have HWP := Lib.hid hwrP
        clear hTP hpP hblk hwrP
        go_wp2_with (go_at_call 16; refine (HSET.out _ HTP.out).mono ?_; rintro e w7 ⟨rfl, F7, hT7, hF7, hG7⟩; have hb7 := blk_gr hG7 HBL.out (fun h => by have := HT.out.1 _ h; omega); have hp7 := blk_gr hG7 HPP.out (fun h => (HF.out _ h).2.1 rfl); have y0 := blk_cell hb7 0; have y1 := blk_cell hb7 1; have y2 := blk_cell hb7 2; have z0 := blk_cell hp7 0; have z1 := blk_cell hp7 1; have z2 := blk_cell hp7 2; have f0 := blk_frozen hp7 0; have f1 := blk_frozen hp7 1; have f2 := blk_frozen hp7 2; simp at y0 y1 y2 z0 z1 z2; have HT7 := Lib.hid hT7; have HF7 := Lib.hid hF7; have HG7 := Lib.hid hG7; have HP7 := Lib.hid hp7; clear hT7 hF7 hG7 hb7 hp7)
        have hp8 := blk_set (blk_set (blk_set HP7.out (.string g) (i := 0)) (.slice ha5 hl5 hc5) (i := 1)) (.slice la5 ll5 lc5) (i := 2)
        have hg8 : Gr (fun b => b = pn) w7 (((w7.setCell ⟨pn, 0, none⟩ (.string g)).setCell ⟨pn, 1, none⟩ (.slice ha5 hl5 hc5)).setCell ⟨pn, 2, none⟩ (.slice la5 ll5 lc5)) := (((Gr.refl (fun b => b = pn) w7).setCell (p := ⟨pn, 0, none⟩) (Or.inl rfl) _).setCell (p := ⟨pn, 1, none⟩) (Or.inl rfl) _).setCell (p := ⟨pn, 2, none⟩) (Or.inl rfl) _
        have hB8 : Below w.heap.size w (((w7.setCell ⟨pn, 0, none⟩ (.string g)).setCell ⟨pn, 1, none⟩ (.slice ha5 hl5 hc5)).setCell ⟨pn, 2, none⟩ (.slice la5 ll5 lc5)) := (((((below_step HB.out HWP.out).trans (HG7.out.below (fun b hb => (HF.out b hb).1) (below_step HB.out HWP.out).size)).setCell (p := ⟨pn, 0, none⟩) hpnw _).setCell (p := ⟨pn, 1, none⟩) hpnw _).setCell (p := ⟨pn, 2, none⟩) hpnw _)
        generalize ((w7.setCell ⟨pn, 0, none⟩ (.string g)).setCell ⟨pn, 1, none⟩ (.slice ha5 hl5 hc5)).setCell ⟨pn, 2, none⟩ (.slice la5 ll5 lc5) = w8 at hp8 hg8 hB8 ⊢
        have hgs7 := HG7.out.size
        go_roundw
        case rel =>
          refine ⟨k + 1, F7, S5, t', ys', ha5, hl5, hc5, la5, ll5, lc5, by omega, by go_num, HOK'.out, ?_, ?_, ?_, ?_, ?_, HTM'.out.1, HTM'.out.2, hB8⟩
          · refine TabIn.gr HT7.out hg8 (fun b hb e => ?_)
            rcases HF7.out b hb with h | h
            · exact (HF.out b h).2.1 e
            · omega
          · have hR8 : RefT S5 w107 (.agg #[.string g, .slice ha5 hl5 hc5, .slice la5 ll5 lc5]) g t'.hs (rowsOf t'.f ys') := ⟨fun b hb => (HN3.out b hb).1, ha5, hl5, hc5, la5, ll5, lc5, rfl, HN1.out, HN2.out⟩
            refine (hR8.gr HG7.out (fun b hb e => ?_)).gr hg8 (fun b hb e => ?_)
            · rcases (HN3.out b hb).2 with h | h
              · exact (HF.out b e).2.2 h
              · have := HT.out.1 b e; omega
            · rcases (HN3.out b hb).2 with h | h
              · exact HS.out b h e
              · omega
          · simpa using hp8
          · intro b hb
            rcases HF7.out b hb with h | h
            · refine ⟨(HF.out b h).1, (HF.out b h).2.1, fun e => ?_⟩
              rcases (HN3.out b e).2 with h' | h'
              · exact (HF.out b h).2.2 h'
              · have := HT.out.1 b h; omega
            · refine ⟨by omega, by omega, fun e => ?_⟩
              have := (HN3.out b e).1
              omega
          · intro b hb e
            rcases (HN3.out b hb).2 with h | h
            · exact HS.out b h e
            · omega
        case measure => simp [intOf]; omega
    · obtain rfl : k = len := by omega
      have hx0 : wr.cell? ⟨pn, 0, none⟩ = some (.string g) := blk_cell HX.out 0
      have hx1 : wr.cell? ⟨pn, 1, none⟩ = some (.slice ha hl hc) := blk_cell HX.out 1
      have hx2 : wr.cell? ⟨pn, 2, none⟩ = some (.slice la ll lc) := blk_cell HX.out 2
      go_wp2_with (go_at_call 17; refine (same16_sum F S wr p g t ys HOK.out HT.out (by have := HTM.out; omega) (by have := HTM.out; omega) _ HR.out).mono ?_; rintro e w9 ⟨rfl, hB9⟩)
      go_ret
      exact ⟨rfl, below_step HB.out hB9⟩
end Go.Proofs.Ytmlekhkgokgpbaa
