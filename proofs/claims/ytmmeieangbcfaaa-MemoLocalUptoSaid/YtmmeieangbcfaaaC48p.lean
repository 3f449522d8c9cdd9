/- Layer 48: same. -/
import Derived.Test.YtmmeieangbcfaaaC48o
import Derived.Test.YtmmeieangbcfaaaDefF
set_option linter.unusedSimpArgs false
namespace Go.Proofs.Ytmmeieangbcfaaa
open Go.RowKit Go

set_option maxRecDepth 20000 in
set_option maxHeartbeats 1000000 in
theorem same_step (l : List Fm) (SB : Nat → Prop) (sp p kb pb n : Nat) (hG : ∀ m, m < n → GetC l SB sp p kb pb m) : SameC l SB sp p kb pb n := by
  intro F w s st sv cv eb a len cap reads r s' h hst hsh hs hx hg
  have hB1 : Below w.heap.size w (w.alloc (.cells #[.pointer (some ⟨p, 0, none⟩)] 28)) := (Below.refl _ w).alloc (Nat.le_refl _) _
  have hmb := heap_alloc_new w (.cells #[.pointer (some ⟨p, 0, none⟩)] 28)
  have h1 := h.below hB1
  have HMB := Lib.hid hmb
  have HB1 := Lib.hid hB1
  have H1 := Lib.hid h1
  have H := Lib.hid h
  have HG := Lib.hid hG
  have HSM := Lib.hid hg
  have HX := Lib.hid hx
  have HSH := Lib.hid hsh
  have HS := Lib.hid hs
  have HST := Lib.hid hst
  clear h hmb hB1 h1 hG hg hx hsh hs hst
  refine calls_of_wp_deferF Try.func24 rfl ?_
  simp only [Try.ntmps24, List.size_toArray, List.length_cons, List.length_nil, Nat.reduceAdd, Nat.reduceSub, Array.replicate_succ, Array.replicate_zero, List.push_toArray, List.append_toArray, List.nil_append, List.cons_append]
  go_wp2_with fail
  generalize w.alloc (.cells #[.pointer (some ⟨p, 0, none⟩)] 28) = w1 at *
  have hC1 : Cells [(⟨w.heap.size, 0, none⟩, .pointer (some ⟨p, 0, none⟩)), (⟨p, 3, none⟩, sv)] w1 := ⟨blk_cell HMB.out 0, blk_cell H1.out.row 3, trivial⟩
  refine wp_region_T (Cells [(⟨w.heap.size, 0, none⟩, .pointer (some ⟨p, 0, none⟩)), (⟨p, 3, none⟩, sv)]) (fun i => i == 9) (by kernel_rfl) ?_
  have hSss1 := Cells.drew hC1
  have hB_0_s1 : Below w1.heap.size w1 w1.drew := below_drew _
  generalize w1.drew = s1 at hSss1 hB_0_s1 ⊢
  have hB_s1_s1 := Below.refl s1.heap.size s1
  refine wpAnyT_loadW (i := 0) (v := ?_) rfl (by kernel_rfl) (by kernel_rfl) (by kernel_rfl) (by kernel_rfl) (by kernel_rfl) (fun _ _ _ h => h) (Or.inl ⟨by rfl, ?_⟩) hSss1 ?_
  rotate_left
  · intro w hSw; obtain ⟨e0, e1, -⟩ := hSw; go_simp; try with_reducible rfl
  simp only [Act.put, List.setIfInBounds_toArray, List.set_cons_zero, List.set_cons_succ, List.getElem_toArray, List.getElem_cons_succ, List.getElem_cons_zero]
  refine wpAnyT_loadW (i := 1) (v := ?_) rfl (by kernel_rfl) (by kernel_rfl) (by kernel_rfl) (by kernel_rfl) (by kernel_rfl) (fun _ _ _ h => h) (Or.inl ⟨by rfl, ?_⟩) hSss1 ?_
  rotate_left
  · intro w hSw; obtain ⟨e0, e1, -⟩ := hSw; go_simp; try with_reducible rfl
  simp only [Act.put, List.setIfInBounds_toArray, List.set_cons_zero, List.set_cons_succ, List.getElem_toArray, List.getElem_cons_succ, List.getElem_cons_zero]
  refine wpAnyT_pure (i := 2) (v := ?_) rfl (by kernel_rfl) (by kernel_rfl) (by kernel_rfl) (fun _ _ _ h => h) (by rfl) ?_ ?_
  rotate_left
  · intro w; go_simp; try with_reducible rfl
  simp only [Act.put, List.setIfInBounds_toArray, List.set_cons_zero, List.set_cons_succ, List.getElem_toArray, List.getElem_cons_succ, List.getElem_cons_zero]
  refine wpAnyT_pure (i := 3) (v := ?_) rfl (by kernel_rfl) (by kernel_rfl) (by kernel_rfl) (fun _ _ _ h => h) (by rfl) ?_ ?_
  rotate_left
  · intro w; go_simp; try with_reducible rfl
  simp only [Act.put, List.setIfInBounds_toArray, List.set_cons_zero, List.set_cons_succ, List.getElem_toArray, List.getElem_cons_succ, List.getElem_cons_zero]
  refine wpAnyT_loadW (i := 4) (v := ?_) rfl (by kernel_rfl) (by kernel_rfl) (by kernel_rfl) (by kernel_rfl) (by kernel_rfl) (fun _ _ _ h => h) (Or.inl ⟨by rfl, ?_⟩) hSss1 ?_
  rotate_left
  · intro w hSw; obtain ⟨e0, e1, -⟩ := hSw; go_simp; try with_reducible rfl
  simp only [Act.put, List.setIfInBounds_toArray, List.set_cons_zero, List.set_cons_succ, List.getElem_toArray, List.getElem_cons_succ, List.getElem_cons_zero]
  refine wpAnyT_one (i := 5) (by kernel_rfl) rfl (by rfl) ?_
  obtain ⟨b5, hb5⟩ : ∃ b, s1.heap.size = b := ⟨_, rfl⟩
  refine wp_newrow (v := .slice (some ⟨b5, 0, none⟩) 1 1) (cs := #[.pointer none]) (te := 61) (by rw [← hb5]; go_simp) ?_
  intro w102 hX hN5
  rw [hb5] at hN5
  have hB_s1_w102 := below_step hB_s1_s1 hX
  have hB_w102_w102 := Below.refl w102.heap.size w102
  have hSsw102 := Cells.below hB_s1_w102 hSss1
  clear hX
  refine ⟨fun _ _ => hSsw102, ?_⟩
  try simp only [Act.put, List.setIfInBounds_toArray, List.set_cons_zero, List.set_cons_succ, List.getElem_toArray, List.getElem_cons_succ, List.getElem_cons_zero]
  refine wpAnyT_one (i := 6) (by kernel_rfl) rfl (by rfl) ?_
  have hq5 := ((hB_w102_w102).block _ (blk_lt hN5)).trans hN5
  have hbP : Below w1.heap.size w1 w102 := hB_0_s1.trans ((hB_s1_w102).mono (hB_0_s1).size)
  have HMP := Lib.hid (H1.out.below hbP)
  refine wp_push (.tmp 13) (.tmp 14) rfl (sv := sv) (st := st) (b := b5) (q := none) (by kernel_rfl) HMP.out.stk (by have := HST.out; omega) (by kernel_rfl) hq5 ?_
  intro ca6 cl6 cc6 w103 O6 g6 ob6
  obtain ⟨F2, hM2, hF2, hG2⟩ := HMP.out.setStack g6 O6 (fun b hb => by rcases ob6 with e | e; exact .inl (e ▸ hb); exact .inr (by rw [e] at hb; obtain rfl := Option.some.inj hb; exact Nat.le_refl _))
  have hpw : sv.ownBlock ≠ some p := fun e => by have h1 := H1.out.sf p e; have h2 := H1.out.fp; omega
  have hr6 := blk_gr (Gr.of_grown g6) HMP.out.row hpw
  have f6 := blk_frozen hr6 3
  have c6 := blk_cell hr6 3
  simp at c6
  have HBP := Lib.hid (below_step HB1.out hbP)
  have hmp := (hbP.block _ (blk_lt HMB.out)).trans HMB.out
  have hm6 := blk_gr (Gr.of_grown g6) hmp (fun e => by have := row_lt H.out.stk e; omega)
  have hXS : Cells [(⟨w.heap.size, 0, none⟩, .pointer (some ⟨p, 0, none⟩)), (⟨p, 3, none⟩, sv)] w103 := ⟨blk_cell hm6 0, blk_cell hr6 3, trivial⟩
  have HM6 := Lib.hid hm6
  have HLT := Lib.hid (Nat.lt_of_lt_of_le (blk_lt HMB.out) hbP.size)
  clear O6 g6 ob6 hr6 hbP hmp hm6
  have hSsw103 := hXS
  have hB_w103_w103 := Below.refl w103.heap.size w103
  refine ⟨fun _ _ => hSsw103, ?_⟩
  try simp only [Act.put, List.setIfInBounds_toArray, List.set_cons_zero, List.set_cons_succ, List.getElem_toArray, List.getElem_cons_succ, List.getElem_cons_zero]
  refine wpAnyT_pure (i := 7) (v := ?_) rfl (by kernel_rfl) (by kernel_rfl) (by kernel_rfl) (fun _ _ _ h => h) (by rfl) ?_ ?_
  rotate_left
  · intro w; go_simp; try with_reducible rfl
  simp only [Act.put, List.setIfInBounds_toArray, List.set_cons_zero, List.set_cons_succ, List.getElem_toArray, List.getElem_cons_succ, List.getElem_cons_zero]
  refine wpAnyT_pure (i := 8) (v := ?_) rfl (by kernel_rfl) (by kernel_rfl) (by kernel_rfl) (fun _ _ _ h => h) (by rfl) ?_ ?_
  rotate_left
  · intro w; go_simp; try with_reducible rfl
  simp only [Act.put, List.setIfInBounds_toArray, List.set_cons_zero, List.set_cons_succ, List.getElem_toArray, List.getElem_cons_succ, List.getElem_cons_zero]
  refine wpAnyT_one (i := 9) (by kernel_rfl) rfl (by rfl) ?_
  refine wp_store1 (w' := (w103).setCell ⟨p, 3, none⟩ (.slice ca6 cl6 cc6)) 66 (.tmp 17) (.tmp 15) rfl ⟨p, 3, none⟩ (.slice ca6 cl6 cc6) (by kernel_rfl) (by kernel_rfl) (by go_simp) ?_
  have hm9 := blk_gr (gr_setCell (w103) p 3 (.slice ca6 cl6 cc6)) HM6.out (fun e => by have := blk_lt H.out.row; omega)
  generalize (w103).setCell ⟨p, 3, none⟩ (.slice ca6 cl6 cc6) = w104 at hM2 hG2 hm9 ⊢
  refine ⟨fun h => absurd h (by decide), ?_⟩
  try simp only [Act.put, List.setIfInBounds_toArray, List.set_cons_zero, List.set_cons_succ, List.getElem_toArray, List.getElem_cons_succ, List.getElem_cons_zero]
  refine wpAnyT_done (by kernel_rfl) ?_ _
  obtain ⟨w2, rfl⟩ : ∃ x, x = w104 := ⟨_, rfl⟩
  have H2 := Lib.hid hM2
  have HF2 := Lib.hid (show ∀ b, b < w.heap.size → F2 b = F b from fun b hb => hF2 b (Nat.lt_of_lt_of_le hb HBP.out.size))
  have HG2 := Lib.hid ((Gr.of_below (F := Mem F) HBP.out).trans hG2 (fun _ h => .inl h))
  have HM2 := Lib.hid hm9
  have HF20 := Lib.hid (show F2 w.heap.size = 0 from (hF2 _ HLT.out).trans (by by_cases e : F w.heap.size = 0; exact e; exact absurd (H.out.dom _ e) (by omega)))
  clear hM2 hF2 hG2 f6 c6 hm9
  go_wp2_with fail
  go_loopw [6, 7, 8, 21] (fun _ _ _ i wr => ∃ (k m : Nat) (F' : Nat → Nat) (s1 : MS) (sv1 cv1 : Value) (eb1 : C4 → Option Nat), k ≤ len ∧ m ≤ n ∧ i = .int .i64 k ∧ MemoIn F' wr p (sheetV sp) s1 (st ++ [none]) kb pb sv1 cv1 eb1 ∧ sameM l m s1 (reads.drop k) = some (r, s') ∧ (∀ b, b < w2.heap.size → F' b = F2 b) ∧ Gr (Mem F2) w2 wr ∧ s1.prog = s.prog ∧ (∀ d, s.prog d = true → eb1 d = eb d)) (fun _ _ _ i _ => len - (intOf i).toNat)
  case atStart => exact ⟨0, n, F2, s, _, _, _, Nat.zero_le _, Nat.le_refl _, rfl, H2.out, HSM.out, fun _ _ => rfl, Gr.refl _ _, rfl, fun _ _ => rfl⟩
  case round =>
    obtain ⟨k, m, F', s1, sv1, cv1, eb1, hk, hm, rfl, hM, hsm, hF', hG', hpr, hK⟩ := hrel
    have hlen : reads.length = len := by have := HX.out.sl_flat.1; rwa [show (rdsD reads).length = reads.length from List.length_map _] at this
    have hmw := blk_gr hG' HM2.out (fun e => e.1 HF20.out)
    by_cases hlt : k < len
    · have hkx : k < reads.length := by omega
      have hGw : Gr (Mem F) w wr := HG2.out.trans hG' (fun x hx => by
        by_cases h5 : x < w.heap.size
        · exact .inl (by have e := HF2.out x h5; unfold Mem at hx ⊢; rw [← e]; exact hx)
        · exact .inr (by omega))
      obtain ⟨b, o, rfl, -, m0, m1, m2, m3, m4, hqok, hqv⟩ := read_at (HX.out.gr hGw (fun b hb => ⟨H.out.dom b (by rw [hb]; decide), fun e => e.2 hb⟩) (fun _ h => h)) k hkx
      rw [List.drop_eq_getElem_cons hkx] at hsm
      generalize reads[k] = q at m0 m1 m2 m3 m4 hqok hqv hsm
      have hkI : (k : Int) < (len : Int) := by omega
      have hlb : len ≤ 9223372036854775807 := by
        obtain ⟨-, e1, e2, -⟩ := HX.out.sl_flat
        omega
      have HLT2 := Lib.hid hlt
      have HM := Lib.hid hM
      have HMW := Lib.hid hmw
      have HFk := Lib.hid hF'
      have HGk := Lib.hid hG'
      have HKk := Lib.hid hK
      have HSK := Lib.hid hsm
      have HPR := Lib.hid hpr
      have HGW := Lib.hid hGw
      have HQ := Lib.hid hqok
      have x0 := blk_cell HMW.out 0
      simp at x0
      clear hM hmw hF' hG' hK hsm hpr hlen hGw hqok hqv
      obtain ⟨⟨q1, q2, q3, q4⟩, qv⟩ := q
      simp only at m0 m1 m2 m3 m4
      have hBr : Below wr.heap.size wr (wr.alloc (.cells #[.int .i64 q1, .int .i64 q2, .int .i64 q3, .int .i64 q4, .int .i64 qv] 77)) := (Below.refl _ wr).alloc (Nat.le_refl _) _
      have hrq := heap_alloc_new wr (.cells #[.int .i64 q1, .int .i64 q2, .int .i64 q3, .int .i64 q4, .int .i64 qv] 77)
      have x1 := cell_below x0 hBr
      have y0 := blk_cell hrq 0
      have y1 := blk_cell hrq 1
      have y2 := blk_cell hrq 2
      have y3 := blk_cell hrq 3
      have y4 := blk_cell hrq 4
      simp at y0 y1 y2 y3 y4
      cases m with
      | zero => exact absurd HSK.out (by simp [sameM])
      | succ m =>
        have hsk := HSK.out
        unfold sameM at hsk
        obtain ⟨v, e, s2, hgm⟩ : ∃ v e s2, getM l m s1 ⟨q1, q2, q3, q4⟩ = some ((v, e), s2) := by
          cases hgm : getM l m s1 ⟨q1, q2, q3, q4⟩ with
          | none => simp [hgm] at hsk
          | some y => exact ⟨y.1.1, y.1.2, y.2, rfl⟩
        simp only [hgm] at hsk
        have hFw : ∀ b, b < w.heap.size → F' b = F b := fun b hb => (HFk.out b (Nat.lt_of_lt_of_le hb HG2.out.size)).trans (HF2.out b hb)
        have HCALL := Lib.hid (HG.out m (by omega) F' _ s1 (st ++ [none]) sv1 cv1 eb1 ⟨q1, q2, q3, q4⟩ (v, e) s2 (HM.out.below hBr) (by have := HST.out; simp; omega) (HSH.out.left HS.out (HGW.out.step hBr)) (fun b hb => ⟨Nat.lt_of_lt_of_le (HS.out b hb).1 (Nat.le_trans HGW.out.size hBr.size), (hFw b (HS.out b hb).1).trans (HS.out b hb).2⟩) HQ.out hgm)
        have HSK2 := Lib.hid hsk
        have HFW := Lib.hid hFw
        have HBR := Lib.hid hBr
        have HRQ := Lib.hid hrq
        have HKG := Lib.hid ((keepsM l m).1 _ _ _ _ hgm)
        clear hsk hFw hBr hrq hgm
        unfold C4.v at HCALL
        simp only at HCALL
        have hrd0 : F' wr.heap.size = 0 := by
          by_cases e : F' wr.heap.size = 0
          · exact e
          · exact absurd (HM.out.dom _ e) (Nat.lt_irrefl _)
        have HR0 := Lib.hid hrd0
        have HMN := Lib.hid (show m ≤ n by omega)
        clear hrd0
        by_cases he : e = 0
        · subst he
          by_cases hv : v = qv
          · subst hv
            go_wp2_with (go_at_call 20; refine (HCALL.out).mono ?_; rintro e9 w9 ⟨rfl, F9, sv9, cv9, eb9, hM9, hF9, hG9, hK9⟩; have z4 := blk_cell (blk_gr hG9 HRQ.out (fun e => e.1 HR0.out)) 4; have HM9 := Lib.hid hM9; have HF9 := Lib.hid hF9; have HG9 := Lib.hid hG9; have HK9 := Lib.hid hK9; simp at z4; clear hM9 hF9 hG9 hK9)
            go_roundw
            case rel =>
              refine ⟨k + 1, m, F9, s2, sv9, cv9, eb9, HLT2.out, HMN.out, by go_num, HM9.out, by simpa using HSK2.out, fun b hb => ?_, ?_, HKG.out.1.trans HPR.out, fun d hd => ?_⟩
              · exact (HF9.out b (Nat.lt_of_lt_of_le hb (Nat.le_trans HGk.out.size HBR.out.size))).trans (HFk.out b hb)
              · refine (HGk.out.step HBR.out).trans HG9.out (fun x hx => ?_)
                by_cases h5 : x < w2.heap.size
                · exact .inl (by have e := HFk.out x h5; unfold Mem at hx ⊢; rw [← e]; exact hx)
                · exact .inr (Nat.le_of_not_lt h5)
              · exact (HK9.out d (by rw [HPR.out]; exact hd)).trans (HKk.out d hd)
            case measure => simp [intOf]; try omega
          · skip
            obtain ⟨rfl, rfl⟩ : false = r ∧ s2 = s' := by have := HSK2.out; simpa [hv] using this
            go_wp2_with (go_at_call 20; refine (HCALL.out).mono ?_; rintro e9 w9 ⟨rfl, F9, sv9, cv9, eb9, hM9, hF9, hG9, hK9⟩; have z4 := blk_cell (blk_gr hG9 HRQ.out (fun e => e.1 HR0.out)) 4; have HM9 := Lib.hid hM9; have HF9 := Lib.hid hF9; have HG9 := Lib.hid hG9; have HK9 := Lib.hid hK9; simp at z4; clear hM9 hF9 hG9 hK9)
            have HMW9 := Lib.hid (blk_gr HG9.out ((HBR.out.block _ (blk_lt HMW.out)).trans HMW.out) (fun e => e.1 ((HFk.out _ (blk_lt HM2.out)).trans HF20.out)))
            refine ⟨.func 28, #[.pointer (some ⟨w.heap.size, 0, none⟩)], 28, #[.pointer (some ⟨w.heap.size, 0, none⟩)], rfl, by simp [go_sem], (cut48D w9 HM9.out w.heap.size (blk_cell HMW9.out 0)).mono ?_⟩
            rintro e u wz ⟨rfl, rfl, Fz, svz, hMz, hFz, hGz⟩
            have hF9w : ∀ b, b < w.heap.size → F9 b = F b := fun b hb => (HF9.out b (Nat.lt_of_lt_of_le hb (Nat.le_trans HGW.out.size HBR.out.size))).trans (HFW.out b hb)
            refine ⟨rfl, ⟨_, rfl⟩, _, results_tmp rfl _ _ _, rfl, Fz, svz, cv9, eb9, hMz, fun b hb => (hFz b (Nat.lt_of_lt_of_le hb (Nat.le_trans (Nat.le_trans HGW.out.size HBR.out.size) HG9.out.size))).trans (hF9w b hb), ?_, fun d hd => (HK9.out d (by rw [HPR.out]; exact hd)).trans (HKk.out d hd)⟩
            refine ((HGW.out.step HBR.out).trans HG9.out (fun x hx => ?_)).trans hGz (fun x hx => ?_)
            · by_cases h5 : x < w.heap.size
              · exact .inl (by have e := HFW.out x h5; unfold Mem at hx ⊢; rw [← e]; exact hx)
              · exact .inr (Nat.le_of_not_lt h5)
            · by_cases h5 : x < w.heap.size
              · exact .inl (by have e := hF9w x h5; unfold Mem at hx ⊢; rw [← e]; exact hx)
              · exact .inr (Nat.le_of_not_lt h5)
        · skip
          obtain ⟨rfl, rfl⟩ : false = r ∧ s2 = s' := by have := HSK2.out; simpa [he] using this
          go_wp2_with (go_at_call 20; refine (HCALL.out).mono ?_; rintro e9 w9 ⟨rfl, F9, sv9, cv9, eb9, hM9, hF9, hG9, hK9⟩; have z4 := blk_cell (blk_gr hG9 HRQ.out (fun e => e.1 HR0.out)) 4; have HM9 := Lib.hid hM9; have HF9 := Lib.hid hF9; have HG9 := Lib.hid hG9; have HK9 := Lib.hid hK9; simp at z4; clear hM9 hF9 hG9 hK9)
          have HMW9 := Lib.hid (blk_gr HG9.out ((HBR.out.block _ (blk_lt HMW.out)).trans HMW.out) (fun e => e.1 ((HFk.out _ (blk_lt HM2.out)).trans HF20.out)))
          refine ⟨.func 28, #[.pointer (some ⟨w.heap.size, 0, none⟩)], 28, #[.pointer (some ⟨w.heap.size, 0, none⟩)], rfl, by simp [go_sem], (cut48D w9 HM9.out w.heap.size (blk_cell HMW9.out 0)).mono ?_⟩
          rintro e u wz ⟨rfl, rfl, Fz, svz, hMz, hFz, hGz⟩
          have hF9w : ∀ b, b < w.heap.size → F9 b = F b := fun b hb => (HF9.out b (Nat.lt_of_lt_of_le hb (Nat.le_trans HGW.out.size HBR.out.size))).trans (HFW.out b hb)
          refine ⟨rfl, ⟨_, rfl⟩, _, results_tmp rfl _ _ _, rfl, Fz, svz, cv9, eb9, hMz, fun b hb => (hFz b (Nat.lt_of_lt_of_le hb (Nat.le_trans (Nat.le_trans HGW.out.size HBR.out.size) HG9.out.size))).trans (hF9w b hb), ?_, fun d hd => (HK9.out d (by rw [HPR.out]; exact hd)).trans (HKk.out d hd)⟩
          refine ((HGW.out.step HBR.out).trans HG9.out (fun x hx => ?_)).trans hGz (fun x hx => ?_)
          · by_cases h5 : x < w.heap.size
            · exact .inl (by have e := HFW.out x h5; unfold Mem at hx ⊢; rw [← e]; exact hx)
            · exact .inr (Nat.le_of_not_lt h5)
          · by_cases h5 : x < w.heap.size
            · exact .inl (by have e := hF9w x h5; unfold Mem at hx ⊢; rw [← e]; exact hx)
            · exact .inr (Nat.le_of_not_lt h5)
    · obtain rfl : k = len := by omega
      rw [List.drop_eq_nil_of_le (by omega)] at hsm
      cases m with
      | zero => simp [sameM] at hsm
      | succ m =>
        obtain ⟨rfl, rfl⟩ := (by simpa [sameM] using hsm : _ ∧ _)
        have HM := Lib.hid hM
        have HMW := Lib.hid hmw
        have HFk := Lib.hid hF'
        have HGk := Lib.hid hG'
        have HKk := Lib.hid hK
        clear hM hmw hF' hG' hK hsm hpr hlen
        go_wp2_with fail
        refine ⟨.func 28, #[.pointer (some ⟨w.heap.size, 0, none⟩)], 28, #[.pointer (some ⟨w.heap.size, 0, none⟩)], rfl, by simp [go_sem], (cut48D wr HM.out w.heap.size (blk_cell HMW.out 0)).mono ?_⟩
        rintro e u w9 ⟨rfl, rfl, F9, sv9, hM9, hF9, hG9⟩
        refine ⟨rfl, ⟨_, rfl⟩, _, results_tmp rfl _ _ _, rfl, F9, sv9, cv1, eb1, hM9, ?_, ?_, HKk.out⟩
        · intro b hb
          exact (hF9 b (Nat.lt_of_lt_of_le hb (Nat.le_trans HG2.out.size HGk.out.size))).trans ((HFk.out b (Nat.lt_of_lt_of_le hb HG2.out.size)).trans (HF2.out b hb))
        · refine (HG2.out.trans HGk.out (fun x hx => ?_)).trans hG9 (fun x hx => ?_)
          · by_cases h5 : x < w.heap.size
            · exact .inl (by have e := HF2.out x h5; unfold Mem at hx ⊢; rw [← e]; exact hx)
            · exact .inr (by omega)
          · by_cases h5 : x < w.heap.size
            · exact .inl (by have e := (HFk.out x (Nat.lt_of_lt_of_le h5 HG2.out.size)).trans (HF2.out x h5); unfold Mem at hx ⊢; rw [← e]; exact hx)
            · exact .inr (by omega)
end Go.Proofs.Ytmmeieangbcfaaa
