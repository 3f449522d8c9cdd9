/- Layer 56: the walk of LogBytes. -/
import Derived.Test.YtkojomakibfncaaC56r
import Derived.Test.YtkojomakibfncaaC56p
import Derived.Test.YtkojomakibfncaaL56b
set_option linter.unusedSimpArgs false
namespace Go.Proofs.Ytkojomakibfncaa
open Go.RowKit Go

theorem wrap_inc (x : Int) : ∃ y, IntKind.u8.wrap (x + 1) = y ∧ 0 ≤ y ∧ y ≤ 255 := by
  refine ⟨_, rfl, ?_⟩
  simp only [IntKind.wrap, IntKind.signed, IntKind.bits]
  simp
  omega

set_option maxRecDepth 10000 in
set_option maxHeartbeats 4000000 in
theorem bytesWalk (w : World) (c0 : List Value) (rs : (Ty.sl (.sl (.int .u8))).den) (r0 : Rd (.sl (.sl (.int .u8))) (fun b => b < w.heap.size) w c0 rs) :
    Calls Try.prog 7 #[valOf (.sl (.sl (.int .u8))) c0] w fun e w' => e = .returned (.bool true) ∧ Below w.heap.size w w' := by
  obtain ⟨a, len, cap, rfl, hl, hlc, hcm, -⟩ := id r0
  change List (List Int) at rs
  simp only [valOf, List.headD_cons]
  have R0 := Lib.hid (show Rd (.sl rowT) (fun b => b < w.heap.size) w [.slice a len cap] rs from r0)
  have HL := Lib.hid (show rs.length = len from hl)
  clear r0 hl
  obtain ⟨fw, hfw⟩ : ∃ fw, fewB rs = fw := ⟨_, rfl⟩
  have HFW := Lib.hid hfw
  clear hfw
  cases fw
  · go_enter Try.func7, Try.ntmps7
    go_wp2_with fail
    refine (awake_sum _).mono ?_
    rintro e w1 ⟨rfl, hB1⟩
    have HR1 := Lib.hid (R0.out.alloc hB1)
    go_wp2_with fail
    refine (few_any _ _ _ _ _ HR1.out).mono ?_
    rw [HFW.out]
    rintro e w2 ⟨rfl, hw⟩
    subst w2
    go_wp2
    go_ret
    exact ⟨rfl, hB1⟩
  have hfs := fewB_spec HFW.out
  have hbl := bytesI_len rs hfs.1 (by omega)
  have HFS := Lib.hid hfs
  have HBL := Lib.hid hbl
  have hlen20 : len ≤ 20 := by rw [← HL.out]; exact hfs.2
  clear hfs hbl
  go_enter Try.func7, Try.ntmps7
  go_wp2_with fail
  refine (awake_sum _).mono ?_
  rintro e w1 ⟨rfl, hB1⟩
  have HR1 := Lib.hid (R0.out.alloc hB1)
  go_wp2_with fail
  refine (few_any _ _ _ _ _ HR1.out).mono ?_
  rw [HFW.out]
  rintro e w2 ⟨rfl, hw⟩
  subst w2
  have hs1 := hB1.size
  go_wp2_with fail
  go_loopw [3, 4] (fun v i wr => ∃ (k : Nat) (S' : Nat → Prop), k ≤ len ∧ i = .int .i64 k ∧ Owns rowT 22 w1.heap.size S' wr v (rs.take k) ∧ (∀ b, S' b → w1.heap.size ≤ b ∧ Plain wr b) ∧ Below w1.heap.size w1 wr) (fun _ i _ => len - (intOf i).toNat)
  case atStart => exact ⟨0, fun _ => False, Nat.zero_le _, rfl, Owns.nil _ _ _ _, fun _ h => h.elim, Below.refl _ _⟩
  case round =>
    obtain ⟨k, S', hk, rfl, hO, hS', hB⟩ := hrel
    obtain ⟨av, lv, cv, rfl, -⟩ := hO.slice
    have HO := Lib.hid hO; clear hO
    have HS' := Lib.hid hS'; clear hS'
    have hsz := hB.size
    by_cases hlt : k < len
    · have hkr : k < rs.length := by rw [HL.out]; exact hlt
      obtain ⟨-, -, -, hrows⟩ := HR1.out.rows
      obtain ⟨b, off, a', len', cap', rfl, hb, hcell, hrow⟩ := hrows k hkr
      clear hrows
      have hcx : wr.cell? ⟨b, off + k, none⟩ = some (.slice a' len' cap') := (hB.cell (p := ⟨b, off + k, none⟩) hb).trans hcell
      have hl' : List.length rs[k] = len' := hrow.ints.1
      have hle : len' ≤ 300 := by rw [← hl']; exact HFS.out.1 _ (List.getElem_mem hkr)
      have HL' := Lib.hid hl'; clear hl'
      have HX := Lib.hid (hrow.alloc hB)
      have HS := Lib.hid (List.take_succ_eq_append_getElem hkr)
      have htl : (rs.take k).length ≤ 10000 := by rw [List.length_take]; omega
      have HT := Lib.hid htl
      have hkl : (k : Int) < (len : Int) := by omega
      have hcx2 : (wr.alloc (.cells #[] 5)).cell? ⟨b, off + k, none⟩ = some (.slice a' len' cap') := (((Below.refl _ wr).alloc (Nat.le_refl _) _).cell (p := ⟨b, off + k, none⟩) (Nat.lt_of_lt_of_le hb hsz)).trans hcx
      clear hrow hcell htl
      go_wp2_with (first
        | (at_builtin; (refine wpList_copy wr rfl _ _ 22 rfl (e := .int .u8) info_u8 Try.underlying22 rfl (by decide) rfl (S := fun b => b < wr.heap.size) (sv := .slice a' len' cap') (xs := rs[k]) rfl HX.out (fun _ h => h) HL'.out (by omega) (by omega) ?_; intro g cv2 w2 O1 hg hB2 h5 h6; have hpl := (O1.flat rfl).plain g rfl; have HPL := Lib.hid hpl; clear hpl; have HO1 := Lib.hid (O1.flat rfl); clear O1; have HOk := Lib.hid (HO.out.below hB2)))
        | (at_builtin; go_must (refine wpList_app _ rfl _ _ 28 rfl (e := rowT) info_bs Try.underlying28 rfl (by decide) (base := w1.heap.size) (S := fun b => S' b ∨ b = g) (v := .slice av lv cv) (xs := rs.take k) rfl ((HOk.out.alloc _).mono (fun b hb => .inl hb) (fun b hb => by
            rcases hb with hb | rfl
            · exact (HOk.out.alloc _).bound b hb
            · exact ⟨fun e => by have := (HO.out.own _ e).2; omega, by have := (HO1.out.own b rfl).2; simp only [World.size_alloc]; omega⟩)) (by have := hB2.size; simp only [World.size_alloc]; omega) rfl (ys := [rs[k]]) (Src.new _ [_] _ _ _) (RdL.one (e := rowT) ((HO1.out.alloc _).rd _ (fun _ h => h.elim) (fun b hb => .inr (by cases hb; rfl)))) (by have := HT.out; simp only [List.length_cons, List.length_nil]; omega) (by have := HT.out; simp only [List.length_cons, List.length_nil]; omega) ?_; intro v' w3 O3 g3 _ hob; have HK3 := Lib.hid (fun b (hb : b < w2.heap.size) (hne : (Value.slice av lv cv).ownBlock ≠ some b) => (g3.block b (by simp only [World.size_alloc]; omega) (fun e => hne e.symm)).trans (heap_alloc_old w2 _ hb)); have hB3 := ((hB.trans (hB2.mono hsz)).alloc (by have := hB2.size; omega) _).grown g3 (by have := hB2.size; simp only [World.size_alloc]; omega) (fun k e => (HO.out.own k e).1))))
      go_wp2
      go_roundw
      case rel => exact ⟨k + 1, _, by omega, by go_num, by rw [HS.out]; exact O3, fun b hb => by
          rcases hb with hb | rfl
          · have hbb := HO.out.bound b hb
            exact ⟨(HS'.out b hb).1, ((HS'.out b hb).2.keep (hB2.block b hbb.2)).keep (HK3.out b (Nat.lt_of_lt_of_le hbb.2 hB2.size) hbb.1)⟩
          · exact ⟨by omega, HPL.out.keep (HK3.out b (HO1.out.own b rfl).2 (fun e => by have := (HO.out.own _ e).2; omega))⟩, hB3⟩
      case measure => simp [intOf]; omega
    · obtain rfl : k = len := by omega
      have hO := HO.out
      rw [List.take_of_length_le (by rw [HL.out]; exact Nat.le_refl _)] at hO
      have hBw := below_step hB1 hB
      have hMut := Mut.of hO (fun b hb => (HS'.out b hb).2)
      have hRw := hO.rd (fun b => b < wr.heap.size) (fun b hb => (HS'.out b hb).2.lt) (fun b hb => (hO.own b hb).2)
      obtain rfl : lv = rs.length := hRw.rows.1.symm
      rw [HL.out] at hRw hMut
      have HM := Lib.hid hMut
      have HRW := Lib.hid hRw
      have hSR := fun b hb => (HS'.out b hb).1
      have hSL := fun b hb => (HS'.out b hb).2.lt
      have HSR := Lib.hid hSR
      have HSL := Lib.hid hSL
      have HBW := Lib.hid hBw
      clear hO HO HS' hMut hRw hSR hSL hB hBw hlt hk
      rw [HL.out]
      go_wp2_with fail
      refine (written_sum _ _ _ _ _ HRW.out (fun r hr => Nat.le_trans (HFS.out.1 r hr) (by omega)) (by omega)).mono ?_
      rintro e w4 ⟨p, F, rfl, hL4, hF4, hB4⟩
      have HL4 := Lib.hid hL4
      have HM4 := Lib.hid (HM.out.below hB4)
      have HB4 := Lib.hid (below_step HBW.out hB4)
      have HD : Hid (∀ b, F b → ¬ S' b) := Lib.hid (fun b hF hS => by have := hF4 b hF; have := HSL.out b hS; omega)
      have HF4 := Lib.hid (fun b (hF : F b) => Nat.le_trans HBW.out.size (hF4 b hF))
      clear hL4 hF4 hB4 HM HRW HBW HSL
      go_wp2_with fail
      go_loopw [6, 7, 8] (fun i _ _ wr => ∃ (q : Nat), q ≤ k ∧ i = .int .i64 q ∧ LogIn F wr p rs ∧ Mut S' wr av k (fun i => (rs[i]?.getD []).length) ∧ Below w.heap.size w wr) (fun i _ _ _ => k - (intOf i).toNat)
      case atStart => exact ⟨0, Nat.zero_le _, rfl, HL4.out, HM4.out, HB4.out⟩
      case round =>
        clear HL4 HM4 HB4
        obtain ⟨q, hq, rfl, hLq, hMq, hBq⟩ := hrel
        have HLq := Lib.hid hLq
        have HMq := Lib.hid hMq
        have HBq := Lib.hid hBq
        clear hLq hMq hBq
        by_cases hlt : q < k
        · obtain ⟨lq, hlq⟩ : ∃ l, (rs[q]?.getD []).length = l := ⟨_, rfl⟩
          have HLEN := Lib.hid hlq
          have hlq3 : lq ≤ 300 := by
            rw [← hlq, List.getElem?_eq_getElem (by rw [HL.out]; exact hlt)]
            exact HFS.out.1 _ (List.getElem_mem _)
          clear hlq
          have hqk : (q : Int) < (k : Int) := by omega
          go_wp2_with fail
          go_loopw [7] (fun x wr2 => ∃ (m : Nat), m ≤ lq ∧ x = .int .i64 m ∧ LogIn F wr2 p rs ∧ Mut S' wr2 av k (fun i => (rs[i]?.getD []).length) ∧ Below w.heap.size w wr2) (fun x _ => lq - (intOf x).toNat)
          case atStart => exact ⟨0, Nat.zero_le _, rfl, HLq.out, HMq.out, HBq.out⟩
          case round =>
            clear HLq HMq HBq
            obtain ⟨m, hm, rfl, hLq, hMq, hBq⟩ := hrel
            obtain ⟨g, o, a', c', rfl, hg, hgs, hc, hk⟩ := hMq q hlt
            simp only [HLEN.out] at hc hk
            have HLq := Lib.hid hLq
            have HMq := Lib.hid hMq
            have HBq := Lib.hid hBq
            clear hLq hMq hBq
            by_cases hml : m < lq
            · obtain ⟨b, o', rfl, hb, hp, x, hx0, hx1, hcx⟩ := hk m hml
              have hfz := hp.frozen (o' + m)
              obtain ⟨y, hy, hy0, hy1⟩ := wrap_inc x
              have hmI : (m : Int) < (lq : Int) := by omega
              have HS := Lib.hid (HMq.out.set b (o' + m) hb y hy0 hy1)
              have HLs := Lib.hid (HLq.out.gr ((Gr.refl S' _).setCell (p := ⟨b, o' + m, none⟩) (.inl hb) (.int .u8 y)) HD.out)
              have HBs := Lib.hid (HBq.out.setCell (p := ⟨b, o' + m, none⟩) (Nat.le_trans hs1 (HSR.out b hb)) (.int .u8 y))
              clear hk hp hb
              go_wp2_with fail
              go_roundw
              case rel => exact ⟨m + 1, by omega, by go_num, HLs.out, HS.out, HBs.out⟩
              case measure => simp [intOf]; omega
            · obtain rfl : m = lq := by omega
              rcases Nat.eq_zero_or_pos m with hm0 | hm0
              · subst hm0
                go_wp2_with (go_at_call 14; (with_reducible refine (records_sumP F _ p rs HLq.out (fun r hr => Nat.le_trans (HFS.out.1 r hr) (by omega)) (by rw [HL.out]; omega)).mono ?_); rintro e w6 ⟨v6, S6, rfl, hB6, hO6, hS6⟩; obtain ⟨a6, l6, c6, rfl, hl6, -⟩ := hO6.slice; obtain rfl : k = l6 := (hl6.trans HL.out).symm; have hM6 := Mut.of hO6 (fun b hb => (hS6 b hb).2); obtain ⟨g6, o6, b6', c6', rfl, -, -, hc6, hk6⟩ := hM6 q hlt; simp only [HLEN.out] at hc6 hk6; have HS6 := Lib.hid hS6; clear hS6 hO6 hM6 hl6; clear hk6)
                go_roundw
                case rel => exact ⟨q + 1, by omega, by go_num, HLq.out.below hB6, HMq.out.below hB6, below_step HBq.out hB6⟩
                case measure => simp [intOf]; omega
              · have hm0I : (0 : Int) < (m : Int) := by omega
                have hmnI : ¬ (m : Int) = 0 := by omega
                go_wp2_with (go_at_call 14; (with_reducible refine (records_sumP F _ p rs HLq.out (fun r hr => Nat.le_trans (HFS.out.1 r hr) (by omega)) (by rw [HL.out]; omega)).mono ?_); rintro e w6 ⟨v6, S6, rfl, hB6, hO6, hS6⟩; obtain ⟨a6, l6, c6, rfl, hl6, -⟩ := hO6.slice; obtain rfl : k = l6 := (hl6.trans HL.out).symm; have hM6 := Mut.of hO6 (fun b hb => (hS6 b hb).2); obtain ⟨g6, o6, b6', c6', rfl, -, -, hc6, hk6⟩ := hM6 q hlt; simp only [HLEN.out] at hc6 hk6; have HS6 := Lib.hid hS6; clear hS6 hO6 hM6 hl6; obtain ⟨b6, o6', rfl, hb6, hp6, x, hx0, hx1, hcx6⟩ := hk6 0 hm0; rw [Nat.add_zero] at hcx6; have hfz6 := hp6.frozen o6'; obtain ⟨y, hy, hy0, hy1⟩ := wrap_inc x; have HB7 := Lib.hid (hB6.setCell (p := ⟨b6, o6', none⟩) (HS6.out b6 hb6).1 (.int .u8 y)); clear hk6 hp6 hb6)
                go_roundw
                case rel => exact ⟨q + 1, by omega, by go_num, HLq.out.below HB7.out, HMq.out.below HB7.out, below_step HBq.out HB7.out⟩
                case measure => simp [intOf]; omega
        · obtain rfl : q = k := by omega
          have hbp : 8 ≤ (bytesI rs).length := by rw [bytesI, List.length_append]; simp [textI]
          go_wp2_with fail
          refine (bytes_sum F _ p rs HLq.out (fun r hr => Nat.le_trans (HFS.out.1 r hr) (by omega)) (by rw [HL.out]; omega)).mono ?_
          rintro e w9 ⟨v9, rfl, hB9, hO9⟩
          obtain ⟨a9, l9, c9, rfl, hl9⟩ := hO9.slice
          have hl98 : 8 ≤ l9 := by rw [hl9]; exact hbp
          obtain ⟨g9, rfl, hg9, hgs9, hc9, hfz9⟩ := hO9.at 0 (by omega)
          obtain ⟨x, hx⟩ : ∃ x, (bytesI rs)[0]?.getD 0 = x := ⟨_, rfl⟩
          rw [hx] at hc9
          obtain ⟨y, hy, hy0, hy1⟩ := wrap_inc x
          have hl90 : (0 : Int) < (l9 : Int) := by omega
          clear hO9 hl9 hx hbp hy0 hy1 hlt
          go_wp2_with fail
          obtain ⟨W, hW⟩ : ∃ W, w9.setCell ⟨g9, 0, none⟩ (.int .u8 y) = W := ⟨_, rfl⟩
          have hBW : Below wr.heap.size wr W := by rw [← hW]; exact hB9.setCell (p := ⟨g9, 0, none⟩) hg9 _
          have HLW := Lib.hid (HLq.out.below hBW)
          have HBW := Lib.hid (below_step HBq.out hBW)
          have HRW := Lib.hid (R0.out.alloc HBW.out)
          obtain ⟨N, hN⟩ : ∃ N, bytesI rs = N := ⟨_, rfl⟩
          obtain ⟨T, hT⟩ : ∃ T, strOfNums N = T := ⟨_, rfl⟩
          have HN := Lib.hid hN
          have HT := Lib.hid hT
          rw [hW]
          clear hN hT hW hBW hc9 hfz9 hB9 hg9 hgs9 HLq HMq HBq
          refine wp_region_T (fun _ => True) (fun _ => false) (by kernel_rfl) ?_
          have hS0 : True := trivial
          refine wpAnyT_pure (i := 0) (v := ?_) rfl (by kernel_rfl) (by kernel_rfl) (by kernel_rfl) (fun _ _ _ h => h) (by rfl) ?_ ?_
          rotate_left
          · intro w; go_simp; try with_reducible rfl
          simp only [Act.put, List.setIfInBounds_toArray, List.set_cons_zero, List.set_cons_succ, List.getElem_toArray, List.getElem_cons_succ, List.getElem_cons_zero]
          refine wpAnyT_pure (i := 2) (v := ?_) rfl (by kernel_rfl) (by kernel_rfl) (by kernel_rfl) (fun _ _ _ h => h) (by rfl) ?_ ?_
          rotate_left
          · intro w; go_simp; try with_reducible rfl
          simp only [Act.put, List.setIfInBounds_toArray, List.set_cons_zero, List.set_cons_succ, List.getElem_toArray, List.getElem_cons_succ, List.getElem_cons_zero]
          refine wpAnyT_one (i := 1) (by kernel_rfl) rfl (by rfl) ?_
          refine wp_enter (f := 14) (args := #[.pointer (some ⟨p, 0, none⟩)]) (by go_simp) (records_sum F W.drew p rs (HLW.out.below (below_drew _)) (fun r hr => Nat.le_trans (HFS.out.1 r hr) (by omega)) (by rw [HL.out]; omega)) ?_
          rintro e x1 ⟨v1, S1, rfl, hX1, hO1, -⟩
          replace hX1 : Below W.heap.size W x1 := (below_drew W).trans hX1
          obtain ⟨a1, l1, c1, rfl, -⟩ := hO1.slice
          have HO1 := Lib.hid hO1
          clear hO1
          refine ⟨_, rfl, fun _ h => h, ?_⟩
          try simp only [Act.put, List.setIfInBounds_toArray, List.set_cons_zero, List.set_cons_succ, List.getElem_toArray, List.getElem_cons_succ, List.getElem_cons_zero]
          refine wpAnyT_one (i := 3) (by kernel_rfl) rfl (by rfl) ?_
          refine wp_enter (f := 13) (args := #[.slice a1 l1 c1, .slice a q cap]) (by go_simp) (same_sum x1 a1 a l1 c1 q cap rs rs (HO1.out.rd (fun b => b < x1.heap.size) (fun b hb => (HO1.out.bound b hb).2) (fun b hb => (HO1.out.own b hb).2)) (HRW.out.alloc hX1) (fun _ h => h) (fun _ h => h)) ?_
          rw [decide_eq_true rfl]
          rintro e x2 ⟨rfl, hX2⟩
          replace hX2 := below_step hX1 hX2
          refine ⟨_, rfl, fun _ h => h, ?_⟩
          try simp only [Act.put, List.setIfInBounds_toArray, List.set_cons_zero, List.set_cons_succ, List.getElem_toArray, List.getElem_cons_succ, List.getElem_cons_zero]
          refine wpAnyT_pure (i := 4) (v := ?_) rfl (by kernel_rfl) (by kernel_rfl) (by kernel_rfl) (fun _ _ _ h => h) (by rfl) ?_ ?_
          rotate_left
          · intro w; go_simp; try with_reducible rfl
          simp only [Act.put, List.setIfInBounds_toArray, List.set_cons_zero, List.set_cons_succ, List.getElem_toArray, List.getElem_cons_succ, List.getElem_cons_zero]
          refine wpAnyT_pure (i := 5) (v := ?_) rfl (by kernel_rfl) (by kernel_rfl) (by kernel_rfl) (fun _ _ _ h => h) (by rfl) ?_ ?_
          rotate_left
          · intro w; go_simp; try with_reducible rfl
          simp only [Act.put, List.setIfInBounds_toArray, List.set_cons_zero, List.set_cons_succ, List.getElem_toArray, List.getElem_cons_succ, List.getElem_cons_zero]
          refine wpAnyT_pure (i := 7) (v := ?_) rfl (by kernel_rfl) (by kernel_rfl) (by kernel_rfl) (fun _ _ _ h => h) (by rfl) ?_ ?_
          rotate_left
          · intro w; go_simp; try with_reducible rfl
          simp only [Act.put, List.setIfInBounds_toArray, List.set_cons_zero, List.set_cons_succ, List.getElem_toArray, List.getElem_cons_succ, List.getElem_cons_zero]
          refine wpAnyT_pure (i := 8) (v := ?_) rfl (by kernel_rfl) (by kernel_rfl) (by kernel_rfl) (fun _ _ _ h => h) (by rfl) ?_ ?_
          rotate_left
          · intro w; go_simp; try with_reducible rfl
          simp only [Act.put, List.setIfInBounds_toArray, List.set_cons_zero, List.set_cons_succ, List.getElem_toArray, List.getElem_cons_succ, List.getElem_cons_zero]
          refine wpAnyT_one (i := 6) (by kernel_rfl) rfl (by rfl) ?_
          refine wp_enter (f := 18) (args := #[.pointer (some ⟨p, 0, none⟩)]) (by go_simp) (len_sum F x2 p rs (HLW.out.below hX2)) ?_
          rw [HL.out]
          rintro e x3 ⟨rfl, hx⟩
          subst hx
          refine ⟨_, rfl, fun _ h => h, ?_⟩
          try simp only [Act.put, List.setIfInBounds_toArray, List.set_cons_zero, List.set_cons_succ, List.getElem_toArray, List.getElem_cons_succ, List.getElem_cons_zero]
          refine wpAnyT_pure (i := 9) (v := ?_) rfl (by kernel_rfl) (by kernel_rfl) (by kernel_rfl) (fun _ _ _ h => h) (by rfl) ?_ ?_
          rotate_left
          · intro w; go_simp; try with_reducible rfl
          simp only [Act.put, List.setIfInBounds_toArray, List.set_cons_zero, List.set_cons_succ, List.getElem_toArray, List.getElem_cons_succ, List.getElem_cons_zero]
          refine wpAnyT_pure (i := 10) (v := ?_) rfl (by kernel_rfl) (by kernel_rfl) (by kernel_rfl) (fun _ _ _ h => h) (by rfl) ?_ ?_
          rotate_left
          · intro w; go_simp; try with_reducible rfl
          simp only [Act.put, List.setIfInBounds_toArray, List.set_cons_zero, List.set_cons_succ, List.getElem_toArray, List.getElem_cons_succ, List.getElem_cons_zero]
          refine wpAnyT_pure (i := 11) (v := ?_) rfl (by kernel_rfl) (by kernel_rfl) (by kernel_rfl) (fun _ _ _ h => h) (by rfl) ?_ ?_
          rotate_left
          · intro w; go_simp; try with_reducible rfl
          simp only [Act.put, List.setIfInBounds_toArray, List.set_cons_zero, List.set_cons_succ, List.getElem_toArray, List.getElem_cons_succ, List.getElem_cons_zero]
          refine wpAnyT_pure (i := 12) (v := ?_) rfl (by kernel_rfl) (by kernel_rfl) (by kernel_rfl) (fun _ _ _ h => h) (by rfl) ?_ ?_
          rotate_left
          · intro w; go_simp; try with_reducible rfl
          simp only [Act.put, List.setIfInBounds_toArray, List.set_cons_zero, List.set_cons_succ, List.getElem_toArray, List.getElem_cons_succ, List.getElem_cons_zero]
          refine wpAnyT_pure (i := 14) (v := ?_) rfl (by kernel_rfl) (by kernel_rfl) (by kernel_rfl) (fun _ _ _ h => h) (by rfl) ?_ ?_
          rotate_left
          · intro w; go_simp; try with_reducible rfl
          simp only [Act.put, List.setIfInBounds_toArray, List.set_cons_zero, List.set_cons_succ, List.getElem_toArray, List.getElem_cons_succ, List.getElem_cons_zero]
          refine wpAnyT_one (i := 13) (by kernel_rfl) rfl (by rfl) ?_
          refine wp_enter (f := 20) (args := #[.pointer (some ⟨p, 0, none⟩)]) (by go_simp) (Head_sum F x3 p rs (HLW.out.below hX2)) ?_
          rintro e x4 ⟨rfl, hx⟩
          subst hx
          refine ⟨_, rfl, fun _ h => h, ?_⟩
          try simp only [Act.put, List.setIfInBounds_toArray, List.set_cons_zero, List.set_cons_succ, List.getElem_toArray, List.getElem_cons_succ, List.getElem_cons_zero]
          refine wpAnyT_one (i := 15) (by kernel_rfl) rfl (by rfl) ?_
          refine wp_enter (f := 21) (args := #[.slice a q cap]) (by go_simp) (refHead_any a q cap rs x4 (by rw [HL.out]; omega) (HRW.out.alloc hX2)) ?_
          rintro e x5 ⟨rfl, hX5⟩
          replace hX5 := below_step hX2 hX5
          refine ⟨_, rfl, fun _ h => h, ?_⟩
          try simp only [Act.put, List.setIfInBounds_toArray, List.set_cons_zero, List.set_cons_succ, List.getElem_toArray, List.getElem_cons_succ, List.getElem_cons_zero]
          refine wpAnyT_pure (i := 16) (v := ?_) rfl (by kernel_rfl) (by kernel_rfl) (by kernel_rfl) (fun _ _ _ h => h) (by rfl) ?_ ?_
          rotate_left
          · intro w; go_simp; try with_reducible rfl
          simp only [Act.put, List.setIfInBounds_toArray, List.set_cons_zero, List.set_cons_succ, List.getElem_toArray, List.getElem_cons_succ, List.getElem_cons_zero]
          refine wpAnyT_pure (i := 17) (v := ?_) rfl (by kernel_rfl) (by kernel_rfl) (by kernel_rfl) (fun _ _ _ h => h) (by rfl) ?_ ?_
          rotate_left
          · intro w; go_simp; try with_reducible rfl
          simp only [Act.put, List.setIfInBounds_toArray, List.set_cons_zero, List.set_cons_succ, List.getElem_toArray, List.getElem_cons_succ, List.getElem_cons_zero]
          refine wpAnyT_pure (i := 18) (v := ?_) rfl (by kernel_rfl) (by kernel_rfl) (by kernel_rfl) (fun _ _ _ h => h) (by rfl) ?_ ?_
          rotate_left
          · intro w; go_simp; try with_reducible rfl
          simp only [Act.put, List.setIfInBounds_toArray, List.set_cons_zero, List.set_cons_succ, List.getElem_toArray, List.getElem_cons_succ, List.getElem_cons_zero]
          refine wpAnyT_pure (i := 19) (v := ?_) rfl (by kernel_rfl) (by kernel_rfl) (by kernel_rfl) (fun _ _ _ h => h) (by rfl) ?_ ?_
          rotate_left
          · intro w; go_simp; try with_reducible rfl
          simp only [Act.put, List.setIfInBounds_toArray, List.set_cons_zero, List.set_cons_succ, List.getElem_toArray, List.getElem_cons_succ, List.getElem_cons_zero]
          refine wpAnyT_pure (i := 22) (v := ?_) rfl (by kernel_rfl) (by kernel_rfl) (by kernel_rfl) (fun _ _ _ h => h) (by rfl) ?_ ?_
          rotate_left
          · intro w; go_simp; try with_reducible rfl
          simp only [Act.put, List.setIfInBounds_toArray, List.set_cons_zero, List.set_cons_succ, List.getElem_toArray, List.getElem_cons_succ, List.getElem_cons_zero]
          refine wpAnyT_one (i := 20) (by kernel_rfl) rfl (by rfl) ?_
          refine wp_enter (f := 17) (args := #[.pointer (some ⟨p, 0, none⟩)]) (by go_simp) (bytes_sum F x5 p rs (HLW.out.below hX5) (fun r hr => Nat.le_trans (HFS.out.1 r hr) (by omega)) (by rw [HL.out]; omega)) ?_
          rw [HN.out]
          rintro e x6 ⟨v6, rfl, hX6, hO6⟩
          obtain ⟨a6, l6, c6, rfl, -⟩ := hO6.slice
          have HO6 := Lib.hid hO6
          clear hO6
          have hX56 := below_step hX5 hX6
          have hcv6 := Rd.conv (P := Try.prog) (w := x6) HO6.out.lt Try.underlying22 Try.underlying5 Try.underlying9
          rw [HT.out] at hcv6
          refine ⟨_, rfl, fun _ h => h, ?_⟩
          refine wpAnyT_re (S' := fun w' => Sem.run Try.prog (convert 22 9 (.slice a6 l6 c6)) w' = .ok (.string T) w') (fun _ _ => trivial) _ _ _ _ hcv6 ?_
          have hS0 := hcv6
          try simp only [Act.put, List.setIfInBounds_toArray, List.set_cons_zero, List.set_cons_succ, List.getElem_toArray, List.getElem_cons_succ, List.getElem_cons_zero]
          refine wpAnyT_loadW (i := 21) (v := ?_) rfl (by kernel_rfl) (by kernel_rfl) (by kernel_rfl) (by kernel_rfl) (by kernel_rfl) (fun _ _ _ h => h) (Or.inl ⟨by rfl, ?_⟩) hS0 ?_
          rotate_left
          · intro w hSw; go_simp; try with_reducible rfl
          simp only [Act.put, List.setIfInBounds_toArray, List.set_cons_zero, List.set_cons_succ, List.getElem_toArray, List.getElem_cons_succ, List.getElem_cons_zero]
          refine wpAnyT_one (i := 23) (by kernel_rfl) rfl (by rfl) ?_
          refine wp_enter (f := 22) (args := #[.slice a q cap]) (by go_simp) (refBytes_sum x6 a q cap rs (HRW.out.alloc hX56) (fun r hr => Nat.le_trans (HFS.out.1 r hr) (by omega)) (by omega) (by have := HBL.out; omega)) ?_
          rw [HN.out]
          rintro e x7 ⟨v7, rfl, hX7, hO7⟩
          obtain ⟨a7, l7, c7, rfl, -⟩ := hO7.slice
          have hcv7 := Rd.conv (P := Try.prog) (w := x7) hO7.lt Try.underlying22 Try.underlying5 Try.underlying9
          rw [HT.out] at hcv7
          have hcv67 := Rd.conv (P := Try.prog) (w := x7) (HO6.out.below hX7).lt Try.underlying22 Try.underlying5 Try.underlying9
          rw [HT.out] at hcv67
          clear hO7
          have hX67 := below_step hX56 hX7
          refine ⟨_, rfl, fun _ _ => hcv67, ?_⟩
          try simp only [Act.put, List.setIfInBounds_toArray, List.set_cons_zero, List.set_cons_succ, List.getElem_toArray, List.getElem_cons_succ, List.getElem_cons_zero]
          refine wpAnyT_one (i := 24) (by kernel_rfl) rfl (by rfl) ?_
          refine wp_value (v := .string T) (w' := x7) (by go_simp) ?_
          refine ⟨fun _ h => h, ?_⟩
          try simp only [Act.put, List.setIfInBounds_toArray, List.set_cons_zero, List.set_cons_succ, List.getElem_toArray, List.getElem_cons_succ, List.getElem_cons_zero]
          refine wpAnyT_pure (i := 25) (v := ?_) rfl (by kernel_rfl) (by kernel_rfl) (by kernel_rfl) (fun _ _ _ h => h) (by rfl) ?_ ?_
          rotate_left
          · intro w; go_simp; try with_reducible rfl
          simp only [Act.put, List.setIfInBounds_toArray, List.set_cons_zero, List.set_cons_succ, List.getElem_toArray, List.getElem_cons_succ, List.getElem_cons_zero]
          refine wpAnyT_pure (i := 26) (v := ?_) rfl (by kernel_rfl) (by kernel_rfl) (by kernel_rfl) (fun _ _ _ h => h) (by rfl) ?_ ?_
          rotate_left
          · intro w; go_simp; try with_reducible rfl
          simp only [Act.put, List.setIfInBounds_toArray, List.set_cons_zero, List.set_cons_succ, List.getElem_toArray, List.getElem_cons_succ, List.getElem_cons_zero]
          refine wpAnyT_pure (i := 27) (v := ?_) rfl (by kernel_rfl) (by kernel_rfl) (by kernel_rfl) (fun _ _ _ h => h) (by rfl) ?_ ?_
          rotate_left
          · intro w; go_simp; try with_reducible rfl
          simp only [Act.put, List.setIfInBounds_toArray, List.set_cons_zero, List.set_cons_succ, List.getElem_toArray, List.getElem_cons_succ, List.getElem_cons_zero]
          refine wpAnyT_done (by kernel_rfl) ?_ _
          go_wp2_with fail
          go_ret
          exact ⟨rfl, below_step HBW.out hX67⟩
end Go.Proofs.Ytkojomakibfncaa
