/- Layer 48: the reference's Depends. -/
import Derived.Test.YtmmeieangbcfaaaC48y
import Derived.Test.YtmmeieangbcfaaaP48h
set_option linter.unusedSimpArgs false
namespace Go.Proofs.Ytmmeieangbcfaaa
open Go.RowKit Go

theorem not_dep {l : List Fm} {q c : C4} (h : c ≠ q) (ht : ∀ t ∈ (findF l c).terms, ¬ Dep l q t.1) : ¬ Dep l q c := by
  intro hd
  cases hd with
  | here => exact h rfl
  | step h1 h2 => exact ht _ h1 h2
def DepP (l : List Fm) (q c : C4) (w : World) (e : Ending) (w' : World) : Prop := ∃ b, e = .returned (.bool b) ∧ Below w.heap.size w w' ∧ (b = false → ¬ Dep l q c)
set_option maxRecDepth 20000 in
set_option maxHeartbeats 1000000 in
theorem depends48 {S : Nat → Prop} (a : Option Addr) (len cap : Nat) (xs : List formT.den) (hr : ranked (xs.map fm)) (q : C4) (hq : q.ok) : ∀ (n : Nat) (w : World) (c : C4), Rd (.sl formT) S w [.slice a len cap] xs → (∀ b, S b → b < w.heap.size) → c.ok → rank (xs.map fm) c < n →
    Calls Try.prog 16 #[.slice a len cap, c.v, q.v] w (DepP (xs.map fm) q c w) := by
  intro n
  induction n with
  | zero => intro w c _ _ _ h; exact absurd h (Nat.not_lt_zero _)
  | succ n ih =>
  intro w c hx hS hc hk
  have HIH := Lib.hid ih
  have HX := Lib.hid hx
  have HS := Lib.hid hS
  have HC := Lib.hid hc
  have HK := Lib.hid hk
  have HR := Lib.hid hr
  have HQ := Lib.hid hq
  have heq := fun W => cell_eql W c q
  have hgd : Try.prog.eqGuardType Try.prog.depth 26 = false := by kernel_rfl
  obtain ⟨eb, heb⟩ : ∃ eb, decide (c = q) = eb := ⟨_, rfl⟩
  rw [heb] at heq
  have HE1 := Lib.hid (show eb = true → Dep (xs.map fm) q c from fun e => by rw [e] at heb; obtain rfl := of_decide_eq_true heb; exact Dep.here)
  have HE2 := Lib.hid (show eb = false → c ≠ q from fun e => by rw [e] at heb; exact of_decide_eq_false heb)
  clear hx hS hc hk hr hq heb ih
  obtain ⟨c1, c2, c3, c4⟩ := c
  obtain ⟨q1, q2, q3, q4⟩ := q
  unfold C4.v at *
  simp only at heq
  have hh2 := heap_alloc2_old w (.cells #[.int .i64 c1, .int .i64 c2, .int .i64 c3, .int .i64 c4] 26) (.cells #[.int .i64 q1, .int .i64 q2, .int .i64 q3, .int .i64 q4] 26)
  have hr2 := heap_alloc2_new w (.cells #[.int .i64 c1, .int .i64 c2, .int .i64 c3, .int .i64 c4] 26) (.cells #[.int .i64 q1, .int .i64 q2, .int .i64 q3, .int .i64 q4] 26)
  have hB1 : Below w.heap.size w ((w.alloc (.cells #[.int .i64 c1, .int .i64 c2, .int .i64 c3, .int .i64 c4] 26)).alloc (.cells #[.int .i64 q1, .int .i64 q2, .int .i64 q3, .int .i64 q4] 26)) := ((Below.refl _ w).alloc (Nat.le_refl _) _).alloc (by simp) _
  go_enter Try.func16, Try.ntmps16
  cases eb
  rotate_left
  · go_wp2_with fail
    go_ret
    exact ⟨true, rfl, hB1, fun h => by cases h⟩
  go_wp2_with fail
  generalize (w.alloc (.cells #[.int .i64 c1, .int .i64 c2, .int .i64 c3, .int .i64 c4] 26)).alloc (.cells #[.int .i64 q1, .int .i64 q2, .int .i64 q3, .int .i64 q4] 26) = w1 at *
  have HB1 := Lib.hid hB1
  have HR2 := Lib.hid hr2
  clear hh2 hr2 hB1 heq
  refine (find48 (S := S) w1 a len cap xs (HX.out.below HB1.out HS.out) (fun b hb => Nat.lt_of_lt_of_le (HS.out b hb) HB1.out.size) ⟨c1, c2, c3, c4⟩ HC.out).mono ?_
  rintro e w2 ⟨v, rfl, hv, hB2⟩
  obtain ⟨fo, hfo⟩ : ∃ f, findF (xs.map fm) ⟨c1, c2, c3, c4⟩ = f := ⟨_, rfl⟩
  rw [hfo] at hv
  obtain ⟨⟨d1, d2, d3, d4⟩, ft, fa, fmd, fs⟩ := fo
  have HFO := Lib.hid hfo
  have HV := Lib.hid hv
  obtain ⟨ta, tl, tc, ts, rfl, hT, ht, -⟩ := hv
  simp only at ht
  subst ht
  have HT := Lib.hid hT
  have hrz := heap_alloc_new w2 (.cells #[.int .i64 0, .int .i64 0, .int .i64 0, .int .i64 0, .slice none 0 0, .int .i16 0, .int .u8 0, .int .i8 0] 41)
  have hBz := (Below.refl w2.heap.size w2).alloc (Nat.le_refl _) (.cells #[.int .i64 0, .int .i64 0, .int .i64 0, .int .i64 0, .slice none 0 0, .int .i16 0, .int .u8 0, .int .i8 0] 41)
  have HRZ := Lib.hid hrz
  have HB2 := Lib.hid hB2
  clear hfo hT hB2 hrz
  go_wp2_with (refine wpList_store_row rfl _ _ _ rfl (w2.heap.size) #[.int .i64 d1, .int .i64 d2, .int .i64 d3, .int .i64 d4, .slice ta tl tc, .int .i16 fa, .int .u8 fmd, .int .i8 fs] rfl rfl 41 _ HRZ.out (by kernel_rfl) (by rfl) (by simp [Value.oneCell']) ?_)
  have hrow := setRow_heap _ _ _ #[.int .i64 d1, .int .i64 d2, .int .i64 d3, .int .i64 d4, .slice ta tl tc, .int .i16 fa, .int .u8 fmd, .int .i8 fs] _ _ HRZ.out
  have hBs := below_setRow (n := w2.heap.size) hBz (Nat.le_refl _) #[.int .i64 d1, .int .i64 d2, .int .i64 d3, .int .i64 d4, .slice ta tl tc, .int .i16 fa, .int .u8 fmd, .int .i8 fs]
  generalize hw3 : World.setRow (w2.alloc _) _ _ = w3 at hrow hBs ⊢
  clear hw3
  have HBS := Lib.hid hBs
  have HROW := Lib.hid hrow
  have HBW := Lib.hid (below_step HB1.out (below_step HB2.out hBs))
  have HBQ := Lib.hid (((hBs.block _ (blk_lt ((HB2.out.block _ (blk_lt HR2.out)).trans HR2.out))).trans (HB2.out.block _ (blk_lt HR2.out))).trans HR2.out)
  have HS2 := Lib.hid (show ∀ b, S b → b < w2.heap.size from fun b hb => Nat.lt_of_lt_of_le (HS.out b hb) (Nat.le_trans HB1.out.size HB2.out.size))
  have HT3 := Lib.hid (HT.out.below hBs HS2.out)
  have hlen : ts.length = tl := HT.out.sl_flat.1
  have htb : tl ≤ 9223372036854775807 := by obtain ⟨-, e1, e2, -⟩ := HT.out.sl_flat; omega
  have HLEN := Lib.hid hlen
  clear hrow hBs hBz hlen HT HRZ HR2
  generalize w.heap.size + 1 = qb at *
  go_wp2_with fail
  go_loopw [8] (fun i wr => ∃ k : Nat, k ≤ tl ∧ i = .int .i64 k ∧ (∀ j (hj : j < ts.length), j < k → ¬ Dep (xs.map fm) ⟨q1, q2, q3, q4⟩ (tm ts[j]).1) ∧ Below w3.heap.size w3 wr) (fun i _ => tl - (intOf i).toNat)
  case atStart => exact ⟨0, Nat.zero_le _, rfl, fun j _ hj => absurd hj (by omega), Below.refl _ _⟩
  case round =>
    obtain ⟨k, hk, rfl, hd, hB⟩ := hrel
    have HD := Lib.hid hd
    have HB := Lib.hid hB
    have hr4 := (hB.block _ (blk_lt HROW.out)).trans HROW.out
    have x4 := blk_cell hr4 4
    simp at x4
    clear hd hB
    by_cases hlt : k < tl
    · have hkx : k < ts.length := by rw [HLEN.out]; exact hlt
      have hkI : (k : Int) < (tl : Int) := by omega
      have hq4 := (HB.out.block _ (blk_lt HBQ.out)).trans HBQ.out
      obtain ⟨tb, toff, rfl, -, p0, p1, p2, p3, p4, pok, -⟩ := term_at (HT3.out.below HB.out (fun b hb => Nat.lt_of_lt_of_le (HS2.out b hb) HBS.out.size)) k hkx
      have hrkt : rank (xs.map fm) (tm ts[k]).1 < n := by
        have h1 := HK.out
        have h2 : tm ts[k] ∈ (findF (xs.map fm) ⟨c1, c2, c3, c4⟩).terms := by rw [HFO.out]; exact List.mem_map_of_mem (List.getElem_mem hkx)
        have h3 := (findF_ranked HR.out h2).2
        omega
      have HSUC := Lib.hid (show ¬ Dep (xs.map fm) ⟨q1, q2, q3, q4⟩ (tm ts[k]).1 → ∀ j (hj : j < ts.length), j < k + 1 → ¬ Dep (xs.map fm) ⟨q1, q2, q3, q4⟩ (tm ts[j]).1 from fun h j hj hjk => by
        by_cases e : j = k
        · subst e; exact h
        · exact HD.out j hj (by omega))
      generalize tm ts[k] = t at p0 p1 p2 p3 p4 pok hrkt HSUC
      obtain ⟨⟨t1, t2, t3, t4⟩, tf⟩ := t
      simp only at p0 p1 p2 p3 pok hrkt HSUC
      have HRT := Lib.hid hrkt
      have POK := Lib.hid pok
      have HLT := Lib.hid hlt
      have hC0 : Cells [(⟨w2.heap.size, 4, none⟩, .slice (some ⟨tb, toff, none⟩) tl tc), (⟨tb, toff + k * 5, none⟩, .int .i64 t1), (⟨tb, toff + k * 5 + 1, none⟩, .int .i64 t2), (⟨tb, toff + k * 5 + 2, none⟩, .int .i64 t3), (⟨tb, toff + k * 5 + 3, none⟩, .int .i64 t4), (⟨qb, 0, none⟩, .int .i64 q1), (⟨qb, 1, none⟩, .int .i64 q2), (⟨qb, 2, none⟩, .int .i64 q3), (⟨qb, 3, none⟩, .int .i64 q4)] wr := ⟨x4, p0, p1, p2, p3, blk_cell hq4 0, blk_cell hq4 1, blk_cell hq4 2, blk_cell hq4 3, trivial⟩
      clear hrkt pok hlt p0 p1 p2 p3 p4 hq4 hr4
      go_wp2_with fail
      clear x4
      refine wp_region_T (Cells [(⟨w2.heap.size, 4, none⟩, .slice (some ⟨tb, toff, none⟩) tl tc), (⟨tb, toff + k * 5, none⟩, .int .i64 t1), (⟨tb, toff + k * 5 + 1, none⟩, .int .i64 t2), (⟨tb, toff + k * 5 + 2, none⟩, .int .i64 t3), (⟨tb, toff + k * 5 + 3, none⟩, .int .i64 t4), (⟨qb, 0, none⟩, .int .i64 q1), (⟨qb, 1, none⟩, .int .i64 q2), (⟨qb, 2, none⟩, .int .i64 q3), (⟨qb, 3, none⟩, .int .i64 q4)]) (fun _ => false) (by kernel_rfl) ?_
      have hSss1 := Cells.drew hC0
      have hB_0_s1 : Below wr.heap.size wr wr.drew := below_drew _
      generalize wr.drew = s1 at hSss1 hB_0_s1 ⊢
      have hB_s1_s1 := Below.refl s1.heap.size s1
      refine wpAnyT_pure (i := 0) (v := ?_) rfl (by kernel_rfl) (by kernel_rfl) (by kernel_rfl) (fun _ _ _ h => h) (by rfl) ?_ ?_
      rotate_left
      · intro w; go_simp; try with_reducible rfl
      simp only [Act.put, List.setIfInBounds_toArray, List.set_cons_zero, List.set_cons_succ, List.getElem_toArray, List.getElem_cons_succ, List.getElem_cons_zero]
      refine wpAnyT_pure (i := 1) (v := ?_) rfl (by kernel_rfl) (by kernel_rfl) (by kernel_rfl) (fun _ _ _ h => h) (by rfl) ?_ ?_
      rotate_left
      · intro w; go_simp; try with_reducible rfl
      simp only [Act.put, List.setIfInBounds_toArray, List.set_cons_zero, List.set_cons_succ, List.getElem_toArray, List.getElem_cons_succ, List.getElem_cons_zero]
      refine wpAnyT_pure (i := 3) (v := ?_) rfl (by kernel_rfl) (by kernel_rfl) (by kernel_rfl) (fun _ _ _ h => h) (by rfl) ?_ ?_
      rotate_left
      · intro w; go_simp; try with_reducible rfl
      simp only [Act.put, List.setIfInBounds_toArray, List.set_cons_zero, List.set_cons_succ, List.getElem_toArray, List.getElem_cons_succ, List.getElem_cons_zero]
      refine wpAnyT_loadW (i := 2) (v := ?_) rfl (by kernel_rfl) (by kernel_rfl) (by kernel_rfl) (by kernel_rfl) (by kernel_rfl) (fun _ _ _ h => h) (Or.inl ⟨by rfl, ?_⟩) hSss1 ?_
      rotate_left
      · intro w hSw; obtain ⟨e0, e1, e2, e3, e4, e5, e6, e7, e8, -⟩ := hSw; go_simp; try with_reducible rfl
      simp only [Act.put, List.setIfInBounds_toArray, List.set_cons_zero, List.set_cons_succ, List.getElem_toArray, List.getElem_cons_succ, List.getElem_cons_zero]
      refine wpAnyT_pure (i := 4) (v := ?_) rfl (by kernel_rfl) (by kernel_rfl) (by kernel_rfl) (fun _ _ _ h => h) (by rfl) ?_ ?_
      rotate_left
      · intro w; go_simp; try with_reducible rfl
      simp only [Act.put, List.setIfInBounds_toArray, List.set_cons_zero, List.set_cons_succ, List.getElem_toArray, List.getElem_cons_succ, List.getElem_cons_zero]
      refine wpAnyT_pure (i := 5) (v := ?_) rfl (by kernel_rfl) (by kernel_rfl) (by kernel_rfl) (fun _ _ _ h => h) (by rfl) ?_ ?_
      rotate_left
      · intro w; go_simp; try with_reducible rfl
      simp only [Act.put, List.setIfInBounds_toArray, List.set_cons_zero, List.set_cons_succ, List.getElem_toArray, List.getElem_cons_succ, List.getElem_cons_zero]
      refine wpAnyT_loadW (i := 6) (v := ?_) rfl (by kernel_rfl) (by kernel_rfl) (by kernel_rfl) (by kernel_rfl) (by kernel_rfl) (fun _ _ _ h => h) (Or.inl ⟨by rfl, ?_⟩) hSss1 ?_
      rotate_left
      · intro w hSw; obtain ⟨e0, e1, e2, e3, e4, e5, e6, e7, e8, -⟩ := hSw; go_simp; try with_reducible rfl
      simp only [Act.put, List.setIfInBounds_toArray, List.set_cons_zero, List.set_cons_succ, List.getElem_toArray, List.getElem_cons_succ, List.getElem_cons_zero]
      refine wpAnyT_loadW (i := 7) (v := ?_) rfl (by kernel_rfl) (by kernel_rfl) (by kernel_rfl) (by kernel_rfl) (by kernel_rfl) (fun _ _ _ h => h) (Or.inl ⟨by rfl, ?_⟩) hSss1 ?_
      rotate_left
      · intro w hSw; obtain ⟨e0, e1, e2, e3, e4, e5, e6, e7, e8, -⟩ := hSw; go_simp; try with_reducible rfl
      simp only [Act.put, List.setIfInBounds_toArray, List.set_cons_zero, List.set_cons_succ, List.getElem_toArray, List.getElem_cons_succ, List.getElem_cons_zero]
      refine wpAnyT_one (i := 8) (by kernel_rfl) rfl (by rfl) ?_
      have hb8 : Below w.heap.size w s1 := below_step HBW.out (below_step HB.out (hB_0_s1.trans ((hB_s1_s1).mono (hB_0_s1).size)))
      refine wp_enter (f := 16) (args := #[.slice a len cap, .agg #[.int .i64 t1, .int .i64 t2, .int .i64 t3, .int .i64 t4], .agg #[.int .i64 q1, .int .i64 q2, .int .i64 q3, .int .i64 q4]]) (by go_simp) (HIH.out s1 ⟨t1, t2, t3, t4⟩ (HX.out.below hb8 HS.out) (fun b hb => Nat.lt_of_lt_of_le (HS.out b hb) hb8.size) POK.out HRT.out) ?_
      rintro e w102 ⟨b9, rfl, hX, hd9⟩
      have HD9 := Lib.hid hd9
      clear hb8 hd9
      have hB_s1_w102 := below_step hB_s1_s1 hX
      have hB_w102_w102 := Below.refl w102.heap.size w102
      have hSsw102 := Cells.below hB_s1_w102 hSss1
      clear hX
      refine ⟨_, rfl, fun _ _ => hSsw102, ?_⟩
      try simp only [Act.put, List.setIfInBounds_toArray, List.set_cons_zero, List.set_cons_succ, List.getElem_toArray, List.getElem_cons_succ, List.getElem_cons_zero]
      refine wpAnyT_done (by kernel_rfl) ?_ _
      have HBP := Lib.hid (below_step HB.out (hB_0_s1.trans ((hB_s1_w102).mono (hB_0_s1).size)))
      cases b9
      · go_wp2_with fail
        go_roundw
        case rel => exact ⟨k + 1, HLT.out, by go_num, HSUC.out (HD9.out (by first | rfl | trivial)), HBP.out⟩
        case measure => simp [intOf]; try omega
      · go_wp2_with fail
        go_ret
        exact ⟨true, rfl, below_step HBW.out HBP.out, fun h => by cases h⟩
    · obtain rfl : tl = k := by omega
      go_wp2_with fail
      go_ret
      refine ⟨false, rfl, below_step HBW.out HB.out, fun _ => not_dep (HE2.out (by first | rfl | trivial)) fun t ht => ?_⟩
      rw [HFO.out] at ht
      obtain ⟨y, hy, rfl⟩ := List.mem_map.1 ht
      obtain ⟨j, hj, rfl⟩ := List.getElem_of_mem hy
      exact HD.out j hj (by rw [← HLEN.out]; exact hj)
end Go.Proofs.Ytmmeieangbcfaaa
