/- Layer 48: the reference's Find. -/
import Derived.Test.YtmmeieangbcfaaaC48b
set_option linter.unusedSimpArgs false
namespace Go.Proofs.Ytmmeieangbcfaaa
open Go.RowKit Go

theorem rdOwn {e : Ty} {te : TypeId} {base : Nat} {w : World} {v : Value} {xs : List e.den} (h : Owns e te base (fun _ => False) w v xs) : Rd (.sl e) (fun b => b < w.heap.size) w [v] xs := h.rd _ (fun _ h => h.elim) (fun c hc => (h.own c hc).2)
theorem zero_form {S : Nat → Prop} (w : World) (c : C4) (hc : c.ok) : FormV S w (.agg #[.int .i64 c.st, .int .i64 c.en, .int .i64 c.ot, .int .i64 c.pe, .slice none 0 0, .int .i16 0, .int .u8 0, .int .i8 0]) ⟨c, [], 0, 0, 0⟩ :=
  ⟨none, 0, 0, [], rfl, ⟨none, 0, 0, rfl, rfl, Nat.le_refl _, by omega, .inl rfl⟩, rfl, hc, (by decide : (Lit.int .i16 0).wf = true), (by decide : (Lit.int .u8 0).wf = true), (by decide : (Lit.int .i8 0).wf = true)⟩
set_option maxRecDepth 20000 in
set_option maxHeartbeats 1000000 in
theorem find48 {S : Nat → Prop} (w : World) (a : Option Addr) (len cap : Nat) (xs : List formT.den) (hx : Rd (.sl formT) S w [.slice a len cap] xs) (hS : ∀ b, S b → b < w.heap.size) (c : C4) (hc : c.ok) :
    Calls Try.prog 23 #[.slice a len cap, c.v] w fun e w' => ∃ v, e = .returned v ∧ FormV S w' v (findF (xs.map fm) c) ∧ Below w.heap.size w w' := by
  obtain ⟨hl, hlc, hm, -⟩ := hx.sl_flat
  have HX := Lib.hid hx
  have HL := Lib.hid hl
  have HS := Lib.hid hS
  have HC := Lib.hid hc
  have heq := fun W d => cell_eql W d c
  have hgd : Try.prog.eqGuardType Try.prog.depth 26 = false := by kernel_rfl
  have hfm : (List.map fm xs).length = len := by rw [List.length_map]; exact hl
  have HFM := Lib.hid hfm
  clear hx hl hS hc hfm
  obtain ⟨c1, c2, c3, c4⟩ := c
  unfold C4.v at *
  simp only at heq
  have hh := heap_alloc_new w (.cells #[.int .i64 c1, .int .i64 c2, .int .i64 c3, .int .i64 c4] 26)
  have hr := heap_alloc2_new w (.cells #[.int .i64 c1, .int .i64 c2, .int .i64 c3, .int .i64 c4] 26) (.cells #[.int .i64 0, .int .i64 0, .int .i64 0, .int .i64 0, .slice none 0 0, .int .i16 0, .int .u8 0, .int .i8 0] 41)
  have hh2 := heap_alloc2_old w (.cells #[.int .i64 c1, .int .i64 c2, .int .i64 c3, .int .i64 c4] 26) (.cells #[.int .i64 0, .int .i64 0, .int .i64 0, .int .i64 0, .slice none 0 0, .int .i16 0, .int .u8 0, .int .i8 0] 41)
  have hB1 : Below w.heap.size w ((w.alloc (.cells #[.int .i64 c1, .int .i64 c2, .int .i64 c3, .int .i64 c4] 26)).alloc (.cells #[.int .i64 0, .int .i64 0, .int .i64 0, .int .i64 0, .slice none 0 0, .int .i16 0, .int .u8 0, .int .i8 0] 41)) := ((Below.refl _ w).alloc (Nat.le_refl _) _).alloc (by simp) _
  go_enter Try.func23, Try.ntmps23
  go_wp2_with fail
  generalize (w.alloc (.cells #[.int .i64 c1, .int .i64 c2, .int .i64 c3, .int .i64 c4] 26)).alloc (.cells #[.int .i64 0, .int .i64 0, .int .i64 0, .int .i64 0, .slice none 0 0, .int .i16 0, .int .u8 0, .int .i8 0] 41) = W at *
  clear hh
  have HR := Lib.hid hr
  have HH2 := Lib.hid hh2
  clear hr hh2
  go_loopw [5] (fun i wr => ∃ (j : Int), -1 ≤ j ∧ j < len ∧ i = .int .i64 j ∧ (∀ n (hn : n < (List.map fm xs).length), j < n → ((List.map fm xs)[n]).cell ≠ ⟨c1, c2, c3, c4⟩) ∧ Below W.heap.size W wr) (fun i _ => (intOf i + 1).toNat)
  case atStart => exact ⟨(len : Int) - 1, by omega, by omega, rfl, fun n hn hj => by have := HFM.out; omega, Below.refl _ _⟩
  case round =>
    obtain ⟨j, hj1, hj2, rfl, hno, hB⟩ := hrel
    have HB := Lib.hid hB
    have HNO := Lib.hid hno
    have hrw := hB.size
    have hr := (hB.block _ (blk_lt HR.out)).trans HR.out
    have hh2 := (hB.block _ (blk_lt HH2.out)).trans HH2.out
    have hcW := hB1.size
    by_cases hj0 : 0 ≤ j
    · obtain ⟨n, rfl⟩ := Int.eq_ofNat_of_zero_le hj0
      have hnx : n < xs.length := by have := HL.out; omega
      have hBw : Below w.heap.size w wr := below_step hB1 hB
      obtain ⟨b, off, ta, tl, tc, rfl, hb, m0, m1, m2, m3, m4, m5, m6, m7, hfv⟩ := form_at (HX.out.below hBw HS.out) n hnx
      have hget : (List.map fm xs)[n]'(by have := HFM.out; have := HL.out; omega) = fm xs[n] := List.getElem_map _
      have hhit : (fm xs[n]).cell = ⟨c1, c2, c3, c4⟩ → findF (List.map fm xs) ⟨c1, c2, c3, c4⟩ = fm xs[n] := fun e => by
        rw [findF_hit (k := n) (by have := HFM.out; have := HL.out; omega) (by rw [hget]; exact e) (fun i hi hni => HNO.out i hi (by omega)), hget]
      have hmiss : (fm xs[n]).cell ≠ ⟨c1, c2, c3, c4⟩ → ∀ i (hi : i < (List.map fm xs).length), (n : Int) - 1 < i → ((List.map fm xs)[i]).cell ≠ ⟨c1, c2, c3, c4⟩ := fun e i hi hni => by
        by_cases hin : i = n
        · subst hin; rw [hget]; exact e
        · exact HNO.out i hi (by omega)
      generalize fm xs[n] = f at m0 m1 m2 m3 m5 m6 m7 hfv hhit hmiss
      obtain ⟨⟨d1, d2, d3, d4⟩, ft, fa, fmd, fs⟩ := f
      simp only at m0 m1 m2 m3 m5 m6 m7 hfv hhit hmiss
      have heqd := fun W' => heq W' ⟨d1, d2, d3, d4⟩
      simp only at heqd
      obtain ⟨eb, heb⟩ : ∃ eb, decide ((⟨d1, d2, d3, d4⟩ : C4) = ⟨c1, c2, c3, c4⟩) = eb := ⟨_, rfl⟩
      rw [heb] at heqd
      have HHIT := Lib.hid (show eb = true → findF (List.map fm xs) ⟨c1, c2, c3, c4⟩ = ⟨⟨d1, d2, d3, d4⟩, ft, fa, fmd, fs⟩ from fun e => hhit (by rw [e] at heb; exact of_decide_eq_true heb))
      have HMISS := Lib.hid (show eb = false → _ from fun e => hmiss (by rw [e] at heb; exact of_decide_eq_false heb))
      have HFV := Lib.hid hfv
      have hkI : (n : Int) < (len : Int) := hj2
      obtain ⟨k0, k1, k2, k3⟩ : wr.cell? ⟨w.heap.size, 0, none⟩ = some (.int .i64 c1) ∧ wr.cell? ⟨w.heap.size, 1, none⟩ = some (.int .i64 c2) ∧ wr.cell? ⟨w.heap.size, 2, none⟩ = some (.int .i64 c3) ∧ wr.cell? ⟨w.heap.size, 3, none⟩ = some (.int .i64 c4) := ⟨blk_cell hh2 0, blk_cell hh2 1, blk_cell hh2 2, blk_cell hh2 3⟩
      clear hhit hmiss heb hfv hget hno hB hb heq
      go_wp2_with fail
      have hC0 : Cells [(⟨b, off + n * 8, none⟩, .int .i64 d1), (⟨b, off + n * 8 + 1, none⟩, .int .i64 d2), (⟨b, off + n * 8 + 2, none⟩, .int .i64 d3), (⟨b, off + n * 8 + 3, none⟩, .int .i64 d4), (⟨w.heap.size, 0, none⟩, .int .i64 c1), (⟨w.heap.size, 1, none⟩, .int .i64 c2), (⟨w.heap.size, 2, none⟩, .int .i64 c3), (⟨w.heap.size, 3, none⟩, .int .i64 c4)] wr := ⟨m0, m1, m2, m3, k0, k1, k2, k3, trivial⟩
      refine wp_region_T (Cells [(⟨b, off + n * 8, none⟩, .int .i64 d1), (⟨b, off + n * 8 + 1, none⟩, .int .i64 d2), (⟨b, off + n * 8 + 2, none⟩, .int .i64 d3), (⟨b, off + n * 8 + 3, none⟩, .int .i64 d4), (⟨w.heap.size, 0, none⟩, .int .i64 c1), (⟨w.heap.size, 1, none⟩, .int .i64 c2), (⟨w.heap.size, 2, none⟩, .int .i64 c3), (⟨w.heap.size, 3, none⟩, .int .i64 c4)]) (fun _ => false) (by kernel_rfl) ?_
      have hSss1 := Cells.drew hC0
      have hB_0_s1 : Below wr.heap.size wr wr.drew := below_drew _
      generalize wr.drew = s1 at hSss1 hB_0_s1 ⊢
      have hB_s1_s1 := Below.refl s1.heap.size s1
      refine wpAnyT_pure (i := 0) (v := ?_) rfl (by kernel_rfl) (by kernel_rfl) (by kernel_rfl) (fun _ _ _ h => h) (by rfl) ?_ ?_
      rotate_left
      · intro w; go_simp; try with_reducible rfl
      simp only [Act.put, List.setIfInBounds_toArray, List.set_cons_zero, List.set_cons_succ, List.getElem_toArray, List.getElem_cons_succ, List.getElem_cons_zero]
      refine wpAnyT_pure (i := 1) (v := ?_) rfl (by kernel_rfl) (by kernel_rfl) (by kernel_rfl) (fun _ _ _ h => h) (by rfl) ?_ ?_
      rotate_left
      · intro w; go_simp; try with_reducible rfl
      simp only [Act.put, List.setIfInBounds_toArray, List.set_cons_zero, List.set_cons_succ, List.getElem_toArray, List.getElem_cons_succ, List.getElem_cons_zero]
      refine wpAnyT_pure (i := 2) (v := ?_) rfl (by kernel_rfl) (by kernel_rfl) (by kernel_rfl) (fun _ _ _ h => h) (by rfl) ?_ ?_
      rotate_left
      · intro w; go_simp; try with_reducible rfl
      simp only [Act.put, List.setIfInBounds_toArray, List.set_cons_zero, List.set_cons_succ, List.getElem_toArray, List.getElem_cons_succ, List.getElem_cons_zero]
      refine wpAnyT_pure (i := 3) (v := ?_) rfl (by kernel_rfl) (by kernel_rfl) (by kernel_rfl) (fun _ _ _ h => h) (by rfl) ?_ ?_
      rotate_left
      · intro w; go_simp; try with_reducible rfl
      simp only [Act.put, List.setIfInBounds_toArray, List.set_cons_zero, List.set_cons_succ, List.getElem_toArray, List.getElem_cons_succ, List.getElem_cons_zero]
      refine wpAnyT_loadW (i := 4) (v := ?_) rfl (by kernel_rfl) (by kernel_rfl) (by kernel_rfl) (by kernel_rfl) (by kernel_rfl) (fun _ _ _ h => h) (Or.inl ⟨by rfl, ?_⟩) hSss1 ?_
      rotate_left
      · intro w hSw; obtain ⟨e0, e1, e2, e3, e4, e5, e6, e7, -⟩ := hSw; go_simp; try with_reducible rfl
      simp only [Act.put, List.setIfInBounds_toArray, List.set_cons_zero, List.set_cons_succ, List.getElem_toArray, List.getElem_cons_succ, List.getElem_cons_zero]
      refine wpAnyT_loadW (i := 5) (v := ?_) rfl (by kernel_rfl) (by kernel_rfl) (by kernel_rfl) (by kernel_rfl) (by kernel_rfl) (fun _ _ _ h => h) (Or.inl ⟨by rfl, ?_⟩) hSss1 ?_
      rotate_left
      · intro w hSw; obtain ⟨e0, e1, e2, e3, e4, e5, e6, e7, -⟩ := hSw; go_simp; try with_reducible rfl
      simp only [Act.put, List.setIfInBounds_toArray, List.set_cons_zero, List.set_cons_succ, List.getElem_toArray, List.getElem_cons_succ, List.getElem_cons_zero]
      refine wpAnyT_pure (i := 6) (v := ?_) rfl (by kernel_rfl) (by kernel_rfl) (by kernel_rfl) (fun _ _ _ h => h) (by rfl) ?_ ?_
      rotate_left
      · intro w; go_simp; try with_reducible rfl
      simp only [Act.put, List.setIfInBounds_toArray, List.set_cons_zero, List.set_cons_succ, List.getElem_toArray, List.getElem_cons_succ, List.getElem_cons_zero]
      refine wpAnyT_done (by kernel_rfl) ?_ _
      have hBP : Below wr.heap.size wr s1 := hB_0_s1.trans ((hB_s1_s1).mono hB_0_s1.size)
      cases eb
      · go_wp2
        go_roundw
        case rel => exact ⟨(n : Int) - 1, by omega, by omega, by go_num, HMISS.out (by first | rfl | trivial), below_step HB.out hBP⟩
        case measure => simp [intOf]; try omega
      · have p0 := cell_below m0 hBP
        have p1 := cell_below m1 hBP
        have p2 := cell_below m2 hBP
        have p3 := cell_below m3 hBP
        have p4 := cell_below m4 hBP
        have p5 := cell_below m5 hBP
        have p6 := cell_below m6 hBP
        have p7 := cell_below m7 hBP
        have hrP := (hBP.block _ (blk_lt hr)).trans hr
        have HRP := Lib.hid hrP
        clear hr hh2 hrP
        go_wp2_with (refine wpList_store_row rfl _ _ _ rfl (w.heap.size + 1) #[.int .i64 d1, .int .i64 d2, .int .i64 d3, .int .i64 d4, .slice ta tl tc, .int .i16 fa, .int .u8 fmd, .int .i8 fs] rfl rfl 41 _ HRP.out (by kernel_rfl) (by rfl) (by simp [Value.oneCell']) ?_)
        have hrow := setRow_heap _ _ _ #[.int .i64 d1, .int .i64 d2, .int .i64 d3, .int .i64 d4, .slice ta tl tc, .int .i16 fa, .int .u8 fmd, .int .i8 fs] _ _ HRP.out
        refine bodyPost_ret (results_cell_row (P := Try.prog) rfl _ _ (w.heap.size + 1) 41 _ (0, 0) _ (by kernel_rfl) hrow Try.underlying41 rfl (by kernel_rfl)) rfl ?_
        refine ⟨_, rfl, ?_, below_setRow (below_step (below_step hB1 HB.out) hBP) (by omega) _⟩
        rw [HHIT.out (by first | rfl | trivial)]
        exact (HFV.out.gr (Gr.of_below (F := fun _ => False) hBP) (fun b hb => ⟨Nat.lt_of_lt_of_le (HS.out b hb) (by omega), fun h => h⟩)).gr (gr_setRow _ _ _) (fun b hb => ⟨Nat.lt_of_lt_of_le (HS.out b hb) (by have := hBP.size; omega), fun h => by have := HS.out b hb; omega⟩)
    · have hj : j = -1 := by omega
      subst hj
      have HMI := Lib.hid (findF_miss (l := List.map fm xs) (c := ⟨c1, c2, c3, c4⟩) (fun n hn => hno n hn (by omega)))
      obtain ⟨k0, k1, k2, k3⟩ : wr.cell? ⟨w.heap.size, 0, none⟩ = some (.int .i64 c1) ∧ wr.cell? ⟨w.heap.size, 1, none⟩ = some (.int .i64 c2) ∧ wr.cell? ⟨w.heap.size, 2, none⟩ = some (.int .i64 c3) ∧ wr.cell? ⟨w.heap.size, 3, none⟩ = some (.int .i64 c4) := ⟨blk_cell hh2 0, blk_cell hh2 1, blk_cell hh2 2, blk_cell hh2 3⟩
      have HRP := Lib.hid hr
      clear hno hr hh2
      go_wp2_with (refine wpList_store_row rfl _ _ _ rfl (w.heap.size + 1) #[.int .i64 c1, .int .i64 c2, .int .i64 c3, .int .i64 c4, .slice none 0 0, .int .i16 0, .int .u8 0, .int .i8 0] rfl rfl 41 _ HRP.out (by kernel_rfl) (by rfl) (by simp [Value.oneCell']) ?_)
      have hrow := setRow_heap _ _ _ #[.int .i64 c1, .int .i64 c2, .int .i64 c3, .int .i64 c4, .slice none 0 0, .int .i16 0, .int .u8 0, .int .i8 0] _ _ HRP.out
      refine bodyPost_ret (results_cell_row (P := Try.prog) rfl _ _ (w.heap.size + 1) 41 _ (0, 0) _ (by kernel_rfl) hrow Try.underlying41 rfl (by kernel_rfl)) rfl ?_
      refine ⟨_, rfl, ?_, below_setRow (below_step hB1 HB.out) (by omega) _⟩
      rw [HMI.out]
      exact zero_form _ ⟨c1, c2, c3, c4⟩ HC.out
end Go.Proofs.Ytmmeieangbcfaaa
