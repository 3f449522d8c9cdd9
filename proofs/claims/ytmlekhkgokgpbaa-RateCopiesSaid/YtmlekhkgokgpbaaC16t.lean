/- Layer 16: List. -/
import Derived.Test.YtmlekhkgokgpbaaC16s
import Derived.Test.YtmlekhkgokgpbaaP16
set_option linter.unusedSimpArgs false
namespace Go.Proofs.Ytmlekhkgokgpbaa
open Go.RowKit Go Go.Shelf

theorem MapKI.wf {w : World} {b m : Nat} {f : K3 → Option Int} (h : MapKI w b m f) (x : K3) (hx : x.ok) : (Lit.int .i64 ((f x).getD 0)).wf = true := by
  obtain ⟨D, hD, hm, hf⟩ := h
  obtain ⟨v, ps, hrun, hv⟩ := hD.lookup keyed58 Try.underlying52 (zero_int16 w) (plainElem_int Try.underlying3 (q := .i64) (a := 0) (by decide)) (x.l_eq hx)
  rw [(hf x hx).2] at hv
  obtain ⟨a, rfl, hz, hw⟩ := plainElem_int_inv Try.underlying3 hv
  simp only [Prod.mk.injEq, DataW.lit.injEq, Lit.int.injEq, true_and] at hz
  rw [hz.1]
  exact hw
set_option maxRecDepth 20000 in
set_option maxHeartbeats 4000000 in
theorem List_sum (F : Nat → Prop) (w : World) (p : Nat) (g : ByteArray) (m : Nat) (f : K3 → Option Int) (hs : List rateT.den) (h : TabIn F w p g m f hs) (hm : m ≤ 100000) :
    Calls Try.prog 22 #[.pointer (some ⟨p, 0, none⟩)] w fun e w' => ∃ v ys, e = .returned v ∧ keysF f ys ∧ Owns rateT 35 w.heap.size (fun _ => False) w' v (rowsOf f ys) ∧ Below w.heap.size w w' := by
  obtain ⟨mb, hv, k0, k1, k2, hM, -⟩ := h.open_
  have hMK := hM
  obtain ⟨D, hD, hDs, hDf⟩ := hM
  have hB0 : Below w.heap.size w (w.alloc (.cells #[.map (some mb)] 52)) := (Below.refl _ w).alloc (Nat.le_refl _) _
  have hD1 : (w.alloc (.cells #[.map (some mb)] 52)).ownsMap Try.prog 58 (plainElem Try.prog 3) mb m D := by
    have hbl := hD.lt
    obtain ⟨es, clock, hb, Ft, hs, hD⟩ := hD
    exact ⟨es, clock, (hB0.block mb hbl).trans hb, Ft, hs, hD⟩
  have hsf := SortedFunc16 w.heap.size mb m D _ (by omega) (Boxed.new w 52 (.map (some mb))).cell hD1
  have HSF := Lib.hid hsf
  have HMK := Lib.hid hMK
  have HDF := Lib.hid hDf
  have HDS := Lib.hid hDs
  have hpw := Below.lt_cell k1
  clear hsf hMK hDf hDs h hD hD1 k0 k2
  go_enter Try.func22, Try.ntmps22
  go_wp2_with (first | (go_at_call 38; refine (Keys16 _ _).mono ?_; rintro e w1 ⟨rfl, rfl⟩) | (go_at_call 37; refine HSF.out.mono ?_; rintro e w2 ⟨v, ys, rfl, ⟨hKO, hKL⟩, hKA, hB2⟩; obtain ⟨ka, kcap, rfl, hkc, hki⟩ := hKA; have HKO := Lib.hid hKO; have HKL := Lib.hid hKL; have HKI := Lib.hid hki; have HKC := Lib.hid hkc; have HB2 := Lib.hid (hB0.trans (hB2.mono (by simp))); clear hKO hKL hki hkc hB2))
  have hys : keysF f ys := ⟨HKO.out.1, HKO.out.2.1, fun x hx => by rw [HKO.out.2.2 x hx, (HDF.out x hx).1]⟩
  have HYS := Lib.hid hys
  have hk1' : w2.cell? ⟨p, 1, none⟩ = some (.map (some mb)) := (HB2.out.cell (p := ⟨p, 1, none⟩) hpw).trans k1
  have HK1 := Lib.hid hk1'
  have HM2 := Lib.hid (HMK.out.below HB2.out)
  have hw2 := HB2.out.size
  clear hys hk1' k1
  go_loopw [3, 15] (fun out i wr => ∃ (k : Nat) (oa : Option Addr) (ol oc : Nat), k ≤ ys.length ∧ i = .int .i64 k ∧ out = .slice oa ol oc ∧ Owns rateT 35 w2.heap.size (fun _ => False) wr (.slice oa ol oc) (rowsOf f (ys.take k)) ∧ Below w2.heap.size w2 wr) (fun _ i _ => ys.length - (intOf i).toNat)
  case atStart => exact ⟨0, none, 0, 0, Nat.zero_le _, rfl, rfl, Owns.nil _ _ _ _, Below.refl _ _⟩
  case round =>
    obtain ⟨k, oa, ol, oc, hk, rfl, rfl, hO, hB⟩ := hrel
    have HO := Lib.hid hO
    have HB := Lib.hid hB
    have hwr := hB.size
    clear hO hB
    by_cases hlt : k < ys.length
    · obtain ⟨kg, rfl, hkg1, hkg2, c0, c1, c2⟩ := HKI.out k hlt
      have hc0 := (HB.out.cell (p := ⟨kg, k * 3, none⟩) hkg2).trans c0
      have hc1 := (HB.out.cell (p := ⟨kg, k * 3 + 1, none⟩) hkg2).trans c1
      have hc2 := (HB.out.cell (p := ⟨kg, k * 3 + 2, none⟩) hkg2).trans c2
      have hxok : (ys[k]).ok := HYS.out.2.1 _ (List.getElem_mem hlt)
      have hnext : rowsOf f (ys.take (k + 1)) = rowsOf f (ys.take k) ++ [rowR f ys[k]] := by
        rw [List.take_succ_eq_append_getElem hlt]
        unfold rowsOf
        rw [List.map_append]
        rfl
      clear c0 c1 c2
      generalize ys[k] = x at hc0 hc1 hc2 hxok hnext
      obtain ⟨xc, xk, xw⟩ := x
      simp only at hc0 hc1 hc2
      have hMr := HM2.out.below (HB.out)
      have hM1 := hMr.below ((Below.refl _ wr).alloc (Nat.le_refl _) (.cells #[.string xc, .int .i64 xk, .int .i64 xw] 58))
      have hlk := (hM1.keep (w' := (wr.alloc (.cells #[.string xc, .int .i64 xk, .int .i64 xw] 58)).drew) rfl).look1 Try.underlying52 ⟨xc, xk, xw⟩ hxok
      have hfw := hMr.wf ⟨xc, xk, xw⟩ hxok
      have hrow : rowR f ⟨xc, xk, xw⟩ = (xc, xk, xw, (f ⟨xc, xk, xw⟩).getD 0, ()) := rfl
      rw [hrow] at hnext
      unfold K3.v at hlk
      generalize (f ⟨xc, xk, xw⟩).getD 0 = fv at hlk hfw hnext
      have HNX := Lib.hid hnext
      have HXOK := Lib.hid hxok
      have HFW := Lib.hid hfw
      have HLT := Lib.hid hlt
      have hkI : (k : Int) < (ys.length : Int) := by omega
      have hcap := HKC.out
      have hkB : (k : Int) ≤ 100000 := by have := HKL.out; have := HDS.out; omega
      have hp1 : wr.cell? ⟨p, 1, none⟩ = some (.map (some mb)) := (HB.out.cell (p := ⟨p, 1, none⟩) (by show p < _; omega)).trans HK1.out
      have q0 : (wr.alloc (.cells #[.string xc, .int .i64 xk, .int .i64 xw] 58)).cell? ⟨wr.heap.size, 0, none⟩ = some (.string xc) := blk_cell (heap_alloc_new wr _) 0
      have q1 : (wr.alloc (.cells #[.string xc, .int .i64 xk, .int .i64 xw] 58)).cell? ⟨wr.heap.size, 1, none⟩ = some (.int .i64 xk) := blk_cell (heap_alloc_new wr _) 1
      have q2 : (wr.alloc (.cells #[.string xc, .int .i64 xk, .int .i64 xw] 58)).cell? ⟨wr.heap.size, 2, none⟩ = some (.int .i64 xw) := blk_cell (heap_alloc_new wr _) 2
      have q3 : (wr.alloc (.cells #[.string xc, .int .i64 xk, .int .i64 xw] 58)).cell? ⟨p, 1, none⟩ = some (.map (some mb)) := (((Below.refl _ wr).alloc (Nat.le_refl _) (.cells #[.string xc, .int .i64 xk, .int .i64 xw] 58)).cell (p := ⟨p, 1, none⟩) (Below.lt_cell hp1)).trans hp1
      clear hnext hxok hfw hMr hM1 hrow
      go_wp2_with fail
      refine wp_region_T (fun w' => w'.cell? ⟨wr.heap.size, 0, none⟩ = some (.string xc) ∧ w'.cell? ⟨wr.heap.size, 1, none⟩ = some (.int .i64 xk) ∧ w'.cell? ⟨wr.heap.size, 2, none⟩ = some (.int .i64 xw) ∧ w'.cell? ⟨p, 1, none⟩ = some (.map (some mb)) ∧ Sem.run Try.prog (Instr.lookup 52 (.map (some mb)) (.agg #[.string xc, .int .i64 xk, .int .i64 xw]) false) w' = .ok (.int .i64 fv) w') (fun i => i == 14 || i == 15) (by kernel_rfl) ?_
      have hS0 : (wr.alloc (.cells #[.string xc, .int .i64 xk, .int .i64 xw] 58)).drew.cell? ⟨wr.heap.size, 0, none⟩ = some (.string xc) ∧ (wr.alloc (.cells #[.string xc, .int .i64 xk, .int .i64 xw] 58)).drew.cell? ⟨wr.heap.size, 1, none⟩ = some (.int .i64 xk) ∧ (wr.alloc (.cells #[.string xc, .int .i64 xk, .int .i64 xw] 58)).drew.cell? ⟨wr.heap.size, 2, none⟩ = some (.int .i64 xw) ∧ (wr.alloc (.cells #[.string xc, .int .i64 xk, .int .i64 xw] 58)).drew.cell? ⟨p, 1, none⟩ = some (.map (some mb)) ∧ Sem.run Try.prog (Instr.lookup 52 (.map (some mb)) (.agg #[.string xc, .int .i64 xk, .int .i64 xw]) false) (wr.alloc (.cells #[.string xc, .int .i64 xk, .int .i64 xw] 58)).drew = .ok (.int .i64 fv) (wr.alloc (.cells #[.string xc, .int .i64 xk, .int .i64 xw] 58)).drew := ⟨q0, q1, q2, q3, hlk⟩
      have hB6 : Below wr.heap.size wr ((wr.alloc (.cells #[.string xc, .int .i64 xk, .int .i64 xw] 58)).drew.alloc (.cells #[.string xc, .int .i64 xk, .int .i64 xw, .int .i64 fv] 35)) := ((((Below.refl _ wr).alloc (Nat.le_refl _) _).drew).alloc (by simp) _)
      have hnews : ∀ j u, [Value.string xc, .int .i64 xk, .int .i64 xw, .int .i64 fv][j]? = some u → ((wr.alloc (.cells #[.string xc, .int .i64 xk, .int .i64 xw] 58)).drew.alloc (.cells #[.string xc, .int .i64 xk, .int .i64 xw, .int .i64 fv] 35)).cell? ((⟨wr.heap.size + 1, 0, none⟩ : Addr).add j) = some u := by
        have h := news_new (wr.alloc (.cells #[.string xc, .int .i64 xk, .int .i64 xw] 58)).drew [.string xc, .int .i64 xk, .int .i64 xw, .int .i64 fv] 35
        have hz : (wr.alloc (.cells #[.string xc, .int .i64 xk, .int .i64 xw] 58)).drew.heap.size = wr.heap.size + 1 := by simp
        rw [hz] at h
        exact h
      refine wpAnyT_pure (i := 0) (v := ?_) rfl (by kernel_rfl) (by kernel_rfl) (by kernel_rfl) (fun _ _ _ h => h) (by rfl) ?_ ?_
      rotate_left
      · intro w; go_simp; try with_reducible rfl
      simp only [Act.put, List.setIfInBounds_toArray, List.set_cons_zero, List.set_cons_succ, List.getElem_toArray, List.getElem_cons_succ, List.getElem_cons_zero]
      refine wpAnyT_pure (i := 1) (v := ?_) rfl (by kernel_rfl) (by kernel_rfl) (by kernel_rfl) (fun _ _ _ h => h) (by rfl) ?_ ?_
      rotate_left
      · intro w; go_simp; try with_reducible rfl
      simp only [Act.put, List.setIfInBounds_toArray, List.set_cons_zero, List.set_cons_succ, List.getElem_toArray, List.getElem_cons_succ, List.getElem_cons_zero]
      refine wpAnyT_pure (i := 3) (v := ?_) rfl (by kernel_rfl) (by kernel_rfl) (by kernel_rfl) (fun _ _ _ h => h) (by rfl) ?_ ?_
      rotate_left
      · intro w; go_simp; try with_reducible rfl
      simp only [Act.put, List.setIfInBounds_toArray, List.set_cons_zero, List.set_cons_succ, List.getElem_toArray, List.getElem_cons_succ, List.getElem_cons_zero]
      refine wpAnyT_pure (i := 5) (v := ?_) rfl (by kernel_rfl) (by kernel_rfl) (by kernel_rfl) (fun _ _ _ h => h) (by rfl) ?_ ?_
      rotate_left
      · intro w; go_simp; try with_reducible rfl
      simp only [Act.put, List.setIfInBounds_toArray, List.set_cons_zero, List.set_cons_succ, List.getElem_toArray, List.getElem_cons_succ, List.getElem_cons_zero]
      refine wpAnyT_pure (i := 7) (v := ?_) rfl (by kernel_rfl) (by kernel_rfl) (by kernel_rfl) (fun _ _ _ h => h) (by rfl) ?_ ?_
      rotate_left
      · intro w; go_simp; try with_reducible rfl
      simp only [Act.put, List.setIfInBounds_toArray, List.set_cons_zero, List.set_cons_succ, List.getElem_toArray, List.getElem_cons_succ, List.getElem_cons_zero]
      refine wpAnyT_pure (i := 8) (v := ?_) rfl (by kernel_rfl) (by kernel_rfl) (by kernel_rfl) (fun _ _ _ h => h) (by rfl) ?_ ?_
      rotate_left
      · intro w; go_simp; try with_reducible rfl
      simp only [Act.put, List.setIfInBounds_toArray, List.set_cons_zero, List.set_cons_succ, List.getElem_toArray, List.getElem_cons_succ, List.getElem_cons_zero]
      refine wpAnyT_pure (i := 9) (v := ?_) rfl (by kernel_rfl) (by kernel_rfl) (by kernel_rfl) (fun _ _ _ h => h) (by rfl) ?_ ?_
      rotate_left
      · intro w; go_simp; try with_reducible rfl
      simp only [Act.put, List.setIfInBounds_toArray, List.set_cons_zero, List.set_cons_succ, List.getElem_toArray, List.getElem_cons_succ, List.getElem_cons_zero]
      refine wpAnyT_loadW (i := 2) (v := ?_) rfl (by kernel_rfl) (by kernel_rfl) (by kernel_rfl) (by kernel_rfl) (by kernel_rfl) (fun _ _ _ h => h) (Or.inl ⟨by rfl, ?_⟩) hS0 ?_
      rotate_left
      · intro w hSw; obtain ⟨e0, e1, e2, e3, e4⟩ := hSw; go_simp; try with_reducible rfl
      simp only [Act.put, List.setIfInBounds_toArray, List.set_cons_zero, List.set_cons_succ, List.getElem_toArray, List.getElem_cons_succ, List.getElem_cons_zero]
      refine wpAnyT_loadW (i := 4) (v := ?_) rfl (by kernel_rfl) (by kernel_rfl) (by kernel_rfl) (by kernel_rfl) (by kernel_rfl) (fun _ _ _ h => h) (Or.inl ⟨by rfl, ?_⟩) hS0 ?_
      rotate_left
      · intro w hSw; obtain ⟨e0, e1, e2, e3, e4⟩ := hSw; go_simp; try with_reducible rfl
      simp only [Act.put, List.setIfInBounds_toArray, List.set_cons_zero, List.set_cons_succ, List.getElem_toArray, List.getElem_cons_succ, List.getElem_cons_zero]
      refine wpAnyT_loadW (i := 6) (v := ?_) rfl (by kernel_rfl) (by kernel_rfl) (by kernel_rfl) (by kernel_rfl) (by kernel_rfl) (fun _ _ _ h => h) (Or.inl ⟨by rfl, ?_⟩) hS0 ?_
      rotate_left
      · intro w hSw; obtain ⟨e0, e1, e2, e3, e4⟩ := hSw; go_simp; try with_reducible rfl
      simp only [Act.put, List.setIfInBounds_toArray, List.set_cons_zero, List.set_cons_succ, List.getElem_toArray, List.getElem_cons_succ, List.getElem_cons_zero]
      refine wpAnyT_loadW (i := 10) (v := ?_) rfl (by kernel_rfl) (by kernel_rfl) (by kernel_rfl) (by kernel_rfl) (by kernel_rfl) (fun _ _ _ h => h) (Or.inl ⟨by rfl, ?_⟩) hS0 ?_
      rotate_left
      · intro w hSw; obtain ⟨e0, e1, e2, e3, e4⟩ := hSw; go_simp; try with_reducible rfl
      simp only [Act.put, List.setIfInBounds_toArray, List.set_cons_zero, List.set_cons_succ, List.getElem_toArray, List.getElem_cons_succ, List.getElem_cons_zero]
      refine wpAnyT_loadW (i := 11) (v := ?_) rfl (by kernel_rfl) (by kernel_rfl) (by kernel_rfl) (by kernel_rfl) (by kernel_rfl) (fun _ _ _ h => h) (Or.inl ⟨by rfl, ?_⟩) hS0 ?_
      rotate_left
      · intro w hSw; obtain ⟨e0, e1, e2, e3, e4⟩ := hSw; go_simp; try with_reducible rfl
      simp only [Act.put, List.setIfInBounds_toArray, List.set_cons_zero, List.set_cons_succ, List.getElem_toArray, List.getElem_cons_succ, List.getElem_cons_zero]
      refine wpAnyT_loadW (i := 12) (v := ?_) rfl (by kernel_rfl) (by kernel_rfl) (by kernel_rfl) (by kernel_rfl) (by kernel_rfl) (fun _ _ _ h => h) (Or.inl ⟨by rfl, ?_⟩) hS0 ?_
      rotate_left
      · intro w hSw; obtain ⟨e0, e1, e2, e3, e4⟩ := hSw; go_simp; try with_reducible rfl
      simp only [Act.put, List.setIfInBounds_toArray, List.set_cons_zero, List.set_cons_succ, List.getElem_toArray, List.getElem_cons_succ, List.getElem_cons_zero]
      refine wpAnyT_pure (i := 13) (v := ?_) rfl (by kernel_rfl) (by kernel_rfl) (by kernel_rfl) (fun _ _ _ h => h) (by rfl) ?_ ?_
      rotate_left
      · intro w; go_simp; try with_reducible rfl
      simp only [Act.put, List.setIfInBounds_toArray, List.set_cons_zero, List.set_cons_succ, List.getElem_toArray, List.getElem_cons_succ, List.getElem_cons_zero]
      refine wpAnyT_one (i := 14) (by kernel_rfl) rfl (by rfl) ?_
      refine wp_value (v := .slice (some ⟨wr.heap.size + 1, 0, none⟩) 1 1) (w' := (wr.alloc (.cells #[.string xc, .int .i64 xk, .int .i64 xw] 58)).drew.alloc (.cells #[.string xc, .int .i64 xk, .int .i64 xw, .int .i64 fv] 35)) (by go_simp) ?_
      refine ⟨fun h => absurd h (by decide), ?_⟩
      try simp only [Act.put, List.setIfInBounds_toArray, List.set_cons_zero, List.set_cons_succ, List.getElem_toArray, List.getElem_cons_succ, List.getElem_cons_zero]
      refine wpAnyT_one (i := 15) (by kernel_rfl) rfl (by rfl) ?_
      refine wp_app (.tmp 19) (.tmp 33) 22 rfl (e := rateT) (te := 35) info_rate Try.underlying22 rfl (by decide) (base := w2.heap.size) (S := fun _ => False) (v := .slice oa ol oc) (xs := rowsOf f (ys.take k)) (by kernel_rfl) (HO.out.below hB6) (by simp; omega) (sv := .slice (some ⟨wr.heap.size + 1, 0, none⟩) 1 1) (by kernel_rfl) (ys := [(xc, xk, xw, fv, ())]) (.inr ⟨_, _, rfl, .inr ⟨_, rfl, hnews⟩⟩) (RdL.one (e := rateT) (rate_rd HXOK.out HFW.out)) (by have := HKL.out; have := HDS.out; simp only [rowsOf, List.length_map, List.length_take, List.length_cons, List.length_nil]; omega) (by have := HKL.out; have := HDS.out; simp only [rowsOf, List.length_map, List.length_take, List.length_cons, List.length_nil]; omega) ?_
      intro ca cl cc w7 O7 g7 ob7
      rw [← HNX.out] at O7
      have HO7 := Lib.hid O7
      have hB7 : Below w2.heap.size w2 w7 := (HB.out.trans (hB6.mono hwr)).grown g7 (by simp; omega) (fun c hc => (HO.out.own c hc).1)
      have HB7 := Lib.hid hB7
      clear O7 g7 ob7 hB7
      refine ⟨fun h => absurd h (by decide), ?_⟩
      try simp only [Act.put, List.setIfInBounds_toArray, List.set_cons_zero, List.set_cons_succ, List.getElem_toArray, List.getElem_cons_succ, List.getElem_cons_zero]
      refine wpAnyT_pure (i := 16) (v := ?_) rfl (by kernel_rfl) (by kernel_rfl) (by kernel_rfl) (fun _ _ _ h => h) (by rfl) ?_ ?_
      rotate_left
      · intro w; go_simp; try with_reducible rfl
      simp only [Act.put, List.setIfInBounds_toArray, List.set_cons_zero, List.set_cons_succ, List.getElem_toArray, List.getElem_cons_succ, List.getElem_cons_zero]
      refine wpAnyT_done (by kernel_rfl) ?_ _
      go_wp2_with fail
      go_roundw
      case rel => exact ⟨k + 1, ca, cl, cc, HLT.out, by have := HLT.out; have := HKL.out; have := HDS.out; go_num, rfl, HO7.out, HB7.out⟩
      case measure => have := HLT.out; have := HKL.out; have := HDS.out; simp [intOf]; omega
    · obtain rfl : k = ys.length := by omega
      have hv := HO.out
      rw [List.take_of_length_le (Nat.le_refl _)] at hv
      have HV := Lib.hid hv
      clear hv
      go_wp2
      go_ret
      exact ⟨_, ys, rfl, HYS.out, HV.out.base hw2, HB2.out.trans (HB.out.mono hw2)⟩
end Go.Proofs.Ytmlekhkgokgpbaa
