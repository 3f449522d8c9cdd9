/- Layer 53: Sign, Signed. -/
import Derived.Test.YtdcjocldggmdbaaW53k
set_option linter.unusedSimpArgs false
namespace Go.Proofs.Ytdcjocldggmdbaa
open Go.RowKit Go

/-- The error of a signing. -/
def signI (ts : List Tk) (ne np : Nat) (f : Ky → Option ByteArray) (k : Ky) (who : ByteArray) : Int :=
  if checkI ts ne np k = 0 then (if nameB who then (if (f k).isSome then 9 else if readyB ts ne f k then 0 else 7) else 1) else checkI ts ne np k
def signF (f : Ky → Option ByteArray) (k : Ky) (who : ByteArray) : Ky → Option ByteArray := fun x => if x = k then some who else f x
/-- What Sign leaves. -/
def SignP (S : Nat → Prop) (w : World) (p : Nat) (ts : List Tk) (ne np m n : Nat) (f : Ky → Option ByteArray) (k : Ky) (who : ByteArray) (e : Ending) (w' : World) : Prop :=
  e = .returned (.int .i64 (signI ts ne np f k who)) ∧ Gr (fun b => b = m) w w' ∧ ∃ n', n' ≤ n + 1 ∧ WfIn S w' p ts ne np m n' (if signI ts ne np f k who = 0 then signF f k who else f)
theorem WfIn.same {S : Nat → Prop} {w w' : World} {p : Nat} {ts : List Tk} {ne np m n : Nat} {f : Ky → Option ByteArray} (h : WfIn S w p ts ne np m n f) (hB : Below w.heap.size w w') : Gr (fun b => b = m) w w' ∧ ∃ n', n' ≤ n + 1 ∧ WfIn S w' p ts ne np m n' f := ⟨Gr.of_below hB, n, Nat.le_succ _, h.below hB⟩
set_option maxRecDepth 20000 in
set_option maxHeartbeats 2000000 in
theorem sign53 {S : Nat → Prop} (w : World) (p : Nat) (ts : List Tk) (ne np m n : Nat) (f : Ky → Option ByteArray) (h : WfIn S w p ts ne np m n f) (hne : ne ≤ 1000) (hn : n ≤ 1000000) (k : Ky) (hok : k.ok) (who : ByteArray) (hwho : who.size ≤ maxLen) (hN : checkI ts ne np k = 0 → NeedOk ts ne k) :
    Calls Try.prog 19 #[.pointer (some ⟨p, 0, none⟩), k.v, .string who] w (SignP S w p ts ne np m n f k who) := by
  have HCH := Lib.hid fun W (hB : Below w.heap.size w W) => check53 W p ts ne np m (h.wf.below hB) hne k
  have HOP := Lib.hid fun W (hB : Below w.heap.size w W) (hc : checkI ts ne np k = 0) => open53 W p ts ne np m n f (h.below hB) hne k (hN hc)
  obtain ⟨ci, hci⟩ : ∃ c, checkI ts ne np k = c := ⟨_, rfl⟩
  obtain ⟨fk, hfk⟩ : ∃ o, f k = o := ⟨_, rfl⟩
  obtain ⟨rb, hrb⟩ : ∃ o, readyB ts ne f k = o := ⟨_, rfl⟩
  obtain ⟨nb, hnb⟩ : ∃ o, nameB who = o := ⟨_, rfl⟩
  have HSG := Lib.hid (show signI ts ne np f k who = if ci = 0 then (if nb then (if fk.isSome then 9 else if rb then 0 else 7) else 1) else ci from by unfold signI; rw [hci, hfk, hrb, hnb])
  rw [hci] at HCH HOP
  rw [hfk, hrb] at HOP
  have HFK := Lib.hid hfk
  have HNB := Lib.hid fun W => name53 W who hwho
  rw [hnb] at HNB
  have HWHO := Lib.hid hwho
  have HKO := Lib.hid hok
  have HNN := Lib.hid hn
  obtain ⟨k0, hk0⟩ : ∃ q, q = k := ⟨_, rfl⟩
  have HK0 := Lib.hid hk0
  obtain ⟨k1, k2, k3⟩ := k
  unfold Ky.v at *
  simp only at HCH HOP
  have hB : Below w.heap.size w (w.alloc (.cells #[.string k1, .int .i64 k2, .int .i64 k3] 53)) := (Below.refl _ w).alloc (Nat.le_refl _) _
  have hcb := heap_alloc_new w (.cells #[.string k1, .int .i64 k2, .int .i64 k3] 53)
  have H0 := Lib.hid h
  have H1 := Lib.hid (h.below hB)
  have HB1 := Lib.hid hB
  have HCB := Lib.hid hcb
  have x0 := blk_cell hcb 0
  have x1 := blk_cell hcb 1
  have x2 := blk_cell hcb 2
  simp at x0 x1 x2
  clear h hB hcb hci hfk hrb hnb hwho hok hn hk0 hN hne
  go_enter Try.func19, Try.ntmps19
  go_wp2_with fail
  generalize w.alloc (.cells #[.string k1, .int .i64 k2, .int .i64 k3] 53) = w1 at *
  refine (HCH.out w1 HB1.out).mono ?_
  rintro e w2 ⟨rfl, hB2⟩
  have HB2 := Lib.hid (below_step HB1.out hB2)
  have H2 := Lib.hid (H1.out.below hB2)
  have HCB2 := Lib.hid ((hB2.block _ (blk_lt HCB.out)).trans HCB.out)
  clear hB2 x0 x1 x2 H1 HCB
  by_cases hc0 : ci = 0
  · subst hc0
    rw [if_pos rfl] at HSG
    obtain ⟨a, len, cap, xs, h1, -, -⟩ := H2.out.wf.row
    have hC0 : Cells [(⟨p, 3, none⟩, .map (some m)), (⟨w.heap.size, 0, none⟩, .string k1), (⟨w.heap.size, 1, none⟩, .int .i64 k2), (⟨w.heap.size, 2, none⟩, .int .i64 k3)] w2 := ⟨blk_cell h1 3, blk_cell HCB2.out 0, blk_cell HCB2.out 1, blk_cell HCB2.out 2, trivial⟩
    clear h1
    go_wp2_with fail
    refine wp_region_T (Cells [(⟨p, 3, none⟩, .map (some m)), (⟨w.heap.size, 0, none⟩, .string k1), (⟨w.heap.size, 1, none⟩, .int .i64 k2), (⟨w.heap.size, 2, none⟩, .int .i64 k3)]) (fun _ => false) (by kernel_rfl) ?_
    have hSss1 := Cells.drew hC0
    have hB_0_s1 : Below w2.heap.size w2 w2.drew := below_drew _
    generalize w2.drew = s1 at hSss1 hB_0_s1 ⊢
    have hB_s1_s1 := Below.refl s1.heap.size s1
    refine wpAnyT_pure (i := 0) (v := ?_) rfl (by kernel_rfl) (by kernel_rfl) (by kernel_rfl) (fun _ _ _ h => h) (by rfl) ?_ ?_
    rotate_left
    · intro w; go_simp; try with_reducible rfl
    simp only [Act.put, List.setIfInBounds_toArray, List.set_cons_zero, List.set_cons_succ, List.getElem_toArray, List.getElem_cons_succ, List.getElem_cons_zero]
    refine wpAnyT_pure (i := 1) (v := ?_) rfl (by kernel_rfl) (by kernel_rfl) (by kernel_rfl) (fun _ _ _ h => h) (by rfl) ?_ ?_
    rotate_left
    · intro w; go_simp; try with_reducible rfl
    simp only [Act.put, List.setIfInBounds_toArray, List.set_cons_zero, List.set_cons_succ, List.getElem_toArray, List.getElem_cons_succ, List.getElem_cons_zero]
    refine wpAnyT_pure (i := 2) (v := ?_) rfl (by kernel_rfl) (by kernel_rfl) (by kernel_rfl) (fun _ _ _ h => h) (by rfl) ?_ ?_
    rotate_left
    · intro w; go_simp; try with_reducible rfl
    simp only [Act.put, List.setIfInBounds_toArray, List.set_cons_zero, List.set_cons_succ, List.getElem_toArray, List.getElem_cons_succ, List.getElem_cons_zero]
    refine wpAnyT_loadW (i := 3) (v := ?_) rfl (by kernel_rfl) (by kernel_rfl) (by kernel_rfl) (by kernel_rfl) (by kernel_rfl) (fun _ _ _ h => h) (Or.inl ⟨by rfl, ?_⟩) hSss1 ?_
    rotate_left
    · intro w hSw; obtain ⟨e0, e1, e2, e3, -⟩ := hSw; go_simp; try with_reducible rfl
    simp only [Act.put, List.setIfInBounds_toArray, List.set_cons_zero, List.set_cons_succ, List.getElem_toArray, List.getElem_cons_succ, List.getElem_cons_zero]
    refine wpAnyT_loadW (i := 4) (v := ?_) rfl (by kernel_rfl) (by kernel_rfl) (by kernel_rfl) (by kernel_rfl) (by kernel_rfl) (fun _ _ _ h => h) (Or.inl ⟨by rfl, ?_⟩) hSss1 ?_
    rotate_left
    · intro w hSw; obtain ⟨e0, e1, e2, e3, -⟩ := hSw; go_simp; try with_reducible rfl
    simp only [Act.put, List.setIfInBounds_toArray, List.set_cons_zero, List.set_cons_succ, List.getElem_toArray, List.getElem_cons_succ, List.getElem_cons_zero]
    refine wpAnyT_one (i := 5) (by kernel_rfl) rfl (by rfl) ?_
    have hlk := MapG.look2 ((H2.out.below (hB_0_s1.trans ((hB_s1_s1).mono (hB_0_s1).size))).mp) Try.underlying91 ⟨k1, k2, k3⟩ HKO.out
    rw [HFK.out] at hlk
    change Sem.run Try.prog (Instr.lookup 91 (.map (some m)) (.agg #[.string k1, .int .i64 k2, .int .i64 k3]) true) s1 = _ at hlk
    refine wp_value (v := .tuple #[.string (fk.getD ⟨#[]⟩), .bool fk.isSome]) (w' := s1) (by go_simp; rfl) ?_
    clear hlk
    refine ⟨fun _ h => h, ?_⟩
    try simp only [Act.put, List.setIfInBounds_toArray, List.set_cons_zero, List.set_cons_succ, List.getElem_toArray, List.getElem_cons_succ, List.getElem_cons_zero]
    refine wpAnyT_pure (i := 6) (v := ?_) rfl (by kernel_rfl) (by kernel_rfl) (by kernel_rfl) (fun _ _ _ h => h) (by rfl) ?_ ?_
    rotate_left
    · intro w; go_simp; try with_reducible rfl
    simp only [Act.put, List.setIfInBounds_toArray, List.set_cons_zero, List.set_cons_succ, List.getElem_toArray, List.getElem_cons_succ, List.getElem_cons_zero]
    refine wpAnyT_pure (i := 7) (v := ?_) rfl (by kernel_rfl) (by kernel_rfl) (by kernel_rfl) (fun _ _ _ h => h) (by rfl) ?_ ?_
    rotate_left
    · intro w; go_simp; try with_reducible rfl
    simp only [Act.put, List.setIfInBounds_toArray, List.set_cons_zero, List.set_cons_succ, List.getElem_toArray, List.getElem_cons_succ, List.getElem_cons_zero]
    refine wpAnyT_pure (i := 8) (v := ?_) rfl (by kernel_rfl) (by kernel_rfl) (by kernel_rfl) (fun _ _ _ h => h) (by rfl) ?_ ?_
    rotate_left
    · intro w; go_simp; try with_reducible rfl
    simp only [Act.put, List.setIfInBounds_toArray, List.set_cons_zero, List.set_cons_succ, List.getElem_toArray, List.getElem_cons_succ, List.getElem_cons_zero]
    refine wpAnyT_pure (i := 9) (v := ?_) rfl (by kernel_rfl) (by kernel_rfl) (by kernel_rfl) (fun _ _ _ h => h) (by rfl) ?_ ?_
    rotate_left
    · intro w; go_simp; try with_reducible rfl
    simp only [Act.put, List.setIfInBounds_toArray, List.set_cons_zero, List.set_cons_succ, List.getElem_toArray, List.getElem_cons_succ, List.getElem_cons_zero]
    refine wpAnyT_pure (i := 10) (v := ?_) rfl (by kernel_rfl) (by kernel_rfl) (by kernel_rfl) (fun _ _ _ h => h) (by rfl) ?_ ?_
    rotate_left
    · intro w; go_simp; try with_reducible rfl
    simp only [Act.put, List.setIfInBounds_toArray, List.set_cons_zero, List.set_cons_succ, List.getElem_toArray, List.getElem_cons_succ, List.getElem_cons_zero]
    refine wpAnyT_done (by kernel_rfl) ?_ _
    have hbP : Below w2.heap.size w2 s1 := hB_0_s1.trans ((hB_s1_s1).mono (hB_0_s1).size)
    obtain ⟨w3, rfl⟩ : ∃ x, x = s1 := ⟨_, rfl⟩
    have HB3 := Lib.hid (below_step HB2.out hbP)
    have HCB3 := Lib.hid ((hbP.block _ (blk_lt HCB2.out)).trans HCB2.out)
    clear hbP
    go_wp2_with fail
    refine (HNB.out w3).mono ?_
    rintro e w4 ⟨rfl, rfl⟩
    cases nb
    · simp only [Bool.false_eq_true, if_false] at HSG
      go_wp2_with fail
      go_ret
      unfold SignP
      rw [HSG.out]
      exact ⟨rfl, H0.out.same HB3.out⟩
    simp only [if_true] at HSG
    cases fk with
    | some v =>
      simp only [Option.isSome_some, if_true] at HSG
      go_wp2_with fail
      go_ret
      unfold SignP
      rw [HSG.out]
      exact ⟨rfl, H0.out.same HB3.out⟩
    | none =>
      simp only [Option.isSome_none, Bool.false_eq_true, if_false] at HSG
      have x0 := blk_cell HCB3.out 0
      have x1 := blk_cell HCB3.out 1
      have x2 := blk_cell HCB3.out 2
      simp at x0 x1 x2
      go_wp2_with fail
      refine (HOP.out w4 HB3.out (by first | rfl | trivial)).mono ?_
      rintro e w5 ⟨rfl, hB5⟩
      have HB5 := Lib.hid (below_step HB3.out hB5)
      have HCB5 := Lib.hid ((hB5.block _ (blk_lt HCB3.out)).trans HCB3.out)
      clear hB5 x0 x1 x2
      cases rb
      · simp only [Bool.false_eq_true, if_false] at HSG
        go_wp2_with fail
        go_ret
        unfold SignP
        rw [HSG.out]
        exact ⟨rfl, H0.out.same HB5.out⟩
      simp only [if_true] at HSG
      have H5 := Lib.hid (H0.out.below HB5.out)
      obtain ⟨a, len, cap, xs, h1, -, -⟩ := H5.out.wf.row
      have hC5 : Cells [(⟨p, 3, none⟩, .map (some m)), (⟨w.heap.size, 0, none⟩, .string k1), (⟨w.heap.size, 1, none⟩, .int .i64 k2), (⟨w.heap.size, 2, none⟩, .int .i64 k3)] w5 := ⟨blk_cell h1 3, blk_cell HCB5.out 0, blk_cell HCB5.out 1, blk_cell HCB5.out 2, trivial⟩
      clear h1
      go_wp2_with fail
      refine wp_region_T (Cells [(⟨p, 3, none⟩, .map (some m)), (⟨w.heap.size, 0, none⟩, .string k1), (⟨w.heap.size, 1, none⟩, .int .i64 k2), (⟨w.heap.size, 2, none⟩, .int .i64 k3)]) (fun i => i == 6) (by kernel_rfl) ?_
      have hSss2 := Cells.drew hC5
      have hB_0_s2 : Below w5.heap.size w5 w5.drew := below_drew _
      generalize w5.drew = s2 at hSss2 hB_0_s2 ⊢
      have hB_s2_s2 := Below.refl s2.heap.size s2
      refine wpAnyT_pure (i := 0) (v := ?_) rfl (by kernel_rfl) (by kernel_rfl) (by kernel_rfl) (fun _ _ _ h => h) (by rfl) ?_ ?_
      rotate_left
      · intro w; go_simp; try with_reducible rfl
      simp only [Act.put, List.setIfInBounds_toArray, List.set_cons_zero, List.set_cons_succ, List.getElem_toArray, List.getElem_cons_succ, List.getElem_cons_zero]
      refine wpAnyT_pure (i := 1) (v := ?_) rfl (by kernel_rfl) (by kernel_rfl) (by kernel_rfl) (fun _ _ _ h => h) (by rfl) ?_ ?_
      rotate_left
      · intro w; go_simp; try with_reducible rfl
      simp only [Act.put, List.setIfInBounds_toArray, List.set_cons_zero, List.set_cons_succ, List.getElem_toArray, List.getElem_cons_succ, List.getElem_cons_zero]
      refine wpAnyT_pure (i := 2) (v := ?_) rfl (by kernel_rfl) (by kernel_rfl) (by kernel_rfl) (fun _ _ _ h => h) (by rfl) ?_ ?_
      rotate_left
      · intro w; go_simp; try with_reducible rfl
      simp only [Act.put, List.setIfInBounds_toArray, List.set_cons_zero, List.set_cons_succ, List.getElem_toArray, List.getElem_cons_succ, List.getElem_cons_zero]
      refine wpAnyT_pure (i := 5) (v := ?_) rfl (by kernel_rfl) (by kernel_rfl) (by kernel_rfl) (fun _ _ _ h => h) (by rfl) ?_ ?_
      rotate_left
      · intro w; go_simp; try with_reducible rfl
      simp only [Act.put, List.setIfInBounds_toArray, List.set_cons_zero, List.set_cons_succ, List.getElem_toArray, List.getElem_cons_succ, List.getElem_cons_zero]
      refine wpAnyT_loadW (i := 3) (v := ?_) rfl (by kernel_rfl) (by kernel_rfl) (by kernel_rfl) (by kernel_rfl) (by kernel_rfl) (fun _ _ _ h => h) (Or.inl ⟨by rfl, ?_⟩) hSss2 ?_
      rotate_left
      · intro w hSw; obtain ⟨e0, e1, e2, e3, -⟩ := hSw; go_simp; try with_reducible rfl
      simp only [Act.put, List.setIfInBounds_toArray, List.set_cons_zero, List.set_cons_succ, List.getElem_toArray, List.getElem_cons_succ, List.getElem_cons_zero]
      refine wpAnyT_loadW (i := 4) (v := ?_) rfl (by kernel_rfl) (by kernel_rfl) (by kernel_rfl) (by kernel_rfl) (by kernel_rfl) (fun _ _ _ h => h) (Or.inl ⟨by rfl, ?_⟩) hSss2 ?_
      rotate_left
      · intro w hSw; obtain ⟨e0, e1, e2, e3, -⟩ := hSw; go_simp; try with_reducible rfl
      simp only [Act.put, List.setIfInBounds_toArray, List.set_cons_zero, List.set_cons_succ, List.getElem_toArray, List.getElem_cons_succ, List.getElem_cons_zero]
      refine wpAnyT_one (i := 6) (by kernel_rfl) rfl (by rfl) ?_
      have hb6 : Below w5.heap.size w5 s2 := hB_0_s2.trans ((hB_s2_s2).mono (hB_0_s2).size)
      have h6 := H5.out.below hb6
      obtain ⟨w103, hrun, hM, hT⟩ := h6.mp.store Try.underlying91 (by have := HNN.out; simp [maxLen]; omega) ⟨k1, k2, k3⟩ HKO.out who HWHO.out
      change Sem.run Try.prog (Instr.mapUpdate 91 (.map (some m)) (.agg #[.string k1, .int .i64 k2, .int .i64 k3]) (.string who)) s2 = _ at hrun
      refine wp_mapset1 (w' := w103) 91 (.tmp 41) (.tmp 42) (.tmp 43) rfl (m := .map (some m)) (k := .agg #[.string k1, .int .i64 k2, .int .i64 k3]) (v := .string who) (by kernel_rfl) (by kernel_rfl) (by kernel_rfl) hrun ?_
      have hg := Gr.of_turned hT
      have hW := h6.wf.gr hg h6.pm h6.mS
      have hG := (Gr.of_below (F := fun b => b = m) (below_step HB5.out hb6)).trans hg (fun _ h => .inl h)
      have hI : WfIn S w103 p ts ne np m (if (f ⟨k1, k2, k3⟩).isSome then n else n + 1) (signF f ⟨k1, k2, k3⟩ who) := ⟨hW, hM, h6.mS, h6.pm⟩
      clear hrun hb6 h6 hM hT hg hW
      refine ⟨fun h => absurd h (by decide), ?_⟩
      try simp only [Act.put, List.setIfInBounds_toArray, List.set_cons_zero, List.set_cons_succ, List.getElem_toArray, List.getElem_cons_succ, List.getElem_cons_zero]
      refine wpAnyT_done (by kernel_rfl) ?_ _
      obtain ⟨w7, rfl⟩ : ∃ x, x = w103 := ⟨_, rfl⟩
      have HG := Lib.hid hG
      have HI := Lib.hid hI
      clear hG hI
      go_wp2_with fail
      go_ret
      unfold SignP
      rw [HSG.out, if_pos rfl]
      exact ⟨rfl, HG.out, _, by split <;> omega, HI.out⟩
  · rw [if_neg hc0] at HSG
    go_wp2_with fail
    go_ret
    unfold SignP
    rw [HSG.out, if_neg hc0]
    exact ⟨rfl, H0.out.same HB2.out⟩
end Go.Proofs.Ytdcjocldggmdbaa
