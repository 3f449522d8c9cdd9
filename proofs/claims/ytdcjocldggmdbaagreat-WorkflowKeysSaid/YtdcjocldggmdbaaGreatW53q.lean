/- Layer 53: Sign, Signed. -/
import Derived.Test.YtdcjocldggmdbaaGreatW53k
set_option linter.unusedSimpArgs false
namespace Go.Proofs.YtdcjocldggmdbaaGreat
open Go.RowKit Go

/-- The error of a signing. -/
def signI (ts : List Tk) (ne np : Nat) (f : Ky → Option ByteArray) (k : Ky) (who : ByteArray) : Int :=
  if checkI ts ne np k = 0 then (if nameB who then (if (f k).isSome then 9 else if readyB ts ne f k then 0 else 7) else 1) else checkI ts ne np k
def signF (f : Ky → Option ByteArray) (k : Ky) (who : ByteArray) : Ky → Option ByteArray := fun x => if x = k then some who else f x
/-- What Sign leaves. -/
def SignP (S : Nat → Prop) (w : World) (p : Nat) (ts : List Tk) (ne np m n : Nat) (f : Ky → Option ByteArray) (k : Ky) (who : ByteArray) (e : Ending) (w' : World) : Prop :=
  e = .returned (.int .i64 (signI ts ne np f k who)) ∧ Gr (fun b => b = m) w w' ∧ ∃ n', n' ≤ n + 1 ∧ WfIn S w' p ts ne np m n' (if signI ts ne np f k who = 0 then signF f k who else f)
theorem WfIn.same {S : Nat → Prop} {w w' : World} {p : Nat} {ts : List Tk} {ne np m n : Nat} {f : Ky → Option ByteArray} (h : WfIn S w p ts ne np m n f) (hB : Below w.heap.size w w') : Gr (fun b => b = m) w w' ∧ ∃ n', n' ≤ n + 1 ∧ WfIn S w' p ts ne np m n' f := ⟨Gr.of_below hB, n, Nat.le_succ _, h.below hB⟩
set_option maxRecDepth 20000 in
set_option maxHeartbeats 2000000 in
theorem sign53 {S : Nat → Prop} (w : World) (p : Nat) (ts : List Tk) (ne np m n : Nat) (f : Ky → Option ByteArray) (h : WfIn S w p ts ne np m n f) (hne : ne ≤ 1000) (hn : n ≤ 1000000) (k : Ky) (hok : k.ok) (who : ByteArray) (hwho : who.size ≤ maxLen) (hN : checkI ts ne np k = 0 → NeedOk ts ne k) :
    Calls Tryz.prog 19 #[.pointer (some ⟨p, 0, none⟩), k.v, .string who] w (SignP S w p ts ne np m n f k who) := by
  have HCH := Lib.hid fun W (hB : Below w.heap.size w W) => check53 W p ts ne np m (h.wf.below hB) hne k
  have HOP := Lib.hid fun W (hB : Below w.heap.size w W) (hc : checkI ts ne np k = 0) => open53 W p ts ne np m n f (h.below hB) hne k (hN hc)
  obtain ⟨ci, hci⟩ : ∃ c, checkI ts ne np k = c := ⟨_, rfl⟩
  obtain ⟨fk, hfk⟩ : ∃ o, f k = o := ⟨_, rfl⟩
  obtain ⟨rb, hrb⟩ : ∃ o, readyB ts ne f k = o := ⟨_, rfl⟩
  obtain ⟨nb, hnb⟩ : ∃ o, nameB who = o := ⟨_, rfl⟩
  have HSG := Lib.hid (show signI ts ne np f k who = if ci = 0 then (if nb then (if fk.isSome then 9 else if rb then 0 else 7) else 1) else ci from by unfold signI; rw [hci, hfk, hrb, hnb])
  rw [hci] at HCH HOP
  rw [hfk, hrb] at HOP
  have HFK := Lib.hid hfk
  have HNB := Lib.hid fun W => name53 W who hwho
  rw [hnb] at HNB
  have HWHO := Lib.hid hwho
  have HKO := Lib.hid hok
  have HNN := Lib.hid hn
  obtain ⟨k0, hk0⟩ : ∃ q, q = k := ⟨_, rfl⟩
  have HK0 := Lib.hid hk0
  obtain ⟨k1, k2, k3⟩ := k
  unfold Ky.v at *
  simp only at HCH HOP
  have hB : Below w.heap.size w (w.alloc (.cells #[.string k1, .int .i64 k2, .int .i64 k3] 48)) := (Below.refl _ w).alloc (Nat.le_refl _) _
  have hcb := heap_alloc_new w (.cells #[.string k1, .int .i64 k2, .int .i64 k3] 48)
  have H0 := Lib.hid h
  have H1 := Lib.hid (h.below hB)
  have HB1 := Lib.hid hB
  have HCB := Lib.hid hcb
  have x0 := blk_cell hcb 0
  have x1 := blk_cell hcb 1
  have x2 := blk_cell hcb 2
  simp at x0 x1 x2
  clear h hB hcb hci hfk hrb hnb hwho hok hn hk0 hN hne
  go_enter Tryz.func19, Tryz.ntmps19
  go_wp2_with fail
  generalize w.alloc (.cells #[.string k1, .int .i64 k2, .int .i64 k3] 48) = w1 at *
  refine (HCH.out w1 HB1.out).mono ?_
  rintro e w2 ⟨rfl, hB2⟩
  have HB2 := Lib.hid (below_step HB1.out hB2)
  have H2 := Lib.hid (H1.out.below hB2)
  have HCB2 := Lib.hid ((hB2.block _ (blk_lt HCB.out)).trans HCB.out)
  clear hB2 x0 x1 x2 H1 HCB
  by_cases hc0 : ci = 0
  · subst hc0
    rw [if_pos rfl] at HSG
    obtain ⟨a, len, cap, xs, h1, -, -⟩ := H2.out.wf.row
    have hC0 : Cells [(⟨p, 3, none⟩, .map (some m)), (⟨w.heap.size, 0, none⟩, .string k1), (⟨w.heap.size, 1, none⟩, .int .i64 k2), (⟨w.heap.size, 2, none⟩, .int .i64 k3)] w2 := ⟨blk_cell h1 3, blk_cell HCB2.out 0, blk_cell HCB2.out 1, blk_cell HCB2.out 2, trivial⟩
    clear h1
    go_wp2_with fail
    refine wp_region_T (Cells [(⟨p, 3, none⟩, .map (some m)), (⟨w.heap.size, 0, none⟩, .string k1), (⟨w.heap.size, 1, none⟩, .int .i64 k2), (⟨w.heap.size, 2, none⟩, .int .i64 k3)]) (fun _ => false) (by kernel_rfl) ?_
    have hSss1 := Cells.drew hC0
    have hB_0_s1 : Below w2.heap.size w2 w2.drew := below_drew _
    generalize w2.drew = s1 at hSss1 hB_0_s1 ⊢
    have hB_s1_s1 := Below.refl s1.heap.size s1
    refine wpAnyT_pure (i := 0) (v := ?_) rfl (by kernel_rfl) (by kernel_rfl) (by kernel_rfl) (fun _ _ _ h => h) (by rfl) ?_ ?_
    rotate_left
    · intro w; go_simp; try with_reducible rfl
    simp only [Act.put, rgA, rgB, rgC, rgD, rgE, rgF]
    refine wpAnyT_pure (i := 1) (v := ?_) rfl (by kernel_rfl) (by kernel_rfl) (by kernel_rfl) (fun _ _ _ h => h) (by rfl) ?_ ?_
    rotate_left
    · intro w; go_simp; try with_reducible rfl
    simp only [Act.put, rgA, rgB, rgC, rgD, rgE, rgF]
    refine wpAnyT_pure (i := 2) (v := ?_) rfl (by kernel_rfl) (by kernel_rfl) (by kernel_rfl) (fun _ _ _ h => h) (by rfl) ?_ ?_
    rotate_left
    · intro w; go_simp; try with_reducible rfl
    simp only [Act.put, rgA, rgB, rgC, rgD, rgE, rgF]
    refine wpAnyT_loadW (i := 3) (v := ?_) rfl (by kernel_rfl) (by kernel_rfl) (by kernel_rfl) (by kernel_rfl) (by kernel_rfl) (fun _ _ _ h => h) (Or.inl ⟨by rfl, ?_⟩) hSss1 ?_
    rotate_left
    · intro w hSw; obtain ⟨e0, e1, e2, e3, -⟩ := hSw; go_simp; try with_reducible rfl
    simp only [Act.put, rgA, rgB, rgC, rgD, rgE, rgF]
    refine wpAnyT_loadW (i := 4) (v := ?_) rfl (by kernel_rfl) (by kernel_rfl) (by kernel_rfl) (by kernel_rfl) (by kernel_rfl) (fun _ _ _ h => h) (Or.inl ⟨by rfl, ?_⟩) hSss1 ?_
    rotate_left
    · intro w hSw; obtain ⟨e0, e1, e2, e3, -⟩ := hSw; go_simp; try with_reducible rfl
    simp only [Act.put, rgA, rgB, rgC, rgD, rgE, rgF]
    refine wpAnyT_one (i := 5) (by kernel_rfl) rfl (by rfl) ?_
    have hlk := MapG.look2 ((H2.out.below (hB_0_s1.trans ((hB_s1_s1).mono (hB_0_s1).size))).mp) Tryz.underlying90 ⟨k1, k2, k3⟩ HKO.out
    rw [HFK.out] at hlk
    change Sem.run Tryz.prog (Instr.lookup 90 (.map (some m)) (.agg #[.string k1, .int .i64 k2, .int .i64 k3]) true) s1 = _ at hlk
    refine wp_value (v := .tuple #[.string (fk.getD ⟨#[]⟩), .bool fk.isSome]) (w' := s1) (by go_simp; rfl) ?_
    clear hlk
    refine ⟨fun _ h => h, ?_⟩
    try simp only [Act.put, rgA, rgB, rgC, rgD, rgE, rgF]
    refine wpAnyT_pure (i := 6) (v := ?_) rfl (by kernel_rfl) (by kernel_rfl) (by kernel_rfl) (fun _ _ _ h => h) (by rfl) ?_ ?_
    rotate_left
    · intro w; go_simp; try with_reducible rfl
    simp only [Act.put, rgA, rgB, rgC, rgD, rgE, rgF]
    refine wpAnyT_pure (i := 7) (v := ?_) rfl (by kernel_rfl) (by kernel_rfl) (by kernel_rfl) (fun _ _ _ h => h) (by rfl) ?_ ?_
    rotate_left
    · intro w; go_simp; try with_reducible rfl
    simp only [Act.put, rgA, rgB, rgC, rgD, rgE, rgF]
    refine wpAnyT_pure (i := 8) (v := ?_) rfl (by kernel_rfl) (by kernel_rfl) (by kernel_rfl) (fun _ _ _ h => h) (by rfl) ?_ ?_
    rotate_left
    · intro w; go_simp; try with_reducible rfl
    simp only [Act.put, rgA, rgB, rgC, rgD, rgE, rgF]
    refine wpAnyT_pure (i := 9) (v := ?_) rfl (by kernel_rfl) (by kernel_rfl) (by kernel_rfl) (fun _ _ _ h => h) (by rfl) ?_ ?_
    rotate_left
    · intro w; go_simp; try with_reducible rfl
    simp only [Act.put, rgA, rgB, rgC, rgD, rgE, rgF]
    refine wpAnyT_pure (i := 10) (v := ?_) rfl (by kernel_rfl) (by kernel_rfl) (by kernel_rfl) (fun _ _ _ h => h) (by rfl) ?_ ?_
    rotate_left
    · intro w; go_simp; try with_reducible rfl
    simp only [Act.put, rgA, rgB, rgC, rgD, rgE, rgF]
    refine wpAnyT_done (by kernel_rfl) ?_ _
    have hbP : Below w2.heap.size w2 s1 := hB_0_s1.trans ((hB_s1_s1).mono (hB_0_s1).size)
    obtain ⟨w3, rfl⟩ : ∃ x, x = s1 := ⟨_, rfl⟩
    have HB3 := Lib.hid (below_step HB2.out hbP)
    have HCB3 := Lib.hid ((hbP.block _ (blk_lt HCB2.out)).trans HCB2.out)
    clear hbP
    go_wp2_with fail
    refine (HNB.out w3).mono ?_
    rintro e w4 ⟨rfl, rfl⟩
    cases nb
    · simp only [Bool.false_eq_true, if_false] at HSG
      go_wp2_with fail
      go_ret
      unfold SignP
      rw [HSG.out]
      exact ⟨rfl, H0.out.same HB3.out⟩
    simp only [if_true] at HSG
    cases fk with
    | some v =>
      simp only [Option.isSome_some, if_true] at HSG
      go_wp2_with fail
      go_ret
      unfold SignP
      rw [HSG.out]
      exact ⟨rfl, H0.out.same HB3.out⟩
    | none =>
      simp only [Option.isSome_none, Bool.false_eq_true, if_false] at HSG
      have x0 := blk_cell HCB3.out 0
      have x1 := blk_cell HCB3.out 1
      have x2 := blk_cell HCB3.out 2
      simp at x0 x1 x2
      go_wp2_with fail
      refine (HOP.out w4 HB3.out (by first | rfl | trivial)).mono ?_
      rintro e w5 ⟨rfl, hB5⟩
      have HB5 := Lib.hid (below_step HB3.out hB5)
      have HCB5 := Lib.hid ((hB5.block _ (blk_lt HCB3.out)).trans HCB3.out)
      clear hB5 x0 x1 x2
      cases rb
      · simp only [Bool.false_eq_true, if_false] at HSG
        go_wp2_with fail
        go_ret
        unfold SignP
        rw [HSG.out]
        exact ⟨rfl, H0.out.same HB5.out⟩
      simp only [if_true] at HSG
      have H5 := Lib.hid (H0.out.below HB5.out)
      obtain ⟨a, len, cap, xs, h1, -, -⟩ := H5.out.wf.row
      have hC5 : Cells [(⟨p, 3, none⟩, .map (some m)), (⟨w.heap.size, 0, none⟩, .string k1), (⟨w.heap.size, 1, none⟩, .int .i64 k2), (⟨w.heap.size, 2, none⟩, .int .i64 k3)] w5 := ⟨blk_cell h1 3, blk_cell HCB5.out 0, blk_cell HCB5.out 1, blk_cell HCB5.out 2, trivial⟩
      clear h1
      go_wp2_with fail
      refine wp_region_T (Cells [(⟨p, 3, none⟩, .map (some m)), (⟨w.heap.size, 0, none⟩, .string k1), (⟨w.heap.size, 1, none⟩, .int .i64 k2), (⟨w.heap.size, 2, none⟩, .int .i64 k3)]) (fun i => i == 6) (by kernel_rfl) ?_
      have hSss2 := Cells.drew hC5
      have hB_0_s2 : Below w5.heap.size w5 w5.drew := below_drew _
      generalize w5.drew = s2 at hSss2 hB_0_s2 ⊢
      have hB_s2_s2 := Below.refl s2.heap.size s2
      refine wpAnyT_pure (i := 0) (v := ?_) rfl (by kernel_rfl) (by kernel_rfl) (by kernel_rfl) (fun _ _ _ h => h) (by rfl) ?_ ?_
      rotate_left
      · intro w; go_simp; try with_reducible rfl
      simp only [Act.put, rgA, rgB, rgC, rgD, rgE, rgF]
      refine wpAnyT_pure (i := 1) (v := ?_) rfl (by kernel_rfl) (by kernel_rfl) (by kernel_rfl) (fun _ _ _ h => h) (by rfl) ?_ ?_
      rotate_left
      · intro w; go_simp; try with_reducible rfl
      simp only [Act.put, rgA, rgB, rgC, rgD, rgE, rgF]
      refine wpAnyT_pure (i := 2) (v := ?_) rfl (by kernel_rfl) (by kernel_rfl) (by kernel_rfl) (fun _ _ _ h => h) (by rfl) ?_ ?_
      rotate_left
      · intro w; go_simp; try with_reducible rfl
      simp only [Act.put, rgA, rgB, rgC, rgD, rgE, rgF]
      refine wpAnyT_pure (i := 5) (v := ?_) rfl (by kernel_rfl) (by kernel_rfl) (by kernel_rfl) (fun _ _ _ h => h) (by rfl) ?_ ?_
      rotate_left
      · intro w; go_simp; try with_reducible rfl
      simp only [Act.put, rgA, rgB, rgC, rgD, rgE, rgF]
      refine wpAnyT_loadW (i := 3) (v := ?_) rfl (by kernel_rfl) (by kernel_rfl) (by kernel_rfl) (by kernel_rfl) (by kernel_rfl) (fun _ _ _ h => h) (Or.inl ⟨by rfl, ?_⟩) hSss2 ?_
      rotate_left
      · intro w hSw; obtain ⟨e0, e1, e2, e3, -⟩ := hSw; go_simp; try with_reducible rfl
      simp only [Act.put, rgA, rgB, rgC, rgD, rgE, rgF]
      refine wpAnyT_loadW (i := 4) (v := ?_) rfl (by kernel_rfl) (by kernel_rfl) (by kernel_rfl) (by kernel_rfl) (by kernel_rfl) (fun _ _ _ h => h) (Or.inl ⟨by rfl, ?_⟩) hSss2 ?_
      rotate_left
      · intro w hSw; obtain ⟨e0, e1, e2, e3, -⟩ := hSw; go_simp; try with_reducible rfl
      simp only [Act.put, rgA, rgB, rgC, rgD, rgE, rgF]
      refine wpAnyT_one (i := 6) (by kernel_rfl) rfl (by rfl) ?_
      have hb6 : Below w5.heap.size w5 s2 := hB_0_s2.trans ((hB_s2_s2).mono (hB_0_s2).size)
      have h6 := H5.out.below hb6
      obtain ⟨w103, hrun, hM, hT⟩ := h6.mp.store Tryz.underlying90 (by have := HNN.out; simp [maxLen]; omega) ⟨k1, k2, k3⟩ HKO.out who HWHO.out
      change Sem.run Tryz.prog (Instr.mapUpdate 90 (.map (some m)) (.agg #[.string k1, .int .i64 k2, .int .i64 k3]) (.string who)) s2 = _ at hrun
      refine wp_mapset1 (w' := w103) 90 (.tmp 41) (.tmp 42) (.tmp 43) rfl (m := .map (some m)) (k := .agg #[.string k1, .int .i64 k2, .int .i64 k3]) (v := .string who) (by kernel_rfl) (by kernel_rfl) (by kernel_rfl) hrun ?_
      have hg := Gr.of_turned hT
      have hW := h6.wf.gr hg h6.pm h6.mS
      have hG := (Gr.of_below (F := fun b => b = m) (below_step HB5.out hb6)).trans hg (fun _ h => .inl h)
      have hI : WfIn S w103 p ts ne np m (if (f ⟨k1, k2, k3⟩).isSome then n else n + 1) (signF f ⟨k1, k2, k3⟩ who) := ⟨hW, hM, h6.mS, h6.pm⟩
      clear hrun hb6 h6 hM hT hg hW
      refine ⟨fun h => absurd h (by decide), ?_⟩
      try simp only [Act.put, rgA, rgB, rgC, rgD, rgE, rgF]
      refine wpAnyT_done (by kernel_rfl) ?_ _
      obtain ⟨w7, rfl⟩ : ∃ x, x = w103 := ⟨_, rfl⟩
      have HG := Lib.hid hG
      have HI := Lib.hid hI
      clear hG hI
      go_wp2_with fail
      go_ret
      unfold SignP
      rw [HSG.out, if_pos rfl]
      exact ⟨rfl, HG.out, _, by split <;> omega, HI.out⟩
  · rw [if_neg hc0] at HSG
    go_wp2_with fail
    go_ret
    unfold SignP
    rw [HSG.out, if_neg hc0]
    exact ⟨rfl, H0.out.same HB2.out⟩
end Go.Proofs.YtdcjocldggmdbaaGreat

/- Layer 53: Signed, all, Done. -/
set_option linter.unusedSimpArgs false
namespace Go.Proofs.YtdcjocldggmdbaaGreat
open Go.RowKit Go

/-- The keys of a period. -/
def allK (ts : List Tk) (ne : Nat) (per : Int) : List Ky := ts.flatMap fun t => keysL ne t per
theorem keysL_len (ne : Nat) (t : Tk) (per : Int) : (keysL ne t per).length ≤ ne + 1 := by
  unfold keysL
  split
  · simp
  · simp
theorem flat_len {ts : List Tk} (ne : Nat) (per : Int) : (ts.flatMap fun t => keysL ne t per).length ≤ ts.length * (ne + 1) := by
  induction ts with
  | nil => simp
  | cons t l ih =>
    rw [List.flatMap_cons, List.length_append, List.length_cons, Nat.add_mul, Nat.one_mul]
    have := keysL_len ne t per
    omega
set_option maxRecDepth 20000 in
set_option maxHeartbeats 1000000 in
theorem all53 {S : Nat → Prop} (w : World) (p : Nat) (ts : List Tk) (ne np m : Nat) (h : WfT S w p ts ne np m) (hne : ne ≤ 1000) (hts : ts.length ≤ 1000) (per : Int) (hp : (Lit.int .i64 per).wf = true) (h0 : 0 ≤ per) (h1 : per < np) :
    Calls Tryz.prog 35 #[.pointer (some ⟨p, 0, none⟩), .int .i64 per] w fun e w' => ∃ v, e = .returned v ∧ Owns keyT 48 w.heap.size (fun _ => False) w' v ((allK ts ne per).map Ky.d) ∧ Below w.heap.size w w' := by
  obtain ⟨a, len, cap, xs, hrow, hx, hxs⟩ := h.row
  obtain ⟨hl, hlc, hm, -⟩ := hx.sl_flat
  have y0 := blk_cell hrow 0
  have y2 := blk_cell hrow 2
  simp at y0 y2
  have HW := Lib.hid h
  have HX := Lib.hid hx
  have HL := Lib.hid hl
  have HXS := Lib.hid hxs
  have HTS := Lib.hid hts
  have HPW := Lib.hid hp
  have HNE := Lib.hid hne
  have HLEN := Lib.hid (show ∀ k, ((xs.take k).map tk).length = min k len from fun k => by rw [List.length_map, List.length_take, hl])
  have hlen1 : len ≤ 1000 := by rw [← hl, ← List.length_map (f := tk), hxs]; exact hts
  have HLL := Lib.hid hlen1
  have h0' : ¬ per < 0 := by omega
  have h1' : ¬ (np : Int) ≤ per := by omega
  clear h hx hl hxs hts hrow hp hne h0
  go_enter Tryz.func35, Tryz.ntmps35
  go_wp2_with fail
  go_loopw [5, 7, 27] (fun v _ i wr => ∃ k : Nat, k ≤ len ∧ i = .int .i64 k ∧ Owns keyT 48 w.heap.size (fun _ => False) wr v ((allK ((xs.take k).map tk) ne per).map Ky.d) ∧ Below w.heap.size w wr) (fun _ _ i _ => len - (intOf i).toNat)
  case atStart => exact ⟨0, Nat.zero_le _, rfl, Owns.nil _ _ _ _, Below.refl _ _⟩
  case round =>
    obtain ⟨k, hk, rfl, hO, hB⟩ := hrel
    obtain ⟨oa, ol, oc, rfl, -⟩ := hO.slice
    have HO := Lib.hid hO
    have HB := Lib.hid hB
    by_cases hlt : k < len
    · have hkI : (k : Int) < (len : Int) := by omega
      have hkx : k < xs.length := by rw [HL.out]; exact hlt
      obtain ⟨b, o, na, nl, nc, rfl, -, m0, m1, m2, m3, -, hnm⟩ := task_at (HX.out.below hB HW.out.hS) k hkx
      have hsucc : allK ((xs.take (k + 1)).map tk) ne per = allK ((xs.take k).map tk) ne per ++ keysL ne (tk xs[k]) per := by
        unfold allK
        rw [List.take_succ_eq_append_getElem hkx, List.map_append, List.flatMap_append]
        simp
      have hl1 : (allK ((xs.take k).map tk) ne per).length ≤ k * (ne + 1) := by
        have := flat_len (ts := (xs.take k).map tk) ne per
        rw [HLEN.out, Nat.min_eq_left (by omega)] at this
        exact this
      have HSU := Lib.hid hsucc
      have HL1 := Lib.hid hl1
      have HLT := Lib.hid hlt
      generalize tk xs[k] = t at m0 m2 m3 hnm HSU
      have HNM := Lib.hid hnm
      obtain ⟨tnm, tnd, tg, ta⟩ := t
      simp only at m0 m2 m3 HNM
      have hrz := heap_alloc_new wr (.cells #[.string ⟨#[]⟩, .slice none 0 0, .bool false, .bool false] 68)
      have hBz := (Below.refl wr.heap.size wr).alloc (Nat.le_refl _) (.cells #[.string ⟨#[]⟩, .slice none 0 0, .bool false, .bool false] 68)
      have HRZ := Lib.hid hrz
      have hrow := setRow_heap _ _ _ #[.string tnm, .slice na nl nc, .bool tg, .bool ta] _ _ hrz
      have hBs := below_setRow (n := wr.heap.size) hBz (Nat.le_refl _) #[.string tnm, .slice na nl nc, .bool tg, .bool ta]
      have x0 := blk_cell hrow 0
      have x1 := blk_cell hrow 1
      have x2 := blk_cell hrow 2
      have x3 := blk_cell hrow 3
      simp at x0 x1 x2 x3
      clear hsucc hl1 hlt hnm hrz hkx hO hB hrow
      have HBS := Lib.hid hBs
      clear hBs hBz
      go_wp2_with (refine wpList_store_row rfl _ _ _ rfl (wr.heap.size) #[.string tnm, .slice na nl nc, .bool tg, .bool ta] rfl rfl 68 _ HRZ.out (by kernel_rfl) (by rfl) (by simp [Value.oneCell']) ?_)
      have hBs := HBS.out
      generalize hw3 : World.setRow (wr.alloc _) _ _ = w3 at hBs x0 x1 x2 x3 ⊢
      clear hw3 HBS
      have HB3 := Lib.hid (below_step HB.out hBs)
      have HO3 := Lib.hid (HO.out.below hBs)
      have HW3 := Lib.hid (HW.out.below (below_step HB.out hBs))
      clear hBs m0 m1 m2 m3 x0 x1 x2 x3
      refine (keys53 w3 p ts ne np m HW3.out HNE.out ⟨tnm, tnd, tg, ta⟩ na nl nc HNM.out per HPW.out).mono ?_
      rintro e w5 ⟨kv, rfl, hO5, hB5⟩
      obtain ⟨ka, kl, kc, rfl, -⟩ := hO5.slice
      obtain ⟨news, hs5, hr5⟩ := (hO5.rd (fun b => b < w5.heap.size) (fun _ h => h.elim) (fun b hb => (hO5.own b hb).2)).src
      have HSRC := Lib.hid hs5
      have HRDL := Lib.hid (hr5.flat keyT_flat (S' := fun _ => False) (w' := w5))
      have HO5 := Lib.hid (HO3.out.below hB5)
      have HB5 := Lib.hid (below_step HB3.out hB5)
      have HKL := Lib.hid (keysL_len ne ⟨tnm, tnd, tg, ta⟩ per)
      have HBD := Lib.hid (show k * (ne + 1) + (ne + 1) ≤ 2000000 from by
        have h1 := HNE.out
        have h2 := HLL.out
        have h3 := HLT.out
        have := Nat.mul_le_mul (show k ≤ 1000 by omega) (show ne + 1 ≤ 1001 by omega)
        omega)
      clear hO5 hs5 hr5 hB5
      go_wp2_with (at_builtin; go_must (refine wpList_app _ rfl _ _ 46 rfl (e := keyT) (te := 48) info_key Tryz.underlying46 rfl (by decide) (base := w.heap.size) (S := fun _ => False) (v := .slice oa ol oc) (xs := (allK ((xs.take k).map tk) ne per).map Ky.d) rfl HO5.out HB5.out.size rfl (ys := (keysL ne ⟨tnm, tnd, tg, ta⟩ per).map Ky.d) HSRC.out HRDL.out (by have h1 := HL1.out; have h2 := HKL.out; have h3 := HBD.out; rw [List.length_map, List.length_map]; omega) (by have h1 := HL1.out; have h2 := HKL.out; have h3 := HBD.out; rw [List.length_map, List.length_map]; omega) ?_; intro v' w6 O6 g6 _ ob6; have HO6 := Lib.hid O6; have HG6 := Lib.hid g6; clear O6 g6 ob6))
      go_roundw
      case rel => exact ⟨k + 1, HLT.out, by go_num, by rw [HSU.out, List.map_append]; exact HO6.out, HB5.out.grown HG6.out HB5.out.size (fun c hc => (HO5.out.own c hc).1)⟩
      case measure => simp [intOf]; try omega
    · obtain rfl : len = k := by omega
      have hall : xs.take len = xs := List.take_of_length_le (by rw [HL.out]; exact Nat.le_refl _)
      rw [hall, HXS.out] at HO
      clear hO hB hall
      go_wp2_with fail
      go_ret
      exact ⟨_, rfl, HO.out, HB.out⟩
end Go.Proofs.YtdcjocldggmdbaaGreat

/- Layer 53: Done; the names of tasks, Clone, Valid. -/
set_option linter.unusedSimpArgs false
namespace Go.Proofs.YtdcjocldggmdbaaGreat
open Go.RowKit Go

set_option maxHeartbeats 1000000 in
set_option maxRecDepth 20000 in
theorem cloneS53 {S : Nat → Prop} (w : World) (a : Option Addr) (len cap : Nat) (l : List ByteArray) (hx : Rd (.sl .str) S w [.slice a len cap] l) (hS : ∀ b, S b → b < w.heap.size) (hlen : len ≤ 1000000) :
    Calls Tryz.prog 40 #[.slice a len cap] w fun e w' => ∃ v, e = .returned v ∧ Owns .str 9 w.heap.size (fun _ => False) w' v l ∧ Below w.heap.size w w' := by
  have info_str : (Tryz.prog.info? 9).map (fun i => (i.zero, i.size, i.bytes)) = some (some (.string ⟨#[]⟩), (Ty.str).sz, 16) := by kernel_rfl
  have hl : l.length = len := hx.sl_flat.1
  have HX := Lib.hid hx
  have HS := Lib.hid hS
  have HL := Lib.hid hl
  obtain ⟨-, -, -, vs, -, hor⟩ := hx.sl_flat
  have hz := fun w => Lib.run_eql_slice_nil (P := Tryz.prog) w 66 _ a len cap 0 0 Tryz.underlying66
  clear hx hS hl
  cases a with
  | none =>
    obtain rfl : len = 0 := by
      rcases hor with h | ⟨_, _, h, _⟩
      · exact h
      · cases h
    obtain rfl : l = [] := List.eq_nil_of_length_eq_zero HL.out
    clear hor
    simp only [Option.isNone] at hz
    go_enter Tryz.func40, Tryz.ntmps40
    go_wp2_with fail
    go_ret
    exact ⟨_, rfl, Owns.nil _ _ _ _, Below.refl _ _⟩
  | some a =>
    clear hor
    simp only [Option.isNone] at hz
    go_enter Tryz.func40, Tryz.ntmps40
    go_wp2_with (at_builtin; go_must (refine wpList_copy w rfl _ _ 66 rfl (e := .str) info_str Tryz.underlying66 rfl (by decide) rfl (S := S) (sv := .slice (some a) len cap) (xs := l) rfl HX.out HS.out HL.out (by omega) (by omega) ?_; intro g cv w1 O1 hg hB1 h5 h6; have HO1 := Lib.hid O1; have HB1 := Lib.hid hB1; clear O1 hB1))
    go_ret
    exact ⟨_, rfl, HO1.out.flat rfl, HB1.out⟩
end Go.Proofs.YtdcjocldggmdbaaGreat

/- Layer 53: maps of names; a list of tasks is valid. -/
set_option linter.unusedSimpArgs false
namespace Go.Proofs.YtdcjocldggmdbaaGreat
open Go.RowKit Go

noncomputable def nameK : KeyS Tryz.prog 9 ByteArray where
  K := Maps.string_keyed Tryz.underlying9
  v := .string
  ok := fun s => s.size ≤ maxLen
  l := fun s => .string s.data.toList
  hl := fun s h => by
    have h : s.size ≤ maxLen := h
    simp [keyOf, mapKey, Tryz.underlying9, h]
  inj := fun x y _ _ h => by
    have h : x.data.toList = y.data.toList := by simpa using h
    exact ByteArray.ext (Array.toList_inj.1 h)
noncomputable def boolE53 : ElS Tryz.prog 4 Bool := boolEl Tryz.underlying4 (fun _ => by kernel_rfl)
def hasN (l : List ByteArray) (n : ByteArray) : Bool := l.any fun x => decide (x = n)
theorem hasN_iff {l : List ByteArray} {n : ByteArray} : hasN l n = true ↔ n ∈ l := by
  unfold hasN
  rw [List.any_eq_true]
  constructor
  · rintro ⟨x, hx, h⟩
    rw [← of_decide_eq_true h]; exact hx
  · intro h
    exact ⟨n, h, decide_eq_true rfl⟩
theorem hasN_put (l : List ByteArray) (n x : ByteArray) : hasN (l ++ [n]) x = (hasN l x || decide (n = x)) := by
  unfold hasN
  rw [List.any_append]
  simp
/-- A set of names. -/
def NSet (w : World) (b m : Nat) (l : List ByteArray) : Prop := MapG nameK boolE53 w b m (fun n => if hasN l n = true then some true else none)
theorem NSet.look {w : World} {b m : Nat} {l : List ByteArray} (h : NSet w b m l) (n : ByteArray) (hn : n.size ≤ maxLen) : Sem.run Tryz.prog (Instr.lookup 117 (.map (some b)) (.string n) false) w = .ok (.bool (hasN l n)) w := by
  have e : (if hasN l n = true then some true else none).getD false = hasN l n := by cases hasN l n <;> rfl
  have := MapG.look1 h Tryz.underlying117 n hn
  rw [show boolE53.v ((if hasN l n = true then some true else none).getD boolE53.z) = .bool (hasN l n) from congrArg Value.bool e] at this
  exact this
theorem NSet.store {w : World} {b m : Nat} {l : List ByteArray} (h : NSet w b m l) (hm : m ≤ 1000000) (n : ByteArray) (hn : n.size ≤ maxLen) :
    ∃ w' m', Sem.run Tryz.prog (Instr.mapUpdate 117 (.map (some b)) (.string n) (.bool true)) w = .ok () w' ∧ m' ≤ m + 1 ∧ NSet w' b m' (l ++ [n]) ∧ w.mapTurned w' b := by
  obtain ⟨w', h1, h2, h3⟩ := MapG.store h Tryz.underlying117 (by simp [maxLen]; omega) n hn true trivial
  refine ⟨w', (if (if hasN l n = true then some true else none : Option Bool).isSome then m else m + 1), h1, by cases hasN l n <;> simp, MapG.congr h2 (fun x _ => ?_), h3⟩
  rw [hasN_put]
  by_cases hx : x = n
  · subst hx; simp
  · have : ¬ n = x := fun e => hx e.symm
    simp [hx, this]
theorem NSet.made (w : World) : NSet (w.alloc (.map #[] 0)) w.heap.size 0 [] := MapG.congr (MapG.made w) (fun _ _ => rfl)
def NeedsOk (known l : List ByteArray) : Prop := ∀ j (hj : j < l.length), hasN known l[j] = true ∧ hasN (l.take j) l[j] = false
def TaskOk (known : List ByteArray) (t : Tk) : Prop := NeedsOk known t.needs ∧ hasN known t.name = false ∧ nameB t.name = true
def ValidT (ts : List Tk) : Prop := 1 ≤ ts.length ∧ ts.length ≤ 20 ∧ ∀ i (hi : i < ts.length), TaskOk ((ts.take i).map Tk.name) ts[i]
def ValidP (ts : List Tk) (w : World) (e : Ending) (w' : World) : Prop := ∃ b, e = .returned (.bool b) ∧ Below w.heap.size w w' ∧ (b = true ↔ ValidT ts)
set_option maxRecDepth 20000 in
set_option maxHeartbeats 1000000 in
theorem valid53 {S : Nat → Prop} (w : World) (a : Option Addr) (len cap : Nat) (xs : List taskT.den) (hx : Rd (.sl taskT) S w [.slice a len cap] xs) (hS : ∀ b, S b → b < w.heap.size) (hlen : len ≤ 1000000) (hns : ∀ i (hi : i < xs.length), (tk xs[i]).needs.length ≤ 1000000) :
    Calls Tryz.prog 39 #[.slice a len cap] w (ValidP (xs.map tk) w) := by
  have hl : xs.length = len := hx.sl_flat.1
  have HX := Lib.hid hx
  have HS := Lib.hid hS
  have HL := Lib.hid hl
  have HNS := Lib.hid hns
  have HLEN := Lib.hid hlen
  have HK0 := Lib.hid (NSet.made w)
  have HB0 := Lib.hid ((Below.refl _ w).alloc (Nat.le_refl _) (.map #[] 0))
  have hmm := fun w => @run_makeMap Tryz.prog w
  clear hx hS hl hns
  go_enter Tryz.func39, Tryz.ntmps39
  go_wp2_with fail
  generalize w.alloc (.map #[] 0) = w1 at *
  generalize hkm : w.heap.size = km at HK0 ⊢
  have HKM := Lib.hid hkm
  clear hkm
  go_loopw [12] (fun i wr => ∃ k mk : Nat, k ≤ len ∧ mk ≤ k ∧ i = .int .i64 k ∧ NSet wr km mk ((xs.take k).map fun x => (tk x).name) ∧ (∀ j (hj : j < xs.length), j < k → TaskOk ((xs.take j).map fun x => (tk x).name) (tk xs[j])) ∧ Below w.heap.size w wr) (fun i _ => len - (intOf i).toNat)
  case atStart => exact ⟨0, 0, Nat.zero_le _, Nat.le_refl _, rfl, HK0.out, fun j _ hj => absurd hj (by omega), HB0.out⟩
  case round =>
    obtain ⟨k, mk, hk, hmk, rfl, hN, hok, hB⟩ := hrel
    have HN := Lib.hid hN
    have HOK := Lib.hid hok
    have HB := Lib.hid hB
    clear hN hok
    by_cases hlt : k < len
    · have hkI : (k : Int) < (len : Int) := by omega
      have hkx : k < xs.length := by rw [HL.out]; exact hlt
      obtain ⟨b, o, na, nl, nc, rfl, -, m0, m1, m2, m3, hnd, hnm⟩ := task_at (HX.out.below hB HS.out) k hkx
      have HTN := Lib.hid (show TaskOk ((xs.take k).map fun x => (tk x).name) (tk xs[k]) → ∀ j (hj : j < xs.length), j < k + 1 → TaskOk ((xs.take j).map fun x => (tk x).name) (tk xs[j]) from fun h j hj hjk => by
        by_cases e : j = k
        · subst e; exact h
        · exact HOK.out j hj (by omega))
      have HTB := Lib.hid (show ¬ TaskOk ((xs.take k).map fun x => (tk x).name) (tk xs[k]) → ¬ ValidT (xs.map tk) from fun h hv => h (by
        have := hv.2.2 k (by rw [List.length_map]; exact hkx)
        rw [List.getElem_map, ← List.map_take, List.map_map] at this
        exact this))
      have HNM1 := Lib.hid (show (xs.take (k + 1)).map (fun x => (tk x).name) = (xs.take k).map (fun x => (tk x).name) ++ [(tk xs[k]).name] from by rw [List.take_succ_eq_append_getElem hkx, List.map_append]; rfl)
      have hnn := HNS.out k hkx
      have HLT := Lib.hid hlt
      generalize (xs.take k).map (fun x => (tk x).name) = known at HN HTN HTB HNM1
      generalize tk xs[k] = t at m0 m2 m3 hnd hnm hnn HTN HTB HNM1
      obtain ⟨tnm, tnd, tg, ta⟩ := t
      simp only at m0 m2 m3 hnd hnm hnn
      have hnl : tnd.length = nl := hnd.sl_flat.1
      have hnlb : nl ≤ 1000000 := by rw [← hnl]; exact hnn
      have HND := Lib.hid hnd
      have HNM := Lib.hid hnm
      have HNL := Lib.hid hnl
      have hrz := heap_alloc_new wr (.cells #[.string ⟨#[]⟩, .slice none 0 0, .bool false, .bool false] 68)
      have hBz := (Below.refl wr.heap.size wr).alloc (Nat.le_refl _) (.cells #[.string ⟨#[]⟩, .slice none 0 0, .bool false, .bool false] 68)
      have HRZ := Lib.hid hrz
      have hrow := setRow_heap _ _ _ #[.string tnm, .slice na nl nc, .bool tg, .bool ta] _ _ hrz
      have hBs := below_setRow (n := wr.heap.size) hBz (Nat.le_refl _) #[.string tnm, .slice na nl nc, .bool tg, .bool ta]
      have hsz : ((wr.alloc (.cells #[.string ⟨#[]⟩, .slice none 0 0, .bool false, .bool false] 68)).setRow wr.heap.size #[.string tnm, .slice na nl nc, .bool tg, .bool ta]).heap.size = wr.heap.size + 1 := by simp
      have hBm := (Below.refl _ ((wr.alloc (.cells #[.string ⟨#[]⟩, .slice none 0 0, .bool false, .bool false] 68)).setRow wr.heap.size #[.string tnm, .slice na nl nc, .bool tg, .bool ta])).alloc (Nat.le_refl _) (.map #[] 0)
      have hrow3 := (hBm.block _ (blk_lt hrow)).trans hrow
      have hM3 := NSet.made ((wr.alloc (.cells #[.string ⟨#[]⟩, .slice none 0 0, .bool false, .bool false] 68)).setRow wr.heap.size #[.string tnm, .slice na nl nc, .bool tg, .bool ta])
      rw [hsz] at hM3
      have x1 := blk_cell hrow3 1
      simp at x1
      have HROW3 := Lib.hid hrow3
      have HM3 := Lib.hid hM3
      have HB3 := Lib.hid (below_step hBs hBm)
      clear hrz hBz hrow hBs hsz hBm hrow3 hM3 hkx hlt hnd hnm hnl hnn hB
      go_wp2_with (refine wpList_store_row rfl _ _ _ rfl (wr.heap.size) #[.string tnm, .slice na nl nc, .bool tg, .bool ta] rfl rfl 68 _ HRZ.out (by kernel_rfl) (by rfl) (by simp [Value.oneCell']) ?_)
      have hrow3 := HROW3.out
      have hM3 := HM3.out
      have hB3 := HB3.out
      generalize hw3 : World.alloc (World.setRow (wr.alloc _) _ _) _ = w3 at hrow3 hM3 hB3 x1 ⊢
      clear hw3 HROW3 HM3 HB3 m0 m1 m2 m3 x1
      have HR3 := Lib.hid hrow3
      have HM3 := Lib.hid hM3
      have HB3 := Lib.hid (below_step HB.out hB3)
      have HN3 := Lib.hid (MapG.below HN.out hB3)
      have hkmr : km < wr.heap.size := MapG.lt HN.out
      have HKMR := Lib.hid hkmr
      clear hrow3 hM3 hB3 hkmr
      generalize htb : wr.heap.size = tb at *
      go_loopw [20] (fun i wj => ∃ q mq : Nat, q ≤ nl ∧ mq ≤ q ∧ i = .int .i64 q ∧ NSet wj km mk known ∧ NSet wj (tb + 1) mq (tnd.take q) ∧ (∀ j (hj : j < tnd.length), j < q → hasN known tnd[j] = true ∧ hasN (tnd.take j) tnd[j] = false) ∧ Below w.heap.size w wj ∧ wj.heap[tb]? = some (.cells #[.string tnm, .slice na nl nc, .bool tg, .bool ta] 68 (0, 0))) (fun i _ => nl - (intOf i).toNat)
      case atStart => exact ⟨0, 0, Nat.zero_le _, Nat.le_refl _, rfl, HN3.out, HM3.out, fun j _ hj => absurd hj (by omega), HB3.out, HR3.out⟩
      case round =>
        obtain ⟨q, mq, hq, hmq, rfl, hN2, hM2, hok2, hB2, hr2⟩ := hrel
        have HN2 := Lib.hid hN2
        have HM2 := Lib.hid hM2
        have HOK2 := Lib.hid hok2
        have HB2 := Lib.hid hB2
        have HR2 := Lib.hid hr2
        clear hN2 hM2 hok2 hr2
        by_cases hqt : q < nl
        · have hqI : (q : Int) < (nl : Int) := by omega
          have hqx : q < tnd.length := by rw [HNL.out]; exact hqt
          obtain ⟨-, -, -, hat⟩ := (HND.out.keep (w' := wr) (fun b hb => (hB2.block b (HS.out b hb)).trans (HB.out.block b (HS.out b hb)).symm) (fun _ h => h)).sl1 rfl
          obtain ⟨nb, noff, nv, rfl, hSn, n0, hnv, hnsz⟩ := hat q hqx
          obtain rfl : nv = .string tnd[q] := by simpa using hnv
          clear hnv
          have HNQ := Lib.hid (show ∀ j (hj : j < tnd.length), j < q + 1 → (hasN known tnd[q] = true ∧ hasN (tnd.take q) tnd[q] = false) → hasN known tnd[j] = true ∧ hasN (tnd.take j) tnd[j] = false from fun j hj hjq h => by
            by_cases e : j = q
            · subst e; exact h
            · exact HOK2.out j hj (by omega))
          have HNB := Lib.hid (show ¬ (hasN known tnd[q] = true ∧ hasN (tnd.take q) tnd[q] = false) → ¬ ValidT (xs.map tk) from fun h => HTB.out fun ht => h (ht.1 q hqx))
          have HTK := Lib.hid (show tnd.take (q + 1) = tnd.take q ++ [tnd[q]] from List.take_succ_eq_append_getElem hqx)
          have l1 := HN2.out.look tnd[q] hnsz
          have l2 := HM2.out.look tnd[q] hnsz
          have HQT := Lib.hid hqt
          have HSZ := Lib.hid hnsz
          generalize tnd[q] = s at n0 l1 l2 HNQ HNB HTK HSZ
          obtain ⟨b1, hb1⟩ : ∃ b, hasN known s = b := ⟨_, rfl⟩
          obtain ⟨b2, hb2⟩ : ∃ b, hasN (tnd.take q) s = b := ⟨_, rfl⟩
          rw [hb1] at l1 HNQ HNB
          rw [hb2] at l2 HNQ HNB
          clear hqt hqx hnsz hb1 hb2 hB2
          cases b1
          · go_wp2_with fail
            go_ret
            exact ⟨false, rfl, HB2.out, fun h => (by cases h), fun h => absurd h (HNB.out (by simp))⟩
          cases b2
          rotate_left
          · go_wp2_with fail
            go_ret
            exact ⟨false, rfl, HB2.out, fun h => (by cases h), fun h => absurd h (HNB.out (by simp))⟩
          obtain ⟨w5, m5, hrun, hm5, hM5, hT5⟩ := HM2.out.store (by omega) s HSZ.out
          have hg := Gr.of_turned hT5
          have HM5 := Lib.hid hM5
          have HG5 := Lib.hid hg
          have HM5L := Lib.hid hm5
          clear hM5 hT5 hg hm5
          go_wp2_with fail
          have hlow : w.heap.size ≤ tb + 1 := by have h1 := HKM.out; have h2 := HKMR.out; omega
          have hB5 := HG5.out.below (n := w.heap.size) (fun b e => by omega) HB2.out.size
          go_roundw
          case rel => exact ⟨q + 1, m5, HQT.out, by have := HM5L.out; omega, by go_num, MapG.gr HN2.out HG5.out (by have := HKMR.out; omega), by rw [HTK.out]; exact HM5.out, fun j hj hjq => HNQ.out j hj hjq ⟨rfl, rfl⟩, HB2.out.trans hB5, blk_gr HG5.out HR2.out (by omega)⟩
          case measure => simp [intOf]; try omega
        · obtain rfl : nl = q := by omega
          have HNE := Lib.hid (show NeedsOk known tnd from fun j hj => HOK2.out j hj (by rw [← HNL.out]; exact hj))
          have x0 := blk_cell HR2.out 0
          simp at x0
          have l1 := HN2.out.look tnm HNM.out
          obtain ⟨b1, hb1⟩ : ∃ b, hasN known tnm = b := ⟨_, rfl⟩
          obtain ⟨b2, hb2⟩ : ∃ b, nameB tnm = b := ⟨_, rfl⟩
          rw [hb1] at l1
          have HB1 := Lib.hid hb1
          have HB2n := Lib.hid hb2
          have HNA := Lib.hid (name53 wr tnm HNM.out)
          rw [hb2] at HNA
          clear hqt hb1 hb2 hB2
          cases b1
          rotate_left
          · go_wp2_with fail
            go_ret
            exact ⟨false, rfl, HB2.out, fun h => (by cases h), fun h => absurd h (HTB.out fun ht => by have := ht.2.1; rw [HB1.out] at this; cases this)⟩
          go_wp2_with fail
          refine HNA.out.mono ?_
          rintro e w4 ⟨rfl, rfl⟩
          cases b2
          · go_wp2_with fail
            go_ret
            exact ⟨false, rfl, HB2.out, fun h => (by cases h), fun h => absurd h (HTB.out fun ht => by have := ht.2.2; rw [HB2n.out] at this; cases this)⟩
          obtain ⟨w5, m5, hrun, hm5, hM5, hT5⟩ := HN2.out.store (by have := HLEN.out; omega) tnm HNM.out
          have HM5 := Lib.hid hM5
          have HG5 := Lib.hid (Gr.of_turned hT5)
          have HM5L := Lib.hid hm5
          clear hM5 hT5 hm5
          go_wp2_with fail
          have hB5 := HG5.out.below (n := w.heap.size) (fun b e => by have := HKM.out; omega) HB2.out.size
          go_roundw
          case rel => exact ⟨k + 1, m5, HLT.out, by have := HM5L.out; omega, by go_num, by rw [HNM1.out]; exact HM5.out, HTN.out ⟨HNE.out, HB1.out, HB2n.out⟩, HB2.out.trans hB5⟩
          case measure => simp [intOf]; try omega
    · obtain rfl : len = k := by omega
      have HV := Lib.hid (show 1 ≤ len → len ≤ 20 → ValidT (xs.map tk) from fun h1 h2 => ⟨by rw [List.length_map, HL.out]; exact h1, by rw [List.length_map, HL.out]; exact h2, fun i hi => by
        rw [List.length_map] at hi
        rw [List.getElem_map, ← List.map_take, List.map_map]
        exact HOK.out i hi (by rw [← HL.out]; exact hi)⟩)
      have HVN := Lib.hid (show ValidT (xs.map tk) → 1 ≤ len ∧ len ≤ 20 from fun h => by have h1 := h.1; have h2 := h.2.1; rw [List.length_map, HL.out] at h1 h2; exact ⟨h1, h2⟩)
      clear hB hlt
      by_cases h1 : (1 : Int) ≤ (len : Int)
      · by_cases h2 : (len : Int) ≤ 20
        · have HH := Lib.hid (show 1 ≤ len ∧ len ≤ 20 by omega)
          go_wp2_with fail
          go_ret
          refine ⟨true, ?_, HB.out, fun _ => HV.out HH.out.1 HH.out.2, fun _ => rfl⟩
          first | rfl | simp_all
        · have HH := Lib.hid (show ¬ len ≤ 20 by omega)
          go_wp2_with fail
          go_ret
          refine ⟨false, ?_, HB.out, fun h => (by cases h), fun h => absurd (HVN.out h).2 HH.out⟩
          first | rfl | (simp; omega)
      · have HH := Lib.hid (show ¬ 1 ≤ len by omega)
        go_wp2_with fail
        go_ret
        exact ⟨false, rfl, HB.out, fun h => (by cases h), fun h => absurd (HVN.out h).1 HH.out⟩
end Go.Proofs.YtdcjocldggmdbaaGreat

/- Layer 53: the calendar. -/
set_option linter.unusedSimpArgs false
namespace Go.Proofs.YtdcjocldggmdbaaGreat
open Go.RowKit Go

def BoolP (w : World) (e : Ending) (w' : World) : Prop := ∃ b, e = .returned (.bool b) ∧ Below w.heap.size w w'
set_option maxHeartbeats 1000000 in
theorem leap53 (w : World) (y : Int) (h1 : 0 ≤ y) : Calls Tryz.prog 103 #[.int .i64 y] w (BoolP w) := by
  obtain ⟨r4, h4⟩ : ∃ r, y.tmod 4 = r := ⟨_, rfl⟩
  obtain ⟨r100, h100⟩ : ∃ r, y.tmod 100 = r := ⟨_, rfl⟩
  obtain ⟨r400, h400⟩ : ∃ r, y.tmod 400 = r := ⟨_, rfl⟩
  go_enter Tryz.func103, Tryz.ntmps103
  go_wp2_with fail
  all_goals
    go_ret
    exact ⟨_, rfl, Below.refl _ _⟩
def DayP (w : World) (e : Ending) (w' : World) : Prop := ∃ r : Int, e = .returned (.int .i64 r) ∧ 28 ≤ r ∧ r ≤ 31 ∧ Below w.heap.size w w'
set_option maxRecDepth 20000 in
set_option maxHeartbeats 1000000 in
theorem days53 (w : World) (y m : Int) (h1 : 1900 ≤ y) (h2 : y ≤ 2199) (h3 : 1 ≤ m) (h4 : m ≤ 12) : Calls Tryz.prog 90 #[.int .i64 y, .int .i64 m] w (DayP w) := by
  have a1 : ¬ y < 1900 := by omega
  have a2 : ¬ 2199 < y := by omega
  have HB := Lib.hid ((Below.refl w.heap.size w).alloc (Nat.le_refl _) (.cells #[.int .i64 31, .int .i64 28, .int .i64 31, .int .i64 30, .int .i64 31, .int .i64 30, .int .i64 31, .int .i64 31, .int .i64 30, .int .i64 31, .int .i64 30, .int .i64 31] 158))
  have hm : m = 1 ∨ m = 2 ∨ m = 3 ∨ m = 4 ∨ m = 5 ∨ m = 6 ∨ m = 7 ∨ m = 8 ∨ m = 9 ∨ m = 10 ∨ m = 11 ∨ m = 12 := by omega
  have hrow := heap_alloc_new w (.cells #[.int .i64 31, .int .i64 28, .int .i64 31, .int .i64 30, .int .i64 31, .int .i64 30, .int .i64 31, .int .i64 31, .int .i64 30, .int .i64 31, .int .i64 30, .int .i64 31] 158)
  have x0 := blk_cell hrow 0
  have x1 := blk_cell hrow 1
  have x2 := blk_cell hrow 2
  have x3 := blk_cell hrow 3
  have x4 := blk_cell hrow 4
  have x5 := blk_cell hrow 5
  have x6 := blk_cell hrow 6
  have x7 := blk_cell hrow 7
  have x8 := blk_cell hrow 8
  have x9 := blk_cell hrow 9
  have x10 := blk_cell hrow 10
  have x11 := blk_cell hrow 11
  simp at x0 x1 x2 x3 x4 x5 x6 x7 x8 x9 x10 x11
  have HRO := Lib.hid hrow
  clear hrow
  clear h3 h4
  rcases hm with rfl | rfl | rfl | rfl | rfl | rfl | rfl | rfl | rfl | rfl | rfl | rfl
  · go_enter Tryz.func90, Tryz.ntmps90
    go_wp2_with fail
    go_ret
    exact ⟨_, rfl, by omega, by omega, HB.out⟩
  · go_enter Tryz.func90, Tryz.ntmps90
    go_wp2_with fail
    refine (leap53 _ y (by omega)).mono ?_
    rintro e w2 ⟨b, rfl, hB2⟩
    have HB2 := Lib.hid (below_step HB.out hB2)
    have hr2 := (hB2.block _ (blk_lt HRO.out)).trans HRO.out
    have z1 := blk_cell hr2 1
    simp at z1
    clear hB2 hr2
    cases b
    · go_wp2_with fail
      go_ret
      exact ⟨_, rfl, by omega, by omega, HB2.out⟩
    · go_wp2_with fail
      go_ret
      exact ⟨_, rfl, by omega, by omega, HB2.out⟩
  · go_enter Tryz.func90, Tryz.ntmps90
    go_wp2_with fail
    go_ret
    exact ⟨_, rfl, by omega, by omega, HB.out⟩
  · go_enter Tryz.func90, Tryz.ntmps90
    go_wp2_with fail
    go_ret
    exact ⟨_, rfl, by omega, by omega, HB.out⟩
  · go_enter Tryz.func90, Tryz.ntmps90
    go_wp2_with fail
    go_ret
    exact ⟨_, rfl, by omega, by omega, HB.out⟩
  · go_enter Tryz.func90, Tryz.ntmps90
    go_wp2_with fail
    go_ret
    exact ⟨_, rfl, by omega, by omega, HB.out⟩
  · go_enter Tryz.func90, Tryz.ntmps90
    go_wp2_with fail
    go_ret
    exact ⟨_, rfl, by omega, by omega, HB.out⟩
  · go_enter Tryz.func90, Tryz.ntmps90
    go_wp2_with fail
    go_ret
    exact ⟨_, rfl, by omega, by omega, HB.out⟩
  · go_enter Tryz.func90, Tryz.ntmps90
    go_wp2_with fail
    go_ret
    exact ⟨_, rfl, by omega, by omega, HB.out⟩
  · go_enter Tryz.func90, Tryz.ntmps90
    go_wp2_with fail
    go_ret
    exact ⟨_, rfl, by omega, by omega, HB.out⟩
  · go_enter Tryz.func90, Tryz.ntmps90
    go_wp2_with fail
    go_ret
    exact ⟨_, rfl, by omega, by omega, HB.out⟩
  · go_enter Tryz.func90, Tryz.ntmps90
    go_wp2_with fail
    go_ret
    exact ⟨_, rfl, by omega, by omega, HB.out⟩
def IntP (w : World) (e : Ending) (w' : World) : Prop := ∃ r : Int, e = .returned (.int .i64 r) ∧ Below w.heap.size w w'
theorem begin53 (w : World) (y : Int) : Calls Tryz.prog 91 #[.int .i64 y] w (IntP w) := by
  go_enter Tryz.func91, Tryz.ntmps91
  go_wp2_with fail
  go_ret
  exact ⟨_, rfl, Below.refl _ _⟩
def DateP (w : World) (e : Ending) (w' : World) : Prop := ∃ r : Int, e = .returned (.tuple #[.int .i64 r, .int .i64 0]) ∧ Below w.heap.size w w'
set_option maxHeartbeats 1000000 in
theorem of53 (w : World) (y m : Int) (h1 : 1900 ≤ y) (h2 : y ≤ 2199) (h3 : 1 ≤ m) (h4 : m ≤ 12) : Calls Tryz.prog 68 #[.int .i64 y, .int .i64 m, .int .i64 1] w (DateP w) := by
  go_enter Tryz.func68, Tryz.ntmps68
  go_wp2_with fail
  refine (days53 w y m h1 h2 h3 h4).mono ?_
  rintro e w1 ⟨r1, rfl, ha, hb, hB1⟩
  have HB1 := Lib.hid hB1
  have hr1 : ¬ r1 < 1 := by omega
  clear hB1
  go_wp2_with fail
  refine (begin53 w1 y).mono ?_
  rintro e w2 ⟨r2, rfl, hB2⟩
  have HB2 := Lib.hid (below_step HB1.out hB2)
  clear hB2
  go_wp2_with fail
  go_loopw [8, 9] (fun n i wr => ∃ k r : Int, 1 ≤ k ∧ k ≤ m ∧ n = .int .i64 r ∧ i = .int .i64 k ∧ Below w.heap.size w wr) (fun _ i _ => (m - intOf i).toNat)
  case atStart => exact ⟨1, _, by omega, h3, rfl, rfl, HB2.out⟩
  case round =>
    obtain ⟨k, r, hk1, hk2, rfl, rfl, hB⟩ := hrel
    have HB := Lib.hid hB
    clear hB
    by_cases hlt : k < m
    · go_wp2_with fail
      refine (days53 wr y k h1 h2 hk1 (by omega)).mono ?_
      rintro e w4 ⟨r4, rfl, ha4, hb4, hB4⟩
      have HB4 := Lib.hid (below_step HB.out hB4)
      have HLT := Lib.hid hlt
      clear hB4
      go_wp2_with fail
      go_roundw
      case rel => exact ⟨k + 1, _, by omega, by have := HLT.out; omega, rfl, by go_num, HB4.out⟩
      case measure => simp [intOf]; omega
    · go_wp2_with fail
      refine bodyPost_ret (results_tmp2 rfl _ _ _) rfl ?_
      exact ⟨_, rfl, HB.out⟩
set_option maxHeartbeats 1000000 in
theorem first53 (w : World) (y mo pe : Int) (h1 : 1900 ≤ y) (h3 : 1 ≤ mo) (h4 : mo ≤ 12) (h5 : 1 ≤ pe) (h7 : 12 * y + mo - 1 + (pe - 1) < 26400) :
    Calls Tryz.prog 57 #[.agg #[.int .i64 y, .int .i64 mo, .int .i64 pe], .int .i64 (pe - 1)] w (DateP w) := by
  obtain ⟨n, hn⟩ : ∃ n, 12 * y + mo - 1 + (pe - 1) = n := ⟨_, rfl⟩
  have e1 : IntKind.i64.wrap (12 * y) = 12 * y := by rw [IntKind.wrap_i64] <;> omega
  have e2 : IntKind.i64.wrap (12 * y + mo) = 12 * y + mo := by rw [IntKind.wrap_i64] <;> omega
  have e3 : IntKind.i64.wrap (12 * y + mo - 1) = 12 * y + mo - 1 := by rw [IntKind.wrap_i64] <;> omega
  have e4 : IntKind.i64.wrap (12 * y + mo - 1 + (pe - 1)) = 12 * y + mo - 1 + (pe - 1) := by rw [IntKind.wrap_i64] <;> omega
  have hq : n.tdiv 12 = n / 12 := by rw [Int.tdiv_eq_ediv_of_nonneg]; omega
  have hr : n.tmod 12 = n % 12 := by rw [Int.tmod_eq_emod_of_nonneg]; omega
  have HO := Lib.hid fun W => of53 W (n / 12) (n % 12 + 1) (by omega) (by omega) (by omega) (by omega)
  have HB := Lib.hid ((Below.refl w.heap.size w).alloc (Nat.le_refl _) (.cells #[.int .i64 y, .int .i64 mo, .int .i64 pe] 58))
  have e5 : IntKind.i64.wrap (n / 12) = n / 12 := by rw [IntKind.wrap_i64] <;> omega
  have e6 : IntKind.i64.wrap (n % 12 + 1) = n % 12 + 1 := by rw [IntKind.wrap_i64] <;> omega
  rw [hn] at e4
  clear h1 h3 h4 h5 h7
  go_enter Tryz.func57, Tryz.ntmps57
  go_wp2_with fail
  refine (HO.out _).mono ?_
  rintro e w2 ⟨r, rfl, hB2⟩
  have HB2 := Lib.hid (below_step HB.out hB2)
  clear hB2
  go_wp2_with fail
  refine bodyPost_ret (results_tmp2 rfl _ _ _) rfl ?_
  exact ⟨_, rfl, HB2.out⟩
set_option maxHeartbeats 1000000 in
theorem calValid53 (w : World) (y mo pe : Int) (h1 : 1900 ≤ y) (h2 : y ≤ 2199) (h3 : 1 ≤ mo) (h4 : mo ≤ 12) (h5 : 1 ≤ pe) (h6 : pe ≤ 120) (h7 : 12 * y + mo - 1 + (pe - 1) < 26400) :
    Calls Tryz.prog 38 #[.agg #[.int .i64 y, .int .i64 mo, .int .i64 pe]] w fun e w' => e = .returned (.bool true) ∧ Below w.heap.size w w' := by
  have a1 : ¬ mo < 1 := by omega
  have a2 : ¬ 12 < mo := by omega
  have a3 : ¬ pe < 1 := by omega
  have a4 : ¬ 120 < pe := by omega
  have a5 : ¬ y < 1900 := by omega
  have a6 : ¬ 2199 < y := by omega
  have HH := Lib.hid (show 1900 ≤ y ∧ 1 ≤ mo ∧ 1 ≤ pe ∧ 12 * y + mo - 1 + (pe - 1) < 26400 from ⟨h1, h3, h5, h7⟩)
  have HB := Lib.hid ((Below.refl w.heap.size w).alloc (Nat.le_refl _) (.cells #[.int .i64 y, .int .i64 mo, .int .i64 pe] 58))
  have HF := Lib.hid fun W => first53 W y mo pe h1 h3 h4 h5 h7
  have hwp : IntKind.i64.wrap (pe - 1) = pe - 1 := by rw [IntKind.wrap_i64] <;> omega
  clear h1 h2 h3 h4 h5 h6 h7
  go_enter Tryz.func38, Tryz.ntmps38
  go_wp2_with fail
  refine (HF.out _).mono ?_
  rintro e w2 ⟨r, rfl, hB2⟩
  have HB2 := Lib.hid (below_step HB.out hB2)
  clear hB2
  go_wp2_with fail
  go_ret
  exact ⟨rfl, HB2.out⟩
end Go.Proofs.YtdcjocldggmdbaaGreat

/- Layer 53: New. -/
set_option linter.unusedSimpArgs false
namespace Go.Proofs.YtdcjocldggmdbaaGreat
open Go.RowKit Go

theorem info_task : (Tryz.prog.info? 68).map (fun i => (i.zero, i.size, i.bytes)) = some (some (.agg #[.string ⟨#[]⟩, .slice none 0 0, .bool false, .bool false]), taskT.sz, 48) := by kernel_rfl
theorem task_rd {S : Nat → Prop} {w : World} {t : Tk} {na : Option Addr} {nl nc : Nat} (h1 : t.name.size ≤ maxLen) (h2 : Rd (.sl .str) S w [.slice na nl nc] t.needs) : Rd taskT S w [.string t.name, .slice na nl nc, .bool t.grp, .bool t.aft] (t.name, t.needs, t.grp, t.aft, ()) :=
  ⟨[_], _, rfl, ⟨rfl, h1⟩, [_], _, rfl, h2, [_], _, rfl, rfl, [_], _, rfl, rfl, rfl⟩
def Tk.d (t : Tk) : taskT.den := (t.name, t.needs, t.grp, t.aft, ())
theorem d_tk (x : taskT.den) : (tk x).d = x := by obtain ⟨a, b, c, d, ⟨⟩⟩ := x; rfl
/-- A workflow that is made. -/
structure WfB (n0 : Nat) (w : World) (p m : Nat) (ne np : Int) (xs : List taskT.den) (v : Value) (SS : Nat → Prop) : Prop where
  row : w.heap[p]? = some (.cells #[v, .int .i64 ne, .int .i64 np, .map (some m)] 92 (0, 0))
  own : Owns taskT 68 n0 SS w v xs
  mp : MapS w m 0 (fun _ => none)
  hv : ∀ b, v.ownBlock = some b → b ≠ p ∧ b ≠ m
  hS : ∀ b, SS b → b ≠ p ∧ b ≠ m
  h0 : n0 ≤ p
  pm : p ≠ m
  hl : ∀ b, SS b → n0 ≤ b
theorem WfB.below {n0 : Nat} {w w' : World} {p m : Nat} {ne np : Int} {xs : List taskT.den} {v : Value} {SS : Nat → Prop} (h : WfB n0 w p m ne np xs v SS) (hB : Below w.heap.size w w') : WfB n0 w' p m ne np xs v SS :=
  ⟨(hB.block _ (blk_lt h.row)).trans h.row, h.own.below hB, h.mp.below hB, h.hv, h.hS, h.h0, h.pm, h.hl⟩
theorem WfB.wider {n0 : Nat} {w : World} {p m : Nat} {ne np : Int} {xs : List taskT.den} {v : Value} {SS SS' : Nat → Prop} (h : WfB n0 w p m ne np xs v SS) (hs : ∀ b, SS b → SS' b) (hb : ∀ b, SS' b → SS b ∨ (b < w.heap.size ∧ b ≠ p ∧ b ≠ m ∧ v.ownBlock ≠ some b ∧ n0 ≤ b)) : WfB n0 w p m ne np xs v SS' := by
  obtain ⟨vs, h1, h2, h3⟩ := h.own
  refine ⟨h.row, ⟨vs, h1, h2.keep (fun _ _ => rfl) hs, fun b hb' => ?_⟩, h.mp, h.hv, fun b hb' => ?_, h.h0, h.pm, fun b hb' => (hb b hb').elim (h.hl b) (fun h => h.2.2.2.2)⟩
  · rcases hb b hb' with h' | ⟨h1, -, -, h4, -⟩
    · exact h3 b h'
    · exact ⟨h4, h1⟩
  · rcases hb b hb' with h' | ⟨-, h2, h3, -, -⟩
    · exact h.hS b h'
    · exact ⟨h2, h3⟩
theorem WfB.put {n0 : Nat} {w w1 : World} {p m : Nat} {ne np : Int} {xs xs' : List taskT.den} {v v' : Value} {SS : Nat → Prop} (h : WfB n0 w p m ne np xs v SS) (g : w.grownBy w1 v.ownBlock) (ho : Owns taskT 68 n0 SS w1 v' xs') (hb : v'.ownBlock = v.ownBlock ∨ v'.ownBlock = some w.heap.size) :
    WfB n0 (w1.setCell ⟨p, 0, none⟩ v') p m ne np xs' v' SS ∧ Gr (fun b => v.ownBlock = some b ∨ b = p) w (w1.setCell ⟨p, 0, none⟩ v') := by
  have hvs : v.ownBlock ≠ some p := fun e => (h.hv p e).1 rfl
  have hv' : ∀ b, v'.ownBlock = some b → b ≠ p ∧ b ≠ m := fun b e => by
    rcases hb with e' | e'
    · exact h.hv b (e' ▸ e)
    · rw [e'] at e
      obtain rfl := Option.some.inj e
      exact ⟨fun e2 => by have := blk_lt h.row; omega, fun e2 => by have := h.mp.lt; omega⟩
  have hr1 := blk_gr (Gr.of_grown g) h.row hvs
  have hr2 := blk_set (i := 0) hr1 v'
  simp at hr2
  have hgs : Gr (fun b => b = p) w1 (w1.setCell ⟨p, 0, none⟩ v') := (Gr.refl (fun b => b = p) w1).setCell (.inl rfl) v'
  exact ⟨⟨hr2, ho.gr hgs (fun b hb e => (h.hS b hb).1 e) (fun b hb e => (hv' b hb).1 e), (h.mp.gr (Gr.of_grown g) (fun e => (h.hv _ e).2 rfl)).gr hgs (fun e => h.pm e.symm), hv', h.hS, h.h0, h.pm, h.hl⟩, ((Gr.of_grown g).mono (fun x e => .inl (.inl e))).trans hgs (fun x e => .inl (.inr e))⟩
theorem WfB.below0 {n0 : Nat} {w w' : World} {p m : Nat} {ne np : Int} {xs : List taskT.den} {v : Value} {SS : Nat → Prop} (h : WfB n0 w p m ne np xs v SS) (hg : Gr (fun b => v.ownBlock = some b ∨ b = p) w w') (hn : n0 ≤ w.heap.size) : Below n0 w w' :=
  hg.below (fun b hb => hb.elim (fun e => (h.own.own b e).1) (fun e => by rw [e]; exact h.h0)) hn
/-- It is a workflow. -/
theorem WfB.done {n0 : Nat} {w : World} {p m : Nat} {ne np : Nat} {xs : List taskT.den} {v : Value} {SS : Nat → Prop} (h : WfB n0 w p m ne np xs v SS) : WfIn (fun b => SS b ∨ v.ownBlock = some b) w p (xs.map tk) ne np m 0 (fun _ => none) := by
  obtain ⟨a, len, cap, rfl, -⟩ := h.own.slice
  exact ⟨⟨⟨a, len, cap, xs, h.row, h.own.rd _ (fun b hb => .inl hb) (fun b hb => .inr hb), rfl⟩, fun b hb => hb.elim (fun h' => (h.own.bound b h').2) (fun h' => (h.own.own b h').2)⟩, h.mp, fun b hb => hb.elim (fun h' => (h.hS b h').2) (fun h' => (h.hv b h').2), h.pm⟩
/-- A group's value. -/
def grpV (cur : ByteArray) (y mo pe : Int) (ca : Option Addr) (cl cc : Nat) (r : Fin 15 → Int) (ea : Option Addr) (el ec : Nat) : Array Value :=
  #[.string cur, .int .i64 y, .int .i64 mo, .int .i64 pe, .slice ca cl cc, .int .i64 (r 0), .int .i64 (r 1), .int .i64 (r 2), .int .i64 (r 3), .int .i64 (r 4), .int .i64 (r 5), .int .i64 (r 6), .int .i64 (r 7), .int .i64 (r 8), .int .i64 (r 9), .int .i64 (r 10), .int .i64 (r 11), .int .i64 (r 12), .int .i64 (r 13), .int .i64 (r 14), .slice ea el ec]
end Go.Proofs.YtdcjocldggmdbaaGreat
