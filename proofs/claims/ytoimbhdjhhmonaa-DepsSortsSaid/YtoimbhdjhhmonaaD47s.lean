/- Layer 47: New, Remove, Reads, Readers. -/
import Derived.Test.YtoimbhdjhhmonaaD47o
set_option linter.unusedSimpArgs false
namespace Go.Proofs.Ytoimbhdjhhmonaa
open Go.RowKit Go

set_option maxRecDepth 20000 in
theorem new47 (w : World) : Calls Try.prog 29 #[] w fun e w' => ∃ p mr ms F, e = .returned (.pointer (some ⟨p, 0, none⟩)) ∧ Below w.heap.size w w' ∧ DepI F w' p mr ms 0 0 (fun _ => none) ∧ ∀ b, b < w.heap.size → F b = 0 := by
  have hmm := fun w => @run_makeMap Try.prog w
  go_enter Try.func29, Try.ntmps29
  go_wp2
  go_ret
  have e1 : (w.alloc (.map #[] 0)).heap.size = w.heap.size + 1 := by simp
  have e2 : ((w.alloc (.map #[] 0)).alloc (.map #[] 0)).heap.size = w.heap.size + 2 := by simp
  have hh := heap_alloc_new ((w.alloc (.map #[] 0)).alloc (.map #[] 0)) (.cells #[.map (some w.heap.size), .map (some (w.heap.size + 1))] 62)
  rw [e2] at hh
  have hB0 : Below w.heap.size w (((w.alloc (.map #[] 0)).alloc (.map #[] 0)).alloc (.cells #[.map (some w.heap.size), .map (some (w.heap.size + 1))] 62)) := (((Below.refl _ w).alloc (Nat.le_refl _) _).alloc (by simp) _).alloc (by simp only [World.size_alloc]; omega) _
  have hB1 : Below (w.alloc (.map #[] 0)).heap.size (w.alloc (.map #[] 0)) (((w.alloc (.map #[] 0)).alloc (.map #[] 0)).alloc (.cells #[.map (some w.heap.size), .map (some (w.heap.size + 1))] 62)) := ((Below.refl _ _).alloc (Nat.le_refl _) _).alloc (by simp) _
  have hB2 : Below ((w.alloc (.map #[] 0)).alloc (.map #[] 0)).heap.size ((w.alloc (.map #[] 0)).alloc (.map #[] 0)) (((w.alloc (.map #[] 0)).alloc (.map #[] 0)).alloc (.cells #[.map (some w.heap.size), .map (some (w.heap.size + 1))] 62)) := (Below.refl _ _).alloc (Nat.le_refl _) _
  have hM1 := (MapG.made (Ks := cellK) (Es := slE) w).below hB1
  have hM2 := (MapG.made (Ks := cellK) (Es := mapE) (w.alloc (.map #[] 0))).below hB2
  rw [show (w.alloc (.map #[] 0)).heap.size = w.heap.size + 1 from e1] at hM2
  refine ⟨w.heap.size + 2, w.heap.size, w.heap.size + 1, fun b => if b = w.heap.size + 2 then 1 else if b = w.heap.size then 2 else if b = w.heap.size + 1 then 3 else 0, rfl, hB0, ⟨0, fun _ => none, fun _ => none, { row := hh, fp := by simp, fr := by simp, fs := by simp, mapr := hM1.congr (fun _ _ => rfl), maps := hM2.congr (fun _ _ => rfl), som := fun _ => rfl, sls := (fun c s l h => by cases h), inn := (fun d b h => by cases h), inj := (fun d e b h => by cases h), okc := (fun c h => by cases h), oki := (fun c h => by cases h), okr := (fun d c h => by cases h), dom := fun b hb => ?_, hk := Nat.le_refl _, len := (fun c l h => by cases h) }, (fun d h => by cases h)⟩, fun b hb => ?_⟩
  · simp only [World.size_alloc]
    split at hb
    · omega
    · split at hb
      · omega
      · split at hb
        · omega
        · exact absurd rfl hb
  · simp only
    rw [if_neg (by omega), if_neg (by omega), if_neg (by omega)]
def RemP (F : Nat → Nat) (w : World) (p mr ms n K : Nat) (rd : C4 → Option (List C4)) (c : C4) (e : Ending) (w' : World) : Prop :=
  e = .returned (.int .i64 (if (rd c).isSome then 0 else 8)) ∧ ((rd c).isSome = false → Below w.heap.size w w') ∧
    ((rd c).isSome = true → Gr (fun b => F b ≠ 0) w w' ∧ DepI F w' p mr ms (n - 1) K (fun x => if x = c then none else rd x))
set_option maxRecDepth 20000 in
set_option maxHeartbeats 1000000 in
theorem remove47 {F : Nat → Nat} (w : World) {p mr ms n K : Nat} {rd : C4 → Option (List C4)} (h : DepI F w p mr ms n K rd) (c : C4) (hsr : ∀ l, rd c = some l → l.Nodup) (hc : c.ok) :
    Calls Try.prog 28 #[.pointer (some ⟨p, 0, none⟩), c.v] w (RemP F w p mr ms n K rd c) := by
  have HSR := Lib.hid hsr
  obtain ⟨c1, c2, c3, c4⟩ := c
  have H := Lib.hid h
  have HC := Lib.hid hc
  have hB := (Below.refl w.heap.size w).alloc (Nat.le_refl _) (.cells #[.int .i64 c1, .int .i64 c2, .int .i64 c3, .int .i64 c4] 38)
  have hkb := heap_alloc_new w (.cells #[.int .i64 c1, .int .i64 c2, .int .i64 c3, .int .i64 c4] 38)
  have h' := h.below hB
  have HF0 := Lib.hid (show F w.heap.size = 0 from by
    obtain ⟨k, sl, ib, hD, -⟩ := h
    by_cases e : F w.heap.size = 0
    · exact e
    · have := hD.dom _ e; omega)
  have HB := Lib.hid hB
  have HKB := Lib.hid hkb
  obtain ⟨k, sl, ib, hD, hne⟩ := h'
  have HNE := Lib.hid hne
  have HD := Lib.hid hD
  have hC0 : Cells [(⟨p, 0, none⟩, .map (some mr)), (⟨w.heap.size, 0, none⟩, .int .i64 c1), (⟨w.heap.size, 1, none⟩, .int .i64 c2), (⟨w.heap.size, 2, none⟩, .int .i64 c3), (⟨w.heap.size, 3, none⟩, .int .i64 c4)] (w.alloc (.cells #[.int .i64 c1, .int .i64 c2, .int .i64 c3, .int .i64 c4] 38)) := ⟨blk_cell hD.row 0, blk_cell hkb 0, blk_cell hkb 1, blk_cell hkb 2, blk_cell hkb 3, trivial⟩
  obtain ⟨rb, hrb⟩ : ∃ rb, (rd ⟨c1, c2, c3, c4⟩).isSome = rb := ⟨_, rfl⟩
  have HRB := Lib.hid hrb
  obtain ⟨ra, rc, hrv, -, -⟩ := hD.rdR ⟨c1, c2, c3, c4⟩
  obtain ⟨rl, hrl⟩ : ∃ rl, ((rd ⟨c1, c2, c3, c4⟩).getD []).length = rl := ⟨_, rfl⟩
  rw [hrl] at hrv
  have HRV := Lib.hid hrv
  clear hB hkb hc hsr h hD hne hrv hrl hrb
  unfold C4.v
  simp only
  go_enter Try.func28, Try.ntmps28
  go_upto_region 3 with fail
  generalize World.alloc _ _ = w1 at *
  refine wp_region_T (Cells [(⟨p, 0, none⟩, .map (some mr)), (⟨w.heap.size, 0, none⟩, .int .i64 c1), (⟨w.heap.size, 1, none⟩, .int .i64 c2), (⟨w.heap.size, 2, none⟩, .int .i64 c3), (⟨w.heap.size, 3, none⟩, .int .i64 c4)]) (fun _ => false) (by kernel_rfl) ?_
  have hSss1 := Cells.drew hC0
  have hB_0_s1 : Below w1.heap.size w1 w1.drew := below_drew _
  generalize w1.drew = s1 at hSss1 hB_0_s1 ⊢
  have hB_s1_s1 := Below.refl s1.heap.size s1
  refine wpAnyT_pure (i := 0) (v := ?_) rfl (by kernel_rfl) (by kernel_rfl) (by kernel_rfl) (fun _ _ _ h => h) (by rfl) ?_ ?_
  rotate_left
  · intro w; go_simp; try with_reducible rfl
  simp only [Act.put, rgA, rgB, rgC, rgD, rgE, rgF]
  refine wpAnyT_pure (i := 1) (v := ?_) rfl (by kernel_rfl) (by kernel_rfl) (by kernel_rfl) (fun _ _ _ h => h) (by rfl) ?_ ?_
  rotate_left
  · intro w; go_simp; try with_reducible rfl
  simp only [Act.put, rgA, rgB, rgC, rgD, rgE, rgF]
  refine wpAnyT_pure (i := 2) (v := ?_) rfl (by kernel_rfl) (by kernel_rfl) (by kernel_rfl) (fun _ _ _ h => h) (by rfl) ?_ ?_
  rotate_left
  · intro w; go_simp; try with_reducible rfl
  simp only [Act.put, rgA, rgB, rgC, rgD, rgE, rgF]
  refine wpAnyT_loadW (i := 3) (v := ?_) rfl (by kernel_rfl) (by kernel_rfl) (by kernel_rfl) (by kernel_rfl) (by kernel_rfl) (fun _ _ _ h => h) (Or.inl ⟨by rfl, ?_⟩) hSss1 ?_
  rotate_left
  · intro w hSw; obtain ⟨e0, e1, e2, e3, e4, -⟩ := hSw; go_simp; try with_reducible rfl
  simp only [Act.put, rgA, rgB, rgC, rgD, rgE, rgF]
  refine wpAnyT_loadW (i := 4) (v := ?_) rfl (by kernel_rfl) (by kernel_rfl) (by kernel_rfl) (by kernel_rfl) (by kernel_rfl) (fun _ _ _ h => h) (Or.inl ⟨by rfl, ?_⟩) hSss1 ?_
  rotate_left
  · intro w hSw; obtain ⟨e0, e1, e2, e3, e4, -⟩ := hSw; go_simp; try with_reducible rfl
  simp only [Act.put, rgA, rgB, rgC, rgD, rgE, rgF]
  refine wpAnyT_one (i := 5) (by kernel_rfl) rfl (by rfl) ?_
  have hlk := (HD.out.below (hB_0_s1.trans ((hB_s1_s1).mono (hB_0_s1).size))).lookR2 ⟨c1, c2, c3, c4⟩ HC.out
  rw [HRV.out, HRB.out] at hlk
  change Sem.run Try.prog (Instr.lookup 59 (.map (some mr)) (.agg #[.int .i64 c1, .int .i64 c2, .int .i64 c3, .int .i64 c4]) true) s1 = _ at hlk
  refine wp_value (v := .tuple #[.slice ra rl rc, .bool rb]) (w' := s1) (by go_simp) ?_
  clear hlk
  refine ⟨fun _ h => h, ?_⟩
  try simp only [Act.put, rgA, rgB, rgC, rgD, rgE, rgF]
  refine wpAnyT_pure (i := 6) (v := ?_) rfl (by kernel_rfl) (by kernel_rfl) (by kernel_rfl) (fun _ _ _ h => h) (by rfl) ?_ ?_
  rotate_left
  · intro w; go_simp; try with_reducible rfl
  simp only [Act.put, rgA, rgB, rgC, rgD, rgE, rgF]
  refine wpAnyT_pure (i := 7) (v := ?_) rfl (by kernel_rfl) (by kernel_rfl) (by kernel_rfl) (fun _ _ _ h => h) (by rfl) ?_ ?_
  rotate_left
  · intro w; go_simp; try with_reducible rfl
  simp only [Act.put, rgA, rgB, rgC, rgD, rgE, rgF]
  refine wpAnyT_pure (i := 8) (v := ?_) rfl (by kernel_rfl) (by kernel_rfl) (by kernel_rfl) (fun _ _ _ h => h) (by rfl) ?_ ?_
  rotate_left
  · intro w; go_simp; try with_reducible rfl
  simp only [Act.put, rgA, rgB, rgC, rgD, rgE, rgF]
  refine wpAnyT_pure (i := 9) (v := ?_) rfl (by kernel_rfl) (by kernel_rfl) (by kernel_rfl) (fun _ _ _ h => h) (by rfl) ?_ ?_
  rotate_left
  · intro w; go_simp; try with_reducible rfl
  simp only [Act.put, rgA, rgB, rgC, rgD, rgE, rgF]
  refine wpAnyT_pure (i := 10) (v := ?_) rfl (by kernel_rfl) (by kernel_rfl) (by kernel_rfl) (fun _ _ _ h => h) (by rfl) ?_ ?_
  rotate_left
  · intro w; go_simp; try with_reducible rfl
  simp only [Act.put, rgA, rgB, rgC, rgD, rgE, rgF]
  refine wpAnyT_done (by kernel_rfl) ?_ _
  have hbP : Below w1.heap.size w1 s1 := hB_0_s1.trans ((hB_s1_s1).mono (hB_0_s1).size)
  obtain ⟨w4, rfl⟩ : ∃ x, x = s1 := ⟨_, rfl⟩
  have HB4 := Lib.hid hbP
  clear hbP hC0
  have HW4 := Lib.hid (below_step HB.out HB4.out)
  have HKB4 := Lib.hid ((HB4.out.block _ (blk_lt HKB.out)).trans HKB.out)
  have HD4 := Lib.hid (HD.out.below HB4.out)
  have H4 := Lib.hid (show DepI F w4 p mr ms n K rd from ⟨k, sl, ib, HD4.out, HNE.out⟩)
  have HFG := Lib.hid (forget47 w4 H4.out ⟨c1, c2, c3, c4⟩ HSR.out HC.out)
  unfold C4.v at HFG
  simp only at HFG
  cases rb with
  | false =>
    go_wp2_with fail
    go_ret
    unfold RemP
    rw [HRB.out]
    exact ⟨rfl, fun _ => HW4.out, fun h => by cases h⟩
  | true =>
    have k0 := blk_cell HKB4.out 0
    have k1 := blk_cell HKB4.out 1
    have k2 := blk_cell HKB4.out 2
    have k3 := blk_cell HKB4.out 3
    simp only [List.getElem?_toArray, List.getElem?_cons_zero, List.getElem?_cons_succ] at k0 k1 k2 k3
    go_wp2_with (go_at_call 50; refine HFG.out.mono ?_; rintro e w5 ⟨rfl, hG5, hI5⟩; have HG5 := Lib.hid hG5; have HI5 := Lib.hid hI5; clear hG5 hI5 k0 k1 k2 k3)
    go_ret
    unfold RemP
    have hI := HI5.out
    rw [HRB.out] at hI ⊢
    exact ⟨rfl, (fun h => by cases h), fun _ => ⟨(Gr.of_below (F := fun b => F b ≠ 0) HW4.out).trans HG5.out (fun x e => .inl e), hI⟩⟩
/-- Reads: a copy of what is read. -/
def ReadsP (w : World) (l : List C4) (e : Ending) (w' : World) : Prop :=
  ∃ v, e = .returned v ∧ SlC w.heap.size w' v l ∧ Below w.heap.size w w'
set_option maxRecDepth 20000 in
set_option maxHeartbeats 1000000 in
theorem reads47 {F : Nat → Nat} (w : World) {p mr ms n K : Nat} {rd : C4 → Option (List C4)} (h : DepI F w p mr ms n K rd) (c : C4) (hc : c.ok) :
    Calls Try.prog 17 #[.pointer (some ⟨p, 0, none⟩), c.v] w (ReadsP w ((rd c).getD [])) := by
  obtain ⟨c1, c2, c3, c4⟩ := c
  have H := Lib.hid h
  have HC := Lib.hid hc
  have hB := (Below.refl w.heap.size w).alloc (Nat.le_refl _) (.cells #[.int .i64 c1, .int .i64 c2, .int .i64 c3, .int .i64 c4] 38)
  have hkb := heap_alloc_new w (.cells #[.int .i64 c1, .int .i64 c2, .int .i64 c3, .int .i64 c4] 38)
  have h' := h.below hB
  have HF0 := Lib.hid (show F w.heap.size = 0 from by
    obtain ⟨k, sl, ib, hD, -⟩ := h
    by_cases e : F w.heap.size = 0
    · exact e
    · have := hD.dom _ e; omega)
  have HB := Lib.hid hB
  have HKB := Lib.hid hkb
  obtain ⟨k, sl, ib, hD, hne⟩ := h'
  have HNE := Lib.hid hne
  have HD := Lib.hid hD
  have hC0 : Cells [(⟨p, 0, none⟩, .map (some mr)), (⟨w.heap.size, 0, none⟩, .int .i64 c1), (⟨w.heap.size, 1, none⟩, .int .i64 c2), (⟨w.heap.size, 2, none⟩, .int .i64 c3), (⟨w.heap.size, 3, none⟩, .int .i64 c4)] (w.alloc (.cells #[.int .i64 c1, .int .i64 c2, .int .i64 c3, .int .i64 c4] 38)) := ⟨blk_cell hD.row 0, blk_cell hkb 0, blk_cell hkb 1, blk_cell hkb 2, blk_cell hkb 3, trivial⟩
  obtain ⟨ra, rc, hrv, hrx, hrl⟩ := hD.rdR ⟨c1, c2, c3, c4⟩
  obtain ⟨l, hl⟩ : ∃ l, (rd ⟨c1, c2, c3, c4⟩).getD [] = l := ⟨_, rfl⟩
  rw [hl] at hrv hrx hrl ⊢
  rw [hrv] at hrx
  have HRV := Lib.hid hrv
  have HRX := Lib.hid hrx
  have HRL := Lib.hid hrl
  clear hB hkb hc h hD hne hrv hrl hrx
  unfold C4.v
  simp only
  go_enter Try.func17, Try.ntmps17
  go_upto_region 3 with fail
  generalize World.alloc _ _ = w1 at *
  refine wp_region_T (Cells [(⟨p, 0, none⟩, .map (some mr)), (⟨w.heap.size, 0, none⟩, .int .i64 c1), (⟨w.heap.size, 1, none⟩, .int .i64 c2), (⟨w.heap.size, 2, none⟩, .int .i64 c3), (⟨w.heap.size, 3, none⟩, .int .i64 c4)]) (fun _ => false) (by kernel_rfl) ?_
  have hSss2 := Cells.drew hC0
  have hB_0_s2 : Below w1.heap.size w1 w1.drew := below_drew _
  generalize w1.drew = s2 at hSss2 hB_0_s2 ⊢
  have hB_s2_s2 := Below.refl s2.heap.size s2
  refine wpAnyT_pure (i := 0) (v := ?_) rfl (by kernel_rfl) (by kernel_rfl) (by kernel_rfl) (fun _ _ _ h => h) (by rfl) ?_ ?_
  rotate_left
  · intro w; go_simp; try with_reducible rfl
  simp only [Act.put, rgA, rgB, rgC, rgD, rgE, rgF]
  refine wpAnyT_pure (i := 1) (v := ?_) rfl (by kernel_rfl) (by kernel_rfl) (by kernel_rfl) (fun _ _ _ h => h) (by rfl) ?_ ?_
  rotate_left
  · intro w; go_simp; try with_reducible rfl
  simp only [Act.put, rgA, rgB, rgC, rgD, rgE, rgF]
  refine wpAnyT_pure (i := 2) (v := ?_) rfl (by kernel_rfl) (by kernel_rfl) (by kernel_rfl) (fun _ _ _ h => h) (by rfl) ?_ ?_
  rotate_left
  · intro w; go_simp; try with_reducible rfl
  simp only [Act.put, rgA, rgB, rgC, rgD, rgE, rgF]
  refine wpAnyT_loadW (i := 3) (v := ?_) rfl (by kernel_rfl) (by kernel_rfl) (by kernel_rfl) (by kernel_rfl) (by kernel_rfl) (fun _ _ _ h => h) (Or.inl ⟨by rfl, ?_⟩) hSss2 ?_
  rotate_left
  · intro w hSw; obtain ⟨e0, e1, e2, e3, e4, -⟩ := hSw; go_simp; try with_reducible rfl
  simp only [Act.put, rgA, rgB, rgC, rgD, rgE, rgF]
  refine wpAnyT_loadW (i := 4) (v := ?_) rfl (by kernel_rfl) (by kernel_rfl) (by kernel_rfl) (by kernel_rfl) (by kernel_rfl) (fun _ _ _ h => h) (Or.inl ⟨by rfl, ?_⟩) hSss2 ?_
  rotate_left
  · intro w hSw; obtain ⟨e0, e1, e2, e3, e4, -⟩ := hSw; go_simp; try with_reducible rfl
  simp only [Act.put, rgA, rgB, rgC, rgD, rgE, rgF]
  refine wpAnyT_one (i := 5) (by kernel_rfl) rfl (by rfl) ?_
  have hlk := (HD.out.below (hB_0_s2.trans ((hB_s2_s2).mono (hB_0_s2).size))).lookR ⟨c1, c2, c3, c4⟩ HC.out
  rw [HRV.out] at hlk
  change Sem.run Try.prog (Instr.lookup 59 (.map (some mr)) (.agg #[.int .i64 c1, .int .i64 c2, .int .i64 c3, .int .i64 c4]) false) s2 = _ at hlk
  refine wp_value (v := .slice ra l.length rc) (w' := s2) (by go_simp) ?_
  clear hlk
  refine ⟨fun _ h => h, ?_⟩
  try simp only [Act.put, rgA, rgB, rgC, rgD, rgE, rgF]
  refine wpAnyT_one (i := 6) (by kernel_rfl) rfl (by rfl) ?_
  have hbP : Below w1.heap.size w1 s2 := hB_0_s2.trans ((hB_s2_s2).mono (hB_0_s2).size)
  refine wp_enter (f := 37) (args := #[.slice ra l.length rc]) (by go_simp) (clone47 s2 ra l.length rc (l.map C4.d) (HRX.out.below hbP (fun b e => HD.out.dom b (by rw [e]; decide))) (fun b e => Nat.lt_of_lt_of_le (HD.out.dom b (by rw [e]; decide)) hbP.size) (by have := HRL.out; omega)) ?_
  rintro e w103 ⟨v6, rfl, hX, O6⟩
  have hsz6 : w.heap.size ≤ s2.heap.size := (below_step HB.out hbP).size
  have hS6 := (SlC.of_owns O6).mono hsz6
  have HS6 := Lib.hid hS6
  clear O6 hS6 hbP hsz6
  have hB_s2_w103 := below_step hB_s2_s2 hX
  have hB_w103_w103 := Below.refl w103.heap.size w103
  have hSsw103 := Cells.below hB_s2_w103 hSss2
  clear hX
  refine ⟨_, rfl, fun _ _ => hSsw103, ?_⟩
  try simp only [Act.put, rgA, rgB, rgC, rgD, rgE, rgF]
  refine wpAnyT_pure (i := 7) (v := ?_) rfl (by kernel_rfl) (by kernel_rfl) (by kernel_rfl) (fun _ _ _ h => h) (by rfl) ?_ ?_
  rotate_left
  · intro w; go_simp; try with_reducible rfl
  simp only [Act.put, rgA, rgB, rgC, rgD, rgE, rgF]
  refine wpAnyT_done (by kernel_rfl) ?_ _
  have hbP : Below w1.heap.size w1 w103 := hB_0_s2.trans ((hB_s2_w103).mono (hB_0_s2).size)
  have HB4 := Lib.hid (below_step HB.out hbP)
  have HS7 := Lib.hid (HS6.out.below hB_w103_w103)
  clear hbP hC0
  go_wp2_with fail
  go_ret
  exact ⟨_, rfl, HS7.out, HB4.out⟩
end Go.Proofs.Ytoimbhdjhhmonaa

/- Layer 47: Cells. -/
set_option linter.unusedSimpArgs false
namespace Go.Proofs.Ytoimbhdjhhmonaa
open Go.RowKit Go

set_option maxRecDepth 50000 in
theorem keyOf_inv47 (key : Value) (kl : Lit) (h : keyOf Try.prog 38 key = some kl) : ∃ x, cellK.ok x ∧ key = cellK.v x ∧ kl = cellK.l x := cell_inv h
theorem slE_v (u : Value) (y : DataW Unit × List MemPlace) (h : slE.R u = some y) : ∃ c, u = slE.v c := slE_val u y h
theorem mapE_v (u : Value) (y : DataW Unit × List MemPlace) (h : mapE.R u = some y) : ∃ c, u = mapE.v c := mapE_val u y h
theorem setF_step {α : Type} (P0 : C4 → Bool) (f : C4 → Option α) (left : C4 → Bool) (x : C4) (c : α) (hx : f x = some c) (y : C4) :
    setF (fun y => P0 y || ((f y).isSome && !(left y && !decide (y = x)))) y = if y = x then some true else setF (fun y => P0 y || ((f y).isSome && !left y)) y := by
  unfold setF
  by_cases e : y = x
  · subst e; simp [hx]
  · simp [e]
theorem setF_eq {s t : C4 → Bool} {x : C4} (h : s x = t x) : setF s x = setF t x := by unfold setF; rw [h]
theorem setF_isSome (s : C4 → Bool) (x : C4) : (setF s x).isSome = s x := by
  unfold setF
  by_cases h : s x = true
  · simp [h]
  · simp [h]
theorem setF_start {α : Type} (P0 : C4 → Bool) (f : C4 → Option α) (x : C4) : setF (fun y => P0 y || ((f y).isSome && !(f y).isSome)) x = setF P0 x := by
  refine setF_eq ?_
  show (P0 x || ((f x).isSome && !(f x).isSome)) = P0 x
  cases f x <;> cases P0 x <;> rfl
/-- What Cells hands back. -/
def CellsP (w : World) (N : Nat) (rd : C4 → Option (List C4)) (e : Ending) (w' : World) : Prop :=
  ∃ v ys, e = .returned v ∧ Srt ys ∧ (∀ x ∈ ys, x.ok) ∧ (∀ x : C4, x.ok → (x ∈ ys ↔ (rd x).isSome = true ∨ ∃ y, rsOf rd x y = true)) ∧ ys.length ≤ N ∧ SlC w.heap.size w' v ys ∧ Below w.heap.size w w'
set_option maxRecDepth 20000 in
set_option maxHeartbeats 2000000 in
theorem cells47 {F : Nat → Nat} (w : World) {p mr ms n K : Nat} {rd : C4 → Option (List C4)} (h : DepI F w p mr ms n K rd) (hK : n + K ≤ 1000000) :
    Calls Try.prog 16 #[.pointer (some ⟨p, 0, none⟩)] w (CellsP w (n + K) rd) := by
  obtain ⟨k, sl, ib, hD, hne⟩ := h
  have hmm := fun w => @run_makeMap Try.prog w
  have HNN := Lib.hid hK
  have HD := Lib.hid hD
  have HNE := Lib.hid hne
  have hB1 := (Below.refl w.heap.size w).alloc (Nat.le_refl _) (.map #[] 0)
  have hD1 := hD.below hB1
  have HB1 := Lib.hid hB1
  have HD1 := Lib.hid hD1
  have HLTm := Lib.hid (show mr < w.heap.size ∧ ms < w.heap.size from ⟨hD.dom _ (by rw [hD.fr]; decide), hD.dom _ (by rw [hD.fs]; decide)⟩)
  have HM1 := Lib.hid (MapG.made (Ks := cellK) (Es := boolE) w)
  have y0 := blk_cell hD1.row 0
  simp only [List.getElem?_toArray, List.getElem?_cons_zero, List.getElem?_cons_succ] at y0
  have HSZ1 := Lib.hid (show (w.alloc (.map #[] 0)).heap.size = w.heap.size + 1 from by simp)
  clear hD hne hB1 hD1 hK
  go_enter Try.func16, Try.ntmps16
  go_upto_region 4 with fail
  generalize w.alloc (.map #[] 0) = w1 at *
  go_wp2_with (at_range; go_must (refine wpList_rangeG (Ks := cellK) (Es := slE) rfl _ rfl Try.underlying59 rfl HD1.out.mapr ?_); intro w2 hrg0 hg0 hs0)
  go_frame
  have HB2 := Lib.hid (show Below w.heap.size w w2 from HB1.out.grown hg0 (HB1.out.size) (fun c hc => by cases hc))
  have HM2 := Lib.hid (show MapG cellK boolE w2 w.heap.size 0 (setF (fun x => false || ((sl x).isSome && !(sl x).isSome))) from (HM1.out.gr (Gr.of_grown hg0) (fun e => by cases e)).congr (fun x _ => setF_start (fun _ => false) sl x))
  have HRG := Lib.hid hrg0
  obtain ⟨r1, hr1⟩ : ∃ r1, w1.heap.size = r1 := ⟨_, rfl⟩
  rw [hr1] at HRG
  rw [hr1]
  have hsz1 : w.heap.size < r1 := by have := HSZ1.out; omega
  clear hrg0 hg0 hs0 y0 hr1
  go_loopw [4] (fun _ wr => ∃ (left : C4 → Bool) (cnt m0 : Nat), RgG cellK slE wr mr r1 n sl left cnt ∧ MapG cellK boolE wr w.heap.size m0 (setF (fun x => false || ((sl x).isSome && !left x))) ∧ m0 + cnt ≤ n ∧ Below w.heap.size w wr) (fun _ wr => wr.rangeLeft mr r1)
  case atStart => exact ⟨_, _, 0, HRG.out, HM2.out, by omega, HB2.out⟩
  obtain ⟨left, cnt, m0, hrg, hmr, hcn, hBr⟩ := hrel
  have HRGr := Lib.hid hrg
  have HMr := Lib.hid hmr
  have HCN := Lib.hid hcn
  have HBr := Lib.hid hBr
  clear hrg hmr hcn hBr HRG HM2 HB2
  go_wp2_with (first | (at_next; go_must (refine wpList_nextG rfl _ rfl rfl HRGr.out keyOf_inv47 (fun x y => C4.v_inj) slE_v ?_ ?_)) | go_in)
  · intro hl0
    have HMs := Lib.hid (HMr.out.congr (g := setF (fun x => (sl x).isSome)) (fun x hx => setF_eq (by
      show (sl x).isSome = (false || ((sl x).isSome && !left x))
      rw [hl0 x hx]; cases (sl x).isSome <;> rfl)))
    have HMl := Lib.hid (show m0 ≤ n from by have := HCN.out; omega)
    have HDr := Lib.hid (HD.out.below HBr.out)
    have y1 := blk_cell HDr.out.row 1
    simp only [List.getElem?_toArray, List.getElem?_cons_zero, List.getElem?_cons_succ] at y1
    have hszr : w.heap.size + 1 < wr.heap.size := by have := HRGr.out.lt; omega
    clear hl0
    go_wp2_with (at_range; go_must (refine wpList_rangeG (Ks := cellK) (Es := mapE) rfl _ rfl Try.underlying60 rfl HDr.out.maps ?_); intro w5 hrg0 hg0 hs0)
    go_frame
    have HB5 := Lib.hid (show Below w.heap.size w w5 from HBr.out.grown hg0 (HBr.out.size) (fun c hc => by cases hc))
    have HM5 := Lib.hid (show MapG cellK boolE w5 w.heap.size m0 (setF (fun x => (sl x).isSome || ((Option.map some (ib x)).isSome && !(Option.map some (ib x)).isSome))) from (HMs.out.gr (Gr.of_grown hg0) (fun e => by cases e)).congr (fun x _ => setF_start (fun x => (sl x).isSome) (fun d => Option.map some (ib d)) x))
    have HRG := Lib.hid hrg0
    obtain ⟨rb, hrb⟩ : ∃ rb, wr.heap.size = rb := ⟨_, rfl⟩
    rw [hrb] at HRG hszr
    rw [hrb]
    have HNk := Lib.hid (show n + k ≤ 1000000 from by have := HNN.out; have := HD.out.hk; omega)
    have HNN := HNk
    clear hrg0 hg0 hs0 y1 hrb HMs HMr HCN HRGr HDr
    obtain ⟨m5, hm5⟩ : ∃ m5, m0 = m5 := ⟨_, rfl⟩
    rw [hm5] at HM5 HMl
    clear hm5 HBr
    go_loopw [5] (fun _ wr => ∃ (left : C4 → Bool) (cnt m0 : Nat), RgG cellK mapE wr ms rb k (fun d => Option.map some (ib d)) left cnt ∧ MapG cellK boolE wr w.heap.size m0 (setF (fun x => (sl x).isSome || ((Option.map some (ib x)).isSome && !left x))) ∧ m0 + cnt ≤ n + k ∧ Below w.heap.size w wr) (fun _ wr => wr.rangeLeft ms rb)
    case atStart => exact ⟨_, _, m5, HRG.out, HM5.out, by have := HMl.out; omega, HB5.out⟩
    obtain ⟨left, cnt, m0, hrg, hmr, hcn, hBr⟩ := hrel
    have HRGr := Lib.hid hrg
    have HMr := Lib.hid hmr
    have HCN := Lib.hid hcn
    have HBr := Lib.hid hBr
    clear hrg hmr hcn hBr HRG HM5 HB5
    go_wp2_with (first | (at_next; go_must (refine wpList_nextG rfl _ rfl rfl HRGr.out keyOf_inv47 (fun x y => C4.v_inj) mapE_v ?_ ?_)) | go_in)
    · intro hl0
      have HMs := Lib.hid (HMr.out.congr (g := setF (fun x => (sl x).isSome || (ib x).isSome)) (fun x hx => setF_eq (by
        show ((sl x).isSome || (ib x).isSome) = ((sl x).isSome || ((Option.map some (ib x)).isSome && !left x))
        rw [hl0 x hx]; cases (sl x).isSome <;> cases ib x <;> rfl)))
      have HO := Lib.hid (ordered47 wr w.heap.size m0 _ HMs.out (by have := HCN.out; have := HNN.out; omega))
      clear hl0
      go_wp2_with fail
      refine HO.out.mono ?_
      rintro e w9 ⟨v, ys, rfl, h2, h3, h4, h5, h6, h7⟩
      obtain ⟨va, vc, rfl⟩ := h6.form
      have HZ := Lib.hid (And.intro h2 (And.intro h3 (And.intro h4 (And.intro h5 (And.intro h6 h7)))))
      clear h2 h3 h4 h5 h6 h7
      go_wp2_with fail
      go_ret
      obtain ⟨h2, h3, h4, h5, h6, h7⟩ := HZ.out
      refine ⟨_, ys, rfl, h2, h3, fun x hx => ?_, ?_, h6.mono HBr.out.size, below_step HBr.out h7⟩
      · rw [h4 x hx]
        rw [setF_isSome, ← HD.out.som x]
        cases hs : (sl x).isSome with
        | true => simp
        | false =>
          cases hi : (ib x).isSome with
          | true => simp [HNE.out x hi]
          | false =>
            simp
            intro y
            cases hy : rsOf rd x y with
            | false => rfl
            | true =>
              have := (HD.out.okr x y hy).1
              rw [hi] at this
              cases this
      · have := HCN.out; have := HD.out.hk; omega
    · intro x c wx cnt2 hok fa hfa hfc hleft hrg2 hlt hg2 hs2 hen
      have hfx : Option.map some (ib x) = some c := by rw [hfa, ← hfc]; rfl
      clear hfa hfc
      obtain ⟨x1, x2, x3, x4⟩ := x
      simp only [cellK, slE, mapE] at hen ⊢
      unfold C4.v at hen ⊢
      simp only at hen ⊢
      have hBr2 : Below w.heap.size w wx := HBr.out.grown hg2 HBr.out.size (fun c hc => by have := Option.some.inj hc; have := hszr; omega)
      have hm2 : MapG cellK boolE wx w.heap.size m0 _ := HMr.out.gr (Gr.of_grown hg2) (fun e => by have := Option.some.inj e; have := hszr; omega)
      have hBa := (Below.refl wx.heap.size wx).alloc (Nat.le_refl _) (.cells #[.int .i64 x1, .int .i64 x2, .int .i64 x3, .int .i64 x4] 38)
      have hqb := heap_alloc_new wx (.cells #[.int .i64 x1, .int .i64 x2, .int .i64 x3, .int .i64 x4] 38)
      have hm3 := hm2.below hBa
      have hrg3 := hrg2.below hBa
      have HBr3 := Lib.hid (below_step hBr2 hBa)
      have HM3 := Lib.hid hm3
      have HRG3 := Lib.hid hrg3
      have HX := Lib.hid hok
      have HFX := Lib.hid hfx
      have HLT := Lib.hid hlt
      have k0 := blk_cell hqb 0
      have k1 := blk_cell hqb 1
      have k2 := blk_cell hqb 2
      have k3 := blk_cell hqb 3
      simp only [List.getElem?_toArray, List.getElem?_cons_zero, List.getElem?_cons_succ] at k0 k1 k2 k3
      clear hBr2 hm2 hBa hm3 hrg3 hrg2 hg2 hlt hok hfx hqb hleft hs2
      go_upto_region 11 with fail
      generalize World.alloc _ _ = wa at *
      obtain ⟨wb, hrun, hM4, hT⟩ := HM3.out.store Try.underlying57 (by have := HCN.out; have := HNN.out; simp [maxLen]; omega) ⟨x1, x2, x3, x4⟩ HX.out true trivial
      change Sem.run Try.prog (Instr.mapUpdate 57 (.map (some w.heap.size)) (.agg #[.int .i64 x1, .int .i64 x2, .int .i64 x3, .int .i64 x4]) (.bool true)) wa = _ at hrun
      have HRG4 := Lib.hid (HRG3.out.gr (Gr.of_turned hT) (fun e => by have := HLTm.out; omega) (fun e => by have := hszr; omega))
      have HB4 := Lib.hid (HBr3.out.trans ((Gr.of_turned hT).below (fun b e => by omega) (HBr3.out.size)))
      have HM4 := Lib.hid (hM4.congr (fun y _ => setF_step _ _ left ⟨x1, x2, x3, x4⟩ _ HFX.out y))
      clear hT hM4
      go_wp2_with fail
      go_roundw
      case rel =>
        refine ⟨_, cnt2, _, HRG4.out, HM4.out, ?_, HB4.out⟩
        have := HLT.out
        have := HCN.out
        split <;> omega
      case measure => rw [HRG4.out.left_eq, HRGr.out.left_eq]; exact HLT.out
  · intro x c wx cnt2 hok hfx hleft hrg2 hlt hg2 hs2 hen
    obtain ⟨x1, x2, x3, x4⟩ := x
    simp only [cellK, slE, mapE] at hen ⊢
    unfold C4.v at hen ⊢
    simp only at hen ⊢
    have hBr2 : Below w.heap.size w wx := HBr.out.grown hg2 HBr.out.size (fun c hc => by have := Option.some.inj hc; have := hsz1; omega)
    have hm2 : MapG cellK boolE wx w.heap.size m0 _ := HMr.out.gr (Gr.of_grown hg2) (fun e => by have := Option.some.inj e; have := hsz1; omega)
    have hBa := (Below.refl wx.heap.size wx).alloc (Nat.le_refl _) (.cells #[.int .i64 x1, .int .i64 x2, .int .i64 x3, .int .i64 x4] 38)
    have hqb := heap_alloc_new wx (.cells #[.int .i64 x1, .int .i64 x2, .int .i64 x3, .int .i64 x4] 38)
    have hm3 := hm2.below hBa
    have hrg3 := hrg2.below hBa
    have HBr3 := Lib.hid (below_step hBr2 hBa)
    have HM3 := Lib.hid hm3
    have HRG3 := Lib.hid hrg3
    have HX := Lib.hid hok
    have HFX := Lib.hid hfx
    have HLT := Lib.hid hlt
    have k0 := blk_cell hqb 0
    have k1 := blk_cell hqb 1
    have k2 := blk_cell hqb 2
    have k3 := blk_cell hqb 3
    simp only [List.getElem?_toArray, List.getElem?_cons_zero, List.getElem?_cons_succ] at k0 k1 k2 k3
    clear hBr2 hm2 hBa hm3 hrg3 hrg2 hg2 hlt hok hfx hqb hleft hs2
    go_upto_region 7 with fail
    generalize World.alloc _ _ = wa at *
    obtain ⟨wb, hrun, hM4, hT⟩ := HM3.out.store Try.underlying57 (by have := HCN.out; have := HNN.out; simp [maxLen]; omega) ⟨x1, x2, x3, x4⟩ HX.out true trivial
    change Sem.run Try.prog (Instr.mapUpdate 57 (.map (some w.heap.size)) (.agg #[.int .i64 x1, .int .i64 x2, .int .i64 x3, .int .i64 x4]) (.bool true)) wa = _ at hrun
    have HRG4 := Lib.hid (HRG3.out.gr (Gr.of_turned hT) (fun e => by have := HLTm.out; omega) (fun e => by have := hsz1; omega))
    have HB4 := Lib.hid (HBr3.out.trans ((Gr.of_turned hT).below (fun b e => by omega) (HBr3.out.size)))
    have HM4 := Lib.hid (hM4.congr (fun y _ => setF_step _ _ left ⟨x1, x2, x3, x4⟩ _ HFX.out y))
    clear hT hM4
    go_wp2_with fail
    go_roundw
    case rel =>
      refine ⟨_, cnt2, _, HRG4.out, HM4.out, ?_, HB4.out⟩
      have := HLT.out
      have := HCN.out
      split <;> omega
    case measure => rw [HRG4.out.left_eq, HRGr.out.left_eq]; exact HLT.out
end Go.Proofs.Ytoimbhdjhhmonaa

/- Layer 47: what visit does, in plain words, and the contract. -/
set_option linter.unusedSimpArgs false
namespace Go.Proofs.Ytoimbhdjhhmonaa
open Go.RowKit Go

/-- x depends on c, over one or more readers. -/
inductive Rch (rs : C4 → C4 → Bool) : C4 → C4 → Prop
  | one {c x : C4} : rs c x = true → Rch rs c x
  | step {c y x : C4} : Rch rs c y → rs y x = true → Rch rs c x
theorem Rch.head {rs : C4 → C4 → Bool} {c d x : C4} (h : rs c d = true) (k : Rch rs d x) : Rch rs c x := by
  induction k with
  | one h' => exact .step (.one h) h'
  | step _ h' ih => exact .step ih h'
/-- How many of U are not visited yet. -/
def fr (U : List C4) (vis : C4 → Bool) : Nat := (U.filter (fun x => !vis x)).length
theorem fr_lt {vis : C4 → Bool} {d : C4} (hv : vis d = false) : ∀ {U : List C4}, d ∈ U → fr U (fun x => vis x || decide (x = d)) < fr U vis := by
  have hle : ∀ U : List C4, fr U (fun x => vis x || decide (x = d)) ≤ fr U vis := fun U => by
    unfold fr
    induction U with
    | nil => simp
    | cons a l ih =>
      rw [List.filter_cons, List.filter_cons]
      cases hva : vis a <;> by_cases e : a = d <;> simp [hva, e] <;> (try omega) <;> (try (simp at ih; omega))
  intro U hd
  induction U with
  | nil => cases hd
  | cons a l ih =>
    by_cases e : a = d
    · subst e
      have := hle l
      unfold fr at this ⊢
      rw [List.filter_cons, List.filter_cons]
      simp [hv] at this ⊢
      omega
    · have h1 := ih ((List.mem_cons.1 hd).resolve_left (fun h => e h.symm))
      unfold fr at h1 ⊢
      rw [List.filter_cons, List.filter_cons]
      cases hva : vis a <;> simp [hva, e] at h1 ⊢ <;> omega
/-- The boxes of visit. -/
structure VisAt (w : World) (p gB sB vB sb : Nat) : Prop where
  g : w.heap[gB]? = some (.cells #[.pointer (some ⟨p, 0, none⟩)] 26 (0, 0))
  s : w.heap[sB]? = some (.cells #[.map (some sb)] 57 (0, 0))
  v : w.heap[vB]? = some (.cells #[.func (.func 34) #[] #[.pointer (some ⟨gB, 0, none⟩), .pointer (some ⟨sB, 0, none⟩), .pointer (some ⟨vB, 0, none⟩)]] 58 (0, 0))
  ng : gB ≠ sb
  ns : sB ≠ sb
  nv : vB ≠ sb
theorem VisAt.gr {w w' : World} {p gB sB vB sb : Nat} (h : VisAt w p gB sB vB sb) (hg : Gr (fun b => b = sb) w w') : VisAt w' p gB sB vB sb :=
  ⟨blk_gr hg h.g h.ng, blk_gr hg h.s h.ns, blk_gr hg h.v h.nv, h.ng, h.ns, h.nv⟩
theorem VisAt.below {w w' : World} {p gB sB vB sb : Nat} (h : VisAt w p gB sB vB sb) (hB : Below w.heap.size w w') : VisAt w' p gB sB vB sb := h.gr (Gr.of_below hB)
/-- What visit leaves. -/
def VisP (rs : C4 → C4 → Bool) (U : List C4) (N sb : Nat) (c : C4) (vis : C4 → Bool) (w : World) (e : Ending) (w' : World) : Prop :=
  e = .returned (.tuple #[]) ∧ Gr (fun b => b = sb) w w' ∧ ∃ m vis', MapG cellK boolE w' sb m (setF vis') ∧ m + fr U vis' ≤ N ∧ (∀ x, vis x = true → vis' x = true) ∧ (∀ d, rs c d = true → vis' d = true) ∧
    ∀ x, vis' x = true → vis x = false → Rch rs c x ∧ ∀ d, rs x d = true → vis' d = true
/-- visit's contract, for fewer than n cells that are not visited yet. -/
def VisC (F : Nat → Nat) (p mr ms nn K : Nat) (rd : C4 → Option (List C4)) (U : List C4) (N gB sB vB sb : Nat) (n : Nat) : Prop :=
  ∀ (w : World) (c : C4) (vis : C4 → Bool) (m : Nat), c.ok → DepI F w p mr ms nn K rd → VisAt w p gB sB vB sb → MapG cellK boolE w sb m (setF vis) → m + fr U vis ≤ N → fr U vis < n →
    Calls Try.prog 34 #[c.v, .pointer (some ⟨gB, 0, none⟩), .pointer (some ⟨sB, 0, none⟩), .pointer (some ⟨vB, 0, none⟩)] w (VisP (rsOf rd) U N sb c vis w)
theorem wp_rangeG1 {P : Program} {k e t : TypeId} {κ α : Type} {Ks : KeyS P k κ} {Es : ElS P e α} {f : κ → Option α} {o : Oper} {a : Act} {w : World} {K : Act → World → Prop} {Q : Exit → Act → World → Prop} {b m : Nat} (m0 : Operand) (hop : o.op = Op.range t m0) (ht : P.underlying t = some (.map k e)) (hm : a.eval m0 = .map (some b)) (h : MapG Ks Es w b m f)
    (hK : ∀ w', RgG Ks Es w' b w.heap.size m f (fun x => (f x).isSome) m → w.grownBy w' none → w'.heap.size = w.heap.size + 1 → K (a.put o.dst (.pointer (some ⟨w.heap.size, 0, none⟩))) w') : o.wp P a w K Q := by
  obtain ⟨D, hD, hsz, hf⟩ := h
  obtain ⟨w', hrun, r1, r2, r3⟩ := hD.range Ks.K ht
  unfold Oper.wp
  simp [execOp, hop, hm, hrun, Result.andThen]
  rw [hsz] at r1
  exact hK w' ⟨D, _, r1, hsz, hf, fun x hx => (hf x hx).1⟩ r2 r3
end Go.Proofs.Ytoimbhdjhhmonaa

/- Layer 47: visit. -/
set_option linter.unusedSimpArgs false
namespace Go.Proofs.Ytoimbhdjhhmonaa
open Go.RowKit Go

theorem wp_rangeG2 {P : Program} {k e t : TypeId} {κ α : Type} {Ks : KeyS P k κ} {Es : ElS P e α} {f : κ → Option α} {o : Oper} {a : Act} {w : World} {K : Act → World → Prop} {Q : Exit → Act → World → Prop} {b m r : Nat} (m0 : Operand) (hop : o.op = Op.range t m0) (ht : P.underlying t = some (.map k e)) (hm : a.eval m0 = .map (some b)) (h : MapG Ks Es w b m f) (hr : w.heap.size = r)
    (hK : ∀ w', RgG Ks Es w' b r m f (fun x => (f x).isSome) m → w.grownBy w' none → w'.heap.size = r + 1 → K (a.put o.dst (.pointer (some ⟨r, 0, none⟩))) w') : o.wp P a w K Q := by
  subst hr
  exact wp_rangeG1 m0 hop ht hm h hK
theorem wp_rangeN {P : Program} {k e t : TypeId} {o : Oper} {a : Act} {w : World} {K : Act → World → Prop} {Q : Exit → Act → World → Prop} {r : Nat} (m0 : Operand) (hop : o.op = Op.range t m0) (ht : P.underlying t = some (.map k e)) (hm : a.eval m0 = .map none) (hr : w.heap.size = r)
    (hK : ∀ w', Below w.heap.size w w' → (∀ ty, (Instr.next (.pointer (some ⟨r, 0, none⟩)) false ty).run P w' = .ok (.tuple #[.bool false]) w') → K (a.put o.dst (.pointer (some ⟨r, 0, none⟩))) w') : o.wp P a w K Q := by
  subst hr
  have hrun := run_range_nilMap (P := P) w t k e ht
  unfold Oper.wp
  simp [execOp, hop, hm, hrun, Result.andThen]
  exact hK _ ((Below.refl _ w).alloc (Nat.le_refl _) _) (fun ty => run_next_nilMap w ty 0 0 #[])
theorem boolE_v (u : Value) (y : DataW Unit × List MemPlace) (h : boolE.R u = some y) : ∃ c, u = boolE.v c := boolE_val u y h
theorem setF_some {s : C4 → Bool} {x : C4} {c : Bool} (h : setF s x = some c) : s x = true := by
  unfold setF at h
  by_cases e : s x = true
  · exact e
  · rw [if_neg e] at h; cases h
theorem setF_add (s : C4 → Bool) (x y : C4) : setF (fun y => s y || decide (y = x)) y = if y = x then some true else setF s y := by
  unfold setF
  by_cases e : y = x
  · simp [e]
  · simp [e]
theorem fr_mono {a b : C4 → Bool} (h : ∀ x, a x = true → b x = true) (U : List C4) : fr U b ≤ fr U a := by
  unfold fr
  induction U with
  | nil => simp
  | cons x l ih =>
    rw [List.filter_cons, List.filter_cons]
    cases ha : a x with
    | true => simp [h x ha]; exact ih
    | false => cases hb : b x <;> simp <;> omega
theorem wpList_nextS {s : C4 → Bool} {w : World} {b r m cnt : Nat} {left : C4 → Bool} {ops : Array Oper} {rest : List Oper} {o : Oper} {a : Act} {Q : Exit → Act → World → Prop} (hg : o.guard = none) (it : Operand) (hop : o.op = Op.next it false) (hit : a.eval it = .pointer (some ⟨r, 0, none⟩)) (h : RgG cellK boolE w b r m (setF s) left cnt)
    (hDone : (∀ x : C4, x.ok → left x = false) → wpList Try.prog ops Q rest (a.put o.dst (.tuple #[.bool false])) w)
    (hMore : ∀ (x : C4) (w' : World) (cnt' : Nat), x.ok → s x = true → left x = true → RgG cellK boolE w' b r m (setF s) (fun z => left z && !decide (z = x)) cnt' → cnt' < cnt →
      w.grownBy w' (some r) → w'.heap.size = w.heap.size → Sem.run Try.prog (Instr.entry (.pointer (some ⟨r, 0, none⟩))) w' = .ok (.tuple #[x.v, .bool true]) w' → wpList Try.prog ops Q rest (a.put o.dst (.tuple #[.bool true, x.v, .bool true])) w') :
    wpList Try.prog ops Q (o :: rest) a w := by
  refine wpList_nextG hg it hop hit h keyOf_inv47 (fun x y => C4.v_inj) boolE_v hDone ?_
  intro x c w' cnt' h1 h2 h3 h4 h5 h6 h7 h8
  have hs := setF_some h2
  unfold setF at h2
  rw [if_pos hs] at h2
  cases h2
  exact hMore x w' cnt' h1 hs h3 h4 h5 h6 h7 h8
set_option maxRecDepth 20000 in
set_option maxHeartbeats 2000000 in
theorem visit_step {F : Nat → Nat} {p mr ms nn K : Nat} {rd : C4 → Option (List C4)} {U : List C4} {N gB sB vB sb : Nat} (hFs : F sb = 0) (hU : ∀ c d, rsOf rd c d = true → d ∈ U) (hNN : N ≤ 1000000) (n : Nat) (IH : VisC F p mr ms nn K rd U N gB sB vB sb n) : VisC F p mr ms nn K rd U N gB sB vB sb (n + 1) := by
  intro w c vis m hc hI hV hM hN hfr
  have HIH := Lib.hid IH
  have HU := Lib.hid hU
  have HFS := Lib.hid hFs
  have HNN := Lib.hid hNN
  obtain ⟨c1, c2, c3, c4⟩ := c
  have HI := Lib.hid hI
  have HC := Lib.hid hc
  have HV := Lib.hid hV
  have HM := Lib.hid hM
  have HN := Lib.hid hN
  have HFR := Lib.hid hfr
  have hB := (Below.refl w.heap.size w).alloc (Nat.le_refl _) (.cells #[.int .i64 c1, .int .i64 c2, .int .i64 c3, .int .i64 c4] 38)
  have hkb := heap_alloc_new w (.cells #[.int .i64 c1, .int .i64 c2, .int .i64 c3, .int .i64 c4] 38)
  have h' := hI.below hB
  have hV1 := hV.below hB
  have HB := Lib.hid hB
  obtain ⟨k, sl, ib, hD, hne⟩ := h'
  have HD := Lib.hid hD
  have hC0 : Cells [(⟨gB, 0, none⟩, .pointer (some ⟨p, 0, none⟩)), (⟨p, 1, none⟩, .map (some ms)), (⟨w.heap.size, 0, none⟩, .int .i64 c1), (⟨w.heap.size, 1, none⟩, .int .i64 c2), (⟨w.heap.size, 2, none⟩, .int .i64 c3), (⟨w.heap.size, 3, none⟩, .int .i64 c4)] (w.alloc (.cells #[.int .i64 c1, .int .i64 c2, .int .i64 c3, .int .i64 c4] 38)) := ⟨blk_cell hV1.g 0, blk_cell hD.row 1, blk_cell hkb 0, blk_cell hkb 1, blk_cell hkb 2, blk_cell hkb 3, trivial⟩
  obtain ⟨iq, hiq⟩ : ∃ iq, ib ⟨c1, c2, c3, c4⟩ = iq := ⟨_, rfl⟩
  have HIB := Lib.hid hiq
  clear hB hkb hc hI hV hM hN hfr hV1 hD hne hiq IH hU hFs hNN
  unfold C4.v
  simp only
  go_enter Try.func34, Try.ntmps34
  go_upto_region 1 with fail
  generalize World.alloc _ _ = w1 at *
  cases iq with
  | none =>
    refine wp_region_T (Cells [(⟨gB, 0, none⟩, .pointer (some ⟨p, 0, none⟩)), (⟨p, 1, none⟩, .map (some ms)), (⟨w.heap.size, 0, none⟩, .int .i64 c1), (⟨w.heap.size, 1, none⟩, .int .i64 c2), (⟨w.heap.size, 2, none⟩, .int .i64 c3), (⟨w.heap.size, 3, none⟩, .int .i64 c4)]) (fun i => i == 6) (by kernel_rfl) ?_
    have hSss1 := Cells.drew hC0
    have hB_0_s1 : Below w1.heap.size w1 w1.drew := below_drew _
    generalize w1.drew = s1 at hSss1 hB_0_s1 ⊢
    have hB_s1_s1 := Below.refl s1.heap.size s1
    refine wpAnyT_loadW (i := 0) (v := ?_) rfl (by kernel_rfl) (by kernel_rfl) (by kernel_rfl) (by kernel_rfl) (by kernel_rfl) (fun _ _ _ h => h) (Or.inl ⟨by rfl, ?_⟩) hSss1 ?_
    rotate_left
    · intro w hSw; obtain ⟨e0, e1, e2, e3, e4, e5, -⟩ := hSw; go_simp; try with_reducible rfl
    simp only [Act.put, rgA, rgB, rgC, rgD, rgE, rgF]
    refine wpAnyT_pure (i := 1) (v := ?_) rfl (by kernel_rfl) (by kernel_rfl) (by kernel_rfl) (fun _ _ _ h => h) (by rfl) ?_ ?_
    rotate_left
    · intro w; go_simp; try with_reducible rfl
    simp only [Act.put, rgA, rgB, rgC, rgD, rgE, rgF]
    refine wpAnyT_pure (i := 2) (v := ?_) rfl (by kernel_rfl) (by kernel_rfl) (by kernel_rfl) (fun _ _ _ h => h) (by rfl) ?_ ?_
    rotate_left
    · intro w; go_simp; try with_reducible rfl
    simp only [Act.put, rgA, rgB, rgC, rgD, rgE, rgF]
    refine wpAnyT_loadW (i := 3) (v := ?_) rfl (by kernel_rfl) (by kernel_rfl) (by kernel_rfl) (by kernel_rfl) (by kernel_rfl) (fun _ _ _ h => h) (Or.inl ⟨by rfl, ?_⟩) hSss1 ?_
    rotate_left
    · intro w hSw; obtain ⟨e0, e1, e2, e3, e4, e5, -⟩ := hSw; go_simp; try with_reducible rfl
    simp only [Act.put, rgA, rgB, rgC, rgD, rgE, rgF]
    refine wpAnyT_loadW (i := 4) (v := ?_) rfl (by kernel_rfl) (by kernel_rfl) (by kernel_rfl) (by kernel_rfl) (by kernel_rfl) (fun _ _ _ h => h) (Or.inl ⟨by rfl, ?_⟩) hSss1 ?_
    rotate_left
    · intro w hSw; obtain ⟨e0, e1, e2, e3, e4, e5, -⟩ := hSw; go_simp; try with_reducible rfl
    simp only [Act.put, rgA, rgB, rgC, rgD, rgE, rgF]
    refine wpAnyT_one (i := 5) (by kernel_rfl) rfl (by rfl) ?_
    have hlk := (HD.out.below (hB_0_s1.trans ((hB_s1_s1).mono (hB_0_s1).size))).lookS ⟨c1, c2, c3, c4⟩ HC.out
    rw [HIB.out] at hlk
    change Sem.run Try.prog (Instr.lookup 60 (.map (some ms)) (.agg #[.int .i64 c1, .int .i64 c2, .int .i64 c3, .int .i64 c4]) false) s1 = _ at hlk
    refine wp_value (v := .map none) (w' := s1) (by go_simp) ?_
    clear hlk
    refine ⟨fun _ h => h, ?_⟩
    try simp only [Act.put, rgA, rgB, rgC, rgD, rgE, rgF]
    refine wpAnyT_one (i := 6) (by kernel_rfl) rfl (by rfl) ?_
    have hbP : Below w1.heap.size w1 s1 := hB_0_s1.trans ((hB_s1_s1).mono (hB_0_s1).size)
    obtain ⟨r0, hr0⟩ : ∃ r0, s1.heap.size = r0 := ⟨_, rfl⟩
    refine wp_rangeN (.tmp 11) rfl Try.underlying57 (by kernel_rfl) hr0 ?_
    intro w102 hN1 hnx
    have hbN : Below w1.heap.size w1 w102 := hbP.trans (hN1.mono hbP.size)
    clear hN1 hbP hr0
    refine ⟨fun h => absurd h (by decide), ?_⟩
    try simp only [Act.put, rgA, rgB, rgC, rgD, rgE, rgF]
    refine wpAnyT_done (by kernel_rfl) ?_ _
    obtain ⟨w2, rfl⟩ : ∃ x, x = w102 := ⟨_, rfl⟩
    have HBN := Lib.hid (below_step HB.out hbN)
    clear hbN hC0
    have HNO := Lib.hid (show ∀ d, rsOf rd ⟨c1, c2, c3, c4⟩ d = true → vis d = true from fun d hd => by
      have h1 := (HD.out.okr _ d hd).1
      rw [HIB.out] at h1
      cases h1)
    go_wp2_with fail
    go_loopw [5] (fun _ wr => wr = w2) (fun _ _ => 0)
    case atStart => rfl
    subst hrel
    go_wp2_with fail
    go_end0
    exact ⟨rfl, Gr.of_below HBN.out, m, vis, HM.out.below HBN.out, HN.out, fun x h => h, HNO.out, fun x h h' => by rw [h] at h'; cases h'⟩
  | some b =>
    obtain ⟨-, cn, hcn, hbm⟩ := HD.out.inn _ _ HIB.out
    have HBM := Lib.hid hbm
    have HBF := Lib.hid (show F b ≠ 0 from by rw [(HD.out.inn _ _ HIB.out).1]; decide)
    clear hbm hcn
    refine wp_region_T (Cells [(⟨gB, 0, none⟩, .pointer (some ⟨p, 0, none⟩)), (⟨p, 1, none⟩, .map (some ms)), (⟨w.heap.size, 0, none⟩, .int .i64 c1), (⟨w.heap.size, 1, none⟩, .int .i64 c2), (⟨w.heap.size, 2, none⟩, .int .i64 c3), (⟨w.heap.size, 3, none⟩, .int .i64 c4)]) (fun i => i == 6) (by kernel_rfl) ?_
    have hSss3 := Cells.drew hC0
    have hB_0_s3 : Below w1.heap.size w1 w1.drew := below_drew _
    generalize w1.drew = s3 at hSss3 hB_0_s3 ⊢
    have hB_s3_s3 := Below.refl s3.heap.size s3
    refine wpAnyT_loadW (i := 0) (v := ?_) rfl (by kernel_rfl) (by kernel_rfl) (by kernel_rfl) (by kernel_rfl) (by kernel_rfl) (fun _ _ _ h => h) (Or.inl ⟨by rfl, ?_⟩) hSss3 ?_
    rotate_left
    · intro w hSw; obtain ⟨e0, e1, e2, e3, e4, e5, -⟩ := hSw; go_simp; try with_reducible rfl
    simp only [Act.put, rgA, rgB, rgC, rgD, rgE, rgF]
    refine wpAnyT_pure (i := 1) (v := ?_) rfl (by kernel_rfl) (by kernel_rfl) (by kernel_rfl) (fun _ _ _ h => h) (by rfl) ?_ ?_
    rotate_left
    · intro w; go_simp; try with_reducible rfl
    simp only [Act.put, rgA, rgB, rgC, rgD, rgE, rgF]
    refine wpAnyT_pure (i := 2) (v := ?_) rfl (by kernel_rfl) (by kernel_rfl) (by kernel_rfl) (fun _ _ _ h => h) (by rfl) ?_ ?_
    rotate_left
    · intro w; go_simp; try with_reducible rfl
    simp only [Act.put, rgA, rgB, rgC, rgD, rgE, rgF]
    refine wpAnyT_loadW (i := 3) (v := ?_) rfl (by kernel_rfl) (by kernel_rfl) (by kernel_rfl) (by kernel_rfl) (by kernel_rfl) (fun _ _ _ h => h) (Or.inl ⟨by rfl, ?_⟩) hSss3 ?_
    rotate_left
    · intro w hSw; obtain ⟨e0, e1, e2, e3, e4, e5, -⟩ := hSw; go_simp; try with_reducible rfl
    simp only [Act.put, rgA, rgB, rgC, rgD, rgE, rgF]
    refine wpAnyT_loadW (i := 4) (v := ?_) rfl (by kernel_rfl) (by kernel_rfl) (by kernel_rfl) (by kernel_rfl) (by kernel_rfl) (fun _ _ _ h => h) (Or.inl ⟨by rfl, ?_⟩) hSss3 ?_
    rotate_left
    · intro w hSw; obtain ⟨e0, e1, e2, e3, e4, e5, -⟩ := hSw; go_simp; try with_reducible rfl
    simp only [Act.put, rgA, rgB, rgC, rgD, rgE, rgF]
    refine wpAnyT_one (i := 5) (by kernel_rfl) rfl (by rfl) ?_
    have hlk := (HD.out.below (hB_0_s3.trans ((hB_s3_s3).mono (hB_0_s3).size))).lookS ⟨c1, c2, c3, c4⟩ HC.out
    rw [HIB.out] at hlk
    change Sem.run Try.prog (Instr.lookup 60 (.map (some ms)) (.agg #[.int .i64 c1, .int .i64 c2, .int .i64 c3, .int .i64 c4]) false) s3 = _ at hlk
    refine wp_value (v := .map (some b)) (w' := s3) (by go_simp) ?_
    clear hlk
    refine ⟨fun _ h => h, ?_⟩
    try simp only [Act.put, rgA, rgB, rgC, rgD, rgE, rgF]
    refine wpAnyT_one (i := 6) (by kernel_rfl) rfl (by rfl) ?_
    have hbP : Below w1.heap.size w1 s3 := hB_0_s3.trans ((hB_s3_s3).mono (hB_0_s3).size)
    obtain ⟨r0, hr0⟩ : ∃ r0, s3.heap.size = r0 := ⟨_, rfl⟩
    have hwr0 : w1.heap.size ≤ r0 := hr0 ▸ hbP.size
    refine wp_rangeG2 (Ks := cellK) (Es := boolE) (.tmp 11) rfl Try.underlying57 (by kernel_rfl) (HBM.out.below hbP) hr0 ?_
    intro w104 hrg0 hg0 hs0
    have hbN : Below w1.heap.size w1 w104 := hbP.grown hg0 hbP.size (fun c hc => by cases hc)
    clear hg0 hbP hr0
    refine ⟨fun h => absurd h (by decide), ?_⟩
    try simp only [Act.put, rgA, rgB, rgC, rgD, rgE, rgF]
    refine wpAnyT_done (by kernel_rfl) ?_ _
    obtain ⟨w2, rfl⟩ : ∃ x, x = w104 := ⟨_, rfl⟩
    have HRG := Lib.hid hrg0
    have HBN := Lib.hid (below_step HB.out hbN)
    have HW0 := Lib.hid (show w.heap.size ≤ r0 from Nat.le_trans HB.out.size hwr0)
    clear hrg0 hbN hs0 hC0 hwr0
    have hsbw : sb < w.heap.size := HM.out.lt
    have HSB := Lib.hid hsbw
    have HBb := Lib.hid (show b ≠ sb ∧ b < w.heap.size from ⟨fun e => HBF.out (e ▸ HFS.out), by
      obtain ⟨k', sl', ib', hD', -⟩ := HI.out
      exact hD'.dom b HBF.out⟩)
    have HCOK := Lib.hid (show ∀ d, rsOf rd ⟨c1, c2, c3, c4⟩ d = true → d.ok from fun d hd => (HD.out.okr _ d hd).2)
    have hr0 := HW0.out
    go_wp2_with fail
    go_loopw [5] (fun _ wr => ∃ (left : C4 → Bool) (cnt : Nat) (visj : C4 → Bool) (mj : Nat), RgG cellK boolE wr b r0 cn (setF (rsOf rd ⟨c1, c2, c3, c4⟩)) left cnt ∧ MapG cellK boolE wr sb mj (setF visj) ∧ mj + fr U visj ≤ N ∧ fr U visj ≤ fr U vis ∧ (∀ x, vis x = true → visj x = true) ∧ (∀ d, rsOf rd ⟨c1, c2, c3, c4⟩ d = true → left d = false → visj d = true) ∧ (∀ x, visj x = true → vis x = false → Rch (rsOf rd) ⟨c1, c2, c3, c4⟩ x ∧ ∀ d, rsOf rd x d = true → visj d = true) ∧ Gr (fun b => b = sb) w wr) (fun _ wr => wr.rangeLeft b r0)
    case atStart =>
      exact ⟨_, _, vis, m, HRG.out, HM.out.below HBN.out, HN.out, Nat.le_refl _, fun x h => h, (fun d hd hl => by rw [setF_isSome, hd] at hl; cases hl), (fun x h h' => by rw [h] at h'; cases h'), Gr.of_below HBN.out⟩
    obtain ⟨left, cnt, visj, mj, hrg, hmj, hmN, hfj, hmono, hleft, hnew, hG⟩ := hrel
    have HRGr := Lib.hid hrg
    have HMJ := Lib.hid hmj
    have HMN := Lib.hid hmN
    have HFJ := Lib.hid hfj
    have HMO := Lib.hid hmono
    have HLF := Lib.hid hleft
    have HNW := Lib.hid hnew
    have HG := Lib.hid hG
    clear hrg hmj hmN hfj hmono hleft hnew hG HRG hsbw
    go_wp2_with (first | (at_next; go_must (refine wpList_nextS rfl _ rfl rfl HRGr.out ?_ ?_)) | go_in)
    · intro hl0
      have HALL := Lib.hid (show ∀ d, rsOf rd ⟨c1, c2, c3, c4⟩ d = true → visj d = true from fun d hd => HLF.out d hd (hl0 d (HCOK.out d hd)))
      clear hl0
      go_wp2_with fail
      go_end0
      exact ⟨rfl, HG.out, mj, visj, HMJ.out, HMN.out, HMO.out, HALL.out, HNW.out⟩
    · intro x wx cnt2 hok hfx hlx hrg2 hlt hg2 hs2 hen
      obtain ⟨x1, x2, x3, x4⟩ := x
      unfold C4.v at hen ⊢
      simp only at hen ⊢
      have hGx : Gr (fun b => b = sb) w wx := HG.out.trans (Gr.of_grown hg2) (fun y e => .inr (by have := Option.some.inj e; omega))
      have hmx := HMJ.out.gr (Gr.of_grown hg2) (fun e => by have := Option.some.inj e; have := HSB.out; omega)
      have hBa := (Below.refl wx.heap.size wx).alloc (Nat.le_refl _) (.cells #[.int .i64 x1, .int .i64 x2, .int .i64 x3, .int .i64 x4] 38)
      have hqb := heap_alloc_new wx (.cells #[.int .i64 x1, .int .i64 x2, .int .i64 x3, .int .i64 x4] 38)
      have HGa := Lib.hid (hGx.step hBa)
      have HMa := Lib.hid (hmx.below hBa)
      have HRGa := Lib.hid (hrg2.below hBa)
      have HVa := Lib.hid (HV.out.gr (hGx.step hBa))
      have HX := Lib.hid hok
      have HFX := Lib.hid hfx
      have HLT := Lib.hid hlt
      have HQB := Lib.hid hqb
      have HXS := Lib.hid (show sb < wx.heap.size from Nat.lt_of_lt_of_le HSB.out hGx.size)
      have HR0 := Lib.hid (show r0 ≠ sb from by have := HSB.out; omega)
      have y0 := blk_cell HVa.out.s 0
      have k0 := blk_cell hqb 0
      have k1 := blk_cell hqb 1
      have k2 := blk_cell hqb 2
      have k3 := blk_cell hqb 3
      simp only [List.getElem?_toArray, List.getElem?_cons_zero, List.getElem?_cons_succ] at k0 k1 k2 k3 y0
      clear hGx hmx hBa hqb hok hfx hlx hrg2 hlt hg2 hs2
      go_upto_region 4 with fail
      generalize World.alloc _ _ = wa at *
      obtain ⟨vx, hvx⟩ : ∃ vx, visj ⟨x1, x2, x3, x4⟩ = vx := ⟨_, rfl⟩
      have HVX := Lib.hid hvx
      have hlk : Sem.run Try.prog (Instr.lookup 57 (.map (some sb)) (.agg #[.int .i64 x1, .int .i64 x2, .int .i64 x3, .int .i64 x4]) false) wa = .ok (.bool vx) wa := by
        have := HMa.out.look1 Try.underlying57 ⟨x1, x2, x3, x4⟩ HX.out
        refine Eq.trans this ?_
        subst hvx
        unfold setF
        cases visj ⟨x1, x2, x3, x4⟩ <;> rfl
      clear hvx
      cases vx with
      | true =>
        go_wp2_with fail
        go_roundw
        case rel =>
          refine ⟨_, cnt2, visj, mj, HRGa.out, HMa.out, HMN.out, HFJ.out, HMO.out, fun d hd hl => ?_, HNW.out, HGa.out⟩
          by_cases e : d = ⟨x1, x2, x3, x4⟩
          · rw [e]; exact HVX.out
          · exact HLF.out d hd (by simpa [e] using hl)
        case measure => rw [HRGa.out.left_eq, HRGr.out.left_eq]; exact HLT.out
      | false =>
        obtain ⟨wb, hrun, hM4, hT⟩ := HMa.out.store Try.underlying57 (by have := HMN.out; have := HNN.out; simp [maxLen]; omega) ⟨x1, x2, x3, x4⟩ HX.out true trivial
        change Sem.run Try.prog (Instr.mapUpdate 57 (.map (some sb)) (.agg #[.int .i64 x1, .int .i64 x2, .int .i64 x3, .int .i64 x4]) (.bool true)) wa = _ at hrun
        have hfl : fr U (fun y => visj y || decide (y = (⟨x1, x2, x3, x4⟩ : C4))) < fr U visj := fr_lt HVX.out (HU.out _ _ HFX.out)
        have hGb := HGa.out.trans (Gr.of_turned hT) (fun y e => .inl e)
        have hMb := hM4.congr (g := setF (fun y => visj y || decide (y = (⟨x1, x2, x3, x4⟩ : C4)))) (fun y _ => setF_add visj _ y)
        have hmb : (if (setF visj ⟨x1, x2, x3, x4⟩).isSome = true then mj else mj + 1) + fr U (fun y => visj y || decide (y = (⟨x1, x2, x3, x4⟩ : C4))) ≤ N := by
          have := HMN.out
          split <;> omega
        have hqb := blk_gr (Gr.of_turned hT) HQB.out (by have := HXS.out; omega)
        have hrgb := HRGa.out.gr (Gr.of_turned hT) (fun e => HBb.out.1 e) (fun e => HR0.out e)
        have hvb := HV.out.gr hGb
        have hib := HI.out.gr hGb (fun y hy e => hy (e ▸ HFS.out))
        have hih := HIH.out wb ⟨x1, x2, x3, x4⟩ _ _ HX.out hib hvb hMb hmb (by have := HFJ.out; have := HFR.out; omega)
        unfold C4.v at hih
        simp only at hih
        have HIHb := Lib.hid hih
        have HVb := Lib.hid hvb
        have HQb := Lib.hid hqb
        have HRGb := Lib.hid hrgb
        have HGb := Lib.hid hGb
        clear hfl hGb hMb hmb hqb hrgb hvb hib hih hM4 hT
        go_upto_region 6 with fail
        have z0 := blk_cell HVb.out.v 0
        have q0 := blk_cell HQb.out 0
        have q1 := blk_cell HQb.out 1
        have q2 := blk_cell HQb.out 2
        have q3 := blk_cell HQb.out 3
        simp only [List.getElem?_toArray, List.getElem?_cons_zero, List.getElem?_cons_succ] at q0 q1 q2 q3 z0
        clear k0 k1 k2 k3 y0 hlk hrun
        go_wp2_with (go_at_call 34; refine HIHb.out.mono ?_; rintro e wz ⟨rfl, hGz, mz, visz, hMz, hNz, hmo, hrd, hnw⟩; have HGz := Lib.hid hGz; have HMz := Lib.hid hMz; have HNz := Lib.hid hNz; have HMOz := Lib.hid hmo; have HRDz := Lib.hid hrd; have HNWz := Lib.hid hnw; clear hGz hMz hNz hmo hrd hnw z0 q0 q1 q2 q3)
        have HRGz := Lib.hid (HRGb.out.gr HGz.out (fun e => HBb.out.1 e) (fun e => HR0.out e))
        have HMOz' := Lib.hid (show ∀ y, visj y = true → visz y = true from fun y hy => HMOz.out y (by rw [hy]; rfl))
        go_roundw
        case rel =>
          refine ⟨_, cnt2, visz, mz, HRGz.out, HMz.out, HNz.out, fr_mono (fun y hy => HMOz'.out y (HMO.out y hy)) U, fun y hy => HMOz'.out y (HMO.out y hy), fun d hd hl => ?_, fun y hy hy0 => ?_, HGb.out.trans HGz.out (fun y e => .inl e)⟩
          · by_cases e : d = ⟨x1, x2, x3, x4⟩
            · exact HMOz.out d (by simp [e])
            · exact HMOz'.out d (HLF.out d hd (by simpa [e] using hl))
          · by_cases e : y = ⟨x1, x2, x3, x4⟩
            · rw [e]
              exact ⟨.one HFX.out, HRDz.out⟩
            · cases hvj : visj y with
              | true =>
                obtain ⟨h1, h2⟩ := HNW.out y hvj hy0
                exact ⟨h1, fun d hd => HMOz'.out d (h2 d hd)⟩
              | false =>
                obtain ⟨h1, h2⟩ := HNWz.out y hy (by simp [hvj, e])
                exact ⟨Rch.head HFX.out h1, h2⟩
        case measure => rw [HRGz.out.left_eq, HRGr.out.left_eq]; exact HLT.out
end Go.Proofs.Ytoimbhdjhhmonaa
