/- Layer 47: forgetting the reads of a cell. -/
import Derived.Test.YtoimbhdjhhmonaaD47m
set_option linter.unusedSimpArgs false
namespace Go.Proofs.Ytoimbhdjhhmonaa
open Go.RowKit Go

/-- 'delete(m, k)' in a region. -/
theorem wp_delete1 {P : Program} {o : Oper} {a : Act} {w w' : World} {K : Act → World → Prop} {Q : Exit → Act → World → Prop} (m x : Operand) (t k : TypeId) (ho : o.op = .call { callee := .builtin .delete, args := #[m, x], argTypes := #[t, k] }) {mv kv : Value}
    (hm : a.eval m = mv) (hx : a.eval x = kv) (hrun : (Builtin.delete_ #[t, k] o.type #[mv, kv]).run P w = .ok (.tuple #[]) w') (h : K (a.put o.dst (.tuple #[])) w') : o.wp P a w K Q := by
  unfold Oper.wp
  simp [execOp, ho, resolve, invoke, builtin, hm, hx, hrun, Result.andThen]
  exact h
/-- Who reads whom. -/
def rsOf (rd : C4 → Option (List C4)) (d y : C4) : Bool := match rd y with | some l => decide (d ∈ l) | none => false
/-- A graph whose readers are rs, none empty. -/
def DepJ (F : Nat → Nat) (w : World) (p mr ms n K : Nat) (rd : C4 → Option (List C4)) (rs : C4 → C4 → Bool) : Prop :=
  ∃ k sl ib, DepM F w p mr ms n k K sl rd ib rs ∧ ∀ d, (ib d).isSome = true → ∃ y, rs d y = true
def DepI (F : Nat → Nat) (w : World) (p mr ms n K : Nat) (rd : C4 → Option (List C4)) : Prop := DepJ F w p mr ms n K rd (rsOf rd)
section
variable {F : Nat → Nat} {w w' : World} {p mr ms n k K : Nat} {sl : C4 → Option SlV} {rd : C4 → Option (List C4)} {ib : C4 → Option Nat} {rs rs' : C4 → C4 → Bool}
theorem DepJ.gr {G : Nat → Prop} (h : DepJ F w p mr ms n K rd rs) (hg : Gr G w w') (hd : ∀ b, F b ≠ 0 → ¬ G b) : DepJ F w' p mr ms n K rd rs := by
  obtain ⟨k, sl, ib, h1, h2⟩ := h
  exact ⟨k, sl, ib, h1.gr hg hd, h2⟩
theorem DepJ.below (h : DepJ F w p mr ms n K rd rs) (hB : Below w.heap.size w w') : DepJ F w' p mr ms n K rd rs :=
  h.gr (G := fun _ => False) (Gr.of_below hB) (fun _ _ h => h)
theorem DepJ.congr (h : DepJ F w p mr ms n K rd rs) (e : ∀ d y, rs' d y = rs d y) : DepJ F w p mr ms n K rd rs' := by
  have : rs' = rs := funext fun d => funext fun y => e d y
  rw [this]; exact h
theorem DepM.congr (h : DepM F w p mr ms n k K sl rd ib rs) (e : ∀ d y, rs' d y = rs d y) : DepM F w p mr ms n k K sl rd ib rs' := by
  have : rs' = rs := funext fun d => funext fun y => e d y
  rw [this]; exact h
theorem DepM.lookS (h : DepM F w p mr ms n k K sl rd ib rs) (d : C4) (hd : d.ok) : Sem.run Try.prog (Instr.lookup 60 (.map (some ms)) d.v false) w = .ok (.map (ib d)) w := by
  have := h.maps.look1 Try.underlying60 d hd
  refine Eq.trans this ?_
  cases ib d <;> rfl
def slOf (s : Option SlV) : Value := match s with | some s => s.v | none => .slice none 0 0
theorem DepM.lookR (h : DepM F w p mr ms n k K sl rd ib rs) (c : C4) (hc : c.ok) : Sem.run Try.prog (Instr.lookup 59 (.map (some mr)) c.v false) w = .ok (slOf (sl c)) w := by
  have := h.mapr.look1 Try.underlying59 c hc
  refine Eq.trans this ?_
  cases sl c <;> rfl
theorem DepM.lookR2 (h : DepM F w p mr ms n k K sl rd ib rs) (c : C4) (hc : c.ok) : Sem.run Try.prog (Instr.lookup 59 (.map (some mr)) c.v true) w = .ok (.tuple #[slOf (sl c), .bool (rd c).isSome]) w := by
  have := h.mapr.look2 Try.underlying59 c hc
  rw [← h.som c]
  refine Eq.trans this ?_
  cases sl c <;> rfl
/-- The reads of a cell, as they stand. -/
theorem DepM.rdR (h : DepM F w p mr ms n k K sl rd ib rs) (c : C4) : ∃ a cap, slOf (sl c) = .slice a ((rd c).getD []).length cap ∧ Rd (.sl cellT) (fun b => F b = 5) w [slOf (sl c)] (((rd c).getD []).map C4.d) ∧ ((rd c).getD []).length ≤ 200 := by
  have hs := h.som c
  cases hsl : sl c with
  | none =>
    rw [hsl] at hs
    cases hr : rd c with
    | none => exact ⟨none, 0, rfl, ⟨none, 0, 0, rfl, rfl, Nat.le_refl _, by decide, .inl rfl⟩, by simp⟩
    | some l => rw [hr] at hs; cases hs
  | some s =>
    rw [hsl] at hs
    cases hr : rd c with
    | none => rw [hr] at hs; cases hs
    | some l =>
      have hat := h.sls c s l hsl hr
      obtain ⟨a, cap, e⟩ := hat.form
      exact ⟨a, cap, e, hat.rd, h.len c l hr⟩
end
/-- After k reads have been looked at. -/
def rsCut (rd : C4 → Option (List C4)) (c : C4) (l : List C4) (d y : C4) : Bool := rsOf rd d y && !(decide (y = c) && decide (d ∈ l))
theorem rsCut_nil (rd : C4 → Option (List C4)) (c d y : C4) : rsCut rd c [] d y = rsOf rd d y := by simp [rsCut]
theorem rsCut_snoc (rd : C4 → Option (List C4)) (c : C4) (l : List C4) (q d y : C4) : rsCut rd c (l ++ [q]) d y = (rsCut rd c l d y && !(decide (d = q) && decide (y = c))) := by
  unfold rsCut
  rw [Bool.eq_iff_iff]
  simp
  generalize rsOf rd d y = b
  cases b <;> simp
  by_cases e1 : y = c <;> by_cases e2 : d ∈ l <;> by_cases e3 : d = q <;> simp [e1, e2, e3]
theorem rsCut_all (rd : C4 → Option (List C4)) (c d y : C4) : rsCut rd c ((rd c).getD []) d y = rsOf (fun x => if x = c then none else rd x) d y := by
  unfold rsCut rsOf
  by_cases e : y = c
  · subst e
    simp only [if_pos rfl]
    cases rd y <;> simp
  · simp [e]
def ForgetP (F : Nat → Nat) (w : World) (p mr ms n K : Nat) (rd : C4 → Option (List C4)) (c : C4) (e : Ending) (w' : World) : Prop :=
  e = .returned (.tuple #[]) ∧ Gr (fun b => F b ≠ 0) w w' ∧ DepI F w' p mr ms (if (rd c).isSome then n - 1 else n) K (fun x => if x = c then none else rd x)
set_option maxRecDepth 20000 in
set_option maxHeartbeats 4000000 in
theorem forget47 {F : Nat → Nat} (w : World) {p mr ms n K : Nat} {rd : C4 → Option (List C4)} (h : DepI F w p mr ms n K rd) (c : C4) (hsr : ∀ l, rd c = some l → l.Nodup) (hc : c.ok) :
    Calls Try.prog 50 #[.pointer (some ⟨p, 0, none⟩), c.v] w (ForgetP F w p mr ms n K rd c) := by
  obtain ⟨c1, c2, c3, c4⟩ := c
  have H := Lib.hid h
  have HC := Lib.hid hc
  have HSR := Lib.hid (show ((rd ⟨c1, c2, c3, c4⟩).getD []).Nodup from by cases e : rd ⟨c1, c2, c3, c4⟩ with | none => exact .nil | some l => exact hsr l e)
  have hB := (Below.refl w.heap.size w).alloc (Nat.le_refl _) (.cells #[.int .i64 c1, .int .i64 c2, .int .i64 c3, .int .i64 c4] 38)
  have h' := h.below hB
  have hkb := heap_alloc_new w (.cells #[.int .i64 c1, .int .i64 c2, .int .i64 c3, .int .i64 c4] 38)
  have HF0 := Lib.hid (show F w.heap.size = 0 from by
    obtain ⟨k, sl, ib, hD, -⟩ := h
    by_cases e : F w.heap.size = 0
    · exact e
    · have := hD.dom _ e; omega)
  have HB := Lib.hid hB
  have HKB := Lib.hid hkb
  obtain ⟨k, sl, ib, hD, hne⟩ := h'
  have HNE := Lib.hid hne
  have HD := Lib.hid hD
  have hC0 : Cells [(⟨p, 0, none⟩, .map (some mr)), (⟨w.heap.size, 0, none⟩, .int .i64 c1), (⟨w.heap.size, 1, none⟩, .int .i64 c2), (⟨w.heap.size, 2, none⟩, .int .i64 c3), (⟨w.heap.size, 3, none⟩, .int .i64 c4)] (w.alloc (.cells #[.int .i64 c1, .int .i64 c2, .int .i64 c3, .int .i64 c4] 38)) := ⟨blk_cell hD.row 0, blk_cell hkb 0, blk_cell hkb 1, blk_cell hkb 2, blk_cell hkb 3, trivial⟩
  obtain ⟨ra, rc, hrv, hrx, hrl⟩ := hD.rdR ⟨c1, c2, c3, c4⟩
  obtain ⟨l, hl⟩ : ∃ l, (rd ⟨c1, c2, c3, c4⟩).getD [] = l := ⟨_, rfl⟩
  rw [hl] at hrv hrx hrl HSR
  rw [hrv] at hrx
  have HL := Lib.hid hl
  have HRV := Lib.hid hrv
  have HRX := Lib.hid hrx
  have HRL := Lib.hid hrl
  clear h hB hkb hc hsr hD hne hl hrv hrx hrl
  unfold C4.v
  simp only
  go_enter Try.func50, Try.ntmps50
  go_wp2_with fail
  generalize w.alloc (.cells #[.int .i64 c1, .int .i64 c2, .int .i64 c3, .int .i64 c4] 38) = w1 at *
  refine wp_region_T (Cells [(⟨p, 0, none⟩, .map (some mr)), (⟨w.heap.size, 0, none⟩, .int .i64 c1), (⟨w.heap.size, 1, none⟩, .int .i64 c2), (⟨w.heap.size, 2, none⟩, .int .i64 c3), (⟨w.heap.size, 3, none⟩, .int .i64 c4)]) (fun _ => false) (by kernel_rfl) ?_
  have hSss1 := Cells.drew hC0
  have hB_0_s1 : Below w1.heap.size w1 w1.drew := below_drew _
  generalize w1.drew = s1 at hSss1 hB_0_s1 ⊢
  have hB_s1_s1 := Below.refl s1.heap.size s1
  refine wpAnyT_pure (i := 0) (v := ?_) rfl (by kernel_rfl) (by kernel_rfl) (by kernel_rfl) (fun _ _ _ h => h) (by rfl) ?_ ?_
  rotate_left
  · intro w; go_simp; try with_reducible rfl
  simp only [Act.put, rgA, rgB, rgC, rgD, rgE, rgF]
  refine wpAnyT_pure (i := 1) (v := ?_) rfl (by kernel_rfl) (by kernel_rfl) (by kernel_rfl) (fun _ _ _ h => h) (by rfl) ?_ ?_
  rotate_left
  · intro w; go_simp; try with_reducible rfl
  simp only [Act.put, rgA, rgB, rgC, rgD, rgE, rgF]
  refine wpAnyT_pure (i := 2) (v := ?_) rfl (by kernel_rfl) (by kernel_rfl) (by kernel_rfl) (fun _ _ _ h => h) (by rfl) ?_ ?_
  rotate_left
  · intro w; go_simp; try with_reducible rfl
  simp only [Act.put, rgA, rgB, rgC, rgD, rgE, rgF]
  refine wpAnyT_pure (i := 7) (v := ?_) rfl (by kernel_rfl) (by kernel_rfl) (by kernel_rfl) (fun _ _ _ h => h) (by rfl) ?_ ?_
  rotate_left
  · intro w; go_simp; try with_reducible rfl
  simp only [Act.put, rgA, rgB, rgC, rgD, rgE, rgF]
  refine wpAnyT_loadW (i := 3) (v := ?_) rfl (by kernel_rfl) (by kernel_rfl) (by kernel_rfl) (by kernel_rfl) (by kernel_rfl) (fun _ _ _ h => h) (Or.inl ⟨by rfl, ?_⟩) hSss1 ?_
  rotate_left
  · intro w hSw; obtain ⟨e0, e1, e2, e3, e4, -⟩ := hSw; go_simp; try with_reducible rfl
  simp only [Act.put, rgA, rgB, rgC, rgD, rgE, rgF]
  refine wpAnyT_loadW (i := 4) (v := ?_) rfl (by kernel_rfl) (by kernel_rfl) (by kernel_rfl) (by kernel_rfl) (by kernel_rfl) (fun _ _ _ h => h) (Or.inl ⟨by rfl, ?_⟩) hSss1 ?_
  rotate_left
  · intro w hSw; obtain ⟨e0, e1, e2, e3, e4, -⟩ := hSw; go_simp; try with_reducible rfl
  simp only [Act.put, rgA, rgB, rgC, rgD, rgE, rgF]
  refine wpAnyT_one (i := 5) (by kernel_rfl) rfl (by rfl) ?_
  have hlk := (HD.out.below (hB_0_s1.trans ((hB_s1_s1).mono (hB_0_s1).size))).lookR ⟨c1, c2, c3, c4⟩ HC.out
  rw [HRV.out] at hlk
  change Sem.run Try.prog (Instr.lookup 59 (.map (some mr)) (.agg #[.int .i64 c1, .int .i64 c2, .int .i64 c3, .int .i64 c4]) false) s1 = _ at hlk
  refine wp_value (v := .slice ra l.length rc) (w' := s1) (by go_simp) ?_
  clear hlk
  refine ⟨fun _ h => h, ?_⟩
  try simp only [Act.put, rgA, rgB, rgC, rgD, rgE, rgF]
  refine wpAnyT_pure (i := 6) (v := ?_) rfl (by kernel_rfl) (by kernel_rfl) (by kernel_rfl) (fun _ _ _ h => h) (by rfl) ?_ ?_
  rotate_left
  · intro w; go_simp; try with_reducible rfl
  simp only [Act.put, rgA, rgB, rgC, rgD, rgE, rgF]
  refine wpAnyT_done (by kernel_rfl) ?_ _
  have hbP : Below w1.heap.size w1 s1 := hB_0_s1.trans ((hB_s1_s1).mono (hB_0_s1).size)
  obtain ⟨w2, rfl⟩ : ∃ x, x = s1 := ⟨_, rfl⟩
  have HB2 := Lib.hid hbP
  clear hbP hC0
  have H2 := Lib.hid (show DepJ F w2 p mr ms n K rd (rsCut rd ⟨c1, c2, c3, c4⟩ (l.take 0)) from (DepJ.congr ⟨k, sl, ib, HD.out.below HB2.out, HNE.out⟩ (fun d y => by rw [List.take_zero, rsCut_nil])))
  have HKB2 := Lib.hid ((HB2.out.block _ (blk_lt HKB.out)).trans HKB.out)
  have HRX2 := Lib.hid (HRX.out.below HB2.out (fun b e => HD.out.dom b (by rw [e]; decide)))
  have HW2 := Lib.hid (show ∀ b, F b = 5 → b < w2.heap.size from fun b e => Nat.lt_of_lt_of_le (HD.out.dom b (by rw [e]; decide)) HB2.out.size)
  have hl200 := HRL.out
  go_wp2_with fail
  go_loopw [5, 13] (fun _ i wr => ∃ (j : Nat), j ≤ l.length ∧ i = .int .i64 j ∧ DepJ F wr p mr ms n K rd (rsCut rd ⟨c1, c2, c3, c4⟩ (l.take j)) ∧ Gr (fun b => F b = 3 ∨ F b = 4) w2 wr) (fun _ i _ => l.length - (intOf i).toNat)
  case atStart => exact ⟨0, Nat.zero_le _, rfl, H2.out, Gr.refl _ _⟩
  case round =>
    obtain ⟨j, hj, rfl, hJ, hG⟩ := hrel
    have HG := Lib.hid hG
    by_cases hlt : j < l.length
    · have hjI : (j : Int) < (l.length : Int) := by omega
      have hx3 := HRX2.out.gr hG (fun b e => ⟨HW2.out b e, by omega⟩) (fun _ e => e)
      obtain ⟨b, o, rfl, -, m0, m1, m2, m3, hqok⟩ := cell_at hx3 j hlt
      have HTK := Lib.hid (show l.take (j + 1) = l.take j ++ [l[j]] from List.take_succ_eq_append_getElem hlt)
      have hmem : l[j] ∈ l := List.getElem_mem hlt
      have hnot : l[j] ∉ l.take j := fun hm => by
        obtain ⟨i, hi, e⟩ := List.getElem_of_mem hm
        rw [List.getElem_take] at e
        rw [List.length_take] at hi
        have := (List.getElem_inj HSR.out).1 e
        omega
      have hrs : rsCut rd ⟨c1, c2, c3, c4⟩ (l.take j) l[j] ⟨c1, c2, c3, c4⟩ = true := by
        generalize l[j] = q at hmem hnot ⊢
        unfold rsCut rsOf
        have hl := HL.out
        cases hrd : rd ⟨c1, c2, c3, c4⟩ with
        | none => rw [hrd] at hl; rw [← hl] at hmem; cases hmem
        | some l' =>
          rw [hrd] at hl
          have hl : l' = l := hl
          subst hl
          simp [hnot, hmem]
      have HRS := Lib.hid hrs
      have HQ := Lib.hid hqok
      clear hmem hnot hrs hqok hx3 hG
      generalize l[j] = q at m0 m1 m2 m3 HTK HRS HQ
      obtain ⟨k, sl, ib, hD, hne⟩ := hJ
      have HNE3 := Lib.hid hne
      obtain ⟨ibq, hibq⟩ := Option.isSome_iff_exists.1 (hD.okr _ _ HRS.out).1
      obtain ⟨q1, q2, q3, q4⟩ := q
      simp only at m0 m1 m2 m3
      have HIB := Lib.hid hibq
      have HKB3 := Lib.hid (blk_gr HG.out HKB2.out (show ¬ (F w.heap.size = 3 ∨ F w.heap.size = 4) from by rw [HF0.out]; decide))
      have hB3 := (Below.refl wr.heap.size wr).alloc (Nat.le_refl _) (.cells #[.int .i64 q1, .int .i64 q2, .int .i64 q3, .int .i64 q4] 38)
      have hqb := heap_alloc_new wr (.cells #[.int .i64 q1, .int .i64 q2, .int .i64 q3, .int .i64 q4] 38)
      have HF3 := Lib.hid (show F wr.heap.size = 0 from by
        by_cases e : F wr.heap.size = 0
        · exact e
        · have := hD.dom _ e; omega)
      have HD3 := Lib.hid (hD.below hB3)
      have HB3 := Lib.hid hB3
      have HQB := Lib.hid hqb
      have HKB3' := Lib.hid ((hB3.block _ (blk_lt HKB3.out)).trans HKB3.out)
      clear hD hne hibq hB3 hqb
      go_upto_region 4 with fail
      generalize World.alloc _ _ = w3 at *
      have hC3 : Cells [(⟨p, 1, none⟩, .map (some ms)), (⟨w.heap.size, 0, none⟩, .int .i64 c1), (⟨w.heap.size, 1, none⟩, .int .i64 c2), (⟨w.heap.size, 2, none⟩, .int .i64 c3), (⟨w.heap.size, 3, none⟩, .int .i64 c4), (⟨wr.heap.size, 0, none⟩, .int .i64 q1), (⟨wr.heap.size, 1, none⟩, .int .i64 q2), (⟨wr.heap.size, 2, none⟩, .int .i64 q3), (⟨wr.heap.size, 3, none⟩, .int .i64 q4)] w3 := ⟨blk_cell HD3.out.row 1, blk_cell HKB3'.out 0, blk_cell HKB3'.out 1, blk_cell HKB3'.out 2, blk_cell HKB3'.out 3, blk_cell HQB.out 0, blk_cell HQB.out 1, blk_cell HQB.out 2, blk_cell HQB.out 3, trivial⟩
      refine wp_region_T (Cells [(⟨p, 1, none⟩, .map (some ms)), (⟨w.heap.size, 0, none⟩, .int .i64 c1), (⟨w.heap.size, 1, none⟩, .int .i64 c2), (⟨w.heap.size, 2, none⟩, .int .i64 c3), (⟨w.heap.size, 3, none⟩, .int .i64 c4), (⟨wr.heap.size, 0, none⟩, .int .i64 q1), (⟨wr.heap.size, 1, none⟩, .int .i64 q2), (⟨wr.heap.size, 2, none⟩, .int .i64 q3), (⟨wr.heap.size, 3, none⟩, .int .i64 q4)]) (fun i => i == 7) (by kernel_rfl) ?_
      have hSss2 := Cells.drew hC3
      have hB_0_s2 : Below w3.heap.size w3 w3.drew := below_drew _
      generalize w3.drew = s2 at hSss2 hB_0_s2 ⊢
      have hB_s2_s2 := Below.refl s2.heap.size s2
      refine wpAnyT_pure (i := 0) (v := ?_) rfl (by kernel_rfl) (by kernel_rfl) (by kernel_rfl) (fun _ _ _ h => h) (by rfl) ?_ ?_
      rotate_left
      · intro w; go_simp; try with_reducible rfl
      simp only [Act.put, rgA, rgB, rgC, rgD, rgE, rgF]
      refine wpAnyT_pure (i := 1) (v := ?_) rfl (by kernel_rfl) (by kernel_rfl) (by kernel_rfl) (fun _ _ _ h => h) (by rfl) ?_ ?_
      rotate_left
      · intro w; go_simp; try with_reducible rfl
      simp only [Act.put, rgA, rgB, rgC, rgD, rgE, rgF]
      refine wpAnyT_pure (i := 2) (v := ?_) rfl (by kernel_rfl) (by kernel_rfl) (by kernel_rfl) (fun _ _ _ h => h) (by rfl) ?_ ?_
      rotate_left
      · intro w; go_simp; try with_reducible rfl
      simp only [Act.put, rgA, rgB, rgC, rgD, rgE, rgF]
      refine wpAnyT_loadW (i := 3) (v := ?_) rfl (by kernel_rfl) (by kernel_rfl) (by kernel_rfl) (by kernel_rfl) (by kernel_rfl) (fun _ _ _ h => h) (Or.inl ⟨by rfl, ?_⟩) hSss2 ?_
      rotate_left
      · intro w hSw; obtain ⟨e0, e1, e2, e3, e4, e5, e6, e7, e8, -⟩ := hSw; go_simp; try with_reducible rfl
      simp only [Act.put, rgA, rgB, rgC, rgD, rgE, rgF]
      refine wpAnyT_loadW (i := 4) (v := ?_) rfl (by kernel_rfl) (by kernel_rfl) (by kernel_rfl) (by kernel_rfl) (by kernel_rfl) (fun _ _ _ h => h) (Or.inl ⟨by rfl, ?_⟩) hSss2 ?_
      rotate_left
      · intro w hSw; obtain ⟨e0, e1, e2, e3, e4, e5, e6, e7, e8, -⟩ := hSw; go_simp; try with_reducible rfl
      simp only [Act.put, rgA, rgB, rgC, rgD, rgE, rgF]
      refine wpAnyT_loadW (i := 6) (v := ?_) rfl (by kernel_rfl) (by kernel_rfl) (by kernel_rfl) (by kernel_rfl) (by kernel_rfl) (fun _ _ _ h => h) (Or.inl ⟨by rfl, ?_⟩) hSss2 ?_
      rotate_left
      · intro w hSw; obtain ⟨e0, e1, e2, e3, e4, e5, e6, e7, e8, -⟩ := hSw; go_simp; try with_reducible rfl
      simp only [Act.put, rgA, rgB, rgC, rgD, rgE, rgF]
      refine wpAnyT_one (i := 5) (by kernel_rfl) rfl (by rfl) ?_
      have hlk := (HD3.out.below (hB_0_s2.trans ((hB_s2_s2).mono (hB_0_s2).size))).lookS ⟨q1, q2, q3, q4⟩ HQ.out
      rw [HIB.out] at hlk
      change Sem.run Try.prog (Instr.lookup 60 (.map (some ms)) (.agg #[.int .i64 q1, .int .i64 q2, .int .i64 q3, .int .i64 q4]) false) s2 = _ at hlk
      refine wp_value (v := .map (some ibq)) (w' := s2) (by go_simp) ?_
      clear hlk
      refine ⟨fun _ h => h, ?_⟩
      try simp only [Act.put, rgA, rgB, rgC, rgD, rgE, rgF]
      refine wpAnyT_one (i := 7) (by kernel_rfl) rfl (by rfl) ?_
      have hbP : Below w3.heap.size w3 s2 := hB_0_s2.trans ((hB_s2_s2).mono (hB_0_s2).size)
      have hd := fun ty => (HD3.out.below hbP).dropI ⟨q1, q2, q3, q4⟩ ⟨c1, c2, c3, c4⟩ ibq HIB.out HC.out ty
      obtain ⟨w103, hrun, hG4, hD4⟩ := hd _
      refine wp_delete1 (.tmp 22) (.tmp 23) 57 38 rfl (mv := .map (some ibq)) (kv := .agg #[.int .i64 c1, .int .i64 c2, .int .i64 c3, .int .i64 c4]) (by kernel_rfl) (by kernel_rfl) hrun ?_
      have hG34 : Gr (fun b => F b = 3 ∨ F b = 4) w3 w103 := (Gr.of_below hbP).trans hG4 (fun _ h => .inl h)
      clear hrun hd hG4 hbP
      refine ⟨fun h => absurd h (by decide), ?_⟩
      try simp only [Act.put, rgA, rgB, rgC, rgD, rgE, rgF]
      refine wpAnyT_done (by kernel_rfl) ?_ _
      obtain ⟨w4, rfl⟩ : ∃ x, x = w103 := ⟨_, rfl⟩
      have HG34 := Lib.hid hG34
      have HD4 := Lib.hid hD4
      clear hG34 hD4 hC3
      have HQB4 := Lib.hid (blk_gr HG34.out HQB.out (show ¬ (F wr.heap.size = 3 ∨ F wr.heap.size = 4) from by rw [HF3.out]; decide))
      have HG4 := Lib.hid (HG.out.trans ((Gr.of_below HB3.out).trans HG34.out (fun _ h => .inl h)) (fun _ h => .inl h))
      obtain ⟨cnt, hcnt, hmap⟩ := (HD4.out.inn _ _ HIB.out).2
      have HCNT := Lib.hid hcnt
      have HMAP := Lib.hid hmap
      clear hcnt hmap
      have hC4 : Cells [(⟨p, 1, none⟩, .map (some ms)), (⟨wr.heap.size, 0, none⟩, .int .i64 q1), (⟨wr.heap.size, 1, none⟩, .int .i64 q2), (⟨wr.heap.size, 2, none⟩, .int .i64 q3), (⟨wr.heap.size, 3, none⟩, .int .i64 q4)] w4 := ⟨blk_cell HD4.out.row 1, blk_cell HQB4.out 0, blk_cell HQB4.out 1, blk_cell HQB4.out 2, blk_cell HQB4.out 3, trivial⟩
      by_cases hcz : cnt = 0
      · subst hcz
        have HALL := Lib.hid (show ∀ y, rsCut rd ⟨c1, c2, c3, c4⟩ (l.take j ++ [⟨q1, q2, q3, q4⟩]) ⟨q1, q2, q3, q4⟩ y = false from fun y => by
          rw [rsCut_snoc]
          cases e : (rsCut rd ⟨c1, c2, c3, c4⟩ (l.take j) ⟨q1, q2, q3, q4⟩ y && !(decide ((⟨q1, q2, q3, q4⟩ : C4) = ⟨q1, q2, q3, q4⟩) && decide (y = ⟨c1, c2, c3, c4⟩))) with
          | false => rfl
          | true =>
            have h1 := (MapG.zero_iff HMAP.out).1 rfl y (HD4.out.okr _ _ e).2
            unfold setF at h1
            rw [if_pos e] at h1
            cases h1)
        go_wp2_with fail
        refine wp_region_T (Cells [(⟨p, 1, none⟩, .map (some ms)), (⟨wr.heap.size, 0, none⟩, .int .i64 q1), (⟨wr.heap.size, 1, none⟩, .int .i64 q2), (⟨wr.heap.size, 2, none⟩, .int .i64 q3), (⟨wr.heap.size, 3, none⟩, .int .i64 q4)]) (fun _ => false) (by kernel_rfl) ?_
        have hSss4 := Cells.drew hC4
        have hB_0_s4 : Below w4.heap.size w4 w4.drew := below_drew _
        generalize w4.drew = s4 at hSss4 hB_0_s4 ⊢
        have hB_s4_s4 := Below.refl s4.heap.size s4
        refine wpAnyT_pure (i := 0) (v := ?_) rfl (by kernel_rfl) (by kernel_rfl) (by kernel_rfl) (fun _ _ _ h => h) (by rfl) ?_ ?_
        rotate_left
        · intro w; go_simp; try with_reducible rfl
        simp only [Act.put, rgA, rgB, rgC, rgD, rgE, rgF]
        refine wpAnyT_pure (i := 1) (v := ?_) rfl (by kernel_rfl) (by kernel_rfl) (by kernel_rfl) (fun _ _ _ h => h) (by rfl) ?_ ?_
        rotate_left
        · intro w; go_simp; try with_reducible rfl
        simp only [Act.put, rgA, rgB, rgC, rgD, rgE, rgF]
        refine wpAnyT_pure (i := 2) (v := ?_) rfl (by kernel_rfl) (by kernel_rfl) (by kernel_rfl) (fun _ _ _ h => h) (by rfl) ?_ ?_
        rotate_left
        · intro w; go_simp; try with_reducible rfl
        simp only [Act.put, rgA, rgB, rgC, rgD, rgE, rgF]
        refine wpAnyT_loadW (i := 3) (v := ?_) rfl (by kernel_rfl) (by kernel_rfl) (by kernel_rfl) (by kernel_rfl) (by kernel_rfl) (fun _ _ _ h => h) (Or.inl ⟨by rfl, ?_⟩) hSss4 ?_
        rotate_left
        · intro w hSw; obtain ⟨e0, e1, e2, e3, e4, -⟩ := hSw; go_simp; try with_reducible rfl
        simp only [Act.put, rgA, rgB, rgC, rgD, rgE, rgF]
        refine wpAnyT_loadW (i := 4) (v := ?_) rfl (by kernel_rfl) (by kernel_rfl) (by kernel_rfl) (by kernel_rfl) (by kernel_rfl) (fun _ _ _ h => h) (Or.inl ⟨by rfl, ?_⟩) hSss4 ?_
        rotate_left
        · intro w hSw; obtain ⟨e0, e1, e2, e3, e4, -⟩ := hSw; go_simp; try with_reducible rfl
        simp only [Act.put, rgA, rgB, rgC, rgD, rgE, rgF]
        refine wpAnyT_one (i := 5) (by kernel_rfl) rfl (by rfl) ?_
        have hlk := (HD4.out.below (hB_0_s4.trans ((hB_s4_s4).mono (hB_0_s4).size))).lookS ⟨q1, q2, q3, q4⟩ HQ.out
        rw [HIB.out] at hlk
        change Sem.run Try.prog (Instr.lookup 60 (.map (some ms)) (.agg #[.int .i64 q1, .int .i64 q2, .int .i64 q3, .int .i64 q4]) false) s4 = _ at hlk
        refine wp_value (v := .map (some ibq)) (w' := s4) (by go_simp) ?_
        clear hlk
        refine ⟨fun _ h => h, ?_⟩
        try simp only [Act.put, rgA, rgB, rgC, rgD, rgE, rgF]
        refine wpAnyT_one (i := 6) (by kernel_rfl) rfl (by rfl) ?_
        have hlk := fun ty => (HMAP.out.below (hB_0_s4.trans ((hB_s4_s4).mono (hB_0_s4).size))).len Try.underlying57 ty
        refine wp_value (v := .int .i64 (0)) (w' := s4) (by go_simp) ?_
        clear hlk
        refine ⟨fun _ h => h, ?_⟩
        try simp only [Act.put, rgA, rgB, rgC, rgD, rgE, rgF]
        refine wpAnyT_pure (i := 7) (v := ?_) rfl (by kernel_rfl) (by kernel_rfl) (by kernel_rfl) (fun _ _ _ h => h) (by rfl) ?_ ?_
        rotate_left
        · intro w; go_simp; try with_reducible rfl
        simp only [Act.put, rgA, rgB, rgC, rgD, rgE, rgF]
        refine wpAnyT_done (by kernel_rfl) ?_ _
        have hbP : Below w4.heap.size w4 s4 := hB_0_s4.trans ((hB_s4_s4).mono (hB_0_s4).size)
        obtain ⟨w5, rfl⟩ : ∃ x, x = s4 := ⟨_, rfl⟩
        have HB5 := Lib.hid hbP
        clear hbP hC4
        have HG5 := Lib.hid (HG4.out.trans (Gr.of_below (F := fun _ => False) HB5.out) (fun _ h => h.elim))
        have HD5 := Lib.hid (HD4.out.below HB5.out)
        go_wp2_with fail
        have hC5 : Cells [(⟨p, 1, none⟩, .map (some ms)), (⟨wr.heap.size, 0, none⟩, .int .i64 q1), (⟨wr.heap.size, 1, none⟩, .int .i64 q2), (⟨wr.heap.size, 2, none⟩, .int .i64 q3), (⟨wr.heap.size, 3, none⟩, .int .i64 q4)] w5 := by
          have hq5 := (HB5.out.block _ (blk_lt HQB4.out)).trans HQB4.out
          exact ⟨blk_cell HD5.out.row 1, blk_cell hq5 0, blk_cell hq5 1, blk_cell hq5 2, blk_cell hq5 3, trivial⟩
        refine wp_region_T (Cells [(⟨p, 1, none⟩, .map (some ms)), (⟨wr.heap.size, 0, none⟩, .int .i64 q1), (⟨wr.heap.size, 1, none⟩, .int .i64 q2), (⟨wr.heap.size, 2, none⟩, .int .i64 q3), (⟨wr.heap.size, 3, none⟩, .int .i64 q4)]) (fun i => i == 5) (by kernel_rfl) ?_
        have hSss5 := Cells.drew hC5
        have hB_0_s5 : Below w5.heap.size w5 w5.drew := below_drew _
        generalize w5.drew = s5 at hSss5 hB_0_s5 ⊢
        have hB_s5_s5 := Below.refl s5.heap.size s5
        refine wpAnyT_pure (i := 0) (v := ?_) rfl (by kernel_rfl) (by kernel_rfl) (by kernel_rfl) (fun _ _ _ h => h) (by rfl) ?_ ?_
        rotate_left
        · intro w; go_simp; try with_reducible rfl
        simp only [Act.put, rgA, rgB, rgC, rgD, rgE, rgF]
        refine wpAnyT_pure (i := 1) (v := ?_) rfl (by kernel_rfl) (by kernel_rfl) (by kernel_rfl) (fun _ _ _ h => h) (by rfl) ?_ ?_
        rotate_left
        · intro w; go_simp; try with_reducible rfl
        simp only [Act.put, rgA, rgB, rgC, rgD, rgE, rgF]
        refine wpAnyT_pure (i := 2) (v := ?_) rfl (by kernel_rfl) (by kernel_rfl) (by kernel_rfl) (fun _ _ _ h => h) (by rfl) ?_ ?_
        rotate_left
        · intro w; go_simp; try with_reducible rfl
        simp only [Act.put, rgA, rgB, rgC, rgD, rgE, rgF]
        refine wpAnyT_loadW (i := 3) (v := ?_) rfl (by kernel_rfl) (by kernel_rfl) (by kernel_rfl) (by kernel_rfl) (by kernel_rfl) (fun _ _ _ h => h) (Or.inl ⟨by rfl, ?_⟩) hSss5 ?_
        rotate_left
        · intro w hSw; obtain ⟨e0, e1, e2, e3, e4, -⟩ := hSw; go_simp; try with_reducible rfl
        simp only [Act.put, rgA, rgB, rgC, rgD, rgE, rgF]
        refine wpAnyT_loadW (i := 4) (v := ?_) rfl (by kernel_rfl) (by kernel_rfl) (by kernel_rfl) (by kernel_rfl) (by kernel_rfl) (fun _ _ _ h => h) (Or.inl ⟨by rfl, ?_⟩) hSss5 ?_
        rotate_left
        · intro w hSw; obtain ⟨e0, e1, e2, e3, e4, -⟩ := hSw; go_simp; try with_reducible rfl
        simp only [Act.put, rgA, rgB, rgC, rgD, rgE, rgF]
        refine wpAnyT_one (i := 5) (by kernel_rfl) rfl (by rfl) ?_
        have hbP : Below w5.heap.size w5 s5 := hB_0_s5.trans ((hB_s5_s5).mono (hB_0_s5).size)
        have hd := fun ty => (HD5.out.below hbP).dropS ⟨q1, q2, q3, q4⟩ HQ.out (fun y => by rw [← rsCut_snoc]; exact HALL.out y) ty
        obtain ⟨w106, hrun, hG6, k6, hD6⟩ := hd _
        refine wp_delete1 (.tmp 35) (.tmp 36) 60 38 rfl (mv := .map (some ms)) (kv := .agg #[.int .i64 q1, .int .i64 q2, .int .i64 q3, .int .i64 q4]) (by kernel_rfl) (by kernel_rfl) hrun ?_
        have hG56 : Gr (fun b => F b = 3 ∨ F b = 4) w5 w106 := (Gr.of_below hbP).trans hG6 (fun _ h => .inl h)
        clear hrun hd hG6 hbP
        refine ⟨fun h => absurd h (by decide), ?_⟩
        try simp only [Act.put, rgA, rgB, rgC, rgD, rgE, rgF]
        refine wpAnyT_done (by kernel_rfl) ?_ _
        obtain ⟨w6, rfl⟩ : ∃ x, x = w106 := ⟨_, rfl⟩
        have HG56 := Lib.hid hG56
        have HD6 := Lib.hid hD6
        clear hG56 hD6 hC5
        go_wp2_with fail
        go_roundw
        case rel =>
          refine ⟨j + 1, by omega, by go_num, ⟨k6, sl, fun x => if x = (⟨q1, q2, q3, q4⟩ : C4) then none else ib x, ?_, ?_⟩, HG5.out.trans HG56.out (fun _ h => .inl h)⟩
          · exact DepM.congr HD6.out (fun x y => by rw [HTK.out]; exact rsCut_snoc _ _ _ _ _ _)
          · intro d hd
            by_cases e : d = ⟨q1, q2, q3, q4⟩
            · simp [e] at hd
            · simp only [if_neg e] at hd
              obtain ⟨y, hy⟩ := HNE3.out d hd
              exact ⟨y, by rw [HTK.out, rsCut_snoc, hy]; simp [e]⟩
        case measure => simp [intOf]; omega
      · have hczI : ¬ (cnt : Int) = 0 := by omega
        have HCZ := Lib.hid (show ∃ y, rsCut rd ⟨c1, c2, c3, c4⟩ (l.take j ++ [⟨q1, q2, q3, q4⟩]) ⟨q1, q2, q3, q4⟩ y = true from by
          apply Classical.byContradiction
          intro hn
          refine hcz ((MapG.zero_iff HMAP.out).2 fun x hx => ?_)
          unfold setF
          rw [if_neg]
          intro e
          exact hn ⟨x, by rw [rsCut_snoc]; exact e⟩)
        clear hcz
        go_wp2_with fail
        refine wp_region_T (Cells [(⟨p, 1, none⟩, .map (some ms)), (⟨wr.heap.size, 0, none⟩, .int .i64 q1), (⟨wr.heap.size, 1, none⟩, .int .i64 q2), (⟨wr.heap.size, 2, none⟩, .int .i64 q3), (⟨wr.heap.size, 3, none⟩, .int .i64 q4)]) (fun _ => false) (by kernel_rfl) ?_
        have hSss7 := Cells.drew hC4
        have hB_0_s7 : Below w4.heap.size w4 w4.drew := below_drew _
        generalize w4.drew = s7 at hSss7 hB_0_s7 ⊢
        have hB_s7_s7 := Below.refl s7.heap.size s7
        refine wpAnyT_pure (i := 0) (v := ?_) rfl (by kernel_rfl) (by kernel_rfl) (by kernel_rfl) (fun _ _ _ h => h) (by rfl) ?_ ?_
        rotate_left
        · intro w; go_simp; try with_reducible rfl
        simp only [Act.put, rgA, rgB, rgC, rgD, rgE, rgF]
        refine wpAnyT_pure (i := 1) (v := ?_) rfl (by kernel_rfl) (by kernel_rfl) (by kernel_rfl) (fun _ _ _ h => h) (by rfl) ?_ ?_
        rotate_left
        · intro w; go_simp; try with_reducible rfl
        simp only [Act.put, rgA, rgB, rgC, rgD, rgE, rgF]
        refine wpAnyT_pure (i := 2) (v := ?_) rfl (by kernel_rfl) (by kernel_rfl) (by kernel_rfl) (fun _ _ _ h => h) (by rfl) ?_ ?_
        rotate_left
        · intro w; go_simp; try with_reducible rfl
        simp only [Act.put, rgA, rgB, rgC, rgD, rgE, rgF]
        refine wpAnyT_loadW (i := 3) (v := ?_) rfl (by kernel_rfl) (by kernel_rfl) (by kernel_rfl) (by kernel_rfl) (by kernel_rfl) (fun _ _ _ h => h) (Or.inl ⟨by rfl, ?_⟩) hSss7 ?_
        rotate_left
        · intro w hSw; obtain ⟨e0, e1, e2, e3, e4, -⟩ := hSw; go_simp; try with_reducible rfl
        simp only [Act.put, rgA, rgB, rgC, rgD, rgE, rgF]
        refine wpAnyT_loadW (i := 4) (v := ?_) rfl (by kernel_rfl) (by kernel_rfl) (by kernel_rfl) (by kernel_rfl) (by kernel_rfl) (fun _ _ _ h => h) (Or.inl ⟨by rfl, ?_⟩) hSss7 ?_
        rotate_left
        · intro w hSw; obtain ⟨e0, e1, e2, e3, e4, -⟩ := hSw; go_simp; try with_reducible rfl
        simp only [Act.put, rgA, rgB, rgC, rgD, rgE, rgF]
        refine wpAnyT_one (i := 5) (by kernel_rfl) rfl (by rfl) ?_
        have hlk := (HD4.out.below (hB_0_s7.trans ((hB_s7_s7).mono (hB_0_s7).size))).lookS ⟨q1, q2, q3, q4⟩ HQ.out
        rw [HIB.out] at hlk
        change Sem.run Try.prog (Instr.lookup 60 (.map (some ms)) (.agg #[.int .i64 q1, .int .i64 q2, .int .i64 q3, .int .i64 q4]) false) s7 = _ at hlk
        refine wp_value (v := .map (some ibq)) (w' := s7) (by go_simp) ?_
        clear hlk
        refine ⟨fun _ h => h, ?_⟩
        try simp only [Act.put, rgA, rgB, rgC, rgD, rgE, rgF]
        refine wpAnyT_one (i := 6) (by kernel_rfl) rfl (by rfl) ?_
        have hlk := fun ty => (HMAP.out.below (hB_0_s7.trans ((hB_s7_s7).mono (hB_0_s7).size))).len Try.underlying57 ty
        refine wp_value (v := .int .i64 (cnt)) (w' := s7) (by go_simp) ?_
        clear hlk
        refine ⟨fun _ h => h, ?_⟩
        try simp only [Act.put, rgA, rgB, rgC, rgD, rgE, rgF]
        refine wpAnyT_pure (i := 7) (v := ?_) rfl (by kernel_rfl) (by kernel_rfl) (by kernel_rfl) (fun _ _ _ h => h) (by rfl) ?_ ?_
        rotate_left
        · intro w; go_simp; try with_reducible rfl
        simp only [Act.put, rgA, rgB, rgC, rgD, rgE, rgF]
        refine wpAnyT_done (by kernel_rfl) ?_ _
        have hbP : Below w4.heap.size w4 s7 := hB_0_s7.trans ((hB_s7_s7).mono (hB_0_s7).size)
        obtain ⟨w5, rfl⟩ : ∃ x, x = s7 := ⟨_, rfl⟩
        have HB5 := Lib.hid hbP
        clear hbP hC4
        have HG5 := Lib.hid (HG4.out.trans (Gr.of_below (F := fun _ => False) HB5.out) (fun _ h => h.elim))
        have HD5 := Lib.hid (HD4.out.below HB5.out)
        go_wp2_with fail
        go_roundw
        case rel =>
          refine ⟨j + 1, by omega, by go_num, ⟨k, sl, ib, ?_, ?_⟩, HG5.out⟩
          · exact DepM.congr HD5.out (fun x y => by rw [HTK.out]; exact rsCut_snoc _ _ _ _ _ _)
          · intro d hd
            by_cases e : d = ⟨q1, q2, q3, q4⟩
            · rw [e, HTK.out]
              exact HCZ.out
            · obtain ⟨y, hy⟩ := HNE3.out d hd
              exact ⟨y, by rw [HTK.out, rsCut_snoc, hy]; simp [e]⟩
        case measure => simp [intOf]; omega
    · obtain rfl : j = l.length := by omega
      rw [List.take_length] at hJ
      have HJ := Lib.hid hJ
      have HKB3 := Lib.hid (blk_gr HG.out HKB2.out (show ¬ (F w.heap.size = 3 ∨ F w.heap.size = 4) from by rw [HF0.out]; decide))
      obtain ⟨k, sl, ib, hD, hne⟩ := hJ
      have HD3 := Lib.hid hD
      have HNE3 := Lib.hid hne
      have hC3 : Cells [(⟨p, 0, none⟩, .map (some mr)), (⟨w.heap.size, 0, none⟩, .int .i64 c1), (⟨w.heap.size, 1, none⟩, .int .i64 c2), (⟨w.heap.size, 2, none⟩, .int .i64 c3), (⟨w.heap.size, 3, none⟩, .int .i64 c4)] wr := ⟨blk_cell hD.row 0, blk_cell HKB3.out 0, blk_cell HKB3.out 1, blk_cell HKB3.out 2, blk_cell HKB3.out 3, trivial⟩
      clear hD hne hG
      go_wp2_with fail
      refine wp_region_T (Cells [(⟨p, 0, none⟩, .map (some mr)), (⟨w.heap.size, 0, none⟩, .int .i64 c1), (⟨w.heap.size, 1, none⟩, .int .i64 c2), (⟨w.heap.size, 2, none⟩, .int .i64 c3), (⟨w.heap.size, 3, none⟩, .int .i64 c4)]) (fun i => i == 5) (by kernel_rfl) ?_
      have hSss8 := Cells.drew hC3
      have hB_0_s8 : Below wr.heap.size wr wr.drew := below_drew _
      generalize wr.drew = s8 at hSss8 hB_0_s8 ⊢
      have hB_s8_s8 := Below.refl s8.heap.size s8
      refine wpAnyT_pure (i := 0) (v := ?_) rfl (by kernel_rfl) (by kernel_rfl) (by kernel_rfl) (fun _ _ _ h => h) (by rfl) ?_ ?_
      rotate_left
      · intro w; go_simp; try with_reducible rfl
      simp only [Act.put, rgA, rgB, rgC, rgD, rgE, rgF]
      refine wpAnyT_pure (i := 1) (v := ?_) rfl (by kernel_rfl) (by kernel_rfl) (by kernel_rfl) (fun _ _ _ h => h) (by rfl) ?_ ?_
      rotate_left
      · intro w; go_simp; try with_reducible rfl
      simp only [Act.put, rgA, rgB, rgC, rgD, rgE, rgF]
      refine wpAnyT_pure (i := 2) (v := ?_) rfl (by kernel_rfl) (by kernel_rfl) (by kernel_rfl) (fun _ _ _ h => h) (by rfl) ?_ ?_
      rotate_left
      · intro w; go_simp; try with_reducible rfl
      simp only [Act.put, rgA, rgB, rgC, rgD, rgE, rgF]
      refine wpAnyT_loadW (i := 3) (v := ?_) rfl (by kernel_rfl) (by kernel_rfl) (by kernel_rfl) (by kernel_rfl) (by kernel_rfl) (fun _ _ _ h => h) (Or.inl ⟨by rfl, ?_⟩) hSss8 ?_
      rotate_left
      · intro w hSw; obtain ⟨e0, e1, e2, e3, e4, -⟩ := hSw; go_simp; try with_reducible rfl
      simp only [Act.put, rgA, rgB, rgC, rgD, rgE, rgF]
      refine wpAnyT_loadW (i := 4) (v := ?_) rfl (by kernel_rfl) (by kernel_rfl) (by kernel_rfl) (by kernel_rfl) (by kernel_rfl) (fun _ _ _ h => h) (Or.inl ⟨by rfl, ?_⟩) hSss8 ?_
      rotate_left
      · intro w hSw; obtain ⟨e0, e1, e2, e3, e4, -⟩ := hSw; go_simp; try with_reducible rfl
      simp only [Act.put, rgA, rgB, rgC, rgD, rgE, rgF]
      refine wpAnyT_one (i := 5) (by kernel_rfl) rfl (by rfl) ?_
      have hbP : Below wr.heap.size wr s8 := hB_0_s8.trans ((hB_s8_s8).mono (hB_0_s8).size)
      have hd := fun ty => (HD3.out.below hbP).dropR ⟨c1, c2, c3, c4⟩ HC.out ty
      obtain ⟨w109, hrun, hG6, hD6⟩ := hd _
      refine wp_delete1 (.tmp 41) (.tmp 42) 59 38 rfl (mv := .map (some mr)) (kv := .agg #[.int .i64 c1, .int .i64 c2, .int .i64 c3, .int .i64 c4]) (by kernel_rfl) (by kernel_rfl) hrun ?_
      have hG56 : Gr (fun b => F b ≠ 0) wr w109 := (Gr.of_below hbP).trans hG6 (fun x e => .inl (by rw [e, HD3.out.fr]; decide))
      clear hrun hd hG6 hbP
      refine ⟨fun h => absurd h (by decide), ?_⟩
      try simp only [Act.put, rgA, rgB, rgC, rgD, rgE, rgF]
      refine wpAnyT_done (by kernel_rfl) ?_ _
      obtain ⟨w6, rfl⟩ : ∃ x, x = w109 := ⟨_, rfl⟩
      have HG56 := Lib.hid hG56
      have HD6 := Lib.hid hD6
      clear hG56 hD6 hC3
      go_wp2_with fail
      go_end0
      unfold ForgetP
      refine ⟨rfl, ?_, ⟨k, fun x => if x = (⟨c1, c2, c3, c4⟩ : C4) then none else sl x, ib, ?_, ?_⟩⟩
      · exact (Gr.of_below (F := fun b => F b ≠ 0) (HB.out.trans (HB2.out.mono (by have := HB.out.size; exact this)))).trans ((HG.out.mono (G := fun b => F b ≠ 0) (fun x e => .inl (by omega))).trans HG56.out (fun x e => .inl e)) (fun x e => .inl e)
      · exact DepM.congr HD6.out (fun x y => by rw [← rsCut_all, HL.out])
      · intro d hd
        obtain ⟨y, hy⟩ := HNE3.out d hd
        exact ⟨y, by rw [← rsCut_all, HL.out]; exact hy⟩
end Go.Proofs.Ytoimbhdjhhmonaa
