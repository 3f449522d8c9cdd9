/- Layer 47: Set. -/
import Derived.Test.YtoimbhdjhhmonaaD47n
set_option linter.unusedSimpArgs false
namespace Go.Proofs.Ytoimbhdjhhmonaa
open Go.RowKit Go

def ComP (base : Nat) (w : World) (l : List C4) (e : Ending) (w' : World) : Prop :=
  ∃ v, e = .returned v ∧ SlC base w' v (dedA l) ∧ Below base w w'
theorem comp_nil47 (w : World) : Calls Try.prog 52 #[.slice none 0 0] w fun e w' => e = .returned (.slice none 0 0) ∧ w' = w := by
  go_enter Try.func52, Try.ntmps52
  go_wp2
  go_ret
  exact ⟨rfl, rfl⟩
theorem comp47 {base : Nat} (w : World) (v : Value) (l : List C4) (h : SlC base w v l) (hb : base ≤ w.heap.size) (hln : l.length ≤ 1000000) :
    Calls Try.prog 52 #[v] w (ComP base w l) := by
  rcases h with ⟨rfl, rfl⟩ | ⟨g, cap, rfl, h1, h2, h3, h4, h5⟩
  · refine (comp_nil47 w).mono ?_
    rintro e w' ⟨rfl, rfl⟩
    exact ⟨_, rfl, .inl ⟨rfl, rfl⟩, (Below.refl _ _).mono hb⟩
  · refine (compact47 base w g cap l h4 h5 h2 h3 hln).mono ?_
    rintro e w' ⟨rfl, hR, hG⟩
    have := dedA_len l
    exact ⟨_, rfl, .inr ⟨g, cap, rfl, h1, by omega, h3, hR, fun x hx => h5 x ((dedA_mem l x).1 hx)⟩, hG.below (fun b e => by rw [e]; exact h1) hb⟩
/-- What Set says. -/
def setCode (r : Bool) (n : Nat) (c : C4) (l : List C4) : Int :=
  if (!validC c || l.any (fun d => !validC d)) = true then 1 else if 200 < l.length ∨ (r = false ∧ 5000 ≤ n) then 6 else 0
def setM (r : Bool) (n : Nat) : Nat := (if r then n - 1 else n) + 1
def setR (rd : C4 → Option (List C4)) (c : C4) (l : List C4) (x : C4) : Option (List C4) := if x = c then some (srtC l) else rd x
def SetP (F : Nat → Nat) (w : World) (p mr ms n K : Nat) (rd : C4 → Option (List C4)) (c : C4) (l : List C4) (e : Ending) (w' : World) : Prop :=
  e = .returned (.int .i64 (setCode (rd c).isSome n c l)) ∧ (setCode (rd c).isSome n c l ≠ 0 → Below w.heap.size w w') ∧
    (setCode (rd c).isSome n c l = 0 → Gr (fun b => F b ≠ 0) w w' ∧ ∃ F', (∀ b, b < w.heap.size → F' b = F b) ∧ DepI F' w' p mr ms (setM (rd c).isSome n) (K + 400) (setR rd c l))
/-- After k of the new reads. -/
def rsAdd (rd : C4 → Option (List C4)) (c : C4) (l : List C4) (d y : C4) : Bool := rsOf rd d y || (decide (y = c) && decide (d ∈ l))
theorem rsAdd_nil (rd : C4 → Option (List C4)) (c d y : C4) : rsAdd rd c [] d y = rsOf rd d y := by simp [rsAdd]
theorem rsAdd_snoc (rd : C4 → Option (List C4)) (c : C4) (l : List C4) (q d y : C4) : rsAdd rd c (l ++ [q]) d y = (rsAdd rd c l d y || (decide (d = q) && decide (y = c))) := by
  unfold rsAdd
  rw [Bool.eq_iff_iff]
  simp
  generalize rsOf rd d y = b
  cases b <;> simp
  by_cases e1 : y = c <;> by_cases e2 : d ∈ l <;> by_cases e3 : d = q <;> simp [e1, e2, e3]
theorem rsAdd_all (rd : C4 → Option (List C4)) (c : C4) (l : List C4) (d y : C4) : rsAdd (fun x => if x = c then none else rd x) c l d y = rsOf (fun x => if x = c then some l else rd x) d y := by
  unfold rsAdd rsOf
  by_cases e : y = c
  · subst e
    simp
  · simp [e]
theorem wp_newmap {o : Oper} {a : Act} {w : World} {K : Act → World → Prop} {Q : Exit → Act → World → Prop} {b : Nat} (t : TypeId) (ho : o.op = .makeMap t none) (hb : w.heap.size = b)
    (h : ∀ w', Below w.heap.size w w' → MapG cellK boolE w' b 0 (fun _ => none) → K (a.put o.dst (.map (some b))) w') : o.wp Try.prog a w K Q := by
  subst hb
  unfold Oper.wp execOp
  simp only [ho, run_makeMap, Sem.run_bind, Sem.run_pure, Result.andThen_ok]
  exact h _ ((Below.refl _ w).alloc (Nat.le_refl _) _) (MapG.made w)
section
variable {F : Nat → Nat} {w w' : World} {p mr ms n k K K' : Nat} {sl : C4 → Option SlV} {rd rd' : C4 → Option (List C4)} {ib : C4 → Option Nat} {rs rs' : C4 → C4 → Bool}
theorem DepM.up (h : DepM F w p mr ms n k K sl rd ib rs) (hK : K ≤ K') : DepM F w p mr ms n k K' sl rd ib rs :=
  { h with inn := fun d b e => by obtain ⟨h1, cnt, h2, h3⟩ := h.inn d b e; exact ⟨h1, cnt, Nat.le_trans h2 hK, h3⟩, hk := Nat.le_trans h.hk hK }
theorem DepM.congrR (h : DepM F w p mr ms n k K sl rd ib rs) (e : ∀ x, rd' x = rd x) : DepM F w p mr ms n k K sl rd' ib rs := by
  have : rd' = rd := funext e
  rw [this]; exact h
end
set_option maxRecDepth 100000 in
set_option maxHeartbeats 4000000 in
theorem set47 {F : Nat → Nat} {S : Nat → Prop} (w : World) {p mr ms n K : Nat} {rd : C4 → Option (List C4)} (h : DepI F w p mr ms n K rd) (c : C4) (hsr : ∀ l, rd c = some l → l.Nodup) (hc : c.ok) (hK : K ≤ 900000) (hn : n ≤ 5000)
    (a : Option Addr) (cap : Nat) (l : List C4) (hx : Rd (.sl cellT) S w [.slice a l.length cap] (l.map C4.d)) (hS : ∀ b, S b → b < w.heap.size ∧ F b = 0) :
    Calls Try.prog 27 #[.pointer (some ⟨p, 0, none⟩), c.v, .slice a l.length cap] w (SetP F w p mr ms n K rd c l) := by
  have HSR := Lib.hid hsr
  have HKK := Lib.hid hK
  have HNN := Lib.hid hn
  clear hK hn
  obtain ⟨c1, c2, c3, c4⟩ := c
  have H := Lib.hid h
  have HC := Lib.hid hc
  have HX := Lib.hid hx
  have HS := Lib.hid hS
  have hB := (Below.refl w.heap.size w).alloc (Nat.le_refl _) (.cells #[.int .i64 c1, .int .i64 c2, .int .i64 c3, .int .i64 c4] 38)
  have hkb := heap_alloc_new w (.cells #[.int .i64 c1, .int .i64 c2, .int .i64 c3, .int .i64 c4] 38)
  have HF0 := Lib.hid (show F w.heap.size = 0 from by
    obtain ⟨k, sl, ib, hD, -⟩ := h
    by_cases e : F w.heap.size = 0
    · exact e
    · have := hD.dom _ e; omega)
  have HB := Lib.hid hB
  have HKB := Lib.hid hkb
  have HSZ := Lib.hid (show w.heap.size < (w.alloc (.cells #[.int .i64 c1, .int .i64 c2, .int .i64 c3, .int .i64 c4] 38)).heap.size from by simp)
  have k0 := blk_cell hkb 0
  have k1 := blk_cell hkb 1
  have k2 := blk_cell hkb 2
  have k3 := blk_cell hkb 3
  simp only [List.getElem?_toArray, List.getElem?_cons_zero, List.getElem?_cons_succ] at k0 k1 k2 k3
  have hV := fun W => valid47 W ⟨c1, c2, c3, c4⟩
  have HV := Lib.hid hV
  obtain ⟨rb, hrb⟩ : ∃ rb, (rd ⟨c1, c2, c3, c4⟩).isSome = rb := ⟨_, rfl⟩
  have HRB := Lib.hid hrb
  obtain ⟨vc, hvc⟩ : ∃ vc, validC ⟨c1, c2, c3, c4⟩ = vc := ⟨_, rfl⟩
  obtain ⟨al, hal⟩ : ∃ al, l.any (fun d => !validC d) = al := ⟨_, rfl⟩
  have HCD := Lib.hid (show setCode (rd ⟨c1, c2, c3, c4⟩).isSome n ⟨c1, c2, c3, c4⟩ l = if (!vc || al) = true then 1 else if 200 < l.length ∨ (rb = false ∧ 5000 ≤ n) then 6 else 0 from by rw [hrb]; unfold setCode; rw [hvc, hal])
  have HVC := Lib.hid hvc
  have HAL := Lib.hid hal
  clear hB hkb hc hsr hx hS hV hrb hvc hal h
  unfold C4.v
  simp only
  go_enter Try.func27, Try.ntmps27
  go_upto_region 3 with fail
  generalize World.alloc _ _ = w1 at *
  cases vc with
  | false =>
    simp only [Bool.not_false, Bool.true_or, if_true] at HCD
    go_wp2_with (go_at_call 47; refine (HV.out w1).mono ?_; rw [HVC.out]; rintro e w2 ⟨rfl, hw⟩; have HW := Lib.hid hw; clear hw)
    go_ret
    unfold SetP
    rw [HCD.out]
    exact ⟨rfl, fun _ => HB.out.trans (HW.out.mono HB.out.size), fun h => by cases h⟩
  | true =>
  cases al with
  | true =>
    simp only [Bool.or_true, if_true] at HCD
    have HCT := Lib.hid (fun W (hw : Below w.heap.size w W) => containsV47 W a l.length cap l (HX.out.below hw (fun b e => (HS.out b e).1)) (fun b e => Nat.lt_of_lt_of_le (HS.out b e).1 hw.size))
    go_wp2_with (first | (go_at_call 47; refine (HV.out w1).mono ?_; rw [HVC.out]; rintro e w2 ⟨rfl, hw⟩; have HW := Lib.hid (below_step HB.out hw); clear hw) | (go_at_call 48; refine (HCT.out _ HW.out).mono ?_; rw [HAL.out]; rintro e w3 ⟨rfl, hw⟩; have HW3 := Lib.hid (below_step HW.out hw); clear hw))
    go_ret
    unfold SetP
    rw [HCD.out]
    exact ⟨rfl, fun _ => HW3.out, fun h => by cases h⟩
  | false =>
  simp only [Bool.or_false, Bool.not_true, Bool.false_eq_true, if_false] at HCD
  have HCT := Lib.hid (fun W (hw : Below w.heap.size w W) => containsV47 W a l.length cap l (HX.out.below hw (fun b e => (HS.out b e).1)) (fun b e => Nat.lt_of_lt_of_le (HS.out b e).1 hw.size))
  go_upto_region 5 with (first | (go_at_call 47; refine (HV.out w1).mono ?_; rw [HVC.out]; rintro e w2 ⟨rfl, hw⟩; have HW := Lib.hid (below_step HB.out hw); have HKB2 := Lib.hid ((hw.block _ HSZ.out).trans HKB.out); clear hw) | (go_at_call 48; refine (HCT.out _ HW.out).mono ?_; rw [HAL.out]; rintro e w3 ⟨rfl, hw⟩; have HW3 := Lib.hid (below_step HW.out hw); have HKB3 := Lib.hid ((hw.block _ (blk_lt HKB2.out)).trans HKB2.out); clear hw))
  have h3 := H.out.below HW3.out
  obtain ⟨k, sl, ib, hD, hne⟩ := h3
  have HD3 := Lib.hid hD
  have HNE3 := Lib.hid hne
  obtain ⟨ra, rc, hrv, -, -⟩ := hD.rdR ⟨c1, c2, c3, c4⟩
  obtain ⟨rl, hrl⟩ : ∃ rl, ((rd ⟨c1, c2, c3, c4⟩).getD []).length = rl := ⟨_, rfl⟩
  rw [hrl] at hrv
  have HRV := Lib.hid hrv
  have hC3 : Cells [(⟨p, 0, none⟩, .map (some mr)), (⟨w.heap.size, 0, none⟩, .int .i64 c1), (⟨w.heap.size, 1, none⟩, .int .i64 c2), (⟨w.heap.size, 2, none⟩, .int .i64 c3), (⟨w.heap.size, 3, none⟩, .int .i64 c4)] w3 := ⟨blk_cell hD.row 0, blk_cell HKB3.out 0, blk_cell HKB3.out 1, blk_cell HKB3.out 2, blk_cell HKB3.out 3, trivial⟩
  clear hD hne hrv hrl k0 k1 k2 k3
  refine wp_region_T (Cells [(⟨p, 0, none⟩, .map (some mr)), (⟨w.heap.size, 0, none⟩, .int .i64 c1), (⟨w.heap.size, 1, none⟩, .int .i64 c2), (⟨w.heap.size, 2, none⟩, .int .i64 c3), (⟨w.heap.size, 3, none⟩, .int .i64 c4)]) (fun _ => false) (by kernel_rfl) ?_
  have hSss1 := Cells.drew hC3
  have hB_0_s1 : Below w3.heap.size w3 w3.drew := below_drew _
  generalize w3.drew = s1 at hSss1 hB_0_s1 ⊢
  have hB_s1_s1 := Below.refl s1.heap.size s1
  refine wpAnyT_pure (i := 0) (v := ?_) rfl (by kernel_rfl) (by kernel_rfl) (by kernel_rfl) (fun _ _ _ h => h) (by rfl) ?_ ?_
  rotate_left
  · intro w; go_simp; try with_reducible rfl
  simp only [Act.put, rgA, rgB, rgC, rgD, rgE, rgF]
  refine wpAnyT_pure (i := 1) (v := ?_) rfl (by kernel_rfl) (by kernel_rfl) (by kernel_rfl) (fun _ _ _ h => h) (by rfl) ?_ ?_
  rotate_left
  · intro w; go_simp; try with_reducible rfl
  simp only [Act.put, rgA, rgB, rgC, rgD, rgE, rgF]
  refine wpAnyT_pure (i := 2) (v := ?_) rfl (by kernel_rfl) (by kernel_rfl) (by kernel_rfl) (fun _ _ _ h => h) (by rfl) ?_ ?_
  rotate_left
  · intro w; go_simp; try with_reducible rfl
  simp only [Act.put, rgA, rgB, rgC, rgD, rgE, rgF]
  refine wpAnyT_loadW (i := 3) (v := ?_) rfl (by kernel_rfl) (by kernel_rfl) (by kernel_rfl) (by kernel_rfl) (by kernel_rfl) (fun _ _ _ h => h) (Or.inl ⟨by rfl, ?_⟩) hSss1 ?_
  rotate_left
  · intro w hSw; obtain ⟨e0, e1, e2, e3, e4, -⟩ := hSw; go_simp; try with_reducible rfl
  simp only [Act.put, rgA, rgB, rgC, rgD, rgE, rgF]
  refine wpAnyT_loadW (i := 4) (v := ?_) rfl (by kernel_rfl) (by kernel_rfl) (by kernel_rfl) (by kernel_rfl) (by kernel_rfl) (fun _ _ _ h => h) (Or.inl ⟨by rfl, ?_⟩) hSss1 ?_
  rotate_left
  · intro w hSw; obtain ⟨e0, e1, e2, e3, e4, -⟩ := hSw; go_simp; try with_reducible rfl
  simp only [Act.put, rgA, rgB, rgC, rgD, rgE, rgF]
  refine wpAnyT_one (i := 5) (by kernel_rfl) rfl (by rfl) ?_
  have hlk := (HD3.out.below (hB_0_s1.trans ((hB_s1_s1).mono (hB_0_s1).size))).lookR2 ⟨c1, c2, c3, c4⟩ HC.out
  rw [HRV.out, HRB.out] at hlk
  change Sem.run Try.prog (Instr.lookup 59 (.map (some mr)) (.agg #[.int .i64 c1, .int .i64 c2, .int .i64 c3, .int .i64 c4]) true) s1 = _ at hlk
  refine wp_value (v := .tuple #[.slice ra rl rc, .bool rb]) (w' := s1) (by go_simp) ?_
  clear hlk
  refine ⟨fun _ h => h, ?_⟩
  try simp only [Act.put, rgA, rgB, rgC, rgD, rgE, rgF]
  refine wpAnyT_pure (i := 6) (v := ?_) rfl (by kernel_rfl) (by kernel_rfl) (by kernel_rfl) (fun _ _ _ h => h) (by rfl) ?_ ?_
  rotate_left
  · intro w; go_simp; try with_reducible rfl
  simp only [Act.put, rgA, rgB, rgC, rgD, rgE, rgF]
  refine wpAnyT_pure (i := 7) (v := ?_) rfl (by kernel_rfl) (by kernel_rfl) (by kernel_rfl) (fun _ _ _ h => h) (by rfl) ?_ ?_
  rotate_left
  · intro w; go_simp; try with_reducible rfl
  simp only [Act.put, rgA, rgB, rgC, rgD, rgE, rgF]
  refine wpAnyT_pure (i := 8) (v := ?_) rfl (by kernel_rfl) (by kernel_rfl) (by kernel_rfl) (fun _ _ _ h => h) (by rfl) ?_ ?_
  rotate_left
  · intro w; go_simp; try with_reducible rfl
  simp only [Act.put, rgA, rgB, rgC, rgD, rgE, rgF]
  refine wpAnyT_pure (i := 9) (v := ?_) rfl (by kernel_rfl) (by kernel_rfl) (by kernel_rfl) (fun _ _ _ h => h) (by rfl) ?_ ?_
  rotate_left
  · intro w; go_simp; try with_reducible rfl
  simp only [Act.put, rgA, rgB, rgC, rgD, rgE, rgF]
  refine wpAnyT_pure (i := 10) (v := ?_) rfl (by kernel_rfl) (by kernel_rfl) (by kernel_rfl) (fun _ _ _ h => h) (by rfl) ?_ ?_
  rotate_left
  · intro w; go_simp; try with_reducible rfl
  simp only [Act.put, rgA, rgB, rgC, rgD, rgE, rgF]
  refine wpAnyT_done (by kernel_rfl) ?_ _
  have hbP : Below w3.heap.size w3 s1 := hB_0_s1.trans ((hB_s1_s1).mono (hB_0_s1).size)
  obtain ⟨w4, rfl⟩ : ∃ x, x = s1 := ⟨_, rfl⟩
  have HB4 := Lib.hid hbP
  clear hbP hC3
  have HW4 := Lib.hid (below_step HW3.out HB4.out)
  have HKB4 := Lib.hid ((HB4.out.block _ (blk_lt HKB3.out)).trans HKB3.out)
  have HD4 := Lib.hid (HD3.out.below HB4.out)
  have H4 := Lib.hid (show DepI F w4 p mr ms n K rd from ⟨k, sl, ib, HD4.out, HNE3.out⟩)
  have y0 := blk_cell HD4.out.row 0
  have k0 := blk_cell HKB4.out 0
  have k1 := blk_cell HKB4.out 1
  have k2 := blk_cell HKB4.out 2
  have k3 := blk_cell HKB4.out 3
  simp only [List.getElem?_toArray, List.getElem?_cons_zero, List.getElem?_cons_succ] at y0 k0 k1 k2 k3
  have hlR := fun ty => HD4.out.mapr.len Try.underlying59 ty
  obtain ⟨ll, hll⟩ : ∃ ll, l.length = ll := ⟨_, rfl⟩
  have HLL := Lib.hid hll
  rw [hll] at HCD ⊢
  by_cases hbig : 200 < ll
  · rw [if_pos (.inl hbig)] at HCD
    have hbI : (200 : Int) < (ll : Int) := by omega
    clear hll hbig
    go_wp2_with fail
    go_ret
    unfold SetP
    rw [HCD.out]
    exact ⟨rfl, fun _ => HW4.out, fun h => by cases h⟩
  have hsI : ¬ (200 : Int) < (ll : Int) := by omega
  have HL2 := Lib.hid (show ll ≤ 200 from by omega)
  clear hll
  cases rb with
  | false =>
    by_cases hfull : 5000 ≤ n
    · rw [if_pos (.inr ⟨rfl, hfull⟩)] at HCD
      have hfI : (5000 : Int) ≤ (n : Int) := by omega
      clear hbig hfull
      go_wp2_with fail
      go_ret
      unfold SetP
      rw [HCD.out]
      exact ⟨rfl, fun _ => HW4.out, fun h => by cases h⟩
    · rw [if_neg (by rintro (h | ⟨-, h⟩); exact hbig h; exact hfull h)] at HCD
      have hfI : ¬ (5000 : Int) ≤ (n : Int) := by omega
      clear hbig hfull
      have HFG := Lib.hid (forget47 w4 H4.out ⟨c1, c2, c3, c4⟩ HSR.out HC.out)
      unfold C4.v at HFG
      simp only at HFG
      have HSX := Lib.hid (fun (G : Nat → Prop) (W : World) (hG : Gr G w4 W) (hd : ∀ b, F b = 0 → b < w.heap.size → ¬ G b) => (HX.out.below HW4.out (fun b e => (HS.out b e).1)).gr hG (fun b e => ⟨Nat.lt_of_lt_of_le (HS.out b e).1 HW4.out.size, hd b (HS.out b e).2 (HS.out b e).1⟩) (fun _ e => e))
      go_upto_region 12 with (first
        | (go_at_call 50; refine HFG.out.mono ?_; rintro e w5 ⟨rfl, hG5, hI5⟩; have HG5 := Lib.hid hG5; have HI5 := Lib.hid hI5; clear hG5 hI5 y0 k0 k1 k2 k3)
        | (go_at_call 37; have hxl := HSX.out _ w5 HG5.out (fun b h0 _ h => h h0); rw [HLL.out] at hxl; refine (clone47 w5 a ll cap (l.map C4.d) hxl (fun b e => Nat.lt_of_lt_of_le (HS.out b e).1 (Nat.le_trans HW4.out.size HG5.out.size)) (by have := HL2.out; omega)).mono ?_; rintro e w6 ⟨v6, rfl, hB6, hO6⟩; clear hxl; have HB6 := Lib.hid hB6; have HO6 := Lib.hid hO6; obtain ⟨a6, l6, cp6, hv6, -⟩ := hO6.slice; subst hv6; clear hB6 hO6)
        | (go_at_call 51; refine (sortCells (base := w5.heap.size) w6 _ l HO6.out HB6.out.size (by rw [HLL.out]; have := HL2.out; omega)).mono ?_; rintro e w7 ⟨rfl, ls, hp7, hs7, hK7, hB7⟩; have HB7 := Lib.hid (HB6.out.trans hB7); have HK7 := Lib.hid hK7; have HP7 := Lib.hid hp7; have HS7 := Lib.hid hs7; clear hp7 hs7 hK7 hB7)
        | (go_at_call 52; refine (comp47 (base := w5.heap.size) w7 _ ls HK7.out HB7.out.size (by rw [HP7.out.length_eq, HLL.out]; have := HL2.out; omega)).mono ?_; rintro e w8 ⟨v8, rfl, hK8, hB8⟩; have HB8 := Lib.hid (HB7.out.trans hB8); rw [dedA_srtC HP7.out HS7.out] at hK8; have HK8 := Lib.hid hK8; obtain ⟨a8, cp8, hv8⟩ := hK8.form; obtain ⟨s8, hs8, -⟩ := SlAt.of_slc (F := F) hK8; have HS8 := Lib.hid hs8; subst hv8; clear hK8 hB8 hs8))
      obtain ⟨L, hL⟩ : ∃ L, srtC l = L := ⟨_, rfl⟩
      have HLe := Lib.hid hL
      have HLn := Lib.hid (show L.length ≤ 200 from by rw [← hL]; have := srtC_len l; have := HLL.out; have := HL2.out; omega)
      have HLs := Lib.hid (show Srt L from hL ▸ srt_srtC l)
      rw [hL] at HK8 HS8 ⊢
      obtain ⟨n5, hn5⟩ : ∃ n5, (if (rd ⟨c1, c2, c3, c4⟩).isSome = true then n - 1 else n) = n5 := ⟨_, rfl⟩
      have HN5 := Lib.hid hn5
      have HN5' := Lib.hid (show n5 ≤ 5000 from by rw [← hn5]; have := HNN.out; split <;> omega)
      rw [hn5] at HI5
      obtain ⟨k5, sl5, ib5, hD5, hne5⟩ := HI5.out
      have HNE5 := Lib.hid hne5
      have HFR := Lib.hid (show ∀ b, w5.heap.size ≤ b → F b = 0 from fun b hb => by
        by_cases e : F b = 0
        · exact e
        · have := hD5.dom b e; omega)
      have hD8 := hD5.below HB8.out
      have HD8 := Lib.hid hD8
      have HW5 := Lib.hid (show w.heap.size < w5.heap.size from Nat.lt_of_lt_of_le (blk_lt HKB4.out) HG5.out.size)
      have HKB8 := Lib.hid ((HB8.out.block _ HW5.out).trans (blk_gr HG5.out HKB4.out (fun e => e HF0.out)))
      have hC8 : Cells [(⟨p, 0, none⟩, .map (some mr)), (⟨w.heap.size, 0, none⟩, .int .i64 c1), (⟨w.heap.size, 1, none⟩, .int .i64 c2), (⟨w.heap.size, 2, none⟩, .int .i64 c3), (⟨w.heap.size, 3, none⟩, .int .i64 c4)] w8 := ⟨blk_cell hD8.row 0, blk_cell HKB8.out 0, blk_cell HKB8.out 1, blk_cell HKB8.out 2, blk_cell HKB8.out 3, trivial⟩
      clear hL hn5 hD5 hne5 hD8 hsI
      refine wp_region_T (Cells [(⟨p, 0, none⟩, .map (some mr)), (⟨w.heap.size, 0, none⟩, .int .i64 c1), (⟨w.heap.size, 1, none⟩, .int .i64 c2), (⟨w.heap.size, 2, none⟩, .int .i64 c3), (⟨w.heap.size, 3, none⟩, .int .i64 c4)]) (fun i => i == 6) (by kernel_rfl) ?_
      have hSss2 := Cells.drew hC8
      have hB_0_s2 : Below w8.heap.size w8 w8.drew := below_drew _
      generalize w8.drew = s2 at hSss2 hB_0_s2 ⊢
      have hB_s2_s2 := Below.refl s2.heap.size s2
      refine wpAnyT_pure (i := 0) (v := ?_) rfl (by kernel_rfl) (by kernel_rfl) (by kernel_rfl) (fun _ _ _ h => h) (by rfl) ?_ ?_
      rotate_left
      · intro w; go_simp; try with_reducible rfl
      simp only [Act.put, rgA, rgB, rgC, rgD, rgE, rgF]
      refine wpAnyT_pure (i := 1) (v := ?_) rfl (by kernel_rfl) (by kernel_rfl) (by kernel_rfl) (fun _ _ _ h => h) (by rfl) ?_ ?_
      rotate_left
      · intro w; go_simp; try with_reducible rfl
      simp only [Act.put, rgA, rgB, rgC, rgD, rgE, rgF]
      refine wpAnyT_pure (i := 2) (v := ?_) rfl (by kernel_rfl) (by kernel_rfl) (by kernel_rfl) (fun _ _ _ h => h) (by rfl) ?_ ?_
      rotate_left
      · intro w; go_simp; try with_reducible rfl
      simp only [Act.put, rgA, rgB, rgC, rgD, rgE, rgF]
      refine wpAnyT_pure (i := 5) (v := ?_) rfl (by kernel_rfl) (by kernel_rfl) (by kernel_rfl) (fun _ _ _ h => h) (by rfl) ?_ ?_
      rotate_left
      · intro w; go_simp; try with_reducible rfl
      simp only [Act.put, rgA, rgB, rgC, rgD, rgE, rgF]
      refine wpAnyT_loadW (i := 3) (v := ?_) rfl (by kernel_rfl) (by kernel_rfl) (by kernel_rfl) (by kernel_rfl) (by kernel_rfl) (fun _ _ _ h => h) (Or.inl ⟨by rfl, ?_⟩) hSss2 ?_
      rotate_left
      · intro w hSw; obtain ⟨e0, e1, e2, e3, e4, -⟩ := hSw; go_simp; try with_reducible rfl
      simp only [Act.put, rgA, rgB, rgC, rgD, rgE, rgF]
      refine wpAnyT_loadW (i := 4) (v := ?_) rfl (by kernel_rfl) (by kernel_rfl) (by kernel_rfl) (by kernel_rfl) (by kernel_rfl) (fun _ _ _ h => h) (Or.inl ⟨by rfl, ?_⟩) hSss2 ?_
      rotate_left
      · intro w hSw; obtain ⟨e0, e1, e2, e3, e4, -⟩ := hSw; go_simp; try with_reducible rfl
      simp only [Act.put, rgA, rgB, rgC, rgD, rgE, rgF]
      refine wpAnyT_one (i := 6) (by kernel_rfl) rfl (by rfl) ?_
      have hbP : Below w8.heap.size w8 s2 := hB_0_s2.trans ((hB_s2_s2).mono (hB_0_s2).size)
      obtain ⟨w103, F9, hrun, hGn, hF9, hF9', hDn⟩ := (HD8.out.below hbP).putR (by have := HN5'.out; simp [maxLen]; omega) ⟨c1, c2, c3, c4⟩ HC.out s8 L HLn.out w5.heap.size (Nat.le_trans HB8.out.size hbP.size) HFR.out (by rw [HS8.out]; exact HK8.out.below hbP)
      rw [HS8.out] at hrun hF9'
      change Sem.run Try.prog (Instr.mapUpdate 59 (.map (some mr)) (.agg #[.int .i64 c1, .int .i64 c2, .int .i64 c3, .int .i64 c4]) (.slice a8 L.length cp8)) s2 = _ at hrun
      refine wp_mapset1 (w' := w103) 59 (.tmp 57) (.tmp 58) (.tmp 59) rfl (m := .map (some mr)) (k := .agg #[.int .i64 c1, .int .i64 c2, .int .i64 c3, .int .i64 c4]) (v := .slice a8 L.length cp8) (by kernel_rfl) (by kernel_rfl) (by kernel_rfl) hrun ?_
      have hGG := (Gr.of_below (F := fun b => b = mr) hbP).trans hGn (fun _ h => .inl h)
      clear hrun hGn hbP
      refine ⟨fun h => absurd h (by decide), ?_⟩
      try simp only [Act.put, rgA, rgB, rgC, rgD, rgE, rgF]
      refine wpAnyT_done (by kernel_rfl) ?_ _
      obtain ⟨w9, rfl⟩ : ∃ x, x = w103 := ⟨_, rfl⟩
      have HG9 := Lib.hid hGG
      have HF9 := Lib.hid hF9
      clear hGG hC8 hF9 hF9'
      rw [show (if ((fun x => if x = (⟨c1, c2, c3, c4⟩ : C4) then none else rd x) ⟨c1, c2, c3, c4⟩).isSome = true then n5 else n5 + 1) = n5 + 1 from by simp] at hDn
      have hrx9 := (hDn.sls ⟨c1, c2, c3, c4⟩ s8 L (if_pos rfl) (if_pos rfl)).rd
      rw [HS8.out] at hrx9
      have HD9 := Lib.hid (hDn.congrR (rd' := setR rd ⟨c1, c2, c3, c4⟩ l) (fun x => by
        unfold setR
        rw [HLe.out]
        by_cases e : x = (⟨c1, c2, c3, c4⟩ : C4)
        · simp only [if_pos e]
        · simp only [if_neg e]))
      have HRX9 := Lib.hid hrx9
      have HKB9 := Lib.hid (blk_gr HG9.out HKB8.out (fun e => by have h1 := HF0.out; rw [e, HD8.out.fr] at h1; cases h1))
      have HF90 := Lib.hid (show F9 w.heap.size = 0 from (HF9.out _ HW5.out).trans HF0.out)
      have HJ9 := Lib.hid (show DepJ F9 w9 p mr ms (n5 + 1) (K + 2 * 0) (setR rd ⟨c1, c2, c3, c4⟩ l) (rsAdd (fun x => if x = (⟨c1, c2, c3, c4⟩ : C4) then none else rd x) ⟨c1, c2, c3, c4⟩ (L.take 0)) from
        ⟨k5, _, ib5, HD9.out.congr (fun d y => by rw [List.take_zero, rsAdd_nil]), fun d hd => by obtain ⟨y, hy⟩ := HNE5.out d hd; exact ⟨y, by rw [List.take_zero, rsAdd_nil]; exact hy⟩⟩)
      have hl200 := HLn.out
      clear hDn hrx9
      go_wp2_with fail
      go_loopw [11, 62] (fun _ i wr => ∃ (j : Nat) (Fj : Nat → Nat), j ≤ L.length ∧ i = .int .i64 j ∧ (∀ b, b < w9.heap.size → Fj b = F9 b) ∧ DepJ Fj wr p mr ms (n5 + 1) (K + 2 * j) (setR rd ⟨c1, c2, c3, c4⟩ l) (rsAdd (fun x => if x = (⟨c1, c2, c3, c4⟩ : C4) then none else rd x) ⟨c1, c2, c3, c4⟩ (L.take j)) ∧ Gr (fun b => F9 b = 3 ∨ F9 b = 4) w9 wr) (fun _ i _ => L.length - (intOf i).toNat)
      case atStart => exact ⟨0, F9, Nat.zero_le _, rfl, fun _ _ => rfl, HJ9.out, Gr.refl _ _⟩
      case round =>
        obtain ⟨j, Fj, hj, rfl, hFj, hJ, hG⟩ := hrel
        have HG := Lib.hid hG
        have HFJ := Lib.hid hFj
        have HFJ0 := Lib.hid (show Fj w.heap.size = 0 from (hFj _ (blk_lt HKB9.out)).trans HF90.out)
        have HKBr := Lib.hid (blk_gr hG HKB9.out (show ¬ (F9 w.heap.size = 3 ∨ F9 w.heap.size = 4) from by rw [HF90.out]; decide))
        by_cases hlt : j < L.length
        · have hjI : (j : Int) < (L.length : Int) := by omega
          have hx3 := HRX9.out.gr hG (fun b e => ⟨HD9.out.dom b (by rw [e]; decide), by omega⟩) (fun _ e => e)
          obtain ⟨b, o, rfl, -, m0, m1, m2, m3, hqok⟩ := cell_at hx3 j hlt
          have HTK := Lib.hid (show L.take (j + 1) = L.take j ++ [L[j]] from List.take_succ_eq_append_getElem hlt)
          have HQ := Lib.hid hqok
          clear hqok hx3 hG hFj
          generalize L[j] = q at m0 m1 m2 m3 HTK HQ
          obtain ⟨k, sl, ib, hD, hne⟩ := hJ
          have HNEj := Lib.hid hne
          obtain ⟨q1, q2, q3, q4⟩ := q
          simp only at m0 m1 m2 m3
          obtain ⟨iq, hiq⟩ : ∃ iq, ib ⟨q1, q2, q3, q4⟩ = iq := ⟨_, rfl⟩
          have HIB := Lib.hid hiq
          have hBa := (Below.refl wr.heap.size wr).alloc (Nat.le_refl _) (.cells #[.int .i64 q1, .int .i64 q2, .int .i64 q3, .int .i64 q4] 38)
          have hqb := heap_alloc_new wr (.cells #[.int .i64 q1, .int .i64 q2, .int .i64 q3, .int .i64 q4] 38)
          have HFq := Lib.hid (show Fj wr.heap.size = 0 from by
            by_cases e : Fj wr.heap.size = 0
            · exact e
            · have := hD.dom _ e; omega)
          have HGa := Lib.hid (HG.out.trans (Gr.of_below (F := fun _ => False) hBa) (fun _ h => h.elim))
          have HDa := Lib.hid (hD.below hBa)
          have HQBa := Lib.hid hqb
          have HCBa := Lib.hid ((hBa.block _ (blk_lt HKBr.out)).trans HKBr.out)
          have HFD := Lib.hid (show ∀ b, wr.heap.size ≤ b → Fj b = 0 from fun b hb => by
            by_cases e : Fj b = 0
            · exact e
            · have := hD.dom b e; omega)
          have HWR := Lib.hid (show w9.heap.size ≤ wr.heap.size from HG.out.size)
          clear hD hne hBa hqb hiq
          go_upto_region 16 with fail
          generalize World.alloc _ _ = wa at *
          have hCa : Cells [(⟨p, 1, none⟩, .map (some ms)), (⟨w.heap.size, 0, none⟩, .int .i64 c1), (⟨w.heap.size, 1, none⟩, .int .i64 c2), (⟨w.heap.size, 2, none⟩, .int .i64 c3), (⟨w.heap.size, 3, none⟩, .int .i64 c4), (⟨wr.heap.size, 0, none⟩, .int .i64 q1), (⟨wr.heap.size, 1, none⟩, .int .i64 q2), (⟨wr.heap.size, 2, none⟩, .int .i64 q3), (⟨wr.heap.size, 3, none⟩, .int .i64 q4)] wa := ⟨blk_cell HDa.out.row 1, blk_cell HCBa.out 0, blk_cell HCBa.out 1, blk_cell HCBa.out 2, blk_cell HCBa.out 3, blk_cell HQBa.out 0, blk_cell HQBa.out 1, blk_cell HQBa.out 2, blk_cell HQBa.out 3, trivial⟩
          cases iq with
          | none =>
            refine wp_region_T (Cells [(⟨p, 1, none⟩, .map (some ms)), (⟨w.heap.size, 0, none⟩, .int .i64 c1), (⟨w.heap.size, 1, none⟩, .int .i64 c2), (⟨w.heap.size, 2, none⟩, .int .i64 c3), (⟨w.heap.size, 3, none⟩, .int .i64 c4), (⟨wr.heap.size, 0, none⟩, .int .i64 q1), (⟨wr.heap.size, 1, none⟩, .int .i64 q2), (⟨wr.heap.size, 2, none⟩, .int .i64 q3), (⟨wr.heap.size, 3, none⟩, .int .i64 q4)]) (fun _ => false) (by kernel_rfl) ?_
            have hSss4 := Cells.drew hCa
            have hB_0_s4 : Below wa.heap.size wa wa.drew := below_drew _
            generalize wa.drew = s4 at hSss4 hB_0_s4 ⊢
            have hB_s4_s4 := Below.refl s4.heap.size s4
            refine wpAnyT_pure (i := 0) (v := ?_) rfl (by kernel_rfl) (by kernel_rfl) (by kernel_rfl) (fun _ _ _ h => h) (by rfl) ?_ ?_
            rotate_left
            · intro w; go_simp; try with_reducible rfl
            simp only [Act.put, rgA, rgB, rgC, rgD, rgE, rgF]
            refine wpAnyT_pure (i := 1) (v := ?_) rfl (by kernel_rfl) (by kernel_rfl) (by kernel_rfl) (fun _ _ _ h => h) (by rfl) ?_ ?_
            rotate_left
            · intro w; go_simp; try with_reducible rfl
            simp only [Act.put, rgA, rgB, rgC, rgD, rgE, rgF]
            refine wpAnyT_pure (i := 2) (v := ?_) rfl (by kernel_rfl) (by kernel_rfl) (by kernel_rfl) (fun _ _ _ h => h) (by rfl) ?_ ?_
            rotate_left
            · intro w; go_simp; try with_reducible rfl
            simp only [Act.put, rgA, rgB, rgC, rgD, rgE, rgF]
            refine wpAnyT_loadW (i := 3) (v := ?_) rfl (by kernel_rfl) (by kernel_rfl) (by kernel_rfl) (by kernel_rfl) (by kernel_rfl) (fun _ _ _ h => h) (Or.inl ⟨by rfl, ?_⟩) hSss4 ?_
            rotate_left
            · intro w hSw; obtain ⟨e0, e1, e2, e3, e4, e5, e6, e7, e8, -⟩ := hSw; go_simp; try with_reducible rfl
            simp only [Act.put, rgA, rgB, rgC, rgD, rgE, rgF]
            refine wpAnyT_loadW (i := 4) (v := ?_) rfl (by kernel_rfl) (by kernel_rfl) (by kernel_rfl) (by kernel_rfl) (by kernel_rfl) (fun _ _ _ h => h) (Or.inl ⟨by rfl, ?_⟩) hSss4 ?_
            rotate_left
            · intro w hSw; obtain ⟨e0, e1, e2, e3, e4, e5, e6, e7, e8, -⟩ := hSw; go_simp; try with_reducible rfl
            simp only [Act.put, rgA, rgB, rgC, rgD, rgE, rgF]
            refine wpAnyT_one (i := 5) (by kernel_rfl) rfl (by rfl) ?_
            have hlk := (HDa.out.below (hB_0_s4.trans ((hB_s4_s4).mono (hB_0_s4).size))).lookS ⟨q1, q2, q3, q4⟩ HQ.out
            rw [HIB.out] at hlk
            change Sem.run Try.prog (Instr.lookup 60 (.map (some ms)) (.agg #[.int .i64 q1, .int .i64 q2, .int .i64 q3, .int .i64 q4]) false) s4 = _ at hlk
            refine wp_value (v := .map none) (w' := s4) (by go_simp) ?_
            clear hlk
            refine ⟨fun _ h => h, ?_⟩
            try simp only [Act.put, rgA, rgB, rgC, rgD, rgE, rgF]
            refine wpAnyT_one (i := 6) (by kernel_rfl) rfl (by rfl) ?_
            have hqn := run_eql_map_nil (P := Try.prog) s4 57 _ _ none Try.underlying57
            refine wp_value (v := .bool true) (w' := s4) (by go_simp) ?_
            clear hqn
            refine ⟨fun _ h => h, ?_⟩
            try simp only [Act.put, rgA, rgB, rgC, rgD, rgE, rgF]
            refine wpAnyT_done (by kernel_rfl) ?_ _
            have hbP : Below wa.heap.size wa s4 := hB_0_s4.trans ((hB_s4_s4).mono (hB_0_s4).size)
            obtain ⟨wb, rfl⟩ : ∃ x, x = s4 := ⟨_, rfl⟩
            have HBb := Lib.hid hbP
            clear hbP hCa
            have HDb := Lib.hid (HDa.out.below HBb.out)
            have HCBb := Lib.hid ((HBb.out.block _ (blk_lt HCBa.out)).trans HCBa.out)
            have HQBb := Lib.hid ((HBb.out.block _ (blk_lt HQBa.out)).trans HQBa.out)
            have HGb := Lib.hid ((HGa.out.trans (Gr.of_below (F := fun _ => False) HBb.out) (fun _ h => h.elim)))
            go_wp2_with fail
            have hCb : Cells [(⟨p, 1, none⟩, .map (some ms)), (⟨wr.heap.size, 0, none⟩, .int .i64 q1), (⟨wr.heap.size, 1, none⟩, .int .i64 q2), (⟨wr.heap.size, 2, none⟩, .int .i64 q3), (⟨wr.heap.size, 3, none⟩, .int .i64 q4)] wb := ⟨blk_cell HDb.out.row 1, blk_cell HQBb.out 0, blk_cell HQBb.out 1, blk_cell HQBb.out 2, blk_cell HQBb.out 3, trivial⟩
            have HWB := Lib.hid (show wr.heap.size < wb.heap.size from blk_lt HQBb.out)
            refine wp_region_T (Cells [(⟨p, 1, none⟩, .map (some ms)), (⟨wr.heap.size, 0, none⟩, .int .i64 q1), (⟨wr.heap.size, 1, none⟩, .int .i64 q2), (⟨wr.heap.size, 2, none⟩, .int .i64 q3), (⟨wr.heap.size, 3, none⟩, .int .i64 q4)]) (fun i => i == 6) (by kernel_rfl) ?_
            have hSss7 := Cells.drew hCb
            have hB_0_s7 : Below wb.heap.size wb wb.drew := below_drew _
            generalize wb.drew = s7 at hSss7 hB_0_s7 ⊢
            have hB_s7_s7 := Below.refl s7.heap.size s7
            refine wpAnyT_pure (i := 0) (v := ?_) rfl (by kernel_rfl) (by kernel_rfl) (by kernel_rfl) (fun _ _ _ h => h) (by rfl) ?_ ?_
            rotate_left
            · intro w; go_simp; try with_reducible rfl
            simp only [Act.put, rgA, rgB, rgC, rgD, rgE, rgF]
            refine wpAnyT_pure (i := 1) (v := ?_) rfl (by kernel_rfl) (by kernel_rfl) (by kernel_rfl) (fun _ _ _ h => h) (by rfl) ?_ ?_
            rotate_left
            · intro w; go_simp; try with_reducible rfl
            simp only [Act.put, rgA, rgB, rgC, rgD, rgE, rgF]
            refine wpAnyT_pure (i := 2) (v := ?_) rfl (by kernel_rfl) (by kernel_rfl) (by kernel_rfl) (fun _ _ _ h => h) (by rfl) ?_ ?_
            rotate_left
            · intro w; go_simp; try with_reducible rfl
            simp only [Act.put, rgA, rgB, rgC, rgD, rgE, rgF]
            refine wpAnyT_loadW (i := 3) (v := ?_) rfl (by kernel_rfl) (by kernel_rfl) (by kernel_rfl) (by kernel_rfl) (by kernel_rfl) (fun _ _ _ h => h) (Or.inl ⟨by rfl, ?_⟩) hSss7 ?_
            rotate_left
            · intro w hSw; obtain ⟨e0, e1, e2, e3, e4, -⟩ := hSw; go_simp; try with_reducible rfl
            simp only [Act.put, rgA, rgB, rgC, rgD, rgE, rgF]
            refine wpAnyT_loadW (i := 4) (v := ?_) rfl (by kernel_rfl) (by kernel_rfl) (by kernel_rfl) (by kernel_rfl) (by kernel_rfl) (fun _ _ _ h => h) (Or.inl ⟨by rfl, ?_⟩) hSss7 ?_
            rotate_left
            · intro w hSw; obtain ⟨e0, e1, e2, e3, e4, -⟩ := hSw; go_simp; try with_reducible rfl
            simp only [Act.put, rgA, rgB, rgC, rgD, rgE, rgF]
            refine wpAnyT_one (i := 5) (by kernel_rfl) rfl (by rfl) ?_
            obtain ⟨b5, hb5⟩ : ∃ b, s7.heap.size = b := ⟨_, rfl⟩
            have hge5 : wb.heap.size ≤ b5 := hb5 ▸ (hB_0_s7.trans ((hB_s7_s7).mono (hB_0_s7).size)).size
            refine wp_newmap 57 rfl hb5 ?_
            intro w108 hX hN5
            have hlt5 : b5 < w108.heap.size := hN5.lt
            have hB_s7_w108 := below_step hB_s7_s7 hX
            have hB_w108_w108 := Below.refl w108.heap.size w108
            have hSsw108 := Cells.below hB_s7_w108 hSss7
            clear hX
            refine ⟨fun _ _ => hSsw108, ?_⟩
            try simp only [Act.put, rgA, rgB, rgC, rgD, rgE, rgF]
            refine wpAnyT_one (i := 6) (by kernel_rfl) rfl (by rfl) ?_
            have hbP : Below wb.heap.size wb w108 := hB_0_s7.trans ((hB_s7_w108).mono (hB_0_s7).size)
            have hfb : Fj b5 = 0 := HFD.out b5 (by have := HWB.out; omega)
            obtain ⟨w109, F6, hrun, hGn, hF6, k6, hDn⟩ := (HDb.out.below hbP).newI (by have := HKK.out; have := HLn.out; omega) ⟨q1, q2, q3, q4⟩ HQ.out HIB.out b5 hfb (Nat.lt_of_lt_of_le hlt5 (hB_w108_w108).size) (hN5.below hB_w108_w108)
            change Sem.run Try.prog (Instr.mapUpdate 60 (.map (some ms)) (.agg #[.int .i64 q1, .int .i64 q2, .int .i64 q3, .int .i64 q4]) (.map (some b5))) w108 = _ at hrun
            refine wp_mapset1 (w' := w109) 60 (.tmp 76) (.tmp 77) (.tmp 78) rfl (m := .map (some ms)) (k := .agg #[.int .i64 q1, .int .i64 q2, .int .i64 q3, .int .i64 q4]) (v := .map (some b5)) (by kernel_rfl) (by kernel_rfl) (by kernel_rfl) hrun ?_
            have hGG := (Gr.of_below (F := fun b => Fj b = 3 ∨ Fj b = 4) hbP).trans hGn (fun _ h => .inl h)
            clear hrun hGn hbP
            refine ⟨fun h => absurd h (by decide), ?_⟩
            try simp only [Act.put, rgA, rgB, rgC, rgD, rgE, rgF]
            refine wpAnyT_done (by kernel_rfl) ?_ _
            obtain ⟨w17, rfl⟩ : ∃ x, x = w109 := ⟨_, rfl⟩
            have HG17 := Lib.hid hGG
            have HD17 := Lib.hid hDn
            have HF17 := Lib.hid (show ∀ x, x < wb.heap.size → F6 x = Fj x from fun x hx => hF6 x (by omega))
            clear hGG hCb hDn hF6 hfb hlt5 hge5 hN5
            go_wp2_with fail
            have HQB7 := Lib.hid (blk_gr HG17.out HQBb.out (show ¬ (Fj wr.heap.size = 3 ∨ Fj wr.heap.size = 4) from by rw [HFq.out]; decide))
            have HCB7 := Lib.hid (blk_gr HG17.out HCBb.out (show ¬ (Fj w.heap.size = 3 ∨ Fj w.heap.size = 4) from by rw [HFJ0.out]; decide))
            have hC7 : Cells [(⟨p, 1, none⟩, .map (some ms)), (⟨w.heap.size, 0, none⟩, .int .i64 c1), (⟨w.heap.size, 1, none⟩, .int .i64 c2), (⟨w.heap.size, 2, none⟩, .int .i64 c3), (⟨w.heap.size, 3, none⟩, .int .i64 c4), (⟨wr.heap.size, 0, none⟩, .int .i64 q1), (⟨wr.heap.size, 1, none⟩, .int .i64 q2), (⟨wr.heap.size, 2, none⟩, .int .i64 q3), (⟨wr.heap.size, 3, none⟩, .int .i64 q4)] w17 := ⟨blk_cell HD17.out.row 1, blk_cell HCB7.out 0, blk_cell HCB7.out 1, blk_cell HCB7.out 2, blk_cell HCB7.out 3, blk_cell HQB7.out 0, blk_cell HQB7.out 1, blk_cell HQB7.out 2, blk_cell HQB7.out 3, trivial⟩
            have HIB7 := Lib.hid (show (if (⟨q1, q2, q3, q4⟩ : C4) = ⟨q1, q2, q3, q4⟩ then some b5 else ib ⟨q1, q2, q3, q4⟩) = some b5 from if_pos rfl)
            refine wp_region_T (Cells [(⟨p, 1, none⟩, .map (some ms)), (⟨w.heap.size, 0, none⟩, .int .i64 c1), (⟨w.heap.size, 1, none⟩, .int .i64 c2), (⟨w.heap.size, 2, none⟩, .int .i64 c3), (⟨w.heap.size, 3, none⟩, .int .i64 c4), (⟨wr.heap.size, 0, none⟩, .int .i64 q1), (⟨wr.heap.size, 1, none⟩, .int .i64 q2), (⟨wr.heap.size, 2, none⟩, .int .i64 q3), (⟨wr.heap.size, 3, none⟩, .int .i64 q4)]) (fun i => i == 7) (by kernel_rfl) ?_
            have hSss5 := Cells.drew hC7
            have hB_0_s5 : Below w17.heap.size w17 w17.drew := below_drew _
            generalize w17.drew = s5 at hSss5 hB_0_s5 ⊢
            have hB_s5_s5 := Below.refl s5.heap.size s5
            refine wpAnyT_pure (i := 0) (v := ?_) rfl (by kernel_rfl) (by kernel_rfl) (by kernel_rfl) (fun _ _ _ h => h) (by rfl) ?_ ?_
            rotate_left
            · intro w; go_simp; try with_reducible rfl
            simp only [Act.put, rgA, rgB, rgC, rgD, rgE, rgF]
            refine wpAnyT_pure (i := 1) (v := ?_) rfl (by kernel_rfl) (by kernel_rfl) (by kernel_rfl) (fun _ _ _ h => h) (by rfl) ?_ ?_
            rotate_left
            · intro w; go_simp; try with_reducible rfl
            simp only [Act.put, rgA, rgB, rgC, rgD, rgE, rgF]
            refine wpAnyT_pure (i := 2) (v := ?_) rfl (by kernel_rfl) (by kernel_rfl) (by kernel_rfl) (fun _ _ _ h => h) (by rfl) ?_ ?_
            rotate_left
            · intro w; go_simp; try with_reducible rfl
            simp only [Act.put, rgA, rgB, rgC, rgD, rgE, rgF]
            refine wpAnyT_loadW (i := 3) (v := ?_) rfl (by kernel_rfl) (by kernel_rfl) (by kernel_rfl) (by kernel_rfl) (by kernel_rfl) (fun _ _ _ h => h) (Or.inl ⟨by rfl, ?_⟩) hSss5 ?_
            rotate_left
            · intro w hSw; obtain ⟨e0, e1, e2, e3, e4, e5, e6, e7, e8, -⟩ := hSw; go_simp; try with_reducible rfl
            simp only [Act.put, rgA, rgB, rgC, rgD, rgE, rgF]
            refine wpAnyT_loadW (i := 4) (v := ?_) rfl (by kernel_rfl) (by kernel_rfl) (by kernel_rfl) (by kernel_rfl) (by kernel_rfl) (fun _ _ _ h => h) (Or.inl ⟨by rfl, ?_⟩) hSss5 ?_
            rotate_left
            · intro w hSw; obtain ⟨e0, e1, e2, e3, e4, e5, e6, e7, e8, -⟩ := hSw; go_simp; try with_reducible rfl
            simp only [Act.put, rgA, rgB, rgC, rgD, rgE, rgF]
            refine wpAnyT_loadW (i := 6) (v := ?_) rfl (by kernel_rfl) (by kernel_rfl) (by kernel_rfl) (by kernel_rfl) (by kernel_rfl) (fun _ _ _ h => h) (Or.inl ⟨by rfl, ?_⟩) hSss5 ?_
            rotate_left
            · intro w hSw; obtain ⟨e0, e1, e2, e3, e4, e5, e6, e7, e8, -⟩ := hSw; go_simp; try with_reducible rfl
            simp only [Act.put, rgA, rgB, rgC, rgD, rgE, rgF]
            refine wpAnyT_one (i := 5) (by kernel_rfl) rfl (by rfl) ?_
            have hlk := (HD17.out.below (hB_0_s5.trans ((hB_s5_s5).mono (hB_0_s5).size))).lookS ⟨q1, q2, q3, q4⟩ HQ.out
            rw [(if_pos rfl)] at hlk
            change Sem.run Try.prog (Instr.lookup 60 (.map (some ms)) (.agg #[.int .i64 q1, .int .i64 q2, .int .i64 q3, .int .i64 q4]) false) s5 = _ at hlk
            refine wp_value (v := .map (some b5)) (w' := s5) (by go_simp) ?_
            clear hlk
            refine ⟨fun _ h => h, ?_⟩
            try simp only [Act.put, rgA, rgB, rgC, rgD, rgE, rgF]
            refine wpAnyT_one (i := 7) (by kernel_rfl) rfl (by rfl) ?_
            have hbP : Below w17.heap.size w17 s5 := hB_0_s5.trans ((hB_s5_s5).mono (hB_0_s5).size)
            obtain ⟨w106, hrun, hGn, hDn⟩ := (HD17.out.below hbP).putI (by have := HKK.out; have := HL2.out; omega) ⟨q1, q2, q3, q4⟩ ⟨c1, c2, c3, c4⟩ b5 (if_pos rfl) HC.out
            change Sem.run Try.prog (Instr.mapUpdate 57 (.map (some b5)) (.agg #[.int .i64 c1, .int .i64 c2, .int .i64 c3, .int .i64 c4]) (.bool true)) s5 = _ at hrun
            refine wp_mapset1 (w' := w106) 57 (.tmp 84) (.tmp 85) (.const (.bool true)) rfl (m := .map (some b5)) (k := .agg #[.int .i64 c1, .int .i64 c2, .int .i64 c3, .int .i64 c4]) (v := .bool true) (by kernel_rfl) (by kernel_rfl) (by kernel_rfl) hrun ?_
            have hGG := (Gr.of_below (F := (fun b => F6 b = 3 ∨ F6 b = 4)) hbP).trans hGn (fun _ h => .inl h)
            clear hrun hGn hbP
            refine ⟨fun h => absurd h (by decide), ?_⟩
            try simp only [Act.put, rgA, rgB, rgC, rgD, rgE, rgF]
            refine wpAnyT_done (by kernel_rfl) ?_ _
            obtain ⟨wz, rfl⟩ : ∃ x, x = w106 := ⟨_, rfl⟩
            have HGZ := Lib.hid hGG
            have HDZ := Lib.hid hDn
            clear hGG hDn hC7
            go_wp2_with fail
            go_roundw
            case rel =>
              refine ⟨j + 1, F6, by omega, by go_num, fun b hb => (HF17.out b (by have := HWB.out; have := HWR.out; omega)).trans (HFJ.out b hb), ⟨k6, sl, fun x => if x = (⟨q1, q2, q3, q4⟩ : C4) then some b5 else ib x, ?_, ?_⟩, (HGb.out.trans HG17.out (fun x e => by
                by_cases hx : x < w9.heap.size
                · left; rw [← HFJ.out x hx]; exact e
                · right; omega)).trans HGZ.out (fun x e => by
                by_cases hx : x < w9.heap.size
                · left; rw [← HFJ.out x hx, ← HF17.out x (by have := HWB.out; have := HWR.out; omega)]; exact e
                · right; omega)⟩
              · exact ((HDZ.out).congr (fun x y => by rw [HTK.out]; exact rsAdd_snoc _ _ _ _ _ _)).up (by omega)
              · intro d hd
                by_cases e : d = (⟨q1, q2, q3, q4⟩ : C4)
                · exact ⟨⟨c1, c2, c3, c4⟩, by rw [HTK.out, rsAdd_snoc, e]; simp⟩
                · simp only [if_neg e] at hd
                  obtain ⟨y, hy⟩ := HNEj.out d hd
                  exact ⟨y, by rw [HTK.out, rsAdd_snoc, hy]; rfl⟩
            case measure => simp [intOf]; omega
          | some b0 =>
            refine wp_region_T (Cells [(⟨p, 1, none⟩, .map (some ms)), (⟨w.heap.size, 0, none⟩, .int .i64 c1), (⟨w.heap.size, 1, none⟩, .int .i64 c2), (⟨w.heap.size, 2, none⟩, .int .i64 c3), (⟨w.heap.size, 3, none⟩, .int .i64 c4), (⟨wr.heap.size, 0, none⟩, .int .i64 q1), (⟨wr.heap.size, 1, none⟩, .int .i64 q2), (⟨wr.heap.size, 2, none⟩, .int .i64 q3), (⟨wr.heap.size, 3, none⟩, .int .i64 q4)]) (fun _ => false) (by kernel_rfl) ?_
            have hSss10 := Cells.drew hCa
            have hB_0_s10 : Below wa.heap.size wa wa.drew := below_drew _
            generalize wa.drew = s10 at hSss10 hB_0_s10 ⊢
            have hB_s10_s10 := Below.refl s10.heap.size s10
            refine wpAnyT_pure (i := 0) (v := ?_) rfl (by kernel_rfl) (by kernel_rfl) (by kernel_rfl) (fun _ _ _ h => h) (by rfl) ?_ ?_
            rotate_left
            · intro w; go_simp; try with_reducible rfl
            simp only [Act.put, rgA, rgB, rgC, rgD, rgE, rgF]
            refine wpAnyT_pure (i := 1) (v := ?_) rfl (by kernel_rfl) (by kernel_rfl) (by kernel_rfl) (fun _ _ _ h => h) (by rfl) ?_ ?_
            rotate_left
            · intro w; go_simp; try with_reducible rfl
            simp only [Act.put, rgA, rgB, rgC, rgD, rgE, rgF]
            refine wpAnyT_pure (i := 2) (v := ?_) rfl (by kernel_rfl) (by kernel_rfl) (by kernel_rfl) (fun _ _ _ h => h) (by rfl) ?_ ?_
            rotate_left
            · intro w; go_simp; try with_reducible rfl
            simp only [Act.put, rgA, rgB, rgC, rgD, rgE, rgF]
            refine wpAnyT_loadW (i := 3) (v := ?_) rfl (by kernel_rfl) (by kernel_rfl) (by kernel_rfl) (by kernel_rfl) (by kernel_rfl) (fun _ _ _ h => h) (Or.inl ⟨by rfl, ?_⟩) hSss10 ?_
            rotate_left
            · intro w hSw; obtain ⟨e0, e1, e2, e3, e4, e5, e6, e7, e8, -⟩ := hSw; go_simp; try with_reducible rfl
            simp only [Act.put, rgA, rgB, rgC, rgD, rgE, rgF]
            refine wpAnyT_loadW (i := 4) (v := ?_) rfl (by kernel_rfl) (by kernel_rfl) (by kernel_rfl) (by kernel_rfl) (by kernel_rfl) (fun _ _ _ h => h) (Or.inl ⟨by rfl, ?_⟩) hSss10 ?_
            rotate_left
            · intro w hSw; obtain ⟨e0, e1, e2, e3, e4, e5, e6, e7, e8, -⟩ := hSw; go_simp; try with_reducible rfl
            simp only [Act.put, rgA, rgB, rgC, rgD, rgE, rgF]
            refine wpAnyT_one (i := 5) (by kernel_rfl) rfl (by rfl) ?_
            have hlk := (HDa.out.below (hB_0_s10.trans ((hB_s10_s10).mono (hB_0_s10).size))).lookS ⟨q1, q2, q3, q4⟩ HQ.out
            rw [HIB.out] at hlk
            change Sem.run Try.prog (Instr.lookup 60 (.map (some ms)) (.agg #[.int .i64 q1, .int .i64 q2, .int .i64 q3, .int .i64 q4]) false) s10 = _ at hlk
            refine wp_value (v := .map (some b0)) (w' := s10) (by go_simp) ?_
            clear hlk
            refine ⟨fun _ h => h, ?_⟩
            try simp only [Act.put, rgA, rgB, rgC, rgD, rgE, rgF]
            refine wpAnyT_one (i := 6) (by kernel_rfl) rfl (by rfl) ?_
            have hqn := run_eql_map_nil (P := Try.prog) s10 57 _ _ (some b0) Try.underlying57
            refine wp_value (v := .bool false) (w' := s10) (by go_simp) ?_
            clear hqn
            refine ⟨fun _ h => h, ?_⟩
            try simp only [Act.put, rgA, rgB, rgC, rgD, rgE, rgF]
            refine wpAnyT_done (by kernel_rfl) ?_ _
            have hbP : Below wa.heap.size wa s10 := hB_0_s10.trans ((hB_s10_s10).mono (hB_0_s10).size)
            obtain ⟨wb, rfl⟩ : ∃ x, x = s10 := ⟨_, rfl⟩
            have HBb := Lib.hid hbP
            clear hbP hCa
            have HDb := Lib.hid (HDa.out.below HBb.out)
            have HCBb := Lib.hid ((HBb.out.block _ (blk_lt HCBa.out)).trans HCBa.out)
            have HQBb := Lib.hid ((HBb.out.block _ (blk_lt HQBa.out)).trans HQBa.out)
            have HGb := Lib.hid ((HGa.out.trans (Gr.of_below (F := fun _ => False) HBb.out) (fun _ h => h.elim)))
            go_wp2_with fail
            have hCb : Cells [(⟨p, 1, none⟩, .map (some ms)), (⟨w.heap.size, 0, none⟩, .int .i64 c1), (⟨w.heap.size, 1, none⟩, .int .i64 c2), (⟨w.heap.size, 2, none⟩, .int .i64 c3), (⟨w.heap.size, 3, none⟩, .int .i64 c4), (⟨wr.heap.size, 0, none⟩, .int .i64 q1), (⟨wr.heap.size, 1, none⟩, .int .i64 q2), (⟨wr.heap.size, 2, none⟩, .int .i64 q3), (⟨wr.heap.size, 3, none⟩, .int .i64 q4)] wb := ⟨blk_cell HDb.out.row 1, blk_cell HCBb.out 0, blk_cell HCBb.out 1, blk_cell HCBb.out 2, blk_cell HCBb.out 3, blk_cell HQBb.out 0, blk_cell HQBb.out 1, blk_cell HQBb.out 2, blk_cell HQBb.out 3, trivial⟩
            refine wp_region_T (Cells [(⟨p, 1, none⟩, .map (some ms)), (⟨w.heap.size, 0, none⟩, .int .i64 c1), (⟨w.heap.size, 1, none⟩, .int .i64 c2), (⟨w.heap.size, 2, none⟩, .int .i64 c3), (⟨w.heap.size, 3, none⟩, .int .i64 c4), (⟨wr.heap.size, 0, none⟩, .int .i64 q1), (⟨wr.heap.size, 1, none⟩, .int .i64 q2), (⟨wr.heap.size, 2, none⟩, .int .i64 q3), (⟨wr.heap.size, 3, none⟩, .int .i64 q4)]) (fun i => i == 7) (by kernel_rfl) ?_
            have hSss11 := Cells.drew hCb
            have hB_0_s11 : Below wb.heap.size wb wb.drew := below_drew _
            generalize wb.drew = s11 at hSss11 hB_0_s11 ⊢
            have hB_s11_s11 := Below.refl s11.heap.size s11
            refine wpAnyT_pure (i := 0) (v := ?_) rfl (by kernel_rfl) (by kernel_rfl) (by kernel_rfl) (fun _ _ _ h => h) (by rfl) ?_ ?_
            rotate_left
            · intro w; go_simp; try with_reducible rfl
            simp only [Act.put, rgA, rgB, rgC, rgD, rgE, rgF]
            refine wpAnyT_pure (i := 1) (v := ?_) rfl (by kernel_rfl) (by kernel_rfl) (by kernel_rfl) (fun _ _ _ h => h) (by rfl) ?_ ?_
            rotate_left
            · intro w; go_simp; try with_reducible rfl
            simp only [Act.put, rgA, rgB, rgC, rgD, rgE, rgF]
            refine wpAnyT_pure (i := 2) (v := ?_) rfl (by kernel_rfl) (by kernel_rfl) (by kernel_rfl) (fun _ _ _ h => h) (by rfl) ?_ ?_
            rotate_left
            · intro w; go_simp; try with_reducible rfl
            simp only [Act.put, rgA, rgB, rgC, rgD, rgE, rgF]
            refine wpAnyT_loadW (i := 3) (v := ?_) rfl (by kernel_rfl) (by kernel_rfl) (by kernel_rfl) (by kernel_rfl) (by kernel_rfl) (fun _ _ _ h => h) (Or.inl ⟨by rfl, ?_⟩) hSss11 ?_
            rotate_left
            · intro w hSw; obtain ⟨e0, e1, e2, e3, e4, e5, e6, e7, e8, -⟩ := hSw; go_simp; try with_reducible rfl
            simp only [Act.put, rgA, rgB, rgC, rgD, rgE, rgF]
            refine wpAnyT_loadW (i := 4) (v := ?_) rfl (by kernel_rfl) (by kernel_rfl) (by kernel_rfl) (by kernel_rfl) (by kernel_rfl) (fun _ _ _ h => h) (Or.inl ⟨by rfl, ?_⟩) hSss11 ?_
            rotate_left
            · intro w hSw; obtain ⟨e0, e1, e2, e3, e4, e5, e6, e7, e8, -⟩ := hSw; go_simp; try with_reducible rfl
            simp only [Act.put, rgA, rgB, rgC, rgD, rgE, rgF]
            refine wpAnyT_loadW (i := 6) (v := ?_) rfl (by kernel_rfl) (by kernel_rfl) (by kernel_rfl) (by kernel_rfl) (by kernel_rfl) (fun _ _ _ h => h) (Or.inl ⟨by rfl, ?_⟩) hSss11 ?_
            rotate_left
            · intro w hSw; obtain ⟨e0, e1, e2, e3, e4, e5, e6, e7, e8, -⟩ := hSw; go_simp; try with_reducible rfl
            simp only [Act.put, rgA, rgB, rgC, rgD, rgE, rgF]
            refine wpAnyT_one (i := 5) (by kernel_rfl) rfl (by rfl) ?_
            have hlk := (HDb.out.below (hB_0_s11.trans ((hB_s11_s11).mono (hB_0_s11).size))).lookS ⟨q1, q2, q3, q4⟩ HQ.out
            rw [HIB.out] at hlk
            change Sem.run Try.prog (Instr.lookup 60 (.map (some ms)) (.agg #[.int .i64 q1, .int .i64 q2, .int .i64 q3, .int .i64 q4]) false) s11 = _ at hlk
            refine wp_value (v := .map (some b0)) (w' := s11) (by go_simp) ?_
            clear hlk
            refine ⟨fun _ h => h, ?_⟩
            try simp only [Act.put, rgA, rgB, rgC, rgD, rgE, rgF]
            refine wpAnyT_one (i := 7) (by kernel_rfl) rfl (by rfl) ?_
            have hbP : Below wb.heap.size wb s11 := hB_0_s11.trans ((hB_s11_s11).mono (hB_0_s11).size)
            obtain ⟨w112, hrun, hGn, hDn⟩ := (HDb.out.below hbP).putI (by have := HKK.out; have := HL2.out; omega) ⟨q1, q2, q3, q4⟩ ⟨c1, c2, c3, c4⟩ b0 HIB.out HC.out
            change Sem.run Try.prog (Instr.mapUpdate 57 (.map (some b0)) (.agg #[.int .i64 c1, .int .i64 c2, .int .i64 c3, .int .i64 c4]) (.bool true)) s11 = _ at hrun
            refine wp_mapset1 (w' := w112) 57 (.tmp 84) (.tmp 85) (.const (.bool true)) rfl (m := .map (some b0)) (k := .agg #[.int .i64 c1, .int .i64 c2, .int .i64 c3, .int .i64 c4]) (v := .bool true) (by kernel_rfl) (by kernel_rfl) (by kernel_rfl) hrun ?_
            have hGG := (Gr.of_below (F := (fun b => Fj b = 3 ∨ Fj b = 4)) hbP).trans hGn (fun _ h => .inl h)
            clear hrun hGn hbP
            refine ⟨fun h => absurd h (by decide), ?_⟩
            try simp only [Act.put, rgA, rgB, rgC, rgD, rgE, rgF]
            refine wpAnyT_done (by kernel_rfl) ?_ _
            obtain ⟨wz, rfl⟩ : ∃ x, x = w112 := ⟨_, rfl⟩
            have HGZ := Lib.hid hGG
            have HDZ := Lib.hid hDn
            clear hGG hDn hCb
            go_wp2_with fail
            go_roundw
            case rel =>
              refine ⟨j + 1, Fj, by omega, by go_num, HFJ.out, ⟨k, sl, ib, ?_, ?_⟩, HGb.out.trans HGZ.out (fun x e => by
                by_cases hx : x < w9.heap.size
                · left; rw [← HFJ.out x hx]; exact e
                · right; omega)⟩
              · exact ((HDZ.out).congr (fun x y => by rw [HTK.out]; exact rsAdd_snoc _ _ _ _ _ _)).up (by omega)
              · intro d hd
                obtain ⟨y, hy⟩ := HNEj.out d hd
                exact ⟨y, by rw [HTK.out, rsAdd_snoc, hy]; rfl⟩
            case measure => simp [intOf]; omega
        · obtain rfl : j = L.length := by omega
          rw [List.take_length] at hJ
          have HJ := Lib.hid hJ
          clear hJ hG hFj
          go_wp2_with fail
          go_ret
          unfold SetP
          rw [HCD.out]
          have hG49 : Gr (fun b => F b ≠ 0) w wr := (((((Gr.of_below (F := fun b => F b ≠ 0) HW4.out).trans HG5.out (fun x e => .inl e)).step HB8.out).trans HG9.out (fun x e => .inl (by rw [e, HD8.out.fr]; decide))).trans HG.out (fun x e => by
            by_cases hx : x < w5.heap.size
            · left; rw [← HF9.out x hx]; omega
            · right; have := HW5.out; omega))
          refine ⟨rfl, fun h => absurd rfl h, fun _ => ⟨hG49, Fj, ?_, ?_⟩⟩
          · intro b hb
            have hb5 : b < w5.heap.size := by have := HW5.out; omega
            exact (HFJ.out b (by have := HB8.out.size; have := HG9.out.size; omega)).trans (HF9.out b hb5)
          · have e5 : setM (rd ⟨c1, c2, c3, c4⟩).isSome n = n5 + 1 := by unfold setM; rw [HN5.out]
            obtain ⟨k, sl, ib, hD, hne⟩ := HJ.out
            have erl : ∀ d y, rsOf (setR rd ⟨c1, c2, c3, c4⟩ l) d y = rsAdd (fun x => if x = (⟨c1, c2, c3, c4⟩ : C4) then none else rd x) ⟨c1, c2, c3, c4⟩ L d y := fun d y => by
              rw [rsAdd_all]
              unfold setR
              rw [HLe.out]
            rw [e5]
            exact ⟨k, sl, ib, (hD.congr erl).up (by have := HLn.out; omega), fun d hd => by obtain ⟨y, hy⟩ := hne d hd; exact ⟨y, by rw [erl]; exact hy⟩⟩
  | true =>
    rw [if_neg (by rintro (h | ⟨h, -⟩); exact hbig h; cases h)] at HCD
    clear hbig
    have HFG := Lib.hid (forget47 w4 H4.out ⟨c1, c2, c3, c4⟩ HSR.out HC.out)
    unfold C4.v at HFG
    simp only at HFG
    have HSX := Lib.hid (fun (G : Nat → Prop) (W : World) (hG : Gr G w4 W) (hd : ∀ b, F b = 0 → b < w.heap.size → ¬ G b) => (HX.out.below HW4.out (fun b e => (HS.out b e).1)).gr hG (fun b e => ⟨Nat.lt_of_lt_of_le (HS.out b e).1 HW4.out.size, hd b (HS.out b e).2 (HS.out b e).1⟩) (fun _ e => e))
    go_upto_region 12 with (first
      | (go_at_call 50; refine HFG.out.mono ?_; rintro e w5 ⟨rfl, hG5, hI5⟩; have HG5 := Lib.hid hG5; have HI5 := Lib.hid hI5; clear hG5 hI5 y0 k0 k1 k2 k3)
      | (go_at_call 37; have hxl := HSX.out _ w5 HG5.out (fun b h0 _ h => h h0); rw [HLL.out] at hxl; refine (clone47 w5 a ll cap (l.map C4.d) hxl (fun b e => Nat.lt_of_lt_of_le (HS.out b e).1 (Nat.le_trans HW4.out.size HG5.out.size)) (by have := HL2.out; omega)).mono ?_; rintro e w6 ⟨v6, rfl, hB6, hO6⟩; clear hxl; have HB6 := Lib.hid hB6; have HO6 := Lib.hid hO6; obtain ⟨a6, l6, cp6, hv6, -⟩ := hO6.slice; subst hv6; clear hB6 hO6)
      | (go_at_call 51; refine (sortCells (base := w5.heap.size) w6 _ l HO6.out HB6.out.size (by rw [HLL.out]; have := HL2.out; omega)).mono ?_; rintro e w7 ⟨rfl, ls, hp7, hs7, hK7, hB7⟩; have HB7 := Lib.hid (HB6.out.trans hB7); have HK7 := Lib.hid hK7; have HP7 := Lib.hid hp7; have HS7 := Lib.hid hs7; clear hp7 hs7 hK7 hB7)
      | (go_at_call 52; refine (comp47 (base := w5.heap.size) w7 _ ls HK7.out HB7.out.size (by rw [HP7.out.length_eq, HLL.out]; have := HL2.out; omega)).mono ?_; rintro e w8 ⟨v8, rfl, hK8, hB8⟩; have HB8 := Lib.hid (HB7.out.trans hB8); rw [dedA_srtC HP7.out HS7.out] at hK8; have HK8 := Lib.hid hK8; obtain ⟨a8, cp8, hv8⟩ := hK8.form; obtain ⟨s8, hs8, -⟩ := SlAt.of_slc (F := F) hK8; have HS8 := Lib.hid hs8; subst hv8; clear hK8 hB8 hs8))
    obtain ⟨L, hL⟩ : ∃ L, srtC l = L := ⟨_, rfl⟩
    have HLe := Lib.hid hL
    have HLn := Lib.hid (show L.length ≤ 200 from by rw [← hL]; have := srtC_len l; have := HLL.out; have := HL2.out; omega)
    have HLs := Lib.hid (show Srt L from hL ▸ srt_srtC l)
    rw [hL] at HK8 HS8 ⊢
    obtain ⟨n5, hn5⟩ : ∃ n5, (if (rd ⟨c1, c2, c3, c4⟩).isSome = true then n - 1 else n) = n5 := ⟨_, rfl⟩
    have HN5 := Lib.hid hn5
    have HN5' := Lib.hid (show n5 ≤ 5000 from by rw [← hn5]; have := HNN.out; split <;> omega)
    rw [hn5] at HI5
    obtain ⟨k5, sl5, ib5, hD5, hne5⟩ := HI5.out
    have HNE5 := Lib.hid hne5
    have HFR := Lib.hid (show ∀ b, w5.heap.size ≤ b → F b = 0 from fun b hb => by
      by_cases e : F b = 0
      · exact e
      · have := hD5.dom b e; omega)
    have hD8 := hD5.below HB8.out
    have HD8 := Lib.hid hD8
    have HW5 := Lib.hid (show w.heap.size < w5.heap.size from Nat.lt_of_lt_of_le (blk_lt HKB4.out) HG5.out.size)
    have HKB8 := Lib.hid ((HB8.out.block _ HW5.out).trans (blk_gr HG5.out HKB4.out (fun e => e HF0.out)))
    have hC8 : Cells [(⟨p, 0, none⟩, .map (some mr)), (⟨w.heap.size, 0, none⟩, .int .i64 c1), (⟨w.heap.size, 1, none⟩, .int .i64 c2), (⟨w.heap.size, 2, none⟩, .int .i64 c3), (⟨w.heap.size, 3, none⟩, .int .i64 c4)] w8 := ⟨blk_cell hD8.row 0, blk_cell HKB8.out 0, blk_cell HKB8.out 1, blk_cell HKB8.out 2, blk_cell HKB8.out 3, trivial⟩
    clear hL hn5 hD5 hne5 hD8 hsI
    refine wp_region_T (Cells [(⟨p, 0, none⟩, .map (some mr)), (⟨w.heap.size, 0, none⟩, .int .i64 c1), (⟨w.heap.size, 1, none⟩, .int .i64 c2), (⟨w.heap.size, 2, none⟩, .int .i64 c3), (⟨w.heap.size, 3, none⟩, .int .i64 c4)]) (fun i => i == 6) (by kernel_rfl) ?_
    have hSss13 := Cells.drew hC8
    have hB_0_s13 : Below w8.heap.size w8 w8.drew := below_drew _
    generalize w8.drew = s13 at hSss13 hB_0_s13 ⊢
    have hB_s13_s13 := Below.refl s13.heap.size s13
    refine wpAnyT_pure (i := 0) (v := ?_) rfl (by kernel_rfl) (by kernel_rfl) (by kernel_rfl) (fun _ _ _ h => h) (by rfl) ?_ ?_
    rotate_left
    · intro w; go_simp; try with_reducible rfl
    simp only [Act.put, rgA, rgB, rgC, rgD, rgE, rgF]
    refine wpAnyT_pure (i := 1) (v := ?_) rfl (by kernel_rfl) (by kernel_rfl) (by kernel_rfl) (fun _ _ _ h => h) (by rfl) ?_ ?_
    rotate_left
    · intro w; go_simp; try with_reducible rfl
    simp only [Act.put, rgA, rgB, rgC, rgD, rgE, rgF]
    refine wpAnyT_pure (i := 2) (v := ?_) rfl (by kernel_rfl) (by kernel_rfl) (by kernel_rfl) (fun _ _ _ h => h) (by rfl) ?_ ?_
    rotate_left
    · intro w; go_simp; try with_reducible rfl
    simp only [Act.put, rgA, rgB, rgC, rgD, rgE, rgF]
    refine wpAnyT_pure (i := 5) (v := ?_) rfl (by kernel_rfl) (by kernel_rfl) (by kernel_rfl) (fun _ _ _ h => h) (by rfl) ?_ ?_
    rotate_left
    · intro w; go_simp; try with_reducible rfl
    simp only [Act.put, rgA, rgB, rgC, rgD, rgE, rgF]
    refine wpAnyT_loadW (i := 3) (v := ?_) rfl (by kernel_rfl) (by kernel_rfl) (by kernel_rfl) (by kernel_rfl) (by kernel_rfl) (fun _ _ _ h => h) (Or.inl ⟨by rfl, ?_⟩) hSss13 ?_
    rotate_left
    · intro w hSw; obtain ⟨e0, e1, e2, e3, e4, -⟩ := hSw; go_simp; try with_reducible rfl
    simp only [Act.put, rgA, rgB, rgC, rgD, rgE, rgF]
    refine wpAnyT_loadW (i := 4) (v := ?_) rfl (by kernel_rfl) (by kernel_rfl) (by kernel_rfl) (by kernel_rfl) (by kernel_rfl) (fun _ _ _ h => h) (Or.inl ⟨by rfl, ?_⟩) hSss13 ?_
    rotate_left
    · intro w hSw; obtain ⟨e0, e1, e2, e3, e4, -⟩ := hSw; go_simp; try with_reducible rfl
    simp only [Act.put, rgA, rgB, rgC, rgD, rgE, rgF]
    refine wpAnyT_one (i := 6) (by kernel_rfl) rfl (by rfl) ?_
    have hbP : Below w8.heap.size w8 s13 := hB_0_s13.trans ((hB_s13_s13).mono (hB_0_s13).size)
    obtain ⟨w114, F9, hrun, hGn, hF9, hF9', hDn⟩ := (HD8.out.below hbP).putR (by have := HN5'.out; simp [maxLen]; omega) ⟨c1, c2, c3, c4⟩ HC.out s8 L HLn.out w5.heap.size (Nat.le_trans HB8.out.size hbP.size) HFR.out (by rw [HS8.out]; exact HK8.out.below hbP)
    rw [HS8.out] at hrun hF9'
    change Sem.run Try.prog (Instr.mapUpdate 59 (.map (some mr)) (.agg #[.int .i64 c1, .int .i64 c2, .int .i64 c3, .int .i64 c4]) (.slice a8 L.length cp8)) s13 = _ at hrun
    refine wp_mapset1 (w' := w114) 59 (.tmp 57) (.tmp 58) (.tmp 59) rfl (m := .map (some mr)) (k := .agg #[.int .i64 c1, .int .i64 c2, .int .i64 c3, .int .i64 c4]) (v := .slice a8 L.length cp8) (by kernel_rfl) (by kernel_rfl) (by kernel_rfl) hrun ?_
    have hGG := (Gr.of_below (F := fun b => b = mr) hbP).trans hGn (fun _ h => .inl h)
    clear hrun hGn hbP
    refine ⟨fun h => absurd h (by decide), ?_⟩
    try simp only [Act.put, rgA, rgB, rgC, rgD, rgE, rgF]
    refine wpAnyT_done (by kernel_rfl) ?_ _
    obtain ⟨w9, rfl⟩ : ∃ x, x = w114 := ⟨_, rfl⟩
    have HG9 := Lib.hid hGG
    have HF9 := Lib.hid hF9
    clear hGG hC8 hF9 hF9'
    rw [show (if ((fun x => if x = (⟨c1, c2, c3, c4⟩ : C4) then none else rd x) ⟨c1, c2, c3, c4⟩).isSome = true then n5 else n5 + 1) = n5 + 1 from by simp] at hDn
    have hrx9 := (hDn.sls ⟨c1, c2, c3, c4⟩ s8 L (if_pos rfl) (if_pos rfl)).rd
    rw [HS8.out] at hrx9
    have HD9 := Lib.hid (hDn.congrR (rd' := setR rd ⟨c1, c2, c3, c4⟩ l) (fun x => by
      unfold setR
      rw [HLe.out]
      by_cases e : x = (⟨c1, c2, c3, c4⟩ : C4)
      · simp only [if_pos e]
      · simp only [if_neg e]))
    have HRX9 := Lib.hid hrx9
    have HKB9 := Lib.hid (blk_gr HG9.out HKB8.out (fun e => by have h1 := HF0.out; rw [e, HD8.out.fr] at h1; cases h1))
    have HF90 := Lib.hid (show F9 w.heap.size = 0 from (HF9.out _ HW5.out).trans HF0.out)
    have HJ9 := Lib.hid (show DepJ F9 w9 p mr ms (n5 + 1) (K + 2 * 0) (setR rd ⟨c1, c2, c3, c4⟩ l) (rsAdd (fun x => if x = (⟨c1, c2, c3, c4⟩ : C4) then none else rd x) ⟨c1, c2, c3, c4⟩ (L.take 0)) from
      ⟨k5, _, ib5, HD9.out.congr (fun d y => by rw [List.take_zero, rsAdd_nil]), fun d hd => by obtain ⟨y, hy⟩ := HNE5.out d hd; exact ⟨y, by rw [List.take_zero, rsAdd_nil]; exact hy⟩⟩)
    have hl200 := HLn.out
    clear hDn hrx9
    go_wp2_with fail
    go_loopw [11, 62] (fun _ i wr => ∃ (j : Nat) (Fj : Nat → Nat), j ≤ L.length ∧ i = .int .i64 j ∧ (∀ b, b < w9.heap.size → Fj b = F9 b) ∧ DepJ Fj wr p mr ms (n5 + 1) (K + 2 * j) (setR rd ⟨c1, c2, c3, c4⟩ l) (rsAdd (fun x => if x = (⟨c1, c2, c3, c4⟩ : C4) then none else rd x) ⟨c1, c2, c3, c4⟩ (L.take j)) ∧ Gr (fun b => F9 b = 3 ∨ F9 b = 4) w9 wr) (fun _ i _ => L.length - (intOf i).toNat)
    case atStart => exact ⟨0, F9, Nat.zero_le _, rfl, fun _ _ => rfl, HJ9.out, Gr.refl _ _⟩
    case round =>
      obtain ⟨j, Fj, hj, rfl, hFj, hJ, hG⟩ := hrel
      have HG := Lib.hid hG
      have HFJ := Lib.hid hFj
      have HFJ0 := Lib.hid (show Fj w.heap.size = 0 from (hFj _ (blk_lt HKB9.out)).trans HF90.out)
      have HKBr := Lib.hid (blk_gr hG HKB9.out (show ¬ (F9 w.heap.size = 3 ∨ F9 w.heap.size = 4) from by rw [HF90.out]; decide))
      by_cases hlt : j < L.length
      · have hjI : (j : Int) < (L.length : Int) := by omega
        have hx3 := HRX9.out.gr hG (fun b e => ⟨HD9.out.dom b (by rw [e]; decide), by omega⟩) (fun _ e => e)
        obtain ⟨b, o, rfl, -, m0, m1, m2, m3, hqok⟩ := cell_at hx3 j hlt
        have HTK := Lib.hid (show L.take (j + 1) = L.take j ++ [L[j]] from List.take_succ_eq_append_getElem hlt)
        have HQ := Lib.hid hqok
        clear hqok hx3 hG hFj
        generalize L[j] = q at m0 m1 m2 m3 HTK HQ
        obtain ⟨k, sl, ib, hD, hne⟩ := hJ
        have HNEj := Lib.hid hne
        obtain ⟨q1, q2, q3, q4⟩ := q
        simp only at m0 m1 m2 m3
        obtain ⟨iq, hiq⟩ : ∃ iq, ib ⟨q1, q2, q3, q4⟩ = iq := ⟨_, rfl⟩
        have HIB := Lib.hid hiq
        have hBa := (Below.refl wr.heap.size wr).alloc (Nat.le_refl _) (.cells #[.int .i64 q1, .int .i64 q2, .int .i64 q3, .int .i64 q4] 38)
        have hqb := heap_alloc_new wr (.cells #[.int .i64 q1, .int .i64 q2, .int .i64 q3, .int .i64 q4] 38)
        have HFq := Lib.hid (show Fj wr.heap.size = 0 from by
          by_cases e : Fj wr.heap.size = 0
          · exact e
          · have := hD.dom _ e; omega)
        have HGa := Lib.hid (HG.out.trans (Gr.of_below (F := fun _ => False) hBa) (fun _ h => h.elim))
        have HDa := Lib.hid (hD.below hBa)
        have HQBa := Lib.hid hqb
        have HCBa := Lib.hid ((hBa.block _ (blk_lt HKBr.out)).trans HKBr.out)
        have HFD := Lib.hid (show ∀ b, wr.heap.size ≤ b → Fj b = 0 from fun b hb => by
          by_cases e : Fj b = 0
          · exact e
          · have := hD.dom b e; omega)
        have HWR := Lib.hid (show w9.heap.size ≤ wr.heap.size from HG.out.size)
        clear hD hne hBa hqb hiq
        go_upto_region 16 with fail
        generalize World.alloc _ _ = wa at *
        have hCa : Cells [(⟨p, 1, none⟩, .map (some ms)), (⟨w.heap.size, 0, none⟩, .int .i64 c1), (⟨w.heap.size, 1, none⟩, .int .i64 c2), (⟨w.heap.size, 2, none⟩, .int .i64 c3), (⟨w.heap.size, 3, none⟩, .int .i64 c4), (⟨wr.heap.size, 0, none⟩, .int .i64 q1), (⟨wr.heap.size, 1, none⟩, .int .i64 q2), (⟨wr.heap.size, 2, none⟩, .int .i64 q3), (⟨wr.heap.size, 3, none⟩, .int .i64 q4)] wa := ⟨blk_cell HDa.out.row 1, blk_cell HCBa.out 0, blk_cell HCBa.out 1, blk_cell HCBa.out 2, blk_cell HCBa.out 3, blk_cell HQBa.out 0, blk_cell HQBa.out 1, blk_cell HQBa.out 2, blk_cell HQBa.out 3, trivial⟩
        cases iq with
        | none =>
          refine wp_region_T (Cells [(⟨p, 1, none⟩, .map (some ms)), (⟨w.heap.size, 0, none⟩, .int .i64 c1), (⟨w.heap.size, 1, none⟩, .int .i64 c2), (⟨w.heap.size, 2, none⟩, .int .i64 c3), (⟨w.heap.size, 3, none⟩, .int .i64 c4), (⟨wr.heap.size, 0, none⟩, .int .i64 q1), (⟨wr.heap.size, 1, none⟩, .int .i64 q2), (⟨wr.heap.size, 2, none⟩, .int .i64 q3), (⟨wr.heap.size, 3, none⟩, .int .i64 q4)]) (fun _ => false) (by kernel_rfl) ?_
          have hSss15 := Cells.drew hCa
          have hB_0_s15 : Below wa.heap.size wa wa.drew := below_drew _
          generalize wa.drew = s15 at hSss15 hB_0_s15 ⊢
          have hB_s15_s15 := Below.refl s15.heap.size s15
          refine wpAnyT_pure (i := 0) (v := ?_) rfl (by kernel_rfl) (by kernel_rfl) (by kernel_rfl) (fun _ _ _ h => h) (by rfl) ?_ ?_
          rotate_left
          · intro w; go_simp; try with_reducible rfl
          simp only [Act.put, rgA, rgB, rgC, rgD, rgE, rgF]
          refine wpAnyT_pure (i := 1) (v := ?_) rfl (by kernel_rfl) (by kernel_rfl) (by kernel_rfl) (fun _ _ _ h => h) (by rfl) ?_ ?_
          rotate_left
          · intro w; go_simp; try with_reducible rfl
          simp only [Act.put, rgA, rgB, rgC, rgD, rgE, rgF]
          refine wpAnyT_pure (i := 2) (v := ?_) rfl (by kernel_rfl) (by kernel_rfl) (by kernel_rfl) (fun _ _ _ h => h) (by rfl) ?_ ?_
          rotate_left
          · intro w; go_simp; try with_reducible rfl
          simp only [Act.put, rgA, rgB, rgC, rgD, rgE, rgF]
          refine wpAnyT_loadW (i := 3) (v := ?_) rfl (by kernel_rfl) (by kernel_rfl) (by kernel_rfl) (by kernel_rfl) (by kernel_rfl) (fun _ _ _ h => h) (Or.inl ⟨by rfl, ?_⟩) hSss15 ?_
          rotate_left
          · intro w hSw; obtain ⟨e0, e1, e2, e3, e4, e5, e6, e7, e8, -⟩ := hSw; go_simp; try with_reducible rfl
          simp only [Act.put, rgA, rgB, rgC, rgD, rgE, rgF]
          refine wpAnyT_loadW (i := 4) (v := ?_) rfl (by kernel_rfl) (by kernel_rfl) (by kernel_rfl) (by kernel_rfl) (by kernel_rfl) (fun _ _ _ h => h) (Or.inl ⟨by rfl, ?_⟩) hSss15 ?_
          rotate_left
          · intro w hSw; obtain ⟨e0, e1, e2, e3, e4, e5, e6, e7, e8, -⟩ := hSw; go_simp; try with_reducible rfl
          simp only [Act.put, rgA, rgB, rgC, rgD, rgE, rgF]
          refine wpAnyT_one (i := 5) (by kernel_rfl) rfl (by rfl) ?_
          have hlk := (HDa.out.below (hB_0_s15.trans ((hB_s15_s15).mono (hB_0_s15).size))).lookS ⟨q1, q2, q3, q4⟩ HQ.out
          rw [HIB.out] at hlk
          change Sem.run Try.prog (Instr.lookup 60 (.map (some ms)) (.agg #[.int .i64 q1, .int .i64 q2, .int .i64 q3, .int .i64 q4]) false) s15 = _ at hlk
          refine wp_value (v := .map none) (w' := s15) (by go_simp) ?_
          clear hlk
          refine ⟨fun _ h => h, ?_⟩
          try simp only [Act.put, rgA, rgB, rgC, rgD, rgE, rgF]
          refine wpAnyT_one (i := 6) (by kernel_rfl) rfl (by rfl) ?_
          have hqn := run_eql_map_nil (P := Try.prog) s15 57 _ _ none Try.underlying57
          refine wp_value (v := .bool true) (w' := s15) (by go_simp) ?_
          clear hqn
          refine ⟨fun _ h => h, ?_⟩
          try simp only [Act.put, rgA, rgB, rgC, rgD, rgE, rgF]
          refine wpAnyT_done (by kernel_rfl) ?_ _
          have hbP : Below wa.heap.size wa s15 := hB_0_s15.trans ((hB_s15_s15).mono (hB_0_s15).size)
          obtain ⟨wb, rfl⟩ : ∃ x, x = s15 := ⟨_, rfl⟩
          have HBb := Lib.hid hbP
          clear hbP hCa
          have HDb := Lib.hid (HDa.out.below HBb.out)
          have HCBb := Lib.hid ((HBb.out.block _ (blk_lt HCBa.out)).trans HCBa.out)
          have HQBb := Lib.hid ((HBb.out.block _ (blk_lt HQBa.out)).trans HQBa.out)
          have HGb := Lib.hid ((HGa.out.trans (Gr.of_below (F := fun _ => False) HBb.out) (fun _ h => h.elim)))
          go_wp2_with fail
          have hCb : Cells [(⟨p, 1, none⟩, .map (some ms)), (⟨wr.heap.size, 0, none⟩, .int .i64 q1), (⟨wr.heap.size, 1, none⟩, .int .i64 q2), (⟨wr.heap.size, 2, none⟩, .int .i64 q3), (⟨wr.heap.size, 3, none⟩, .int .i64 q4)] wb := ⟨blk_cell HDb.out.row 1, blk_cell HQBb.out 0, blk_cell HQBb.out 1, blk_cell HQBb.out 2, blk_cell HQBb.out 3, trivial⟩
          have HWB := Lib.hid (show wr.heap.size < wb.heap.size from blk_lt HQBb.out)
          refine wp_region_T (Cells [(⟨p, 1, none⟩, .map (some ms)), (⟨wr.heap.size, 0, none⟩, .int .i64 q1), (⟨wr.heap.size, 1, none⟩, .int .i64 q2), (⟨wr.heap.size, 2, none⟩, .int .i64 q3), (⟨wr.heap.size, 3, none⟩, .int .i64 q4)]) (fun i => i == 6) (by kernel_rfl) ?_
          have hSss18 := Cells.drew hCb
          have hB_0_s18 : Below wb.heap.size wb wb.drew := below_drew _
          generalize wb.drew = s18 at hSss18 hB_0_s18 ⊢
          have hB_s18_s18 := Below.refl s18.heap.size s18
          refine wpAnyT_pure (i := 0) (v := ?_) rfl (by kernel_rfl) (by kernel_rfl) (by kernel_rfl) (fun _ _ _ h => h) (by rfl) ?_ ?_
          rotate_left
          · intro w; go_simp; try with_reducible rfl
          simp only [Act.put, rgA, rgB, rgC, rgD, rgE, rgF]
          refine wpAnyT_pure (i := 1) (v := ?_) rfl (by kernel_rfl) (by kernel_rfl) (by kernel_rfl) (fun _ _ _ h => h) (by rfl) ?_ ?_
          rotate_left
          · intro w; go_simp; try with_reducible rfl
          simp only [Act.put, rgA, rgB, rgC, rgD, rgE, rgF]
          refine wpAnyT_pure (i := 2) (v := ?_) rfl (by kernel_rfl) (by kernel_rfl) (by kernel_rfl) (fun _ _ _ h => h) (by rfl) ?_ ?_
          rotate_left
          · intro w; go_simp; try with_reducible rfl
          simp only [Act.put, rgA, rgB, rgC, rgD, rgE, rgF]
          refine wpAnyT_loadW (i := 3) (v := ?_) rfl (by kernel_rfl) (by kernel_rfl) (by kernel_rfl) (by kernel_rfl) (by kernel_rfl) (fun _ _ _ h => h) (Or.inl ⟨by rfl, ?_⟩) hSss18 ?_
          rotate_left
          · intro w hSw; obtain ⟨e0, e1, e2, e3, e4, -⟩ := hSw; go_simp; try with_reducible rfl
          simp only [Act.put, rgA, rgB, rgC, rgD, rgE, rgF]
          refine wpAnyT_loadW (i := 4) (v := ?_) rfl (by kernel_rfl) (by kernel_rfl) (by kernel_rfl) (by kernel_rfl) (by kernel_rfl) (fun _ _ _ h => h) (Or.inl ⟨by rfl, ?_⟩) hSss18 ?_
          rotate_left
          · intro w hSw; obtain ⟨e0, e1, e2, e3, e4, -⟩ := hSw; go_simp; try with_reducible rfl
          simp only [Act.put, rgA, rgB, rgC, rgD, rgE, rgF]
          refine wpAnyT_one (i := 5) (by kernel_rfl) rfl (by rfl) ?_
          obtain ⟨b5, hb5⟩ : ∃ b, s18.heap.size = b := ⟨_, rfl⟩
          have hge5 : wb.heap.size ≤ b5 := hb5 ▸ (hB_0_s18.trans ((hB_s18_s18).mono (hB_0_s18).size)).size
          refine wp_newmap 57 rfl hb5 ?_
          intro w119 hX hN5
          have hlt5 : b5 < w119.heap.size := hN5.lt
          have hB_s18_w119 := below_step hB_s18_s18 hX
          have hB_w119_w119 := Below.refl w119.heap.size w119
          have hSsw119 := Cells.below hB_s18_w119 hSss18
          clear hX
          refine ⟨fun _ _ => hSsw119, ?_⟩
          try simp only [Act.put, rgA, rgB, rgC, rgD, rgE, rgF]
          refine wpAnyT_one (i := 6) (by kernel_rfl) rfl (by rfl) ?_
          have hbP : Below wb.heap.size wb w119 := hB_0_s18.trans ((hB_s18_w119).mono (hB_0_s18).size)
          have hfb : Fj b5 = 0 := HFD.out b5 (by have := HWB.out; omega)
          obtain ⟨w120, F6, hrun, hGn, hF6, k6, hDn⟩ := (HDb.out.below hbP).newI (by have := HKK.out; have := HLn.out; omega) ⟨q1, q2, q3, q4⟩ HQ.out HIB.out b5 hfb (Nat.lt_of_lt_of_le hlt5 (hB_w119_w119).size) (hN5.below hB_w119_w119)
          change Sem.run Try.prog (Instr.mapUpdate 60 (.map (some ms)) (.agg #[.int .i64 q1, .int .i64 q2, .int .i64 q3, .int .i64 q4]) (.map (some b5))) w119 = _ at hrun
          refine wp_mapset1 (w' := w120) 60 (.tmp 76) (.tmp 77) (.tmp 78) rfl (m := .map (some ms)) (k := .agg #[.int .i64 q1, .int .i64 q2, .int .i64 q3, .int .i64 q4]) (v := .map (some b5)) (by kernel_rfl) (by kernel_rfl) (by kernel_rfl) hrun ?_
          have hGG := (Gr.of_below (F := fun b => Fj b = 3 ∨ Fj b = 4) hbP).trans hGn (fun _ h => .inl h)
          clear hrun hGn hbP
          refine ⟨fun h => absurd h (by decide), ?_⟩
          try simp only [Act.put, rgA, rgB, rgC, rgD, rgE, rgF]
          refine wpAnyT_done (by kernel_rfl) ?_ _
          obtain ⟨w17, rfl⟩ : ∃ x, x = w120 := ⟨_, rfl⟩
          have HG17 := Lib.hid hGG
          have HD17 := Lib.hid hDn
          have HF17 := Lib.hid (show ∀ x, x < wb.heap.size → F6 x = Fj x from fun x hx => hF6 x (by omega))
          clear hGG hCb hDn hF6 hfb hlt5 hge5 hN5
          go_wp2_with fail
          have HQB7 := Lib.hid (blk_gr HG17.out HQBb.out (show ¬ (Fj wr.heap.size = 3 ∨ Fj wr.heap.size = 4) from by rw [HFq.out]; decide))
          have HCB7 := Lib.hid (blk_gr HG17.out HCBb.out (show ¬ (Fj w.heap.size = 3 ∨ Fj w.heap.size = 4) from by rw [HFJ0.out]; decide))
          have hC7 : Cells [(⟨p, 1, none⟩, .map (some ms)), (⟨w.heap.size, 0, none⟩, .int .i64 c1), (⟨w.heap.size, 1, none⟩, .int .i64 c2), (⟨w.heap.size, 2, none⟩, .int .i64 c3), (⟨w.heap.size, 3, none⟩, .int .i64 c4), (⟨wr.heap.size, 0, none⟩, .int .i64 q1), (⟨wr.heap.size, 1, none⟩, .int .i64 q2), (⟨wr.heap.size, 2, none⟩, .int .i64 q3), (⟨wr.heap.size, 3, none⟩, .int .i64 q4)] w17 := ⟨blk_cell HD17.out.row 1, blk_cell HCB7.out 0, blk_cell HCB7.out 1, blk_cell HCB7.out 2, blk_cell HCB7.out 3, blk_cell HQB7.out 0, blk_cell HQB7.out 1, blk_cell HQB7.out 2, blk_cell HQB7.out 3, trivial⟩
          have HIB7 := Lib.hid (show (if (⟨q1, q2, q3, q4⟩ : C4) = ⟨q1, q2, q3, q4⟩ then some b5 else ib ⟨q1, q2, q3, q4⟩) = some b5 from if_pos rfl)
          refine wp_region_T (Cells [(⟨p, 1, none⟩, .map (some ms)), (⟨w.heap.size, 0, none⟩, .int .i64 c1), (⟨w.heap.size, 1, none⟩, .int .i64 c2), (⟨w.heap.size, 2, none⟩, .int .i64 c3), (⟨w.heap.size, 3, none⟩, .int .i64 c4), (⟨wr.heap.size, 0, none⟩, .int .i64 q1), (⟨wr.heap.size, 1, none⟩, .int .i64 q2), (⟨wr.heap.size, 2, none⟩, .int .i64 q3), (⟨wr.heap.size, 3, none⟩, .int .i64 q4)]) (fun i => i == 7) (by kernel_rfl) ?_
          have hSss16 := Cells.drew hC7
          have hB_0_s16 : Below w17.heap.size w17 w17.drew := below_drew _
          generalize w17.drew = s16 at hSss16 hB_0_s16 ⊢
          have hB_s16_s16 := Below.refl s16.heap.size s16
          refine wpAnyT_pure (i := 0) (v := ?_) rfl (by kernel_rfl) (by kernel_rfl) (by kernel_rfl) (fun _ _ _ h => h) (by rfl) ?_ ?_
          rotate_left
          · intro w; go_simp; try with_reducible rfl
          simp only [Act.put, rgA, rgB, rgC, rgD, rgE, rgF]
          refine wpAnyT_pure (i := 1) (v := ?_) rfl (by kernel_rfl) (by kernel_rfl) (by kernel_rfl) (fun _ _ _ h => h) (by rfl) ?_ ?_
          rotate_left
          · intro w; go_simp; try with_reducible rfl
          simp only [Act.put, rgA, rgB, rgC, rgD, rgE, rgF]
          refine wpAnyT_pure (i := 2) (v := ?_) rfl (by kernel_rfl) (by kernel_rfl) (by kernel_rfl) (fun _ _ _ h => h) (by rfl) ?_ ?_
          rotate_left
          · intro w; go_simp; try with_reducible rfl
          simp only [Act.put, rgA, rgB, rgC, rgD, rgE, rgF]
          refine wpAnyT_loadW (i := 3) (v := ?_) rfl (by kernel_rfl) (by kernel_rfl) (by kernel_rfl) (by kernel_rfl) (by kernel_rfl) (fun _ _ _ h => h) (Or.inl ⟨by rfl, ?_⟩) hSss16 ?_
          rotate_left
          · intro w hSw; obtain ⟨e0, e1, e2, e3, e4, e5, e6, e7, e8, -⟩ := hSw; go_simp; try with_reducible rfl
          simp only [Act.put, rgA, rgB, rgC, rgD, rgE, rgF]
          refine wpAnyT_loadW (i := 4) (v := ?_) rfl (by kernel_rfl) (by kernel_rfl) (by kernel_rfl) (by kernel_rfl) (by kernel_rfl) (fun _ _ _ h => h) (Or.inl ⟨by rfl, ?_⟩) hSss16 ?_
          rotate_left
          · intro w hSw; obtain ⟨e0, e1, e2, e3, e4, e5, e6, e7, e8, -⟩ := hSw; go_simp; try with_reducible rfl
          simp only [Act.put, rgA, rgB, rgC, rgD, rgE, rgF]
          refine wpAnyT_loadW (i := 6) (v := ?_) rfl (by kernel_rfl) (by kernel_rfl) (by kernel_rfl) (by kernel_rfl) (by kernel_rfl) (fun _ _ _ h => h) (Or.inl ⟨by rfl, ?_⟩) hSss16 ?_
          rotate_left
          · intro w hSw; obtain ⟨e0, e1, e2, e3, e4, e5, e6, e7, e8, -⟩ := hSw; go_simp; try with_reducible rfl
          simp only [Act.put, rgA, rgB, rgC, rgD, rgE, rgF]
          refine wpAnyT_one (i := 5) (by kernel_rfl) rfl (by rfl) ?_
          have hlk := (HD17.out.below (hB_0_s16.trans ((hB_s16_s16).mono (hB_0_s16).size))).lookS ⟨q1, q2, q3, q4⟩ HQ.out
          rw [(if_pos rfl)] at hlk
          change Sem.run Try.prog (Instr.lookup 60 (.map (some ms)) (.agg #[.int .i64 q1, .int .i64 q2, .int .i64 q3, .int .i64 q4]) false) s16 = _ at hlk
          refine wp_value (v := .map (some b5)) (w' := s16) (by go_simp) ?_
          clear hlk
          refine ⟨fun _ h => h, ?_⟩
          try simp only [Act.put, rgA, rgB, rgC, rgD, rgE, rgF]
          refine wpAnyT_one (i := 7) (by kernel_rfl) rfl (by rfl) ?_
          have hbP : Below w17.heap.size w17 s16 := hB_0_s16.trans ((hB_s16_s16).mono (hB_0_s16).size)
          obtain ⟨w117, hrun, hGn, hDn⟩ := (HD17.out.below hbP).putI (by have := HKK.out; have := HL2.out; omega) ⟨q1, q2, q3, q4⟩ ⟨c1, c2, c3, c4⟩ b5 (if_pos rfl) HC.out
          change Sem.run Try.prog (Instr.mapUpdate 57 (.map (some b5)) (.agg #[.int .i64 c1, .int .i64 c2, .int .i64 c3, .int .i64 c4]) (.bool true)) s16 = _ at hrun
          refine wp_mapset1 (w' := w117) 57 (.tmp 84) (.tmp 85) (.const (.bool true)) rfl (m := .map (some b5)) (k := .agg #[.int .i64 c1, .int .i64 c2, .int .i64 c3, .int .i64 c4]) (v := .bool true) (by kernel_rfl) (by kernel_rfl) (by kernel_rfl) hrun ?_
          have hGG := (Gr.of_below (F := (fun b => F6 b = 3 ∨ F6 b = 4)) hbP).trans hGn (fun _ h => .inl h)
          clear hrun hGn hbP
          refine ⟨fun h => absurd h (by decide), ?_⟩
          try simp only [Act.put, rgA, rgB, rgC, rgD, rgE, rgF]
          refine wpAnyT_done (by kernel_rfl) ?_ _
          obtain ⟨wz, rfl⟩ : ∃ x, x = w117 := ⟨_, rfl⟩
          have HGZ := Lib.hid hGG
          have HDZ := Lib.hid hDn
          clear hGG hDn hC7
          go_wp2_with fail
          go_roundw
          case rel =>
            refine ⟨j + 1, F6, by omega, by go_num, fun b hb => (HF17.out b (by have := HWB.out; have := HWR.out; omega)).trans (HFJ.out b hb), ⟨k6, sl, fun x => if x = (⟨q1, q2, q3, q4⟩ : C4) then some b5 else ib x, ?_, ?_⟩, (HGb.out.trans HG17.out (fun x e => by
              by_cases hx : x < w9.heap.size
              · left; rw [← HFJ.out x hx]; exact e
              · right; omega)).trans HGZ.out (fun x e => by
              by_cases hx : x < w9.heap.size
              · left; rw [← HFJ.out x hx, ← HF17.out x (by have := HWB.out; have := HWR.out; omega)]; exact e
              · right; omega)⟩
            · exact ((HDZ.out).congr (fun x y => by rw [HTK.out]; exact rsAdd_snoc _ _ _ _ _ _)).up (by omega)
            · intro d hd
              by_cases e : d = (⟨q1, q2, q3, q4⟩ : C4)
              · exact ⟨⟨c1, c2, c3, c4⟩, by rw [HTK.out, rsAdd_snoc, e]; simp⟩
              · simp only [if_neg e] at hd
                obtain ⟨y, hy⟩ := HNEj.out d hd
                exact ⟨y, by rw [HTK.out, rsAdd_snoc, hy]; rfl⟩
          case measure => simp [intOf]; omega
        | some b0 =>
          refine wp_region_T (Cells [(⟨p, 1, none⟩, .map (some ms)), (⟨w.heap.size, 0, none⟩, .int .i64 c1), (⟨w.heap.size, 1, none⟩, .int .i64 c2), (⟨w.heap.size, 2, none⟩, .int .i64 c3), (⟨w.heap.size, 3, none⟩, .int .i64 c4), (⟨wr.heap.size, 0, none⟩, .int .i64 q1), (⟨wr.heap.size, 1, none⟩, .int .i64 q2), (⟨wr.heap.size, 2, none⟩, .int .i64 q3), (⟨wr.heap.size, 3, none⟩, .int .i64 q4)]) (fun _ => false) (by kernel_rfl) ?_
          have hSss21 := Cells.drew hCa
          have hB_0_s21 : Below wa.heap.size wa wa.drew := below_drew _
          generalize wa.drew = s21 at hSss21 hB_0_s21 ⊢
          have hB_s21_s21 := Below.refl s21.heap.size s21
          refine wpAnyT_pure (i := 0) (v := ?_) rfl (by kernel_rfl) (by kernel_rfl) (by kernel_rfl) (fun _ _ _ h => h) (by rfl) ?_ ?_
          rotate_left
          · intro w; go_simp; try with_reducible rfl
          simp only [Act.put, rgA, rgB, rgC, rgD, rgE, rgF]
          refine wpAnyT_pure (i := 1) (v := ?_) rfl (by kernel_rfl) (by kernel_rfl) (by kernel_rfl) (fun _ _ _ h => h) (by rfl) ?_ ?_
          rotate_left
          · intro w; go_simp; try with_reducible rfl
          simp only [Act.put, rgA, rgB, rgC, rgD, rgE, rgF]
          refine wpAnyT_pure (i := 2) (v := ?_) rfl (by kernel_rfl) (by kernel_rfl) (by kernel_rfl) (fun _ _ _ h => h) (by rfl) ?_ ?_
          rotate_left
          · intro w; go_simp; try with_reducible rfl
          simp only [Act.put, rgA, rgB, rgC, rgD, rgE, rgF]
          refine wpAnyT_loadW (i := 3) (v := ?_) rfl (by kernel_rfl) (by kernel_rfl) (by kernel_rfl) (by kernel_rfl) (by kernel_rfl) (fun _ _ _ h => h) (Or.inl ⟨by rfl, ?_⟩) hSss21 ?_
          rotate_left
          · intro w hSw; obtain ⟨e0, e1, e2, e3, e4, e5, e6, e7, e8, -⟩ := hSw; go_simp; try with_reducible rfl
          simp only [Act.put, rgA, rgB, rgC, rgD, rgE, rgF]
          refine wpAnyT_loadW (i := 4) (v := ?_) rfl (by kernel_rfl) (by kernel_rfl) (by kernel_rfl) (by kernel_rfl) (by kernel_rfl) (fun _ _ _ h => h) (Or.inl ⟨by rfl, ?_⟩) hSss21 ?_
          rotate_left
          · intro w hSw; obtain ⟨e0, e1, e2, e3, e4, e5, e6, e7, e8, -⟩ := hSw; go_simp; try with_reducible rfl
          simp only [Act.put, rgA, rgB, rgC, rgD, rgE, rgF]
          refine wpAnyT_one (i := 5) (by kernel_rfl) rfl (by rfl) ?_
          have hlk := (HDa.out.below (hB_0_s21.trans ((hB_s21_s21).mono (hB_0_s21).size))).lookS ⟨q1, q2, q3, q4⟩ HQ.out
          rw [HIB.out] at hlk
          change Sem.run Try.prog (Instr.lookup 60 (.map (some ms)) (.agg #[.int .i64 q1, .int .i64 q2, .int .i64 q3, .int .i64 q4]) false) s21 = _ at hlk
          refine wp_value (v := .map (some b0)) (w' := s21) (by go_simp) ?_
          clear hlk
          refine ⟨fun _ h => h, ?_⟩
          try simp only [Act.put, rgA, rgB, rgC, rgD, rgE, rgF]
          refine wpAnyT_one (i := 6) (by kernel_rfl) rfl (by rfl) ?_
          have hqn := run_eql_map_nil (P := Try.prog) s21 57 _ _ (some b0) Try.underlying57
          refine wp_value (v := .bool false) (w' := s21) (by go_simp) ?_
          clear hqn
          refine ⟨fun _ h => h, ?_⟩
          try simp only [Act.put, rgA, rgB, rgC, rgD, rgE, rgF]
          refine wpAnyT_done (by kernel_rfl) ?_ _
          have hbP : Below wa.heap.size wa s21 := hB_0_s21.trans ((hB_s21_s21).mono (hB_0_s21).size)
          obtain ⟨wb, rfl⟩ : ∃ x, x = s21 := ⟨_, rfl⟩
          have HBb := Lib.hid hbP
          clear hbP hCa
          have HDb := Lib.hid (HDa.out.below HBb.out)
          have HCBb := Lib.hid ((HBb.out.block _ (blk_lt HCBa.out)).trans HCBa.out)
          have HQBb := Lib.hid ((HBb.out.block _ (blk_lt HQBa.out)).trans HQBa.out)
          have HGb := Lib.hid ((HGa.out.trans (Gr.of_below (F := fun _ => False) HBb.out) (fun _ h => h.elim)))
          go_wp2_with fail
          have hCb : Cells [(⟨p, 1, none⟩, .map (some ms)), (⟨w.heap.size, 0, none⟩, .int .i64 c1), (⟨w.heap.size, 1, none⟩, .int .i64 c2), (⟨w.heap.size, 2, none⟩, .int .i64 c3), (⟨w.heap.size, 3, none⟩, .int .i64 c4), (⟨wr.heap.size, 0, none⟩, .int .i64 q1), (⟨wr.heap.size, 1, none⟩, .int .i64 q2), (⟨wr.heap.size, 2, none⟩, .int .i64 q3), (⟨wr.heap.size, 3, none⟩, .int .i64 q4)] wb := ⟨blk_cell HDb.out.row 1, blk_cell HCBb.out 0, blk_cell HCBb.out 1, blk_cell HCBb.out 2, blk_cell HCBb.out 3, blk_cell HQBb.out 0, blk_cell HQBb.out 1, blk_cell HQBb.out 2, blk_cell HQBb.out 3, trivial⟩
          refine wp_region_T (Cells [(⟨p, 1, none⟩, .map (some ms)), (⟨w.heap.size, 0, none⟩, .int .i64 c1), (⟨w.heap.size, 1, none⟩, .int .i64 c2), (⟨w.heap.size, 2, none⟩, .int .i64 c3), (⟨w.heap.size, 3, none⟩, .int .i64 c4), (⟨wr.heap.size, 0, none⟩, .int .i64 q1), (⟨wr.heap.size, 1, none⟩, .int .i64 q2), (⟨wr.heap.size, 2, none⟩, .int .i64 q3), (⟨wr.heap.size, 3, none⟩, .int .i64 q4)]) (fun i => i == 7) (by kernel_rfl) ?_
          have hSss22 := Cells.drew hCb
          have hB_0_s22 : Below wb.heap.size wb wb.drew := below_drew _
          generalize wb.drew = s22 at hSss22 hB_0_s22 ⊢
          have hB_s22_s22 := Below.refl s22.heap.size s22
          refine wpAnyT_pure (i := 0) (v := ?_) rfl (by kernel_rfl) (by kernel_rfl) (by kernel_rfl) (fun _ _ _ h => h) (by rfl) ?_ ?_
          rotate_left
          · intro w; go_simp; try with_reducible rfl
          simp only [Act.put, rgA, rgB, rgC, rgD, rgE, rgF]
          refine wpAnyT_pure (i := 1) (v := ?_) rfl (by kernel_rfl) (by kernel_rfl) (by kernel_rfl) (fun _ _ _ h => h) (by rfl) ?_ ?_
          rotate_left
          · intro w; go_simp; try with_reducible rfl
          simp only [Act.put, rgA, rgB, rgC, rgD, rgE, rgF]
          refine wpAnyT_pure (i := 2) (v := ?_) rfl (by kernel_rfl) (by kernel_rfl) (by kernel_rfl) (fun _ _ _ h => h) (by rfl) ?_ ?_
          rotate_left
          · intro w; go_simp; try with_reducible rfl
          simp only [Act.put, rgA, rgB, rgC, rgD, rgE, rgF]
          refine wpAnyT_loadW (i := 3) (v := ?_) rfl (by kernel_rfl) (by kernel_rfl) (by kernel_rfl) (by kernel_rfl) (by kernel_rfl) (fun _ _ _ h => h) (Or.inl ⟨by rfl, ?_⟩) hSss22 ?_
          rotate_left
          · intro w hSw; obtain ⟨e0, e1, e2, e3, e4, e5, e6, e7, e8, -⟩ := hSw; go_simp; try with_reducible rfl
          simp only [Act.put, rgA, rgB, rgC, rgD, rgE, rgF]
          refine wpAnyT_loadW (i := 4) (v := ?_) rfl (by kernel_rfl) (by kernel_rfl) (by kernel_rfl) (by kernel_rfl) (by kernel_rfl) (fun _ _ _ h => h) (Or.inl ⟨by rfl, ?_⟩) hSss22 ?_
          rotate_left
          · intro w hSw; obtain ⟨e0, e1, e2, e3, e4, e5, e6, e7, e8, -⟩ := hSw; go_simp; try with_reducible rfl
          simp only [Act.put, rgA, rgB, rgC, rgD, rgE, rgF]
          refine wpAnyT_loadW (i := 6) (v := ?_) rfl (by kernel_rfl) (by kernel_rfl) (by kernel_rfl) (by kernel_rfl) (by kernel_rfl) (fun _ _ _ h => h) (Or.inl ⟨by rfl, ?_⟩) hSss22 ?_
          rotate_left
          · intro w hSw; obtain ⟨e0, e1, e2, e3, e4, e5, e6, e7, e8, -⟩ := hSw; go_simp; try with_reducible rfl
          simp only [Act.put, rgA, rgB, rgC, rgD, rgE, rgF]
          refine wpAnyT_one (i := 5) (by kernel_rfl) rfl (by rfl) ?_
          have hlk := (HDb.out.below (hB_0_s22.trans ((hB_s22_s22).mono (hB_0_s22).size))).lookS ⟨q1, q2, q3, q4⟩ HQ.out
          rw [HIB.out] at hlk
          change Sem.run Try.prog (Instr.lookup 60 (.map (some ms)) (.agg #[.int .i64 q1, .int .i64 q2, .int .i64 q3, .int .i64 q4]) false) s22 = _ at hlk
          refine wp_value (v := .map (some b0)) (w' := s22) (by go_simp) ?_
          clear hlk
          refine ⟨fun _ h => h, ?_⟩
          try simp only [Act.put, rgA, rgB, rgC, rgD, rgE, rgF]
          refine wpAnyT_one (i := 7) (by kernel_rfl) rfl (by rfl) ?_
          have hbP : Below wb.heap.size wb s22 := hB_0_s22.trans ((hB_s22_s22).mono (hB_0_s22).size)
          obtain ⟨w123, hrun, hGn, hDn⟩ := (HDb.out.below hbP).putI (by have := HKK.out; have := HL2.out; omega) ⟨q1, q2, q3, q4⟩ ⟨c1, c2, c3, c4⟩ b0 HIB.out HC.out
          change Sem.run Try.prog (Instr.mapUpdate 57 (.map (some b0)) (.agg #[.int .i64 c1, .int .i64 c2, .int .i64 c3, .int .i64 c4]) (.bool true)) s22 = _ at hrun
          refine wp_mapset1 (w' := w123) 57 (.tmp 84) (.tmp 85) (.const (.bool true)) rfl (m := .map (some b0)) (k := .agg #[.int .i64 c1, .int .i64 c2, .int .i64 c3, .int .i64 c4]) (v := .bool true) (by kernel_rfl) (by kernel_rfl) (by kernel_rfl) hrun ?_
          have hGG := (Gr.of_below (F := (fun b => Fj b = 3 ∨ Fj b = 4)) hbP).trans hGn (fun _ h => .inl h)
          clear hrun hGn hbP
          refine ⟨fun h => absurd h (by decide), ?_⟩
          try simp only [Act.put, rgA, rgB, rgC, rgD, rgE, rgF]
          refine wpAnyT_done (by kernel_rfl) ?_ _
          obtain ⟨wz, rfl⟩ : ∃ x, x = w123 := ⟨_, rfl⟩
          have HGZ := Lib.hid hGG
          have HDZ := Lib.hid hDn
          clear hGG hDn hCb
          go_wp2_with fail
          go_roundw
          case rel =>
            refine ⟨j + 1, Fj, by omega, by go_num, HFJ.out, ⟨k, sl, ib, ?_, ?_⟩, HGb.out.trans HGZ.out (fun x e => by
              by_cases hx : x < w9.heap.size
              · left; rw [← HFJ.out x hx]; exact e
              · right; omega)⟩
            · exact ((HDZ.out).congr (fun x y => by rw [HTK.out]; exact rsAdd_snoc _ _ _ _ _ _)).up (by omega)
            · intro d hd
              obtain ⟨y, hy⟩ := HNEj.out d hd
              exact ⟨y, by rw [HTK.out, rsAdd_snoc, hy]; rfl⟩
          case measure => simp [intOf]; omega
      · obtain rfl : j = L.length := by omega
        rw [List.take_length] at hJ
        have HJ := Lib.hid hJ
        clear hJ hG hFj
        go_wp2_with fail
        go_ret
        unfold SetP
        rw [HCD.out]
        have hG49 : Gr (fun b => F b ≠ 0) w wr := (((((Gr.of_below (F := fun b => F b ≠ 0) HW4.out).trans HG5.out (fun x e => .inl e)).step HB8.out).trans HG9.out (fun x e => .inl (by rw [e, HD8.out.fr]; decide))).trans HG.out (fun x e => by
          by_cases hx : x < w5.heap.size
          · left; rw [← HF9.out x hx]; omega
          · right; have := HW5.out; omega))
        refine ⟨rfl, fun h => absurd rfl h, fun _ => ⟨hG49, Fj, ?_, ?_⟩⟩
        · intro b hb
          have hb5 : b < w5.heap.size := by have := HW5.out; omega
          exact (HFJ.out b (by have := HB8.out.size; have := HG9.out.size; omega)).trans (HF9.out b hb5)
        · have e5 : setM (rd ⟨c1, c2, c3, c4⟩).isSome n = n5 + 1 := by unfold setM; rw [HN5.out]
          obtain ⟨k, sl, ib, hD, hne⟩ := HJ.out
          have erl : ∀ d y, rsOf (setR rd ⟨c1, c2, c3, c4⟩ l) d y = rsAdd (fun x => if x = (⟨c1, c2, c3, c4⟩ : C4) then none else rd x) ⟨c1, c2, c3, c4⟩ L d y := fun d y => by
            rw [rsAdd_all]
            unfold setR
            rw [HLe.out]
          rw [e5]
          exact ⟨k, sl, ib, (hD.congr erl).up (by have := HLn.out; omega), fun d hd => by obtain ⟨y, hy⟩ := hne d hd; exact ⟨y, by rw [erl]; exact hy⟩⟩
end Go.Proofs.Ytoimbhdjhhmonaa
