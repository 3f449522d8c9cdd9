/- Layer 47: DepsOrder. -/
import Derived.Test.YtoimbhdjhhmonaaE47q
set_option linter.unusedSimpArgs false
set_option linter.unusedVariables false
set_option maxRecDepth 50000
namespace Go.Proofs.Ytoimbhdjhhmonaa
open Go.RowKit Go Go.Shelf

/-- Order's list and error. -/
def ordL (all : List C4) (rd : C4 → List C4) : List C4 := if (finO all rd).length < all.length then [] else finO all rd
def ordE (all : List C4) (rd : C4 → List C4) : Int := if (finO all rd).length < all.length then 7 else 0
def OrdOutP (w : World) (all : List C4) (rd : C4 → List C4) (e : Ending) (w' : World) : Prop :=
  ∃ (va : Option Addr) (vc : Nat), e = .returned (.tuple #[.slice va (ordL all rd).length vc, .int .i64 (ordE all rd)]) ∧ SlC w.heap.size w' (.slice va (ordL all rd).length vc) (ordL all rd) ∧ Below w.heap.size w w'
theorem OrderP.out {w : World} {all : List C4} {rd : C4 → List C4} {e : Ending} {w' : World} (h : OrderP w all rd e w') : OrdOutP w all rd e w' := by
  obtain ⟨hB, ⟨hl, rfl⟩ | ⟨hl, v, rfl, hs⟩⟩ := h
  · unfold OrdOutP ordL ordE
    simp only [hl, if_true]
    exact ⟨none, 0, rfl, SlC.nil _ _, hB⟩
  · unfold OrdOutP ordL ordE
    have hn : ¬ (finO all rd).length < all.length := by omega
    simp only [hn, if_false]
    obtain ⟨va, vc, rfl⟩ := hs.form
    exact ⟨va, vc, rfl, hs, hB⟩
section
variable {F : Nat → Nat} {w : World} {p mr ms n K m : Nat} {G : List En4} {ha : Option Addr} {hc : Nat}
theorem BG.orderO (h : BG F w p mr ms n K m G ha hc) (hm : m ≤ 100) : Calls Try.prog 23 #[.pointer (some ⟨p, 0, none⟩)] w (OrdOutP w (cellsG G) (rdL (lkG G))) :=
  (h.order hm).mono fun _ _ => OrderP.out
theorem BG.rorderO (h : BG F w p mr ms n K m G ha hc) (hm : m ≤ 100) : Calls Try.prog 24 #[.slice ha G.length hc] w (OrdOutP w (cellsG G) (rdL (lkG G))) :=
  (rorder47 w ha hc G h.ref (fun b hb => hb.1) h.gi hm).mono fun _ _ => OrderP.out
theorem BG.rcycle (h : BG F w p mr ms n K m G ha hc) (hm : m ≤ 100) : Calls Try.prog 26 #[.slice ha G.length hc] w (CycleP w (cellsG G) (lkG G)) :=
  rcycle47 w ha hc G h.ref (fun b hb => hb.1) h.gi hm
end
set_option maxHeartbeats 4000000 in
theorem orderWalk47 (w : World) (c0 : List Value) (x0 : (Ty.sl stepT).den) (r0 : Rd (.sl stepT) (fun b => b < w.heap.size) w c0 x0) :
    Calls Try.prog 6 #[valOf (Ty.sl stepT) c0] w fun e w' => e = .returned (.bool true) ∧ Below w.heap.size w w' := by
  obtain ⟨a, len, cap, rfl, hl0, -⟩ := id r0
  have HL := Lib.hid (show x0.length = len from hl0)
  have HX := Lib.hid r0
  have HS := Lib.hid (show ∀ b, b < w.heap.size → b < w.heap.size from fun _ h => h)
  have hlm : len ≤ 9223372036854775807 := Nat.le_trans r0.sl_flat.2.1 r0.sl_flat.2.2.1
  change Calls _ _ #[.slice a len cap] _ _
  clear r0 hl0
  go_enter Try.func6, Try.ntmps6
  have HAW := Lib.hid (awake47 w)
  go_wp2_with fail
  refine HAW.out.mono ?_
  clear HAW
  rintro e w1 ⟨rfl, hB1⟩
  have HB1 := Lib.hid hB1
  clear hB1
  have HFW := Lib.hid (few47 w1 a len cap x0 (HX.out.below HB1.out (fun _ h => h)) (fun b hb => Nat.lt_of_lt_of_le hb HB1.out.size))
  obtain ⟨fb, hfb⟩ : ∃ x, fewB x0 = x := ⟨_, rfl⟩
  rw [hfb] at HFW
  have HFB := Lib.hid hfb
  clear hfb
  go_wp2_with fail
  refine HFW.out.mono ?_
  clear HFW
  rintro e w2 ⟨rfl, hB2⟩
  have HB2 := Lib.hid (below_step HB1.out hB2)
  clear hB2
  cases fb
  case false =>
    go_wp2_with fail
    go_ret
    exact ⟨rfl, HB2.out⟩
  have HFB2 := Lib.hid (show fewB x0 = true from HFB.out)
  have HBU := Lib.hid (build47 w2 a len cap x0 (HX.out.below HB2.out (fun _ h => h)) (fun b hb => Nat.lt_of_lt_of_le hb HB2.out.size) HFB2.out)
  have HM := Lib.hid (show len ≤ 30 from by
    have h := HFB2.out
    unfold fewB at h
    rw [Bool.and_eq_true] at h
    have h2 := of_decide_eq_true h.2
    rw [HL.out] at h2
    exact h2)
  go_wp2_with fail
  refine HBU.out.mono ?_
  clear HBU
  rintro e w3 ⟨F, p, mr, ms, n, K, G, ha, hc, rfl, hG, hF, hB3⟩
  have HG3 := Lib.hid hG
  have HB3 := Lib.hid (below_step HB2.out hB3)
  clear hG hF hB3
  have HO3 := Lib.hid (HG3.out.orderO (by have := HM.out; omega))
  obtain ⟨ol, hol⟩ : ∃ x, ordL (cellsG G) (rdL (lkG G)) = x := ⟨_, rfl⟩
  obtain ⟨oe, hoe⟩ : ∃ x, ordE (cellsG G) (rdL (lkG G)) = x := ⟨_, rfl⟩
  have HOL := Lib.hid hol
  have HOE := Lib.hid hoe
  clear hol hoe
  go_wp2_with fail
  refine HO3.out.mono ?_
  rintro e w4 ⟨va, vc, rfl, hs4, hB4⟩
  rw [HOL.out] at hs4 ⊢
  rw [HOE.out]
  have HS4 := Lib.hid hs4
  have HW4 := Lib.hid hB4
  have HB4 := Lib.hid (below_step HB3.out hB4)
  have HG4 := Lib.hid (HG3.out.below hB4)
  have HO4 := Lib.hid (HG4.out.rorderO (by have := HM.out; omega))
  clear hs4 hB4
  go_wp2_with fail
  refine HO4.out.mono ?_
  rintro e w5 ⟨vb, vd, rfl, hs5, hB5⟩
  rw [HOL.out] at hs5 ⊢
  rw [HOE.out]
  have HS5 := Lib.hid hs5
  have HB5 := Lib.hid (below_step HB4.out hB5)
  have HG5 := Lib.hid (HG4.out.below hB5)
  have HZC := Lib.hid (BG.same (HS4.out.below hB5) HS5.out)
  clear hs5 hB5
  go_wp2_with fail
  refine HZC.out.mono ?_
  rintro e w6 ⟨rfl, hB6⟩
  have HB6 := Lib.hid (below_step HB5.out hB6)
  have HG6 := Lib.hid (HG5.out.below hB6)
  have HC6 := Lib.hid (HG6.out.cycle (by have := HM.out; omega))
  clear hB6
  go_wp2_with fail
  refine HC6.out.mono ?_
  rintro e w7 ⟨ca, cc, ys, rfl, hcq, -, -, hrd, hB7⟩
  have HCQ := Lib.hid hcq
  have HRD := Lib.hid hrd
  have HB7 := Lib.hid (below_step HB6.out hB7)
  have HG7 := Lib.hid (HG6.out.below hB7)
  have HC7 := Lib.hid (HG7.out.rcycle (by have := HM.out; omega))
  clear hcq hrd hB7
  go_wp2_with fail
  refine HC7.out.mono ?_
  rintro e w8 ⟨da, dc, zs, rfl, hcq, -, -, hrd, hB8⟩
  obtain rfl : ys = zs := HCQ.out.uniq hcq
  have HRD8 := Lib.hid hrd
  have HB8 := Lib.hid (below_step HB7.out hB8)
  have HSM := Lib.hid (same47 w8 ca cc da dc ys (HRD.out.below hB8 (fun b hb => hb.2)) HRD8.out (fun b hb => Nat.lt_of_lt_of_le hb.2 hB8.size) (fun b hb => hb.2))
  clear hcq hrd hB8
  go_wp2_with fail
  refine HSM.out.mono ?_
  rintro e w9 ⟨rfl, hB9⟩
  have HB9 := Lib.hid (below_step HB8.out hB9)
  clear hB9
  go_wp2_with fail
  go_ret
  exact ⟨rfl, HB9.out⟩
end Go.Proofs.Ytoimbhdjhhmonaa
