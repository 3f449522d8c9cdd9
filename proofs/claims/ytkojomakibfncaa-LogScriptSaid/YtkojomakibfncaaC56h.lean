/- Layer 56: awake, Same. -/
import Derived.Test.YtkojomakibfncaaC56g
namespace Go.Proofs.Ytkojomakibfncaa
open Go.RowKit Go

theorem OwnsC.lt {base : Nat} {w : World} {v : Value} {xs : List Int} (h : OwnsC base w v xs) : Rd rowT (fun b => b < w.heap.size) w [v] xs := h.rd.keep (fun _ _ => rfl) (fun _ h => h.2)

set_option maxHeartbeats 1000000 in
theorem awake_sum (w : World) : Calls Try.prog 10 #[] w fun e w' => e = .returned (.bool true) ∧ Below w.heap.size w w' := by
  have hop : openI ((bytesI [[97]]).take 24) = ([], 8, 19) := by decide +kernel
  have hbl : (bytesI [[97]]).length = 25 := by decide +kernel
  have HOP := Lib.hid hop
  have HBL := Lib.hid hbl
  clear hop hbl
  go_enter Try.func10, Try.ntmps10
  go_wp2_with fail
  refine (new_sum _).mono ?_
  rintro e w1 ⟨rfl, hL, hB⟩
  have hs1 : w.heap.size < w1.heap.size := hL.1 _ rfl
  have hL1 := hL.below ((Below.refl w1.heap.size w1).alloc (Nat.le_refl _) (.cells #[.int .u8 97] 5))
  have hx1 : Rd rowT (fun b => b = w1.heap.size) (w1.alloc (.cells #[.int .u8 97] 5)) [.slice (some ⟨w1.heap.size, 0, none⟩) 1 1] [97] := Rd.sl_blk (e := .int .u8) (heap_alloc_new w1 _) rfl rfl (by omega) (RdL.int1 (by decide))
  have HL1 := Lib.hid hL1
  have HX1 := Lib.hid hx1
  clear hL hL1 hx1
  go_wp2_with fail
  refine (append_sum (fun b => b = w.heap.size) (fun b => b = w1.heap.size) _ w.heap.size [] HL1.out _ _ _ [97] HX1.out (fun b hb => ⟨by rw [hb]; simp, by omega⟩) (by omega) (by simp)).mono ?_
  rintro e w2 ⟨rfl, F2, hL2, hF2, hG2⟩
  have HL2 := Lib.hid (show LogIn F2 w2 w.heap.size [[97]] from hL2)
  have hB2 : Below w.heap.size w w2 := (hB.alloc (by omega) _).trans (hG2.below (fun b hb => by omega) (by simp; omega))
  clear hL2 hF2 hG2
  go_wp2_with fail
  refine (bytes_sum F2 _ w.heap.size [[97]] HL2.out (by simp) (by simp)).mono ?_
  rintro e w3 ⟨v3, rfl, hB3, hO3⟩
  obtain ⟨a3, l3, c3, rfl, hl3⟩ := hO3.slice
  rw [HBL.out] at hl3
  subst hl3
  have HL3 := Lib.hid (HL2.out.below hB3)
  clear hO3
  go_wp2_with fail
  refine (bytes_sum F2 _ w.heap.size [[97]] HL3.out (by simp) (by simp)).mono ?_
  rintro e w4 ⟨v4, rfl, hB4, hO4⟩
  obtain ⟨a4, l4, c4, rfl, hl4⟩ := hO4.slice
  rw [HBL.out] at hl4
  subst hl4
  have HL4 := Lib.hid (HL3.out.below hB4)
  have HO4 := Lib.hid (Rd.take hO4.lt 24 (by omega))
  obtain ⟨-, hc4, hm4, -⟩ := hO4.lt.ints
  clear hO4
  go_wp2_with (first
    | (go_at_call 11; refine (open_sum _ _ _ _ _ HO4.out (by omega)).mono ?_; rw [HOP.out]; rintro e w5 ⟨p5, F5, rfl, hL5, hF5, hB5⟩; have HL5 := Lib.hid hL5; clear hL5 hF5; have HL6 := Lib.hid (HL4.out.below hB5))
    | (go_at_call_of 18 (Value.pointer (some ⟨p5, 0, none⟩)); refine (len_sum _ _ p5 _ HL5.out).mono ?_; rintro e w6 ⟨rfl, hw⟩; subst w6)
    | (go_at_call_of 18 (Value.pointer (some ⟨w.heap.size, 0, none⟩)); refine (len_sum _ _ w.heap.size _ HL6.out).mono ?_; rintro e w6 ⟨rfl, hw⟩; subst w6))
  go_ret
  exact ⟨rfl, below_step (below_step (below_step hB2 hB3) hB4) hB5⟩

set_option maxHeartbeats 1000000 in
theorem same_sum {S T : Nat → Prop} (w : World) (a b : Option Addr) (la ca lb cb : Nat) (xs ys : List (List Int)) (hx : Rd (.sl rowT) S w [.slice a la ca] xs) (hy : Rd (.sl rowT) T w [.slice b lb cb] ys) (hS : ∀ b, S b → b < w.heap.size) (hT : ∀ b, T b → b < w.heap.size) :
    Calls Try.prog 13 #[.slice a la ca, .slice b lb cb] w fun e w' => e = .returned (.bool (decide (xs = ys))) ∧ Below w.heap.size w w' := by
  obtain ⟨hl, hc, hm, -⟩ := hx.rows
  obtain ⟨hl2, hc2, hm2, -⟩ := hy.rows
  have HX := Lib.hid hx
  have HY := Lib.hid hy
  have HL := Lib.hid hl
  have HL2 := Lib.hid hl2
  have HSS := Lib.hid hS
  have HTT := Lib.hid hT
  clear hx hy hl hl2 hS hT
  by_cases hne : la = lb
  case neg =>
    have hq : ((la : Int) != (lb : Int)) = true := by simp; omega
    go_enter Try.func13, Try.ntmps13
    go_wp2
    go_ret
    refine ⟨ret_bool ?_, Below.refl _ _⟩
    exact (decide_eq_false (fun e => hne (by rw [← HL.out, ← HL2.out, e]))).symm
  subst hne
  go_enter Try.func13, Try.ntmps13
  go_wp2
  go_loopw [5] (fun i wr => ∃ k : Nat, k ≤ la ∧ i = .int .i64 k ∧ Below w.heap.size w wr ∧ xs.take k = ys.take k) (fun i _ => la - (intOf i).toNat)
  case atStart => exact ⟨0, Nat.zero_le _, rfl, Below.refl _ _, rfl⟩
  case round =>
    obtain ⟨k, hk, rfl, hB, ht⟩ := hrel
    have HT := Lib.hid ht; clear ht
    by_cases hlt : k < la
    · have hkx : k < xs.length := by rw [HL.out]; exact hlt
      have hky : k < ys.length := by rw [HL2.out]; exact hlt
      obtain ⟨-, -, -, h4⟩ := (HX.out.below hB HSS.out).rows
      obtain ⟨-, -, -, h5⟩ := (HY.out.below hB HTT.out).rows
      obtain ⟨b1, o1, a1, l1, c1, rfl, -, e1, r1⟩ := h4 k hkx
      obtain ⟨b2, o2, a2, l2, c2, rfl, -, e2, r2⟩ := h5 k hky
      have v1 := fun n => Rd.conv (P := Try.prog) (w := wr.drewN n) (r1.drewN n) Try.underlying22 Try.underlying5 Try.underlying9
      have v2 := fun n => Rd.conv (P := Try.prog) (w := wr.drewN n) (r2.drewN n) Try.underlying22 Try.underlying5 Try.underlying9
      have hq := strEqB _ _ r1.okB r2.okB
      have HTa := Lib.hid (List.take_succ_eq_append_getElem hkx)
      have HTb := Lib.hid (List.take_succ_eq_append_getElem hky)
      obtain ⟨p1, hp1⟩ : ∃ p, strOfNums (xs[k]'hkx) = p := ⟨_, rfl⟩
      obtain ⟨p2, hp2⟩ : ∃ p, strOfNums (ys[k]'hky) = p := ⟨_, rfl⟩
      rw [hp1] at v1 hq
      rw [hp2] at v2 hq
      have HKX := Lib.hid hkx
      have HKY := Lib.hid hky
      clear h4 h5 r1 r2 hp1 hp2
      by_cases heq : xs[k]'hkx = ys[k]'hky
      · rw [decide_eq_true heq] at hq
        have HEQ := Lib.hid heq
        clear heq
        go_wp2
        go_quiet (fail)
        go_wp2
        go_roundw
        case rel => exact ⟨k + 1, by omega, by go_num, below_drewN hB _, by rw [HTa.out, HTb.out, HT.out, HEQ.out]⟩
        case measure => simp [intOf]; omega
      · rw [decide_eq_false heq] at hq
        have HEQ := Lib.hid heq
        clear heq
        go_wp2
        go_quiet (fail)
        go_wp2
        go_ret
        refine ⟨ret_bool (decide_eq_false (fun e => HEQ.out ?_)).symm, below_drewN hB _⟩
        subst e; rfl
    · obtain rfl : k = la := by omega
      go_wp2
      go_ret
      refine ⟨ret_bool ?_, hB⟩
      have := HT.out
      rw [List.take_of_length_le (by rw [HL.out]; exact Nat.le_refl _), List.take_of_length_le (by rw [HL2.out]; exact Nat.le_refl _)] at this
      rw [this]; simp
end Go.Proofs.Ytkojomakibfncaa
