/- Layer 56: the walk of LogOpen. -/
import Derived.Test.YtkojomakibfncaaC56k
import Derived.Test.YtkojomakibfncaaRead
namespace Go.Proofs.Ytkojomakibfncaa
open Go.RowKit Go

theorem refopen_sum (w : World) (a : Option Addr) (len cap : Nat) (xs : List Int) (hx : Rd rowT (fun b => b < w.heap.size) w [.slice a len cap] xs) (hmx : len ≤ 16000) :
    Calls Try.prog 12 #[.slice a len cap] w (RoPost w (openI xs)) := by
  cases h : beginsB xs textI with
  | false => exact refopen_bad w a len cap xs hx h
  | true => exact refopen_ok w a len cap xs hx h hmx

theorem openG_bound : ∀ (k : Nat) (h : Int) (xs : List Int), 16 * (openG k h xs).1.length ≤ xs.length ∧ (∀ r ∈ (openG k h xs).1, r.length ≤ 65536)
  | 0, h, xs => by simp [openG]
  | k + 1, h, xs => by
    by_cases hn : xs = []
    · rw [hn, openG_nil]; simp
    · by_cases hc : chkP xs = 0
      · by_cases hl : (lnkP xs : Int) = nextI h (recP xs)
        · rw [openG_next _ _ _ hn hc hl]
          have ih := openG_bound k (nextI h (recP xs)) (xs.drop (16 + (recP xs).length))
          have hq := chkP_len hc
          simp only [List.length_cons, List.length_drop] at ih ⊢
          refine ⟨by omega, fun r hr => ?_⟩
          rcases List.mem_cons.1 hr with rfl | hr
          · omega
          · exact ih.2 r hr
        · rw [openG_sum _ _ _ hn hc hl]; simp
      · rw [openG, if_neg hn, if_pos hc]; simp
theorem openI_bound (xs : List Int) : 16 * (openI xs).1.length ≤ xs.length ∧ (∀ r ∈ (openI xs).1, r.length ≤ 65536) := by
  unfold openI
  split
  · split <;> simp
  · split
    · simp
    · have h := openG_bound xs.length 29793 (xs.drop 8)
      rw [List.length_drop] at h
      exact ⟨by simp only; omega, h.2⟩

set_option maxHeartbeats 1000000 in
theorem openWalk (w : World) (c0 : List Value) (xs : (Ty.sl (.int .u8)).den) (r0 : Rd (.sl (.int .u8)) (fun b => b < w.heap.size) w c0 xs) :
    Calls Try.prog 3 #[valOf (.sl (.int .u8)) c0] w fun e w' => e = .returned (.bool true) ∧ Below w.heap.size w w' := by
  obtain ⟨a, len, cap, rfl, hl, hlc, hcm, -⟩ := id r0
  simp only [valOf, List.headD_cons]
  change List Int at xs
  have hl' : xs.length = len := hl
  have hbd := openI_bound xs
  rw [hl'] at hbd
  have R0 := Lib.hid (show Rd rowT (fun b => b < w.heap.size) w [.slice a len cap] xs from r0)
  have HBD := Lib.hid hbd
  obtain ⟨x0, hx0⟩ : ∃ x, openI xs = x := ⟨_, rfl⟩
  rw [hx0] at HBD
  have HX0 := Lib.hid hx0
  clear r0 hl hl' hbd hx0
  by_cases h3 : 3000 < len
  · go_enter Try.func3, Try.ntmps3
    go_wp2_with (go_at_call 10; refine (awake_sum _).mono ?_; rintro e w1 ⟨rfl, hB1⟩)
    go_ret
    exact ⟨rfl, hB1⟩
  go_enter Try.func3, Try.ntmps3
  go_wp2_with fail
  refine (awake_sum _).mono ?_
  rintro e w1 ⟨rfl, hB1⟩
  have HR1 := Lib.hid (R0.out.alloc hB1)
  go_wp2_with fail
  refine (open_sum _ _ _ _ _ HR1.out (by omega)).mono ?_
  rw [HX0.out]
  rintro e w2 ⟨p, F, rfl, hL, hF, hB2⟩
  have HL := Lib.hid hL
  have HF := Lib.hid hF
  have HR2 := Lib.hid (HR1.out.alloc hB2)
  clear hL hF
  go_wp2_with fail
  refine (refopen_sum _ _ _ _ _ HR2.out (by omega)).mono ?_
  rw [HX0.out]
  rintro e w3 ⟨v, rfl, hB3, hR3⟩
  obtain ⟨av, lv, cv, he, -⟩ := id hR3
  simp only [List.cons.injEq, and_true] at he
  subst he
  have HR3 := Lib.hid hR3
  clear hR3
  go_wp2_with (first
    | (go_at_call 14; refine (records_sum F _ p _ (HL.out.below hB3) (fun r hr => Nat.le_trans (HBD.out.2 r hr) (by omega)) (by have := HBD.out.1; omega)).mono ?_; rintro e w4 ⟨v4, S4, rfl, hB4, hO4, hS4⟩; obtain ⟨a4, l4, c4, rfl, -⟩ := hO4.slice; have HO4 := Lib.hid hO4; clear hO4 hS4)
    | (go_at_call 13; refine (same_sum _ _ _ _ _ _ _ _ _ (HO4.out.rd (fun b => b < w4.heap.size) (fun b hb => (HO4.out.bound b hb).2) (fun b hb => (HO4.out.own b hb).2)) (HR3.out.alloc hB4) (fun _ h => h) (fun _ h => h)).mono ?_; rw [decide_eq_true rfl]; rintro e w5 ⟨rfl, hB5⟩))
  go_ret
  exact ⟨ret_bool (by simp), below_step (below_step (below_step (below_step hB1 hB2) hB3) hB4) hB5⟩
end Go.Proofs.Ytkojomakibfncaa
