/- Chapter 29: the walk of DisputeSides. -/
import Derived.Test.YtmlcdoilbonelaaL29b
namespace Go.Proofs.Ytmlcdoilbonelaa
open Go.RowKit Go

def otherI (s : Int) : Int := if s = 2 then 3 else if s = 3 then 2 else s
def swD (d : Int) : Int := if d = 0 ∨ d = 1 then 1 - d else d
def swI (x : stT.den) : stT.den := (swD x.1, x.2.1, ())

theorem next_sw (s d a : Int) : nextF (otherI s) (swD d) a = (otherI (nextF s d a).1, (nextF s d a).2) := by
  by_cases hin : 1 ≤ s ∧ s ≤ 5 ∧ 0 ≤ d ∧ d ≤ 1 ∧ 0 ≤ a ∧ a ≤ 3
  · have hs : s = 1 ∨ s = 2 ∨ s = 3 ∨ s = 4 ∨ s = 5 := by omega
    have hd : d = 0 ∨ d = 1 := by omega
    have ha : a = 0 ∨ a = 1 ∨ a = 2 ∨ a = 3 := by omega
    rcases hs with rfl | rfl | rfl | rfl | rfl <;> rcases hd with rfl | rfl <;> rcases ha with rfl | rfl | rfl | rfl <;> (show _ = _; kernel_rfl)
  · rw [nextF, nextF, if_neg hin, if_neg]
    · rfl
    · unfold otherI swD
      split <;> split <;> (try split) <;> omega
theorem run_swG : ∀ (xs : List stT.den) (s : Int) (i : Nat), runG (otherI s) i (xs.map swI) = (otherI (runG s i xs).1, (runG s i xs).2.1, (runG s i xs).2.2)
  | [], s, i => rfl
  | x :: xs, s, i => by
    rw [List.map_cons, runG, runG]
    have h : nextF (otherI s) (swI x).1 (swI x).2.1 = (otherI (nextF s x.1 x.2.1).1, (nextF s x.1 x.2.1).2) := next_sw s x.1 x.2.1
    rw [h]
    split
    · exact run_swG xs _ _
    · rfl
theorem run_sw (s : Int) (xs : List stT.den) : runF (otherI s) (xs.map swI) = (otherI (runF s xs).1, (runF s xs).2.1, (runF s xs).2.2) := by
  have h : (1 ≤ otherI s ∧ otherI s ≤ 5) ↔ (1 ≤ s ∧ s ≤ 5) := by
    unfold otherI
    split
    · omega
    · split <;> omega
  unfold runF
  by_cases hin : 1 ≤ s ∧ s ≤ 5
  · rw [if_pos hin, if_pos (h.2 hin)]; exact run_swG xs s 0
  · rw [if_neg hin, if_neg (fun e => hin (h.1 e))]; rfl

theorem other_sum (w : World) (s : Int) : Calls Try.prog 13 #[.int .i64 s] w fun e w' => e = .returned (.int .i64 (otherI s)) ∧ w' = w := by
  by_cases h2 : s = 2
  · subst h2
    go_enter Try.func13, Try.ntmps13
    go_wp2
    go_ret
    exact ⟨rfl, rfl⟩
  by_cases h3 : s = 3
  · subst h3
    go_enter Try.func13, Try.ntmps13
    go_wp2
    go_ret
    exact ⟨rfl, rfl⟩
  have e : otherI s = s := by rw [otherI, if_neg h2, if_neg h3]
  rw [e]
  have q2 : (s == 2) = false := by simpa using h2
  have q3 : (s == 3) = false := by simpa using h3
  clear h2 h3 e
  go_enter Try.func13, Try.ntmps13
  go_wp2
  go_ret
  exact ⟨rfl, rfl⟩

theorem sw_take (xs : List stT.den) (k : Nat) (h : k < xs.length) : (xs.take (k + 1)).map swI = (xs.take k).map swI ++ [(swD (sdN xs k), saN xs k, ())] := by
  rw [sd_take xs k h, List.map_append]; rfl

set_option maxHeartbeats 4000000 in
theorem sidesWalk (w : World) (c0 : List Value) (s : (Ty.int .i64).den) (r0 : Rd (.int .i64) (fun b => b < w.heap.size) w c0 s) (c1 : List Value) (xs : (Ty.sl stT).den) (r1 : Rd (.sl stT) (fun b => b < w.heap.size) w c1 xs) :
    Calls Try.prog 4 #[valOf (.int .i64) c0, valOf (.sl stT) c1] w fun e w' => e = .returned (.bool true) ∧ Below w.heap.size w w' := by
  obtain ⟨rfl, -⟩ := id r0
  obtain ⟨a, len, cap, rfl, hl, hlc, hcm, -⟩ := id r1
  simp only [valOf, List.headD_cons]
  clear r0
  change Int at s
  have HL := Lib.hid (show List.length xs = len from hl); clear hl
  have R1 := Lib.hid r1; clear r1
  by_cases h50 : 50 < len
  case pos =>
    have hB0 := Below.refl w.heap.size w
    go_enter Try.func4, Try.ntmps4
    go_wp2_with (go_at_call 9; refine (awake_sum _).mono ?_; rintro e w1 ⟨rfl, hB1⟩; replace hB0 := below_step hB0 hB1)
    go_ret
    exact ⟨rfl, hB0⟩
  go_enter Try.func4, Try.ntmps4
  go_wp2_with (go_at_call 9; refine (awake_sum _).mono ?_; rintro e w1 ⟨rfl, hB1⟩; have HR1 := Lib.hid (R1.out.alloc hB1))
  have H4 : Hid (∀ i, i < len → ∃ b off, a = some ⟨b, off, none⟩ ∧ b < w1.heap.size ∧ w1.cell? ⟨b, off + i * 2, none⟩ = some (.int .i64 (sdN xs i)) ∧ w1.cell? ⟨b, off + i * 2 + 1, none⟩ = some (.int .i64 (saN xs i)) ∧
      (Lit.int .i64 (sdN xs i)).wf = true ∧ (Lit.int .i64 (saN xs i)).wf = true) := Lib.hid (Rd.steps HR1.out).2.2.2
  go_loopw [5, 24] (fun v i wr => ∃ k : Nat, k ≤ len ∧ i = .int .i64 k ∧ Owns stT 33 w1.heap.size (fun _ => False) wr v ((xs.take k).map swI) ∧ Below w1.heap.size w1 wr) (fun _ i _ => len - (intOf i).toNat)
  case atStart => exact ⟨0, Nat.zero_le _, rfl, Owns.nil _ _ _ _, Below.refl _ _⟩
  case round =>
    obtain ⟨k, hk, rfl, hO, hB⟩ := hrel
    have HO := Lib.hid hO; clear hO
    by_cases hlt : k < len
    · obtain ⟨b, off, rfl, _, c1, c2, wf1, wf2⟩ := H4.out k hlt
      replace c1 := cell_below c1 hB
      replace c2 := cell_below c2 hB
      have htl : ((xs.take k).map swI).length ≤ 1000 := by rw [List.length_map, List.length_take]; omega
      have hsz := hB.size
      have HT := Lib.hid (sw_take xs k (by rw [HL.out]; exact hlt))
      obtain ⟨x, hx⟩ : ∃ x, sdN xs k = x := ⟨_, rfl⟩
      rw [hx] at HT wf1 c1
      have wf3 : (Lit.int .i64 (swD x)).wf = true := by
        unfold swD
        split
        · rename_i h
          rcases h with rfl | rfl <;> rfl
        · exact wf1
      have hcase : ∃ y, swD x = y ∧ (x = 0 ∧ y = 1 ∨ x = 1 ∧ y = 0 ∨ x ≠ 0 ∧ x ≠ 1 ∧ y = x) := by
        refine ⟨_, rfl, ?_⟩
        unfold swD
        split <;> omega
      obtain ⟨y, hy, hxy⟩ := hcase
      rw [hy] at HT wf3
      have hsrc := Src.new (wr.alloc (.cells #[.int .i64 y, .int .i64 (saN xs k)] 32)) [.int .i64 y, .int .i64 (saN xs k)] 33 1 1
      rw [World.size_alloc] at hsrc
      clear hx hy wf1
      rcases hxy with ⟨rfl, rfl⟩ | ⟨rfl, rfl⟩ | ⟨hx0, hx1, rfl⟩
      case inr.inr =>
        have q0 : (y == 0) = false := by simpa using hx0
        have q1 : (y == 1) = false := by simpa using hx1
        clear hx0 hx1
        go_wp2_with (at_builtin; go_must (refine wpList_app _ rfl _ _ 27 rfl (e := stT) info_st Try.underlying27 rfl (by decide) rfl ((HO.out.alloc _).alloc _) (by simp; omega) (sv := .slice (some ⟨wr.heap.size + 1, 0, none⟩) 1 1) rfl (ys := [(y, saN xs k, ())]) hsrc (RdL.st1 wf3 wf2) (by simp only [List.length_cons, List.length_nil]; omega) (by simp only [List.length_cons, List.length_nil]; omega) ?_; intro v' w2 O1 g1 _ _; have hB1 := ((hB.alloc hB.size _).alloc (by simp; omega) _).grown g1 (by simp; omega) (fun k e => (HO.out.own k e).1)))
        go_roundw
        case rel => exact ⟨k + 1, by omega, by go_num, by rw [HT.out]; exact O1, hB1⟩
        case measure => simp [intOf]; omega
      all_goals
        go_wp2_with (at_builtin; go_must (refine wpList_app _ rfl _ _ 27 rfl (e := stT) info_st Try.underlying27 rfl (by decide) rfl ((HO.out.alloc _).alloc _) (by simp; omega) (sv := .slice (some ⟨wr.heap.size + 1, 0, none⟩) 1 1) rfl (ys := [(_, saN xs k, ())]) hsrc (RdL.st1 rfl wf2) (by simp only [List.length_cons, List.length_nil]; omega) (by simp only [List.length_cons, List.length_nil]; omega) ?_; intro v' w2 O1 g1 _ _; have hB1 := ((hB.alloc hB.size _).alloc (by simp; omega) _).grown g1 (by simp; omega) (fun k e => (HO.out.own k e).1)))
        go_roundw
        case rel => exact ⟨k + 1, by omega, by go_num, by rw [HT.out]; exact O1, hB1⟩
        case measure => simp [intOf]; omega
    · obtain rfl : k = len := by omega
      have hO := HO.out
      rw [List.take_of_length_le (by rw [HL.out]; exact Nat.le_refl _)] at hO
      have HO1 := Lib.hid hO; clear hO
      have HS := Lib.hid (run_sw s xs)
      obtain ⟨r, hr⟩ : ∃ r, runF s xs = r := ⟨_, rfl⟩
      have HR := Lib.hid hr; clear hr
      rw [HR.out] at HS
      obtain ⟨o, ho⟩ : ∃ o, otherI s = o := ⟨_, rfl⟩
      rw [ho] at HS
      have HOs := Lib.hid ho; clear ho
      have HRr := Lib.hid (HR1.out.alloc hB)
      obtain ⟨av, lv, cv, rfl, -⟩ := HO1.out.slice
      go_wp2_with (first
        | (go_at_call 11; refine (to_sum _ _ _ HRr.out (by have := HL.out; omega)).mono ?_; rintro e w2 ⟨v2, rfl, hB2, hO2⟩; have HOa := Lib.hid (HO1.out.below hB2))
        | (go_at_call 10; (with_reducible refine (run_sum w2 s v2 xs (hO2.rd _ (fun _ h => h.elim) (fun b hb => (hO2.own b hb).2))).mono ?_); rw [HR.out]; rintro e w3 ⟨rfl, hB3⟩; have HOb := Lib.hid (HOa.out.below hB3))
        | (go_at_call 13; refine (other_sum _ s).mono ?_; rw [HOs.out]; rintro e w5 ⟨rfl, hw⟩; subst w5)
        | (go_at_call 10; (with_reducible refine (run_sum w3 o _ _ (HOb.out.rd _ (fun _ h => h.elim) (fun b hb => (HOb.out.own b hb).2))).mono ?_); rw [HS.out]; rintro e w6 ⟨rfl, hB6⟩)
        | (go_at_call 13; refine (other_sum _ _).mono ?_; rintro e w7 ⟨rfl, hw⟩; subst w7))
      go_ret
      refine ⟨ret_bool ?_, below_step (below_step (below_step (below_step hB1 hB) hB2) hB3) hB6⟩
      simp
end Go.Proofs.Ytmlcdoilbonelaa
