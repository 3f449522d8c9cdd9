/- Layer 56, plain: what is recovered is a log's bytes. -/
import Derived.Test.YtkojomakibfncaaP56b
namespace Go.Proofs.Ytkojomakibfncaa
open Go.RowKit Go

theorem fourI_mod (m k : Int) (h : m % 4294967296 = k % 4294967296) : fourI m = fourI k := by
  simp only [fourI, List.cons.injEq, and_true]
  omega
theorem okB_eight {xs : List Int} (h : okB xs) (hl : xs.length = 8) : eightI (numN xs) = xs := by
  have e : xs = xs.take 4 ++ xs.drop 4 := (List.take_append_drop 4 xs).symm
  have h1 := okB_four (okB_take h 4) (by rw [List.length_take]; omega)
  have h2 := okB_four (okB_drop h 4) (by rw [List.length_drop]; omega)
  have b1 := numN_lt4 _ (okB_take h 4) (List.length_take_le _ _)
  have b2 := numN_lt4 _ (okB_drop h 4) (by rw [List.length_drop]; omega)
  have e2 : numN xs = numN (xs.take 4) * 4294967296 + numN (xs.drop 4) := by
    have hd : (xs.drop 4).length = 4 := by rw [List.length_drop]; omega
    conv => lhs; rw [e]
    match xs.drop 4, hd with
    | [a, b, c, d], _ => exact numN_app4 _ a b c d
  rw [e2, eight_four _ (by omega) (by omega)]
  rw [fourI_mod (((numN (xs.take 4) * 4294967296 + numN (xs.drop 4) : Nat) : Int) / 4294967296) (numN (xs.take 4)) (by omega), fourI_mod ((numN (xs.take 4) * 4294967296 + numN (xs.drop 4) : Nat) : Int) (numN (xs.drop 4)) (by omega), h1, h2, ← e]
theorem frame_of {xs : List Int} (h : okB xs) (hc : chkP xs = 0) {l : Int} (hl : (lnkP xs : Int) = l) : frameI (recP xs) l = xs.take (16 + (recP xs).length) := by
  obtain ⟨c1, c2, c3, c4, c5⟩ := chkP_len hc
  have e4 : fourI (recP xs).length = xs.take 4 := by
    rw [c5]; exact okB_four (okB_take h 4) (by rw [List.length_take]; omega)
  have e8 : fourI (18446744073709551615 - (recP xs).length) = (xs.drop 4).take 4 := by
    rw [c5, fourI_mod (18446744073709551615 - (sizeP xs : Int)) (invP xs) (by omega)]
    exact okB_four (okB_take (okB_drop h 4) 4) (by rw [List.length_take, List.length_drop]; omega)
  have e16 : eightI l = (xs.drop 8).take 8 := by
    rw [← hl]; exact okB_eight (okB_take (okB_drop h 8) 8) (by rw [List.length_take, List.length_drop]; omega)
  have er : recP xs = (xs.drop 16).take (recP xs).length := by
    rw [c5]; rfl
  unfold frameI
  rw [e4, e8, e16]
  conv => lhs; rw [er]
  have t1 : xs.take (16 + (recP xs).length) = xs.take 16 ++ (xs.drop 16).take (recP xs).length := List.take_add
  have t2 : xs.take 16 = xs.take 8 ++ (xs.drop 8).take 8 := List.take_add (i := 8) (j := 8)
  have t3 : xs.take 8 = xs.take 4 ++ (xs.drop 4).take 4 := List.take_add (i := 4) (j := 4)
  rw [t1, t2, t3]
theorem openG_take : ∀ (k : Nat) (h : Int) (xs : List Int), okB xs → framesI h (openG k h xs).1 = xs.take (openG k h xs).2.1 ∧ (openG k h xs).2.1 ≤ xs.length
  | 0, h, xs, _ => by simp [openG, framesI]
  | k + 1, h, xs, hx => by
    by_cases hn : xs = []
    · rw [hn, openG_nil]; simp [framesI]
    · by_cases hc : chkP xs = 0
      · by_cases hl : (lnkP xs : Int) = nextI h (recP xs)
        · have ih := openG_take k (nextI h (recP xs)) (xs.drop (16 + (recP xs).length)) (okB_drop hx _)
          obtain ⟨c1, c2, c3, c4, c5⟩ := chkP_len hc
          rw [openG, if_neg hn, if_neg (by simpa using hc), if_neg (by simpa using hl)]
          simp only [framesI]
          rw [frame_of hx hc hl, ih.1]
          refine ⟨List.take_add.symm, ?_⟩
          have := ih.2
          rw [List.length_drop] at this
          omega
        · rw [openG, if_neg hn, if_neg (by simpa using hc), if_pos hl]; simp [framesI]
      · rw [openG, if_neg hn, if_pos hc]; simp [framesI]
where openG_nil (k : Nat) (h : Int) : openG k h [] = ([], 0, 0) := by cases k <;> rfl
theorem openI_take (xs : List Int) (hx : okB xs) : (openI xs).2.1 ≤ xs.length ∧ ((openI xs).2.1 = 0 ∧ (openI xs).1 = [] ∨ bytesI (openI xs).1 = xs.take (openI xs).2.1) := by
  unfold openI
  split
  · split <;> simp
  · rename_i h8
    split
    · simp
    · rename_i hf
      have hf' : xs.take 8 = textI := by simpa using hf
      have h := openG_take xs.length 29793 (xs.drop 8) (okB_drop hx 8)
      rw [List.length_drop] at h
      refine ⟨by simp only; omega, .inr ?_⟩
      simp only [bytesI]
      rw [h.1, ← hf']
      exact List.take_add.symm
end Go.Proofs.Ytkojomakibfncaa
