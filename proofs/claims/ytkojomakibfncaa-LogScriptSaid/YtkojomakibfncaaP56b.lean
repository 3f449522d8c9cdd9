/- Layer 56, plain: a log's bytes are recovered whole; what is recovered is a log's bytes. -/
import Derived.Test.YtkojomakibfncaaP56
namespace Go.Proofs.Ytkojomakibfncaa
open Go.RowKit Go

theorem numN_four (m : Int) (_ : 0 ≤ m) : (numN (fourI m) : Int) = m % 4294967296 := by
  simp only [fourI, numN, List.foldl_cons, List.foldl_nil]
  omega
theorem numN_app4 (xs : List Int) (a b c d : Int) : numN (xs ++ [a, b, c, d]) = numN xs * 4294967296 + numN [a, b, c, d] := by
  have e : xs ++ [a, b, c, d] = (((xs ++ [a]) ++ [b]) ++ [c]) ++ [d] := by simp
  rw [e, numN_snoc, numN_snoc, numN_snoc, numN_snoc]
  simp only [numN, List.foldl_cons, List.foldl_nil]
  omega
theorem eight_four (m : Int) (h0 : 0 ≤ m) (h1 : m ≤ 18446744073709551615) : eightI m = fourI (m / 4294967296) ++ fourI m := by
  simp only [eightI, fourI, List.cons_append, List.nil_append, List.cons.injEq, and_true]
  omega
theorem numN_eight (m : Int) (h0 : 0 ≤ m) (h1 : m ≤ 18446744073709551615) : (numN (eightI m) : Int) = m := by
  have e1 := numN_four (m / 4294967296) (by omega)
  have e2 := numN_four m h0
  have e3 := numN_app4 (fourI (m / 4294967296)) (m / 16777216 % 256) (m / 65536 % 256) (m / 256 % 256) (m % 256)
  rw [eight_four m h0 h1]
  change numN (fourI (m / 4294967296) ++ fourI m) = _ at e3
  rw [e3]
  change (numN [m / 16777216 % 256, m / 65536 % 256, m / 256 % 256, m % 256] : Int) = _ at e2
  rw [Int.natCast_add, Int.natCast_mul, e1, e2]
  omega
theorem frame_parts (r : List Int) (l : Int) (rest : List Int) : (frameI r l ++ rest).take 4 = fourI r.length ∧ ((frameI r l ++ rest).drop 4).take 4 = fourI (18446744073709551615 - r.length) ∧ ((frameI r l ++ rest).drop 8).take 8 = eightI l ∧ (frameI r l ++ rest).drop 16 = r ++ rest := by
  simp [frameI, fourI, eightI]
theorem frame_read (r : List Int) (l : Int) (rest : List Int) (hr : r.length ≤ 65536) (hl : (Lit.int .u64 l).wf = true) :
    sizeP (frameI r l ++ rest) = r.length ∧ invP (frameI r l ++ rest) = 4294967295 - r.length ∧ (lnkP (frameI r l ++ rest) : Int) = l ∧ recP (frameI r l ++ rest) = r ∧ chkP (frameI r l ++ rest) = 0 := by
  obtain ⟨h1, h2, h3, h4⟩ := frame_parts r l rest
  have hl2 := wf_u64 hl
  have e1 : sizeP (frameI r l ++ rest) = r.length := by
    unfold sizeP
    rw [h1]
    have := numN_four r.length (by omega)
    omega
  have e2 : invP (frameI r l ++ rest) = 4294967295 - r.length := by
    unfold invP
    rw [h2]
    have := numN_four (18446744073709551615 - r.length) (by omega)
    omega
  have e3 : (lnkP (frameI r l ++ rest) : Int) = l := by
    unfold lnkP
    rw [h3]
    exact numN_eight l hl2.1 hl2.2
  have e4 : recP (frameI r l ++ rest) = r := by
    unfold recP
    rw [h4, e1]
    simp
  have hlen : (frameI r l ++ rest).length = 16 + r.length + rest.length := by rw [List.length_append, frameI_length]
  refine ⟨e1, e2, e3, e4, ?_⟩
  unfold chkP
  rw [e1, e2, hlen, if_neg (by omega), if_neg (by omega), if_neg (by omega)]

theorem openG_frames : ∀ (rs : List (List Int)) (k : Nat) (h : Int), (∀ r ∈ rs, r.length ≤ 65536) → (Lit.int .u64 h).wf = true → (framesI h rs).length ≤ k → openG k h (framesI h rs) = (rs, (framesI h rs).length, 0)
  | [], k, h, _, _, _ => by cases k <;> rfl
  | r :: rs, k, h, hr, hh, hk => by
    have hn := nextI_wf h r hh
    obtain ⟨e1, e2, e3, e4, e5⟩ := frame_read r (nextI h r) (framesI (nextI h r) rs) (hr r (by simp)) hn
    have hlen : (framesI h (r :: rs)).length = 16 + r.length + (framesI (nextI h r) rs).length := by rw [framesI, List.length_append, frameI_length]
    cases k with
    | zero => omega
    | succ k =>
      have hne : framesI h (r :: rs) ≠ [] := fun e => by rw [e] at hlen; simp at hlen; omega
      have hd : (framesI h (r :: rs)).drop (16 + r.length) = framesI (nextI h r) rs := by
        rw [framesI, List.drop_left' (frameI_length _ _)]
      rw [show framesI h (r :: rs) = frameI r (nextI h r) ++ framesI (nextI h r) rs from rfl] at hne hd hlen hk ⊢
      have hq : (lnkP (frameI r (nextI h r) ++ framesI (nextI h r) rs) : Int) = nextI h (recP (frameI r (nextI h r) ++ framesI (nextI h r) rs)) := by rw [e3, e4]
      rw [openG, if_neg hne, if_neg (by rw [e5]; simp), if_neg (by rw [hq]; simp), e4, hd, openG_frames rs k (nextI h r) (fun x hx => hr x (by simp [hx])) hn (by omega)]
      simp only [hlen]

theorem openI_bytes (rs : List (List Int)) (hr : ∀ r ∈ rs, r.length ≤ 65536) : openI (bytesI rs) = (rs, (bytesI rs).length, 0) := by
  have ht : textI.length = 8 := rfl
  have hl : (bytesI rs).length = 8 + (framesI 29793 rs).length := by rw [bytesI, List.length_append, ht]
  have h8 : (bytesI rs).take 8 = textI := by rw [bytesI, List.take_left' ht]
  have hd : (bytesI rs).drop 8 = framesI 29793 rs := by rw [bytesI, List.drop_left' ht]
  unfold openI
  rw [if_neg (by omega), if_neg (by rw [h8]; simp), hd, openG_frames rs _ 29793 hr (by decide) (by omega)]
  simp only [hl]

/-! ### What is recovered is a log's bytes -/
theorem fourI_of (a b c d : Int) (ha : 0 ≤ a ∧ a ≤ 255) (hb : 0 ≤ b ∧ b ≤ 255) (hc : 0 ≤ c ∧ c ≤ 255) (hd : 0 ≤ d ∧ d ≤ 255) : fourI (((a * 256 + b) * 256 + c) * 256 + d) = [a, b, c, d] := by
  simp only [fourI, List.cons.injEq, and_true]
  omega
theorem okB_four {xs : List Int} (h : okB xs) (hl : xs.length = 4) : fourI (numN xs) = xs := by
  match xs, hl with
  | [a, b, c, d], _ =>
    have ha := wf_u8 (h a (by simp)); have hb := wf_u8 (h b (by simp)); have hc := wf_u8 (h c (by simp)); have hd := wf_u8 (h d (by simp))
    have e : (numN [a, b, c, d] : Int) = ((a * 256 + b) * 256 + c) * 256 + d := by
      simp only [numN, List.foldl_cons, List.foldl_nil]
      omega
    rw [e, fourI_of a b c d ha hb hc hd]
end Go.Proofs.Ytkojomakibfncaa
