/- Layer 56, plain: the bytes of a log. -/
import Derived.Test.YtlfloekanfhlfaaGreatC56a
namespace Go.Proofs.YtlfloekanfhlfaaGreat
open Go.RowKit Go

def textI : List Int := [84, 65, 76, 76, 89, 76, 79, 71]
def frameI (r : List Int) (h : Int) : List Int := fourI r.length ++ fourI (18446744073709551615 - r.length) ++ eightI h ++ r
def framesI : Int → List (List Int) → List Int
  | _, [] => []
  | h, r :: rs => frameI r (nextI h r) ++ framesI (nextI h r) rs
def bytesI (rs : List (List Int)) : List Int := textI ++ framesI 29793 rs
theorem framesI_append : ∀ (rs qs : List (List Int)) (h : Int), framesI h (rs ++ qs) = framesI h rs ++ framesI (rs.foldl nextI h) qs
  | [], qs, h => rfl
  | r :: rs, qs, h => by rw [List.cons_append, framesI, framesI, framesI_append rs, List.append_assoc]; rfl
theorem framesI_take (rs : List (List Int)) (k : Nat) (h : k < rs.length) : framesI 29793 (rs.take (k + 1)) = framesI 29793 (rs.take k) ++ frameI rs[k] (headI (rs.take (k + 1))) := by
  have e := List.take_succ_eq_append_getElem h
  rw [headI_take rs k h, e, framesI_append]
  simp [framesI, headI]
theorem frameI_length (r : List Int) (h : Int) : (frameI r h).length = 16 + r.length := by simp [frameI, fourI, eightI]; omega
theorem framesI_length : ∀ (rs : List (List Int)) (h : Int), (framesI h rs).length = 16 * rs.length + (rs.map List.length).sum
  | [], _ => rfl
  | r :: rs, h => by rw [framesI, List.length_append, frameI_length, framesI_length rs]; simp; omega
theorem sum_le (rs : List (List Int)) (m : Nat) (h : ∀ r ∈ rs, r.length ≤ m) : (rs.map List.length).sum ≤ rs.length * m := by
  induction rs with
  | nil => simp
  | cons r rs ih =>
    have h1 := h r (by simp)
    have h2 := ih (fun x hx => h x (by simp [hx]))
    simp only [List.map_cons, List.sum_cons, List.length_cons, Nat.add_mul]
    omega
theorem fourI_wf (n : Int) : okB (fourI n) := by
  intro x hx
  simp only [fourI, List.mem_cons, List.not_mem_nil, or_false] at hx
  refine wf_u8' ?_ ?_ <;> omega
theorem eightI_ok (n : Int) (h : (Lit.int .u64 n).wf = true) : okB (eightI n) := by
  have := wf_u64 h
  exact eightI_wf n this.1 this.2
theorem frameI_ok {r : List Int} {h : Int} (hr : okB r) (hh : (Lit.int .u64 h).wf = true) : okB (frameI r h) :=
  okB_append (okB_append (okB_append (fourI_wf _) (fourI_wf _)) (eightI_ok _ hh)) hr
theorem framesI_ok : ∀ (rs : List (List Int)) (h : Int), (∀ r ∈ rs, okB r) → (Lit.int .u64 h).wf = true → okB (framesI h rs)
  | [], _, _, _ => fun _ h => by cases h
  | r :: rs, h, hr, hh => okB_append (frameI_ok (hr r (by simp)) (nextI_wf _ _ hh)) (framesI_ok rs _ (fun x hx => hr x (by simp [hx])) (nextI_wf _ _ hh))
theorem textI_ok : okB textI := by intro x hx; simp only [textI, List.mem_cons, List.not_mem_nil, or_false] at hx; refine wf_u8' ?_ ?_ <;> omega
theorem bytesI_ok (rs : List (List Int)) (h : ∀ r ∈ rs, okB r) : okB (bytesI rs) := okB_append textI_ok (framesI_ok rs _ h (by decide))

/-! ### What is recovered -/
def sizeP (xs : List Int) : Nat := numN (xs.take 4)
def invP (xs : List Int) : Nat := numN ((xs.drop 4).take 4)
def lnkP (xs : List Int) : Nat := numN ((xs.drop 8).take 8)
def recP (xs : List Int) : List Int := (xs.drop 16).take (sizeP xs)
/-- The error of the next frame, 0 if there is none. -/
def chkP (xs : List Int) : Int :=
  if xs.length < 16 then 19
  else if sizeP xs + invP xs ≠ 4294967295 ∨ 65536 < sizeP xs then 4
  else if xs.length - 16 < sizeP xs then 19 else 0
theorem numN_snoc (xs : List Int) (x : Int) : numN (xs ++ [x]) = numN xs * 256 + x.toNat := by simp [numN]
theorem numN_lt4 (xs : List Int) (h : okB xs) (hl : xs.length ≤ 4) : numN xs < 4294967296 := by
  have h1 := numN_lt xs 0 1 h (by omega)
  have h2 : 256 ^ xs.length ≤ 256 ^ 4 := Nat.pow_le_pow_right (by omega) hl
  unfold numN
  omega
theorem numN_lt8 (xs : List Int) (h : okB xs) (hl : xs.length ≤ 8) : numN xs < 18446744073709551616 := by
  have h1 := numN_lt xs 0 1 h (by omega)
  have h2 : 256 ^ xs.length ≤ 256 ^ 8 := Nat.pow_le_pow_right (by omega) hl
  unfold numN
  omega
theorem sizeP_lt (xs : List Int) (h : okB xs) : sizeP xs < 4294967296 := numN_lt4 _ (okB_take h _) (List.length_take_le _ _)
theorem invP_lt (xs : List Int) (h : okB xs) : invP xs < 4294967296 := numN_lt4 _ (okB_take (okB_drop h _) _) (List.length_take_le _ _)
theorem lnkP_lt (xs : List Int) (h : okB xs) : lnkP xs < 18446744073709551616 := numN_lt8 _ (okB_take (okB_drop h _) _) (List.length_take_le _ _)
theorem xor32 (a b : Nat) (ha : a < 4294967296) (hb : b < 4294967296) : a ^^^ b = 4294967295 ↔ a + b = 4294967295 := by
  have key : ∀ n : Nat, n < 4294967296 → 4294967295 ^^^ n = 4294967295 - n := by
    intro n h
    apply Nat.eq_of_testBit_eq
    intro i
    rw [Nat.testBit_xor, show (4294967295 : Nat) = 2 ^ 32 - 1 by decide, Nat.testBit_two_pow_sub_one, show 2 ^ 32 - 1 - n = 2 ^ 32 - (n + 1) by omega, Nat.testBit_two_pow_sub_succ (by omega : n < 2 ^ 32)]
    by_cases hi : i < 32
    · simp [hi]
    · have : n.testBit i = false := Nat.testBit_lt_two_pow (Nat.lt_of_lt_of_le (by omega : n < 2 ^ 32) (Nat.pow_le_pow_right (by omega) (by omega)))
      simp [hi, this]
  constructor
  · intro h
    have h1 : b = 4294967295 - a := by
      rw [← key a ha, ← h, Nat.xor_comm a b, Nat.xor_assoc, Nat.xor_self, Nat.xor_zero]
    omega
  · intro h
    have h1 : b = 4294967295 ^^^ a := by rw [key a ha]; omega
    rw [h1, Nat.xor_comm, Nat.xor_assoc, Nat.xor_self, Nat.xor_zero]

/-- The records, the used bytes, the error. -/
def openG : Nat → Int → List Int → List (List Int) × Nat × Int
  | 0, _, _ => ([], 0, 0)
  | f + 1, h, xs =>
    if xs = [] then ([], 0, 0)
    else if chkP xs ≠ 0 then ([], 0, chkP xs)
    else if (lnkP xs : Int) ≠ nextI h (recP xs) then ([], 0, 5)
    else
      let r := openG f (nextI h (recP xs)) (xs.drop (16 + (recP xs).length))
      (recP xs :: r.1, 16 + (recP xs).length + r.2.1, r.2.2)
def openI (xs : List Int) : List (List Int) × Nat × Int :=
  if xs.length < 8 then (if xs = textI.take xs.length then ([], 0, 19) else ([], 0, 4))
  else if xs.take 8 ≠ textI then ([], 0, 4)
  else
    let r := openG xs.length 29793 (xs.drop 8)
    (r.1, 8 + r.2.1, r.2.2)
theorem chkP_len {xs : List Int} (h : chkP xs = 0) : 16 ≤ xs.length ∧ sizeP xs ≤ xs.length - 16 ∧ sizeP xs ≤ 65536 ∧ sizeP xs + invP xs = 4294967295 ∧ (recP xs).length = sizeP xs := by
  unfold chkP at h
  by_cases h1 : xs.length < 16
  · rw [if_pos h1] at h; cases h
  · rw [if_neg h1] at h
    by_cases h2 : sizeP xs + invP xs ≠ 4294967295 ∨ 65536 < sizeP xs
    · rw [if_pos h2] at h; cases h
    · rw [if_neg h2] at h
      by_cases h3 : xs.length - 16 < sizeP xs
      · rw [if_pos h3] at h; cases h
      · have : (recP xs).length = sizeP xs := by unfold recP; rw [List.length_take, List.length_drop]; omega
        omega
end Go.Proofs.YtlfloekanfhlfaaGreat
