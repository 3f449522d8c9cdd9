/- Layer 56, plain: what is recovered from a log's bytes that are cut off, or of which one byte is changed. -/
import Derived.Test.YtkojomakibfncaaP56c
import Derived.Test.YtkojomakibfncaaP55
namespace Go.Proofs.Ytkojomakibfncaa
open Go.RowKit Go

theorem openG_app : ∀ (qs : List (List Int)) (k : Nat) (h : Int) (tail : List Int) (e : Int), (∀ r ∈ qs, r.length ≤ 65536) → (Lit.int .u64 h).wf = true → (framesI h qs ++ tail).length ≤ k →
    (∀ k, tail.length ≤ k → openG k (qs.foldl nextI h) tail = ([], 0, e)) → openG k h (framesI h qs ++ tail) = (qs, (framesI h qs).length, e)
  | [], k, h, tail, e, _, _, hk, ht => by
    have := ht k (by simpa [framesI] using hk)
    simpa [framesI] using this
  | r :: qs, k, h, tail, e, hr, hh, hk, ht => by
    have hn := nextI_wf h r hh
    have happ : framesI h (r :: qs) ++ tail = frameI r (nextI h r) ++ (framesI (nextI h r) qs ++ tail) := by rw [framesI, List.append_assoc]
    obtain ⟨e1, e2, e3, e4, e5⟩ := frame_read r (nextI h r) (framesI (nextI h r) qs ++ tail) (hr r (by simp)) hn
    have hlen : (framesI h (r :: qs)).length = 16 + r.length + (framesI (nextI h r) qs).length := by rw [framesI, List.length_append, frameI_length]
    have hk2 : 16 + r.length + (framesI (nextI h r) qs ++ tail).length ≤ k := by rw [happ, List.length_append, frameI_length] at hk; exact hk
    cases k with
    | zero => exact absurd hk2 (by omega)
    | succ k =>
      rw [happ]
      have hne : frameI r (nextI h r) ++ (framesI (nextI h r) qs ++ tail) ≠ [] := fun e => by
        have := congrArg List.length e
        rw [List.length_append, frameI_length] at this
        simp at this
      have hq : (lnkP (frameI r (nextI h r) ++ (framesI (nextI h r) qs ++ tail)) : Int) = nextI h (recP (frameI r (nextI h r) ++ (framesI (nextI h r) qs ++ tail))) := by rw [e3, e4]
      have hd : (frameI r (nextI h r) ++ (framesI (nextI h r) qs ++ tail)).drop (16 + r.length) = framesI (nextI h r) qs ++ tail := List.drop_left' (frameI_length _ _)
      rw [openG, if_neg hne, if_neg (by rw [e5]; simp), if_neg (by rw [hq]; simp), e4, hd,
        openG_app qs k (nextI h r) tail e (fun x hx => hr x (by simp [hx])) hn (by omega) ht]
      simp only [hlen]

theorem openI_app (qs : List (List Int)) (tail : List Int) (e : Int) (hr : ∀ r ∈ qs, r.length ≤ 65536) (ht : ∀ k, tail.length ≤ k → openG k (headI qs) tail = ([], 0, e)) :
    openI (bytesI qs ++ tail) = (qs, (bytesI qs).length, e) := by
  have h0 : textI.length = 8 := rfl
  have hx : bytesI qs ++ tail = textI ++ (framesI 29793 qs ++ tail) := by rw [bytesI, List.append_assoc]
  have hl : (bytesI qs ++ tail).length = 8 + (framesI 29793 qs ++ tail).length := by rw [hx, List.length_append, h0]
  have h8 : (bytesI qs ++ tail).take 8 = textI := by rw [hx, List.take_left' h0]
  have hd : (bytesI qs ++ tail).drop 8 = framesI 29793 qs ++ tail := by rw [hx, List.drop_left' h0]
  have hb : (bytesI qs).length = 8 + (framesI 29793 qs).length := by rw [bytesI, List.length_append, h0]
  unfold openI
  rw [if_neg (by omega), if_neg (by rw [h8]; simp), hd, openG_app qs _ 29793 tail e hr (by decide) (by omega) ht]
  simp only [hb]

def endI (rs : List (List Int)) (n : Nat) : Nat := (bytesI (rs.take n)).length
theorem endI_zero (rs : List (List Int)) : endI rs 0 = 8 := rfl
theorem endI_succ (rs : List (List Int)) (n : Nat) (h : n < rs.length) : endI rs (n + 1) = endI rs n + 16 + rs[n].length := by
  unfold endI bytesI
  rw [framesI_take rs n h, List.length_append, List.length_append, List.length_append, frameI_length]
  omega
theorem endI_all (rs : List (List Int)) : endI rs rs.length = (bytesI rs).length := by rw [endI, List.take_length]
theorem endI_mono (rs : List (List Int)) (n : Nat) : ∀ m, n ≤ m → m ≤ rs.length → endI rs n ≤ endI rs m
  | 0, h, _ => by obtain rfl : n = 0 := by omega
                  exact Nat.le_refl _
  | m + 1, h, hm => by
    rcases Nat.lt_or_ge n (m + 1) with h' | h'
    · have := endI_mono rs n m (by omega) (by omega)
      rw [endI_succ rs m (by omega)]
      omega
    · obtain rfl : n = m + 1 := by omega
      exact Nat.le_refl _
theorem bytesI_split (rs : List (List Int)) (n : Nat) : bytesI rs = bytesI (rs.take n) ++ framesI (headI (rs.take n)) (rs.drop n) := by
  have := framesI_append (rs.take n) (rs.drop n) 29793
  rw [List.take_append_drop] at this
  rw [bytesI, bytesI, this, List.append_assoc]
  rfl
theorem frames_at (h : Int) (rs : List (List Int)) (n : Nat) (hn : n < rs.length) : framesI h (rs.drop n) = frameI rs[n] (nextI h rs[n]) ++ framesI (nextI h rs[n]) (rs.drop (n + 1)) := by
  rw [List.drop_eq_getElem_cons hn, framesI]

/-! ### A list in four parts -/
theorem four_parts {A B C R : List Int} (ha : A.length = 4) (hb : B.length = 4) (hc : C.length = 8) :
    sizeP (A ++ B ++ C ++ R) = numN A ∧ invP (A ++ B ++ C ++ R) = numN B ∧ lnkP (A ++ B ++ C ++ R) = numN C ∧ recP (A ++ B ++ C ++ R) = R.take (numN A) := by
  have h1 : (A ++ B ++ C ++ R).take 4 = A := by rw [List.append_assoc, List.append_assoc, List.take_left' ha]
  have h2 : ((A ++ B ++ C ++ R).drop 4).take 4 = B := by rw [List.append_assoc, List.append_assoc, List.drop_left' ha, List.take_left' hb]
  have h3 : ((A ++ B ++ C ++ R).drop 8).take 8 = C := by rw [List.append_assoc, List.drop_left' (by rw [List.length_append]; omega), List.take_left' hc]
  have h4 : (A ++ B ++ C ++ R).drop 16 = R := by rw [List.drop_left' (by rw [List.length_append, List.length_append]; omega)]
  refine ⟨by rw [sizeP, h1], by rw [invP, h2], by rw [lnkP, h3], by rw [recP, h4, sizeP, h1]⟩

theorem openG_bad' (k : Nat) (h : Int) (xs : List Int) (hn : xs ≠ []) (hk : xs.length ≤ k) (hc : chkP xs ≠ 0) : openG k h xs = ([], 0, chkP xs) := by
  cases k with
  | zero => exact absurd (List.length_eq_zero_iff.1 (by omega)) hn
  | succ k => rw [openG, if_neg hn, if_pos hc]
theorem openG_sum' (k : Nat) (h : Int) (xs : List Int) (hn : xs ≠ []) (hk : xs.length ≤ k) (hc : chkP xs = 0) (hl : (lnkP xs : Int) ≠ nextI h (recP xs)) : openG k h xs = ([], 0, 5) := by
  cases k with
  | zero => exact absurd (List.length_eq_zero_iff.1 (by omega)) hn
  | succ k => rw [openG, if_neg hn, if_neg (by simpa using hc), if_pos hl]

/-- The beginning of a frame is torn. -/
theorem chk_cut (r : List Int) (l : Int) (hr : r.length ≤ 65536) (j : Nat) (hj : j < 16 + r.length) : chkP ((frameI r l).take j) = 19 := by
  have hlen : ((frameI r l).take j).length = j := by rw [List.length_take, frameI_length]; omega
  unfold chkP
  by_cases h : j < 16
  · rw [hlen, if_pos h]
  · have e : (frameI r l).take j = fourI r.length ++ fourI (18446744073709551615 - r.length) ++ eightI l ++ r.take (j - 16) := by
      unfold frameI
      rw [List.take_append, List.take_of_length_le (by simp [fourI, eightI]; omega)]
      simp [fourI, eightI]
    obtain ⟨q1, q2, -, -⟩ := four_parts (A := fourI r.length) (B := fourI (18446744073709551615 - r.length)) (C := eightI l) (R := r.take (j - 16)) rfl rfl rfl
    rw [← e] at q1 q2
    have n1 := numN_four (r.length : Int) (by omega)
    have n2 := numN_four (18446744073709551615 - r.length : Int) (by omega)
    rw [q1, q2, hlen, if_neg h, if_neg (by omega), if_pos (by omega)]

theorem openI_cut (rs : List (List Int)) (hr : ∀ r ∈ rs, r.length ≤ 65536) (n k : Nat) (hn : n ≤ rs.length) (h1 : endI rs n ≤ k) (h2 : n < rs.length → k < endI rs (n + 1)) (h3 : k ≤ (bytesI rs).length) :
    openI ((bytesI rs).take k) = (rs.take n, endI rs n, if endI rs n = k then 0 else 19) := by
  have hrt : ∀ r ∈ rs.take n, r.length ≤ 65536 := fun r h => hr r (List.mem_of_mem_take h)
  have e : (bytesI rs).take k = bytesI (rs.take n) ++ (framesI (headI (rs.take n)) (rs.drop n)).take (k - endI rs n) := by
    rw [bytesI_split rs n, List.take_append, List.take_of_length_le h1]
    rfl
  rw [e]
  by_cases hk : endI rs n = k
  · rw [if_pos hk]
    refine openI_app _ _ 0 hrt fun m _ => ?_
    rw [show k - endI rs n = 0 by omega, List.take_zero]
    cases m <;> rfl
  · rw [if_neg hk]
    have hlt : n < rs.length := by
      rcases Nat.lt_or_ge n rs.length with h | h
      · exact h
      · obtain rfl : n = rs.length := by omega
        rw [endI_all] at h1 hk
        omega
    have h2' := h2 hlt
    rw [endI_succ rs n hlt] at h2'
    refine openI_app _ _ 19 hrt fun m hm => ?_
    rw [frames_at _ rs n hlt, List.take_append_of_le_length (by rw [frameI_length]; omega)] at hm ⊢
    have hc := chk_cut rs[n] (nextI (headI (rs.take n)) rs[n]) (hr _ (List.getElem_mem hlt)) (k - endI rs n) (by omega)
    have hne : (frameI rs[n] (nextI (headI (rs.take n)) rs[n])).take (k - endI rs n) ≠ [] := fun e => by
      have := congrArg List.length e
      rw [List.length_take, frameI_length] at this
      simp at this
      omega
    rw [openG_bad' m _ _ hne hm (by rw [hc]; simp), hc]
theorem openI_short (rs : List (List Int)) (k : Nat) (h : k < 8) : openI ((bytesI rs).take k) = ([], 0, 19) := by
  have e : (bytesI rs).take k = textI.take k := by rw [bytesI, List.take_append_of_le_length (by simp [textI]; omega)]
  have hl : (textI.take k).length = k := by rw [List.length_take]; simp [textI]; omega
  unfold openI
  rw [e, if_pos (by rw [hl]; exact h), if_pos (by rw [hl])]

/-! ### One byte changed -/
theorem set_self_of {xs : List Int} {j : Nat} {v : Int} (hj : j < xs.length) (h : xs.set j v = xs) : xs[j]? = some v := by
  rw [← h]; simp [hj]
theorem okB_set {xs : List Int} (h : okB xs) (j : Nat) (v : Int) (hv : (Lit.int .u8 v).wf = true) : okB (xs.set j v) := fun x hx => by
  rcases List.mem_or_eq_of_mem_set hx with h' | rfl
  · exact h x h'
  · exact hv
theorem frame_set (r : List Int) (l h : Int) (X : List Int) (hr : r.length ≤ 65536) (hok : okB r) (hl : (Lit.int .u64 l).wf = true) (hh : (Lit.int .u64 h).wf = true) (hlr : nextI h r = l) (j : Nat) (hj : j < 16 + r.length) (v : Int) (hv : (Lit.int .u8 v).wf = true)
    (hne : (frameI r l)[j]? ≠ some v) : ∃ e, e ≠ 0 ∧ ∀ k, ((frameI r l).set j v ++ X).length ≤ k → openG k h ((frameI r l).set j v ++ X) = ([], 0, e) := by
  have n1 := numN_four (r.length : Int) (by omega)
  have n2 := numN_four (18446744073709551615 - r.length : Int) (by omega)
  have hl2 := wf_u64 hl
  have n3 := numN_eight l hl2.1 hl2.2
  have l1 : (fourI (r.length : Int)).length = 4 := rfl
  have l2 : (fourI (18446744073709551615 - r.length : Int)).length = 4 := rfl
  have l3 : (eightI l).length = 8 := rfl
  have o1 := fourI_wf (r.length : Int)
  have o2 := fourI_wf (18446744073709551615 - r.length : Int)
  have o3 := eightI_ok l hl
  have hlen : ((frameI r l).set j v ++ X).length = 16 + r.length + X.length := by rw [List.length_append, List.length_set, frameI_length]
  have hnil : (frameI r l).set j v ++ X ≠ [] := fun e => by rw [e] at hlen; simp at hlen; omega
  unfold frameI at hne
  rcases Nat.lt_or_ge j 4 with c | c
  · have hset : (frameI r l).set j v = (fourI (r.length : Int)).set j v ++ fourI (18446744073709551615 - r.length : Int) ++ eightI l ++ r := by
      unfold frameI
      rw [List.set_append_left _ _ (by simp only [List.length_append]; omega), List.set_append_left _ _ (by simp only [List.length_append]; omega), List.set_append_left _ _ (by omega)]
    rw [hset, List.append_assoc _ r X] at hlen hnil ⊢
    obtain ⟨q1, q2, q3, q4⟩ := four_parts (A := (fourI (r.length : Int)).set j v) (B := fourI (18446744073709551615 - r.length : Int)) (C := eightI l) (R := r ++ X) (by rw [List.length_set]; rfl) rfl rfl
    have hx : numN ((fourI (r.length : Int)).set j v) ≠ r.length := fun e => by
      have e1 := okB_four (okB_set o1 j v hv) (by rw [List.length_set]; rfl)
      rw [e] at e1
      refine hne ?_
      rw [List.append_assoc, List.append_assoc, List.getElem?_append_left (by omega)]
      exact set_self_of (by omega) e1.symm
    have hc : chkP ((fourI (r.length : Int)).set j v ++ fourI (18446744073709551615 - r.length : Int) ++ eightI l ++ (r ++ X)) = 4 := by
      unfold chkP
      rw [q1, q2, if_neg (by rw [hlen]; omega), if_pos (by omega)]
    exact ⟨4, by simp, fun k hk => by rw [openG_bad' k h _ hnil hk (by rw [hc]; simp), hc]⟩
  rcases Nat.lt_or_ge j 8 with c2 | c2
  · have hset : (frameI r l).set j v = fourI (r.length : Int) ++ (fourI (18446744073709551615 - r.length : Int)).set (j - 4) v ++ eightI l ++ r := by
      unfold frameI
      rw [List.set_append_left _ _ (by simp only [List.length_append]; omega), List.set_append_left _ _ (by simp only [List.length_append]; omega), List.set_append_right _ _ (by omega)]
      rfl
    rw [hset, List.append_assoc _ r X] at hlen hnil ⊢
    obtain ⟨q1, q2, q3, q4⟩ := four_parts (A := fourI (r.length : Int)) (B := (fourI (18446744073709551615 - r.length : Int)).set (j - 4) v) (C := eightI l) (R := r ++ X) rfl (by rw [List.length_set]; rfl) rfl
    have hx : numN ((fourI (18446744073709551615 - r.length : Int)).set (j - 4) v) ≠ 4294967295 - r.length := fun e => by
      have e1 := okB_four (okB_set o2 (j - 4) v hv) (by rw [List.length_set]; rfl)
      have e2 := okB_four o2 rfl
      rw [e] at e1
      rw [show numN (fourI (18446744073709551615 - r.length : Int)) = 4294967295 - r.length by omega] at e2
      rw [e2] at e1
      refine hne ?_
      rw [List.append_assoc, List.append_assoc, List.getElem?_append_right (by omega), List.getElem?_append_left (by omega), l1]
      exact set_self_of (by omega) e1.symm
    have hc : chkP (fourI (r.length : Int) ++ (fourI (18446744073709551615 - r.length : Int)).set (j - 4) v ++ eightI l ++ (r ++ X)) = 4 := by
      unfold chkP
      rw [q1, q2, if_neg (by rw [hlen]; omega), if_pos (by omega)]
    exact ⟨4, by simp, fun k hk => by rw [openG_bad' k h _ hnil hk (by rw [hc]; simp), hc]⟩
  rcases Nat.lt_or_ge j 16 with c3 | c3
  · have hset : (frameI r l).set j v = fourI (r.length : Int) ++ fourI (18446744073709551615 - r.length : Int) ++ (eightI l).set (j - 8) v ++ r := by
      unfold frameI
      rw [List.set_append_left _ _ (by simp only [List.length_append]; omega), List.set_append_right _ _ (by simp only [List.length_append]; omega)]
      rfl
    rw [hset, List.append_assoc _ r X] at hlen hnil ⊢
    obtain ⟨q1, q2, q3, q4⟩ := four_parts (A := fourI (r.length : Int)) (B := fourI (18446744073709551615 - r.length : Int)) (C := (eightI l).set (j - 8) v) (R := r ++ X) rfl rfl (by rw [List.length_set]; rfl)
    have q5 : numN (fourI (r.length : Int)) = r.length := by omega
    rw [q5, List.take_left' rfl] at q4
    have hx : (numN ((eightI l).set (j - 8) v) : Int) ≠ l := fun e => by
      have e1 := okB_eight (okB_set o3 (j - 8) v hv) (by rw [List.length_set]; rfl)
      rw [e] at e1
      refine hne ?_
      rw [List.append_assoc, List.getElem?_append_right (by rw [List.length_append]; omega), List.getElem?_append_left (by rw [List.length_append]; omega), List.length_append, l1, l2]
      exact set_self_of (by omega) e1.symm
    have hc : chkP (fourI (r.length : Int) ++ fourI (18446744073709551615 - r.length : Int) ++ (eightI l).set (j - 8) v ++ (r ++ X)) = 0 := by
      unfold chkP
      rw [q1, q2, if_neg (by rw [hlen]; omega), if_neg (by omega), if_neg (by rw [hlen]; omega)]
    exact ⟨5, by simp, fun k hk => openG_sum' k h _ hnil hk hc (by rw [q3, q4, hlr]; exact hx)⟩
  · have hset : (frameI r l).set j v = fourI (r.length : Int) ++ fourI (18446744073709551615 - r.length : Int) ++ eightI l ++ r.set (j - (4 + 4 + 8)) v := by
      unfold frameI
      rw [List.set_append_right _ _ (by simp only [List.length_append]; omega)]
      rfl
    rw [hset, List.append_assoc _ (r.set (j - (4 + 4 + 8)) v) X] at hlen hnil ⊢
    obtain ⟨q1, q2, q3, q4⟩ := four_parts (A := fourI (r.length : Int)) (B := fourI (18446744073709551615 - r.length : Int)) (C := eightI l) (R := r.set (j - (4 + 4 + 8)) v ++ X) rfl rfl rfl
    have q5 : numN (fourI (r.length : Int)) = r.length := by omega
    rw [q5, List.take_left' (by rw [List.length_set])] at q4
    have hjr : j - (4 + 4 + 8) < r.length := by omega
    have hx : nextI h (r.set (j - (4 + 4 + 8)) v) ≠ l := fun e => by
      rw [← hlr] at e
      have := nextI_set h r _ hjr v hh (hok _ (List.getElem_mem hjr)) hv e.symm
      refine hne ?_
      rw [List.getElem?_append_right (by simp only [List.length_append]; omega)]
      simp only [List.length_append, l1, l2, l3]
      rw [List.getElem?_eq_getElem hjr, this]
    have hc : chkP (fourI (r.length : Int) ++ fourI (18446744073709551615 - r.length : Int) ++ eightI l ++ (r.set (j - (4 + 4 + 8)) v ++ X)) = 0 := by
      unfold chkP
      rw [q1, q2, if_neg (by rw [hlen]; omega), if_neg (by omega), if_neg (by rw [hlen]; omega)]
    exact ⟨5, by simp, fun k hk => openG_sum' k h _ hnil hk hc (by rw [q3, q4, n3]; exact fun e => hx e.symm)⟩

theorem openI_set (rs : List (List Int)) (hr : ∀ r ∈ rs, r.length ≤ 65536) (hok : ∀ r ∈ rs, okB r) (n k : Nat) (hn : n < rs.length) (h1 : endI rs n ≤ k) (h2 : k < endI rs (n + 1)) (v : Int) (hv : (Lit.int .u8 v).wf = true) (hne : (bytesI rs)[k]? ≠ some v) :
    ∃ e, e ≠ 0 ∧ openI ((bytesI rs).set k v) = (rs.take n, endI rs n, e) := by
  have hrt : ∀ r ∈ rs.take n, r.length ≤ 65536 := fun r h => hr r (List.mem_of_mem_take h)
  rw [endI_succ rs n hn] at h2
  have hsp := bytesI_split rs n
  rw [frames_at _ rs n hn] at hsp
  have hfl := frameI_length rs[n] (nextI (headI (rs.take n)) rs[n])
  have hwf := headI_wf (rs.take n)
  obtain ⟨e, he, ho⟩ := frame_set rs[n] (nextI (headI (rs.take n)) rs[n]) (headI (rs.take n)) (framesI (nextI (headI (rs.take n)) rs[n]) (rs.drop (n + 1))) (hr _ (List.getElem_mem hn)) (hok _ (List.getElem_mem hn)) (nextI_wf _ _ hwf) hwf rfl
    (k - endI rs n) (by omega) v hv (by
      refine fun e => hne ?_
      rw [hsp, List.getElem?_append_right h1, List.getElem?_append_left (by rw [hfl]; unfold endI at *; omega)]
      exact e)
  refine ⟨e, he, ?_⟩
  rw [hsp, List.set_append_right _ _ h1, List.set_append_left _ _ (by rw [hfl]; unfold endI at *; omega)]
  exact openI_app _ _ e hrt ho
theorem openI_text (rs : List (List Int)) (k : Nat) (h : k < 8) (v : Int) (hne : (bytesI rs)[k]? ≠ some v) : openI ((bytesI rs).set k v) = ([], 0, 4) := by
  have h0 : textI.length = 8 := rfl
  have hb : (bytesI rs).length = 8 + (framesI 29793 rs).length := by rw [bytesI, List.length_append, h0]
  have hs : (bytesI rs).set k v = textI.set k v ++ framesI 29793 rs := by rw [bytesI, List.set_append_left _ _ (by omega)]
  unfold openI
  rw [if_neg (by rw [List.length_set]; omega), if_pos]
  rw [hs, List.take_left' (by rw [List.length_set, h0])]
  intro e
  refine hne ?_
  rw [bytesI, List.getElem?_append_left (by omega)]
  exact set_self_of (by omega) e
end Go.Proofs.Ytkojomakibfncaa
