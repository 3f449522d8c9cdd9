/- Layer 16, plain: which lists of rates are valid; the table that they make. -/
import Derived.Test.YtmlekhkgokgpbaaP16
import Derived.Test.YtmlekhkgokgpbaaC16f
import Derived.Test.YtmlekhkgokgpbaaC16k
namespace Go.Proofs.Ytmlekhkgokgpbaa
open Go.RowKit Go

def keyR (x : rateT.den) : K3 := (rt x).k
theorem validB_iff (g : ByteArray) (xs : List rateT.den) : validB g xs = true ↔ (∀ x ∈ xs, properR g x = true) ∧ (xs.map keyR).Nodup ∧ curB g = true ∧ xs.length ≤ 1000 := by
  unfold validB
  rw [Bool.and_eq_true, Bool.and_eq_true, decide_eq_true_iff, List.all_eq_true]
  have h1 : (∀ x ∈ List.range xs.length, stepB g xs x = true) ↔ (∀ x ∈ xs, properR g x = true) ∧ (xs.map keyR).Nodup := by
    have hs : ∀ i, (hi : i < xs.length) → (stepB g xs i = true ↔ properR g xs[i] = true ∧ ∀ j, (hj : j < i) → keyR (xs[j]'(by omega)) ≠ keyR xs[i]) := by
      intro i hi
      rw [step_at16 g xs i hi, Bool.and_eq_true]
      refine and_congr Iff.rfl ?_
      rw [Bool.not_eq_true', List.any_eq_false]
      constructor
      · intro h j hj e
        refine h (xs[j]'(by omega)) ?_ ?_
        · rw [List.mem_take_iff_getElem]
          exact ⟨j, by omega, rfl⟩
        · rw [sameK_eq, same3_iff]; exact e
      · intro h x hx e
        rw [List.mem_take_iff_getElem] at hx
        obtain ⟨j, hj, rfl⟩ := hx
        rw [sameK_eq, same3_iff] at e
        exact h j (by omega) e
    constructor
    · intro h
      constructor
      · intro x hx
        obtain ⟨i, hi, rfl⟩ := List.getElem_of_mem hx
        exact ((hs i hi).1 (h i (by simpa using hi))).1
      · rw [List.nodup_iff_pairwise_ne, List.pairwise_iff_getElem]
        intro i j hi hj hij
        simp only [List.length_map] at hi hj
        rw [List.getElem_map, List.getElem_map]
        exact ((hs j hj).1 (h j (by simpa using hj))).2 i hij
    · rintro ⟨hp, hn⟩ i hi
      have hi' : i < xs.length := by simpa using hi
      refine (hs i hi').2 ⟨hp _ (List.getElem_mem hi'), fun j hj e => ?_⟩
      rw [List.nodup_iff_pairwise_ne, List.pairwise_iff_getElem] at hn
      have := hn j i (by simp; omega) (by simpa using hi') hj
      rw [List.getElem_map, List.getElem_map] at this
      exact this e
  rw [h1]
  constructor
  · rintro ⟨⟨a, b⟩, c, d⟩
    exact ⟨a, b, c, by omega⟩
  · rintro ⟨a, b, c, d⟩
    exact ⟨⟨a, b⟩, c, by omega⟩
theorem filter_proper {g : ByteArray} {xs : List rateT.den} (h : ∀ x ∈ xs, properR g x = true) : xs.filter (properR g) = xs := List.filter_eq_self.2 h
theorem Tb.set_proper (g : ByteArray) (t : Tb) (x : rateT.den) (hm : t.m < 1000) (hh : t.hs.length < 5000) (hp : properR g x = true) : t.set g (rt x) = (0, t.put (rt x)) := by
  rw [Tb.set_few g t (rt x) hm hh, if_neg (by rw [show properB g (rt x).cur (rt x).kind (rt x).when_ (rt x).val = true from hp]; simp)]
theorem setAll_valid {g : ByteArray} {xs : List rateT.den} (t : Tb) (h : ∀ x ∈ xs, properR g x = true) (h1 : t.m + xs.length ≤ 1000) (h2 : t.hs.length + xs.length ≤ 5000) : t.setAll g xs = putAll t xs := by
  rw [setAll_few g xs t h1 h2, filter_proper h]; rfl
/-- The keys of a table after rates were put. -/
def insAll (ys : List K3) (xs : List rateT.den) : List K3 := xs.foldl (fun ys x => insK ys (keyR x)) ys
theorem TbOk.putAll : ∀ {xs : List rateT.den} {t : Tb} {ys : List K3}, TbOk t ys → (∀ x ∈ xs, (keyR x).ok) → TbOk (Go.Proofs.Ytmlekhkgokgpbaa.putAll t xs) (insAll ys xs)
  | [], _, _, h, _ => h
  | x :: xs, t, ys, h, hk => TbOk.putAll (xs := xs) (h.put (rt x) (hk x (by simp))) (fun z hz => hk z (by simp [hz]))
/-- The value of a key: the last one that was put. -/
theorem putAll_f : ∀ (xs : List rateT.den) (t : Tb) (k : K3), (Go.Proofs.Ytmlekhkgokgpbaa.putAll t xs).f k = match xs.reverse.find? (fun x => decide (keyR x = k)) with
    | some x => some (rt x).val
    | none => t.f k
  | [], t, k => rfl
  | x :: xs, t, k => by
    show (Go.Proofs.Ytmlekhkgokgpbaa.putAll (t.put (rt x)) xs).f k = _
    rw [putAll_f xs (t.put (rt x)) k, List.reverse_cons, List.find?_append]
    cases h : xs.reverse.find? (fun x => decide (keyR x = k)) with
    | some y => rfl
    | none =>
      simp only [Option.none_or, List.find?_cons, List.find?_nil]
      show (putF t.f (rt x)) k = _
      by_cases e : keyR x = k
      · rw [decide_eq_true e]
        subst e
        exact putF_same _ _
      · rw [decide_eq_false e]
        exact putF_other _ _ e
theorem putAll_m_hs (xs : List rateT.den) (t : Tb) : (Go.Proofs.Ytmlekhkgokgpbaa.putAll t xs).hs = t.hs ++ xs := putAll_hs xs t
end Go.Proofs.Ytmlekhkgokgpbaa
