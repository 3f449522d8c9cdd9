/- Layer 16, plain: a table out of a valid list; two rates in either order; the table again out of what it lists. -/
import Derived.Test.YtmlekhkgokgpbaaP16b
namespace Go.Proofs.Ytmlekhkgokgpbaa
open Go.RowKit Go

theorem find_rev {k : K3} : ∀ {xs : List rateT.den}, (xs.map keyR).Nodup → xs.reverse.find? (fun x => decide (keyR x = k)) = xs.find? (fun x => decide (keyR x = k))
  | [], _ => rfl
  | x :: xs, h => by
    rw [List.map_cons, List.nodup_cons] at h
    rw [List.reverse_cons, List.find?_append, find_rev h.2, List.find?_cons, List.find?_cons]
    by_cases e : keyR x = k
    · rw [decide_eq_true e]
      have : xs.find? (fun x => decide (keyR x = k)) = none := by
        rw [List.find?_eq_none]
        intro y hy
        simp only [decide_eq_true_eq]
        intro e'
        exact h.1 (by rw [e, ← e']; exact List.mem_map_of_mem hy)
      rw [this]; rfl
    · rw [decide_eq_false e]
      cases xs.find? (fun x => decide (keyR x = k)) <;> rfl
theorem findX_key (xs : List rateT.den) (key : Rt) : findX xs key = xs.find? (fun x => decide (keyR x = key.k)) := by
  unfold findX
  congr 1
  funext x
  rw [sameK_eq, same3_dec]; rfl
theorem putAll_find {xs : List rateT.den} (h : (xs.map keyR).Nodup) (key : Rt) : (((putAll tb0 xs).f key.k).getD 0, ((putAll tb0 xs).f key.k).isSome) = findV xs key := by
  unfold findV
  rw [putAll_f, find_rev h, findX_key]
  cases xs.find? (fun x => decide (keyR x = key.k)) <;> rfl
theorem putAll_m : ∀ (xs : List rateT.den) (t : Tb), (xs.map keyR).Nodup → (∀ x ∈ xs, t.f (keyR x) = none) → (putAll t xs).m = t.m + xs.length
  | [], t, _, _ => rfl
  | x :: xs, t, h, hn => by
    rw [List.map_cons, List.nodup_cons] at h
    show (putAll (t.put (rt x)) xs).m = _
    rw [putAll_m xs (t.put (rt x)) h.2 (fun y hy => by
      show putF t.f (rt x) (keyR y) = none
      rw [putF_other]
      · exact hn y (by simp [hy])
      · intro e
        exact h.1 (by rw [show keyR x = keyR y from e]; exact List.mem_map_of_mem hy))]
    show (if (t.f (rt x).k).isSome then t.m else t.m + 1) + xs.length = _
    rw [show t.f (rt x).k = none from hn x (by simp)]
    simp only [List.length_cons]
    simp; omega
theorem setAll_valid0 {g : ByteArray} {xs : List rateT.den} (hv : validB g xs = true) : tb0.setAll g xs = putAll tb0 xs := by
  obtain ⟨h1, -, -, h4⟩ := (validB_iff g xs).1 hv
  refine setAll_valid tb0 h1 ?_ ?_
  · show 0 + _ ≤ _; omega
  · show 0 + _ ≤ _; omega

/-! ### the order of two -/
theorem Tb.ext' {a b : Tb} (h1 : a.m = b.m) (h2 : a.f = b.f) (h3 : a.hs = b.hs) : a = b := by cases a; cases b; simp_all
theorem putF_comm (f : K3 → Option Int) (r s : Rt) (h : r.k ≠ s.k) : putF (putF f r) s = putF (putF f s) r := by
  funext x
  unfold putF
  by_cases e1 : same3 r.k x = true <;> by_cases e2 : same3 s.k x = true <;> simp [e1, e2]
  exact absurd (((same3_iff _ _).1 e1).trans ((same3_iff _ _).1 e2).symm) h
/-- Behind two accepted or refused rates in either order the current rates are the same. -/
theorem two_f (g : ByteArray) (t : Tb) (r s : Rt) (h : r.k ≠ s.k) (hm : t.m + 2 ≤ 1000) (hh : t.hs.length + 2 ≤ 5000) :
    ((t.set g r).2.set g s).2.f = ((t.set g s).2.set g r).2.f ∧ ((t.set g r).2.set g s).2.hs.length = ((t.set g s).2.set g r).2.hs.length := by
  have h1 := Tb.set_m g t r
  have h2 := Tb.set_hs g t r
  have h3 := Tb.set_m g t s
  have h4 := Tb.set_hs g t s
  rw [Tb.set_few g (t.set g r).2 s (by omega) (by omega), Tb.set_few g (t.set g s).2 r (by omega) (by omega), Tb.set_few g t r (by omega) (by omega), Tb.set_few g t s (by omega) (by omega)]
  by_cases hr : properB g r.cur r.kind r.when_ r.val = false
  · by_cases hs : properB g s.cur s.kind s.when_ s.val = false
    · simp only [if_pos hr, if_pos hs]; exact ⟨trivial, trivial⟩
    · simp only [if_pos hr, if_neg hs]; exact ⟨trivial, trivial⟩
  · by_cases hs : properB g s.cur s.kind s.when_ s.val = false
    · simp only [if_neg hr, if_pos hs]; exact ⟨trivial, trivial⟩
    · simp only [if_neg hr, if_neg hs]
      refine ⟨putF_comm t.f r s h, ?_⟩
      show ((t.hs ++ [r.d]) ++ [s.d]).length = ((t.hs ++ [s.d]) ++ [r.d]).length
      simp
theorem TbOk.setAll : ∀ {xs : List rateT.den} {t : Tb} {ys : List K3} (g : ByteArray), TbOk t ys → (∀ x ∈ xs, (keyR x).ok) → ∃ zs, TbOk (t.setAll g xs) zs
  | [], _, ys, _, h, _ => ⟨ys, h⟩
  | x :: xs, t, ys, g, h, hk => TbOk.setAll (xs := xs) g (h.set g (rt x) (hk x (by simp))) (fun z hz => hk z (by simp [hz]))
theorem rows_unique {f f' : K3 → Option Int} {ys zs : List K3} (h : keysF f ys) (h' : keysF f' zs) (e : ∀ x : K3, x.ok → f x = f' x) : rowsOf f ys = rowsOf f' zs := by
  obtain rfl : ys = zs := h.unique h' (fun x hx => by rw [e x hx])
  unfold rowsOf
  refine List.map_congr_left fun x hx => ?_
  unfold rowR
  rw [e x (h.2.1 x hx)]
end Go.Proofs.Ytmlekhkgokgpbaa
