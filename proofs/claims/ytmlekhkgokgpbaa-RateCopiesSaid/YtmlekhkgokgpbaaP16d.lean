/- Layer 16, plain: the current rates make the same current rates again, the history the same table. -/
import Derived.Test.YtmlekhkgokgpbaaP16c
namespace Go.Proofs.Ytmlekhkgokgpbaa
open Go.RowKit Go

theorem setAll_put (g : ByteArray) (xs : List rateT.den) (h : xs.length ≤ 1000) : tb0.setAll g xs = putAll tb0 (xs.filter (properR g)) :=
  setAll_few g xs tb0 (by show 0 + _ ≤ _; omega) (by show 0 + _ ≤ _; omega)
theorem setAll_hs0 (g : ByteArray) (xs : List rateT.den) (h : xs.length ≤ 1000) : (tb0.setAll g xs).hs = xs.filter (properR g) := by
  rw [setAll_put g xs h, putAll_hs]; rfl
theorem setAll_again (g : ByteArray) (xs : List rateT.den) (h : xs.length ≤ 1000) : tb0.setAll g (tb0.setAll g xs).hs = tb0.setAll g xs := by
  have h2 : (xs.filter (properR g)).length ≤ 1000 := Nat.le_trans (List.length_filter_le _ _) h
  rw [setAll_hs0 g xs h, setAll_put g _ h2, setAll_put g xs h, List.filter_filter]
  simp
theorem putAll_some {xs : List rateT.den} {k : K3} {v : Int} (h : (putAll tb0 xs).f k = some v) : ∃ x ∈ xs, keyR x = k ∧ (rt x).val = v := by
  rw [putAll_f] at h
  cases hf : xs.reverse.find? (fun x => decide (keyR x = k)) with
  | none => rw [hf] at h; cases h
  | some x =>
    rw [hf] at h
    refine ⟨x, ?_, by simpa using List.find?_some hf, by simpa using h⟩
    simpa using List.mem_of_find?_eq_some hf
theorem rows_key (f : K3 → Option Int) (zs : List K3) : (rowsOf f zs).map keyR = zs := by
  unfold rowsOf
  rw [List.map_map]
  exact List.map_id' zs
theorem pw_nodup {zs : List K3} (h : zs.Pairwise keyLt) : zs.Nodup := by
  rw [List.nodup_iff_pairwise_ne]
  exact h.imp fun h => keyLt_ne h
theorem list_valid {g : ByteArray} {xs : List rateT.den} (h : xs.length ≤ 1000) (hg : curB g = true) {zs : List K3} (hz : TbOk (tb0.setAll g xs) zs) : validB g (rowsOf (tb0.setAll g xs).f zs) = true := by
  rw [validB_iff]
  refine ⟨fun y hy => ?_, by rw [rows_key]; exact pw_nodup hz.1.1, hg, ?_⟩
  · unfold rowsOf at hy
    rw [List.mem_map] at hy
    obtain ⟨k, hk, rfl⟩ := hy
    have hs := (hz.1.2.2 k (hz.1.2.1 k hk)).1 hk
    cases hv : (tb0.setAll g xs).f k with
    | none => rw [hv] at hs; cases hs
    | some v =>
      have hv' := hv
      rw [setAll_put g xs h] at hv'
      obtain ⟨x, hx, rfl, rfl⟩ := putAll_some hv'
      have hp := (List.mem_filter.1 hx).2
      unfold properR rowR
      rw [hv]
      exact hp
  · have hm := Tb.setAll_m g xs tb0
    rw [rowsOf, List.length_map, ← hz.2]
    have : tb0.m = 0 := rfl
    omega
theorem list_again {g : ByteArray} {xs : List rateT.den} (h : xs.length ≤ 1000) (hg : curB g = true) {zs zs' : List K3} (hz : TbOk (tb0.setAll g xs) zs) (hz' : TbOk (tb0.setAll g (rowsOf (tb0.setAll g xs).f zs)) zs') :
    rowsOf (tb0.setAll g (rowsOf (tb0.setAll g xs).f zs)).f zs' = rowsOf (tb0.setAll g xs).f zs := by
  refine rows_unique hz'.1 hz.1 fun k hk => ?_
  rw [setAll_valid0 (list_valid h hg hz), putAll_f]
  cases hf : (rowsOf (tb0.setAll g xs).f zs).reverse.find? (fun x => decide (keyR x = k)) with
  | none =>
    rw [List.find?_eq_none] at hf
    have hm : k ∉ zs := fun hm => by
      have := hf (rowR (tb0.setAll g xs).f k) (by rw [List.mem_reverse]; exact List.mem_map_of_mem hm)
      simp only [decide_eq_true_eq] at this
      exact this rfl
    have hn : ¬ ((tb0.setAll g xs).f k).isSome = true := fun e => hm ((hz.1.2.2 k hk).2 e)
    cases hv : (tb0.setAll g xs).f k with
    | none => rfl
    | some v => rw [hv] at hn; exact absurd rfl hn
  | some x =>
    have hx : x ∈ rowsOf (tb0.setAll g xs).f zs := by simpa using List.mem_of_find?_eq_some hf
    have hk' : keyR x = k := by simpa using List.find?_some hf
    unfold rowsOf at hx
    rw [List.mem_map] at hx
    obtain ⟨k', hm, rfl⟩ := hx
    obtain rfl : k' = k := hk'
    have hs := (hz.1.2.2 k' hk).1 hm
    cases hv : (tb0.setAll g xs).f k' with
    | none => rw [hv] at hs; cases hs
    | some v =>
      show some ((rt (rowR (tb0.setAll g xs).f k')).val) = some v
      unfold rowR rt
      rw [hv]; rfl
end Go.Proofs.Ytmlekhkgokgpbaa
