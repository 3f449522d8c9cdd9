/- Layer 16, plain: the last rate of the history with a key. -/
import Derived.Test.YtmlekhkgokgpbaaP16d
namespace Go.Proofs.Ytmlekhkgokgpbaa
open Go.RowKit Go

theorem rows_at (f : K3 → Option Int) (zs : List K3) (k : Nat) (h : k < (rowsOf f zs).length) (h' : k < zs.length) : (rowsOf f zs)[k] = rowR f zs[k] := by
  show (List.map (rowR f) zs)[k]'h = _
  exact List.getElem_map _
def zeroR : Rt := ⟨ByteArray.empty, 0, 0, 0⟩
def lastR (l : List rateT.den) (k : K3) : Rt := match l.reverse.find? (fun x => decide (keyR x = k)) with
  | some x => rt x
  | none => zeroR
theorem lastR_nil (k : K3) : lastR [] k = zeroR := rfl
theorem lastR_hit (l : List rateT.den) (x : rateT.den) (k : K3) (h : keyR x = k) : lastR (l ++ [x]) k = rt x := by
  unfold lastR
  rw [List.reverse_append, List.reverse_singleton, List.singleton_append, List.find?_cons, decide_eq_true h]
theorem lastR_miss (l : List rateT.den) (x : rateT.den) (k : K3) (h : keyR x ≠ k) : lastR (l ++ [x]) k = lastR l k := by
  unfold lastR
  rw [List.reverse_append, List.reverse_singleton, List.singleton_append, List.find?_cons, decide_eq_false h]
theorem lastR_row {g : ByteArray} {xs : List rateT.den} (h : xs.length ≤ 1000) {zs : List K3} (hz : TbOk (tb0.setAll g xs) zs) {k : K3} (hk : k ∈ zs) : lastR (tb0.setAll g xs).hs k = rt (rowR (tb0.setAll g xs).f k) := by
  have hs := (hz.1.2.2 k (hz.1.2.1 k hk)).1 hk
  unfold lastR rowR
  rw [setAll_hs0 g xs h]
  rw [setAll_put g xs h] at hs ⊢
  rw [putAll_f] at hs ⊢
  cases hf : (xs.filter (properR g)).reverse.find? (fun x => decide (keyR x = k)) with
  | none => rw [hf] at hs; cases hs
  | some x =>
    have hk' : keyR x = k := by simpa using List.find?_some hf
    subst hk'
    rfl
theorem putAll_m_le : ∀ (xs : List rateT.den) (t : Tb), (putAll t xs).m ≤ t.m + xs.length
  | [], t => Nat.le_refl _
  | x :: xs, t => by
    have h := putAll_m_le xs (t.put (rt x))
    have h2 : (t.put (rt x)).m ≤ t.m + 1 := by
      show (if (t.f (rt x).k).isSome then t.m else t.m + 1) ≤ _
      split <;> omega
    show (putAll (t.put (rt x)) xs).m ≤ _
    simp only [List.length_cons]
    omega
theorem setAll_m_hs (g : ByteArray) (xs : List rateT.den) (h : xs.length ≤ 1000) : (tb0.setAll g xs).m ≤ (tb0.setAll g xs).hs.length := by
  rw [setAll_hs0 g xs h, setAll_put g xs h]
  have := putAll_m_le (xs.filter (properR g)) tb0
  have h0 : tb0.m = 0 := rfl
  omega
end Go.Proofs.Ytmlekhkgokgpbaa
