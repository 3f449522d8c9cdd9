/- Layer 55, plain: a step, a sum, a next link take different numbers to different numbers; different bytes, too. -/
import Derived.Test.YtlfloekanfhlfaaGreatC55b
namespace Go.Proofs.YtlfloekanfhlfaaGreat
open Go.RowKit Go

theorem xs_back (n : Nat) (hn : n < 18446744073709551616) : (n ^^^ n / 536870912) ^^^ (n ^^^ n / 536870912) / 536870912 ^^^ (n ^^^ n / 536870912) / 288230376151711744 = n := by
  have e1 : ∀ m : Nat, m / 536870912 = m >>> 29 := fun m => by rw [Nat.shiftRight_eq_div_pow]
  have e2 : ∀ m : Nat, m / 288230376151711744 = m >>> 58 := fun m => by rw [Nat.shiftRight_eq_div_pow]
  rw [e1, e1, e2, Nat.shiftRight_xor_distrib, Nat.shiftRight_xor_distrib, ← Nat.shiftRight_add, ← Nat.shiftRight_add]
  have e3 : n >>> (29 + 58) = 0 := by rw [Nat.shiftRight_eq_div_pow]; exact Nat.div_eq_of_lt (by omega)
  rw [e3]
  apply Nat.eq_of_testBit_eq
  intro i
  simp only [Nat.testBit_xor, Nat.zero_testBit]
  cases n.testBit i <;> cases (n >>> 29).testBit i <;> cases (n >>> (29 + 29)).testBit i <;> cases (n >>> 58).testBit i <;> simp_all

theorem xs_inj {a b : Nat} (ha : a < 18446744073709551616) (hb : b < 18446744073709551616) (h : a ^^^ a / 536870912 = b ^^^ b / 536870912) : a = b := by
  rw [← xs_back a ha, ← xs_back b hb, h]

def mixI (h b : Int) : Int := ((h + b + 1) * 11400714819323198485) % 18446744073709551616

theorem emod_mul' (x c n : Int) : (x % n * c) % n = (x * c) % n := by rw [Int.mul_emod, Int.emod_emod, ← Int.mul_emod]
theorem mixI_lt (h b : Int) : (mixI h b).toNat < 18446744073709551616 := by
  have h1 : mixI h b < 18446744073709551616 := Int.emod_lt_of_pos _ (by decide)
  have h2 : 0 ≤ mixI h b := Int.emod_nonneg _ (by decide)
  omega
theorem stepI_eq (h b : Int) : stepI h b = ((((mixI h b).toNat ^^^ (mixI h b).toNat / 536870912 : Nat)) : Int) := by
  have e : IntKind.u64.wrap (IntKind.u64.wrap (IntKind.u64.wrap (h + IntKind.u64.wrap b) + 1) * 11400714819323198485) = ((mixI h b).toNat : Int) := by
    have e1 : IntKind.u64.wrap (IntKind.u64.wrap (h + IntKind.u64.wrap b) + 1) = (h + b + 1) % 18446744073709551616 := by
      simp only [IntKind.wrap_u64]
      omega
    rw [e1, IntKind.wrap_u64, emod_mul', mixI, Int.toNat_of_nonneg (Int.emod_nonneg _ (by decide))]
  unfold stepI
  rw [e]
  exact xorShift_u64 (mixI h b).toNat 536870912 (mixI_lt h b)

theorem mixI_inj {a b : Int} (h : (a * 11400714819323198485) % 18446744073709551616 = (b * 11400714819323198485) % 18446744073709551616) : a % 18446744073709551616 = b % 18446744073709551616 := by
  have key : ∀ x : Int, ((x * 11400714819323198485) % 18446744073709551616 * 17428512612931826493) % 18446744073709551616 = x % 18446744073709551616 := by
    intro x
    rw [emod_mul', Int.mul_assoc, Int.mul_emod, show ((11400714819323198485 : Int) * 17428512612931826493) % 18446744073709551616 = 1 from by decide, Int.mul_one, Int.emod_emod]
  rw [← key a, h, key b]

theorem stepI_mix {h b h' b' : Int} (h1 : stepI h b = stepI h' b') : (h + b + 1) % 18446744073709551616 = (h' + b' + 1) % 18446744073709551616 := by
  rw [stepI_eq, stepI_eq] at h1
  have h2 := xs_inj (mixI_lt _ _) (mixI_lt _ _) (Int.ofNat.inj h1)
  have p1 : 0 ≤ mixI h b := Int.emod_nonneg _ (by decide)
  have p2 : 0 ≤ mixI h' b' := Int.emod_nonneg _ (by decide)
  have h3 : mixI h b = mixI h' b' := by omega
  exact mixI_inj h3

theorem stepI_inj {h h' b : Int} (w : (Lit.int .u64 h).wf = true) (w' : (Lit.int .u64 h').wf = true) (h1 : stepI h b = stepI h' b) : h = h' := by
  have := stepI_mix h1
  have := wf_u64 w
  have := wf_u64 w'
  omega
theorem stepI_inj_b {h b b' : Int} (w : (Lit.int .u8 b).wf = true) (w' : (Lit.int .u8 b').wf = true) (h1 : stepI h b = stepI h b') : b = b' := by
  have := stepI_mix h1
  have := wf_u8 w
  have := wf_u8 w'
  omega

theorem sumI_inj : ∀ (xs : List Int) {h h' : Int}, (Lit.int .u64 h).wf = true → (Lit.int .u64 h').wf = true → sumI h xs = sumI h' xs → h = h'
  | [], _, _, _, _, e => e
  | _ :: xs, _, _, w, w', e => stepI_inj w w' (sumI_inj xs (stepI_wf _ _) (stepI_wf _ _) e)

theorem nextI_inj {h h' : Int} (xs : List Int) (w : (Lit.int .u64 h).wf = true) (w' : (Lit.int .u64 h').wf = true) (e : nextI h xs = nextI h' xs) : h = h' :=
  sumI_inj _ w w' (sumI_inj _ (sumI_wf _ _ w) (sumI_wf _ _ w') e)

theorem sumI_append (h : Int) (xs ys : List Int) : sumI h (xs ++ ys) = sumI (sumI h xs) ys := by simp [sumI]

theorem sumI_set (h : Int) (xs : List Int) (k : Nat) (hk : k < xs.length) (v : Int) (wh : (Lit.int .u64 h).wf = true) (wx : (Lit.int .u8 xs[k]).wf = true) (wv : (Lit.int .u8 v).wf = true) (e : sumI h xs = sumI h (xs.set k v)) : xs[k] = v := by
  have h1 : xs = xs.take k ++ xs[k] :: xs.drop (k + 1) := by rw [← List.drop_eq_getElem_cons hk, List.take_append_drop]
  have h2 : xs.set k v = xs.take k ++ v :: xs.drop (k + 1) := List.set_eq_take_append_cons_drop.trans (by rw [if_pos hk])
  rw [h2] at e
  rw [show sumI h xs = sumI h (xs.take k ++ xs[k] :: xs.drop (k + 1)) from congrArg (sumI h) h1, sumI_append, sumI_append] at e
  exact stepI_inj_b wx wv (sumI_inj _ (stepI_wf _ _) (stepI_wf _ _) e)

theorem nextI_set (h : Int) (xs : List Int) (k : Nat) (hk : k < xs.length) (v : Int) (wh : (Lit.int .u64 h).wf = true) (wx : (Lit.int .u8 xs[k]).wf = true) (wv : (Lit.int .u8 v).wf = true) (e : nextI h xs = nextI h (xs.set k v)) : xs[k] = v := by
  unfold nextI at e
  rw [List.length_set] at e
  exact sumI_set _ xs k hk v (sumI_wf _ _ wh) wx wv e

theorem headI_set_lt (rs : List (List Int)) (i j : Nat) (x : List Int) (h : j ≤ i) : headI ((rs.set i x).take j) = headI (rs.take j) := by
  rw [List.take_set, List.set_eq_of_length_le (by simp; omega)]

theorem headI_set_ge (rs : List (List Int)) (i : Nat) (hi : i < rs.length) (k : Nat) (hk : k < rs[i].length) (v : Int) (wx : (Lit.int .u8 rs[i][k]).wf = true) (wv : (Lit.int .u8 v).wf = true) (hne : rs[i][k] ≠ v) :
    ∀ d, i + d < rs.length → headI (rs.take (i + d + 1)) ≠ headI ((rs.set i (rs[i].set k v)).take (i + d + 1))
  | 0, h, e => by
    rw [Nat.add_zero, headI_take rs i hi, headI_take _ i (by simpa using hi), headI_set_lt _ _ _ _ (Nat.le_refl _), List.getElem_set_self] at e
    exact hne (nextI_set _ rs[i] k hk v (headI_wf _) wx wv e)
  | d + 1, h, e => by
    rw [show i + (d + 1) + 1 = (i + d + 1) + 1 by omega, headI_take rs (i + d + 1) (by omega), headI_take _ (i + d + 1) (by simp; omega), List.getElem_set_ne (by omega)] at e
    exact headI_set_ge rs i hi k hk v wx wv hne d (by omega) (nextI_inj _ (headI_wf _) (headI_wf _) e)
end Go.Proofs.YtlfloekanfhlfaaGreat
