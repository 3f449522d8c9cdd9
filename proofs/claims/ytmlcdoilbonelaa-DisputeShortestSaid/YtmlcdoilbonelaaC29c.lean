/- Chapter 29: Run on both sides. -/
import Derived.Test.YtmlcdoilbonelaaC29b
namespace Go.Proofs.Ytmlcdoilbonelaa
open Go.RowKit Go

abbrev stT : Ty := .pr (.int .i64) (.pr (.int .i64) .un)
def sdN (xs : List stT.den) (i : Nat) : Int := (xs[i]?.getD (0, 0, ())).1
def saN (xs : List stT.den) (i : Nat) : Int := (xs[i]?.getD (0, 0, ())).2.1

theorem Rd.steps {S : Nat → Prop} {w : World} {a : Option Addr} {len cap : Nat} {xs : List stT.den} (h : Rd (.sl stT) S w [.slice a len cap] xs) :
    xs.length = len ∧ len ≤ cap ∧ cap ≤ 9223372036854775807 ∧ ∀ i, i < len → ∃ b off, a = some ⟨b, off, none⟩ ∧ S b ∧ w.cell? ⟨b, off + i * 2, none⟩ = some (.int .i64 (sdN xs i)) ∧ w.cell? ⟨b, off + i * 2 + 1, none⟩ = some (.int .i64 (saN xs i)) ∧
      (Lit.int .i64 (sdN xs i)).wf = true ∧ (Lit.int .i64 (saN xs i)).wf = true := by
  obtain ⟨a', l', c', he', h1, h2, h3, h4⟩ := h
  simp only [List.cons.injEq, Value.slice.injEq, and_true] at he'
  obtain ⟨rfl, rfl, rfl⟩ := he'
  refine ⟨h1, h2, h3, fun i hi => ?_⟩
  have hi' : i < List.length xs := by have : List.length xs = len := h1; omega
  rcases h4 with h0 | ⟨b, off, rfl, hb, hx⟩
  · omega
  · obtain ⟨vs, hl, hc, c1, c2, rfl, ⟨rfl, q1⟩, c3, c4, rfl, ⟨rfl, q2⟩, q3⟩ := hx i hi'
    have e : xs[i]?.getD (0, 0, ()) = xs[i] := by rw [List.getElem?_eq_getElem hi']; rfl
    refine ⟨b, off, rfl, hb, ?_, ?_, ?_, ?_⟩
    · rw [sdN, e]; exact hc 0 _ rfl
    · rw [saN, e]; exact hc 1 _ rfl
    · rw [sdN, e]; exact q1
    · rw [saN, e]; exact q2

/-- Run: the fold. -/
def runG : Int → Nat → List stT.den → Int × Nat × Int
  | s, i, [] => (s, i, 0)
  | s, i, x :: xs => if (nextF s x.1 x.2.1).2 = 0 then runG (nextF s x.1 x.2.1).1 (i + 1) xs else (0, i, (nextF s x.1 x.2.1).2)
def runF (s : Int) (xs : List stT.den) : Int × Nat × Int := if 1 ≤ s ∧ s ≤ 5 then runG s 0 xs else (0, 0, 1)

theorem runG_step (s : Int) (xs : List stT.den) (k : Nat) (h : k < xs.length) : runG s k (xs.drop k) = if (nextF s (sdN xs k) (saN xs k)).2 = 0 then runG (nextF s (sdN xs k) (saN xs k)).1 (k + 1) (xs.drop (k + 1)) else (0, k, (nextF s (sdN xs k) (saN xs k)).2) := by
  rw [List.drop_eq_getElem_cons h, runG, sdN, saN, List.getElem?_eq_getElem h]
  rfl
theorem runG_end (s : Int) (xs : List stT.den) (k : Nat) (h : xs.length ≤ k) : runG s k (xs.drop k) = (s, k, 0) := by
  rw [List.drop_eq_nil_of_le h]; rfl

theorem run_sum (w : World) (s : Int) (v : Value) (xs : List stT.den) (h : Rd (.sl stT) (fun b => b < w.heap.size) w [v] xs) :
    Calls Try.prog 10 #[.int .i64 s, v] w fun e w' => e = .returned (.tuple #[.int .i64 (runF s xs).1, .int .i64 (runF s xs).2.1, .int .i64 (runF s xs).2.2]) ∧ Below w.heap.size w w' := by
  obtain ⟨a, len, cap, he, -⟩ := id h
  simp only [List.cons.injEq, and_true] at he
  subst he
  obtain ⟨h1, h2, h3, h4⟩ := Rd.steps h
  have H1 := Lib.hid h1; clear h1
  have H4 := Lib.hid h4; clear h4
  have H := Lib.hid h; clear h
  by_cases hin : 1 ≤ s ∧ s ≤ 5
  case neg =>
    have hk : (decide (1 ≤ s) && decide (s ≤ 5)) = false := by simpa using hin
    rw [runF, if_neg hin]
    clear hin
    go_enter Try.func10, Try.ntmps10
    go_wp2_with (first | (go_at_call 24; refine (known_sum _ _).mono ?_; rw [hk]; rintro e w1 ⟨rfl, hw⟩; subst w1))
    go_ret3
    exact ⟨rfl, Below.refl _ _⟩
  have hk : (decide (1 ≤ s) && decide (s ≤ 5)) = true := by simpa using hin
  have HF : Hid (runF s xs = runG s 0 (xs.drop 0)) := Lib.hid (by rw [runF, if_pos hin]; rfl)
  clear hin
  go_enter Try.func10, Try.ntmps10
  go_wp2_with (first | (go_at_call 24; refine (known_sum _ _).mono ?_; rw [hk]; rintro e w1 ⟨rfl, hw⟩; subst w1))
  clear hk
  go_loopw [0, 16] (fun sv i wr => ∃ (k : Nat) (t : Int), k ≤ len ∧ i = .int .i64 k ∧ sv = .int .i64 t ∧ runG s 0 (xs.drop 0) = runG t k (xs.drop k) ∧ Below w.heap.size w wr) (fun _ i _ => len - (intOf i).toNat)
  case atStart => exact ⟨0, s, Nat.zero_le _, rfl, rfl, rfl, Below.refl _ _⟩
  case round =>
    obtain ⟨k, t, hk, rfl, rfl, hr, hB⟩ := hrel
    have HR := Lib.hid hr; clear hr
    by_cases hlt : k < len
    · obtain ⟨b, off, rfl, _, c1, c2, _, _⟩ := H4.out k hlt
      replace c1 := cell_below c1 hB
      replace c2 := cell_below c2 hB
      have HS := Lib.hid (runG_step t xs k (by rw [H1.out]; exact hlt))
      obtain ⟨p, hp⟩ : ∃ p, nextF t (sdN xs k) (saN xs k) = p := ⟨_, rfl⟩
      go_wp2_with (first | (go_at_call 19; refine (next_sum _ _ _ _).mono ?_; rintro e w1 ⟨rfl, hB1⟩))
      all_goals have hB2 := below_step (hB.alloc hB.size _) hB1
      · have hp2 : p.2 ≠ 0 := by simpa using ‹(p.2 != 0) = true›
        go_ret3
        refine ⟨?_, hB2⟩
        rw [HF.out, HR.out, HS.out, hp, if_neg hp2]
        rfl
      · have hp2 : p.2 = 0 := by simpa using ‹(p.2 != 0) = false›
        go_roundw
        case rel => exact ⟨k + 1, p.1, by omega, by go_num, rfl, by rw [HR.out, HS.out, hp, if_pos hp2], hB2⟩
        case measure => simp [intOf]; omega
    · obtain rfl : k = len := by omega
      go_wp2
      go_ret3
      refine ⟨?_, hB⟩
      rw [HF.out, HR.out, runG_end _ _ _ (by rw [H1.out]; exact Nat.le_refl _)]
      rfl
theorem refrun_sum (w : World) (s : Int) (v : Value) (xs : List stT.den) (h : Rd (.sl stT) (fun b => b < w.heap.size) w [v] xs) :
    Calls Try.prog 12 #[.int .i64 s, v] w fun e w' => e = .returned (.tuple #[.int .i64 (runF s xs).1, .int .i64 (runF s xs).2.1, .int .i64 (runF s xs).2.2]) ∧ Below w.heap.size w w' := by
  obtain ⟨a, len, cap, he, -⟩ := id h
  simp only [List.cons.injEq, and_true] at he
  subst he
  obtain ⟨h1, h2, h3, h4⟩ := Rd.steps h
  have H1 := Lib.hid h1; clear h1
  have H4 := Lib.hid h4; clear h4
  have H := Lib.hid h; clear h
  by_cases hin : 1 ≤ s ∧ s ≤ 5
  case neg =>
    have hk : (decide (1 ≤ s) && decide (s ≤ 5)) = false := by simpa using hin
    rw [runF, if_neg hin]
    clear hin
    go_enter Try.func12, Try.ntmps12
    go_wp2_with (first | (go_at_call 25; refine (refstate_sum _ _).mono ?_; rw [hk]; rintro e w1 ⟨rfl, hw⟩; subst w1))
    go_ret3
    exact ⟨rfl, Below.refl _ _⟩
  have hk : (decide (1 ≤ s) && decide (s ≤ 5)) = true := by simpa using hin
  have HF : Hid (runF s xs = runG s 0 (xs.drop 0)) := Lib.hid (by rw [runF, if_pos hin]; rfl)
  clear hin
  go_enter Try.func12, Try.ntmps12
  go_wp2_with (first | (go_at_call 25; refine (refstate_sum _ _).mono ?_; rw [hk]; rintro e w1 ⟨rfl, hw⟩; subst w1))
  clear hk
  go_loopw [0, 7] (fun sv i wr => ∃ (k : Nat) (t : Int), k ≤ len ∧ i = .int .i64 k ∧ sv = .int .i64 t ∧ runG s 0 (xs.drop 0) = runG t k (xs.drop k) ∧ Below w.heap.size w wr) (fun _ i _ => len - (intOf i).toNat)
  case atStart => exact ⟨0, s, Nat.zero_le _, rfl, rfl, rfl, Below.refl _ _⟩
  case round =>
    obtain ⟨k, t, hk, rfl, rfl, hr, hB⟩ := hrel
    have HR := Lib.hid hr; clear hr
    by_cases hlt : k < len
    · obtain ⟨b, off, rfl, _, c1, c2, _, _⟩ := H4.out k hlt
      replace c1 := cell_below c1 hB
      replace c2 := cell_below c2 hB
      have HS := Lib.hid (runG_step t xs k (by rw [H1.out]; exact hlt))
      obtain ⟨p, hp⟩ : ∃ p, nextF t (sdN xs k) (saN xs k) = p := ⟨_, rfl⟩
      have hn : ∀ w, Calls Try.prog 20 #[.int .i64 t, .int .i64 (sdN xs k), .int .i64 (saN xs k)] w fun e w' => e = .returned (.tuple #[.int .i64 p.1, .int .i64 p.2]) ∧ w' = w := by
        intro w; rw [← hp]; exact refnext_sum w _ _ _
      have HP := Lib.hid hp; clear hp
      have HN := Lib.hid hn; clear hn
      go_wp2_with (go_quiet (first | (go_at_call 20; refine Calls.quiet_of_same (HN.out _))))
      all_goals have hB2 : ∀ n, Below w.heap.size w (wr.drewN n) := fun n => below_step hB (below_drewN _ _)
      · have hp2 : p.2 ≠ 0 := by simpa using ‹(p.2 != 0) = true›
        go_ret3
        refine ⟨?_, hB2 _⟩
        rw [HF.out, HR.out, HS.out, HP.out, if_neg hp2]
        rfl
      · have hp2 : p.2 = 0 := by simpa using ‹(p.2 != 0) = false›
        go_roundw
        case rel => exact ⟨k + 1, p.1, by omega, by go_num, rfl, by rw [HR.out, HS.out, HP.out, if_pos hp2], hB2 _⟩
        case measure => simp [intOf]; omega
    · obtain rfl : k = len := by omega
      go_wp2
      go_ret3
      refine ⟨?_, hB⟩
      rw [HF.out, HR.out, runG_end _ _ _ (by rw [H1.out]; exact Nat.le_refl _)]
      rfl

end Go.Proofs.Ytmlcdoilbonelaa
