/- Chapter 29: Can on both sides. -/
import Derived.Test.YtmlcdoilbonelaaC29d
namespace Go.Proofs.Ytmlcdoilbonelaa
open Go.RowKit Go

theorem st_get (xs : List stT.den) (k : Nat) (h : k < xs.length) : (sdN xs k, saN xs k, ()) = xs[k] := by
  simp [sdN, saN, List.getElem?_eq_getElem h]
theorem any_take (f : stT.den → Bool) (xs : List stT.den) (k : Nat) (h : k < xs.length) : (xs.take (k + 1)).any f = ((xs.take k).any f || f (sdN xs k, saN xs k, ())) := by
  rw [List.take_add_one, List.getElem?_eq_getElem h, List.any_append, st_get xs k h]
  simp
theorem any_hit (f : stT.den → Bool) (xs : List stT.den) (k : Nat) (h : k < xs.length) (hf : f (sdN xs k, saN xs k, ()) = true) : xs.any f = true := by
  rw [st_get xs k h] at hf
  exact List.any_eq_true.2 ⟨_, List.getElem_mem h, hf⟩

theorem indexFunc_sum (w : World) (v : Value) (xs : List stT.den) (h : Rd (.sl stT) (fun b => b < w.heap.size) w [v] xs) (s to : Int) (p q : Nat) (hp : w.cell? ⟨p, 0, none⟩ = some (.int .i64 s)) (hq : w.cell? ⟨q, 0, none⟩ = some (.int .i64 to)) :
    Calls Try.prog 33 #[v, .func (.func 32) #[] #[.pointer (some ⟨p, 0, none⟩), .pointer (some ⟨q, 0, none⟩)]] w fun e w' => ∃ i : Int, e = .returned (.int .i64 i) ∧ decide (0 ≤ i) = xs.any (canP s to) ∧ Below w.heap.size w w' := by
  obtain ⟨a, len, cap, he, -⟩ := id h
  simp only [List.cons.injEq, and_true] at he
  subst he
  obtain ⟨h1, h2, h3, h4⟩ := Rd.steps h
  have H1 := Lib.hid h1; clear h1
  have H4 := Lib.hid h4; clear h4
  have H := Lib.hid h; clear h
  have HP := Lib.hid hp; clear hp
  have HQ := Lib.hid hq; clear hq
  go_enter Try.func33, Try.ntmps33
  go_wp2
  go_loopw [8] (fun i wr => ∃ (k : Nat), k ≤ len ∧ i = .int .i64 k ∧ (xs.take k).any (canP s to) = false ∧ Below w.heap.size w wr) (fun i _ => len - (intOf i).toNat)
  case atStart => exact ⟨0, Nat.zero_le _, rfl, rfl, Below.refl _ _⟩
  case round =>
    obtain ⟨k, hk, rfl, hr, hB⟩ := hrel
    have HR := Lib.hid hr; clear hr
    by_cases hlt : k < len
    · obtain ⟨b, off, rfl, _, c1, c2, _, _⟩ := H4.out k hlt
      replace c1 := cell_below c1 hB
      replace c2 := cell_below c2 hB
      obtain ⟨z, hz⟩ : ∃ z, canP s to (sdN xs k, saN xs k, ()) = z := ⟨_, rfl⟩
      have HZ := Lib.hid hz; clear hz
      go_wp2_with (first | (go_at_call 32; refine (can1_sum _ s to _ _ p q (cell_below HP.out hB) (cell_below HQ.out hB)).mono ?_; rw [HZ.out]; rintro e w1 ⟨rfl, hB1⟩))
      all_goals have hB2 := below_step hB hB1
      · go_ret
        refine ⟨_, rfl, ?_, hB2⟩
        rw [any_hit _ xs k (by rw [H1.out]; exact hlt) (by rw [HZ.out]; assumption)]
        simp
      · go_roundw
        case rel => exact ⟨k + 1, by omega, by go_num, by rw [any_take _ xs k (by rw [H1.out]; exact hlt), HR.out, HZ.out]; simp_all, hB2⟩
        case measure => simp [intOf]; omega
    · obtain rfl : k = len := by omega
      go_wp2
      go_ret
      refine ⟨_, rfl, ?_, hB⟩
      have := HR.out
      rw [List.take_of_length_le (by rw [H1.out]; exact Nat.le_refl _)] at this
      rw [this]
      rfl
theorem containsFunc_sum (w : World) (v : Value) (xs : List stT.den) (h : Rd (.sl stT) (fun b => b < w.heap.size) w [v] xs) (s to : Int) (p q : Nat) (hp : w.cell? ⟨p, 0, none⟩ = some (.int .i64 s)) (hq : w.cell? ⟨q, 0, none⟩ = some (.int .i64 to)) :
    Calls Try.prog 31 #[v, .func (.func 32) #[] #[.pointer (some ⟨p, 0, none⟩), .pointer (some ⟨q, 0, none⟩)]] w fun e w' => e = .returned (.bool (xs.any (canP s to))) ∧ Below w.heap.size w w' := by
  obtain ⟨z, hz⟩ : ∃ z, xs.any (canP s to) = z := ⟨_, rfl⟩
  have HZ := Lib.hid hz
  rw [hz]; clear hz
  go_enter Try.func31, Try.ntmps31
  go_wp2_with (first | (go_at_call 33; refine (indexFunc_sum w v xs h s to p q hp hq).mono ?_; rw [HZ.out]; rintro e w1 ⟨i, rfl, hz, hB1⟩))
  all_goals (go_ret; refine ⟨ret_bool ?_, hB1⟩; first | exact hz | simp_all)

theorem can_sum (w : World) (s to : Int) : Calls Try.prog 21 #[.int .i64 s, .int .i64 to] w fun e w' => e = .returned (.bool (stepsL.any (canP s to))) ∧ Below w.heap.size w w' := by
  obtain ⟨z, hz⟩ : ∃ z, stepsL.any (canP s to) = z := ⟨_, rfl⟩
  have HZ := Lib.hid hz
  rw [hz]; clear hz
  have hA : Below w.heap.size w (w.alloc (.cells #[.int .i64 s] 3)) := (Below.refl _ w).alloc (Nat.le_refl _) _
  have hA2 : Below w.heap.size w ((w.alloc (.cells #[.int .i64 s] 3)).alloc (.cells #[.int .i64 to] 3)) := hA.alloc hA.size _
  have c1 : ((w.alloc (.cells #[.int .i64 s] 3)).alloc (.cells #[.int .i64 to] 3)).cell? ⟨w.heap.size, 0, none⟩ = some (.int .i64 s) := cell_below (by simp) ((Below.refl _ _).alloc (Nat.le_refl _) _)
  have c2 : ((w.alloc (.cells #[.int .i64 s] 3)).alloc (.cells #[.int .i64 to] 3)).cell? ⟨w.heap.size + 1, 0, none⟩ = some (.int .i64 to) := by
    simp
  have C1 := Lib.hid c1; clear c1
  have C2 := Lib.hid c2; clear c2
  go_enter Try.func21, Try.ntmps21
  go_wp2_with (first | (go_at_call 26; refine (steps_sum _).mono ?_; rintro e w1 ⟨v, rfl, hB1, hO⟩) | (go_at_call 31; refine (containsFunc_sum w1 v stepsL (hO.rd _ (fun _ h => h.elim) (fun b hb => (hO.own b hb).2)) s to _ _ (cell_below C1.out hB1) (cell_below C2.out hB1)).mono ?_; rw [HZ.out]; rintro e w2 ⟨rfl, hB2⟩))
  go_ret
  exact ⟨rfl, below_step (below_step hA2 hB1) hB2⟩

theorem steps_at (k a : Nat) (hk : k < 2) (ha : a < 4) : ((k : Int), (a : Int), ()) = (sdN stepsL (4 * k + a), saN stepsL (4 * k + a), ()) := by
  match k, a with
  | 0, 0 | 0, 1 | 0, 2 | 0, 3 | 1, 0 | 1, 1 | 1, 2 | 1, 3 => rfl
  | 0, n + 4 | 1, n + 4 => omega
  | n + 2, _ => omega

theorem refcan_sum (w : World) (s to : Int) : Calls Try.prog 22 #[.int .i64 s, .int .i64 to] w fun e w' => e = .returned (.bool (stepsL.any (canP s to))) ∧ w' = w := by
  have hF : Hid (∀ d a : Int, canP s to (d, a, ()) = ((nextF s d a).2 == 0 && (nextF s d a).1 == to)) := Lib.hid (fun _ _ => rfl)
  obtain ⟨f, hf⟩ : ∃ f, f = canP s to := ⟨_, rfl⟩
  rw [← hf] at hF
  rw [← hf]
  clear hf
  go_enter Try.func22, Try.ntmps22
  go_wp2
  go_loop [5] (fun i => ∃ k : Nat, k ≤ 2 ∧ i = .int .i64 k ∧ (stepsL.take (4 * k)).any f = false) (fun i => 2 - (intOf i).toNat)
  case atStart => exact ⟨0, by omega, rfl, rfl⟩
  case round =>
    obtain ⟨k, hk, rfl, hr⟩ := hrel
    have HR := Lib.hid hr; clear hr
    by_cases hlt : k < 2
    · go_wp2
      go_loop [6] (fun j => ∃ a : Nat, a ≤ 4 ∧ j = .int .i64 a ∧ (stepsL.take (4 * k + a)).any f = false) (fun j => 4 - (intOf j).toNat)
      case atStart => exact ⟨0, by omega, rfl, HR.out⟩
      case round =>
        obtain ⟨a, ha, rfl, hr2⟩ := hrel
        have HR2 := Lib.hid hr2; clear hr2
        by_cases halt : a < 4
        · obtain ⟨p, hp⟩ : ∃ p, nextF s k a = p := ⟨_, rfl⟩
          have HF : Hid (f (k, a, ()) = (p.2 == 0 && p.1 == to)) := Lib.hid (by rw [hF.out, hp])
          have HN : Hid (∀ w, Calls Try.prog 20 #[.int .i64 s, .int .i64 k, .int .i64 a] w fun e w' => e = .returned (.tuple #[.int .i64 p.1, .int .i64 p.2]) ∧ w' = w) := Lib.hid (fun w => by rw [← hp]; exact refnext_sum w s k a)
          clear hp
          go_wp2_with (go_at_call 20; refine (HN.out _).mono ?_; rintro e w1 ⟨rfl, hw⟩; subst w1)
          · go_ret
            refine ⟨ret_bool ?_, rfl⟩
            rw [any_hit f stepsL (4 * k + a) (by simp [stepsL]; omega) (by rw [← steps_at k a hlt halt, HF.out]; simp_all)]
          all_goals
            go_round
            case rel => exact ⟨a + 1, by omega, by go_num, by rw [← Nat.add_assoc, any_take f stepsL (4 * k + a) (by simp [stepsL]; omega), HR2.out, ← steps_at k a hlt halt, HF.out]; simp_all⟩
            case measure => simp [intOf]; omega
        · obtain rfl : a = 4 := by omega
          go_wp2
          go_round
          case rel => exact ⟨k + 1, by omega, by go_num, by rw [Nat.mul_add]; exact HR2.out⟩
          case measure => simp [intOf]; omega
    · obtain rfl : k = 2 := by omega
      go_wp2
      go_ret
      exact ⟨ret_bool HR.out.symm, rfl⟩

end Go.Proofs.Ytmlcdoilbonelaa
