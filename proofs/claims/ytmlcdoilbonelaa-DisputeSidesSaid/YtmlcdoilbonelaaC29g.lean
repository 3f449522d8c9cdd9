/- Chapter 29: Path for any numbers; from, to; Same; awake. -/
import Derived.Test.YtmlcdoilbonelaaC29f
import Derived.Laws.StructEq
namespace Go.Proofs.Ytmlcdoilbonelaa
open Go.RowKit Go

theorem path_out (w : World) (s t : Int) (h : ¬(1 ≤ s ∧ s ≤ 5 ∧ 1 ≤ t ∧ t ≤ 5)) : Calls Try.prog 14 #[.int .i64 s, .int .i64 t] w fun e w' => e = .returned (.tuple #[.slice none 0 0, .int .i64 1]) ∧ w' = w := by
  have H := Lib.hid h; clear h
  obtain ⟨x, hx⟩ : ∃ x, (decide (1 ≤ s) && decide (s ≤ 5)) = x := ⟨_, rfl⟩
  obtain ⟨y, hy⟩ : ∃ y, (decide (1 ≤ t) && decide (t ≤ 5)) = y := ⟨_, rfl⟩
  have hxy : Hid (x = false ∨ y = false) := Lib.hid (by
    cases x <;> cases y <;> simp_all
    have := H.out
    omega)
  have HX := Lib.hid hx; clear hx
  have HY := Lib.hid hy; clear hy
  cases x with
  | false =>
    go_enter Try.func14, Try.ntmps14
    go_wp2_with (first | (go_at_call 24; refine (known_sum _ _).mono ?_; (first | rw [HX.out] | rw [HY.out]); rintro e w1 ⟨rfl, hw⟩; subst w1))
    go_ret2
    exact ⟨rfl, rfl⟩
  | true =>
    have hyf : y = false := by rcases hxy.out with h | h; cases h; exact h
    subst hyf
    go_enter Try.func14, Try.ntmps14
    go_wp2_with (first | (go_at_call 24; refine (known_sum _ _).mono ?_; (first | rw [HX.out] | rw [HY.out]); rintro e w1 ⟨rfl, hw⟩; subst w1))
    go_ret2
    exact ⟨rfl, rfl⟩

theorem sd_take (xs : List stT.den) (k : Nat) (h : k < xs.length) : xs.take (k + 1) = xs.take k ++ [(sdN xs k, saN xs k, ())] := by
  rw [List.take_add_one, List.getElem?_eq_getElem h, st_get xs k h]; rfl

theorem info_rst : (Try.prog.info? 32).map (fun i => (i.zero, i.size, i.bytes)) = some (some (.agg #[.int .i64 0, .int .i64 0]), 2, 16) := by kernel_rfl

theorem to_sum (w : World) (v : Value) (xs : List stT.den) (h : Rd (.sl stT) (fun b => b < w.heap.size) w [v] xs) (hm : xs.length ≤ 1000) :
    Calls Try.prog 11 #[v] w fun e w' => ∃ v', e = .returned v' ∧ Below w.heap.size w w' ∧ Owns stT 33 w.heap.size (fun _ => False) w' v' xs := by
  obtain ⟨a, len, cap, he, -⟩ := id h
  simp only [List.cons.injEq, and_true] at he
  subst he
  obtain ⟨h1, h2, h3, h4⟩ := Rd.steps h
  have hl : len ≤ 1000 := by omega
  have H1 := Lib.hid h1; clear h1
  have H4 := Lib.hid h4; clear h4
  have H := Lib.hid h; clear h
  clear hm
  go_enter Try.func11, Try.ntmps11
  go_wp2
  go_loopw [3, 8] (fun v i wr => ∃ k : Nat, k ≤ len ∧ i = .int .i64 k ∧ Owns stT 33 w.heap.size (fun _ => False) wr v (xs.take k) ∧ Below w.heap.size w wr) (fun _ i _ => len - (intOf i).toNat)
  case atStart => exact ⟨0, Nat.zero_le _, rfl, Owns.nil _ _ _ _, Below.refl _ _⟩
  case round =>
    obtain ⟨k, hk, rfl, hO, hB⟩ := hrel
    have HO := Lib.hid hO; clear hO
    by_cases hlt : k < len
    · obtain ⟨b, off, rfl, _, c1, c2, wf1, wf2⟩ := H4.out k hlt
      replace c1 := cell_below c1 hB
      replace c2 := cell_below c2 hB
      have htl : (xs.take k).length ≤ 1000 := by rw [List.length_take]; omega
      have hsz := hB.size
      have hsrc := Src.new (wr.alloc (.cells #[.int .i64 (sdN xs k), .int .i64 (saN xs k)] 32)) [.int .i64 (sdN xs k), .int .i64 (saN xs k)] 33 1 1
      rw [World.size_alloc] at hsrc
      go_wp2_with (at_builtin; go_must (refine wpList_app _ rfl _ _ 27 rfl (e := stT) info_st Try.underlying27 rfl (by decide) rfl ((HO.out.alloc _).alloc _) (by simp; omega) (sv := .slice (some ⟨wr.heap.size + 1, 0, none⟩) 1 1) rfl (ys := [(sdN xs k, saN xs k, ())]) hsrc (RdL.st1 wf1 wf2) (by simp only [List.length_cons, List.length_nil]; omega) (by simp only [List.length_cons, List.length_nil]; omega) ?_; intro v' w1 O1 g1 _ _; have hB1 := ((hB.alloc hB.size _).alloc (by simp; omega) _).grown g1 (by simp; omega) (fun k e => (HO.out.own k e).1)))
      go_roundw
      case rel => exact ⟨k + 1, by omega, by go_num, by rw [sd_take xs k (by rw [H1.out]; exact hlt)]; exact O1, hB1⟩
      case measure => simp [intOf]; omega
    · obtain rfl : k = len := by omega
      have hO := HO.out
      rw [List.take_of_length_le (by rw [H1.out]; exact Nat.le_refl _)] at hO
      go_wp2
      go_ret
      exact ⟨_, rfl, hB, hO⟩

theorem from_sum (w : World) (v : Value) (xs : List stT.den) (h : Rd (.sl stT) (fun b => b < w.heap.size) w [v] xs) (hm : xs.length ≤ 1000) :
    Calls Try.prog 17 #[v] w fun e w' => ∃ v', e = .returned v' ∧ Below w.heap.size w w' ∧ Owns stT 32 w.heap.size (fun _ => False) w' v' xs := by
  obtain ⟨a, len, cap, he, -⟩ := id h
  simp only [List.cons.injEq, and_true] at he
  subst he
  obtain ⟨h1, h2, h3, h4⟩ := Rd.steps h
  have hl : len ≤ 1000 := by omega
  have H1 := Lib.hid h1; clear h1
  have H4 := Lib.hid h4; clear h4
  have H := Lib.hid h; clear h
  clear hm
  go_enter Try.func17, Try.ntmps17
  go_wp2
  go_loopw [3, 8] (fun v i wr => ∃ k : Nat, k ≤ len ∧ i = .int .i64 k ∧ Owns stT 32 w.heap.size (fun _ => False) wr v (xs.take k) ∧ Below w.heap.size w wr) (fun _ i _ => len - (intOf i).toNat)
  case atStart => exact ⟨0, Nat.zero_le _, rfl, Owns.nil _ _ _ _, Below.refl _ _⟩
  case round =>
    obtain ⟨k, hk, rfl, hO, hB⟩ := hrel
    have HO := Lib.hid hO; clear hO
    by_cases hlt : k < len
    · obtain ⟨b, off, rfl, _, c1, c2, wf1, wf2⟩ := H4.out k hlt
      replace c1 := cell_below c1 hB
      replace c2 := cell_below c2 hB
      have htl : (xs.take k).length ≤ 1000 := by rw [List.length_take]; omega
      have hsz := hB.size
      have hsrc := Src.new (wr.alloc (.cells #[.int .i64 (sdN xs k), .int .i64 (saN xs k)] 33)) [.int .i64 (sdN xs k), .int .i64 (saN xs k)] 32 1 1
      rw [World.size_alloc] at hsrc
      go_wp2_with (at_builtin; go_must (refine wpList_app _ rfl _ _ 22 rfl (e := stT) info_rst Try.underlying22 rfl (by decide) rfl ((HO.out.alloc _).alloc _) (by simp; omega) (sv := .slice (some ⟨wr.heap.size + 1, 0, none⟩) 1 1) rfl (ys := [(sdN xs k, saN xs k, ())]) hsrc (RdL.st1 wf1 wf2) (by simp only [List.length_cons, List.length_nil]; omega) (by simp only [List.length_cons, List.length_nil]; omega) ?_; intro v' w1 O1 g1 _ _; have hB1 := ((hB.alloc hB.size _).alloc (by simp; omega) _).grown g1 (by simp; omega) (fun k e => (HO.out.own k e).1)))
      go_roundw
      case rel => exact ⟨k + 1, by omega, by go_num, by rw [sd_take xs k (by rw [H1.out]; exact hlt)]; exact O1, hB1⟩
      case measure => simp [intOf]; omega
    · obtain rfl : k = len := by omega
      have hO := HO.out
      rw [List.take_of_length_le (by rw [H1.out]; exact Nat.le_refl _)] at hO
      go_wp2
      go_ret
      exact ⟨_, rfl, hB, hO⟩

theorem neq_st (w : World) (a b c d : Int) : (binOp .neq 32 (.agg #[.int .i64 a, .int .i64 b]) (.agg #[.int .i64 c, .int .i64 d])).run Try.prog w = .ok (.bool (!(a == c && b == d))) w := by
  have h1 : Try.prog.underlying 32 = some (.struct (Try.prog.fieldsOf 32)) := by kernel_rfl
  have h2 : Try.prog.stoodInHeld 32 = false := by kernel_rfl
  rw [run_neq_struct, run_equalIn_agg (d := 9999) (ht := h1) (hp := h2)]
  simp [go_sem, Try.underlying32, Try.underlying3]
  by_cases e1 : a = c <;> by_cases e2 : b = d <;> simp [e1, e2]

theorem same_sum (w : World) (v v2 : Value) (xs ys : List stT.den) (h : Rd (.sl stT) (fun b => b < w.heap.size) w [v] xs) (h2 : Rd (.sl stT) (fun b => b < w.heap.size) w [v2] ys) :
    Calls Try.prog 16 #[v, v2] w fun e w' => e = .returned (.bool (decide (xs = ys))) ∧ Below w.heap.size w w' := by
  obtain ⟨a, len, cap, he, -⟩ := id h
  simp only [List.cons.injEq, and_true] at he
  subst he
  obtain ⟨a2, len2, cap2, he, -⟩ := id h2
  simp only [List.cons.injEq, and_true] at he
  subst he
  obtain ⟨l1, l2, l3, l4⟩ := Rd.steps h
  obtain ⟨m1, m2, m3, m4⟩ := Rd.steps h2
  have L1 := Lib.hid l1; clear l1
  have L4 := Lib.hid l4; clear l4
  have M1 := Lib.hid m1; clear m1
  have M4 := Lib.hid m4; clear m4
  clear h h2
  have hE := fun w a b c d => neq_st w a b c d
  have hG : Try.prog.eqGuardType Try.prog.depth 32 = false := by kernel_rfl
  by_cases hne : len = len2
  case neg =>
    have hq : ((len : Int) != (len2 : Int)) = true := by simpa using (fun e : (len : Int) = len2 => hne (by omega))
    have hd : Hid (decide (xs = ys) = false) := Lib.hid (by
      have := L1.out; have := M1.out
      exact decide_eq_false (fun e => hne (by rw [← L1.out, ← M1.out, e])))
    go_enter Try.func16, Try.ntmps16
    go_wp2
    all_goals first
      | (go_ret; exact ⟨ret_bool hd.out.symm, Below.refl _ _⟩)
      | (exfalso; omega)
  subst hne
  go_enter Try.func16, Try.ntmps16
  go_wp2
  go_loopw [5] (fun i wr => ∃ k : Nat, k ≤ len ∧ i = .int .i64 k ∧ (∃ m, wr = w.drewN m) ∧ xs.take k = ys.take k) (fun i _ => len - (intOf i).toNat)
  case atStart => exact ⟨0, Nat.zero_le _, rfl, ⟨0, rfl⟩, rfl⟩
  case round =>
    obtain ⟨k, hk, rfl, ⟨m, rfl⟩, ht⟩ := hrel
    have HT := Lib.hid ht; clear ht
    by_cases hlt : k < len
    · obtain ⟨b, off, rfl, _, c1, c2, _, _⟩ := L4.out k hlt
      obtain ⟨b', off', rfl, _, e1, e2, _, _⟩ := M4.out k hlt
      go_wp2_with (go_quiet (fail))
      · go_ret
        refine ⟨ret_bool (decide_eq_false (fun e => ?_)).symm, below_step (below_drewN _ _) (below_drewN _ _)⟩
        subst e
        simp_all
      all_goals
        have hs2 : sdN xs k = sdN ys k ∧ saN xs k = saN ys k := by simp_all
        go_roundw
        case rel => exact ⟨k + 1, by omega, by go_num, ⟨_, rfl⟩, by rw [sd_take xs k (by rw [L1.out]; exact hlt), sd_take ys k (by rw [M1.out]; exact hlt), HT.out, hs2.1, hs2.2]⟩
        case measure => simp [intOf]; omega
    · obtain rfl : k = len := by omega
      go_wp2
      go_ret
      refine ⟨ret_bool ?_, below_drewN _ _⟩
      have := HT.out
      rw [List.take_of_length_le (by rw [L1.out]; exact Nat.le_refl _), List.take_of_length_le (by rw [M1.out]; exact Nat.le_refl _)] at this
      rw [this]; simp
theorem awake_sum (w : World) : Calls Try.prog 9 #[] w fun e w' => e = .returned (.bool true) ∧ Below w.heap.size w w' := by
  have hp : pathL 5 4 = [(0, 3, ()), (0, 0, ()), (1, 0, ())] := by kernel_rfl
  have hn : nextF 1 1 0 = (3, 0) := by kernel_rfl
  have HP := Lib.hid hp; clear hp
  have HN := Lib.hid hn; clear hn
  go_enter Try.func9, Try.ntmps9
  go_wp2_with (first | (go_at_call 14; refine (path_walk _ 5 4 (by omega) (by omega) (by omega) (by omega)).mono ?_; rw [HP.out]; rintro e w1 ⟨v, rfl, hB1, hR1⟩) | (go_at_call 19; refine (next_sum _ _ _ _).mono ?_; rw [HN.out]; rintro e w2 ⟨rfl, hB2⟩) | (go_at_call 17; refine (from_sum _ _ _ ((hR1.keep (fun _ _ => rfl) (fun b hb => hb.2)).alloc hB2) (by simp)).mono ?_; rintro e w3 ⟨v3, rfl, hB3, hO3⟩))
  have hB30 := below_step (below_step hB1 hB2) hB3
  have hR3 : Rd (.sl stT) (fun b => b < (w3.alloc (.cells #[.int .i64 0, .int .i64 3, .int .i64 0, .int .i64 0, .int .i64 1, .int .i64 0] 32)).heap.size) (w3.alloc (.cells #[.int .i64 0, .int .i64 3, .int .i64 0, .int .i64 0, .int .i64 1, .int .i64 0] 32)) [v3] [(0, 3, ()), (0, 0, ()), (1, 0, ())] :=
    (hO3.alloc _).rd _ (fun _ h => h.elim) (fun b hb => ((hO3.alloc _).own b hb).2)
  have hL3 : RdL stT (fun b => b < (w3.alloc (.cells #[.int .i64 0, .int .i64 3, .int .i64 0, .int .i64 0, .int .i64 1, .int .i64 0] 32)).heap.size) (w3.alloc (.cells #[.int .i64 0, .int .i64 3, .int .i64 0, .int .i64 0, .int .i64 1, .int .i64 0] 32)) ([.int .i64 0, .int .i64 3] ++ ([.int .i64 0, .int .i64 0] ++ [.int .i64 1, .int .i64 0])) ([(0, 3, ())] ++ ([(0, 0, ())] ++ [(1, 0, ())])) :=
    RdL.append (RdL.st1 rfl rfl) (RdL.append (RdL.st1 rfl rfl) (RdL.st1 rfl rfl))
  have hR4 : Rd (.sl stT) (fun b => b < (w3.alloc (.cells #[.int .i64 0, .int .i64 3, .int .i64 0, .int .i64 0, .int .i64 1, .int .i64 0] 32)).heap.size) (w3.alloc (.cells #[.int .i64 0, .int .i64 3, .int .i64 0, .int .i64 0, .int .i64 1, .int .i64 0] 32)) [.slice (some ⟨w3.heap.size, 0, none⟩) 3 3] [(0, 3, ()), (0, 0, ()), (1, 0, ())] :=
    Rd.sl_blk (e := stT) (heap_alloc_new w3 _) (by simp) rfl (by omega) hL3
  refine (same_sum _ _ _ _ _ hR3 hR4).mono ?_
  rw [decide_eq_true rfl]
  rintro e w4 ⟨rfl, hB4⟩
  have hB40 := below_step (hB30.alloc hB30.size _) hB4
  clear hR3 hL3 hR4
  go_wp2
  go_ret
  exact ⟨rfl, hB40⟩
end Go.Proofs.Ytmlcdoilbonelaa
