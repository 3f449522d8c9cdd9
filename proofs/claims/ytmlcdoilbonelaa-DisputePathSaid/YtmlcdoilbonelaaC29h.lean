/- Chapter 29: the reference's search and Path. -/
import Derived.Test.YtmlcdoilbonelaaC29g
namespace Go.Proofs.Ytmlcdoilbonelaa
open Go.RowKit Go

def firstF (g : stT.den → Option (List stT.den)) : List stT.den → Option (List stT.den)
  | [] => none
  | x :: xs => match g x with
    | some l => some l
    | none => firstF g xs
theorem firstF_take (g : stT.den → Option (List stT.den)) (xs : List stT.den) (k : Nat) (h : k < xs.length) (h0 : firstF g (xs.take k) = none) : firstF g (xs.take (k + 1)) = g xs[k] := by
  induction xs generalizing k with
  | nil => simp at h
  | cons x xs ih =>
    cases k with
    | zero => simp [firstF]; cases g x <;> rfl
    | succ k =>
      rw [List.take_succ_cons, firstF] at h0 ⊢
      cases hg : g x with
      | some l => rw [hg] at h0; cases h0
      | none => rw [hg] at h0; exact ih k (by simpa using h) h0
theorem firstF_hit (g : stT.den → Option (List stT.den)) (xs : List stT.den) (k : Nat) (h : k < xs.length) (h0 : firstF g (xs.take k) = none) (l : List stT.den) (hl : g xs[k] = some l) : firstF g xs = some l := by
  induction xs generalizing k with
  | nil => simp at h
  | cons x xs ih =>
    cases k with
    | zero => rw [firstF]; simp at hl; rw [hl]
    | succ k =>
      rw [List.take_succ_cons, firstF] at h0
      rw [firstF]
      cases hg : g x with
      | some l => rw [hg] at h0; cases h0
      | none => rw [hg] at h0; exact ih k (by simpa using h) h0 (by simpa using hl)

/-- search: the reference's own recursion. -/
def stepG (rec_ : Int → Option (List stT.den)) (s : Int) (x : stT.den) : Option (List stT.den) :=
  if (nextF s x.1 x.2.1).2 = 0 then (rec_ (nextF s x.1 x.2.1).1).map (x :: ·) else none
def searchF (t : Int) : Nat → Int → Option (List stT.den)
  | 0, s => if s = t then some [] else none
  | n + 1, s => firstF (stepG (searchF t n) s) stepsL
def pathR (s t : Int) : Option (List stT.den) := match searchF t 0 s with
  | some l => some l
  | none => match searchF t 1 s with
    | some l => some l
    | none => match searchF t 2 s with
      | some l => some l
      | none => searchF t 3 s
theorem pathR_all : (all5.all fun s => all5.all fun t => decide (pathR s t = some (pathL s t)) && decide (runF s (pathL s t) = (t, (pathL s t).length, 0)) && decide ((pathL s t).length ≤ 3)) = true := by kernel_rfl
theorem pathR_some (s t : Int) (h1 : 1 ≤ s) (h2 : s ≤ 5) (h3 : 1 ≤ t) (h4 : t ≤ 5) : pathR s t = some (pathL s t) ∧ runF s (pathL s t) = (t, (pathL s t).length, 0) ∧ (pathL s t).length ≤ 3 := by
  have hm : ∀ x : Int, 1 ≤ x → x ≤ 5 → x ∈ all5 := fun x a b => by simp [all5]; omega
  have := List.all_eq_true.1 (List.all_eq_true.1 pathR_all s (hm s h1 h2)) t (hm t h3 h4)
  simp only [Bool.and_eq_true, decide_eq_true_eq] at this
  exact ⟨this.1.1, this.1.2, this.2⟩
theorem pathR_at (s t : Int) (k : Nat) (hk : k < 4) (l : List stT.den) (h0 : ∀ j, j < k → searchF t j s = none) (hl : searchF t k s = some l) : pathR s t = some l := by
  unfold pathR
  match k, hk with
  | 0, _ => rw [hl]
  | 1, _ => rw [h0 0 (by omega), hl]
  | 2, _ => rw [h0 0 (by omega), h0 1 (by omega), hl]
  | 3, _ => rw [h0 0 (by omega), h0 1 (by omega), h0 2 (by omega), hl]

theorem src_own {te : TypeId} {base : Nat} {w : World} {v : Value} {xs : List stT.den} (hO : Owns stT te base (fun _ => False) w v xs) : ∃ news, Src w v xs.length news ∧ RdL stT (fun _ => False) w news xs := by
  obtain ⟨news, h1, h2⟩ := (hO.rd (fun b => b < w.heap.size) (fun _ h => h.elim) (fun b hb => (hO.own b hb).2)).src
  exact ⟨news, h1, h2.flat rfl⟩

set_option maxRecDepth 10000 in
set_option maxHeartbeats 4000000 in
theorem search_sum (t : Int) : ∀ (n : Nat), n ≤ 3 → ∀ (w : World) (s : Int), Calls Try.prog 28 #[.int .i64 s, .int .i64 t, .int .i64 n] w fun e w' =>
    ∃ v, e = .returned (.tuple #[v, .bool (searchF t n s).isSome]) ∧ Below w.heap.size w w' ∧ Owns stT 32 w.heap.size (fun _ => False) w' v ((searchF t n s).getD []) ∧ ((searchF t n s).getD []).length ≤ n
  | 0, _, w, s => by
    have e : searchF t 0 s = if s = t then some [] else none := rfl
    rw [e]
    obtain ⟨x, hx⟩ : ∃ x, (s == t) = x := ⟨_, rfl⟩
    have e2 : (if s = t then some [] else none : Option (List stT.den)).isSome = x := by rw [← hx]; by_cases h : s = t <;> simp [h]
    have e3 : (if s = t then some [] else none : Option (List stT.den)).getD [] = [] := by by_cases h : s = t <;> simp [h]
    rw [e2, e3]
    clear e e2 e3
    go_enter Try.func28, Try.ntmps28
    go_wp2
    go_ret2
    exact ⟨_, rfl, Below.refl _ _, Owns.nil _ _ _ _, Nat.le_refl _⟩
  | n + 1, hn, w, s => by
    obtain ⟨d, hd⟩ : ∃ d : Int, ((n + 1 : Nat) : Int) = d := ⟨_, rfl⟩
    rw [hd]
    have hdn : d - 1 = n := by omega
    have IH := search_sum t n (by omega)
    rw [← hdn] at IH
    replace IH := Lib.hid IH
    have hd1 : 1 ≤ d := by omega
    have hd3 : d ≤ 3 := by omega
    have hdq : (d == 0) = false := by simp; omega
    clear hd hdn
    have hE : Hid (searchF t (n + 1) s = firstF (stepG (searchF t n) s) stepsL) := Lib.hid rfl
    obtain ⟨g, hg⟩ : ∃ g, g = stepG (searchF t n) s := ⟨_, rfl⟩
    rw [← hg] at hE
    have hG : Hid (∀ x : stT.den, g x = if (nextF s x.1 x.2.1).2 = 0 then (searchF t n (nextF s x.1 x.2.1).1).map (x :: ·) else none) := Lib.hid (fun x => by rw [hg]; rfl)
    clear hg
    go_enter Try.func28, Try.ntmps28
    go_wp2
    go_loopw [8] (fun i wr => ∃ k : Nat, k ≤ 2 ∧ i = .int .i64 k ∧ firstF g (stepsL.take (4 * k)) = none ∧ Below w.heap.size w wr) (fun i _ => 2 - (intOf i).toNat)
    case atStart => exact ⟨0, by omega, rfl, rfl, Below.refl _ _⟩
    case round =>
      obtain ⟨k, hk, rfl, hr, hB⟩ := hrel
      have HR := Lib.hid hr; clear hr
      by_cases hlt : k < 2
      · have hkd : decide ((k : Int) < 2) = true := by simp; omega
        have HLT := Lib.hid hlt; clear hlt
        go_wp2
        go_loopw [9] (fun j wr => ∃ a : Nat, a ≤ 4 ∧ j = .int .i64 a ∧ firstF g (stepsL.take (4 * k + a)) = none ∧ Below w.heap.size w wr) (fun j _ => 4 - (intOf j).toNat)
        case atStart => exact ⟨0, by omega, rfl, HR.out, hB⟩
        case round =>
          obtain ⟨a, ha, rfl, hr2, hB2⟩ := hrel
          have HR2 := Lib.hid hr2; clear hr2
          by_cases halt : a < 4
          · have hki : 4 * k + a < stepsL.length := by have := HLT.out; simp [stepsL]; omega
            have hxe : stepsL[4 * k + a] = ((k : Int), (a : Int), ()) := by rw [← st_get stepsL _ hki, ← steps_at k a HLT.out halt]
            obtain ⟨p, hp⟩ : ∃ p, nextF s k a = p := ⟨_, rfl⟩
            have HF : Hid (g stepsL[4 * k + a] = if p.2 = 0 then (searchF t n p.1).map (((k : Int), (a : Int), ()) :: ·) else none) := Lib.hid (by rw [hG.out, hxe]; simp only [hp])
            have HN : Hid (∀ w, Calls Try.prog 20 #[.int .i64 s, .int .i64 k, .int .i64 a] w fun e w' => e = .returned (.tuple #[.int .i64 p.1, .int .i64 p.2]) ∧ w' = w) := Lib.hid (fun w => by rw [← hp]; exact refnext_sum w s k a)
            clear hp
            have HX := Lib.hid hxe; clear hxe
            obtain ⟨o, ho⟩ : ∃ o, searchF t n p.1 = o := ⟨_, rfl⟩
            have HO := Lib.hid ho; clear ho
            by_cases h0 : p.2 = 0
            case neg =>
              have hq : (p.2 != 0) = true := by simpa using h0
              have HT : Hid (firstF g (stepsL.take (4 * k + a + 1)) = none) := Lib.hid (by rw [firstF_take g _ _ hki HR2.out, HF.out, if_neg h0])
              go_wp2_with (go_at_call 20; refine (HN.out _).mono ?_; rintro e w1 ⟨rfl, hw⟩; subst w1)
              all_goals
                go_roundw
                case rel => first | exact ⟨a + 1, by omega, by go_num, by rw [← Nat.add_assoc]; exact HT.out, hB2⟩ | ((repeat apply Exists.intro); exact ⟨⟨a + 1, by omega, by go_num, by rw [← Nat.add_assoc]; exact HT.out, hB2⟩, rfl⟩)
                case measure => simp [intOf]; omega
            cases o with
            | none =>
              have HT : Hid (firstF g (stepsL.take (4 * k + a + 1)) = none) := Lib.hid (by rw [firstF_take g _ _ hki HR2.out, HF.out, if_pos h0, HO.out]; rfl)
              go_wp2_with (first | (go_at_call 20; refine (HN.out _).mono ?_; rintro e w1 ⟨rfl, hw⟩; subst w1) | (go_at_call 28; refine (IH.out _ _).mono ?_; rw [HO.out]; rintro e w2 ⟨v, rfl, hB3, hO3, -⟩))
              all_goals
                go_roundw
                case rel => first | exact ⟨a + 1, by omega, by go_num, by rw [← Nat.add_assoc]; exact HT.out, below_step hB2 hB3⟩ | ((repeat apply Exists.intro); exact ⟨⟨a + 1, by omega, by go_num, by rw [← Nat.add_assoc]; exact HT.out, below_step hB2 hB3⟩, rfl⟩)
                case measure => simp [intOf]; omega
            | some l =>
              have HT : Hid (searchF t (n + 1) s = some (((k : Int), (a : Int), ()) :: l)) := Lib.hid (by
                rw [hE.out]
                exact firstF_hit g stepsL _ hki HR2.out _ (by rw [HF.out, if_pos h0, HO.out]; rfl))
              go_wp2_with (first | (go_at_call 20; refine (HN.out _).mono ?_; rintro e w1 ⟨rfl, hw⟩; subst w1) | (go_at_call 28; refine (IH.out _ _).mono ?_; rw [HO.out]; rintro e w2 ⟨v, rfl, hB3, hO3, hl3⟩; obtain ⟨news, hsrc, hrl⟩ := src_own (hO3.alloc (.cells #[.int .i64 k, .int .i64 a] 32)); have HSR := Lib.hid hsrc; clear hsrc; have HRL := Lib.hid hrl; clear hrl; obtain ⟨av, lv, cv, rfl, -⟩ := hO3.slice; have HO3 := Lib.hid hO3; clear hO3) | (at_builtin; go_must (refine wpList_app _ rfl _ _ 22 rfl (e := stT) info_rst Try.underlying22 rfl (by decide) (base := w2.heap.size) (v := .slice (some ⟨w2.heap.size, 0, none⟩) 1 1) (xs := [(k, a, ())]) rfl (Owns.lit w2 (RdL.st1 (wf_i64 (by omega) (by have := HLT.out; omega)) (wf_i64 (by omega) (by omega))) (Nat.le_refl _) (fun _ h => h.elim) (by simp)) (by simp) (sv := .slice av lv cv) rfl (ys := l) HSR.out HRL.out (by simp only [List.length_cons, List.length_nil]; simp at hl3; omega) (by simp only [List.length_cons, List.length_nil]; simp at hl3; omega) ?_; intro v' w4 O4 g4 _ _; have hB4 := ((Below.refl w2.heap.size w2).alloc (Nat.le_refl _) (.cells #[.int .i64 k, .int .i64 a] 32)).grown g4 (by simp) (fun k e => by cases e; exact Nat.le_refl _))))
              go_ret2
              refine ⟨v', ?_, below_step hB2 (below_step hB3 hB4), ?_, ?_⟩
              · rw [HT.out]; rfl
              · rw [HT.out]; exact O4.base (Nat.le_trans hB2.size hB3.size)
              · rw [HT.out]; simp; exact hl3
          · obtain rfl : a = 4 := by omega
            go_wp2
            go_roundw
            case rel => exact ⟨k + 1, by have := HLT.out; omega, by go_num, by rw [Nat.mul_add]; exact HR2.out, hB2⟩
            case measure => have := HLT.out; simp [intOf]; omega
      · obtain rfl : k = 2 := by omega
        have hnone : searchF t (n + 1) s = none := by rw [hE.out]; exact HR.out
        have HNO := Lib.hid hnone; clear hnone
        go_wp2
        go_ret2
        refine ⟨.slice none 0 0, ?_, hB, ?_, ?_⟩ <;> rw [HNO.out]
        · rfl
        · exact Owns.nil _ _ _ _
        · simp


theorem refpath_sum (w : World) (s t : Int) : Calls Try.prog 15 #[.int .i64 s, .int .i64 t] w fun e w' =>
    (1 ≤ s ∧ s ≤ 5 ∧ 1 ≤ t ∧ t ≤ 5 → ∃ v, e = .returned (.tuple #[v, .int .i64 0]) ∧ Owns stT 32 w.heap.size (fun _ => False) w' v (pathL s t)) ∧ (¬(1 ≤ s ∧ s ≤ 5 ∧ 1 ≤ t ∧ t ≤ 5) → e = .returned (.tuple #[.slice none 0 0, .int .i64 1])) ∧ Below w.heap.size w w' := by
  obtain ⟨x, hx⟩ : ∃ x, (decide (1 ≤ s) && decide (s ≤ 5)) = x := ⟨_, rfl⟩
  obtain ⟨y, hy⟩ : ∃ y, (decide (1 ≤ t) && decide (t ≤ 5)) = y := ⟨_, rfl⟩
  by_cases hin : 1 ≤ s ∧ s ≤ 5 ∧ 1 ≤ t ∧ t ≤ 5
  case neg =>
    have hxy : Hid (x = false ∨ y = false) := Lib.hid (by
      cases x
      · exact .inl rfl
      · cases y
        · exact .inr rfl
        · exfalso
          simp at hx hy
          exact hin ⟨hx.1, hx.2, hy.1, hy.2⟩)
    have HIN := Lib.hid hin; clear hin
    have HX := Lib.hid hx; clear hx
    have HY := Lib.hid hy; clear hy
    refine (show Calls Try.prog 15 #[.int .i64 s, .int .i64 t] w (fun e w' => e = .returned (.tuple #[.slice none 0 0, .int .i64 1]) ∧ w' = w) from ?_).mono ?_
    case refine_2 => rintro e w' ⟨rfl, rfl⟩; exact ⟨fun h => absurd h HIN.out, fun _ => rfl, Below.refl _ _⟩
    cases x with
    | false =>
      go_enter Try.func15, Try.ntmps15
      go_wp2_with (first | (go_at_call 25; refine (refstate_sum _ _).mono ?_; (first | rw [HX.out] | rw [HY.out]); rintro e w1 ⟨rfl, hw⟩; subst w1))
      go_ret2
      exact ⟨rfl, rfl⟩
    | true =>
      have hyf : y = false := by rcases hxy.out with h | h; cases h; exact h
      subst hyf
      go_enter Try.func15, Try.ntmps15
      go_wp2_with (first | (go_at_call 25; refine (refstate_sum _ _).mono ?_; (first | rw [HX.out] | rw [HY.out]); rintro e w1 ⟨rfl, hw⟩; subst w1))
      go_ret2
      exact ⟨rfl, rfl⟩
  obtain ⟨h1, h2, h3, h4⟩ := hin
  have hx' : x = true := by rw [← hx]; simp [h1, h2]
  have hy' : y = true := by rw [← hy]; simp [h3, h4]
  subst hx' hy'
  have HIN := Lib.hid (show 1 ≤ s ∧ s ≤ 5 ∧ 1 ≤ t ∧ t ≤ 5 from ⟨h1, h2, h3, h4⟩)
  have HX := Lib.hid hx; clear hx
  have HY := Lib.hid hy; clear hy
  have HP := Lib.hid (pathR_some s t h1 h2 h3 h4).1
  clear h1 h2 h3 h4
  refine (show Calls Try.prog 15 #[.int .i64 s, .int .i64 t] w (fun e w' => ∃ v, e = .returned (.tuple #[v, .int .i64 0]) ∧ Owns stT 32 w.heap.size (fun _ => False) w' v (pathL s t) ∧ Below w.heap.size w w') from ?_).mono ?_
  case refine_2 => rintro e w' ⟨v, rfl, hO, hB⟩; exact ⟨fun h => ⟨v, rfl, hO⟩, fun h => absurd HIN.out h, hB⟩
  obtain ⟨L, hL⟩ : ∃ L, pathL s t = L := ⟨_, rfl⟩
  rw [hL]
  rw [hL] at HP
  clear hL
  go_enter Try.func15, Try.ntmps15
  go_wp2_with (first | (go_at_call 25; refine (refstate_sum _ _).mono ?_; (first | rw [HX.out] | rw [HY.out]); rintro e w1 ⟨rfl, hw⟩; subst w1))
  go_loopw [6] (fun i wr => ∃ k : Nat, k ≤ 4 ∧ i = .int .i64 k ∧ (∀ j, j < k → searchF t j s = none) ∧ Below w.heap.size w wr) (fun i _ => 4 - (intOf i).toNat)
  case atStart => exact ⟨0, by omega, rfl, fun j h => by omega, Below.refl _ _⟩
  case round =>
    obtain ⟨k, hk, rfl, hr, hB⟩ := hrel
    have HR := Lib.hid hr; clear hr
    by_cases hlt : k < 4
    · obtain ⟨o, ho⟩ : ∃ o, searchF t k s = o := ⟨_, rfl⟩
      have HO := Lib.hid ho; clear ho
      cases o with
      | none =>
        go_wp2_with (go_at_call 28; refine (search_sum t k (by omega) _ s).mono ?_; rw [HO.out]; rintro e w2 ⟨v, rfl, hB3, hO3, -⟩)
        go_roundw
        case rel => exact ⟨k + 1, by omega, by go_num, fun j hj => by
          rcases Nat.lt_succ_iff_lt_or_eq.1 hj with h | rfl
          · exact HR.out j h
          · exact HO.out, below_step hB hB3⟩
        case measure => simp [intOf]; omega
      | some l =>
        have HE : Hid (some l = some L) := Lib.hid (by rw [← HP.out]; exact (pathR_at s t k hlt l HR.out HO.out).symm)
        go_wp2_with (go_at_call 28; refine (search_sum t k (by omega) _ s).mono ?_; rw [HO.out]; rintro e w2 ⟨v, rfl, hB3, hO3, -⟩)
        go_ret2
        have he := HE.out
        cases he
        exact ⟨_, rfl, hO3.base hB.size, below_step hB hB3⟩
    · obtain rfl : k = 4 := by omega
      exfalso
      have h0 := HR.out 0 (by omega)
      have h1 := HR.out 1 (by omega)
      have h2 := HR.out 2 (by omega)
      have h3 := HR.out 3 (by omega)
      have := HP.out
      unfold pathR at this
      rw [h0, h1, h2, h3] at this
      cases this
end Go.Proofs.Ytmlcdoilbonelaa
