/- Layer 28, plain: the proposals fit. -/
import Derived.Test.YtpobckedeffjmaaM28r
set_option linter.unusedSimpArgs false
namespace Go.Proofs.Ytpobckedeffjmaa
open Go.RowKit Go

/-- The amount of the line with a reference. -/
def amtOf : List O3 → R2 → Int
  | [], _ => 0
  | o :: l, x => if o.r = x then o.n else amtOf l x
theorem amtOf_mem : ∀ {l : List O3} {o : O3}, (l.map (·.r)).Nodup → o ∈ l → amtOf l o.r = o.n
  | [], _, _, h => by cases h
  | a :: l, o, hn, h => by
    unfold amtOf
    rw [List.map_cons, List.nodup_cons] at hn
    rcases List.mem_cons.1 h with rfl | h
    · rw [if_pos rfl]
    · rw [if_neg (fun e => hn.1 (by rw [e]; exact List.mem_map.2 ⟨o, h, rfl⟩))]
      exact amtOf_mem hn.2 h
theorem lat_mem {l : List O3} {i : Nat} (hi : i < l.length) : lat l i ∈ l := by rw [← lat_get hi]; exact List.getElem_mem hi
theorem lat_inj {l : List O3} (hn : (l.map (·.r)).Nodup) {i j : Nat} (hi : i < l.length) (hj : j < l.length) (h : (lat l i).r = (lat l j).r) : i = j := by
  rw [← lat_get hi, ← lat_get hj] at h
  have hp := List.pairwise_iff_getElem.1 hn
  rcases Nat.lt_trichotomy i j with hl | hl | hl
  · exact absurd (by rw [List.getElem_map, List.getElem_map]; exact h) (hp i j (by simpa using hi) (by simpa using hj) hl)
  · exact hl
  · exact absurd (by rw [List.getElem_map, List.getElem_map]; exact h.symm) (hp j i (by simpa using hj) (by simpa using hi) hl)
/-- The references differ. -/
def ND (l r : List O3) : Prop := (l.map (·.r)).Nodup ∧ (r.map (·.r)).Nodup ∧ ∀ x ∈ l, ∀ y ∈ r, x.r ≠ y.r
theorem ND.swap {l r : List O3} (h : ND l r) : ND r l := ⟨h.2.1, h.1, fun x hx y hy e => h.2.2 y hy x hx e.symm⟩
theorem nd_of {l r : List O3} (h : linesB l r = true) : ND l r := by
  unfold linesB at h
  simp only [Bool.and_eq_true, decide_eq_true_eq, List.map_append] at h
  obtain ⟨-, h, -⟩ := h
  rw [List.nodup_append] at h
  exact ⟨h.1, h.2.1, fun x hx y hy => h.2.2 _ (List.mem_map.2 ⟨x, hx, rfl⟩) _ (List.mem_map.2 ⟨y, hy, rfl⟩)⟩
theorem ref_fresh {l r : List O3} {st : FS} {i : Nat} (hn : ND l r) (h : UInv l r st) (hi : i < l.length) (hu : uat st.ul i = false) : (lat l i).r ∉ refsP st.out := by
  intro hm
  rcases (h.used _).1 hm with ⟨j, hj, h1, h2⟩ | ⟨j, hj, h1, h2⟩
  · have := lat_inj hn.1 hj hi h2
    subst this; rw [hu] at h1; cases h1
  · exact hn.2.2 _ (lat_mem hi) _ (lat_mem hj) h2.symm
/-- A proposal fits. -/
def FitP (l r : List O3) (tol : Int) (p : P2) : Prop :=
  p.1 ≠ [] ∧ p.2 ≠ [] ∧ (p.1.length = 1 ∨ p.2.length = 1) ∧ (∃ s : Bool, (∀ x ∈ p.1, amtOf l x ≠ 0 ∧ decide (amtOf l x < 0) = s) ∧ ∀ x ∈ p.2, amtOf r x ≠ 0 ∧ decide (amtOf r x < 0) = !s) ∧
    szI ((p.1.map (amtOf l)).sum + (p.2.map (amtOf r)).sum) ≤ tol
theorem FitP.swap {l r : List O3} {tol : Int} {a b : List R2} (h : FitP l r tol (a, b)) : FitP r l tol (b, a) := by
  obtain ⟨h1, h2, h3, ⟨s, h4, h5⟩, h6⟩ := h
  exact ⟨h2, h1, h3.symm, ⟨!s, h5, fun x hx => by rw [Bool.not_not]; exact h4 x hx⟩, by rw [Int.add_comm]; exact h6⟩
structure FI (l r : List O3) (tol : Int) (st : FS) : Prop where
  u : UInv l r st
  nd : (refsP st.out).Nodup
  ft : ∀ p ∈ st.out, FitP l r tol p
theorem bestM_fit {x : Int} {r : List O3} {ur : List Bool} {tol : Int} : ∀ {n k : Nat}, bestM x r ur tol n = some k → fitB x r ur tol k = true
  | 0, _, h => by cases h
  | n + 1, k, h => by
    unfold bestM at h
    split at h
    · rename_i hf
      split at h
      · cases h; exact hf
      · rename_i i hi
        split at h
        · cases h; exact hf
        · cases h; exact bestM_fit hi
    · exact bestM_fit h
theorem nodup_app {α : Type} {a b : List α} (h1 : a.Nodup) (h2 : b.Nodup) (h : ∀ x ∈ b, x ∉ a) : (a ++ b).Nodup :=
  List.nodup_append.2 ⟨h1, h2, fun x hx y hy e => h y hy (e ▸ hx)⟩
/-- A line and lines of the other side that fit: what they leave. -/
theorem fit_of {l r : List O3} {tol : Int} {st : FS} {i : Nat} {ks : List Nat} (hn : ND l r) (hz : ∀ x ∈ r, x.n ≠ 0) (hzl : ∀ x ∈ l, x.n ≠ 0) (hu : UInv l r st) (hi : i < l.length) (hui : uat st.ul i = false) (hk : ks ≠ [])
    (hks : ∀ k ∈ ks, k < r.length ∧ uat st.ur k = false ∧ oppB (lat l i).n (lat r k).n = true) (hnd : ks.Nodup) (hs : szI ((lat l i).n + (ks.map fun k => (lat r k).n).sum) ≤ tol) :
    FitP l r tol ([(lat l i).r], refsM r ks) ∧ ([(lat l i).r] ++ refsM r ks).Nodup ∧ ∀ x ∈ [(lat l i).r] ++ refsM r ks, x ∉ refsP st.out := by
  have ha : amtOf l (lat l i).r = (lat l i).n := amtOf_mem hn.1 (lat_mem hi)
  have hb : ∀ k ∈ ks, amtOf r (lat r k).r = (lat r k).n := fun k hk => amtOf_mem hn.2.1 (lat_mem (hks k hk).1)
  have hm : (refsM r ks).map (amtOf r) = ks.map fun k => (lat r k).n := by
    unfold refsM; rw [List.map_map]; exact List.map_congr_left hb
  refine ⟨⟨by simp, by unfold refsM; simpa using hk, .inl rfl, ⟨decide ((lat l i).n < 0), ?_, ?_⟩, ?_⟩, ?_, ?_⟩
  · intro x hx
    rw [List.mem_singleton.1 hx, ha]
    exact ⟨hzl _ (lat_mem hi), rfl⟩
  · intro x hx
    obtain ⟨k, hk, rfl⟩ := List.mem_map.1 hx
    rw [hb k hk]
    obtain ⟨h1, -, h3⟩ := hks k hk
    refine ⟨hz _ (lat_mem h1), ?_⟩
    unfold oppB at h3
    cases e1 : decide ((lat l i).n < 0) <;> cases e2 : decide ((lat r k).n < 0) <;> simp_all
  · simp only [List.map_cons, List.map_nil, List.sum_cons, List.sum_nil, Int.add_zero, ha, hm]
    exact hs
  · refine nodup_app (by simp) ?_ ?_
    · unfold refsM
      refine List.pairwise_map.2 (hnd.imp_of_mem fun {a b} h1 h2 h e => h (lat_inj hn.2.1 (hks a h1).1 (hks b h2).1 e))
    · intro x hx h
      obtain ⟨k, hk, rfl⟩ := List.mem_map.1 hx
      exact hn.2.2 _ (lat_mem hi) _ (lat_mem (hks k hk).1) (List.mem_singleton.1 h).symm
  · intro x hx
    rcases List.mem_append.1 hx with hx | hx
    · rw [List.mem_singleton.1 hx]; exact ref_fresh hn hu hi hui
    · obtain ⟨k, hk, rfl⟩ := List.mem_map.1 hx
      exact ref_fresh (st := swapS st) hn.swap hu.swap (hks k hk).1 (hks k hk).2.1
theorem oneStep_FI {l r : List O3} {tol : Int} {st : FS} {i : Nat} (hn : ND l r) (hz : ∀ x ∈ r, x.n ≠ 0) (hzl : ∀ x ∈ l, x.n ≠ 0) (h : FI l r tol st) (hi : i < l.length) (hui : uat st.ul i = false) : FI l r tol (oneStep l r tol st i) := by
  refine ⟨oneStep_inv hi h.u, ?_, ?_⟩ <;> unfold oneStep <;> split
  · exact h.nd
  · rename_i k hk
    have hf := bestM_fit hk
    unfold fitB at hf
    simp only [Bool.and_eq_true, Bool.not_eq_true', decide_eq_false_iff_not] at hf
    have hq := fit_of (ks := [k]) (tol := tol) hn hz hzl h.u hi hui (by simp) (fun q hq => by rw [List.mem_singleton.1 hq]; exact ⟨bestM_lt hk, hf.1.1, hf.1.2⟩) (by simp) (by simpa using Int.not_lt.1 hf.2)
    show (refsP (st.out ++ [_])).Nodup
    rw [refsP_snoc]
    exact nodup_app h.nd hq.2.1 hq.2.2
  · exact h.ft
  · rename_i k hk
    have hf := bestM_fit hk
    unfold fitB at hf
    simp only [Bool.and_eq_true, Bool.not_eq_true', decide_eq_false_iff_not] at hf
    have hq := fit_of (ks := [k]) (tol := tol) hn hz hzl h.u hi hui (by simp) (fun q hq => by rw [List.mem_singleton.1 hq]; exact ⟨bestM_lt hk, hf.1.1, hf.1.2⟩) (by simp) (by simpa using Int.not_lt.1 hf.2)
    intro p hp
    rcases List.mem_append.1 hp with hp | hp
    · exact h.ft p hp
    · rw [List.mem_singleton.1 hp]; exact hq.1
theorem oneStep_ul {l r : List O3} {tol : Int} {st : FS} {i j : Nat} (hj : j ≠ i) (hl : i < st.ul.length) : uat (oneStep l r tol st i).ul j = uat st.ul j := by
  unfold oneStep
  split
  · rfl
  · show uat (st.ul.set i true) j = _
    rw [uat_set hl, decide_eq_false hj, Bool.or_false]
theorem oneAt_FI {l r : List O3} {tol : Int} {st : FS} (hn : ND l r) (hz : ∀ x ∈ r, x.n ≠ 0) (hzl : ∀ x ∈ l, x.n ≠ 0) (h : FI l r tol st) (hu : ∀ j, j < l.length → uat st.ul j = false) : ∀ i, i ≤ l.length → FI l r tol (oneAt l r tol st i) ∧ ∀ j, i ≤ j → j < l.length → uat (oneAt l r tol st i).ul j = false
  | 0, _ => ⟨h, fun j _ hj => hu j hj⟩
  | i + 1, hi => by
    have ih := oneAt_FI hn hz hzl h hu i (by omega)
    rw [oneAt_succ]
    refine ⟨oneStep_FI hn hz hzl ih.1 (by omega) (ih.2 i (Nat.le_refl _) (by omega)), fun j h1 h2 => ?_⟩
    rw [oneStep_ul (by omega) (by rw [ih.1.u.ll]; omega)]
    exact ih.2 j (by omega) h2
/-! ### Several -/
theorem bitA_sub (cs : List Nat) (m : Nat) : ∀ b, b ≤ cs.length → (bitA cs m b).Sublist (cs.take b)
  | 0, _ => by simp [bitA]
  | b + 1, hb => by
    have ih := bitA_sub cs m b (by omega)
    rw [List.take_succ_eq_append_getElem (by omega)]
    cases h : m.testBit b with
    | true =>
      rw [bitA_yes h]
      refine ih.append ?_
      rw [show cs[b]?.getD 0 = cs[b] from by simp [show b < cs.length from by omega]]
      exact List.Sublist.refl _
    | false => rw [bitA_no h]; exact ih.trans (List.sublist_append_left _ _)
theorem bitsL_sub (cs : List Nat) (m : Nat) : (bitsL cs m).Sublist cs := by
  have := bitA_sub cs m cs.length (Nat.le_refl _)
  rw [List.take_length] at this
  exact this
theorem candA_nd (x : Int) (r : List O3) (ur : List Bool) (k : Nat) : (candA x r ur k).Nodup := by
  unfold candA
  exact (List.nodup_range.sublist List.filter_sublist).sublist (List.take_sublist _ _)
theorem candA_ok {x : Int} {r : List O3} {ur : List Bool} {n k : Nat} (h : k ∈ candA x r ur n) : k < n ∧ uat ur k = false ∧ oppB x (lat r k).n = true := by
  have := List.mem_of_mem_take h
  simpa using this
theorem popc_zero {m : Nat} (h : ∀ i, i < 12 → m.testBit i = false) : popc m = 0 := by
  unfold popc
  have : ∀ L : List Nat, (∀ i ∈ L, i < 12) → L.foldr (fun i s => (if m.testBit i then 1 else 0) + s) 0 = 0 := by
    intro L
    induction L with
    | nil => intro _; rfl
    | cons a L ih => intro hL; rw [List.foldr_cons, ih (fun i hi => hL i (by simp [hi])), h a (hL a (by simp))]; rfl
  exact this _ (fun i hi => List.mem_range.1 hi)
theorem mem_subsL {k m : Nat} (h : m ∈ subsL k) : ∃ n, 2 ≤ n ∧ n ≤ k ∧ m ∈ masksK k n := by
  unfold subsL subsN at h
  obtain ⟨n, hn, hm⟩ := List.mem_flatMap.1 h
  rw [List.mem_range'_1] at hn
  exact ⟨n, hn.1, by omega, hm⟩
theorem bitsL_ne {cs : List Nat} {m : Nat} (hc : cs.length ≤ 12) (h : m ∈ subsL cs.length) : bitsL cs m ≠ [] := by
  obtain ⟨n, h2, hn, hm⟩ := mem_subsL h
  obtain ⟨h3, h4⟩ := masks_lt hc (by omega) hm
  have : ∃ i, i < 12 ∧ m.testBit i = true := by
    apply Classical.byContradiction
    intro hq
    have := popc_zero (m := m) (fun i hi => by
      cases e : m.testBit i with
      | false => rfl
      | true => exact absurd ⟨i, hi, e⟩ hq)
    omega
  obtain ⟨i, -, hi⟩ := this
  have hik : i < cs.length := by
    apply Classical.byContradiction
    intro hq
    have := Nat.testBit_lt_two_pow (Nat.lt_of_lt_of_le h3 (Nat.pow_le_pow_right (by decide) (Nat.le_of_not_lt hq)))
    rw [hi] at this; cases this
  intro he
  unfold bitsL bitA at he
  rw [List.map_eq_nil_iff] at he
  have : i ∈ (List.range cs.length).filter fun j => m.testBit j := List.mem_filter.2 ⟨List.mem_range.2 hik, hi⟩
  rw [he] at this
  cases this
theorem sumM_eq (x : Int) (r : List O3) : ∀ ks : List Nat, sumM x r ks = x + (ks.map fun k => (lat r k).n).sum := by
  intro ks
  unfold sumM
  induction ks generalizing x with
  | nil => simp
  | cons k ks ih => rw [List.foldl_cons, ih, List.map_cons, List.sum_cons]; omega
/-- The pair as seen from the left. -/
def ofSw (sw : Bool) (l r : List O3) (tol : Int) (st : FS) : Prop := match sw with | false => FI l r tol st | true => FI r l tol (swapS st)
def FitS (sw : Bool) (l r : List O3) (tol : Int) (p : P2) : Prop := match sw with | false => FitP l r tol p | true => FitP r l tol p
theorem ofSw_iff {sw : Bool} {l r : List O3} {tol : Int} {st : FS} : ofSw sw l r tol st ↔ UInv l r st ∧ (refsP st.out).Nodup ∧ ∀ p ∈ st.out, FitS sw l r tol p := by
  cases sw
  · exact ⟨fun (h : FI l r tol st) => ⟨h.u, h.nd, h.ft⟩, fun h => (⟨h.1, h.2.1, h.2.2⟩ : FI l r tol st)⟩
  · exact ⟨fun (h : FI r l tol (swapS st)) => ⟨h.u.swap, h.nd, h.ft⟩, fun h => (⟨h.1.swap, h.2.1, h.2.2⟩ : FI r l tol (swapS st))⟩
theorem manyStep_FI {sw : Bool} {l r : List O3} {tol : Int} {st : FS} {i : Nat} (hn : ND l r) (hz : ∀ x ∈ r, x.n ≠ 0) (hzl : ∀ x ∈ l, x.n ≠ 0) (hi : i < l.length) (h : ofSw sw l r tol st) : ofSw sw l r tol (manyStep sw l r tol st i) := by
  obtain ⟨hU, hND, hFT⟩ := ofSw_iff.1 h
  refine ofSw_iff.2 ⟨manyStep_inv hi hU, ?_⟩
  unfold manyStep
  split
  · exact ⟨hND, hFT⟩
  · rename_i hui
    split
    · exact ⟨hND, hFT⟩
    · rename_i m hm
      unfold manyPick at hm
      have h1 := List.mem_of_find?_eq_some hm
      have h2 := List.find?_some hm
      unfold unfit at h2
      simp only [Bool.not_eq_true', decide_eq_false_iff_not] at h2
      have hsub := bitsL_sub (candA (lat l i).n r st.ur r.length) m
      have hne := bitsL_ne (candA_len _ _ _ _) h1
      generalize bitsL (candA (lat l i).n r st.ur r.length) m = ks at h2 hsub hne
      have hq := fit_of (ks := ks) (tol := tol) hn hz hzl hU hi (by simpa using hui) hne (fun k hk => candA_ok (hsub.subset hk)) ((candA_nd _ _ _ _).sublist hsub) (by rw [← sumM_eq]; omega)
      refine ⟨?_, ?_⟩
      · show (refsP (st.out ++ [_])).Nodup
        rw [refsP_snoc]
        cases sw
        · exact nodup_app hND hq.2.1 hq.2.2
        · refine nodup_app hND ((List.perm_append_comm.nodup_iff).1 hq.2.1) (fun x hx => hq.2.2 x ?_)
          unfold prP at hx
          simp only [if_true, List.mem_append] at hx ⊢
          exact hx.symm
      · intro p hp
        rcases List.mem_append.1 hp with hp | hp
        · exact hFT p hp
        · rw [List.mem_singleton.1 hp]
          cases sw
          · exact hq.1
          · exact hq.1.swap
theorem manyAt_FI {sw : Bool} {l r : List O3} {tol : Int} {st : FS} (hn : ND l r) (hz : ∀ x ∈ r, x.n ≠ 0) (hzl : ∀ x ∈ l, x.n ≠ 0) (h : ofSw sw l r tol st) : ∀ i, i ≤ l.length → ofSw sw l r tol (manyAt sw l r tol st i)
  | 0, _ => h
  | i + 1, hi => by rw [manyAt_succ]; exact manyStep_FI hn hz hzl (by omega) (manyAt_FI hn hz hzl h i (by omega))
theorem st0_unused (l r : List O3) (j : Nat) (hj : j < l.length) : uat (st0 l r).ul j = false := by simp [uat, st0, hj]
theorem st3_FI {l r : List O3} {tol : Int} (hl : linesB l r = true) : FI l r tol (st3 l r tol) := by
  have hn := nd_of hl
  have hz : ∀ x ∈ r, x.n ≠ 0 := fun x hx => (amt_bounds ((linesB_true hl).2.1 x hx)).1
  have hzl : ∀ x ∈ l, x.n ≠ 0 := fun x hx => (amt_bounds ((linesB_true hl).1 x hx)).1
  have h0 : FI l r tol (st0 l r) := ⟨st0_inv l r, by simp [st0, refsP], fun p hp => by simp [st0] at hp⟩
  have h1 : FI l r tol (st1 l r tol) := (oneAt_FI hn hz hzl h0 (st0_unused l r) _ (Nat.le_refl _)).1
  have h2 : FI l r tol (st2 l r tol) := manyAt_FI (sw := false) hn hz hzl h1 _ (Nat.le_refl _)
  have h3 := manyAt_FI (sw := true) (st := swapS (st2 l r tol)) hn.swap hzl hz h2 r.length (Nat.le_refl _)
  exact h3
end Go.Proofs.Ytpobckedeffjmaa

/- Layer 28: the reference's Amount. -/
set_option linter.unusedSimpArgs false
set_option maxRecDepth 50000
namespace Go.Proofs.Ytpobckedeffjmaa
open Go.RowKit Go

theorem amtOf_none {x : R2} : ∀ {l : List O3}, (∀ y ∈ l, y.r ≠ x) → amtOf l x = 0
  | [], _ => rfl
  | a :: l, h => by unfold amtOf; rw [if_neg (h a (by simp))]; exact amtOf_none fun y hy => h y (by simp [hy])
theorem amtOf_first {x : R2} : ∀ {l : List O3} {k : Nat} (hk : k < l.length), (∀ y ∈ l.take k, y.r ≠ x) → l[k].r = x → amtOf l x = l[k].n
  | [], _, hk, _, _ => by simp at hk
  | a :: l, 0, _, _, e => by
    have e : a.r = x := e
    unfold amtOf; rw [if_pos e]; rfl
  | a :: l, k + 1, hk, h, e => by
    unfold amtOf
    rw [List.take_succ_cons] at h
    rw [if_neg (h a (by simp))]
    exact amtOf_first (l := l) (k := k) (by simpa using hk) (fun y hy => h y (by simp [hy])) e
set_option maxHeartbeats 2000000 in
theorem amount28 {S : Nat → Prop} (w : World) (a : Option Addr) (c : Nat) (l : List O3) (x : R2) (h : Rd (.sl openT) S w [.slice a l.length c] (l.map O3.d)) (hS : ∀ b, S b → b < w.heap.size) :
    Calls Try.prog 15 #[.slice a l.length c, x.v] w fun e w' => e = .returned (.int .i64 (amtOf l x)) ∧ Below w.heap.size w w' := by
  obtain ⟨xe, xl⟩ := x
  have H := Lib.hid h
  have HS := Lib.hid hS
  unfold R2.v
  simp only
  have hlm : l.length ≤ 9223372036854775807 := Nat.le_trans ((rd_len h) ▸ h.sl_flat.2.1) h.sl_flat.2.2.1
  obtain ⟨rb, hrb⟩ : ∃ q, amtOf l ⟨xe, xl⟩ = q := ⟨_, rfl⟩
  rw [hrb]
  have HRB := Lib.hid hrb
  clear h hS hrb
  go_enter Try.func15, Try.ntmps15
  have hqx := heap_alloc_new w (.cells #[.int .i64 xe, .int .i64 xl] 41)
  have HBX := Lib.hid ((Below.refl w.heap.size w).alloc (Nat.le_refl _) (.cells #[.int .i64 xe, .int .i64 xl] 41))
  have HQX := Lib.hid hqx
  clear hqx
  go_wp2_with fail
  generalize World.alloc w (.cells #[.int .i64 xe, .int .i64 xl] 41) = w0 at *
  obtain ⟨bx, hbx⟩ : ∃ b, w.heap.size = b := ⟨_, rfl⟩
  rw [hbx] at HQX
  simp only [hbx]
  go_loopw [5] (fun iv wr => ∃ (k : Nat), k ≤ l.length ∧ iv = .int .i64 (k : Int) ∧ (∀ y ∈ l.take k, y.r ≠ ⟨xe, xl⟩) ∧ Below w0.heap.size w0 wr) (fun iv _ => l.length - (intOf iv).toNat)
  case atStart => exact ⟨0, Nat.zero_le _, rfl, fun y hy => by simp at hy, Below.refl _ _⟩
  case round =>
    obtain ⟨k, hk, rfl, hne, hB⟩ := hrel
    have HB := Lib.hid hB
    have HNE := Lib.hid hne
    have HBW := Lib.hid (show Below w.heap.size w wr from below_step HBX.out hB)
    by_cases hkl : k < l.length
    · have hkI : (k : Int) < (l.length : Int) := by omega
      obtain ⟨b, off, rfl, -, m0, m1, m2, -⟩ := open_at (H.out.below HBW.out HS.out) k hkl
      have hqx := (hB.block _ (blk_lt HQX.out)).trans HQX.out
      have HTK := Lib.hid (List.take_succ_eq_append_getElem hkl)
      have HFI := Lib.hid (amtOf_first (x := ⟨xe, xl⟩) hkl hne)
      have HKL := Lib.hid hkl
      generalize l[k] = y at m0 m1 m2 HTK HFI
      obtain ⟨⟨ye, yl⟩, yn⟩ := y
      simp only at m0 m1 m2
      obtain ⟨eb, heb⟩ : ∃ q, decide ((⟨ye, yl⟩ : R2) = ⟨xe, xl⟩) = q := ⟨_, rfl⟩
      have hev := fun w => ref_eql w ⟨ye, yl⟩ ⟨xe, xl⟩
      unfold R2.v at hev
      rw [heb] at hev
      simp only at hev
      have HEB := Lib.hid heb
      have hC0 : Cells [(⟨b, off + k * 3, none⟩, .int .i64 ye), (⟨b, off + k * 3 + 1, none⟩, .int .i64 yl), (⟨b, off + k * 3 + 2, none⟩, .int .i64 yn), (⟨bx, 0, none⟩, .int .i64 xe), (⟨bx, 1, none⟩, .int .i64 xl)] wr := ⟨m0, m1, m2, blk_cell hqx 0, blk_cell hqx 1, trivial⟩
      clear hB hne hkl hk hqx m0 m1 m2 heb
      go_wp2_with fail
      refine wp_region_T (Cells [(⟨b, off + k * 3, none⟩, .int .i64 ye), (⟨b, off + k * 3 + 1, none⟩, .int .i64 yl), (⟨b, off + k * 3 + 2, none⟩, .int .i64 yn), (⟨bx, 0, none⟩, .int .i64 xe), (⟨bx, 1, none⟩, .int .i64 xl)]) (fun _ => false) (by kernel_rfl) ?_
      have hSss1 := Cells.drew hC0
      have hB_0_s1 : Below wr.heap.size wr wr.drew := below_drew _
      generalize wr.drew = s1 at hSss1 hB_0_s1 ⊢
      have hB_s1_s1 := Below.refl s1.heap.size s1
      refine wpAnyT_pure (i := 0) (v := ?_) rfl (by kernel_rfl) (by kernel_rfl) (by kernel_rfl) (fun _ _ _ h => h) (by rfl) ?_ ?_
      rotate_left
      · intro w; go_simp; try with_reducible rfl
      simp only [Act.put, rgA, rgB, rgC, rgD, rgE, rgF]
      refine wpAnyT_pure (i := 1) (v := ?_) rfl (by kernel_rfl) (by kernel_rfl) (by kernel_rfl) (fun _ _ _ h => h) (by rfl) ?_ ?_
      rotate_left
      · intro w; go_simp; try with_reducible rfl
      simp only [Act.put, rgA, rgB, rgC, rgD, rgE, rgF]
      refine wpAnyT_pure (i := 2) (v := ?_) rfl (by kernel_rfl) (by kernel_rfl) (by kernel_rfl) (fun _ _ _ h => h) (by rfl) ?_ ?_
      rotate_left
      · intro w; go_simp; try with_reducible rfl
      simp only [Act.put, rgA, rgB, rgC, rgD, rgE, rgF]
      refine wpAnyT_pure (i := 3) (v := ?_) rfl (by kernel_rfl) (by kernel_rfl) (by kernel_rfl) (fun _ _ _ h => h) (by rfl) ?_ ?_
      rotate_left
      · intro w; go_simp; try with_reducible rfl
      simp only [Act.put, rgA, rgB, rgC, rgD, rgE, rgF]
      refine wpAnyT_loadW (i := 4) (v := ?_) rfl (by kernel_rfl) (by kernel_rfl) (by kernel_rfl) (by kernel_rfl) (by kernel_rfl) (fun _ _ _ h => h) (Or.inl ⟨by rfl, ?_⟩) hSss1 ?_
      rotate_left
      · intro w hSw; obtain ⟨e0, e1, e2, e3, e4, -⟩ := hSw; go_simp; try with_reducible rfl
      simp only [Act.put, rgA, rgB, rgC, rgD, rgE, rgF]
      refine wpAnyT_loadW (i := 5) (v := ?_) rfl (by kernel_rfl) (by kernel_rfl) (by kernel_rfl) (by kernel_rfl) (by kernel_rfl) (fun _ _ _ h => h) (Or.inl ⟨by rfl, ?_⟩) hSss1 ?_
      rotate_left
      · intro w hSw; obtain ⟨e0, e1, e2, e3, e4, -⟩ := hSw; go_simp; try with_reducible rfl
      simp only [Act.put, rgA, rgB, rgC, rgD, rgE, rgF]
      refine wpAnyT_pure (i := 6) (v := ?_) rfl (by kernel_rfl) (by kernel_rfl) (by kernel_rfl) (fun _ _ _ h => h) (by rfl) ?_ ?_
      rotate_left
      · intro w; go_simp; try with_reducible rfl
      simp only [Act.put, rgA, rgB, rgC, rgD, rgE, rgF]
      refine wpAnyT_done (by kernel_rfl) ?_ _
      obtain ⟨wE, rfl⟩ : ∃ q, q = s1 := ⟨_, rfl⟩
      obtain ⟨-, -, n2, -⟩ := hSss1
      have HBE := Lib.hid (below_step (w0 := wr) (Below.refl _ wr) hB_0_s1)
      cases eb with
      | true =>
        have HT := Lib.hid (show rb = yn from by rw [← HRB.out]; exact HFI.out (of_decide_eq_true HEB.out))
        go_wp2_with fail
        go_ret
        exact ⟨by rw [HT.out]; rfl, below_step HBW.out HBE.out⟩
      | false =>
        go_wp2_with fail
        go_roundw
        case rel =>
          refine ⟨k + 1, HKL.out, by go_num, ?_, below_step HB.out HBE.out⟩
          intro z hz
          rw [HTK.out] at hz
          rcases List.mem_append.1 hz with hz | hz
          · exact HNE.out z hz
          · rw [List.mem_singleton.1 hz]; exact of_decide_eq_false HEB.out
        case measure => have := HKL.out; simp [intOf]; try omega
    · obtain rfl : k = l.length := by omega
      have hkI : ¬ ((l.length : Nat) : Int) < (l.length : Int) := by omega
      have HT := Lib.hid (show rb = 0 from by
        rw [← HRB.out]
        exact amtOf_none fun y hy => hne y (by rw [List.take_length]; exact hy))
      clear hB hne hkl hk
      go_wp2_with fail
      go_ret
      exact ⟨by rw [HT.out]; rfl, by have h := HBW.out; rw [hbx] at h; exact h⟩
end Go.Proofs.Ytpobckedeffjmaa
