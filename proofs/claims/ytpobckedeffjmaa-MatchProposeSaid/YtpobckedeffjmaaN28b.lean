/- Layer 28, plain: the reference's Propose is the program's. -/
import Derived.Test.YtpobckedeffjmaaM28t
set_option linter.unusedSimpArgs false
namespace Go.Proofs.Ytpobckedeffjmaa
open Go.RowKit Go

def withoutL (ls : List O3) (u : List R2) : List O3 := ls.filter fun o => !decide (o.r ∈ u)
def againstL (x : Int) (ls : List O3) : List O3 := ls.filter fun o => oppB o.n x
def bestS (x tol : Int) (acc : Option O3) (y : O3) : Option O3 :=
  if szI (x + y.n) ≤ tol then (match acc with | none => some y | some b => if szI (x + y.n) < szI (x + b.n) then some y else some b) else acc
def bestL (x tol : Int) (ls : List O3) : Option O3 := ls.foldl (bestS x tol) none
theorem bestL_snoc (x tol : Int) (ls : List O3) (y : O3) : bestL x tol (ls ++ [y]) = bestS x tol (bestL x tol ls) y := by unfold bestL; rw [List.foldl_append]; rfl
def fitC (x tol : Int) (ls : List O3) (ps : List Nat) : Bool := decide (szI (sumM x ls ps) ≤ tol)
def chooseN (x tol : Int) (ls : List O3) (n : Nat) : Option (List Nat) := (combL (List.range ls.length) n).find? (fitC x tol ls)
def manyN (x tol : Int) (ls : List O3) : Option (List Nat) := (List.range' 2 (ls.length - 1)).findSome? (chooseN x tol ls)
abbrev RS := List P2 × List R2
def rOne (r : List O3) (tol : Int) (s : RS) (x : O3) : RS :=
  match bestL x.n tol (againstL x.n (withoutL r s.2)) with
  | none => s
  | some y => (s.1 ++ [([x.r], [y.r])], s.2 ++ [x.r, y.r])
def mset (x tol : Int) (ls : List O3) : List R2 := match manyN x tol (ls.take 12) with | none => [] | some ps => refsM (ls.take 12) ps
def rMany (sw : Bool) (r : List O3) (tol : Int) (s : RS) (x : O3) : RS :=
  if mset x.n tol (againstL x.n (withoutL r s.2)) = [] then s else
    (s.1 ++ [prP sw x.r (mset x.n tol (againstL x.n (withoutL r s.2)))], s.2 ++ (x.r :: mset x.n tol (againstL x.n (withoutL r s.2))))
def rs1 (l r : List O3) (tol : Int) : RS := l.foldl (rOne r tol) ([], [])
def rs2 (l r : List O3) (tol : Int) : RS := (withoutL l (rs1 l r tol).2).foldl (rMany false r tol) (rs1 l r tol)
def rs3 (l r : List O3) (tol : Int) : RS := (withoutL r (rs2 l r tol).2).foldl (rMany true l tol) (rs2 l r tol)
/-! ### Places and lines -/
theorem oppB_comm (a b : Int) : oppB a b = oppB b a := by unfold oppB; cases decide (a < 0) <;> cases decide (b < 0) <;> rfl
theorem range_lat (l : List O3) : (List.range l.length).map (lat l) = l := by
  refine List.ext_getElem (by simp) fun i h1 h2 => ?_
  simp at h1
  simp [lat_get h1]
theorem used_r {l r : List O3} {st : FS} {k : Nat} (hn : ND l r) (h : UInv l r st) (hk : k < r.length) : (lat r k).r ∈ refsP st.out ↔ uat st.ur k = true := by
  rw [h.used]
  constructor
  · rintro (⟨j, hj, h1, h2⟩ | ⟨j, hj, h1, h2⟩)
    · exact absurd h2 (hn.2.2 _ (lat_mem hj) _ (lat_mem hk))
    · have := lat_inj hn.2.1 hj hk h2
      subst this; exact h1
  · exact fun e => .inr ⟨k, hk, e, rfl⟩
theorem used_l {l r : List O3} {st : FS} {k : Nat} (hn : ND l r) (h : UInv l r st) (hk : k < l.length) : (lat l k).r ∈ refsP st.out ↔ uat st.ul k = true :=
  used_r (st := swapS st) hn.swap h.swap hk
def opl (x : Int) (r : List O3) (u : List Bool) (n : Nat) : List Nat := (List.range n).filter fun k => !uat u k && oppB x (lat r k).n
theorem opl_eq {l r : List O3} {st : FS} {U : List R2} (x : Int) (hn : ND l r) (h : UInv l r st) (hU : ∀ y, y ∈ U ↔ y ∈ refsP st.out) : againstL x (withoutL r U) = (opl x r st.ur r.length).map (lat r) := by
  unfold againstL withoutL opl
  rw [List.filter_filter]
  conv => lhs; rw [← range_lat r]
  rw [List.filter_map]
  congr 1
  refine List.filter_congr fun k hk => ?_
  have hk := List.mem_range.1 hk
  show (oppB (lat r k).n x && !decide ((lat r k).r ∈ U)) = _
  rw [oppB_comm, Bool.and_comm]
  congr 2
  have := (hU (lat r k).r).trans (used_r hn h hk)
  cases e : uat st.ur k with
  | true => exact decide_eq_true (this.2 e)
  | false => exact decide_eq_false (fun h => by rw [this.1 h] at e; cases e)
theorem best_eq (x : Int) (r : List O3) (ur : List Bool) (tol : Int) : ∀ n, bestL x tol ((opl x r ur n).map (lat r)) = (bestM x r ur tol n).map (lat r)
  | 0 => rfl
  | n + 1 => by
    have ih := best_eq x r ur tol n
    unfold opl at ih ⊢
    rw [List.range_succ, List.filter_append, List.map_append]
    unfold bestM fitB
    cases hq : (!uat ur n && oppB x (lat r n).n) with
    | false =>
      rw [List.filter_cons_of_neg (by rw [hq]; decide), List.filter_nil, List.map_nil, List.append_nil, ih]
      simp
    | true =>
      rw [List.filter_cons_of_pos (by rw [hq]), List.filter_nil, List.map_cons, List.map_nil, bestL_snoc, ih]
      unfold bestS
      by_cases hd : tol < szI (x + (lat r n).n)
      · rw [if_neg (by omega)]; simp [hd]
      · rw [if_pos (by omega)]
        simp only [hd, decide_false, Bool.not_false, Bool.and_self, if_true]
        cases bestM x r ur tol n with
        | none => rfl
        | some j =>
          show (if _ then some (lat r n) else some (lat r j)) = _
          simp only
          split <;> rfl
structure Rel (s : RS) (st : FS) : Prop where
  o : s.1 = st.out
  u : ∀ x, x ∈ s.2 ↔ x ∈ refsP st.out
theorem one_rel {l r : List O3} {tol : Int} {s : RS} {st : FS} {i : Nat} (hn : ND l r) (h : UInv l r st) (hr : Rel s st) : Rel (rOne r tol s (lat l i)) (oneStep l r tol st i) := by
  unfold rOne oneStep
  rw [opl_eq _ hn h hr.u, best_eq]
  cases bestM (lat l i).n r st.ur tol r.length with
  | none => exact hr
  | some k =>
    refine ⟨by simp [hr.o], fun x => ?_⟩
    show x ∈ s.2 ++ _ ↔ x ∈ refsP (st.out ++ [_])
    rw [refsP_snoc, List.mem_append, List.mem_append, hr.u]
    rfl
theorem ones_rel {l r : List O3} {tol : Int} (hn : ND l r) : ∀ i, i ≤ l.length → Rel ((l.take i).foldl (rOne r tol) ([], [])) (oneAt l r tol (st0 l r) i)
  | 0, _ => ⟨rfl, fun _ => by simp [oneAt, st0, refsP]⟩
  | i + 1, hi => by
    rw [List.take_succ_eq_append_getElem (by omega), List.foldl_append, oneAt_succ, lat_get (by omega)]
    exact one_rel hn (oneAt_inv (st0_inv l r) i (by omega)) (ones_rel hn i (by omega))
/-! ### Several -/
theorem find_congr {α : Type} {p q : α → Bool} : ∀ {L : List α}, (∀ a ∈ L, p a = q a) → L.find? p = L.find? q
  | [], _ => rfl
  | a :: L, h => by
    rw [List.find?_cons, List.find?_cons, h a (by simp), find_congr (L := L) (fun b hb => h b (by simp [hb]))]
def chk4 : Bool := (List.range 13).all fun k => (List.range 13).all fun n => (combL (List.range k) n).all fun ps => ((List.range k).filter fun j => (maskOf ps).testBit j) == ps
theorem chk4_ok : chk4 = true := by decide +kernel
theorem mask_bits {k n : Nat} (hk : k ≤ 12) (hn : n ≤ 12) {ps : List Nat} (h : ps ∈ combL (List.range k) n) : ((List.range k).filter fun j => (maskOf ps).testBit j) = ps := by
  have h1 := chk4_ok
  unfold chk4 at h1
  rw [List.all_eq_true] at h1
  have h2 := h1 k (List.mem_range.2 (by omega))
  rw [List.all_eq_true] at h2
  have h3 := h2 n (List.mem_range.2 (by omega))
  rw [List.all_eq_true] at h3
  have h4 := h3 ps h
  rwa [beq_iff_eq] at h4
theorem combL_sub : ∀ (L : List Nat) (n : Nat) {ps : List Nat}, ps ∈ combL L n → ps.Sublist L ∧ ps.length = n
  | L, 0, ps, h => by
    have : ps = [] := by cases L <;> simpa [combL] using h
    subst this; exact ⟨List.nil_sublist _, rfl⟩
  | [], n + 1, ps, h => by simp [combL] at h
  | a :: L, n + 1, ps, h => by
    unfold combL at h
    rcases List.mem_append.1 h with h | h
    · obtain ⟨q, hq, rfl⟩ := List.mem_map.1 h
      have := combL_sub L n hq
      exact ⟨this.1.cons_cons a, by simp [this.2]⟩
    · have := combL_sub L (n + 1) h
      exact ⟨this.1.cons a, this.2⟩
theorem lat_map {cs : List Nat} {r : List O3} {p : Nat} (hp : p < cs.length) : lat (cs.map (lat r)) p = lat r (cs[p]?.getD 0) := by
  show (cs.map (lat r))[p]?.getD default = _
  rw [List.getElem?_map, List.getElem?_eq_getElem hp]
  rfl
theorem pick_eq (x : Int) (r : List O3) (cs : List Nat) (tol : Int) (hc : cs.length ≤ 12) : manyPick x r cs tol = (manyN x tol (cs.map (lat r))).map maskOf ∧
    ∀ ps, manyN x tol (cs.map (lat r)) = some ps → refsM r (bitsL cs (maskOf ps)) = refsM (cs.map (lat r)) ps ∧ ps ≠ [] := by
  have hb : ∀ n ps, n ≤ 12 → ps ∈ combL (List.range cs.length) n → bitsL cs (maskOf ps) = ps.map fun p => cs[p]?.getD 0 := by
    intro n ps hn hp
    unfold bitsL bitA
    rw [mask_bits hc hn hp]
  have hlt : ∀ n ps, ps ∈ combL (List.range cs.length) n → ∀ p ∈ ps, p < cs.length := fun n ps hp p h => List.mem_range.1 ((combL_sub _ _ hp).1.subset h)
  have hf : ∀ n, n ≤ 12 → ((combL (List.range cs.length) n).map maskOf).find? (fun m => !unfit x r cs tol m) = (chooseN x tol (cs.map (lat r)) n).map maskOf := by
    intro n hn
    rw [List.find?_map]
    unfold chooseN
    rw [List.length_map]
    congr 1
    refine find_congr fun ps hp => ?_
    show (!unfit x r cs tol (maskOf ps)) = fitC x tol (cs.map (lat r)) ps
    unfold unfit fitC
    rw [hb n ps hn hp, sumM_eq, sumM_eq, List.map_map]
    rw [show (ps.map ((fun k => (lat r k).n) ∘ fun p => cs[p]?.getD 0)) = ps.map fun k => (lat (cs.map (lat r)) k).n from List.map_congr_left fun p h => by rw [lat_map (hlt n ps hp p h)]; rfl]
    generalize szI _ = a
    by_cases h : tol < a
    · rw [decide_eq_true h, decide_eq_false (by omega)]; rfl
    · rw [decide_eq_false h, decide_eq_true (by omega)]; rfl
  refine ⟨?_, ?_⟩
  · unfold manyPick subsL subsN manyN
    rw [List.find?_flatMap, List.length_map]
    have hs : ∀ L : List Nat, (∀ n ∈ L, n ≤ 12) → L.findSome? (fun n => (masksK cs.length n).find? fun m => !unfit x r cs tol m) = (L.findSome? (chooseN x tol (cs.map (lat r)))).map maskOf := by
      intro L
      induction L with
      | nil => intro _; rfl
      | cons n L ih =>
        intro hL
        rw [List.findSome?_cons, List.findSome?_cons, ih (fun m hm => hL m (by simp [hm]))]
        have := hf n (hL n (by simp))
        unfold masksK
        rw [this]
        cases chooseN x tol (cs.map (lat r)) n <;> rfl
    rw [show cs.length + 1 - 2 = cs.length - 1 from by omega]
    exact hs _ (fun n hn => by rw [List.mem_range'_1] at hn; omega)
  · intro ps h
    unfold manyN at h
    obtain ⟨n, hn, hp⟩ := List.exists_of_findSome?_eq_some h
    rw [List.length_map, List.mem_range'_1] at hn
    unfold chooseN at hp
    have hp := List.mem_of_find?_eq_some hp
    rw [List.length_map] at hp
    refine ⟨?_, ?_⟩
    · rw [hb n ps (by omega) hp]
      unfold refsM
      rw [List.map_map]
      exact List.map_congr_left fun p h => by rw [lat_map (hlt n ps hp p h)]; rfl
    · intro e
      have := (combL_sub _ _ hp).2
      rw [e] at this
      simp at this
      omega
theorem cand_take {l r : List O3} {st : FS} {U : List R2} (x : Int) (hn : ND l r) (h : UInv l r st) (hU : ∀ y, y ∈ U ↔ y ∈ refsP st.out) : (againstL x (withoutL r U)).take 12 = (candA x r st.ur r.length).map (lat r) := by
  rw [opl_eq x hn h hU, ← List.map_take]
  rfl
theorem many_rel {sw : Bool} {l r : List O3} {tol : Int} {s : RS} {st : FS} {i : Nat} (hn : ND l r) (h : UInv l r st) (hr : Rel s st) (hu : uat st.ul i = false) : Rel (rMany sw r tol s (lat l i)) (manyStep sw l r tol st i) := by
  have hp := pick_eq (lat l i).n r (candA (lat l i).n r st.ur r.length) tol (candA_len _ _ _ _)
  unfold rMany manyStep mset
  rw [cand_take _ hn h hr.u, hu, hp.1]
  simp only [Bool.false_eq_true, if_false]
  cases hm : manyN (lat l i).n tol ((candA (lat l i).n r st.ur r.length).map (lat r)) with
  | none => exact hr
  | some ps =>
    have h2 := hp.2 ps hm
    simp only [Option.map_some]
    rw [if_neg (by unfold refsM; simpa using h2.2)]
    refine ⟨by simp [hr.o, h2.1], fun x => ?_⟩
    show x ∈ s.2 ++ _ ↔ x ∈ refsP (st.out ++ [_])
    rw [refsP_snoc, List.mem_append, List.mem_append, hr.u, h2.1]
    unfold prP
    cases sw
    · exact Iff.rfl
    · simp only [if_true, List.mem_cons, List.mem_append, List.not_mem_nil, or_false]
      rw [or_comm (a := x = _)]
theorem manyStep_ul {sw : Bool} {l r : List O3} {tol : Int} {st : FS} {i j : Nat} (hj : j ≠ i) (hl : i < st.ul.length) : uat (manyStep sw l r tol st i).ul j = uat st.ul j := by
  unfold manyStep
  split
  · rfl
  · split
    · rfl
    · show uat (st.ul.set i true) j = _
      rw [uat_set hl, decide_eq_false hj, Bool.or_false]
theorem unu_eq {l r : List O3} {st : FS} {U : List R2} (hn : ND l r) (h : UInv l r st) (hU : ∀ y, y ∈ U ↔ y ∈ refsP st.out) : withoutL l U = ((List.range l.length).filter fun k => !uat st.ul k).map (lat l) := by
  unfold withoutL
  conv => lhs; rw [← range_lat l]
  rw [List.filter_map]
  congr 1
  refine List.filter_congr fun k hk => ?_
  have hk := List.mem_range.1 hk
  show (!decide ((lat l k).r ∈ U)) = _
  congr 1
  have := (hU (lat l k).r).trans (used_l hn h hk)
  cases e : uat st.ul k with
  | true => exact decide_eq_true (this.2 e)
  | false => exact decide_eq_false (fun h => by rw [this.1 h] at e; cases e)
theorem manys_rel {sw : Bool} {l r : List O3} {tol : Int} {s : RS} {st : FS} (hn : ND l r) (h : UInv l r st) (hr : Rel s st) : ∀ i, i ≤ l.length →
    Rel ((((List.range i).filter fun k => !uat st.ul k).map (lat l)).foldl (rMany sw r tol) s) (manyAt sw l r tol st i) ∧ ∀ j, i ≤ j → uat (manyAt sw l r tol st i).ul j = uat st.ul j
  | 0, _ => ⟨hr, fun _ _ => rfl⟩
  | i + 1, hi => by
    obtain ⟨h1, h2⟩ := manys_rel (sw := sw) (tol := tol) hn h hr i (by omega)
    have hI := manyAt_inv (sw := sw) (tol := tol) h i (by omega)
    rw [List.range_succ, List.filter_append, List.map_append, List.foldl_append, manyAt_succ]
    refine ⟨?_, fun j hj => by rw [manyStep_ul (by omega) (by rw [hI.ll]; omega)]; exact h2 j (by omega)⟩
    cases e : uat st.ul i with
    | true =>
      rw [List.filter_cons_of_neg (by rw [e]; decide)]
      unfold manyStep
      rw [h2 i (Nat.le_refl _), e, if_pos rfl]
      exact h1
    | false =>
      rw [List.filter_cons_of_pos (by rw [e]; rfl)]
      exact many_rel hn hI h1 ((h2 i (Nat.le_refl _)).trans e)
theorem rs1_rel {l r : List O3} {tol : Int} (hn : ND l r) : Rel (rs1 l r tol) (st1 l r tol) := by
  have := ones_rel (tol := tol) hn l.length (Nat.le_refl _)
  rw [List.take_length] at this
  exact this
theorem rs2_rel {l r : List O3} {tol : Int} (hn : ND l r) : Rel (rs2 l r tol) (st2 l r tol) := by
  have h1 := rs1_rel (tol := tol) hn
  have hI : UInv l r (st1 l r tol) := oneAt_inv (st0_inv l r) _ (Nat.le_refl _)
  unfold rs2
  rw [unu_eq hn hI h1.u]
  exact (manys_rel hn hI h1 _ (Nat.le_refl _)).1
theorem rs3_rel {l r : List O3} {tol : Int} (hn : ND l r) : Rel (rs3 l r tol) (st3 l r tol) := by
  have h2 := rs2_rel (tol := tol) hn
  have hI : UInv l r (st2 l r tol) := manyAt_inv (oneAt_inv (st0_inv l r) _ (Nat.le_refl _)) _ (Nat.le_refl _)
  have h2' : Rel (rs2 l r tol) (swapS (st2 l r tol)) := ⟨h2.o, h2.u⟩
  unfold rs3
  rw [unu_eq (st := swapS (st2 l r tol)) hn.swap hI.swap h2'.u]
  have h3 := (manys_rel (sw := true) (tol := tol) hn.swap hI.swap h2' _ (Nat.le_refl _)).1
  exact ⟨h3.o, h3.u⟩
theorem ref_eq {l r : List O3} (tol : Int) (h : linesB l r = true) : (rs3 l r tol).1 = (st3 l r tol).out := (rs3_rel (nd_of h)).o
end Go.Proofs.Ytpobckedeffjmaa

/- Layer 28: the reference's size, against, without, one. -/
set_option linter.unusedSimpArgs false
set_option maxRecDepth 50000
namespace Go.Proofs.Ytpobckedeffjmaa
open Go.RowKit Go

theorem info_ropen : (Try.prog.info? 50).map (fun i => (i.zero, i.size, i.bytes)) = some (some (.agg #[.int .i64 0, .int .i64 0, .int .i64 0]), openT.sz, 24) := by kernel_rfl
theorem rsize28 (w : World) (n : Int) (h : -9000000000000000000 ≤ n ∧ n ≤ 9000000000000000000) : Calls Try.prog 44 #[.int .i64 n] w fun e w' => e = .returned (.int .i64 (szI n)) ∧ w' = w := by
  obtain ⟨s, hs⟩ : ∃ s, szI n = s := ⟨_, rfl⟩
  rw [hs]
  unfold szI at hs
  by_cases hn : n < 0
  · obtain rfl : s = -n := by omega
    clear hs
    go_enter Try.func44, Try.ntmps44
    go_wp2_with fail
    go_ret
    exact ⟨rfl, rfl⟩
  · obtain rfl : s = n := by omega
    clear hs
    go_enter Try.func44, Try.ntmps44
    go_wp2_with fail
    go_ret
    exact ⟨rfl, rfl⟩
theorem againstL_succ (x : Int) {l : List O3} {k : Nat} (h : k < l.length) : againstL x (l.take (k + 1)) = againstL x (l.take k) ++ if oppB l[k].n x then [l[k]] else [] := by
  unfold againstL
  rw [List.take_succ_eq_append_getElem h, List.filter_append]
  congr 1
  cases hq : oppB l[k].n x <;> simp [hq]
theorem withoutL_succ (u : List R2) {l : List O3} {k : Nat} (h : k < l.length) : withoutL (l.take (k + 1)) u = withoutL (l.take k) u ++ if l[k].r ∈ u then [] else [l[k]] := by
  unfold withoutL
  rw [List.take_succ_eq_append_getElem h, List.filter_append]
  congr 1
  by_cases hq : l[k].r ∈ u <;> simp [hq]
theorem againstL_len (x : Int) (l : List O3) : (againstL x l).length ≤ l.length := List.length_filter_le _ _
theorem withoutL_len (u : List R2) (l : List O3) : (withoutL l u).length ≤ l.length := List.length_filter_le _ _
set_option maxHeartbeats 2000000 in
theorem against28 {S : Nat → Prop} (w : World) (x : O3) (a : Option Addr) (c : Nat) (l : List O3) (hn : l.length ≤ 1000) (h : Rd (.sl openT) S w [.slice a l.length c] (l.map O3.d)) (hS : ∀ b, S b → b < w.heap.size) :
    Calls Try.prog 31 #[x.v, .slice a l.length c] w fun e w' => ∃ v, e = .returned v ∧ Owns openT 50 w.heap.size (fun _ => False) w' v ((againstL x.n l).map O3.d) ∧ Below w.heap.size w w' := by
  obtain ⟨⟨xe, xl⟩, xn⟩ := x
  have H := Lib.hid h
  have HS := Lib.hid hS
  unfold O3.v
  simp only
  clear h hS
  go_enter Try.func31, Try.ntmps31
  have hqx := heap_alloc_new w (.cells #[.int .i64 xe, .int .i64 xl, .int .i64 xn] 50)
  have HBX := Lib.hid ((Below.refl w.heap.size w).alloc (Nat.le_refl _) (.cells #[.int .i64 xe, .int .i64 xl, .int .i64 xn] 50))
  have HQX := Lib.hid hqx
  clear hqx
  go_wp2_with fail
  generalize World.alloc w (.cells #[.int .i64 xe, .int .i64 xl, .int .i64 xn] 50) = w0 at *
  obtain ⟨bx, hbx⟩ : ∃ b, w.heap.size = b := ⟨_, rfl⟩
  rw [hbx] at HQX
  simp only [hbx]
  have HBXE := Lib.hid hbx
  go_loopw [5, 6] (fun v iv wr => ∃ (k : Nat) (av : Option Addr) (lv cv : Nat), k ≤ l.length ∧ iv = .int .i64 (k : Int) ∧ v = .slice av lv cv ∧ Owns openT 50 w0.heap.size (fun _ => False) wr (.slice av lv cv) ((againstL xn (l.take k)).map O3.d) ∧ Below w0.heap.size w0 wr) (fun _ iv _ => l.length - (intOf iv).toNat)
  case atStart => exact ⟨0, none, 0, 0, Nat.zero_le _, rfl, rfl, Owns.nil _ _ _ _, Below.refl _ _⟩
  case round =>
    obtain ⟨k, av, lv, cv, hk, rfl, rfl, hO, hB⟩ := hrel
    have HO := Lib.hid hO
    have HB := Lib.hid hB
    have HBW := Lib.hid (show Below w.heap.size w wr from below_step HBX.out hB)
    by_cases hkl : k < l.length
    · have hkI : (k : Int) < (l.length : Int) := by omega
      obtain ⟨b, off, rfl, -, m0, m1, m2, hok⟩ := open_at (H.out.below HBW.out HS.out) k hkl
      have hqx := (hB.block _ (blk_lt HQX.out)).trans HQX.out
      have HTK := Lib.hid (againstL_succ xn hkl)
      have HKL := Lib.hid hkl
      have HLE := Lib.hid (show (againstL xn (l.take k)).length ≤ 1000 from by have := againstL_len xn (l.take k); rw [List.length_take] at this; omega)
      generalize l[k] = y at m0 m1 m2 hok HTK
      have HOK := Lib.hid hok
      obtain ⟨⟨ye, yl⟩, yn⟩ := y
      simp only at m0 m1 m2
      obtain ⟨ob, hob⟩ : ∃ q, oppB yn xn = q := ⟨_, rfl⟩
      have HOB := Lib.hid hob
      have hC0 : Cells [(⟨b, off + k * 3, none⟩, .int .i64 ye), (⟨b, off + k * 3 + 1, none⟩, .int .i64 yl), (⟨b, off + k * 3 + 2, none⟩, .int .i64 yn), (⟨bx, 2, none⟩, .int .i64 xn)] wr := ⟨m0, m1, m2, blk_cell hqx 2, trivial⟩
      clear hB hkl hk hqx m0 m1 m2 hob hO hok
      go_wp2_with fail
      refine wp_region_T (Cells [(⟨b, off + k * 3, none⟩, .int .i64 ye), (⟨b, off + k * 3 + 1, none⟩, .int .i64 yl), (⟨b, off + k * 3 + 2, none⟩, .int .i64 yn), (⟨bx, 2, none⟩, .int .i64 xn)]) (fun _ => false) (by kernel_rfl) ?_
      have hSss1 := Cells.drew hC0
      have hB_0_s1 : Below wr.heap.size wr wr.drew := below_drew _
      generalize wr.drew = s1 at hSss1 hB_0_s1 ⊢
      have hB_s1_s1 := Below.refl s1.heap.size s1
      refine wpAnyT_pure (i := 0) (v := ?_) rfl (by kernel_rfl) (by kernel_rfl) (by kernel_rfl) (fun _ _ _ h => h) (by rfl) ?_ ?_
      rotate_left
      · intro w; go_simp; try with_reducible rfl
      simp only [Act.put, rgA, rgB, rgC, rgD, rgE, rgF]
      refine wpAnyT_pure (i := 1) (v := ?_) rfl (by kernel_rfl) (by kernel_rfl) (by kernel_rfl) (fun _ _ _ h => h) (by rfl) ?_ ?_
      rotate_left
      · intro w; go_simp; try with_reducible rfl
      simp only [Act.put, rgA, rgB, rgC, rgD, rgE, rgF]
      refine wpAnyT_pure (i := 2) (v := ?_) rfl (by kernel_rfl) (by kernel_rfl) (by kernel_rfl) (fun _ _ _ h => h) (by rfl) ?_ ?_
      rotate_left
      · intro w; go_simp; try with_reducible rfl
      simp only [Act.put, rgA, rgB, rgC, rgD, rgE, rgF]
      refine wpAnyT_pure (i := 3) (v := ?_) rfl (by kernel_rfl) (by kernel_rfl) (by kernel_rfl) (fun _ _ _ h => h) (by rfl) ?_ ?_
      rotate_left
      · intro w; go_simp; try with_reducible rfl
      simp only [Act.put, rgA, rgB, rgC, rgD, rgE, rgF]
      refine wpAnyT_pure (i := 6) (v := ?_) rfl (by kernel_rfl) (by kernel_rfl) (by kernel_rfl) (fun _ _ _ h => h) (by rfl) ?_ ?_
      rotate_left
      · intro w; go_simp; try with_reducible rfl
      simp only [Act.put, rgA, rgB, rgC, rgD, rgE, rgF]
      refine wpAnyT_loadW (i := 4) (v := ?_) rfl (by kernel_rfl) (by kernel_rfl) (by kernel_rfl) (by kernel_rfl) (by kernel_rfl) (fun _ _ _ h => h) (Or.inl ⟨by rfl, ?_⟩) hSss1 ?_
      rotate_left
      · intro w hSw; obtain ⟨e0, e1, e2, e3, -⟩ := hSw; go_simp; try with_reducible rfl
      simp only [Act.put, rgA, rgB, rgC, rgD, rgE, rgF]
      refine wpAnyT_pure (i := 5) (v := ?_) rfl (by kernel_rfl) (by kernel_rfl) (by kernel_rfl) (fun _ _ _ h => h) (by rfl) ?_ ?_
      rotate_left
      · intro w; go_simp; try with_reducible rfl
      simp only [Act.put, rgA, rgB, rgC, rgD, rgE, rgF]
      refine wpAnyT_loadW (i := 7) (v := ?_) rfl (by kernel_rfl) (by kernel_rfl) (by kernel_rfl) (by kernel_rfl) (by kernel_rfl) (fun _ _ _ h => h) (Or.inl ⟨by rfl, ?_⟩) hSss1 ?_
      rotate_left
      · intro w hSw; obtain ⟨e0, e1, e2, e3, -⟩ := hSw; go_simp; try with_reducible rfl
      simp only [Act.put, rgA, rgB, rgC, rgD, rgE, rgF]
      refine wpAnyT_pure (i := 8) (v := ?_) rfl (by kernel_rfl) (by kernel_rfl) (by kernel_rfl) (fun _ _ _ h => h) (by rfl) ?_ ?_
      rotate_left
      · intro w; go_simp; try with_reducible rfl
      simp only [Act.put, rgA, rgB, rgC, rgD, rgE, rgF]
      refine wpAnyT_pure (i := 9) (v := (.bool ob)) rfl (by kernel_rfl) (by kernel_rfl) (by kernel_rfl) (fun _ _ _ h => h) (by rfl) ?_ ?_
      · intro w; have hq := HOB.out; unfold oppB at hq; go_simp; try (first | exact hq | simpa using hq)
      simp only [Act.put, rgA, rgB, rgC, rgD, rgE, rgF]
      refine wpAnyT_done (by kernel_rfl) ?_ _
      obtain ⟨wE, rfl⟩ : ∃ q, q = s1 := ⟨_, rfl⟩
      obtain ⟨n0, n1, n2, -⟩ := hSss1
      have HBE := Lib.hid (below_step HB.out hB_0_s1)
      have HOE := Lib.hid (HO.out.below hB_0_s1)
      cases ob with
      | true =>
        go_wp2_with (at_builtin; go_must (refine wpList_app _ rfl _ _ 22 rfl (e := openT) (te := 50) info_ropen Try.underlying22 rfl (by decide) (v := .slice av lv cv) rfl (Owns.alloc HOE.out _) (by have := HBE.out.size; simp only [World.size_alloc]; omega) rfl (ys := [O3.d ⟨⟨ye, yl⟩, yn⟩]) (Src.new _ [_, _, _] _ _ _) (RdL.one (e := openT) (open_rd (o := ⟨⟨ye, yl⟩, yn⟩) HOK.out)) (by have := HLE.out; simp only [List.length_map, List.length_cons, List.length_nil]; omega) (by have := HLE.out; simp only [List.length_map, List.length_cons, List.length_nil]; omega) ?_); intro v' w1 O1 g1 _ hob; obtain ⟨av', lv', cv', rfl, -⟩ := O1.slice; have HO1 := Lib.hid O1; have HG1 := Lib.hid g1; clear O1 g1 hob)
        go_roundw
        case rel =>
          refine ⟨k + 1, av', lv', cv', HKL.out, by go_num, rfl, ?_, (HBE.out.alloc HBE.out.size _).grown HG1.out (by have := HBE.out.size; simp only [World.size_alloc]; omega) (fun c hc => (HOE.out.own c hc).1)⟩
          rw [HTK.out, HOB.out, if_pos rfl, List.map_append]
          exact HO1.out
        case measure => have := HKL.out; simp [intOf]; try omega
      | false =>
        go_wp2_with fail
        go_roundw
        case rel =>
          refine ⟨k + 1, av, lv, cv, HKL.out, by go_num, rfl, ?_, HBE.out⟩
          rw [HTK.out, HOB.out, if_neg (by decide), List.append_nil]
          exact HOE.out
        case measure => have := HKL.out; simp [intOf]; try omega
    · obtain rfl : k = l.length := by omega
      have hkI : ¬ ((l.length : Nat) : Int) < (l.length : Int) := by omega
      have HO2 := Lib.hid (by have h := HO.out; rw [List.take_length] at h; exact h)
      clear hB hkl hk hO HO
      go_wp2_with fail
      go_ret
      refine ⟨_, rfl, ?_, ?_⟩
      · exact HO2.out.base (by have := HBX.out.size; rw [HBXE.out] at this; exact this)
      · have h := HBW.out; rw [hbx] at h; exact h
set_option maxHeartbeats 2000000 in
theorem without28 {S : Nat → Prop} {S2 : Nat → Prop} (w : World) (a : Option Addr) (c : Nat) (l : List O3) (hn : l.length ≤ 1000) (h : Rd (.sl openT) S w [.slice a l.length c] (l.map O3.d)) (hS : ∀ b, S b → b < w.heap.size)
    (a2 : Option Addr) (c2 : Nat) (u : List R2) (h2 : Rd (.sl refT) S2 w [.slice a2 u.length c2] (u.map R2.d)) (hS2 : ∀ b, S2 b → b < w.heap.size) :
    Calls Try.prog 32 #[.slice a l.length c, .slice a2 u.length c2] w fun e w' => ∃ v, e = .returned v ∧ Owns openT 50 w.heap.size (fun _ => False) w' v ((withoutL l u).map O3.d) ∧ Below w.heap.size w w' := by
  have H := Lib.hid h
  have HS := Lib.hid hS
  have H2 := Lib.hid h2
  have HS2 := Lib.hid hS2
  clear h hS h2 hS2
  go_enter Try.func32, Try.ntmps32
  go_wp2_with fail
  go_loopw [5, 6] (fun v iv wr => ∃ (k : Nat) (av : Option Addr) (lv cv : Nat), k ≤ l.length ∧ iv = .int .i64 (k : Int) ∧ v = .slice av lv cv ∧ Owns openT 50 w.heap.size (fun _ => False) wr (.slice av lv cv) ((withoutL (l.take k) u).map O3.d) ∧ Below w.heap.size w wr) (fun _ iv _ => l.length - (intOf iv).toNat)
  case atStart => exact ⟨0, none, 0, 0, Nat.zero_le _, rfl, rfl, Owns.nil _ _ _ _, Below.refl _ _⟩
  case round =>
    obtain ⟨k, av, lv, cv, hk, rfl, rfl, hO, hB⟩ := hrel
    have HO := Lib.hid hO
    have HB := Lib.hid hB
    by_cases hkl : k < l.length
    · have hkI : (k : Int) < (l.length : Int) := by omega
      obtain ⟨b, off, rfl, -, m0, m1, m2, hok⟩ := open_at (H.out.below hB HS.out) k hkl
      have HTK := Lib.hid (withoutL_succ u hkl)
      have HKL := Lib.hid hkl
      have HLE := Lib.hid (show (withoutL (l.take k) u).length ≤ 1000 from by have := withoutL_len u (l.take k); rw [List.length_take] at this; omega)
      generalize l[k] = y at m0 m1 m2 hok HTK
      have HOK := Lib.hid hok
      obtain ⟨⟨ye, yl⟩, yn⟩ := y
      simp only at m0 m1 m2
      have HM := Lib.hid (And.intro m0 (And.intro m1 m2))
      have HIN := Lib.hid (in28 wr a2 c2 u ⟨ye, yl⟩ (H2.out.below hB HS2.out) (fun b hb => Nat.lt_of_lt_of_le (HS2.out b hb) hB.size))
      clear hB hkl hk hO hok m2
      go_wp2_with fail
      refine HIN.out.mono ?_
      rintro e wE ⟨rfl, hBE⟩
      have HBE := Lib.hid (below_step HB.out hBE)
      have HOE := Lib.hid (HO.out.below hBE)
      have n0 := cell_below HM.out.1 hBE
      have n1 := cell_below HM.out.2.1 hBE
      have n2 := cell_below HM.out.2.2 hBE
      clear hBE m0 m1 HIN
      by_cases hin : (⟨ye, yl⟩ : R2) ∈ u
      · rw [decide_eq_true hin]
        have HI := Lib.hid hin
        clear hin
        go_wp2_with fail
        go_roundw
        case rel =>
          refine ⟨k + 1, av, lv, cv, HKL.out, by go_num, rfl, ?_, HBE.out⟩
          rw [HTK.out, if_pos HI.out, List.append_nil]
          exact HOE.out
        case measure => have := HKL.out; simp [intOf]; try omega
      · rw [decide_eq_false hin]
        have HI := Lib.hid hin
        clear hin
        go_wp2_with (at_builtin; go_must (refine wpList_app _ rfl _ _ 22 rfl (e := openT) (te := 50) info_ropen Try.underlying22 rfl (by decide) (v := .slice av lv cv) rfl (Owns.alloc HOE.out _) (by have := HBE.out.size; simp only [World.size_alloc]; omega) rfl (ys := [O3.d ⟨⟨ye, yl⟩, yn⟩]) (Src.new _ [_, _, _] _ _ _) (RdL.one (e := openT) (open_rd (o := ⟨⟨ye, yl⟩, yn⟩) HOK.out)) (by have := HLE.out; simp only [List.length_map, List.length_cons, List.length_nil]; omega) (by have := HLE.out; simp only [List.length_map, List.length_cons, List.length_nil]; omega) ?_); intro v' w1 O1 g1 _ hob; obtain ⟨av', lv', cv', rfl, -⟩ := O1.slice; have HO1 := Lib.hid O1; have HG1 := Lib.hid g1; clear O1 g1 hob)
        go_roundw
        case rel =>
          refine ⟨k + 1, av', lv', cv', HKL.out, by go_num, rfl, ?_, (HBE.out.alloc HBE.out.size _).grown HG1.out (by have := HBE.out.size; simp only [World.size_alloc]; omega) (fun c hc => (HOE.out.own c hc).1)⟩
          rw [HTK.out, if_neg HI.out, List.map_append]
          exact HO1.out
        case measure => have := HKL.out; simp [intOf]; try omega
    · obtain rfl : k = l.length := by omega
      have hkI : ¬ ((l.length : Nat) : Int) < (l.length : Int) := by omega
      have HO2 := Lib.hid (by have h := HO.out; rw [List.take_length] at h; exact h)
      clear hB hkl hk hO HO
      go_wp2_with fail
      go_ret
      exact ⟨_, rfl, HO2.out, HB.out⟩
end Go.Proofs.Ytpobckedeffjmaa

/- Layer 28: the reference's one. -/
set_option linter.unusedSimpArgs false
set_option maxRecDepth 50000
namespace Go.Proofs.Ytpobckedeffjmaa
open Go.RowKit Go

theorem bestL_take (x tol : Int) {l : List O3} {k : Nat} (h : k < l.length) : bestL x tol (l.take (k + 1)) = bestS x tol (bestL x tol (l.take k)) l[k] := by
  rw [List.take_succ_eq_append_getElem h, bestL_snoc]
/-- What 'one' keeps. -/
def BestP (x tol : Int) (l : List O3) (k : Nat) (bi : Int) : Prop := (bi = -1 ∧ bestL x tol (l.take k) = none) ∨ ∃ j : Nat, j < k ∧ bi = (j : Int) ∧ bestL x tol (l.take k) = some (lat l j)
set_option maxHeartbeats 4000000 in
theorem rone28 {S : Nat → Prop} (w : World) (x : O3) (a : Option Addr) (c : Nat) (l : List O3) (tol : Int) (hn : l.length ≤ 1000) (hxa : amtB x.n = true) (hla : ∀ y ∈ l, amtB y.n = true) (h : Rd (.sl openT) S w [.slice a l.length c] (l.map O3.d)) (hS : ∀ b, S b → b < w.heap.size) :
    Calls Try.prog 33 #[x.v, .slice a l.length c, .int .i64 tol] w fun e w' => ∃ bi : Int, e = .returned (.int .i64 bi) ∧ BestP x.n tol l l.length bi ∧ Below w.heap.size w w' := by
  obtain ⟨⟨xe, xl⟩, xn⟩ := x
  simp only at hxa
  have H := Lib.hid h
  have HS := Lib.hid hS
  have HLA := Lib.hid hla
  have hxb := (amt_bounds hxa).2
  unfold O3.v
  simp only
  clear h hS hla hxa
  go_enter Try.func33, Try.ntmps33
  have hqx := heap_alloc_new w (.cells #[.int .i64 xe, .int .i64 xl, .int .i64 xn] 50)
  have HBX := Lib.hid ((Below.refl w.heap.size w).alloc (Nat.le_refl _) (.cells #[.int .i64 xe, .int .i64 xl, .int .i64 xn] 50))
  have HQX := Lib.hid hqx
  clear hqx
  go_wp2_with fail
  generalize World.alloc w (.cells #[.int .i64 xe, .int .i64 xl, .int .i64 xn] 50) = w0 at *
  obtain ⟨bx, hbx⟩ : ∃ b, w.heap.size = b := ⟨_, rfl⟩
  rw [hbx] at HQX
  simp only [hbx]
  have HBXE := Lib.hid hbx
  go_loopw [7, 8] (fun v iv wr => ∃ (k : Nat) (bi : Int), k ≤ l.length ∧ iv = .int .i64 (k : Int) ∧ v = .int .i64 bi ∧ BestP xn tol l k bi ∧ Below w0.heap.size w0 wr) (fun _ iv _ => l.length - (intOf iv).toNat)
  case atStart => exact ⟨0, -1, Nat.zero_le _, rfl, rfl, .inl ⟨rfl, rfl⟩, Below.refl _ _⟩
  case round =>
    obtain ⟨k, bi, hk, rfl, rfl, hbp, hB⟩ := hrel
    have HB := Lib.hid hB
    have HBW := Lib.hid (show Below w.heap.size w wr from below_step HBX.out hB)
    by_cases hkl : k < l.length
    · have hkI : (k : Int) < (l.length : Int) := by omega
      obtain ⟨b, off, rfl, -, m0, m1, m2, hok⟩ := open_at (H.out.below HBW.out HS.out) k hkl
      have hqx := (hB.block _ (blk_lt HQX.out)).trans HQX.out
      have HTK := Lib.hid (bestL_take xn tol hkl)
      have HKL := Lib.hid hkl
      have hyb := (amt_bounds (HLA.out _ (List.getElem_mem hkl))).2
      have HLK := Lib.hid (lat_get hkl)
      generalize l[k] = y at m0 m1 m2 hok HTK hyb HLK
      obtain ⟨⟨ye, yl⟩, yn⟩ := y
      simp only at m0 m1 m2 hyb
      obtain ⟨d, hd⟩ : ∃ d, szI (xn + yn) = d := ⟨_, rfl⟩
      have HD := Lib.hid hd
      have x2 := blk_cell hqx 2
      simp only [List.getElem?_toArray, List.getElem?_cons_zero, List.getElem?_cons_succ] at x2
      have hC0 : Cells [(⟨b, off + k * 3 + 2, none⟩, .int .i64 yn), (⟨bx, 2, none⟩, .int .i64 xn)] wr := ⟨m2, x2, trivial⟩
      have HBP := Lib.hid hbp
      clear hB hkl hk hqx m0 m1 m2 hd hok hbp x2
      go_wp2_with fail
      refine wp_region_T (Cells [(⟨b, off + k * 3 + 2, none⟩, .int .i64 yn), (⟨bx, 2, none⟩, .int .i64 xn)]) (fun _ => false) (by kernel_rfl) ?_
      have hSss1 := Cells.drew hC0
      have hB_0_s1 : Below wr.heap.size wr wr.drew := below_drew _
      generalize wr.drew = s1 at hSss1 hB_0_s1 ⊢
      have hB_s1_s1 := Below.refl s1.heap.size s1
      refine wpAnyT_pure (i := 0) (v := ?_) rfl (by kernel_rfl) (by kernel_rfl) (by kernel_rfl) (fun _ _ _ h => h) (by rfl) ?_ ?_
      rotate_left
      · intro w; go_simp; try with_reducible rfl
      simp only [Act.put, rgA, rgB, rgC, rgD, rgE, rgF]
      refine wpAnyT_pure (i := 2) (v := ?_) rfl (by kernel_rfl) (by kernel_rfl) (by kernel_rfl) (fun _ _ _ h => h) (by rfl) ?_ ?_
      rotate_left
      · intro w; go_simp; try with_reducible rfl
      simp only [Act.put, rgA, rgB, rgC, rgD, rgE, rgF]
      refine wpAnyT_pure (i := 3) (v := ?_) rfl (by kernel_rfl) (by kernel_rfl) (by kernel_rfl) (fun _ _ _ h => h) (by rfl) ?_ ?_
      rotate_left
      · intro w; go_simp; try with_reducible rfl
      simp only [Act.put, rgA, rgB, rgC, rgD, rgE, rgF]
      refine wpAnyT_pure (i := 4) (v := ?_) rfl (by kernel_rfl) (by kernel_rfl) (by kernel_rfl) (fun _ _ _ h => h) (by rfl) ?_ ?_
      rotate_left
      · intro w; go_simp; try with_reducible rfl
      simp only [Act.put, rgA, rgB, rgC, rgD, rgE, rgF]
      refine wpAnyT_pure (i := 5) (v := ?_) rfl (by kernel_rfl) (by kernel_rfl) (by kernel_rfl) (fun _ _ _ h => h) (by rfl) ?_ ?_
      rotate_left
      · intro w; go_simp; try with_reducible rfl
      simp only [Act.put, rgA, rgB, rgC, rgD, rgE, rgF]
      refine wpAnyT_loadW (i := 1) (v := ?_) rfl (by kernel_rfl) (by kernel_rfl) (by kernel_rfl) (by kernel_rfl) (by kernel_rfl) (fun _ _ _ h => h) (Or.inl ⟨by rfl, ?_⟩) hSss1 ?_
      rotate_left
      · intro w hSw; obtain ⟨e0, e1, -⟩ := hSw; go_simp; try with_reducible rfl
      simp only [Act.put, rgA, rgB, rgC, rgD, rgE, rgF]
      refine wpAnyT_loadW (i := 6) (v := ?_) rfl (by kernel_rfl) (by kernel_rfl) (by kernel_rfl) (by kernel_rfl) (by kernel_rfl) (fun _ _ _ h => h) (Or.inl ⟨by rfl, ?_⟩) hSss1 ?_
      rotate_left
      · intro w hSw; obtain ⟨e0, e1, -⟩ := hSw; go_simp; try with_reducible rfl
      simp only [Act.put, rgA, rgB, rgC, rgD, rgE, rgF]
      refine wpAnyT_pure (i := 7) (v := (.int .i64 (xn + yn))) rfl (by kernel_rfl) (by kernel_rfl) (by kernel_rfl) (fun _ _ _ h => h) (by rfl) ?_ ?_
      · intro w; go_simp; rw [IntKind.wrap_i64] <;> omega
      simp only [Act.put, rgA, rgB, rgC, rgD, rgE, rgF]
      refine wpAnyT_one (i := 8) (by kernel_rfl) rfl (by rfl) ?_
      refine wp_enter (f := 44) (args := #[.int .i64 (xn + yn)]) (by go_simp) (rsize28 _ _ (by omega)) ?_
      rw [HD.out]
      rintro e w7 ⟨rfl, hw7⟩
      have hw8 := hw7.symm
      subst hw8
      refine ⟨_, rfl, fun _ h => h, ?_⟩
      try simp only [Act.put, rgA, rgB, rgC, rgD, rgE, rgF]
      refine wpAnyT_pure (i := 9) (v := ?_) rfl (by kernel_rfl) (by kernel_rfl) (by kernel_rfl) (fun _ _ _ h => h) (by rfl) ?_ ?_
      rotate_left
      · intro w; go_simp; try with_reducible rfl
      simp only [Act.put, rgA, rgB, rgC, rgD, rgE, rgF]
      refine wpAnyT_done (by kernel_rfl) ?_ _
      obtain ⟨wE, rfl⟩ : ∃ q, q = s1 := ⟨_, rfl⟩
      have hC1 := hSss1
      have HBE := Lib.hid (below_step HB.out hB_0_s1)
      go_wp2_with fail
      by_cases hdt : d ≤ tol
      case neg =>
        refine wp_region_T (Cells [(⟨b, off + k * 3 + 2, none⟩, .int .i64 yn), (⟨bx, 2, none⟩, .int .i64 xn)]) (fun _ => false) (by kernel_rfl) ?_
        have hSss2 := Cells.drew hC1
        have hB_0_s2 : Below wE.heap.size wE wE.drew := below_drew _
        generalize wE.drew = s2 at hSss2 hB_0_s2 ⊢
        have hB_s2_s2 := Below.refl s2.heap.size s2
        refine wpAnyT_pure (i := 0) (v := ?_) rfl (by kernel_rfl) (by kernel_rfl) (by kernel_rfl) (fun _ _ _ h => h) (by rfl) ?_ ?_
        rotate_left
        · intro w; go_simp; try with_reducible rfl
        simp only [Act.put, rgA, rgB, rgC, rgD, rgE, rgF]
        refine wpAnyT_pure (i := 1) (v := ?_) rfl (by kernel_rfl) (by kernel_rfl) (by kernel_rfl) (fun _ _ _ h => h) (by rfl) ?_ ?_
        rotate_left
        · intro w; go_simp; try with_reducible rfl
        simp only [Act.put, rgA, rgB, rgC, rgD, rgE, rgF]
        refine wpAnyT_pure (i := 2) (v := ?_) rfl (by kernel_rfl) (by kernel_rfl) (by kernel_rfl) (fun _ _ _ h => h) (by rfl) ?_ ?_
        rotate_left
        · intro w; go_simp; try with_reducible rfl
        simp only [Act.put, rgA, rgB, rgC, rgD, rgE, rgF]
        refine wpAnyT_pure (i := 3) (v := ?_) rfl (by kernel_rfl) (by kernel_rfl) (by kernel_rfl) (fun _ _ _ h => h) (by rfl) ?_ ?_
        rotate_left
        · intro w; go_simp; try with_reducible rfl
        simp only [Act.put, rgA, rgB, rgC, rgD, rgE, rgF]
        refine wpAnyT_skip (i := 4) rfl (by kernel_rfl) (by kernel_rfl) (by kernel_rfl) (fun _ _ _ h => h) (by rfl) ?_
        simp only [Act.put, rgA, rgB, rgC, rgD, rgE, rgF]
        refine wpAnyT_skip (i := 5) rfl (by kernel_rfl) (by kernel_rfl) (by kernel_rfl) (fun _ _ _ h => h) (by rfl) ?_
        simp only [Act.put, rgA, rgB, rgC, rgD, rgE, rgF]
        refine wpAnyT_skip (i := 6) rfl (by kernel_rfl) (by kernel_rfl) (by kernel_rfl) (fun _ _ _ h => h) (by rfl) ?_
        simp only [Act.put, rgA, rgB, rgC, rgD, rgE, rgF]
        refine wpAnyT_skip (i := 7) rfl (by kernel_rfl) (by kernel_rfl) (by kernel_rfl) (fun _ _ _ h => h) (by rfl) ?_
        simp only [Act.put, rgA, rgB, rgC, rgD, rgE, rgF]
        refine wpAnyT_skip (i := 8) rfl (by kernel_rfl) (by kernel_rfl) (by kernel_rfl) (fun _ _ _ h => h) (by rfl) ?_
        simp only [Act.put, rgA, rgB, rgC, rgD, rgE, rgF]
        refine wpAnyT_skip (i := 9) rfl (by kernel_rfl) (by kernel_rfl) (by kernel_rfl) (fun _ _ _ h => h) (by rfl) ?_
        simp only [Act.put, rgA, rgB, rgC, rgD, rgE, rgF]
        refine wpAnyT_skip (i := 10) rfl (by kernel_rfl) (by kernel_rfl) (by kernel_rfl) (fun _ _ _ h => h) (by rfl) ?_
        simp only [Act.put, rgA, rgB, rgC, rgD, rgE, rgF]
        refine wpAnyT_skip (i := 11) rfl (by kernel_rfl) (by kernel_rfl) (by kernel_rfl) (fun _ _ _ h => h) (by rfl) ?_
        simp only [Act.put, rgA, rgB, rgC, rgD, rgE, rgF]
        refine wpAnyT_skip (i := 12) rfl (by kernel_rfl) (by kernel_rfl) (by kernel_rfl) (fun _ _ _ h => h) (by rfl) ?_
        simp only [Act.put, rgA, rgB, rgC, rgD, rgE, rgF]
        refine wpAnyT_skip (i := 13) rfl (by kernel_rfl) (by kernel_rfl) (by kernel_rfl) (fun _ _ _ h => h) (by rfl) ?_
        simp only [Act.put, rgA, rgB, rgC, rgD, rgE, rgF]
        refine wpAnyT_skip (i := 14) rfl (by kernel_rfl) (by kernel_rfl) (by kernel_rfl) (fun _ _ _ h => h) (by rfl) ?_
        simp only [Act.put, rgA, rgB, rgC, rgD, rgE, rgF]
        refine wpAnyT_skip (i := 15) rfl (by kernel_rfl) (by kernel_rfl) (by kernel_rfl) (fun _ _ _ h => h) (by rfl) ?_
        simp only [Act.put, rgA, rgB, rgC, rgD, rgE, rgF]
        refine wpAnyT_skip (i := 16) rfl (by kernel_rfl) (by kernel_rfl) (by kernel_rfl) (fun _ _ _ h => h) (by rfl) ?_
        simp only [Act.put, rgA, rgB, rgC, rgD, rgE, rgF]
        refine wpAnyT_skip (i := 17) rfl (by kernel_rfl) (by kernel_rfl) (by kernel_rfl) (fun _ _ _ h => h) (by rfl) ?_
        simp only [Act.put, rgA, rgB, rgC, rgD, rgE, rgF]
        refine wpAnyT_skip (i := 18) rfl (by kernel_rfl) (by kernel_rfl) (by kernel_rfl) (fun _ _ _ h => h) (by rfl) ?_
        simp only [Act.put, rgA, rgB, rgC, rgD, rgE, rgF]
        refine wpAnyT_pure (i := 19) (v := ?_) rfl (by kernel_rfl) (by kernel_rfl) (by kernel_rfl) (fun _ _ _ h => h) (by rfl) ?_ ?_
        rotate_left
        · intro w; go_simp; try with_reducible rfl
        simp only [Act.put, rgA, rgB, rgC, rgD, rgE, rgF]
        refine wpAnyT_done (by kernel_rfl) ?_ _
        obtain ⟨wF, rfl⟩ : ∃ q, q = s2 := ⟨_, rfl⟩
        have HBF := Lib.hid (below_step HBE.out hB_0_s2)
        have HDT := Lib.hid hdt
        clear hdt
        go_wp2_with fail
        go_roundw
        case rel =>
          refine ⟨k + 1, bi, HKL.out, by go_num, rfl, ?_, HBF.out⟩
          unfold BestP
          rw [HTK.out]
          unfold bestS
          simp only [HD.out]
          rw [if_neg HDT.out]
          rcases HBP.out with ⟨h1, h2⟩ | ⟨j, h1, h2, h3⟩
          · exact .inl ⟨h1, h2⟩
          · exact .inr ⟨j, by omega, h2, h3⟩
        case measure => have := HKL.out; simp [intOf]; try omega
      case pos =>
        rcases HBP.out with ⟨rfl, hb0⟩ | ⟨j, hj, rfl, hbj⟩
        · skip
          refine wp_region_T (Cells [(⟨b, off + k * 3 + 2, none⟩, .int .i64 yn), (⟨bx, 2, none⟩, .int .i64 xn)]) (fun _ => false) (by kernel_rfl) ?_
          have hSss3 := Cells.drew hC1
          have hB_0_s3 : Below wE.heap.size wE wE.drew := below_drew _
          generalize wE.drew = s3 at hSss3 hB_0_s3 ⊢
          have hB_s3_s3 := Below.refl s3.heap.size s3
          refine wpAnyT_pure (i := 0) (v := ?_) rfl (by kernel_rfl) (by kernel_rfl) (by kernel_rfl) (fun _ _ _ h => h) (by rfl) ?_ ?_
          rotate_left
          · intro w; go_simp; try with_reducible rfl
          simp only [Act.put, rgA, rgB, rgC, rgD, rgE, rgF]
          refine wpAnyT_pure (i := 1) (v := ?_) rfl (by kernel_rfl) (by kernel_rfl) (by kernel_rfl) (fun _ _ _ h => h) (by rfl) ?_ ?_
          rotate_left
          · intro w; go_simp; try with_reducible rfl
          simp only [Act.put, rgA, rgB, rgC, rgD, rgE, rgF]
          refine wpAnyT_pure (i := 2) (v := ?_) rfl (by kernel_rfl) (by kernel_rfl) (by kernel_rfl) (fun _ _ _ h => h) (by rfl) ?_ ?_
          rotate_left
          · intro w; go_simp; try with_reducible rfl
          simp only [Act.put, rgA, rgB, rgC, rgD, rgE, rgF]
          refine wpAnyT_pure (i := 3) (v := ?_) rfl (by kernel_rfl) (by kernel_rfl) (by kernel_rfl) (fun _ _ _ h => h) (by rfl) ?_ ?_
          rotate_left
          · intro w; go_simp; try with_reducible rfl
          simp only [Act.put, rgA, rgB, rgC, rgD, rgE, rgF]
          refine wpAnyT_pure (i := 4) (v := ?_) rfl (by kernel_rfl) (by kernel_rfl) (by kernel_rfl) (fun _ _ _ h => h) (by rfl) ?_ ?_
          rotate_left
          · intro w; go_simp; try with_reducible rfl
          simp only [Act.put, rgA, rgB, rgC, rgD, rgE, rgF]
          refine wpAnyT_pure (i := 5) (v := ?_) rfl (by kernel_rfl) (by kernel_rfl) (by kernel_rfl) (fun _ _ _ h => h) (by rfl) ?_ ?_
          rotate_left
          · intro w; go_simp; try with_reducible rfl
          simp only [Act.put, rgA, rgB, rgC, rgD, rgE, rgF]
          refine wpAnyT_pure (i := 6) (v := ?_) rfl (by kernel_rfl) (by kernel_rfl) (by kernel_rfl) (fun _ _ _ h => h) (by rfl) ?_ ?_
          rotate_left
          · intro w; go_simp; try with_reducible rfl
          simp only [Act.put, rgA, rgB, rgC, rgD, rgE, rgF]
          refine wpAnyT_skip (i := 7) rfl (by kernel_rfl) (by kernel_rfl) (by kernel_rfl) (fun _ _ _ h => h) (by rfl) ?_
          simp only [Act.put, rgA, rgB, rgC, rgD, rgE, rgF]
          refine wpAnyT_skip (i := 8) rfl (by kernel_rfl) (by kernel_rfl) (by kernel_rfl) (fun _ _ _ h => h) (by rfl) ?_
          simp only [Act.put, rgA, rgB, rgC, rgD, rgE, rgF]
          refine wpAnyT_skip (i := 9) rfl (by kernel_rfl) (by kernel_rfl) (by kernel_rfl) (fun _ _ _ h => h) (by rfl) ?_
          simp only [Act.put, rgA, rgB, rgC, rgD, rgE, rgF]
          refine wpAnyT_skip (i := 10) rfl (by kernel_rfl) (by kernel_rfl) (by kernel_rfl) (fun _ _ _ h => h) (by rfl) ?_
          simp only [Act.put, rgA, rgB, rgC, rgD, rgE, rgF]
          refine wpAnyT_skip (i := 11) rfl (by kernel_rfl) (by kernel_rfl) (by kernel_rfl) (fun _ _ _ h => h) (by rfl) ?_
          simp only [Act.put, rgA, rgB, rgC, rgD, rgE, rgF]
          refine wpAnyT_skip (i := 12) rfl (by kernel_rfl) (by kernel_rfl) (by kernel_rfl) (fun _ _ _ h => h) (by rfl) ?_
          simp only [Act.put, rgA, rgB, rgC, rgD, rgE, rgF]
          refine wpAnyT_skip (i := 13) rfl (by kernel_rfl) (by kernel_rfl) (by kernel_rfl) (fun _ _ _ h => h) (by rfl) ?_
          simp only [Act.put, rgA, rgB, rgC, rgD, rgE, rgF]
          refine wpAnyT_skip (i := 14) rfl (by kernel_rfl) (by kernel_rfl) (by kernel_rfl) (fun _ _ _ h => h) (by rfl) ?_
          simp only [Act.put, rgA, rgB, rgC, rgD, rgE, rgF]
          refine wpAnyT_skip (i := 15) rfl (by kernel_rfl) (by kernel_rfl) (by kernel_rfl) (fun _ _ _ h => h) (by rfl) ?_
          simp only [Act.put, rgA, rgB, rgC, rgD, rgE, rgF]
          refine wpAnyT_skip (i := 16) rfl (by kernel_rfl) (by kernel_rfl) (by kernel_rfl) (fun _ _ _ h => h) (by rfl) ?_
          simp only [Act.put, rgA, rgB, rgC, rgD, rgE, rgF]
          refine wpAnyT_skip (i := 17) rfl (by kernel_rfl) (by kernel_rfl) (by kernel_rfl) (fun _ _ _ h => h) (by rfl) ?_
          simp only [Act.put, rgA, rgB, rgC, rgD, rgE, rgF]
          refine wpAnyT_pure (i := 18) (v := ?_) rfl (by kernel_rfl) (by kernel_rfl) (by kernel_rfl) (fun _ _ _ h => h) (by rfl) ?_ ?_
          rotate_left
          · intro w; go_simp; try with_reducible rfl
          simp only [Act.put, rgA, rgB, rgC, rgD, rgE, rgF]
          refine wpAnyT_pure (i := 19) (v := ?_) rfl (by kernel_rfl) (by kernel_rfl) (by kernel_rfl) (fun _ _ _ h => h) (by rfl) ?_ ?_
          rotate_left
          · intro w; go_simp; try with_reducible rfl
          simp only [Act.put, rgA, rgB, rgC, rgD, rgE, rgF]
          refine wpAnyT_done (by kernel_rfl) ?_ _
          obtain ⟨wF, rfl⟩ : ∃ q, q = s3 := ⟨_, rfl⟩
          have HBF := Lib.hid (below_step HBE.out hB_0_s3)
          have HDT := Lib.hid hdt
          have HB0 := Lib.hid hb0
          clear hdt hb0
          go_wp2_with fail
          go_roundw
          case rel =>
            refine ⟨k + 1, (k : Int), HKL.out, by go_num, rfl, ?_, HBF.out⟩
            unfold BestP
            rw [HTK.out, HB0.out]
            unfold bestS
            simp only [HD.out]
            rw [if_pos HDT.out]
            exact .inr ⟨k, by omega, rfl, by rw [HLK.out]⟩
          case measure => have := HKL.out; simp [intOf]; try omega
        · obtain ⟨b2, off2, he, -, m0, m1, m2, -⟩ := open_at (H.out.below (below_step HBX.out HBE.out) HS.out) j (by have := HKL.out; omega)
          cases he
          have hjb := (amt_bounds (HLA.out _ (List.getElem_mem (show j < l.length by have := HKL.out; omega)))).2
          have HLJ := Lib.hid (lat_get (l := l) (show j < l.length by have := HKL.out; omega))
          have hjl : j < l.length := by have := HKL.out; omega
          generalize l[j] = z at m0 m1 m2 hjb HLJ
          obtain ⟨⟨ze, zl⟩, zn⟩ := z
          simp only at m0 m1 m2 hjb
          obtain ⟨d2, hd2⟩ : ∃ d, szI (xn + zn) = d := ⟨_, rfl⟩
          have HD2 := Lib.hid hd2
          obtain ⟨-, x2, -⟩ := hC1
          have hC2 : Cells [(⟨b, off + j * 3 + 2, none⟩, .int .i64 zn), (⟨bx, 2, none⟩, .int .i64 xn)] wE := ⟨m2, x2, trivial⟩
          have HBJ := Lib.hid hbj
          clear hd2 hbj m0 m1 m2 x2
          have hj0 : ¬ (j : Int) < 0 := by omega
          refine wp_region_T (Cells [(⟨b, off + j * 3 + 2, none⟩, .int .i64 zn), (⟨bx, 2, none⟩, .int .i64 xn)]) (fun _ => false) (by kernel_rfl) ?_
          have hSss4 := Cells.drew hC2
          have hB_0_s4 : Below wE.heap.size wE wE.drew := below_drew _
          generalize wE.drew = s4 at hSss4 hB_0_s4 ⊢
          have hB_s4_s4 := Below.refl s4.heap.size s4
          refine wpAnyT_pure (i := 0) (v := ?_) rfl (by kernel_rfl) (by kernel_rfl) (by kernel_rfl) (fun _ _ _ h => h) (by rfl) ?_ ?_
          rotate_left
          · intro w; go_simp; try with_reducible rfl
          simp only [Act.put, rgA, rgB, rgC, rgD, rgE, rgF]
          refine wpAnyT_pure (i := 1) (v := ?_) rfl (by kernel_rfl) (by kernel_rfl) (by kernel_rfl) (fun _ _ _ h => h) (by rfl) ?_ ?_
          rotate_left
          · intro w; go_simp; try with_reducible rfl
          simp only [Act.put, rgA, rgB, rgC, rgD, rgE, rgF]
          refine wpAnyT_pure (i := 2) (v := ?_) rfl (by kernel_rfl) (by kernel_rfl) (by kernel_rfl) (fun _ _ _ h => h) (by rfl) ?_ ?_
          rotate_left
          · intro w; go_simp; try with_reducible rfl
          simp only [Act.put, rgA, rgB, rgC, rgD, rgE, rgF]
          refine wpAnyT_pure (i := 3) (v := ?_) rfl (by kernel_rfl) (by kernel_rfl) (by kernel_rfl) (fun _ _ _ h => h) (by rfl) ?_ ?_
          rotate_left
          · intro w; go_simp; try with_reducible rfl
          simp only [Act.put, rgA, rgB, rgC, rgD, rgE, rgF]
          refine wpAnyT_pure (i := 4) (v := ?_) rfl (by kernel_rfl) (by kernel_rfl) (by kernel_rfl) (fun _ _ _ h => h) (by rfl) ?_ ?_
          rotate_left
          · intro w; go_simp; try with_reducible rfl
          simp only [Act.put, rgA, rgB, rgC, rgD, rgE, rgF]
          refine wpAnyT_pure (i := 5) (v := ?_) rfl (by kernel_rfl) (by kernel_rfl) (by kernel_rfl) (fun _ _ _ h => h) (by rfl) ?_ ?_
          rotate_left
          · intro w; go_simp; try with_reducible rfl
          simp only [Act.put, rgA, rgB, rgC, rgD, rgE, rgF]
          refine wpAnyT_pure (i := 6) (v := ?_) rfl (by kernel_rfl) (by kernel_rfl) (by kernel_rfl) (fun _ _ _ h => h) (by rfl) ?_ ?_
          rotate_left
          · intro w; go_simp; try with_reducible rfl
          simp only [Act.put, rgA, rgB, rgC, rgD, rgE, rgF]
          refine wpAnyT_pure (i := 7) (v := ?_) rfl (by kernel_rfl) (by kernel_rfl) (by kernel_rfl) (fun _ _ _ h => h) (by rfl) ?_ ?_
          rotate_left
          · intro w; go_simp; try with_reducible rfl
          simp only [Act.put, rgA, rgB, rgC, rgD, rgE, rgF]
          refine wpAnyT_pure (i := 8) (v := ?_) rfl (by kernel_rfl) (by kernel_rfl) (by kernel_rfl) (fun _ _ _ h => h) (by rfl) ?_ ?_
          rotate_left
          · intro w; go_simp; try with_reducible rfl
          simp only [Act.put, rgA, rgB, rgC, rgD, rgE, rgF]
          refine wpAnyT_pure (i := 10) (v := ?_) rfl (by kernel_rfl) (by kernel_rfl) (by kernel_rfl) (fun _ _ _ h => h) (by rfl) ?_ ?_
          rotate_left
          · intro w; go_simp; try with_reducible rfl
          simp only [Act.put, rgA, rgB, rgC, rgD, rgE, rgF]
          refine wpAnyT_pure (i := 11) (v := ?_) rfl (by kernel_rfl) (by kernel_rfl) (by kernel_rfl) (fun _ _ _ h => h) (by rfl) ?_ ?_
          rotate_left
          · intro w; go_simp; try with_reducible rfl
          simp only [Act.put, rgA, rgB, rgC, rgD, rgE, rgF]
          refine wpAnyT_pure (i := 12) (v := ?_) rfl (by kernel_rfl) (by kernel_rfl) (by kernel_rfl) (fun _ _ _ h => h) (by rfl) ?_ ?_
          rotate_left
          · intro w; go_simp; try with_reducible rfl
          simp only [Act.put, rgA, rgB, rgC, rgD, rgE, rgF]
          refine wpAnyT_pure (i := 13) (v := ?_) rfl (by kernel_rfl) (by kernel_rfl) (by kernel_rfl) (fun _ _ _ h => h) (by rfl) ?_ ?_
          rotate_left
          · intro w; go_simp; try with_reducible rfl
          simp only [Act.put, rgA, rgB, rgC, rgD, rgE, rgF]
          refine wpAnyT_loadW (i := 9) (v := ?_) rfl (by kernel_rfl) (by kernel_rfl) (by kernel_rfl) (by kernel_rfl) (by kernel_rfl) (fun _ _ _ h => h) (Or.inl ⟨by rfl, ?_⟩) hSss4 ?_
          rotate_left
          · intro w hSw; obtain ⟨e0, e1, -⟩ := hSw; go_simp; try with_reducible rfl
          simp only [Act.put, rgA, rgB, rgC, rgD, rgE, rgF]
          refine wpAnyT_loadW (i := 14) (v := ?_) rfl (by kernel_rfl) (by kernel_rfl) (by kernel_rfl) (by kernel_rfl) (by kernel_rfl) (fun _ _ _ h => h) (Or.inl ⟨by rfl, ?_⟩) hSss4 ?_
          rotate_left
          · intro w hSw; obtain ⟨e0, e1, -⟩ := hSw; go_simp; try with_reducible rfl
          simp only [Act.put, rgA, rgB, rgC, rgD, rgE, rgF]
          refine wpAnyT_pure (i := 15) (v := (.int .i64 (xn + zn))) rfl (by kernel_rfl) (by kernel_rfl) (by kernel_rfl) (fun _ _ _ h => h) (by rfl) ?_ ?_
          · intro w; go_simp; rw [IntKind.wrap_i64] <;> omega
          simp only [Act.put, rgA, rgB, rgC, rgD, rgE, rgF]
          refine wpAnyT_one (i := 16) (by kernel_rfl) rfl (by rfl) ?_
          refine wp_enter (f := 44) (args := #[.int .i64 (xn + zn)]) (by go_simp) (rsize28 _ _ (by omega)) ?_
          rw [HD2.out]
          rintro e w7 ⟨rfl, hw7⟩
          have hw8 := hw7.symm
          subst hw8
          refine ⟨_, rfl, fun _ h => h, ?_⟩
          try simp only [Act.put, rgA, rgB, rgC, rgD, rgE, rgF]
          refine wpAnyT_pure (i := 17) (v := ?_) rfl (by kernel_rfl) (by kernel_rfl) (by kernel_rfl) (fun _ _ _ h => h) (by rfl) ?_ ?_
          rotate_left
          · intro w; go_simp; try with_reducible rfl
          simp only [Act.put, rgA, rgB, rgC, rgD, rgE, rgF]
          refine wpAnyT_pure (i := 18) (v := ?_) rfl (by kernel_rfl) (by kernel_rfl) (by kernel_rfl) (fun _ _ _ h => h) (by rfl) ?_ ?_
          rotate_left
          · intro w; go_simp; try with_reducible rfl
          simp only [Act.put, rgA, rgB, rgC, rgD, rgE, rgF]
          refine wpAnyT_pure (i := 19) (v := ?_) rfl (by kernel_rfl) (by kernel_rfl) (by kernel_rfl) (fun _ _ _ h => h) (by rfl) ?_ ?_
          rotate_left
          · intro w; go_simp; try with_reducible rfl
          simp only [Act.put, rgA, rgB, rgC, rgD, rgE, rgF]
          refine wpAnyT_done (by kernel_rfl) ?_ _
          obtain ⟨wF, rfl⟩ : ∃ q, q = s4 := ⟨_, rfl⟩
          have HBF := Lib.hid (below_step HBE.out hB_0_s4)
          have HDT := Lib.hid hdt
          have HJ := Lib.hid hj
          clear hdt hj hj0
          by_cases hdd : d < d2
          · have HDD := Lib.hid hdd
            go_wp2_with fail
            go_roundw
            case rel =>
              refine ⟨k + 1, (k : Int), HKL.out, by go_num, rfl, ?_, HBF.out⟩
              unfold BestP
              rw [HTK.out, HBJ.out]
              unfold bestS
              simp only [HD.out]
              rw [if_pos HDT.out, ← HLJ.out]
              simp only [HD2.out]
              rw [if_pos HDD.out]
              exact .inr ⟨k, by omega, rfl, by rw [HLK.out]⟩
            case measure => have := HKL.out; simp [intOf]; try omega
          · have HDD := Lib.hid hdd
            go_wp2_with fail
            go_roundw
            case rel =>
              refine ⟨k + 1, (j : Int), HKL.out, by go_num, rfl, ?_, HBF.out⟩
              unfold BestP
              rw [HTK.out, HBJ.out]
              unfold bestS
              simp only [HD.out]
              rw [if_pos HDT.out, ← HLJ.out]
              simp only [HD2.out]
              rw [if_neg HDD.out]
              exact .inr ⟨j, by have := HJ.out; omega, rfl, by rw [HLJ.out]⟩
            case measure => have := HKL.out; simp [intOf]; try omega
    · obtain rfl : k = l.length := by omega
      have hkI : ¬ ((l.length : Nat) : Int) < (l.length : Int) := by omega
      have HBP := Lib.hid hbp
      clear hB hkl hk hbp
      go_wp2_with fail
      go_ret
      exact ⟨bi, rfl, HBP.out, by have h := HBW.out; rw [hbx] at h; exact h⟩
end Go.Proofs.Ytpobckedeffjmaa
