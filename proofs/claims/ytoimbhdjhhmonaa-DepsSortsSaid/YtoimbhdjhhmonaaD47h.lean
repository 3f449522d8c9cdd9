/- Layer 47: Affected. -/
import Derived.Test.YtoimbhdjhhmonaaD47s
import Derived.Test.YtoimbhdjhhmonaaD47m
set_option linter.unusedSimpArgs false
namespace Go.Proofs.Ytoimbhdjhhmonaa
open Go.RowKit Go

theorem visit47 {F : Nat → Nat} {p mr ms nn K : Nat} {rd : C4 → Option (List C4)} {U : List C4} {N gB sB vB sb : Nat} (hFs : F sb = 0) (hU : ∀ c d, rsOf rd c d = true → d ∈ U) (hNN : N ≤ 1000000) : ∀ n, VisC F p mr ms nn K rd U N gB sB vB sb n
  | 0 => fun w c vis m _ _ _ _ _ h => absurd h (Nat.not_lt_zero _)
  | n + 1 => visit_step hFs hU hNN n (visit47 hFs hU hNN n)
/-- What is closed under readers holds all that is reached. -/
theorem Rch.sub {rs : C4 → C4 → Bool} {vis : C4 → Bool} {c x : C4} (h : Rch rs c x) (h0 : ∀ d, rs c d = true → vis d = true) (h1 : ∀ y, vis y = true → ∀ d, rs y d = true → vis d = true) : vis x = true := by
  induction h with
  | one h' => exact h0 _ h'
  | step _ h' ih => exact h1 _ ih _ h'
def AffP (w : World) (N : Nat) (rd : C4 → Option (List C4)) (l : List C4) (e : Ending) (w' : World) : Prop :=
  ∃ v ys, e = .returned v ∧ Srt ys ∧ (∀ x ∈ ys, x.ok) ∧ (∀ x : C4, x.ok → (x ∈ ys ↔ ∃ c ∈ l, Rch (rsOf rd) c x)) ∧ ys.length ≤ N ∧ SlC w.heap.size w' v ys ∧ Below w.heap.size w w'
set_option maxRecDepth 20000 in
set_option maxHeartbeats 2000000 in
theorem affected47 {F : Nat → Nat} {S : Nat → Prop} (w : World) {p mr ms n K : Nat} {rd : C4 → Option (List C4)} (h : DepI F w p mr ms n K rd) {U : List C4} (hU : ∀ c d, rsOf rd c d = true → d ∈ U) (hUl : U.length ≤ 1000000)
    (a : Option Addr) (cap : Nat) (l : List C4) (hx : Rd (.sl cellT) S w [.slice a l.length cap] (l.map C4.d)) (hS : ∀ b, S b → b < w.heap.size) (hll : l.length ≤ 1000) :
    Calls Try.prog 13 #[.pointer (some ⟨p, 0, none⟩), .slice a l.length cap] w (AffP w U.length rd l) := by
  have hmm := fun w => @run_makeMap Try.prog w
  have HI := Lib.hid h
  have HU := Lib.hid hU
  have HUL := Lib.hid hUl
  have HX := Lib.hid hx
  have HS := Lib.hid hS
  clear h hU hUl hx hS
  go_enter Try.func13, Try.ntmps13
  go_upto_region 5 with fail
  obtain ⟨w1, hw1⟩ : ∃ x, x = w.alloc (.cells #[.pointer (some ⟨p, 0, none⟩)] 26) := ⟨_, rfl⟩
  obtain ⟨w2, hw2⟩ : ∃ x, x = w1.alloc (.map #[] 0) := ⟨_, rfl⟩
  obtain ⟨w3, hw3⟩ : ∃ x, x = w2.alloc (.cells #[.map (some (w.heap.size + 1))] 57) := ⟨_, rfl⟩
  obtain ⟨w4, hw4⟩ : ∃ x, x = w3.alloc (.cells #[.nilFunc] 58) := ⟨_, rfl⟩
  have e1 : w1.heap.size = w.heap.size + 1 := by rw [hw1]; simp
  have e2 : w2.heap.size = w.heap.size + 1 + 1 := by rw [hw2, World.size_alloc, e1]
  have e3 : w3.heap.size = w.heap.size + 1 + 1 + 1 := by rw [hw3, World.size_alloc, e2]
  have g1 : w1.heap[w.heap.size]? = some (.cells #[.pointer (some ⟨p, 0, none⟩)] 26 (0, 0)) := by rw [hw1]; exact heap_alloc_new w _
  have g3 := heap_alloc_new w2 (.cells #[.map (some (w.heap.size + 1))] 57)
  have g4 := heap_alloc_new w3 (.cells #[.nilFunc] 58)
  have b1 : Below w.heap.size w w1 := hw1 ▸ (Below.refl _ w).alloc (Nat.le_refl _) _
  have b2 : Below w1.heap.size w1 w2 := hw2 ▸ (Below.refl _ w1).alloc (Nat.le_refl _) _
  have b3 : Below w2.heap.size w2 w3 := hw3 ▸ (Below.refl _ w2).alloc (Nat.le_refl _) _
  have b4 : Below w3.heap.size w3 w4 := hw4 ▸ (Below.refl _ w3).alloc (Nat.le_refl _) _
  have m2 : MapG cellK boolE w2 w1.heap.size 0 (fun _ => none) := hw2 ▸ MapG.made w1
  rw [← hw3] at g3
  rw [← hw4] at g4
  rw [e2] at g3
  rw [e3] at g4
  rw [e1] at m2
  rw [← hw1, ← hw2, ← hw3, ← hw4]
  have f0 := blk_cell g4 0
  have f1 := blk_frozen g4 0
  simp only [List.getElem?_toArray, List.getElem?_cons_zero] at f0
  have HE := Lib.hid (And.intro e1 (And.intro e2 e3))
  have HGG := Lib.hid (And.intro g1 (And.intro g3 g4))
  have HBB := Lib.hid (And.intro b1 (And.intro b2 (And.intro b3 b4)))
  have HM2 := Lib.hid m2
  clear hw1 hw2 hw3 hw4 e1 e2 e3 g1 g3 g4 b1 b2 b3 b4 m2
  have hst : ∀ (x : Fn) (y z : Array Value) (ad : Addr) (m : Mode) (W : World), (store ad (.func x y z) m).run Try.prog W = stored Try.prog W ad (.func x y z) m := fun x y z ad m W => run_store Try.prog W ad _ m rfl
  go_upto_region 6 with fail
  clear hst f0 f1
  obtain ⟨w5, hw5⟩ : ∃ x, x = w4.setCell ⟨w.heap.size + 1 + 1 + 1, 0, none⟩ (.func (.func 34) #[] #[.pointer (some ⟨w.heap.size, 0, none⟩), .pointer (some ⟨w.heap.size + 1 + 1, 0, none⟩), .pointer (some ⟨w.heap.size + 1 + 1 + 1, 0, none⟩)]) := ⟨_, rfl⟩
  have G5 : Gr (fun b => b = w.heap.size + 1 + 1 + 1) w4 w5 := by rw [hw5]; exact (Gr.refl (fun b => b = w.heap.size + 1 + 1 + 1) w4).setCell (p := ⟨w.heap.size + 1 + 1 + 1, 0, none⟩) (.inl rfl) _
  have HB5 := Lib.hid (show Below w.heap.size w w5 from by
    obtain ⟨b1, b2, b3, b4⟩ := HBB.out
    obtain ⟨e1, e2, e3⟩ := HE.out
    exact ((b1.trans (b2.mono (by omega))).trans ((b3.mono (by omega)).trans (b4.mono (by omega)))).trans (G5.below (fun b e => by omega) (by have := b4.size; omega)))
  have HV5 := Lib.hid (show VisAt w5 p w.heap.size (w.heap.size + 1 + 1) (w.heap.size + 1 + 1 + 1) (w.heap.size + 1) from by
    obtain ⟨b1, b2, b3, b4⟩ := HBB.out
    obtain ⟨e1, e2, e3⟩ := HE.out
    obtain ⟨g1, g3, g4⟩ := HGG.out
    refine ⟨blk_gr G5 ((b4.block _ (by omega)).trans ((b3.block _ (by omega)).trans ((b2.block _ (by omega)).trans g1))) (by omega), blk_gr G5 ((b4.block _ (by omega)).trans g3) (by omega), ?_, by omega, by omega, by omega⟩
    have := blk_set (i := 0) g4 (.func (.func 34) #[] #[.pointer (some ⟨w.heap.size, 0, none⟩), .pointer (some ⟨w.heap.size + 1 + 1, 0, none⟩), .pointer (some ⟨w.heap.size + 1 + 1 + 1, 0, none⟩)])
    rw [← hw5] at this
    simpa using this)
  have HM5 := Lib.hid (show MapG cellK boolE w5 (w.heap.size + 1) 0 (setF (fun _ => false)) from by
    obtain ⟨b1, b2, b3, b4⟩ := HBB.out
    obtain ⟨e1, e2, e3⟩ := HE.out
    exact (((HM2.out.below b3).below b4).gr G5 (by omega)).congr (fun x _ => rfl))
  have HI5 := Lib.hid (HI.out.below HB5.out)
  rw [← hw5]
  clear hw5 G5
  have hl5 := hll
  have HFS := Lib.hid (show F (w.heap.size + 1) = 0 ∧ F w.heap.size = 0 from by
    obtain ⟨k, sl, ib, hD, -⟩ := HI.out
    constructor
    · by_cases e : F (w.heap.size + 1) = 0
      · exact e
      · have := hD.dom _ e; omega
    · by_cases e : F w.heap.size = 0
      · exact e
      · have := hD.dom _ e; omega)
  have HV := Lib.hid (visit47 (F := F) (p := p) (mr := mr) (ms := ms) (nn := n) (K := K) (rd := rd) (U := U) (N := U.length) (gB := w.heap.size) (sB := w.heap.size + 1 + 1) (vB := w.heap.size + 1 + 1 + 1) (sb := w.heap.size + 1) HFS.out.1 HU.out HUL.out)
  go_wp2_with fail
  go_loopw [8, 15] (fun _ i wr => ∃ (j : Nat) (vis : C4 → Bool) (m : Nat), j ≤ l.length ∧ i = .int .i64 j ∧ MapG cellK boolE wr (w.heap.size + 1) m (setF vis) ∧ m + fr U vis ≤ U.length ∧ (∀ c ∈ l.take j, ∀ d, rsOf rd c d = true → vis d = true) ∧ (∀ x, vis x = true → (∃ c ∈ l.take j, Rch (rsOf rd) c x) ∧ ∀ d, rsOf rd x d = true → vis d = true) ∧ Gr (fun b => b = w.heap.size + 1) w5 wr) (fun _ i _ => l.length - (intOf i).toNat)
  case atStart => exact ⟨0, _, 0, Nat.zero_le _, rfl, HM5.out, by unfold fr; rw [Nat.zero_add]; exact List.length_filter_le _ _, (fun c hc => by simp at hc), (fun x hx => by cases hx), Gr.refl _ _⟩
  case round =>
    obtain ⟨j, vis, m, hj, rfl, hM, hmN, hrd, hvs, hG⟩ := hrel
    have HMr := Lib.hid hM
    have HMN := Lib.hid hmN
    have HRD := Lib.hid hrd
    have HVS := Lib.hid hvs
    have HG := Lib.hid hG
    have HBr := Lib.hid (show Below w.heap.size w wr from HB5.out.trans (hG.below (fun b e => by omega) HB5.out.size))
    clear hM hmN hrd hvs hG
    by_cases hlt : j < l.length
    · have hjI : (j : Int) < (l.length : Int) := by omega
      obtain ⟨b, o, rfl, -, m0, m1, m2, m3, hqok⟩ := cell_at (HX.out.below HBr.out HS.out) j hlt
      have HTK := Lib.hid (show l.take (j + 1) = l.take j ++ [l[j]] from List.take_succ_eq_append_getElem hlt)
      have HQ := Lib.hid hqok
      clear hqok
      generalize l[j] = q at m0 m1 m2 m3 HTK HQ
      obtain ⟨q1, q2, q3, q4⟩ := q
      simp only at m0 m1 m2 m3
      have hBa := (Below.refl wr.heap.size wr).alloc (Nat.le_refl _) (.cells #[.int .i64 q1, .int .i64 q2, .int .i64 q3, .int .i64 q4] 38)
      have hqb := heap_alloc_new wr (.cells #[.int .i64 q1, .int .i64 q2, .int .i64 q3, .int .i64 q4] 38)
      have hGa := HG.out.step hBa
      have hVa := HV5.out.gr hGa
      have hih := HV.out (fr U vis + 1) _ ⟨q1, q2, q3, q4⟩ vis m HQ.out (HI5.out.gr hGa (fun y hy e => hy (e ▸ HFS.out.1))) hVa (HMr.out.below hBa) HMN.out (Nat.lt_succ_self _)
      unfold C4.v at hih
      simp only at hih
      have HIH := Lib.hid hih
      have HGa := Lib.hid hGa
      have z0 := blk_cell hVa.v 0
      have k0 := blk_cell hqb 0
      have k1 := blk_cell hqb 1
      have k2 := blk_cell hqb 2
      have k3 := blk_cell hqb 3
      simp only [List.getElem?_toArray, List.getElem?_cons_zero, List.getElem?_cons_succ] at k0 k1 k2 k3 z0
      clear hBa hqb hGa hVa hih
      go_upto_region 9 with fail
      generalize World.alloc _ _ = wa at *
      go_wp2_with (go_at_call 34; refine HIH.out.mono ?_; rintro e wz ⟨rfl, hGz, mz, visz, hMz, hNz, hmo, hrd, hnw⟩; have HGz := Lib.hid hGz; have HMz := Lib.hid hMz; have HNz := Lib.hid hNz; have HMOz := Lib.hid hmo; have HRDz := Lib.hid hrd; have HNWz := Lib.hid hnw; clear hGz hMz hNz hmo hrd hnw z0 k0 k1 k2 k3 m0 m1 m2 m3)
      go_roundw
      case rel =>
        refine ⟨j + 1, visz, mz, by omega, by go_num, HMz.out, HNz.out, fun c hc d hd => ?_, fun x hx => ?_, HGa.out.trans HGz.out (fun y e => .inl e)⟩
        · rw [HTK.out, List.mem_append, List.mem_singleton] at hc
          rcases hc with hc | rfl
          · exact HMOz.out d (HRD.out c hc d hd)
          · exact HRDz.out d hd
        · cases hv : vis x with
          | true =>
            obtain ⟨⟨c, hc, hr⟩, h2⟩ := HVS.out x hv
            exact ⟨⟨c, by rw [HTK.out]; exact List.mem_append.2 (.inl hc), hr⟩, fun d hd => HMOz.out d (h2 d hd)⟩
          | false =>
            obtain ⟨h1, h2⟩ := HNWz.out x hx hv
            exact ⟨⟨_, by rw [HTK.out]; exact List.mem_append.2 (.inr (List.mem_singleton.2 rfl)), h1⟩, h2⟩
      case measure => simp [intOf]; omega
    · obtain rfl : j = l.length := by omega
      have hVr := HV5.out.gr HG.out
      have s0 := blk_cell hVr.s 0
      simp only [List.getElem?_toArray, List.getElem?_cons_zero] at s0
      have HO := Lib.hid (ordered47 wr (w.heap.size + 1) m _ HMr.out (by have := HMN.out; have := HUL.out; omega))
      clear hVr
      go_wp2_with fail
      refine HO.out.mono ?_
      rintro e w9 ⟨v, ys, rfl, h2, h3, h4, h5, h6, h7⟩
      obtain ⟨va, vc, rfl⟩ := h6.form
      have HZ := Lib.hid (And.intro h2 (And.intro h3 (And.intro h4 (And.intro h5 (And.intro h6 h7)))))
      clear h2 h3 h4 h5 h6 h7 s0
      go_wp2_with fail
      go_ret
      obtain ⟨h2, h3, h4, h5, h6, h7⟩ := HZ.out
      refine ⟨_, ys, rfl, h2, h3, fun x hx => ?_, by have := HMN.out; omega, h6.mono HBr.out.size, below_step HBr.out h7⟩
      rw [h4 x hx, setF_isSome]
      have hrd := HRD.out
      have hvs := HVS.out
      rw [List.take_length] at hrd hvs
      constructor
      · intro hv
        exact (hvs x hv).1
      · rintro ⟨c, hc, hr⟩
        exact hr.sub (hrd c hc) (fun y hy => (hvs y hy).2)
end Go.Proofs.Ytoimbhdjhhmonaa

/- Layer 47: the nil graph. -/
set_option linter.unusedSimpArgs false
namespace Go.Proofs.Ytoimbhdjhhmonaa
open Go.RowKit Go

end Go.Proofs.Ytoimbhdjhhmonaa

/- Layer 47, plain: the reference's graph, a list of entries. -/
namespace Go.Proofs.Ytoimbhdjhhmonaa
open Go.RowKit Go

/-- An entry: a cell with its reads. -/
abbrev En4 := C4 × List C4
/-- The reads of a cell. -/
def lkG (G : List En4) (c : C4) : Option (List C4) := (G.find? (fun e => decide (e.1 = c))).map (·.2)
def delG (G : List En4) (c : C4) : List En4 := G.filter (fun e => !decide (e.1 = c))
def setG (G : List En4) (c : C4) (l : List C4) : List En4 := delG G c ++ [(c, srtC l)]
/-- A graph as it comes about by calls. -/
structure GI (m : Nat) (G : List En4) : Prop where
  nd : (G.map (·.1)).Nodup
  srt : ∀ e ∈ G, Srt e.2
  okc : ∀ e ∈ G, e.1.ok
  okr : ∀ e ∈ G, ∀ x ∈ e.2, x.ok
  len : ∀ e ∈ G, e.2.length ≤ 30
  num : G.length ≤ m
theorem GI.nil : GI 0 [] := ⟨List.nodup_nil, fun _ h => (by cases h), fun _ h => (by cases h), fun _ h => (by cases h), fun _ h => (by cases h), Nat.le_refl _⟩
theorem GI.mono {m m' : Nat} {G : List En4} (h : GI m G) (hm : m ≤ m') : GI m' G := ⟨h.nd, h.srt, h.okc, h.okr, h.len, Nat.le_trans h.num hm⟩
theorem lkG_none {G : List En4} {c : C4} : lkG G c = none ↔ ∀ e ∈ G, e.1 ≠ c := by
  unfold lkG
  rw [Option.map_eq_none_iff, List.find?_eq_none]
  simp
theorem lkG_mem {G : List En4} {c : C4} {l : List C4} (h : lkG G c = some l) : (c, l) ∈ G := by
  unfold lkG at h
  rw [Option.map_eq_some_iff] at h
  obtain ⟨⟨a, b⟩, h1, rfl⟩ := h
  have h2 := List.find?_some h1
  simp at h2
  subst h2
  exact List.mem_of_find?_eq_some h1
theorem lkG_of_mem {m : Nat} {G : List En4} (h : GI m G) {e : En4} (he : e ∈ G) : lkG G e.1 = some e.2 := by
  have hnd := h.nd
  clear h
  unfold lkG
  induction G with
  | nil => cases he
  | cons a G ih =>
    rw [List.map_cons, List.nodup_cons] at hnd
    rw [List.find?_cons]
    rcases List.mem_cons.1 he with rfl | he
    · simp
    · have hne : a.1 ≠ e.1 := fun e' => hnd.1 (e' ▸ List.mem_map.2 ⟨e, he, rfl⟩)
      simp only [hne, decide_false]
      exact ih he hnd.2
theorem delG_len (G : List En4) (c : C4) : (delG G c).length ≤ G.length := List.length_filter_le _ _
theorem mem_delG {G : List En4} {c : C4} {e : En4} : e ∈ delG G c ↔ e ∈ G ∧ e.1 ≠ c := by
  unfold delG
  rw [List.mem_filter]
  simp
theorem find_filter_ne {G : List En4} {c x : C4} (h : x ≠ c) : (delG G c).find? (fun e => decide (e.1 = x)) = G.find? (fun e => decide (e.1 = x)) := by
  unfold delG
  induction G with
  | nil => rfl
  | cons a G ih =>
    rw [List.filter_cons]
    by_cases e : a.1 = c
    · simp only [e, decide_true, Bool.not_true, Bool.false_eq_true, if_false]
      rw [ih, List.find?_cons]
      have : ¬ a.1 = x := fun e' => h (e' ▸ e)
      simp [this]
    · simp only [e, decide_false, Bool.not_false, if_true]
      rw [List.find?_cons, List.find?_cons, ih]
theorem lkG_del (G : List En4) (c x : C4) : lkG (delG G c) x = if x = c then none else lkG G x := by
  by_cases h : x = c
  · rw [if_pos h, lkG_none]
    intro e he
    rw [h]
    exact (mem_delG.1 he).2
  · rw [if_neg h]
    unfold lkG
    rw [find_filter_ne h]
theorem lkG_set (G : List En4) (c : C4) (l : List C4) (x : C4) : lkG (setG G c l) x = setR (lkG G) c l x := by
  unfold setR
  by_cases h : x = c
  · subst h
    rw [if_pos rfl]
    unfold lkG setG
    rw [List.find?_append]
    have h0 : (delG G x).find? (fun e => decide (e.1 = x)) = none := by
      rw [List.find?_eq_none]
      intro e he
      simp [(mem_delG.1 he).2]
    rw [h0]
    simp
  · rw [if_neg h]
    unfold lkG setG
    rw [List.find?_append, find_filter_ne h]
    have h0 : ([(c, srtC l)] : List En4).find? (fun e => decide (e.1 = x)) = none := by
      rw [List.find?_eq_none]
      intro e he
      rw [List.mem_singleton] at he
      subst he
      simp
      exact fun e => h e.symm
    rw [h0, Option.or_none]
theorem GI.del {m : Nat} {G : List En4} (h : GI m G) (c : C4) : GI m (delG G c) where
  nd := h.nd.sublist (List.filter_sublist.map _)
  srt := fun e he => h.srt e (mem_delG.1 he).1
  okc := fun e he => h.okc e (mem_delG.1 he).1
  okr := fun e he => h.okr e (mem_delG.1 he).1
  len := fun e he => h.len e (mem_delG.1 he).1
  num := Nat.le_trans (delG_len G c) h.num
theorem GI.set {m : Nat} {G : List En4} (h : GI m G) {c : C4} (hc : c.ok) {l : List C4} (hl : ∀ x ∈ l, x.ok) (hlen : l.length ≤ 30) : GI (m + 1) (setG G c l) := by
  have hd := h.del c
  have hm : ∀ e, e ∈ setG G c l → e ∈ delG G c ∨ e = (c, srtC l) := fun e he => by
    unfold setG at he
    rw [List.mem_append, List.mem_singleton] at he
    exact he
  refine ⟨?_, fun e he => ?_, fun e he => ?_, fun e he => ?_, fun e he => ?_, ?_⟩
  · unfold setG
    rw [List.map_append, List.nodup_append]
    refine ⟨hd.nd, by simp, fun a ha b hb => ?_⟩
    obtain ⟨e, he, rfl⟩ := List.mem_map.1 ha
    simp at hb
    subst hb
    exact (mem_delG.1 he).2
  · rcases hm e he with h | rfl
    · exact hd.srt e h
    · exact srt_srtC l
  · rcases hm e he with h | rfl
    · exact hd.okc e h
    · exact hc
  · rcases hm e he with h | rfl
    · exact hd.okr e h
    · exact fun x hx => hl x (mem_srtC.1 hx)
  · rcases hm e he with h | rfl
    · exact hd.len e h
    · exact Nat.le_trans (srtC_len l) hlen
  · unfold setG
    rw [List.length_append, List.length_singleton]
    have := hd.num
    omega
/-- y reads d. -/
theorem rsOf_lkG {m : Nat} {G : List En4} (h : GI m G) (d y : C4) : rsOf (lkG G) d y = true ↔ ∃ e ∈ G, e.1 = y ∧ d ∈ e.2 := by
  unfold rsOf
  constructor
  · intro h1
    cases hl : lkG G y with
    | none => rw [hl] at h1; cases h1
    | some l =>
      rw [hl] at h1
      exact ⟨_, lkG_mem hl, rfl, of_decide_eq_true h1⟩
  · rintro ⟨e, he, rfl, hd⟩
    rw [lkG_of_mem h he]
    exact decide_eq_true hd
theorem GI.srtL {m : Nat} {G : List En4} (h : GI m G) {c : C4} {l : List C4} (hl : lkG G c = some l) : Srt l := h.srt _ (lkG_mem hl)
def cellsG (G : List En4) : List C4 := srtC (G.flatMap (fun e => e.1 :: e.2))
theorem mem_cellsG {m : Nat} {G : List En4} (h : GI m G) {x : C4} : x ∈ cellsG G ↔ (lkG G x).isSome = true ∨ ∃ y, rsOf (lkG G) x y = true := by
  unfold cellsG
  rw [mem_srtC, List.mem_flatMap]
  constructor
  · rintro ⟨e, he, hx⟩
    rcases List.mem_cons.1 hx with rfl | hx
    · left; rw [lkG_of_mem h he]; rfl
    · right; exact ⟨e.1, (rsOf_lkG h _ _).2 ⟨e, he, rfl, hx⟩⟩
  · rintro (h1 | ⟨y, h1⟩)
    · cases hl : lkG G x with
      | none => rw [hl] at h1; cases h1
      | some l => exact ⟨_, lkG_mem hl, List.mem_cons_self⟩
    · obtain ⟨e, he, -, hd⟩ := (rsOf_lkG h _ _).1 h1
      exact ⟨e, he, List.mem_cons_of_mem _ hd⟩
theorem cellsG_ok {m : Nat} {G : List En4} (h : GI m G) {x : C4} (hx : x ∈ cellsG G) : x.ok := by
  unfold cellsG at hx
  rw [mem_srtC, List.mem_flatMap] at hx
  obtain ⟨e, he, hx⟩ := hx
  rcases List.mem_cons.1 hx with rfl | hx
  · exact h.okc e he
  · exact h.okr e he x hx
/-! ### Put, step by step -/
theorem Srt.snoc {l : List C4} {y : C4} (h : Srt (l ++ [y])) : Srt l ∧ ∀ x ∈ l, ltC x y := by
  rw [Srt, List.pairwise_append] at h
  exact ⟨h.1, fun x hx => h.2.2 x hx y (by simp)⟩
theorem Srt.of_snoc {l : List C4} {y : C4} (h : Srt l) (hy : ∀ x ∈ l, ltC x y) : Srt (l ++ [y]) := by
  rw [Srt, List.pairwise_append]
  exact ⟨h, List.pairwise_singleton _ _, fun x hx z hz => by rw [List.mem_singleton] at hz; subst hz; exact hy x hx⟩
theorem insC_end {l : List C4} {c : C4} (h : Srt l) (hc : ∀ x ∈ l, ltC x c) : insC l c = l ++ [c] :=
  (h.ins c).ext (h.of_snoc hc) fun x => by rw [mem_insC, List.mem_append, List.mem_singleton]; exact Or.comm
theorem insC_mid {l : List C4} {c y : C4} (h : Srt (l ++ [y])) (hc : ∀ x ∈ l, ltC x c) (hy : ltC c y) : insC (l ++ [y]) c = l ++ [c] ++ [y] :=
  (h.ins c).ext ((h.snoc.1.of_snoc hc).of_snoc fun x hx => by
    rw [List.mem_append, List.mem_singleton] at hx
    rcases hx with hx | rfl
    · exact h.snoc.2 x hx
    · exact hy) fun x => by
    simp only [mem_insC, List.mem_append, List.mem_singleton]
    constructor
    · rintro (h | h | h)
      · exact .inl (.inr h)
      · exact .inl (.inl h)
      · exact .inr h
    · rintro ((h | h) | h)
      · exact .inr (.inl h)
      · exact .inl h
      · exact .inr (.inr h)
theorem insC_same {l : List C4} {c : C4} : insC (l ++ [c]) c = l ++ [c] := by
  unfold insC
  rw [if_pos (by simp)]
theorem insC_done {l : List C4} {c y : C4} (h : Srt (l ++ [y])) (hd : ∃ x ∈ l, ¬ ltC x c) : insC (l ++ [y]) c = insC l c ++ [y] := by
  obtain ⟨z, hz, hzc⟩ := hd
  have hcy : ltC c y := by
    rcases ltC_tot z c with h1 | h1 | h1
    · exact absurd h1 hzc
    · rw [← h1]; exact h.snoc.2 z hz
    · exact ltC_trans h1 (h.snoc.2 z hz)
  refine (h.ins c).ext ((h.snoc.1.ins c).of_snoc fun x hx => ?_) fun x => ?_
  · rw [mem_insC] at hx
    rcases hx with rfl | hx
    · exact hcy
    · exact h.snoc.2 x hx
  · simp only [mem_insC, List.mem_append, List.mem_singleton]
    exact or_assoc.symm
/-- What stands behind a number of cells; whether the cell is in. -/
def putD (l : List C4) (c : C4) : Bool := l.any (fun x => !decide (ltC x c))
def putL (l : List C4) (c : C4) : List C4 := if putD l c then insC l c else l
theorem putD_iff {l : List C4} {c : C4} : putD l c = true ↔ ∃ x ∈ l, ¬ ltC x c := by unfold putD; rw [List.any_eq_true]; simp
theorem putD_not {l : List C4} {c : C4} : putD l c = false ↔ ∀ x ∈ l, ltC x c := by
  rw [← Bool.not_eq_true, putD_iff]
  simp
theorem putD_snoc (l : List C4) (c y : C4) : putD (l ++ [y]) c = (putD l c || decide (cfC c y ≤ 0)) := by
  unfold putD
  rw [List.any_append]
  congr 1
  simp only [List.any_cons, List.any_nil, Bool.or_false]
  have h1 := cfC_lt c y
  have h2 := cfC_zero c y
  rcases ltC_tot y c with h | h | h
  · have h3 : ¬ ltC c y := ltC_asym h
    have h4 : y ≠ c := ltC_ne h
    have : ¬ cfC c y ≤ 0 := by
      intro h5
      rcases Int.lt_or_eq_of_le h5 with h5 | h5
      · exact h3 (h1.1 h5)
      · exact h4 (h2.1 h5).symm
    simp [h, this]
  · subst h
    have := h2.2 rfl
    simp [ltC_irr, this]
  · have h3 := h1.2 h
    have : cfC c y ≤ 0 := by omega
    simp [ltC_asym h, this]
theorem putL_snoc {l : List C4} {c y : C4} (h : Srt (l ++ [y])) : putL (l ++ [y]) c = (if (decide (cfC c y < 0) && !putD l c) = true then putL l c ++ [c] else putL l c) ++ [y] := by
  have h1 := cfC_lt c y
  have h2 := cfC_zero c y
  cases hd : putD l c with
  | true =>
    have e : putD (l ++ [y]) c = true := by rw [putD_snoc, hd]; rfl
    unfold putL
    rw [e, hd]
    simp only [if_true, Bool.not_true, Bool.and_false, Bool.false_eq_true, if_false]
    exact insC_done h (putD_iff.1 hd)
  | false =>
    have hn := putD_not.1 hd
    by_cases hlt : cfC c y < 0
    · have e : putD (l ++ [y]) c = true := by rw [putD_snoc, hd]; simp; omega
      unfold putL
      rw [e, hd]
      simp only [if_true, hlt, decide_true, Bool.not_false, Bool.and_self, Bool.false_eq_true, if_false]
      exact insC_mid h hn (h1.1 hlt)
    · by_cases h0 : cfC c y = 0
      · obtain rfl := h2.1 h0
        have e : putD (l ++ [c]) c = true := by rw [putD_snoc, hd]; simp; omega
        unfold putL
        rw [e, hd]
        simp only [if_true, hlt, decide_false, Bool.false_and, Bool.false_eq_true, if_false]
        exact insC_same
      · have e : putD (l ++ [y]) c = false := by rw [putD_snoc, hd]; simp; omega
        unfold putL
        rw [e, hd]
        simp [hlt]
theorem putL_end {l : List C4} {c : C4} (h : Srt l) : (if putD l c then putL l c else putL l c ++ [c]) = insC l c := by
  cases hd : putD l c with
  | true => unfold putL; rw [hd]; rfl
  | false =>
    unfold putL
    rw [hd]
    exact (insC_end h (putD_not.1 hd)).symm
end Go.Proofs.Ytoimbhdjhhmonaa

/- Layer 47: the reference's Compare. -/
set_option linter.unusedSimpArgs false
set_option maxRecDepth 50000
namespace Go.Proofs.Ytoimbhdjhhmonaa
open Go.RowKit Go

def C4.at_ (c : C4) : Nat → Int
  | 0 => c.st
  | 1 => c.pe
  | 2 => c.en
  | _ => c.ot
theorem cmp_self (a : Int) : cmpI a a = 0 := by unfold cmpI; rw [if_neg (by omega), if_neg (by omega)]
theorem cmp_lt {a b : Int} (h : a < b) : cmpI a b = -1 := by unfold cmpI; rw [if_pos h]
theorem cmp_gt {a b : Int} (h : b < a) : cmpI a b = 1 := by unfold cmpI; rw [if_neg (by omega), if_pos h]
theorem cfC_first {x y : C4} {q : Nat} (hq : q < 4) (h : ∀ j, j < q → x.at_ j = y.at_ j) : (x.at_ q < y.at_ q → cfC x y = -1) ∧ (y.at_ q < x.at_ q → cfC x y = 1) := by
  obtain ⟨x1, x2, x3, x4⟩ := x
  obtain ⟨y1, y2, y3, y4⟩ := y
  unfold cfC
  match q, hq with
  | 0, _ =>
    simp only [C4.at_]
    exact ⟨fun h' => by rw [cmp_lt h']; rfl, fun h' => by rw [cmp_gt h']; rfl⟩
  | 1, _ =>
    have h0 := h 0 (by omega)
    simp only [C4.at_] at h0 ⊢
    subst h0
    exact ⟨fun h' => by rw [cmp_self, cmp_lt h']; rfl, fun h' => by rw [cmp_self, cmp_gt h']; rfl⟩
  | 2, _ =>
    have h0 := h 0 (by omega)
    have h1 := h 1 (by omega)
    simp only [C4.at_] at h0 h1 ⊢
    subst h0 h1
    exact ⟨fun h' => by rw [cmp_self, cmp_self, cmp_lt h']; rfl, fun h' => by rw [cmp_self, cmp_self, cmp_gt h']; rfl⟩
  | 3, _ =>
    have h0 := h 0 (by omega)
    have h1 := h 1 (by omega)
    have h2 := h 2 (by omega)
    simp only [C4.at_] at h0 h1 h2 ⊢
    subst h0 h1 h2
    exact ⟨fun h' => by rw [cmp_self, cmp_self, cmp_self, cmp_lt h']; rfl, fun h' => by rw [cmp_self, cmp_self, cmp_self, cmp_gt h']; rfl⟩
theorem cfC_all {x y : C4} (h : ∀ j, j < 4 → x.at_ j = y.at_ j) : cfC x y = 0 := by
  obtain ⟨x1, x2, x3, x4⟩ := x
  obtain ⟨y1, y2, y3, y4⟩ := y
  have h0 := h 0 (by omega)
  have h1 := h 1 (by omega)
  have h2 := h 2 (by omega)
  have h3 := h 3 (by omega)
  simp only [C4.at_] at h0 h1 h2 h3
  rw [cfC_zero]
  simp [h0, h1, h2, h3]
theorem row4_at {w : World} {b : Nat} {x : C4} {t : TypeId} (h : w.heap[b]? = some (.cells #[.int .i64 x.st, .int .i64 x.pe, .int .i64 x.en, .int .i64 x.ot] t (0, 0))) {q : Nat} (hq : q < 4) : w.cell? ⟨b, q, none⟩ = some (.int .i64 (x.at_ q)) := by
  rw [blk_cell h]
  match q, hq with
  | 0, _ => rfl
  | 1, _ => rfl
  | 2, _ => rfl
  | 3, _ => rfl
set_option maxHeartbeats 1000000 in
theorem rcompare47 (w : World) (x y : C4) :
    Calls Try.prog 57 #[x.v, y.v] w fun e w' => e = .returned (.int .i64 (cfC x y)) ∧ Below w.heap.size w w' := by
  have HF := Lib.hid (fun q (hq : q < 4) h => cfC_first (x := x) (y := y) hq h)
  have HA := Lib.hid (fun h => cfC_all (x := x) (y := y) h)
  generalize cfC x y = r at HF HA ⊢
  have hB := (Below.refl w.heap.size w).alloc (Nat.le_refl _) (.cells #[.int .i64 x.st, .int .i64 x.en, .int .i64 x.ot, .int .i64 x.pe] 38)
  have hB := hB.alloc hB.size (.cells #[.int .i64 y.st, .int .i64 y.en, .int .i64 y.ot, .int .i64 y.pe] 38)
  have hx := heap_alloc2_old w (.cells #[.int .i64 x.st, .int .i64 x.en, .int .i64 x.ot, .int .i64 x.pe] 38) (.cells #[.int .i64 y.st, .int .i64 y.en, .int .i64 y.ot, .int .i64 y.pe] 38)
  have hy := heap_alloc2_new w (.cells #[.int .i64 x.st, .int .i64 x.en, .int .i64 x.ot, .int .i64 x.pe] 38) (.cells #[.int .i64 y.st, .int .i64 y.en, .int .i64 y.ot, .int .i64 y.pe] 38)
  have HX := Lib.hid hx
  have HY := Lib.hid hy
  have HB := Lib.hid hB
  clear hB hx hy
  unfold C4.v
  go_enter Try.func57, Try.ntmps57
  go_upto_region 1 with fail
  generalize World.alloc (World.alloc w _) _ = w1 at *
  have y0 := blk_cell HX.out 0
  have y1 := blk_cell HX.out 1
  have y2 := blk_cell HX.out 2
  have y3 := blk_cell HX.out 3
  have z0 := blk_cell HY.out 0
  have z1 := blk_cell HY.out 1
  have z2 := blk_cell HY.out 2
  have z3 := blk_cell HY.out 3
  simp at y0 y1 y2 y3 z0 z1 z2 z3
  have H5 := Lib.hid (heap_alloc_new w1 (.cells #[.int .i64 x.st, .int .i64 x.pe, .int .i64 x.en, .int .i64 x.ot] 99))
  have HB5 := Lib.hid ((Below.refl w1.heap.size w1).alloc (Nat.le_refl _) (.cells #[.int .i64 x.st, .int .i64 x.pe, .int .i64 x.en, .int .i64 x.ot] 99))
  go_upto_region 2 with fail
  generalize World.alloc w1 _ = w2 at *
  have HY2 := Lib.hid ((HB5.out.block _ (blk_lt HY.out)).trans HY.out)
  clear y0 y1 y2 y3 z0 z1 z2 z3 HX HY
  have z0 := blk_cell HY2.out 0
  have z1 := blk_cell HY2.out 1
  have z2 := blk_cell HY2.out 2
  have z3 := blk_cell HY2.out 3
  simp at z0 z1 z2 z3
  have H6 := Lib.hid (heap_alloc_new w2 (.cells #[.int .i64 y.st, .int .i64 y.pe, .int .i64 y.en, .int .i64 y.ot] 99))
  have HB6 := Lib.hid ((Below.refl w2.heap.size w2).alloc (Nat.le_refl _) (.cells #[.int .i64 y.st, .int .i64 y.pe, .int .i64 y.en, .int .i64 y.ot] 99))
  go_upto_region 3 with fail
  generalize World.alloc w2 _ = w3 at *
  have HX3 := Lib.hid ((HB6.out.block _ (blk_lt H5.out)).trans H5.out)
  have HB3 := Lib.hid (below_step HB.out (below_step HB5.out HB6.out))
  obtain ⟨bx, hbx⟩ : ∃ b, w1.heap.size = b := ⟨_, rfl⟩
  obtain ⟨by_, hby⟩ : ∃ b, w2.heap.size = b := ⟨_, rfl⟩
  rw [hbx] at HX3 ⊢
  rw [hby] at H6 ⊢
  clear hbx hby z0 z1 z2 z3 HY2 H5 HB HB5 HB6
  go_wp2_with fail
  go_loopw [7] (fun i wr => ∃ q : Nat, q ≤ 4 ∧ i = .int .i64 q ∧ (∀ j, j < q → x.at_ j = y.at_ j) ∧ Below w3.heap.size w3 wr) (fun i _ => 4 - (intOf i).toNat)
  case atStart => exact ⟨0, by omega, rfl, fun j hj => absurd hj (by omega), Below.refl _ _⟩
  obtain ⟨q, hq, rfl, hno, hBr⟩ := hrel
  have HNO := Lib.hid hno
  have HBr := Lib.hid hBr
  clear hno
  by_cases hlt : q < 4
  · have hqI : (q : Int) < 4 := by omega
    have HLT := Lib.hid hlt
    have mx := row4_at ((hBr.block _ (blk_lt HX3.out)).trans HX3.out) hlt
    have my := row4_at ((hBr.block _ (blk_lt H6.out)).trans H6.out) hlt
    have HFQ := Lib.hid (HF.out q hlt HNO.out)
    have HNN := Lib.hid (show x.at_ q = y.at_ q → ∀ j, j < q + 1 → x.at_ j = y.at_ j from fun h j hj => by
      by_cases e : j = q
      · rw [e]; exact h
      · exact HNO.out j (by omega))
    generalize x.at_ q = a at mx HFQ HNN
    generalize y.at_ q = b at my HFQ HNN
    have hC0 : Cells [(⟨bx, q, none⟩, .int .i64 a), (⟨by_, q, none⟩, .int .i64 b)] wr := ⟨mx, my, trivial⟩
    clear mx my hBr hlt
    obtain ⟨lb, hlb⟩ : ∃ lb, decide (a < b) = lb := ⟨_, rfl⟩
    obtain ⟨gb, hgb⟩ : ∃ gb, decide (b < a) = gb := ⟨_, rfl⟩
    have HLB := Lib.hid hlb
    have HGB := Lib.hid hgb
    clear hlb hgb
    go_wp2_with fail
    refine wp_region_T (Cells [(⟨bx, q, none⟩, .int .i64 a), (⟨by_, q, none⟩, .int .i64 b)]) (fun _ => false) (by kernel_rfl) ?_
    have hSss1 := Cells.drew hC0
    have hB_0_s1 : Below wr.heap.size wr wr.drew := below_drew _
    generalize wr.drew = s1 at hSss1 hB_0_s1 ⊢
    have hB_s1_s1 := Below.refl s1.heap.size s1
    refine wpAnyT_pure (i := 0) (v := ?_) rfl (by kernel_rfl) (by kernel_rfl) (by kernel_rfl) (fun _ _ _ h => h) (by rfl) ?_ ?_
    rotate_left
    · intro w; go_simp; try with_reducible rfl
    simp only [Act.put, rgA, rgB, rgC, rgD, rgE, rgF]
    refine wpAnyT_pure (i := 1) (v := ?_) rfl (by kernel_rfl) (by kernel_rfl) (by kernel_rfl) (fun _ _ _ h => h) (by rfl) ?_ ?_
    rotate_left
    · intro w; go_simp; try with_reducible rfl
    simp only [Act.put, rgA, rgB, rgC, rgD, rgE, rgF]
    refine wpAnyT_pure (i := 3) (v := ?_) rfl (by kernel_rfl) (by kernel_rfl) (by kernel_rfl) (fun _ _ _ h => h) (by rfl) ?_ ?_
    rotate_left
    · intro w; go_simp; try with_reducible rfl
    simp only [Act.put, rgA, rgB, rgC, rgD, rgE, rgF]
    refine wpAnyT_pure (i := 4) (v := ?_) rfl (by kernel_rfl) (by kernel_rfl) (by kernel_rfl) (fun _ _ _ h => h) (by rfl) ?_ ?_
    rotate_left
    · intro w; go_simp; try with_reducible rfl
    simp only [Act.put, rgA, rgB, rgC, rgD, rgE, rgF]
    refine wpAnyT_loadW (i := 2) (v := ?_) rfl (by kernel_rfl) (by kernel_rfl) (by kernel_rfl) (by kernel_rfl) (by kernel_rfl) (fun _ _ _ h => h) (Or.inl ⟨by rfl, ?_⟩) hSss1 ?_
    rotate_left
    · intro w hSw; obtain ⟨e0, e1, -⟩ := hSw; go_simp; try with_reducible rfl
    simp only [Act.put, rgA, rgB, rgC, rgD, rgE, rgF]
    refine wpAnyT_loadW (i := 5) (v := ?_) rfl (by kernel_rfl) (by kernel_rfl) (by kernel_rfl) (by kernel_rfl) (by kernel_rfl) (fun _ _ _ h => h) (Or.inl ⟨by rfl, ?_⟩) hSss1 ?_
    rotate_left
    · intro w hSw; obtain ⟨e0, e1, -⟩ := hSw; go_simp; try with_reducible rfl
    simp only [Act.put, rgA, rgB, rgC, rgD, rgE, rgF]
    refine wpAnyT_pure (i := 6) (v := (.bool lb)) rfl (by kernel_rfl) (by kernel_rfl) (by kernel_rfl) (fun _ _ _ h => h) (by rfl) ?_ ?_
    · intro w; have hq := HLB.out; go_simp <;> exact hq
    simp only [Act.put, rgA, rgB, rgC, rgD, rgE, rgF]
    refine wpAnyT_done (by kernel_rfl) ?_ _
    have HB7 := Lib.hid (hB_0_s1.trans ((hB_s1_s1).mono (hB_0_s1).size))
    have hC1 := Cells.below HB7.out hC0
    obtain ⟨w7, rfl⟩ : ∃ x, x = s1 := ⟨_, rfl⟩
    cases lb
    · go_wp2_with fail
      refine wp_region_T (Cells [(⟨bx, q, none⟩, .int .i64 a), (⟨by_, q, none⟩, .int .i64 b)]) (fun _ => false) (by kernel_rfl) ?_
      have hSss2 := Cells.drew hC1
      have hB_0_s2 : Below w7.heap.size w7 w7.drew := below_drew _
      generalize w7.drew = s2 at hSss2 hB_0_s2 ⊢
      have hB_s2_s2 := Below.refl s2.heap.size s2
      refine wpAnyT_pure (i := 0) (v := ?_) rfl (by kernel_rfl) (by kernel_rfl) (by kernel_rfl) (fun _ _ _ h => h) (by rfl) ?_ ?_
      rotate_left
      · intro w; go_simp; try with_reducible rfl
      simp only [Act.put, rgA, rgB, rgC, rgD, rgE, rgF]
      refine wpAnyT_pure (i := 1) (v := ?_) rfl (by kernel_rfl) (by kernel_rfl) (by kernel_rfl) (fun _ _ _ h => h) (by rfl) ?_ ?_
      rotate_left
      · intro w; go_simp; try with_reducible rfl
      simp only [Act.put, rgA, rgB, rgC, rgD, rgE, rgF]
      refine wpAnyT_pure (i := 3) (v := ?_) rfl (by kernel_rfl) (by kernel_rfl) (by kernel_rfl) (fun _ _ _ h => h) (by rfl) ?_ ?_
      rotate_left
      · intro w; go_simp; try with_reducible rfl
      simp only [Act.put, rgA, rgB, rgC, rgD, rgE, rgF]
      refine wpAnyT_pure (i := 4) (v := ?_) rfl (by kernel_rfl) (by kernel_rfl) (by kernel_rfl) (fun _ _ _ h => h) (by rfl) ?_ ?_
      rotate_left
      · intro w; go_simp; try with_reducible rfl
      simp only [Act.put, rgA, rgB, rgC, rgD, rgE, rgF]
      refine wpAnyT_loadW (i := 2) (v := ?_) rfl (by kernel_rfl) (by kernel_rfl) (by kernel_rfl) (by kernel_rfl) (by kernel_rfl) (fun _ _ _ h => h) (Or.inl ⟨by rfl, ?_⟩) hSss2 ?_
      rotate_left
      · intro w hSw; obtain ⟨e0, e1, -⟩ := hSw; go_simp; try with_reducible rfl
      simp only [Act.put, rgA, rgB, rgC, rgD, rgE, rgF]
      refine wpAnyT_loadW (i := 5) (v := ?_) rfl (by kernel_rfl) (by kernel_rfl) (by kernel_rfl) (by kernel_rfl) (by kernel_rfl) (fun _ _ _ h => h) (Or.inl ⟨by rfl, ?_⟩) hSss2 ?_
      rotate_left
      · intro w hSw; obtain ⟨e0, e1, -⟩ := hSw; go_simp; try with_reducible rfl
      simp only [Act.put, rgA, rgB, rgC, rgD, rgE, rgF]
      refine wpAnyT_pure (i := 6) (v := (.bool gb)) rfl (by kernel_rfl) (by kernel_rfl) (by kernel_rfl) (fun _ _ _ h => h) (by rfl) ?_ ?_
      · intro w; have hq := HGB.out; go_simp <;> exact hq
      simp only [Act.put, rgA, rgB, rgC, rgD, rgE, rgF]
      refine wpAnyT_done (by kernel_rfl) ?_ _
      have HB8 := Lib.hid (HBr.out.trans ((HB7.out.trans ((hB_0_s2.trans ((hB_s2_s2).mono (hB_0_s2).size)).mono HB7.out.size)).mono HBr.out.size))
      obtain ⟨w8, rfl⟩ : ∃ x, x = s2 := ⟨_, rfl⟩
      cases gb
      · go_wp2_with fail
        go_roundw
        case rel => exact ⟨q + 1, HLT.out, by go_num, HNN.out (by have h1 := of_decide_eq_false HLB.out; have h2 := of_decide_eq_false HGB.out; omega), HB8.out⟩
        case measure => simp [intOf]; try omega
      · go_wp2_with fail
        go_ret
        exact ⟨by rw [HFQ.out.2 (of_decide_eq_true HGB.out)]; rfl, below_step HB3.out HB8.out⟩
    · go_wp2_with fail
      go_ret
      exact ⟨by rw [HFQ.out.1 (of_decide_eq_true HLB.out)]; rfl, below_step HB3.out (HBr.out.trans (HB7.out.mono HBr.out.size))⟩
  · obtain rfl : q = 4 := by omega
    clear hBr
    go_wp2_with fail
    go_ret
    exact ⟨by rw [HA.out HNO.out]; rfl, below_step HB3.out HBr.out⟩
end Go.Proofs.Ytoimbhdjhhmonaa
