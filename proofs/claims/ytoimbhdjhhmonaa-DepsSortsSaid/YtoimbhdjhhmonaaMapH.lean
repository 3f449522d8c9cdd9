/- Layer 47, plain: what Order's loops keep. -/
import Derived.Test.YtoimbhdjhhmonaaP47h
import Derived.Test.YtoimbhdjhhmonaaCmpI
import Derived.WideKeyEntry
set_option linter.unusedSimpArgs false
namespace Go.Proofs.Ytoimbhdjhhmonaa
open Go.RowKit Go

/-- The reads of a cell, as a list. -/
def rdL (rd : C4 → Option (List C4)) (c : C4) : List C4 := (rd c).getD []
theorem rsOf_rdL (rd : C4 → Option (List C4)) (d y : C4) : rsOf rd d y = true ↔ d ∈ rdL rd y := by
  unfold rsOf rdL
  cases rd y with
  | none => simp
  | some l => simp
/-- All cells of a graph. -/
structure AllG (rd : C4 → Option (List C4)) (all : List C4) : Prop where
  srt : Srt all
  ok : ∀ x ∈ all, x.ok
  mem : ∀ x : C4, x.ok → (x ∈ all ↔ (rd x).isSome = true ∨ ∃ y, rsOf rd x y = true)
  srd : ∀ y, Srt (rdL rd y)
  rok : ∀ d y, rsOf rd d y = true → d.ok ∧ y.ok
theorem AllG.reader {rd : C4 → Option (List C4)} {all : List C4} (h : AllG rd all) {d y : C4} (hr : rsOf rd d y = true) : d ∈ all ∧ y ∈ all := by
  obtain ⟨h1, h2⟩ := h.rok d y hr
  refine ⟨(h.mem d h1).2 (.inr ⟨y, hr⟩), (h.mem y h2).2 (.inl ?_)⟩
  unfold rsOf at hr
  cases hy : rd y with
  | none => rw [hy] at hr; cases hr
  | some l => rfl
theorem AllG.closed {rd : C4 → Option (List C4)} {all : List C4} (h : AllG rd all) : ∀ c ∈ all, ∀ r ∈ rdL rd c, r ∈ all := fun c _ r hr => (h.reader ((rsOf_rdL rd r c).2 hr)).1
theorem okO_nil (rd : C4 → List C4) (c : C4) : okO rd [] c = decide ((rd c).length = 0) := by
  unfold okO
  cases rd c <;> simp
theorem opnO_nil (rd : C4 → List C4) (c : C4) : opnO rd [] c = (rd c).length := by
  unfold opnO
  rw [List.countP_eq_length]
  simp
theorem rdyO_nil (all : List C4) (rd : C4 → List C4) : rdyO all rd [] = all.filter (okO rd []) := rfl
/-- A cell put in where those that precede it end. -/
theorem ins_at {l : List C4} {i : Nat} {d : C4} (hs : Srt l) (hd : d ∉ l) (h1 : ∀ x ∈ l.take i, ltC x d) (h2 : ∀ x ∈ l.drop i, ¬ ltC x d) : l.take i ++ d :: l.drop i = insC l d := by
  have h3 : ∀ x ∈ l.drop i, ltC d x := fun x hx => by
    rcases ltC_tot x d with h | h | h
    · exact absurd h (h2 x hx)
    · exact absurd (h ▸ List.mem_of_mem_drop hx) hd
    · exact h
  have hs' : Srt (l.take i ++ l.drop i) := by rw [List.take_append_drop]; exact hs
  rw [Srt, List.pairwise_append] at hs'
  refine Srt.ext ?_ (hs.ins d) fun x => ?_
  · rw [Srt, List.pairwise_append]
    refine ⟨hs'.1, List.pairwise_cons.2 ⟨h3, hs'.2.1⟩, fun x hx y hy => ?_⟩
    rcases List.mem_cons.1 hy with rfl | hy
    · exact h1 x hx
    · exact hs'.2.2 x hx y hy
  · rw [mem_insC, List.mem_append, List.mem_cons]
    have : x ∈ l ↔ x ∈ l.take i ∨ x ∈ l.drop i := by rw [← List.mem_append, List.take_append_drop]
    rw [this]
    constructor
    · rintro (h | h | h)
      · exact .inr (.inl h)
      · exact .inl h
      · exact .inr (.inr h)
    · rintro (h | h | h)
      · exact .inr (.inl h)
      · exact .inl h
      · exact .inr (.inr h)
/-- The open counts while c's readers are gone through. -/
def opnJ (all : List C4) (rd : C4 → List C4) (out : List C4) (c : C4) (done : C4 → Bool) (x : C4) : Option Int :=
  if x ∈ all then some ((if done x then opnO rd (out ++ [c]) x else opnO rd out x : Nat) : Int) else none
/-- The ready cells while c's readers are gone through. -/
def parJ (all : List C4) (rd : C4 → List C4) (out : List C4) (c : C4) (done : C4 → Bool) : List C4 :=
  all.filter (fun x => (okO rd out x && !decide (x = c)) || (done x && okO rd (out ++ [c]) x))
theorem parJ_nil {all : List C4} {rd : C4 → List C4} {out t : List C4} {c : C4} {done : C4 → Bool} (hd : ∀ x ∈ all, done x = false) (hs : Srt all) (h : rdyO all rd out = c :: t) : parJ all rd out c done = t := by
  rw [← parO_nil hs h]
  unfold parJ parO
  refine List.filter_congr fun x hx => ?_
  simp [hd x hx]
theorem parJ_step {all : List C4} {rd : C4 → List C4} {out : List C4} {c d : C4} {done done' : C4 → Bool} (hs : Srt all) (hd : d ∈ all) (he : ∀ x ∈ all, done' x = (done x || decide (x = d))) : parJ all rd out c done' = if okO rd (out ++ [c]) d then insC (parJ all rd out c done) d else parJ all rd out c done := by
  split
  · rename_i ho
    refine (srt_filter hs _).ext (Srt.ins (srt_filter hs _) d) fun x => ?_
    rw [mem_insC]
    unfold parJ
    rw [List.mem_filter, List.mem_filter]
    constructor
    · rintro ⟨ha, hb⟩
      rw [he x ha] at hb
      simp only [Bool.or_eq_true, Bool.and_eq_true, decide_eq_true_eq] at hb ⊢
      rcases hb with hb | ⟨hb | hb, hc⟩
      · exact .inr ⟨ha, .inl hb⟩
      · exact .inr ⟨ha, .inr ⟨hb, hc⟩⟩
      · exact .inl hb
    · rintro (rfl | ⟨ha, hb⟩)
      · refine ⟨hd, ?_⟩
        rw [he x hd]
        simp [ho]
      · refine ⟨ha, ?_⟩
        rw [he x ha]
        simp only [Bool.or_eq_true, Bool.and_eq_true, decide_eq_true_eq] at hb ⊢
        rcases hb with hb | hb
        · exact .inl hb
        · exact .inr ⟨.inl hb.1, hb.2⟩
  · rename_i ho
    unfold parJ
    refine List.filter_congr fun x hx => ?_
    rw [he x hx]
    by_cases e : x = d
    · subst e; simp [ho]
    · simp [e]
theorem parJ_all {all : List C4} {rd : C4 → List C4} {out : List C4} {c : C4} {done : C4 → Bool} (hs : Srt all) (hd : ∀ x ∈ all, c ∈ rd x → done x = true) : parJ all rd out c done = rdyO all rd (out ++ [c]) := by
  rw [← parO_all (done := all.filter done) hs (fun x hx hc => List.mem_filter.2 ⟨hx, hd x hx hc⟩)]
  unfold parJ parO
  refine List.filter_congr fun x hx => ?_
  congr 1
  congr 1
  cases h : done x <;> simp [hx, h]
theorem opnJ_nil {all : List C4} {rd : C4 → List C4} {out : List C4} {c x : C4} {done : C4 → Bool} (hd : ∀ x ∈ all, done x = false) : opnJ all rd out c done x = if x ∈ all then some ((opnO rd out x : Nat) : Int) else none := by
  unfold opnJ
  by_cases h : x ∈ all
  · simp [h, hd x h]
  · simp [h]
theorem opnJ_all {all : List C4} {rd : C4 → List C4} {out : List C4} {c x : C4} {done : C4 → Bool} (hd : ∀ x ∈ all, c ∈ rd x → done x = true) : opnJ all rd out c done x = if x ∈ all then some ((opnO rd (out ++ [c]) x : Nat) : Int) else none := by
  unfold opnJ
  by_cases h : x ∈ all
  · simp only [h, if_true]
    cases hx : done x with
    | true => rfl
    | false =>
      have hn : c ∉ rd x := fun hc => by rw [hd x h hc] at hx; cases hx
      rw [opnO_other hn]
      rfl
  · simp [h]
theorem opnJ_step {all : List C4} {rd : C4 → List C4} {out : List C4} {c d x : C4} {done done' : C4 → Bool} (hd : d ∈ all) (he : ∀ x ∈ all, done' x = (done x || decide (x = d))) : opnJ all rd out c done' x = if x = d then some ((opnO rd (out ++ [c]) d : Nat) : Int) else opnJ all rd out c done x := by
  unfold opnJ
  by_cases h : x ∈ all
  · simp only [h, if_true, he x h]
    by_cases e : x = d
    · simp [e]
    · simp [e]
  · have : x ≠ d := fun e => h (e ▸ hd)
    simp [h, this]
theorem OrdI.reader {all : List C4} {rd : C4 → List C4} {out : List C4} (h : OrdI all rd out) {c d : C4} (hok : okO rd out c = true) (hr : c ∈ rd d) : d ∉ out ∧ d ≠ c ∧ d ∉ out ++ [c] := by
  obtain ⟨h1, h2⟩ := okO_iff.1 hok
  have h3 : d ≠ c := fun e => h1 (h2 c (e ▸ hr))
  have h4 : d ∉ out := fun hm => by
    obtain ⟨i, hi, e⟩ := List.getElem_of_mem hm
    exact h1 (List.mem_of_mem_take (h.top i hi c (by rw [e]; exact hr)))
  exact ⟨h4, h3, by simp [h4, h3]⟩
theorem OrdI.fresh {all : List C4} {rd : C4 → List C4} {out : List C4} (h : OrdI all rd out) {c d : C4} {done : C4 → Bool} (hok : okO rd out c = true) (hr : c ∈ rd d) (hd : done d = false) : d ∉ parJ all rd out c done := by
  intro hm
  unfold parJ at hm
  rw [List.mem_filter] at hm
  have := hm.2
  simp only [Bool.or_eq_true, Bool.and_eq_true, hd] at this
  rcases this with ⟨h1, -⟩ | ⟨h1, -⟩
  · exact (okO_iff.1 hok).1 ((okO_iff.1 h1).2 c hr)
  · cases h1
theorem parJ_len {all : List C4} {rd : C4 → List C4} {out : List C4} {c : C4} {done : C4 → Bool} : (parJ all rd out c done).length ≤ all.length := List.length_filter_le _ _
end Go.Proofs.Ytoimbhdjhhmonaa

/- Program independent: 'm[k] op= v' at a key that stands in the map: the entry is found, then written. Integers as elements. -/
set_option linter.unusedSimpArgs false
namespace Go.Proofs.Ytoimbhdjhhmonaa
open Go.RowKit Go

section
variable {P : Program} {k e : TypeId} {κ α : Type}
variable {Ks : KeyS P k κ} {Es : ElS P e α} {w : World} {b m : Nat} {f : κ → Option α} {t : TypeId}
open Go.WideElems Go.ChangeMaps in
theorem MapG.entry [DecidableEq κ] (KL : WideMaps.KeyLaw P k) (h : MapG Ks Es w b m f) (hn : m < maxLen) (ht : P.underlying t = some (.map k e)) (y : κ) (hy : Ks.ok y) (hs : (f y).isSome = true) :
    ∃ (v0 : Value) (st : Nat), Sem.run P (Instr.mapEntry t (.map (some b)) (Ks.v y)) w = .ok (.tuple #[v0, goInt st]) w ∧
      ∀ (w2 : World) (a : α), Es.gd a → w2.heap[b]? = w.heap[b]? → ∃ w', Sem.run P (Instr.entryStore t (.map (some b)) (goInt st) (Es.v a)) w2 = .ok () w' ∧ MapG Ks Es w' b m (fun x => if x = y then some a else f x) ∧ Gr (fun x => x = b) w2 w' := by
  have hl2 := h.look2 ht y hy
  have hst := fun a ha => h.store (t := t) ht hn y hy a ha
  obtain ⟨D, ⟨es, clock, hb, F, hsz, hD⟩, hm, hf⟩ := h
  have hkey := Ks.hl y hy
  obtain ⟨s1, s2, _⟩ := F.stamped
  rcases KL.find w hkey es.toList F.keys with ⟨h1, h2⟩ | ⟨j, e0, h1, h2, h3⟩
  · exfalso
    simp [Instr.lookup, run_underlying ht, MapKept.run_getObj_map hb, KL.check w _ hkey, h1, Es.zero w, Result.andThen] at hl2
    rw [hl2.2] at hs
    cases hs
  · have hj : es[j]? = some e0 := by simpa using h2
    have hsame : es.modify j (fun e => { e with key := Ks.v y }) = es := by
      apply Array.ext'
      rw [Array.toList_modify, ChangeMaps.modify_eq_set _ _ _ _ h2]
      have : ({ e0 with key := Ks.v y } : MapEntry) = e0 := by rw [← h3]
      rw [this]
      exact set_self _ _ _ h2
    have hself : setBlock w b (.map es clock) = w := by
      unfold setBlock
      have hh : w.heap.setIfInBounds b (.map es clock) = w.heap := by
        apply Array.ext_getElem?
        intro i
        rw [Array.getElem?_setIfInBounds]
        split
        · rename_i hi
          subst hi
          rw [hb]
          split
          · rfl
          · rename_i hno; exact absurd (blk_lt hb) hno
        · rfl
      rw [hh]
    refine ⟨e0.val, e0.born, ?_, fun w2 a ha hw2 => ?_⟩
    · have : Sem.run P (Instr.mapEntry t (.map (some b)) (Ks.v y)) w = .ok (.tuple #[e0.val, goInt e0.born]) (setBlock w b (.map es clock)) := by
        simp [Instr.mapEntry, run_underlying ht, MapKept.run_getObj_map hb, KL.check w false hkey, h1, hj, h3, KL.stays w hkey, hsame, MapKept.run_setObj_map _ hb, Result.andThen, setBlock]
      rw [this, hself]
    · have hb2 := hw2.trans hb
      have hidx : es.findIdx? (fun e => ((e.born : Nat) : Int) == ((e0.born : Nat) : Int)) = some j := by
        rw [findIdx_arr]
        exact findIdx_born s2 h2
      have hmod : es.modify j (fun e => { e with val := Es.v a }) = es.modify j (fun e' => { e' with key := Ks.v y, val := Es.v a }) := by
        apply Array.ext'
        rw [Array.toList_modify, Array.toList_modify, ChangeMaps.modify_eq_set _ _ _ _ h2, ChangeMaps.modify_eq_set _ _ _ _ h2, ← h3]
      have hrun : Sem.run P (Instr.entryStore t (.map (some b)) (goInt e0.born) (Es.v a)) w2 = .ok () (setBlock w2 b (.map (es.modify j (fun e' => { e' with key := Ks.v y, val := Es.v a })) clock)) := by
        simp [Instr.entryStore, MapKept.run_getObj_map hb2, asInt, asIntOf, goInt, hidx, hmod, MapKept.run_setObj_map _ hb2, Result.andThen, setBlock]
      have hup : Sem.run P (Instr.mapUpdate t (.map (some b)) (Ks.v y) (Es.v a)) w = .ok () (setBlock w b (.map (es.modify j (fun e' => { e' with key := Ks.v y, val := Es.v a })) clock)) := by
        simp [Instr.mapUpdate, run_underlying ht, MapKept.run_getObj_map hb, KL.check w false hkey, h1, hj, h3, KL.stays w hkey, MapKept.run_setObj_map _ hb, Result.andThen, setBlock]
      obtain ⟨w', hr, hM, -⟩ := hst a ha
      rw [hup] at hr
      cases hr
      rw [if_pos hs] at hM
      refine ⟨_, hrun, hM.keep ?_, ⟨rfl, rfl, rfl, by simp [setBlock], fun i hi hne => ?_⟩⟩
      · unfold setBlock
        simp only [Array.getElem?_setIfInBounds, if_true]
        rw [if_pos (blk_lt hb2), if_pos (blk_lt hb)]
      · unfold setBlock
        simp only [Array.getElem?_setIfInBounds]
        rw [if_neg (fun e => hne e.symm)]
end
theorem wp_entryset1 {P : Program} {o : Oper} {a : Act} {w w' : World} {K : Act → World → Prop} {Q : Exit → Act → World → Prop} (t : TypeId) (x y z : Operand) (ho : o.op = .entryStore t x y z) {m k v : Value}
    (hx : a.eval x = m) (hy : a.eval y = k) (hz : a.eval z = v) (hrun : (Instr.entryStore t m k v).run P w = .ok () w') (h : K (a.put o.dst undef) w') : o.wp P a w K Q := by
  unfold Oper.wp execOp
  simp only [ho, hx, hy, hz, Sem.run_bind, Sem.run_pure, Result.andThen_ok, hrun]
  exact h
/-- Integers as elements. -/
noncomputable def intEl {P : Program} {e : TypeId} (he : P.underlying e = some (.int .i64)) (hz : ∀ w, (zeroValue e).run P w = .ok (.int .i64 0) w) : ElS P e Int where
  R := plainElem P e
  v := .int .i64
  d := fun x => .lit (.int .i64 x)
  gd := fun x => (Lit.int .i64 x).wf = true
  z := 0
  hR := fun a ha => plainElem_int he ha
  hz := rfl
  inv := fun u a ps h => by
    unfold plainElem at h
    rw [he] at h
    cases u <;> simp at h
    obtain ⟨⟨rfl, -⟩, h, -⟩ := h
    rw [h]
  zero := hz
end Go.Proofs.Ytoimbhdjhhmonaa
