/- Layer 53, plain: keys of a workflow, their order, their prerequisites; what is signed, as a list in order. -/
import Derived.Test.YtdcjocldggmdbaaW53z
set_option linter.unusedSimpArgs false
namespace Go.Proofs.Ytdcjocldggmdbaa
open Go.RowKit Go

/-! ### keys of the workflow -/
theorem kv_iff {ts : List Tk} {ne np : Int} {k : Ky} : checkI ts ne np k = 0 ↔ plc ts k.task < ts.length ∧ (if (tkAt ts k.task).grp then k.ent = -1 else 0 ≤ k.ent ∧ k.ent < ne) ∧ 0 ≤ k.per ∧ k.per < np := by
  unfold checkI
  by_cases h : plc ts k.task < ts.length
  · rw [if_pos h]
    by_cases h2 : (if (tkAt ts k.task).grp then k.ent = -1 else 0 ≤ k.ent ∧ k.ent < ne) ∧ 0 ≤ k.per ∧ k.per < np
    · rw [if_pos h2]; exact ⟨fun _ => ⟨h, h2⟩, fun _ => rfl⟩
    · rw [if_neg h2]; exact ⟨fun e => absurd e (by decide), fun e => absurd e.2 h2⟩
  · rw [if_neg h]
    exact ⟨fun e => absurd e (by decide), fun e => absurd e.1 h⟩
theorem plcI_in {ts : List Tk} {n : ByteArray} (h : plc ts n < ts.length) : plcI ts n = (plc ts n : Nat) := by unfold plcI; rw [if_pos h]
theorem plc_inj {ts : List Tk} {a b : ByteArray} (ha : plc ts a < ts.length) (h : plc ts a = plc ts b) : a = b := by
  have h1 := plc_name ha
  have h2 := plc_name (ts := ts) (n := b) (by omega)
  rw [← h1, ← h2]
  congr 2
theorem kv_total {ts : List Tk} {x y : Ky} (hx : plc ts x.task < ts.length) (hy : plc ts y.task < ts.length) (h1 : ltK ts x y = false) (h2 : ltK ts y x = false) : x = y := by
  rw [ltK_not, plcI_in hx, plcI_in hy] at h1
  rw [ltK_not, plcI_in hx, plcI_in hy] at h2
  have e1 : plc ts x.task = plc ts y.task := by omega
  have e2 := plc_inj hx e1
  obtain ⟨a, b, c⟩ := x
  obtain ⟨a', b', c'⟩ := y
  simp only at *
  subst e2
  obtain rfl : b = b' := by omega
  obtain rfl : c = c' := by omega
  rfl
theorem ltK_irr (ts : List Tk) (x : Ky) : ltK ts x x = false := (swoK ts).irrefl x
theorem ltK_asym {ts : List Tk} {x y : Ky} (h : ltK ts x y = true) : ltK ts y x = false := by
  cases h2 : ltK ts y x with
  | false => rfl
  | true =>
    have := (swoK ts).trans _ _ _ h h2
    rw [ltK_irr] at this
    cases this
/-- Few needs. -/
def FewN (ts : List Tk) : Prop := ∀ t ∈ ts, t.needs.length ≤ 8
structure Wk (ts : List Tk) (ne np : Nat) : Prop where
  v : RVal ts
  f : FewN ts
  ne : ne ≤ 100
  np : np ≤ 1000
theorem Wk.at_ {ts : List Tk} {ne np : Nat} (h : Wk ts ne np) {n : ByteArray} (hn : plc ts n < ts.length) : tkAt ts n ∈ ts ∧ (tkAt ts n).name = n ∧ nameB n = true ∧ (∀ x ∈ (tkAt ts n).needs, plc ts x < plc ts n) ∧ (tkAt ts n).needs.Nodup := by
  rw [tkAt_get hn]
  have h1 := plc_name hn
  obtain ⟨a, b, c⟩ := h.v.2.2 _ hn hn
  refine ⟨List.getElem_mem _, h1, by rw [← h1]; exact a, fun x hx => ?_, ?_⟩
  · obtain ⟨i, hi, rfl⟩ := List.getElem_of_mem hx
    exact (c i hi hi).1
  · rw [List.Nodup, List.pairwise_iff_getElem]
    intro i j hi hj hij
    exact (c j hj hj).2 i hij
theorem name_size {n : ByteArray} (h : nameB n = true) : n.size ≤ 16 := by
  unfold nameB at h
  rw [Bool.and_eq_true] at h
  exact of_decide_eq_true h.2
theorem kv_ok {ts : List Tk} {ne np : Nat} (h : Wk ts ne np) {k : Ky} (hk : checkI ts ne np k = 0) : k.ok := by
  obtain ⟨h1, h2, h3, h4⟩ := kv_iff.1 hk
  have hn := name_size (h.at_ h1).2.2.1
  have hne := h.ne
  have hnp := h.np
  refine ⟨Nat.le_trans hn (by decide), ?_, ?_⟩
  · simp [Lit.wf, IntKind.min, IntKind.max, IntKind.signed, IntKind.bits]
    split at h2 <;> omega
  · simp [Lit.wf, IntKind.min, IntKind.max, IntKind.signed, IntKind.bits]
    omega
theorem keysL_mem {ne : Nat} {t : Tk} {per : Int} {n : Ky} (h : n ∈ keysL ne t per) : n.task = t.name ∧ n.per = per ∧ (if t.grp then n.ent = -1 else 0 ≤ n.ent ∧ n.ent < (ne : Int)) := by
  unfold keysL at h
  split at h
  · rename_i hg
    rw [List.mem_singleton] at h
    subst h
    exact ⟨rfl, rfl, by simp [hg]⟩
  · rename_i hg
    obtain ⟨e, he, rfl⟩ := List.mem_map.1 h
    rw [List.mem_range] at he
    refine ⟨rfl, rfl, ?_⟩
    simp only [hg, Bool.false_eq_true, if_false]
    omega
theorem mem_keysL {ne : Nat} {t : Tk} {per : Int} {n : Ky} (h1 : n.task = t.name) (h2 : n.per = per) (h3 : if t.grp then n.ent = -1 else 0 ≤ n.ent ∧ n.ent < (ne : Int)) : n ∈ keysL ne t per := by
  obtain ⟨a, b, c⟩ := n
  simp only at h1 h2 h3
  subst h1 h2
  unfold keysL
  split
  · rename_i hg
    rw [if_pos hg] at h3
    subst h3
    simp
  · rename_i hg
    rw [if_neg hg] at h3
    exact List.mem_map.2 ⟨b.toNat, by rw [List.mem_range]; omega, by rw [Ky.mk.injEq]; exact ⟨rfl, by omega, rfl⟩⟩
theorem keysL_nodup (ne : Nat) (t : Tk) (per : Int) : (keysL ne t per).Nodup := by
  unfold keysL
  split
  · simp
  · rw [List.Nodup, List.pairwise_map]
    refine List.Pairwise.imp ?_ (List.nodup_range (n := ne))
    intro a b hab he
    rw [Ky.mk.injEq] at he
    omega
theorem needOf_mem {ts : List Tk} {ne np : Nat} (h : Wk ts ne np) {k n : Ky} {nm : ByteArray} (hk : checkI ts ne np k = 0) (hnm : nm ∈ (tkAt ts k.task).needs) (hn : n ∈ needOf ts ne (tkAt ts k.task) k nm) : n.task = nm ∧ n.per = k.per ∧ checkI ts ne np n = 0 := by
  obtain ⟨h1, h2, h3, h4⟩ := kv_iff.1 hk
  have hlt := (h.at_ h1).2.2.2.1 nm hnm
  have hpl : plc ts nm < ts.length := by omega
  have hname := (h.at_ hpl).2.1
  unfold needOf at hn
  split at hn
  · obtain ⟨a, b, c⟩ := keysL_mem hn
    rw [hname] at a
    refine ⟨a, b, kv_iff.2 ?_⟩
    rw [a, b]
    exact ⟨hpl, c, h3, h4⟩
  · rename_i hg
    rw [List.mem_singleton] at hn
    subst hn
    refine ⟨rfl, rfl, kv_iff.2 ⟨hpl, ?_, h3, h4⟩⟩
    simp only [Bool.or_eq_true, not_or, Bool.not_eq_true] at hg
    simp only [hg.2, Bool.false_eq_true, if_false] at h2
    simp only [hg.1, Bool.false_eq_true, if_false]
    exact h2
theorem raw_cases {ts : List Tk} {ne : Nat} {k n : Ky} (hn : n ∈ rawNeeds ts ne k) : (∃ nm ∈ (tkAt ts k.task).needs, n ∈ needOf ts ne (tkAt ts k.task) k nm) ∨ ((tkAt ts k.task).aft = true ∧ 0 < k.per ∧ n = ⟨k.task, k.ent, k.per - 1⟩) := by
  unfold rawNeeds at hn
  rcases List.mem_append.1 hn with h | h
  · exact .inl (List.mem_flatMap.1 h)
  · split at h
    · rename_i hc
      rw [Bool.and_eq_true, decide_eq_true_eq] at hc
      exact .inr ⟨hc.1, hc.2, List.mem_singleton.1 h⟩
    · cases h
/-- Prerequisites are keys of the workflow, and come before. -/
theorem raw_kv {ts : List Tk} {ne np : Nat} (h : Wk ts ne np) {k n : Ky} (hk : checkI ts ne np k = 0) (hn : n ∈ rawNeeds ts ne k) : checkI ts ne np n = 0 ∧ ltK ts n k = true := by
  obtain ⟨h1, h2, h3, h4⟩ := kv_iff.1 hk
  rcases raw_cases hn with ⟨nm, hnm, hx⟩ | ⟨ha, hp, rfl⟩
  · obtain ⟨a, b, c⟩ := needOf_mem h hk hnm hx
    have hlt := (h.at_ h1).2.2.2.1 nm hnm
    refine ⟨c, ?_⟩
    rw [ltK_iff, a, b, plcI_in (by omega), plcI_in h1]
    omega
  · refine ⟨kv_iff.2 ⟨h1, h2, by simp only; omega, by simp only; omega⟩, ?_⟩
    rw [ltK_iff]
    simp only
    omega
theorem raw_nodup {ts : List Tk} {ne np : Nat} (h : Wk ts ne np) {k : Ky} (hk : checkI ts ne np k = 0) : (rawNeeds ts ne k).Nodup := by
  obtain ⟨h1, h2, h3, h4⟩ := kv_iff.1 hk
  unfold rawNeeds
  rw [List.nodup_append]
  refine ⟨?_, by split <;> simp, ?_⟩
  · rw [List.Nodup, List.pairwise_flatMap]
    refine ⟨fun nm hnm => ?_, ?_⟩
    · unfold needOf
      split
      · exact keysL_nodup _ _ _
      · simp
    · refine List.Pairwise.imp_of_mem ?_ (h.at_ h1).2.2.2.2
      intro a b ha hb hab x hx y hy e
      have e1 := (needOf_mem h hk ha hx).1
      have e2 := (needOf_mem h hk hb hy).1
      rw [e] at e1
      exact hab (e1.symm.trans e2)
  · intro a ha b hb e
    obtain ⟨nm, hnm, hx⟩ := List.mem_flatMap.1 ha
    have e1 := (needOf_mem h hk hnm hx).2.1
    split at hb
    · rw [List.mem_singleton] at hb
      subst hb
      rw [e] at e1
      simp only at e1
      omega
    · cases hb
theorem needOf_len (ts : List Tk) (ne : Nat) (t : Tk) (k : Ky) (nm : ByteArray) : (needOf ts ne t k nm).length ≤ ne + 1 := by
  unfold needOf keysL
  split
  · split <;> simp
  · simp
theorem raw_len {ts : List Tk} {ne np : Nat} (h : Wk ts ne np) {k : Ky} (hk : checkI ts ne np k = 0) : (rawNeeds ts ne k).length ≤ 1000 := by
  have h1 := (kv_iff.1 hk).1
  have h8 := h.f _ (h.at_ h1).1
  have hne := h.ne
  have : ∀ l : List ByteArray, (l.flatMap (needOf ts ne (tkAt ts k.task) k)).length ≤ l.length * (ne + 1) := by
    intro l
    induction l with
    | nil => simp
    | cons x l ih =>
      rw [List.flatMap_cons, List.length_append, List.length_cons, Nat.succ_mul]
      have := needOf_len ts ne (tkAt ts k.task) k x
      omega
  have h2 := this (tkAt ts k.task).needs
  have h3 : (tkAt ts k.task).needs.length * (ne + 1) ≤ 8 * 101 := Nat.mul_le_mul h8 (by omega)
  unfold rawNeeds
  rw [List.length_append]
  have h5 : ∀ c : Bool, (if c = true then [(⟨k.task, k.ent, k.per - 1⟩ : Ky)] else []).length ≤ 1 := by intro c; cases c <;> simp
  have h6 := h5 ((tkAt ts k.task).aft && decide (0 < k.per))
  omega
theorem Wk.need {ts : List Tk} {ne np : Nat} (h : Wk ts ne np) {k : Ky} (hk : checkI ts ne np k = 0) : NeedOk ts ne k where
  hk := (kv_iff.1 hk).1
  ok := kv_ok h hk
  nd := fun n hn => by have := (h.at_ (kv_iff.1 hk).1).2.2.2.1 n hn; have := (kv_iff.1 hk).1; omega
  len := raw_len h hk
  nodup := raw_nodup h hk

/-! ### sorted lists of keys of the workflow are told by their members -/
theorem asc_eq {ts : List Tk} {a b : List Ky} (ha : Asc ts a) (hb : Asc ts b) (hna : ∀ x ∈ a, plc ts x.task < ts.length) (hp : a.Perm b) : a = b :=
  hp.eq_of_pairwise (fun x y hx hy h1 h2 => (kv_total (hna x hx) (hna y (hp.mem_iff.2 hy)) (by
    first
    | exact h2
    | exact h1) (by
    first
    | exact h1
    | exact h2))) ha hb
end Go.Proofs.Ytdcjocldggmdbaa

/- Layer 53, plain: what is signed, as a list in order of the keys; what a reopening takes back. -/
set_option linter.unusedSimpArgs false
namespace Go.Proofs.Ytdcjocldggmdbaa
open Go.RowKit Go

abbrev Sg := Ky × ByteArray
def lkS (sg : List Sg) (k : Ky) : Option ByteArray := (sg.find? fun s => decide (s.1 = k)).map Prod.snd
def keysS (sg : List Sg) : List Ky := sg.map Prod.fst
structure SgOk (ts : List Tk) (ne np : Nat) (sg : List Sg) : Prop where
  asc : sg.Pairwise fun a b => ltK ts a.1 b.1 = true
  kv : ∀ s ∈ sg, checkI ts ne np s.1 = 0
  sz : ∀ s ∈ sg, s.2.size ≤ maxLen
theorem SgOk.nil (ts : List Tk) (ne np : Nat) : SgOk ts ne np [] := ⟨.nil, fun _ h => (List.not_mem_nil h).elim, fun _ h => (List.not_mem_nil h).elim⟩
theorem lk_cons (s : Sg) (sg : List Sg) (k : Ky) : lkS (s :: sg) k = if s.1 = k then some s.2 else lkS sg k := by
  unfold lkS
  rw [List.find?_cons]
  by_cases h : s.1 = k
  · simp [h]
  · simp [h]
theorem lk_isSome {sg : List Sg} {k : Ky} : (lkS sg k).isSome = true ↔ k ∈ keysS sg := by
  induction sg with
  | nil => simp [lkS, keysS]
  | cons s sg ih =>
    rw [lk_cons]
    show _ ↔ k ∈ s.1 :: keysS sg
    rw [List.mem_cons, ← ih]
    by_cases h : s.1 = k
    · simp [h]
    · rw [if_neg h]
      constructor
      · exact .inr
      · rintro (h' | h')
        · exact absurd h'.symm h
        · exact h'
theorem lk_none {sg : List Sg} {k : Ky} : lkS sg k = none ↔ k ∉ keysS sg := by
  rw [← lk_isSome]
  cases lkS sg k <;> simp
theorem lk_mem {sg : List Sg} {k : Ky} {v : ByteArray} (h : lkS sg k = some v) : (k, v) ∈ sg := by
  unfold lkS at h
  rw [Option.map_eq_some_iff] at h
  obtain ⟨s, hs, rfl⟩ := h
  have h1 := List.find?_some hs
  have h2 := List.mem_of_find?_eq_some hs
  obtain rfl : s.1 = k := of_decide_eq_true h1
  exact h2
theorem asc_ne {ts : List Tk} {sg : List Sg} (h : sg.Pairwise fun a b => ltK ts a.1 b.1 = true) : sg.Pairwise fun a b => a.1 ≠ b.1 :=
  h.imp fun {a b} hl e => by rw [e, ltK_irr] at hl; cases hl
theorem mem_lk {ts : List Tk} {sg : List Sg} (h : sg.Pairwise fun a b => ltK ts a.1 b.1 = true) {k : Ky} {v : ByteArray} (hm : (k, v) ∈ sg) : lkS sg k = some v := by
  induction sg with
  | nil => cases hm
  | cons s sg ih =>
    rw [lk_cons]
    rcases List.mem_cons.1 hm with e | hm
    · rw [← e]; simp
    · have := (List.pairwise_cons.1 (asc_ne h)).1 _ hm
      rw [if_neg this]
      exact ih (List.pairwise_cons.1 h).2 hm
theorem same_key {ts : List Tk} {sg : List Sg} (h : sg.Pairwise fun a b => ltK ts a.1 b.1 = true) {x y : Sg} (hx : x ∈ sg) (hy : y ∈ sg) (e : x.1 = y.1) : x = y := by
  obtain ⟨a, b⟩ := x
  obtain ⟨a', b'⟩ := y
  simp only at e
  subst e
  have h1 := mem_lk h hx
  rw [mem_lk h hy] at h1
  cases h1
  rfl
/-- A list of signatures in order is told by its members. -/
theorem sg_eq {ts : List Tk} {ne np : Nat} {l sg : List Sg} (h : SgOk ts ne np sg) (hp : l.Perm sg) (hl : l.Pairwise fun a b => ltK ts b.1 a.1 = false) : l = sg := by
  have hx : ∀ (x y : Sg), x ∈ l → y ∈ sg → ltK ts y.1 x.1 = false → ltK ts x.1 y.1 = false → x = y := by
    intro x y hx hy h1 h2
    have hx' := hp.mem_iff.1 hx
    have e1 := (kv_iff.1 (h.kv x hx')).1
    have e2 := (kv_iff.1 (h.kv y hy)).1
    have e : x.1 = y.1 := kv_total e1 e2 h2 h1
    exact same_key h.asc hx' hy e
  have hs : sg.Pairwise fun a b => ltK ts b.1 a.1 = false := h.asc.imp fun {a b} e => ltK_asym e
  exact hp.eq_of_pairwise hx hl hs
theorem keys_asc {ts : List Tk} {ne np : Nat} {sg : List Sg} (h : SgOk ts ne np sg) : (keysS sg).Pairwise fun a b => ltK ts a b = true := by
  unfold keysS
  rw [List.pairwise_map]
  exact h.asc
theorem keys_nodup {ts : List Tk} {ne np : Nat} {sg : List Sg} (h : SgOk ts ne np sg) : (keysS sg).Nodup := (keys_asc h).imp fun {a b} hl e => by rw [e, ltK_irr] at hl; cases hl
theorem keys_kv {ts : List Tk} {ne np : Nat} {sg : List Sg} (h : SgOk ts ne np sg) {k : Ky} (hk : k ∈ keysS sg) : checkI ts ne np k = 0 := by
  obtain ⟨s, hs, rfl⟩ := List.mem_map.1 hk
  exact h.kv s hs

/-! ### a further signature -/
def insS (ts : List Tk) (sg : List Sg) (k : Ky) (who : ByteArray) : List Sg := sg.takeWhile (fun s => ltK ts s.1 k) ++ (k, who) :: sg.dropWhile (fun s => ltK ts s.1 k)
theorem lk_app (a b : List Sg) (k : Ky) : lkS (a ++ b) k = if (lkS a k).isSome then lkS a k else lkS b k := by
  induction a with
  | nil => simp [lkS]
  | cons s a ih =>
    rw [List.cons_append, lk_cons, lk_cons, ih]
    by_cases h : s.1 = k
    · simp [h]
    · simp [h]
theorem keys_split (ts : List Tk) (sg : List Sg) (k : Ky) : sg.takeWhile (fun s => ltK ts s.1 k) ++ sg.dropWhile (fun s => ltK ts s.1 k) = sg := List.takeWhile_append_dropWhile
theorem lk_ins {ts : List Tk} {sg : List Sg} {k : Ky} {who : ByteArray} (h : lkS sg k = none) : lkS (insS ts sg k who) = signF (lkS sg) k who := by
  funext x
  unfold insS signF
  rw [lk_app, lk_cons]
  have hs := lk_app (sg.takeWhile (fun s => ltK ts s.1 k)) (sg.dropWhile (fun s => ltK ts s.1 k)) x
  rw [keys_split] at hs
  by_cases e : x = k
  · subst e
    rw [h] at hs
    have hn : lkS (sg.takeWhile (fun s => ltK ts s.1 x)) x = none := by
      cases h1 : lkS (sg.takeWhile (fun s => ltK ts s.1 x)) x with
      | none => rfl
      | some v => rw [h1] at hs; simp at hs
    rw [hn]
    simp
  · have e' : ¬ k = x := fun h => e h.symm
    simp only [if_neg e, if_neg e']
    rw [hs]
theorem drop_ge {ts : List Tk} {ne np : Nat} {sg : List Sg} (h : SgOk ts ne np sg) (k : Ky) : ∀ s ∈ sg.dropWhile (fun s => ltK ts s.1 k), ltK ts s.1 k = false := by
  have ha := h.asc
  clear h
  induction sg with
  | nil => intro s hs; cases hs
  | cons a sg ih =>
    intro s hs
    rw [List.dropWhile_cons] at hs
    split at hs
    · exact ih (List.pairwise_cons.1 ha).2 s hs
    · rename_i hc
      have hc' : ltK ts a.1 k = false := by simpa using hc
      rcases List.mem_cons.1 hs with rfl | hs
      · exact hc'
      · cases h2 : ltK ts s.1 k with
        | false => rfl
        | true =>
          have := (swoK ts).trans _ _ _ ((List.pairwise_cons.1 ha).1 s hs) h2
          rw [hc'] at this
          cases this
theorem mem_ins {ts : List Tk} {sg : List Sg} {k : Ky} {who : ByteArray} {s : Sg} : s ∈ insS ts sg k who ↔ s = (k, who) ∨ s ∈ sg := by
  unfold insS
  rw [List.mem_append, List.mem_cons]
  have : s ∈ sg ↔ s ∈ sg.takeWhile (fun s => ltK ts s.1 k) ∨ s ∈ sg.dropWhile (fun s => ltK ts s.1 k) := by rw [← List.mem_append, keys_split]
  rw [this]
  constructor
  · rintro (h | h | h)
    · exact .inr (.inl h)
    · exact .inl h
    · exact .inr (.inr h)
  · rintro (h | h | h)
    · exact .inr (.inl h)
    · exact .inl h
    · exact .inr (.inr h)
theorem keys_ins {ts : List Tk} {sg : List Sg} {k x : Ky} {who : ByteArray} : x ∈ keysS (insS ts sg k who) ↔ x = k ∨ x ∈ keysS sg := by
  unfold keysS
  rw [List.mem_map, List.mem_map]
  constructor
  · rintro ⟨s, hs, rfl⟩
    rcases mem_ins.1 hs with rfl | hs
    · exact .inl rfl
    · exact .inr ⟨s, hs, rfl⟩
  · rintro (rfl | ⟨s, hs, rfl⟩)
    · exact ⟨_, mem_ins.2 (.inl rfl), rfl⟩
    · exact ⟨s, mem_ins.2 (.inr hs), rfl⟩
theorem SgOk.ins {ts : List Tk} {ne np : Nat} {sg : List Sg} (h : SgOk ts ne np sg) {k : Ky} {who : ByteArray} (hk : checkI ts ne np k = 0) (hn : lkS sg k = none) (hw : who.size ≤ maxLen) : SgOk ts ne np (insS ts sg k who) where
  asc := by
    have hs := h.asc
    rw [← keys_split ts sg k] at hs
    obtain ⟨h1, h2, h3⟩ := List.pairwise_append.1 hs
    have hlt : ∀ s ∈ sg.takeWhile (fun s => ltK ts s.1 k), ltK ts s.1 k = true := fun s hs => by
      have := List.all_takeWhile (p := fun s : Sg => ltK ts s.1 k) (l := sg)
      rw [List.all_eq_true] at this
      exact this s hs
    have hgt : ∀ s ∈ sg.dropWhile (fun s => ltK ts s.1 k), ltK ts k s.1 = true := fun s hs => by
      have h4 := drop_ge h k s hs
      have hm : s ∈ sg := by rw [← keys_split ts sg k]; exact List.mem_append_right _ hs
      cases h5 : ltK ts k s.1 with
      | true => rfl
      | false =>
        have e := kv_total (kv_iff.1 (h.kv s hm)).1 (kv_iff.1 hk).1 h4 h5
        exact absurd (List.mem_map.2 ⟨s, hm, e⟩) (lk_none.1 hn)
    unfold insS
    refine List.pairwise_append.2 ⟨h1, List.pairwise_cons.2 ⟨hgt, h2⟩, fun a ha b hb => ?_⟩
    rcases List.mem_cons.1 hb with rfl | hb
    · exact hlt a ha
    · exact h3 a ha b hb
  kv := fun s hs => by
    rcases mem_ins.1 hs with rfl | hs
    · exact hk
    · exact h.kv s hs
  sz := fun s hs => by
    rcases mem_ins.1 hs with rfl | hs
    · exact hw
    · exact h.sz s hs
theorem ins_len (ts : List Tk) (sg : List Sg) (k : Ky) (who : ByteArray) : (insS ts sg k who).length = sg.length + 1 := by
  have h1 := congrArg List.length (keys_split ts sg k)
  rw [List.length_append] at h1
  unfold insS
  rw [List.length_append, List.length_cons]
  exact congrArg (· + 1) h1

/-! ### what a reopening takes back -/
theorem SgOk.filter {ts : List Tk} {ne np : Nat} {sg : List Sg} (h : SgOk ts ne np sg) (p : Sg → Bool) : SgOk ts ne np (sg.filter p) :=
  ⟨h.asc.filter p, fun s hs => h.kv s (List.mem_filter.1 hs).1, fun s hs => h.sz s (List.mem_filter.1 hs).1⟩
theorem lk_filter {sg : List Sg} (p : Ky → Bool) (k : Ky) : lkS (sg.filter fun s => p s.1) k = if p k then lkS sg k else none := by
  induction sg with
  | nil => simp [lkS]
  | cons s sg ih =>
    rw [List.filter_cons]
    by_cases hp : p s.1 = true
    · rw [if_pos hp, lk_cons, lk_cons, ih]
      by_cases e : s.1 = k
      · subst e; simp [hp]
      · simp [e]
    · rw [if_neg hp, lk_cons, ih]
      by_cases e : s.1 = k
      · subst e; simp [hp]
      · simp [e]
inductive Rch (ts : List Tk) (ne : Nat) (sg : List Sg) (k : Ky) : Ky → Prop
  | base : k ∈ keysS sg → Rch ts ne sg k k
  | step {x y : Ky} : Rch ts ne sg k x → y ∈ keysS sg → x ∈ rawNeeds ts ne y → Rch ts ne sg k y
theorem Rch.mem {ts : List Tk} {ne : Nat} {sg : List Sg} {k x : Ky} (h : Rch ts ne sg k x) : x ∈ keysS sg := by
  cases h <;> assumption
def goneStep (ts : List Tk) (ne : Nat) (k : Ky) (gone : List Ky) (s : Sg) : List Ky := if (decide (s.1 = k) || (rawNeeds ts ne s.1).any (fun n => decide (n ∈ gone))) = true then gone ++ [s.1] else gone
def goneOf (ts : List Tk) (ne : Nat) (k : Ky) (sg : List Sg) : List Ky := sg.foldl (goneStep ts ne k) []
theorem gone_snoc (ts : List Tk) (ne : Nat) (k : Ky) (sg : List Sg) (s : Sg) : goneOf ts ne k (sg ++ [s]) = goneStep ts ne k (goneOf ts ne k sg) s := by
  unfold goneOf
  rw [List.foldl_append]
  rfl
theorem snocInd {α : Type} {P : List α → Prop} (h0 : P []) (h1 : ∀ l a, P l → P (l ++ [a])) (l : List α) : P l := by
  rw [← List.reverse_reverse l]
  induction l.reverse with
  | nil => exact h0
  | cons a t ih => rw [List.reverse_cons]; exact h1 _ _ ih
theorem gone_sub (ts : List Tk) (ne : Nat) (k : Ky) (sg : List Sg) : (goneOf ts ne k sg).Sublist (keysS sg) := by
  induction sg using snocInd with
  | h0 => exact List.Sublist.slnil
  | h1 sg s ih =>
    rw [gone_snoc]
    unfold goneStep keysS at *
    rw [List.map_append]
    split
    · exact ih.append (List.Sublist.refl _)
    · exact ih.trans (List.sublist_append_left _ _)
theorem gone_pre {ts : List Tk} {ne np : Nat} (hw : Wk ts ne np) {sg : List Sg} (h : SgOk ts ne np sg) (k : Ky) : ∀ (a b : List Sg), a ++ b = sg → ∀ x, x ∈ goneOf ts ne k a ↔ (x ∈ keysS a ∧ Rch ts ne sg k x) := by
  intro a
  induction a using snocInd with
  | h0 => intro b _ x; simp [goneOf, keysS]
  | h1 a s ih =>
    intro b hab x
    rw [List.append_assoc] at hab
    have ih := ih ([s] ++ b) hab
    rw [gone_snoc]
    unfold goneStep
    have hs : s ∈ sg := by rw [← hab]; simp
    have hsk : s.1 ∈ keysS sg := List.mem_map.2 ⟨s, hs, rfl⟩
    have hiff : (decide (s.1 = k) || (rawNeeds ts ne s.1).any (fun n => decide (n ∈ goneOf ts ne k a))) = true ↔ Rch ts ne sg k s.1 := by
      rw [Bool.or_eq_true, decide_eq_true_eq, List.any_eq_true]
      constructor
      · rintro (e | ⟨n, hn, hg⟩)
        · rw [e]; exact .base (e ▸ hsk)
        · exact .step ((ih n).1 (of_decide_eq_true hg)).2 hsk hn
      · intro hr
        generalize hx : s.1 = y at hr
        cases hr with
        | base => exact .inl rfl
        | @step n _ h1 h2 h3 =>
          refine .inr ⟨n, h3, decide_eq_true ((ih n).2 ⟨?_, h1⟩)⟩
          subst hx
          have hlt := (raw_kv hw (h.kv s hs) h3).2
          have hnk := h1.mem
          obtain ⟨t, ht, rfl⟩ := List.mem_map.1 hnk
          rw [← hab] at ht
          rcases List.mem_append.1 ht with ht | ht
          · exact List.mem_map.2 ⟨t, ht, rfl⟩
          · exfalso
            have hasc := h.asc
            rw [← hab] at hasc
            have h5 := (List.pairwise_append.1 hasc).2.1
            rcases List.mem_cons.1 ht with rfl | ht
            · rw [ltK_irr] at hlt; cases hlt
            · have := (List.pairwise_cons.1 h5).1 t ht
              rw [ltK_asym this] at hlt
              cases hlt
    have hkx : x ∈ keysS (a ++ [s]) ↔ x ∈ keysS a ∨ x = s.1 := by unfold keysS; simp
    rw [hkx]
    split
    · rename_i hc
      rw [List.mem_append, ih x, List.mem_singleton]
      have := hiff.1 hc
      constructor
      · rintro (⟨h1, h2⟩ | rfl)
        · exact ⟨.inl h1, h2⟩
        · exact ⟨.inr rfl, this⟩
      · rintro ⟨h1 | rfl, h2⟩
        · exact .inl ⟨h1, h2⟩
        · exact .inr rfl
    · rename_i hc
      rw [ih x]
      constructor
      · rintro ⟨h1, h2⟩
        exact ⟨.inl h1, h2⟩
      · rintro ⟨h1 | rfl, h2⟩
        · exact ⟨h1, h2⟩
        · exact absurd (hiff.2 h2) hc
theorem gone_iff {ts : List Tk} {ne np : Nat} (hw : Wk ts ne np) {sg : List Sg} (h : SgOk ts ne np sg) (k x : Ky) : x ∈ goneOf ts ne k sg ↔ Rch ts ne sg k x := by
  rw [gone_pre hw h k sg [] (by simp) x]
  exact ⟨fun h => h.2, fun h => ⟨h.mem, h⟩⟩
def leftOf (ts : List Tk) (ne : Nat) (k : Ky) (sg : List Sg) : List Sg := sg.filter fun s => !decide (s.1 ∈ goneOf ts ne k sg)
theorem lk_left (ts : List Tk) (ne : Nat) (k : Ky) (sg : List Sg) (x : Ky) : lkS (leftOf ts ne k sg) x = if x ∈ goneOf ts ne k sg then none else lkS sg x := by
  unfold leftOf
  rw [lk_filter (fun x => !decide (x ∈ goneOf ts ne k sg)) x]
  by_cases h : x ∈ goneOf ts ne k sg <;> simp [h]
theorem gone_asc {ts : List Tk} {ne np : Nat} {sg : List Sg} (h : SgOk ts ne np sg) (k : Ky) : (goneOf ts ne k sg).Pairwise fun a b => ltK ts a b = true := (keys_asc h).sublist (gone_sub ts ne k sg)
/-- What has been taken back, by whatever order, once it is closed. -/
theorem gone_eq {ts : List Tk} {ne np : Nat} (hw : Wk ts ne np) {sg : List Sg} (h : SgOk ts ne np sg) {k : Ky} {out : List Ky} (hn : out.Nodup) (ha : Asc ts out) (hm : ∀ x, x ∈ out ↔ Rch ts ne sg k x) : out = goneOf ts ne k sg := by
  have hg := gone_asc h k
  have hp : out.Perm (goneOf ts ne k sg) := (List.perm_ext_iff_of_nodup hn (hg.imp fun {a b} hl e => by rw [e, ltK_irr] at hl; cases hl)).2 fun x => (hm x).trans (gone_iff hw h k x).symm
  exact asc_eq ha (hg.imp fun {a b} e => ltK_asym e) (fun x hx => (kv_iff.1 (keys_kv h ((hm x).1 hx).mem)).1) hp
end Go.Proofs.Ytdcjocldggmdbaa
