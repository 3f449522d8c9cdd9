/- What the arguments of a statement read as: from the form's own reading ('DataW.trod') to 'Rd', for every type that 'fit' knows; and how a law's walk becomes the statement. -/
import Derived.Test.YtdcjocldggmdbaaBase
import Derived.OpenShut
import Derived.ShutString
import Derived.ChangeOld
import Derived.Deep.Slices
namespace Go.Proofs.Ytdcjocldggmdbaa
open Go.RowKit Go

mutual
def bulkW {H : Type} : DataW H → Nat
  | .lit (.string bytes) => bytes.length + 1
  | .lit _ => 1
  | .nil => 1
  | .ptr d => bulkW d + 1
  | .slice elems spare => bulkWs elems + bulkWs spare + 1
  | .agg parts => bulkWs parts + 1
  | .iface _ d => bulkW d + 1
  | .map _ => 0
  | .held _ => 1
def bulkWs {H : Type} : List (DataW H) → Nat
  | [] => 0
  | d :: r => bulkW d + bulkWs r
end

/-- How many values and letters a datum holds, at least. -/
def Ty.bulk : (t : Ty) → t.den → Nat
  | .int _, _ => 1
  | .bool, _ => 1
  | .str, x => x.size + 1
  | .sl e, xs => (List.map (fun x => e.bulk x) xs).sum + 1
  | .pr a b, x => a.bulk x.1 + b.bulk x.2
  | .un, _ => 0

def fieldsOf (P : Program) (t : TypeId) : Option (List (TypeId × Nat)) :=
  match P.underlying t with
  | some (.struct fs) => some (fs.toList.map fun f => (f.type, f.offset))
  | some (.array n e) => some ((List.range n).map fun i => (e, i * P.cellsOf e))
  | _ => none

def fit (P : Program) : Ty → (TypeId → Bool) × (List (TypeId × Nat) → Nat → Bool)
  | .int k => (fun t => match P.underlying t with | some (.int k') => decide (k' = k) | _ => false, fun _ _ => false)
  | .bool => (fun t => match P.underlying t with | some .bool => true | _ => false, fun _ _ => false)
  | .str => (fun t => match P.underlying t with | some .string => true | _ => false, fun _ _ => false)
  | .sl e => (fun t => match P.underlying t with | some (.slice e') => P.cellsOf e' == e.sz && (fit P e).1 e' && decide (0 < e.sz) | _ => false, fun _ _ => false)
  | .pr a b => (fun t => P.cellsOf t == a.sz + b.sz && (match fieldsOf P t with | some ((u, o) :: r) => o == 0 && P.cellsOf u == a.sz && (fit P a).1 u && (fit P b).2 r (0 + a.sz) | _ => false),
      fun l off => match l with | (u, o) :: r => o == off && P.cellsOf u == a.sz && (fit P a).1 u && (fit P b).2 r (off + a.sz) | [] => false)
  | .un => (fun t => P.cellsOf t == 0 && (match fieldsOf P t with | some [] => true | _ => false), fun l _ => l.isEmpty)

section
variable {H : Type} {enc : TypeId × Value → H} {P : Program} {w : World} {spare : Nat → Bool} {held : Bool}

theorem cells?_cell {base : Nat} {a : Addr} {n : Nat} {cs : List Value} (h : w.cells? base a n = some cs) : cs.length = n ∧ ∀ j u, cs[j]? = some u → w.cell? (a.add j) = some u := by
  obtain ⟨_, h1, h2⟩ := World.cells?_some h
  refine ⟨h1, fun j u hu => ?_⟩
  have hj : j < n := by rw [← h1]; exact (List.getElem?_eq_some_iff.1 hu).1
  rw [← hu]
  exact h2 j hj

theorem bulkWs_append (a b : List (DataW H)) : bulkWs (a ++ b) = bulkWs a + bulkWs b := by
  induction a with
  | nil => simp [bulkWs]
  | cons x a ih => simp [bulkWs, ih]; omega

theorem fields_trod {t : TypeId} {l : List (TypeId × Nat)} {fuel : Nat} {cs : List Value} {d : DataW H} {ps : List MemPlace} (hl : fieldsOf P t = some l) (h : DataW.trod enc P w 0 spare held fuel t cs = some (d, ps)) :
    ∃ (ds : List (DataW H)) (m : Nat), d = .agg ds ∧ cs.length = P.cellsOf t ∧ ds.length = l.length ∧
      ∀ (i : Nat) (u : TypeId) (o : Nat), l[i]? = some (u, o) → ∃ d' p', ds[i]? = some d' ∧ DataW.trod enc P w 0 spare held m u ((cs.drop o).take (P.cellsOf u)) = some (d', p') := by
  unfold fieldsOf at hl
  split at hl
  · rename_i fs hu
    cases hl
    obtain ⟨xs, m, rfl, hx, h1, h2, h3⟩ := DataW.trod_struct hu h
    cases hx
    refine ⟨xs.map (·.1), m, rfl, h1, by simp [h2], fun i u o hi => ?_⟩
    rw [List.getElem?_map, Option.map_eq_some_iff] at hi
    obtain ⟨f, hf, he⟩ := hi
    cases he
    have := h3 i f (by simpa using hf)
    have hlt : i < xs.length := by rw [h2]; have := (List.getElem?_eq_some_iff.1 hf).1; simpa using this
    refine ⟨xs[i].1, xs[i].2, by simp [hlt], ?_⟩
    rw [this, List.getElem?_eq_getElem hlt]
  · rename_i n e hu
    cases hl
    obtain ⟨xs, m, rfl, hx, h1, h2, h3⟩ := DataW.trod_array hu h
    cases hx
    refine ⟨xs.map (·.1), m, rfl, h1, by simp [h2], fun i u o hi => ?_⟩
    rw [List.getElem?_map, Option.map_eq_some_iff] at hi
    obtain ⟨j, hj, he⟩ := hi
    cases he
    have hjn : j < n ∧ i = j := by
      rw [List.getElem?_eq_some_iff] at hj
      obtain ⟨hj1, hj2⟩ := hj
      simp at hj1 hj2
      omega
    obtain ⟨hjn, rfl⟩ := hjn
    have := h3 i hjn
    have hlt : i < xs.length := by omega
    refine ⟨xs[i].1, xs[i].2, by simp [hlt], ?_⟩
    rw [this, List.getElem?_eq_getElem hlt]
  · cases hl

theorem trod_rd : ∀ (ty : Ty),
    (∀ (fuel : Nat) (t : TypeId) (cs : List Value) (d : DataW H) (ps : List MemPlace), (fit P ty).1 t = true → DataW.trod enc P w 0 spare held fuel t cs = some (d, ps) → ∃ x : ty.den, Rd ty (fun b => b < w.heap.size) w cs x ∧ ty.bulk x ≤ bulkW d) ∧
    (∀ (l : List (TypeId × Nat)) (off : Nat) (cs : List Value) (ds : List (DataW H)) (m : Nat), (fit P ty).2 l off = true → cs.length = off + ty.sz → ds.length = l.length →
      (∀ (i : Nat) (u : TypeId) (o : Nat), l[i]? = some (u, o) → ∃ d' p', ds[i]? = some d' ∧ DataW.trod enc P w 0 spare held m u ((cs.drop o).take (P.cellsOf u)) = some (d', p')) →
      ∃ x : ty.den, Rd ty (fun b => b < w.heap.size) w (cs.drop off) x ∧ ty.bulk x ≤ bulkWs ds)
  | .int k => by
    refine ⟨fun fuel t cs d ps hf h => ?_, fun l off cs ds m hf => by simp [fit] at hf⟩
    simp only [fit] at hf
    split at hf
    · rename_i k' hu
      obtain rfl := of_decide_eq_true hf
      obtain ⟨n, rfl, hx, hwf⟩ := DataW.trod_int hu h
      cases hx
      exact ⟨n, ⟨rfl, hwf⟩, by simp [Ty.bulk, bulkW]⟩
    · cases hf
  | .bool => by
    refine ⟨fun fuel t cs d ps hf h => ?_, fun l off cs ds m hf => by simp [fit] at hf⟩
    simp only [fit] at hf
    split at hf
    · rename_i hu
      obtain ⟨n, rfl, hx⟩ := DataW.trod_bool hu h
      cases hx
      exact ⟨n, rfl, by simp [Ty.bulk, bulkW]⟩
    · cases hf
  | .str => by
    refine ⟨fun fuel t cs d ps hf h => ?_, fun l off cs ds m hf => by simp [fit] at hf⟩
    simp only [fit] at hf
    split at hf
    · rename_i hu
      obtain ⟨s, rfl, hx, hs⟩ := DataW.trod_string hu h
      cases hx
      exact ⟨s, ⟨rfl, hs⟩, by simp [Ty.bulk, bulkW]⟩
    · cases hf
  | .sl e => by
    refine ⟨fun fuel t cs d ps hf h => ?_, fun l off cs ds m hf => by simp [fit] at hf⟩
    simp only [fit] at hf
    split at hf
    · rename_i e' hu
      simp only [Bool.and_eq_true, beq_iff_eq, decide_eq_true_eq] at hf
      obtain ⟨⟨hsz, hfe⟩, h0⟩ := hf
      rcases Deep.open_slice hu h with ⟨rfl, hx⟩ | ⟨a, len, cap, m, n, D, Pl, rfl, _, hl, hm, hmm, hx, hel⟩
      · cases hx
        exact ⟨[], ⟨none, 0, 0, rfl, rfl, Nat.le_refl _, by omega, .inl rfl⟩, by simp [Ty.bulk, bulkW]⟩
      · cases hx
        have hlm : len ≤ m := by rw [hmm]; split <;> omega
        have key : ∀ k, k ≤ len → ∃ xs : List e.den, xs.length = k ∧ (∀ i (hi : i < xs.length), ∃ vs : List Value, vs.length = e.sz ∧ (∀ j u, vs[j]? = some u → w.cell? ((a.add (i * e.sz)).add j) = some u) ∧ Rd e (fun b => b < w.heap.size) w vs xs[i]) ∧
            (List.map (fun x => e.bulk x) xs).sum ≤ bulkWs ((List.range k).map D) := by
          intro k
          induction k with
          | zero => exact fun _ => ⟨[], rfl, fun i hi => by simp at hi, by simp [bulkWs]⟩
          | succ k ih =>
            intro hk
            obtain ⟨xs, h1, h2, h3⟩ := ih (by omega)
            obtain ⟨cs', hc, ht⟩ := hel k (by omega)
            obtain ⟨x, hr, hb⟩ := (trod_rd e).1 _ _ _ _ _ hfe ht
            obtain ⟨hcl, hcc⟩ := cells?_cell hc
            refine ⟨xs ++ [x], by simp [h1], fun i hi => ?_, ?_⟩
            · by_cases hik : i < k
              · obtain ⟨vs, q1, q2, q3⟩ := h2 i (by omega)
                exact ⟨vs, q1, q2, by rw [List.getElem_append_left (by omega)]; exact q3⟩
              · have hik' : i = k := by simp at hi; omega
                subst hik'
                refine ⟨cs', by rw [hcl, hsz], fun j u hu => ?_, ?_⟩
                · have := hcc j u hu
                  rwa [hsz] at this
                · have : (xs ++ [x])[i] = x := by simp [h1]
                  rw [this]; exact hr
            · rw [List.range_succ, List.map_append, List.map_append, bulkWs_append, List.sum_append]
              simp [bulkWs]
              omega
        obtain ⟨xs, h1, h2, h3⟩ := key len (Nat.le_refl _)
        refine ⟨xs, ⟨some a, len, cap, rfl, h1, hl, by simpa [maxLen] using hm, ?_⟩, ?_⟩
        · by_cases hl0 : len = 0
          · exact .inl hl0
          · right
            obtain ⟨b, off, spot⟩ := a
            obtain ⟨vs, q1, q2, q3⟩ := h2 0 (by omega)
            have hc0 := q2 0 (vs[0]'(by omega)) (by simp)
            simp only [Nat.zero_mul, Go.Deep.add_add, Nat.add_zero] at hc0
            have hc0' : w.cell? ⟨b, off, spot⟩ = some (vs[0]'(by omega)) := by simpa [Addr.add] using hc0
            have hspot : spot = none := by simpa using World.cell?_spot hc0'
            subst hspot
            refine ⟨b, off, rfl, World.block_lt_of_cell? w _ hc0', fun i hi => ?_⟩
            obtain ⟨vs, q1, q2, q3⟩ := h2 i hi
            refine ⟨vs, q1, fun j u hu => ?_, q3⟩
            have := q2 j u hu
            rwa [Go.Deep.add_add, Addr.add_none, ← Nat.add_assoc] at this
        · simp only [Ty.bulk, bulkW]
          omega
    · cases hf
  | .pr a b => by
    have two : ∀ (l : List (TypeId × Nat)) (off : Nat) (cs : List Value) (ds : List (DataW H)) (m : Nat), (fit P (.pr a b)).2 l off = true → cs.length = off + (a.sz + b.sz) → ds.length = l.length →
      (∀ (i : Nat) (u : TypeId) (o : Nat), l[i]? = some (u, o) → ∃ d' p', ds[i]? = some d' ∧ DataW.trod enc P w 0 spare held m u ((cs.drop o).take (P.cellsOf u)) = some (d', p')) →
      ∃ x : (Ty.pr a b).den, Rd (.pr a b) (fun b => b < w.heap.size) w (cs.drop off) x ∧ (Ty.pr a b).bulk x ≤ bulkWs ds := by
      intro l off cs ds m hf hlen hds hx
      match l, hf, hds, hx with
      | (u, o) :: r, hf, hds, hx =>
        simp only [fit, Bool.and_eq_true, beq_iff_eq] at hf
        obtain ⟨⟨⟨rfl, hsz⟩, hfa⟩, hfb⟩ := hf
        match ds, hds with
        | d :: ds, hds =>
          obtain ⟨d', p', hd, ht⟩ := hx 0 u o rfl
          simp at hd
          subst hd
          obtain ⟨x, hr, hb⟩ := (trod_rd a).1 _ _ _ _ _ hfa ht
          obtain ⟨y, hr2, hb2⟩ := (trod_rd b).2 r (o + a.sz) cs ds m hfb (by omega) (by simpa using hds) (fun i u' o' hi => hx (i + 1) u' o' hi)
          refine ⟨(x, y), ⟨(cs.drop o).take (P.cellsOf u), cs.drop (o + a.sz), ?_, hr, hr2⟩, ?_⟩
          · rw [hsz, ← List.drop_drop, List.take_append_drop]
          · simp only [Ty.bulk, bulkWs]
            omega
    refine ⟨fun fuel t cs d ps hf h => ?_, two⟩
    have hf0 := hf
    simp only [fit, Bool.and_eq_true, beq_iff_eq] at hf
    obtain ⟨hct, hf⟩ := hf
    split at hf
    · rename_i u o r hl
      obtain ⟨ds, m, rfl, h1, h2, h3⟩ := fields_trod hl h
      obtain ⟨x, hx, hb⟩ := two ((u, o) :: r) 0 cs ds m (by simpa [fit] using hf) (by omega) h2 h3
      exact ⟨x, by simpa using hx, by simp only [bulkW]; omega⟩
    · cases hf
  | .un => by
    refine ⟨fun fuel t cs d ps hf h => ?_, fun l off cs ds m hf hlen _ _ => ⟨(), by simp [Rd, hlen], by simp [Ty.bulk]⟩⟩
    simp only [fit, Bool.and_eq_true, beq_iff_eq] at hf
    obtain ⟨hct, hf⟩ := hf
    split at hf
    · rename_i hl
      obtain ⟨ds, m, rfl, h1, h2, h3⟩ := fields_trod hl h
      refine ⟨(), ?_, by simp [Ty.bulk]⟩
      simp only [Rd]
      exact List.eq_nil_of_length_eq_zero (by omega)
    · cases hf

/-- The value whose cells these are. -/
def valOf : Ty → List Value → Value
  | .pr _ _, cs => .agg cs.toArray
  | .un, cs => .agg cs.toArray
  | _, cs => cs.headD undef

theorem val_one {v u : Value} (h : v.cells.toList = [u]) (hv : ∀ cs, v ≠ .agg cs) : v = u := by
  cases v <;> simp_all [Value.cells]

theorem read_val {ty : Ty} {r : Reach} {base : Nat} {t : TypeId} {v : Value} {d : DataW H} {ps : List MemPlace} (hf : (fit P ty).1 t = true) (hok : Value.okWide P w r base t v) (h : DataW.Trod enc P w 0 spare held t v d ps) :
    ∃ cs x, v = valOf ty cs ∧ Rd ty (fun b => b < w.heap.size) w cs x ∧ ty.bulk x ≤ bulkW d := by
  obtain ⟨fuel, h⟩ := h
  obtain ⟨x, hr, hb⟩ := (trod_rd ty).1 _ _ _ _ _ hf h
  refine ⟨v.cells.toList, x, ?_, hr, hb⟩
  cases ty with
  | int k =>
    have hv : ∀ cs, v ≠ .agg cs := by
      rintro cs rfl
      simp only [fit] at hf
      split at hf
      · rename_i hu; simp [Value.okWide, hu, Cell.okWide, Cell.ok] at hok
      · cases hf
    obtain ⟨hc, _⟩ := hr
    rw [hc]
    exact val_one hc hv
  | bool =>
    have hv : ∀ cs, v ≠ .agg cs := by
      rintro cs rfl
      simp only [fit] at hf
      split at hf
      · rename_i hu; simp [Value.okWide, hu, Cell.okWide, Cell.ok] at hok
      · cases hf
    have hc : v.cells.toList = [.bool x] := hr
    rw [hc]
    exact val_one hc hv
  | str =>
    have hv : ∀ cs, v ≠ .agg cs := by
      rintro cs rfl
      simp only [fit] at hf
      split at hf
      · rename_i hu; simp [Value.okWide, hu, Cell.okWide, Cell.ok] at hok
      · cases hf
    obtain ⟨hc, _⟩ := hr
    rw [hc]
    exact val_one hc hv
  | sl e =>
    have hv : ∀ cs, v ≠ .agg cs := by
      rintro cs rfl
      simp only [fit] at hf
      split at hf
      · rename_i hu; simp [Value.okWide, hu, Cell.okWide, Cell.ok] at hok
      · cases hf
    obtain ⟨a, l, c, hc, _⟩ := hr
    rw [hc]
    exact val_one hc hv
  | pr a b =>
    simp only [fit, Bool.and_eq_true] at hf
    obtain ⟨_, hf⟩ := hf
    split at hf
    · rename_i u o r hl
      unfold fieldsOf at hl
      split at hl
      · rename_i hu
        simp only [Value.okWide, hu] at hok
        obtain ⟨cs, rfl, _⟩ := hok
        simp [valOf, Value.cells]
      · rename_i hu
        simp only [Value.okWide, hu] at hok
        obtain ⟨cs, rfl, _⟩ := hok
        simp [valOf, Value.cells]
      · cases hl
    · cases hf
  | un =>
    simp only [fit, Bool.and_eq_true] at hf
    obtain ⟨_, hf⟩ := hf
    split at hf
    · rename_i hl
      unfold fieldsOf at hl
      split at hl
      · rename_i hu
        simp only [Value.okWide, hu] at hok
        obtain ⟨cs, rfl, _⟩ := hok
        simp [valOf, Value.cells]
      · rename_i hu
        simp only [Value.okWide, hu] at hok
        obtain ⟨cs, rfl, _⟩ := hok
        simp [valOf, Value.cells]
      · cases hl
    · cases hf

theorem trod_lt' {t : TypeId} {v : Value} {d : DataW H} {ps : List MemPlace} (h : DataW.Trod enc P w 0 spare held t v d ps) : ∀ x ∈ ps, x.block < w.heap.size := by
  obtain ⟨m, hm⟩ := h
  exact DataW.trod_lt m _ _ _ hm
end
end Go.Proofs.Ytdcjocldggmdbaa
