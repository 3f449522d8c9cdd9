/- What this family of proofs shares, over any program: how a Go value reads as data ('Rd'), what a slice of the call's own is ('ownsRow' of the kit, with one law for append from whatever source). -/
import Derived.WalkKit
import Derived.ProofKit
import Derived.LoopTactic
import Derived.Outline
import Derived.Below
import Derived.Lib.Hide
import Derived.IntWalk
import Derived.Handy
import Derived.WalkSpells
import Derived.WalkSmall
import Derived.Deep.QuietTactic
import Derived.BigQuiet
import Derived.Lib.QuietBelow
import Derived.Deep.RegionHeld3
import Derived.Deep.RegionWith
import Derived.Shelf.Abstract
import Derived.WalkLawsBesides
import Derived.OwnWalkIn
import Derived.TacticsInMore
import Derived.LoopNIn
import Derived.LoopIn
import Derived.RangeFuncNested
import Derived.RangeFuncBound
import Derived.RangeFuncCalls
import Derived.RangeFuncLeaves
import Derived.RangeFuncBox
import Derived.Maps.AppendAt
import Derived.OpenShut
import Derived.ShutString
import Derived.ChangeOld
import Derived.Deep.Slices
namespace Go.Proofs.Ytoimbhdjhhmonaa
open Go.RowKit Go
theorem rgA.{u} : type_of% @List.setIfInBounds_toArray.{u} := @List.setIfInBounds_toArray.{u}
theorem rgB.{u} : type_of% @List.set_cons_zero.{u} := @List.set_cons_zero.{u}
theorem rgC.{u} : type_of% @List.set_cons_succ.{u} := @List.set_cons_succ.{u}
theorem rgD.{u} : type_of% @List.getElem_toArray.{u} := @List.getElem_toArray.{u}
theorem rgE.{u} : type_of% @List.getElem_cons_succ.{u} := @List.getElem_cons_succ.{u}
theorem rgF.{u} : type_of% @List.getElem_cons_zero.{u} := @List.getElem_cons_zero.{u}

/-! ### Types of data, how they read -/
inductive Ty where
  | int (k : IntKind)
  | bool
  | str
  | sl (e : Ty)
  | pr (a b : Ty)
  | un

@[reducible] def Ty.den : Ty → Type
  | .int _ => Int
  | .bool => Bool
  | .str => ByteArray
  | .sl e => List e.den
  | .pr a b => a.den × b.den
  | .un => Unit

@[reducible] def Ty.sz : Ty → Nat
  | .int _ => 1
  | .bool => 1
  | .str => 1
  | .sl _ => 1
  | .pr a b => a.sz + b.sz
  | .un => 0

/-- The cells 'cs' read as the datum x in the world w; whatever memory is reached lies in blocks of S. -/
def Rd : (t : Ty) → (S : Nat → Prop) → World → List Value → t.den → Prop
  | .int k, _, _, cs, x => cs = [.int k x] ∧ (Lit.int k x).wf = true
  | .bool, _, _, cs, x => cs = [.bool x]
  | .str, _, _, cs, x => cs = [.string x] ∧ x.size ≤ maxLen
  | .sl e, S, w, cs, xs => ∃ a len cap, cs = [.slice a len cap] ∧ List.length xs = len ∧ len ≤ cap ∧ cap ≤ 9223372036854775807 ∧
      (len = 0 ∨ ∃ b off, a = some ⟨b, off, none⟩ ∧ S b ∧
        ∀ (i : Nat) (h : i < List.length xs), ∃ vs : List Value, vs.length = e.sz ∧ (∀ j u, vs[j]? = some u → w.cell? ⟨b, off + i * e.sz + j, none⟩ = some u) ∧ Rd e S w vs (List.get (α := e.den) xs ⟨i, h⟩))
  | .pr a b, S, w, cs, x => ∃ c1 c2, cs = c1 ++ c2 ∧ Rd a S w c1 x.1 ∧ Rd b S w c2 x.2
  | .un, _, _, cs, _ => cs = []

theorem Rd.len : ∀ {t : Ty} {S : Nat → Prop} {w : World} {cs : List Value} {x : t.den}, Rd t S w cs x → cs.length = t.sz
  | .int _, _, _, _, _, h => by obtain ⟨rfl, _⟩ := h; rfl
  | .bool, _, _, _, _, h => by cases h; rfl
  | .str, _, _, _, _, h => by obtain ⟨rfl, _⟩ := h; rfl
  | .sl _, _, _, _, _, h => by obtain ⟨a, l, c, rfl, _⟩ := h; rfl
  | .pr a b, _, _, _, _, h => by obtain ⟨c1, c2, rfl, h1, h2⟩ := h; rw [List.length_append, h1.len, h2.len]
  | .un, _, _, _, _, h => by cases h; rfl

/-- Nothing that lies in S has turned, S has not shrunk. -/
theorem Rd.keep : ∀ {t : Ty} {S S' : Nat → Prop} {w w' : World} {cs : List Value} {x : t.den}, (∀ b, S b → w'.heap[b]? = w.heap[b]?) → (∀ b, S b → S' b) → Rd t S w cs x → Rd t S' w' cs x
  | .int _, _, _, _, _, _, _, _, _, h => h
  | .bool, _, _, _, _, _, _, _, _, h => h
  | .str, _, _, _, _, _, _, _, _, h => h
  | .sl e, S, S', w, w', _, _, hw, hs, h => by
    obtain ⟨a, l, c, rfl, h1, h2, h3, h4⟩ := h
    refine ⟨a, l, c, rfl, h1, h2, h3, h4.imp id ?_⟩
    rintro ⟨b, off, rfl, hb, hx⟩
    refine ⟨b, off, rfl, hs b hb, fun i hi => ?_⟩
    obtain ⟨vs, hl, hc, hr⟩ := hx i hi
    exact ⟨vs, hl, fun j u hu => (World.cell?_of_block (w := w) (hw b hb)).trans (hc j u hu), Rd.keep hw hs hr⟩
  | .pr a b, _, _, _, _, _, _, hw, hs, h => by
    obtain ⟨c1, c2, rfl, h1, h2⟩ := h
    exact ⟨c1, c2, rfl, Rd.keep hw hs h1, Rd.keep hw hs h2⟩
  | .un, _, _, _, _, _, _, _, _, h => h

/-- No memory is reached. -/
def Ty.flat : Ty → Bool
  | .int _ => true
  | .bool => true
  | .str => true
  | .sl _ => false
  | .pr a b => a.flat && b.flat
  | .un => true
theorem Rd.flat : ∀ {t : Ty} {S S' : Nat → Prop} {w w' : World} {cs : List Value} {x : t.den}, t.flat = true → Rd t S w cs x → Rd t S' w' cs x
  | .int _, _, _, _, _, _, _, _, h => h
  | .bool, _, _, _, _, _, _, _, h => h
  | .str, _, _, _, _, _, _, _, h => h
  | .sl _, _, _, _, _, _, _, hf, _ => by simp [Ty.flat] at hf
  | .pr a b, _, _, _, _, _, _, hf, h => by
    simp only [Ty.flat, Bool.and_eq_true] at hf
    obtain ⟨c1, c2, rfl, h1, h2⟩ := h
    exact ⟨c1, c2, rfl, Rd.flat hf.1 h1, Rd.flat hf.2 h2⟩
  | .un, _, _, _, _, _, _, _, h => h

theorem Rd.below {t : Ty} {n : Nat} {w w' : World} {cs : List Value} {x : t.den} (hb : Below n w w') {S : Nat → Prop} (hS : ∀ b, S b → b < n) (h : Rd t S w cs x) : Rd t S w' cs x :=
  h.keep (fun b hb' => hb.block b (hS b hb')) (fun _ h => h)

theorem Rd.drewN {t : Ty} {S : Nat → Prop} {w : World} {cs : List Value} {x : t.den} (h : Rd t S w cs x) (m : Nat) : Rd t S (w.drewN m) cs x := Rd.keep (w := w) (w' := w.drewN m) (fun _ _ => rfl) (fun _ h => h) h
theorem Rd.alloc {t : Ty} {w : World} {cs : List Value} {x : t.den} (h : Rd t (fun b => b < w.heap.size) w cs x) {w' : World} (hB : Below w.heap.size w w') : Rd t (fun b => b < w'.heap.size) w' cs x :=
  h.keep (fun b hb => hB.block b hb) (fun _ hb => Nat.lt_of_lt_of_le hb hB.size)

theorem below_step {w0 w w' : World} (h : Below w0.heap.size w0 w) (h' : Below w.heap.size w w') : Below w0.heap.size w0 w' := h.trans (h'.mono h.size)
theorem below_drew (w : World) : Below w.heap.size w w.drew := (Below.refl _ _).drew
theorem cell_below {w w' : World} {a : Addr} {v : Value} (h : w.cell? a = some v) (hB : Below w.heap.size w w') : w'.cell? a = some v := (hB.cell (World.block_lt_of_cell? w a h)).trans h

/-- What is read stands in every world that a region of reading operations and calls may come to. -/
theorem Rd.grow {t : Ty} {w : World} {cs : List Value} {x : t.den} (h : Rd t (fun b => b < w.heap.size) w cs x) (d : Nat) (os : Array Obj) : Rd t (fun b => b < (Go.Sort.grow (redrawn w d) os).heap.size) (Go.Sort.grow (redrawn w d) os) cs x :=
  h.alloc (below_regrown w d os)

/-! ### A row of elements, flat -/
def RdL (e : Ty) (S : Nat → Prop) (w : World) : List Value → List e.den → Prop
  | vs, [] => vs = []
  | vs, x :: xs => ∃ c r, vs = c ++ r ∧ Rd e S w c x ∧ RdL e S w r xs

theorem RdL.len {e : Ty} {S : Nat → Prop} {w : World} : ∀ {vs : List Value} {xs : List e.den}, RdL e S w vs xs → vs.length = xs.length * e.sz
  | _, [], h => by cases h; simp
  | _, x :: xs, h => by obtain ⟨c, r, rfl, h1, h2⟩ := h; rw [List.length_append, h1.len, h2.len, List.length_cons, Nat.add_mul]; omega

theorem RdL.keep {e : Ty} {S S' : Nat → Prop} {w w' : World} (hw : ∀ b, S b → w'.heap[b]? = w.heap[b]?) (hs : ∀ b, S b → S' b) : ∀ {vs : List Value} {xs : List e.den}, RdL e S w vs xs → RdL e S' w' vs xs
  | _, [], h => h
  | _, x :: xs, h => by obtain ⟨c, r, rfl, h1, h2⟩ := h; exact ⟨c, r, rfl, h1.keep hw hs, RdL.keep hw hs h2⟩

theorem RdL.flat {e : Ty} (hf : e.flat = true) {S S' : Nat → Prop} {w w' : World} : ∀ {vs : List Value} {xs : List e.den}, RdL e S w vs xs → RdL e S' w' vs xs
  | _, [], h => h
  | _, x :: xs, h => by obtain ⟨c, r, rfl, h1, h2⟩ := h; exact ⟨c, r, rfl, h1.flat hf, RdL.flat hf h2⟩

theorem RdL.append {e : Ty} {S : Nat → Prop} {w : World} : ∀ {vs us : List Value} {xs ys : List e.den}, RdL e S w vs xs → RdL e S w us ys → RdL e S w (vs ++ us) (xs ++ ys)
  | _, _, [], _, h, k => by cases h; simpa using k
  | _, _, x :: xs, _, h, k => by
    obtain ⟨c, r, rfl, h1, h2⟩ := h
    exact ⟨c, r ++ _, by rw [List.append_assoc], h1, RdL.append h2 k⟩

theorem RdL.one {e : Ty} {S : Nat → Prop} {w : World} {c : List Value} {x : e.den} (h : Rd e S w c x) : RdL e S w c [x] := ⟨c, [], by simp, h, rfl⟩

theorem RdL.at_ {e : Ty} {S : Nat → Prop} {w : World} : ∀ {vs : List Value} {xs : List e.den}, RdL e S w vs xs → ∀ (i : Nat) (h : i < xs.length), ∃ c, c.length = e.sz ∧ (∀ j u, c[j]? = some u → vs[i * e.sz + j]? = some u) ∧ Rd e S w c xs[i]
  | _, [], _, i, h => by simp at h
  | _, x :: xs, h, i, hi => by
    obtain ⟨c, r, rfl, h1, h2⟩ := h
    cases i with
    | zero => exact ⟨c, h1.len, fun j u hu => by
        have := (List.getElem?_eq_some_iff.1 hu).1
        rw [Nat.zero_mul, Nat.zero_add, List.getElem?_append_left this]; exact hu, h1⟩
    | succ i =>
      obtain ⟨c', hl, hc, hr⟩ := h2.at_ i (by simpa using hi)
      refine ⟨c', hl, fun j u hu => ?_, hr⟩
      rw [List.getElem?_append_right (by rw [h1.len, Nat.add_mul]; omega)]
      have : (i + 1) * e.sz + j - c.length = i * e.sz + j := by rw [h1.len, Nat.add_mul]; omega
      rw [this]
      exact hc j u hu

theorem RdL.of_at {e : Ty} {S : Nat → Prop} {w : World} {b off : Nat} : ∀ {xs : List e.den}, (∀ (i : Nat) (h : i < xs.length), ∃ vs : List Value, vs.length = e.sz ∧ (∀ j u, vs[j]? = some u → w.cell? ⟨b, off + i * e.sz + j, none⟩ = some u) ∧ Rd e S w vs xs[i]) →
    ∃ vs, RdL e S w vs xs ∧ ∀ j u, vs[j]? = some u → w.cell? ⟨b, off + j, none⟩ = some u
  | [], _ => ⟨[], rfl, fun j u h => by simp at h⟩
  | x :: xs, h => by
    obtain ⟨c, hl, hc, hr⟩ := h 0 (by simp)
    obtain ⟨r, h2, hc2⟩ := RdL.of_at (off := off + e.sz) (xs := xs) (fun i hi => by
      obtain ⟨vs, hl, hc, hr⟩ := h (i + 1) (by simpa using hi)
      refine ⟨vs, hl, fun j u hu => ?_, hr⟩
      have := hc j u hu
      rwa [Nat.add_mul, Nat.one_mul, show off + (i * e.sz + e.sz) + j = off + e.sz + i * e.sz + j by omega] at this)
    refine ⟨c ++ r, ⟨c, r, rfl, hr, h2⟩, fun j u hu => ?_⟩
    by_cases hj : j < c.length
    · rw [List.getElem?_append_left hj] at hu
      have := hc j u hu
      rwa [Nat.zero_mul, Nat.add_zero] at this
    · rw [List.getElem?_append_right (by omega)] at hu
      have := hc2 _ u hu
      rwa [hl, show off + e.sz + (j - e.sz) = off + j by omega] at this

theorem Addr.add_none (b off j : Nat) : (⟨b, off, none⟩ : Addr).add j = ⟨b, off + j, none⟩ := by unfold Addr.add; split <;> simp_all

/-- A slice that is read: its cells, flat. -/
theorem Rd.sl_flat {e : Ty} {S : Nat → Prop} {w : World} {a : Option Addr} {len cap : Nat} {xs : List e.den} (h : Rd (.sl e) S w [.slice a len cap] xs) :
    xs.length = len ∧ len ≤ cap ∧ cap ≤ 9223372036854775807 ∧ ∃ vs, RdL e S w vs xs ∧ (len = 0 ∨ ∃ b off, a = some ⟨b, off, none⟩ ∧ S b ∧ ∀ j u, vs[j]? = some u → w.cell? ⟨b, off + j, none⟩ = some u) := by
  obtain ⟨a', l', c', he, h1, h2, h3, h4⟩ := h
  simp only [List.cons.injEq, Value.slice.injEq, and_true] at he
  obtain ⟨rfl, rfl, rfl⟩ := he
  refine ⟨h1, h2, h3, ?_⟩
  rcases h4 with h0 | ⟨b, off, rfl, hb, hx⟩
  · have : xs = [] := List.eq_nil_of_length_eq_zero (by rw [← h0]; exact h1)
    subst this
    exact ⟨[], rfl, .inl h0⟩
  · obtain ⟨vs, hr, hc⟩ := RdL.of_at hx
    exact ⟨vs, hr, .inr ⟨b, off, rfl, hb, hc⟩⟩

theorem Rd.sl_of_flat {e : Ty} {S : Nat → Prop} {w : World} {a : Option Addr} {len cap : Nat} {xs : List e.den} {vs : List Value} (h1 : xs.length = len) (h2 : len ≤ cap) (h3 : cap ≤ 9223372036854775807) (hr : RdL e S w vs xs)
    (h : len = 0 ∨ ∃ b off, a = some ⟨b, off, none⟩ ∧ S b ∧ ∀ j u, vs[j]? = some u → w.cell? ⟨b, off + j, none⟩ = some u) : Rd (.sl e) S w [.slice a len cap] xs := by
  refine ⟨a, len, cap, rfl, h1, h2, h3, h.imp id ?_⟩
  rintro ⟨b, off, rfl, hb, hc⟩
  refine ⟨b, off, rfl, hb, fun i hi => ?_⟩
  obtain ⟨c, hl, hcc, hrr⟩ := hr.at_ i hi
  exact ⟨c, hl, fun j u hu => by rw [Nat.add_assoc]; exact hc _ _ (hcc j u hu), hrr⟩

/-- The first k elements. -/
theorem Rd.take {e : Ty} {S : Nat → Prop} {w : World} {a : Option Addr} {len cap : Nat} {xs : List e.den} (h : Rd (.sl e) S w [.slice a len cap] xs) (k : Nat) (hk : k ≤ len) : Rd (.sl e) S w [.slice a k cap] (xs.take k) := by
  obtain ⟨a', l', c', he, h1, h2, h3, h4⟩ := h
  simp only [List.cons.injEq, Value.slice.injEq, and_true] at he
  obtain ⟨rfl, rfl, rfl⟩ := he
  refine ⟨a, k, cap, rfl, ?_, Nat.le_trans hk h2, h3, ?_⟩
  · have : List.length xs = len := h1
    simp only [List.length_take]
    omega
  · rcases h4 with h0 | ⟨b, off, rfl, hb, hx⟩
    · exact .inl (by omega)
    · refine .inr ⟨b, off, rfl, hb, fun i hi => ?_⟩
      simp only [List.length_take] at hi
      obtain ⟨vs, q1, q2, q3⟩ := hx i (by omega)
      refine ⟨vs, q1, q2, ?_⟩
      simpa using q3

/-! ### Append onto a slice of the call's own, from whatever source -/
/-- The slice value sv holds, flat, m elements whose cells are news. -/
def Src (w : World) (sv : Value) (m : Nat) (news : List Value) : Prop :=
  (∃ c, sv = .slice none 0 c ∧ m = 0 ∧ news = []) ∨ ∃ a c, sv = .slice a m c ∧ (m = 0 ∧ news = [] ∨ ∃ ad, a = some ad ∧ ∀ j u, news[j]? = some u → w.cell? (ad.add j) = some u)

theorem Rd.one_cell : ∀ {t : Ty} {S : Nat → Prop} {w : World} {cs : List Value} {x : t.den}, Rd t S w cs x → ∀ u ∈ cs, u.oneCell' = true
  | .int _, _, _, _, _, h => by obtain ⟨rfl, _⟩ := h; intro u hu; simp at hu; subst hu; rfl
  | .bool, _, _, _, _, h => by cases h; intro u hu; simp at hu; subst hu; rfl
  | .str, _, _, _, _, h => by obtain ⟨rfl, _⟩ := h; intro u hu; simp at hu; subst hu; rfl
  | .sl _, _, _, _, _, h => by obtain ⟨a, l, c, rfl, _⟩ := h; intro u hu; simp at hu; subst hu; rfl
  | .pr a b, _, _, _, _, h => by
    obtain ⟨c1, c2, rfl, h1, h2⟩ := h
    intro u hu
    rcases List.mem_append.1 hu with hu | hu
    · exact h1.one_cell u hu
    · exact h2.one_cell u hu
  | .un, _, _, _, _, h => by cases h; intro u hu; simp at hu

theorem RdL.one_cell {e : Ty} {S : Nat → Prop} {w : World} : ∀ {vs : List Value} {xs : List e.den}, RdL e S w vs xs → ∀ u ∈ vs, u.oneCell' = true
  | _, [], h => by cases h; intro u hu; simp at hu
  | _, x :: xs, h => by
    obtain ⟨c, r, rfl, h1, h2⟩ := h
    intro u hu
    rcases List.mem_append.1 hu with hu | hu
    · exact h1.one_cell u hu
    · exact h2.one_cell u hu

section app
variable {P : Program} (w : World)
theorem run_append_any (base : Nat) (t ty e : TypeId) (i : TypeInfo) (z : Value) (size bytes : Nat) (ht : P.underlying t = some (.slice e)) (hi : P.info? e = some i) (hz : i.zero = some z)
    (hsize : i.size = size) (hby : i.bytes = bytes) (hzs : z.cells.size = size) (hsz : 0 < size)
    (v : Value) (n : Nat) (xs : List Value) (hown : w.ownsRow base e size v n xs)
    (sv : Value) (m : Nat) (news : List Value) (hs : Src w sv m news) (hl : news.length = m * size) (h1 : ∀ u ∈ news, u.oneCell' = true)
    (h63 : n + m ≤ maxLen) (hbytes : (n + m) * bytes ≤ 140737488355328) (hbase : base ≤ w.heap.size) :
    ∃ v' w', (Builtin.append_ #[t, t] ty #[v, sv]).run P w = .ok v' w' ∧ w'.ownsRow base e size v' (n + m) (xs ++ news) ∧ w.grownBy w' v.ownBlock ∧
      (v' = .slice none 0 0 ↔ v = .slice none 0 0 ∧ m = 0) ∧ (v'.ownBlock = v.ownBlock ∨ v'.ownBlock = some w.heap.size) := by
  by_cases hm : m = 0
  · subst hm
    obtain rfl : news = [] := List.eq_nil_of_length_eq_zero (by simpa using hl)
    refine ⟨v, w, ?_, by simpa using hown, World.grownBy.refl _ _, by simp, .inl rfl⟩
    have hsv : ∃ a c, sv = .slice a 0 c := by
      rcases hs with ⟨c, rfl, _⟩ | ⟨a, c, rfl, _⟩
      · exact ⟨_, _, rfl⟩
      · exact ⟨_, _, rfl⟩
    obtain ⟨a, c, rfl⟩ := hsv
    have hf : ∀ (a : Option Addr) w', (Builtin.firstCells i.size 0 (.slice a 0 c)).run P w' = .ok #[] w' := by
      intro a w'
      cases a with
      | none => simp [Builtin.firstCells]
      | some a => simp [Builtin.firstCells, loadCells, loadCellsFrom]
    rcases hown.2 with ⟨rfl, rfl⟩ | ⟨g, cap, cur, rfl, hbg, hg, hnc, hcm, hcs, htake⟩
    · simp [Builtin.append_, run_underlying ht, sizeOf, typeInfo, hi, Builtin.lenOf, hf]
    · simp [Builtin.append_, run_underlying ht, sizeOf, typeInfo, hi, Builtin.lenOf, hf, hnc, storeCells]
  · obtain ⟨ad, c, rfl, hnews⟩ : ∃ ad c, sv = .slice (some ad) m c ∧ ∀ j u, news[j]? = some u → w.cell? (ad.add j) = some u := by
      rcases hs with ⟨c, _, h0, _⟩ | ⟨a, c, rfl, ⟨h0, _⟩ | ⟨ad, rfl, h⟩⟩
      · exact absurd h0 hm
      · exact absurd h0 hm
      · exact ⟨ad, c, rfl, h⟩
    subst hsize
    subst hby
    have hsmall : n + m ≤ 9223372036854775807 := by simp only [maxLen] at h63; omega
    have hlen : (xs ++ news).length = (n + m) * i.size := by rw [List.length_append, hown.1, hl, Nat.add_mul]
    have grown : ∀ (old : Nat), old < n + m → ∀ (row : Option Nat),
        (w.drew.alloc (.cells (xs.toArray ++ news.toArray ++ Builtin.zeroCells z.cells (grownCap w (n + m) old e - (n + m))) e)).ownsRow base e i.size
          (.slice (some ⟨w.heap.size, 0, none⟩) (n + m) (grownCap w (n + m) old e)) (n + m) (xs ++ news) ∧
        w.grownBy (w.drew.alloc (.cells (xs.toArray ++ news.toArray ++ Builtin.zeroCells z.cells (grownCap w (n + m) old e - (n + m))) e)) row := by
      intro old ho row
      have hge := grownCap_ge w (n + m) old e
      have hcm : grownCap w (n + m) old e ≤ maxLen := grownCap_le_maxLen w (n + m) old e h63
      refine ⟨⟨hlen, .inr ⟨w.heap.size, _, _, rfl, hbase, heap_alloc_new w.drew _, hge, hcm, ?_, ?_⟩⟩, ⟨rfl, rfl, rfl, by simp, fun k hk _ => heap_alloc_old w.drew _ hk⟩⟩
      · simp only [Array.size_append, List.size_toArray, size_zeroCells, hzs, hown.1, hl, ← Nat.add_mul]
        congr 1
        omega
      · simp only [Array.toList_append, List.append_assoc]
        rw [← List.append_assoc, ← hlen]
        exact List.take_left
    rcases hown.2 with ⟨rfl, rfl⟩ | ⟨g, cap, cur, rfl, hbg, hg, hnc, hcm, hcs, htake⟩
    · have hx : xs = [] := List.eq_nil_of_length_eq_zero (by simpa using hown.1)
      subst hx
      have hr := run_append_nil (P := P) w t ty e i z ht hi hz ad m c news hl hnews (by omega) (by omega) (by have hb := hbytes; simp only [Nat.zero_add] at hb; omega)
      have hgr := grown 0 (by omega) (Value.ownBlock (.slice none 0 0))
      simp only [Nat.zero_add, List.nil_append, Array.empty_append] at hgr ⊢
      exact ⟨_, _, hr, hgr.1, hgr.2, by simp [hm], .inr rfl⟩
    · by_cases hroom : n + m ≤ cap
      · have hfit : n * i.size + news.length ≤ cur.size := by rw [hl, hcs, ← Nat.add_mul]; exact Nat.mul_le_mul_right _ hroom
        have hr := run_append_room (P := P) w t ty e i ht hi g n cap cur hg ad m c news hl hnews h1 hroom hfit
        refine ⟨_, _, hr, ⟨hlen, .inr ⟨g, cap, _, rfl, hbg, setRow_heap w g cur _ e _ hg, hroom, hcm, ?_, ?_⟩⟩, ⟨rfl, rfl, rfl, by simp, fun k _ hk => setRow_other w g k _ (fun e => hk (by simp [Value.ownBlock, e]))⟩, by simp, .inl rfl⟩
        · simp only [List.size_toArray, List.length_append, List.length_take, List.length_drop, Array.length_toList]
          omega
        · rw [htake, ← hlen]
          exact List.take_left
      · have holds : ∀ j u, xs[j]? = some u → w.cell? ((⟨g, 0, none⟩ : Addr).add j) = some u := hown.cells (g := g) rfl
        have hr := run_append_grow (P := P) w t ty e i z ht hi hz ⟨g, 0, none⟩ n cap xs hown.1 holds ad m c news hl hnews (by omega) (by omega) (growslice_fits (by omega) hbytes)
        have hgr := grown cap (by omega) (Value.ownBlock (.slice (some ⟨g, 0, none⟩) n cap))
        exact ⟨_, _, hr, hgr.1, hgr.2, by simp, .inr rfl⟩
end app
/-! ### A slice of the call's own, read as a list -/
/-- v is a slice of the call's own (from block base on), it holds xs; what its elements lead to lies in S, and not in its own block. -/
def Owns (e : Ty) (te : TypeId) (base : Nat) (S : Nat → Prop) (w : World) (v : Value) (xs : List e.den) : Prop :=
  ∃ vs, w.ownsRow base te e.sz v xs.length vs ∧ RdL e S w vs xs ∧ ∀ b, S b → v.ownBlock ≠ some b ∧ b < w.heap.size

theorem Owns.nil (e : Ty) (te : TypeId) (base : Nat) (w : World) : Owns e te base (fun _ => False) w (.slice none 0 0) [] :=
  ⟨[], World.ownsRow_nil _ _ _ _, rfl, fun _ h => h.elim⟩

theorem Owns.len {e : Ty} {te : TypeId} {base : Nat} {S : Nat → Prop} {w : World} {v : Value} {xs : List e.den} (h : Owns e te base S w v xs) :
    v = .slice none 0 0 ∧ xs = [] ∨ ∃ g cap, v = .slice (some ⟨g, 0, none⟩) xs.length cap ∧ base ≤ g ∧ g < w.heap.size ∧ xs.length ≤ cap ∧ cap ≤ 9223372036854775807 := by
  obtain ⟨vs, ho, _, _⟩ := h
  rcases ho.2 with ⟨rfl, h0⟩ | ⟨g, cap, cur, rfl, hb, hg, h1, h2, _⟩
  · exact .inl ⟨rfl, List.eq_nil_of_length_eq_zero h0⟩
  · exact .inr ⟨g, cap, rfl, hb, (Array.getElem?_eq_some_iff.1 hg).1, h1, h2⟩

theorem Owns.slice {e : Ty} {te : TypeId} {base : Nat} {S : Nat → Prop} {w : World} {v : Value} {xs : List e.den} (h : Owns e te base S w v xs) : ∃ a len cap, v = .slice a len cap ∧ len = xs.length ∧ len ≤ cap ∧ cap ≤ 9223372036854775807 := by
  rcases h.len with ⟨rfl, rfl⟩ | ⟨g, cap, rfl, _, _, h1, h2⟩
  · exact ⟨none, 0, 0, rfl, by simp, by simp, by omega⟩
  · exact ⟨_, _, cap, rfl, rfl, h1, h2⟩

theorem Owns.row_cells {e : Ty} {te : TypeId} {base : Nat} {S : Nat → Prop} {w : World} {v : Value} {xs : List e.den} (h : Owns e te base S w v xs) (g : Nat) (hg : v.ownBlock = some g) : ∃ o : Obj, w.heap[g]? = some o ∧ o.isCells = true := by
  obtain ⟨vs, ho, _, _⟩ := h
  rcases ho.2 with ⟨rfl, h0⟩ | ⟨g', cap, cur, rfl, hb, hg', _⟩
  · simp [Value.ownBlock] at hg
  · simp [Value.ownBlock] at hg
    subst hg
    exact ⟨_, hg', rfl⟩

theorem Owns.own {e : Ty} {te : TypeId} {base : Nat} {S : Nat → Prop} {w : World} {v : Value} {xs : List e.den} (h : Owns e te base S w v xs) : ∀ g, v.ownBlock = some g → base ≤ g ∧ g < w.heap.size := by
  obtain ⟨vs, ho, _, _⟩ := h
  exact ho.lt

theorem Owns.keep {e : Ty} {te : TypeId} {base : Nat} {S : Nat → Prop} {w w' : World} {v : Value} {xs : List e.den} (h : Owns e te base S w v xs)
    (hw : ∀ b, (S b ∨ v.ownBlock = some b) → w'.heap[b]? = w.heap[b]?) (hsz : w.heap.size ≤ w'.heap.size) : Owns e te base S w' v xs := by
  obtain ⟨vs, ho, hr, hS⟩ := h
  refine ⟨vs, ⟨ho.1, ?_⟩, hr.keep (fun b hb => hw b (.inl hb)) (fun _ h => h), fun b hb => ⟨(hS b hb).1, Nat.lt_of_lt_of_le (hS b hb).2 hsz⟩⟩
  rcases ho.2 with hn | ⟨g, cap, cur, rfl, hb, hg, r⟩
  · exact .inl hn
  · exact .inr ⟨g, cap, cur, rfl, hb, (hw g (.inr rfl)).trans hg, r⟩

theorem Owns.mono {e : Ty} {te : TypeId} {base : Nat} {S S' : Nat → Prop} {w : World} {v : Value} {xs : List e.den} (h : Owns e te base S w v xs)
    (hS : ∀ b, S b → S' b) (h' : ∀ b, S' b → v.ownBlock ≠ some b ∧ b < w.heap.size) : Owns e te base S' w v xs := by
  obtain ⟨vs, ho, hr, _⟩ := h
  exact ⟨vs, ho, hr.keep (fun _ _ => rfl) hS, h'⟩

theorem Owns.flat {e : Ty} (hf : e.flat = true) {te : TypeId} {base : Nat} {S : Nat → Prop} {w : World} {v : Value} {xs : List e.den} (h : Owns e te base S w v xs) : Owns e te base (fun _ => False) w v xs := by
  obtain ⟨vs, ho, hr, _⟩ := h
  exact ⟨vs, ho, hr.flat hf, fun _ h => h.elim⟩

theorem Owns.rd {e : Ty} {te : TypeId} {base : Nat} {S : Nat → Prop} {w : World} {v : Value} {xs : List e.den} (h : Owns e te base S w v xs) (T : Nat → Prop) (hST : ∀ b, S b → T b) (hT : ∀ b, v.ownBlock = some b → T b) :
    Rd (.sl e) T w [v] xs := by
  obtain ⟨vs, ho, hr, _⟩ := h
  rcases ho.2 with ⟨rfl, h0⟩ | ⟨g, cap, cur, rfl, hb, hg, h1, h2, hc, ht⟩
  · exact ⟨none, 0, 0, rfl, h0, Nat.le_refl _, by omega, .inl rfl⟩
  · refine Rd.sl_of_flat (vs := vs) rfl h1 (by simpa [maxLen] using h2) (hr.keep (fun _ _ => rfl) hST) (.inr ⟨g, 0, rfl, hT g rfl, fun j u hu => ?_⟩)
    have := ho.cells (g := g) rfl j u hu
    rwa [Addr.add_none] at this

theorem Owns.lit {e : Ty} {te : TypeId} {base : Nat} {S : Nat → Prop} (w : World) {vs : List Value} {xs : List e.den} (hr : RdL e S w vs xs) (hb : base ≤ w.heap.size) (hS : ∀ b, S b → b < w.heap.size) (hm : xs.length ≤ 9223372036854775807) :
    Owns e te base S (w.alloc (.cells vs.toArray te)) (.slice (some ⟨w.heap.size, 0, none⟩) xs.length xs.length) xs := by
  refine ⟨vs, ⟨hr.len, .inr ⟨w.heap.size, xs.length, vs.toArray, rfl, hb, heap_alloc_new w _, Nat.le_refl _, by simpa [maxLen] using hm, by simp [hr.len], by simp [← hr.len]⟩⟩, ?_, fun b h => ⟨?_, ?_⟩⟩
  · exact hr.keep (fun b h => heap_alloc_old w _ (hS b h)) (fun _ h => h)
  · have := hS b h
    simp [Value.ownBlock]; omega
  · have := hS b h
    simp; omega

theorem Owns.base {e : Ty} {te : TypeId} {base base' : Nat} {S : Nat → Prop} {w : World} {v : Value} {xs : List e.den} (h : Owns e te base S w v xs) (hb : base' ≤ base) : Owns e te base' S w v xs := by
  obtain ⟨vs, ho, hr, hS⟩ := h
  refine ⟨vs, ⟨ho.1, ?_⟩, hr, hS⟩
  rcases ho.2 with hn | ⟨g, cap, cur, rfl, hb', r⟩
  · exact .inl hn
  · exact .inr ⟨g, cap, cur, rfl, Nat.le_trans hb hb', r⟩
theorem Owns.drew {e : Ty} {te : TypeId} {base : Nat} {S : Nat → Prop} {w : World} {v : Value} {xs : List e.den} (h : Owns e te base S w v xs) : Owns e te base S w.drew v xs := h.keep (fun _ _ => rfl) (Nat.le_refl _)
theorem Owns.alloc {e : Ty} {te : TypeId} {base : Nat} {S : Nat → Prop} {w : World} {v : Value} {xs : List e.den} (h : Owns e te base S w v xs) (o : Obj) : Owns e te base S (w.alloc o) v xs :=
  h.keep (fun b hb => heap_alloc_old w o (by
    rcases hb with hb | hb
    · obtain ⟨_, _, _, h3⟩ := h; exact (h3 b hb).2
    · exact (h.own b hb).2)) (by simp)
theorem Owns.below {e : Ty} {te : TypeId} {base : Nat} {S : Nat → Prop} {w w' : World} {v : Value} {xs : List e.den} (h : Owns e te base S w v xs) (hb : Below w.heap.size w w') : Owns e te base S w' v xs :=
  h.keep (fun b hb' => hb.block b (by
    rcases hb' with hb' | hb'
    · obtain ⟨_, _, _, h3⟩ := h; exact (h3 b hb').2
    · exact (h.own b hb').2)) hb.size

theorem Owns.bound {e : Ty} {te : TypeId} {base : Nat} {S : Nat → Prop} {w : World} {v : Value} {xs : List e.den} (h : Owns e te base S w v xs) : ∀ b, S b → v.ownBlock ≠ some b ∧ b < w.heap.size := by
  obtain ⟨_, _, _, h3⟩ := h; exact h3

section applaw
variable {P : Program} (w : World)
/-- append(s, x..) for a slice s of the call's own. -/
theorem run_app {e : Ty} {base : Nat} {t ty te : TypeId} {z : Value} {bytes : Nat} (hi : (P.info? te).map (fun i => (i.zero, i.size, i.bytes)) = some (some z, e.sz, bytes)) (ht : P.underlying t = some (.slice te)) (hz : z.cells.size = e.sz) (h0 : 0 < e.sz)
    {S : Nat → Prop} {v : Value} {xs : List e.den} (hown : Owns e te base S w v xs) (hbase : base ≤ w.heap.size)
    {sv : Value} {ys : List e.den} {news : List Value} (hs : Src w sv ys.length news) (hr : RdL e S w news ys) (hb : (xs.length + ys.length) * bytes ≤ 140737488355328) (hm : xs.length + ys.length ≤ 9223372036854775807) :
    ∃ v' w', (Builtin.append_ #[t, t] ty #[v, sv]).run P w = .ok v' w' ∧ Owns e te base S w' v' (xs ++ ys) ∧ w.grownBy w' v.ownBlock ∧
      (v' = .slice none 0 0 ↔ v = .slice none 0 0 ∧ ys = []) ∧ (v'.ownBlock = v.ownBlock ∨ v'.ownBlock = some w.heap.size) := by
  obtain ⟨vs, ho, hvs, hS⟩ := hown
  obtain ⟨i, hi, hz0, hz1, hz2⟩ := info_parts hi
  obtain ⟨v', w', hrun, ho', hg, hnil, hob⟩ := run_append_any (P := P) w base t ty te i z e.sz bytes ht hi hz0 hz1 hz2 hz h0 v xs.length vs ho sv ys.length news hs hr.len hr.one_cell (by simpa [maxLen] using hm) hb hbase
  have hkeep : ∀ b, S b → w'.heap[b]? = w.heap[b]? := fun b hb => hg.block b (hS b hb).2 (fun e => (hS b hb).1 e.symm)
  refine ⟨v', w', hrun, ⟨vs ++ news, by rw [List.length_append]; exact ho', (hvs.append hr).keep hkeep (fun _ h => h), fun b hb => ⟨?_, Nat.lt_of_lt_of_le (hS b hb).2 hg.size⟩⟩, hg, ?_, hob⟩
  · rcases hob with h | h
    · rw [h]; exact (hS b hb).1
    · rw [h]; have := (hS b hb).2; simp; omega
  · rw [hnil]; simp

theorem wpList_app {ops : Array Oper} {rest : List Oper} {o : Oper} {a : Act} {Q : Exit → Act → World → Prop} (hgd : o.guard = none) (s x : Operand) (t : TypeId)
    (ho : o.op = .call { callee := .builtin .append, args := #[s, x], argTypes := #[t, t] })
    {e : Ty} {base : Nat} {te : TypeId} {z : Value} {bytes : Nat} (hi : (P.info? te).map (fun i => (i.zero, i.size, i.bytes)) = some (some z, e.sz, bytes)) (ht : P.underlying t = some (.slice te)) (hz : z.cells.size = e.sz) (h0 : 0 < e.sz)
    {S : Nat → Prop} {v : Value} {xs : List e.den} (hv : a.eval s = v) (hown : Owns e te base S w v xs) (hbase : base ≤ w.heap.size)
    {sv : Value} (hsv : a.eval x = sv) {ys : List e.den} {news : List Value} (hs : Src w sv ys.length news) (hr : RdL e S w news ys) (hb : (xs.length + ys.length) * bytes ≤ 140737488355328) (hm : xs.length + ys.length ≤ 9223372036854775807)
    (h : ∀ v' w', Owns e te base S w' v' (xs ++ ys) → w.grownBy w' v.ownBlock → (v' = .slice none 0 0 ↔ v = .slice none 0 0 ∧ ys = []) → (v'.ownBlock = v.ownBlock ∨ v'.ownBlock = some w.heap.size) → wpList P ops Q rest (a.put o.dst v') w') :
    wpList P ops Q (o :: rest) a w := by
  refine wpList_plain hgd fun K hK => ?_
  obtain ⟨v', w', hrun, h1, h2, h3, h4⟩ := run_app (P := P) w (ty := o.type) hi ht hz h0 hown hbase hs hr hb hm
  unfold Oper.wp
  simp [execOp, ho, resolve, invoke, builtin, hv, hsv, hrun, Result.andThen]
  exact hK _ _ (h v' w' h1 h2 h3 h4)

theorem wpListIn_app {F : Fence} {n : Nat} {ops : Array Oper} {rest : List Oper} {o : Oper} {a : Act} {Q : Exit → Act → World → Prop} (hgd : o.guard = none) (s x : Operand) (t : TypeId)
    (ho : o.op = .call { callee := .builtin .append, args := #[s, x], argTypes := #[t, t] })
    {e : Ty} {base : Nat} {te : TypeId} {z : Value} {bytes : Nat} (hi : (P.info? te).map (fun i => (i.zero, i.size, i.bytes)) = some (some z, e.sz, bytes)) (ht : P.underlying t = some (.slice te)) (hz : z.cells.size = e.sz) (h0 : 0 < e.sz)
    {S : Nat → Prop} {v : Value} {xs : List e.den} (hv : a.eval s = v) (hown : Owns e te base S w v xs) (hbase : base ≤ w.heap.size)
    {sv : Value} (hsv : a.eval x = sv) {ys : List e.den} {news : List Value} (hs : Src w sv ys.length news) (hr : RdL e S w news ys) (hb : (xs.length + ys.length) * bytes ≤ 140737488355328) (hm : xs.length + ys.length ≤ 9223372036854775807)
    (h : ∀ v' w', Owns e te base S w' v' (xs ++ ys) → w.grownBy w' v.ownBlock → (v' = .slice none 0 0 ↔ v = .slice none 0 0 ∧ ys = []) → (v'.ownBlock = v.ownBlock ∨ v'.ownBlock = some w.heap.size) → wpListIn F n P ops Q rest (a.put o.dst v') w') :
    wpListIn F n P ops Q (o :: rest) a w := by
  refine wpListIn_plain hgd fun K hK => ?_
  obtain ⟨v', w', hrun, h1, h2, h3, h4⟩ := run_app (P := P) w (ty := o.type) hi ht hz h0 hown hbase hs hr hb hm
  unfold Oper.wpIn
  refine ⟨?_, ?_⟩
  · simp [Oper.about, ho, resolve, Target.leads, Sem.run_pure]
  · rw [Oper.semAt_plain F _ _ (by rw [ho]; intro c hc'; cases hc')]
    simp [execOp, ho, resolve, invoke, builtin, hv, hsv, hrun, Result.andThen]
    exact hK _ _ (h v' w' h1 h2 h3 h4)
end applaw

theorem Src.of_cells {w : World} {b off m c : Nat} {news : List Value} (h : ∀ j u, news[j]? = some u → w.cell? ⟨b, off + j, none⟩ = some u) : Src w (.slice (some ⟨b, off, none⟩) m c) m news :=
  .inr ⟨_, _, rfl, .inr ⟨_, rfl, fun j u hu => by rw [Addr.add_none]; exact h j u hu⟩⟩

/-- What a literal has just laid is a source. -/
theorem Src.new (w : World) (cs : List Value) (t : TypeId) (m c : Nat) : Src (w.alloc (.cells cs.toArray t)) (.slice (some ⟨w.heap.size, 0, none⟩) m c) m cs :=
  Src.of_cells fun j u hu => by
    have := cell_of_row (w.alloc (.cells cs.toArray t)) w.heap.size j cs.toArray t (0, 0) (heap_alloc_new w _)
    rw [Nat.zero_add, this]; simpa using hu

/-- A slice that is read is a source. -/
theorem Rd.src {e : Ty} {S : Nat → Prop} {w : World} {v : Value} {xs : List e.den} (h : Rd (.sl e) S w [v] xs) : ∃ news, Src w v xs.length news ∧ RdL e S w news xs := by
  obtain ⟨a, len, cap, he, _⟩ := id h
  simp only [List.cons.injEq, and_true] at he
  subst he
  obtain ⟨rfl, h2, h3, vs, hr, h4⟩ := h.sl_flat
  refine ⟨vs, ?_, hr⟩
  rcases h4 with h0 | ⟨b, off, rfl, _, hc⟩
  · have : vs = [] := List.eq_nil_of_length_eq_zero (by rw [hr.len, h0]; simp)
    subst this
    exact .inr ⟨_, _, rfl, .inl ⟨h0, rfl⟩⟩
  · exact Src.of_cells hc

section copylaw
variable {P : Program} (w : World)
theorem run_copy {e : Ty} {t ty te : TypeId} {z : Value} {bytes : Nat} (hi : (P.info? te).map (fun i => (i.zero, i.size, i.bytes)) = some (some z, e.sz, bytes)) (ht : P.underlying t = some (.slice te)) (hz : z.cells.size = e.sz) (h0 : 0 < e.sz)
    {S : Nat → Prop} {sv : Value} {xs : List e.den} {len : Nat} (hr : Rd (.sl e) S w [sv] xs) (hS : ∀ b, S b → b < w.heap.size) (hl : xs.length = len) (hb : len * bytes ≤ 140737488355328) (hm : len ≤ 9223372036854775807) :
    ∃ g cv w', (Builtin.append_ #[t, t] ty #[.slice (some ⟨w.heap.size, 0, none⟩) 0 0, sv]).run P (w.alloc (.cells #[] te)) = .ok (.slice (some ⟨g, 0, none⟩) len cv) w' ∧
      Owns e te w.heap.size S w' (.slice (some ⟨g, 0, none⟩) len cv) xs ∧ w.heap.size ≤ g ∧ Below w.heap.size w w' ∧ len ≤ cv ∧ cv ≤ 9223372036854775807 := by
  have hBa : Below w.heap.size w (w.alloc (.cells #[] te)) := (Below.refl _ w).alloc (Nat.le_refl _) _
  obtain ⟨news, hsrc, hnew⟩ := (hr.below hBa hS).src
  have hOl : Owns e te w.heap.size S (w.alloc (.cells #[] te)) (.slice (some ⟨w.heap.size, 0, none⟩) 0 0) [] :=
    (Owns.lit (e := e) w (S := fun _ => False) (vs := []) (xs := []) rfl (Nat.le_refl _) (fun _ h => h.elim) (by simp)).mono (fun _ h => h.elim) (fun b hb => ⟨by have := hS b hb; simp [Value.ownBlock]; omega, by have := hS b hb; simp; omega⟩)
  obtain ⟨v', w', hrun, hO, hg, hnil, _⟩ := run_app (P := P) (ty := ty) (w.alloc (.cells #[] te)) hi ht hz h0 hOl (by simp) hsrc hnew (by simpa [hl] using hb) (by simpa [hl] using hm)
  rw [List.nil_append] at hO
  have hB : Below w.heap.size w w' := hBa.grown hg (by simp) (fun k e => by cases e; exact Nat.le_refl _)
  rcases hO.len with ⟨rfl, _⟩ | ⟨g, cv, rfl, hgb, _, h1, h2⟩
  · have := (hnil.1 rfl).1; cases this
  · subst hl
    exact ⟨g, cv, w', hrun, hO, hgb, hB, h1, h2⟩

/-- append([]T{}, x...): a copy of the call's own. -/
theorem wpList_copy {ops : Array Oper} {rest : List Oper} {o : Oper} {a : Act} {Q : Exit → Act → World → Prop} (hgd : o.guard = none) (s x : Operand) (t : TypeId)
    (ho : o.op = .call { callee := .builtin .append, args := #[s, x], argTypes := #[t, t] })
    {e : Ty} {te : TypeId} {z : Value} {bytes : Nat} (hi : (P.info? te).map (fun i => (i.zero, i.size, i.bytes)) = some (some z, e.sz, bytes)) (ht : P.underlying t = some (.slice te)) (hz : z.cells.size = e.sz) (h0 : 0 < e.sz)
    (hv : a.eval s = .slice (some ⟨w.heap.size, 0, none⟩) 0 0) {S : Nat → Prop} {sv : Value} {xs : List e.den} {len : Nat} (hsv : a.eval x = sv) (hr : Rd (.sl e) S w [sv] xs) (hS : ∀ b, S b → b < w.heap.size) (hl : xs.length = len) (hb : len * bytes ≤ 140737488355328) (hm : len ≤ 9223372036854775807)
    (h : ∀ g cv w', Owns e te w.heap.size S w' (.slice (some ⟨g, 0, none⟩) len cv) xs → w.heap.size ≤ g → Below w.heap.size w w' → len ≤ cv → cv ≤ 9223372036854775807 → wpList P ops Q rest (a.put o.dst (.slice (some ⟨g, 0, none⟩) len cv)) w') :
    wpList P ops Q (o :: rest) a (w.alloc (.cells #[] te)) := by
  refine wpList_plain hgd fun K hK => ?_
  obtain ⟨g, cv, w', hrun, h1, h2, h3, h4, h5⟩ := run_copy (P := P) w (ty := o.type) hi ht hz h0 hr hS hl hb hm
  unfold Oper.wp
  simp [execOp, ho, resolve, invoke, builtin, hv, hsv, hrun, Result.andThen]
  exact hK _ _ (h g cv w' h1 h2 h3 h4 h5)

end copylaw

/-- A variable in a box of its own that holds an owned slice, after 'x = append(x, ..)': what is left. -/
theorem box_app {e : Ty} {te t : TypeId} {B T : Nat} {S : Nat → Prop} {w W w1 : World} {v v' : Value} {tmp : Obj} {ys zs : List e.den} (hv : Boxed W T t v) (hO : Owns e te B S W v ys) (hne : v.ownBlock ≠ some T) (hBT : B ≤ T)
    (g1 : (W.alloc tmp).grownBy w1 v.ownBlock) (O1 : Owns e te B S w1 v' zs) (hob : v'.ownBlock = v.ownBlock ∨ v'.ownBlock = some (W.alloc tmp).heap.size) (hB : Below B w W) (hBw : B ≤ w.heap.size) (hST : ∀ b, S b → b ≠ T) :
    KeepsOthers W (w1.setCell ⟨T, 0, none⟩ v') ∧ Below B W (w1.setCell ⟨T, 0, none⟩ v') ∧ Boxed (w1.setCell ⟨T, 0, none⟩ v') T t v' ∧ Owns e te B S (w1.setCell ⟨T, 0, none⟩ v') v' zs ∧ Below B w (w1.setCell ⟨T, 0, none⟩ v') ∧ v'.ownBlock ≠ some T := by
  have hTW : T < W.heap.size := hv.lt
  have hBW : B ≤ W.heap.size := Nat.le_trans hBw hB.size
  have hne' : v'.ownBlock ≠ some T := by
    rcases hob with h | h
    · rw [h]; exact hne
    · rw [h]; simp; omega
  have b1 : Boxed w1 T t v := (hv.alloc tmp).kept g1 (fun e => hne e.symm)
  have hb : Below B W (w1.setCell ⟨T, 0, none⟩ v') := (((Below.refl B W).alloc hBW tmp).grown g1 (by simp; omega) (fun k e => (hO.own k e).1)).setCell (p := ⟨T, 0, none⟩) hBT _
  refine ⟨?_, hb, b1.set v', O1.keep (fun b' hb' => Below.heap_setCell _ _ _ _ ?_) (by simp [World.setCell]), hB.trans hb, hne'⟩
  · refine ((KeepsOthers.alloc W tmp).trans (KeepsOthers.of_grownBy g1 (fun j o e hj => ?_))).trans (KeepsOthers.setCell _ _ _)
    obtain ⟨o', h1, h2⟩ := hO.row_cells j e
    rw [Below.heap_alloc W tmp j (Array.getElem?_eq_some_iff.1 h1).1] at hj
    rw [h1] at hj
    cases hj
    exact h2
  · rcases hb' with hb2 | hb2
    · exact hST _ hb2
    · exact fun e => hne' (hb2.trans (congrArg some e))

/-! ### What literals have laid -/
/-! ### Slices of one-cell elements, in the walk's own form -/
theorem ret_bool {a b : Bool} (h : a = b) : Ending.returned (.bool a) = .returned (.bool b) := by rw [h]

end Go.Proofs.Ytoimbhdjhhmonaa

/- What the arguments of a statement read as: from the form's own reading ('DataW.trod') to 'Rd', for every type that 'fit' knows; and how a law's walk becomes the statement. -/
namespace Go.Proofs.Ytoimbhdjhhmonaa
open Go.RowKit Go

mutual
def bulkW {H : Type} : DataW H → Nat
  | .lit (.string bytes) => bytes.length + 1
  | .lit _ => 1
  | .nil => 1
  | .ptr d => bulkW d + 1
  | .slice elems spare => bulkWs elems + bulkWs spare + 1
  | .agg parts => bulkWs parts + 1
  | .iface _ d => bulkW d + 1
  | .map _ => 0
  | .held _ => 1
def bulkWs {H : Type} : List (DataW H) → Nat
  | [] => 0
  | d :: r => bulkW d + bulkWs r
end

/-- How many values and letters a datum holds, at least. -/
def Ty.bulk : (t : Ty) → t.den → Nat
  | .int _, _ => 1
  | .bool, _ => 1
  | .str, x => x.size + 1
  | .sl e, xs => (List.map (fun x => e.bulk x) xs).sum + 1
  | .pr a b, x => a.bulk x.1 + b.bulk x.2
  | .un, _ => 0

def fieldsOf (P : Program) (t : TypeId) : Option (List (TypeId × Nat)) :=
  match P.underlying t with
  | some (.struct fs) => some (fs.toList.map fun f => (f.type, f.offset))
  | some (.array n e) => some ((List.range n).map fun i => (e, i * P.cellsOf e))
  | _ => none

def fit (P : Program) : Ty → (TypeId → Bool) × (List (TypeId × Nat) → Nat → Bool)
  | .int k => (fun t => match P.underlying t with | some (.int k') => decide (k' = k) | _ => false, fun _ _ => false)
  | .bool => (fun t => match P.underlying t with | some .bool => true | _ => false, fun _ _ => false)
  | .str => (fun t => match P.underlying t with | some .string => true | _ => false, fun _ _ => false)
  | .sl e => (fun t => match P.underlying t with | some (.slice e') => P.cellsOf e' == e.sz && (fit P e).1 e' && decide (0 < e.sz) | _ => false, fun _ _ => false)
  | .pr a b => (fun t => P.cellsOf t == a.sz + b.sz && (match fieldsOf P t with | some ((u, o) :: r) => o == 0 && P.cellsOf u == a.sz && (fit P a).1 u && (fit P b).2 r (0 + a.sz) | _ => false),
      fun l off => match l with | (u, o) :: r => o == off && P.cellsOf u == a.sz && (fit P a).1 u && (fit P b).2 r (off + a.sz) | [] => false)
  | .un => (fun t => P.cellsOf t == 0 && (match fieldsOf P t with | some [] => true | _ => false), fun l _ => l.isEmpty)

section
variable {H : Type} {enc : TypeId × Value → H} {P : Program} {w : World} {spare : Nat → Bool} {held : Bool}

theorem cells?_cell {base : Nat} {a : Addr} {n : Nat} {cs : List Value} (h : w.cells? base a n = some cs) : cs.length = n ∧ ∀ j u, cs[j]? = some u → w.cell? (a.add j) = some u := by
  obtain ⟨_, h1, h2⟩ := World.cells?_some h
  refine ⟨h1, fun j u hu => ?_⟩
  have hj : j < n := by rw [← h1]; exact (List.getElem?_eq_some_iff.1 hu).1
  rw [← hu]
  exact h2 j hj

theorem bulkWs_append (a b : List (DataW H)) : bulkWs (a ++ b) = bulkWs a + bulkWs b := by
  induction a with
  | nil => simp [bulkWs]
  | cons x a ih => simp [bulkWs, ih]; omega

theorem fields_trod {t : TypeId} {l : List (TypeId × Nat)} {fuel : Nat} {cs : List Value} {d : DataW H} {ps : List MemPlace} (hl : fieldsOf P t = some l) (h : DataW.trod enc P w 0 spare held fuel t cs = some (d, ps)) :
    ∃ (ds : List (DataW H)) (m : Nat), d = .agg ds ∧ cs.length = P.cellsOf t ∧ ds.length = l.length ∧
      ∀ (i : Nat) (u : TypeId) (o : Nat), l[i]? = some (u, o) → ∃ d' p', ds[i]? = some d' ∧ DataW.trod enc P w 0 spare held m u ((cs.drop o).take (P.cellsOf u)) = some (d', p') := by
  unfold fieldsOf at hl
  split at hl
  · rename_i fs hu
    cases hl
    obtain ⟨xs, m, rfl, hx, h1, h2, h3⟩ := DataW.trod_struct hu h
    cases hx
    refine ⟨xs.map (·.1), m, rfl, h1, by simp [h2], fun i u o hi => ?_⟩
    rw [List.getElem?_map, Option.map_eq_some_iff] at hi
    obtain ⟨f, hf, he⟩ := hi
    cases he
    have := h3 i f (by simpa using hf)
    have hlt : i < xs.length := by rw [h2]; have := (List.getElem?_eq_some_iff.1 hf).1; simpa using this
    refine ⟨xs[i].1, xs[i].2, by simp [hlt], ?_⟩
    rw [this, List.getElem?_eq_getElem hlt]
  · rename_i n e hu
    cases hl
    obtain ⟨xs, m, rfl, hx, h1, h2, h3⟩ := DataW.trod_array hu h
    cases hx
    refine ⟨xs.map (·.1), m, rfl, h1, by simp [h2], fun i u o hi => ?_⟩
    rw [List.getElem?_map, Option.map_eq_some_iff] at hi
    obtain ⟨j, hj, he⟩ := hi
    cases he
    have hjn : j < n ∧ i = j := by
      rw [List.getElem?_eq_some_iff] at hj
      obtain ⟨hj1, hj2⟩ := hj
      simp at hj1 hj2
      omega
    obtain ⟨hjn, rfl⟩ := hjn
    have := h3 i hjn
    have hlt : i < xs.length := by omega
    refine ⟨xs[i].1, xs[i].2, by simp [hlt], ?_⟩
    rw [this, List.getElem?_eq_getElem hlt]
  · cases hl

theorem trod_rd : ∀ (ty : Ty),
    (∀ (fuel : Nat) (t : TypeId) (cs : List Value) (d : DataW H) (ps : List MemPlace), (fit P ty).1 t = true → DataW.trod enc P w 0 spare held fuel t cs = some (d, ps) → ∃ x : ty.den, Rd ty (fun b => b < w.heap.size) w cs x ∧ ty.bulk x ≤ bulkW d) ∧
    (∀ (l : List (TypeId × Nat)) (off : Nat) (cs : List Value) (ds : List (DataW H)) (m : Nat), (fit P ty).2 l off = true → cs.length = off + ty.sz → ds.length = l.length →
      (∀ (i : Nat) (u : TypeId) (o : Nat), l[i]? = some (u, o) → ∃ d' p', ds[i]? = some d' ∧ DataW.trod enc P w 0 spare held m u ((cs.drop o).take (P.cellsOf u)) = some (d', p')) →
      ∃ x : ty.den, Rd ty (fun b => b < w.heap.size) w (cs.drop off) x ∧ ty.bulk x ≤ bulkWs ds)
  | .int k => by
    refine ⟨fun fuel t cs d ps hf h => ?_, fun l off cs ds m hf => by simp [fit] at hf⟩
    simp only [fit] at hf
    split at hf
    · rename_i k' hu
      obtain rfl := of_decide_eq_true hf
      obtain ⟨n, rfl, hx, hwf⟩ := DataW.trod_int hu h
      cases hx
      exact ⟨n, ⟨rfl, hwf⟩, by simp [Ty.bulk, bulkW]⟩
    · cases hf
  | .bool => by
    refine ⟨fun fuel t cs d ps hf h => ?_, fun l off cs ds m hf => by simp [fit] at hf⟩
    simp only [fit] at hf
    split at hf
    · rename_i hu
      obtain ⟨n, rfl, hx⟩ := DataW.trod_bool hu h
      cases hx
      exact ⟨n, rfl, by simp [Ty.bulk, bulkW]⟩
    · cases hf
  | .str => by
    refine ⟨fun fuel t cs d ps hf h => ?_, fun l off cs ds m hf => by simp [fit] at hf⟩
    simp only [fit] at hf
    split at hf
    · rename_i hu
      obtain ⟨s, rfl, hx, hs⟩ := DataW.trod_string hu h
      cases hx
      exact ⟨s, ⟨rfl, hs⟩, by simp [Ty.bulk, bulkW]⟩
    · cases hf
  | .sl e => by
    refine ⟨fun fuel t cs d ps hf h => ?_, fun l off cs ds m hf => by simp [fit] at hf⟩
    simp only [fit] at hf
    split at hf
    · rename_i e' hu
      simp only [Bool.and_eq_true, beq_iff_eq, decide_eq_true_eq] at hf
      obtain ⟨⟨hsz, hfe⟩, h0⟩ := hf
      rcases Deep.open_slice hu h with ⟨rfl, hx⟩ | ⟨a, len, cap, m, n, D, Pl, rfl, _, hl, hm, hmm, hx, hel⟩
      · cases hx
        exact ⟨[], ⟨none, 0, 0, rfl, rfl, Nat.le_refl _, by omega, .inl rfl⟩, by simp [Ty.bulk, bulkW]⟩
      · cases hx
        have hlm : len ≤ m := by rw [hmm]; split <;> omega
        have key : ∀ k, k ≤ len → ∃ xs : List e.den, xs.length = k ∧ (∀ i (hi : i < xs.length), ∃ vs : List Value, vs.length = e.sz ∧ (∀ j u, vs[j]? = some u → w.cell? ((a.add (i * e.sz)).add j) = some u) ∧ Rd e (fun b => b < w.heap.size) w vs xs[i]) ∧
            (List.map (fun x => e.bulk x) xs).sum ≤ bulkWs ((List.range k).map D) := by
          intro k
          induction k with
          | zero => exact fun _ => ⟨[], rfl, fun i hi => by simp at hi, by simp [bulkWs]⟩
          | succ k ih =>
            intro hk
            obtain ⟨xs, h1, h2, h3⟩ := ih (by omega)
            obtain ⟨cs', hc, ht⟩ := hel k (by omega)
            obtain ⟨x, hr, hb⟩ := (trod_rd e).1 _ _ _ _ _ hfe ht
            obtain ⟨hcl, hcc⟩ := cells?_cell hc
            refine ⟨xs ++ [x], by simp [h1], fun i hi => ?_, ?_⟩
            · by_cases hik : i < k
              · obtain ⟨vs, q1, q2, q3⟩ := h2 i (by omega)
                exact ⟨vs, q1, q2, by rw [List.getElem_append_left (by omega)]; exact q3⟩
              · have hik' : i = k := by simp at hi; omega
                subst hik'
                refine ⟨cs', by rw [hcl, hsz], fun j u hu => ?_, ?_⟩
                · have := hcc j u hu
                  rwa [hsz] at this
                · have : (xs ++ [x])[i] = x := by simp [h1]
                  rw [this]; exact hr
            · rw [List.range_succ, List.map_append, List.map_append, bulkWs_append, List.sum_append]
              simp [bulkWs]
              omega
        obtain ⟨xs, h1, h2, h3⟩ := key len (Nat.le_refl _)
        refine ⟨xs, ⟨some a, len, cap, rfl, h1, hl, by simpa [maxLen] using hm, ?_⟩, ?_⟩
        · by_cases hl0 : len = 0
          · exact .inl hl0
          · right
            obtain ⟨b, off, spot⟩ := a
            obtain ⟨vs, q1, q2, q3⟩ := h2 0 (by omega)
            have hc0 := q2 0 (vs[0]'(by omega)) (by simp)
            simp only [Nat.zero_mul, Go.Deep.add_add, Nat.add_zero] at hc0
            have hc0' : w.cell? ⟨b, off, spot⟩ = some (vs[0]'(by omega)) := by simpa [Addr.add] using hc0
            have hspot : spot = none := by simpa using World.cell?_spot hc0'
            subst hspot
            refine ⟨b, off, rfl, World.block_lt_of_cell? w _ hc0', fun i hi => ?_⟩
            obtain ⟨vs, q1, q2, q3⟩ := h2 i hi
            refine ⟨vs, q1, fun j u hu => ?_, q3⟩
            have := q2 j u hu
            rwa [Go.Deep.add_add, Addr.add_none, ← Nat.add_assoc] at this
        · simp only [Ty.bulk, bulkW]
          omega
    · cases hf
  | .pr a b => by
    have two : ∀ (l : List (TypeId × Nat)) (off : Nat) (cs : List Value) (ds : List (DataW H)) (m : Nat), (fit P (.pr a b)).2 l off = true → cs.length = off + (a.sz + b.sz) → ds.length = l.length →
      (∀ (i : Nat) (u : TypeId) (o : Nat), l[i]? = some (u, o) → ∃ d' p', ds[i]? = some d' ∧ DataW.trod enc P w 0 spare held m u ((cs.drop o).take (P.cellsOf u)) = some (d', p')) →
      ∃ x : (Ty.pr a b).den, Rd (.pr a b) (fun b => b < w.heap.size) w (cs.drop off) x ∧ (Ty.pr a b).bulk x ≤ bulkWs ds := by
      intro l off cs ds m hf hlen hds hx
      match l, hf, hds, hx with
      | (u, o) :: r, hf, hds, hx =>
        simp only [fit, Bool.and_eq_true, beq_iff_eq] at hf
        obtain ⟨⟨⟨rfl, hsz⟩, hfa⟩, hfb⟩ := hf
        match ds, hds with
        | d :: ds, hds =>
          obtain ⟨d', p', hd, ht⟩ := hx 0 u o rfl
          simp at hd
          subst hd
          obtain ⟨x, hr, hb⟩ := (trod_rd a).1 _ _ _ _ _ hfa ht
          obtain ⟨y, hr2, hb2⟩ := (trod_rd b).2 r (o + a.sz) cs ds m hfb (by omega) (by simpa using hds) (fun i u' o' hi => hx (i + 1) u' o' hi)
          refine ⟨(x, y), ⟨(cs.drop o).take (P.cellsOf u), cs.drop (o + a.sz), ?_, hr, hr2⟩, ?_⟩
          · rw [hsz, ← List.drop_drop, List.take_append_drop]
          · simp only [Ty.bulk, bulkWs]
            omega
    refine ⟨fun fuel t cs d ps hf h => ?_, two⟩
    have hf0 := hf
    simp only [fit, Bool.and_eq_true, beq_iff_eq] at hf
    obtain ⟨hct, hf⟩ := hf
    split at hf
    · rename_i u o r hl
      obtain ⟨ds, m, rfl, h1, h2, h3⟩ := fields_trod hl h
      obtain ⟨x, hx, hb⟩ := two ((u, o) :: r) 0 cs ds m (by simpa [fit] using hf) (by omega) h2 h3
      exact ⟨x, by simpa using hx, by simp only [bulkW]; omega⟩
    · cases hf
  | .un => by
    refine ⟨fun fuel t cs d ps hf h => ?_, fun l off cs ds m hf hlen _ _ => ⟨(), by simp [Rd, hlen], by simp [Ty.bulk]⟩⟩
    simp only [fit, Bool.and_eq_true, beq_iff_eq] at hf
    obtain ⟨hct, hf⟩ := hf
    split at hf
    · rename_i hl
      obtain ⟨ds, m, rfl, h1, h2, h3⟩ := fields_trod hl h
      refine ⟨(), ?_, by simp [Ty.bulk]⟩
      simp only [Rd]
      exact List.eq_nil_of_length_eq_zero (by omega)
    · cases hf

/-- The value whose cells these are. -/
def valOf : Ty → List Value → Value
  | .pr _ _, cs => .agg cs.toArray
  | .un, cs => .agg cs.toArray
  | _, cs => cs.headD undef

theorem val_one {v u : Value} (h : v.cells.toList = [u]) (hv : ∀ cs, v ≠ .agg cs) : v = u := by
  cases v <;> simp_all [Value.cells]

theorem read_val {ty : Ty} {r : Reach} {base : Nat} {t : TypeId} {v : Value} {d : DataW H} {ps : List MemPlace} (hf : (fit P ty).1 t = true) (hok : Value.okWide P w r base t v) (h : DataW.Trod enc P w 0 spare held t v d ps) :
    ∃ cs x, v = valOf ty cs ∧ Rd ty (fun b => b < w.heap.size) w cs x ∧ ty.bulk x ≤ bulkW d := by
  obtain ⟨fuel, h⟩ := h
  obtain ⟨x, hr, hb⟩ := (trod_rd ty).1 _ _ _ _ _ hf h
  refine ⟨v.cells.toList, x, ?_, hr, hb⟩
  cases ty with
  | int k =>
    have hv : ∀ cs, v ≠ .agg cs := by
      rintro cs rfl
      simp only [fit] at hf
      split at hf
      · rename_i hu; simp [Value.okWide, hu, Cell.okWide, Cell.ok] at hok
      · cases hf
    obtain ⟨hc, _⟩ := hr
    rw [hc]
    exact val_one hc hv
  | bool =>
    have hv : ∀ cs, v ≠ .agg cs := by
      rintro cs rfl
      simp only [fit] at hf
      split at hf
      · rename_i hu; simp [Value.okWide, hu, Cell.okWide, Cell.ok] at hok
      · cases hf
    have hc : v.cells.toList = [.bool x] := hr
    rw [hc]
    exact val_one hc hv
  | str =>
    have hv : ∀ cs, v ≠ .agg cs := by
      rintro cs rfl
      simp only [fit] at hf
      split at hf
      · rename_i hu; simp [Value.okWide, hu, Cell.okWide, Cell.ok] at hok
      · cases hf
    obtain ⟨hc, _⟩ := hr
    rw [hc]
    exact val_one hc hv
  | sl e =>
    have hv : ∀ cs, v ≠ .agg cs := by
      rintro cs rfl
      simp only [fit] at hf
      split at hf
      · rename_i hu; simp [Value.okWide, hu, Cell.okWide, Cell.ok] at hok
      · cases hf
    obtain ⟨a, l, c, hc, _⟩ := hr
    rw [hc]
    exact val_one hc hv
  | pr a b =>
    simp only [fit, Bool.and_eq_true] at hf
    obtain ⟨_, hf⟩ := hf
    split at hf
    · rename_i u o r hl
      unfold fieldsOf at hl
      split at hl
      · rename_i hu
        simp only [Value.okWide, hu] at hok
        obtain ⟨cs, rfl, _⟩ := hok
        simp [valOf, Value.cells]
      · rename_i hu
        simp only [Value.okWide, hu] at hok
        obtain ⟨cs, rfl, _⟩ := hok
        simp [valOf, Value.cells]
      · cases hl
    · cases hf
  | un =>
    simp only [fit, Bool.and_eq_true] at hf
    obtain ⟨_, hf⟩ := hf
    split at hf
    · rename_i hl
      unfold fieldsOf at hl
      split at hl
      · rename_i hu
        simp only [Value.okWide, hu] at hok
        obtain ⟨cs, rfl, _⟩ := hok
        simp [valOf, Value.cells]
      · rename_i hu
        simp only [Value.okWide, hu] at hok
        obtain ⟨cs, rfl, _⟩ := hok
        simp [valOf, Value.cells]
      · cases hl
    · cases hf

theorem trod_lt' {t : TypeId} {v : Value} {d : DataW H} {ps : List MemPlace} (h : DataW.Trod enc P w 0 spare held t v d ps) : ∀ x ∈ ps, x.block < w.heap.size := by
  obtain ⟨m, hm⟩ := h
  exact DataW.trod_lt m _ _ _ hm
end
end Go.Proofs.Ytoimbhdjhhmonaa
