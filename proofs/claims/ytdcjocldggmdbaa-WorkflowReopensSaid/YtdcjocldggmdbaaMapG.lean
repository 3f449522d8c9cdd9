/- Program independent: maps keyed by any type of keys, with any elements, of whose readings the datum tells the value: look-up, length, store, delete. -/
import Derived.Test.YtdcjocldggmdbaaRegV
import Derived.Maps.OwnSet
import Derived.Maps.Ext
namespace Go.Proofs.Ytdcjocldggmdbaa
open Go.RowKit Go

/-- What keys are. -/
structure KeyS (P : Program) (k : TypeId) (κ : Type) where
  K : Maps.Keyed P k
  v : κ → Value
  ok : κ → Prop
  l : κ → Lit
  hl : ∀ x, ok x → keyOf P k (v x) = some (l x)
  inj : ∀ x y, ok x → ok y → l x = l y → x = y
/-- What elements are: z is the zero value's. -/
structure ElS (P : Program) (e : TypeId) (α : Type) where
  R : Value → Option (DataW Unit × List MemPlace)
  v : α → Value
  d : α → DataW Unit
  gd : α → Prop
  z : α
  hR : ∀ a, gd a → R (v a) = some (d a, [])
  hz : gd z
  inv : ∀ u a ps, R u = some (d a, ps) → u = v a
  zero : ∀ w, (zeroValue e).run P w = .ok (v z) w

section
variable {P : Program} {k e : TypeId} {κ α : Type}
def MapG (Ks : KeyS P k κ) (Es : ElS P e α) (w : World) (b m : Nat) (f : κ → Option α) : Prop :=
  ∃ D : DataW Unit, w.ownsMap P k Es.R b m D ∧ Maps.size D = m ∧ ∀ x : κ, Ks.ok x → Maps.has D (Ks.l x) = (f x).isSome ∧ D.atKey (Ks.l x) (Es.d Es.z) = Es.d ((f x).getD Es.z)
variable {Ks : KeyS P k κ} {Es : ElS P e α} {w : World} {b m : Nat} {f : κ → Option α} {t : TypeId}
theorem owns_exact {R : Value → Option (DataW Unit × List MemPlace)} {n : Nat} {D : DataW Unit} (h : w.ownsMap P k R b n D) : w.ownsMap P k R b (Maps.size D) D := by
  obtain ⟨es, clock, hb, F, hs, rfl⟩ := h
  exact ⟨es, clock, hb, F, by simp [Maps.size, length_sorted], rfl⟩
theorem MapG.look2 (h : MapG Ks Es w b m f) (ht : P.underlying t = some (.map k e)) (x : κ) (hx : Ks.ok x) :
    Sem.run P (Instr.lookup t (.map (some b)) (Ks.v x) true) w = .ok (.tuple #[Es.v ((f x).getD Es.z), .bool (f x).isSome]) w := by
  obtain ⟨D, hD, hm, hf⟩ := h
  obtain ⟨v, ps, hrun, hv⟩ := hD.look_ok Ks.K ht (Es.zero w) (Es.hR _ Es.hz) (Ks.hl x hx)
  rw [(hf x hx).2] at hv
  rw [hrun, (hf x hx).1, Es.inv _ _ _ hv]
theorem MapG.look1 (h : MapG Ks Es w b m f) (ht : P.underlying t = some (.map k e)) (x : κ) (hx : Ks.ok x) :
    Sem.run P (Instr.lookup t (.map (some b)) (Ks.v x) false) w = .ok (Es.v ((f x).getD Es.z)) w := by
  obtain ⟨D, hD, hm, hf⟩ := h
  obtain ⟨v, ps, hrun, hv⟩ := hD.lookup Ks.K ht (Es.zero w) (Es.hR _ Es.hz) (Ks.hl x hx)
  rw [(hf x hx).2] at hv
  rw [hrun, Es.inv _ _ _ hv]
theorem MapG.len (h : MapG Ks Es w b m f) (ht : P.underlying t = some (.map k e)) (ty : TypeId) : Sem.run P (Builtin.len_ #[t] ty #[.map (some b)]) w = .ok (.int .i64 m) w := by
  obtain ⟨D, hD, hm, hf⟩ := h
  rw [← hm]
  exact hD.len ht ty
theorem MapG.made (w : World) : MapG Ks Es (w.alloc (.map #[] 0)) w.heap.size 0 (fun _ => none) :=
  ⟨.map [], World.ownsMap_made w P _ _, rfl, fun x _ => ⟨rfl, rfl⟩⟩
theorem MapG.keep {w' : World} (h : MapG Ks Es w b m f) (hw : w'.heap[b]? = w.heap[b]?) : MapG Ks Es w' b m f := by
  obtain ⟨D, ⟨es, clock, hb, r⟩, hm, hf⟩ := h
  exact ⟨D, ⟨es, clock, hw.trans hb, r⟩, hm, hf⟩
theorem MapG.lt (h : MapG Ks Es w b m f) : b < w.heap.size := by
  obtain ⟨D, hD, _⟩ := h; exact hD.lt
theorem MapG.below {w' : World} (h : MapG Ks Es w b m f) (hB : Below w.heap.size w w') : MapG Ks Es w' b m f := h.keep (hB.block b h.lt)
theorem MapG.gr {F : Nat → Prop} {w' : World} (h : MapG Ks Es w b m f) (hg : Gr F w w') (hF : ¬ F b) : MapG Ks Es w' b m f := h.keep (hg.block b h.lt hF)
theorem MapG.congr (h : MapG Ks Es w b m f) {g : κ → Option α} (e : ∀ x, Ks.ok x → g x = f x) : MapG Ks Es w b m g := by
  obtain ⟨D, hD, hm, hf⟩ := h
  exact ⟨D, hD, hm, fun x hx => by rw [e x hx]; exact hf x hx⟩
theorem MapG.store [DecidableEq κ] (h : MapG Ks Es w b m f) (ht : P.underlying t = some (.map k e)) (hn : m < maxLen) (y : κ) (hy : Ks.ok y) (a : α) (ha : Es.gd a) :
    ∃ w', Sem.run P (Instr.mapUpdate t (.map (some b)) (Ks.v y) (Es.v a)) w = .ok () w' ∧ MapG Ks Es w' b (if (f y).isSome then m else m + 1) (fun x => if x = y then some a else f x) ∧ w.mapTurned w' b := by
  obtain ⟨D, hD, hm, hf⟩ := h
  obtain ⟨w', hrun, h1, h2⟩ := hD.store Ks.K ht hn (Ks.hl y hy) (Es.hR a ha)
  have hsz := Maps.size_put (k := Ks.l y) (hD.tidy Ks.K) (Es.d a)
  rw [(hf y hy).1, hm] at hsz
  refine ⟨w', hrun, ⟨_, by rw [← hsz]; exact owns_exact h1, hsz, fun x hx => ?_⟩, h2⟩
  by_cases e : x = y
  · subst e
    simp only [if_true]
    rw [Maps.atKey_put_same hD.isMap (Ks.K.key (Ks.hl x hx)), Maps.has_put_same hD.isMap (Ks.K.key (Ks.hl x hx))]
    exact ⟨rfl, rfl⟩
  · simp only [if_neg e]
    have hne : Ks.l x ≠ Ks.l y := fun h => e (Ks.inj x y hx hy h)
    rw [Maps.atKey_put_other hne, Maps.has_put_other hne]
    exact hf x hx
theorem MapG.drop [DecidableEq κ] (h : MapG Ks Es w b m f) (ht : P.underlying t = some (.map k e)) (y : κ) (hy : Ks.ok y) (ty : TypeId) :
    ∃ w', Sem.run P (Builtin.delete_ #[t, k] ty #[.map (some b), Ks.v y]) w = .ok (.tuple #[]) w' ∧ MapG Ks Es w' b (if (f y).isSome then m - 1 else m) (fun x => if x = y then none else f x) ∧ w.mapTurned w' b := by
  obtain ⟨D, hD, hm, hf⟩ := h
  obtain ⟨w', hrun, h1, h2⟩ := hD.drop Ks.K ht (Ks.hl y hy) ty
  have hsz := Maps.size_del (k := Ks.l y) (hD.tidy Ks.K)
  rw [(hf y hy).1, hm] at hsz
  have hsz' : Maps.size (D.del (Ks.l y)) = if (f y).isSome = true then m - 1 else m := by
    split at hsz <;> rename_i hc
    · rw [if_pos hc]; omega
    · rw [if_neg hc]; omega
  refine ⟨w', hrun, ⟨_, by rw [← hsz']; exact owns_exact h1, hsz', fun x hx => ?_⟩, h2⟩
  by_cases e : x = y
  · subst e
    simp only [if_true]
    rw [Maps.atKey_del_same, Maps.has_del_same]
    exact ⟨rfl, rfl⟩
  · simp only [if_neg e]
    have hne : Ks.l x ≠ Ks.l y := fun h => e (Ks.inj x y hx hy h)
    rw [Maps.atKey_del_other hne, Maps.has_del_other hne]
    exact hf x hx
theorem Gr.of_turned {w' : World} {b : Nat} (h : w.mapTurned w' b) : Gr (fun x => x = b) w w' := (Gr.of_grown h.grown).mono (fun x hx => .inl (by simpa using hx.symm))
end

/-! ### elements -/
section
variable {P : Program}
noncomputable def boolEl {e : TypeId} (he : P.underlying e = some .bool) (hz : ∀ w, (zeroValue e).run P w = .ok (.bool false) w) : ElS P e Bool where
  R := plainElem P e
  v := .bool
  d := fun x => .lit (.bool x)
  gd := fun _ => True
  z := false
  hR := fun a _ => plainElem_bool he a
  hz := trivial
  inv := fun u a ps h => by
    unfold plainElem at h
    rw [he] at h
    cases u <;> simp at h
    rw [h.1]
  zero := hz
/-- Pointers: the datum is the block's number. -/
def ptrR : Value → Option (DataW Unit × List MemPlace)
  | .pointer none => some (.nil, [])
  | .pointer (some ⟨b, 0, none⟩) => some (.lit (.int .u64 b), [])
  | _ => none
def ptrV : Option Nat → Value
  | none => .pointer none
  | some b => .pointer (some ⟨b, 0, none⟩)
def ptrD : Option Nat → DataW Unit
  | none => .nil
  | some b => .lit (.int .u64 b)
noncomputable def ptrEl {e : TypeId} (hz : ∀ w, (zeroValue e).run P w = .ok (.pointer none) w) : ElS P e (Option Nat) where
  R := ptrR
  v := ptrV
  d := ptrD
  gd := fun _ => True
  z := none
  hR := fun a _ => by cases a <;> rfl
  hz := trivial
  inv := fun u a ps h => by
    unfold ptrR at h
    split at h
    · cases a with
      | none => rfl
      | some b => simp [ptrD] at h
    · cases a with
      | none => simp [ptrD] at h
      | some b =>
        simp [ptrD] at h
        rw [show _ = b from Int.ofNat.inj h.1]; rfl
    · cases h
  zero := hz
end
end Go.Proofs.Ytdcjocldggmdbaa
