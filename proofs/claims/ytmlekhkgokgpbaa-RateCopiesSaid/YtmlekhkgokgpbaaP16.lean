/- Layer 16, plain: the current rates in order; the reference's Put keeps them. -/
import Derived.Test.YtmlekhkgokgpbaaC16u
import Derived.Test.YtmlekhkgokgpbaaC16p
namespace Go.Proofs.Ytmlekhkgokgpbaa
open Go.RowKit Go

/-- The keys of a table, in order. -/
def keysF (f : K3 → Option Int) (ys : List K3) : Prop := ys.Pairwise keyLt ∧ (∀ x ∈ ys, x.ok) ∧ ∀ x : K3, x.ok → (x ∈ ys ↔ (f x).isSome = true)
def rowR (f : K3 → Option Int) (x : K3) : rateT.den := (x.cur, x.kind, x.when_, (f x).getD 0, ())
def rowsOf (f : K3 → Option Int) (ys : List K3) : List rateT.den := ys.map (rowR f)

instance : DecidableEq K3 := fun a b => decidable_of_iff (same3 a b = true) (same3_iff a b)
instance (a b : K3) : Decidable (keyLt a b) := decidable_of_iff (befI a b < 0) (befI_lt a b)
theorem same3_false (a b : K3) : same3 a b = false ↔ a ≠ b := by
  rw [← Bool.not_eq_true, same3_iff]
theorem same3_dec (a b : K3) : same3 a b = decide (a = b) := by
  by_cases h : a = b
  · rw [decide_eq_true h]; exact (same3_iff a b).2 h
  · rw [decide_eq_false h]; exact (same3_false a b).2 h
theorem keyLt_asymm {x y : K3} (h : keyLt x y) : ¬ keyLt y x := fun h' => keyLt_irrefl x (keyLt_trans h h')
theorem keyLt_ne {x y : K3} (h : keyLt x y) : x ≠ y := fun e => keyLt_irrefl x (by rw [← e] at h; exact h)
theorem beforeK_dec (a b : Rt) : beforeK a b = decide (keyLt a.k b.k) := by
  have hk : keyLt a.k b.k ↔ (a.cur.toList < b.cur.toList ∨ (a.cur.toList = b.cur.toList ∧ (a.kind < b.kind ∨ (a.kind = b.kind ∧ a.when_ < b.when_)))) := Iff.rfl
  have hi : a.cur.toList = b.cur.toList → ¬ a.cur.toList < b.cur.toList := fun e => by rw [e]; exact List.lt_irrefl _
  rw [Bool.eq_iff_iff, decide_eq_true_iff, hk]
  unfold beforeK
  by_cases h1 : a.cur.toList = b.cur.toList
  · have hb : (a.cur.toList == b.cur.toList) = true := by simpa using h1
    by_cases h2 : a.kind = b.kind
    · have hb2 : (a.kind == b.kind) = true := by simpa using h2
      simp [hb, hb2, hi h1, h1, h2]
      intro h; exact absurd h (List.lt_irrefl _)
    · have hb2 : (a.kind == b.kind) = false := by simpa using h2
      simp [hb, hb2, hi h1, h1, h2]
      intro h; exact absurd h (List.lt_irrefl _)
  · have hb : (a.cur.toList == b.cur.toList) = false := by simpa using h1
    rw [if_pos hb, bytesLess_eq]
    simp [h1]

/-! ### keys in order -/
theorem keysF_unique {f : K3 → Option Int} : ∀ {ys zs : List K3}, ys.Pairwise keyLt → zs.Pairwise keyLt → (∀ x, x ∈ ys ↔ x ∈ zs) → ys = zs
  | [], [], _, _, _ => rfl
  | [], z :: zs, _, _, h => absurd ((h z).2 (by simp)) (by simp)
  | y :: ys, [], _, _, h => absurd ((h y).1 (by simp)) (by simp)
  | y :: ys, z :: zs, hy, hz, h => by
    rw [List.pairwise_cons] at hy hz
    have e : y = z := by
      rcases List.mem_cons.1 ((h y).1 (by simp)) with e | e
      · exact e
      · rcases List.mem_cons.1 ((h z).2 (by simp)) with e' | e'
        · exact e'.symm
        · exact absurd (hz.1 y e) (keyLt_asymm (hy.1 z e'))
    subst e
    congr 1
    refine keysF_unique (f := f) hy.2 hz.2 fun x => ⟨fun hx => ?_, fun hx => ?_⟩
    · rcases List.mem_cons.1 ((h x).1 (by simp [hx])) with e | e
      · exact absurd (e ▸ hy.1 x hx) (keyLt_irrefl _)
      · exact e
    · rcases List.mem_cons.1 ((h x).2 (by simp [hx])) with e | e
      · exact absurd (e ▸ hz.1 x hx) (keyLt_irrefl _)
      · exact e
theorem keysF.unique {f g : K3 → Option Int} {ys zs : List K3} (hy : keysF f ys) (hz : keysF g zs) (h : ∀ x : K3, x.ok → (f x).isSome = (g x).isSome) : ys = zs :=
  keysF_unique (f := f) hy.1 hz.1 fun x => ⟨fun hx => (hz.2.2 x (hy.2.1 x hx)).2 ((h x (hy.2.1 x hx)) ▸ (hy.2.2 x (hy.2.1 x hx)).1 hx), fun hx => (hy.2.2 x (hz.2.1 x hx)).2 ((h x (hz.2.1 x hx)) ▸ (hz.2.2 x (hz.2.1 x hx)).1 hx)⟩

def insK : List K3 → K3 → List K3
  | [], x => [x]
  | y :: ys, x => if keyLt y x then y :: insK ys x else if y = x then y :: ys else x :: y :: ys
theorem insK_mem (x z : K3) : ∀ ys : List K3, z ∈ insK ys x ↔ z = x ∨ z ∈ ys
  | [] => by simp [insK]
  | y :: ys => by
    unfold insK
    by_cases h : keyLt y x
    · rw [if_pos h, List.mem_cons, insK_mem x z ys, List.mem_cons]
      constructor <;> (intro h; rcases h with h | h | h <;> simp [h])
    · rw [if_neg h]
      by_cases e : y = x
      · rw [if_pos e, e]; simp
      · rw [if_neg e]; simp
theorem insK_pw (x : K3) : ∀ ys : List K3, ys.Pairwise keyLt → (insK ys x).Pairwise keyLt
  | [], _ => by simp [insK]
  | y :: ys, h => by
    rw [List.pairwise_cons] at h
    unfold insK
    by_cases h1 : keyLt y x
    · rw [if_pos h1, List.pairwise_cons]
      refine ⟨fun z hz => ?_, insK_pw x ys h.2⟩
      rcases (insK_mem x z ys).1 hz with rfl | hz
      · exact h1
      · exact h.1 z hz
    · rw [if_neg h1]
      by_cases e : y = x
      · rw [if_pos e, List.pairwise_cons]; exact h
      · rw [if_neg e, List.pairwise_cons, List.pairwise_cons]
        have hx : keyLt x y := by
          rcases keyLt_total x y with h | h | h
          · exact h
          · exact absurd h.symm e
          · exact absurd h h1
        refine ⟨fun z hz => ?_, h⟩
        rcases List.mem_cons.1 hz with rfl | hz
        · exact hx
        · exact keyLt_trans hx (h.1 z hz)
theorem insK_len (x : K3) : ∀ ys : List K3, ys.Pairwise keyLt → (insK ys x).length = if x ∈ ys then ys.length else ys.length + 1
  | [], _ => by simp [insK]
  | y :: ys, h => by
    rw [List.pairwise_cons] at h
    unfold insK
    by_cases h1 : keyLt y x
    · have hne : x ≠ y := fun e => keyLt_irrefl y (by rw [e] at h1; exact h1)
      rw [if_pos h1, List.length_cons, insK_len x ys h.2]
      by_cases hm : x ∈ ys
      · rw [if_pos hm, if_pos (by simp [hm])]; simp
      · rw [if_neg hm, if_neg (by simp [hm, hne])]; simp
    · rw [if_neg h1]
      by_cases e : y = x
      · rw [if_pos e, if_pos (by simp [e])]
      · have hx : keyLt x y := by
          rcases keyLt_total x y with h | h | h
          · exact h
          · exact absurd h.symm e
          · exact absurd h h1
        have hm : x ∉ y :: ys := fun hm => by
          rcases List.mem_cons.1 hm with h' | h'
          · exact e h'.symm
          · exact keyLt_asymm hx (h.1 x h')
        rw [if_neg e, if_neg hm]; simp

def putF (f : K3 → Option Int) (r : Rt) : K3 → Option Int := fun x => if same3 r.k x = true then some r.val else f x
theorem putF_same (f : K3 → Option Int) (r : Rt) : putF f r r.k = some r.val := by unfold putF; rw [if_pos ((same3_iff _ _).2 rfl)]
theorem putF_other (f : K3 → Option Int) (r : Rt) {x : K3} (h : r.k ≠ x) : putF f r x = f x := by unfold putF; rw [if_neg (by rw [same3_iff]; exact h)]
theorem keysF.put {f : K3 → Option Int} {ys : List K3} (h : keysF f ys) (r : Rt) (hr : r.k.ok) : keysF (putF f r) (insK ys r.k) := by
  refine ⟨insK_pw _ _ h.1, fun x hx => ?_, fun x hx => ?_⟩
  · rcases (insK_mem _ _ _).1 hx with rfl | hx
    · exact hr
    · exact h.2.1 x hx
  · rw [insK_mem]
    by_cases e : r.k = x
    · subst e; rw [putF_same]; simp
    · rw [putF_other f r e, ← h.2.2 x hx]
      constructor
      · rintro (h' | h')
        · exact absurd h'.symm e
        · exact h'
      · exact .inr

/-! ### the reference's Put -/
theorem rt_rowR (f : K3 → Option Int) (x : K3) : (rt (rowR f x)).k = x := rfl
theorem rowR_put_self (f : K3 → Option Int) (r : Rt) : rowR (putF f r) r.k = r.d := by
  unfold rowR; rw [putF_same]; rfl
theorem rowR_put_other (f : K3 → Option Int) (r : Rt) {x : K3} (h : r.k ≠ x) : rowR (putF f r) x = rowR f x := by
  unfold rowR; rw [putF_other f r h]
theorem putFold_done (f : K3 → Option Int) (r : Rt) : ∀ (ys : List K3) (acc : List rateT.den), (∀ y ∈ ys, keyLt r.k y) → (rowsOf f ys).foldl (putStep r) (acc, true) = (acc ++ rowsOf (putF f r) ys, true)
  | [], acc, _ => by simp [rowsOf]
  | y :: ys, acc, h => by
    have h1 := h y (by simp)
    have hs : sameK (rt (rowR f y)) r = false := by rw [sameK_eq, rt_rowR]; exact (same3_false _ _).2 (keyLt_ne h1).symm
    show (rowsOf f ys).foldl (putStep r) (putStep r (acc, true) (rowR f y)) = _
    have : putStep r (acc, true) (rowR f y) = (acc ++ [rowR f y], true) := by simp [putStep, hs]
    rw [this, putFold_done f r ys _ (fun z hz => h z (by simp [hz]))]
    simp only [rowsOf, List.map_cons, List.append_assoc, List.cons_append, List.nil_append, rowR_put_other f r (keyLt_ne h1)]
theorem putFold (f : K3 → Option Int) (r : Rt) : ∀ (ys : List K3) (acc : List rateT.den), ys.Pairwise keyLt →
    (let s := (rowsOf f ys).foldl (putStep r) (acc, false)
     if s.2 = false then s.1 ++ [r.d] else s.1) = acc ++ rowsOf (putF f r) (insK ys r.k)
  | [], acc, _ => by simp [rowsOf, insK, rowR_put_self]
  | y :: ys, acc, h => by
    rw [List.pairwise_cons] at h
    show (let s := (rowsOf f ys).foldl (putStep r) (putStep r (acc, false) (rowR f y)); if s.2 = false then s.1 ++ [r.d] else s.1) = _
    unfold insK
    by_cases h1 : keyLt y r.k
    · have hs : sameK (rt (rowR f y)) r = false := by rw [sameK_eq, rt_rowR]; exact (same3_false _ _).2 (keyLt_ne h1)
      have hb : beforeK (rt (rowR f y)) r = true := by rw [beforeK_dec, rt_rowR]; exact decide_eq_true h1
      have : putStep r (acc, false) (rowR f y) = (acc ++ [rowR f y], false) := by simp [putStep, hs, hb]
      rw [this, putFold f r ys _ h.2, if_pos h1]
      simp only [rowsOf, List.map_cons, List.append_assoc, List.cons_append, List.nil_append, rowR_put_other f r (keyLt_ne h1).symm]
    · have hb : beforeK (rt (rowR f y)) r = false := by rw [beforeK_dec, rt_rowR]; exact decide_eq_false h1
      rw [if_neg h1]
      by_cases e : y = r.k
      · have hs : sameK (rt (rowR f y)) r = true := by rw [sameK_eq, rt_rowR]; exact (same3_iff _ _).2 e
        have : putStep r (acc, false) (rowR f y) = (acc ++ [r.d], true) := by simp [putStep, hs, hb]
        rw [this, putFold_done f r ys _ (fun z hz => e ▸ h.1 z hz), if_pos e]
        simp [rowsOf, e, rowR_put_self]
      · have hx : keyLt r.k y := by
          rcases keyLt_total r.k y with h | h | h
          · exact h
          · exact absurd h.symm e
          · exact absurd h h1
        have hs : sameK (rt (rowR f y)) r = false := by rw [sameK_eq, rt_rowR]; exact (same3_false _ _).2 e
        have : putStep r (acc, false) (rowR f y) = (acc ++ [r.d] ++ [rowR f y], true) := by simp [putStep, hs, hb]
        rw [this, putFold_done f r ys _ (fun z hz => keyLt_trans hx (h.1 z hz)), if_neg e]
        simp [rowsOf, rowR_put_self, rowR_put_other f r (keyLt_ne hx)]
theorem putL_rows (f : K3 → Option Int) (r : Rt) (ys : List K3) (h : ys.Pairwise keyLt) : putL (rowsOf f ys) r = rowsOf (putF f r) (insK ys r.k) := by
  have := putFold f r ys [] h
  simpa [putL] using this

/-! ### Find in the rows -/
theorem findX_rows (f : K3 → Option Int) (key : Rt) : ∀ ys : List K3, findX (rowsOf f ys) key = if key.k ∈ ys then some (rowR f key.k) else none
  | [] => by simp [findX, rowsOf]
  | y :: ys => by
    have ih := findX_rows f key ys
    unfold findX at *
    rw [show rowsOf f (y :: ys) = rowR f y :: rowsOf f ys from rfl, List.find?_cons, sameK_eq, rt_rowR]
    by_cases e : y = key.k
    · rw [(same3_iff _ _).2 e]; simp [e]
    · rw [(same3_false _ _).2 e]
      simp only [ih]
      by_cases h : key.k ∈ ys
      · rw [if_pos h, if_pos (by simp [h])]
      · rw [if_neg h, if_neg (by simp [h, Ne.symm e])]
theorem findV_rows {f : K3 → Option Int} {ys : List K3} (h : keysF f ys) (key : Rt) (hk : key.k.ok) : findV (rowsOf f ys) key = ((f key.k).getD 0, (f key.k).isSome) := by
  unfold findV
  rw [findX_rows]
  by_cases hm : key.k ∈ ys
  · rw [if_pos hm, (h.2.2 _ hk).1 hm]; rfl
  · rw [if_neg hm]
    have : (f key.k).isSome = false := by
      rw [← Bool.not_eq_true, ← h.2.2 _ hk]; exact hm
    rw [this]
    cases hf : f key.k with
    | none => rfl
    | some v => rw [hf] at this; cases this

/-! ### a table and the reference's -/
/-- A table whose current rates are ys. -/
def TbOk (t : Tb) (ys : List K3) : Prop := keysF t.f ys ∧ t.m = ys.length
def tb0 : Tb := ⟨0, fun _ => none, []⟩
theorem TbOk.zero : TbOk tb0 [] := ⟨⟨List.Pairwise.nil, by simp, fun x _ => by simp [tb0]⟩, rfl⟩
theorem TbOk.put {t : Tb} {ys : List K3} (h : TbOk t ys) (r : Rt) (hr : r.k.ok) : TbOk (t.put r) (insK ys r.k) := by
  refine ⟨h.1.put r hr, ?_⟩
  rw [insK_len _ _ h.1.1]
  show (if (t.f r.k).isSome then t.m else t.m + 1) = _
  by_cases hm : r.k ∈ ys
  · rw [if_pos hm, if_pos ((h.1.2.2 _ hr).1 hm), h.2]
  · rw [if_neg hm, if_neg (by rw [← h.1.2.2 _ hr]; exact hm), h.2]
def insIf (g : ByteArray) (t : Tb) (ys : List K3) (r : Rt) : List K3 := if (t.set g r).1 = 0 then insK ys r.k else ys
theorem Tb.set_ok (g : ByteArray) (t : Tb) (r : Rt) : ((t.set g r).1 = 0 ∧ (t.set g r).2 = t.put r) ∨ ((t.set g r).1 ≠ 0 ∧ (t.set g r).2 = t) := by
  unfold Tb.set
  by_cases hp : properB g r.cur r.kind r.when_ r.val = false
  · rw [if_pos hp]; exact .inr ⟨show (1 : Int) ≠ 0 by decide, rfl⟩
  · rw [if_neg hp]
    by_cases hf : t.full r
    · rw [if_pos hf]; exact .inr ⟨show (6 : Int) ≠ 0 by decide, rfl⟩
    · rw [if_neg hf]; exact .inl ⟨rfl, rfl⟩
theorem TbOk.set {t : Tb} {ys : List K3} (g : ByteArray) (h : TbOk t ys) (r : Rt) (hr : r.k.ok) : TbOk (t.set g r).2 (insIf g t ys r) := by
  unfold insIf
  rcases t.set_ok g r with ⟨h1, h2⟩ | ⟨h1, h2⟩
  · rw [if_pos h1, h2]; exact h.put r hr
  · rw [if_neg h1, h2]; exact h
/-- The reference's Set. -/
def rset (g : ByteArray) (s : List rateT.den × List rateT.den) (r : Rt) : Int × List rateT.den × List rateT.den :=
  if properB g r.cur r.kind r.when_ r.val = false then (1, s)
  else if ((findV s.2 r).2 = false ∧ 1000 ≤ s.2.length) ∨ 5000 ≤ s.1.length then (6, s)
  else (0, s.1 ++ [r.d], putL s.2 r)
theorem rset_eq {t : Tb} {ys : List K3} (g : ByteArray) (h : TbOk t ys) (r : Rt) (hr : r.k.ok) :
    rset g (t.hs, rowsOf t.f ys) r = ((t.set g r).1, (t.set g r).2.hs, rowsOf (t.set g r).2.f (insIf g t ys r)) := by
  unfold rset insIf Tb.set
  by_cases hp : properB g r.cur r.kind r.when_ r.val = false
  · rw [if_pos hp, if_pos hp]; rfl
  · rw [if_neg hp, if_neg hp]
    have hl : (rowsOf t.f ys).length = t.m := by rw [h.2, rowsOf, List.length_map]
    have hfull : (((findV (rowsOf t.f ys) r).2 = false ∧ 1000 ≤ (rowsOf t.f ys).length) ∨ 5000 ≤ t.hs.length) ↔ t.full r := by
      rw [findV_rows h.1 r hr, hl]; exact Iff.rfl
    by_cases hf : t.full r
    · rw [if_pos (hfull.2 hf), if_pos hf]; rfl
    · rw [if_neg (fun e => hf (hfull.1 e)), if_neg hf]
      simp only [putL_rows t.f r ys h.1.1, if_true]
      rfl
/-- Few rates: no table is full. -/
theorem Tb.set_few (g : ByteArray) (t : Tb) (r : Rt) (hm : t.m < 1000) (hh : t.hs.length < 5000) : t.set g r = if properB g r.cur r.kind r.when_ r.val = false then (1, t) else (0, t.put r) := by
  unfold Tb.set
  rw [if_neg (show ¬ t.full r by unfold Tb.full; omega)]
theorem Tb.set_hs (g : ByteArray) (t : Tb) (r : Rt) : (t.set g r).2.hs.length ≤ t.hs.length + 1 := by
  rcases t.set_ok g r with ⟨-, h⟩ | ⟨-, h⟩ <;> rw [h]
  · show (t.hs ++ [r.d]).length ≤ _; simp
  · omega
theorem Tb.setAll_hs (g : ByteArray) : ∀ (xs : List rateT.den) (t : Tb), (t.setAll g xs).hs.length ≤ t.hs.length + xs.length
  | [], t => Nat.le_refl _
  | x :: xs, t => by
    have h1 := Tb.setAll_hs g xs (t.set g (rt x)).2
    have h2 := Tb.set_hs g t (rt x)
    show (Tb.setAll g (t.set g (rt x)).2 xs).hs.length ≤ _
    simp only [List.length_cons]
    omega
def properR (g : ByteArray) (x : rateT.den) : Bool := properB g (rt x).cur (rt x).kind (rt x).when_ (rt x).val
/-- The rates that are accepted. -/
theorem setAll_few (g : ByteArray) : ∀ (xs : List rateT.den) (t : Tb), t.m + xs.length ≤ 1000 → t.hs.length + xs.length ≤ 5000 → t.setAll g xs = (xs.filter (properR g)).foldl (fun t x => t.put (rt x)) t
  | [], t, _, _ => rfl
  | x :: xs, t, h1, h2 => by
    simp only [List.length_cons] at h1 h2
    have hs := Tb.set_few g t (rt x) (by omega) (by omega)
    have e : Tb.setAll g t (x :: xs) = Tb.setAll g (t.set g (rt x)).2 xs := rfl
    have hm := Tb.set_m g t (rt x)
    have hh := Tb.set_hs g t (rt x)
    rw [e, setAll_few g xs _ (by omega) (by omega), hs, List.filter_cons]
    by_cases hp : properB g (rt x).cur (rt x).kind (rt x).when_ (rt x).val = false
    · rw [if_pos hp, show properR g x = false from hp]; rfl
    · rw [if_neg hp, show properR g x = true from by simpa [properR] using hp]; rfl
def putAll (t : Tb) (xs : List rateT.den) : Tb := xs.foldl (fun t x => t.put (rt x)) t
theorem rt_d (x : rateT.den) : (rt x).d = x := by obtain ⟨a, b, c, d, ⟨⟩⟩ := x; rfl
theorem putAll_hs : ∀ (xs : List rateT.den) (t : Tb), (putAll t xs).hs = t.hs ++ xs
  | [], t => by simp [putAll]
  | x :: xs, t => by
    have := putAll_hs xs (t.put (rt x))
    show (putAll (t.put (rt x)) xs).hs = _
    rw [this]
    show (t.hs ++ [(rt x).d]) ++ xs = _
    rw [rt_d]; simp
end Go.Proofs.Ytmlekhkgokgpbaa
