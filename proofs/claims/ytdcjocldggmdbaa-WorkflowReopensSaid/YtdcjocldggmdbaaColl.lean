/- Program independent: a slice of the call's own that has been cut at its head ('q = q[1:]'), and appended to; a map of integers to bools of the call's own. -/
import Derived.Test.YtdcjocldggmdbaaBase
import Derived.Maps.Own
import Derived.Maps.OwnOps
import Derived.Maps.OwnSet
import Derived.Maps.Views
namespace Go.Proofs.Ytdcjocldggmdbaa
open Go.RowKit Go

theorem wf_i64 {x : Int} (h0 : 0 ≤ x) (h1 : x ≤ 1000) : (Lit.int .i64 x).wf = true := by simp [Lit.wf, IntKind.min, IntKind.max, IntKind.signed, IntKind.bits]; omega

def OwnsO (e : Ty) (te : TypeId) (base : Nat) (S : Nat → Prop) (w : World) (v : Value) (xs : List e.den) : Prop :=
  ∃ g off len cap cur ws, v = .slice (some ⟨g, off, none⟩) len cap ∧ xs.length = len ∧ len ≤ cap ∧ cap ≤ 9223372036854775807 ∧ base ≤ g ∧ w.heap[g]? = some (.cells cur te (0, 0)) ∧ off + cap * e.sz ≤ cur.size ∧
    RdL e S w ws xs ∧ (∀ j u, ws[j]? = some u → cur[off + j]? = some u) ∧ ∀ b, S b → b ≠ g ∧ b < w.heap.size

theorem OwnsO.own {e : Ty} {te : TypeId} {base : Nat} {S : Nat → Prop} {w : World} {v : Value} {xs : List e.den} (h : OwnsO e te base S w v xs) : ∀ g, v.ownBlock = some g → base ≤ g ∧ g < w.heap.size := by
  obtain ⟨g, off, len, cap, cur, ws, rfl, h1, h2, h3, h4, h5, _⟩ := h
  intro g' hg
  simp [Value.ownBlock] at hg
  subst hg
  exact ⟨h4, (Array.getElem?_eq_some_iff.1 h5).1⟩

theorem OwnsO.keep {e : Ty} {te : TypeId} {base : Nat} {S S' : Nat → Prop} {w w' : World} {v : Value} {xs : List e.den} (h : OwnsO e te base S w v xs)
    (hw : ∀ b, (S b ∨ v.ownBlock = some b) → w'.heap[b]? = w.heap[b]?) (hs : ∀ b, S b → S' b) (hS : ∀ b, S' b → v.ownBlock ≠ some b ∧ b < w'.heap.size) : OwnsO e te base S' w' v xs := by
  obtain ⟨g, off, len, cap, cur, ws, rfl, h1, h2, h3, h4, h5, h6, h7, h8, h9⟩ := h
  exact ⟨g, off, len, cap, cur, ws, rfl, h1, h2, h3, h4, (hw g (.inr rfl)).trans h5, h6, h7.keep (fun b hb => hw b (.inl hb)) hs, h8, fun b hb => ⟨fun e => (hS b hb).1 (by rw [e]; rfl), (hS b hb).2⟩⟩

theorem OwnsO.bound {e : Ty} {te : TypeId} {base : Nat} {S : Nat → Prop} {w : World} {v : Value} {xs : List e.den} (h : OwnsO e te base S w v xs) : ∀ b, S b → v.ownBlock ≠ some b ∧ b < w.heap.size := by
  obtain ⟨g, off, len, cap, cur, ws, rfl, h1, h2, h3, h4, h5, h6, h7, h8, h9⟩ := h
  exact fun b hb => ⟨fun e => (h9 b hb).1 (by simpa [Value.ownBlock] using e.symm), (h9 b hb).2⟩

theorem OwnsO.below {e : Ty} {te : TypeId} {base : Nat} {S : Nat → Prop} {w w' : World} {v : Value} {xs : List e.den} (h : OwnsO e te base S w v xs) (hB : Below w.heap.size w w') : OwnsO e te base S w' v xs :=
  h.keep (fun b hb => hB.block b (by
    rcases hb with hb | hb
    · exact (h.bound b hb).2
    · exact (h.own b hb).2)) (fun _ h => h) (fun b hb => ⟨(h.bound b hb).1, Nat.lt_of_lt_of_le (h.bound b hb).2 hB.size⟩)

theorem OwnsO.of {e : Ty} {te : TypeId} {base : Nat} {S : Nat → Prop} {w : World} {v : Value} {xs : List e.den} (h : Owns e te base S w v xs) (hne : v ≠ .slice none 0 0) : OwnsO e te base S w v xs := by
  obtain ⟨vs, ho, hr, hS⟩ := h
  rcases ho.2 with ⟨rfl, _⟩ | ⟨g, cap, cur, rfl, hb, hg, h1, h2, hc, ht⟩
  · exact absurd rfl hne
  · refine ⟨g, 0, _, cap, cur, vs, rfl, rfl, h1, by simpa [maxLen] using h2, hb, hg, by omega, hr, fun j u hu => ?_, fun b hb => ⟨fun e => (hS b hb).1 (by rw [e]; rfl), (hS b hb).2⟩⟩
    rw [Nat.zero_add, ← Array.getElem?_toList]
    rw [← ht, List.getElem?_take] at hu
    split at hu
    · exact hu
    · cases hu

section
variable {P : Program} (w : World)
theorem run_append_room_off (t ty e : TypeId) (i : TypeInfo) (ht : P.underlying t = some (.slice e)) (hi : P.info? e = some i)
    (g off sLen sCap : Nat) (cur : Array Value) (hg : w.heap[g]? = some (.cells cur e (0, 0)))
    (a : Addr) (m c : Nat) (news : List Value) (hl : news.length = m * i.size) (hnews : ∀ j u, news[j]? = some u → w.cell? (a.add j) = some u) (h1 : ∀ u ∈ news, u.oneCell' = true)
    (hroom : sLen + m ≤ sCap) (hfit : off + sLen * i.size + news.length ≤ cur.size) :
    (Builtin.append_ #[t, t] ty #[.slice (some ⟨g, off, none⟩) sLen sCap, .slice (some a) m c]).run P w =
      .ok (.slice (some ⟨g, off, none⟩) (sLen + m) sCap) (w.setRow g (cur.toList.take (off + sLen * i.size) ++ news ++ cur.toList.drop (off + sLen * i.size + news.length)).toArray) := by
  have hf := run_firstCells_some (P := P) w i.size m a m c news hl hnews
  have hst := run_storeCells_at P g (off + sLen * i.size) e news 0 cur w hg (by simpa using hfit) h1
  simp only [Nat.add_zero] at hst
  simp [Builtin.append_, run_underlying ht, sizeOf, typeInfo, hi, Builtin.lenOf, hf, hroom, Addr.add_none, hst]

theorem run_appO {e : Ty} {base : Nat} {t ty te : TypeId} {z : Value} {bytes : Nat} (hi : (P.info? te).map (fun i => (i.zero, i.size, i.bytes)) = some (some z, e.sz, bytes)) (ht : P.underlying t = some (.slice te)) (hz : z.cells.size = e.sz) (h0 : 0 < e.sz)
    {S : Nat → Prop} {v : Value} {xs : List e.den} (hown : OwnsO e te base S w v xs) (hbase : base ≤ w.heap.size)
    {ad : Addr} {c m : Nat} {ys : List e.den} {news : List Value} (hm : ys.length = m) (hnews : ∀ j u, news[j]? = some u → w.cell? (ad.add j) = some u) (hr : RdL e S w news ys) (hm0 : 0 < m) (hb : (xs.length + m) * bytes ≤ 140737488355328) (hmx : xs.length + m ≤ 9223372036854775807) :
    ∃ v' w', (Builtin.append_ #[t, t] ty #[v, .slice (some ad) m c]).run P w = .ok v' w' ∧ OwnsO e te base S w' v' (xs ++ ys) ∧ w.grownBy w' v.ownBlock ∧ (v'.ownBlock = v.ownBlock ∨ v'.ownBlock = some w.heap.size) := by
  obtain ⟨i, hi', hz0, hz1, hz2⟩ := info_parts hi
  clear hi
  subst hz2
  subst hm
  obtain ⟨g, off, len, cap, cur, ws, rfl, rfl, h2, h3, h4, h5, h6, h7, h8, h9⟩ := hown
  have hnl : news.length = ys.length * i.size := by rw [hr.len, hz1]
  have hwl := h7.len
  by_cases hroom : xs.length + ys.length ≤ cap
  · have hmul : xs.length * e.sz + ys.length * e.sz ≤ cap * e.sz := by rw [← Nat.add_mul]; exact Nat.mul_le_mul_right _ hroom
    have hrun := run_append_room_off (P := P) w t ty te i ht hi' g off xs.length cap cur h5 ad ys.length c news hnl hnews hr.one_cell hroom (by rw [hnl, hz1]; omega)
    have hk : ∀ b, S b → (w.setRow g (cur.toList.take (off + xs.length * i.size) ++ news ++ cur.toList.drop (off + xs.length * i.size + news.length)).toArray).heap[b]? = w.heap[b]? := fun b hb => setRow_other w g b _ (h9 b hb).1
    refine ⟨_, _, hrun, ⟨g, off, _, cap, _, ws ++ news, rfl, by simp, hroom, h3, h4, setRow_heap w g cur _ te _ h5, ?_, (h7.append hr).keep hk (fun _ h => h), ?_, fun b hb => ⟨(h9 b hb).1, by simpa using (h9 b hb).2⟩⟩, ⟨rfl, rfl, rfl, by simp, fun k _ hk => setRow_other w g k _ (fun e => hk (by simp [Value.ownBlock, e]))⟩, .inl rfl⟩
    · simp only [List.size_toArray, List.length_append, List.length_take, List.length_drop, Array.length_toList, hnl, hz1]
      omega
    · intro j u hu
      simp only [List.getElem?_toArray, List.append_assoc]
      have hcl : cur.toList.length = cur.size := Array.length_toList
      have hlt : off + xs.length * i.size ≤ cur.toList.length := by rw [hz1, hcl]; omega
      by_cases hj : j < ws.length
      · rw [List.getElem?_append_left hj] at hu
        have := h8 j u hu
        have hj' : j < xs.length * e.sz := by rw [← hwl]; exact hj
        rw [List.getElem?_append_left (by rw [List.length_take, Nat.min_eq_left hlt, hz1]; omega), List.getElem?_take, if_pos (by rw [hz1]; omega), Array.getElem?_toList]
        exact this
      · rw [List.getElem?_append_right (by omega)] at hu
        have hjl := (List.getElem?_eq_some_iff.1 hu).1
        rw [List.getElem?_append_right (by rw [List.length_take, Nat.min_eq_left hlt, hz1]; omega), List.length_take, Nat.min_eq_left hlt]
        rw [show off + j - (off + xs.length * i.size) = j - ws.length by rw [hz1, hwl]; omega]
        rw [List.getElem?_append_left hjl]
        exact hu
  · have holds : ∀ j u, ws[j]? = some u → w.cell? ((⟨g, off, none⟩ : Addr).add j) = some u := fun j u hu => by
      rw [Addr.add_none, cell_of_row w g _ cur te _ h5]
      exact h8 j u hu
    have hrun := run_append_grow (P := P) w t ty te i z ht hi' hz0 ⟨g, off, none⟩ xs.length cap ws (by rw [hwl, hz1]) holds ad ys.length c news hnl hnews (by omega) (by omega) (growslice_fits (by omega) hb)
    have hge := grownCap_ge w (xs.length + ys.length) cap te
    have hcm : grownCap w (xs.length + ys.length) cap te ≤ maxLen := grownCap_le_maxLen w _ cap te (by simp [maxLen]; omega)
    generalize grownCap w (xs.length + ys.length) cap te = gc at hge hcm hrun
    have hk : ∀ (o : Obj) (b : Nat), S b → (w.drew.alloc o).heap[b]? = w.heap[b]? := fun o b hb => heap_alloc_old w.drew _ (h9 b hb).2
    refine ⟨_, _, hrun, ⟨w.heap.size, 0, _, gc, _, ws ++ news, rfl, by simp, hge, by simpa [maxLen] using hcm, hbase, heap_alloc_new w.drew _, ?_, (h7.append hr).keep (hk _) (fun _ h => h), ?_, fun b hb => ⟨Nat.ne_of_lt (h9 b hb).2, Nat.lt_of_lt_of_le (h9 b hb).2 (by simp)⟩⟩, ⟨rfl, rfl, rfl, by simp, fun k hk _ => heap_alloc_old w.drew _ hk⟩, .inr rfl⟩
    · simp only [Array.size_append, List.size_toArray, size_zeroCells, hz, hwl, hnl, hz1, ← Nat.add_mul]
      have : xs.length + ys.length + (gc - (xs.length + ys.length)) = gc := by omega
      rw [this]; omega
    · intro j u hu
      have hjl := (List.getElem?_eq_some_iff.1 hu).1
      rw [Nat.zero_add, Array.getElem?_append_left (by simpa using hjl)]
      simpa using hu

theorem wpList_appO {ops : Array Oper} {rest : List Oper} {o : Oper} {a : Act} {Q : Exit → Act → World → Prop} (hgd : o.guard = none) (s x : Operand) (t : TypeId)
    (ho : o.op = .call { callee := .builtin .append, args := #[s, x], argTypes := #[t, t] })
    {e : Ty} {base : Nat} {te : TypeId} {z : Value} {bytes : Nat} (hi : (P.info? te).map (fun i => (i.zero, i.size, i.bytes)) = some (some z, e.sz, bytes)) (ht : P.underlying t = some (.slice te)) (hz : z.cells.size = e.sz) (h0 : 0 < e.sz)
    {S : Nat → Prop} {v : Value} {xs : List e.den} (hv : a.eval s = v) (hown : OwnsO e te base S w v xs) (hbase : base ≤ w.heap.size)
    {ad : Addr} {c m : Nat} (hsv : a.eval x = .slice (some ad) m c) {ys : List e.den} {news : List Value} (hm : ys.length = m) (hnews : ∀ j u, news[j]? = some u → w.cell? (ad.add j) = some u) (hr : RdL e S w news ys) (hm0 : 0 < m) (hb : (xs.length + m) * bytes ≤ 140737488355328) (hmx : xs.length + m ≤ 9223372036854775807)
    (h : ∀ v' w', OwnsO e te base S w' v' (xs ++ ys) → w.grownBy w' v.ownBlock → (v'.ownBlock = v.ownBlock ∨ v'.ownBlock = some w.heap.size) → wpList P ops Q rest (a.put o.dst v') w') :
    wpList P ops Q (o :: rest) a w := by
  refine wpList_plain hgd fun K hK => ?_
  obtain ⟨v', w', hrun, h1, h2, h3⟩ := run_appO (P := P) w (ty := o.type) hi ht hz h0 hown hbase (c := c) hm hnews hr hm0 hb hmx
  unfold Oper.wp
  simp [execOp, ho, resolve, invoke, builtin, hv, hsv, hrun, Result.andThen]
  exact hK _ _ (h v' w' h1 h2 h3)
end

section
variable {P : Program} (w : World)
/-- append onto a slice of the call's own, at an operation of a region that draws its order ('go_region_held3'). -/
theorem step_app {ops : Array Oper} {o : Oper} {a : Act} {K : Act → World → Prop} {Q : Exit → Act → World → Prop} {E : Prop} (hgd : o.guard = none) (s x : Operand) (t : TypeId)
    (ho : o.op = .call { callee := .builtin .append, args := #[s, x], argTypes := #[t, t] })
    {e : Ty} {base : Nat} {te : TypeId} {z : Value} {bytes : Nat} (hi : (P.info? te).map (fun i => (i.zero, i.size, i.bytes)) = some (some z, e.sz, bytes)) (ht : P.underlying t = some (.slice te)) (hz : z.cells.size = e.sz) (h0 : 0 < e.sz)
    {S : Nat → Prop} {v : Value} {xs : List e.den} (hv : a.eval s = v) (hown : Owns e te base S w v xs) (hbase : base ≤ w.heap.size)
    {ad : Addr} {c m : Nat} (hsv : a.eval x = .slice (some ad) m c) {ys : List e.den} {news : List Value} (hm : ys.length = m) (hnews : ∀ j u, news[j]? = some u → w.cell? (ad.add j) = some u) (hr : RdL e S w news ys) (hb : (xs.length + m) * bytes ≤ 140737488355328) (hmx : xs.length + m ≤ 9223372036854775807)
    (h : ∀ v' w', Owns e te base S w' v' (xs ++ ys) → w.grownBy w' v.ownBlock → K (a.put o.dst v') w') :
    if Region.wanted o (yielded ops a.tmps) = true then Oper.wp P o a w K Q else E := by
  have hw : Region.wanted o (yielded ops a.tmps) = true := by simp [Region.wanted, hgd]
  rw [if_pos hw]
  subst hm
  obtain ⟨v', w', hrun, h1, h2, h3, h4⟩ := run_app (P := P) w (ty := o.type) hi ht hz h0 hown hbase (.inr ⟨some ad, c, rfl, .inr ⟨ad, rfl, hnews⟩⟩) hr hb hmx
  unfold Oper.wp
  simp [execOp, ho, resolve, invoke, builtin, hv, hsv, hrun, Result.andThen]
  exact h v' w' h1 h2
theorem step_appO {ops : Array Oper} {o : Oper} {a : Act} {K : Act → World → Prop} {Q : Exit → Act → World → Prop} {E : Prop} (hgd : o.guard = none) (s x : Operand) (t : TypeId)
    (ho : o.op = .call { callee := .builtin .append, args := #[s, x], argTypes := #[t, t] })
    {e : Ty} {base : Nat} {te : TypeId} {z : Value} {bytes : Nat} (hi : (P.info? te).map (fun i => (i.zero, i.size, i.bytes)) = some (some z, e.sz, bytes)) (ht : P.underlying t = some (.slice te)) (hz : z.cells.size = e.sz) (h0 : 0 < e.sz)
    {S : Nat → Prop} {v : Value} {xs : List e.den} (hv : a.eval s = v) (hown : OwnsO e te base S w v xs) (hbase : base ≤ w.heap.size)
    {ad : Addr} {c m : Nat} (hsv : a.eval x = .slice (some ad) m c) {ys : List e.den} {news : List Value} (hm : ys.length = m) (hnews : ∀ j u, news[j]? = some u → w.cell? (ad.add j) = some u) (hr : RdL e S w news ys) (hm0 : 0 < m) (hb : (xs.length + m) * bytes ≤ 140737488355328) (hmx : xs.length + m ≤ 9223372036854775807)
    (h : ∀ v' w', OwnsO e te base S w' v' (xs ++ ys) → w.grownBy w' v.ownBlock → (v'.ownBlock = v.ownBlock ∨ v'.ownBlock = some w.heap.size) → K (a.put o.dst v') w') :
    if Region.wanted o (yielded ops a.tmps) = true then Oper.wp P o a w K Q else E := by
  have hw : Region.wanted o (yielded ops a.tmps) = true := by simp [Region.wanted, hgd]
  rw [if_pos hw]
  obtain ⟨v', w', hrun, h1, h2, h3⟩ := run_appO (P := P) w (ty := o.type) hi ht hz h0 hown hbase (c := c) hm hnews hr hm0 hb hmx
  unfold Oper.wp
  simp [execOp, ho, resolve, invoke, builtin, hv, hsv, hrun, Result.andThen]
  exact h v' w' h1 h2 h3
theorem below_alloc' {w X : World} (h : Below w.heap.size w X) (o : Obj) : Below w.heap.size w (X.alloc o) := h.alloc h.size o
theorem news_new (X : World) (cs : List Value) (t : TypeId) : ∀ j u, cs[j]? = some u → (X.alloc (.cells cs.toArray t)).cell? ((⟨X.heap.size, 0, none⟩ : Addr).add j) = some u := fun j u hu => by
  rw [Addr.add_none, Nat.zero_add, cell_of_row _ _ j _ _ _ (heap_alloc_new X _)]
  simpa using hu
theorem news_below {X Y : World} (hB : Below X.heap.size X Y) {cs : List Value} {b : Nat} (h : ∀ j u, cs[j]? = some u → X.cell? ((⟨b, 0, none⟩ : Addr).add j) = some u) : ∀ j u, cs[j]? = some u → Y.cell? ((⟨b, 0, none⟩ : Addr).add j) = some u :=
  fun j u hu => cell_below (h j u hu) hB
end

/-! ### A map of integers to bools -/
/-- Block b is a map of at most n entries; 'm[x]' is f x. -/
def MapB (P : Program) (k e : TypeId) (q : IntKind) (w : World) (b n : Nat) (f : Int → Bool) : Prop :=
  ∃ D : DataW Unit, w.ownsMap P k (plainElem P e) b n D ∧ ∀ x, (Lit.int q x).wf = true → D.atKey (.int q x) (.lit (.bool false)) = .lit (.bool (f x))

section
variable {P : Program} {k e t : TypeId} {q : IntKind} {w : World} {b n : Nat} {f : Int → Bool}
theorem MapB.lookup (h : MapB P k e q w b n f) (hk : P.underlying k = some (.int q)) (he : P.underlying e = some .bool) (ht : P.underlying t = some (.map k e)) (hz : (zeroValue e).run P w = .ok (.bool false) w) {x : Int} (hx : (Lit.int q x).wf = true) :
    (Instr.lookup t (.map (some b)) (.int q x) false).run P w = .ok (.bool (f x)) w := by
  obtain ⟨D, hD, hf⟩ := h
  obtain ⟨v, ps, hrun, hv⟩ := hD.lookup (Maps.int_keyed hk) ht hz (plainElem_bool he false) (Maps.keyOf_int_mk hk hx)
  rw [hf x hx] at hv
  rw [hrun]
  unfold plainElem at hv
  rw [he] at hv
  cases v <;> simp at hv
  rw [hv.1]

theorem MapB.made (hk : P.underlying k = some (.int q)) (w : World) : MapB P k e q (w.alloc (.map #[] 0)) w.heap.size 0 (fun _ => false) :=
  ⟨.map [], World.ownsMap_made w P k _, fun x _ => rfl⟩

theorem MapB.keep {w' : World} (h : MapB P k e q w b n f) (hw : w'.heap[b]? = w.heap[b]?) : MapB P k e q w' b n f := by
  obtain ⟨D, ⟨es, clock, hb, r⟩, hf⟩ := h
  exact ⟨D, ⟨es, clock, hw.trans hb, r⟩, hf⟩
theorem MapB.lt (h : MapB P k e q w b n f) : b < w.heap.size := by
  obtain ⟨D, hD, _⟩ := h; exact hD.lt
theorem MapB.below {w' : World} (h : MapB P k e q w b n f) (hB : Below w.heap.size w w') : MapB P k e q w' b n f := h.keep (hB.block b h.lt)

theorem MapB.put {D : DataW Unit} (hD : Maps.IsMap D) (hf : ∀ x, (Lit.int q x).wf = true → D.atKey (.int q x) (.lit (.bool false)) = .lit (.bool (f x))) (y : Int) (z : Bool) :
    ∀ x, (Lit.int q x).wf = true → (D.put (.int q y) (.lit (.bool z))).atKey (.int q x) (.lit (.bool false)) = .lit (.bool (if x = y then z else f x)) := by
  intro u hu
  by_cases hu' : u = y
  · subst hu'
    rw [Maps.atKey_put_same hD (by trivial)]
    simp
  · simp only [if_neg hu']
    rw [Maps.atKey_put_other (by intro e; cases e; exact hu' rfl), hf u hu]

theorem MapB.update (h : MapB P k e q w b n f) (hk : P.underlying k = some (.int q)) (he : P.underlying e = some .bool) (ht : P.underlying t = some (.map k e)) (hn : n < maxLen) (y : Int) (hy : (Lit.int q y).wf = true) (z : Bool) :
    ∃ w', (Instr.mapUpdate t (.map (some b)) (.int q y) (.bool z)).run P w = .ok () w' ∧ MapB P k e q w' b (n + 1) (fun x => if x = y then z else f x) ∧ w.grownBy w' (some b) := by
  obtain ⟨D, hD, hf⟩ := h
  obtain ⟨w', hrun, h1, h2⟩ := hD.update (Maps.int_keyed hk) ht hn (Maps.keyOf_int_mk hk hy) (plainElem_bool he z)
  exact ⟨w', hrun, ⟨_, h1, MapB.put hD.isMap hf y z⟩, h2⟩

theorem wpList_mapB (h : MapB P k e q w b n f) (hk : P.underlying k = some (.int q)) (he : P.underlying e = some .bool) (ht : P.underlying t = some (.map k e)) (hn : n < maxLen) {ops : Array Oper} {rest : List Oper} {o : Oper} {a : Act} {Q : Exit → Act → World → Prop}
    (hg : o.guard = none) (m x v : Operand) (hop : o.op = Op.mapUpdate t m x v) (hm : a.eval m = .map (some b)) (y : Int) (hx : a.eval x = .int q y) (hy : (Lit.int q y).wf = true) (z : Bool) (hv : a.eval v = .bool z)
    (hK : ∀ w', MapB P k e q w' b (n + 1) (fun x => if x = y then z else f x) → w.grownBy w' (some b) → wpList P ops Q rest (a.put o.dst undef) w') : wpList P ops Q (o :: rest) a w := by
  obtain ⟨D, hD, hf⟩ := h
  refine wpList_mapUpdate_own w hg m x v t hop k e (Maps.int_keyed hk) ht _ b n D hm hD hn _ _ _ hx hv (Maps.keyOf_int_mk hk hy) _ _ (plainElem_bool he z) (fun w' h1 h2 => hK w' ⟨_, h1, fun u hu => ?_⟩ h2)
  by_cases hu' : u = y
  · subst hu'
    rw [Maps.atKey_put_same hD.isMap (by trivial)]
    simp
  · simp only [if_neg hu']
    rw [Maps.atKey_put_other (by intro e; cases e; exact hu' rfl), hf u hu]
end
end Go.Proofs.Ytdcjocldggmdbaa
