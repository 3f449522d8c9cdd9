/- Program independent: what a call may have turned ('Gr': only blocks of F, of those that were there), slices carried over it; bytes as strings; slice expressions. -/
import Derived.Test.YtoimbhdjhhmonaaRead
import Derived.Laws.BytesArg
import Derived.Laws.Bits64
import Derived.Maps.Own
import Derived.Maps.OwnOps
import Derived.Maps.OwnSet
import Derived.Maps.Views
import Derived.OrdersHeld
import Derived.Maps.Ext
import Derived.Maps.RangeWalk
import Derived.Test.YtoimbhdjhhmonaaProg
namespace Go.Proofs.Ytoimbhdjhhmonaa
open Go.RowKit Go

/-- Of the blocks that were there, only those of F may have turned. -/
structure Gr (F : Nat → Prop) (w w' : World) : Prop where
  os : w'.os = w.os
  tape : w'.tape = w.tape
  output : w'.output = w.output
  size : w.heap.size ≤ w'.heap.size
  block : ∀ k, k < w.heap.size → ¬ F k → w'.heap[k]? = w.heap[k]?

theorem Gr.refl (F : Nat → Prop) (w : World) : Gr F w w := ⟨rfl, rfl, rfl, Nat.le_refl _, fun _ _ _ => rfl⟩
theorem Gr.trans {F G : Nat → Prop} {a b c : World} (h : Gr F a b) (k : Gr G b c) (hG : ∀ x, G x → F x ∨ a.heap.size ≤ x) : Gr F a c :=
  ⟨k.os.trans h.os, k.tape.trans h.tape, k.output.trans h.output, Nat.le_trans h.size k.size, fun x hx hf => (k.block x (Nat.lt_of_lt_of_le hx h.size) (fun e => by
    rcases hG x e with h' | h'
    · exact hf h'
    · omega)).trans (h.block x hx hf)⟩
theorem Gr.mono {F G : Nat → Prop} {a b : World} (h : Gr F a b) (hG : ∀ x, F x → G x ∨ a.heap.size ≤ x) : Gr G a b := (Gr.refl G a).trans h hG
theorem Gr.of_below {F : Nat → Prop} {w w' : World} (h : Below w.heap.size w w') : Gr F w w' := ⟨h.os, h.tape, h.output, h.size, fun k hk _ => h.block k hk⟩
theorem Gr.below {F : Nat → Prop} {w w' : World} {n : Nat} (h : Gr F w w') (hF : ∀ b, F b → n ≤ b) (hn : n ≤ w.heap.size) : Below n w w' :=
  ⟨h.os, h.tape, h.output, h.size, fun k hk => h.block k (by omega) (fun e => by have := hF k e; omega)⟩
theorem Gr.of_grown {w w' : World} {row : Option Nat} (h : w.grownBy w' row) : Gr (fun b => row = some b) w w' := ⟨h.os, h.tape, h.output, h.size, fun k hk hf => h.block k hk (fun e => hf e.symm)⟩
theorem Gr.drew {F : Nat → Prop} {a w : World} (h : Gr F a w) : Gr F a w.drew := ⟨h.os, h.tape, h.output, h.size, h.block⟩
theorem Gr.drewN {F : Nat → Prop} {a w : World} (h : Gr F a w) (m : Nat) : Gr F a (w.drewN m) := ⟨h.os, h.tape, h.output, h.size, h.block⟩
theorem Gr.alloc {F : Nat → Prop} {a w : World} (h : Gr F a w) (o : Obj) : Gr F a (w.alloc o) :=
  h.trans (G := fun _ => False) (Gr.of_below ((Below.refl _ w).alloc (Nat.le_refl _) o)) (fun _ h => h.elim)
theorem Gr.setCell {F : Nat → Prop} {a w : World} (h : Gr F a w) {p : Addr} (hp : F p.block ∨ a.heap.size ≤ p.block) (u : Value) : Gr F a (w.setCell p u) :=
  h.trans (G := fun b => b = p.block) ⟨rfl, rfl, rfl, by simp [World.setCell], fun k hk hf => Below.heap_setCell _ _ _ _ hf⟩ (fun x e => by rw [e]; exact hp)
theorem Gr.step {F : Nat → Prop} {a b c : World} (h : Gr F a b) (k : Below b.heap.size b c) : Gr F a c := h.trans (G := fun _ => False) (Gr.of_below k) (fun _ h => h.elim)
theorem Gr.grown {F : Nat → Prop} {a b c : World} {row : Option Nat} (h : Gr F a b) (k : b.grownBy c row) (hr : ∀ x, row = some x → F x ∨ a.heap.size ≤ x) : Gr F a c := h.trans (Gr.of_grown k) (fun x e => hr x e)

theorem Gr.cell {F : Nat → Prop} {w w' : World} (h : Gr F w w') {p : Addr} {v : Value} (hc : w.cell? p = some v) (hf : ¬ F p.block) : w'.cell? p = some v :=
  (World.cell?_of_block (w := w) (h.block p.block (World.block_lt_of_cell? w p hc) hf)).trans hc
theorem Rd.gr {t : Ty} {S S' : Nat → Prop} {F : Nat → Prop} {w w' : World} {cs : List Value} {x : t.den} (h : Rd t S w cs x) (hg : Gr F w w') (hS : ∀ b, S b → b < w.heap.size ∧ ¬ F b) (hs : ∀ b, S b → S' b) : Rd t S' w' cs x :=
  h.keep (fun b hb => hg.block b (hS b hb).1 (hS b hb).2) hs
theorem Owns.gr {e : Ty} {te : TypeId} {base : Nat} {S : Nat → Prop} {F : Nat → Prop} {w w' : World} {v : Value} {xs : List e.den} (h : Owns e te base S w v xs) (hg : Gr F w w') (hS : ∀ b, S b → ¬ F b) (hv : ∀ b, v.ownBlock = some b → ¬ F b) : Owns e te base S w' v xs :=
  h.keep (fun b hb => by
    rcases hb with hb | hb
    · exact hg.block b (h.bound b hb).2 (hS b hb)
    · exact hg.block b (h.own b hb).2 (hv b hb)) hg.size
theorem blk_gr {F : Nat → Prop} {w w' : World} (hg : Gr F w w') {p : Nat} {o : Obj} (h : w.heap[p]? = some o) (hf : ¬ F p) : w'.heap[p]? = some o :=
  (hg.block p (Array.getElem?_eq_some_iff.1 h).1 hf).trans h
theorem blk_lt {w : World} {p : Nat} {o : Obj} (h : w.heap[p]? = some o) : p < w.heap.size := (Array.getElem?_eq_some_iff.1 h).1
theorem blk_set {w : World} {p i : Nat} {cs : Array Value} {t : TypeId} (h : w.heap[p]? = some (.cells cs t (0, 0))) (u : Value) : (w.setCell ⟨p, i, none⟩ u).heap[p]? = some (.cells (cs.setIfInBounds i u) t (0, 0)) := by
  simp [World.setCell, Array.getElem?_modify, h]
theorem blk_cell {w : World} {p : Nat} {cs : Array Value} {t : TypeId} (h : w.heap[p]? = some (.cells cs t (0, 0))) (i : Nat) : w.cell? ⟨p, i, none⟩ = cs[i]? := cell_of_row w p i cs t (0, 0) h
theorem blk_frozen {w : World} {p : Nat} {cs : Array Value} {t : TypeId} (h : w.heap[p]? = some (.cells cs t (0, 0))) (i : Nat) : w.frozen? ⟨p, i, none⟩ = false := by simp [World.frozen?, h]

/-! ### A slice of what is read -/
theorem Rd.drop {e : Ty} {S : Nat → Prop} {w : World} {a : Option Addr} {len cap : Nat} {xs : List e.den} (h : Rd (.sl e) S w [.slice a len cap] xs) (k : Nat) (hk : k ≤ len) :
    Rd (.sl e) S w [.slice (if cap = k then a else a.map (·.add (k * e.sz))) (len - k) (cap - k)] (xs.drop k) := by
  obtain ⟨a', l', c', he, h1, h2, h3, h4⟩ := h
  simp only [List.cons.injEq, Value.slice.injEq, and_true] at he
  obtain ⟨rfl, rfl, rfl⟩ := he
  have h1' : List.length xs = len := h1
  refine ⟨_, len - k, cap - k, rfl, ?_, by omega, by omega, ?_⟩
  · rw [List.length_drop, h1']
  · rcases h4 with h0 | ⟨b, off, rfl, hb, hx⟩
    · exact .inl (by omega)
    · by_cases hck : len - k = 0
      · exact .inl hck
      · right
        rw [if_neg (by omega)]
        refine ⟨b, off + k * e.sz, by rw [Option.map_some, Addr.add_none], hb, fun i hi => ?_⟩
        rw [List.length_drop] at hi
        obtain ⟨vs, hl, hc, hr⟩ := hx (i + k) (by omega)
        refine ⟨vs, hl, fun j u hu => ?_, ?_⟩
        · rw [← hc j u hu, Nat.add_mul]; congr 2; omega
        · have : (xs.drop k)[i]'(by rw [List.length_drop]; omega) = xs[i + k]'(by omega) := by simp [Nat.add_comm]
          simp only [List.get_eq_getElem] at hr ⊢
          rw [this]; exact hr

/-! ### Bytes as a string -/
/-! ### n<<8 | x -/
end Go.Proofs.Ytoimbhdjhhmonaa

/- Program independent: a slice of the call's own that has been cut at its head ('q = q[1:]'), and appended to; a map of integers to bools of the call's own. -/
namespace Go.Proofs.Ytoimbhdjhhmonaa
open Go.RowKit Go

theorem wf_i64 {x : Int} (h0 : 0 ≤ x) (h1 : x ≤ 1000) : (Lit.int .i64 x).wf = true := by simp [Lit.wf, IntKind.min, IntKind.max, IntKind.signed, IntKind.bits]; omega

def OwnsO (e : Ty) (te : TypeId) (base : Nat) (S : Nat → Prop) (w : World) (v : Value) (xs : List e.den) : Prop :=
  ∃ g off len cap cur ws, v = .slice (some ⟨g, off, none⟩) len cap ∧ xs.length = len ∧ len ≤ cap ∧ cap ≤ 9223372036854775807 ∧ base ≤ g ∧ w.heap[g]? = some (.cells cur te (0, 0)) ∧ off + cap * e.sz ≤ cur.size ∧
    RdL e S w ws xs ∧ (∀ j u, ws[j]? = some u → cur[off + j]? = some u) ∧ ∀ b, S b → b ≠ g ∧ b < w.heap.size

theorem OwnsO.own {e : Ty} {te : TypeId} {base : Nat} {S : Nat → Prop} {w : World} {v : Value} {xs : List e.den} (h : OwnsO e te base S w v xs) : ∀ g, v.ownBlock = some g → base ≤ g ∧ g < w.heap.size := by
  obtain ⟨g, off, len, cap, cur, ws, rfl, h1, h2, h3, h4, h5, _⟩ := h
  intro g' hg
  simp [Value.ownBlock] at hg
  subst hg
  exact ⟨h4, (Array.getElem?_eq_some_iff.1 h5).1⟩

theorem OwnsO.keep {e : Ty} {te : TypeId} {base : Nat} {S S' : Nat → Prop} {w w' : World} {v : Value} {xs : List e.den} (h : OwnsO e te base S w v xs)
    (hw : ∀ b, (S b ∨ v.ownBlock = some b) → w'.heap[b]? = w.heap[b]?) (hs : ∀ b, S b → S' b) (hS : ∀ b, S' b → v.ownBlock ≠ some b ∧ b < w'.heap.size) : OwnsO e te base S' w' v xs := by
  obtain ⟨g, off, len, cap, cur, ws, rfl, h1, h2, h3, h4, h5, h6, h7, h8, h9⟩ := h
  exact ⟨g, off, len, cap, cur, ws, rfl, h1, h2, h3, h4, (hw g (.inr rfl)).trans h5, h6, h7.keep (fun b hb => hw b (.inl hb)) hs, h8, fun b hb => ⟨fun e => (hS b hb).1 (by rw [e]; rfl), (hS b hb).2⟩⟩

theorem OwnsO.bound {e : Ty} {te : TypeId} {base : Nat} {S : Nat → Prop} {w : World} {v : Value} {xs : List e.den} (h : OwnsO e te base S w v xs) : ∀ b, S b → v.ownBlock ≠ some b ∧ b < w.heap.size := by
  obtain ⟨g, off, len, cap, cur, ws, rfl, h1, h2, h3, h4, h5, h6, h7, h8, h9⟩ := h
  exact fun b hb => ⟨fun e => (h9 b hb).1 (by simpa [Value.ownBlock] using e.symm), (h9 b hb).2⟩

theorem OwnsO.below {e : Ty} {te : TypeId} {base : Nat} {S : Nat → Prop} {w w' : World} {v : Value} {xs : List e.den} (h : OwnsO e te base S w v xs) (hB : Below w.heap.size w w') : OwnsO e te base S w' v xs :=
  h.keep (fun b hb => hB.block b (by
    rcases hb with hb | hb
    · exact (h.bound b hb).2
    · exact (h.own b hb).2)) (fun _ h => h) (fun b hb => ⟨(h.bound b hb).1, Nat.lt_of_lt_of_le (h.bound b hb).2 hB.size⟩)

theorem OwnsO.of {e : Ty} {te : TypeId} {base : Nat} {S : Nat → Prop} {w : World} {v : Value} {xs : List e.den} (h : Owns e te base S w v xs) (hne : v ≠ .slice none 0 0) : OwnsO e te base S w v xs := by
  obtain ⟨vs, ho, hr, hS⟩ := h
  rcases ho.2 with ⟨rfl, _⟩ | ⟨g, cap, cur, rfl, hb, hg, h1, h2, hc, ht⟩
  · exact absurd rfl hne
  · refine ⟨g, 0, _, cap, cur, vs, rfl, rfl, h1, by simpa [maxLen] using h2, hb, hg, by omega, hr, fun j u hu => ?_, fun b hb => ⟨fun e => (hS b hb).1 (by rw [e]; rfl), (hS b hb).2⟩⟩
    rw [Nat.zero_add, ← Array.getElem?_toList]
    rw [← ht, List.getElem?_take] at hu
    split at hu
    · exact hu
    · cases hu

section
variable {P : Program} (w : World)
theorem run_append_room_off (t ty e : TypeId) (i : TypeInfo) (ht : P.underlying t = some (.slice e)) (hi : P.info? e = some i)
    (g off sLen sCap : Nat) (cur : Array Value) (hg : w.heap[g]? = some (.cells cur e (0, 0)))
    (a : Addr) (m c : Nat) (news : List Value) (hl : news.length = m * i.size) (hnews : ∀ j u, news[j]? = some u → w.cell? (a.add j) = some u) (h1 : ∀ u ∈ news, u.oneCell' = true)
    (hroom : sLen + m ≤ sCap) (hfit : off + sLen * i.size + news.length ≤ cur.size) :
    (Builtin.append_ #[t, t] ty #[.slice (some ⟨g, off, none⟩) sLen sCap, .slice (some a) m c]).run P w =
      .ok (.slice (some ⟨g, off, none⟩) (sLen + m) sCap) (w.setRow g (cur.toList.take (off + sLen * i.size) ++ news ++ cur.toList.drop (off + sLen * i.size + news.length)).toArray) := by
  have hf := run_firstCells_some (P := P) w i.size m a m c news hl hnews
  have hst := run_storeCells_at P g (off + sLen * i.size) e news 0 cur w hg (by simpa using hfit) h1
  simp only [Nat.add_zero] at hst
  simp [Builtin.append_, run_underlying ht, sizeOf, typeInfo, hi, Builtin.lenOf, hf, hroom, Addr.add_none, hst]

theorem run_appO {e : Ty} {base : Nat} {t ty te : TypeId} {z : Value} {bytes : Nat} (hi : (P.info? te).map (fun i => (i.zero, i.size, i.bytes)) = some (some z, e.sz, bytes)) (ht : P.underlying t = some (.slice te)) (hz : z.cells.size = e.sz) (h0 : 0 < e.sz)
    {S : Nat → Prop} {v : Value} {xs : List e.den} (hown : OwnsO e te base S w v xs) (hbase : base ≤ w.heap.size)
    {ad : Addr} {c m : Nat} {ys : List e.den} {news : List Value} (hm : ys.length = m) (hnews : ∀ j u, news[j]? = some u → w.cell? (ad.add j) = some u) (hr : RdL e S w news ys) (hm0 : 0 < m) (hb : (xs.length + m) * bytes ≤ 140737488355328) (hmx : xs.length + m ≤ 9223372036854775807) :
    ∃ v' w', (Builtin.append_ #[t, t] ty #[v, .slice (some ad) m c]).run P w = .ok v' w' ∧ OwnsO e te base S w' v' (xs ++ ys) ∧ w.grownBy w' v.ownBlock ∧ (v'.ownBlock = v.ownBlock ∨ v'.ownBlock = some w.heap.size) := by
  obtain ⟨i, hi', hz0, hz1, hz2⟩ := info_parts hi
  clear hi
  subst hz2
  subst hm
  obtain ⟨g, off, len, cap, cur, ws, rfl, rfl, h2, h3, h4, h5, h6, h7, h8, h9⟩ := hown
  have hnl : news.length = ys.length * i.size := by rw [hr.len, hz1]
  have hwl := h7.len
  by_cases hroom : xs.length + ys.length ≤ cap
  · have hmul : xs.length * e.sz + ys.length * e.sz ≤ cap * e.sz := by rw [← Nat.add_mul]; exact Nat.mul_le_mul_right _ hroom
    have hrun := run_append_room_off (P := P) w t ty te i ht hi' g off xs.length cap cur h5 ad ys.length c news hnl hnews hr.one_cell hroom (by rw [hnl, hz1]; omega)
    have hk : ∀ b, S b → (w.setRow g (cur.toList.take (off + xs.length * i.size) ++ news ++ cur.toList.drop (off + xs.length * i.size + news.length)).toArray).heap[b]? = w.heap[b]? := fun b hb => setRow_other w g b _ (h9 b hb).1
    refine ⟨_, _, hrun, ⟨g, off, _, cap, _, ws ++ news, rfl, by simp, hroom, h3, h4, setRow_heap w g cur _ te _ h5, ?_, (h7.append hr).keep hk (fun _ h => h), ?_, fun b hb => ⟨(h9 b hb).1, by simpa using (h9 b hb).2⟩⟩, ⟨rfl, rfl, rfl, by simp, fun k _ hk => setRow_other w g k _ (fun e => hk (by simp [Value.ownBlock, e]))⟩, .inl rfl⟩
    · simp only [List.size_toArray, List.length_append, List.length_take, List.length_drop, Array.length_toList, hnl, hz1]
      omega
    · intro j u hu
      simp only [List.getElem?_toArray, List.append_assoc]
      have hcl : cur.toList.length = cur.size := Array.length_toList
      have hlt : off + xs.length * i.size ≤ cur.toList.length := by rw [hz1, hcl]; omega
      by_cases hj : j < ws.length
      · rw [List.getElem?_append_left hj] at hu
        have := h8 j u hu
        have hj' : j < xs.length * e.sz := by rw [← hwl]; exact hj
        rw [List.getElem?_append_left (by rw [List.length_take, Nat.min_eq_left hlt, hz1]; omega), List.getElem?_take, if_pos (by rw [hz1]; omega), Array.getElem?_toList]
        exact this
      · rw [List.getElem?_append_right (by omega)] at hu
        have hjl := (List.getElem?_eq_some_iff.1 hu).1
        rw [List.getElem?_append_right (by rw [List.length_take, Nat.min_eq_left hlt, hz1]; omega), List.length_take, Nat.min_eq_left hlt]
        rw [show off + j - (off + xs.length * i.size) = j - ws.length by rw [hz1, hwl]; omega]
        rw [List.getElem?_append_left hjl]
        exact hu
  · have holds : ∀ j u, ws[j]? = some u → w.cell? ((⟨g, off, none⟩ : Addr).add j) = some u := fun j u hu => by
      rw [Addr.add_none, cell_of_row w g _ cur te _ h5]
      exact h8 j u hu
    have hrun := run_append_grow (P := P) w t ty te i z ht hi' hz0 ⟨g, off, none⟩ xs.length cap ws (by rw [hwl, hz1]) holds ad ys.length c news hnl hnews (by omega) (by omega) (growslice_fits (by omega) hb)
    have hge := grownCap_ge w (xs.length + ys.length) cap te
    have hcm : grownCap w (xs.length + ys.length) cap te ≤ maxLen := grownCap_le_maxLen w _ cap te (by simp [maxLen]; omega)
    generalize grownCap w (xs.length + ys.length) cap te = gc at hge hcm hrun
    have hk : ∀ (o : Obj) (b : Nat), S b → (w.drew.alloc o).heap[b]? = w.heap[b]? := fun o b hb => heap_alloc_old w.drew _ (h9 b hb).2
    refine ⟨_, _, hrun, ⟨w.heap.size, 0, _, gc, _, ws ++ news, rfl, by simp, hge, by simpa [maxLen] using hcm, hbase, heap_alloc_new w.drew _, ?_, (h7.append hr).keep (hk _) (fun _ h => h), ?_, fun b hb => ⟨Nat.ne_of_lt (h9 b hb).2, Nat.lt_of_lt_of_le (h9 b hb).2 (by simp)⟩⟩, ⟨rfl, rfl, rfl, by simp, fun k hk _ => heap_alloc_old w.drew _ hk⟩, .inr rfl⟩
    · simp only [Array.size_append, List.size_toArray, size_zeroCells, hz, hwl, hnl, hz1, ← Nat.add_mul]
      have : xs.length + ys.length + (gc - (xs.length + ys.length)) = gc := by omega
      rw [this]; omega
    · intro j u hu
      have hjl := (List.getElem?_eq_some_iff.1 hu).1
      rw [Nat.zero_add, Array.getElem?_append_left (by simpa using hjl)]
      simpa using hu

theorem wpList_appO {ops : Array Oper} {rest : List Oper} {o : Oper} {a : Act} {Q : Exit → Act → World → Prop} (hgd : o.guard = none) (s x : Operand) (t : TypeId)
    (ho : o.op = .call { callee := .builtin .append, args := #[s, x], argTypes := #[t, t] })
    {e : Ty} {base : Nat} {te : TypeId} {z : Value} {bytes : Nat} (hi : (P.info? te).map (fun i => (i.zero, i.size, i.bytes)) = some (some z, e.sz, bytes)) (ht : P.underlying t = some (.slice te)) (hz : z.cells.size = e.sz) (h0 : 0 < e.sz)
    {S : Nat → Prop} {v : Value} {xs : List e.den} (hv : a.eval s = v) (hown : OwnsO e te base S w v xs) (hbase : base ≤ w.heap.size)
    {ad : Addr} {c m : Nat} (hsv : a.eval x = .slice (some ad) m c) {ys : List e.den} {news : List Value} (hm : ys.length = m) (hnews : ∀ j u, news[j]? = some u → w.cell? (ad.add j) = some u) (hr : RdL e S w news ys) (hm0 : 0 < m) (hb : (xs.length + m) * bytes ≤ 140737488355328) (hmx : xs.length + m ≤ 9223372036854775807)
    (h : ∀ v' w', OwnsO e te base S w' v' (xs ++ ys) → w.grownBy w' v.ownBlock → (v'.ownBlock = v.ownBlock ∨ v'.ownBlock = some w.heap.size) → wpList P ops Q rest (a.put o.dst v') w') :
    wpList P ops Q (o :: rest) a w := by
  refine wpList_plain hgd fun K hK => ?_
  obtain ⟨v', w', hrun, h1, h2, h3⟩ := run_appO (P := P) w (ty := o.type) hi ht hz h0 hown hbase (c := c) hm hnews hr hm0 hb hmx
  unfold Oper.wp
  simp [execOp, ho, resolve, invoke, builtin, hv, hsv, hrun, Result.andThen]
  exact hK _ _ (h v' w' h1 h2 h3)
end

section
variable {P : Program} (w : World)
end

/-! ### A map of integers to bools -/
/-- Block b is a map of at most n entries; 'm[x]' is f x. -/
def MapB (P : Program) (k e : TypeId) (q : IntKind) (w : World) (b n : Nat) (f : Int → Bool) : Prop :=
  ∃ D : DataW Unit, w.ownsMap P k (plainElem P e) b n D ∧ ∀ x, (Lit.int q x).wf = true → D.atKey (.int q x) (.lit (.bool false)) = .lit (.bool (f x))

section
variable {P : Program} {k e t : TypeId} {q : IntKind} {w : World} {b n : Nat} {f : Int → Bool}
theorem MapB.lookup (h : MapB P k e q w b n f) (hk : P.underlying k = some (.int q)) (he : P.underlying e = some .bool) (ht : P.underlying t = some (.map k e)) (hz : (zeroValue e).run P w = .ok (.bool false) w) {x : Int} (hx : (Lit.int q x).wf = true) :
    (Instr.lookup t (.map (some b)) (.int q x) false).run P w = .ok (.bool (f x)) w := by
  obtain ⟨D, hD, hf⟩ := h
  obtain ⟨v, ps, hrun, hv⟩ := hD.lookup (Maps.int_keyed hk) ht hz (plainElem_bool he false) (Maps.keyOf_int_mk hk hx)
  rw [hf x hx] at hv
  rw [hrun]
  unfold plainElem at hv
  rw [he] at hv
  cases v <;> simp at hv
  rw [hv.1]

theorem MapB.made (hk : P.underlying k = some (.int q)) (w : World) : MapB P k e q (w.alloc (.map #[] 0)) w.heap.size 0 (fun _ => false) :=
  ⟨.map [], World.ownsMap_made w P k _, fun x _ => rfl⟩

theorem MapB.keep {w' : World} (h : MapB P k e q w b n f) (hw : w'.heap[b]? = w.heap[b]?) : MapB P k e q w' b n f := by
  obtain ⟨D, ⟨es, clock, hb, r⟩, hf⟩ := h
  exact ⟨D, ⟨es, clock, hw.trans hb, r⟩, hf⟩
theorem MapB.lt (h : MapB P k e q w b n f) : b < w.heap.size := by
  obtain ⟨D, hD, _⟩ := h; exact hD.lt
theorem MapB.below {w' : World} (h : MapB P k e q w b n f) (hB : Below w.heap.size w w') : MapB P k e q w' b n f := h.keep (hB.block b h.lt)

theorem MapB.put {D : DataW Unit} (hD : Maps.IsMap D) (hf : ∀ x, (Lit.int q x).wf = true → D.atKey (.int q x) (.lit (.bool false)) = .lit (.bool (f x))) (y : Int) (z : Bool) :
    ∀ x, (Lit.int q x).wf = true → (D.put (.int q y) (.lit (.bool z))).atKey (.int q x) (.lit (.bool false)) = .lit (.bool (if x = y then z else f x)) := by
  intro u hu
  by_cases hu' : u = y
  · subst hu'
    rw [Maps.atKey_put_same hD (by trivial)]
    simp
  · simp only [if_neg hu']
    rw [Maps.atKey_put_other (by intro e; cases e; exact hu' rfl), hf u hu]

end
end Go.Proofs.Ytoimbhdjhhmonaa

/- Program independent: a region that draws its order: what only reckons is taken first; a load is taken first where its cell stands until the operations of T, which wait for it. -/
namespace Go.Proofs.Ytoimbhdjhhmonaa
open Go.RowKit Go

section
variable {P : Program} {ops : Array Oper} {Q : Exit → Act → World → Prop} {md : Region.Mode} {S : World → Prop} {T : Nat → Bool}

/-- Whatever order is picked from here on; S is kept by every operation but those of T. -/
def wpAnyT (P : Program) (md : Region.Mode) (ops : Array Oper) (Q : Exit → Act → World → Prop) (S : World → Prop) (T : Nat → Bool) : Nat → Array Bool → Act → World → Prop
  | 0, listed, a, w => Region.ready md ops listed = [] ∧ Q .normal a w
  | fuel + 1, listed, a, w =>
    (Region.ready md ops listed = [] → Q .normal a w) ∧
    ∀ i ∈ Region.ready md ops listed, wpOp P ops Q i (fun a' w' => (T i = false → S w → S w') ∧ wpAnyT P md ops Q S T fuel (listed.setIfInBounds i true) a' w') a w

theorem wpAny_of_T : ∀ (fuel : Nat) (listed : Array Bool) (a : Act) (w : World), wpAnyT P md ops Q S T fuel listed a w → wpAny P md ops Q fuel listed a w
  | 0, _, _, _, h => h
  | fuel + 1, _, _, _, h => ⟨h.1, fun i hi => wpOp_mono (fun a' w' h' => wpAny_of_T fuel _ a' w' h'.2) (h.2 i hi)⟩

def waitsB (md : Region.Mode) (ops : Array Oper) : Nat → Nat → Nat → Bool
  | 0, _, _ => false
  | n + 1, j, i => match ops[j]? with
    | none => false
    | some o => o.after.any fun e => Region.binds md e && (e.on == i || waitsB md ops n e.on i)
def closedL (md : Region.Mode) (ops : Array Oper) (listed : Array Bool) : Prop :=
  ∀ j oj, ops[j]? = some oj → listed.getD j false = true → ∀ e ∈ oj.after, Region.binds md e = true → listed.getD e.on false = true
def closedB (md : Region.Mode) (ops : Array Oper) (listed : Array Bool) : Bool :=
  (List.range ops.size).all fun j => match ops[j]? with
    | none => true
    | some o => !listed.getD j false || o.after.all fun e => !Region.binds md e || listed.getD e.on false
theorem closedB_spec {md : Region.Mode} {ops : Array Oper} {listed : Array Bool} (h : closedB md ops listed = true) : closedL md ops listed := by
  intro j oj hj hl e he hb
  have h1 := List.all_eq_true.1 h j (by simpa using (Array.getElem?_eq_some_iff.1 hj).1)
  simp only [hj, hl, Bool.not_true, Bool.false_or] at h1
  obtain ⟨k, hk, rfl⟩ := Array.mem_iff_getElem.1 he
  have h2 := Array.all_eq_true.1 h1 k hk
  simpa [hb] using h2
theorem closedL_set {md : Region.Mode} {ops : Array Oper} {listed : Array Bool} {j : Nat} {oj : Oper} (h : closedL md ops listed) (hj : ops[j]? = some oj) (hall : ∀ e ∈ oj.after, Region.binds md e = true → listed.getD e.on false = true) :
    closedL md ops (listed.setIfInBounds j true) := by
  intro k ok hk hl e he hb
  by_cases hjk : j = k
  · subst hjk
    rw [hj] at hk
    cases hk
    exact getD_set_true (hall e he hb)
  · rw [getD_set_ne false hjk] at hl
    exact getD_set_true (h k ok hk hl e he hb)
theorem waitsB_listed {md : Region.Mode} {ops : Array Oper} {listed : Array Bool} (hcl : closedL md ops listed) : ∀ (n j i : Nat) {oj : Oper}, waitsB md ops n j i = true → ops[j]? = some oj →
    (∀ e ∈ oj.after, Region.binds md e = true → listed.getD e.on false = true) → listed.getD i false = true
  | 0, _, _, _, h, _, _ => by cases h
  | n + 1, j, i, oj, h, hj, hall => by
    rw [waitsB, hj] at h
    simp only [Array.any_eq_true, Bool.and_eq_true, Bool.or_eq_true, beq_iff_eq] at h
    obtain ⟨k, hk, hb, h⟩ := h
    have hl := hall _ (Array.getElem_mem hk) hb
    rcases h with h | h
    · rw [← h]; exact hl
    · cases ho : ops[oj.after[k].on]? with
      | none =>
        cases n with
        | zero => cases h
        | succ n => rw [waitsB, ho] at h; cases h
      | some o2 => exact waitsB_listed hcl n _ i h ho (hcl _ _ ho hl)

/-- The same, where T's operations wait for number i through others. -/
theorem wpAnyT_firstW {i : Nat} {oi : Oper} {v : Value} (hi : ops[i]? = some oi) (hsel : ∀ (j : Nat) (o : Oper) cs b, ops[j]? = some o → o.op ≠ .select cs b)
    (hQ : ∀ c a w, Q (.panic c) (a.put oi.dst v) w → Q (.panic c) a w)
    (hT : ∀ j oj, ops[j]? = some oj → T j = true → waitsB md ops ops.size j i = true) :
    ∀ (fuel : Nat) (listed : Array Bool) (a : Act) (w : World),
      (∀ j oj, ops[j]? = some oj → j ≠ i → listed.getD j true = false → (∀ e ∈ oj.after, Region.binds md e = true → e.on ≠ i) → oi.apart ops oj = true) →
      closedL md ops listed → i ∈ Region.ready md ops listed → YieldsIf P ops S oi v a → S w →
      wpAnyT P md ops Q S T fuel (listed.setIfInBounds i true) (a.put oi.dst v) w → wpAnyT P md ops Q S T (fuel + 1) listed a w := by
  intro fuel
  induction fuel with
  | zero =>
    intro listed a w _ _ hr hy hS H
    refine ⟨fun h => (by rw [h] at hr; cases hr), fun j hj => ?_⟩
    by_cases hji : j = i
    · subst hji; exact hy.wpOp hi hS ⟨fun _ h => h, H⟩
    · have := ready_mono hj hji
      rw [H.1] at this
      cases this
  | succ fuel ih =>
    intro listed a w hfree hcl hr hy hS H
    refine ⟨fun h => (by rw [h] at hr; cases hr), fun j hj => ?_⟩
    by_cases hji : j = i
    · subst hji; exact hy.wpOp hi hS ⟨fun _ h => h, H⟩
    · have h1 := H.2 j (ready_mono hj hji)
      obtain ⟨hjun, oj, hoj, hall⟩ := mem_ready.1 hj
      have hnot : ∀ e ∈ oj.after, Region.binds md e = true → e.on ≠ i := fun e he hb heq => by
        have h1 := hall e he hb
        have h0 := (mem_ready.1 hr).1
        rw [heq] at h1
        rcases Nat.lt_or_ge i listed.size with h' | h'
        · simp [h'] at h0 h1; rw [h0] at h1; cases h1
        · simp [Array.getElem?_eq_none h'] at h1
      have hTj : T j = false := by
        cases h : T j with
        | false => rfl
        | true =>
          have h1 := waitsB_listed hcl _ j i (hT j oj hoj h) hoj hall
          have h0 := (mem_ready.1 hr).1
          rcases Nat.lt_or_ge i listed.size with h' | h'
          · simp [h'] at h0 h1; rw [h0] at h1; cases h1
          · simp [Array.getElem?_eq_none h'] at h1
      have h2 := wpOp_putIf hoj (hfree j oj hoj hji hjun hnot) (fun cs b => hsel i oi cs b hi) (fun cs b => hsel j oj cs b hoj) hQ hy h1
      have hfree' : ∀ k ok, ops[k]? = some ok → k ≠ i → (listed.setIfInBounds j true).getD k true = false →
          (∀ e ∈ ok.after, Region.binds md e = true → e.on ≠ i) → oi.apart ops ok = true := fun k ok hk hki hun hno => by
        refine hfree k ok hk hki ?_ hno
        by_cases hjk : j = k
        · subst hjk; exact hjun
        · rw [getD_set_ne true hjk] at hun; exact hun
      refine wpOp_mono (fun a' w' h3 => ⟨fun h h' => h3.2.1 h h', ih (listed.setIfInBounds j true) a' w' hfree' (closedL_set hcl hoj hall) (ready_mono hr (Ne.symm hji)) h3.1 (h3.2.1 hTj hS) ?_⟩) h2
      rw [Array.setIfInBounds_comm _ _ hji]
      exact h3.2.2

theorem wpAnyT_first' {i : Nat} {oi : Oper} {v : Value} (hi : ops[i]? = some oi) (hsel : ∀ (j : Nat) (o : Oper) cs b, ops[j]? = some o → o.op ≠ .select cs b)
    (hQ : ∀ c a w, Q (.panic c) (a.put oi.dst v) w → Q (.panic c) a w) :
    ∀ (fuel : Nat) (listed : Array Bool) (a : Act) (w : World),
      (∀ j oj, ops[j]? = some oj → j ≠ i → listed.getD j true = false → (∀ e ∈ oj.after, Region.binds md e = true → e.on ≠ i) → oi.apart ops oj = true) →
      i ∈ Region.ready md ops listed → YieldsIf P ops (fun _ => True) oi v a →
      wpAnyT P md ops Q S T fuel (listed.setIfInBounds i true) (a.put oi.dst v) w → wpAnyT P md ops Q S T (fuel + 1) listed a w := by
  intro fuel
  induction fuel with
  | zero =>
    intro listed a w _ hr hy H
    refine ⟨fun h => (by rw [h] at hr; cases hr), fun j hj => ?_⟩
    by_cases hji : j = i
    · subst hji; exact hy.wpOp hi trivial ⟨fun _ h => h, H⟩
    · have := ready_mono hj hji
      rw [H.1] at this
      cases this
  | succ fuel ih =>
    intro listed a w hfree hr hy H
    refine ⟨fun h => (by rw [h] at hr; cases hr), fun j hj => ?_⟩
    by_cases hji : j = i
    · subst hji; exact hy.wpOp hi trivial ⟨fun _ h => h, H⟩
    · have h1 := H.2 j (ready_mono hj hji)
      obtain ⟨hjun, oj, hoj, hall⟩ := mem_ready.1 hj
      have hnot : ∀ e ∈ oj.after, Region.binds md e = true → e.on ≠ i := fun e he hb heq => by
        have h1 := hall e he hb
        have h0 := (mem_ready.1 hr).1
        rw [heq] at h1
        rcases Nat.lt_or_ge i listed.size with h' | h'
        · simp [h'] at h0 h1; rw [h0] at h1; cases h1
        · simp [Array.getElem?_eq_none h'] at h1
      have h2 := wpOp_putIf (S := fun _ => True) hoj (hfree j oj hoj hji hjun hnot) (fun cs b => hsel i oi cs b hi) (fun cs b => hsel j oj cs b hoj) hQ hy h1
      have hfree' : ∀ k ok, ops[k]? = some ok → k ≠ i → (listed.setIfInBounds j true).getD k true = false →
          (∀ e ∈ ok.after, Region.binds md e = true → e.on ≠ i) → oi.apart ops ok = true := fun k ok hk hki hun hno => by
        refine hfree k ok hk hki ?_ hno
        by_cases hjk : j = k
        · subst hjk; exact hjun
        · rw [getD_set_ne true hjk] at hun; exact hun
      refine wpOp_mono (fun a' w' h3 => ⟨h3.2.1, ih (listed.setIfInBounds j true) a' w' hfree' (ready_mono hr (Ne.symm hji)) h3.1 ?_⟩) h2
      rw [Array.setIfInBounds_comm _ _ hji]
      exact h3.2.2

/-- A load whose cell stands until the operations of T, which wait for it through others. -/
theorem wpAnyT_loadW {i : Nat} {oi : Oper} {v : Value} {fuel : Nat} {listed : Array Bool} {a : Act} {w : World} (hi : ops[i]? = some oi)
    (hs : Region.noSelect ops = true) (hf : Region.free md ops listed i = true) (hr : (Region.ready md ops listed).contains i = true) (hc : closedB md ops listed = true) (ht : ((List.range ops.size).all fun j => !T j || waitsB md ops ops.size j i) = true)
    (hQ : ∀ c a w, Q (.panic c) (a.put oi.dst v) w → Q (.panic c) a w) (hy : YieldsIf P ops S oi v a) (hS : S w)
    (h : wpAnyT P md ops Q S T fuel (listed.setIfInBounds i true) (a.put oi.dst v) w) : wpAnyT P md ops Q S T (fuel + 1) listed a w :=
  wpAnyT_firstW hi (Region.noSelect_spec hs) hQ (fun j oj hoj hj => by
    have := List.all_eq_true.1 ht j (by simpa using (Array.getElem?_eq_some_iff.1 hoj).1)
    simpa [hj] using this) fuel listed a w (Region.free_spec hi hf) (closedB_spec hc) (by simpa using hr) hy hS h
/-- What only reckons: taken first. -/
theorem wpAnyT_pure {i : Nat} {oi : Oper} {v : Value} {fuel : Nat} {listed : Array Bool} {a : Act} {w : World} (hi : ops[i]? = some oi)
    (hs : Region.noSelect ops = true) (hf : Region.free md ops listed i = true) (hr : (Region.ready md ops listed).contains i = true)
    (hQ : ∀ c a w, Q (.panic c) (a.put oi.dst v) w → Q (.panic c) a w) (hw : Region.wanted oi (yielded ops a.tmps) = true) (hy : ∀ w, (execOp a.eval oi).run P w = .ok (.value v) w)
    (h : wpAnyT P md ops Q S T fuel (listed.setIfInBounds i true) (a.put oi.dst v) w) : wpAnyT P md ops Q S T (fuel + 1) listed a w :=
  wpAnyT_first' hi (Region.noSelect_spec hs) hQ fuel listed a w (Region.free_spec hi hf) (by simpa using hr) (.inl ⟨hw, fun w _ => hy w⟩) h
/-- What is not wanted: passed over. -/
theorem wpAnyT_skip {i : Nat} {oi : Oper} {fuel : Nat} {listed : Array Bool} {a : Act} {w : World} (hi : ops[i]? = some oi)
    (hs : Region.noSelect ops = true) (hf : Region.free md ops listed i = true) (hr : (Region.ready md ops listed).contains i = true)
    (hQ : ∀ c a w, Q (.panic c) (a.put oi.dst undef) w → Q (.panic c) a w) (hw : Region.wanted oi (yielded ops a.tmps) = false)
    (h : wpAnyT P md ops Q S T fuel (listed.setIfInBounds i true) (a.put oi.dst undef) w) : wpAnyT P md ops Q S T (fuel + 1) listed a w :=
  wpAnyT_first' hi (Region.noSelect_spec hs) hQ fuel listed a w (Region.free_spec hi hf) (by simpa using hr) (.inr ⟨hw, rfl⟩) h
theorem wpAnyT_all {rs : List Nat} {fuel : Nat} {listed : Array Bool} {a : Act} {w : World} (hr : Region.ready md ops listed = rs) (hne : rs ≠ [])
    (h : ∀ i ∈ rs, wpOp P ops Q i (fun a' w' => (T i = false → S w → S w') ∧ wpAnyT P md ops Q S T fuel (listed.setIfInBounds i true) a' w') a w) : wpAnyT P md ops Q S T (fuel + 1) listed a w :=
  ⟨fun h0 => absurd (hr ▸ h0) hne, hr ▸ h⟩
theorem wpAnyT_one {i : Nat} {fuel : Nat} {listed : Array Bool} {a : Act} {w : World} {oi : Oper} (hr : Region.ready md ops listed = [i]) (hi : ops[i]? = some oi) (hw : Region.wanted oi (yielded ops a.tmps) = true)
    (h : oi.wp P a w (fun a' w' => (T i = false → S w → S w') ∧ wpAnyT P md ops Q S T fuel (listed.setIfInBounds i true) a' w') Q) : wpAnyT P md ops Q S T (fuel + 1) listed a w := by
  refine wpAnyT_all hr (by simp) (fun j hj => ?_)
  obtain rfl : j = i := by simpa using hj
  unfold wpOp
  simp only [hi, hw, if_true]
  exact .inl h
theorem wpAnyT_two {i k : Nat} {fuel : Nat} {listed : Array Bool} {a : Act} {w : World} {oi ok : Oper} (hr : Region.ready md ops listed = [i, k]) (hi : ops[i]? = some oi) (hk : ops[k]? = some ok)
    (hw : Region.wanted oi (yielded ops a.tmps) = true) (hwk : Region.wanted ok (yielded ops a.tmps) = true)
    (h : oi.wp P a w (fun a' w' => (T i = false → S w → S w') ∧ wpAnyT P md ops Q S T fuel (listed.setIfInBounds i true) a' w') Q)
    (h2 : ok.wp P a w (fun a' w' => (T k = false → S w → S w') ∧ wpAnyT P md ops Q S T fuel (listed.setIfInBounds k true) a' w') Q) : wpAnyT P md ops Q S T (fuel + 1) listed a w := by
  refine wpAnyT_all hr (by simp) (fun j hj => ?_)
  have hj' : j = i ∨ j = k := by simpa using hj
  rcases hj' with rfl | rfl
  · unfold wpOp; simp only [hi, hw, if_true]; exact .inl h
  · unfold wpOp; simp only [hk, hwk, if_true]; exact .inl h2
theorem wpAnyT_done {listed : Array Bool} {a : Act} {w : World} (hr : Region.ready md ops listed = []) (h : Q .normal a w) :
    ∀ fuel, wpAnyT P md ops Q S T fuel listed a w
  | 0 => ⟨hr, h⟩
  | _ + 1 => ⟨fun _ => h, by rw [hr]; simp⟩
theorem wp_region_T (S : World → Prop) (T : Nat → Bool) {id : Nat} {a : Act} {w : World} (hm : P.follows .mixedOrders = true)
    (h : wpAnyT P .any ops Q S T ops.size (Array.replicate ops.size false) a w.drew) : (Code.region id ops true).wp P Q a w :=
  wp_region_any hm (wpAny_of_T _ _ _ _ h)
end

section
variable {P : Program} {o : Oper} {a : Act} {w : World} {K : Act → World → Prop} {Q : Exit → Act → World → Prop}
theorem wp_value {v : Value} {w' : World} (he : (execOp a.eval o).run P w = .ok (.value v) w') (h : K (a.put o.dst v) w') : o.wp P a w K Q := by
  unfold Oper.wp; rw [he]; exact h
theorem wp_enter {f : FuncId} {args : Array Value} {R : Ending → World → Prop} (he : (execOp a.eval o).run P w = .ok (.enter f args) w) (hc : Calls P f args w R)
    (h : ∀ e w', R e w' → ∃ v, e = .returned v ∧ K (a.put o.dst v) w') : o.wp P a w K Q := by
  unfold Oper.wp; rw [he]
  refine hc.mono fun e w' hr => ?_
  obtain ⟨v, rfl, hk⟩ := h e w' hr
  exact hk
theorem wp_app (s x : Operand) (t : TypeId)
    (ho : o.op = .call { callee := .builtin .append, args := #[s, x], argTypes := #[t, t] })
    {e : Ty} {base : Nat} {te : TypeId} {z : Value} {bytes : Nat} (hi : (P.info? te).map (fun i => (i.zero, i.size, i.bytes)) = some (some z, e.sz, bytes)) (ht : P.underlying t = some (.slice te)) (hz : z.cells.size = e.sz) (h0 : 0 < e.sz)
    {S : Nat → Prop} {v : Value} {xs : List e.den} (hv : a.eval s = v) (hown : Owns e te base S w v xs) (hbase : base ≤ w.heap.size)
    {sv : Value} (hsv : a.eval x = sv) {ys : List e.den} {news : List Value} (hs : Src w sv ys.length news) (hr : RdL e S w news ys) (hb : (xs.length + ys.length) * bytes ≤ 140737488355328) (hmx : xs.length + ys.length ≤ 9223372036854775807)
    (h : ∀ (ca : Option Addr) (cl cc : Nat) w', Owns e te base S w' (.slice ca cl cc) (xs ++ ys) → w.grownBy w' v.ownBlock → ((Value.slice ca cl cc).ownBlock = v.ownBlock ∨ (Value.slice ca cl cc).ownBlock = some w.heap.size) → K (a.put o.dst (.slice ca cl cc)) w') :
    o.wp P a w K Q := by
  obtain ⟨v', w', hrun, h1, h2, h3, h4⟩ := run_app (P := P) w (ty := o.type) hi ht hz h0 hown hbase hs hr hb hmx
  obtain ⟨ca, cl, cc, rfl, -⟩ := h1.slice
  unfold Oper.wp
  simp [execOp, ho, resolve, invoke, builtin, hv, hsv, hrun, Result.andThen]
  exact h ca cl cc w' h1 h2 h4
end
theorem RdL.mono {e : Ty} {S S' : Nat → Prop} {w : World} {vs : List Value} {xs : List e.den} (h : RdL e S w vs xs) (hs : ∀ b, S b → S' b) : RdL e S' w vs xs := h.keep (fun _ _ => rfl) hs

/-! ### append onto a full slice that is read: a new row -/
section
variable {P : Program} (w : World)
end
end Go.Proofs.Ytoimbhdjhhmonaa

/- Program independent: cells that stand; a literal that is built, and appended to, in a region that draws its order. -/
namespace Go.Proofs.Ytoimbhdjhhmonaa
open Go.RowKit Go

/-- Cells that stand. -/
def Cells : List (Addr × Value) → World → Prop
  | [], _ => True
  | (a, v) :: r, w => w.cell? a = some v ∧ Cells r w
theorem Cells.below {w w' : World} (hB : Below w.heap.size w w') : ∀ {l : List (Addr × Value)}, Cells l w → Cells l w'
  | [], _ => trivial
  | (_, _) :: _, h => ⟨cell_below h.1 hB, Cells.below hB h.2⟩
def CellsLt (n : Nat) : List (Addr × Value) → Prop
  | [] => True
  | (a, _) :: r => a.block < n ∧ CellsLt n r
theorem Cells.belowN {n : Nat} {w w' : World} (hB : Below n w w') : ∀ {l : List (Addr × Value)}, CellsLt n l → Cells l w → Cells l w'
  | [], _, _ => trivial
  | (_, _) :: _, hl, h => ⟨(hB.cell hl.1).trans h.1, Cells.belowN hB hl.2 h.2⟩
theorem Cells.drew {w : World} {l : List (Addr × Value)} (h : Cells l w) : Cells l w.drew := by
  induction l with
  | nil => trivial
  | cons x l ih => exact ⟨h.1, ih h.2⟩

section
variable {P : Program} {o : Oper} {a : Act} {w : World} {K : Act → World → Prop} {Q : Exit → Act → World → Prop}
/-- A new block: what follows knows the block, not how it was made. -/
theorem wp_newrow {v : Value} {cs : Array Value} {te : TypeId} (he : (execOp a.eval o).run P w = .ok (.value v) (w.alloc (.cells cs te))) (h : ∀ w2, Below w.heap.size w w2 → w2.heap[w.heap.size]? = some (.cells cs te (0, 0)) → K (a.put o.dst v) w2) : o.wp P a w K Q :=
  wp_value he (h _ ((Below.refl _ w).alloc (Nat.le_refl _) _) (heap_alloc_new w _))

theorem run_appLit {e : Ty} {t ty te : TypeId} {z : Value} {bytes : Nat} (hi : (P.info? te).map (fun i => (i.zero, i.size, i.bytes)) = some (some z, e.sz, bytes)) (ht : P.underlying t = some (.slice te)) (hz : z.cells.size = e.sz) (h0 : 0 < e.sz)
    {S : Nat → Prop} {b base : Nat} (hb : w.heap[b]? = some (.cells #[] te (0, 0))) (hbase : base ≤ b) {sv : Value} {ys : List e.den} {news : List Value} (hs : Src w sv ys.length news) (hr : RdL e S w news ys) (hS : ∀ x, S x → x ≠ b ∧ x < w.heap.size)
    (hbt : ys.length * bytes ≤ 140737488355328) (hmx : ys.length ≤ 9223372036854775807) :
    ∃ va vl vc w', (Builtin.append_ #[t, t] ty #[.slice (some ⟨b, 0, none⟩) 0 0, sv]).run P w = .ok (.slice va vl vc) w' ∧ Owns e te base S w' (.slice va vl vc) ys ∧ Below w.heap.size w w' := by
  obtain ⟨i, hi', hz0, hz1, hz2⟩ := info_parts hi
  clear hi
  subst hz2
  have hbl : b < w.heap.size := (Array.getElem?_eq_some_iff.1 hb).1
  by_cases hm : ys.length = 0
  · obtain rfl : ys = [] := List.eq_nil_of_length_eq_zero hm
    have hsv : ∃ a c, sv = .slice a 0 c := by
      rcases hs with ⟨c, rfl, _⟩ | ⟨a, c, rfl, _⟩
      · exact ⟨_, _, rfl⟩
      · exact ⟨_, _, rfl⟩
    obtain ⟨a', c, rfl⟩ := hsv
    have hf : ∀ (a : Option Addr) w', (Builtin.firstCells i.size 0 (.slice a 0 c)).run P w' = .ok #[] w' := by
      intro a w'
      cases a with
      | none => simp [Builtin.firstCells]
      | some a => simp [Builtin.firstCells, loadCells, loadCellsFrom]
    refine ⟨some ⟨b, 0, none⟩, 0, 0, w, ?_, ⟨[], ⟨by simp, .inr ⟨b, 0, #[], rfl, hbase, hb, Nat.le_refl _, by simp, by simp, by simp⟩⟩, rfl, fun x hx => ⟨fun e' => (hS x hx).1 (by simpa [Value.ownBlock] using e'.symm), (hS x hx).2⟩⟩, Below.refl _ _⟩
    simp [Builtin.append_, run_underlying ht, sizeOf, typeInfo, hi', Builtin.lenOf, hf, storeCells]
  · obtain ⟨ad, c, rfl, hnews⟩ : ∃ ad c, sv = .slice (some ad) ys.length c ∧ ∀ j u, news[j]? = some u → w.cell? (ad.add j) = some u := by
      rcases hs with ⟨c, _, h0', _⟩ | ⟨a', c, rfl, ⟨h0', _⟩ | ⟨ad, rfl, h⟩⟩
      · exact absurd h0' hm
      · exact absurd h0' hm
      · exact ⟨ad, c, rfl, h⟩
    have hnl : news.length = ys.length * i.size := by rw [hr.len, hz1]
    have hrun := run_append_grow (P := P) w t ty te i z ht hi' hz0 ⟨b, 0, none⟩ 0 0 [] (by simp) (fun j u hu => by simp at hu) ad ys.length c news hnl hnews (by omega) (by omega) (growslice_fits (by omega) (by simpa using hbt))
    have hge := grownCap_ge w (0 + ys.length) 0 te
    have hcm : grownCap w (0 + ys.length) 0 te ≤ maxLen := grownCap_le_maxLen w _ 0 te (by simp [maxLen]; omega)
    generalize grownCap w (0 + ys.length) 0 te = gc at hge hcm hrun
    have hk : ∀ (o : Obj) (b : Nat), S b → (w.drew.alloc o).heap[b]? = w.heap[b]? := fun o b hb => heap_alloc_old w.drew _ (hS b hb).2
    refine ⟨_, _, _, _, hrun, ⟨news, ⟨by rw [hnl, hz1], .inr ⟨w.heap.size, gc, _, by rw [Nat.zero_add], by omega, heap_alloc_new w.drew _, by omega, by simpa [maxLen] using hcm, ?_, ?_⟩⟩, hr.keep (hk _) (fun _ h => h), fun x hx => ⟨?_, Nat.lt_of_lt_of_le (hS x hx).2 (by simp)⟩⟩, ((Below.refl _ w).drew).alloc (Nat.le_refl _) _⟩
    · simp only [Array.size_append, List.size_toArray, size_zeroCells, hz, hnl, hz1, ← Nat.add_mul, List.length_nil]
      rw [Nat.zero_add, ← Nat.add_mul]
      congr 1
      omega
    · simp only [Array.toList_append, List.append_assoc]
      rw [List.nil_append, List.take_left' (by rw [hnl, hz1])]
    · have := hS x hx
      simp [Value.ownBlock]; omega
theorem wp_appLit (s x : Operand) (t : TypeId)
    (ho : o.op = .call { callee := .builtin .append, args := #[s, x], argTypes := #[t, t] })
    {e : Ty} {te : TypeId} {z : Value} {bytes : Nat} (hi : (P.info? te).map (fun i => (i.zero, i.size, i.bytes)) = some (some z, e.sz, bytes)) (ht : P.underlying t = some (.slice te)) (hz : z.cells.size = e.sz) (h0 : 0 < e.sz)
    {S : Nat → Prop} {b base : Nat} (hv : a.eval s = .slice (some ⟨b, 0, none⟩) 0 0) (hb : w.heap[b]? = some (.cells #[] te (0, 0))) (hbase : base ≤ b)
    {sv : Value} (hsv : a.eval x = sv) {ys : List e.den} (hr : Rd (.sl e) S w [sv] ys) (hS : ∀ x, S x → x ≠ b ∧ x < w.heap.size) (hbt : ys.length * bytes ≤ 140737488355328) (hmx : ys.length ≤ 9223372036854775807)
    (h : ∀ (ca : Option Addr) (cl cc : Nat) w', Owns e te base S w' (.slice ca cl cc) ys → Below w.heap.size w w' → K (a.put o.dst (.slice ca cl cc)) w') :
    o.wp P a w K Q := by
  obtain ⟨news, hs, hrl⟩ := hr.src
  obtain ⟨ca, cl, cc, w', hrun, h1, h2⟩ := run_appLit (P := P) (w := w) (ty := o.type) hi ht hz h0 hb hbase hs hrl hS hbt hmx
  unfold Oper.wp
  simp [execOp, ho, resolve, invoke, builtin, hv, hsv, hrun, Result.andThen]
  exact h ca cl cc w' h1 h2
end
end Go.Proofs.Ytoimbhdjhhmonaa

/- Program independent: a walk that is cut: what stands behind a part of the code is told by the slots that it has filled. -/
namespace Go.Proofs.Ytoimbhdjhhmonaa
open Go.RowKit Go

def puts (a : Act) : List Tmp → List Value → Act
  | d :: ds, v :: vs => puts (a.put (some d) v) ds vs
  | _, _ => a
def CutTo (a : Act) (ds : List Tmp) (I : List Value → World → Prop) (a' : Act) (w' : World) : Prop := ∃ vs, a' = puts a ds vs ∧ I vs w'
theorem wp_cut {P : Program} {c : Code} {Q : Exit → Act → World → Prop} {a : Act} {w : World} (ds : List Tmp) (I : List Value → World → Prop)
    (h1 : c.wp P (Exit.then (CutTo a ds I) (fun _ _ _ => False)) a w) (h2 : ∀ vs w', I vs w' → Q .normal (puts a ds vs) w') : c.wp P Q a w := by
  refine Code.wp_mono (fun e a' w' q => ?_) h1
  cases e <;> first | exact q.elim | skip
  obtain ⟨vs, rfl, hI⟩ := q
  exact h2 vs w' hI
theorem cut_leaf {a a' : Act} {ds : List Tmp} {I : List Value → World → Prop} {w' : World} (h : a' = puts a ds (ds.map fun d => a'.tmps.getD d undef)) (hI : I (ds.map fun d => a'.tmps.getD d undef) w') : Exit.then (CutTo a ds I) (fun _ _ _ => False) .normal a' w' := (⟨_, h, hI⟩ : CutTo a ds I a' w')
end Go.Proofs.Ytoimbhdjhhmonaa

/- Program independent: maps keyed by any type of keys, with any elements, of whose readings the datum tells the value: look-up, length, store, delete. -/
namespace Go.Proofs.Ytoimbhdjhhmonaa
open Go.RowKit Go

/-- What keys are. -/
structure KeyS (P : Program) (k : TypeId) (κ : Type) where
  K : Maps.Keyed P k
  v : κ → Value
  ok : κ → Prop
  l : κ → Lit
  hl : ∀ x, ok x → keyOf P k (v x) = some (l x)
  inj : ∀ x y, ok x → ok y → l x = l y → x = y
/-- What elements are: z is the zero value's. -/
structure ElS (P : Program) (e : TypeId) (α : Type) where
  R : Value → Option (DataW Unit × List MemPlace)
  v : α → Value
  d : α → DataW Unit
  gd : α → Prop
  z : α
  hR : ∀ a, gd a → R (v a) = some (d a, [])
  hz : gd z
  inv : ∀ u a ps, R u = some (d a, ps) → u = v a
  zero : ∀ w, (zeroValue e).run P w = .ok (v z) w

section
variable {P : Program} {k e : TypeId} {κ α : Type}
def MapG (Ks : KeyS P k κ) (Es : ElS P e α) (w : World) (b m : Nat) (f : κ → Option α) : Prop :=
  ∃ D : DataW Unit, w.ownsMap P k Es.R b m D ∧ Maps.size D = m ∧ ∀ x : κ, Ks.ok x → Maps.has D (Ks.l x) = (f x).isSome ∧ D.atKey (Ks.l x) (Es.d Es.z) = Es.d ((f x).getD Es.z)
variable {Ks : KeyS P k κ} {Es : ElS P e α} {w : World} {b m : Nat} {f : κ → Option α} {t : TypeId}
theorem owns_exact {R : Value → Option (DataW Unit × List MemPlace)} {n : Nat} {D : DataW Unit} (h : w.ownsMap P k R b n D) : w.ownsMap P k R b (Maps.size D) D := by
  obtain ⟨es, clock, hb, F, hs, rfl⟩ := h
  exact ⟨es, clock, hb, F, by simp [Maps.size, length_sorted], rfl⟩
theorem MapG.look2 (h : MapG Ks Es w b m f) (ht : P.underlying t = some (.map k e)) (x : κ) (hx : Ks.ok x) :
    Sem.run P (Instr.lookup t (.map (some b)) (Ks.v x) true) w = .ok (.tuple #[Es.v ((f x).getD Es.z), .bool (f x).isSome]) w := by
  obtain ⟨D, hD, hm, hf⟩ := h
  obtain ⟨v, ps, hrun, hv⟩ := hD.look_ok Ks.K ht (Es.zero w) (Es.hR _ Es.hz) (Ks.hl x hx)
  rw [(hf x hx).2] at hv
  rw [hrun, (hf x hx).1, Es.inv _ _ _ hv]
theorem MapG.look1 (h : MapG Ks Es w b m f) (ht : P.underlying t = some (.map k e)) (x : κ) (hx : Ks.ok x) :
    Sem.run P (Instr.lookup t (.map (some b)) (Ks.v x) false) w = .ok (Es.v ((f x).getD Es.z)) w := by
  obtain ⟨D, hD, hm, hf⟩ := h
  obtain ⟨v, ps, hrun, hv⟩ := hD.lookup Ks.K ht (Es.zero w) (Es.hR _ Es.hz) (Ks.hl x hx)
  rw [(hf x hx).2] at hv
  rw [hrun, Es.inv _ _ _ hv]
theorem MapG.len (h : MapG Ks Es w b m f) (ht : P.underlying t = some (.map k e)) (ty : TypeId) : Sem.run P (Builtin.len_ #[t] ty #[.map (some b)]) w = .ok (.int .i64 m) w := by
  obtain ⟨D, hD, hm, hf⟩ := h
  rw [← hm]
  exact hD.len ht ty
theorem MapG.made (w : World) : MapG Ks Es (w.alloc (.map #[] 0)) w.heap.size 0 (fun _ => none) :=
  ⟨.map [], World.ownsMap_made w P _ _, rfl, fun x _ => ⟨rfl, rfl⟩⟩
theorem MapG.keep {w' : World} (h : MapG Ks Es w b m f) (hw : w'.heap[b]? = w.heap[b]?) : MapG Ks Es w' b m f := by
  obtain ⟨D, ⟨es, clock, hb, r⟩, hm, hf⟩ := h
  exact ⟨D, ⟨es, clock, hw.trans hb, r⟩, hm, hf⟩
theorem MapG.lt (h : MapG Ks Es w b m f) : b < w.heap.size := by
  obtain ⟨D, hD, _⟩ := h; exact hD.lt
theorem MapG.below {w' : World} (h : MapG Ks Es w b m f) (hB : Below w.heap.size w w') : MapG Ks Es w' b m f := h.keep (hB.block b h.lt)
theorem MapG.gr {F : Nat → Prop} {w' : World} (h : MapG Ks Es w b m f) (hg : Gr F w w') (hF : ¬ F b) : MapG Ks Es w' b m f := h.keep (hg.block b h.lt hF)
theorem MapG.congr (h : MapG Ks Es w b m f) {g : κ → Option α} (e : ∀ x, Ks.ok x → g x = f x) : MapG Ks Es w b m g := by
  obtain ⟨D, hD, hm, hf⟩ := h
  exact ⟨D, hD, hm, fun x hx => by rw [e x hx]; exact hf x hx⟩
theorem MapG.store [DecidableEq κ] (h : MapG Ks Es w b m f) (ht : P.underlying t = some (.map k e)) (hn : m < maxLen) (y : κ) (hy : Ks.ok y) (a : α) (ha : Es.gd a) :
    ∃ w', Sem.run P (Instr.mapUpdate t (.map (some b)) (Ks.v y) (Es.v a)) w = .ok () w' ∧ MapG Ks Es w' b (if (f y).isSome then m else m + 1) (fun x => if x = y then some a else f x) ∧ w.mapTurned w' b := by
  obtain ⟨D, hD, hm, hf⟩ := h
  obtain ⟨w', hrun, h1, h2⟩ := hD.store Ks.K ht hn (Ks.hl y hy) (Es.hR a ha)
  have hsz := Maps.size_put (k := Ks.l y) (hD.tidy Ks.K) (Es.d a)
  rw [(hf y hy).1, hm] at hsz
  refine ⟨w', hrun, ⟨_, by rw [← hsz]; exact owns_exact h1, hsz, fun x hx => ?_⟩, h2⟩
  by_cases e : x = y
  · subst e
    simp only [if_true]
    rw [Maps.atKey_put_same hD.isMap (Ks.K.key (Ks.hl x hx)), Maps.has_put_same hD.isMap (Ks.K.key (Ks.hl x hx))]
    exact ⟨rfl, rfl⟩
  · simp only [if_neg e]
    have hne : Ks.l x ≠ Ks.l y := fun h => e (Ks.inj x y hx hy h)
    rw [Maps.atKey_put_other hne, Maps.has_put_other hne]
    exact hf x hx
theorem MapG.drop [DecidableEq κ] (h : MapG Ks Es w b m f) (ht : P.underlying t = some (.map k e)) (y : κ) (hy : Ks.ok y) (ty : TypeId) :
    ∃ w', Sem.run P (Builtin.delete_ #[t, k] ty #[.map (some b), Ks.v y]) w = .ok (.tuple #[]) w' ∧ MapG Ks Es w' b (if (f y).isSome then m - 1 else m) (fun x => if x = y then none else f x) ∧ w.mapTurned w' b := by
  obtain ⟨D, hD, hm, hf⟩ := h
  obtain ⟨w', hrun, h1, h2⟩ := hD.drop Ks.K ht (Ks.hl y hy) ty
  have hsz := Maps.size_del (k := Ks.l y) (hD.tidy Ks.K)
  rw [(hf y hy).1, hm] at hsz
  have hsz' : Maps.size (D.del (Ks.l y)) = if (f y).isSome = true then m - 1 else m := by
    split at hsz <;> rename_i hc
    · rw [if_pos hc]; omega
    · rw [if_neg hc]; omega
  refine ⟨w', hrun, ⟨_, by rw [← hsz']; exact owns_exact h1, hsz', fun x hx => ?_⟩, h2⟩
  by_cases e : x = y
  · subst e
    simp only [if_true]
    rw [Maps.atKey_del_same, Maps.has_del_same]
    exact ⟨rfl, rfl⟩
  · simp only [if_neg e]
    have hne : Ks.l x ≠ Ks.l y := fun h => e (Ks.inj x y hx hy h)
    rw [Maps.atKey_del_other hne, Maps.has_del_other hne]
    exact hf x hx
theorem Gr.of_turned {w' : World} {b : Nat} (h : w.mapTurned w' b) : Gr (fun x => x = b) w w' := (Gr.of_grown h.grown).mono (fun x hx => .inl (by simpa using hx.symm))
end

/-! ### elements -/
section
variable {P : Program}
noncomputable def boolEl {e : TypeId} (he : P.underlying e = some .bool) (hz : ∀ w, (zeroValue e).run P w = .ok (.bool false) w) : ElS P e Bool where
  R := plainElem P e
  v := .bool
  d := fun x => .lit (.bool x)
  gd := fun _ => True
  z := false
  hR := fun a _ => plainElem_bool he a
  hz := trivial
  inv := fun u a ps h => by
    unfold plainElem at h
    rw [he] at h
    cases u <;> simp at h
    rw [h.1]
  zero := hz
end
end Go.Proofs.Ytoimbhdjhhmonaa

/- Program independent: loops over maps keyed by any type of keys (MapG): the start, the step. -/
namespace Go.Proofs.Ytoimbhdjhhmonaa
open Go.RowKit Go

section
variable {P : Program} {k e : TypeId} {κ α : Type}
/-- A loop over a map: 'left' tells which keys are still to come. -/
def RgG (Ks : KeyS P k κ) (Es : ElS P e α) (w : World) (b r m : Nat) (f : κ → Option α) (left : κ → Bool) (cnt : Nat) : Prop :=
  ∃ (D : DataW Unit) (L : Lit → Bool), w.ranges P k Es.R b r m D L cnt ∧ Maps.size D = m ∧ (∀ x : κ, Ks.ok x → Maps.has D (Ks.l x) = (f x).isSome ∧ D.atKey (Ks.l x) (Es.d Es.z) = Es.d ((f x).getD Es.z)) ∧ ∀ x, Ks.ok x → L (Ks.l x) = left x
variable {Ks : KeyS P k κ} {Es : ElS P e α} {w : World} {b r m : Nat} {f : κ → Option α} {left : κ → Bool} {cnt : Nat}
theorem RgG.left_eq (h : RgG Ks Es w b r m f left cnt) : w.rangeLeft b r = cnt := by
  obtain ⟨D, L, h, -⟩ := h
  exact h.left_eq
theorem RgG.lt (h : RgG Ks Es w b r m f left cnt) : r < w.heap.size := by
  obtain ⟨D, L, h, -⟩ := h
  exact h.lt
theorem RgG.map (h : RgG Ks Es w b r m f left cnt) : MapG Ks Es w b m f := by
  obtain ⟨D, L, h, h0, h1, h2⟩ := h
  exact ⟨D, h.owns, h0, h1⟩
theorem RgG.kept {w' : World} {row : Option Nat} (h : RgG Ks Es w b r m f left cnt) (hg : w.grownBy w' row) (hb' : some b ≠ row) (hr' : some r ≠ row) : RgG Ks Es w' b r m f left cnt := by
  obtain ⟨D, L, h, h0, h1, h2⟩ := h
  exact ⟨D, L, h.kept hg hb' hr', h0, h1, h2⟩
theorem RgG.gr {F : Nat → Prop} {w' : World} (h : RgG Ks Es w b r m f left cnt) (hg : Gr F w w') (hb : ¬ F b) (hr : ¬ F r) : RgG Ks Es w' b r m f left cnt := by
  obtain ⟨D, L, ⟨es, clock, since, seen, c0, hb0, F0, hs, rfl, hr0, hold, hc, h1, h2, h3⟩, h0, h4, h5⟩ := h
  have hbl : b < w.heap.size := blk_lt hb0
  have hrl : r < w.heap.size := blk_lt hr0
  exact ⟨_, L, ⟨es, clock, since, seen, c0, (hg.block b hbl hb).trans hb0, F0, hs, rfl, (hg.block r hrl hr).trans hr0, hold, hc, h1, h2, h3⟩, h0, h4, h5⟩
theorem RgG.below {w' : World} (h : RgG Ks Es w b r m f left cnt) (hB : Below w.heap.size w w') : RgG Ks Es w' b r m f left cnt :=
  h.gr (Gr.of_below (F := fun _ => False) hB) (fun h => h) (fun h => h)
theorem RgG.congr (h : RgG Ks Es w b r m f left cnt) {left' : κ → Bool} (e : ∀ x, Ks.ok x → left' x = left x) : RgG Ks Es w b r m f left' cnt := by
  obtain ⟨D, L, h, h0, h1, h2⟩ := h
  exact ⟨D, L, h, h0, h1, fun x hx => (h2 x hx).trans (e x hx).symm⟩

variable {ops : Array Oper} {rest : List Oper} {o : Oper} {a : Act} {Q : Exit → Act → World → Prop} {t : TypeId}
/-- 'range m'. -/
theorem wpList_rangeG (hg : o.guard = none) (m0 : Operand) (hop : o.op = Op.range t m0) (ht : P.underlying t = some (.map k e)) (hm : a.eval m0 = .map (some b)) (h : MapG Ks Es w b m f)
    (hK : ∀ w', RgG Ks Es w' b w.heap.size m f (fun x => (f x).isSome) m → w.grownBy w' none → w'.heap.size = w.heap.size + 1 → wpList P ops Q rest (a.put o.dst (.pointer (some ⟨w.heap.size, 0, none⟩))) w') :
    wpList P ops Q (o :: rest) a w := by
  obtain ⟨D, hD, hsz, hf⟩ := h
  refine wpList_range_own w hg m0 t hop k e Ks.K ht Es.R b m D hm hD ?_
  intro w' h1 h2 h3
  rw [hsz] at h1
  exact hK w' ⟨D, _, h1, hsz, hf, fun x hx => (hf x hx).1⟩ h2 h3
theorem ranges_hasG {R : Value → Option (DataW Unit × List MemPlace)} {n : Nat} {D : DataW Unit} {L : Lit → Bool} (K : Maps.Keyed P k) (h : w.ranges P k R b r n D L cnt) (kl : Lit) (hl : L kl = true) : Maps.has D kl = true := by
  obtain ⟨es, clock, since, seen, c0, hb, F, hs, rfl, hr, hold, hc, h1, h2, h3⟩ := h
  obtain ⟨x, hx, rfl⟩ := h2 kl hl
  obtain ⟨y, hy⟩ := F.reads x hx
  exact List.any_eq_true.2 ⟨WideElems.rg P k R x, mem_sorted.2 (List.mem_map.2 ⟨x, hx, rfl⟩), WideAt.sameKey_self (by rw [WideElems.rg_of hy]; exact K.key (WideElems.rd_key hy))⟩
/-- The step. -/
theorem wpList_nextG [DecidableEq κ] (hg : o.guard = none) (it : Operand) (hop : o.op = Op.next it false) (hit : a.eval it = .pointer (some ⟨r, 0, none⟩)) (h : RgG Ks Es w b r m f left cnt)
    (hinv : ∀ key kl, keyOf P k key = some kl → ∃ x, Ks.ok x ∧ key = Ks.v x ∧ kl = Ks.l x) (hvi : ∀ x y, Ks.v x = Ks.v y → x = y) (hev : ∀ u y, Es.R u = some y → ∃ c, u = Es.v c)
    (hDone : (∀ x, Ks.ok x → left x = false) → wpList P ops Q rest (a.put o.dst (.tuple #[.bool false])) w)
    (hMore : ∀ (x : κ) (c : α) (w' : World) (cnt' : Nat), Ks.ok x → f x = some c → left x = true → RgG Ks Es w' b r m f (fun z => left z && !decide (z = x)) cnt' → cnt' < cnt →
      w.grownBy w' (some r) → w'.heap.size = w.heap.size → Sem.run P (Instr.entry (.pointer (some ⟨r, 0, none⟩))) w' = .ok (.tuple #[Ks.v x, Es.v c]) w' → wpList P ops Q rest (a.put o.dst (.tuple #[.bool true, Ks.v x, Es.v c])) w') :
    wpList P ops Q (o :: rest) a w := by
  obtain ⟨D, L, h, h0, hf, hl⟩ := h
  refine wpList_next_ranges w hg it hop k Ks.K Es.R Ks.v Es.v (fun key kl hk => by obtain ⟨x, -, rfl, -⟩ := hinv key kl hk; exact ⟨x, rfl⟩) hev b r m D L cnt hit h (fun _ hn => hDone fun x hx => by rw [← hl x hx]; exact hn _) ?_
  intro x c kl y w' cnt' hkey hL hR hat hrg hlt hgr hsz hen
  obtain ⟨x', hok, hv, rfl⟩ := hinv _ _ hkey
  obtain rfl := hvi _ _ hv
  have hh := ranges_hasG Ks.K h _ hL
  have hfx := hf x hok
  rw [hh] at hfx
  obtain ⟨d, hd⟩ := Option.isSome_iff_exists.1 hfx.1.symm
  have hy : y.1 = Es.d d := by rw [← hat (Es.d Es.z), hfx.2, hd]; rfl
  have hvd : Es.v c = Es.v d := Es.inv _ d y.2 (by rw [hR, ← hy])
  rw [hvd] at hen ⊢
  refine hMore x d w' cnt' hok hd (by rw [← hl x hok]; exact hL) ⟨D, _, hrg, h0, hf, fun z hz => ?_⟩ hlt hgr hsz hen
  rw [hl z hz]
  by_cases e : z = x
  · subst e
    rw [WideAt.sameKey_self (Ks.K.key (Ks.hl z hz))]
    simp
  · rw [Maps.sameKey_ne (fun h' => e (Ks.inj z x hz hok h'))]
    simp [e]
end
end Go.Proofs.Ytoimbhdjhhmonaa

/- cmp.Compare, cmp.Or at int. -/
set_option linter.unusedSimpArgs false
namespace Go.Proofs.Ytoimbhdjhhmonaa
open Go.RowKit Go

def cmpI (a b : Int) : Int := if a < b then -1 else if b < a then 1 else 0
theorem nanI_sum (w : World) (a : Int) : Calls Try.prog 71 #[.int .i64 a] w fun e w' => e = .returned (.bool false) ∧ w' = w := by
  have h : (a != a) = false := by simp
  go_enter Try.func71, Try.ntmps71
  go_wp2
  go_ret
  exact ⟨rfl, rfl⟩
theorem compareI_sum (w : World) (a b : Int) : Calls Try.prog 59 #[.int .i64 a, .int .i64 b] w fun e w' => e = .returned (.int .i64 (cmpI a b)) ∧ w' = w := by
  unfold cmpI
  by_cases h1 : a < b
  · rw [if_pos h1]
    go_enter Try.func59, Try.ntmps59
    go_wp2_with (go_at_call 71; refine (nanI_sum _ _).mono ?_; rintro e w1 ⟨rfl, hw⟩; subst hw)
    all_goals
      go_ret
      exact ⟨rfl, rfl⟩
  · rw [if_neg h1]
    have h1' : ¬ a < b := h1
    by_cases h2 : b < a
    · rw [if_pos h2]
      have d1 : decide (a < b) = false := decide_eq_false h1
      go_enter Try.func59, Try.ntmps59
      go_wp2_with (go_at_call 71; refine (nanI_sum _ _).mono ?_; rintro e w1 ⟨rfl, hw⟩; subst hw)
      all_goals
        go_ret
        exact ⟨rfl, rfl⟩
    · rw [if_neg h2]
      have d1 : decide (a < b) = false := decide_eq_false h1
      have d2 : decide (b < a) = false := decide_eq_false h2
      go_enter Try.func59, Try.ntmps59
      go_wp2_with (go_at_call 71; refine (nanI_sum _ _).mono ?_; rintro e w1 ⟨rfl, hw⟩; subst hw)
      all_goals
        go_ret
        exact ⟨rfl, rfl⟩
theorem compareB (w : World) (a b : Int) : Calls Try.prog 59 #[.int .i64 a, .int .i64 b] w fun e w' => e = .returned (.int .i64 (cmpI a b)) ∧ Below w.heap.size w w' :=
  (compareI_sum w a b).mono fun _ _ ⟨h1, h2⟩ => ⟨h1, by rw [h2]; exact Below.refl _ _⟩
end Go.Proofs.Ytoimbhdjhhmonaa
