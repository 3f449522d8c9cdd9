/- Layer 47, plain: cells, their order, lists of cells in order. -/
import Derived.Test.YtoimbhdjhhmonaaCmpI
import Derived.Sort.Defs
import Derived.Test.YtoimbhdjhhmonaaProg
import Derived.DeepKeys5
import Derived.Great.Walk
import Derived.Great.BuildSlice
import Derived.Lib.QuietBelow
namespace Go.Proofs.Ytoimbhdjhhmonaa
open Go.RowKit Go

/-- A cell. -/
structure C4 where
  st : Int
  en : Int
  ot : Int
  pe : Int
deriving DecidableEq
instance : Inhabited C4 := ⟨⟨0, 0, 0, 0⟩⟩
def C4.ok (c : C4) : Prop := (Lit.int .i64 c.st).wf = true ∧ (Lit.int .i64 c.en).wf = true ∧ (Lit.int .i64 c.ot).wf = true ∧ (Lit.int .i64 c.pe).wf = true
def C4.cs (c : C4) : List Value := [.int .i64 c.st, .int .i64 c.en, .int .i64 c.ot, .int .i64 c.pe]
def C4.v (c : C4) : Value := .agg #[.int .i64 c.st, .int .i64 c.en, .int .i64 c.ot, .int .i64 c.pe]
abbrev cellT : Ty := .pr (.int .i64) (.pr (.int .i64) (.pr (.int .i64) (.pr (.int .i64) .un)))
def c4 (x : cellT.den) : C4 := ⟨x.1, x.2.1, x.2.2.1, x.2.2.2.1⟩
def C4.d (c : C4) : cellT.den := (c.st, c.en, c.ot, c.pe, ())
theorem d_c4 (x : cellT.den) : (c4 x).d = x := by obtain ⟨a, b, c, d, ⟨⟩⟩ := x; rfl
theorem cell_rd {S : Nat → Prop} {w : World} {c : C4} (h : c.ok) : Rd cellT S w c.cs c.d :=
  ⟨[_], _, rfl, ⟨rfl, h.1⟩, [_], _, rfl, ⟨rfl, h.2.1⟩, [_], _, rfl, ⟨rfl, h.2.2.1⟩, [_], _, rfl, ⟨rfl, h.2.2.2⟩, rfl⟩
theorem cell_at {S : Nat → Prop} {w : World} {a : Option Addr} {len cap : Nat} {l : List C4} (h : Rd (.sl cellT) S w [.slice a len cap] (l.map C4.d)) (i : Nat) (hi : i < l.length) :
    ∃ b off, a = some ⟨b, off, none⟩ ∧ S b ∧ w.cell? ⟨b, off + i * 4, none⟩ = some (.int .i64 l[i].st) ∧ w.cell? ⟨b, off + i * 4 + 1, none⟩ = some (.int .i64 l[i].en) ∧ w.cell? ⟨b, off + i * 4 + 2, none⟩ = some (.int .i64 l[i].ot) ∧ w.cell? ⟨b, off + i * 4 + 3, none⟩ = some (.int .i64 l[i].pe) ∧ l[i].ok := by
  obtain ⟨hl, -, -, vs, hr, hor⟩ := h.sl_flat
  obtain ⟨c, hc, hcc, hrd⟩ := hr.at_ i (by rw [List.length_map]; exact hi)
  rw [List.getElem_map] at hrd
  rcases hor with h0 | ⟨b, off, rfl, hb, hcell⟩
  · rw [List.length_map] at hl; omega
  · generalize l[i] = s at hrd ⊢
    obtain ⟨s1, s2, s3, s4⟩ := s
    obtain ⟨d1, r1, rfl, ⟨rfl, h1⟩, d2, r2, rfl, ⟨rfl, h2⟩, d3, r3, rfl, ⟨rfl, h3⟩, d4, r4, rfl, ⟨rfl, h4⟩, rfl⟩ := hrd
    refine ⟨b, off, rfl, hb, ?_, ?_, ?_, ?_, ⟨h1, h2, h3, h4⟩⟩
    · rw [show off + i * 4 = off + (i * cellT.sz + 0) from rfl]; exact hcell _ _ (hcc 0 _ rfl)
    · rw [show off + i * 4 + 1 = off + (i * cellT.sz + 1) from rfl]; exact hcell _ _ (hcc 1 _ rfl)
    · rw [show off + i * 4 + 2 = off + (i * cellT.sz + 2) from rfl]; exact hcell _ _ (hcc 2 _ rfl)
    · rw [show off + i * 4 + 3 = off + (i * cellT.sz + 3) from rfl]; exact hcell _ _ (hcc 3 _ rfl)
/-! ### The order -/
def ltC (a b : C4) : Prop := a.st < b.st ∨ (a.st = b.st ∧ (a.pe < b.pe ∨ (a.pe = b.pe ∧ (a.en < b.en ∨ (a.en = b.en ∧ a.ot < b.ot)))))
instance (a b : C4) : Decidable (ltC a b) := by unfold ltC; infer_instance
def orF (a b c d : Int) : Int := if a = 0 then (if b = 0 then (if c = 0 then d else c) else b) else a
def cfC (a b : C4) : Int := orF (cmpI a.st b.st) (cmpI a.pe b.pe) (cmpI a.en b.en) (cmpI a.ot b.ot)
theorem cfC_lt (a b : C4) : cfC a b < 0 ↔ ltC a b := by
  unfold cfC orF cmpI ltC
  repeat' split
  all_goals omega
theorem cfC_zero (a b : C4) : cfC a b = 0 ↔ a = b := by
  obtain ⟨a1, a2, a3, a4⟩ := a
  obtain ⟨b1, b2, b3, b4⟩ := b
  unfold cfC orF cmpI
  simp only [C4.mk.injEq]
  repeat' split
  all_goals omega
theorem ltC_irr (a : C4) : ¬ ltC a a := by unfold ltC; omega
theorem ltC_trans {a b c : C4} (h1 : ltC a b) (h2 : ltC b c) : ltC a c := by unfold ltC at *; omega
theorem ltC_tot (a b : C4) : ltC a b ∨ a = b ∨ ltC b a := by
  obtain ⟨a1, a2, a3, a4⟩ := a
  obtain ⟨b1, b2, b3, b4⟩ := b
  unfold ltC
  simp only [C4.mk.injEq]
  omega
theorem ltC_ne {a b : C4} (h : ltC a b) : a ≠ b := fun e => ltC_irr b (e ▸ h)
theorem ltC_asym {a b : C4} (h : ltC a b) : ¬ ltC b a := fun h2 => ltC_irr a (ltC_trans h h2)
/-! ### Lists in order -/
abbrev Srt (l : List C4) : Prop := l.Pairwise ltC
theorem Srt.nodup {l : List C4} (h : Srt l) : l.Nodup := h.imp fun {a b} hl => ltC_ne hl
/-- Two lists in order with the same members are the same. -/
theorem Srt.ext {a b : List C4} (ha : Srt a) (hb : Srt b) (h : ∀ x, x ∈ a ↔ x ∈ b) : a = b := by
  have hp : a.Perm b := (List.perm_ext_iff_of_nodup ha.nodup hb.nodup).2 h
  exact hp.eq_of_pairwise (le := ltC) (fun x y _ _ h1 h2 => absurd h2 (ltC_asym h1)) ha hb
/-- A list in order with a further cell. -/
def insC (l : List C4) (c : C4) : List C4 := if c ∈ l then l else l.takeWhile (fun x => decide (ltC x c)) ++ c :: l.dropWhile (fun x => decide (ltC x c))
theorem mem_insC {l : List C4} {c x : C4} : x ∈ insC l c ↔ x = c ∨ x ∈ l := by
  unfold insC
  split
  · rename_i h
    exact ⟨.inr, fun h' => h'.elim (fun e => e ▸ h) id⟩
  · rw [List.mem_append, List.mem_cons]
    have h : x ∈ l ↔ x ∈ l.takeWhile (fun x => decide (ltC x c)) ∨ x ∈ l.dropWhile (fun x => decide (ltC x c)) := by
      rw [← List.mem_append, List.takeWhile_append_dropWhile]
    rw [h]
    constructor
    · rintro (h | h | h)
      · exact .inr (.inl h)
      · exact .inl h
      · exact .inr (.inr h)
    · rintro (h | h | h)
      · exact .inr (.inl h)
      · exact .inl h
      · exact .inr (.inr h)
theorem dropW_ge {c : C4} : ∀ {l : List C4}, Srt l → ∀ x ∈ l.dropWhile (fun x => decide (ltC x c)), ¬ ltC x c
  | [], _, x, h => by simp at h
  | a :: l, hs, x, h => by
    by_cases ha : ltC a c
    · rw [List.dropWhile_cons, if_pos (decide_eq_true ha)] at h
      exact dropW_ge (List.pairwise_cons.1 hs).2 x h
    · rw [List.dropWhile_cons, if_neg (by simp [ha])] at h
      rcases List.mem_cons.1 h with rfl | h
      · exact ha
      · exact fun hx => ha (ltC_trans ((List.pairwise_cons.1 hs).1 x h) hx)
theorem Srt.ins {l : List C4} (h : Srt l) (c : C4) : Srt (insC l c) := by
  unfold insC
  split
  · exact h
  · rename_i hc
    refine List.pairwise_append.2 ⟨h.sublist (List.takeWhile_sublist _), List.pairwise_cons.2 ⟨fun x hx => ?_, h.sublist (List.dropWhile_sublist _)⟩, fun x hx y hy => ?_⟩
    · have h1 := dropW_ge h x hx
      rcases ltC_tot c x with h2 | h2 | h2
      · exact h2
      · exact absurd (h2 ▸ (List.dropWhile_sublist _).subset hx) hc
      · exact absurd h2 h1
    · have hxc : ltC x c := by
        have h0 := List.all_takeWhile (p := fun x => decide (ltC x c)) (l := l)
        exact of_decide_eq_true (List.all_eq_true.1 h0 x hx)
      rcases List.mem_cons.1 hy with rfl | hy
      · exact hxc
      · have h1 := dropW_ge h y hy
        rcases ltC_tot c y with h2 | h2 | h2
        · exact ltC_trans hxc h2
        · exact absurd (h2 ▸ (List.dropWhile_sublist _).subset hy) hc
        · exact absurd h2 h1
theorem insC_len (l : List C4) (c : C4) : (insC l c).length ≤ l.length + 1 := by
  unfold insC
  split
  · omega
  · have h := congrArg List.length (List.takeWhile_append_dropWhile (p := fun x => decide (ltC x c)) (l := l))
    rw [List.length_append] at h
    rw [List.length_append, List.length_cons]
    omega
/-- A list in order, each once. -/
def srtC (l : List C4) : List C4 := l.foldl insC []
theorem srtC_snoc (l : List C4) (c : C4) : srtC (l ++ [c]) = insC (srtC l) c := by unfold srtC; rw [List.foldl_append]; rfl
theorem foldl_ins_mem (l : List C4) : ∀ (a : List C4) (x : C4), x ∈ l.foldl insC a ↔ x ∈ a ∨ x ∈ l := by
  induction l with
  | nil => intro a x; simp
  | cons c l ih =>
    intro a x
    rw [List.foldl_cons, ih, mem_insC, List.mem_cons]
    constructor
    · rintro ((h | h) | h)
      · exact .inr (.inl h)
      · exact .inl h
      · exact .inr (.inr h)
    · rintro (h | h | h)
      · exact .inl (.inr h)
      · exact .inl (.inl h)
      · exact .inr h
theorem mem_srtC {l : List C4} {x : C4} : x ∈ srtC l ↔ x ∈ l := by
  unfold srtC
  rw [foldl_ins_mem]
  simp
theorem srt_foldl (l : List C4) : ∀ a : List C4, Srt a → Srt (l.foldl insC a) := by
  induction l with
  | nil => exact fun a h => h
  | cons c l ih => exact fun a h => ih _ (h.ins c)
theorem srt_srtC (l : List C4) : Srt (srtC l) := srt_foldl l [] .nil
theorem srtC_len (l : List C4) : (srtC l).length ≤ l.length := by
  have h : ∀ (l a : List C4), (l.foldl insC a).length ≤ a.length + l.length := by
    intro l
    induction l with
    | nil => intro a; simp
    | cons c l ih =>
      intro a
      rw [List.foldl_cons, List.length_cons]
      have h1 := ih (insC a c)
      have h2 := insC_len a c
      omega
  have := h l []
  rw [List.length_nil, Nat.zero_add] at this
  exact this
theorem srtC_eq {l s : List C4} (hs : Srt s) (h : ∀ x, x ∈ s ↔ x ∈ l) : srtC l = s := (srt_srtC l).ext hs fun x => by rw [mem_srtC, h]
end Go.Proofs.Ytoimbhdjhhmonaa

/- A store into a map, in a drawn region. -/
namespace Go.Proofs.Ytoimbhdjhhmonaa
open Go.RowKit Go
theorem wp_mapset1 {P : Program} {o : Oper} {a : Act} {w w' : World} {K : Act → World → Prop} {Q : Exit → Act → World → Prop} (t : TypeId) (x y z : Operand) (ho : o.op = .mapUpdate t x y z) {m k v : Value}
    (hx : a.eval x = m) (hy : a.eval y = k) (hz : a.eval z = v) (hrun : (Instr.mapUpdate t m k v).run P w = .ok () w') (h : K (a.put o.dst undef) w') : o.wp P a w K Q := by
  unfold Oper.wp execOp
  simp only [ho, hx, hy, hz, Sem.run_bind, Sem.run_pure, Result.andThen_ok, hrun]
  exact h
theorem below_setRow {n p : Nat} {w W : World} (h : Below n w W) (hp : n ≤ p) (cs : Array Value) : Below n w (W.setRow p cs) :=
  ⟨h.os, h.tape, h.output, by simpa using h.size, fun k hk => (setRow_other W p k _ (by omega)).trans (h.block k hk)⟩
theorem gr_setRow (w : World) (p : Nat) (cs : Array Value) : Gr (fun b => b = p) w (w.setRow p cs) := ⟨rfl, rfl, rfl, by simp, fun k hk hf => setRow_other _ _ _ _ hf⟩
end Go.Proofs.Ytoimbhdjhhmonaa

/- Layer 47: cells as keys of maps; the graph's maps. -/
set_option linter.unusedSimpArgs false
set_option maxRecDepth 50000
namespace Go.Proofs.Ytoimbhdjhhmonaa
open Go.RowKit Go

theorem laidOut47 : laidOutB Try.prog = true := by kernel_rfl
theorem rowC : (38 : TypeId) < Try.prog.types.size := of_decide_eq_true (by kernel_rfl)
theorem wideC : (match Try.prog.underlying 38 with | some (.array _ _) | some (.struct _) => true | _ => false) = true := by kernel_rfl
theorem lawC : WideMaps.KeyLaw Try.prog 38 := deep_law_laid laidOut47 (m := 2) (by omega) rowC (by kernel_rfl) wideC
theorem tiledC : Try.prog.tiled 2 38 = true := by kernel_rfl
theorem C4.lit (x : C4) (h : x.ok) : ∃ l, keyOf Try.prog 38 x.v = some l := by
  obtain ⟨a, b, c, d⟩ := x
  obtain ⟨h1, h2, h3, h4⟩ := h
  have hkt : Try.prog.keyType 38 = true := by kernel_rfl
  have hco : Try.prog.cellsOf 38 = 4 := by kernel_rfl
  have hc3 : Try.prog.cellsOf 3 = 1 := by kernel_rfl
  have hfm : (C4.v ⟨a, b, c, d⟩).formed Try.prog 38 = true := by simp [C4.v, Value.formed, Try.underlying38, hco]
  obtain ⟨n, hn⟩ : ∃ n, Try.prog.types.size = n + 1 := ⟨Try.prog.types.size - 1, by have : 0 < Try.prog.types.size := of_decide_eq_true (by kernel_rfl); omega⟩
  refine ⟨.string (keyBytes [.int .i64 a, .int .i64 b, .int .i64 c, .int .i64 d]), ?_⟩
  unfold keyOf
  simp only [Try.underlying38, hkt, hfm, Bool.and_self, if_true, hn]
  simp only [C4.v, Value.cells, Program.keyLits, Try.underlying38, Try.underlying3, hco, hc3]
  simp at h1 h2 h3 h4
  simp [Program.keyLits, Try.underlying3, hc3, h1, h2, h3, h4]
noncomputable def C4.l (x : C4) : Lit := (keyOf Try.prog 38 x.v).getD (.bool false)
theorem C4.l_eq (x : C4) (h : x.ok) : keyOf Try.prog 38 x.v = some x.l := by
  obtain ⟨l, hl⟩ := x.lit h
  rw [C4.l, hl]; rfl
theorem C4.v_inj {x y : C4} (h : x.v = y.v) : x = y := by
  obtain ⟨a, b, c, d⟩ := x
  obtain ⟨a', b', c', d'⟩ := y
  simp only [C4.v, Value.agg.injEq] at h
  simpa using h
noncomputable def cellK : KeyS Try.prog 38 C4 where
  K := Maps.Keyed.of_law lawC
  v := C4.v
  ok := C4.ok
  l := C4.l
  hl := C4.l_eq
  inj := fun x y hx hy h => by
    have h1 := x.l_eq hx
    rw [h] at h1
    exact C4.v_inj (keyOf_inj_deep tiledC wideC h1 (y.l_eq hy))
/-- What reads as a key is a cell's value. -/
theorem cell_inv {key : Value} {kl : Lit} (h : keyOf Try.prog 38 key = some kl) : ∃ x : C4, x.ok ∧ key = x.v ∧ kl = x.l := by
  have hco : Try.prog.cellsOf 38 = 4 := by kernel_rfl
  have hc3 : Try.prog.cellsOf 3 = 1 := by kernel_rfl
  obtain ⟨xs, L, rfl, h1, e1⟩ := keyOf_top wideC h
  obtain ⟨n, hn⟩ : ∃ n, Try.prog.types.size = n + 1 := ⟨Try.prog.types.size - 1, by have : 0 < Try.prog.types.size := of_decide_eq_true (by kernel_rfl); omega⟩
  rw [hn] at h1
  have hk : ∃ x : C4, x.ok ∧ Value.agg xs = x.v := by
    obtain ⟨l⟩ := xs
    simp only [Program.keyLits, Try.underlying38, hco, hc3] at h1
    split at h1
    · rename_i hc
      obtain ⟨hlen, -⟩ := hc
      match l, hlen with
      | [a, b, c, d], _ =>
        simp [Program.keyLits, Try.underlying3, hc3] at h1
        cases a <;> (try (simp at h1; done))
        simp only at h1
        split at h1
        · rename_i hs
          obtain ⟨rfl, ha⟩ := hs
          cases b <;> (try (simp at h1; done))
          simp only at h1
          split at h1
          · rename_i hs
            obtain ⟨rfl, hb⟩ := hs
            cases c <;> (try (simp at h1; done))
            simp only at h1
            split at h1
            · rename_i hs
              obtain ⟨rfl, hc'⟩ := hs
              cases d <;> (try (simp at h1; done))
              simp only at h1
              split at h1
              · rename_i hs
                obtain ⟨rfl, hd⟩ := hs
                exact ⟨⟨_, _, _, _⟩, ⟨ha, hb, hc', hd⟩, rfl⟩
              · simp at h1
            · simp at h1
          · simp at h1
        · simp at h1
    · cases h1
  obtain ⟨x, hx, hv⟩ := hk
  refine ⟨x, hx, hv, ?_⟩
  have := x.l_eq hx
  rw [← hv, h] at this
  exact (Option.some.inj this)
noncomputable def boolE : ElS Try.prog 4 Bool := boolEl Try.underlying4 (fun _ => by kernel_rfl)
theorem boolE_val : ∀ u y, boolE.R u = some y → ∃ c, u = boolE.v c := by
  intro u y h
  unfold boolE boolEl at h ⊢
  simp only at h ⊢
  unfold plainElem at h
  rw [Try.underlying4] at h
  cases u <;> simp at h
  exact ⟨_, rfl⟩
/-! ### maps of maps, of slices -/
def mapR : Value → Option (DataW Unit × List MemPlace)
  | .map none => some (.nil, [])
  | .map (some b) => some (.lit (.int .u64 b), [])
  | _ => none
def mapD : Option Nat → DataW Unit
  | none => .nil
  | some b => .lit (.int .u64 b)
noncomputable def mapE : ElS Try.prog 57 (Option Nat) where
  R := mapR
  v := .map
  d := mapD
  gd := fun _ => True
  z := none
  hR := fun a _ => by cases a <;> rfl
  hz := trivial
  inv := fun u a ps h => by
    unfold mapR at h
    split at h
    · cases a with
      | none => rfl
      | some b => simp [mapD] at h
    · cases a with
      | none => simp [mapD] at h
      | some b =>
        simp [mapD] at h
        rw [show _ = b from Int.ofNat.inj h.1]
    · cases h
  zero := fun _ => by kernel_rfl
theorem mapE_val : ∀ u y, mapE.R u = some y → ∃ c, u = mapE.v c := by
  intro u y h
  change mapR u = some y at h
  unfold mapR at h
  split at h
  · exact ⟨none, rfl⟩
  · exact ⟨some _, rfl⟩
  · cases h
/-- A slice as an element of a map. -/
structure SlV where
  a : Option (Nat × Nat)
  l : Nat
  c : Nat
def SlV.v (s : SlV) : Value := .slice (s.a.map fun x => ⟨x.1, x.2, none⟩) s.l s.c
def slR : Value → Option (DataW Unit × List MemPlace)
  | .slice none l c => some (.agg [.lit (.int .u64 l), .lit (.int .u64 c)], [])
  | .slice (some ⟨b, o, none⟩) l c => some (.agg [.lit (.int .u64 b), .lit (.int .u64 o), .lit (.int .u64 l), .lit (.int .u64 c)], [])
  | _ => none
def SlV.dd : SlV → DataW Unit
  | ⟨none, l, c⟩ => .agg [.lit (.int .u64 l), .lit (.int .u64 c)]
  | ⟨some (b, o), l, c⟩ => .agg [.lit (.int .u64 b), .lit (.int .u64 o), .lit (.int .u64 l), .lit (.int .u64 c)]
noncomputable def slE : ElS Try.prog 23 SlV where
  R := slR
  v := SlV.v
  d := SlV.dd
  gd := fun _ => True
  z := ⟨none, 0, 0⟩
  hR := fun s _ => by obtain ⟨_ | ⟨b, o⟩, l, c⟩ := s <;> rfl
  hz := trivial
  inv := fun u s ps h => by
    obtain ⟨a, l, c⟩ := s
    unfold slR at h
    split at h
    · rcases a with _ | ⟨b, o⟩
      · simp [SlV.dd] at h
        obtain ⟨⟨h1, h2⟩, -⟩ := h
        have h1 := Int.ofNat.inj h1
        have h2 := Int.ofNat.inj h2
        subst h1 h2
        rfl
      · simp [SlV.dd] at h
    · rcases a with _ | ⟨b, o⟩
      · simp [SlV.dd] at h
      · simp [SlV.dd] at h
        obtain ⟨⟨h1, h2, h3, h4⟩, -⟩ := h
        have h1 := Int.ofNat.inj h1
        have h2 := Int.ofNat.inj h2
        have h3 := Int.ofNat.inj h3
        have h4 := Int.ofNat.inj h4
        subst h1 h2 h3 h4
        rfl
    · cases h
  zero := fun _ => by kernel_rfl
theorem slE_val : ∀ u y, slE.R u = some y → ∃ c, u = slE.v c := by
  intro u y h
  change slR u = some y at h
  unfold slR at h
  split at h
  · exact ⟨⟨none, _, _⟩, rfl⟩
  · exact ⟨⟨some (_, _), _, _⟩, rfl⟩
  · cases h
/-- A map without keys has length 0, and the other way round. -/
theorem MapG.zero_iff {α : Type} {e : TypeId} {Es : ElS Try.prog e α} {w : World} {b m : Nat} {f : C4 → Option α} (h : MapG cellK Es w b m f) : m = 0 ↔ ∀ x : C4, x.ok → f x = none := by
  obtain ⟨D, ⟨es, clock, hb, F, hs, rfl⟩, hm, hf⟩ := h
  simp [Maps.size, length_sorted] at hm
  constructor
  · intro h0 x hx
    have h1 := (hf x hx).1
    cases hfx : f x with
    | none => rfl
    | some d =>
      rw [hfx] at h1
      obtain ⟨y, hy, -⟩ := List.any_eq_true.1 h1
      have h2 := List.mem_map.1 (mem_sorted.1 hy)
      obtain ⟨z, hz, -⟩ := h2
      have h3 : es.size = 0 := by omega
      have h4 : es = #[] := Array.eq_empty_of_size_eq_zero h3
      rw [h4] at hz
      simp at hz
  · intro h0
    rcases Nat.eq_zero_or_pos m with h1 | h1
    · exact h1
    · have h2 : 0 < es.toList.length := by simpa using (by omega : 0 < es.size)
      have hx : es.toList[0] ∈ es.toList := List.getElem_mem h2
      generalize es.toList[0] = x at hx
      obtain ⟨y, hy⟩ := F.reads x hx
      obtain ⟨c, hc, -, hl⟩ := cell_inv (WideElems.rd_key hy)
      have h5 := (hf c hc).1
      rw [h0 c hc] at h5
      have h6 := Bool.eq_false_iff.1 h5
      refine (h6 (List.any_eq_true.2 ⟨WideElems.rg Try.prog 38 Es.R x, mem_sorted.2 (List.mem_map.2 ⟨x, hx, rfl⟩), ?_⟩)).elim
      show (WideElems.rg Try.prog 38 Es.R x).1.sameKey c.l = true
      rw [WideElems.rg_of hy, ← hl]
      exact WideAt.sameKey_self (cellK.K.key (WideElems.rd_key hy))
end Go.Proofs.Ytoimbhdjhhmonaa

/- Layer 47: the table of stages, which cells are valid. -/
set_option linter.unusedSimpArgs false
set_option maxRecDepth 50000
namespace Go.Proofs.Ytoimbhdjhhmonaa
open Go.RowKit Go

def useE (s : Int) : Bool := decide (s = 1) || decide (s = 7) || decide (s = 8) || (decide (10 ≤ s) && decide (s ≤ 12)) || (decide (14 ≤ s) && decide (s ≤ 19))
def useO (s : Int) : Bool := decide (s = 18) || decide (s = 19)
def useP (s : Int) : Bool := decide (s = 5) || decide (s = 7) || (decide (9 ≤ s) && decide (s ≤ 22))
def inB (u : Bool) (n most : Int) : Bool := if u then decide (0 ≤ n) && decide (n < most) else decide (n = -1)
def knownB (s : Int) : Bool := decide (1 ≤ s) && decide (s ≤ 22)
def validC (c : C4) : Bool := knownB c.st && inB (useE c.st) c.en 12 && inB (useO c.st) c.ot 12 && inB (useP c.st) c.pe 120 && (!useO c.st || decide (c.en ≠ c.ot))
theorem known47 (w : World) (s : Int) : Calls Try.prog 63 #[.int .i64 s] w fun e w' => e = .returned (.bool (knownB s)) ∧ w' = w := by
  unfold knownB
  by_cases h1 : 1 ≤ s
  · by_cases h2 : s ≤ 22
    · go_enter Try.func63, Try.ntmps63
      go_wp2_with fail
      all_goals go_ret
      all_goals exact ⟨ret_bool (by simp <;> omega), rfl⟩
    · go_enter Try.func63, Try.ntmps63
      go_wp2_with fail
      all_goals go_ret
      all_goals exact ⟨ret_bool (by simp <;> omega), rfl⟩
  · go_enter Try.func63, Try.ntmps63
    go_wp2_with fail
    all_goals go_ret
    all_goals exact ⟨ret_bool (by simp <;> omega), rfl⟩
theorem in47 (w : World) (u : Bool) (n most : Int) : Calls Try.prog 64 #[.bool u, .int .i64 n, .int .i64 most] w fun e w' => e = .returned (.bool (inB u n most)) ∧ w' = w := by
  unfold inB
  cases u
  · by_cases h : n = -1
    · subst h
      go_enter Try.func64, Try.ntmps64
      go_wp2_with fail
      all_goals go_ret
      all_goals exact ⟨ret_bool (by simp <;> omega), rfl⟩
    · go_enter Try.func64, Try.ntmps64
      go_wp2_with fail
      all_goals go_ret
      all_goals exact ⟨ret_bool (by simp <;> omega), rfl⟩
  · by_cases h1 : 0 ≤ n
    · by_cases h2 : n < most
      · go_enter Try.func64, Try.ntmps64
        go_wp2_with fail
        all_goals go_ret
        all_goals exact ⟨ret_bool (by simp <;> omega), rfl⟩
      · go_enter Try.func64, Try.ntmps64
        go_wp2_with fail
        all_goals go_ret
        all_goals exact ⟨ret_bool (by simp <;> omega), rfl⟩
    · go_enter Try.func64, Try.ntmps64
      go_wp2_with fail
      all_goals go_ret
      all_goals exact ⟨ret_bool (by simp <;> omega), rfl⟩
theorem results_cell {P : Program} {fn : Func} {k : Tmp} {t : TypeId} {tmps : Array Value} {w : World} {ad : Addr} {v : Value} (hres : fn.results = #[.cell k t]) (h : tmps.getD k undef = .pointer (some ad)) (hl : (loadVar t ad).run P w = .ok v w) :
    (results fn tmps).run P w = .ok v w := by
  simp at h
  simp [results, hres, h, asAddr, hl]
def tblS : Array Value := #[.string ⟨#[]⟩, .bool false, .bool false, .bool false, .string ⟨#[101, 110, 116, 114, 105, 101, 115]⟩, .bool true, .bool false, .bool false, .string ⟨#[114, 97, 116, 101, 115]⟩, .bool false, .bool false, .bool false, .string ⟨#[104, 111, 108, 100, 105, 110, 103, 115]⟩, .bool false, .bool false, .bool false, .string ⟨#[109, 97, 116, 99, 104, 101, 115]⟩, .bool false, .bool false, .bool false, .string ⟨#[115, 116, 111, 99, 107, 115]⟩, .bool false, .bool false, .bool true, .string ⟨#[114, 117, 108, 101, 115]⟩, .bool false, .bool false, .bool false, .string ⟨#[105, 116, 101, 109, 115]⟩, .bool true, .bool false, .bool true, .string ⟨#[115, 99, 111, 112, 101]⟩, .bool true, .bool false, .bool false, .string ⟨#[115, 104, 97, 114, 101, 115]⟩, .bool false, .bool false, .bool true, .string ⟨#[99, 111, 110, 116, 114, 105, 98, 117, 116, 105, 111, 110]⟩, .bool true, .bool false, .bool true, .string ⟨#[114, 101, 115, 101, 114, 118, 101]⟩, .bool true, .bool false, .bool true, .string ⟨#[100, 105, 115, 112, 111, 115, 97, 108]⟩, .bool true, .bool false, .bool true, .string ⟨#[105, 110, 116, 101, 114, 99, 111]⟩, .bool false, .bool false, .bool true, .string ⟨#[99, 97, 112, 105, 116, 97, 108]⟩, .bool true, .bool false, .bool true, .string ⟨#[115, 116, 101, 112]⟩, .bool true, .bool false, .bool true, .string ⟨#[109, 105, 110, 111, 114, 105, 116, 121]⟩, .bool true, .bool false, .bool true, .string ⟨#[97, 115, 115, 111, 99, 105, 97, 116, 101]⟩, .bool true, .bool false, .bool true, .string ⟨#[105, 110, 118, 101, 110, 116, 111, 114, 121]⟩, .bool true, .bool true, .bool true, .string ⟨#[100, 105, 118, 105, 100, 101, 110, 100]⟩, .bool true, .bool true, .bool true, .string ⟨#[101, 120, 101, 99, 117, 116, 101]⟩, .bool false, .bool false, .bool true, .string ⟨#[116, 111, 116, 97, 108, 115]⟩, .bool false, .bool false, .bool true, .string ⟨#[114, 101, 115, 117, 108, 116]⟩, .bool false, .bool false, .bool true]
def tblS0 : Array Value := #[.string ⟨#[]⟩, .bool false, .bool false, .bool false, .string ⟨#[]⟩, .bool false, .bool false, .bool false, .string ⟨#[]⟩, .bool false, .bool false, .bool false, .string ⟨#[]⟩, .bool false, .bool false, .bool false, .string ⟨#[]⟩, .bool false, .bool false, .bool false, .string ⟨#[]⟩, .bool false, .bool false, .bool false, .string ⟨#[]⟩, .bool false, .bool false, .bool false, .string ⟨#[]⟩, .bool false, .bool false, .bool false, .string ⟨#[]⟩, .bool false, .bool false, .bool false, .string ⟨#[]⟩, .bool false, .bool false, .bool false, .string ⟨#[]⟩, .bool false, .bool false, .bool false, .string ⟨#[]⟩, .bool false, .bool false, .bool false, .string ⟨#[]⟩, .bool false, .bool false, .bool false, .string ⟨#[]⟩, .bool false, .bool false, .bool false, .string ⟨#[]⟩, .bool false, .bool false, .bool false, .string ⟨#[]⟩, .bool false, .bool false, .bool false, .string ⟨#[]⟩, .bool false, .bool false, .bool false, .string ⟨#[]⟩, .bool false, .bool false, .bool false, .string ⟨#[]⟩, .bool false, .bool false, .bool false, .string ⟨#[]⟩, .bool false, .bool false, .bool false, .string ⟨#[]⟩, .bool false, .bool false, .bool false, .string ⟨#[]⟩, .bool false, .bool false, .bool false, .string ⟨#[]⟩, .bool false, .bool false, .bool false]
attribute [local irreducible] wpList Code.wp in
set_option maxRecDepth 100000 in
theorem stages47 (w : World) : Calls Try.prog 67 #[] w fun e w' => e = .returned (.agg tblS) ∧ Below w.heap.size w w' := by
  go_enter Try.func67, Try.ntmps67
  have hB1 : Below w.heap.size w ((w.alloc (.cells tblS0 96)).setRow w.heap.size tblS) := by
    refine ((Below.refl w.heap.size w).alloc (Nat.le_refl _) (.cells tblS0 96)).trans ?_
    exact ⟨rfl, rfl, rfl, by simp, fun k hk => setRow_other _ _ _ _ (Nat.ne_of_lt hk)⟩
  have hg : ((w.alloc (.cells tblS0 96)).setRow w.heap.size tblS).heap[w.heap.size]? = some (.cells tblS 96 (0, 0)) := setRow_heap _ _ tblS0 tblS 96 _ (heap_alloc_new w _)
  apply wp_seq_k; intro K0 hK0
  apply wp_region_lit
  refine Go.Great.wpList_allocTo rfl (some 0) rfl (.pointer (some ⟨w.heap.size, 0, none⟩)) (.cells tblS0 96) (by rfl) ?_
  refine wpList_nil ?_
  refine hK0 _ _ ?_
  clear hK0 K0
  apply wp_seq_k; intro K0 hK0
  apply wp_region_lit
  refine wpList_build rfl _ _ rfl (by kernel_rfl) ?_
  refine wpList_build rfl _ _ rfl (by kernel_rfl) ?_
  refine wpList_build rfl _ _ rfl (by kernel_rfl) ?_
  refine wpList_build rfl _ _ rfl (by kernel_rfl) ?_
  refine wpList_build rfl _ _ rfl (by kernel_rfl) ?_
  refine wpList_build rfl _ _ rfl (by kernel_rfl) ?_
  refine wpList_build rfl _ _ rfl (by kernel_rfl) ?_
  refine wpList_build rfl _ _ rfl (by kernel_rfl) ?_
  refine wpList_build rfl _ _ rfl (by kernel_rfl) ?_
  refine wpList_build rfl _ _ rfl (by kernel_rfl) ?_
  refine wpList_build rfl _ _ rfl (by kernel_rfl) ?_
  refine wpList_build rfl _ _ rfl (by kernel_rfl) ?_
  refine wpList_build rfl _ _ rfl (by kernel_rfl) ?_
  refine wpList_build rfl _ _ rfl (by kernel_rfl) ?_
  refine wpList_build rfl _ _ rfl (by kernel_rfl) ?_
  refine wpList_build rfl _ _ rfl (by kernel_rfl) ?_
  refine wpList_build rfl _ _ rfl (by kernel_rfl) ?_
  refine wpList_build rfl _ _ rfl (by kernel_rfl) ?_
  refine wpList_build rfl _ _ rfl (by kernel_rfl) ?_
  refine wpList_build rfl _ _ rfl (by kernel_rfl) ?_
  refine wpList_build rfl _ _ rfl (by kernel_rfl) ?_
  refine wpList_build rfl _ _ rfl (by kernel_rfl) ?_
  refine wpList_build rfl _ _ rfl (by kernel_rfl) ?_
  refine wpList_store_row rfl _ _ _ rfl w.heap.size tblS (by kernel_rfl) (by kernel_rfl) 96 tblS0 (heap_alloc_new w _) (by kernel_rfl) (by kernel_rfl) (by kernel_rfl) ?_
  refine wpList_nil ?_
  refine hK0 _ _ ?_
  clear hK0 K0
  apply wp_ret
  refine bodyPost_ret (v := .agg tblS) ?_ (by rfl) ⟨rfl, hB1⟩
  have hr := run_loadVar_row (P := Try.prog) _ w.heap.size 96 96 tblS _ _ hg Try.underlying96 (by rfl) (by kernel_rfl)
  exact results_cell (k := 0) rfl (by kernel_rfl) hr
theorem idxS (s : Int) (h1 : 1 ≤ s) (h2 : s ≤ 22) : ∃ nm, ∀ w, (Instr.index 96 (.agg tblS) (.int .i64 s)).run Try.prog w = .ok (.agg #[.string nm, .bool (useE s), .bool (useO s), .bool (useP s)]) w := by
  have hs : s = 1 ∨ s = 2 ∨ s = 3 ∨ s = 4 ∨ s = 5 ∨ s = 6 ∨ s = 7 ∨ s = 8 ∨ s = 9 ∨ s = 10 ∨ s = 11 ∨ s = 12 ∨ s = 13 ∨ s = 14 ∨ s = 15 ∨ s = 16 ∨ s = 17 ∨ s = 18 ∨ s = 19 ∨ s = 20 ∨ s = 21 ∨ s = 22 := by omega
  rcases hs with rfl | rfl | rfl | rfl | rfl | rfl | rfl | rfl | rfl | rfl | rfl | rfl | rfl | rfl | rfl | rfl | rfl | rfl | rfl | rfl | rfl | rfl
  · exact ⟨⟨#[101, 110, 116, 114, 105, 101, 115]⟩, fun w => by (show _ = _; kernel_rfl)⟩
  · exact ⟨⟨#[114, 97, 116, 101, 115]⟩, fun w => by (show _ = _; kernel_rfl)⟩
  · exact ⟨⟨#[104, 111, 108, 100, 105, 110, 103, 115]⟩, fun w => by (show _ = _; kernel_rfl)⟩
  · exact ⟨⟨#[109, 97, 116, 99, 104, 101, 115]⟩, fun w => by (show _ = _; kernel_rfl)⟩
  · exact ⟨⟨#[115, 116, 111, 99, 107, 115]⟩, fun w => by (show _ = _; kernel_rfl)⟩
  · exact ⟨⟨#[114, 117, 108, 101, 115]⟩, fun w => by (show _ = _; kernel_rfl)⟩
  · exact ⟨⟨#[105, 116, 101, 109, 115]⟩, fun w => by (show _ = _; kernel_rfl)⟩
  · exact ⟨⟨#[115, 99, 111, 112, 101]⟩, fun w => by (show _ = _; kernel_rfl)⟩
  · exact ⟨⟨#[115, 104, 97, 114, 101, 115]⟩, fun w => by (show _ = _; kernel_rfl)⟩
  · exact ⟨⟨#[99, 111, 110, 116, 114, 105, 98, 117, 116, 105, 111, 110]⟩, fun w => by (show _ = _; kernel_rfl)⟩
  · exact ⟨⟨#[114, 101, 115, 101, 114, 118, 101]⟩, fun w => by (show _ = _; kernel_rfl)⟩
  · exact ⟨⟨#[100, 105, 115, 112, 111, 115, 97, 108]⟩, fun w => by (show _ = _; kernel_rfl)⟩
  · exact ⟨⟨#[105, 110, 116, 101, 114, 99, 111]⟩, fun w => by (show _ = _; kernel_rfl)⟩
  · exact ⟨⟨#[99, 97, 112, 105, 116, 97, 108]⟩, fun w => by (show _ = _; kernel_rfl)⟩
  · exact ⟨⟨#[115, 116, 101, 112]⟩, fun w => by (show _ = _; kernel_rfl)⟩
  · exact ⟨⟨#[109, 105, 110, 111, 114, 105, 116, 121]⟩, fun w => by (show _ = _; kernel_rfl)⟩
  · exact ⟨⟨#[97, 115, 115, 111, 99, 105, 97, 116, 101]⟩, fun w => by (show _ = _; kernel_rfl)⟩
  · exact ⟨⟨#[105, 110, 118, 101, 110, 116, 111, 114, 121]⟩, fun w => by (show _ = _; kernel_rfl)⟩
  · exact ⟨⟨#[100, 105, 118, 105, 100, 101, 110, 100]⟩, fun w => by (show _ = _; kernel_rfl)⟩
  · exact ⟨⟨#[101, 120, 101, 99, 117, 116, 101]⟩, fun w => by (show _ = _; kernel_rfl)⟩
  · exact ⟨⟨#[116, 111, 116, 97, 108, 115]⟩, fun w => by (show _ = _; kernel_rfl)⟩
  · exact ⟨⟨#[114, 101, 115, 117, 108, 116]⟩, fun w => by (show _ = _; kernel_rfl)⟩
set_option maxHeartbeats 1000000 in
theorem uses47 (w : World) (s : Int) : Calls Try.prog 53 #[.int .i64 s] w fun e w' => e = .returned (.tuple #[.bool (knownB s && useE s), .bool (knownB s && useO s), .bool (knownB s && useP s)]) ∧ Below w.heap.size w w' := by
  have HK := Lib.hid (known47 w s)
  by_cases hk : 1 ≤ s ∧ s ≤ 22
  · have hkb : knownB s = true := by unfold knownB; simp [hk.1, hk.2]
    obtain ⟨nm, hi⟩ := idxS s hk.1 hk.2
    have HST := Lib.hid (fun W => stages47 W)
    rw [hkb] at HK ⊢
    simp only [Bool.true_and]
    generalize useE s = ue at hi ⊢
    generalize useO s = uo at hi ⊢
    generalize useP s = up at hi ⊢
    generalize tblS = tb at hi HST
    clear hk hkb
    go_enter Try.func53, Try.ntmps53
    go_wp2_with fail
    have hX := HK.out
    refine Calls.mono hX ?_
    clear hX
    rintro e w2 ⟨rfl, hw2⟩
    rw [hw2]
    clear hw2 w2
    go_wp2_with fail
    have hX := HST.out w
    refine Calls.mono hX ?_
    clear hX
    rintro e w2 ⟨rfl, hB2⟩
    have HB2 := Lib.hid hB2
    clear hB2
    have HR3 := Lib.hid (heap_alloc_new w2 (.cells #[.string nm, .bool ue, .bool uo, .bool up] 95))
    have HB3 := Lib.hid (HB2.out.alloc HB2.out.size (.cells #[.string nm, .bool ue, .bool uo, .bool up] 95))
    go_wp2_with fail
    generalize World.alloc _ _ = w3 at HR3 HB3 ⊢
    have hC0 : Cells [(⟨w2.heap.size, 1, none⟩, .bool ue), (⟨w2.heap.size, 2, none⟩, .bool uo), (⟨w2.heap.size, 3, none⟩, .bool up)] w3 := ⟨blk_cell HR3.out 1, blk_cell HR3.out 2, blk_cell HR3.out 3, trivial⟩
    refine wp_region_T (Cells [(⟨w2.heap.size, 1, none⟩, .bool ue), (⟨w2.heap.size, 2, none⟩, .bool uo), (⟨w2.heap.size, 3, none⟩, .bool up)]) (fun _ => false) (by kernel_rfl) ?_
    have hSss1 := Cells.drew hC0
    have hB_0_s1 : Below w3.heap.size w3 w3.drew := below_drew _
    generalize w3.drew = s1 at hSss1 hB_0_s1 ⊢
    have hB_s1_s1 := Below.refl s1.heap.size s1
    refine wpAnyT_pure (i := 0) (v := ?_) rfl (by kernel_rfl) (by kernel_rfl) (by kernel_rfl) (fun _ _ _ h => h) (by rfl) ?_ ?_
    rotate_left
    · intro w; go_simp; try with_reducible rfl
    simp only [Act.put, rgA, rgB, rgC, rgD, rgE, rgF]
    refine wpAnyT_pure (i := 2) (v := ?_) rfl (by kernel_rfl) (by kernel_rfl) (by kernel_rfl) (fun _ _ _ h => h) (by rfl) ?_ ?_
    rotate_left
    · intro w; go_simp; try with_reducible rfl
    simp only [Act.put, rgA, rgB, rgC, rgD, rgE, rgF]
    refine wpAnyT_pure (i := 4) (v := ?_) rfl (by kernel_rfl) (by kernel_rfl) (by kernel_rfl) (fun _ _ _ h => h) (by rfl) ?_ ?_
    rotate_left
    · intro w; go_simp; try with_reducible rfl
    simp only [Act.put, rgA, rgB, rgC, rgD, rgE, rgF]
    refine wpAnyT_loadW (i := 1) (v := ?_) rfl (by kernel_rfl) (by kernel_rfl) (by kernel_rfl) (by kernel_rfl) (by kernel_rfl) (fun _ _ _ h => h) (Or.inl ⟨by rfl, ?_⟩) hSss1 ?_
    rotate_left
    · intro w hSw; obtain ⟨e0, e1, e2, -⟩ := hSw; go_simp; try with_reducible rfl
    simp only [Act.put, rgA, rgB, rgC, rgD, rgE, rgF]
    refine wpAnyT_pure (i := 6) (v := ?_) rfl (by kernel_rfl) (by kernel_rfl) (by kernel_rfl) (fun _ _ _ h => h) (by rfl) ?_ ?_
    rotate_left
    · intro w; go_simp; try with_reducible rfl
    simp only [Act.put, rgA, rgB, rgC, rgD, rgE, rgF]
    refine wpAnyT_loadW (i := 3) (v := ?_) rfl (by kernel_rfl) (by kernel_rfl) (by kernel_rfl) (by kernel_rfl) (by kernel_rfl) (fun _ _ _ h => h) (Or.inl ⟨by rfl, ?_⟩) hSss1 ?_
    rotate_left
    · intro w hSw; obtain ⟨e0, e1, e2, -⟩ := hSw; go_simp; try with_reducible rfl
    simp only [Act.put, rgA, rgB, rgC, rgD, rgE, rgF]
    refine wpAnyT_pure (i := 7) (v := ?_) rfl (by kernel_rfl) (by kernel_rfl) (by kernel_rfl) (fun _ _ _ h => h) (by rfl) ?_ ?_
    rotate_left
    · intro w; go_simp; try with_reducible rfl
    simp only [Act.put, rgA, rgB, rgC, rgD, rgE, rgF]
    refine wpAnyT_loadW (i := 5) (v := ?_) rfl (by kernel_rfl) (by kernel_rfl) (by kernel_rfl) (by kernel_rfl) (by kernel_rfl) (fun _ _ _ h => h) (Or.inl ⟨by rfl, ?_⟩) hSss1 ?_
    rotate_left
    · intro w hSw; obtain ⟨e0, e1, e2, -⟩ := hSw; go_simp; try with_reducible rfl
    simp only [Act.put, rgA, rgB, rgC, rgD, rgE, rgF]
    refine wpAnyT_pure (i := 8) (v := ?_) rfl (by kernel_rfl) (by kernel_rfl) (by kernel_rfl) (fun _ _ _ h => h) (by rfl) ?_ ?_
    rotate_left
    · intro w; go_simp; try with_reducible rfl
    simp only [Act.put, rgA, rgB, rgC, rgD, rgE, rgF]
    refine wpAnyT_done (by kernel_rfl) ?_ _
    have HBP := Lib.hid (below_step HB3.out (hB_0_s1.trans ((hB_s1_s1).mono (hB_0_s1).size)))
    obtain ⟨w4, rfl⟩ : ∃ x, x = s1 := ⟨_, rfl⟩
    go_wp2_with fail
    refine bodyPost_ret (results_tmp3 rfl _ _ _) rfl ?_
    exact ⟨rfl, HBP.out⟩
  · have hkb : knownB s = false := by
      unfold knownB
      by_cases h1 : 1 ≤ s
      · by_cases h2 : s ≤ 22
        · exact absurd ⟨h1, h2⟩ hk
        · simp [h2]
      · simp [h1]
    rw [hkb] at HK ⊢
    clear hk hkb
    go_enter Try.func53, Try.ntmps53
    go_wp2_with fail
    have hX := HK.out
    refine Calls.mono hX ?_
    clear hX
    rintro e w2 ⟨rfl, hw2⟩
    rw [hw2]
    clear hw2 w2
    go_wp2_with fail
    refine bodyPost_ret (results_tmp3 rfl _ _ _) rfl ?_
    exact ⟨rfl, Below.refl _ _⟩
end Go.Proofs.Ytoimbhdjhhmonaa

/- Layer 47: the comparison of cells (told so that the count of draws does not go down). -/
set_option linter.unusedSimpArgs false
set_option maxRecDepth 50000
namespace Go.Proofs.Ytoimbhdjhhmonaa
open Go.RowKit Go
theorem or4_sum (w : World) (g : Nat) (cap : Nat) (a b c d : Int) (h0 : w.cell? ⟨g, 0, none⟩ = some (.int .i64 a)) (h1 : w.cell? ⟨g, 1, none⟩ = some (.int .i64 b)) (h2 : w.cell? ⟨g, 2, none⟩ = some (.int .i64 c)) (h3 : w.cell? ⟨g, 3, none⟩ = some (.int .i64 d)) :
    Calls Try.prog 58 #[.slice (some ⟨g, 0, none⟩) 4 cap] w fun e w' => e = .returned (.int .i64 (orF a b c d)) ∧ w' = w := by
  unfold orF
  by_cases ha : a = 0
  · subst ha
    by_cases hb : b = 0
    · subst hb
      by_cases hc : c = 0
      · subst hc
        by_cases hd : d = 0
        · subst hd
          go_enter Try.func58, Try.ntmps58
          go_wp2
          refine wp_loop_rounds 6 ?_
          repeat any_goals (rw [rounds_succ]; go_wp2)
          all_goals
            go_ret
            exact ⟨rfl, rfl⟩
        · have hd' : (d != 0) = true := by simp [hd]
          go_enter Try.func58, Try.ntmps58
          go_wp2
          refine wp_loop_rounds 6 ?_
          repeat any_goals (rw [rounds_succ]; go_wp2)
          all_goals
            go_ret
            exact ⟨rfl, rfl⟩
      · have hc' : (c != 0) = true := by simp [hc]
        go_enter Try.func58, Try.ntmps58
        go_wp2
        refine wp_loop_rounds 6 ?_
        repeat any_goals (rw [rounds_succ]; go_wp2)
        all_goals
          go_ret
          exact ⟨by first | rfl | (rw [if_pos rfl, if_pos rfl, if_neg hc]; rfl), rfl⟩
    · have hb' : (b != 0) = true := by simp [hb]
      go_enter Try.func58, Try.ntmps58
      go_wp2
      refine wp_loop_rounds 6 ?_
      repeat any_goals (rw [rounds_succ]; go_wp2)
      all_goals
        go_ret
        exact ⟨by first | rfl | (rw [if_pos rfl, if_neg hb]; rfl), rfl⟩
  · have ha' : (a != 0) = true := by simp [ha]
    go_enter Try.func58, Try.ntmps58
    go_wp2
    refine wp_loop_rounds 6 ?_
    repeat any_goals (rw [rounds_succ]; go_wp2)
    all_goals
      go_ret
      exact ⟨by first | rfl | (rw [if_neg ha]; rfl), rfl⟩
namespace Dr
/-- Nothing old has turned, and the count of draws has not gone down. -/
structure Below (B : Nat) (w w' : World) : Prop where
  b : Go.RowKit.Below B w w'
  d : w.drawn ≤ w'.drawn
theorem Below.refl (B : Nat) (w : World) : Below B w w := ⟨Go.RowKit.Below.refl B w, Nat.le_refl _⟩
theorem Below.size {B : Nat} {w w' : World} (h : Below B w w') : w.heap.size ≤ w'.heap.size := h.b.size
theorem Below.block {B : Nat} {w w' : World} (h : Below B w w') : ∀ k, k < B → w'.heap[k]? = w.heap[k]? := h.b.block
theorem Below.trans {B : Nat} {a b c : World} (h : Below B a b) (k : Below B b c) : Below B a c := ⟨h.b.trans k.b, Nat.le_trans h.d k.d⟩
theorem Below.mono {B B' : Nat} {w w' : World} (h : Below B w w') (hB : B' ≤ B) : Below B' w w' := ⟨h.b.mono hB, h.d⟩
theorem Below.alloc {B : Nat} {a w : World} (h : Below B a w) (hB : B ≤ w.heap.size) (o : Obj) : Below B a (w.alloc o) := ⟨h.b.alloc hB o, h.d⟩
theorem below_step {w0 w w' : World} (h : Below w0.heap.size w0 w) (h' : Below w.heap.size w w') : Below w0.heap.size w0 w' := h.trans (h'.mono h.size)
theorem below_drew (w : World) : Below w.heap.size w w.drew := ⟨(Go.RowKit.Below.refl _ _).drew, Nat.le_succ _⟩
theorem Cells.below {w w' : World} (hB : Below w.heap.size w w') {l : List (Addr × Value)} (h : Cells l w) : Cells l w' := Go.Proofs.Ytoimbhdjhhmonaa.Cells.below hB.b h
theorem wp_newrow {P : Program} {o : Oper} {a : Act} {w : World} {K : Act → World → Prop} {Q : Exit → Act → World → Prop} {v : Value} {cs : Array Value} {te : TypeId} (he : (execOp a.eval o).run P w = .ok (.value v) (w.alloc (.cells cs te))) (h : ∀ w2, Below w.heap.size w w2 → w2.heap[w.heap.size]? = some (.cells cs te (0, 0)) → K (a.put o.dst v) w2) : o.wp P a w K Q :=
  wp_value he (h _ ((Below.refl _ w).alloc (Nat.le_refl _) _) (heap_alloc_new w _))
theorem Below.grow {w w' : World} (h : Below w.heap.size w w') : ∃ q os, w' = Sort.grow (w.drewN q) os := by
  obtain ⟨p, hp⟩ := regrown_of_below h.b
  have hd : w.drawn ≤ p.d := by have := h.d; rw [hp] at this; exact this
  refine ⟨p.d - w.drawn, p.os, ?_⟩
  rw [hp]
  unfold redrawn World.drewN
  rw [Nat.add_sub_cancel' hd]
theorem compareB (w : World) (a b : Int) : Calls Try.prog 59 #[.int .i64 a, .int .i64 b] w fun e w' => e = .returned (.int .i64 (cmpI a b)) ∧ Below w.heap.size w w' :=
  (compareI_sum w a b).mono fun _ _ ⟨h1, h2⟩ => ⟨h1, by rw [h2]; exact Below.refl _ _⟩
theorem or4B (w : World) (g : Nat) (cap : Nat) (a b c d : Int) (h0 : w.cell? ⟨g, 0, none⟩ = some (.int .i64 a)) (h1 : w.cell? ⟨g, 1, none⟩ = some (.int .i64 b)) (h2 : w.cell? ⟨g, 2, none⟩ = some (.int .i64 c)) (h3 : w.cell? ⟨g, 3, none⟩ = some (.int .i64 d)) :
    Calls Try.prog 58 #[.slice (some ⟨g, 0, none⟩) 4 cap] w fun e w' => e = .returned (.int .i64 (orF a b c d)) ∧ Below w.heap.size w w' :=
  (or4_sum w g cap a b c d h0 h1 h2 h3).mono fun _ _ ⟨h1, h2⟩ => ⟨h1, by rw [h2]; exact Below.refl _ _⟩
set_option maxHeartbeats 1000000 in
theorem compare47 (w : World) (x y : C4) :
    Calls Try.prog 40 #[x.v, y.v] w fun e w' => e = .returned (.int .i64 (cfC x y)) ∧ Below w.heap.size w w' := by
  obtain ⟨x1, x2, x3, x4⟩ := x
  obtain ⟨y1, y2, y3, y4⟩ := y
  unfold C4.v cfC
  simp only
  have hh2 := heap_alloc2_old w (.cells #[.int .i64 x1, .int .i64 x2, .int .i64 x3, .int .i64 x4] 38) (.cells #[.int .i64 y1, .int .i64 y2, .int .i64 y3, .int .i64 y4] 38)
  have hr2 := heap_alloc2_new w (.cells #[.int .i64 x1, .int .i64 x2, .int .i64 x3, .int .i64 x4] 38) (.cells #[.int .i64 y1, .int .i64 y2, .int .i64 y3, .int .i64 y4] 38)
  have hB1 : Below w.heap.size w ((w.alloc (.cells #[.int .i64 x1, .int .i64 x2, .int .i64 x3, .int .i64 x4] 38)).alloc (.cells #[.int .i64 y1, .int .i64 y2, .int .i64 y3, .int .i64 y4] 38)) := ((Below.refl _ w).alloc (Nat.le_refl _) _).alloc (by simp) _
  have HB1 := Lib.hid hB1
  have hC0 : Cells [(⟨w.heap.size, 0, none⟩, .int .i64 x1), (⟨w.heap.size, 1, none⟩, .int .i64 x2), (⟨w.heap.size, 2, none⟩, .int .i64 x3), (⟨w.heap.size, 3, none⟩, .int .i64 x4), (⟨w.heap.size + 1, 0, none⟩, .int .i64 y1), (⟨w.heap.size + 1, 1, none⟩, .int .i64 y2), (⟨w.heap.size + 1, 2, none⟩, .int .i64 y3), (⟨w.heap.size + 1, 3, none⟩, .int .i64 y4)] ((w.alloc (.cells #[.int .i64 x1, .int .i64 x2, .int .i64 x3, .int .i64 x4] 38)).alloc (.cells #[.int .i64 y1, .int .i64 y2, .int .i64 y3, .int .i64 y4] 38)) := ⟨blk_cell hh2 0, blk_cell hh2 1, blk_cell hh2 2, blk_cell hh2 3, blk_cell hr2 0, blk_cell hr2 1, blk_cell hr2 2, blk_cell hr2 3, trivial⟩
  clear hh2 hr2 hB1
  go_enter Try.func40, Try.ntmps40
  go_wp2_with fail
  generalize (w.alloc (.cells #[.int .i64 x1, .int .i64 x2, .int .i64 x3, .int .i64 x4] 38)).alloc (.cells #[.int .i64 y1, .int .i64 y2, .int .i64 y3, .int .i64 y4] 38) = w1 at *
  refine wp_region_T (Cells [(⟨w.heap.size, 0, none⟩, .int .i64 x1), (⟨w.heap.size, 1, none⟩, .int .i64 x2), (⟨w.heap.size, 2, none⟩, .int .i64 x3), (⟨w.heap.size, 3, none⟩, .int .i64 x4), (⟨w.heap.size + 1, 0, none⟩, .int .i64 y1), (⟨w.heap.size + 1, 1, none⟩, .int .i64 y2), (⟨w.heap.size + 1, 2, none⟩, .int .i64 y3), (⟨w.heap.size + 1, 3, none⟩, .int .i64 y4)]) (fun _ => false) (by kernel_rfl) ?_
  have hSss1 := Cells.drew hC0
  have hB_0_s1 : Below w1.heap.size w1 w1.drew := below_drew _
  generalize w1.drew = s1 at hSss1 hB_0_s1 ⊢
  have hB_s1_s1 := Below.refl s1.heap.size s1
  refine wpAnyT_pure (i := 0) (v := ?_) rfl (by kernel_rfl) (by kernel_rfl) (by kernel_rfl) (fun _ _ _ h => h) (by rfl) ?_ ?_
  rotate_left
  · intro w; go_simp; try with_reducible rfl
  simp only [Act.put, rgA, rgB, rgC, rgD, rgE, rgF]
  refine wpAnyT_pure (i := 2) (v := ?_) rfl (by kernel_rfl) (by kernel_rfl) (by kernel_rfl) (fun _ _ _ h => h) (by rfl) ?_ ?_
  rotate_left
  · intro w; go_simp; try with_reducible rfl
  simp only [Act.put, rgA, rgB, rgC, rgD, rgE, rgF]
  refine wpAnyT_pure (i := 5) (v := ?_) rfl (by kernel_rfl) (by kernel_rfl) (by kernel_rfl) (fun _ _ _ h => h) (by rfl) ?_ ?_
  rotate_left
  · intro w; go_simp; try with_reducible rfl
  simp only [Act.put, rgA, rgB, rgC, rgD, rgE, rgF]
  refine wpAnyT_pure (i := 7) (v := ?_) rfl (by kernel_rfl) (by kernel_rfl) (by kernel_rfl) (fun _ _ _ h => h) (by rfl) ?_ ?_
  rotate_left
  · intro w; go_simp; try with_reducible rfl
  simp only [Act.put, rgA, rgB, rgC, rgD, rgE, rgF]
  refine wpAnyT_pure (i := 10) (v := ?_) rfl (by kernel_rfl) (by kernel_rfl) (by kernel_rfl) (fun _ _ _ h => h) (by rfl) ?_ ?_
  rotate_left
  · intro w; go_simp; try with_reducible rfl
  simp only [Act.put, rgA, rgB, rgC, rgD, rgE, rgF]
  refine wpAnyT_pure (i := 12) (v := ?_) rfl (by kernel_rfl) (by kernel_rfl) (by kernel_rfl) (fun _ _ _ h => h) (by rfl) ?_ ?_
  rotate_left
  · intro w; go_simp; try with_reducible rfl
  simp only [Act.put, rgA, rgB, rgC, rgD, rgE, rgF]
  refine wpAnyT_pure (i := 15) (v := ?_) rfl (by kernel_rfl) (by kernel_rfl) (by kernel_rfl) (fun _ _ _ h => h) (by rfl) ?_ ?_
  rotate_left
  · intro w; go_simp; try with_reducible rfl
  simp only [Act.put, rgA, rgB, rgC, rgD, rgE, rgF]
  refine wpAnyT_pure (i := 17) (v := ?_) rfl (by kernel_rfl) (by kernel_rfl) (by kernel_rfl) (fun _ _ _ h => h) (by rfl) ?_ ?_
  rotate_left
  · intro w; go_simp; try with_reducible rfl
  simp only [Act.put, rgA, rgB, rgC, rgD, rgE, rgF]
  refine wpAnyT_loadW (i := 1) (v := ?_) rfl (by kernel_rfl) (by kernel_rfl) (by kernel_rfl) (by kernel_rfl) (by kernel_rfl) (fun _ _ _ h => h) (Or.inl ⟨by rfl, ?_⟩) hSss1 ?_
  rotate_left
  · intro w hSw; obtain ⟨e0, e1, e2, e3, e4, e5, e6, e7, -⟩ := hSw; go_simp; try with_reducible rfl
  simp only [Act.put, rgA, rgB, rgC, rgD, rgE, rgF]
  refine wpAnyT_loadW (i := 3) (v := ?_) rfl (by kernel_rfl) (by kernel_rfl) (by kernel_rfl) (by kernel_rfl) (by kernel_rfl) (fun _ _ _ h => h) (Or.inl ⟨by rfl, ?_⟩) hSss1 ?_
  rotate_left
  · intro w hSw; obtain ⟨e0, e1, e2, e3, e4, e5, e6, e7, -⟩ := hSw; go_simp; try with_reducible rfl
  simp only [Act.put, rgA, rgB, rgC, rgD, rgE, rgF]
  refine wpAnyT_loadW (i := 6) (v := ?_) rfl (by kernel_rfl) (by kernel_rfl) (by kernel_rfl) (by kernel_rfl) (by kernel_rfl) (fun _ _ _ h => h) (Or.inl ⟨by rfl, ?_⟩) hSss1 ?_
  rotate_left
  · intro w hSw; obtain ⟨e0, e1, e2, e3, e4, e5, e6, e7, -⟩ := hSw; go_simp; try with_reducible rfl
  simp only [Act.put, rgA, rgB, rgC, rgD, rgE, rgF]
  refine wpAnyT_loadW (i := 8) (v := ?_) rfl (by kernel_rfl) (by kernel_rfl) (by kernel_rfl) (by kernel_rfl) (by kernel_rfl) (fun _ _ _ h => h) (Or.inl ⟨by rfl, ?_⟩) hSss1 ?_
  rotate_left
  · intro w hSw; obtain ⟨e0, e1, e2, e3, e4, e5, e6, e7, -⟩ := hSw; go_simp; try with_reducible rfl
  simp only [Act.put, rgA, rgB, rgC, rgD, rgE, rgF]
  refine wpAnyT_loadW (i := 11) (v := ?_) rfl (by kernel_rfl) (by kernel_rfl) (by kernel_rfl) (by kernel_rfl) (by kernel_rfl) (fun _ _ _ h => h) (Or.inl ⟨by rfl, ?_⟩) hSss1 ?_
  rotate_left
  · intro w hSw; obtain ⟨e0, e1, e2, e3, e4, e5, e6, e7, -⟩ := hSw; go_simp; try with_reducible rfl
  simp only [Act.put, rgA, rgB, rgC, rgD, rgE, rgF]
  refine wpAnyT_loadW (i := 13) (v := ?_) rfl (by kernel_rfl) (by kernel_rfl) (by kernel_rfl) (by kernel_rfl) (by kernel_rfl) (fun _ _ _ h => h) (Or.inl ⟨by rfl, ?_⟩) hSss1 ?_
  rotate_left
  · intro w hSw; obtain ⟨e0, e1, e2, e3, e4, e5, e6, e7, -⟩ := hSw; go_simp; try with_reducible rfl
  simp only [Act.put, rgA, rgB, rgC, rgD, rgE, rgF]
  refine wpAnyT_loadW (i := 16) (v := ?_) rfl (by kernel_rfl) (by kernel_rfl) (by kernel_rfl) (by kernel_rfl) (by kernel_rfl) (fun _ _ _ h => h) (Or.inl ⟨by rfl, ?_⟩) hSss1 ?_
  rotate_left
  · intro w hSw; obtain ⟨e0, e1, e2, e3, e4, e5, e6, e7, -⟩ := hSw; go_simp; try with_reducible rfl
  simp only [Act.put, rgA, rgB, rgC, rgD, rgE, rgF]
  refine wpAnyT_loadW (i := 18) (v := ?_) rfl (by kernel_rfl) (by kernel_rfl) (by kernel_rfl) (by kernel_rfl) (by kernel_rfl) (fun _ _ _ h => h) (Or.inl ⟨by rfl, ?_⟩) hSss1 ?_
  rotate_left
  · intro w hSw; obtain ⟨e0, e1, e2, e3, e4, e5, e6, e7, -⟩ := hSw; go_simp; try with_reducible rfl
  simp only [Act.put, rgA, rgB, rgC, rgD, rgE, rgF]
  refine wpAnyT_one (i := 4) (by kernel_rfl) rfl (by rfl) ?_
  refine wp_enter (f := 59) (args := #[.int .i64 x1, .int .i64 y1]) (by go_simp) (compareB s1 x1 y1) ?_
  rintro e w102 ⟨rfl, hX⟩
  have hB_s1_w102 := below_step hB_s1_s1 hX
  have hB_w102_w102 := Below.refl w102.heap.size w102
  have hSsw102 := Cells.below hB_s1_w102 hSss1
  clear hX
  refine ⟨_, rfl, fun _ _ => hSsw102, ?_⟩
  try simp only [Act.put, rgA, rgB, rgC, rgD, rgE, rgF]
  refine wpAnyT_one (i := 9) (by kernel_rfl) rfl (by rfl) ?_
  refine wp_enter (f := 59) (args := #[.int .i64 x4, .int .i64 y4]) (by go_simp) (compareB w102 x4 y4) ?_
  rintro e w103 ⟨rfl, hX⟩
  have hB_s1_w103 := below_step hB_s1_w102 hX
  have hB_w102_w103 := below_step hB_w102_w102 hX
  have hB_w103_w103 := Below.refl w103.heap.size w103
  have hSsw103 := Cells.below hB_s1_w103 hSss1
  clear hX
  refine ⟨_, rfl, fun _ _ => hSsw103, ?_⟩
  try simp only [Act.put, rgA, rgB, rgC, rgD, rgE, rgF]
  refine wpAnyT_one (i := 14) (by kernel_rfl) rfl (by rfl) ?_
  refine wp_enter (f := 59) (args := #[.int .i64 x2, .int .i64 y2]) (by go_simp) (compareB w103 x2 y2) ?_
  rintro e w104 ⟨rfl, hX⟩
  have hB_s1_w104 := below_step hB_s1_w103 hX
  have hB_w102_w104 := below_step hB_w102_w103 hX
  have hB_w103_w104 := below_step hB_w103_w103 hX
  have hB_w104_w104 := Below.refl w104.heap.size w104
  have hSsw104 := Cells.below hB_s1_w104 hSss1
  clear hX
  refine ⟨_, rfl, fun _ _ => hSsw104, ?_⟩
  try simp only [Act.put, rgA, rgB, rgC, rgD, rgE, rgF]
  refine wpAnyT_one (i := 19) (by kernel_rfl) rfl (by rfl) ?_
  refine wp_enter (f := 59) (args := #[.int .i64 x3, .int .i64 y3]) (by go_simp) (compareB w104 x3 y3) ?_
  rintro e w105 ⟨rfl, hX⟩
  have hB_s1_w105 := below_step hB_s1_w104 hX
  have hB_w102_w105 := below_step hB_w102_w104 hX
  have hB_w103_w105 := below_step hB_w103_w104 hX
  have hB_w104_w105 := below_step hB_w104_w104 hX
  have hB_w105_w105 := Below.refl w105.heap.size w105
  have hSsw105 := Cells.below hB_s1_w105 hSss1
  clear hX
  refine ⟨_, rfl, fun _ _ => hSsw105, ?_⟩
  try simp only [Act.put, rgA, rgB, rgC, rgD, rgE, rgF]
  refine wpAnyT_one (i := 20) (by kernel_rfl) rfl (by rfl) ?_
  obtain ⟨b20, hb20⟩ : ∃ b, (w105).heap.size = b := ⟨_, rfl⟩
  refine wp_newrow (v := .slice (some ⟨b20, 0, none⟩) 4 4) (cs := #[.int .i64 (cmpI x1 y1), .int .i64 (cmpI x4 y4), .int .i64 (cmpI x2 y2), .int .i64 (cmpI x3 y3)]) (te := 3) (by rw [← hb20]; go_simp) ?_
  intro w106 hX hN20
  rw [hb20] at hN20
  have hB_s1_w106 := below_step hB_s1_w105 hX
  have hB_w102_w106 := below_step hB_w102_w105 hX
  have hB_w103_w106 := below_step hB_w103_w105 hX
  have hB_w104_w106 := below_step hB_w104_w105 hX
  have hB_w105_w106 := below_step hB_w105_w105 hX
  have hB_w106_w106 := Below.refl w106.heap.size w106
  have hSsw106 := Cells.below hB_s1_w106 hSss1
  clear hX
  refine ⟨fun _ _ => hSsw106, ?_⟩
  try simp only [Act.put, rgA, rgB, rgC, rgD, rgE, rgF]
  refine wpAnyT_one (i := 21) (by kernel_rfl) rfl (by rfl) ?_
  have hq20 : (w106).heap[b20]? = some (.cells #[.int .i64 (cmpI x1 y1), .int .i64 (cmpI x4 y4), .int .i64 (cmpI x2 y2), .int .i64 (cmpI x3 y3)] 3 (0, 0)) := by first | exact hN20 | exact ((hB_w106_w106).block _ (blk_lt hN20)).trans hN20
  refine wp_enter (f := 58) (args := #[.slice (some ⟨b20, 0, none⟩) 4 4]) (by go_simp) (or4B w106 b20 4 _ _ _ _ (blk_cell hq20 0) (blk_cell hq20 1) (blk_cell hq20 2) (blk_cell hq20 3)) ?_
  rintro e w107 ⟨rfl, hX⟩
  have hB_s1_w107 := below_step hB_s1_w106 hX
  have hB_w102_w107 := below_step hB_w102_w106 hX
  have hB_w103_w107 := below_step hB_w103_w106 hX
  have hB_w104_w107 := below_step hB_w104_w106 hX
  have hB_w105_w107 := below_step hB_w105_w106 hX
  have hB_w106_w107 := below_step hB_w106_w106 hX
  have hB_w107_w107 := Below.refl w107.heap.size w107
  have hSsw107 := Cells.below hB_s1_w107 hSss1
  clear hX
  refine ⟨_, rfl, fun _ _ => hSsw107, ?_⟩
  try simp only [Act.put, rgA, rgB, rgC, rgD, rgE, rgF]
  refine wpAnyT_pure (i := 22) (v := ?_) rfl (by kernel_rfl) (by kernel_rfl) (by kernel_rfl) (fun _ _ _ h => h) (by rfl) ?_ ?_
  rotate_left
  · intro w; go_simp; try with_reducible rfl
  simp only [Act.put, rgA, rgB, rgC, rgD, rgE, rgF]
  refine wpAnyT_done (by kernel_rfl) ?_ _
  have hbP : Below w1.heap.size w1 w107 := hB_0_s1.trans ((hB_s1_w107).mono (hB_0_s1).size)
  go_wp2_with fail
  go_ret
  exact ⟨rfl, below_step HB1.out hbP⟩
end Dr
end Go.Proofs.Ytoimbhdjhhmonaa
