/- Layer 16: the keys of a map come out of maps.Keys, and slices.AppendSeq collects them. -/
import Derived.Test.YtmlekhkgokgpbaaC16p
import Derived.Sort.MapsRangeIn
import Derived.Sort.KeysCollected
set_option linter.unusedSimpArgs false
set_option maxRecDepth 50000
namespace Go.Proofs.Ytmlekhkgokgpbaa
open Go.RowKit Go Go.Shelf
attribute [local go_sem] Oper.semAt_some

/-- What reads as a key is the value of a K3. -/
theorem keyOf16_inv {key : Value} {kl : Lit} (h : keyOf Try.prog 58 key = some kl) : ∃ x : K3, x.ok ∧ key = x.v ∧ kl = x.l := by
  have hco : Try.prog.cellsOf 58 = 3 := by kernel_rfl
  have hc9 : Try.prog.cellsOf 9 = 1 := by kernel_rfl
  have hc3 : Try.prog.cellsOf 3 = 1 := by kernel_rfl
  obtain ⟨xs, L, rfl, h1, e1⟩ := keyOf_top wide58 h
  obtain ⟨n, hn⟩ : ∃ n, Try.prog.types.size = n + 1 := ⟨Try.prog.types.size - 1, by have : 0 < Try.prog.types.size := of_decide_eq_true (by kernel_rfl); omega⟩
  rw [hn] at h1
  have hk : ∃ x : K3, x.ok ∧ Value.agg xs = x.v := by
    obtain ⟨l⟩ := xs
    simp only [Program.keyLits, Try.underlying58, hco, hc9, hc3] at h1
    split at h1
    · rename_i hc
      obtain ⟨hlen, -⟩ := hc
      match l, hlen with
      | [a, b, c], _ =>
        simp [Program.keyLits, Try.underlying9, Try.underlying3, hc9, hc3] at h1
        cases a <;> (try (simp at h1; done))
        simp only at h1
        split at h1
        · rename_i hs
          cases b <;> (try (simp at h1; done))
          simp only at h1
          split at h1
          · rename_i hb
            obtain ⟨rfl, hb⟩ := hb
            cases c <;> (try (simp at h1; done))
            simp only at h1
            split at h1
            · rename_i hc
              obtain ⟨rfl, hc⟩ := hc
              exact ⟨⟨_, _, _⟩, ⟨hs, hb, hc⟩, rfl⟩
            · simp at h1
          · simp at h1
        · simp at h1
    · cases h1
  obtain ⟨x, hx, hv⟩ := hk
  refine ⟨x, hx, hv, ?_⟩
  have := x.l_eq hx
  rw [← hv, h] at this
  exact (Option.some.inj this)

abbrev K3o := { x : K3 // x.ok }
/-- The keys met so far. -/
def Coll16 (D : DataW Unit) (left : Lit → Bool) (ss : List K3o) : Prop :=
  ss.Nodup ∧ ∀ x : K3o, x ∈ ss ↔ Maps.has D x.1.l = true ∧ left x.1.l = false
theorem K3o.l_inj {x y : K3o} (h : x.1.l = y.1.l) : x = y := by
  by_cases e : x.1 = y.1
  · exact Subtype.ext e
  · exact absurd h (K3.l_ne x.2 y.2 e)
theorem Coll16.start (D : DataW Unit) : Coll16 D (Maps.has D) [] := ⟨List.nodup_nil, fun x => by simp⟩
theorem K3o.same_self (x : K3o) : x.1.l.sameKey x.1.l = true := by
  obtain ⟨bs, h⟩ : ∃ bs, x.1.l = .string bs := by
    obtain ⟨_, _, _, _, e⟩ := keyOf_top wide58 (x.1.l_eq x.2)
    exact ⟨_, e⟩
  rw [h]
  simp [Lit.sameKey]
theorem K3.v_inj {x y : K3} (h : x.v = y.v) : x = y := by
  obtain ⟨a, b, c⟩ := x
  obtain ⟨d, e, f⟩ := y
  simp only [K3.v, Value.agg.injEq] at h
  simpa using h
theorem Coll16.step {D : DataW Unit} {left : Lit → Bool} {ss : List K3o} (h : Coll16 D left ss) (x : K3o) (hl : left x.1.l = true) (hh : Maps.has D x.1.l = true) :
    Coll16 D (fun z => left z && !z.sameKey x.1.l) (ss ++ [x]) := by
  refine ⟨List.nodup_append.2 ⟨h.1, by simp, fun a ha b hb e => ?_⟩, fun y => ?_⟩
  · simp only [List.mem_singleton] at hb
    subst hb; subst e
    have := ((h.2 a).1 ha).2
    rw [hl] at this
    cases this
  · by_cases e : y = x
    · subst e
      simp [hh, K3o.same_self]
    · have hne : y.1.l ≠ x.1.l := fun h => e (K3o.l_inj h)
      rw [List.mem_append, List.mem_singleton, h.2 y]
      simp [e, Maps.sameKey_ne hne]

set_option maxHeartbeats 1000000 in
/-- maps.Keys' closure: the keys come one by one, each once. -/
theorem keys16_in (n : Nat) (hn : 1 ≤ n) (l Bm b nn : Nat) (D : DataW Unit) (J Jx : List K3o → World → Prop)
    (hY : ∀ pre x W, J pre W → pre.length < Maps.size D → YieldAt Fence.wide (n - 1) Try.prog l #[x.1.v] W fun e W' =>
      (e = .returned (.bool true) ∧ J (pre ++ [x]) W' ∧ KeepsWalks W W') ∨ (e = .returned (.bool false) ∧ Jx (pre ++ [x]) W'))
    (W : World) (hJ : AbidesFrom W.heap.size J) (hm : W.cell? ⟨Bm, 0, none⟩ = some (.map (some b))) (hown : W.ownsMap Try.prog 58 (plainElem Try.prog 3) b nn D) (h0 : J [] W) :
    CallsIn Fence.wide n Try.prog 48 #[.func (.yield l) #[] #[], .pointer (some ⟨Bm, 0, none⟩)] W fun e W' => (∃ v, e = .returned v) ∧
      ((∃ ss, ((ss.Nodup ∧ ∀ x : K3o, x ∈ ss ↔ Maps.has D x.1.l = true) ∧ ss.length ≤ Maps.size D) ∧ J ss W') ∨ (∃ pre, True ∧ Jx pre W')) := by
  refine callsIn_of_wp Try.func48 rfl trivial ?_ rfl
  simp only [Try.ntmps48, List.size_toArray, List.length_cons, List.length_nil, Nat.reduceAdd, Nat.reduceSub, Array.replicate_succ, Array.replicate_zero, List.push_toArray, List.append_toArray, List.nil_append, List.cons_append]
  gi_wp2_with (first
    | (gi_at_range; refine wpListIn_range_own _ rfl _ 52 rfl 58 3 keyed58 Try.underlying52 _ b nn _ rfl hown ?_; intro w0 hrg0 hg0 hs0)
    | gi_in)
  go_frame
  gi_loopw [3] (fun _ wr => ∃ (left : Lit → Bool) (cnt : Nat) (ss : List K3o), wr.ranges Try.prog 58 (plainElem Try.prog 3) b W.heap.size nn D left cnt ∧ ss.length + cnt ≤ Maps.size D ∧ Coll16 D left ss ∧ J ss wr)
    (fun _ wr => wr.rangeLeft b W.heap.size)
  case atStart =>
    exact ⟨_, _, [], hrg0, by simp, Coll16.start D, hJ [] W w0 none h0 hg0 (fun r e => by cases e)⟩
  case round =>
    obtain ⟨left, cnt, ss, hrg, hcs, hC, hJs⟩ := hrel
    gi_wp2_with (first
      | (gi_at_next; refine wpListIn_next_ranges _ rfl _ rfl 58 keyed58 (plainElem Try.prog 3) K3.v id (fun key kl hk => by obtain ⟨x, -, hx, -⟩ := keyOf16_inv hk; exact ⟨x, hx⟩) (fun v _ _ => ⟨v, rfl⟩) b W.heap.size nn _ _ _ rfl hrg ?_ ?_)
      | gi_in)
    · -- nothing is left
      intro hc0 hl0
      gi_wp2
      go_end0
      exact ⟨⟨_, rfl⟩, .inl ⟨ss, ⟨⟨hC.1, fun x => by rw [hC.2 x, hl0]; simp⟩, by omega⟩, hJs⟩⟩
    · -- an entry has come
      intro x c kl yd yp w2 cnt2 hkey hlk hv hat hrg2 hlt hg2 hs2 hen
      obtain ⟨x', hx', ex, rfl⟩ := keyOf16_inv hkey
      obtain rfl : x = x' := K3.v_inj ex
      have hJ2 : J ss w2 := hJ ss wr w2 (some W.heap.size) hJs hg2 (fun r e => by cases e; exact ⟨Nat.le_refl _, hrg.iter_walk⟩)
      have hJ3 : J ss (w2.alloc (.cells #[.string x.cur, .int .i64 x.kind, .int .i64 x.when_] 58)) := hJ ss w2 _ none hJ2 (World.grownBy_alloc _ _ none) (fun r e => by cases e)
      obtain ⟨fn, tmps, assign, body, hy, hR⟩ := hY ss ⟨x, hx'⟩ _ hJ3 (by omega)
      have hC2 := hC.step ⟨x, hx'⟩ hlk (Go.Maps.has_true_of_atKey hat)
      clear hs2 hJs hg2 hat hv hJ2 hJ3
      obtain ⟨kc, kk, kw⟩ := x
      unfold K3.v at hen hy
      simp only at hen hy hR
      gi_wp2
      refine hR.mono ?_
      rintro e W3 (⟨rfl, hJ3, hk3⟩ | ⟨rfl, hJx3⟩)
      · have hrg3 := hrg2.of_walks ((KeepsWalks.alloc _ _).trans hk3)
        gi_wp2
        go_roundw
        case rel => exact ⟨_, cnt2, _, hrg3, by simp; omega, hC2, hJ3⟩
        case measure => rw [hrg3.left_eq, hrg.left_eq]; exact hlt
      · gi_wp2
        refine bodyPost_ret (results_none rfl _ _ _) rfl ?_
        exact ⟨⟨_, rfl⟩, .inr ⟨_, trivial, hJx3⟩⟩

theorem keys16_stops (n : Nat) (hn : 1 ≤ n) (Bm b nn : Nat) (D : DataW Unit) (w : World)
    (hm : w.cell? ⟨Bm, 0, none⟩ = some (.map (some b))) (hown : w.ownsMap Try.prog 58 (plainElem Try.prog 3) b nn D) :
    SeqStopsK Fence.wide n Try.prog 48 #[.pointer (some ⟨Bm, 0, none⟩)] (fun x : K3o => #[x.1.v]) KeepsWalks
      (fun ss => (ss.Nodup ∧ ∀ x : K3o, x ∈ ss ↔ Maps.has D x.1.l = true) ∧ ss.length ≤ Maps.size D) (fun _ => True) (Maps.size D) w := fun l J Jx W hW hJ _ hY h0 => by
  have hm' := (hW.cell (p := ⟨Bm, 0, none⟩) (World.block_lt_of_cell? w ⟨Bm, 0, none⟩ hm)).trans hm
  have hown' : W.ownsMap Try.prog 58 (plainElem Try.prog 3) b nn D := by
    have hbl := hown.lt
    obtain ⟨es, clock, hb, Ft, hs, hD⟩ := hown
    exact ⟨es, clock, (hW.block b hbl).trans hb, Ft, hs, hD⟩
  exact keys16_in n hn l Bm b nn D J Jx hY W hJ hm' hown' h0
end Go.Proofs.Ytmlekhkgokgpbaa
