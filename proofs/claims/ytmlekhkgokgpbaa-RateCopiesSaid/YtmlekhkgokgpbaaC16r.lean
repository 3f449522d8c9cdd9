/- Layer 16: slices.AppendSeq and slices.Collect of the keys. -/
import Derived.Test.YtmlekhkgokgpbaaC16q
import Derived.RangeFuncNested
set_option linter.unusedSimpArgs false
namespace Go.Proofs.Ytmlekhkgokgpbaa
open Go.RowKit Go Go.Shelf
attribute [local go_sem] Oper.semAt_some

abbrev keyT : Ty := .pr .str (.pr (.int .i64) (.pr (.int .i64) .un))
def K3.d (x : K3) : keyT.den := (x.cur, x.kind, x.when_, ())
theorem info_key : (Try.prog.info? 58).map (fun i => (i.zero, i.size, i.bytes)) = some (some (.agg #[.string ByteArray.empty, .int .i64 0, .int .i64 0]), 3, 32) := by kernel_rfl
theorem K3.rd {S : Nat → Prop} {w : World} (x : K3) (h : x.ok) : Rd keyT S w [.string x.cur, .int .i64 x.kind, .int .i64 x.when_] x.d :=
  ⟨[_], [_, _], rfl, ⟨rfl, h.1⟩, [_], [_], rfl, ⟨rfl, h.2.1⟩, [_], [], rfl, ⟨rfl, h.2.2⟩, rfl⟩

/-- What the loop over the keys does to the world. -/
def Col16 (B T : Nat) (w : World) (xs : List K3o) (W : World) : Prop :=
  ∃ v, Boxed W T 60 v ∧ Owns keyT 58 B (fun _ => False) W v (xs.map (fun x => x.1.d)) ∧ Below B w W ∧ v.ownBlock ≠ some T
theorem Col16.ownFrom (B T D : Nat) (w : World) (hB : B ≤ w.heap.size) (hD : B ≤ D) : OwnFrom D (Col16 B T w) := by
  intro s W W' row h hg hr
  obtain ⟨v, hb, ho, hbel, hne⟩ := h
  have hrow : ∀ (k : Nat) (o : Obj), W.heap[k]? = some o → o.isCells = true → W'.heap[k]? = W.heap[k]? := by
    intro k o hk ho'
    refine hg.block k (Array.getElem?_eq_some_iff.1 hk).1 (fun e => ?_)
    obtain ⟨_, o', ho', hc'⟩ := hr k e.symm
    rw [hk] at ho'
    cases ho'
    simp_all
  refine ⟨v, (hrow T _ hb rfl).trans hb, ho.keep (fun b hb' => ?_) hg.size, ?_, hne⟩
  · rcases hb' with hb' | hb'
    · exact hb'.elim
    · obtain ⟨o, h1, h2⟩ := ho.row_cells b hb'
      exact hrow b o h1 h2
  · exact ownFrom_below (β := Unit) (n₀ := B) (B := D) (w₀ := w) hB hD () W W' row hbel hg hr

set_option maxRecDepth 100000 in
set_option maxHeartbeats 2000000 in
theorem AppendSeq16 (Bm b nn : Nat) (D : DataW Unit) (w : World) (hsz : Maps.size D ≤ 1000000)
    (hm : w.cell? ⟨Bm, 0, none⟩ = some (.map (some b))) (hown : w.ownsMap Try.prog 58 (plainElem Try.prog 3) b nn D) :
    Calls Try.prog 54 #[.slice none 0 0, .func (.func 48) #[] #[.pointer (some ⟨Bm, 0, none⟩)]] w fun e w' =>
      ∃ v, ∃ ss : List K3o, e = .returned v ∧ ((ss.Nodup ∧ ∀ x : K3o, x ∈ ss ↔ Maps.has D x.1.l = true) ∧ ss.length ≤ Maps.size D) ∧ Owns keyT 58 w.heap.size (fun _ => False) w' v (ss.map (fun x => x.1.d)) ∧ Below w.heap.size w w' := by
  refine (callsIn_wide (n := 9)).1 ?_
  refine callsIn_of_wp_marks Try.func54 rfl trivial ?_ rfl
  simp only [Try.ntmps54, List.size_toArray, List.length_cons, List.length_nil, Nat.reduceAdd, Nat.reduceSub, Array.replicate_succ, Array.replicate_zero, List.push_toArray, List.append_toArray, List.nil_append, List.cons_append]
  gi_wp2
  have bS := Boxed.new w 60 (.slice none 0 0)
  have hB0 : Below w.heap.size w (w.alloc (.cells #[.slice none 0 0] 60)) := (Below.refl _ w).alloc (Nat.le_refl _) _
  have hm1 := (World.cell?_of_block (w := w) (a := ⟨Bm, 0, none⟩) (hB0.block Bm (World.block_lt_of_cell? w ⟨Bm, 0, none⟩ hm))).trans hm
  have hown1 : (w.alloc (.cells #[.slice none 0 0] 60)).ownsMap Try.prog 58 (plainElem Try.prog 3) b nn D := by
    have hbl := hown.lt
    obtain ⟨es, clock, hb, Ft, hs, hD⟩ := hown
    exact ⟨es, clock, (hB0.block b hbl).trans hb, Ft, hs, hD⟩
  refine wpIn_rangeFunc_ownH rfl (by omega) (gf := 48) (lb := #[.pointer (some ⟨Bm, 0, none⟩)]) rfl trivial (enters_of Try.func48 (by kernel_rfl) rfl)
    (keys16_stops (9 - 1) (by omega) Bm b nn D _ hm1 hown1) (fun h k => h.trans k) (fun W l o o' _ hl _ hw => KeepsWalks.putObj o' hl hw) (Below.refl _ _) (fun _ => rfl)
    (Col16 w.heap.size w.heap.size w) (fun _ _ _ => False) (Col16.ownFrom _ _ _ _ (Nat.le_refl _) (by simp)) (fun _ _ _ _ _ hs _ _ => hs)
    ⟨_, bS, (Owns.nil _ _ _ _), hB0, by simp [Value.ownBlock]⟩
    (fun x a' W => ∃ Bx, W.heap[Bx]? = some (.cells #[.string x.1.cur, .int .i64 x.1.kind, .int .i64 x.1.when_] 58 (0, 0)) ∧ a' = { tmps := #[.slice none 0 0, .func (.func 48) #[] #[.pointer (some ⟨Bm, 0, none⟩)], .pointer (some ⟨w.heap.size, 0, none⟩), undef, .slice none 0 0, .pointer (some ⟨Bx, 0, none⟩), .func (.func 48) #[] #[.pointer (some ⟨Bm, 0, none⟩)], .agg #[.string x.1.cur, .int .i64 x.1.kind, .int .i64 x.1.when_], undef, undef, undef, undef, undef], defers := [] })
    (fun x a' _ X Y row hs hg hr => by
      obtain ⟨Bx, h2, h3⟩ := hs
      refine ⟨Bx, (hg.block Bx (Array.getElem?_eq_some_iff.1 h2).1 (fun e => ?_)).trans h2, h3⟩
      obtain ⟨_, o, ho, hc⟩ := hr Bx e.symm
      rw [h2] at ho; cases ho; cases hc)
    ?assign ?body ?done ?stop
  case assign =>
    rintro l pre x W K hI hK
    obtain ⟨x, hx⟩ := x
    obtain ⟨kc, kk, kw⟩ := x
    unfold K3.v
    gi_wp2
    refine hK _ _ ((KeepsOthers.alloc _ _).from _) (KeepsWalks.alloc _ _) ?_ ⟨W.heap.size, World.alloc_heap_new W _, rfl⟩
    exact Col16.ownFrom _ _ (w.heap.size + 1) _ (Nat.le_refl _) (by omega) _ W _ none hI (World.grownBy_alloc _ _ none) (fun r e => by cases e)
  case body =>
    rintro l pre x a' W hl ⟨r, hr⟩ ⟨v, hv, hO, hB, hne⟩ ⟨Bx, hBx, rfl⟩ hlt
    obtain ⟨x, hx⟩ := x
    obtain ⟨kc, kk, kw⟩ := x
    have hc := hv.cell
    have hf := hv.frozen
    clear hr
    have c0 := blk_cell hBx 0
    have c1 := blk_cell hBx 1
    have c2 := blk_cell hBx 2
    simp at c0 c1 c2
    gi_wp2_with (gi_at_builtin; go_must (refine wpListIn_app _ rfl _ _ 60 rfl (e := keyT) (te := 58) info_key Try.underlying60 rfl (by decide) (v := v) rfl (Owns.alloc hO _) (by have := hB.size; simp only [World.size_alloc]; omega) rfl (ys := [K3.d ⟨kc, kk, kw⟩]) (Src.new _ [_, _, _] _ _ _) (RdL.one (K3.rd ⟨kc, kk, kw⟩ hx)) (by simp; omega) (by simp; omega) ?_; intro v' w1 O1 g1 _ hob; clear hc hf; have hb1 : Boxed w1 w.heap.size 60 v := (hv.alloc _).kept g1 (fun e => hne e.symm); have hc1 := hb1.cell; have hf1 := hb1.frozen; obtain ⟨av, lv, capv, rfl, hl, _⟩ := O1.slice; have HL := Lib.hid hl; clear hl))
    obtain ⟨h1, h2, h3, h4, h5, h6⟩ := box_app hv hO hne (Nat.le_refl _) g1 O1 hob hB (Nat.le_refl _) (fun _ h => h.elim)
    exact ⟨h1.from _, h1.walks, _, h3, by simpa using h4, h5, h6⟩
  case done =>
    rintro D' ys W hD hS ⟨v, hv, hO, hB, _⟩ hK
    have hc := hv.cell
    obtain ⟨av, lv, capv, rfl, hl, _⟩ := hO.slice
    have HL := Lib.hid hl
    have HS := Lib.hid hS
    clear hl hS
    gi_wp2
    refine ⟨by simp, .inl ⟨_, _, rfl, run_takeDeferred hK, ?_⟩⟩
    refine ⟨_, results_tmp rfl _ _ _, _, ys, rfl, HS.out, ?_, hB.trans (belowK_b (w := w) (Nat.le_refl _) W D' _ _ (by simp at hD; omega) hK rfl rfl)⟩
    refine hO.keep (fun b hb => World.putObj_heap_other ?_) (by simp)
    rcases hb with hb | hb
    · exact hb.elim
    · obtain ⟨o, h1, h2⟩ := hO.row_cells b hb
      intro e
      subst e
      rw [hK] at h1
      cases h1
      cases h2
  case stop =>
    rintro D' c pre W _ _ h _
    exact h.elim
end Go.Proofs.Ytmlekhkgokgpbaa
