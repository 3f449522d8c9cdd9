/- Program independent: one deferred call of a builtin (defer delete(m, k)), made when the function returns. -/
import Derived.Test.YtmmeieangbcfaaaBase
import Derived.Defers
namespace Go.Proofs.Ytmmeieangbcfaaa
open Go.RowKit Go

theorem step_deferB {P : Program} {fr : Frame} {cs : List Frame} {w w' : World} {d : Deferred} {ds : List Deferred} {b : Builtin} {ts : Array TypeId} {ty : TypeId} {k : Array Bool} {x : Value}
    (hm : fr.mode ≠ .run) (hd : fr.defers = d :: ds) (ht : d.target = .builtin b ts ty k) (hi : (invoke d.target d.args).run P w = .ok (.value x) w') :
    step P (lone fr cs w) = .next (lone { fr with defers := ds } cs w') := by
  obtain ⟨t, a⟩ := d
  simp only at ht hi
  subst ht
  refine step_lone_go ?_
  cases hmode : fr.mode with
  | run => exact absurd hmode hm
  | returning => simp [stepG, unwind, callDeferred, hmode, hd, hi]
  | panicking chain => simp [stepG, unwind, callDeferred, hmode, hd, hi]
/-- The end of a function that may have deferred one call of a builtin. -/
def LeavesB (P : Program) (fn : Func) (tmps : Array Value) (R : Ending → World → Prop) : List Deferred → World → Prop
  | [], w => ∃ v, (results fn tmps).run P w = .ok v w ∧ R (.returned v) w
  | [d], w => ∃ b ts ty k x w', d.target = .builtin b ts ty k ∧ (invoke d.target d.args).run P w = .ok (.value x) w' ∧ ∃ v, (results fn tmps).run P w' = .ok v w' ∧ R (.returned v) w'
  | _, _ => False
def bodyPostB (P : Program) (fn : Func) (R : Ending → World → Prop) : Exit → Act → World → Prop
  | .normal, a, w | .ret, a, w => LeavesB P fn a.tmps R a.defers w
  | .outgrown, _, w => R .outgrown w
  | _, _, _ => False
theorem leavesB_steps {P : Program} {fn : Func} {tmps : Array Value} {R : Ending → World → Prop} (ds : List Deferred) (w : World) (fr : Frame) (cs : List Frame) (hu : fr.mode = .returning) (hd : fr.defers = ds) (ht : fr.tmps = tmps) (hf : P.funcs[fr.fn]? = some fn) (hk : fr.kind = .normal)
    (h : LeavesB P fn tmps R ds w) : ∃ e w' fr', R e w' ∧ Comes P (lone fr cs w) (lone fr' cs w') e ∧ fr'.fn = fr.fn ∧ fr'.leaving P w' e := by
  match ds, h with
  | [], ⟨v, hr, hR⟩ => exact ⟨.returned v, w, fr, hR, Steps.refl P _, rfl, hu, hd, hk, fn, hf, ht ▸ hr⟩
  | [d], ⟨b, ts, ty, k, x, w', htar, hinv, v, hr, hR⟩ =>
    have h1 := step_deferB (cs := cs) (by rw [hu]; intro h; cases h) hd htar hinv
    exact ⟨.returned v, w', { fr with defers := [] }, hR, .one h1, rfl, hu, rfl, hk, fn, hf, ht ▸ hr⟩
theorem calls_of_wp_deferB {P : Program} {f : FuncId} {fn : Func} {c : Code} {args : Array Value} {w : World} {R : Ending → World → Prop}
    (hf : P.funcs[f]? = some fn) (hb : fn.body = some c)
    (h : c.wp P (bodyPostB P fn R) { tmps := args ++ Array.replicate (fn.ntmps - args.size) undef, defers := [] } w) : Calls P f args w R := by
  intro cs
  let b : Frame := { (default : Frame) with fn := f, kind := .normal }
  have henter : Frame.enter P f args .normal =
      b.at { tmps := args ++ Array.replicate (fn.ntmps - args.size) undef, defers := [] } [.code c] := by
    simp [Frame.enter, Frame.at, hf, hb, b]
  obtain ⟨e, a', w', hq, harr⟩ := h b [] cs
  rw [← henter] at harr
  cases e with
  | normal =>
    obtain ⟨e', w'', fr', hR, hs, hfn, hl⟩ := leavesB_steps a'.defers w' { b.at a' [] with mode := .returning } cs rfl rfl rfl hf rfl hq
    exact ⟨e', w'', fr', hR, Comes.of_steps (Steps.trans harr (.one step_end)) hs, hfn, hl⟩
  | ret =>
    obtain ⟨todo, hs₀⟩ := harr
    obtain ⟨e', w'', fr', hR, hs, hfn, hl⟩ := leavesB_steps a'.defers w' { b.at a' todo with mode := .returning } cs rfl rfl rfl hf rfl hq
    exact ⟨e', w'', fr', hR, Comes.of_steps hs₀ hs, hfn, hl⟩
  | panic chain => exact hq.elim
  | exit id => exact hq.elim
  | goto l => exact hq.elim
  | outgrown => exact ⟨.outgrown, w', b, hq, harr.resolve_left (by simp [b]), rfl, trivial⟩
end Go.Proofs.Ytmmeieangbcfaaa
