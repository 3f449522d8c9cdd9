/- Layer 48: cells as keys of maps; the memo's two maps; formulas in memory. -/
import Derived.Test.YtmmeieangbcfaaaMapG
import Derived.Test.YtmmeieangbcfaaaProg
import Derived.Test.YtmmeieangbcfaaaP48
import Derived.DeepKeys5
set_option linter.unusedSimpArgs false
set_option maxRecDepth 50000
namespace Go.Proofs.Ytmmeieangbcfaaa
open Go.RowKit Go

theorem laidOut48 : laidOutB Try.prog = true := by kernel_rfl
theorem rowC : (26 : TypeId) < Try.prog.types.size := of_decide_eq_true (by kernel_rfl)
theorem wideC : (match Try.prog.underlying 26 with | some (.array _ _) | some (.struct _) => true | _ => false) = true := by kernel_rfl
theorem lawC : WideMaps.KeyLaw Try.prog 26 := deep_law_laid laidOut48 (m := 2) (by omega) rowC (by kernel_rfl) wideC
theorem tiledC : Try.prog.tiled 2 26 = true := by kernel_rfl
theorem C4.lit (x : C4) (h : x.ok) : ∃ l, keyOf Try.prog 26 x.v = some l := by
  obtain ⟨a, b, c, d⟩ := x
  obtain ⟨h1, h2, h3, h4⟩ := h
  have hkt : Try.prog.keyType 26 = true := by kernel_rfl
  have hco : Try.prog.cellsOf 26 = 4 := by kernel_rfl
  have hc3 : Try.prog.cellsOf 3 = 1 := by kernel_rfl
  have hfm : (C4.v ⟨a, b, c, d⟩).formed Try.prog 26 = true := by simp [C4.v, Value.formed, Try.underlying26, hco]
  obtain ⟨n, hn⟩ : ∃ n, Try.prog.types.size = n + 1 := ⟨Try.prog.types.size - 1, by have : 0 < Try.prog.types.size := of_decide_eq_true (by kernel_rfl); omega⟩
  refine ⟨.string (keyBytes [.int .i64 a, .int .i64 b, .int .i64 c, .int .i64 d]), ?_⟩
  unfold keyOf
  simp only [Try.underlying26, hkt, hfm, Bool.and_self, if_true, hn]
  simp only [C4.v, Value.cells, Program.keyLits, Try.underlying26, Try.underlying3, hco, hc3]
  simp at h1 h2 h3 h4
  simp [Program.keyLits, Try.underlying3, hc3, h1, h2, h3, h4]
noncomputable def C4.l (x : C4) : Lit := (keyOf Try.prog 26 x.v).getD (.bool false)
theorem C4.l_eq (x : C4) (h : x.ok) : keyOf Try.prog 26 x.v = some x.l := by
  obtain ⟨l, hl⟩ := x.lit h
  rw [C4.l, hl]; rfl
theorem C4.v_inj {x y : C4} (h : x.v = y.v) : x = y := by
  obtain ⟨a, b, c, d⟩ := x
  obtain ⟨a', b', c', d'⟩ := y
  simp only [C4.v, Value.agg.injEq] at h
  simpa using h
noncomputable def cellK : KeyS Try.prog 26 C4 where
  K := Maps.Keyed.of_law lawC
  v := C4.v
  ok := C4.ok
  l := C4.l
  hl := C4.l_eq
  inj := fun x y hx hy h => by
    have h1 := x.l_eq hx
    rw [h] at h1
    exact C4.v_inj (keyOf_inj_deep tiledC wideC h1 (y.l_eq hy))
noncomputable def boolE : ElS Try.prog 4 Bool := boolEl Try.underlying4 (fun _ => by kernel_rfl)
noncomputable def entE : ElS Try.prog 70 (Option Nat) := ptrEl (fun _ => by kernel_rfl)
/-- The map of kept cells, of cells in progress. -/
def MapE (w : World) (b m : Nat) (f : C4 → Option Nat) : Prop := MapG cellK entE w b m (fun c => (f c).map some)
def MapPr (w : World) (b m : Nat) (f : C4 → Bool) : Prop := MapG cellK boolE w b m (fun c => if f c = true then some true else none)
theorem MapE.look {w : World} {b m : Nat} {f : C4 → Option Nat} (h : MapE w b m f) (c : C4) (hc : c.ok) : Sem.run Try.prog (Instr.lookup 64 (.map (some b)) c.v false) w = .ok (ptrV (f c)) w := by
  have e : ((f c).map some).getD none = f c := by cases f c <;> rfl
  have := MapG.look1 h Try.underlying64 c hc
  rw [show entE.v (((f c).map some).getD entE.z) = ptrV (f c) from congrArg ptrV e] at this
  exact this
theorem MapPr.look {w : World} {b m : Nat} {f : C4 → Bool} (h : MapPr w b m f) (c : C4) (hc : c.ok) : Sem.run Try.prog (Instr.lookup 65 (.map (some b)) c.v false) w = .ok (.bool (f c)) w := by
  have e : (if f c = true then some true else none).getD false = f c := by cases f c <;> rfl
  have := MapG.look1 h Try.underlying65 c hc
  rw [show boolE.v ((if f c = true then some true else none).getD boolE.z) = .bool (f c) from congrArg Value.bool e] at this
  exact this
theorem MapE.store {w : World} {b m : Nat} {f : C4 → Option Nat} (h : MapE w b m f) (hm : m ≤ most) (c : C4) (hc : c.ok) (e : Nat) :
    ∃ w', Sem.run Try.prog (Instr.mapUpdate 64 (.map (some b)) c.v (.pointer (some ⟨e, 0, none⟩))) w = .ok () w' ∧ MapE w' b (if (f c).isSome then m else m + 1) (upd f c (some e)) ∧ w.mapTurned w' b := by
  obtain ⟨w', h1, h2, h3⟩ := MapG.store h Try.underlying64 (by unfold most at hm; simp [maxLen]; omega) c hc (some e) trivial
  refine ⟨w', h1, ?_, h3⟩
  rw [Option.isSome_map] at h2
  refine MapG.congr h2 (fun x _ => ?_)
  unfold upd
  split <;> rfl
theorem MapE.drop {w : World} {b m : Nat} {f : C4 → Option Nat} (h : MapE w b m f) (c : C4) (hc : c.ok) (ty : TypeId) :
    ∃ w', Sem.run Try.prog (Builtin.delete_ #[64, 26] ty #[.map (some b), c.v]) w = .ok (.tuple #[]) w' ∧ MapE w' b (if (f c).isSome then m - 1 else m) (upd f c none) ∧ w.mapTurned w' b := by
  obtain ⟨w', h1, h2, h3⟩ := MapG.drop h Try.underlying64 c hc ty
  refine ⟨w', h1, ?_, h3⟩
  rw [Option.isSome_map] at h2
  refine MapG.congr h2 (fun x _ => ?_)
  unfold upd
  split <;> rfl
theorem MapPr.store {w : World} {b m : Nat} {f : C4 → Bool} (h : MapPr w b m f) (hm : m ≤ most) (c : C4) (hc : c.ok) :
    ∃ w', Sem.run Try.prog (Instr.mapUpdate 65 (.map (some b)) c.v (.bool true)) w = .ok () w' ∧ MapPr w' b (if f c = true then m else m + 1) (upd f c true) ∧ w.mapTurned w' b := by
  obtain ⟨w', h1, h2, h3⟩ := MapG.store h Try.underlying65 (by unfold most at hm; simp [maxLen]; omega) c hc true trivial
  refine ⟨w', h1, ?_, h3⟩
  have e : (if (if f c = true then some true else none : Option Bool).isSome then m else m + 1) = (if f c = true then m else m + 1) := by cases f c <;> rfl
  rw [e] at h2
  refine MapG.congr h2 (fun x _ => ?_)
  unfold upd
  by_cases hx : x = c
  · simp [hx]
  · simp [hx]
theorem MapPr.drop {w : World} {b m : Nat} {f : C4 → Bool} (h : MapPr w b m f) (c : C4) (hc : c.ok) (ty : TypeId) :
    ∃ w', Sem.run Try.prog (Builtin.delete_ #[65, 26] ty #[.map (some b), c.v]) w = .ok (.tuple #[]) w' ∧ MapPr w' b (if f c = true then m - 1 else m) (upd f c false) ∧ w.mapTurned w' b := by
  obtain ⟨w', h1, h2, h3⟩ := MapG.drop h Try.underlying65 c hc ty
  refine ⟨w', h1, ?_, h3⟩
  have e : (if (if f c = true then some true else none : Option Bool).isSome then m - 1 else m) = (if f c = true then m - 1 else m) := by cases f c <;> rfl
  rw [e] at h2
  refine MapG.congr h2 (fun x _ => ?_)
  unfold upd
  by_cases hx : x = c
  · simp [hx]
  · simp [hx]
end Go.Proofs.Ytmmeieangbcfaaa
