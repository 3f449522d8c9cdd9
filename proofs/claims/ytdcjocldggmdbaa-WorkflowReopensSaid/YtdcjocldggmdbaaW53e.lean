/- Layer 53: keys as keys of maps; who signed. -/
import Derived.Test.YtdcjocldggmdbaaW53d
import Derived.Test.YtdcjocldggmdbaaMapG
import Derived.DeepKeys5
set_option linter.unusedSimpArgs false
set_option maxRecDepth 50000
namespace Go.Proofs.Ytdcjocldggmdbaa
open Go.RowKit Go

theorem laidOut53 : laidOutB Try.prog = true := by kernel_rfl
theorem rowK : (53 : TypeId) < Try.prog.types.size := of_decide_eq_true (by kernel_rfl)
theorem wideK : (match Try.prog.underlying 53 with | some (.array _ _) | some (.struct _) => true | _ => false) = true := by kernel_rfl
theorem lawK : WideMaps.KeyLaw Try.prog 53 := deep_law_laid laidOut53 (m := 2) (by omega) rowK (by kernel_rfl) wideK
theorem tiledK : Try.prog.tiled 2 53 = true := by kernel_rfl
theorem Ky.lit (x : Ky) (h : x.ok) : ∃ l, keyOf Try.prog 53 x.v = some l := by
  obtain ⟨c, k, w⟩ := x
  obtain ⟨h1, h2, h3⟩ := h
  have hkt : Try.prog.keyType 53 = true := by kernel_rfl
  have hco : Try.prog.cellsOf 53 = 3 := by kernel_rfl
  have hc9 : Try.prog.cellsOf 9 = 1 := by kernel_rfl
  have hc3 : Try.prog.cellsOf 3 = 1 := by kernel_rfl
  have hfm : (Ky.v ⟨c, k, w⟩).formed Try.prog 53 = true := by simp [Ky.v, Value.formed, Try.underlying53, hco]
  obtain ⟨n, hn⟩ : ∃ n, Try.prog.types.size = n + 1 := ⟨Try.prog.types.size - 1, by have : 0 < Try.prog.types.size := of_decide_eq_true (by kernel_rfl); omega⟩
  refine ⟨.string (keyBytes [.string c.data.toList, .int .i64 k, .int .i64 w]), ?_⟩
  unfold keyOf
  simp only [Try.underlying53, hkt, hfm, Bool.and_self, if_true, hn]
  simp only [Ky.v, Value.cells, Program.keyLits, Try.underlying53, Try.underlying9, Try.underlying3, hco, hc9, hc3]
  simp at h1 h2 h3
  simp [Program.keyLits, Try.underlying9, Try.underlying3, hc9, hc3, h1, h2, h3]
noncomputable def Ky.l (x : Ky) : Lit := (keyOf Try.prog 53 x.v).getD (.bool false)
theorem Ky.l_eq (x : Ky) (h : x.ok) : keyOf Try.prog 53 x.v = some x.l := by
  obtain ⟨l, hl⟩ := x.lit h
  rw [Ky.l, hl]; rfl
theorem Ky.v_inj {x y : Ky} (h : x.v = y.v) : x = y := by
  obtain ⟨a, b, c⟩ := x
  obtain ⟨a', b', c'⟩ := y
  simp only [Ky.v, Value.agg.injEq] at h
  simpa using h
noncomputable def keyK : KeyS Try.prog 53 Ky where
  K := Maps.Keyed.of_law lawK
  v := Ky.v
  ok := Ky.ok
  l := Ky.l
  hl := Ky.l_eq
  inj := fun x y hx hy h => by
    have h1 := x.l_eq hx
    rw [h] at h1
    exact Ky.v_inj (keyOf_inj_deep tiledK wideK h1 (y.l_eq hy))
/-- Strings as elements. -/
noncomputable def strE : ElS Try.prog 9 ByteArray where
  R := plainElem Try.prog 9
  v := .string
  d := fun s => .lit (.string s.data.toList)
  gd := fun s => s.size ≤ maxLen
  z := ⟨#[]⟩
  hR := fun a h => plainElem_string Try.underlying9 h
  hz := by decide
  inv := fun u a ps h => by
    unfold plainElem at h
    rw [Try.underlying9] at h
    cases u <;> simp at h
    rename_i s
    rw [show s = a from ByteArray.ext h.2.1]
  zero := fun _ => by kernel_rfl
/-- The map of what is signed. -/
def MapS (w : World) (b m : Nat) (f : Ky → Option ByteArray) : Prop := MapG keyK strE w b m f
theorem key_eql (w : World) (x y : Ky) : Sem.run Try.prog (binOp .eql 53 x.v y.v) w = .ok (.bool (decide (x = y))) w := by
  obtain ⟨c, k, u⟩ := x
  obtain ⟨d, m, v⟩ := y
  have u3 := Try.underlying3
  have u9 := Try.underlying9
  have hS : Try.prog.underlying 53 = some (.struct (Try.prog.fieldsOf 53)) := by kernel_rfl
  have hp : Try.prog.stoodInHeld 53 = false := by kernel_rfl
  unfold Ky.v
  rw [run_eql_struct, show (10000 : Nat) = 9999 + 1 from rfl, run_equalIn_agg w 9999 53 _ _ hS hp]
  simp only [Program.fieldsOf, Try.underlying53]
  go_simp
  have hcl : c.toList = d.toList ↔ c = d := by
    have h := strB c d
    rw [Bool.eq_iff_iff] at h
    simpa using h
  by_cases h1 : c = d <;> by_cases h2 : k = m <;> by_cases h3 : u = v <;> simp [hcl, h1, h2, h3]
end Go.Proofs.Ytdcjocldggmdbaa
