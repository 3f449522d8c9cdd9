/- Layer 53: keys as keys of maps; who signed. -/
import Derived.Test.YtlfloekanfhlfaaGreatW53d
import Derived.Test.YtlfloekanfhlfaaGreatMapG
import Derived.DeepKeys5
set_option linter.unusedSimpArgs false
set_option maxRecDepth 50000
namespace Go.Proofs.YtlfloekanfhlfaaGreat
open Go.RowKit Go

theorem laidOut53 : laidOutB Tryz.prog = true := by kernel_rfl
theorem rowK : (42 : TypeId) < Tryz.prog.types.size := of_decide_eq_true (by kernel_rfl)
theorem wideK : (match Tryz.prog.underlying 42 with | some (.array _ _) | some (.struct _) => true | _ => false) = true := by kernel_rfl
theorem lawK : WideMaps.KeyLaw Tryz.prog 42 := deep_law_laid laidOut53 (m := 2) (by omega) rowK (by kernel_rfl) wideK
theorem tiledK : Tryz.prog.tiled 2 42 = true := by kernel_rfl
theorem Ky.lit (x : Ky) (h : x.ok) : ∃ l, keyOf Tryz.prog 42 x.v = some l := by
  obtain ⟨c, k, w⟩ := x
  obtain ⟨h1, h2, h3⟩ := h
  have hkt : Tryz.prog.keyType 42 = true := by kernel_rfl
  have hco : Tryz.prog.cellsOf 42 = 3 := by kernel_rfl
  have hc9 : Tryz.prog.cellsOf 9 = 1 := by kernel_rfl
  have hc3 : Tryz.prog.cellsOf 3 = 1 := by kernel_rfl
  have hfm : (Ky.v ⟨c, k, w⟩).formed Tryz.prog 42 = true := by simp [Ky.v, Value.formed, Tryz.underlying42, hco]
  obtain ⟨n, hn⟩ : ∃ n, Tryz.prog.types.size = n + 1 := ⟨Tryz.prog.types.size - 1, by have : 0 < Tryz.prog.types.size := of_decide_eq_true (by kernel_rfl); omega⟩
  refine ⟨.string (keyBytes [.string c.data.toList, .int .i64 k, .int .i64 w]), ?_⟩
  unfold keyOf
  simp only [Tryz.underlying42, hkt, hfm, Bool.and_self, if_true, hn]
  simp only [Ky.v, Value.cells, Program.keyLits, Tryz.underlying42, Tryz.underlying9, Tryz.underlying3, hco, hc9, hc3]
  simp at h1 h2 h3
  simp [Program.keyLits, Tryz.underlying9, Tryz.underlying3, hc9, hc3, h1, h2, h3]
noncomputable def Ky.l (x : Ky) : Lit := (keyOf Tryz.prog 42 x.v).getD (.bool false)
theorem Ky.l_eq (x : Ky) (h : x.ok) : keyOf Tryz.prog 42 x.v = some x.l := by
  obtain ⟨l, hl⟩ := x.lit h
  rw [Ky.l, hl]; rfl
theorem Ky.v_inj {x y : Ky} (h : x.v = y.v) : x = y := by
  obtain ⟨a, b, c⟩ := x
  obtain ⟨a', b', c'⟩ := y
  simp only [Ky.v, Value.agg.injEq] at h
  simpa using h
noncomputable def keyK : KeyS Tryz.prog 42 Ky where
  K := Maps.Keyed.of_law lawK
  v := Ky.v
  ok := Ky.ok
  l := Ky.l
  hl := Ky.l_eq
  inj := fun x y hx hy h => by
    have h1 := x.l_eq hx
    rw [h] at h1
    exact Ky.v_inj (keyOf_inj_deep tiledK wideK h1 (y.l_eq hy))
/-- Strings as elements. -/
noncomputable def strE : ElS Tryz.prog 9 ByteArray where
  R := plainElem Tryz.prog 9
  v := .string
  d := fun s => .lit (.string s.data.toList)
  gd := fun s => s.size ≤ maxLen
  z := ⟨#[]⟩
  hR := fun a h => plainElem_string Tryz.underlying9 h
  hz := by decide
  inv := fun u a ps h => by
    unfold plainElem at h
    rw [Tryz.underlying9] at h
    cases u <;> simp at h
    rename_i s
    rw [show s = a from ByteArray.ext h.2.1]
  zero := fun _ => by kernel_rfl
/-- The map of what is signed. -/
def MapS (w : World) (b m : Nat) (f : Ky → Option ByteArray) : Prop := MapG keyK strE w b m f
theorem key_eql (w : World) (x y : Ky) : Sem.run Tryz.prog (binOp .eql 42 x.v y.v) w = .ok (.bool (decide (x = y))) w := by
  obtain ⟨c, k, u⟩ := x
  obtain ⟨d, m, v⟩ := y
  have u3 := Tryz.underlying3
  have u9 := Tryz.underlying9
  have hS : Tryz.prog.underlying 42 = some (.struct (Tryz.prog.fieldsOf 42)) := by kernel_rfl
  have hp : Tryz.prog.stoodInHeld 42 = false := by kernel_rfl
  unfold Ky.v
  rw [run_eql_struct, show (10000 : Nat) = 9999 + 1 from rfl, run_equalIn_agg w 9999 42 _ _ hS hp]
  simp only [Program.fieldsOf, Tryz.underlying42]
  go_simp
  have hcl : c.toList = d.toList ↔ c = d := by
    have h := strB c d
    rw [Bool.eq_iff_iff] at h
    simpa using h
  by_cases h1 : c = d <;> by_cases h2 : k = m <;> by_cases h3 : u = v <;> simp [hcl, h1, h2, h3]
end Go.Proofs.YtlfloekanfhlfaaGreat
