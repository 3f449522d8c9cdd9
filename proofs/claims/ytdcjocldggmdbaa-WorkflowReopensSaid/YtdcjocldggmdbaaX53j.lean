/- Layer 53: the example. -/
import Derived.Test.YtdcjocldggmdbaaX53i
set_option linter.unusedSimpArgs false
namespace Go.Proofs.Ytdcjocldggmdbaa
open Go.RowKit Go

abbrev planT : Ty := .pr (.int .i64) (.pr (.sl taskT) .un)
def bA : ByteArray := ⟨#[97]⟩
def bB : ByteArray := ⟨#[98]⟩
def bX : ByteArray := ⟨#[120]⟩
def tsA : List Tk := [⟨bA, [], false, false⟩, ⟨bB, [bA], false, false⟩]
theorem tsA_valid : ValidT tsA := by
  unfold ValidT TaskOk NeedsOk
  decide +kernel
theorem tsA_at0 : tkAt tsA bA = ⟨bA, [], false, false⟩ := by rfl
theorem tsA_at1 : tkAt tsA bB = ⟨bB, [bA], false, false⟩ := by rfl
theorem tsA_raw0 : rawNeeds tsA 1 ⟨bA, 0, 0⟩ = [] := by simp [rawNeeds, tsA_at0]
theorem tsA_raw1 : rawNeeds tsA 1 ⟨bB, 0, 0⟩ = [⟨bA, 0, 0⟩] := by simp [rawNeeds, needOf, tsA_at0, tsA_at1]
theorem kA_ok : (⟨bA, 0, 0⟩ : Ky).ok := ⟨(by decide : bA.size ≤ maxLen), (by decide : (Lit.int .i64 0).wf = true), (by decide : (Lit.int .i64 0).wf = true)⟩
theorem kB_ok : (⟨bB, 0, 0⟩ : Ky).ok := ⟨(by decide : bB.size ≤ maxLen), (by decide : (Lit.int .i64 0).wf = true), (by decide : (Lit.int .i64 0).wf = true)⟩
theorem needA : NeedOk tsA 1 ⟨bA, 0, 0⟩ := ⟨by decide +kernel, kA_ok, by rw [tsA_at0]; simp, by rw [tsA_raw0]; simp, by rw [tsA_raw0]; exact List.nodup_nil⟩
theorem needB : NeedOk tsA 1 ⟨bB, 0, 0⟩ := ⟨by decide +kernel, kB_ok, by rw [tsA_at1]; decide +kernel, by rw [tsA_raw1]; simp, by rw [tsA_raw1]; simp⟩
theorem sgB : signI tsA 1 12 (fun _ => none) ⟨bB, 0, 0⟩ bX = 7 := by
  unfold signI readyB
  rw [tsA_raw1]
  rw [show checkI tsA ((1 : Nat) : Int) ((12 : Nat) : Int) ⟨bB, 0, 0⟩ = 0 by decide +kernel, show nameB bX = true by decide +kernel]
  rfl
theorem sgA : signI tsA 1 12 (fun _ => none) ⟨bA, 0, 0⟩ bX = 0 := by
  unfold signI readyB
  rw [tsA_raw0]
  rw [show checkI tsA ((1 : Nat) : Int) ((12 : Nat) : Int) ⟨bA, 0, 0⟩ = 0 by decide +kernel, show nameB bX = true by decide +kernel]
  rfl
theorem tsA_rd {w' : World} {b0 b1 : Nat} {t9 t38 : TypeId} (h0 : w'.heap[b0]? = some (.cells #[.string bA] t9 (0, 0)))
    (h1 : w'.heap[b1]? = some (.cells #[.string bA, .slice none 0 0, .bool false, .bool false, .string bB, .slice (some ⟨b0, 0, none⟩) 1 1, .bool false, .bool false] t38 (0, 0))) :
    Rd (.sl taskT) (fun b => b < w'.heap.size) w' [.slice (some ⟨b1, 0, none⟩) 2 2] (tsA.map Tk.d) := by
  have s0 : bA.size ≤ maxLen := by decide
  have s1 : bB.size ≤ maxLen := by decide
  have r0 : Rd (.sl .str) (fun b => b < w'.heap.size) w' [.slice (some ⟨b0, 0, none⟩) 1 1] [bA] := Rd.sl_blk h0 (blk_lt h0) rfl (by decide) (rd_strs [bA] (by simp [s0]))
  have rn : Rd (.sl .str) (fun b => b < w'.heap.size) w' [.slice none 0 0] [] := ⟨none, 0, 0, rfl, rfl, Nat.le_refl _, by decide, .inl rfl⟩
  refine Rd.sl_blk h1 (blk_lt h1) rfl (by decide) ?_
  exact (RdL.one (e := taskT) (task_rd (t := ⟨bA, [], false, false⟩) s0 rn)).append (RdL.one (e := taskT) (task_rd (t := ⟨bB, [bA], false, false⟩) s1 r0))
theorem tsA_ns : ∀ i (hi : i < (tsA.map Tk.d).length), (tk (tsA.map Tk.d)[i]).needs.length ≤ 1000000 := by
  intro i hi
  match i, hi with
  | 0, _ => exact (show (0 : Nat) ≤ 1000000 by omega)
  | 1, _ => exact (show (1 : Nat) ≤ 1000000 by omega)
  | i + 2, hi => exact absurd hi (by simp [tsA])
set_option maxRecDepth 20000 in
set_option maxHeartbeats 2000000 in
theorem awake53 (w : World) : Calls Try.prog 8 #[] w fun e w' => e = .returned (.bool true) ∧ Below w.heap.size w w' := by
  go_enter Try.func8, Try.ntmps8
  go_wp2_with fail
  refine (group53 w 1 12).mono ?_
  rintro e w1 ⟨ea, ec, rfl, hB1⟩
  rw [show gN 1 = 1 from rfl]
  have HB1 := Lib.hid hB1
  clear hB1
  have hBA := (Below.refl w1.heap.size w1).alloc (Nat.le_refl _) (.cells #[.string bA] 9)
  have hBB := hBA.alloc (by simp) (.cells #[.string bA, .slice none 0 0, .bool false, .bool false, .string bB, .slice (some ⟨w1.heap.size, 0, none⟩) 1 1, .bool false, .bool false] 38)
  have hrd := tsA_rd (alloc_old' (o := .cells #[.string bA, .slice none 0 0, .bool false, .bool false, .string bB, .slice (some ⟨w1.heap.size, 0, none⟩) 1 1, .bool false, .bool false] 38) (alloc_new' (w := w1) (o := .cells #[.string bA] 9) rfl)) (alloc_new' (w := w1.alloc (.cells #[.string bA] 9)) (o := .cells #[.string bA, .slice none 0 0, .bool false, .bool false, .string bB, .slice (some ⟨w1.heap.size, 0, none⟩) 1 1, .bool false, .bool false] 38) (n := w1.heap.size + 1) (by simp))
  have HRD := Lib.hid hrd
  have HB2 := Lib.hid (below_step HB1.out hBB)
  clear hBA hBB hrd
  unfold bA bB at HRD HB2
  go_wp2_with fail
  generalize hw2 : World.alloc (w1.alloc _) _ = w2 at HRD HB2 ⊢
  clear hw2
  refine (new53 w2 ⟨#[]⟩ 2026 1 12 none 0 0 (fun _ => 0) ea 1 ec (by omega) (by omega) (by omega) (by omega) (by omega) (by omega) (by omega) (by omega) (some ⟨w1.heap.size + 1, 0, none⟩) 2 2 (tsA.map Tk.d) HRD.out (fun b hb => hb) (by omega) tsA_ns).mono ?_
  rintro e w3 hnew
  rw [show (tsA.map Tk.d).map tk = tsA from rfl] at hnew
  rcases hnew with ⟨hbad, -⟩ | ⟨-, SS, p, m, rfl, hB3, hm3, hW, -, -⟩
  · exact absurd ⟨by omega, by omega, tsA_valid⟩ hbad
  have HW3 := Lib.hid hW
  have HB3 := Lib.hid (below_step HB2.out hB3)
  have hmw : w.heap.size ≤ m := Nat.le_trans HB2.out.size hm3
  clear hW hB3 HRD
  go_wp2_with fail
  refine (sign53 w3 p tsA 1 12 m 0 (fun _ => none) HW3.out (by omega) (by omega) ⟨bB, 0, 0⟩ kB_ok bX (by decide) (fun _ => needB)).mono ?_
  rintro e w4 ⟨rfl, hg4, n4, hn4, hW4⟩
  rw [sgB]
  rw [sgB, if_neg (by decide)] at hW4
  have HW4 := Lib.hid hW4
  have HB4 := Lib.hid (HB3.out.trans (hg4.below (n := w.heap.size) (fun b e => by rw [e]; exact hmw) HB3.out.size))
  clear hW4 hg4
  go_wp2_with fail
  refine (sign53 w4 p tsA 1 12 m n4 (fun _ => none) HW4.out (by omega) (by omega) ⟨bA, 0, 0⟩ kA_ok bX (by decide) (fun _ => needA)).mono ?_
  rintro e w5 ⟨rfl, hg5, n5, hn5, hW5⟩
  rw [sgA]
  rw [sgA, if_pos rfl] at hW5
  have HW5 := Lib.hid hW5
  have HB5 := Lib.hid (HB4.out.trans (hg5.below (n := w.heap.size) (fun b e => by rw [e]; exact hmw) HB4.out.size))
  clear hW5 hg5
  go_wp2_with fail
  refine (sigs53 w5 p tsA 1 12 m n5 _ HW5.out ⟨bA, 0, 0⟩ kA_ok (fun x _ hx => by
    unfold signF at hx
    by_cases e : x = ⟨bA, 0, 0⟩
    · exact e
    · rw [if_neg e] at hx; cases hx) (by unfold signF; rw [if_pos rfl]; rfl)).mono ?_
  rintro e w6 ⟨sa, sc, rfl, hB6⟩
  have HB6 := Lib.hid (below_step HB5.out hB6)
  clear hB6
  go_wp2_with fail
  go_ret
  exact ⟨rfl, HB6.out⟩
end Go.Proofs.Ytdcjocldggmdbaa
