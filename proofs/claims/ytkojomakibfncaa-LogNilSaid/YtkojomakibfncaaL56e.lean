/- Layer 56: the walk of LogNil. -/
import Derived.Test.YtkojomakibfncaaC56h
import Derived.Test.YtkojomakibfncaaRead
set_option linter.unusedSimpArgs false
namespace Go.Proofs.Ytkojomakibfncaa
open Go.RowKit Go

theorem append_nil (w : World) (a : Option Addr) (len cap : Nat) : Calls Try.prog 23 #[.pointer none, .slice a len cap] w fun e w' => e = .returned (.int .i64 7) ∧ w' = w := by
  go_enter Try.func23, Try.ntmps23
  go_wp2
  go_ret
  exact ⟨rfl, rfl⟩
theorem truncate_nil (w : World) (n : Int) : Calls Try.prog 24 #[.pointer none, .int .i64 n] w fun e w' => e = .returned (.int .i64 7) ∧ w' = w := by
  go_enter Try.func24, Try.ntmps24
  go_wp2
  go_ret
  exact ⟨rfl, rfl⟩
theorem records_nil (w : World) : Calls Try.prog 14 #[.pointer none] w fun e w' => e = .returned (.slice none 0 0) ∧ w' = w := by
  go_enter Try.func14, Try.ntmps14
  go_wp2
  go_ret
  exact ⟨rfl, rfl⟩
theorem len_nil (w : World) : Calls Try.prog 18 #[.pointer none] w fun e w' => e = .returned (.int .i64 0) ∧ w' = w := by
  go_enter Try.func18, Try.ntmps18
  go_wp2
  go_ret
  exact ⟨rfl, rfl⟩
theorem head_nil (w : World) : Calls Try.prog 20 #[.pointer none] w fun e w' => e = .returned (.int .u64 0) ∧ w' = w := by
  go_enter Try.func20, Try.ntmps20
  go_wp2
  go_ret
  exact ⟨rfl, rfl⟩
theorem bytes_nil (w : World) : Calls Try.prog 17 #[.pointer none] w fun e w' => e = .returned (.slice none 0 0) ∧ w' = w := by
  go_enter Try.func17, Try.ntmps17
  go_wp2
  go_ret
  exact ⟨rfl, rfl⟩

/-- make([]byte, n). -/
theorem make_bytes (w : World) (n : Nat) (hn : n ≤ 1000000) : ∃ w', (Instr.makeSlice 22 (.int .i64 (n : Int)) (.int .i64 (n : Int))).run Try.prog w = .ok (.slice (some ⟨w.heap.size, 0, none⟩) n n) w' ∧
    Owns (.int .u8) 5 w.heap.size (fun _ => False) w' (.slice (some ⟨w.heap.size, 0, none⟩) n n) (List.replicate n 0) ∧ Below w.heap.size w w' := by
  obtain ⟨i, hi, hz0, hz1, hz2⟩ := info_parts info_u8
  obtain ⟨w', h1, h2, h3⟩ := run_make_full (P := Try.prog) w w.heap.size 22 5 i (.int .u8 0) 1 Try.underlying22 hi hz0 hz1 .i64 .i64 n (by rw [hz2]; omega) (by simp [maxLen]; omega) (Nat.le_refl _)
  refine ⟨w', h1, ⟨List.replicate n (.int .u8 0), ?_, ?_, fun _ h => h.elim⟩, (Below.refl _ w).grown h3 (Nat.le_refl _) (fun b e => by cases e)⟩
  · have e : (madeCells (Value.int .u8 0).cells (n * 1)).toList = List.replicate n (.int .u8 0) := by
      rw [Nat.mul_one]; exact toList_madeCells_one _ _
    rw [e] at h2
    rw [List.length_replicate]
    exact h2
  · have h := RdL.ints .u8 (fun _ => False) w' (List.replicate n 0) (fun x hx => by rw [List.eq_of_mem_replicate hx]; decide)
    rwa [List.map_replicate] at h

set_option maxHeartbeats 1000000 in
theorem nilWalk (w : World) (c0 : List Value) (xs : (Ty.sl (.int .u8)).den) (r0 : Rd (.sl (.int .u8)) (fun b => b < w.heap.size) w c0 xs) (c1 : List Value) (n : (Ty.int .i64).den) (r1 : Rd (.int .i64) (fun b => b < w.heap.size) w c1 n) :
    Calls Try.prog 8 #[valOf (.sl (.int .u8)) c0, valOf (.int .i64) c1] w fun e w' => e = .returned (.bool true) ∧ Below w.heap.size w w' := by
  obtain ⟨a, len, cap, rfl, -⟩ := id r0
  change Int at n
  obtain ⟨rfl, -⟩ := r1
  simp only [valOf, List.headD_cons]
  clear r0
  go_enter Try.func8, Try.ntmps8
  go_wp2_with fail
  refine (awake_sum _).mono ?_
  rintro e w1 ⟨rfl, hB1⟩
  go_wp2_with (first
    | (go_at_call 23; (with_reducible refine (append_nil _ _ _ _).mono ?_); rintro e w2 ⟨rfl, hw⟩; subst w2)
    | (go_at_call 24; (with_reducible refine (truncate_nil _ _).mono ?_); rintro e w2 ⟨rfl, hw⟩; subst w2)
    | (go_at_call 14; (with_reducible refine (records_nil _).mono ?_); rintro e w2 ⟨rfl, hw⟩; subst w2)
    | (go_at_call 18; (with_reducible refine (len_nil _).mono ?_); rintro e w2 ⟨rfl, hw⟩; subst w2)
    | (go_at_call 20; (with_reducible refine (head_nil _).mono ?_); rintro e w2 ⟨rfl, hw⟩; subst w2)
    | (go_at_call 17; (with_reducible refine (bytes_nil _).mono ?_); rintro e w2 ⟨rfl, hw⟩; subst w2))
  refine (new_sum _).mono ?_
  rintro e w2 ⟨rfl, hL2, hB2⟩
  have HL2 := Lib.hid hL2
  clear hL2
  obtain ⟨w3, hmk, -, hB3⟩ := make_bytes w2 65537 (by omega)
  rw [show ((65537 : Nat) : Int) = 65537 from rfl] at hmk
  have HL3 := Lib.hid (HL2.out.below hB3)
  have hB13 := below_step hB2 hB3
  obtain ⟨w4, hmk4, hO4, hB4⟩ := make_bytes w3 65536 (by omega)
  rw [show ((65536 : Nat) : Int) = 65536 from rfl] at hmk4
  generalize List.replicate 65536 (0 : Int) = zs at hO4
  have HL4 := Lib.hid (HL3.out.below hB4)
  have HX4 := Lib.hid (hO4.rd (fun b => b = w3.heap.size) (fun _ h => h.elim) (fun b hb => by cases hb; rfl))
  have hsz4 : w3.heap.size < w4.heap.size := (hO4.own _ rfl).2
  have hlt1 : w1.heap.size < w3.heap.size := Nat.lt_of_lt_of_le (HL2.out.lt _ rfl) hB3.size
  have hB14 := below_step hB13 hB4
  clear hO4
  go_wp2_with (first
    | (go_at_call_of 23 (Value.slice (some ⟨w2.heap.size, 0, none⟩) 65537 65537); (with_reducible refine (append_limit _ _ _ _ _ (by decide)).mono ?_); rintro e w5 ⟨rfl, hw⟩; subst w5)
    | (go_at_call_of 23 (Value.slice (some ⟨w3.heap.size, 0, none⟩) 65536 65536); (with_reducible refine (append_sum (fun b => b = w1.heap.size) (fun b => b = w3.heap.size) w4 w1.heap.size [] HL4.out _ _ _ zs HX4.out (fun b hb => by subst hb; exact ⟨hsz4, by omega⟩) (by decide) (by decide)).mono ?_); rintro e w5 ⟨rfl, F5, hL5, hF5, hG5⟩)
    | (go_at_call 18; first
      | ((with_reducible refine (len_sum _ w3 _ [] HL3.out).mono ?_); rw [show ((([] : List (List Int)).length : Nat) : Int) = 0 from rfl]; rintro e w5 ⟨rfl, hw⟩; subst w5)
      | ((with_reducible refine (len_sum F5 w5 _ [zs] hL5).mono ?_); rw [show ((([zs] : List (List Int)).length : Nat) : Int) = 1 from rfl]; rintro e w6 ⟨rfl, hw⟩; subst w6)))
  all_goals
    go_ret
    exact ⟨rfl, below_step hB1 (hB14.trans (hG5.below (n := w1.heap.size) (fun b hb => by rw [hb]; exact Nat.le_refl _) (by omega)))⟩
end Go.Proofs.Ytkojomakibfncaa
