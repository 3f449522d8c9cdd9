/- Layer 56: written. (not built yet) -/
import Derived.Test.YtkojomakibfncaaC56k
namespace Go.Proofs.Ytkojomakibfncaa
open Go.RowKit Go

set_option maxHeartbeats 1000000 in
theorem written_sum (w : World) (a : Option Addr) (len cap : Nat) (rs : List (List Int)) (hx : Rd (.sl rowT) (fun b => b < w.heap.size) w [.slice a len cap] rs) (hr : ∀ r ∈ rs, r.length ≤ 65536) (hn : len ≤ 1000) :
    Calls Try.prog 16 #[.slice a len cap] w fun e w' => ∃ p F, e = .returned (.pointer (some ⟨p, 0, none⟩)) ∧ LogIn F w' p rs ∧ (∀ b, F b → w.heap.size ≤ b) ∧ Below w.heap.size w w' := by
  obtain ⟨hl, hc, hm, -⟩ := hx.rows
  have HX := Lib.hid hx
  have HL := Lib.hid hl
  have HR := Lib.hid hr
  clear hx hl hr
  go_enter Try.func16, Try.ntmps16
  go_wp2_with fail
  refine (new_sum _).mono ?_
  rintro e w1 ⟨rfl, hL, hB1⟩
  go_wp2_with fail
  go_loopw [4] (fun i wr => ∃ (k : Nat) (F : Nat → Prop), k ≤ len ∧ i = .int .i64 k ∧ LogIn F wr w.heap.size (rs.take k) ∧ (∀ b, F b → w.heap.size ≤ b) ∧ Below w.heap.size w wr) (fun i _ => len - (intOf i).toNat)
  case atStart => exact ⟨0, _, Nat.zero_le _, rfl, hL, fun b hb => by rw [hb]; exact Nat.le_refl _, hB1⟩
  case round =>
    clear hL
    obtain ⟨k, F, hk, rfl, hL, hF, hB⟩ := hrel
    have HLo := Lib.hid hL
    have HF := Lib.hid hF
    clear hL hF
    by_cases hlt : k < len
    · have hkr : k < rs.length := by rw [HL.out]; exact hlt
      obtain ⟨-, -, -, h4⟩ := (HX.out.below hB (fun _ h => h)).rows
      obtain ⟨b, off, a', l', c', rfl, hb, hcell, hrow⟩ := h4 k hkr
      have hsz := hB.size
      have hl' : List.length rs[k] = l' := hrow.ints.1
      have hle : l' ≤ 65536 := by rw [← hl']; exact HR.out _ (List.getElem_mem hkr)
      have HROW := Lib.hid hrow
      have HS := Lib.hid (List.take_succ_eq_append_getElem hkr)
      have htl : (rs.take k).length ≤ 1000 := by rw [List.length_take]; omega
      clear h4 hrow hl'
      go_wp2_with (go_at_call 23; (with_reducible refine (append_sum F (fun b => b < w.heap.size) wr w.heap.size (rs.take k) HLo.out a' l' c' rs[k] HROW.out (fun b hb => ⟨by omega, fun hf => by have := HF.out b hf; omega⟩) hle htl).mono ?_); rintro e w2 ⟨rfl, F2, hL2, hF2, hG2⟩; have HL2 := Lib.hid hL2; have HF2 := Lib.hid hF2; clear hL2 hF2)
      go_roundw
      case rel => exact ⟨k + 1, F2, by omega, by go_num, by rw [HS.out]; exact HL2.out, fun b hb => (HF2.out b hb).elim (HF.out b) (fun h => by omega), hB.trans (hG2.below HF.out hsz)⟩
      case measure => simp [intOf]; omega
    · obtain rfl : k = len := by omega
      go_wp2
      go_ret
      refine ⟨_, F, rfl, ?_, HF.out, hB⟩
      have := HLo.out
      rwa [List.take_of_length_le (by rw [HL.out]; exact Nat.le_refl _)] at this
end Go.Proofs.Ytkojomakibfncaa
