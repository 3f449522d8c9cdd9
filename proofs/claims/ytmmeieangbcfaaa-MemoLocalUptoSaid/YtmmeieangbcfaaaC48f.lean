/- Layer 48: whether a frame has a read of a cell. -/
import Derived.Test.YtmmeieangbcfaaaC48e
set_option linter.unusedSimpArgs false
namespace Go.Proofs.Ytmmeieangbcfaaa
open Go.RowKit Go

def same1 (c : C4) (r : C4 × Int) : Bool := decide (r.1 = c)
/-- The cell of a closure. -/
def CellAt (w : World) (cb : Nat) (c : C4) : Prop := w.heap[cb]? = some (.cells #[.int .i64 c.st, .int .i64 c.en, .int .i64 c.ot, .int .i64 c.pe] 26 (0, 0))
set_option maxRecDepth 20000 in
set_option maxHeartbeats 1000000 in
theorem readIndex {S : Nat → Prop} (w : World) (a : Option Addr) (len cap : Nat) (l : List (C4 × Int)) (hx : Rd (.sl readT) S w [.slice a len cap] (rdsD l)) (hS : ∀ b, S b → b < w.heap.size) (cb : Nat) (c : C4) (hcb : CellAt w cb c) :
    Calls Try.prog 29 #[.slice a len cap, .func (.func 27) #[] #[.pointer (some ⟨cb, 0, none⟩)]] w fun e w' => (∃ r : Int, e = .returned (.int .i64 r) ∧ decide (0 ≤ r) = l.any (same1 c)) ∧ Below w.heap.size w w' := by
  obtain ⟨hl, hlc, hm, -⟩ := hx.sl_flat
  rw [show (rdsD l).length = l.length from List.length_map _] at hl
  have HX := Lib.hid hx
  have HL := Lib.hid hl
  have HS := Lib.hid hS
  have HCB := Lib.hid hcb
  clear hx hl hS hcb
  go_enter Try.func29, Try.ntmps29
  go_wp2_with fail
  go_loopw [5, 8] (fun _ i wr => ∃ (k : Nat), k ≤ len ∧ i = .int .i64 k ∧ (l.take k).any (same1 c) = false ∧ Below w.heap.size w wr) (fun _ i _ => len - (intOf i).toNat)
  case atStart => exact ⟨0, Nat.zero_le _, rfl, rfl, Below.refl _ _⟩
  case round =>
    obtain ⟨k, hk, rfl, hany, hB⟩ := hrel
    have HB := Lib.hid hB
    by_cases hlt : k < len
    · have hkx : k < l.length := by rw [HL.out]; exact hlt
      obtain ⟨b, o, rfl, -, m0, m1, m2, m3, m4, -, -⟩ := read_at (HX.out.below hB HS.out) k hkx
      have hstep : (l.take (k + 1)).any (same1 c) = same1 c l[k] := by
        rw [List.take_succ_eq_append_getElem hkx, List.any_append, hany]
        simp
      have hsome : same1 c l[k] = true → l.any (same1 c) = true := fun h => List.any_eq_true.2 ⟨l[k], List.getElem_mem hkx, h⟩
      have HST := Lib.hid hstep
      have HSO := Lib.hid hsome
      have hkI : (k : Int) < (len : Int) := by omega
      have hcw := (HB.out.block _ (blk_lt HCB.out)).trans HCB.out
      clear hstep hsome hany hB
      generalize l[k] = q at m0 m1 m2 m3 m4 HST HSO
      have HCL := Lib.hid (readSame wr q c cb hcw)
      obtain ⟨bd, hbd⟩ : ∃ bd, same1 c q = bd := ⟨_, rfl⟩
      rw [hbd] at HST HSO
      have hbd' : decide (q.1 = c) = bd := hbd
      clear hcw
      obtain ⟨⟨q1, q2, q3, q4⟩, qv⟩ := q
      simp only at m0 m1 m2 m3 m4
      cases bd
      · go_wp2_with (go_at_call 27; refine (HCL.out).mono ?_; rw [hbd']; rintro e w1 ⟨rfl, hw⟩; have HW := Lib.hid hw; clear hw)
        go_roundw
        case rel => exact ⟨k + 1, by omega, by go_num, HST.out, below_step HB.out HW.out⟩
        case measure => simp [intOf]; omega
      · go_wp2_with (go_at_call 27; refine (HCL.out).mono ?_; rw [hbd']; rintro e w1 ⟨rfl, hw⟩; have HW := Lib.hid hw; clear hw)
        go_ret
        refine ⟨⟨(k : Int), ?_, ?_⟩, ?_⟩
        · first | rfl | simp
        · rw [HSO.out (by first | rfl | trivial)]; exact decide_eq_true (by omega)
        · exact below_step HB.out HW.out
    · obtain rfl : k = len := by omega
      rw [List.take_of_length_le (by rw [HL.out]; exact Nat.le_refl _)] at hany
      have HN := Lib.hid hany
      clear hany hB
      go_wp2_with fail
      go_ret
      refine ⟨⟨-1, ?_, ?_⟩, ?_⟩
      · first | rfl | simp
      · rw [HN.out]; rfl
      · exact HB.out
set_option maxHeartbeats 1000000 in
theorem readContains {S : Nat → Prop} (w : World) (a : Option Addr) (len cap : Nat) (l : List (C4 × Int)) (hx : Rd (.sl readT) S w [.slice a len cap] (rdsD l)) (hS : ∀ b, S b → b < w.heap.size) (cb : Nat) (c : C4) (hcb : CellAt w cb c) :
    Calls Try.prog 26 #[.slice a len cap, .func (.func 27) #[] #[.pointer (some ⟨cb, 0, none⟩)]] w fun e w' => e = .returned (.bool (l.any (same1 c))) ∧ Below w.heap.size w w' := by
  have HX := Lib.hid (readIndex w a len cap l hx hS cb c hcb)
  clear hx hcb
  go_enter Try.func26, Try.ntmps26
  go_wp2_with fail
  refine (HX.out).mono ?_
  rintro e w1 ⟨⟨r, rfl, hr⟩, hw⟩
  go_wp2
  go_ret
  exact ⟨by rw [← hr]; rfl, hw⟩
end Go.Proofs.Ytmmeieangbcfaaa
