/- Layer 53: whether a key of a list is not signed. -/
import Derived.Test.YtdcjocldggmdbaaW53f
set_option linter.unusedSimpArgs false
namespace Go.Proofs.Ytdcjocldggmdbaa
open Go.RowKit Go

set_option maxRecDepth 20000 in
set_option maxHeartbeats 1000000 in
theorem anyIndex {S T : Nat → Prop} (w : World) (p : Nat) (ts : List Tk) (ne np m n : Nat) (f : Ky → Option ByteArray) (h : WfIn S w p ts ne np m n f) (a : Option Addr) (len cap : Nat) (l : List Ky) (hx : Rd (.sl keyT) T w [.slice a len cap] (l.map Ky.d)) (hT : ∀ b, T b → b < w.heap.size) (cb : Nat) (hcb : w.heap[cb]? = some (.cells #[.pointer (some ⟨p, 0, none⟩)] 27 (0, 0))) :
    Calls Try.prog 81 #[.slice a len cap, .func (.func 64) #[] #[.pointer (some ⟨cb, 0, none⟩)]] w fun e w' => (∃ r : Int, e = .returned (.int .i64 r) ∧ decide (0 ≤ r) = l.any fun k => (f k).isNone) ∧ Below w.heap.size w w' := by
  obtain ⟨hl, hlc, hm, -⟩ := hx.sl_flat
  rw [List.length_map] at hl
  have HX := Lib.hid hx
  have HL := Lib.hid hl
  have HT := Lib.hid hT
  have HCB := Lib.hid hcb
  have H := Lib.hid h
  clear hx hl hT hcb h
  go_enter Try.func81, Try.ntmps81
  go_wp2_with fail
  go_loopw [5, 8] (fun _ i wr => ∃ (k : Nat), k ≤ len ∧ i = .int .i64 k ∧ ((l.take k).any fun k => (f k).isNone) = false ∧ Below w.heap.size w wr) (fun _ i _ => len - (intOf i).toNat)
  case atStart => exact ⟨0, Nat.zero_le _, rfl, rfl, Below.refl _ _⟩
  case round =>
    obtain ⟨k, hk, rfl, hany, hB⟩ := hrel
    have HB := Lib.hid hB
    by_cases hlt : k < len
    · have hkx : k < l.length := by rw [HL.out]; exact hlt
      obtain ⟨b, o, rfl, -, m0, m1, m2, hok⟩ := key_at (HX.out.below hB HT.out) k hkx
      have hstep : ((l.take (k + 1)).any fun k => (f k).isNone) = (f l[k]).isNone := by
        rw [List.take_succ_eq_append_getElem hkx, List.any_append, hany]
        simp
      have hsome : (f l[k]).isNone = true → (l.any fun k => (f k).isNone) = true := fun h => List.any_eq_true.2 ⟨l[k], List.getElem_mem hkx, h⟩
      have HST := Lib.hid hstep
      have HSO := Lib.hid hsome
      have hkI : (k : Int) < (len : Int) := by omega
      have hcw := (HB.out.block _ (blk_lt HCB.out)).trans HCB.out
      have HCL := Lib.hid (notSigned wr p ts ne np m n f (H.out.below HB.out) l[k] hok cb hcw)
      have HLT := Lib.hid hlt
      clear hstep hsome hany hB hlt hcw
      generalize l[k] = q at m0 m1 m2 hok HST HSO HCL
      obtain ⟨bd, hbd⟩ : ∃ bd, (f q).isNone = bd := ⟨_, rfl⟩
      rw [hbd] at HST HSO HCL
      clear hbd
      obtain ⟨q1, q2, q3⟩ := q
      unfold Ky.v at HCL
      simp only at m0 m1 m2 HCL
      cases bd
      · go_wp2_with fail
        refine (HCL.out).mono ?_
        rintro e w1 ⟨rfl, hw⟩
        have HW := Lib.hid hw
        clear hw
        go_wp2_with fail
        go_roundw
        case rel => exact ⟨k + 1, HLT.out, by go_num, HST.out, below_step HB.out HW.out⟩
        case measure => simp [intOf]; try omega
      · go_wp2_with fail
        refine (HCL.out).mono ?_
        rintro e w1 ⟨rfl, hw⟩
        have HW := Lib.hid hw
        clear hw
        go_wp2_with fail
        go_ret
        refine ⟨⟨(k : Int), ?_, ?_⟩, ?_⟩
        · first | rfl | simp
        · rw [HSO.out (by first | rfl | trivial)]; exact decide_eq_true (by omega)
        · exact below_step HB.out HW.out
    · obtain rfl : k = len := by omega
      rw [List.take_of_length_le (by rw [HL.out]; exact Nat.le_refl _)] at hany
      have HN := Lib.hid hany
      clear hany hB
      go_wp2_with fail
      go_ret
      refine ⟨⟨-1, ?_, ?_⟩, ?_⟩
      · first | rfl | simp
      · rw [HN.out]; rfl
      · exact HB.out
set_option maxHeartbeats 1000000 in
theorem anyNot {S T : Nat → Prop} (w : World) (p : Nat) (ts : List Tk) (ne np m n : Nat) (f : Ky → Option ByteArray) (h : WfIn S w p ts ne np m n f) (a : Option Addr) (len cap : Nat) (l : List Ky) (hx : Rd (.sl keyT) T w [.slice a len cap] (l.map Ky.d)) (hT : ∀ b, T b → b < w.heap.size) (cb : Nat) (hcb : w.heap[cb]? = some (.cells #[.pointer (some ⟨p, 0, none⟩)] 27 (0, 0))) :
    Calls Try.prog 63 #[.slice a len cap, .func (.func 64) #[] #[.pointer (some ⟨cb, 0, none⟩)]] w fun e w' => e = .returned (.bool (l.any fun k => (f k).isNone)) ∧ Below w.heap.size w w' := by
  have HX := Lib.hid (anyIndex w p ts ne np m n f h a len cap l hx hT cb hcb)
  clear hx hcb h
  go_enter Try.func63, Try.ntmps63
  go_wp2_with fail
  refine (HX.out).mono ?_
  rintro e w1 ⟨⟨r, rfl, hr⟩, hw⟩
  go_wp2
  go_ret
  exact ⟨by rw [← hr]; rfl, hw⟩
end Go.Proofs.Ytdcjocldggmdbaa
