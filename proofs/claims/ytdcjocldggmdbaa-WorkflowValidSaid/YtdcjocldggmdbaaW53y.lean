/- Layer 53: the reference's place and Few. -/
import Derived.Test.YtdcjocldggmdbaaW53x
set_option linter.unusedSimpArgs false
namespace Go.Proofs.Ytdcjocldggmdbaa
open Go.RowKit Go

set_option maxRecDepth 20000 in
set_option maxHeartbeats 1000000 in
theorem rplace53 {S : Nat → Prop} (w : World) (a : Option Addr) (len cap : Nat) (xs : List taskT.den) (hx : Rd (.sl taskT) S w [.slice a len cap] xs) (n : ByteArray) :
    Calls Try.prog 35 #[.slice a len cap, .string n] w fun e w' => e = .returned (.int .i64 (plcI (xs.map tk) n)) ∧ w' = w := by
  obtain ⟨hl, hlc, hcm, -⟩ := id hx.sl_flat
  have HX := Lib.hid hx
  have HL := Lib.hid hl
  clear hx hl
  go_enter Try.func35, Try.ntmps35
  go_wp2_with fail
  go_loopw [5] (fun i wr => ∃ k : Nat, k ≤ len ∧ i = .int .i64 k ∧ (∀ j (hj : j < (xs.map tk).length), j < k → (xs.map tk)[j].name ≠ n) ∧ wr = w) (fun i _ => len - (intOf i).toNat)
  case atStart => exact ⟨0, Nat.zero_le _, rfl, fun j _ hj => absurd hj (by omega), rfl⟩
  case round =>
    obtain ⟨k, hk, rfl, hall, rfl⟩ := hrel
    have HALL := Lib.hid hall
    clear hall
    by_cases hlt : k < len
    · have hkI : (k : Int) < (len : Int) := by omega
      have hkx : k < xs.length := by rw [HL.out]; exact hlt
      obtain ⟨b, o, na, nl, nc, rfl, -, m0, m1, m2, m3, hnd, hnm⟩ := task_at HX.out k hkx
      have hget : (xs.map tk)[k]'(by rw [List.length_map]; exact hkx) = tk xs[k] := List.getElem_map _
      have HHIT := Lib.hid (show (tk xs[k]).name = n → plcI (xs.map tk) n = (k : Int) from fun e => by
        have hp : plc (xs.map tk) n = k := plc_hit (by rw [List.length_map]; exact hkx) (by rw [hget]; exact e) (fun j hj => HALL.out j (by rw [List.length_map]; omega) hj)
        unfold plcI
        rw [if_pos (by rw [hp, List.length_map]; exact hkx), hp])
      have HNXT := Lib.hid (show (tk xs[k]).name ≠ n → ∀ j (hj : j < (xs.map tk).length), j < k + 1 → (xs.map tk)[j].name ≠ n from fun h j hj hjk => by
        by_cases e : j = k
        · subst e; rw [hget]; exact h
        · exact HALL.out j hj (by omega))
      have HLT := Lib.hid hlt
      generalize (tk xs[k]).name = nm at m0 hnm HHIT HNXT
      clear hget m1 m2 m3 hnd hnm hkx hlt
      by_cases he : nm = n
      · have hq : (nm.toList == n.toList) = true := by rw [strB]; exact decide_eq_true he
        have HE := Lib.hid he
        clear he
        go_wp2_with fail
        go_ret
        rw [HHIT.out HE.out]
        exact ⟨rfl, rfl⟩
      · have hq : (nm.toList == n.toList) = false := by rw [strB]; exact decide_eq_false he
        have HE := Lib.hid he
        clear he
        have hl1 := HLT.out
        go_wp2_with fail
        go_roundw
        case rel => exact ⟨k + 1, HLT.out, by go_num, HNXT.out HE.out, by first | rfl | trivial⟩
        case measure => simp [intOf]; try omega
    · obtain rfl : k = len := by omega
      have hm : plcI (xs.map tk) n = -1 := by
        unfold plcI
        rw [plc_miss (fun j hj => HALL.out j hj (by rw [List.length_map, HL.out] at hj; exact hj)), if_neg (by omega)]
      have HM := Lib.hid hm
      clear hm
      go_wp2_with fail
      go_ret
      rw [HM.out]
      exact ⟨rfl, rfl⟩
def FewP (xs : List taskT.den) (w : World) (e : Ending) (w' : World) : Prop := ∃ b, e = .returned (.bool b) ∧ w' = w ∧ (b = true → xs.length ≤ 8 ∧ ∀ i (hi : i < xs.length), (tk xs[i]).needs.length ≤ 8)
set_option maxRecDepth 20000 in
set_option maxHeartbeats 1000000 in
theorem rfew53 {S : Nat → Prop} (w : World) (a : Option Addr) (len cap : Nat) (xs : List taskT.den) (hx : Rd (.sl taskT) S w [.slice a len cap] xs) :
    Calls Try.prog 31 #[.slice a len cap] w (FewP xs w) := by
  obtain ⟨hl, hlc, hcm, -⟩ := id hx.sl_flat
  have HX := Lib.hid hx
  have HL := Lib.hid hl
  clear hx hl
  go_enter Try.func31, Try.ntmps31
  go_wp2_with fail
  go_loopw [3, 4] (fun i _ wr => ∃ k : Nat, k ≤ len ∧ i = .int .i64 k ∧ (∀ j (hj : j < xs.length), j < k → (tk xs[j]).needs.length ≤ 8) ∧ wr = w) (fun i _ _ => len - (intOf i).toNat)
  case atStart => exact ⟨0, Nat.zero_le _, rfl, fun j _ hj => absurd hj (by omega), rfl⟩
  case round =>
    obtain ⟨k, hk, rfl, hall, rfl⟩ := hrel
    have HALL := Lib.hid hall
    clear hall
    by_cases hlt : k < len
    · have hkI : (k : Int) < (len : Int) := by omega
      have hkx : k < xs.length := by rw [HL.out]; exact hlt
      obtain ⟨b, o, na, nl, nc, rfl, -, m0, m1, m2, m3, hnd, hnm⟩ := task_at HX.out k hkx
      have HNXT := Lib.hid (show (tk xs[k]).needs.length ≤ 8 → ∀ j (hj : j < xs.length), j < k + 1 → (tk xs[j]).needs.length ≤ 8 from fun h j hj hjk => by
        by_cases e : j = k
        · subst e; exact h
        · exact HALL.out j hj (by omega))
      have HLT := Lib.hid hlt
      generalize tk xs[k] = t at m0 m1 m2 m3 hnd hnm HNXT
      obtain ⟨tnm, tnd, tg, ta⟩ := t
      simp only at m0 m1 hnd hnm
      have hnl : tnd.length = nl := hnd.sl_flat.1
      obtain ⟨-, hnc, hncm, hat⟩ := Rd.sl1 (e := .str) rfl hnd
      have HAT := Lib.hid hat
      have HNL := Lib.hid hnl
      clear m2 m3 hnd hat hnl hkx hlt
      by_cases h1 : (8 : Int) < (nl : Int)
      · go_wp2_with fail
        go_ret
        exact ⟨false, rfl, rfl, fun h => by cases h⟩
      by_cases h2 : (40 : Int) < (tnm.size : Int)
      · go_wp2_with fail
        go_ret
        exact ⟨false, rfl, rfl, fun h => by cases h⟩
      obtain ⟨w5, hw5⟩ : ∃ x, x = wr := ⟨_, rfl⟩
      go_wp2_with fail
      go_loopw [4] (fun i wr2 => ∃ j : Nat, j ≤ nl ∧ i = .int .i64 j ∧ wr2 = w5) (fun i _ => nl - (intOf i).toNat)
      case atStart => exact ⟨0, Nat.zero_le _, rfl, hw5.symm⟩
      case round =>
        obtain ⟨j, hj, rfl, rfl⟩ := hrel
        subst hw5
        by_cases hlt2 : j < nl
        · have hjI : (j : Int) < (nl : Int) := by omega
          have hjx : j < tnd.length := by rw [HNL.out]; exact hlt2
          obtain ⟨nb, no, nv, rfl, -, y0, hy⟩ := HAT.out j hjx
          obtain ⟨he, hsz⟩ := hy
          simp only [List.cons.injEq, and_true] at he
          subst he
          generalize tnd[j] = s at y0 hsz
          clear hjx
          by_cases h3 : (40 : Int) < (s.size : Int)
          · go_wp2_with fail
            go_ret
            exact ⟨false, rfl, rfl, fun h => by cases h⟩
          · go_wp2_with fail
            go_roundw
            case rel => exact ⟨j + 1, by omega, by go_num, by first | rfl | trivial⟩
            case measure => simp [intOf]; try omega
        · obtain rfl : j = nl := by omega
          have hl1 := HLT.out
          go_wp2_with fail
          go_roundw
          case rel => exact ⟨k + 1, HLT.out, by go_num, HNXT.out (by show tnd.length ≤ 8; rw [HNL.out]; omega), by first | rfl | trivial⟩
          case measure => simp [intOf]; try omega
    · obtain rfl : k = len := by omega
      by_cases h8 : (k : Int) ≤ 8
      · go_wp2_with fail
        go_ret
        exact ⟨true, by first | rfl | simp [h8], rfl, fun _ => ⟨by rw [HL.out]; omega, fun i hi => HALL.out i hi (by rw [HL.out] at hi; exact hi)⟩⟩
      · go_wp2_with fail
        go_ret
        exact ⟨false, by first | rfl | simp [h8], rfl, fun h => by cases h⟩
end Go.Proofs.Ytdcjocldggmdbaa
