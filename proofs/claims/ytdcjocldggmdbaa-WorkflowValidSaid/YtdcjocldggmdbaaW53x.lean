/- Layer 53: the reference's Name. -/
import Derived.Test.YtdcjocldggmdbaaW53w
set_option linter.unusedSimpArgs false
namespace Go.Proofs.Ytdcjocldggmdbaa
open Go.RowKit Go

set_option maxRecDepth 20000 in
set_option maxHeartbeats 1000000 in
theorem rletter53 (w : World) (c : UInt8) : Calls Try.prog 53 #[.int .u8 c.toNat] w fun e w' => e = .returned (.bool (letB c)) ∧ w' = w := by
  obtain ⟨n, hn⟩ : ∃ n : Nat, c.toNat = n := ⟨_, rfl⟩
  have HL : letB c = ((decide (97 ≤ n) && decide (n ≤ 122)) || (decide (65 ≤ n) && decide (n ≤ 90))) := by unfold letB; rw [hn]
  rw [HL, hn]
  clear HL hn
  by_cases h1 : (97 : Int) ≤ (n : Int)
  · by_cases h2 : (n : Int) ≤ 122
    · have HX := Lib.hid (show ((decide (97 ≤ n) && decide (n ≤ 122)) || (decide (65 ≤ n) && decide (n ≤ 90))) = true from by simp; omega)
      rw [HX.out]
      go_enter Try.func53, Try.ntmps53
      go_wp2_with fail
      go_ret
      exact ⟨rfl, rfl⟩
    · have HX := Lib.hid (show ((decide (97 ≤ n) && decide (n ≤ 122)) || (decide (65 ≤ n) && decide (n ≤ 90))) = false from by simp; omega)
      rw [HX.out]
      have h3 : (65 : Int) ≤ (n : Int) := by omega
      have h4 : ¬ (n : Int) ≤ 90 := by omega
      go_enter Try.func53, Try.ntmps53
      go_wp2_with fail
      go_ret
      exact ⟨by first | rfl | simp [h4], rfl⟩
  · by_cases h3 : (65 : Int) ≤ (n : Int)
    · by_cases h4 : (n : Int) ≤ 90
      · have HX := Lib.hid (show ((decide (97 ≤ n) && decide (n ≤ 122)) || (decide (65 ≤ n) && decide (n ≤ 90))) = true from by simp; omega)
        rw [HX.out]
        go_enter Try.func53, Try.ntmps53
        go_wp2_with fail
        go_ret
        exact ⟨by first | rfl | simp [h4], rfl⟩
      · have HX := Lib.hid (show ((decide (97 ≤ n) && decide (n ≤ 122)) || (decide (65 ≤ n) && decide (n ≤ 90))) = false from by simp; omega)
        rw [HX.out]
        go_enter Try.func53, Try.ntmps53
        go_wp2_with fail
        go_ret
        exact ⟨by first | rfl | simp [h4], rfl⟩
    · have HX := Lib.hid (show ((decide (97 ≤ n) && decide (n ≤ 122)) || (decide (65 ≤ n) && decide (n ≤ 90))) = false from by simp; omega)
      rw [HX.out]
      go_enter Try.func53, Try.ntmps53
      go_wp2_with fail
      go_ret
      exact ⟨by first | rfl | simp [h3], rfl⟩
set_option maxRecDepth 20000 in
set_option maxHeartbeats 1000000 in
theorem rname53 (w : World) (s : ByteArray) (hs : s.size ≤ maxLen) :
    Calls Try.prog 34 #[.string s] w fun e w' => e = .returned (.bool (nameB s)) ∧ w' = w := by
  have hsz : s.size ≤ 9223372036854775807 := by simpa [maxLen] using hs
  go_enter Try.func34, Try.ntmps34
  go_wp2_with fail
  go_loopw [3] (fun i wr => ∃ (k : Nat), k ≤ s.size ∧ i = .int .i64 k ∧ (∀ j (hj : j < s.size), j < k → charB j s[j] = true) ∧ wr = w) (fun i _ => s.size - (intOf i).toNat)
  case atStart => exact ⟨0, Nat.zero_le _, rfl, fun j _ hj => absurd hj (by omega), rfl⟩
  case round =>
    obtain ⟨k, hk, rfl, hall, rfl⟩ := hrel
    have HALL := Lib.hid hall
    clear hall
    by_cases hlt : k < s.size
    · have hkI : (k : Int) < (s.size : Int) := by omega
      have HBAD := Lib.hid (show charB k s[k] = false → nameB s = false from fun h => name_bad (s := s) hlt h)
      have HGOOD := Lib.hid (show charB k s[k] = true → ∀ j (hj : j < s.size), j < k + 1 → charB j s[j] = true from fun h j hj hjk => by
        by_cases e : j = k
        · subst e; exact h
        · exact HALL.out j hj (by omega))
      have HLT := Lib.hid hlt
      have HLE := Lib.hid (rletter53 wr s[k])
      go_wp2_with fail
      refine HLE.out.mono ?_
      rintro e w2 ⟨rfl, rfl⟩
      generalize hlb : letB s[k] = lb
      have HCB := Lib.hid (show charB k s[k] = (lb || (decide (k ≠ 0) && (decide (s[k].toNat = 45) || (decide (48 ≤ s[k].toNat) && decide (s[k].toNat ≤ 57))))) from by rw [← hlb]; rfl)
      clear hlb HLE
      cases lb
      · go_wp2_with fail
        all_goals try subst_vars
        all_goals clear HALL
        all_goals first
          | (exfalso; omega)
          | (go_ret
             rw [HBAD.out (HCB.out.trans (by simp; omega))]
             exact ⟨rfl, rfl⟩)
          | (go_ret
             rw [HBAD.out (HCB.out.trans (by simp at *; omega))]
             exact ⟨rfl, rfl⟩)
          | (go_ret
             rw [HBAD.out (HCB.out.trans (by simp))]
             exact ⟨rfl, rfl⟩)
          | (refine ⟨⟨_, HLT.out, by go_num, HGOOD.out (HCB.out.trans (by simp; omega)), by first | rfl | trivial⟩, by have := HLT.out; simp [intOf]; try omega⟩)
          | (refine ⟨⟨_, HLT.out, by go_num, HGOOD.out (HCB.out.trans (by simp at *; omega)), by first | rfl | trivial⟩, by have := HLT.out; simp [intOf]; try omega⟩)
      · go_wp2_with fail
        go_roundw
        case rel => exact ⟨k + 1, HLT.out, by go_num, HGOOD.out (HCB.out.trans rfl), by first | rfl | trivial⟩
        case measure => have := HLT.out; simp [intOf]; try omega
    · obtain rfl : k = s.size := by omega
      have HN := Lib.hid (name_all (s := s) (fun j hj => HALL.out j hj hj))
      by_cases e1 : (1 : Int) ≤ (s.size : Int)
      · go_wp2_with fail
        go_ret
        have h1 : decide (1 ≤ s.size) = true := by simp; omega
        have h2 : decide ((s.size : Int) ≤ 16) = decide (s.size ≤ 16) := decide_eq_decide.2 (by omega)
        rw [HN.out, h1]
        refine ⟨?_, rfl⟩
        first | rw [← h2]; rfl | (simp; omega)
      · have H1 := Lib.hid (show decide (1 ≤ s.size) = false from decide_eq_false (by omega))
        go_wp2_with fail
        go_ret
        rw [HN.out, H1.out]
        exact ⟨rfl, rfl⟩
end Go.Proofs.Ytdcjocldggmdbaa
