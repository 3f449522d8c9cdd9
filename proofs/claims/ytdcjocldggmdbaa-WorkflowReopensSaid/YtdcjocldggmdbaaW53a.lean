/- Layer 53: a name. -/
import Derived.Test.YtdcjocldggmdbaaProg
import Derived.Test.YtdcjocldggmdbaaColl
import Derived.Test.YtdcjocldggmdbaaP53
set_option linter.unusedSimpArgs false
namespace Go.Proofs.Ytdcjocldggmdbaa
open Go.RowKit Go

set_option maxRecDepth 20000 in
set_option maxHeartbeats 1000000 in
theorem name53 (w : World) (s : ByteArray) (hs : s.size ≤ maxLen) :
    Calls Try.prog 33 #[.string s] w fun e w' => e = .returned (.bool (nameB s)) ∧ w' = w := by
  have hsz : s.size ≤ 9223372036854775807 := by simpa [maxLen] using hs
  go_enter Try.func33, Try.ntmps33
  go_wp2
  go_loopw [3, 4, 5, 8] (fun _ _ _ i wr => ∃ (k : Nat), k ≤ s.size ∧ i = .int .i64 k ∧ (∀ j (hj : j < s.size), j < k → charB j s[j] = true) ∧ wr = w) (fun _ _ _ i _ => s.size - (intOf i).toNat)
  case atStart => exact ⟨0, Nat.zero_le _, rfl, fun j _ hj => absurd hj (by omega), rfl⟩
  case round =>
    obtain ⟨k, hk, rfl, hall, rfl⟩ := hrel
    have HALL := Lib.hid hall
    clear hall
    by_cases hlt : k < s.size
    · have hkI : (k : Int) < (s.size : Int) := by omega
      have HBAD := Lib.hid (show charB k s[k] = false → nameB s = false from fun h => name_bad (s := s) hlt h)
      have HGOOD := Lib.hid (show charB k s[k] = true → ∀ j (hj : j < s.size), j < k + 1 → charB j s[j] = true from fun h j hj hjk => by
        by_cases e : j = k
        · subst e; exact h
        · exact HALL.out j hj (by omega))
      have HLT := Lib.hid hlt
      go_wp2_with fail
      all_goals try subst_vars
      all_goals clear HALL
      all_goals first
        | (exfalso; omega)
        | (exfalso; simp at *; omega)
        | (go_ret
           rw [HBAD.out (by unfold charB letB; simp; omega)]
           exact ⟨rfl, rfl⟩)
        | (go_ret
           rw [HBAD.out (by unfold charB letB; simp at *; omega)]
           exact ⟨rfl, rfl⟩)
        | (refine ⟨⟨_, HLT.out, by go_num, HGOOD.out (by unfold charB letB; simp; omega), by first | rfl | trivial⟩, by have := HLT.out; simp [intOf]; try omega⟩)
        | (refine ⟨⟨_, HLT.out, by go_num, HGOOD.out (by unfold charB letB; simp at *; omega), by first | rfl | trivial⟩, by have := HLT.out; simp [intOf]; try omega⟩)
    · obtain rfl : k = s.size := by omega
      have HN := Lib.hid (name_all (s := s) (fun j hj => HALL.out j hj hj))
      by_cases e1 : (1 : Int) ≤ (s.size : Int)
      · go_wp2_with fail
        go_ret
        have h1 : decide (1 ≤ s.size) = true := by simp; omega
        have h2 : decide ((s.size : Int) ≤ 16) = decide (s.size ≤ 16) := decide_eq_decide.2 (by omega)
        rw [HN.out, h1]
        refine ⟨?_, rfl⟩
        first | rw [← h2]; rfl | (simp; omega)
      · have H1 := Lib.hid (show decide (1 ≤ s.size) = false from decide_eq_false (by omega))
        go_wp2_with fail
        go_ret
        rw [HN.out, H1.out]
        exact ⟨rfl, rfl⟩
end Go.Proofs.Ytdcjocldggmdbaa
