/- Layer 53: few, start. -/
import Derived.Test.YtdcjocldggmdbaaX53d
set_option linter.unusedSimpArgs false
namespace Go.Proofs.Ytdcjocldggmdbaa
open Go.RowKit Go

def FewB (xs : List taskT.den) (w : World) (e : Ending) (w' : World) : Prop := ∃ b, e = .returned (.bool b) ∧ Below w.heap.size w w' ∧ (b = true → xs.length ≤ 8 ∧ ∀ i (hi : i < xs.length), (tk xs[i]).needs.length ≤ 8)
set_option maxRecDepth 20000 in
set_option maxHeartbeats 1000000 in
theorem few53 {S : Nat → Prop} (w : World) (n : Int) (a : Option Addr) (len cap : Nat) (xs : List taskT.den) (hx : Rd (.sl taskT) S w [.slice a len cap] xs) (hS : ∀ b, S b → b < w.heap.size) :
    Calls Try.prog 9 #[.agg #[.int .i64 n, .slice a len cap], .slice none 0 0] w (FewB xs w) := by
  have hp := alloc_new' (w := w) (o := .cells #[.int .i64 n, .slice a len cap] 24) rfl
  have hB := (Below.refl w.heap.size w).alloc (Nat.le_refl _) (.cells #[.int .i64 n, .slice a len cap] 24)
  have HP := Lib.hid hp
  have HB := Lib.hid hB
  have HX := Lib.hid (hx.below hB hS)
  clear hx hp hB
  go_enter Try.func9, Try.ntmps9
  go_wp2_with fail
  generalize w.alloc _ = w1 at HP HB HX ⊢
  obtain ⟨pb, hpb⟩ : ∃ q, w.heap.size = q := ⟨_, rfl⟩
  have HPB := Lib.hid hpb
  rw [hpb] at HP ⊢
  clear hpb
  go_loopw [5] (fun i wr => i = .int .i64 0 ∧ wr = w1) (fun _ _ => 0)
  case atStart => exact ⟨rfl, rfl⟩
  case round =>
    obtain ⟨rfl, hww⟩ := hrel
    subst hww
    have x0 := blk_cell HP.out 0
    have x1 := blk_cell HP.out 1
    simp at x0 x1
    go_wp2_with fail
    refine (rfew53 wr a len cap xs HX.out).mono ?_
    rintro e w2 ⟨fb, rfl, rfl, hfb⟩
    have HFB := Lib.hid hfb
    clear hfb
    cases fb
    · go_wp2_with fail
      go_ret
      exact ⟨false, rfl, HB.out, fun h => by cases h⟩
    by_cases hn : n ≤ 13
    · go_wp2_with fail
      go_ret
      exact ⟨true, by first | rfl | simp [hn], HB.out, fun _ => HFB.out (by first | rfl | trivial)⟩
    · go_wp2_with fail
      go_ret
      exact ⟨false, by first | rfl | simp [hn], HB.out, fun h => by cases h⟩
end Go.Proofs.Ytdcjocldggmdbaa
