/- Layer 56: the reference's number, begins, next. -/
import Derived.Test.YtkojomakibfncaaC56h
namespace Go.Proofs.Ytkojomakibfncaa
open Go.RowKit Go

set_option maxRecDepth 10000 in
set_option maxHeartbeats 400000 in
theorem number_any {S : Nat → Prop} (a : Option Addr) (len cap : Nat) (xs : List Int) (w : World) (h8 : len ≤ 8) (hx : Rd (.sl (.int .u8)) S w [.slice a len cap] xs) :
    Calls Try.prog 44 #[.slice a len cap] w fun e w' => e = .returned (.int .u64 (numN xs)) ∧ w = w' := by
  obtain ⟨hl, hc, hm, hat, hok⟩ := hx.ints
  clear hx
  have HOK := Lib.hid (show okB xs from hok); clear hok
  go_enter Try.func44, Try.ntmps44
  go_wp2
  go_loop [3, 4] (fun s i => ∃ k : Nat, k ≤ len ∧ i = .int .i64 k ∧ s = .int .u64 (numN (xs.take k))) (fun _ i => len - (intOf i).toNat)
  case atStart => exact ⟨0, Nat.zero_le _, rfl, rfl⟩
  case round =>
    obtain ⟨k, hk, rfl, rfl⟩ := hrel
    by_cases hlt : k < len
    · obtain ⟨b, off, rfl, _, hcell⟩ := hat k hlt
      have hb := okB_get HOK.out k
      obtain ⟨x, hxe⟩ : ∃ x : Nat, xs[k]?.getD 0 = x := ⟨(xs[k]?.getD 0).toNat, by omega⟩
      have HS := Lib.hid (numN_take xs k (by omega))
      rw [hxe] at hcell HS hb
      have hx1 : x < 256 := by omega
      have hn1 := numN_bound (xs.take (k + 1)) (okB_take HOK.out _) (k + 1) (by omega) (by rw [List.length_take]; omega)
      rw [HS.out] at hn1
      simp only [Int.toNat_natCast] at hn1 HS
      obtain ⟨n, hn⟩ : ∃ n, numN (xs.take k) = n := ⟨_, rfl⟩
      rw [hn] at hn1 HS ⊢
      have hn2 : (256 : Int) * n < 18446744073709551616 := by omega
      have hn3 : (256 : Int) * n + x < 18446744073709551616 := by omega
      clear hat hl hxe hn hb hn1
      go_wp2
      go_round
      case rel => exact ⟨k + 1, by omega, by go_num, by rw [HS.out]; congr 1; omega⟩
      case measure => simp [intOf]; omega
    · have HL := Lib.hid hl
      clear hl hat
      go_wp2
      go_ret
      exact ⟨ret_int (by rw [List.take_of_length_le (by have := HL.out; omega)]), rfl⟩

def beginsB (xs ys : List Int) : Bool := decide (ys.length ≤ xs.length) && decide (xs.take ys.length = ys)
set_option maxHeartbeats 400000 in
theorem begins_sum {S T : Nat → Prop} (w : World) (a b : Option Addr) (la ca lb cb : Nat) (xs ys : List Int) (hx : Rd rowT S w [.slice a la ca] xs) (hy : Rd rowT T w [.slice b lb cb] ys) :
    Calls Try.prog 32 #[.slice a la ca, .slice b lb cb] w fun e w' => e = .returned (.bool (beginsB xs ys)) ∧ Below w.heap.size w w' := by
  obtain ⟨hl, hc, hm, -⟩ := hx.ints
  obtain ⟨hl2, hc2, hm2, -⟩ := hy.ints
  by_cases hle : lb ≤ la
  · have hE : beginsB xs ys = decide (xs.take lb = ys) := by unfold beginsB; rw [hl, hl2, decide_eq_true hle, Bool.true_and]
    have hq := strEqB (xs.take lb) ys (okB_take hx.okB _) hy.okB
    rw [← hE] at hq
    have ht := Rd.take hx lb hle
    have v1 := fun n => Rd.conv (P := Try.prog) (w := w.drewN n) (ht.drewN n) Try.underlying22 Try.underlying5 Try.underlying9
    have v2 := fun n => Rd.conv (P := Try.prog) (w := w.drewN n) (hy.drewN n) Try.underlying22 Try.underlying5 Try.underlying9
    obtain ⟨p1, hp1⟩ : ∃ p, strOfNums (xs.take lb) = p := ⟨_, rfl⟩
    obtain ⟨p2, hp2⟩ : ∃ p, strOfNums ys = p := ⟨_, rfl⟩
    obtain ⟨r, hr⟩ : ∃ r, beginsB xs ys = r := ⟨_, rfl⟩
    rw [hp1] at v1 hq
    rw [hp2] at v2 hq
    rw [hr] at hq ⊢
    have hd : decide ((lb : Int) ≤ (la : Int)) = true := by simp; omega
    have hi : (lb : Int) ≤ (la : Int) := by omega
    have hc' : (lb : Int) ≤ (ca : Int) := by omega
    have h0 : (0 : Int) ≤ (lb : Int) := by omega
    clear hp1 hp2 hr hE hl hl2 ht hx hy
    go_enter Try.func32, Try.ntmps32
    go_wp2
    go_quiet (fail)
    go_wp2
    go_ret
    exact ⟨rfl, below_drewN (Below.refl _ _) _⟩
  · have hE : beginsB xs ys = false := by unfold beginsB; rw [hl, hl2, decide_eq_false hle, Bool.false_and]
    rw [hE]
    have hd : decide ((lb : Int) ≤ (la : Int)) = false := by simp; omega
    have hi : ¬ (lb : Int) ≤ (la : Int) := by omega
    clear hE hl hl2 hx hy
    go_enter Try.func32, Try.ntmps32
    go_wp2
    go_quiet (fail)
    go_wp2
    go_ret
    exact ⟨rfl, below_drewN (Below.refl _ _) _⟩
end Go.Proofs.Ytkojomakibfncaa
