/- Layer 55: the contracts of step, sum, next, Next, Sum and of the reference's Step, From, Eight, Next: for every input, nothing that was there is changed. -/
import Derived.Test.YtkojomakibfncaaBase
import Derived.Test.YtkojomakibfncaaChecked
namespace Go.Proofs.Ytkojomakibfncaa
open Go.RowKit Go

def stepI (h b : Int) : Int :=
  bits BinOp.xor IntKind.u64
    (IntKind.u64.wrap (IntKind.u64.wrap (IntKind.u64.wrap (h + IntKind.u64.wrap b) + 1) * 11400714819323198485))
    (IntKind.u64.wrap (IntKind.u64.wrap (IntKind.u64.wrap (h + IntKind.u64.wrap b) + 1) * 11400714819323198485) / 536870912)
def sumI (h : Int) (xs : List Int) : Int := xs.foldl stepI h
def eightI (n : Int) : List Int := [n / 72057594037927936, n / 281474976710656 % 256, n / 1099511627776 % 256, n / 4294967296 % 256, n / 16777216 % 256, n / 65536 % 256, n / 256 % 256, n % 256]
def nextI (h : Int) (xs : List Int) : Int := sumI (sumI h (eightI xs.length)) xs

theorem fold_take {β : Type} (f : β → Int → β) (s : β) (xs : List Int) (k : Nat) (h : k < xs.length) :
    (xs.take (k + 1)).foldl f s = f ((xs.take k).foldl f s) (xs[k]?.getD 0) := by
  rw [List.take_succ_eq_append_getElem h, List.foldl_append]; simp [h]

theorem info_u8 : (Try.prog.info? 5).map (fun i => (i.zero, i.size, i.bytes)) = some (some (.int .u8 0), 1, 1) := by kernel_rfl

theorem eightI_wf (n : Int) (h0 : 0 ≤ n) (h1 : n ≤ 18446744073709551615) : ∀ x ∈ eightI n, (Lit.int .u8 x).wf = true := by
  intro x hx
  simp only [eightI, List.mem_cons, List.not_mem_nil, or_false] at hx
  simp only [Lit.wf, IntKind.min, IntKind.max, IntKind.signed, IntKind.bits]
  simp
  omega

set_option maxHeartbeats 400000 in
theorem step_any (h : Int) (b : Int) (w : World) :
    Calls Try.prog 50 #[.int .u64 h, .int .u8 b] w fun e w' => e = .returned (.int .u64 (stepI h b)) ∧ w = w' := by
  go_enter Try.func50, Try.ntmps50
  go_wp2
  go_ret
  exact ⟨rfl, rfl⟩

set_option maxHeartbeats 400000 in
theorem refStep_any (h : Int) (b : Int) (w : World) :
    Calls Try.prog 49 #[.int .u64 h, .int .u8 b] w fun e w' => e = .returned (.int .u64 (stepI h b)) ∧ w = w' := by
  go_enter Try.func49, Try.ntmps49
  go_wp2
  go_ret
  exact ⟨rfl, rfl⟩

set_option maxHeartbeats 400000 in
theorem sum_any {S : Nat → Prop} (h : Int) (a : Option Addr) (len cap : Nat) (xs : List Int) (w : World) (hx : Rd (.sl (.int .u8)) S w [.slice a len cap] xs) :
    Calls Try.prog 48 #[.int .u64 h, .slice a len cap] w fun e w' => e = .returned (.int .u64 (sumI h xs)) ∧ w = w' := by
  obtain ⟨hl, hc, hm, hat, _⟩ := hx.ints
  clear hx
  go_enter Try.func48, Try.ntmps48
  go_wp2
  go_loop [0, 9] (fun s i => ∃ k : Nat, k ≤ len ∧ i = .int .i64 k ∧ s = .int .u64 ((xs.take k).foldl stepI h)) (fun _ i => len - (intOf i).toNat)
  case atStart => exact ⟨0, Nat.zero_le _, rfl, rfl⟩
  case round =>
    obtain ⟨k, hk, rfl, rfl⟩ := hrel
    by_cases hlt : k < len
    · obtain ⟨b, off, rfl, _, hcell⟩ := hat k hlt
      have HS := Lib.hid (fold_take stepI h xs k (by omega))
      clear hat hl
      go_wp2_with (go_at_call 50; refine (step_any _ _ _).mono ?_; rintro e w' ⟨rfl, rfl⟩)
      go_round
      case rel => exact ⟨k + 1, by omega, by go_num, by rw [HS.out]⟩
      case measure => simp [intOf]; omega
    · have HL := Lib.hid hl
      clear hl hat
      go_wp2
      go_ret
      exact ⟨ret_int (by rw [List.take_of_length_le (by have := HL.out; omega)]; rfl), rfl⟩

set_option maxHeartbeats 400000 in
theorem refFrom_any {S : Nat → Prop} (h : Int) (a : Option Addr) (len cap : Nat) (xs : List Int) (w : World) (hx : Rd (.sl (.int .u8)) S w [.slice a len cap] xs) :
    Calls Try.prog 45 #[.int .u64 h, .slice a len cap] w fun e w' => e = .returned (.int .u64 (sumI h xs)) ∧ w = w' := by
  obtain ⟨hl, hc, hm, hat, _⟩ := hx.ints
  clear hx
  go_enter Try.func45, Try.ntmps45
  go_wp2
  go_loop [0, 5] (fun s i => ∃ k : Nat, k ≤ len ∧ i = .int .i64 k ∧ s = .int .u64 ((xs.take k).foldl stepI h)) (fun _ i => len - (intOf i).toNat)
  case atStart => exact ⟨0, Nat.zero_le _, rfl, rfl⟩
  case round =>
    obtain ⟨k, hk, rfl, rfl⟩ := hrel
    by_cases hlt : k < len
    · obtain ⟨b, off, rfl, _, hcell⟩ := hat k hlt
      have HS := Lib.hid (fold_take stepI h xs k (by omega))
      clear hat hl
      go_wp2_with (go_at_call 49; refine (refStep_any _ _ _).mono ?_; rintro e w' ⟨rfl, rfl⟩)
      go_round
      case rel => exact ⟨k + 1, by omega, by go_num, by rw [HS.out]⟩
      case measure => simp [intOf]; omega
    · have HL := Lib.hid hl
      clear hl hat
      go_wp2
      go_ret
      exact ⟨ret_int (by rw [List.take_of_length_le (by have := HL.out; omega)]; rfl), rfl⟩

set_option maxHeartbeats 1000000 in
theorem next_any {S : Nat → Prop} (h : Int) (a : Option Addr) (len cap : Nat) (xs : List Int) (w : World) (hS : ∀ b, S b → b < w.heap.size) (hx : Rd (.sl (.int .u8)) S w [.slice a len cap] xs) :
    Calls Try.prog 42 #[.int .u64 h, .slice a len cap] w fun e w' => e = .returned (.int .u64 (nextI h xs)) ∧ Below w.heap.size w w' := by
  obtain ⟨hl, hc, hm, -⟩ := id hx.ints
  have HX := Lib.hid hx
  have HL := Lib.hid hl
  clear hx hl
  go_enter Try.func42, Try.ntmps42
  go_wp2
  refine wp_loop_rounds 9 ?_
  repeat any_goals (rw [rounds_succ]; go_wp2_with fail)
  have hE : Rd (.sl (.int .u8)) (fun _ => True) (w.alloc (.cells ((eightI len).map (Value.int .u8)).toArray 85)) [.slice (some ⟨w.heap.size, 0, none⟩) 8 8] (eightI len) :=
    Rd.ints_mk rfl (Nat.le_refl _) (by omega) trivial (fun i hi => by
      rw [Nat.zero_add, cell_of_row _ _ _ _ _ _ (heap_alloc_new w _)]
      match i, hi with
      | 0, _ | 1, _ | 2, _ | 3, _ | 4, _ | 5, _ | 6, _ | 7, _ => rfl) (eightI_wf _ (by omega) (by omega))
  refine (sum_any h _ _ _ _ _ hE).mono ?_
  rintro e w' ⟨rfl, rfl⟩
  clear hE
  go_wp2_with fail
  refine (sum_any (S := S) _ a len cap xs _ (HX.out.below ((Below.refl _ _).alloc (Nat.le_refl _) _) hS)).mono ?_
  rintro e w' ⟨rfl, rfl⟩
  go_wp2
  go_ret
  exact ⟨ret_int (by unfold nextI; rw [HL.out]), (Below.refl _ _).alloc (Nat.le_refl _) _⟩

set_option maxHeartbeats 1000000 in
theorem eight_any (n : Int) (w : World) (h0 : 0 ≤ n) (h1 : n ≤ 9223372036854775807) :
    Calls Try.prog 46 #[.int .u64 n] w fun e w' => ∃ v, e = .returned v ∧ Below w.heap.size w w' ∧ Owns (.int .u8) 5 w.heap.size (fun _ => False) w' v (eightI n) := by
  go_enter Try.func46, Try.ntmps46
  have O := Owns.nil (.int .u8) 5 w.heap.size w
  have hB := Below.refl w.heap.size w
  go_wp2
  refine wp_loop_rounds 9 ?_
  repeat any_goals (rw [rounds_succ]; go_wp2_with (at_builtin; go_must (refine wpList_app _ rfl _ _ 22 rfl (e := .int .u8) info_u8 Try.underlying22 rfl (by decide) rfl (Owns.alloc (by assumption) _) (by have := hB.size; simp only [World.size_alloc]; omega) rfl (ys := [_]) (Src.new _ [_] _ _ _) (RdL.int1 (wf_u8' (by omega) (by omega))) (by simp) (by simp) ?_; intro v' w1 O1 g1 _ _; have hB1 := (hB.alloc hB.size _).grown g1 (by simp only [World.size_alloc]; have := hB.size; omega) (fun k e => (O.own k e).1); clear g1 hB O; have O := O1; have hB := hB1; clear O1 hB1)))
  go_ret
  exact ⟨_, rfl, hB, O⟩
end Go.Proofs.Ytkojomakibfncaa
