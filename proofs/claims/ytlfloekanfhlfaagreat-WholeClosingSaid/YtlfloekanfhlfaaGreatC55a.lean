/- Layer 55: the contracts of step, sum, next, Next, Sum and of the reference's Step, From, Eight, Next: for every input, nothing that was there is changed. -/
import Derived.Test.YtlfloekanfhlfaaGreatBase
import Derived.Test.YtlfloekanfhlfaaGreatChecked
namespace Go.Proofs.YtlfloekanfhlfaaGreat
open Go.RowKit Go

def stepI (h b : Int) : Int :=
  bits BinOp.xor IntKind.u64
    (IntKind.u64.wrap (IntKind.u64.wrap (IntKind.u64.wrap (h + IntKind.u64.wrap b) + 1) * 11400714819323198485))
    (IntKind.u64.wrap (IntKind.u64.wrap (IntKind.u64.wrap (h + IntKind.u64.wrap b) + 1) * 11400714819323198485) / 536870912)
def sumI (h : Int) (xs : List Int) : Int := xs.foldl stepI h
def eightI (n : Int) : List Int := [n / 72057594037927936, n / 281474976710656 % 256, n / 1099511627776 % 256, n / 4294967296 % 256, n / 16777216 % 256, n / 65536 % 256, n / 256 % 256, n % 256]
def nextI (h : Int) (xs : List Int) : Int := sumI (sumI h (eightI xs.length)) xs

theorem fold_take {β : Type} (f : β → Int → β) (s : β) (xs : List Int) (k : Nat) (h : k < xs.length) :
    (xs.take (k + 1)).foldl f s = f ((xs.take k).foldl f s) (xs[k]?.getD 0) := by
  rw [List.take_succ_eq_append_getElem h, List.foldl_append]; simp [h]

theorem info_u8 : (Tryz.prog.info? 5).map (fun i => (i.zero, i.size, i.bytes)) = some (some (.int .u8 0), 1, 1) := by kernel_rfl

theorem eightI_wf (n : Int) (h0 : 0 ≤ n) (h1 : n ≤ 18446744073709551615) : ∀ x ∈ eightI n, (Lit.int .u8 x).wf = true := by
  intro x hx
  simp only [eightI, List.mem_cons, List.not_mem_nil, or_false] at hx
  simp only [Lit.wf, IntKind.min, IntKind.max, IntKind.signed, IntKind.bits]
  simp
  omega

set_option maxHeartbeats 400000 in
theorem step_any (h : Int) (b : Int) (w : World) :
    Calls Tryz.prog 84 #[.int .u64 h, .int .u8 b] w fun e w' => e = .returned (.int .u64 (stepI h b)) ∧ w = w' := by
  go_enter Tryz.func84, Tryz.ntmps84
  go_wp2
  go_ret
  exact ⟨rfl, rfl⟩

set_option maxHeartbeats 400000 in
theorem sum_any {S : Nat → Prop} (h : Int) (a : Option Addr) (len cap : Nat) (xs : List Int) (w : World) (hx : Rd (.sl (.int .u8)) S w [.slice a len cap] xs) :
    Calls Tryz.prog 77 #[.int .u64 h, .slice a len cap] w fun e w' => e = .returned (.int .u64 (sumI h xs)) ∧ w = w' := by
  obtain ⟨hl, hc, hm, hat, _⟩ := hx.ints
  clear hx
  go_enter Tryz.func77, Tryz.ntmps77
  go_wp2
  go_loop [0, 9] (fun s i => ∃ k : Nat, k ≤ len ∧ i = .int .i64 k ∧ s = .int .u64 ((xs.take k).foldl stepI h)) (fun _ i => len - (intOf i).toNat)
  case atStart => exact ⟨0, Nat.zero_le _, rfl, rfl⟩
  case round =>
    obtain ⟨k, hk, rfl, rfl⟩ := hrel
    by_cases hlt : k < len
    · obtain ⟨b, off, rfl, _, hcell⟩ := hat k hlt
      have HS := Lib.hid (fold_take stepI h xs k (by omega))
      clear hat hl
      go_wp2_with (go_at_call 84; refine (step_any _ _ _).mono ?_; rintro e w' ⟨rfl, rfl⟩)
      go_round
      case rel => exact ⟨k + 1, by omega, by go_num, by rw [HS.out]⟩
      case measure => simp [intOf]; omega
    · have HL := Lib.hid hl
      clear hl hat
      go_wp2
      go_ret
      exact ⟨ret_int (by rw [List.take_of_length_le (by have := HL.out; omega)]; rfl), rfl⟩

set_option maxHeartbeats 1000000 in
theorem next_any {S : Nat → Prop} (h : Int) (a : Option Addr) (len cap : Nat) (xs : List Int) (w : World) (hS : ∀ b, S b → b < w.heap.size) (hx : Rd (.sl (.int .u8)) S w [.slice a len cap] xs) :
    Calls Tryz.prog 58 #[.int .u64 h, .slice a len cap] w fun e w' => e = .returned (.int .u64 (nextI h xs)) ∧ Below w.heap.size w w' := by
  obtain ⟨hl, hc, hm, -⟩ := id hx.ints
  have HX := Lib.hid hx
  have HL := Lib.hid hl
  clear hx hl
  go_enter Tryz.func58, Tryz.ntmps58
  go_wp2
  refine wp_loop_rounds 9 ?_
  repeat any_goals (rw [rounds_succ]; go_wp2_with fail)
  have hE : Rd (.sl (.int .u8)) (fun _ => True) (w.alloc (.cells ((eightI len).map (Value.int .u8)).toArray 183)) [.slice (some ⟨w.heap.size, 0, none⟩) 8 8] (eightI len) :=
    Rd.ints_mk rfl (Nat.le_refl _) (by omega) trivial (fun i hi => by
      rw [Nat.zero_add, cell_of_row _ _ _ _ _ _ (heap_alloc_new w _)]
      match i, hi with
      | 0, _ | 1, _ | 2, _ | 3, _ | 4, _ | 5, _ | 6, _ | 7, _ => rfl) (eightI_wf _ (by omega) (by omega))
  refine (sum_any h _ _ _ _ _ hE).mono ?_
  rintro e w' ⟨rfl, rfl⟩
  clear hE
  go_wp2_with fail
  refine (sum_any (S := S) _ a len cap xs _ (HX.out.below ((Below.refl _ _).alloc (Nat.le_refl _) _) hS)).mono ?_
  rintro e w' ⟨rfl, rfl⟩
  go_wp2
  go_ret
  exact ⟨ret_int (by unfold nextI; rw [HL.out]), (Below.refl _ _).alloc (Nat.le_refl _) _⟩

end Go.Proofs.YtlfloekanfhlfaaGreat
