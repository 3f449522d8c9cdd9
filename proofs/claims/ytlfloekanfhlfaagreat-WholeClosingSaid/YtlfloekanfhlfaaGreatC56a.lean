/- Layer 56: the contracts of big, number, put and of the library's clones. -/
import Derived.Test.YtlfloekanfhlfaaGreatC55e
import Derived.Test.YtlfloekanfhlfaaGreatP55
import Derived.Test.YtlfloekanfhlfaaGreatFr
import Derived.Lib.SliceRun
namespace Go.Proofs.YtlfloekanfhlfaaGreat
open Go.RowKit Go

theorem info_bs : (Tryz.prog.info? 49).map (fun i => (i.zero, i.size, i.bytes)) = some (some (.slice none 0 0), 1, 24) := by kernel_rfl

theorem bclone_any {S : Nat → Prop} (w : World) (a : Option Addr) (len cap : Nat) (xs : List (Ty.den (.int .u8))) (h : Rd (.sl (.int .u8)) S w [.slice a len cap] xs) (hS : ∀ b, S b → b < w.heap.size) (hlen : len ≤ 1000000) :
    Calls Tryz.prog 56 #[.slice a len cap] w fun e w' => ∃ v, e = .returned v ∧ Below w.heap.size w w' ∧ Owns (.int .u8) 5 w.heap.size S w' v xs := by
  obtain ⟨a', len', cap', he, h1, h2, h3, h4⟩ := id h
  simp only [List.cons.injEq, Value.slice.injEq, and_true] at he
  obtain ⟨rfl, rfl, rfl⟩ := he
  have hz := fun w => Lib.run_eql_slice_nil (P := Tryz.prog) w 49 _ a len cap 0 0 Tryz.underlying49
  cases a with
  | none =>
    have h0 : len = 0 := by
      rcases h4 with h0 | ⟨b, off, h0, _⟩
      · exact h0
      · cases h0
    subst h0
    obtain rfl : xs = [] := List.eq_nil_of_length_eq_zero h1
    clear h h4 h1
    simp only [Option.isNone] at hz
    go_enter Tryz.func56, Tryz.ntmps56
    go_wp2
    go_ret
    exact ⟨_, rfl, Below.refl _ _, (Owns.nil _ _ _ _).mono (fun _ h => h.elim) (fun b hb => ⟨by simp [Value.ownBlock], hS b hb⟩)⟩
  | some ad =>
    clear h4
    simp only [Option.isNone] at hz
    go_enter Tryz.func56, Tryz.ntmps56
    go_wp2_with (at_builtin; go_must (refine wpList_copy w rfl _ _ 49 rfl (e := (.int .u8)) info_u8 Tryz.underlying49 rfl (by decide) rfl (S := S) (sv := .slice (some ad) len cap) (xs := xs) rfl h hS h1 (by omega) (by omega) ?_; intro g cv w1 O1 hg hB h5 h6))
    go_ret
    exact ⟨_, rfl, hB, O1⟩

/-- The number that bytes stand for. -/
def numN (xs : List Int) : Nat := xs.foldl (fun n x => n * 256 + x.toNat) 0
theorem numN_take (xs : List Int) (k : Nat) (h : k < xs.length) : numN (xs.take (k + 1)) = numN (xs.take k) * 256 + (xs[k]?.getD 0).toNat := by
  unfold numN
  rw [List.take_succ_eq_append_getElem h, List.foldl_append]; simp [h]
theorem numN_lt : ∀ (xs : List Int) (n m : Nat), okB xs → n < m → xs.foldl (fun n x => n * 256 + x.toNat) n < m * 256 ^ xs.length
  | [], n, m, _, h => by simpa using h
  | x :: xs, n, m, hx, h => by
    have h0 := wf_u8 (hx x (by simp))
    have := numN_lt xs (n * 256 + x.toNat) (m * 256) (fun y hy => hx y (by simp [hy])) (by omega)
    simp only [List.foldl_cons, List.length_cons, Nat.pow_succ]
    rw [Nat.mul_assoc, Nat.mul_comm 256] at this
    exact this
theorem numN_bound (xs : List Int) (hx : okB xs) (k : Nat) (hk : k ≤ 8) (h : xs.length = k) : numN xs < 18446744073709551616 := by
  have h1 := numN_lt xs 0 1 hx (by omega)
  have h2 : 256 ^ xs.length ≤ 256 ^ 8 := Nat.pow_le_pow_right (by omega) (by omega)
  unfold numN
  omega
theorem okB_take {xs : List Int} (h : okB xs) (k : Nat) : okB (xs.take k) := fun x hx => h x (List.mem_of_mem_take hx)
theorem okB_drop {xs : List Int} (h : okB xs) (k : Nat) : okB (xs.drop k) := fun x hx => h x (List.mem_of_mem_drop hx)
theorem okB_get {xs : List Int} (h : okB xs) (k : Nat) : 0 ≤ xs[k]?.getD 0 ∧ xs[k]?.getD 0 ≤ 255 := by
  by_cases hk : k < xs.length
  · rw [List.getElem?_eq_getElem hk]; exact wf_u8 (h _ (List.getElem_mem hk))
  · rw [List.getElem?_eq_none (by omega)]; simp

set_option maxRecDepth 10000 in
set_option maxHeartbeats 400000 in
theorem big_any {S : Nat → Prop} (a : Option Addr) (len cap : Nat) (xs : List Int) (w : World) (h8 : len ≤ 8) (hx : Rd (.sl (.int .u8)) S w [.slice a len cap] xs) :
    Calls Tryz.prog 57 #[.slice a len cap] w fun e w' => e = .returned (.int .u64 (numN xs)) ∧ w = w' := by
  obtain ⟨hl, hc, hm, hat, hok⟩ := hx.ints
  clear hx
  have HOK := Lib.hid (show okB xs from hok); clear hok
  go_enter Tryz.func57, Tryz.ntmps57
  go_wp2
  go_loop [3, 8] (fun s i => ∃ k : Nat, k ≤ len ∧ i = .int .i64 k ∧ s = .int .u64 (numN (xs.take k))) (fun _ i => len - (intOf i).toNat)
  case atStart => exact ⟨0, Nat.zero_le _, rfl, rfl⟩
  case round =>
    obtain ⟨k, hk, rfl, rfl⟩ := hrel
    by_cases hlt : k < len
    · obtain ⟨b, off, rfl, _, hcell⟩ := hat k hlt
      have hb := okB_get HOK.out k
      obtain ⟨x, hxe⟩ : ∃ x : Nat, xs[k]?.getD 0 = x := ⟨(xs[k]?.getD 0).toNat, by omega⟩
      have HS := Lib.hid (numN_take xs k (by omega))
      rw [hxe] at hcell HS hb
      have hx1 : x < 256 := by omega
      have hn1 := numN_bound (xs.take (k + 1)) (okB_take HOK.out _) (k + 1) (by omega) (by rw [List.length_take]; omega)
      rw [HS.out] at hn1
      simp only [Int.toNat_natCast] at hn1 HS
      obtain ⟨n, hn⟩ : ∃ n, numN (xs.take k) = n := ⟨_, rfl⟩
      rw [hn] at hn1 HS ⊢
      have ho := or_byte n x hx1 (Nat.lt_of_le_of_lt (Nat.le_add_right _ _) hn1)
      rw [Int.natCast_mul, show ((256 : Nat) : Int) = 256 from rfl] at ho
      have hn2 : (n : Int) * 256 < 18446744073709551616 := by omega
      have hn3 : (n : Int) < 18446744073709551616 := by omega
      have HO := Lib.hid ho; clear ho
      clear hat hl hxe hn hb
      go_wp2
      go_round
      case rel => exact ⟨k + 1, by omega, by go_num, by rw [HO.out, HS.out]⟩
      case measure => simp [intOf]; omega
    · have HL := Lib.hid hl
      clear hl hat
      go_wp2
      go_ret
      exact ⟨ret_int (by rw [List.take_of_length_le (by have := HL.out; omega)]), rfl⟩

def fourI (n : Int) : List Int := [n / 16777216 % 256, n / 65536 % 256, n / 256 % 256, n % 256]

set_option maxRecDepth 10000 in
set_option maxHeartbeats 1000000 in
theorem put4_any (B : Nat) (w : World) (v : Value) (xs : List Int) (n : Int) (h0 : 0 ≤ n) (h1 : n ≤ 18446744073709551615) (hBw : B ≤ w.heap.size) (hl : xs.length ≤ 10000000) (hO : Owns (.int .u8) 5 B (fun _ => False) w v xs) :
    Calls Tryz.prog 36 #[v, .int .u64 n, .int .i64 4] w fun e w' => ∃ v', e = .returned v' ∧ Below B w w' ∧ Owns (.int .u8) 5 B (fun _ => False) w' v' (xs ++ fourI n) := by
  obtain ⟨a, len, cap, rfl, -⟩ := hO.slice
  have O := hO; clear hO
  have hB := Below.refl B w
  have hbw := hBw
  have hle : ∀ k, k ≤ 10 → xs.length + k ≤ 20000000 := fun k hk => by omega
  have HLE := Lib.hid hle; clear hle hl
  go_enter Tryz.func36, Tryz.ntmps36
  go_wp2
  refine wp_loop_rounds 5 ?_
  repeat any_goals (rw [rounds_succ]; go_wp2_with (at_builtin; go_must (refine wpList_app _ rfl _ _ 49 rfl (e := .int .u8) info_u8 Tryz.underlying49 rfl (by decide) rfl (Owns.alloc (by assumption) _) (by simp only [World.size_alloc]; omega) rfl (ys := [_]) (Src.new _ [_] _ _ _) (RdL.int1 (wf_u8' (by omega) (by omega))) (by simp only [List.length_append, List.length_cons, List.length_nil]; have := HLE.out 10 (by omega); omega) (by simp only [List.length_append, List.length_cons, List.length_nil]; have := HLE.out 10 (by omega); omega) ?_; intro v' w1 O1 g1 _ _; have hB1 := (hB.alloc hbw _).grown g1 (by simp only [World.size_alloc]; omega) (fun k e => (O.own k e).1); have hbw1 := g1.size; rw [World.size_alloc] at hbw1; replace hbw1 := Nat.le_trans hbw (Nat.le_trans (Nat.le_succ _) hbw1); clear g1 hB O hbw; have O := O1; have hB := hB1; have hbw := hbw1; clear O1 hB1 hbw1)))
  go_ret
  refine ⟨_, rfl, hB, ?_⟩
  simpa [fourI, List.append_assoc] using O

set_option maxRecDepth 10000 in
set_option maxHeartbeats 1000000 in
theorem put8_any (B : Nat) (w : World) (v : Value) (xs : List Int) (n : Int) (h0 : 0 ≤ n) (h1 : n ≤ 18446744073709551615) (hBw : B ≤ w.heap.size) (hl : xs.length ≤ 10000000) (hO : Owns (.int .u8) 5 B (fun _ => False) w v xs) :
    Calls Tryz.prog 36 #[v, .int .u64 n, .int .i64 8] w fun e w' => ∃ v', e = .returned v' ∧ Below B w w' ∧ Owns (.int .u8) 5 B (fun _ => False) w' v' (xs ++ eightI n) := by
  obtain ⟨a, len, cap, rfl, -⟩ := hO.slice
  have O := hO; clear hO
  have hB := Below.refl B w
  have hbw := hBw
  have hle : ∀ k, k ≤ 10 → xs.length + k ≤ 20000000 := fun k hk => by omega
  have HLE := Lib.hid hle; clear hle hl
  go_enter Tryz.func36, Tryz.ntmps36
  go_wp2
  refine wp_loop_rounds 9 ?_
  repeat any_goals (rw [rounds_succ]; go_wp2_with (at_builtin; go_must (refine wpList_app _ rfl _ _ 49 rfl (e := .int .u8) info_u8 Tryz.underlying49 rfl (by decide) rfl (Owns.alloc (by assumption) _) (by simp only [World.size_alloc]; omega) rfl (ys := [_]) (Src.new _ [_] _ _ _) (RdL.int1 (wf_u8' (by omega) (by omega))) (by simp only [List.length_append, List.length_cons, List.length_nil]; have := HLE.out 10 (by omega); omega) (by simp only [List.length_append, List.length_cons, List.length_nil]; have := HLE.out 10 (by omega); omega) ?_; intro v' w1 O1 g1 _ _; have hB1 := (hB.alloc hbw _).grown g1 (by simp only [World.size_alloc]; omega) (fun k e => (O.own k e).1); have hbw1 := g1.size; rw [World.size_alloc] at hbw1; replace hbw1 := Nat.le_trans hbw (Nat.le_trans (Nat.le_succ _) hbw1); clear g1 hB O hbw; have O := O1; have hB := hB1; have hbw := hbw1; clear O1 hB1 hbw1)))
  go_ret
  refine ⟨_, rfl, hB, ?_⟩
  simpa [eightI, List.append_assoc] using O

end Go.Proofs.YtlfloekanfhlfaaGreat
