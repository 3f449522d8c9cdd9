/- Layer 56: the walk of LogCrash. -/
import Derived.Test.YtkojomakibfncaaC56m
import Derived.Test.YtkojomakibfncaaL56b
set_option linter.unusedSimpArgs false
namespace Go.Proofs.Ytkojomakibfncaa
open Go.RowKit Go

/-- What the loop over the ends computes. -/
def loopN (rs : List (List Int)) (k : Nat) : Nat → Nat × Bool
  | 0 => (0, false)
  | i + 1 => if endI rs i ≤ k then (i, decide (endI rs i = k)) else loopN rs k i
theorem loopN_short (rs : List (List Int)) (k : Nat) (h : k < 8) : ∀ i, i ≤ rs.length + 1 → loopN rs k i = (0, false)
  | 0, _ => rfl
  | i + 1, hi => by
    have h8 := endI_mono rs 0 i (by omega) (by omega)
    rw [endI_zero] at h8
    rw [loopN, if_neg (by omega), loopN_short rs k h i (by omega)]
theorem loopN_at (rs : List (List Int)) (k n : Nat) (hn : n ≤ rs.length) (h1 : endI rs n ≤ k) (h2 : n < rs.length → k < endI rs (n + 1)) : ∀ i, n < i → i ≤ rs.length + 1 → loopN rs k i = (n, decide (endI rs n = k))
  | 0, h, _ => by omega
  | i + 1, h, hi => by
    by_cases e : i = n
    · subst e; rw [loopN, if_pos h1]
    · have := h2 (by omega)
      have h3 := endI_mono rs (n + 1) i (by omega) (by omega)
      rw [loopN, if_neg (by omega), loopN_at rs k n hn h1 h2 i (by omega) (by omega)]
theorem end_exists (rs : List (List Int)) (k : Nat) (h8 : 8 ≤ k) : ∀ m, m ≤ rs.length → ∃ n, n ≤ m ∧ endI rs n ≤ k ∧ (n < m → k < endI rs (n + 1))
  | 0, _ => ⟨0, Nat.le_refl _, by rw [endI_zero]; exact h8, fun h => by omega⟩
  | m + 1, hm => by
    by_cases h : endI rs (m + 1) ≤ k
    · exact ⟨m + 1, Nat.le_refl _, h, fun h => by omega⟩
    · obtain ⟨n, h1, h2, h3⟩ := end_exists rs k h8 m (by omega)
      refine ⟨n, by omega, h2, fun hn => ?_⟩
      rcases Nat.lt_or_ge n m with h' | h'
      · exact h3 h'
      · obtain rfl : n = m := by omega
        omega
theorem crash_cases (rs : List (List Int)) (hr : ∀ r ∈ rs, r.length ≤ 65536) (k : Nat) (hk : k ≤ (bytesI rs).length) :
    (k < 8 ∧ openI ((bytesI rs).take k) = ([], 0, 19) ∧ loopN rs k (rs.length + 1) = (0, false)) ∨
    ∃ n, 8 ≤ k ∧ n ≤ rs.length ∧ ((openI ((bytesI rs).take k) = (rs.take n, endI rs n, 0) ∧ loopN rs k (rs.length + 1) = (n, true)) ∨ (openI ((bytesI rs).take k) = (rs.take n, endI rs n, 19) ∧ loopN rs k (rs.length + 1) = (n, false))) := by
  rcases Nat.lt_or_ge k 8 with h | h
  · exact .inl ⟨h, openI_short rs k h, loopN_short rs k h _ (Nat.le_refl _)⟩
  · obtain ⟨n, h1, h2, h3⟩ := end_exists rs k h rs.length (Nat.le_refl _)
    refine .inr ⟨n, h, h1, ?_⟩
    rw [openI_cut rs hr n k h1 h2 h3 hk, loopN_at rs k n h1 h2 h3 _ (by omega) (Nat.le_refl _)]
    by_cases e : endI rs n = k
    · rw [if_pos e, decide_eq_true e]; exact .inl ⟨rfl, rfl⟩
    · rw [if_neg e, decide_eq_false e]; exact .inr ⟨rfl, rfl⟩

set_option maxHeartbeats 2000000 in
theorem crashWalk (w : World) (c0 : List Value) (rs : (Ty.sl (.sl (.int .u8))).den) (r0 : Rd (.sl (.sl (.int .u8))) (fun b => b < w.heap.size) w c0 rs) (c1 : List Value) (t : (Ty.int .u16).den) (r1 : Rd (.int .u16) (fun b => b < w.heap.size) w c1 t) :
    Calls Try.prog 5 #[valOf (.sl (.sl (.int .u8))) c0, valOf (.int .u16) c1] w fun e w' => e = .returned (.bool true) ∧ Below w.heap.size w w' := by
  obtain ⟨a, len, cap, rfl, hl, hlc, hcm, -⟩ := id r0
  change List (List Int) at rs
  change Int at t
  obtain ⟨rfl, tw⟩ := r1
  simp only [valOf, List.headD_cons]
  have R0 := Lib.hid (show Rd (.sl rowT) (fun b => b < w.heap.size) w [.slice a len cap] rs from r0)
  have HL := Lib.hid (show rs.length = len from hl)
  obtain ⟨ht0, ht1⟩ : 0 ≤ (t : Int) ∧ (t : Int) ≤ 65535 := bounds_u16 tw
  clear r0 hl tw
  obtain ⟨fw, hfw⟩ : ∃ fw, fewB rs = fw := ⟨_, rfl⟩
  have HFW := Lib.hid hfw
  clear hfw
  cases fw
  · go_enter Try.func5, Try.ntmps5
    go_wp2_with fail
    refine (awake_sum _).mono ?_
    rintro e w1 ⟨rfl, hB1⟩
    have HR1 := Lib.hid (R0.out.alloc hB1)
    go_wp2_with fail
    refine (few_any _ _ _ _ _ HR1.out).mono ?_
    rw [HFW.out]
    rintro e w2 ⟨rfl, hw⟩
    subst w2
    go_wp2
    go_ret
    exact ⟨rfl, hB1⟩
  have hfs := fewB_spec HFW.out
  have hbl := bytesI_len rs hfs.1 (by omega)
  have HFS := Lib.hid hfs
  have HBL := Lib.hid hbl
  have hlen20 : len ≤ 20 := by rw [← HL.out]; exact hfs.2
  clear hfs hbl
  go_enter Try.func5, Try.ntmps5
  go_wp2_with fail
  refine (awake_sum _).mono ?_
  rintro e w1 ⟨rfl, hB1⟩
  have HR1 := Lib.hid (R0.out.alloc hB1)
  go_wp2_with fail
  refine (few_any _ _ _ _ _ HR1.out).mono ?_
  rw [HFW.out]
  rintro e w2 ⟨rfl, hw⟩
  subst w2
  go_wp2_with fail
  refine (written_sum _ _ _ _ _ HR1.out (fun r hr => Nat.le_trans (HFS.out.1 r hr) (by omega)) (by omega)).mono ?_
  rintro e w2 ⟨p, F, rfl, hL, hF, hB2⟩
  have HLo := Lib.hid hL
  have HR2 := Lib.hid (HR1.out.alloc hB2)
  clear hL hF
  go_wp2_with fail
  refine (bytes_sum F _ p rs HLo.out (fun r hr => Nat.le_trans (HFS.out.1 r hr) (by omega)) (by have := HFS.out.2; omega)).mono ?_
  rintro e w3 ⟨v3, rfl, hB3, hO3⟩
  obtain ⟨a3, l3, c3, rfl, hl3⟩ := hO3.slice
  have hl3' : l3 ≤ 16000 := by rw [hl3]; exact HBL.out
  have HR3 := Lib.hid (HR2.out.alloc hB3)
  have hB03 := below_step (below_step hB1 hB2) hB3
  have HB03 := Lib.hid hB03
  have hc3 : l3 ≤ c3 := hO3.lt.ints.2.1
  obtain ⟨k, hk, hkl⟩ : ∃ k : Nat, t % ((l3 : Int) + 1) = (k : Int) ∧ k ≤ l3 := ⟨(t % ((l3 : Int) + 1)).toNat, by rw [Int.toNat_of_nonneg (Int.emod_nonneg _ (by omega))], by have := Int.emod_lt_of_pos t (show (0 : Int) < (l3 : Int) + 1 by omega); omega⟩
  have HX3 := Lib.hid (Rd.take hO3.lt k hkl)
  have hcase := crash_cases rs (fun r hr => Nat.le_trans (HFS.out.1 r hr) (by omega)) k (by rw [← hl3]; exact hkl)
  obtain ⟨x0, hx0⟩ : ∃ x, openI ((bytesI rs).take k) = x := ⟨_, rfl⟩
  rw [hx0] at hcase
  have HX0 := Lib.hid hx0
  have HC := Lib.hid hcase
  have hw1 : IntKind.i64.wrap ((l3 : Int) + 1) = (l3 : Int) + 1 := IntWalk.i64_in _ (by omega)
  have hkk : k ≤ c3 := by omega
  have hkI : (k : Int) ≤ (c3 : Int) := by omega
  have hk0 : (0 : Int) ≤ (k : Int) := by omega
  have hnz : ¬ ((l3 : Int) + 1 = 0) := by omega
  have hk16 : k ≤ 16000 := by omega
  clear hO3 hl3 hx0 hcase hB1 hB2 hB3 hB03 HLo HR1 HR2
  go_wp2_with fail
  rw [hk]
  refine (open_sum _ _ _ _ _ HX3.out hk16).mono ?_
  rw [HX0.out]
  obtain ⟨qs, u, ec⟩ := x0
  rintro e w4 ⟨p4, F4, rfl, hL4, -, hB4⟩
  have HL4 := Lib.hid hL4
  have hB04 := below_step HB03.out hB4
  have HR4 := Lib.hid (R0.out.alloc hB04)
  clear hL4
  go_wp2_with fail
  refine (ends_sum _ _ _ _ _ HR4.out (fun _ h => h) (by have := HBL.out; omega) (by omega)).mono ?_
  rintro e w5 ⟨v5, rfl, hB5, hO5⟩
  obtain ⟨a5, l5, c5, rfl, -⟩ := hO5.slice
  have hB05 := below_step hB04 hB5
  have HR5 := Lib.hid (R0.out.alloc hB05)
  have HB05 := Lib.hid hB05
  obtain ⟨hl5, hc5, hm5, hat5, -⟩ := (hO5.rd (fun _ => True) (fun _ _ => trivial) (fun _ _ => trivial)).ints
  rw [endsI_len, HL.out] at hl5
  subst hl5
  have HAT := Lib.hid hat5
  clear hO5 hat5 hB04 hB05
  go_wp2_with fail
  go_loopw [12, 13, 14] (fun n wh i wr => ∃ (j : Nat), j ≤ len + 1 ∧ n = .int .i64 (loopN rs k j).1 ∧ wh = .bool (loopN rs k j).2 ∧ i = .int .i64 j ∧ wr = w5) (fun _ _ i _ => len + 1 - (intOf i).toNat)
  case atStart => exact ⟨0, Nat.zero_le _, rfl, rfl, rfl, rfl⟩
  case round =>
    obtain ⟨j, hj, rfl, rfl, rfl, hwr⟩ := hrel
    subst hwr
    by_cases hlt : j < len + 1
    · obtain ⟨b, off, rfl, -, hcell⟩ := HAT.out j hlt
      rw [endsI_at rs j (by rw [HL.out]; omega)] at hcell
      obtain ⟨m, hm⟩ : ∃ m, endI rs j = m := ⟨_, rfl⟩
      rw [hm] at hcell
      have hjl : (j : Int) < (len : Int) + 1 := by omega
      have hbe : ((m : Int) == (k : Int)) = decide (m = k) := by
        by_cases e : m = k
        · subst e; simp
        · have : ¬ ((m : Int) = (k : Int)) := by omega
          simp [e, this]
      have hnx : loopN rs k (j + 1) = if m ≤ k then (j, decide (m = k)) else loopN rs k j := by rw [loopN, hm]
      have HNX := Lib.hid hnx
      clear hnx hm
      generalize loopN rs k j = lj at *
      by_cases hle : m ≤ k
      · have hle' : (m : Int) ≤ (k : Int) := by omega
        go_wp2_with fail
        go_roundw
        case rel => exact ⟨j + 1, by omega, by rw [HNX.out, if_pos hle], by rw [HNX.out, if_pos hle], by go_num, trivial⟩
        case measure => simp [intOf]; omega
      · have hle' : ¬ (m : Int) ≤ (k : Int) := by omega
        go_wp2_with fail
        go_roundw
        case rel => exact ⟨j + 1, by omega, by rw [HNX.out, if_neg hle], by rw [HNX.out, if_neg hle], by go_num, trivial⟩
        case measure => simp [intOf]; omega
    · obtain rfl : j = len + 1 := by omega
      rcases HC.out with ⟨hk8, hx, hlo⟩ | ⟨n, hk8, hn, hor⟩
      · simp only [Prod.mk.injEq] at hx
        obtain ⟨rfl, rfl, rfl⟩ := hx
        rw [HL.out] at hlo
        rw [hlo]
        have hk8' : (k : Int) < 8 := by omega
        clear hlo hlt hj
        go_wp2_with (go_at_call 18; (with_reducible refine (len_sum F4 _ p4 [] (HL4.out.below hB5)).mono ?_); rw [show ((([] : List (List Int)).length : Nat) : Int) = 0 from rfl]; rintro e w6 ⟨rfl, hw6⟩; subst w6)
        all_goals
          go_ret
          exact ⟨rfl, HB05.out⟩
      · have hnl : n ≤ len := by rw [← HL.out]; exact hn
        have hk8' : ¬ (k : Int) < 8 := by omega
        obtain ⟨bx, ox, rfl, -, hcell⟩ := HAT.out n (by omega)
        rw [endsI_at rs n hn] at hcell
        obtain ⟨m, hm⟩ : ∃ m, endI rs n = m := ⟨_, rfl⟩
        rw [hm] at hor hcell
        have HM := Lib.hid hm
        clear hm hlt hj
        have hnlI : (n : Int) < (len : Int) + 1 := by omega
        have hncI : n ≤ cap := by omega
        rcases hor with ⟨hx, hlo⟩ | ⟨hx, hlo⟩
        · simp only [Prod.mk.injEq] at hx
          obtain ⟨rfl, rfl, rfl⟩ := hx
          rw [HL.out] at hlo
          rw [hlo]
          clear hlo
          go_wp2_with fail
          refine wp_region_T (fun w' => w'.cell? ⟨bx, ox + n, none⟩ = some (.int .i64 u)) (fun i => i == 8 || i == 12) (by kernel_rfl) ?_
          have hS0 : wr.drew.cell? ⟨bx, ox + n, none⟩ = some (.int .i64 u) := hcell
          refine wpAnyT_pure (i := 0) (v := ?_) rfl (by kernel_rfl) (by kernel_rfl) (by kernel_rfl) (fun _ _ _ h => h) (by rfl) ?_ ?_
          rotate_left
          · intro w; go_simp; try with_reducible rfl
          simp only [Act.put, List.setIfInBounds_toArray, List.set_cons_zero, List.set_cons_succ, List.getElem_toArray, List.getElem_cons_succ, List.getElem_cons_zero]
          refine wpAnyT_pure (i := 1) (v := ?_) rfl (by kernel_rfl) (by kernel_rfl) (by kernel_rfl) (fun _ _ _ h => h) (by rfl) ?_ ?_
          rotate_left
          · intro w; go_simp; try with_reducible rfl
          simp only [Act.put, List.setIfInBounds_toArray, List.set_cons_zero, List.set_cons_succ, List.getElem_toArray, List.getElem_cons_succ, List.getElem_cons_zero]
          refine wpAnyT_pure (i := 2) (v := ?_) rfl (by kernel_rfl) (by kernel_rfl) (by kernel_rfl) (fun _ _ _ h => h) (by rfl) ?_ ?_
          rotate_left
          · intro w; go_simp; try with_reducible rfl
          simp only [Act.put, List.setIfInBounds_toArray, List.set_cons_zero, List.set_cons_succ, List.getElem_toArray, List.getElem_cons_succ, List.getElem_cons_zero]
          refine wpAnyT_pure (i := 3) (v := ?_) rfl (by kernel_rfl) (by kernel_rfl) (by kernel_rfl) (fun _ _ _ h => h) (by rfl) ?_ ?_
          rotate_left
          · intro w; go_simp; try with_reducible rfl
          simp only [Act.put, List.setIfInBounds_toArray, List.set_cons_zero, List.set_cons_succ, List.getElem_toArray, List.getElem_cons_succ, List.getElem_cons_zero]
          refine wpAnyT_loadW (i := 4) (v := ?_) rfl (by kernel_rfl) (by kernel_rfl) (by kernel_rfl) (by kernel_rfl) (by kernel_rfl) (fun _ _ _ h => h) (Or.inl ⟨by rfl, ?_⟩) hS0 ?_
          rotate_left
          · intro w hSw; go_simp; try with_reducible rfl
          simp only [Act.put, List.setIfInBounds_toArray, List.set_cons_zero, List.set_cons_succ, List.getElem_toArray, List.getElem_cons_succ, List.getElem_cons_zero]
          refine wpAnyT_pure (i := 5) (v := ?_) rfl (by kernel_rfl) (by kernel_rfl) (by kernel_rfl) (fun _ _ _ h => h) (by rfl) ?_ ?_
          rotate_left
          · intro w; go_simp; try with_reducible rfl
          simp only [Act.put, List.setIfInBounds_toArray, List.set_cons_zero, List.set_cons_succ, List.getElem_toArray, List.getElem_cons_succ, List.getElem_cons_zero]
          refine wpAnyT_pure (i := 6) (v := ?_) rfl (by kernel_rfl) (by kernel_rfl) (by kernel_rfl) (fun _ _ _ h => h) (by rfl) ?_ ?_
          rotate_left
          · intro w; go_simp; try with_reducible rfl
          simp only [Act.put, List.setIfInBounds_toArray, List.set_cons_zero, List.set_cons_succ, List.getElem_toArray, List.getElem_cons_succ, List.getElem_cons_zero]
          refine wpAnyT_pure (i := 7) (v := ?_) rfl (by kernel_rfl) (by kernel_rfl) (by kernel_rfl) (fun _ _ _ h => h) (by rfl) ?_ ?_
          rotate_left
          · intro w; go_simp; try with_reducible rfl
          simp only [Act.put, List.setIfInBounds_toArray, List.set_cons_zero, List.set_cons_succ, List.getElem_toArray, List.getElem_cons_succ, List.getElem_cons_zero]
          refine wpAnyT_pure (i := 9) (v := ?_) rfl (by kernel_rfl) (by kernel_rfl) (by kernel_rfl) (fun _ _ _ h => h) (by rfl) ?_ ?_
          rotate_left
          · intro w; go_simp; try with_reducible rfl
          simp only [Act.put, List.setIfInBounds_toArray, List.set_cons_zero, List.set_cons_succ, List.getElem_toArray, List.getElem_cons_succ, List.getElem_cons_zero]
          refine wpAnyT_pure (i := 10) (v := ?_) rfl (by kernel_rfl) (by kernel_rfl) (by kernel_rfl) (fun _ _ _ h => h) (by rfl) ?_ ?_
          rotate_left
          · intro w; go_simp; try with_reducible rfl
          simp only [Act.put, List.setIfInBounds_toArray, List.set_cons_zero, List.set_cons_succ, List.getElem_toArray, List.getElem_cons_succ, List.getElem_cons_zero]
          refine wpAnyT_pure (i := 11) (v := ?_) rfl (by kernel_rfl) (by kernel_rfl) (by kernel_rfl) (fun _ _ _ h => h) (by rfl) ?_ ?_
          rotate_left
          · intro w; go_simp; try with_reducible rfl
          simp only [Act.put, List.setIfInBounds_toArray, List.set_cons_zero, List.set_cons_succ, List.getElem_toArray, List.getElem_cons_succ, List.getElem_cons_zero]
          refine wpAnyT_one (i := 8) (by kernel_rfl) rfl (by rfl) ?_
          refine wp_enter (f := 14) (args := #[.pointer (some ⟨p4, 0, none⟩)]) (by go_simp) (records_sum F4 _ p4 (rs.take n) ((HL4.out.below hB5).below (below_drew _)) (fun r hr => Nat.le_trans (HFS.out.1 r (List.mem_of_mem_take hr)) (by omega)) (by rw [List.length_take]; omega)) ?_
          rintro e w6 ⟨v6, S6, rfl, hB6, hO6, -⟩
          replace hB6 : Below wr.heap.size wr w6 := (below_drew wr).trans hB6
          obtain ⟨a6, l6, c6, rfl, -⟩ := hO6.slice
          have HO6 := Lib.hid hO6
          clear hO6
          refine ⟨_, rfl, fun h => absurd h (by decide), ?_⟩
          simp only [Act.put, List.setIfInBounds_toArray, List.set_cons_zero, List.set_cons_succ, List.getElem_toArray, List.getElem_cons_succ, List.getElem_cons_zero]
          refine wpAnyT_one (i := 12) (by kernel_rfl) rfl (by rfl) ?_
          refine wp_enter (f := 13) (args := #[.slice a6 l6 c6, .slice a n cap]) (by go_simp) (same_sum w6 a6 a l6 c6 n cap (rs.take n) (rs.take n) (HO6.out.rd (fun b => b < w6.heap.size) (fun b hb => (HO6.out.bound b hb).2) (fun b hb => (HO6.out.own b hb).2)) (Rd.take (HR5.out.alloc hB6) n hnl) (fun _ h => h) (fun _ h => h)) ?_
          rw [decide_eq_true rfl]
          rintro e w7 ⟨rfl, hB7⟩
          refine ⟨_, rfl, fun h => absurd h (by decide), ?_⟩
          simp only [Act.put, List.setIfInBounds_toArray, List.set_cons_zero, List.set_cons_succ, List.getElem_toArray, List.getElem_cons_succ, List.getElem_cons_zero]
          refine wpAnyT_pure (i := 13) (v := ?_) rfl (by kernel_rfl) (by kernel_rfl) (by kernel_rfl) (fun _ _ _ h => h) (by rfl) ?_ ?_
          rotate_left
          · intro w; go_simp; try with_reducible rfl
          simp only [Act.put, List.setIfInBounds_toArray, List.set_cons_zero, List.set_cons_succ, List.getElem_toArray, List.getElem_cons_succ, List.getElem_cons_zero]
          refine wpAnyT_pure (i := 14) (v := ?_) rfl (by kernel_rfl) (by kernel_rfl) (by kernel_rfl) (fun _ _ _ h => h) (by rfl) ?_ ?_
          rotate_left
          · intro w; go_simp; try with_reducible rfl
          simp only [Act.put, List.setIfInBounds_toArray, List.set_cons_zero, List.set_cons_succ, List.getElem_toArray, List.getElem_cons_succ, List.getElem_cons_zero]
          refine wpAnyT_done (by kernel_rfl) ?_ _
          go_wp2_with fail
          go_ret
          exact ⟨rfl, below_step (below_step HB05.out hB6) hB7⟩
        · simp only [Prod.mk.injEq] at hx
          obtain ⟨rfl, rfl, rfl⟩ := hx
          rw [HL.out] at hlo
          rw [hlo]
          clear hlo
          go_wp2_with fail
          refine wp_region_T (fun w' => w'.cell? ⟨bx, ox + n, none⟩ = some (.int .i64 u)) (fun i => i == 8 || i == 12) (by kernel_rfl) ?_
          have hS0 : wr.drew.cell? ⟨bx, ox + n, none⟩ = some (.int .i64 u) := hcell
          refine wpAnyT_pure (i := 0) (v := ?_) rfl (by kernel_rfl) (by kernel_rfl) (by kernel_rfl) (fun _ _ _ h => h) (by rfl) ?_ ?_
          rotate_left
          · intro w; go_simp; try with_reducible rfl
          simp only [Act.put, List.setIfInBounds_toArray, List.set_cons_zero, List.set_cons_succ, List.getElem_toArray, List.getElem_cons_succ, List.getElem_cons_zero]
          refine wpAnyT_pure (i := 1) (v := ?_) rfl (by kernel_rfl) (by kernel_rfl) (by kernel_rfl) (fun _ _ _ h => h) (by rfl) ?_ ?_
          rotate_left
          · intro w; go_simp; try with_reducible rfl
          simp only [Act.put, List.setIfInBounds_toArray, List.set_cons_zero, List.set_cons_succ, List.getElem_toArray, List.getElem_cons_succ, List.getElem_cons_zero]
          refine wpAnyT_pure (i := 2) (v := ?_) rfl (by kernel_rfl) (by kernel_rfl) (by kernel_rfl) (fun _ _ _ h => h) (by rfl) ?_ ?_
          rotate_left
          · intro w; go_simp; try with_reducible rfl
          simp only [Act.put, List.setIfInBounds_toArray, List.set_cons_zero, List.set_cons_succ, List.getElem_toArray, List.getElem_cons_succ, List.getElem_cons_zero]
          refine wpAnyT_pure (i := 3) (v := ?_) rfl (by kernel_rfl) (by kernel_rfl) (by kernel_rfl) (fun _ _ _ h => h) (by rfl) ?_ ?_
          rotate_left
          · intro w; go_simp; try with_reducible rfl
          simp only [Act.put, List.setIfInBounds_toArray, List.set_cons_zero, List.set_cons_succ, List.getElem_toArray, List.getElem_cons_succ, List.getElem_cons_zero]
          refine wpAnyT_loadW (i := 4) (v := ?_) rfl (by kernel_rfl) (by kernel_rfl) (by kernel_rfl) (by kernel_rfl) (by kernel_rfl) (fun _ _ _ h => h) (Or.inl ⟨by rfl, ?_⟩) hS0 ?_
          rotate_left
          · intro w hSw; go_simp; try with_reducible rfl
          simp only [Act.put, List.setIfInBounds_toArray, List.set_cons_zero, List.set_cons_succ, List.getElem_toArray, List.getElem_cons_succ, List.getElem_cons_zero]
          refine wpAnyT_pure (i := 5) (v := ?_) rfl (by kernel_rfl) (by kernel_rfl) (by kernel_rfl) (fun _ _ _ h => h) (by rfl) ?_ ?_
          rotate_left
          · intro w; go_simp; try with_reducible rfl
          simp only [Act.put, List.setIfInBounds_toArray, List.set_cons_zero, List.set_cons_succ, List.getElem_toArray, List.getElem_cons_succ, List.getElem_cons_zero]
          refine wpAnyT_pure (i := 6) (v := ?_) rfl (by kernel_rfl) (by kernel_rfl) (by kernel_rfl) (fun _ _ _ h => h) (by rfl) ?_ ?_
          rotate_left
          · intro w; go_simp; try with_reducible rfl
          simp only [Act.put, List.setIfInBounds_toArray, List.set_cons_zero, List.set_cons_succ, List.getElem_toArray, List.getElem_cons_succ, List.getElem_cons_zero]
          refine wpAnyT_pure (i := 7) (v := ?_) rfl (by kernel_rfl) (by kernel_rfl) (by kernel_rfl) (fun _ _ _ h => h) (by rfl) ?_ ?_
          rotate_left
          · intro w; go_simp; try with_reducible rfl
          simp only [Act.put, List.setIfInBounds_toArray, List.set_cons_zero, List.set_cons_succ, List.getElem_toArray, List.getElem_cons_succ, List.getElem_cons_zero]
          refine wpAnyT_pure (i := 9) (v := ?_) rfl (by kernel_rfl) (by kernel_rfl) (by kernel_rfl) (fun _ _ _ h => h) (by rfl) ?_ ?_
          rotate_left
          · intro w; go_simp; try with_reducible rfl
          simp only [Act.put, List.setIfInBounds_toArray, List.set_cons_zero, List.set_cons_succ, List.getElem_toArray, List.getElem_cons_succ, List.getElem_cons_zero]
          refine wpAnyT_pure (i := 10) (v := ?_) rfl (by kernel_rfl) (by kernel_rfl) (by kernel_rfl) (fun _ _ _ h => h) (by rfl) ?_ ?_
          rotate_left
          · intro w; go_simp; try with_reducible rfl
          simp only [Act.put, List.setIfInBounds_toArray, List.set_cons_zero, List.set_cons_succ, List.getElem_toArray, List.getElem_cons_succ, List.getElem_cons_zero]
          refine wpAnyT_pure (i := 11) (v := ?_) rfl (by kernel_rfl) (by kernel_rfl) (by kernel_rfl) (fun _ _ _ h => h) (by rfl) ?_ ?_
          rotate_left
          · intro w; go_simp; try with_reducible rfl
          simp only [Act.put, List.setIfInBounds_toArray, List.set_cons_zero, List.set_cons_succ, List.getElem_toArray, List.getElem_cons_succ, List.getElem_cons_zero]
          refine wpAnyT_one (i := 8) (by kernel_rfl) rfl (by rfl) ?_
          refine wp_enter (f := 14) (args := #[.pointer (some ⟨p4, 0, none⟩)]) (by go_simp) (records_sum F4 _ p4 (rs.take n) ((HL4.out.below hB5).below (below_drew _)) (fun r hr => Nat.le_trans (HFS.out.1 r (List.mem_of_mem_take hr)) (by omega)) (by rw [List.length_take]; omega)) ?_
          rintro e w6 ⟨v6, S6, rfl, hB6, hO6, -⟩
          replace hB6 : Below wr.heap.size wr w6 := (below_drew wr).trans hB6
          obtain ⟨a6, l6, c6, rfl, -⟩ := hO6.slice
          have HO6 := Lib.hid hO6
          clear hO6
          refine ⟨_, rfl, fun h => absurd h (by decide), ?_⟩
          simp only [Act.put, List.setIfInBounds_toArray, List.set_cons_zero, List.set_cons_succ, List.getElem_toArray, List.getElem_cons_succ, List.getElem_cons_zero]
          refine wpAnyT_one (i := 12) (by kernel_rfl) rfl (by rfl) ?_
          refine wp_enter (f := 13) (args := #[.slice a6 l6 c6, .slice a n cap]) (by go_simp) (same_sum w6 a6 a l6 c6 n cap (rs.take n) (rs.take n) (HO6.out.rd (fun b => b < w6.heap.size) (fun b hb => (HO6.out.bound b hb).2) (fun b hb => (HO6.out.own b hb).2)) (Rd.take (HR5.out.alloc hB6) n hnl) (fun _ h => h) (fun _ h => h)) ?_
          rw [decide_eq_true rfl]
          rintro e w7 ⟨rfl, hB7⟩
          refine ⟨_, rfl, fun h => absurd h (by decide), ?_⟩
          simp only [Act.put, List.setIfInBounds_toArray, List.set_cons_zero, List.set_cons_succ, List.getElem_toArray, List.getElem_cons_succ, List.getElem_cons_zero]
          refine wpAnyT_pure (i := 13) (v := ?_) rfl (by kernel_rfl) (by kernel_rfl) (by kernel_rfl) (fun _ _ _ h => h) (by rfl) ?_ ?_
          rotate_left
          · intro w; go_simp; try with_reducible rfl
          simp only [Act.put, List.setIfInBounds_toArray, List.set_cons_zero, List.set_cons_succ, List.getElem_toArray, List.getElem_cons_succ, List.getElem_cons_zero]
          refine wpAnyT_pure (i := 14) (v := ?_) rfl (by kernel_rfl) (by kernel_rfl) (by kernel_rfl) (fun _ _ _ h => h) (by rfl) ?_ ?_
          rotate_left
          · intro w; go_simp; try with_reducible rfl
          simp only [Act.put, List.setIfInBounds_toArray, List.set_cons_zero, List.set_cons_succ, List.getElem_toArray, List.getElem_cons_succ, List.getElem_cons_zero]
          refine wpAnyT_done (by kernel_rfl) ?_ _
          go_wp2_with fail
          go_ret
          exact ⟨rfl, below_step (below_step HB05.out hB6) hB7⟩
end Go.Proofs.Ytkojomakibfncaa
