/- Layer 56: the walk of LogDamage. -/
import Derived.Test.YtkojomakibfncaaL56c
import Derived.Test.YtkojomakibfncaaC56n
set_option linter.unusedSimpArgs false
namespace Go.Proofs.Ytkojomakibfncaa
open Go.RowKit Go

theorem bytesI_pos (rs : List (List Int)) : 8 ≤ (bytesI rs).length := by rw [bytesI, List.length_append]; simp [textI]
theorem damage_cases (rs : List (List Int)) (hr : ∀ r ∈ rs, r.length ≤ 65536) (hok : ∀ r ∈ rs, okB r) (k : Nat) (hk : k < (bytesI rs).length) (v : Int) (hv : (Lit.int .u8 v).wf = true) (hne : (bytesI rs)[k]? ≠ some v) :
    (k < 8 ∧ openI ((bytesI rs).set k v) = ([], 0, 4)) ∨
    ∃ n e, 8 ≤ k ∧ n < rs.length ∧ e ≠ 0 ∧ openI ((bytesI rs).set k v) = (rs.take n, endI rs n, e) ∧ (loopN rs k (rs.length + 1)).1 = n := by
  rcases Nat.lt_or_ge k 8 with h | h
  · exact .inl ⟨h, openI_text rs k h v hne⟩
  · obtain ⟨n, h1, h2, h3⟩ := end_exists rs k h rs.length (Nat.le_refl _)
    have hn : n < rs.length := by
      rcases Nat.lt_or_ge n rs.length with h' | h'
      · exact h'
      · obtain rfl : n = rs.length := by omega
        rw [endI_all] at h2
        omega
    obtain ⟨e, he, ho⟩ := openI_set rs hr hok n k hn h2 (h3 hn) v hv hne
    refine .inr ⟨n, e, h, hn, he, ho, ?_⟩
    rw [loopN_at rs k n h1 h2 h3 _ (by omega) (Nat.le_refl _)]

set_option maxHeartbeats 2000000 in
theorem damageWalk (w : World) (c0 : List Value) (rs : (Ty.sl (.sl (.int .u8))).den) (r0 : Rd (.sl (.sl (.int .u8))) (fun b => b < w.heap.size) w c0 rs) (c1 : List Value) (t : (Ty.int .u16).den) (r1 : Rd (.int .u16) (fun b => b < w.heap.size) w c1 t)
    (c2 : List Value) (v : (Ty.int .u8).den) (r2 : Rd (.int .u8) (fun b => b < w.heap.size) w c2 v) :
    Calls Try.prog 6 #[valOf (.sl (.sl (.int .u8))) c0, valOf (.int .u16) c1, valOf (.int .u8) c2] w fun e w' => e = .returned (.bool true) ∧ Below w.heap.size w w' := by
  obtain ⟨a, len, cap, rfl, hl, hlc, hcm, -⟩ := id r0
  change List (List Int) at rs
  change Int at t
  obtain ⟨rfl, tw⟩ := r1
  change Int at v
  obtain ⟨rfl, vw⟩ := r2
  have VW := Lib.hid (show (Lit.int .u8 v).wf = true from vw)
  clear vw
  simp only [valOf, List.headD_cons]
  have R0 := Lib.hid (show Rd (.sl rowT) (fun b => b < w.heap.size) w [.slice a len cap] rs from r0)
  have HL := Lib.hid (show rs.length = len from hl)
  obtain ⟨ht0, ht1⟩ : 0 ≤ (t : Int) ∧ (t : Int) ≤ 65535 := bounds_u16 tw
  clear r0 hl tw
  obtain ⟨fw, hfw⟩ : ∃ fw, fewB rs = fw := ⟨_, rfl⟩
  have HFW := Lib.hid hfw
  clear hfw
  cases fw
  · go_enter Try.func6, Try.ntmps6
    go_wp2_with fail
    refine (awake_sum _).mono ?_
    rintro e w1 ⟨rfl, hB1⟩
    have HR1 := Lib.hid (R0.out.alloc hB1)
    go_wp2_with fail
    refine (few_any _ _ _ _ _ HR1.out).mono ?_
    rw [HFW.out]
    rintro e w2 ⟨rfl, hw⟩
    subst w2
    go_wp2
    go_ret
    exact ⟨rfl, hB1⟩
  have hfs := fewB_spec HFW.out
  have hbl := bytesI_len rs hfs.1 (by omega)
  have HFS := Lib.hid hfs
  have HBL := Lib.hid hbl
  have hlen20 : len ≤ 20 := by rw [← HL.out]; exact hfs.2
  clear hfs hbl
  go_enter Try.func6, Try.ntmps6
  go_wp2_with fail
  refine (awake_sum _).mono ?_
  rintro e w1 ⟨rfl, hB1⟩
  have HR1 := Lib.hid (R0.out.alloc hB1)
  go_wp2_with fail
  refine (few_any _ _ _ _ _ HR1.out).mono ?_
  rw [HFW.out]
  rintro e w2 ⟨rfl, hw⟩
  subst w2
  go_wp2_with fail
  refine (written_sum _ _ _ _ _ HR1.out (fun r hr => Nat.le_trans (HFS.out.1 r hr) (by omega)) (by omega)).mono ?_
  rintro e w2 ⟨p, F, rfl, hL, hF, hB2⟩
  have HLo := Lib.hid hL
  have HR2 := Lib.hid (HR1.out.alloc hB2)
  clear hL hF
  go_wp2_with (go_at_call 17; (with_reducible refine (bytes_sum F _ p rs HLo.out (fun r hr => Nat.le_trans (HFS.out.1 r hr) (by omega)) (by have := HFS.out.2; omega)).mono ?_); rintro e w3 ⟨v3, rfl, hB3, hO3⟩; obtain ⟨a3, l3, c3, rfl, hl3⟩ := hO3.slice; have hl8 : 8 ≤ l3 := by rw [hl3]; exact bytesI_pos rs)
  all_goals
    refine (bytes_sum F _ p rs (HLo.out.below hB3) (fun r hr => Nat.le_trans (HFS.out.1 r hr) (by omega)) (by have := HFS.out.2; omega)).mono ?_
    rintro e w4 ⟨v4, rfl, hB4, hO4⟩
    obtain ⟨a4, l4, c4, rfl, hl4⟩ := hO4.slice
    have hl8 : 8 ≤ l4 := by rw [hl4]; exact bytesI_pos rs
    have hl16 : l4 ≤ 16000 := by rw [hl4]; exact HBL.out
    have HB04 := Lib.hid (below_step (below_step (below_step hB1 hB2) hB3) hB4)
    have hc4 : l4 ≤ c4 := hO4.lt.ints.2.1
    obtain ⟨k, hk, hkl⟩ : ∃ k : Nat, t % (l4 : Int) = (k : Int) ∧ k < l4 := ⟨(t % (l4 : Int)).toNat, by rw [Int.toNat_of_nonneg (Int.emod_nonneg _ (by omega))], by have := Int.emod_lt_of_pos t (show (0 : Int) < (l4 : Int) by omega); omega⟩
    obtain ⟨g, rfl, hg, hgs, hcell, hfz⟩ := hO4.at k hkl
    have hX4 := hO4.rd
    obtain ⟨B, hBx⟩ : ∃ B, bytesI rs = B := ⟨_, rfl⟩
    have HBX := Lib.hid hBx
    rw [hBx] at hX4 hcell hl4
    obtain ⟨old, hold⟩ : ∃ old, B[k]?.getD 0 = old := ⟨_, rfl⟩
    rw [hold] at hcell
    have HOLD := Lib.hid hold
    have HX4 := Lib.hid hX4
    have HL4 := Lib.hid hl4
    have hkl' : (k : Int) < (l4 : Int) := by omega
    have hk0 : (0 : Int) ≤ (k : Int) := by omega
    have hnz : ¬ ((l4 : Int) = 0) := by omega
    have hgw : w.heap.size ≤ g := Nat.le_trans (below_step (below_step hB1 hB2) hB3).size hg
    clear hO4 hX4 hold hl4 hBx hB1 hB2 hB3 hB4 HLo HR1 HR2
    by_cases hov : old = v
    · have hov' : (old == v) = true := by simp [hov]
      go_wp2
      all_goals
        go_ret
        exact ⟨rfl, HB04.out⟩
    have hov' : (old == v) = false := by simp [hov]
    go_wp2_with fail
    rw [hk]
    obtain ⟨W5, hW5⟩ : ∃ W5, w4.setCell ⟨g, k, none⟩ (.int .u8 v) = W5 := ⟨_, rfl⟩
    rw [hW5]
    have HX5 : Hid (Rd rowT (fun b => b < W5.heap.size) W5 [.slice (some ⟨g, 0, none⟩) l4 c4] (B.set k v)) := by
      subst hW5
      have h := Rd.setB HX4.out ⟨hg, hgs⟩ k hkl v VW.out
      rw [Nat.zero_add] at h
      exact Lib.hid (h.keep (fun _ _ => rfl) (fun b hb => by simpa [World.setCell] using hb.2))
    have HB05 : Hid (Below w.heap.size w W5) := by
      subst hW5
      exact Lib.hid (HB04.out.setCell (p := ⟨g, k, none⟩) hgw _)
    have hne : B[k]? ≠ some v := fun e => by
      have := HOLD.out
      rw [e] at this
      exact hov this.symm
    have hcase := damage_cases rs (fun r hr => Nat.le_trans (HFS.out.1 r hr) (by omega)) (okB_row R0.out) k (by rw [HBX.out, ← HL4.out]; exact hkl) v VW.out (by rw [HBX.out]; exact hne)
    rw [HBX.out] at hcase
    obtain ⟨x0, hx0⟩ : ∃ x, openI (B.set k v) = x := ⟨_, rfl⟩
    rw [hx0] at hcase
    have HX0 := Lib.hid hx0
    have HC := Lib.hid hcase
    clear hcase hx0 hne hW5 hcell hfz
    refine (open_sum _ _ _ _ _ HX5.out hl16).mono ?_
    rw [HX0.out]
    obtain ⟨qs, u, ec⟩ := x0
    rintro e w6 ⟨p6, F6, rfl, hL6, -, hB6⟩
    have HL6 := Lib.hid hL6
    have hB06 := below_step HB05.out hB6
    have HR6 := Lib.hid (R0.out.alloc hB06)
    clear hL6
    go_wp2_with fail
    refine (ends_sum _ _ _ _ _ HR6.out (fun _ h => h) (by rw [HBX.out, ← HL4.out]; omega) (by omega)).mono ?_
    rintro e w7 ⟨v7, rfl, hB7, hO7⟩
    obtain ⟨a7, l7, c7, rfl, -⟩ := hO7.slice
    have hB07 := below_step hB06 hB7
    have HR7 := Lib.hid (R0.out.alloc hB07)
    have HB07 := Lib.hid hB07
    obtain ⟨hl7, hc7, hm7, hat7, -⟩ := (hO7.rd (fun _ => True) (fun _ _ => trivial) (fun _ _ => trivial)).ints
    rw [endsI_len, HL.out] at hl7
    subst hl7
    have HAT := Lib.hid hat7
    clear hO7 hat7 hB06 hB07
    rcases HC.out with ⟨hk8, hx⟩ | ⟨n, e, hk8, hn, he, hx, hlo⟩
    · simp only [Prod.mk.injEq] at hx
      obtain ⟨rfl, rfl, rfl⟩ := hx
      have hk8' : (k : Int) < 8 := by omega
      go_wp2_with (go_at_call 18; (with_reducible refine (len_sum F6 _ p6 [] (HL6.out.below hB7)).mono ?_); rw [show ((([] : List (List Int)).length : Nat) : Int) = 0 from rfl]; rintro e w8 ⟨rfl, hw8⟩; subst w8)
      all_goals
        go_ret
        exact ⟨rfl, HB07.out⟩
    · simp only [Prod.mk.injEq] at hx
      obtain ⟨rfl, rfl, rfl⟩ := hx
      have hk8' : ¬ (k : Int) < 8 := by omega
      have hec : (ec == 0) = false := by simp [he]
      obtain ⟨u, hu⟩ : ∃ u, endI rs n = u := ⟨_, rfl⟩
      rw [hu]
      go_wp2_with fail
      go_loopw [14, 15] (fun n i wr => ∃ (j : Nat), j ≤ len + 1 ∧ n = .int .i64 (loopN rs k j).1 ∧ i = .int .i64 j ∧ wr = w7) (fun _ i _ => len + 1 - (intOf i).toNat)
      case atStart => exact ⟨0, Nat.zero_le _, rfl, rfl, rfl⟩
      case round =>
        obtain ⟨j, hj, rfl, rfl, hwr⟩ := hrel
        subst hwr
        by_cases hlt : j < len + 1
        · obtain ⟨b, off, rfl, -, hcell⟩ := HAT.out j hlt
          rw [endsI_at rs j (by rw [HL.out]; omega)] at hcell
          obtain ⟨m, hm⟩ : ∃ m, endI rs j = m := ⟨_, rfl⟩
          rw [hm] at hcell
          have hjl : (j : Int) < (len : Int) + 1 := by omega
          have hnx : loopN rs k (j + 1) = if m ≤ k then (j, decide (m = k)) else loopN rs k j := by rw [loopN, hm]
          have HNX := Lib.hid hnx
          clear hnx hm
          generalize loopN rs k j = lj at *
          by_cases hle : m ≤ k
          · have hle' : (m : Int) ≤ (k : Int) := by omega
            go_wp2_with fail
            go_roundw
            case rel => exact ⟨j + 1, by omega, by rw [HNX.out, if_pos hle], by go_num, trivial⟩
            case measure => simp [intOf]; omega
          · have hle' : ¬ (m : Int) ≤ (k : Int) := by omega
            go_wp2_with fail
            go_roundw
            case rel => exact ⟨j + 1, by omega, by rw [HNX.out, if_neg hle], by go_num, trivial⟩
            case measure => simp [intOf]; omega
        · obtain rfl : j = len + 1 := by omega
          have hnl : n ≤ len := by rw [← HL.out]; omega
          obtain ⟨bx, ox, rfl, -, hcell⟩ := HAT.out n (by omega)
          rw [endsI_at rs n (by omega), hu] at hcell
          rw [HL.out] at hlo
          rw [hlo]
          have hnlI : (n : Int) < (len : Int) + 1 := by omega
          have hncI : n ≤ cap := by omega
          clear hlo hlt hj hn
          go_wp2_with fail
          refine wp_region_T (fun w' => w'.cell? ⟨bx, ox + n, none⟩ = some (.int .i64 u)) (fun i => i == 8 || i == 12) (by kernel_rfl) ?_
          have hS0 : wr.drew.cell? ⟨bx, ox + n, none⟩ = some (.int .i64 u) := hcell
          refine wpAnyT_pure (i := 0) (v := ?_) rfl (by kernel_rfl) (by kernel_rfl) (by kernel_rfl) (fun _ _ _ h => h) (by rfl) ?_ ?_
          rotate_left
          · intro w; go_simp; try with_reducible rfl
          simp only [Act.put, List.setIfInBounds_toArray, List.set_cons_zero, List.set_cons_succ, List.getElem_toArray, List.getElem_cons_succ, List.getElem_cons_zero]
          refine wpAnyT_pure (i := 1) (v := ?_) rfl (by kernel_rfl) (by kernel_rfl) (by kernel_rfl) (fun _ _ _ h => h) (by rfl) ?_ ?_
          rotate_left
          · intro w; go_simp; try with_reducible rfl
          simp only [Act.put, List.setIfInBounds_toArray, List.set_cons_zero, List.set_cons_succ, List.getElem_toArray, List.getElem_cons_succ, List.getElem_cons_zero]
          refine wpAnyT_pure (i := 2) (v := ?_) rfl (by kernel_rfl) (by kernel_rfl) (by kernel_rfl) (fun _ _ _ h => h) (by rfl) ?_ ?_
          rotate_left
          · intro w; go_simp; try with_reducible rfl
          simp only [Act.put, List.setIfInBounds_toArray, List.set_cons_zero, List.set_cons_succ, List.getElem_toArray, List.getElem_cons_succ, List.getElem_cons_zero]
          refine wpAnyT_pure (i := 3) (v := ?_) rfl (by kernel_rfl) (by kernel_rfl) (by kernel_rfl) (fun _ _ _ h => h) (by rfl) ?_ ?_
          rotate_left
          · intro w; go_simp; try with_reducible rfl
          simp only [Act.put, List.setIfInBounds_toArray, List.set_cons_zero, List.set_cons_succ, List.getElem_toArray, List.getElem_cons_succ, List.getElem_cons_zero]
          refine wpAnyT_loadW (i := 4) (v := ?_) rfl (by kernel_rfl) (by kernel_rfl) (by kernel_rfl) (by kernel_rfl) (by kernel_rfl) (fun _ _ _ h => h) (Or.inl ⟨by rfl, ?_⟩) hS0 ?_
          rotate_left
          · intro w hSw; go_simp; try with_reducible rfl
          simp only [Act.put, List.setIfInBounds_toArray, List.set_cons_zero, List.set_cons_succ, List.getElem_toArray, List.getElem_cons_succ, List.getElem_cons_zero]
          refine wpAnyT_pure (i := 5) (v := ?_) rfl (by kernel_rfl) (by kernel_rfl) (by kernel_rfl) (fun _ _ _ h => h) (by rfl) ?_ ?_
          rotate_left
          · intro w; go_simp; try with_reducible rfl
          simp only [Act.put, List.setIfInBounds_toArray, List.set_cons_zero, List.set_cons_succ, List.getElem_toArray, List.getElem_cons_succ, List.getElem_cons_zero]
          refine wpAnyT_pure (i := 6) (v := ?_) rfl (by kernel_rfl) (by kernel_rfl) (by kernel_rfl) (fun _ _ _ h => h) (by rfl) ?_ ?_
          rotate_left
          · intro w; go_simp; try with_reducible rfl
          simp only [Act.put, List.setIfInBounds_toArray, List.set_cons_zero, List.set_cons_succ, List.getElem_toArray, List.getElem_cons_succ, List.getElem_cons_zero]
          refine wpAnyT_pure (i := 7) (v := ?_) rfl (by kernel_rfl) (by kernel_rfl) (by kernel_rfl) (fun _ _ _ h => h) (by rfl) ?_ ?_
          rotate_left
          · intro w; go_simp; try with_reducible rfl
          simp only [Act.put, List.setIfInBounds_toArray, List.set_cons_zero, List.set_cons_succ, List.getElem_toArray, List.getElem_cons_succ, List.getElem_cons_zero]
          refine wpAnyT_pure (i := 9) (v := ?_) rfl (by kernel_rfl) (by kernel_rfl) (by kernel_rfl) (fun _ _ _ h => h) (by rfl) ?_ ?_
          rotate_left
          · intro w; go_simp; try with_reducible rfl
          simp only [Act.put, List.setIfInBounds_toArray, List.set_cons_zero, List.set_cons_succ, List.getElem_toArray, List.getElem_cons_succ, List.getElem_cons_zero]
          refine wpAnyT_pure (i := 10) (v := ?_) rfl (by kernel_rfl) (by kernel_rfl) (by kernel_rfl) (fun _ _ _ h => h) (by rfl) ?_ ?_
          rotate_left
          · intro w; go_simp; try with_reducible rfl
          simp only [Act.put, List.setIfInBounds_toArray, List.set_cons_zero, List.set_cons_succ, List.getElem_toArray, List.getElem_cons_succ, List.getElem_cons_zero]
          refine wpAnyT_pure (i := 11) (v := ?_) rfl (by kernel_rfl) (by kernel_rfl) (by kernel_rfl) (fun _ _ _ h => h) (by rfl) ?_ ?_
          rotate_left
          · intro w; go_simp; try with_reducible rfl
          simp only [Act.put, List.setIfInBounds_toArray, List.set_cons_zero, List.set_cons_succ, List.getElem_toArray, List.getElem_cons_succ, List.getElem_cons_zero]
          refine wpAnyT_one (i := 8) (by kernel_rfl) rfl (by rfl) ?_
          refine wp_enter (f := 14) (args := #[.pointer (some ⟨p6, 0, none⟩)]) (by go_simp) (records_sum F6 _ p6 (rs.take n) ((HL6.out.below hB7).below (below_drew _)) (fun r hr => Nat.le_trans (HFS.out.1 r (List.mem_of_mem_take hr)) (by omega)) (by rw [List.length_take]; omega)) ?_
          rintro e w8 ⟨v8, S8, rfl, hB8, hO8, -⟩
          replace hB8 : Below wr.heap.size wr w8 := (below_drew wr).trans hB8
          obtain ⟨a8, l8, c8, rfl, -⟩ := hO8.slice
          have HO8 := Lib.hid hO8
          clear hO8
          refine ⟨_, rfl, fun h => absurd h (by decide), ?_⟩
          simp only [Act.put, List.setIfInBounds_toArray, List.set_cons_zero, List.set_cons_succ, List.getElem_toArray, List.getElem_cons_succ, List.getElem_cons_zero]
          refine wpAnyT_one (i := 12) (by kernel_rfl) rfl (by rfl) ?_
          refine wp_enter (f := 13) (args := #[.slice a8 l8 c8, .slice a n cap]) (by go_simp) (same_sum w8 a8 a l8 c8 n cap (rs.take n) (rs.take n) (HO8.out.rd (fun b => b < w8.heap.size) (fun b hb => (HO8.out.bound b hb).2) (fun b hb => (HO8.out.own b hb).2)) (Rd.take (HR7.out.alloc hB8) n hnl) (fun _ h => h) (fun _ h => h)) ?_
          rw [decide_eq_true rfl]
          rintro e w9 ⟨rfl, hB9⟩
          refine ⟨_, rfl, fun h => absurd h (by decide), ?_⟩
          simp only [Act.put, List.setIfInBounds_toArray, List.set_cons_zero, List.set_cons_succ, List.getElem_toArray, List.getElem_cons_succ, List.getElem_cons_zero]
          refine wpAnyT_pure (i := 13) (v := ?_) rfl (by kernel_rfl) (by kernel_rfl) (by kernel_rfl) (fun _ _ _ h => h) (by rfl) ?_ ?_
          rotate_left
          · intro w; go_simp; try with_reducible rfl
          simp only [Act.put, List.setIfInBounds_toArray, List.set_cons_zero, List.set_cons_succ, List.getElem_toArray, List.getElem_cons_succ, List.getElem_cons_zero]
          refine wpAnyT_pure (i := 14) (v := ?_) rfl (by kernel_rfl) (by kernel_rfl) (by kernel_rfl) (fun _ _ _ h => h) (by rfl) ?_ ?_
          rotate_left
          · intro w; go_simp; try with_reducible rfl
          simp only [Act.put, List.setIfInBounds_toArray, List.set_cons_zero, List.set_cons_succ, List.getElem_toArray, List.getElem_cons_succ, List.getElem_cons_zero]
          refine wpAnyT_done (by kernel_rfl) ?_ _
          go_wp2_with fail
          go_ret
          exact ⟨rfl, below_step (below_step HB07.out hB8) hB9⟩
end Go.Proofs.Ytkojomakibfncaa
