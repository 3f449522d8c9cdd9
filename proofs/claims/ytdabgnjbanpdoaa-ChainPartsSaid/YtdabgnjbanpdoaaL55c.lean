/- Layer 55: the walk of ChainParts. -/
import Derived.Test.YtdabgnjbanpdoaaC55e
import Derived.Test.YtdabgnjbanpdoaaRead
namespace Go.Proofs.Ytdabgnjbanpdoaa
open Go.RowKit Go Go.Shelf

theorem linksI_take (rs : List (List Int)) (k : Nat) (hk : k ≤ rs.length) : linksI (rs.take k) = (linksI rs).take k := by
  unfold linksI linksN
  rw [← List.map_take, List.take_range, List.length_take, Nat.min_eq_left hk]
  refine List.map_congr_left fun j hj => ?_
  have hj' : j < k := by simpa [hk] using hj
  rw [List.take_take, Nat.min_eq_left (by omega)]

set_option maxHeartbeats 1000000 in
theorem partsWalk (w : World) (c0 : List Value) (rs : (Ty.sl (.sl (.int .u8))).den) (r0 : Rd (.sl (.sl (.int .u8))) (fun b => b < w.heap.size) w c0 rs) (c1 : List Value) (at_ : Int) (r1 : Rd (.int .u8) (fun b => b < w.heap.size) w c1 at_) :
    Calls Try.prog 8 #[valOf (.sl (.sl (.int .u8))) c0, valOf (.int .u8) c1] w fun e w' => e = .returned (.bool true) ∧ Below w.heap.size w w' := by
  obtain ⟨rfl, aw⟩ := r1
  obtain ⟨a, len, cap, rfl, -⟩ := id r0
  simp only [valOf, List.headD_cons]
  have R0 := Lib.hid r0
  obtain ⟨hl, hcc, hcm, -⟩ := r0.rows
  have HL := Lib.hid hl
  obtain ⟨ha0, ha1⟩ := wf_u8 aw
  clear r0 hl aw
  go_enter Try.func8, Try.ntmps8
  go_wp2_with fail
  refine (awake_any _).mono ?_
  rintro e w1 ⟨rfl, hB1⟩
  have HB1 := Lib.hid hB1
  have R1 := Lib.hid (R0.out.alloc hB1)
  clear hB1 R0
  go_wp2_with fail
  refine (few_any _ _ _ _ _ R1.out).mono ?_
  rintro e w2 ⟨rfl, rfl⟩
  cases hf : fewB rs with
  | false =>
    clear hf
    go_wp2
    go_ret
    exact ⟨rfl, HB1.out⟩
  | true =>
    have hr : rs.length ≤ 20 := by simp [fewB] at hf; exact hf.2
    clear hf
    have hlen : len ≤ 20 := by have := HL.out; omega
    obtain ⟨k, hk, hkl⟩ : ∃ k : Nat, at_ % ((len : Int) + 1) = (k : Int) ∧ k ≤ len := ⟨(at_ % ((len : Int) + 1)).toNat, by rw [Int.toNat_of_nonneg (Int.emod_nonneg _ (by omega))], by have := Int.emod_lt_of_pos at_ (show (0 : Int) < (len : Int) + 1 by omega); omega⟩
    have hkc : k ≤ cap := Nat.le_trans hkl hcc
    go_wp2_with fail
    go_region_held3 (fun w' => Below w1.heap.size w1 w') (first | assumption | exact below_drew _) (first
      | (go_at_call_of 13 (Value.slice a len cap); refine (Links_any _ _ _ _ _ (by omega) (R1.out.alloc (by first | assumption | exact below_drew _))).mono ?_; rintro e w2 ⟨v, rfl, hO2, hB2⟩; have hB12 : Below w1.heap.size w1 w2 := below_step (by first | assumption | exact below_drew _) hB2)
      | (go_at_call_of 13 (Value.slice a k cap); refine (Links_any _ _ _ _ _ (by simp; omega) ((R1.out.alloc (by first | assumption | exact below_drew _)).take k hkl)).mono ?_; rintro e w3 ⟨v3, rfl, hO3, hB3⟩; have hB13 : Below w1.heap.size w1 w3 := below_step (by first | assumption | exact below_drew _) hB3))
    obtain ⟨av, lv, cv, rfl, hlv, hlc, hcm2⟩ := hO2.slice
    obtain ⟨a3, l3, c3, rfl, hl3, hlc3, hcm3⟩ := hO3.slice
    have hlv' : lv = len := by rw [hlv, linksI_length]; exact HL.out
    subst hlv'
    have hkcv : k ≤ cv := Nat.le_trans hkl hlc
    have HO2 := Lib.hid ((hO2.below hB3).rd (fun b => b < w3.heap.size) (fun _ h => h.elim) (fun b hb => ((hO2.below hB3).own b hb).2))
    have HO3 := Lib.hid (hO3.rd (fun b => b < w3.heap.size) (fun _ h => h.elim) (fun b hb => (hO3.own b hb).2))
    have HB3 := Lib.hid (HB1.out.trans (hB13.mono HB1.out.size))
    have R3 := Lib.hid (R1.out.alloc hB13)
    have teq : decide (List.take k (linksI rs) = linksI (List.take k rs)) = true := by
      rw [linksI_take rs k (by have := HL.out; omega)]; simp
    have HLV := Lib.hid (And.intro hlv hl3)
    clear hO2 hO3 hB2 hB3 hB12 hB13 hlv hl3
    go_wp2_with fail
    refine (sameLinks_any _ _ _ _ _ _ _ _ _ (HO2.out.take k hkl) HO3.out).mono ?_
    rintro e w4 ⟨rfl, m, hm⟩
    have hB4 : Below w3.heap.size w3 w4 := by rw [hm]; exact below_drewN (Below.refl _ _) m
    have HB4 := Lib.hid (below_step HB3.out hB4)
    have R4 := Lib.hid (R3.out.alloc hB4)
    have HO4 := Lib.hid (HO2.out.alloc hB4)
    clear hm hB4
    go_wp2_with fail
    refine (Head_any _ _ _ _ _ (R4.out.take k hkl)).mono ?_
    rintro e w5 ⟨rfl, hB5⟩
    have HB5 := Lib.hid (below_step HB4.out hB5)
    have R5 := Lib.hid (R4.out.alloc hB5)
    have HO5 := Lib.hid (HO4.out.alloc hB5)
    clear hB5 R4 R3 HO4 HO3 HO2
    go_wp2
    go_loopw [8, 9] (fun h i wr => ∃ j : Nat, k ≤ j ∧ j ≤ lv ∧ i = .int .i64 j ∧ h = .int .u64 (headI (rs.take j)) ∧ Below w5.heap.size w5 wr) (fun _ i _ => lv - (intOf i).toNat)
    case atStart => exact ⟨k, Nat.le_refl _, hkl, rfl, rfl, Below.refl _ _⟩
    case round =>
      obtain ⟨j, hkj, hj, rfl, rfl, hBr⟩ := hrel
      have R6 := Lib.hid (R5.out.alloc hBr)
      have HO6 := Lib.hid (HO5.out.alloc hBr)
      have HBr := Lib.hid hBr
      clear hBr
      by_cases hlt : j < lv
      · have Hjr : Hid (j < rs.length) := by show j < rs.length; have := HL.out; omega
        obtain ⟨-, -, -, hrows⟩ := R6.out.rows
        obtain ⟨b, off, a', len', cap', rfl, hb, hcell, hrow⟩ := hrows j Hjr.out
        have HS := Lib.hid (headI_take rs j Hjr.out)
        have HX := Lib.hid hrow
        clear hrows hrow
        obtain ⟨-, -, -, hat, -⟩ := HO6.out.ints
        obtain ⟨b2, o2, rfl, -, c2⟩ := hat j hlt
        rw [linksI_get _ _ Hjr.out, HS.out] at c2
        clear hat
        go_wp2_with fail
        refine (Next_any _ _ _ _ _ _ (fun _ h => h) HX.out).mono ?_
        rintro e w6 ⟨rfl, hB6⟩
        have c26 := cell_below c2 hB6
        have HB6 := Lib.hid hB6
        clear hB6 c2 hcell
        go_wp2
        go_roundw
        case rel => exact ⟨j + 1, by omega, by omega, by go_num, by rw [HS.out], below_step HBr.out HB6.out⟩
        case measure => simp [intOf]; omega
      · obtain rfl : j = lv := by omega
        go_wp2_with fail
        refine (Head_any _ _ _ _ _ R6.out).mono ?_
        rintro e w6 ⟨rfl, hB6⟩
        have hfin : ((headI (rs.take j) == headI rs)) = true := by
          rw [List.take_of_length_le (by have := HL.out; omega)]; simp
        go_wp2
        go_ret
        exact ⟨rfl, below_step (below_step HB5.out HBr.out) hB6⟩
end Go.Proofs.Ytdabgnjbanpdoaa
