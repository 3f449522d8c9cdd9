/- Layer 55: the walks of ChainVerify, ChainSum, ChainLinks. -/
import Derived.Test.YtdabgnjbanpdoaaC55e
import Derived.Test.YtdabgnjbanpdoaaRead
namespace Go.Proofs.Ytdabgnjbanpdoaa
open Go.RowKit Go Go.Shelf

set_option maxHeartbeats 1000000 in
theorem verifyWalk (w : World) (c0 : List Value) (ls : (Ty.sl (.int .u64)).den) (r0 : Rd (.sl (.int .u64)) (fun b => b < w.heap.size) w c0 ls) (c1 : List Value) (rs : (Ty.sl (.sl (.int .u8))).den) (r1 : Rd (.sl (.sl (.int .u8))) (fun b => b < w.heap.size) w c1 rs) :
    Calls Try.prog 3 #[valOf (.sl (.int .u64)) c0, valOf (.sl (.sl (.int .u8))) c1] w fun e w' => e = .returned (.bool true) ∧ Below w.heap.size w w' := by
  obtain ⟨al, ll, cl, rfl, -⟩ := id r0
  obtain ⟨a, len, cap, rfl, -⟩ := id r1
  simp only [valOf, List.headD_cons]
  have R0 := Lib.hid r0
  have R1 := Lib.hid r1
  obtain ⟨hl, -, -, -⟩ := r1.rows
  have HL := Lib.hid hl
  clear r0 r1 hl
  go_enter Try.func3, Try.ntmps3
  go_wp2_with fail
  refine (awake_any w).mono ?_
  rintro e w1 ⟨rfl, hB1⟩
  have HB1 := Lib.hid hB1
  have R01 := Lib.hid (R0.out.alloc hB1)
  have R11 := Lib.hid (R1.out.alloc hB1)
  clear hB1 R0 R1
  go_wp2_with fail
  refine (few_any _ _ _ _ _ R11.out).mono ?_
  rintro e w2 ⟨rfl, rfl⟩
  cases hf : fewB rs with
  | false =>
    clear hf
    go_wp2
    go_ret
    exact ⟨rfl, HB1.out⟩
  | true =>
    have hr : rs.length ≤ 20 := by simp [fewB] at hf; exact hf.2
    clear hf
    by_cases h30 : 30 < ll
    · go_wp2
      go_ret
      exact ⟨rfl, HB1.out⟩
    · have h2 : ((matchN (linksI rs) (linksI rs) : Int) == (len : Int)) = true := by
        rw [matchN_prefix _ _ (List.prefix_refl _), linksI_length, HL.out]; simp
      go_wp2_with fail
      refine (Verify_any _ _ _ _ _ _ _ _ _ R01.out R11.out).mono ?_
      rintro e w2 ⟨rfl, hB2⟩
      have HB2 := Lib.hid hB2
      have R02 := Lib.hid (R01.out.alloc hB2)
      have R12 := Lib.hid (R11.out.alloc hB2)
      clear hB2 R01 R11
      go_wp2_with fail
      refine (refVerify_any _ _ _ _ _ _ _ _ _ (by omega) R02.out R12.out).mono ?_
      rintro e w3 ⟨rfl, hB3⟩
      have HB3 := Lib.hid hB3
      have R13 := Lib.hid (R12.out.alloc hB3)
      clear hB3 R02 R12
      go_wp2_with fail
      refine (Links_any _ _ _ _ _ (by omega) R13.out).mono ?_
      rintro e w4 ⟨v, rfl, hO, hB4⟩
      obtain ⟨av, lv, cv, rfl, -⟩ := hO.slice
      have HO := Lib.hid (hO.rd (fun b => b < w4.heap.size) (fun _ h => h.elim) (fun b hb => (hO.own b hb).2))
      have HB4 := Lib.hid hB4
      have R14 := Lib.hid (R13.out.alloc hB4)
      clear hB4 R13 hO
      go_wp2_with fail
      refine (Verify_any _ _ _ _ _ _ _ _ _ HO.out R14.out).mono ?_
      rintro e w5 ⟨rfl, hB5⟩
      have HB5 := Lib.hid hB5
      clear hB5
      go_wp2
      go_ret
      refine ⟨rfl, ?_⟩
      have b12 := HB1.out.trans (HB2.out.mono HB1.out.size)
      have b13 := b12.trans (HB3.out.mono b12.size)
      have b14 := b13.trans (HB4.out.mono b13.size)
      exact b14.trans (HB5.out.mono b14.size)

set_option maxHeartbeats 1000000 in
theorem sumWalk (w : World) (c0 : List Value) (h : (Ty.int .u64).den) (r0 : Rd (.int .u64) (fun b => b < w.heap.size) w c0 h) (c1 : List Value) (xs : (Ty.sl (.int .u8)).den) (r1 : Rd (.sl (.int .u8)) (fun b => b < w.heap.size) w c1 xs) :
    Calls Try.prog 5 #[valOf (.int .u64) c0, valOf (.sl (.int .u8)) c1] w fun e w' => e = .returned (.bool true) ∧ Below w.heap.size w w' := by
  obtain ⟨rfl, -⟩ := id r0
  obtain ⟨a, len, cap, rfl, -⟩ := id r1
  simp only [valOf, List.headD_cons]
  have R1 := Lib.hid r1
  clear r0 r1
  go_enter Try.func5, Try.ntmps5
  go_wp2_with fail
  refine (awake_any w).mono ?_
  rintro e w1 ⟨rfl, hB1⟩
  have HB1 := Lib.hid hB1
  have R11 := Lib.hid (R1.out.alloc hB1)
  clear hB1 R1
  by_cases h1 : 1000 < len
  · go_wp2
    go_ret
    exact ⟨rfl, HB1.out⟩
  · go_wp2_with fail
    refine (Sum_any _ _ _ _ _ R11.out).mono ?_
    rintro e w2 ⟨rfl, rfl⟩
    go_wp2_with fail
    refine (refFrom_any _ _ _ _ _ _ R11.out).mono ?_
    rintro e w2 ⟨rfl, rfl⟩
    go_wp2_with fail
    refine (Next_any _ _ _ _ _ _ (fun _ h => h) R11.out).mono ?_
    rintro e w2 ⟨rfl, hB2⟩
    have HB2 := Lib.hid hB2
    have R12 := Lib.hid (R11.out.alloc hB2)
    clear hB2 R11
    go_wp2_with fail
    refine (refNext_any _ _ _ _ _ _ (fun _ h => h) R12.out).mono ?_
    rintro e w3 ⟨rfl, hB3⟩
    go_wp2
    go_ret
    exact ⟨rfl, (HB1.out.trans (HB2.out.mono HB1.out.size)).trans (hB3.mono (Nat.le_trans HB1.out.size HB2.out.size))⟩

set_option maxHeartbeats 1000000 in
theorem linksWalk (w : World) (c1 : List Value) (rs : (Ty.sl (.sl (.int .u8))).den) (r1 : Rd (.sl (.sl (.int .u8))) (fun b => b < w.heap.size) w c1 rs) :
    Calls Try.prog 6 #[valOf (.sl (.sl (.int .u8))) c1] w fun e w' => e = .returned (.bool true) ∧ Below w.heap.size w w' := by
  obtain ⟨a, len, cap, rfl, -⟩ := id r1
  simp only [valOf, List.headD_cons]
  have R1 := Lib.hid r1
  clear r1
  go_enter Try.func6, Try.ntmps6
  go_wp2_with fail
  refine (awake_any w).mono ?_
  rintro e w1 ⟨rfl, hB1⟩
  have HB1 := Lib.hid hB1
  have R11 := Lib.hid (R1.out.alloc hB1)
  clear hB1 R1
  go_wp2_with fail
  refine (few_any _ _ _ _ _ R11.out).mono ?_
  rintro e w2 ⟨rfl, rfl⟩
  cases hf : fewB rs with
  | false =>
    clear hf
    go_wp2
    go_ret
    exact ⟨rfl, HB1.out⟩
  | true =>
    have hr : rs.length ≤ 20 := by simp [fewB] at hf; exact hf.2
    clear hf
    go_wp2_with fail
    refine (Links_any _ _ _ _ _ (by omega) R11.out).mono ?_
    rintro e w2 ⟨v, rfl, hO, hB2⟩
    obtain ⟨av, lv, cv, rfl, -⟩ := hO.slice
    have HO := Lib.hid hO
    have HB2 := Lib.hid hB2
    have R12 := Lib.hid (R11.out.alloc hB2)
    clear hB2 R11 hO
    go_wp2_with fail
    refine (refLinks_any _ _ _ _ _ (by omega) R12.out).mono ?_
    rintro e w3 ⟨v, rfl, hO, hB3⟩
    obtain ⟨av2, lv2, cv2, rfl, -⟩ := hO.slice
    have HO2 := Lib.hid (hO.rd (fun _ => True) (fun _ h => trivial) (fun b hb => trivial))
    have HO1 := Lib.hid ((HO.out.below hB3).rd (fun _ => True) (fun _ h => trivial) (fun b hb => trivial))
    have HB3 := Lib.hid hB3
    have R13 := Lib.hid (R12.out.alloc hB3)
    clear hB3 R12 hO HO
    go_wp2_with fail
    refine (sameLinks_any _ _ _ _ _ _ _ _ _ HO1.out HO2.out).mono ?_
    rintro e w4 ⟨rfl, m, hm⟩
    have hB4 : Below w3.heap.size w3 w4 := by rw [hm]; exact below_drewN (Below.refl _ _) m
    clear hm
    have HB4 := Lib.hid hB4
    have R14 := Lib.hid (R13.out.alloc hB4)
    clear R13 hB4
    go_wp2_with fail
    refine (Head_any _ _ _ _ _ R14.out).mono ?_
    rintro e w5 ⟨rfl, hB5⟩
    have HB5 := Lib.hid hB5
    have R15 := Lib.hid (R14.out.alloc hB5)
    clear hB5 R14
    go_wp2_with fail
    refine (refHead_any _ _ _ _ _ (by omega) R15.out).mono ?_
    rintro e w6 ⟨rfl, hB6⟩
    have HB6 := Lib.hid hB6
    clear hB6
    go_wp2
    go_ret
    refine ⟨rfl, ?_⟩
    have b12 := HB1.out.trans (HB2.out.mono HB1.out.size)
    have b13 := b12.trans (HB3.out.mono b12.size)
    have b14 := b13.trans (HB4.out.mono b13.size)
    have b15 := b14.trans (HB5.out.mono b14.size)
    exact b15.trans (HB6.out.mono b15.size)
end Go.Proofs.Ytdabgnjbanpdoaa
