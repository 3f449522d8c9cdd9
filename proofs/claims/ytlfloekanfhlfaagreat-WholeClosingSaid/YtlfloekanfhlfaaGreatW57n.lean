/- The example of the whole. -/
import Derived.Test.YtlfloekanfhlfaaGreatW57m
import Derived.Test.YtlfloekanfhlfaaGreatC56h
set_option linter.unusedSimpArgs false
namespace Go.Proofs.YtlfloekanfhlfaaGreat
open Go.RowKit Go

def rec57 : List Int := [16, 2, 10]
set_option maxRecDepth 20000 in
set_option maxHeartbeats 1000000 in
theorem awake57_sum (w : World) : Calls Tryz.prog 4 #[] w fun e w' => e = .returned (.bool true) ∧ Below w.heap.size w w' := by
  have hop : openI (bytesI [rec57]) = ([rec57], (bytesI [rec57]).length, 0) := by decide +kernel
  have hbl : (bytesI [rec57]).length = 27 := by decide +kernel
  have HOP := Lib.hid hop
  have HBL := Lib.hid hbl
  clear hop hbl
  go_enter Tryz.func4, Tryz.ntmps4
  go_wp2_with fail
  refine (new_sum _).mono ?_
  rintro e w1 ⟨rfl, hL, hB⟩
  have HL1 := Lib.hid hL
  have HB1 := Lib.hid hB
  obtain ⟨p, hp⟩ : ∃ q, w.heap.size = q := ⟨_, rfl⟩
  have HP := Lib.hid hp
  rw [hp] at HL1 ⊢
  clear hL hB hp
  go_wp2_with fail
  refine (event57 w1).mono ?_
  rintro e w2 ⟨a2, l2, c2, rfl, hr2, hB2⟩
  have HL2 := Lib.hid (HL1.out.below hB2)
  have HR2 := Lib.hid hr2
  have hlen2 : l2 = 3 := hr2.sl_flat.1.symm
  have hlt1 : p < w1.heap.size := HL1.out.lt _ rfl
  have HB2 := Lib.hid (below_step HB1.out hB2)
  have hle2 := hB2.size
  clear hr2 hB2 HL1
  subst hlen2
  go_wp2_with fail
  refine (append_sum (fun b => b = p) (fun b => w1.heap.size ≤ b ∧ b < w2.heap.size) w2 p [] HL2.out a2 3 c2 rec57 HR2.out (fun b hb => ⟨hb.2, by omega⟩) (by omega) (by simp)).mono ?_
  rintro e w3 ⟨rfl, F3, hL3, hF3, hG3⟩
  have HL3 := Lib.hid (show LogIn F3 w3 p [rec57] from hL3)
  have hB3 : Below p w2 w3 := hG3.below (fun b hb => by omega) (by omega)
  have HB3 := Lib.hid hB3
  clear hL3 hF3 hG3 hB3
  go_wp2_with fail
  refine (bytes_sum F3 _ p [rec57] HL3.out (by simp [rec57]) (by simp)).mono ?_
  rintro e w4 ⟨v4, rfl, hB4, hO4⟩
  obtain ⟨a4, l4, c4, rfl, hl4⟩ := hO4.slice
  have HO4 := Lib.hid hO4.lt
  rw [HBL.out] at hl4
  have HB4 := Lib.hid hB4
  clear hO4 hB4
  subst hl4
  go_wp2_with fail
  refine (open_sum _ _ _ _ _ HO4.out (by omega)).mono ?_
  rw [HOP.out]
  rintro e w5 ⟨p5, F5, rfl, hL5, hF5, hB5⟩
  have HL5 := Lib.hid hL5
  have HB5 := Lib.hid hB5
  clear hL5 hF5 hB5
  go_wp2_with fail
  refine (len_sum _ _ p5 _ HL5.out).mono ?_
  rintro e w6 ⟨rfl, hw⟩
  subst w6
  simp only [List.length_singleton]
  go_wp2_with fail
  refine (qvalid57 w5).mono ?_
  rintro e w7 ⟨rfl, hB7⟩
  have HB7 := Lib.hid hB7
  clear hB7
  go_wp2_with fail
  go_ret
  refine ⟨rfl, ?_⟩
  have h0 : Below w.heap.size w w3 := HB2.out.trans (HB3.out.mono (by rw [HP.out]; exact Nat.le_refl _))
  exact below_step (below_step (below_step h0 HB4.out) HB5.out) HB7.out
end Go.Proofs.YtlfloekanfhlfaaGreat
