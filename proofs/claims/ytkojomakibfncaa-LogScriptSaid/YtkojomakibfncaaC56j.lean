/- Layer 56: the reference's next. -/
import Derived.Test.YtkojomakibfncaaC56i
namespace Go.Proofs.Ytkojomakibfncaa
open Go.RowKit Go
set_option linter.unusedSimpArgs false

/-- What next hands back. -/
def NxPost (S : Nat → Prop) (w : World) (hd : Int) (xs : List Int) (e : Ending) (w' : World) : Prop :=
  Below w.heap.size w w' ∧ (chkP xs ≠ 0 → e = .returned (.tuple #[.slice none 0 0, .int .i64 (chkP xs)])) ∧
    (chkP xs = 0 → (nextI hd (recP xs) ≠ lnkP xs → e = .returned (.tuple #[.slice none 0 0, .int .i64 5])) ∧
      (nextI hd (recP xs) = lnkP xs → ∃ a2 c2, e = .returned (.tuple #[.slice a2 (sizeP xs) c2, .int .i64 0]) ∧ Rd rowT S w' [.slice a2 (sizeP xs) c2] (recP xs)))

theorem nx_ok {S : Nat → Prop} {w w' : World} {hd : Int} {xs : List Int} {e : Ending} {A : Option Addr} {c : Nat} (hB : Below w.heap.size w w') (hck : chkP xs = 0) (hn : nextI hd (recP xs) = lnkP xs) (he : e = .returned (.tuple #[.slice A (sizeP xs) c, .int .i64 0])) (hr : Rd rowT S w' [.slice A (sizeP xs) c] (recP xs)) : NxPost S w hd xs e w' :=
  ⟨hB, fun h => absurd hck h, fun _ => ⟨fun h => absurd hn h, fun _ => ⟨A, c, he, hr⟩⟩⟩
theorem nx_bad {S : Nat → Prop} {w w' : World} {hd : Int} {xs : List Int} {e : Ending} (hB : Below w.heap.size w w') (hck : chkP xs = 0) (hn : nextI hd (recP xs) ≠ lnkP xs) (he : e = .returned (.tuple #[.slice none 0 0, .int .i64 5])) : NxPost S w hd xs e w' :=
  ⟨hB, fun h => absurd hck h, fun _ => ⟨fun _ => he, fun h => absurd h hn⟩⟩

set_option maxHeartbeats 2000000 in
theorem refnext_sum (S : Nat → Prop) (w : World) (a : Option Addr) (len cap : Nat) (hd : Int) (xs : List Int) (hx : Rd rowT S w [.slice a len cap] xs) (hS : ∀ b, S b → b < w.heap.size) (hlen : len ≤ 100000000) :
    Calls Try.prog 33 #[.slice a len cap, .int .u64 hd] w (NxPost S w hd xs) := by
  obtain ⟨hl, hc, hm, hat, hok⟩ := hx.ints
  have HOK := Lib.hid (show okB xs from hok)
  have HX := Lib.hid hx
  have HSS := Lib.hid hS
  have HL := Lib.hid hl
  clear hx hl hok hS
  by_cases h16 : len < 16
  · have hchk : chkP xs = 19 := by unfold chkP; rw [if_pos (by rw [HL.out]; exact h16)]
    have HCH := Lib.hid hchk
    clear hchk hat
    go_enter Try.func33, Try.ntmps33
    go_wp2
    go_ret2
    exact ⟨Below.refl _ _, fun _ => by rw [HCH.out]; rfl, fun h => by rw [HCH.out] at h; cases h⟩
  obtain ⟨b, off, rfl, -⟩ := hat 0 (by omega)
  clear hat
  have x4 := Rd.take HX.out 4 (by omega)
  have x8 := Rd.take (Rd.drop HX.out 4 (by omega)) 4 (by omega)
  have x16 := Rd.take (Rd.drop HX.out 8 (by omega)) 8 (by omega)
  have hsz := sizeP_lt xs HOK.out
  have hiv := invP_lt xs HOK.out
  have c4 := (number_any _ _ _ _ w (by omega) x4).mono (fun e w' (h : _ ∧ _) => (And.intro h.1 h.2.symm : _ ∧ w' = w))
  have c8 := (number_any _ _ _ _ w (by omega) x8).mono (fun e w' (h : _ ∧ _) => (And.intro h.1 h.2.symm : _ ∧ w' = w))
  have c16 := fun (W : World) (hW : Below w.heap.size w W) => (number_any _ _ _ _ W (by omega) (x16.below hW HSS.out)).mono (fun e w' (h : _ ∧ _) => (And.intro h.1 h.2.symm : _ ∧ w' = W))
  simp only [Ty.sz, Nat.mul_one, Option.map_some, Addr.add_none] at c8 c16
  rw [if_neg (by omega)] at c8 c16
  have hd8 := chk_bad (xs := xs) (by rw [HL.out]; omega)
  have ht8 := chk_torn (xs := xs) (by rw [HL.out]; omega)
  have hk8 := chk_ok (xs := xs) (by rw [HL.out]; omega)
  obtain ⟨z, hz⟩ : ∃ z, sizeP xs = z := ⟨_, rfl⟩
  obtain ⟨v, hv⟩ : ∃ v, invP xs = v := ⟨_, rfl⟩
  obtain ⟨y, hy⟩ : ∃ y, lnkP xs = y := ⟨_, rfl⟩
  have c4' : Calls Try.prog 44 #[.slice (some ⟨b, off, none⟩) 4 cap] w fun e w' => e = .returned (.int .u64 z) ∧ w' = w := by rw [← hz]; exact c4
  have c8' : Calls Try.prog 44 #[.slice (some ⟨b, off + 4, none⟩) 4 (cap - 4)] w fun e w' => e = .returned (.int .u64 v) ∧ w' = w := by rw [← hv]; exact c8
  have c16' : ∀ W, Below w.heap.size w W → Calls Try.prog 44 #[.slice (some ⟨b, off + 8, none⟩) 8 (cap - 8)] W fun e w' => e = .returned (.int .u64 y) ∧ w' = W := by rw [← hy]; exact c16
  rw [hz, hv] at hd8 ht8 hk8
  rw [HL.out] at ht8 hk8
  have C4 := Lib.hid c4'
  have C8 := Lib.hid c8'
  have C16 := Lib.hid c16'
  have HD8 := Lib.hid hd8; have HT8 := Lib.hid ht8; have HK8 := Lib.hid hk8
  have HZ := Lib.hid hz; have HY := Lib.hid hy
  rw [hz] at hsz
  have hz32 : (z : Int) ≤ 4294967295 := by omega
  clear c4 c8 c16 c4' c8' c16' x4 x8 x16 hd8 ht8 hk8 hv hsz hiv
  by_cases hA : z + v ≠ 4294967295
  · have hx1 : ((v : Int) != 4294967295 - (z : Int)) = true := by simp; omega
    have HCH := Lib.hid (HD8.out (.inl hA))
    clear hA hz hy
    go_enter Try.func33, Try.ntmps33
    go_wp2_with (go_at_call 44; first | ((with_reducible refine C4.out.mono ?_); rintro e w1 ⟨rfl, hw⟩; subst w1) | ((with_reducible refine C8.out.mono ?_); rintro e w1 ⟨rfl, hw⟩; subst w1))
    go_ret2
    exact ⟨Below.refl _ _, fun _ => by rw [HCH.out]; rfl, fun h => by rw [HCH.out] at h; cases h⟩
  have hx0 : ((v : Int) != 4294967295 - (z : Int)) = false := by simp; omega
  by_cases hB : 65536 < z
  · have HCH := Lib.hid (HD8.out (.inr hB))
    clear hA hz hy
    go_enter Try.func33, Try.ntmps33
    go_wp2_with (go_at_call 44; first | ((with_reducible refine C4.out.mono ?_); rintro e w1 ⟨rfl, hw⟩; subst w1) | ((with_reducible refine C8.out.mono ?_); rintro e w1 ⟨rfl, hw⟩; subst w1))
    go_ret2
    exact ⟨Below.refl _ _, fun _ => by rw [HCH.out]; rfl, fun h => by rw [HCH.out] at h; cases h⟩
  have hAB : ¬(z + v ≠ 4294967295 ∨ 65536 < z) := by omega
  have HAB := Lib.hid hAB
  clear hAB hA
  by_cases hC : len - 16 < z
  · have HCH := Lib.hid (HT8.out HAB.out hC)
    clear hz hy
    go_enter Try.func33, Try.ntmps33
    go_wp2_with (go_at_call 44; first | ((with_reducible refine C4.out.mono ?_); rintro e w1 ⟨rfl, hw⟩; subst w1) | ((with_reducible refine C8.out.mono ?_); rintro e w1 ⟨rfl, hw⟩; subst w1))
    go_ret2
    exact ⟨Below.refl _ _, fun _ => by rw [HCH.out]; rfl, fun h => by rw [HCH.out] at h; cases h⟩
  have HCH := Lib.hid (HK8.out HAB.out hC)
  have hrec := Rd.take (Rd.drop HX.out 16 (by omega)) z (by omega)
  simp only [Ty.sz, Nat.mul_one, Option.map_some, Addr.add_none] at hrec
  have h16z : 16 + z - 16 = z := by omega
  obtain ⟨A, hA⟩ : ∃ A, (if cap = 16 then some (⟨b, off, none⟩ : Addr) else some ⟨b, off + 16, none⟩) = A := ⟨_, rfl⟩
  rw [hA] at hrec
  have hre : (recP xs) = List.take z (List.drop 16 xs) := by unfold recP; rw [hz]
  rw [← hre] at hrec
  have hnxt := refNext_any hd A z (cap - 16) (recP xs) w.drew HSS.out (hrec.below (below_drew w) HSS.out)
  obtain ⟨nx, hnx⟩ : ∃ nx, nextI hd (recP xs) = nx := ⟨_, rfl⟩
  rw [hnx] at hnxt
  have HNXT := Lib.hid hnxt
  have HREC := Lib.hid hrec
  have HNX := Lib.hid hnx
  clear hre hnx hnxt hrec hz hy
  by_cases hne : nx = (y : Int)
  · have hq : (nx != (y : Int)) = false := by simp [hne]
    have HNE := Lib.hid hne
    clear hne
    go_enter Try.func33, Try.ntmps33
    go_wp2_with (go_at_call 44; first | ((with_reducible refine C4.out.mono ?_); rintro e w1 ⟨rfl, hw⟩; subst w1) | ((with_reducible refine C8.out.mono ?_); rintro e w1 ⟨rfl, hw⟩; subst w1))
    have hc16 : (16 : Int) ≤ (cap : Int) := by omega
    have hc8 : ¬ cap = 8 := by omega
    rw [h16z]
    refine wp_region_T (fun _ => True) (fun _ => true) (by kernel_rfl) ?_
    refine wpAnyT_pure (i := 0) (v := ?_) rfl (by kernel_rfl) (by kernel_rfl) (by kernel_rfl) (fun _ _ _ h => h) (by rfl) ?_ ?_
    rotate_left
    · intro w; go_simp; try with_reducible rfl
    simp only [Act.put, List.setIfInBounds_toArray, List.set_cons_zero, List.set_cons_succ, List.getElem_toArray, List.getElem_cons_succ, List.getElem_cons_zero]
    refine wpAnyT_pure (i := 1) (v := ?_) rfl (by kernel_rfl) (by kernel_rfl) (by kernel_rfl) (fun _ _ _ h => h) (by rfl) ?_ ?_
    rotate_left
    · intro w; go_simp; try with_reducible rfl
    simp only [Act.put, List.setIfInBounds_toArray, List.set_cons_zero, List.set_cons_succ, List.getElem_toArray, List.getElem_cons_succ, List.getElem_cons_zero]
    refine wpAnyT_pure (i := 3) (v := ?_) rfl (by kernel_rfl) (by kernel_rfl) (by kernel_rfl) (fun _ _ _ h => h) (by rfl) ?_ ?_
    rotate_left
    · intro w; go_simp; try with_reducible rfl
    simp only [Act.put, List.setIfInBounds_toArray, List.set_cons_zero, List.set_cons_succ, List.getElem_toArray, List.getElem_cons_succ, List.getElem_cons_zero]
    refine wpAnyT_pure (i := 4) (v := ?_) rfl (by kernel_rfl) (by kernel_rfl) (by kernel_rfl) (fun _ _ _ h => h) (by rfl) ?_ ?_
    rotate_left
    · intro w; go_simp; try with_reducible rfl
    simp only [Act.put, List.setIfInBounds_toArray, List.set_cons_zero, List.set_cons_succ, List.getElem_toArray, List.getElem_cons_succ, List.getElem_cons_zero]
    refine wpAnyT_one (i := 2) (by kernel_rfl) rfl (by rfl) ?_
    refine wp_enter (f := 34) (args := #[.int .u64 hd, .slice A z (cap - 16)]) (by go_simp) HNXT.out ?_
    rintro e w3 ⟨rfl, hB3⟩
    replace hB3 : Below w.heap.size w w3 := (below_drew w).trans hB3
    refine ⟨_, rfl, fun _ _ => trivial, ?_⟩
    simp only [Act.put, List.setIfInBounds_toArray, List.set_cons_zero, List.set_cons_succ, List.getElem_toArray, List.getElem_cons_succ, List.getElem_cons_zero]
    refine wpAnyT_one (i := 5) (by kernel_rfl) rfl (by rfl) ?_
    refine wp_enter (f := 44) (args := #[.slice (some ⟨b, off + 8, none⟩) 8 (cap - 8)]) (by go_simp) (C16.out w3 hB3) ?_
    rintro e w4 ⟨rfl, rfl⟩
    refine ⟨_, rfl, fun _ _ => trivial, ?_⟩
    simp only [Act.put, List.setIfInBounds_toArray, List.set_cons_zero, List.set_cons_succ, List.getElem_toArray, List.getElem_cons_succ, List.getElem_cons_zero]
    refine wpAnyT_pure (i := 6) (v := ?_) rfl (by kernel_rfl) (by kernel_rfl) (by kernel_rfl) (fun _ _ _ h => h) (by rfl) ?_ ?_
    rotate_left
    · intro w; go_simp; try with_reducible rfl
    simp only [Act.put, List.setIfInBounds_toArray, List.set_cons_zero, List.set_cons_succ, List.getElem_toArray, List.getElem_cons_succ, List.getElem_cons_zero]
    refine wpAnyT_done (by kernel_rfl) ?_ _
    go_wp2
    go_ret2
    exact nx_ok (A := A) (c := cap - 16) hB3 HCH.out (by rw [HNX.out, HY.out]; exact HNE.out) (by rw [HZ.out]; rfl) (by rw [HZ.out]; exact HREC.out.below hB3 HSS.out)
  · have hq : (nx != (y : Int)) = true := by simp [hne]
    have HNE := Lib.hid hne
    clear hne
    go_enter Try.func33, Try.ntmps33
    go_wp2_with (go_at_call 44; first | ((with_reducible refine C4.out.mono ?_); rintro e w1 ⟨rfl, hw⟩; subst w1) | ((with_reducible refine C8.out.mono ?_); rintro e w1 ⟨rfl, hw⟩; subst w1))
    have hc16 : (16 : Int) ≤ (cap : Int) := by omega
    have hc8 : ¬ cap = 8 := by omega
    rw [h16z]
    refine wp_region_T (fun _ => True) (fun _ => true) (by kernel_rfl) ?_
    refine wpAnyT_pure (i := 0) (v := ?_) rfl (by kernel_rfl) (by kernel_rfl) (by kernel_rfl) (fun _ _ _ h => h) (by rfl) ?_ ?_
    rotate_left
    · intro w; go_simp; try with_reducible rfl
    simp only [Act.put, List.setIfInBounds_toArray, List.set_cons_zero, List.set_cons_succ, List.getElem_toArray, List.getElem_cons_succ, List.getElem_cons_zero]
    refine wpAnyT_pure (i := 1) (v := ?_) rfl (by kernel_rfl) (by kernel_rfl) (by kernel_rfl) (fun _ _ _ h => h) (by rfl) ?_ ?_
    rotate_left
    · intro w; go_simp; try with_reducible rfl
    simp only [Act.put, List.setIfInBounds_toArray, List.set_cons_zero, List.set_cons_succ, List.getElem_toArray, List.getElem_cons_succ, List.getElem_cons_zero]
    refine wpAnyT_pure (i := 3) (v := ?_) rfl (by kernel_rfl) (by kernel_rfl) (by kernel_rfl) (fun _ _ _ h => h) (by rfl) ?_ ?_
    rotate_left
    · intro w; go_simp; try with_reducible rfl
    simp only [Act.put, List.setIfInBounds_toArray, List.set_cons_zero, List.set_cons_succ, List.getElem_toArray, List.getElem_cons_succ, List.getElem_cons_zero]
    refine wpAnyT_pure (i := 4) (v := ?_) rfl (by kernel_rfl) (by kernel_rfl) (by kernel_rfl) (fun _ _ _ h => h) (by rfl) ?_ ?_
    rotate_left
    · intro w; go_simp; try with_reducible rfl
    simp only [Act.put, List.setIfInBounds_toArray, List.set_cons_zero, List.set_cons_succ, List.getElem_toArray, List.getElem_cons_succ, List.getElem_cons_zero]
    refine wpAnyT_one (i := 2) (by kernel_rfl) rfl (by rfl) ?_
    refine wp_enter (f := 34) (args := #[.int .u64 hd, .slice A z (cap - 16)]) (by go_simp) HNXT.out ?_
    rintro e w3 ⟨rfl, hB3⟩
    replace hB3 : Below w.heap.size w w3 := (below_drew w).trans hB3
    refine ⟨_, rfl, fun _ _ => trivial, ?_⟩
    simp only [Act.put, List.setIfInBounds_toArray, List.set_cons_zero, List.set_cons_succ, List.getElem_toArray, List.getElem_cons_succ, List.getElem_cons_zero]
    refine wpAnyT_one (i := 5) (by kernel_rfl) rfl (by rfl) ?_
    refine wp_enter (f := 44) (args := #[.slice (some ⟨b, off + 8, none⟩) 8 (cap - 8)]) (by go_simp) (C16.out w3 hB3) ?_
    rintro e w4 ⟨rfl, rfl⟩
    refine ⟨_, rfl, fun _ _ => trivial, ?_⟩
    simp only [Act.put, List.setIfInBounds_toArray, List.set_cons_zero, List.set_cons_succ, List.getElem_toArray, List.getElem_cons_succ, List.getElem_cons_zero]
    refine wpAnyT_pure (i := 6) (v := ?_) rfl (by kernel_rfl) (by kernel_rfl) (by kernel_rfl) (fun _ _ _ h => h) (by rfl) ?_ ?_
    rotate_left
    · intro w; go_simp; try with_reducible rfl
    simp only [Act.put, List.setIfInBounds_toArray, List.set_cons_zero, List.set_cons_succ, List.getElem_toArray, List.getElem_cons_succ, List.getElem_cons_zero]
    refine wpAnyT_done (by kernel_rfl) ?_ _
    go_wp2
    go_ret2
    exact nx_bad hB3 HCH.out (by rw [HNX.out, HY.out]; exact HNE.out) rfl
end Go.Proofs.Ytkojomakibfncaa
