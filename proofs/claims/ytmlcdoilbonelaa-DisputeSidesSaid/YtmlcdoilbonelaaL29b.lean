/- Chapter 29: the walk of DisputeBoth. -/
import Derived.Test.YtmlcdoilbonelaaC29g
namespace Go.Proofs.Ytmlcdoilbonelaa
open Go.RowKit Go

theorem nf100 : nextF 1 0 0 = (2, 0) := by kernel_rfl
theorem nf110 : nextF 1 1 0 = (3, 0) := by kernel_rfl
theorem nf101 : nextF 1 0 1 = (0, 7) := by kernel_rfl
theorem nf111 : nextF 1 1 1 = (0, 7) := by kernel_rfl
theorem nf102 : nextF 1 0 2 = (5, 0) := by kernel_rfl
theorem nf112 : nextF 1 1 2 = (5, 0) := by kernel_rfl
theorem nf103 : nextF 1 0 3 = (0, 7) := by kernel_rfl
theorem nf113 : nextF 1 1 3 = (0, 7) := by kernel_rfl
theorem nf200 : nextF 2 0 0 = (0, 7) := by kernel_rfl
theorem nf210 : nextF 2 1 0 = (4, 0) := by kernel_rfl
theorem nf201 : nextF 2 0 1 = (1, 0) := by kernel_rfl
theorem nf211 : nextF 2 1 1 = (0, 7) := by kernel_rfl
theorem nf202 : nextF 2 0 2 = (5, 0) := by kernel_rfl
theorem nf212 : nextF 2 1 2 = (5, 0) := by kernel_rfl
theorem nf203 : nextF 2 0 3 = (0, 7) := by kernel_rfl
theorem nf213 : nextF 2 1 3 = (0, 7) := by kernel_rfl
theorem nf300 : nextF 3 0 0 = (4, 0) := by kernel_rfl
theorem nf310 : nextF 3 1 0 = (0, 7) := by kernel_rfl
theorem nf301 : nextF 3 0 1 = (0, 7) := by kernel_rfl
theorem nf311 : nextF 3 1 1 = (1, 0) := by kernel_rfl
theorem nf302 : nextF 3 0 2 = (5, 0) := by kernel_rfl
theorem nf312 : nextF 3 1 2 = (5, 0) := by kernel_rfl
theorem nf303 : nextF 3 0 3 = (0, 7) := by kernel_rfl
theorem nf313 : nextF 3 1 3 = (0, 7) := by kernel_rfl
theorem nf400 : nextF 4 0 0 = (0, 7) := by kernel_rfl
theorem nf410 : nextF 4 1 0 = (0, 7) := by kernel_rfl
theorem nf401 : nextF 4 0 1 = (3, 0) := by kernel_rfl
theorem nf411 : nextF 4 1 1 = (2, 0) := by kernel_rfl
theorem nf402 : nextF 4 0 2 = (5, 0) := by kernel_rfl
theorem nf412 : nextF 4 1 2 = (5, 0) := by kernel_rfl
theorem nf403 : nextF 4 0 3 = (0, 7) := by kernel_rfl
theorem nf413 : nextF 4 1 3 = (0, 7) := by kernel_rfl
theorem nf500 : nextF 5 0 0 = (0, 7) := by kernel_rfl
theorem nf510 : nextF 5 1 0 = (0, 7) := by kernel_rfl
theorem nf501 : nextF 5 0 1 = (0, 7) := by kernel_rfl
theorem nf511 : nextF 5 1 1 = (0, 7) := by kernel_rfl
theorem nf502 : nextF 5 0 2 = (0, 7) := by kernel_rfl
theorem nf512 : nextF 5 1 2 = (0, 7) := by kernel_rfl
theorem nf503 : nextF 5 0 3 = (1, 0) := by kernel_rfl
theorem nf513 : nextF 5 1 3 = (1, 0) := by kernel_rfl
theorem nextF_ok (s d a : Int) (h : (nextF s d a).2 = 0) : 1 ≤ (nextF s d a).1 ∧ (nextF s d a).1 ≤ 5 := by
  have hle := nextF_le s d a
  have : (nextF s d a).1 ≠ 0 := by
    unfold nextF at h ⊢
    split at h
    · rename_i hin
      rw [if_pos hin]
      split at h
      · cases h
      · rename_i hne
        rw [if_neg hne]
        exact hne
    · cases h
  omega
theorem runG_ok : ∀ (xs : List stT.den) (s : Int) (i : Nat), 1 ≤ s → s ≤ 5 → ((runG s i xs).2.2 = 0 → 1 ≤ (runG s i xs).1 ∧ (runG s i xs).1 ≤ 5) ∧ ((runG s i xs).2.2 ≠ 0 → (runG s i xs).1 = 0)
  | [], s, i, h1, h2 => ⟨fun _ => ⟨h1, h2⟩, fun h => absurd rfl h⟩
  | x :: xs, s, i, h1, h2 => by
    rw [runG]
    split
    · rename_i h
      have := nextF_ok _ _ _ h
      exact runG_ok xs _ _ this.1 this.2
    · rename_i h
      exact ⟨fun e => absurd e h, fun _ => rfl⟩
theorem runF_ok (s : Int) (xs : List stT.den) : ((runF s xs).2.2 = 0 → 1 ≤ (runF s xs).1 ∧ (runF s xs).1 ≤ 5) ∧ ((runF s xs).2.2 ≠ 0 → (runF s xs).1 = 0) := by
  unfold runF
  split
  · rename_i h
    exact runG_ok xs s 0 h.1 h.2
  · exact ⟨fun e => absurd e (by decide), fun _ => rfl⟩

attribute [local go_sem] confB in
set_option maxHeartbeats 8000000 in
theorem bothWalk (w : World) (c0 : List Value) (s : (Ty.int .i64).den) (r0 : Rd (.int .i64) (fun b => b < w.heap.size) w c0 s) (c1 : List Value) (xs : (Ty.sl stT).den) (r1 : Rd (.sl stT) (fun b => b < w.heap.size) w c1 xs) (c2 : List Value) (sd : (Ty.int .u8).den) (r2 : Rd (.int .u8) (fun b => b < w.heap.size) w c2 sd) :
    Calls Try.prog 7 #[valOf (.int .i64) c0, valOf (.sl stT) c1, valOf (.int .u8) c2] w fun e w' => e = .returned (.bool true) ∧ Below w.heap.size w w' := by
  obtain ⟨rfl, -⟩ := id r0
  obtain ⟨a, len, cap, rfl, hl, hlc, hcm, -⟩ := id r1
  obtain ⟨rfl, hws⟩ := id r2
  simp only [valOf, List.headD_cons]
  clear r0 r2
  change Int at s sd
  have hsd := wf_u8 hws
  obtain ⟨m, hm, hm2⟩ : ∃ m : Int, sd % 2 = m ∧ (m = 0 ∨ m = 1) := ⟨_, rfl, by omega⟩
  have HL := Lib.hid (show List.length xs = len from hl); clear hl
  have R1 := Lib.hid r1; clear r1
  have HK := Lib.hid (runF_ok s xs)
  obtain ⟨r, hr⟩ : ∃ r, runF s xs = r := ⟨_, rfl⟩
  rw [hr] at HK
  have HR := Lib.hid hr; clear hr
  clear hws
  by_cases h50 : 50 < len
  case pos =>
    have hB0 := Below.refl w.heap.size w
    go_enter Try.func7, Try.ntmps7
    go_wp2_with (go_at_call 9; refine (awake_sum _).mono ?_; rintro e w1 ⟨rfl, hB1⟩; replace hB0 := below_step hB0 hB1)
    go_ret
    exact ⟨rfl, hB0⟩
  go_enter Try.func7, Try.ntmps7
  go_wp2_with (first
    | (go_at_call 9; refine (awake_sum _).mono ?_; rintro e w1 ⟨rfl, hB1⟩; have HR1 := Lib.hid (R1.out.alloc hB1))
    | (go_at_call 11; refine (to_sum _ _ _ HR1.out (by have := HL.out; omega)).mono ?_; rintro e w2 ⟨v2, rfl, hB2, hO2⟩; have HR2 := Lib.hid (HR1.out.alloc hB2)))
  refine (run_sum _ _ _ _ (hO2.rd _ (fun _ h => h.elim) (fun b hb => (hO2.own b hb).2))).mono ?_
  rw [HR.out]
  rintro e w3 ⟨rfl, hB3⟩
  have hB0 := below_step (below_step hB1 hB2) hB3
  clear hO2 hB1 hB2 hB3 HR1 HR2 R1 HR
  obtain ⟨t, i, e⟩ := r
  by_cases he : e = 0
  case neg =>
    have ht := HK.out.2 he
    simp only at ht
    subst ht
    have hq : (e != 0) = true := by simpa using he
    clear HK he
    go_wp2
    go_ret
    exact ⟨rfl, hB0⟩
  subst he
  have ht := HK.out.1 rfl
  simp only at ht
  have ht2 : t = 1 ∨ t = 2 ∨ t = 3 ∨ t = 4 ∨ t = 5 := by omega
  clear ht HK
  have HB0 := Lib.hid hB0; clear hB0
  rcases ht2 with rfl | rfl | rfl | rfl | rfl <;> rcases hm2 with rfl | rfl <;>
  (go_wp2_with (first
    | (go_at_call 18; refine (confirmed_sum _ _ _).mono ?_; rintro e w6 ⟨rfl, hw⟩; subst w6)
    | (go_at_call 19; refine (next_sum _ _ _ _).mono ?_; simp only [nf100, nf110, nf101, nf111, nf102, nf112, nf103, nf113, nf200, nf210, nf201, nf211, nf202, nf212, nf203, nf213, nf300, nf310, nf301, nf311, nf302, nf312, nf303, nf313, nf400, nf410, nf401, nf411, nf402, nf412, nf403, nf413, nf500, nf510, nf501, nf511, nf502, nf512, nf503, nf513]; rintro e w4 ⟨rfl, hB4⟩; replace HB0 := Lib.hid (below_step HB0.out hB4)))
   go_ret
   exact ⟨rfl, HB0.out⟩)
end Go.Proofs.Ytmlcdoilbonelaa
