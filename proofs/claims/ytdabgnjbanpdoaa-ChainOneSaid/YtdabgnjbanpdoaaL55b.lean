/- Layer 55: the walk of ChainOne. -/
import Derived.Test.YtdabgnjbanpdoaaC55e
import Derived.Test.YtdabgnjbanpdoaaP55
import Derived.Test.YtdabgnjbanpdoaaRead
namespace Go.Proofs.Ytdabgnjbanpdoaa
open Go.RowKit Go Go.Shelf

set_option maxHeartbeats 1000000 in
theorem oneWalk (w : World) (c0 : List Value) (h : (Ty.pr (.int .u64) (.pr (.int .u64) .un)).den) (r0 : Rd (.pr (.int .u64) (.pr (.int .u64) .un)) (fun b => b < w.heap.size) w c0 h) (c1 : List Value) (xs : (Ty.sl (.int .u8)).den) (r1 : Rd (.sl (.int .u8)) (fun b => b < w.heap.size) w c1 xs)
    (c2 : List Value) (ch : (Ty.pr (.int .u8) (.pr (.int .u8) .un)).den) (r2 : Rd (.pr (.int .u8) (.pr (.int .u8) .un)) (fun b => b < w.heap.size) w c2 ch) :
    Calls Try.prog 4 #[valOf (.pr (.int .u64) (.pr (.int .u64) .un)) c0, valOf (.sl (.int .u8)) c1, valOf (.pr (.int .u8) (.pr (.int .u8) .un)) c2] w fun e w' => e = .returned (.bool true) ∧ Below w.heap.size w w' := by
  obtain ⟨h0, h1, ⟨⟩⟩ := h
  obtain ⟨g0, g1, ⟨⟩⟩ := ch
  obtain ⟨_, _, rfl, ⟨rfl, hw0⟩, _, _, rfl, ⟨rfl, hw1⟩, rfl⟩ := r0
  obtain ⟨_, _, rfl, ⟨rfl, gw0⟩, _, _, rfl, ⟨rfl, gw1⟩, rfl⟩ := r2
  obtain ⟨a, len, cap, rfl, -⟩ := id r1
  simp only [valOf, List.headD_cons, List.cons_append, List.nil_append, List.append_nil] at *
  have R1 := Lib.hid r1
  obtain ⟨hl, hcc, hcm, -, hwx⟩ := r1.ints
  have HL := Lib.hid hl
  have HWX := Lib.hid hwx
  have t1 : ((nextI h0 xs == nextI h1 xs) == (h0 == h1)) = true := by
    by_cases e : h0 = h1
    · simp [e]
    · have n1 : (nextI h0 xs == nextI h1 xs) = false := beq_eq_false_iff_ne.2 fun e' => e (nextI_inj xs hw0 hw1 e')
      have n2 : (h0 == h1) = false := beq_eq_false_iff_ne.2 e
      rw [n1, n2]; rfl
  have HW := Lib.hid (And.intro hw0 (And.intro hw1 (And.intro gw0 gw1)))
  clear r1 hwx hl hw0 hw1 gw0 gw1
  go_enter Try.func4, Try.ntmps4
  go_wp2_with fail
  obtain ⟨W0, hW0⟩ : ∃ W0, (w.alloc (.cells #[.int .u64 h0, .int .u64 h1] 30)).alloc (.cells #[.int .u8 g0, .int .u8 g1] 32) = W0 := ⟨_, rfl⟩
  have hb0 : W0.heap[w.heap.size]? = some (.cells #[.int .u64 h0, .int .u64 h1] 30) := by subst hW0; exact allocs_get w [.cells #[.int .u64 h0, .int .u64 h1] 30, .cells #[.int .u8 g0, .int .u8 g1] 32] 0 (by simp)
  have hb1 : W0.heap[w.heap.size + 1]? = some (.cells #[.int .u8 g0, .int .u8 g1] 32) := by subst hW0; exact allocs_get w [.cells #[.int .u64 h0, .int .u64 h1] 30, .cells #[.int .u8 g0, .int .u8 g1] 32] 1 (by simp)
  have hB0 : Below w.heap.size w W0 := by subst hW0; exact allocs_below w [.cells #[.int .u64 h0, .int .u64 h1] 30, .cells #[.int .u8 g0, .int .u8 g1] 32]
  rw [hW0]
  clear hW0
  refine (awake_any _).mono ?_
  rintro e w1 ⟨rfl, hB1⟩
  have hs0 : w.heap.size < W0.heap.size := (Array.getElem?_eq_some_iff.1 hb0).1
  have hs1 : w.heap.size + 1 < W0.heap.size := (Array.getElem?_eq_some_iff.1 hb1).1
  have HB1 := Lib.hid (hB0.trans (hB1.mono hB0.size))
  have R11 := Lib.hid ((R1.out.alloc hB0).alloc hB1)
  have k0 := (hB1.block _ hs0).trans hb0
  have k1 := (hB1.block _ hs1).trans hb1
  have q0 := cell_of_row w1 w.heap.size 0 _ _ _ k0
  have q1 := cell_of_row w1 w.heap.size 1 _ _ _ k0
  have q2 := cell_of_row w1 (w.heap.size + 1) 0 _ _ _ k1
  have q3 := cell_of_row w1 (w.heap.size + 1) 1 _ _ _ k1
  simp only [List.getElem?_toArray, List.getElem?_cons_zero, List.getElem?_cons_succ] at q0 q1 q2 q3
  clear hB0 hB1 R1 hb0 hb1 hs0 hs1 k0 k1
  by_cases h300 : 300 < len
  · go_wp2
    go_ret
    exact ⟨rfl, HB1.out⟩
  · go_wp2_with fail
    have p0 := cell_regrown q0
    have p1 := cell_regrown q1
    refine wp_region_quiet_below (by kernel_rfl) (by kernel_rfl) ?_
    repeat (refine wpQuiet_step (fun K hK => ?_); go_simp; first
      | (refine hK _ ?_; clear hK K)
      | (apply Exists.intro; refine ⟨fun p => ?_, hK _ ?_⟩; (exact Calls.regrown_of (Next_any _ _ _ _ _ _ (fun _ h => h) (R11.out.grow _ _))); clear hK K))
    refine wpQuiet_nil ?_
    intro w2 hw2
    have hB2 : Below w1.heap.size w1 w2 := by obtain ⟨p, rfl⟩ := hw2; exact below_regrown _ _ _
    clear hw2
    have HB2 := Lib.hid (HB1.out.trans (hB2.mono HB1.out.size))
    have R12 := Lib.hid (R11.out.alloc hB2)
    have HWS := Lib.hid (Nat.lt_of_lt_of_le (World.block_lt_of_cell? w1 _ q2) hB2.size)
    have q0' := cell_below q0 hB2
    have q2' := cell_below q2 hB2
    have q3' := cell_below q3 hB2
    clear hB2 q0 q1 q2 q3 p0 p1 R11 HB1
    by_cases hl0 : len = 0
    · subst hl0
      go_wp2
      go_ret
      exact ⟨rfl, HB2.out⟩
    · have hl0' : ((len : Int) == 0) = false := by simp; omega
      obtain ⟨hg0, hg1⟩ := wf_u8 HW.out.2.2.1
      have hlp : (0 : Int) < (len : Int) := by omega
      have hBa : Below w2.heap.size w2 (w2.alloc (.cells #[] 5)) := (Below.refl _ w2).alloc (Nat.le_refl _) _
      obtain ⟨news, hsrc, hnew⟩ := (R12.out.alloc hBa).src
      have hOl : Owns (.int .u8) 5 w2.heap.size (fun _ => False) (w2.alloc (.cells #[] 5)) (.slice (some ⟨w2.heap.size, 0, none⟩) 0 0) [] := Owns.lit (e := .int .u8) w2 (vs := []) (xs := []) rfl (Nat.le_refl _) (fun _ h => h.elim) (by simp)
      have HN := Lib.hid (And.intro hOl (And.intro hsrc (RdL.flat (S' := fun _ => False) (w' := w2.alloc (.cells #[] 5)) rfl hnew)))
      have hlx : xs.length ≤ 300 := by have := HL.out; omega
      clear hsrc hnew hBa hOl
      obtain ⟨kN, hkN, hkl⟩ : ∃ kN : Nat, g0 % (len : Int) = (kN : Int) ∧ kN < len := ⟨(g0 % (len : Int)).toNat, by rw [Int.toNat_of_nonneg (Int.emod_nonneg _ (by omega))], by have := Int.emod_lt_of_pos g0 hlp; omega⟩
      have hap : ∀ (v' : Value) (w3 : World), Owns (.int .u8) 5 w2.heap.size (fun _ => False) w3 v' ([] ++ xs) → (w2.alloc (.cells #[] 5)).grownBy w3 (Value.slice (some ⟨w2.heap.size, 0, none⟩) 0 0).ownBlock → (v' = .slice none 0 0 ↔ Value.slice (some ⟨w2.heap.size, 0, none⟩) 0 0 = .slice none 0 0 ∧ xs = []) →
          Below w2.heap.size w2 w3 ∧ ∃ g cv, v' = .slice (some ⟨g, 0, none⟩) len cv ∧ w2.heap.size ≤ g ∧ len ≤ cv ∧ cv ≤ 9223372036854775807 ∧ w3.cell? ⟨g, kN, none⟩ = some (.int .u8 (xs[kN]?.getD 0)) ∧ w3.frozen? ⟨g, kN, none⟩ = false := by
        intro v' w3 O3 g3 hnil
        have hB3 : Below w2.heap.size w2 w3 := ((Below.refl _ w2).alloc (Nat.le_refl _) _).grown g3 (by simp) (fun k e => by cases e; exact Nat.le_refl _)
        refine ⟨hB3, ?_⟩
        rcases O3.len with ⟨hv, hx⟩ | ⟨g, cv, rfl, hg, _, h1, h2⟩
        · have := (hnil.1 hv).1; cases this
        · have hkx : kN < ([] ++ xs).length := by have := HL.out; simpa [this] using hkl
          obtain ⟨hf, u, hu, hr⟩ := Owns.at1 (e := .int .u8) rfl O3 kN hkx
          obtain ⟨hu2, _⟩ := hr
          simp only [List.cons.injEq, and_true] at hu2
          subst hu2
          have hl : ([] ++ xs).length = len := HL.out
          refine ⟨g, cv, by rw [hl], hg, by omega, h2, ?_, hf⟩
          rw [hu]
          have hkx' : kN < xs.length := by simpa using hkx
          simp [hkx']
      have HAP := Lib.hid hap
      clear hap
      go_wp2_with (at_builtin; go_must (refine wpList_app _ rfl _ _ 31 rfl (e := .int .u8) info_u8 Try.underlying31 rfl (by decide) (v := .slice (some ⟨w2.heap.size, 0, none⟩) 0 0) rfl HN.out.1 (by simp) rfl HN.out.2.1 HN.out.2.2 (by simp; omega) (by simp; omega) ?_; intro v' w3 O3 g3 hnil _; obtain ⟨hB3, g, cv, rfl, hgg, hg1, hg2, hgc, hgf⟩ := HAP.out v' w3 O3 g3 hnil; have HO3 := Lib.hid O3; have HB3 := Lib.hid hB3; have q03 := cell_below q0' hB3; have q33 := cell_below q3' hB3; clear O3 g3 hnil hB3 q0' q2' q3'))
      obtain ⟨W4, hW4⟩ : ∃ W4, w3.setCell ⟨g, kN, none⟩ (.int .u8 g1) = W4 := ⟨_, rfl⟩
      have hB4 : Below w2.heap.size w2 W4 := by subst hW4; exact HB3.out.setCell (p := ⟨g, kN, none⟩) hgg _
      have hws : w.heap.size + 1 < w2.heap.size := HWS.out
      have hsize4 : W4.heap.size = w3.heap.size := by subst hW4; simp [World.setCell]
      have q04 : W4.cell? ⟨w.heap.size, 0, none⟩ = some (.int .u64 h0) := by subst hW4; rw [World.cell?_of_block (Below.heap_setCell w3 ⟨g, kN, none⟩ _ w.heap.size (by simp only; omega))]; exact q03
      have q34 : W4.cell? ⟨w.heap.size + 1, 1, none⟩ = some (.int .u8 g1) := by subst hW4; rw [World.cell?_of_block (Below.heap_setCell w3 ⟨g, kN, none⟩ _ (w.heap.size + 1) (by simp only; omega))]; exact q33
      have hkx : kN < xs.length := by have := HL.out; omega
      have O4 : Owns (.int .u8) 5 w2.heap.size (fun _ => False) W4 (.slice (some ⟨g, 0, none⟩) len cv) (xs.set kN g1) := by
        subst hW4
        exact Owns.set1 (e := .int .u8) rfl HO3.out kN hkx (Rd.of_int HW.out.2.2.2) (fun _ h => h) (fun _ h => h.elim)
      have R4 := Lib.hid (O4.rd (fun b => b < W4.heap.size) (fun _ h => h.elim) (fun b hb => (O4.own b hb).2))
      have R14 := Lib.hid (R12.out.alloc hB4)
      obtain ⟨-, -, -, hat, -⟩ := R14.out.ints
      obtain ⟨bx, ox, rfl, -, hcx⟩ := hat kN hkl
      have HB4 := Lib.hid (HB2.out.trans (hB4.mono HB2.out.size))
      have t2 : ((nextI h0 xs == nextI h0 (xs.set kN g1)) == (xs[kN]?.getD 0 == g1)) = true := by
        have hx : xs[kN]?.getD 0 = xs[kN] := by simp [hkx]
        rw [hx]
        by_cases e : xs[kN] = g1
        · have : xs.set kN g1 = xs := by rw [← e]; exact List.set_getElem_self hkx
          rw [this, e]; simp
        · have n1 : (nextI h0 xs == nextI h0 (xs.set kN g1)) = false := beq_eq_false_iff_ne.2 fun e' => e (nextI_set h0 xs kN hkx g1 HW.out.1 (HWX.out _ (List.getElem_mem hkx)) HW.out.2.2.2 e')
          have n2 : (xs[kN] == g1) = false := beq_eq_false_iff_ne.2 e
          rw [n1, n2]; rfl
      rw [hW4]
      have p0 := cell_regrown q04
      have p1 := cell_regrown q34
      have p2 := cell_regrown hcx
      clear hW4 hB4 hsize4 q04 q34 q03 q33 O4 hat hcx HAP HN HO3 HB3 R12 hkx hgc hgf
      refine wp_region_quiet_below (by kernel_rfl) (by kernel_rfl) ?_
      repeat (refine wpQuiet_step (fun K hK => ?_); go_simp; first
        | (refine hK _ ?_; clear hK K)
        | (apply Exists.intro; refine ⟨fun p => ?_, hK _ ?_⟩; (first | exact Calls.regrown_of (Next_any _ _ _ _ _ _ (fun _ h => h) (R14.out.grow _ _)) | exact Calls.regrown_of (Next_any _ _ _ _ _ _ (fun _ h => h) (R4.out.grow _ _))); clear hK K))
      refine wpQuiet_nil ?_
      intro w5 hw5
      have hB5 : Below W4.heap.size W4 w5 := by obtain ⟨p, rfl⟩ := hw5; exact below_regrown _ _ _
      clear hw5
      go_wp2
      go_ret
      exact ⟨rfl, HB4.out.trans (hB5.mono HB4.out.size)⟩
end Go.Proofs.Ytdabgnjbanpdoaa
