/- Layer 56: the reference's Frame. -/
import Derived.Test.YtkojomakibfncaaC56h
set_option linter.unusedSimpArgs false
namespace Go.Proofs.Ytkojomakibfncaa
open Go.RowKit Go

theorem eight_all (n : Int) (w : World) (h0 : 0 ≤ n) (h1 : n ≤ 18446744073709551615) :
    Calls Try.prog 46 #[.int .u64 n] w fun e w' => ∃ v, e = .returned v ∧ Below w.heap.size w w' ∧ Owns (.int .u8) 5 w.heap.size (fun _ => False) w' v (eightI n) := by
  go_enter Try.func46, Try.ntmps46
  have O := Owns.nil (.int .u8) 5 w.heap.size w
  have hB := Below.refl w.heap.size w
  go_wp2
  refine wp_loop_rounds 9 ?_
  repeat any_goals (rw [rounds_succ]; go_wp2_with (at_builtin; go_must (refine wpList_app _ rfl _ _ 22 rfl (e := .int .u8) info_u8 Try.underlying22 rfl (by decide) rfl (Owns.alloc (by assumption) _) (by have := hB.size; simp only [World.size_alloc]; omega) rfl (ys := [_]) (Src.new _ [_] _ _ _) (RdL.int1 (wf_u8' (by omega) (by omega))) (by simp) (by simp) ?_; intro v' w1 O1 g1 _ _; have hB1 := (hB.alloc hB.size _).grown g1 (by simp only [World.size_alloc]; have := hB.size; omega) (fun k e => (O.own k e).1); clear g1 hB O; have O := O1; have hB := hB1; clear O1 hB1)))
  go_ret
  exact ⟨_, rfl, hB, O⟩

theorem four_drop (n : Int) : (eightI n).drop 4 = fourI n := by simp [eightI, fourI]
theorem four_inv (n : Int) (h0 : 0 ≤ n) (h1 : n ≤ 18446744073709551615) : fourI (18446744073709551615 - n) = (fourI n).map (255 - ·) := by
  simp only [fourI, List.map_cons, List.map_nil, List.cons.injEq, and_true]
  omega
theorem inv_take (n : Int) (k : Nat) (hk : k < 4) : ((fourI n).map (255 - ·)).take (k + 1) = ((fourI n).map (255 - ·)).take k ++ [255 - (fourI n)[k]?.getD 0] := by
  match k, hk with
  | 0, _ => rfl
  | 1, _ => rfl
  | 2, _ => rfl
  | 3, _ => rfl
theorem wrap_inv (x : Int) (h0 : 0 ≤ x) (h1 : x ≤ 255) : IntKind.u8.wrap (255 - x) = 255 - x := by
  simp only [IntKind.wrap, IntKind.signed, IntKind.bits]
  simp
  omega
theorem frameI_inv (r : List Int) (l : Int) (h : r.length ≤ 1000000) : frameI r l = ((fourI r.length ++ (fourI r.length).map (255 - ·)) ++ eightI l) ++ r := by
  rw [frameI, four_inv _ (by omega) (by omega)]
theorem eightI_length (n : Int) : (eightI n).length = 8 := rfl
theorem src_ownB {te : TypeId} {base : Nat} {w : World} {v : Value} {xs : List Int} (hO : Owns (.int .u8) te base (fun _ => False) w v xs) : ∃ news, Src w v xs.length news ∧ RdL (.int .u8) (fun _ => False) w news xs := by
  obtain ⟨news, h1, h2⟩ := (hO.rd (fun b => b < w.heap.size) (fun _ h => h.elim) (fun b hb => (hO.own b hb).2)).src
  exact ⟨news, h1, h2.flat rfl⟩

set_option maxRecDepth 10000 in
set_option maxHeartbeats 1000000 in
theorem refFrame_sum {S : Nat → Prop} (w : World) (a : Option Addr) (len cap : Nat) (r : List Int) (l : Int) (hx : Rd rowT S w [.slice a len cap] r) (hS : ∀ b, S b → b < w.heap.size) (hlen : len ≤ 1000000) (hl : (Lit.int .u64 l).wf = true) :
    Calls Try.prog 37 #[.slice a len cap, .int .u64 l] w fun e w' => ∃ v, e = .returned v ∧ Below w.heap.size w w' ∧ Owns (.int .u8) 5 w.heap.size (fun _ => False) w' v (frameI r l) := by
  have hrl : List.length r = len := hx.ints.1
  have HX := Lib.hid hx
  have HS := Lib.hid hS
  have HRL := Lib.hid hrl
  have hl2 := wf_u64 hl
  clear hx hS hrl
  go_enter Try.func37, Try.ntmps37
  go_wp2_with fail
  refine (eight_all (len : Int) w (by omega) (by omega)).mono ?_
  rintro e w1 ⟨v1, rfl, hB1, hO1⟩
  obtain ⟨av1, lv1, cv1, rfl, hlv, hlc1, hcm1⟩ := hO1.slice
  have h8 : lv1 = 8 := by rw [hlv]; rfl
  subst h8
  have R1 := hO1.rd (fun b => b < w1.heap.size) (fun _ h => h.elim) (fun b hb => (hO1.own b hb).2)
  obtain ⟨-, -, -, hat1, -⟩ := R1.ints
  obtain ⟨g, o, rfl, hg, -⟩ := hat1 0 (by omega)
  have hc4 : ¬ cv1 = 4 := by omega
  have hc44 : (4 : Int) ≤ (cv1 : Int) := by omega
  have R4 := Rd.drop R1 4 (by omega)
  rw [if_neg hc4, four_drop] at R4
  have HR4 := Lib.hid R4
  clear R1 hat1 hO1 R4 hlv
  have HR4' : Hid (Rd rowT (fun b => b < w1.heap.size) w1 [.slice (some ⟨g, o + 4, none⟩) 4 (cv1 - 4)] (fourI len)) := HR4
  clear HR4
  go_wp2_with (at_builtin; go_must (refine wpList_copy _ rfl _ _ 22 rfl (e := .int .u8) info_u8 Try.underlying22 rfl (by decide) rfl rfl HR4'.out (fun _ h => h) (len := 4) rfl (by decide) (by decide) ?_; intro g3 cv3 w3 O3 hg3 hB3 hcv3 hcv4; have HO3 := Lib.hid (Owns.flat (e := .int .u8) rfl O3); clear O3))
  go_loopw [6, 7] (fun v i wr => ∃ (k : Nat), k ≤ 4 ∧ i = .int .i64 k ∧ Owns (.int .u8) 5 w1.heap.size (fun _ => False) wr v (fourI len ++ ((fourI len).map (255 - ·)).take k) ∧ Below w1.heap.size w1 wr) (fun _ i _ => 4 - (intOf i).toNat)
  case atStart => exact ⟨0, by omega, rfl, by rw [List.take_zero, List.append_nil]; exact HO3.out, hB3⟩
  case round =>
    obtain ⟨k, hk, rfl, hO, hB⟩ := hrel
    obtain ⟨av, lv, cv, rfl, -⟩ := hO.slice
    have HO := Lib.hid hO
    clear hO
    have hsz := hB.size
    by_cases hlt : k < 4
    · have hb1 := fourI_wf (len : Int)
      obtain ⟨-, -, -, hat, -⟩ := (HR4'.out.alloc hB).ints
      obtain ⟨b, off, he, -, hcell⟩ := hat k hlt
      simp only [Option.some.injEq, Addr.mk.injEq, and_true] at he
      obtain ⟨rfl, rfl⟩ := he
      have hx := okB_get hb1 k
      have HT := Lib.hid (inv_take (len : Int) k hlt)
      obtain ⟨x, hxx⟩ : ∃ x, (fourI (len : Int))[k]?.getD 0 = x := ⟨_, rfl⟩
      rw [hxx] at hcell hx
      have hwr := wrap_inv x hx.1 hx.2
      have HXX := Lib.hid hxx
      have hk4 : (k : Int) < 4 := by omega
      have hlk : (fourI (len : Int) ++ ((fourI (len : Int)).map (255 - ·)).take k).length ≤ 100 := by
        rw [List.length_append, List.length_take, List.length_map]
        have : (fourI (len : Int)).length = 4 := rfl
        omega
      have HLK := Lib.hid hlk
      clear hat hxx hlk hb1
      go_wp2_with (at_builtin; go_must (refine wpList_app _ rfl _ _ 22 rfl (e := .int .u8) info_u8 Try.underlying22 rfl (by decide) (v := .slice av lv cv) rfl (Owns.alloc HO.out _) (by simp only [World.size_alloc]; omega) rfl (ys := [_]) (Src.new _ [_] _ _ _) (RdL.int1 (wf_u8' (by omega) (by omega))) (by have := HLK.out; simp only [List.length_cons, List.length_nil]; omega) (by have := HLK.out; simp only [List.length_cons, List.length_nil]; omega) ?_; intro v' w4 O4 g4 _ _; have hB4 := (hB.alloc hsz _).grown g4 (by simp only [World.size_alloc]; omega) (fun k e => (HO.out.own k e).1)))
      go_roundw
      case rel => exact ⟨k + 1, by omega, by go_num, by rw [HT.out, HXX.out, ← List.append_assoc]; exact O4, hB4⟩
      case measure => simp [intOf]; omega
    · obtain rfl : k = 4 := by omega
      have hO4 := HO.out
      rw [List.take_of_length_le (by simp [fourI])] at hO4
      have HO4 := Lib.hid hO4
      clear hO4 HO
      have hl8 : ((fourI (len : Int)) ++ (fourI (len : Int)).map (255 - ·)).length = 8 := rfl
      have HFR : Hid (frameI r l = ((fourI (len : Int) ++ (fourI (len : Int)).map (255 - ·)) ++ eightI l) ++ r) := by
        have h := frameI_inv r l (by rw [HRL.out]; exact hlen)
        rw [HRL.out] at h
        exact Lib.hid h
      generalize (fourI (len : Int)) ++ (fourI (len : Int)).map (255 - ·) = X8 at *
      have HX3 := Lib.hid ((HX.out.keep (S' := S) (fun b hb => (hB1.block b (HS.out b hb))) (fun _ h => h)).keep (w' := wr) (S' := S) (fun b hb => hB.block b (Nat.lt_of_lt_of_le (HS.out b hb) hB1.size)) (fun _ h => h))
      go_wp2_with (first
        | (go_at_call 46; (with_reducible refine (eight_all l wr hl2.1 hl2.2).mono ?_); rintro e w5 ⟨v5, rfl, hB5, hO5⟩; obtain ⟨news5, hsrc5, hnews5⟩ := src_ownB hO5; obtain ⟨a5, l5, c5, rfl, rfl, -⟩ := hO5.slice; have HS5 := Lib.hid hsrc5; have HN5 := Lib.hid hnews5; clear hsrc5 hnews5 hO5; have HO5 := Lib.hid (HO4.out.below hB5))
        | (at_builtin; (refine wpList_app _ rfl _ _ 22 rfl (e := .int .u8) info_u8 Try.underlying22 rfl (by decide) (v := .slice av lv cv) rfl HO5.out (Nat.le_trans hsz hB5.size) (sv := .slice a5 (eightI l).length c5) rfl (ys := eightI l) HS5.out HN5.out (by rw [hl8, eightI_length]; decide) (by rw [hl8, eightI_length]; decide) ?_; intro v6 w6 O6 g6 _ _; have hB6 := (hB.trans (hB5.mono hsz)).grown g6 (Nat.le_trans hsz hB5.size) (fun k e => (HO5.out.own k e).1); obtain ⟨a6, l6, c6, rfl, -⟩ := O6.slice; have HO6 := Lib.hid O6; clear O6; have HX6 := Lib.hid ((HX.out.keep (S' := S) (fun b hb => (hB1.block b (HS.out b hb))) (fun _ h => h)).keep (w' := w6) (S' := S) (fun b hb => hB6.block b (Nat.lt_of_lt_of_le (HS.out b hb) hB1.size)) (fun _ h => h)); obtain ⟨news6, hsrc6, hnews6⟩ := HX6.out.src; have HS6 := Lib.hid hsrc6; have HN6 := Lib.hid (RdL.flat (e := .int .u8) (S' := fun _ => False) (w' := w6) rfl hnews6); clear hsrc6 hnews6))
        | (at_builtin; go_must (refine wpList_app _ rfl _ _ 22 rfl (e := .int .u8) info_u8 Try.underlying22 rfl (by decide) (v := .slice a6 l6 c6) rfl HO6.out hB6.size (sv := .slice a len cap) rfl (ys := r) HS6.out HN6.out (by rw [List.length_append, hl8, eightI_length, HRL.out]; omega) (by rw [List.length_append, hl8, eightI_length, HRL.out]; omega) ?_; intro v7 w7 O7 g7 _ _; have hB7 := hB6.grown g7 hB6.size (fun k e => (HO6.out.own k e).1))))
      go_ret
      refine ⟨_, rfl, hB1.trans (hB7.mono hB1.size), ?_⟩
      have h := O7.base hB1.size
      rw [← HFR.out] at h
      exact h
end Go.Proofs.Ytkojomakibfncaa
