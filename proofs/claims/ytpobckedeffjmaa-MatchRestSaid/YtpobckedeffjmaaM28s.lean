/- Layer 28: MatchRest. -/
import Derived.Test.YtpobckedeffjmaaM28r
import Derived.Test.YtpobckedeffjmaaFr
set_option linter.unusedSimpArgs false
set_option maxRecDepth 50000
namespace Go.Proofs.Ytpobckedeffjmaa
open Go.RowKit Go

set_option maxHeartbeats 4000000 in
theorem restWalk28 (w : World) (c0 : List Value) (xs : (Ty.sl openT).den) (r0 : Rd (.sl openT) (fun b => b < w.heap.size) w c0 xs) (c1 : List Value) (ys : (Ty.sl openT).den) (r1 : Rd (.sl openT) (fun b => b < w.heap.size) w c1 ys) (c2 : List Value) (n : (Ty.int .u16).den) (r2 : Rd (.int .u16) (fun b => b < w.heap.size) w c2 n) :
    Calls Try.prog 6 #[valOf (.sl openT) c0, valOf (.sl openT) c1, valOf (.int .u16) c2] w fun e w' => e = .returned (.bool true) ∧ Below w.heap.size w w' := by
  obtain ⟨a0, k0, rfl, h0⟩ := rd_opens r0
  obtain ⟨a1, k1, rfl, h1⟩ := rd_opens r1
  change Int at n
  obtain ⟨rfl, hn⟩ := r2
  simp only [valOf, List.headD_cons]
  clear r0 r1
  generalize xs.map o3 = l at h0 ⊢
  generalize ys.map o3 = r at h1 ⊢
  clear xs ys
  have hn0 : 0 ≤ n ∧ n ≤ 65535 := by simp [Lit.wf, IntKind.min, IntKind.max, IntKind.signed, IntKind.bits] at hn; omega
  have hlm : l.length ≤ 9223372036854775807 := Nat.le_trans ((rd_len h0) ▸ h0.sl_flat.2.1) h0.sl_flat.2.2.1
  have hrm : r.length ≤ 9223372036854775807 := Nat.le_trans ((rd_len h1) ▸ h1.sl_flat.2.1) h1.sl_flat.2.2.1
  have H0 := Lib.hid h0
  have H1 := Lib.hid h1
  clear h0 h1 hn
  go_enter Try.func6, Try.ntmps6
  go_wp2_with fail
  refine (awake28 w).mono ?_
  rintro e w1 ⟨rfl, hB1⟩
  have HB1 := Lib.hid hB1
  clear hB1
  by_cases hl : l.length ≤ 30
  case neg =>
    have hI : (30 : Int) < (l.length : Int) := by omega
    go_wp2_with (go_at_call 9; refine (awake28 _).mono ?_; rintro e w2 ⟨rfl, hB2⟩; have HB2 := Lib.hid (below_step HB1.out hB2); clear hB2)
    go_ret
    exact ⟨rfl, HB2.out⟩
  have hlI : ¬ (30 : Int) < (l.length : Int) := by omega
  by_cases hr : r.length ≤ 30
  case neg =>
    have hI : (30 : Int) < (r.length : Int) := by omega
    go_wp2_with (go_at_call 9; refine (awake28 _).mono ?_; rintro e w2 ⟨rfl, hB2⟩; have HB2 := Lib.hid (below_step HB1.out hB2); clear hB2)
    go_ret
    exact ⟨rfl, HB2.out⟩
  have hrI : ¬ (30 : Int) < (r.length : Int) := by omega
  go_wp2_with fail
  have hA0 := H0.out.below HB1.out (fun b hb => hb)
  refine (to28 w1 a0 k0 l (by omega) hA0 (fun b hb => Nat.lt_of_lt_of_le hb HB1.out.size)).mono ?_
  rintro e w2 ⟨v2, rfl, hO2, hB2⟩
  obtain ⟨p2, n2, q2, rfl, hn2, -⟩ := hO2.slice
  rw [List.length_map] at hn2
  subst hn2
  have HO2 := Lib.hid hO2
  have HB2 := Lib.hid (below_step HB1.out hB2)
  clear hO2 hB2 hA0
  go_wp2_with fail
  have hA1 := H1.out.below HB2.out (fun b hb => hb)
  refine (to28 w2 a1 k1 r (by omega) hA1 (fun b hb => Nat.lt_of_lt_of_le hb HB2.out.size)).mono ?_
  rintro e w3 ⟨v3, rfl, hO3, hB3⟩
  obtain ⟨p3, n3, q3, rfl, hn3, -⟩ := hO3.slice
  rw [List.length_map] at hn3
  subst hn3
  have HL3 := Lib.hid ((HO2.out.below hB3).rd (fun b => b < w3.heap.size) (fun _ h => h.elim) (fun b hb => by have := (HO2.out.own b hb).2; have := hB3.size; omega))
  have HR3 := Lib.hid (hO3.rd (fun b => b < w3.heap.size) (fun _ h => h.elim) (fun b hb => (hO3.own b hb).2))
  have HB3 := Lib.hid (below_step HB2.out hB3)
  clear hO3 hB3 hA1
  go_wp2_with fail
  refine (propose28 w3 p2 q2 l p3 q3 r n HL3.out HR3.out (fun b hb => hb)).mono ?_
  rintro e w4 ⟨v4, rfl, hR4, hB4⟩
  have HB4 := Lib.hid (below_step HB3.out hB4)
  obtain ⟨p4, n4, q4, hv4, -⟩ := id hR4
  simp only [List.cons.injEq, and_true] at hv4
  subst hv4
  have hn4 := rd_len hR4
  subst hn4
  by_cases hlb : linesB l r = true
  case neg =>
    rw [Bool.not_eq_true] at hlb
    rw [show (propM l r n).2 = 1 from by unfold propM; rw [hlb, if_pos rfl]]
    go_wp2_with fail
    go_ret
    exact ⟨rfl, HB4.out⟩
  have hpm : propM l r n = ((st3 l r n).out, 0) := by unfold propM; rw [hlb, if_neg (by decide), if_neg (by omega)]
  rw [hpm] at hR4 ⊢
  simp only at hR4 ⊢
  have HR4 := Lib.hid hR4
  clear hR4 hB4 hpm
  obtain ⟨out, hout⟩ : ∃ o, (st3 l r n).out = o := ⟨_, rfl⟩
  rw [hout] at HR4
  simp only [hout]
  have HLAW := Lib.hid (fun (x y : O3) (hx : x ∈ l) (hy : y ∈ r) => rest_law (tol := n) hx hy)
  rw [hout] at HLAW
  have HLEN := Lib.hid (show out.length ≤ 1000 from by rw [← hout]; have := st3_len l r n; omega)
  have HL13 := Lib.hid (show ∀ p ∈ out, (p.1 ++ p.2).length ≤ 13 from by rw [← hout]; exact st3_len13 l r n)
  clear hout
  go_wp2_with fail
  go_loopw [9, 44] (fun v iv wr => ∃ (k : Nat) (av : Option Addr) (lv cv : Nat), k ≤ out.length ∧ iv = .int .i64 (k : Int) ∧ v = .slice av lv cv ∧ Owns refT 41 w4.heap.size (fun _ => False) wr (.slice av lv cv) ((refsP (out.take k)).map R2.d) ∧ Below w4.heap.size w4 wr) (fun _ iv _ => out.length - (intOf iv).toNat)
  case atStart => exact ⟨0, none, 0, 0, Nat.zero_le _, rfl, rfl, Owns.nil _ _ _ _, Below.refl _ _⟩
  case round =>
    obtain ⟨k, av, lv, cv, hk, rfl, rfl, hO, hB⟩ := hrel
    have HO := Lib.hid hO
    have HB := Lib.hid hB
    by_cases hkl : k < out.length
    · have hkI : (k : Int) < (out.length : Int) := by omega
      have hRk := HR4.out.below hB (fun b hb => hb.2)
      obtain ⟨b, off, pa1, pc1, pa2, pc2, rfl, -, m0, m1, hL, hR⟩ := pair_at hRk k hkl
      have HTK := Lib.hid (List.take_succ_eq_append_getElem hkl)
      have HKL := Lib.hid hkl
      have hk1000 : k ≤ 1000 := by have := HLEN.out; omega
      have HPL := Lib.hid (HL13.out out[k] (List.getElem_mem hkl))
      have HRL := Lib.hid (show (refsP (out.take k)).length ≤ 13000 from by
        have := refsP_len (out := out.take k) (fun p hp => HL13.out p (List.mem_of_mem_take hp))
        rw [List.length_take] at this
        have := HLEN.out
        omega)
      generalize out[k] = p at m0 m1 hL hR HTK HPL
      obtain ⟨pl, pr⟩ := p
      simp only at m0 m1 hL hR
      have hBx := (Below.refl wr.heap.size wr).alloc (Nat.le_refl _) (.cells #[.slice pa1 pl.length pc1, .slice pa2 pr.length pc2] 39)
      have hqx := heap_alloc_new wr (.cells #[.slice pa1 pl.length pc1, .slice pa2 pr.length pc2] 39)
      have hw4 : w4.heap.size ≤ wr.heap.size := hB.size
      have HW4 := Lib.hid hw4
      have HLX := Lib.hid (hL.below hBx (fun b hb => by have := hb.2; omega))
      have HRX := Lib.hid (hR.below hBx (fun b hb => by have := hb.2; omega))
      have HOX := Lib.hid (hO.alloc (.cells #[.slice pa1 pl.length pc1, .slice pa2 pr.length pc2] 39))
      have HOWN := Lib.hid hO.own
      have HBX := Lib.hid (hB.alloc hw4 (.cells #[.slice pa1 pl.length pc1, .slice pa2 pr.length pc2] 39))
      have x0 := blk_cell hqx 0
      have x1 := blk_cell hqx 1
      simp only [List.getElem?_toArray, List.getElem?_cons_zero, List.getElem?_cons_succ] at x0 x1
      clear hO hB hkl hk hRk hBx hqx hw4 hL hR
      go_upto_region 10 with fail
      generalize World.alloc wr (.cells #[.slice pa1 pl.length pc1, .slice pa2 pr.length pc2] 39) = wx at *
      obtain ⟨bx, hbx⟩ : ∃ b, wr.heap.size = b := ⟨_, rfl⟩
      rw [hbx] at x0 x1
      simp only [hbx]
      have HBXE := Lib.hid hbx
      clear hbx
      have hC0 : Cells [(⟨bx, 0, none⟩, .slice pa1 pl.length pc1), (⟨bx, 1, none⟩, .slice pa2 pr.length pc2)] wx := ⟨x0, x1, trivial⟩
      clear x0 x1 m0 m1
      refine wp_region_T (Cells [(⟨bx, 0, none⟩, .slice pa1 pl.length pc1), (⟨bx, 1, none⟩, .slice pa2 pr.length pc2)]) (fun i => i == 6) (by kernel_rfl) ?_
      have hSss1 := Cells.drew hC0
      have hB_0_s1 : Below wx.heap.size wx wx.drew := below_drew _
      generalize wx.drew = s1 at hSss1 hB_0_s1 ⊢
      have hB_s1_s1 := Below.refl s1.heap.size s1
      refine wpAnyT_pure (i := 0) (v := ?_) rfl (by kernel_rfl) (by kernel_rfl) (by kernel_rfl) (fun _ _ _ h => h) (by rfl) ?_ ?_
      rotate_left
      · intro w; go_simp; try with_reducible rfl
      simp only [Act.put, rgA, rgB, rgC, rgD, rgE, rgF]
      refine wpAnyT_pure (i := 1) (v := ?_) rfl (by kernel_rfl) (by kernel_rfl) (by kernel_rfl) (fun _ _ _ h => h) (by rfl) ?_ ?_
      rotate_left
      · intro w; go_simp; try with_reducible rfl
      simp only [Act.put, rgA, rgB, rgC, rgD, rgE, rgF]
      refine wpAnyT_pure (i := 4) (v := ?_) rfl (by kernel_rfl) (by kernel_rfl) (by kernel_rfl) (fun _ _ _ h => h) (by rfl) ?_ ?_
      rotate_left
      · intro w; go_simp; try with_reducible rfl
      simp only [Act.put, rgA, rgB, rgC, rgD, rgE, rgF]
      refine wpAnyT_loadW (i := 2) (v := ?_) rfl (by kernel_rfl) (by kernel_rfl) (by kernel_rfl) (by kernel_rfl) (by kernel_rfl) (fun _ _ _ h => h) (Or.inl ⟨by rfl, ?_⟩) hSss1 ?_
      rotate_left
      · intro w hSw; obtain ⟨e0, e1, -⟩ := hSw; go_simp; try with_reducible rfl
      simp only [Act.put, rgA, rgB, rgC, rgD, rgE, rgF]
      refine wpAnyT_loadW (i := 5) (v := ?_) rfl (by kernel_rfl) (by kernel_rfl) (by kernel_rfl) (by kernel_rfl) (by kernel_rfl) (fun _ _ _ h => h) (Or.inl ⟨by rfl, ?_⟩) hSss1 ?_
      rotate_left
      · intro w hSw; obtain ⟨e0, e1, -⟩ := hSw; go_simp; try with_reducible rfl
      simp only [Act.put, rgA, rgB, rgC, rgD, rgE, rgF]
      refine wpAnyT_one (i := 3) (by kernel_rfl) rfl (by rfl) ?_
      obtain ⟨news, hsrc, hrl⟩ := (HLX.out.below hB_0_s1 (fun b hb => by have h1 := hb.2; have h2 := HBX.out.size; omega)).src
      refine wp_app (.tmp 48) (.tmp 50) 37 rfl (e := refT) (te := 41) info_ref Try.underlying37 rfl (by decide) (base := w4.heap.size) (S := fun _ => False) (v := .slice av lv cv) (xs := (refsP (out.take k)).map R2.d) (by kernel_rfl) (HOX.out.below hB_0_s1) (Nat.le_trans HBX.out.size (hB_0_s1).size) (sv := .slice pa1 pl.length pc1) (by kernel_rfl) (ys := pl.map R2.d) hsrc (hrl.flat (e := refT) rfl) (by have := HPL.out; have := HRL.out; simp only [List.length_map, List.length_append] at *; omega) (by have := HPL.out; have := HRL.out; simp only [List.length_map, List.length_append] at *; omega) ?_
      intro ca3 cl3 cc3 w102 O3' g3 ob3
      have hG3 := Gr.of_grown g3
      have hXS : Cells [(⟨bx, 0, none⟩, .slice pa1 pl.length pc1), (⟨bx, 1, none⟩, .slice pa2 pr.length pc2)] w102 := by
        obtain ⟨e0, e1, -⟩ := hSss1
        exact ⟨hG3.cell e0 (fun e => by have h1 : bx < wr.heap.size := (HOWN.out _ e).2; have h2 := HBXE.out; omega), hG3.cell e1 (fun e => by have h1 : bx < wr.heap.size := (HOWN.out _ e).2; have h2 := HBXE.out; omega), trivial⟩
      have HO3 := Lib.hid O3'
      have HR3' := Lib.hid ((HRX.out.below hB_0_s1 (fun b hb => by have h1 := hb.2; have h2 := HBX.out.size; omega)).gr hG3 (fun b hb => ⟨by have h1 := hb.2; have h2 := HBX.out.size; have h3 := (hB_0_s1).size; omega, fun e => by have := (HOWN.out _ e).1; have := hb.2; omega⟩) (fun _ h => h))
      have HB3' := Lib.hid (show Below w4.heap.size w4 w102 from (HBX.out.trans ((hB_0_s1).mono HBX.out.size)).grown g3 (by have h2 := HBX.out.size; have h3 := (hB_0_s1).size; omega) (fun c hc => (HOWN.out c hc).1))
      clear O3' g3 ob3 hG3 hrl hsrc
      have hSsw102 := hXS
      have hB_w102_w102 := Below.refl w102.heap.size w102
      refine ⟨fun _ _ => hSsw102, ?_⟩
      try simp only [Act.put, rgA, rgB, rgC, rgD, rgE, rgF]
      refine wpAnyT_one (i := 6) (by kernel_rfl) rfl (by rfl) ?_
      obtain ⟨news, hsrc, hrl⟩ := HR3'.out.src
      refine wp_app (.tmp 51) (.tmp 53) 37 rfl (e := refT) (te := 41) info_ref Try.underlying37 rfl (by decide) (base := w4.heap.size) (S := fun _ => False) (v := .slice ca3 cl3 cc3) (xs := (refsP (out.take k)).map R2.d ++ pl.map R2.d) (by kernel_rfl) HO3.out HB3'.out.size (sv := .slice pa2 pr.length pc2) (by kernel_rfl) (ys := pr.map R2.d) hsrc (hrl.flat (e := refT) rfl) (by have := HPL.out; have := HRL.out; simp only [List.length_map, List.length_append] at *; omega) (by have := HPL.out; have := HRL.out; simp only [List.length_map, List.length_append] at *; omega) ?_
      intro ca6 cl6 cc6 w103 O6 g6 ob6
      have HO6 := Lib.hid O6
      have HB6 := Lib.hid (show Below w4.heap.size w4 w103 from HB3'.out.grown g6 HB3'.out.size (fun c hc => (HO3.out.own c hc).1))
      clear O6 g6 ob6 hrl hsrc
      refine ⟨fun h => absurd h (by decide), ?_⟩
      try simp only [Act.put, rgA, rgB, rgC, rgD, rgE, rgF]
      refine wpAnyT_pure (i := 7) (v := ?_) rfl (by kernel_rfl) (by kernel_rfl) (by kernel_rfl) (fun _ _ _ h => h) (by rfl) ?_ ?_
      rotate_left
      · intro w; go_simp; try with_reducible rfl
      simp only [Act.put, rgA, rgB, rgC, rgD, rgE, rgF]
      refine wpAnyT_done (by kernel_rfl) ?_ _
      go_wp2_with fail
      go_roundw
      case rel =>
        refine ⟨k + 1, ca6, cl6, cc6, HKL.out, by go_num, rfl, ?_, HB6.out⟩
        rw [HTK.out, refsP_snoc, List.map_append, List.map_append, ← List.append_assoc]
        exact HO6.out
      case measure => have := HKL.out; simp [intOf]; try omega
    · obtain rfl : k = out.length := by omega
      obtain ⟨wu, rfl⟩ : ∃ q, q = wr := ⟨_, rfl⟩
      have hkI : ¬ ((out.length : Nat) : Int) < (out.length : Int) := by omega
      have hlv := hO.slice
      obtain ⟨_, _, _, he, hlv, -⟩ := hlv
      cases he
      rw [List.length_map, List.take_length] at hlv
      subst hlv
      have HU := Lib.hid ((HO.out.rd (fun b => w4.heap.size ≤ b ∧ b < wu.heap.size) (fun _ h => h.elim) (fun b hb => HO.out.own b hb)))
      rw [List.take_length] at HU
      have HBU := Lib.hid (below_step HB4.out hB)
      clear hO hB hkl hk HO HB HR4
      go_wp2_with fail
      go_loopw [58] (fun iv wr => ∃ (i : Nat), i ≤ l.length ∧ iv = .int .i64 (i : Int) ∧ Below wu.heap.size wu wr) (fun iv _ => l.length - (intOf iv).toNat)
      case atStart => exact ⟨0, Nat.zero_le _, rfl, Below.refl _ _⟩
      case round =>
        obtain ⟨i, hi, rfl, hB⟩ := hrel
        have HBi := Lib.hid (below_step HBU.out hB)
        by_cases hil : i < l.length
        · have hiI : (i : Int) < (l.length : Int) := by omega
          obtain ⟨xb, xo, rfl, -, m0, m1, m2, -⟩ := open_at (H0.out.below HBi.out (fun b hb => hb)) i hil
          have HIN := Lib.hid (List.getElem_mem hil)
          have HIL := Lib.hid hil
          generalize l[i] = x at m0 m1 m2 HIN
          obtain ⟨⟨xe, xl⟩, xn⟩ := x
          simp only at m0 m1 m2
          have hxa := amt_bounds ((linesB_true hlb).1 _ HIN.out)
          simp only at hxa
          have hBx := (Below.refl wr.heap.size wr).alloc (Nat.le_refl _) (.cells #[.int .i64 xe, .int .i64 xl, .int .i64 xn] 50)
          have hqx := heap_alloc_new wr (.cells #[.int .i64 xe, .int .i64 xl, .int .i64 xn] 50)
          obtain ⟨hx0, hx1, hx2⟩ := hxa
          have x0 := blk_cell hqx 0
          have x1 := blk_cell hqx 1
          have x2 := blk_cell hqx 2
          simp only [List.getElem?_toArray, List.getElem?_cons_zero, List.getElem?_cons_succ] at x0 x1 x2
          have X0 := Lib.hid x0
          have X1 := Lib.hid x1
          have X2 := Lib.hid x2
          have HBXW := Lib.hid (below_step hB hBx)
          clear hB hil hi hBx hqx x0 x1 x2
          go_wp2_with fail
          clear m0 m1 m2
          generalize World.alloc wr (.cells #[.int .i64 xe, .int .i64 xl, .int .i64 xn] 50) = wx at *
          obtain ⟨bx, hbx⟩ : ∃ b, wr.heap.size = b := ⟨_, rfl⟩
          rw [hbx] at X0 X1 X2
          simp only [hbx]
          clear hbx
          go_loopw [64] (fun iv wr => ∃ (j : Nat), j ≤ r.length ∧ iv = .int .i64 (j : Int) ∧ Below wx.heap.size wx wr) (fun iv _ => r.length - (intOf iv).toNat)
          case atStart => exact ⟨0, Nat.zero_le _, rfl, Below.refl _ _⟩
          case round =>
            obtain ⟨j, hj, rfl, hB⟩ := hrel
            have HBJ := Lib.hid hB
            by_cases hjl : j < r.length
            · have hjI : (j : Int) < (r.length : Int) := by omega
              have hBw := below_step HBU.out (below_step HBXW.out hB)
              obtain ⟨yb, yo, rfl, -, n0, n1, n2, -⟩ := open_at (H1.out.below hBw (fun b hb => hb)) j hjl
              have HIN2 := Lib.hid (List.getElem_mem hjl)
              have HJL := Lib.hid hjl
              generalize r[j] = y at n0 n1 n2 HIN2
              obtain ⟨⟨ye, yl⟩, yn⟩ := y
              simp only at n0 n1 n2
              obtain ⟨hy0, hy1, hy2⟩ := amt_bounds ((linesB_true hlb).2.1 _ HIN2.out)
              simp only at hy0 hy1 hy2
              have HL1 := Lib.hid (HLAW.out _ _ HIN.out HIN2.out)
              have hBy := (Below.refl wr.heap.size wr).alloc (Nat.le_refl _) (.cells #[.int .i64 ye, .int .i64 yl, .int .i64 yn] 50)
              have hqy := heap_alloc_new wr (.cells #[.int .i64 ye, .int .i64 yl, .int .i64 yn] 50)
              have y0 := blk_cell hqy 0
              have y1 := blk_cell hqy 1
              have y2 := blk_cell hqy 2
              simp only [List.getElem?_toArray, List.getElem?_cons_zero, List.getElem?_cons_succ] at y0 y1 y2
              have HBY := Lib.hid (below_step hB hBy)
              have x0 := cell_below X0.out HBY.out
              have x1 := cell_below X1.out HBY.out
              have x2 := cell_below X2.out HBY.out
              have Y0 := Lib.hid y0
              have Y1 := Lib.hid y1
              have Y2 := Lib.hid y2
              have HUY := Lib.hid (HU.out.below (below_step HBXW.out HBY.out) (fun b hb => hb.2))
              have HSY := Lib.hid (show ∀ b, (w4.heap.size ≤ b ∧ b < wu.heap.size) → b < (wr.alloc (.cells #[.int .i64 ye, .int .i64 yl, .int .i64 yn] 50)).heap.size from fun b hb => Nat.lt_of_lt_of_le hb.2 (below_step HBXW.out HBY.out).size)
              clear hB hjl hj hBy hqy hBw
              go_wp2_with fail
              refine (in28 _ av cv (refsP out) ⟨xe, xl⟩ HUY.out HSY.out).mono ?_
              rintro e wz ⟨rfl, hBz⟩
              have HBZ := Lib.hid (below_step HBY.out hBz)
              have x2 := cell_below X2.out HBZ.out
              have y0 := cell_below Y0.out hBz
              have y1 := cell_below Y1.out hBz
              have y2 := cell_below Y2.out hBz
              have HUZ := Lib.hid (HUY.out.below hBz HSY.out)
              have HSZ := Lib.hid (show ∀ b, (w4.heap.size ≤ b ∧ b < wu.heap.size) → b < wz.heap.size from fun b hb => Nat.lt_of_lt_of_le (HSY.out b hb) hBz.size)
              have HYZ := Lib.hid (And.intro y2 x2)
              clear hBz n0 n1 n2
              by_cases hxu : (⟨xe, xl⟩ : R2) ∈ refsP out
              case pos =>
                rw [decide_eq_true hxu]
                go_wp2_with fail
                go_roundw
                case rel => exact ⟨j + 1, HJL.out, by go_num, HBZ.out⟩
                case measure => have := HJL.out; simp [intOf]; try omega
              rw [decide_eq_false hxu]
              go_wp2_with fail
              refine (in28 wz av cv (refsP out) ⟨ye, yl⟩ HUZ.out HSZ.out).mono ?_
              rintro e wv ⟨rfl, hBv⟩
              have HBV := Lib.hid (below_step HBZ.out hBv)
              have x2 := cell_below HYZ.out.2 hBv
              have y2 := cell_below HYZ.out.1 hBv
              clear hBv y0 y1
              by_cases hyu : (⟨ye, yl⟩ : R2) ∈ refsP out
              case pos =>
                rw [decide_eq_true hyu]
                go_wp2_with fail
                go_roundw
                case rel => exact ⟨j + 1, HJL.out, by go_num, HBV.out⟩
                case measure => have := HJL.out; simp [intOf]; try omega
              rw [decide_eq_false hyu]
              have hlaw := HL1.out hxu hyu
              simp only [oppB, szI] at hlaw
              by_cases hxs : xn < 0 <;> by_cases hys : yn < 0 <;> by_cases hd1 : xn + yn ≤ n <;> by_cases hd2 : -(xn + yn) ≤ n <;> (try (exfalso; simp [hxs, hys] at hlaw; omega)) <;>
                (clear hlaw; go_wp2_with fail; refine ⟨⟨j + 1, HJL.out, by go_num, HBV.out⟩, ?_⟩; have := HJL.out; simp only [intOf]; omega)
            · obtain rfl : j = r.length := by omega
              have hjI : ¬ ((r.length : Nat) : Int) < (r.length : Int) := by omega
              clear hjl hj
              go_wp2_with fail
              go_roundw
              case rel => exact ⟨i + 1, HIL.out, by go_num, below_step HBXW.out hB⟩
              case measure => have := HIL.out; simp [intOf]; try omega
        · obtain rfl : i = l.length := by omega
          have hiI : ¬ ((l.length : Nat) : Int) < (l.length : Int) := by omega
          clear hil hi hB
          go_wp2_with fail
          go_ret
          exact ⟨rfl, HBi.out⟩
end Go.Proofs.Ytpobckedeffjmaa
