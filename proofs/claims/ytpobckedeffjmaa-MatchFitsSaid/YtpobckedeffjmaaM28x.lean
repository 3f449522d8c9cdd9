/- Layer 28: MatchFits. -/
import Derived.Test.YtpobckedeffjmaaM28w
import Derived.Test.YtpobckedeffjmaaFr
set_option linter.unusedSimpArgs false
set_option maxRecDepth 50000
namespace Go.Proofs.Ytpobckedeffjmaa
open Go.RowKit Go

/-- The amounts of a proposal's lines. -/
def itemsP (l r : List O3) (p : P2) : List Int := p.1.map (amtOf l) ++ p.2.map (amtOf r)
theorem itemsP_at {l r : List O3} {p : P2} {i : Nat} (hi : i < (p.1 ++ p.2).length) : (itemsP l r p)[i]'(by unfold itemsP; simpa using hi) = if i < p.1.length then amtOf l (p.1 ++ p.2)[i] else amtOf r (p.1 ++ p.2)[i] := by
  unfold itemsP
  rw [List.getElem_append, List.getElem_append]
  simp only [List.length_map]
  split
  · simp
  · simp
theorem sum_bound {L : List Int} (h : ∀ x ∈ L, -1000000000000 ≤ x ∧ x ≤ 1000000000000) : -1000000000000 * (L.length : Int) ≤ L.sum ∧ L.sum ≤ 1000000000000 * (L.length : Int) := by
  induction L with
  | nil => simp
  | cons a L ih =>
    have h1 := h a (by simp)
    have h2 := ih fun x hx => h x (by simp [hx])
    rw [List.sum_cons, List.length_cons]
    omega
theorem amtOf_bounds {l : List O3} (h : ∀ x ∈ l, amtB x.n = true) (x : R2) : -1000000000000 ≤ amtOf l x ∧ amtOf l x ≤ 1000000000000 := by
  induction l with
  | nil => simp [amtOf]
  | cons a l ih =>
    unfold amtOf
    have h1 := amt_bounds (h a (by simp))
    have h2 := ih fun y hy => h y (by simp [hy])
    split <;> omega
/-- What one line of a proposal says. -/
theorem item_ok {l r : List O3} {tol : Int} {p : P2} (hf : FitP l r tol p) {i : Nat} (hi : i < (p.1 ++ p.2).length) (h0 : 0 < p.1.length) :
    (i < p.1.length → amtOf l (p.1 ++ p.2)[i] ≠ 0 ∧ decide (amtOf l (p.1 ++ p.2)[i] < 0) = decide (amtOf l p.1[0] < 0)) ∧
    (¬ i < p.1.length → amtOf r (p.1 ++ p.2)[i] ≠ 0 ∧ decide (amtOf r (p.1 ++ p.2)[i] < 0) = !decide (amtOf l p.1[0] < 0)) := by
  obtain ⟨-, -, -, ⟨s, h1, h2⟩, -⟩ := hf
  have hz := (h1 p.1[0] (List.getElem_mem h0)).2
  refine ⟨fun h => ?_, fun h => ?_⟩
  · rw [List.getElem_append_left h, hz]
    exact h1 _ (List.getElem_mem h)
  · rw [List.getElem_append_right (by omega), hz]
    exact h2 _ (List.getElem_mem _)
set_option maxHeartbeats 4000000 in
theorem fitsWalk28 (w : World) (c0 : List Value) (xs : (Ty.sl openT).den) (r0 : Rd (.sl openT) (fun b => b < w.heap.size) w c0 xs) (c1 : List Value) (ys : (Ty.sl openT).den) (r1 : Rd (.sl openT) (fun b => b < w.heap.size) w c1 ys) (c2 : List Value) (n : (Ty.int .u16).den) (r2 : Rd (.int .u16) (fun b => b < w.heap.size) w c2 n) :
    Calls Try.prog 4 #[valOf (.sl openT) c0, valOf (.sl openT) c1, valOf (.int .u16) c2] w fun e w' => e = .returned (.bool true) ∧ Below w.heap.size w w' := by
  obtain ⟨a0, k0, rfl, h0⟩ := rd_opens r0
  obtain ⟨a1, k1, rfl, h1⟩ := rd_opens r1
  change Int at n
  obtain ⟨rfl, hn⟩ := r2
  simp only [valOf, List.headD_cons]
  clear r0 r1
  generalize xs.map o3 = l at h0 ⊢
  generalize ys.map o3 = r at h1 ⊢
  clear xs ys
  have hn0 : 0 ≤ n ∧ n ≤ 65535 := by simp [Lit.wf, IntKind.min, IntKind.max, IntKind.signed, IntKind.bits] at hn; omega
  have hlm : l.length ≤ 9223372036854775807 := Nat.le_trans ((rd_len h0) ▸ h0.sl_flat.2.1) h0.sl_flat.2.2.1
  have hrm : r.length ≤ 9223372036854775807 := Nat.le_trans ((rd_len h1) ▸ h1.sl_flat.2.1) h1.sl_flat.2.2.1
  have H0 := Lib.hid h0
  have H1 := Lib.hid h1
  clear h0 h1 hn
  go_enter Try.func4, Try.ntmps4
  go_wp2_with fail
  refine (awake28 w).mono ?_
  rintro e w1 ⟨rfl, hB1⟩
  have HB1 := Lib.hid hB1
  clear hB1
  by_cases hl : l.length ≤ 30
  case neg =>
    have hI : (30 : Int) < (l.length : Int) := by omega
    go_wp2_with (go_at_call 9; refine (awake28 _).mono ?_; rintro e w2 ⟨rfl, hB2⟩; have HB2 := Lib.hid (below_step HB1.out hB2); clear hB2)
    go_ret
    exact ⟨rfl, HB2.out⟩
  have hlI : ¬ (30 : Int) < (l.length : Int) := by omega
  by_cases hr : r.length ≤ 30
  case neg =>
    have hI : (30 : Int) < (r.length : Int) := by omega
    go_wp2_with (go_at_call 9; refine (awake28 _).mono ?_; rintro e w2 ⟨rfl, hB2⟩; have HB2 := Lib.hid (below_step HB1.out hB2); clear hB2)
    go_ret
    exact ⟨rfl, HB2.out⟩
  have hrI : ¬ (30 : Int) < (r.length : Int) := by omega
  go_wp2_with fail
  have hA0 := H0.out.below HB1.out (fun b hb => hb)
  refine (to28 w1 a0 k0 l (by omega) hA0 (fun b hb => Nat.lt_of_lt_of_le hb HB1.out.size)).mono ?_
  rintro e w2 ⟨v2, rfl, hO2, hB2⟩
  obtain ⟨p2, n2, q2, rfl, hn2, -⟩ := hO2.slice
  rw [List.length_map] at hn2
  subst hn2
  have HO2 := Lib.hid hO2
  have HB2 := Lib.hid (below_step HB1.out hB2)
  clear hO2 hB2 hA0
  go_wp2_with fail
  have hA1 := H1.out.below HB2.out (fun b hb => hb)
  refine (to28 w2 a1 k1 r (by omega) hA1 (fun b hb => Nat.lt_of_lt_of_le hb HB2.out.size)).mono ?_
  rintro e w3 ⟨v3, rfl, hO3, hB3⟩
  obtain ⟨p3, n3, q3, rfl, hn3, -⟩ := hO3.slice
  rw [List.length_map] at hn3
  subst hn3
  have HL3 := Lib.hid ((HO2.out.below hB3).rd (fun b => b < w3.heap.size) (fun _ h => h.elim) (fun b hb => by have := (HO2.out.own b hb).2; have := hB3.size; omega))
  have HR3 := Lib.hid (hO3.rd (fun b => b < w3.heap.size) (fun _ h => h.elim) (fun b hb => (hO3.own b hb).2))
  have HB3 := Lib.hid (below_step HB2.out hB3)
  clear hO3 hB3 hA1
  go_wp2_with fail
  refine (propose28 w3 p2 q2 l p3 q3 r n HL3.out HR3.out (fun b hb => hb)).mono ?_
  rintro e w4 ⟨v4, rfl, hR4, hB4⟩
  have HB4 := Lib.hid (below_step HB3.out hB4)
  obtain ⟨p4, n4, q4, hv4, -⟩ := id hR4
  simp only [List.cons.injEq, and_true] at hv4
  subst hv4
  have hn4 := rd_len hR4
  subst hn4
  by_cases hlb : linesB l r = true
  case neg =>
    rw [Bool.not_eq_true] at hlb
    have hpm : propM l r n = ([], 1) := by unfold propM; rw [hlb, if_pos rfl]
    rw [hpm]
    simp only [List.length_nil]
    clear hR4 hpm
    go_wp2_with fail
    go_ret
    exact ⟨rfl, HB4.out⟩
  have hpm : propM l r n = ((st3 l r n).out, 0) := by unfold propM; rw [hlb, if_neg (by decide), if_neg (by omega)]
  rw [hpm] at hR4 ⊢
  simp only at hR4 ⊢
  have HR4 := Lib.hid hR4
  clear hR4 hB4 hpm
  obtain ⟨out, hout⟩ : ∃ o, (st3 l r n).out = o := ⟨_, rfl⟩
  rw [hout] at HR4
  simp only [hout]
  have HND := Lib.hid (show (refsP out).Nodup from by rw [← hout]; exact (st3_FI hlb).nd)
  have HFT := Lib.hid (show ∀ p ∈ out, FitP l r n p from by rw [← hout]; exact (st3_FI hlb).ft)
  have HLEN := Lib.hid (show out.length ≤ 1000 from by rw [← hout]; have := st3_len l r n; omega)
  have HL13 := Lib.hid (show ∀ p ∈ out, (p.1 ++ p.2).length ≤ 13 from by rw [← hout]; exact st3_len13 l r n)
  have HAL := Lib.hid (fun x => amtOf_bounds (linesB_true hlb).1 x)
  have HAR := Lib.hid (fun x => amtOf_bounds (linesB_true hlb).2.1 x)
  clear hout hlb
  go_wp2_with fail
  go_loopw [9, 46] (fun v iv wr => ∃ (k : Nat) (av : Option Addr) (lv cv : Nat), k ≤ out.length ∧ iv = .int .i64 (k : Int) ∧ v = .slice av lv cv ∧ Owns refT 41 w4.heap.size (fun _ => False) wr (.slice av lv cv) ((refsP (out.take k)).map R2.d) ∧ Below w4.heap.size w4 wr) (fun _ iv _ => out.length - (intOf iv).toNat)
  case atStart => exact ⟨0, none, 0, 0, Nat.zero_le _, rfl, rfl, Owns.nil _ _ _ _, Below.refl _ _⟩
  case round =>
    obtain ⟨k, av, lv, cv, hk, rfl, rfl, hO, hB⟩ := hrel
    have HO := Lib.hid hO
    have HB := Lib.hid hB
    by_cases hkl : k < out.length
    · have hkI : (k : Int) < (out.length : Int) := by omega
      have hRk := HR4.out.below hB (fun b hb => hb.2)
      obtain ⟨b, off, pa1, pc1, pa2, pc2, rfl, -, m0, m1, hL, hR⟩ := pair_at hRk k hkl
      have HTK := Lib.hid (List.take_succ_eq_append_getElem hkl)
      have HKL := Lib.hid hkl
      have hk1000 : k ≤ 1000 := by have := HLEN.out; omega
      have HPL := Lib.hid (HL13.out out[k] (List.getElem_mem hkl))
      have HFP := Lib.hid (HFT.out out[k] (List.getElem_mem hkl))
      have HRL := Lib.hid (show (refsP (out.take k)).length ≤ 13000 from by
        have := refsP_len (out := out.take k) (fun p hp => HL13.out p (List.mem_of_mem_take hp))
        rw [List.length_take] at this
        have := HLEN.out
        omega)
      have HNK := Lib.hid (show (refsP (out.take (k + 1))).Nodup from by
        have h := HND.out
        rw [← List.take_append_drop (k + 1) out] at h
        unfold refsP at h ⊢
        rw [List.flatMap_append, List.nodup_append] at h
        exact h.1)
      generalize out[k] = p at m0 m1 hL hR HTK HPL HFP
      obtain ⟨pl, pr⟩ := p
      simp only at m0 m1 hL hR
      have hp0 : 0 < pl.length := List.length_pos_iff.2 HFP.out.1
      have hp1 : 0 < pr.length := List.length_pos_iff.2 HFP.out.2.1
      have hp2 : pl.length = 1 ∨ pr.length = 1 := HFP.out.2.2.1
      have hp13 : pl.length + pr.length ≤ 13 := by have := HPL.out; simpa using this
      have hBx := (Below.refl wr.heap.size wr).alloc (Nat.le_refl _) (.cells #[.slice pa1 pl.length pc1, .slice pa2 pr.length pc2] 39)
      have hqx := heap_alloc_new wr (.cells #[.slice pa1 pl.length pc1, .slice pa2 pr.length pc2] 39)
      have hw4 : w4.heap.size ≤ wr.heap.size := hB.size
      have HW4 := Lib.hid hw4
      have HLX := Lib.hid (hL.below hBx (fun b hb => by have := hb.2; omega))
      have HRX := Lib.hid (hR.below hBx (fun b hb => by have := hb.2; omega))
      have HOX := Lib.hid (hO.alloc (.cells #[.slice pa1 pl.length pc1, .slice pa2 pr.length pc2] 39))
      have HOWN := Lib.hid hO.own
      have HBX := Lib.hid (hB.alloc hw4 (.cells #[.slice pa1 pl.length pc1, .slice pa2 pr.length pc2] 39))
      have x0 := blk_cell hqx 0
      have x1 := blk_cell hqx 1
      simp only [List.getElem?_toArray, List.getElem?_cons_zero, List.getElem?_cons_succ] at x0 x1
      have HPS := Lib.hid (And.intro hp0 (And.intro hp1 (And.intro hp2 hp13)))
      clear hO hB hkl hk hRk hBx hqx hw4 hL hR hp0 hp1 hp2 hp13
      go_upto_region 11 with fail
      generalize World.alloc wr (.cells #[.slice pa1 pl.length pc1, .slice pa2 pr.length pc2] 39) = wx at *
      obtain ⟨bx, hbx⟩ : ∃ b, wr.heap.size = b := ⟨_, rfl⟩
      rw [hbx] at x0 x1
      simp only [hbx]
      have HBXE := Lib.hid hbx
      have X0 := Lib.hid x0
      have X1 := Lib.hid x1
      have hi0 : ((pl.length : Int) == 0) = false := by have := HPS.out.1; simp; intro h; subst h; simp at this
      have hi1 : ((pr.length : Int) == 0) = false := by have := HPS.out.2.1; simp; intro h; subst h; simp at this
      clear hbx m0 m1
      go_cut [71] (fun s71 wc => s71 = .bool false ∧ wc = wx)
      case first =>
        by_cases hg1 : (1 : Int) < (pl.length : Int)
        case' pos => have hg2 : ¬ (1 : Int) < (pr.length : Int) := by have := HPS.out; omega
        all_goals
          go_wp2_with fail
          go_meet
          exact ⟨rfl, rfl⟩
      obtain ⟨rfl, hwc⟩ := hcut
      have hwc2 := hwc.symm
      subst hwc2
      · skip
        go_wp2_with fail
        have hC0 : Cells [(⟨bx, 0, none⟩, .slice pa1 pl.length pc1), (⟨bx, 1, none⟩, .slice pa2 pr.length pc2)] wx := ⟨X0.out, X1.out, trivial⟩
        have hwxs := HBX.out.size
        refine wp_region_T (Cells [(⟨bx, 0, none⟩, .slice pa1 pl.length pc1), (⟨bx, 1, none⟩, .slice pa2 pr.length pc2)]) (fun _ => false) (by kernel_rfl) ?_
        have hSss1 := Cells.drew hC0
        have hB_0_s1 : Below wx.heap.size wx wx.drew := below_drew _
        generalize wx.drew = s1 at hSss1 hB_0_s1 ⊢
        have hB_s1_s1 := Below.refl s1.heap.size s1
        refine wpAnyT_pure (i := 1) (v := ?_) rfl (by kernel_rfl) (by kernel_rfl) (by kernel_rfl) (fun _ _ _ h => h) (by rfl) ?_ ?_
        rotate_left
        · intro w; go_simp; try with_reducible rfl
        simp only [Act.put, rgA, rgB, rgC, rgD, rgE, rgF]
        refine wpAnyT_pure (i := 4) (v := ?_) rfl (by kernel_rfl) (by kernel_rfl) (by kernel_rfl) (fun _ _ _ h => h) (by rfl) ?_ ?_
        rotate_left
        · intro w; go_simp; try with_reducible rfl
        simp only [Act.put, rgA, rgB, rgC, rgD, rgE, rgF]
        refine wpAnyT_pure (i := 8) (v := ?_) rfl (by kernel_rfl) (by kernel_rfl) (by kernel_rfl) (fun _ _ _ h => h) (by rfl) ?_ ?_
        rotate_left
        · intro w; go_simp; try with_reducible rfl
        simp only [Act.put, rgA, rgB, rgC, rgD, rgE, rgF]
        refine wpAnyT_loadW (i := 2) (v := ?_) rfl (by kernel_rfl) (by kernel_rfl) (by kernel_rfl) (by kernel_rfl) (by kernel_rfl) (fun _ _ _ h => h) (Or.inl ⟨by rfl, ?_⟩) hSss1 ?_
        rotate_left
        · intro w hSw; obtain ⟨e0, e1, -⟩ := hSw; go_simp; try with_reducible rfl
        simp only [Act.put, rgA, rgB, rgC, rgD, rgE, rgF]
        refine wpAnyT_loadW (i := 5) (v := ?_) rfl (by kernel_rfl) (by kernel_rfl) (by kernel_rfl) (by kernel_rfl) (by kernel_rfl) (fun _ _ _ h => h) (Or.inl ⟨by rfl, ?_⟩) hSss1 ?_
        rotate_left
        · intro w hSw; obtain ⟨e0, e1, -⟩ := hSw; go_simp; try with_reducible rfl
        simp only [Act.put, rgA, rgB, rgC, rgD, rgE, rgF]
        refine wpAnyT_one (i := 0) (by kernel_rfl) rfl (by rfl) ?_
        obtain ⟨b0, hb0⟩ : ∃ b, s1.heap.size = b := ⟨_, rfl⟩
        have hge0 : s1.heap.size ≤ b0 := hb0 ▸ (hB_s1_s1).size
        refine wp_newrow (v := .slice (some ⟨b0, 0, none⟩) 0 0) (cs := #[]) (te := 41) (by rw [← hb0]; go_simp) ?_
        intro w102 hX hN0
        rw [hb0] at hN0
        have hB_s1_w102 := below_step hB_s1_s1 hX
        have hB_w102_w102 := Below.refl w102.heap.size w102
        have hSsw102 := Cells.below hB_s1_w102 hSss1
        clear hX
        refine ⟨fun _ _ => hSsw102, ?_⟩
        try simp only [Act.put, rgA, rgB, rgC, rgD, rgE, rgF]
        refine wpAnyT_one (i := 3) (by kernel_rfl) rfl (by rfl) ?_
        have hq0 := ((hB_w102_w102).block _ (blk_lt hN0)).trans hN0
        have hbq : Below wx.heap.size wx w102 := hB_0_s1.trans ((hB_s1_w102).mono hB_0_s1.size)
        refine wp_appLit (.tmp 72) (.tmp 74) 37 rfl (e := refT) (te := 41) info_ref Try.underlying37 rfl (by decide) (S := fun b => w3.heap.size ≤ b ∧ b < w4.heap.size) (base := s1.heap.size) (b := b0) (by kernel_rfl) hq0 hge0 (sv := .slice pa1 pl.length pc1) (by kernel_rfl) (ys := pl.map R2.d) (HLX.out.below hbq (fun b hb => by have h1 := hb.2; omega)) (fun x hx => ⟨by have h1 := hx.2; have h2 := (hB_0_s1).size; omega, by have h1 := hx.2; have h2 := hbq.size; omega⟩) (by have := HPS.out; rw [List.length_map]; omega) (by have := HPS.out; rw [List.length_map]; omega) ?_
        intro ca3 cl3 cc3 w103 O3' hX
        have HO3 := Lib.hid (Owns.flat (e := refT) rfl O3')
        clear O3' hq0 hbq
        have hB_s1_w103 := below_step hB_s1_w102 hX
        have hB_w102_w103 := below_step hB_w102_w102 hX
        have hB_w103_w103 := Below.refl w103.heap.size w103
        have hSsw103 := Cells.below hB_s1_w103 hSss1
        clear hX
        refine ⟨fun _ _ => hSsw103, ?_⟩
        try simp only [Act.put, rgA, rgB, rgC, rgD, rgE, rgF]
        refine wpAnyT_one (i := 6) (by kernel_rfl) rfl (by rfl) ?_
        have hbq : Below wx.heap.size wx w103 := hB_0_s1.trans ((hB_s1_w103).mono hB_0_s1.size)
        obtain ⟨news, hsrc, hrl⟩ := (HRX.out.below hbq (fun b hb => by have h1 := hb.2; omega)).src
        refine wp_app (.tmp 75) (.tmp 77) 37 rfl (e := refT) (te := 41) info_ref Try.underlying37 rfl (by decide) (base := s1.heap.size) (S := fun _ => False) (v := .slice ca3 cl3 cc3) (xs := pl.map R2.d) (by kernel_rfl) (HO3.out.below hB_w103_w103) (hB_s1_w103).size (sv := .slice pa2 pr.length pc2) (by kernel_rfl) (ys := pr.map R2.d) hsrc (hrl.flat (e := refT) rfl) (by have := HPS.out; simp only [List.length_map]; omega) (by have := HPS.out; simp only [List.length_map]; omega) ?_
        intro ca6 cl6 cc6 w104 O6 g6 ob6
        have hX : Below s1.heap.size s1 w104 := (hB_s1_w103).grown g6 (hB_s1_w103).size (fun c hc => (HO3.out.own c hc).1)
        obtain ⟨_, _, _, he6, hl6, -⟩ := O6.slice
        cases he6
        have HO6 := Lib.hid O6
        have HL6 := Lib.hid hl6
        clear O6 g6 ob6 hrl hsrc hbq hl6
        have hB_s1_w104 := hX
        have hB_w104_w104 := Below.refl w104.heap.size w104
        have hSsw104 := Cells.below hB_s1_w104 hSss1
        clear hX
        refine ⟨fun _ _ => hSsw104, ?_⟩
        try simp only [Act.put, rgA, rgB, rgC, rgD, rgE, rgF]
        refine wpAnyT_pure (i := 7) (v := ?_) rfl (by kernel_rfl) (by kernel_rfl) (by kernel_rfl) (fun _ _ _ h => h) (by rfl) ?_ ?_
        rotate_left
        · intro w; go_simp; try with_reducible rfl
        simp only [Act.put, rgA, rgB, rgC, rgD, rgE, rgF]
        refine wpAnyT_done (by kernel_rfl) ?_ _
        have HBA := Lib.hid (show Below wx.heap.size wx w104 from hB_0_s1.trans ((hB_s1_w104).mono hB_0_s1.size))
        have HX := Lib.hid (And.intro (hSsw104).1 (hSsw104).2.1)
        have HOA := Lib.hid (show Owns refT 41 wx.heap.size (fun _ => False) w104 (.slice ca6 cl6 cc6) ((pl ++ pr).map R2.d) from by rw [List.map_append]; exact HO6.out.base hB_0_s1.size)
        have hl6 : cl6 = (pl ++ pr).length := by have := HL6.out; simpa using this
        obtain ⟨wa, rfl⟩ : ∃ q, q = w104 := ⟨_, rfl⟩
        subst hl6
        obtain ⟨all, hall⟩ : ∃ q, pl ++ pr = q := ⟨_, rfl⟩
        have hal13 : all.length ≤ 13 := by rw [← hall]; exact HPL.out
        rw [hall] at HOA
        simp only [hall]
        have HOU := Lib.hid (HOX.out.below HBA.out)
        have HSEP := Lib.hid (show ∀ b, (Value.slice av lv cv).ownBlock = some b → b < wx.heap.size from fun b hb => (HOX.out.own b hb).2)
        have HBW := Lib.hid (HBX.out.trans (HBA.out.mono HBX.out.size))
        have HALL := Lib.hid hall
        clear hall
        go_wp2_with fail
        go_loopw [9, 12, 80] (fun v sv iv wr => ∃ (i : Nat) (av : Option Addr) (lv cv : Nat), i ≤ all.length ∧ iv = .int .i64 (i : Int) ∧ v = .slice av lv cv ∧ sv = .int .i64 ((itemsP l r (pl, pr)).take i).sum ∧ Owns refT 41 w4.heap.size (fun _ => False) wr (.slice av lv cv) ((refsP (out.take k) ++ all.take i).map R2.d) ∧
          Owns refT 41 wx.heap.size (fun _ => False) wr (.slice ca6 all.length cc6) (all.map R2.d) ∧ (∀ b, (Value.slice av lv cv).ownBlock = some b → (Value.slice ca6 all.length cc6).ownBlock ≠ some b ∧ b ≠ bx) ∧ (wr.cell? ⟨bx, 0, none⟩ = some (.slice pa1 pl.length pc1) ∧ wr.cell? ⟨bx, 1, none⟩ = some (.slice pa2 pr.length pc2)) ∧ Below w4.heap.size w4 wr) (fun _ _ iv _ => all.length - (intOf iv).toNat)
        case atStart =>
          refine ⟨0, av, lv, cv, Nat.zero_le _, rfl, rfl, rfl, ?_, HOA.out, fun b hb => ⟨fun e => ?_, fun e => ?_⟩, HX.out, HBW.out⟩
          · rw [List.take_zero, List.append_nil]; exact HOU.out
          · have := HSEP.out b hb; have := (HOA.out.own b e).1; omega
          · have := (HOWN.out b hb).2; have := HBXE.out; omega
        case round =>
          obtain ⟨i, av, lv, cv, hi, rfl, rfl, rfl, hO, hOA, hsep, hX, hB⟩ := hrel
          have HO := Lib.hid hO
          have HOA2 := Lib.hid hOA
          have HSEP2 := Lib.hid hsep
          have HX2 := Lib.hid hX
          have HB2' := Lib.hid hB
          have HBG := Lib.hid (below_step HB4.out hB)
          by_cases hil : i < all.length
          · have hiI : (i : Int) < (all.length : Int) := by omega
            have hlv : lv = (refsP (out.take k) ++ all.take i).length := by obtain ⟨_, _, _, he, h, -⟩ := hO.slice; cases he; rw [h, List.length_map]
            have hLw := HLX.out.keep (w' := wr) (fun b hb => (hB.block b hb.2).trans (HBX.out.block b hb.2).symm) (fun _ h => h)
            obtain ⟨ab, ao, hae, -, m0, m1, hxok⟩ := ref_at (hOA.rd (fun b => b < wr.heap.size) (fun _ h => h.elim) (fun b hb => (hOA.own b hb).2)) i hil
            have HTA := Lib.hid (List.take_succ_eq_append_getElem hil)
            have hip : i < (((pl, pr) : P2).1 ++ ((pl, pr) : P2).2).length := by rw [show ((pl, pr) : P2).1 ++ ((pl, pr) : P2).2 = all from HALL.out]; exact hil
            have hge : (((pl, pr) : P2).1 ++ ((pl, pr) : P2).2)[i]'hip = all[i] := by simp only [show ((pl, pr) : P2).1 ++ ((pl, pr) : P2).2 = all from HALL.out]
            have h00 : 0 < pl.length := HPS.out.1
            have hit := item_ok HFP.out hip h00
            have hia := itemsP_at (l := l) (r := r) hip
            rw [hge] at hit hia
            have hsum : ((itemsP l r (pl, pr)).take (i + 1)).sum = ((itemsP l r (pl, pr)).take i).sum + (if i < pl.length then amtOf l all[i] else amtOf r all[i]) := by
              rw [List.take_succ_eq_append_getElem (by unfold itemsP; simpa using hip), List.sum_append, hia]; simp
            have hsb : -13000000000000 ≤ ((itemsP l r (pl, pr)).take i).sum ∧ ((itemsP l r (pl, pr)).take i).sum ≤ 13000000000000 := by
              have h1 := sum_bound (L := (itemsP l r (pl, pr)).take i) (fun x hx => by
                have := List.mem_of_mem_take hx
                unfold itemsP at this
                rcases List.mem_append.1 this with h | h
                · obtain ⟨y, -, rfl⟩ := List.mem_map.1 h; exact HAL.out y
                · obtain ⟨y, -, rfl⟩ := List.mem_map.1 h; exact HAR.out y)
              have h2 : ((itemsP l r (pl, pr)).take i).length ≤ 13 := by rw [List.length_take]; omega
              have h3 : (((itemsP l r (pl, pr)).take i).length : Int) ≤ 13 := by omega
              omega
            have hnu : all[i] ∉ refsP (out.take k) ++ all.take i := by
              have h := HNK.out
              rw [HTK.out, refsP_snoc, show ((pl, pr) : P2).1 ++ ((pl, pr) : P2).2 = all from HALL.out] at h
              intro hm
              have h2 : (refsP (out.take k) ++ all.take (i + 1)).Nodup := h.sublist ((List.Sublist.refl _).append (List.take_sublist _ _))
              rw [List.take_succ_eq_append_getElem hil, ← List.append_assoc, nodup_snoc] at h2
              exact h2.2 hm
            obtain ⟨p0b, p0o, hpe, -, p0, p1, -⟩ := ref_at hLw 0 h00
            cases hpe
            cases hae
            rw [Nat.zero_mul, Nat.add_zero] at p0 p1
            subst hlv
            have hbnd : ∀ z, (-1000000000000 ≤ amtOf l z ∧ amtOf l z ≤ 1000000000000) ∧ (-1000000000000 ≤ amtOf r z ∧ amtOf r z ≤ 1000000000000) := fun z => ⟨HAL.out z, HAR.out z⟩
            generalize all[i] = x at m0 m1 hxok HTA hit hsum hnu
            obtain ⟨xe, xl⟩ := x
            simp only at m0 m1
            generalize pl[0] = y0 at p0 p1 hit
            obtain ⟨pe, pq⟩ := y0
            simp only at p0 p1 hit
            obtain ⟨s, hs⟩ : ∃ s, decide (amtOf l ⟨pe, pq⟩ < 0) = s := ⟨_, rfl⟩
            obtain ⟨nb, hnb⟩ : ∃ q, decide ((pl.length : Int) ≤ (i : Int)) = q := ⟨_, rfl⟩
            obtain ⟨nv, hnv⟩ : ∃ q, (if i < pl.length then amtOf l ⟨xe, xl⟩ else amtOf r ⟨xe, xl⟩) = q := ⟨_, rfl⟩
            obtain ⟨sn, hsn⟩ : ∃ s, decide (nv < 0) = s := ⟨_, rfl⟩
            rw [hnv] at hsum
            have hnz : nv ≠ 0 ∧ (!(sn == s)) = nb ∧ (-1000000000000 ≤ nv ∧ nv ≤ 1000000000000) := by
              by_cases hc : i < pl.length
              · rw [if_pos hc] at hnv
                have h1 := hit.1 hc
                rw [hnv, hs, hsn] at h1
                refine ⟨h1.1, ?_, hnv ▸ (hbnd _).1⟩
                rw [h1.2, ← hnb, decide_eq_false (by omega)]; cases s <;> rfl
              · rw [if_neg hc] at hnv
                have h1 := hit.2 hc
                rw [hnv, hs, hsn] at h1
                refine ⟨h1.1, ?_, hnv ▸ (hbnd _).2⟩
                rw [h1.2, ← hnb, decide_eq_true (by omega)]; cases s <;> rfl
            have hnvb := hnz.2.2
            have HNZ := Lib.hid hnz.1
            have HNB := Lib.hid hnz.2.1
            have HS0 := Lib.hid hs
            have HSN := Lib.hid hsn
            have HNI := Lib.hid hnb
            have HNV := Lib.hid hnv
            have HIL := Lib.hid hil
            have HNU := Lib.hid hnu
            have HSU := Lib.hid hsum
            have HXOK := Lib.hid hxok
            have HPC := Lib.hid (And.intro p0 p1)
            have hqq := heap_alloc_new wr (.cells #[.int .i64 xe, .int .i64 xl] 41)
            have hbq0 := (Below.refl wr.heap.size wr).alloc (Nat.le_refl _) (.cells #[.int .i64 xe, .int .i64 xl] 41)
            have HQQ := Lib.hid (And.intro (blk_cell hqq 0) (blk_cell hqq 1))
            have HBQ := Lib.hid hbq0
            have HLU := Lib.hid (show (refsP (out.take k) ++ all.take i).length ≤ 13013 from by have := HRL.out; rw [List.length_append, List.length_take]; omega)
            have hpb : 0 ≤ (pl.length : Int) := by omega
            obtain ⟨U, hU⟩ : ∃ q, refsP (out.take k) ++ all.take i = q := ⟨_, rfl⟩
            rw [hU] at HO HNU HLU HSEP2
            simp only [hU]
            have HUE := Lib.hid hU
            clear hU
            have q0 := HQQ.out.1
            have q1 := HQQ.out.2
            simp only [List.getElem?_toArray, List.getElem?_cons_zero, List.getElem?_cons_succ] at q0 q1
            have HQ0 := Lib.hid q0
            have HQ1 := Lib.hid q1
            clear hO hOA hsep hX hB hil hit hsum hnu hxok hnz hs hsn hnb hnv hbnd p0 p1 hqq hbq0 hip hge hia HQQ hLw h00 hi q0 q1
            go_upto_region 16 with fail
            clear m0 m1
            generalize World.alloc wr (.cells #[.int .i64 xe, .int .i64 xl] 41) = wq at *
            obtain ⟨bq, hbq⟩ : ∃ b, wr.heap.size = b := ⟨_, rfl⟩
            rw [hbq] at HQ0 HQ1
            simp only [hbq]
            have HBQE := Lib.hid hbq
            clear hbq
            have q0 := HQ0.out
            have q1 := HQ1.out
            have HBGQ := Lib.hid (below_step HBG.out HBQ.out)
            by_cases hc : i < pl.length
            case' pos =>
              have HNV2 := Lib.hid (show amtOf l ⟨xe, xl⟩ = nv from by have h := HNV.out; rw [if_pos hc] at h; exact h)
              have hcI : ¬ (pl.length : Int) ≤ (i : Int) := by omega
              go_wp2_with fail
              refine (amount28 wq a0 k0 l ⟨xe, xl⟩ (H0.out.below HBGQ.out (fun b hb => hb)) (fun b hb => Nat.lt_of_lt_of_le hb HBGQ.out.size)).mono ?_
              rw [HNV2.out]
              rintro e w6 ⟨rfl, hB6⟩
              have HB6 := Lib.hid (below_step HBQ.out hB6)
              have HQW := Lib.hid (And.intro (cell_below HQ0.out hB6) (cell_below HQ1.out hB6))
              have x0 := cell_below HX2.out.1 HB6.out
              clear q0 q1 hB6
              go_wp2_with fail
            case' neg =>
              have HNV2 := Lib.hid (show amtOf r ⟨xe, xl⟩ = nv from by have h := HNV.out; rw [if_neg hc] at h; exact h)
              have hcI : (pl.length : Int) ≤ (i : Int) := by omega
              go_wp2_with fail
              refine (amount28 wq a0 k0 l ⟨xe, xl⟩ (H0.out.below HBGQ.out (fun b hb => hb)) (fun b hb => Nat.lt_of_lt_of_le hb HBGQ.out.size)).mono ?_
              rintro e w5 ⟨rfl, hB5⟩
              have HB5 := Lib.hid (below_step HBQ.out hB5)
              have HBG5 := Lib.hid (below_step HBG.out HB5.out)
              have x0 := cell_below HX2.out.1 HB5.out
              have q0' := cell_below HQ0.out hB5
              have q1' := cell_below HQ1.out hB5
              clear q0 q1 hB5
              go_wp2_with fail
              refine (amount28 w5 a1 k1 r ⟨xe, xl⟩ (H1.out.below HBG5.out (fun b hb => hb)) (fun b hb => Nat.lt_of_lt_of_le hb HBG5.out.size)).mono ?_
              rw [HNV2.out]
              rintro e w6 ⟨rfl, hB6⟩
              have HB6 := Lib.hid (below_step HB5.out hB6)
              have HQW := Lib.hid (And.intro (cell_below q0' hB6) (cell_below q1' hB6))
              clear q0' q1' x0 hB6
              have x0 := cell_below HX2.out.1 HB6.out
              go_wp2_with fail
            all_goals
              clear x0
              have h0p : 0 < pl.length := HPS.out.1
              have hC0 : Cells [(⟨bx, 0, none⟩, .slice (some ⟨p0b, p0o, none⟩) pl.length pc1), (⟨bq, 0, none⟩, .int .i64 xe), (⟨bq, 1, none⟩, .int .i64 xl), (⟨p0b, p0o, none⟩, .int .i64 pe), (⟨p0b, p0o + 1, none⟩, .int .i64 pq)] w6 :=
                ⟨cell_below HX2.out.1 HB6.out, HQW.out.1, HQW.out.2, cell_below HPC.out.1 HB6.out, cell_below HPC.out.2 HB6.out, trivial⟩
              refine wp_region_T (Cells [(⟨bx, 0, none⟩, .slice (some ⟨p0b, p0o, none⟩) pl.length pc1), (⟨bq, 0, none⟩, .int .i64 xe), (⟨bq, 1, none⟩, .int .i64 xl), (⟨p0b, p0o, none⟩, .int .i64 pe), (⟨p0b, p0o + 1, none⟩, .int .i64 pq)]) (fun _ => false) (by kernel_rfl) ?_
              have hSss5 := Cells.drew hC0
              have hB_0_s5 : Below w6.heap.size w6 w6.drew := below_drew _
              generalize w6.drew = s5 at hSss5 hB_0_s5 ⊢
              have hB_s5_s5 := Below.refl s5.heap.size s5
              refine wpAnyT_pure (i := 0) (v := ?_) rfl (by kernel_rfl) (by kernel_rfl) (by kernel_rfl) (fun _ _ _ h => h) (by rfl) ?_ ?_
              rotate_left
              · intro w; go_simp; try with_reducible rfl
              simp only [Act.put, rgA, rgB, rgC, rgD, rgE, rgF]
              refine wpAnyT_pure (i := 1) (v := (.bool false)) rfl (by kernel_rfl) (by kernel_rfl) (by kernel_rfl) (fun _ _ _ h => h) (by rfl) ?_ ?_
              · intro w; have hq := HNZ.out; clear HNZ; go_simp; try (simpa using hq)
              simp only [Act.put, rgA, rgB, rgC, rgD, rgE, rgF]
              refine wpAnyT_pure (i := 2) (v := ?_) rfl (by kernel_rfl) (by kernel_rfl) (by kernel_rfl) (fun _ _ _ h => h) (by rfl) ?_ ?_
              rotate_left
              · intro w; go_simp; try with_reducible rfl
              simp only [Act.put, rgA, rgB, rgC, rgD, rgE, rgF]
              refine wpAnyT_pure (i := 3) (v := ?_) rfl (by kernel_rfl) (by kernel_rfl) (by kernel_rfl) (fun _ _ _ h => h) (by rfl) ?_ ?_
              rotate_left
              · intro w; go_simp; try with_reducible rfl
              simp only [Act.put, rgA, rgB, rgC, rgD, rgE, rgF]
              refine wpAnyT_loadW (i := 4) (v := ?_) rfl (by kernel_rfl) (by kernel_rfl) (by kernel_rfl) (by kernel_rfl) (by kernel_rfl) (fun _ _ _ h => h) (Or.inl ⟨by rfl, ?_⟩) hSss5 ?_
              rotate_left
              · intro w hSw; obtain ⟨e0, e1, e2, e3, e4, -⟩ := hSw; go_simp; try with_reducible rfl
              simp only [Act.put, rgA, rgB, rgC, rgD, rgE, rgF]
              refine wpAnyT_one (i := 5) (by kernel_rfl) rfl (by rfl) ?_
              have hbP := below_step HB6.out (hB_0_s5.trans ((hB_s5_s5).mono hB_0_s5.size))
              refine wp_enter (f := 16) (args := #[.slice av U.length cv, .agg #[.int .i64 xe, .int .i64 xl]]) (by go_simp) (in28 (S := fun b => b < s5.heap.size) s5 av cv U ⟨xe, xl⟩ ((HO.out.below hbP).rd _ (fun _ h => h.elim) (fun b hb => ((HO.out.below hbP).own b hb).2)) (fun b hb => hb)) ?_
              rw [decide_eq_false HNU.out]
              rintro e w106 ⟨rfl, hX⟩
              clear hbP
              have hB_s5_w106 := below_step hB_s5_s5 hX
              have hB_w106_w106 := Below.refl w106.heap.size w106
              have hSsw106 := Cells.below hB_s5_w106 hSss5
              clear hX
              refine ⟨_, rfl, fun _ _ => hSsw106, ?_⟩
              try simp only [Act.put, rgA, rgB, rgC, rgD, rgE, rgF]
              refine wpAnyT_pure (i := 6) (v := ?_) rfl (by kernel_rfl) (by kernel_rfl) (by kernel_rfl) (fun _ _ _ h => h) (by rfl) ?_ ?_
              rotate_left
              · intro w; go_simp; try with_reducible rfl
              simp only [Act.put, rgA, rgB, rgC, rgD, rgE, rgF]
              refine wpAnyT_pure (i := 7) (v := ?_) rfl (by kernel_rfl) (by kernel_rfl) (by kernel_rfl) (fun _ _ _ h => h) (by rfl) ?_ ?_
              rotate_left
              · intro w; go_simp; try with_reducible rfl
              simp only [Act.put, rgA, rgB, rgC, rgD, rgE, rgF]
              refine wpAnyT_pure (i := 8) (v := ?_) rfl (by kernel_rfl) (by kernel_rfl) (by kernel_rfl) (fun _ _ _ h => h) (by rfl) ?_ ?_
              rotate_left
              · intro w; go_simp; try with_reducible rfl
              simp only [Act.put, rgA, rgB, rgC, rgD, rgE, rgF]
              refine wpAnyT_pure (i := 10) (v := ?_) rfl (by kernel_rfl) (by kernel_rfl) (by kernel_rfl) (fun _ _ _ h => h) (by rfl) ?_ ?_
              rotate_left
              · intro w; go_simp; try with_reducible rfl
              simp only [Act.put, rgA, rgB, rgC, rgD, rgE, rgF]
              refine wpAnyT_pure (i := 11) (v := ?_) rfl (by kernel_rfl) (by kernel_rfl) (by kernel_rfl) (fun _ _ _ h => h) (by rfl) ?_ ?_
              rotate_left
              · intro w; go_simp; try with_reducible rfl
              simp only [Act.put, rgA, rgB, rgC, rgD, rgE, rgF]
              refine wpAnyT_pure (i := 18) (v := ?_) rfl (by kernel_rfl) (by kernel_rfl) (by kernel_rfl) (fun _ _ _ h => h) (by rfl) ?_ ?_
              rotate_left
              · intro w; go_simp; try with_reducible rfl
              simp only [Act.put, rgA, rgB, rgC, rgD, rgE, rgF]
              refine wpAnyT_pure (i := 19) (v := ?_) rfl (by kernel_rfl) (by kernel_rfl) (by kernel_rfl) (fun _ _ _ h => h) (by rfl) ?_ ?_
              rotate_left
              · intro w; go_simp; try with_reducible rfl
              simp only [Act.put, rgA, rgB, rgC, rgD, rgE, rgF]
              refine wpAnyT_loadW (i := 12) (v := ?_) rfl (by kernel_rfl) (by kernel_rfl) (by kernel_rfl) (by kernel_rfl) (by kernel_rfl) (fun _ _ _ h => h) (Or.inl ⟨by rfl, ?_⟩) hSsw106 ?_
              rotate_left
              · intro w hSw; obtain ⟨e0, e1, e2, e3, e4, -⟩ := hSw; go_simp; try with_reducible rfl
              simp only [Act.put, rgA, rgB, rgC, rgD, rgE, rgF]
              refine wpAnyT_pure (i := 13) (v := ?_) rfl (by kernel_rfl) (by kernel_rfl) (by kernel_rfl) (fun _ _ _ h => h) (by rfl) ?_ ?_
              rotate_left
              · intro w; go_simp; try with_reducible rfl
              simp only [Act.put, rgA, rgB, rgC, rgD, rgE, rgF]
              refine wpAnyT_loadW (i := 14) (v := ?_) rfl (by kernel_rfl) (by kernel_rfl) (by kernel_rfl) (by kernel_rfl) (by kernel_rfl) (fun _ _ _ h => h) (Or.inl ⟨by rfl, ?_⟩) hSsw106 ?_
              rotate_left
              · intro w hSw; obtain ⟨e0, e1, e2, e3, e4, -⟩ := hSw; go_simp; try with_reducible rfl
              simp only [Act.put, rgA, rgB, rgC, rgD, rgE, rgF]
              refine wpAnyT_loadW (i := 20) (v := ?_) rfl (by kernel_rfl) (by kernel_rfl) (by kernel_rfl) (by kernel_rfl) (by kernel_rfl) (fun _ _ _ h => h) (Or.inl ⟨by rfl, ?_⟩) hSsw106 ?_
              rotate_left
              · intro w hSw; obtain ⟨e0, e1, e2, e3, e4, -⟩ := hSw; go_simp; try with_reducible rfl
              simp only [Act.put, rgA, rgB, rgC, rgD, rgE, rgF]
              refine wpAnyT_pure (i := 21) (v := ?_) rfl (by kernel_rfl) (by kernel_rfl) (by kernel_rfl) (fun _ _ _ h => h) (by rfl) ?_ ?_
              rotate_left
              · intro w; go_simp; try with_reducible rfl
              simp only [Act.put, rgA, rgB, rgC, rgD, rgE, rgF]
              refine wpAnyT_pure (i := 9) (v := (.bool sn)) rfl (by kernel_rfl) (by kernel_rfl) (by kernel_rfl) (fun _ _ _ h => h) (by rfl) ?_ ?_
              · intro w; have hq := HSN.out; clear HSN; go_simp; try (exact hq)
              simp only [Act.put, rgA, rgB, rgC, rgD, rgE, rgF]
              refine wpAnyT_pure (i := 22) (v := (.bool nb)) rfl (by kernel_rfl) (by kernel_rfl) (by kernel_rfl) (fun _ _ _ h => h) (by rfl) ?_ ?_
              · intro w; have hq := HNI.out; clear HNI; go_simp; try (first | exact hq | omega | (rw [← hq]; simp; omega) | (rw [← hq]; simp))
              simp only [Act.put, rgA, rgB, rgC, rgD, rgE, rgF]
              refine wpAnyT_one (i := 15) (by kernel_rfl) rfl (by rfl) ?_
              have hbP := below_step HBG.out (below_step HB6.out (hB_0_s5.trans ((hB_s5_w106).mono hB_0_s5.size)))
              refine wp_enter (f := 15) (args := #[.slice a0 l.length k0, .agg #[.int .i64 pe, .int .i64 pq]]) (by go_simp) (amount28 w106 a0 k0 l ⟨pe, pq⟩ (H0.out.below hbP (fun b hb => hb)) (fun b hb => Nat.lt_of_lt_of_le hb hbP.size)) ?_
              rintro e w107 ⟨rfl, hX⟩
              clear hbP
              have hB_s5_w107 := below_step hB_s5_w106 hX
              have hB_w106_w107 := below_step hB_w106_w106 hX
              have hB_w107_w107 := Below.refl w107.heap.size w107
              have hSsw107 := Cells.below hB_s5_w107 hSss5
              clear hX
              refine ⟨_, rfl, fun _ _ => hSsw107, ?_⟩
              try simp only [Act.put, rgA, rgB, rgC, rgD, rgE, rgF]
              refine wpAnyT_pure (i := 16) (v := (.bool s)) rfl (by kernel_rfl) (by kernel_rfl) (by kernel_rfl) (fun _ _ _ h => h) (by rfl) ?_ ?_
              · intro w; have hq := HS0.out; clear HS0; go_simp; try (exact hq)
              simp only [Act.put, rgA, rgB, rgC, rgD, rgE, rgF]
              refine wpAnyT_pure (i := 17) (v := (.bool nb)) rfl (by kernel_rfl) (by kernel_rfl) (by kernel_rfl) (fun _ _ _ h => h) (by rfl) ?_ ?_
              · intro w; have hq := HNB.out; clear HNB; go_simp; try (first | exact hq | (rw [← hq]; cases sn <;> cases s <;> rfl))
              simp only [Act.put, rgA, rgB, rgC, rgD, rgE, rgF]
              refine wpAnyT_pure (i := 23) (v := (.bool false)) rfl (by kernel_rfl) (by kernel_rfl) (by kernel_rfl) (fun _ _ _ h => h) (by rfl) ?_ ?_
              · intro w; go_simp; try (first | rfl | (cases nb <;> rfl))
              simp only [Act.put, rgA, rgB, rgC, rgD, rgE, rgF]
              refine wpAnyT_pure (i := 24) (v := ?_) rfl (by kernel_rfl) (by kernel_rfl) (by kernel_rfl) (fun _ _ _ h => h) (by rfl) ?_ ?_
              rotate_left
              · intro w; go_simp; try with_reducible rfl
              simp only [Act.put, rgA, rgB, rgC, rgD, rgE, rgF]
              refine wpAnyT_done (by kernel_rfl) ?_ _
              have HBE := Lib.hid (below_step HB6.out (hB_0_s5.trans ((hB_s5_w107).mono hB_0_s5.size)))
              have hq0 := (hSsw107).2.1
              have hq1 := (hSsw107).2.2.1
              obtain ⟨wE, rfl⟩ : ∃ q, q = w107 := ⟨_, rfl⟩
              have hwE := HBE.out.size
              have hw4r := HB2'.out.size
              go_wp2_with (at_builtin; go_must (refine wpList_app _ rfl _ _ 37 rfl (e := refT) (te := 41) info_ref Try.underlying37 rfl (by decide) (v := .slice av U.length cv) rfl ((HO.out.below HBE.out).alloc _) (by simp only [World.size_alloc]; omega) rfl (ys := [R2.d ⟨xe, xl⟩]) (Src.new _ [_, _] _ _ _) (RdL.one (e := refT) (ref_rd (r := ⟨xe, xl⟩) HXOK.out)) (by have := HLU.out; rw [List.length_map]; simp only [List.length_cons, List.length_nil]; omega) (by have := HLU.out; rw [List.length_map]; simp only [List.length_cons, List.length_nil]; omega) ?_); intro v' wF O1 g1 _ hob; obtain ⟨aF, lF, cF, rfl, -⟩ := O1.slice; have HO1 := Lib.hid O1; have HG1 := Lib.hid g1; have HOB := Lib.hid hob; clear O1 g1 hob)
              go_roundw
              case rel =>
                refine ⟨i + 1, aF, lF, cF, HIL.out, by go_num, rfl, by rw [HSU.out], ?_, ?_, ?_, ?_, ?_⟩
                · rw [HTA.out, ← List.append_assoc, HUE.out, List.map_append]; exact HO1.out
                · exact ((HOA2.out.below HBE.out).alloc _).gr (Gr.of_grown HG1.out) (fun _ h => h.elim) (fun b hb e => (HSEP2.out b e).1 hb)
                · intro b hb
                  rcases HOB.out with h | h
                  · rw [h] at hb; exact HSEP2.out b hb
                  · rw [h] at hb
                    cases hb
                    refine ⟨fun e => ?_, fun e => ?_⟩
                    · have := (HOA2.out.own _ e).2; simp only [World.size_alloc] at this; omega
                    · have := World.block_lt_of_cell? _ _ HX2.out.1; simp only [World.size_alloc] at *; omega
                · have hg := Gr.of_grown HG1.out
                  have hba := (Below.refl wE.heap.size wE).alloc (Nat.le_refl _) (.cells #[.int .i64 xe, .int .i64 xl] 41)
                  exact ⟨hg.cell (cell_below (cell_below HX2.out.1 HBE.out) hba) (fun e => (HSEP2.out _ e).2 rfl), hg.cell (cell_below (cell_below HX2.out.2 HBE.out) hba) (fun e => (HSEP2.out _ e).2 rfl)⟩
                · exact ((below_step HB2'.out HBE.out).alloc (by omega) _).grown HG1.out (by simp only [World.size_alloc]; omega) (fun c hc => (HO.out.own c hc).1)
              case measure => have := HIL.out; simp [intOf]; try omega
          · obtain rfl : i = all.length := by omega
            have hiI : ¬ ((all.length : Nat) : Int) < (all.length : Int) := by omega
            have htot : ((itemsP l r (pl, pr)).take all.length).sum = (pl.map (amtOf l)).sum + (pr.map (amtOf r)).sum := by
              rw [List.take_of_length_le (by unfold itemsP; simp [← HALL.out])]
              unfold itemsP
              rw [List.sum_append]
            have hfit := HFP.out.2.2.2.2
            simp only at hfit
            rw [← htot] at hfit
            have hO' := hO
            rw [List.take_length] at hO'
            have HOE := Lib.hid hO'
            clear hO' htot
            obtain ⟨ss, hss⟩ : ∃ q, ((itemsP l r (pl, pr)).take all.length).sum = q := ⟨_, rfl⟩
            rw [hss] at hfit
            simp only [hss]
            unfold szI at hfit
            have hf1 : ¬ n < ss := by omega
            have hf2 : ¬ n < -ss := by omega
            have hf3 : -65535 ≤ ss ∧ ss ≤ 65535 := by omega
            clear hO hOA hsep hX hB hil hi hss hfit
            go_wp2_with fail
            go_roundw
            case rel =>
              refine ⟨k + 1, av, lv, cv, HKL.out, by go_num, rfl, ?_, HB2'.out⟩
              rw [HTK.out, refsP_snoc, show ((pl, pr) : P2).1 ++ ((pl, pr) : P2).2 = all from HALL.out]
              exact HOE.out
            case measure => have := HKL.out; simp [intOf]; try omega
    · obtain rfl : k = out.length := by omega
      have hkI : ¬ ((out.length : Nat) : Int) < (out.length : Int) := by omega
      have HBE := Lib.hid (below_step HB4.out hB)
      clear hO hB hkl hk
      go_wp2_with fail
      go_ret
      exact ⟨rfl, HBE.out⟩
end Go.Proofs.Ytpobckedeffjmaa
