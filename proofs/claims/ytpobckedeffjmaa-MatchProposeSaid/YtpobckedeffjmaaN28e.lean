/- Layer 28: the reference's Propose. -/
import Derived.Test.YtpobckedeffjmaaN28b
import Derived.Test.YtpobckedeffjmaaN28f
set_option linter.unusedSimpArgs false
set_option maxRecDepth 50000
namespace Go.Proofs.Ytpobckedeffjmaa
open Go.RowKit Go

theorem info_rpair : (Try.prog.info? 88).map (fun i => (i.zero, i.size, i.bytes)) = some (some (.agg #[.slice none 0 0, .slice none 0 0]), pairT.sz, 48) := by kernel_rfl
/-- What the reference has found and used, in memory. -/
structure RP (base : Nat) (W : World) (vo vu : Value) (s : RS) : Prop where
  o : ∃ S, Owns pairT 88 base S W vo (s.1.map pairD) ∧ ∀ b, S b → base ≤ b ∧ vu.ownBlock ≠ some b
  u : Owns refT 41 base (fun _ => False) W vu (s.2.map R2.d)
  d : ∀ b, vu.ownBlock = some b → vo.ownBlock ≠ some b
theorem RP.below {base : Nat} {W W' : World} {vo vu : Value} {s : RS} (h : RP base W vo vu s) (hB : Below W.heap.size W W') : RP base W' vo vu s := by
  obtain ⟨S, hO, hS⟩ := h.o
  exact ⟨⟨S, hO.below hB, hS⟩, h.u.below hB, h.d⟩
theorem RP.pushU {base : Nat} {W W' : World} {vo vu vu' : Value} {s : RS} {u' : List R2} (h : RP base W vo vu s) (hg : W.grownBy W' vu.ownBlock) (hO' : Owns refT 41 base (fun _ => False) W' vu' (u'.map R2.d))
    (hb : vu'.ownBlock = vu.ownBlock ∨ vu'.ownBlock = some W.heap.size) : RP base W' vo vu' (s.1, u') := by
  obtain ⟨S, hO, hS⟩ := h.o
  refine ⟨⟨S, hO.gr (Gr.of_grown hg) (fun b hb e => (hS b hb).2 e) (fun b hb e => h.d b e hb), fun b hb' => ⟨(hS b hb').1, fun e => ?_⟩⟩, hO', fun b e1 e2 => ?_⟩
  · rcases hb with hb | hb
    · exact (hS b hb').2 (hb ▸ e)
    · have := (hO.bound b hb').2; rw [hb] at e; cases e; omega
  · rcases hb with hb | hb
    · exact h.d b (hb ▸ e1) e2
    · have := (hO.own b e2).2; rw [hb] at e1; cases e1; omega
theorem RP.pushO {base : Nat} {W W' : World} {vo vo' vu : Value} {s : RS} {p : P2} {S' : Nat → Prop} (h : RP base W vo vu s) (hg : W.grownBy W' vo.ownBlock) (hO' : Owns pairT 88 base S' W' vo' ((s.1 ++ [p]).map pairD))
    (hS' : ∀ b, S' b → base ≤ b ∧ vu.ownBlock ≠ some b) (hb : vo'.ownBlock = vo.ownBlock ∨ vo'.ownBlock = some W.heap.size) : RP base W' vo' vu (s.1 ++ [p], s.2) := by
  refine ⟨⟨S', hO', hS'⟩, h.u.gr (Gr.of_grown hg) (fun _ h => h.elim) (fun b hb e => h.d b hb e), fun b e1 e2 => ?_⟩
  rcases hb with hb | hb
  · exact h.d b e1 (hb ▸ e2)
  · have := (h.u.own b e1).2; rw [hb] at e2; cases e2; omega
theorem mset_len (x tol : Int) (ls : List O3) : (mset x tol ls).length ≤ 12 := by
  unfold mset
  split
  · simp
  · rename_i ps h
    unfold manyN at h
    obtain ⟨n, hn, hp⟩ := List.exists_of_findSome?_eq_some h
    unfold chooseN at hp
    have h1 := (combL_sub _ _ (List.mem_of_find?_eq_some hp)).2
    rw [List.mem_range'_1, List.length_take] at hn
    unfold refsM
    rw [List.length_map]
    omega
theorem againstL_sub {x : Int} {l : List O3} {y : O3} (h : y ∈ againstL x l) : y ∈ l := (List.mem_filter.1 h).1
theorem withoutL_sub {u : List R2} {l : List O3} {y : O3} (h : y ∈ withoutL l u) : y ∈ l := (List.mem_filter.1 h).1
set_option maxHeartbeats 8000000 in
theorem rpropose28 {S : Nat → Prop} (w : World) (a1 : Option Addr) (c1 : Nat) (l : List O3) (a2 : Option Addr) (c2 : Nat) (r : List O3) (tol : Int) (hl : l.length ≤ 12) (hr : r.length ≤ 12)
    (h1 : Rd (.sl openT) S w [.slice a1 l.length c1] (l.map O3.d)) (h2 : Rd (.sl openT) S w [.slice a2 r.length c2] (r.map O3.d)) (hS : ∀ b, S b → b < w.heap.size) :
    Calls Try.prog 12 #[.slice a1 l.length c1, .slice a2 r.length c2, .int .i64 tol] w fun e w' => ∃ v, e = .returned (.tuple #[v, .int .i64 (propM l r tol).2]) ∧ Rd (.sl pairT) (fun b => w.heap.size ≤ b ∧ b < w'.heap.size) w' [v] ((propM l r tol).1.map pairD) ∧ Below w.heap.size w w' := by
  have HV := Lib.hid (rvalid28 w a1 c1 l a2 c2 r hl hr h1 h2 hS)
  have H1 := Lib.hid h1
  have H2 := Lib.hid h2
  have HS := Lib.hid hS
  obtain ⟨lb, hlb⟩ : ∃ x, linesB l r = x := ⟨_, rfl⟩
  rw [hlb] at HV
  have HLB := Lib.hid hlb
  clear h1 h2 hS hlb
  go_enter Try.func12, Try.ntmps12
  go_wp2_with fail
  refine HV.out.mono ?_
  rintro e w1 ⟨rfl, hB1⟩
  cases lb with
  | false =>
    go_wp2_with fail
    go_ret2
    refine ⟨.slice none 0 0, by rw [show (propM l r tol).2 = 1 from by unfold propM; rw [HLB.out, if_pos rfl]]; rfl, ?_, hB1⟩
    rw [show (propM l r tol).1 = [] from by unfold propM; rw [HLB.out, if_pos rfl]]
    exact (Owns.nil pairT 0 0 w1).rd _ (fun _ h => h.elim) (fun _ h => by cases h)
  | true =>
    by_cases ht0 : tol < 0
    case pos =>
      go_wp2_with fail
      go_ret2
      refine ⟨.slice none 0 0, by rw [show (propM l r tol).2 = 2 from by unfold propM; rw [HLB.out, if_neg (by decide), if_pos (Or.inl ht0)]]; rfl, ?_, hB1⟩
      rw [show (propM l r tol).1 = [] from by unfold propM; rw [HLB.out, if_neg (by decide), if_pos (Or.inl ht0)]]
      exact (Owns.nil pairT 0 0 w1).rd _ (fun _ h => h.elim) (fun _ h => by cases h)
    by_cases ht1 : 1000000000000 < tol
    case pos =>
      go_wp2_with fail
      go_ret2
      refine ⟨.slice none 0 0, by rw [show (propM l r tol).2 = 2 from by unfold propM; rw [HLB.out, if_neg (by decide), if_pos (Or.inr ht1)]]; rfl, ?_, hB1⟩
      rw [show (propM l r tol).1 = [] from by unfold propM; rw [HLB.out, if_neg (by decide), if_pos (Or.inr ht1)]]
      exact (Owns.nil pairT 0 0 w1).rd _ (fun _ h => h.elim) (fun _ h => by cases h)
    have HPM := Lib.hid (show propM l r tol = ((rs3 l r tol).1, 0) from by unfold propM; rw [HLB.out, if_neg (by decide), if_neg (by rintro (h | h) <;> contradiction), ref_eq tol HLB.out])
    obtain ⟨ham1, ham2, -, -⟩ := linesB_true HLB.out
    have HA1 := Lib.hid ham1
    have HA2 := Lib.hid ham2
    have HB1 := Lib.hid hB1
    clear ham1 ham2 hB1 HV
    go_wp2_with fail
    go_loopw [8, 9, 10] (fun v1 v2 iv wr => ∃ (k : Nat) (s : RS) (oa : Option Addr) (ol oc : Nat) (ua : Option Addr) (uc : Nat), k ≤ l.length ∧ iv = .int .i64 (k : Int) ∧ v1 = .slice oa ol oc ∧ v2 = .slice ua s.2.length uc ∧ s = (l.take k).foldl (rOne r tol) ([], []) ∧ RP w1.heap.size wr (.slice oa ol oc) (.slice ua s.2.length uc) s ∧ (s.1.length ≤ k ∧ s.2.length ≤ 2 * k) ∧ Below w1.heap.size w1 wr) (fun _ _ iv _ => l.length - (intOf iv).toNat)
    case atStart => exact ⟨0, ([], []), none, 0, 0, none, 0, Nat.zero_le _, rfl, rfl, rfl, rfl, ⟨⟨fun _ => False, Owns.nil _ _ _ _, fun _ h => h.elim⟩, Owns.nil _ _ _ _, fun _ h => (by cases h)⟩, ⟨Nat.le_refl _, Nat.le_refl _⟩, Below.refl _ _⟩
    case round =>
      obtain ⟨k, s, oa, ol, oc, ua, uc, hk, rfl, rfl, rfl, hs, hRP, hln, hB⟩ := hrel
      have HRP := Lib.hid hRP
      have HB := Lib.hid hB
      have HSE := Lib.hid hs
      have HLN := Lib.hid hln
      have HBW := Lib.hid (below_step HB1.out hB)
      by_cases hkl : k < l.length
      · have hkI : (k : Int) < (l.length : Int) := by omega
        obtain ⟨b, off, rfl, hbS, m0, m1, m2, hok⟩ := open_at (H1.out.below HBW.out HS.out) k hkl
        have HTK := Lib.hid (show (l.take (k + 1)).foldl (rOne r tol) ([], []) = rOne r tol s l[k] from by rw [List.take_succ_eq_append_getElem hkl, List.foldl_append, ← hs]; rfl)
        have hxa := HA1.out _ (List.getElem_mem hkl)
        have HKL := Lib.hid hkl
        have HBS := Lib.hid (HS.out b hbS)
        generalize l[k] = x at m0 m1 m2 hok HTK hxa
        obtain ⟨⟨xe, xl⟩, xn⟩ := x
        simp only at m0 m1 m2 hxa
        have HOK := Lib.hid hok.1
        have HXA := Lib.hid hxa
        obtain ⟨ls, hls⟩ : ∃ q, againstL xn (withoutL r s.2) = q := ⟨_, rfl⟩
        have HLS := Lib.hid hls
        have HRO := Lib.hid (show rOne r tol s ⟨⟨xe, xl⟩, xn⟩ = (match bestL xn tol ls with | none => s | some y => (s.1 ++ [([(⟨xe, xl⟩ : R2)], [y.r])], s.2 ++ [⟨xe, xl⟩, y.r])) from by unfold rOne; rw [hls]; rfl)
        have hlsl : ls.length ≤ 12 := by rw [← hls]; have h1 := againstL_len xn (withoutL r s.2); have h2 := withoutL_len s.2 r; omega
        have HLA := Lib.hid (show ∀ y ∈ ls, amtB y.n = true from fun y hy => HA2.out y (withoutL_sub (againstL_sub (by rw [hls]; exact hy))))
        have hC0 : Cells [(⟨b, off + k * 3, none⟩, .int .i64 xe), (⟨b, off + k * 3 + 1, none⟩, .int .i64 xl), (⟨b, off + k * 3 + 2, none⟩, .int .i64 xn)] wr := ⟨m0, m1, m2, trivial⟩
        clear hB hs hkl hk m0 m1 m2 hok hRP hln hbS hxa hls
        go_wp2_with fail
        refine wp_region_T (Cells [(⟨b, off + k * 3, none⟩, .int .i64 xe), (⟨b, off + k * 3 + 1, none⟩, .int .i64 xl), (⟨b, off + k * 3 + 2, none⟩, .int .i64 xn)]) (fun _ => false) (by kernel_rfl) ?_
        have hSss1 := Cells.drew hC0
        have hB_0_s1 : Below wr.heap.size wr wr.drew := below_drew _
        generalize wr.drew = s1 at hSss1 hB_0_s1 ⊢
        have hB_s1_s1 := Below.refl s1.heap.size s1
        refine wpAnyT_pure (i := 0) (v := ?_) rfl (by kernel_rfl) (by kernel_rfl) (by kernel_rfl) (fun _ _ _ h => h) (by rfl) ?_ ?_
        rotate_left
        · intro w; go_simp; try with_reducible rfl
        simp only [Act.put, rgA, rgB, rgC, rgD, rgE, rgF]
        refine wpAnyT_pure (i := 1) (v := ?_) rfl (by kernel_rfl) (by kernel_rfl) (by kernel_rfl) (fun _ _ _ h => h) (by rfl) ?_ ?_
        rotate_left
        · intro w; go_simp; try with_reducible rfl
        simp only [Act.put, rgA, rgB, rgC, rgD, rgE, rgF]
        refine wpAnyT_pure (i := 2) (v := ?_) rfl (by kernel_rfl) (by kernel_rfl) (by kernel_rfl) (fun _ _ _ h => h) (by rfl) ?_ ?_
        rotate_left
        · intro w; go_simp; try with_reducible rfl
        simp only [Act.put, rgA, rgB, rgC, rgD, rgE, rgF]
        refine wpAnyT_pure (i := 4) (v := ?_) rfl (by kernel_rfl) (by kernel_rfl) (by kernel_rfl) (fun _ _ _ h => h) (by rfl) ?_ ?_
        rotate_left
        · intro w; go_simp; try with_reducible rfl
        simp only [Act.put, rgA, rgB, rgC, rgD, rgE, rgF]
        refine wpAnyT_pure (i := 5) (v := ?_) rfl (by kernel_rfl) (by kernel_rfl) (by kernel_rfl) (fun _ _ _ h => h) (by rfl) ?_ ?_
        rotate_left
        · intro w; go_simp; try with_reducible rfl
        simp only [Act.put, rgA, rgB, rgC, rgD, rgE, rgF]
        refine wpAnyT_loadW (i := 3) (v := ?_) rfl (by kernel_rfl) (by kernel_rfl) (by kernel_rfl) (by kernel_rfl) (by kernel_rfl) (fun _ _ _ h => h) (Or.inl ⟨by rfl, ?_⟩) hSss1 ?_
        rotate_left
        · intro w hSw; obtain ⟨e0, e1, e2, -⟩ := hSw; go_simp; try with_reducible rfl
        simp only [Act.put, rgA, rgB, rgC, rgD, rgE, rgF]
        refine wpAnyT_one (i := 6) (by kernel_rfl) rfl (by rfl) ?_
        have hbP : Below w.heap.size w s1 := below_step HBW.out (hB_0_s1.trans ((hB_s1_s1).mono hB_0_s1.size))
        have hU := HRP.out.u.below (hB_0_s1.trans ((hB_s1_s1).mono hB_0_s1.size))
        refine wp_enter (f := 32) (args := #[.slice a2 r.length c2, .slice ua s.2.length uc]) (by go_simp) (without28 (S := S) (S2 := fun b => b < s1.heap.size) s1 a2 c2 r (by omega) (H2.out.below hbP HS.out) (fun b hb => Nat.lt_of_lt_of_le (HS.out b hb) hbP.size) ua uc s.2 (hU.rd _ (fun _ h => h.elim) (fun b hb => (hU.own b hb).2)) (fun b hb => hb)) ?_
        rintro e w102 ⟨v6, rfl, hO6, hX⟩
        obtain ⟨xa, x6, xc, rfl, hx6, -⟩ := hO6.slice
        rw [List.length_map] at hx6
        subst hx6
        have HO6 := Lib.hid hO6
        clear hbP hU hO6
        have hB_s1_w102 := below_step hB_s1_s1 hX
        have hB_w102_w102 := Below.refl w102.heap.size w102
        have hSsw102 := Cells.below hB_s1_w102 hSss1
        clear hX
        refine ⟨_, rfl, fun _ _ => hSsw102, ?_⟩
        try simp only [Act.put, rgA, rgB, rgC, rgD, rgE, rgF]
        refine wpAnyT_one (i := 7) (by kernel_rfl) rfl (by rfl) ?_
        have hO6 := HO6.out
        refine wp_enter (f := 31) (args := #[.agg #[.int .i64 xe, .int .i64 xl, .int .i64 xn], .slice xa (withoutL r s.2).length xc]) (by go_simp) (against28 (S := fun b => b < w102.heap.size) w102 ⟨⟨xe, xl⟩, xn⟩ xa xc (withoutL r s.2) (by have h2 := withoutL_len s.2 r; omega) (hO6.rd _ (fun _ h => h.elim) (fun b hb => (hO6.own b hb).2)) (fun b hb => hb)) ?_
        rintro e w103 ⟨v7, rfl, hO7, hX⟩
        rw [HLS.out] at hO7
        obtain ⟨la, x7, lc, rfl, hx7, -⟩ := hO7.slice
        rw [List.length_map] at hx7
        subst hx7
        have HO7 := Lib.hid (hO7.base (show wr.heap.size ≤ w102.heap.size from Nat.le_trans hB_0_s1.size (hB_s1_w102).size))
        clear hO7 hO6
        have hB_s1_w103 := below_step hB_s1_w102 hX
        have hB_w102_w103 := below_step hB_w102_w102 hX
        have hB_w103_w103 := Below.refl w103.heap.size w103
        have hSsw103 := Cells.below hB_s1_w103 hSss1
        clear hX
        refine ⟨_, rfl, fun _ _ => hSsw103, ?_⟩
        try simp only [Act.put, rgA, rgB, rgC, rgD, rgE, rgF]
        refine wpAnyT_pure (i := 8) (v := ?_) rfl (by kernel_rfl) (by kernel_rfl) (by kernel_rfl) (fun _ _ _ h => h) (by rfl) ?_ ?_
        rotate_left
        · intro w; go_simp; try with_reducible rfl
        simp only [Act.put, rgA, rgB, rgC, rgD, rgE, rgF]
        refine wpAnyT_done (by kernel_rfl) ?_ _
        have HBA := Lib.hid (show Below wr.heap.size wr w103 from hB_0_s1.trans ((hB_s1_w103).mono hB_0_s1.size))
        obtain ⟨n0, n1, n2, -⟩ := hSsw103
        obtain ⟨wA, rfl⟩ : ∃ q, q = w103 := ⟨_, rfl⟩
        have HN := Lib.hid (And.intro n0 n1)
        have HONE := Lib.hid (rone28 (S := fun b => b < wA.heap.size) wA ⟨⟨xe, xl⟩, xn⟩ la lc ls tol (by omega) HXA.out HLA.out (HO7.out.rd _ (fun _ h => h.elim) (fun b hb => (HO7.out.own b hb).2)) (fun b hb => hb))
        go_wp2_with fail
        refine HONE.out.mono ?_
        rintro e wB ⟨bi, rfl, hbp, hBB⟩
        have HBB := Lib.hid (below_step HBA.out hBB)
        have HO8 := Lib.hid (HO7.out.below hBB)
        have c0 := cell_below HN.out.1 hBB
        have c1 := cell_below HN.out.2 hBB
        have HRPB := Lib.hid (HRP.out.below HBB.out)
        clear hBB n0 n1 n2 HONE HO6
        rcases hbp with ⟨rfl, hb0⟩ | ⟨j, hj, rfl, hbj⟩
        · have HB0 := Lib.hid hb0
          clear hb0 c0 c1
          go_wp2_with fail
          go_roundw
          case rel =>
            have hlN := HLN.out
            refine ⟨k + 1, s, oa, ol, oc, ua, uc, HKL.out, by go_num, rfl, rfl, ?_, HRPB.out, ⟨by omega, by omega⟩, below_step HB.out HBB.out⟩
            rw [HTK.out, HRO.out]
            rw [List.take_length] at HB0
            simp only [HB0.out]
          case measure => have := HKL.out; simp [intOf]; try omega
        · rw [List.take_length] at hbj
          have hjl : j < ls.length := hj
          obtain ⟨yb, yo, hye, -, d0, d1, -, hyok⟩ := open_at (HO8.out.rd (fun b => b < wB.heap.size) (fun _ h => h.elim) (fun b hb => (HO8.out.own b hb).2)) j hjl
          cases hye
          rw [lat_get hjl] at d0 d1 hyok
          have HBJ := Lib.hid hbj
          generalize lat ls j = y at d0 d1 hyok HBJ
          obtain ⟨⟨ye, yl⟩, yn⟩ := y
          simp only at d0 d1 hyok
          have HYOK := Lib.hid hyok.1
          have hj0 : (0 : Int) ≤ (j : Int) := by omega
          have hjI : (j : Int) < (ls.length : Int) := by omega
          have hC1 : Cells [(⟨b, off + k * 3, none⟩, .int .i64 xe), (⟨b, off + k * 3 + 1, none⟩, .int .i64 xl), (⟨yb, yo + j * 3, none⟩, .int .i64 ye), (⟨yb, yo + j * 3 + 1, none⟩, .int .i64 yl)] wB := ⟨c0, c1, d0, d1, trivial⟩
          have HYB := Lib.hid (show yo = 0 ∧ wr.heap.size ≤ yb from by
            rcases HO8.out.len with ⟨h, -⟩ | ⟨g, cap, h, -⟩
            · cases h
            · simp only [Value.slice.injEq, Option.some.injEq, Addr.mk.injEq] at h
              exact ⟨h.1.2.1, (HO8.out.own yb (by obtain ⟨⟨rfl, rfl, -⟩, -⟩ := h; rfl)).1⟩)
          have HC1 := Lib.hid hC1
          clear c0 c1 d0 d1 hyok hbj
          go_wp2_with fail
          have hwB := HBB.out.size
          have hwr := HB.out.size
          obtain ⟨SO, hO, hSO⟩ := HRPB.out.o
          have HO := Lib.hid hO
          have HSO := Lib.hid hSO
          clear hO hSO
          have hlN := HLN.out
          have hkn : k ≤ 12 := by have := HKL.out; omega
          refine wp_cut [52, 53, 54, 55, 56, 57, 58, 59, 60, 61, 62, 63, 64, 65, 66, 67, 8] (fun vs w' => ∃ v52 v53 v54 v55 v56 v57 v58 v59 v60 v61 v62 v63 v64 v65 v66 v67 ca cl20 cc, vs = [v52, v53, v54, v55, v56, v57, v58, v59, v60, v61, v62, v63, v64, v65, v66, v67, .slice ca cl20 cc] ∧ RP w1.heap.size w' (.slice ca cl20 cc) (.slice ua s.2.length uc) (s.1 ++ [([⟨xe, xl⟩], [⟨ye, yl⟩])], s.2) ∧ Below w1.heap.size w1 w' ∧ Gr (fun x => (Value.slice oa ol oc).ownBlock = some x) wB w') ?_ ?_
          · skip
            refine wp_region_T (Cells [(⟨b, off + k * 3, none⟩, .int .i64 xe), (⟨b, off + k * 3 + 1, none⟩, .int .i64 xl), (⟨yb, yo + j * 3, none⟩, .int .i64 ye), (⟨yb, yo + j * 3 + 1, none⟩, .int .i64 yl)]) (fun i => i == 15) (by kernel_rfl) ?_
            have hSss4 := Cells.drew hC1
            have hB_0_s4 : Below wB.heap.size wB wB.drew := below_drew _
            generalize wB.drew = s4 at hSss4 hB_0_s4 ⊢
            have hB_s4_s4 := Below.refl s4.heap.size s4
            refine wpAnyT_pure (i := 0) (v := ?_) rfl (by kernel_rfl) (by kernel_rfl) (by kernel_rfl) (fun _ _ _ h => h) (by rfl) ?_ ?_
            rotate_left
            · intro w; go_simp; try with_reducible rfl
            simp only [Act.put, rgA, rgB, rgC, rgD, rgE, rgF]
            refine wpAnyT_pure (i := 1) (v := ?_) rfl (by kernel_rfl) (by kernel_rfl) (by kernel_rfl) (fun _ _ _ h => h) (by rfl) ?_ ?_
            rotate_left
            · intro w; go_simp; try with_reducible rfl
            simp only [Act.put, rgA, rgB, rgC, rgD, rgE, rgF]
            refine wpAnyT_pure (i := 2) (v := ?_) rfl (by kernel_rfl) (by kernel_rfl) (by kernel_rfl) (fun _ _ _ h => h) (by rfl) ?_ ?_
            rotate_left
            · intro w; go_simp; try with_reducible rfl
            simp only [Act.put, rgA, rgB, rgC, rgD, rgE, rgF]
            refine wpAnyT_pure (i := 3) (v := ?_) rfl (by kernel_rfl) (by kernel_rfl) (by kernel_rfl) (fun _ _ _ h => h) (by rfl) ?_ ?_
            rotate_left
            · intro w; go_simp; try with_reducible rfl
            simp only [Act.put, rgA, rgB, rgC, rgD, rgE, rgF]
            refine wpAnyT_pure (i := 4) (v := ?_) rfl (by kernel_rfl) (by kernel_rfl) (by kernel_rfl) (fun _ _ _ h => h) (by rfl) ?_ ?_
            rotate_left
            · intro w; go_simp; try with_reducible rfl
            simp only [Act.put, rgA, rgB, rgC, rgD, rgE, rgF]
            refine wpAnyT_pure (i := 7) (v := ?_) rfl (by kernel_rfl) (by kernel_rfl) (by kernel_rfl) (fun _ _ _ h => h) (by rfl) ?_ ?_
            rotate_left
            · intro w; go_simp; try with_reducible rfl
            simp only [Act.put, rgA, rgB, rgC, rgD, rgE, rgF]
            refine wpAnyT_pure (i := 8) (v := ?_) rfl (by kernel_rfl) (by kernel_rfl) (by kernel_rfl) (fun _ _ _ h => h) (by rfl) ?_ ?_
            rotate_left
            · intro w; go_simp; try with_reducible rfl
            simp only [Act.put, rgA, rgB, rgC, rgD, rgE, rgF]
            refine wpAnyT_pure (i := 9) (v := ?_) rfl (by kernel_rfl) (by kernel_rfl) (by kernel_rfl) (fun _ _ _ h => h) (by rfl) ?_ ?_
            rotate_left
            · intro w; go_simp; try with_reducible rfl
            simp only [Act.put, rgA, rgB, rgC, rgD, rgE, rgF]
            refine wpAnyT_pure (i := 10) (v := ?_) rfl (by kernel_rfl) (by kernel_rfl) (by kernel_rfl) (fun _ _ _ h => h) (by rfl) ?_ ?_
            rotate_left
            · intro w; go_simp; try with_reducible rfl
            simp only [Act.put, rgA, rgB, rgC, rgD, rgE, rgF]
            refine wpAnyT_loadW (i := 5) (v := ?_) rfl (by kernel_rfl) (by kernel_rfl) (by kernel_rfl) (by kernel_rfl) (by kernel_rfl) (fun _ _ _ h => h) (Or.inl ⟨by rfl, ?_⟩) hSss4 ?_
            rotate_left
            · intro w hSw; obtain ⟨e0, e1, e2, e3, -⟩ := hSw; go_simp; try with_reducible rfl
            simp only [Act.put, rgA, rgB, rgC, rgD, rgE, rgF]
            refine wpAnyT_loadW (i := 11) (v := ?_) rfl (by kernel_rfl) (by kernel_rfl) (by kernel_rfl) (by kernel_rfl) (by kernel_rfl) (fun _ _ _ h => h) (Or.inl ⟨by rfl, ?_⟩) hSss4 ?_
            rotate_left
            · intro w hSw; obtain ⟨e0, e1, e2, e3, -⟩ := hSw; go_simp; try with_reducible rfl
            simp only [Act.put, rgA, rgB, rgC, rgD, rgE, rgF]
            refine wpAnyT_two (i := 6) (k := 12) (by kernel_rfl) rfl rfl (by rfl) (by rfl) ?_ ?_
            · skip
              obtain ⟨b6, hb6⟩ : ∃ b, s4.heap.size = b := ⟨_, rfl⟩
              have hge6 : wB.heap.size ≤ b6 := hb6 ▸ Nat.le_trans (hB_0_s4).size (hB_s4_s4).size
              refine wp_newrow (v := .slice (some ⟨b6, 0, none⟩) 1 1) (cs := #[.int .i64 xe, .int .i64 xl]) (te := 41) (by rw [← hb6]; go_simp) ?_
              intro w105 hX hN6
              rw [hb6] at hN6
              have hB_s4_w105 := below_step hB_s4_s4 hX
              have hB_w105_w105 := Below.refl w105.heap.size w105
              have hSsw105 := Cells.below hB_s4_w105 hSss4
              clear hX
              refine ⟨fun _ _ => hSsw105, ?_⟩
              try simp only [Act.put, rgA, rgB, rgC, rgD, rgE, rgF]
              refine wpAnyT_one (i := 12) (by kernel_rfl) rfl (by rfl) ?_
              obtain ⟨b12, hb12⟩ : ∃ b, w105.heap.size = b := ⟨_, rfl⟩
              have hge12 : wB.heap.size ≤ b12 := hb12 ▸ Nat.le_trans (hB_0_s4).size (hB_s4_w105).size
              refine wp_newrow (v := .slice (some ⟨b12, 0, none⟩) 1 1) (cs := #[.int .i64 ye, .int .i64 yl]) (te := 41) (by rw [← hb12]; go_simp) ?_
              intro w106 hX hN12
              rw [hb12] at hN12
              have hB_s4_w106 := below_step hB_s4_w105 hX
              have hB_w105_w106 := below_step hB_w105_w105 hX
              have hB_w106_w106 := Below.refl w106.heap.size w106
              have hSsw106 := Cells.below hB_s4_w106 hSss4
              clear hX
              refine ⟨fun _ _ => hSsw106, ?_⟩
              try simp only [Act.put, rgA, rgB, rgC, rgD, rgE, rgF]
              refine wpAnyT_pure (i := 13) (v := ?_) rfl (by kernel_rfl) (by kernel_rfl) (by kernel_rfl) (fun _ _ _ h => h) (by rfl) ?_ ?_
              rotate_left
              · intro w; go_simp; try with_reducible rfl
              simp only [Act.put, rgA, rgB, rgC, rgD, rgE, rgF]
              refine wpAnyT_one (i := 14) (by kernel_rfl) rfl (by rfl) ?_
              obtain ⟨b14, hb14⟩ : ∃ b, w106.heap.size = b := ⟨_, rfl⟩
              have hge14 : wB.heap.size ≤ b14 := hb14 ▸ Nat.le_trans (hB_0_s4).size (hB_s4_w106).size
              refine wp_newrow (v := .slice (some ⟨b14, 0, none⟩) 1 1) (cs := #[.slice (some ⟨b6, 0, none⟩) 1 1, .slice (some ⟨b12, 0, none⟩) 1 1]) (te := 88) (by rw [← hb14]; go_simp) ?_
              intro w107 hX hN14
              rw [hb14] at hN14
              have hB_s4_w107 := below_step hB_s4_w106 hX
              have hB_w105_w107 := below_step hB_w105_w106 hX
              have hB_w106_w107 := below_step hB_w106_w106 hX
              have hB_w107_w107 := Below.refl w107.heap.size w107
              have hSsw107 := Cells.below hB_s4_w107 hSss4
              clear hX
              refine ⟨fun _ _ => hSsw107, ?_⟩
              try simp only [Act.put, rgA, rgB, rgC, rgD, rgE, rgF]
              refine wpAnyT_one (i := 15) (by kernel_rfl) rfl (by rfl) ?_
              have hq6 := ((hB_w105_w107).block _ (blk_lt hN6)).trans hN6
              have hq12 := ((hB_w106_w107).block _ (blk_lt hN12)).trans hN12
              have hq14 := ((hB_w107_w107).block _ (blk_lt hN14)).trans hN14
              have hbP : Below wB.heap.size wB w107 := hB_0_s4.trans ((hB_s4_w107).mono (hB_0_s4).size)
              have hO20 := HO.out.below hbP
              have hO21 : Owns pairT 88 w1.heap.size (fun b => SO b ∨ b = b6 ∨ b = b12) w107 (.slice oa ol oc) _ := hO20.mono (fun _ h => .inl h) (fun b hb => by
                rcases hb with hb | rfl | rfl
                · exact hO20.bound b hb
                · exact ⟨fun e => by have := (HO.out.own _ e).2; omega, blk_lt hq6⟩
                · exact ⟨fun e => by have := (HO.out.own _ e).2; omega, blk_lt hq12⟩)
              have hrd : Rd pairT (fun b => SO b ∨ b = b6 ∨ b = b12) w107 [.slice (some ⟨b6, 0, none⟩) 1 1, .slice (some ⟨b12, 0, none⟩) 1 1] (pairD ([⟨xe, xl⟩], [⟨ye, yl⟩])) := pair_rd (p := ([⟨xe, xl⟩], [⟨ye, yl⟩])) (ref1_rd (x := ⟨xe, xl⟩) hq6 HOK.out (.inr (.inl rfl))) (ref1_rd (x := ⟨ye, yl⟩) hq12 HYOK.out (.inr (.inr rfl)))
              refine wp_app (.tmp 52) (.tmp 66) 30 rfl (e := pairT) (te := 88) info_rpair Try.underlying30 rfl (by decide) (base := w1.heap.size) (S := fun b => SO b ∨ b = b6 ∨ b = b12) (v := .slice oa ol oc) (xs := s.1.map pairD) (by kernel_rfl) hO21 (by have := hbP.size; omega) (sv := .slice (some ⟨b14, 0, none⟩) 1 1) (by kernel_rfl) (ys := [pairD ([⟨xe, xl⟩], [⟨ye, yl⟩])]) (Src.of_cells (news := [.slice (some ⟨b6, 0, none⟩) 1 1, .slice (some ⟨b12, 0, none⟩) 1 1]) (fun j u hu => by rw [Nat.zero_add, blk_cell hq14]; simpa using hu)) (RdL.one (e := pairT) hrd) (by simp only [List.length_map, List.length_cons, List.length_nil]; omega) (by simp only [List.length_map, List.length_cons, List.length_nil]; omega) ?_
              intro ca cl20 cc w108 O20 g20 ob20
              have HRPC := Lib.hid ((HRPB.out.below hbP).pushO (p := ([⟨xe, xl⟩], [⟨ye, yl⟩])) g20 (by rw [List.map_append]; exact O20) (fun b hb => by
                rcases hb with hb | rfl | rfl
                · exact HSO.out b hb
                · exact ⟨by omega, fun e => by have := (HRPB.out.u.own _ e).2; omega⟩
                · exact ⟨by omega, fun e => by have := (HRPB.out.u.own _ e).2; omega⟩) ob20)
              have HBC := Lib.hid (show Below w1.heap.size w1 w108 from (below_step HB.out (below_step HBB.out hbP)).grown g20 (by have := hbP.size; omega) (fun c hc => (HO.out.own c hc).1))
              have HGC := Lib.hid ((Gr.of_below hbP).grown (F := fun x => (Value.slice oa ol oc).ownBlock = some x) g20 (fun x e => .inl e))
              clear hq6 hq12 hq14 hO20 hO21 hrd O20 g20 ob20 hbP
              refine ⟨fun h => absurd h (by decide), ?_⟩
              try simp only [Act.put, rgA, rgB, rgC, rgD, rgE, rgF]
              refine wpAnyT_pure (i := 16) (v := ?_) rfl (by kernel_rfl) (by kernel_rfl) (by kernel_rfl) (fun _ _ _ h => h) (by rfl) ?_ ?_
              rotate_left
              · intro w; go_simp; try with_reducible rfl
              simp only [Act.put, rgA, rgB, rgC, rgD, rgE, rgF]
              refine wpAnyT_done (by kernel_rfl) ?_ _
              refine cut_leaf ?_ ?_
              focus kernel_rfl
              exact ⟨_, _, _, _, _, _, _, _, _, _, _, _, _, _, _, _, ca, cl20, cc, rfl, HRPC.out, HBC.out, HGC.out⟩
            · skip
              obtain ⟨b12, hb12⟩ : ∃ b, s4.heap.size = b := ⟨_, rfl⟩
              have hge12 : wB.heap.size ≤ b12 := hb12 ▸ Nat.le_trans (hB_0_s4).size (hB_s4_s4).size
              refine wp_newrow (v := .slice (some ⟨b12, 0, none⟩) 1 1) (cs := #[.int .i64 ye, .int .i64 yl]) (te := 41) (by rw [← hb12]; go_simp) ?_
              intro w109 hX hN12
              rw [hb12] at hN12
              have hB_s4_w109 := below_step hB_s4_s4 hX
              have hB_w109_w109 := Below.refl w109.heap.size w109
              have hSsw109 := Cells.below hB_s4_w109 hSss4
              clear hX
              refine ⟨fun _ _ => hSsw109, ?_⟩
              try simp only [Act.put, rgA, rgB, rgC, rgD, rgE, rgF]
              refine wpAnyT_one (i := 6) (by kernel_rfl) rfl (by rfl) ?_
              obtain ⟨b6, hb6⟩ : ∃ b, w109.heap.size = b := ⟨_, rfl⟩
              have hge6 : wB.heap.size ≤ b6 := hb6 ▸ Nat.le_trans (hB_0_s4).size (hB_s4_w109).size
              refine wp_newrow (v := .slice (some ⟨b6, 0, none⟩) 1 1) (cs := #[.int .i64 xe, .int .i64 xl]) (te := 41) (by rw [← hb6]; go_simp) ?_
              intro w110 hX hN6
              rw [hb6] at hN6
              have hB_s4_w110 := below_step hB_s4_w109 hX
              have hB_w109_w110 := below_step hB_w109_w109 hX
              have hB_w110_w110 := Below.refl w110.heap.size w110
              have hSsw110 := Cells.below hB_s4_w110 hSss4
              clear hX
              refine ⟨fun _ _ => hSsw110, ?_⟩
              try simp only [Act.put, rgA, rgB, rgC, rgD, rgE, rgF]
              refine wpAnyT_pure (i := 13) (v := ?_) rfl (by kernel_rfl) (by kernel_rfl) (by kernel_rfl) (fun _ _ _ h => h) (by rfl) ?_ ?_
              rotate_left
              · intro w; go_simp; try with_reducible rfl
              simp only [Act.put, rgA, rgB, rgC, rgD, rgE, rgF]
              refine wpAnyT_one (i := 14) (by kernel_rfl) rfl (by rfl) ?_
              obtain ⟨b14, hb14⟩ : ∃ b, w110.heap.size = b := ⟨_, rfl⟩
              have hge14 : wB.heap.size ≤ b14 := hb14 ▸ Nat.le_trans (hB_0_s4).size (hB_s4_w110).size
              refine wp_newrow (v := .slice (some ⟨b14, 0, none⟩) 1 1) (cs := #[.slice (some ⟨b6, 0, none⟩) 1 1, .slice (some ⟨b12, 0, none⟩) 1 1]) (te := 88) (by rw [← hb14]; go_simp) ?_
              intro w111 hX hN14
              rw [hb14] at hN14
              have hB_s4_w111 := below_step hB_s4_w110 hX
              have hB_w109_w111 := below_step hB_w109_w110 hX
              have hB_w110_w111 := below_step hB_w110_w110 hX
              have hB_w111_w111 := Below.refl w111.heap.size w111
              have hSsw111 := Cells.below hB_s4_w111 hSss4
              clear hX
              refine ⟨fun _ _ => hSsw111, ?_⟩
              try simp only [Act.put, rgA, rgB, rgC, rgD, rgE, rgF]
              refine wpAnyT_one (i := 15) (by kernel_rfl) rfl (by rfl) ?_
              have hq6 := ((hB_w110_w111).block _ (blk_lt hN6)).trans hN6
              have hq12 := ((hB_w109_w111).block _ (blk_lt hN12)).trans hN12
              have hq14 := ((hB_w111_w111).block _ (blk_lt hN14)).trans hN14
              have hbP : Below wB.heap.size wB w111 := hB_0_s4.trans ((hB_s4_w111).mono (hB_0_s4).size)
              have hO20 := HO.out.below hbP
              have hO21 : Owns pairT 88 w1.heap.size (fun b => SO b ∨ b = b6 ∨ b = b12) w111 (.slice oa ol oc) _ := hO20.mono (fun _ h => .inl h) (fun b hb => by
                rcases hb with hb | rfl | rfl
                · exact hO20.bound b hb
                · exact ⟨fun e => by have := (HO.out.own _ e).2; omega, blk_lt hq6⟩
                · exact ⟨fun e => by have := (HO.out.own _ e).2; omega, blk_lt hq12⟩)
              have hrd : Rd pairT (fun b => SO b ∨ b = b6 ∨ b = b12) w111 [.slice (some ⟨b6, 0, none⟩) 1 1, .slice (some ⟨b12, 0, none⟩) 1 1] (pairD ([⟨xe, xl⟩], [⟨ye, yl⟩])) := pair_rd (p := ([⟨xe, xl⟩], [⟨ye, yl⟩])) (ref1_rd (x := ⟨xe, xl⟩) hq6 HOK.out (.inr (.inl rfl))) (ref1_rd (x := ⟨ye, yl⟩) hq12 HYOK.out (.inr (.inr rfl)))
              refine wp_app (.tmp 52) (.tmp 66) 30 rfl (e := pairT) (te := 88) info_rpair Try.underlying30 rfl (by decide) (base := w1.heap.size) (S := fun b => SO b ∨ b = b6 ∨ b = b12) (v := .slice oa ol oc) (xs := s.1.map pairD) (by kernel_rfl) hO21 (by have := hbP.size; omega) (sv := .slice (some ⟨b14, 0, none⟩) 1 1) (by kernel_rfl) (ys := [pairD ([⟨xe, xl⟩], [⟨ye, yl⟩])]) (Src.of_cells (news := [.slice (some ⟨b6, 0, none⟩) 1 1, .slice (some ⟨b12, 0, none⟩) 1 1]) (fun j u hu => by rw [Nat.zero_add, blk_cell hq14]; simpa using hu)) (RdL.one (e := pairT) hrd) (by simp only [List.length_map, List.length_cons, List.length_nil]; omega) (by simp only [List.length_map, List.length_cons, List.length_nil]; omega) ?_
              intro ca cl20 cc w112 O20 g20 ob20
              have HRPC := Lib.hid ((HRPB.out.below hbP).pushO (p := ([⟨xe, xl⟩], [⟨ye, yl⟩])) g20 (by rw [List.map_append]; exact O20) (fun b hb => by
                rcases hb with hb | rfl | rfl
                · exact HSO.out b hb
                · exact ⟨by omega, fun e => by have := (HRPB.out.u.own _ e).2; omega⟩
                · exact ⟨by omega, fun e => by have := (HRPB.out.u.own _ e).2; omega⟩) ob20)
              have HBC := Lib.hid (show Below w1.heap.size w1 w112 from (below_step HB.out (below_step HBB.out hbP)).grown g20 (by have := hbP.size; omega) (fun c hc => (HO.out.own c hc).1))
              have HGC := Lib.hid ((Gr.of_below hbP).grown (F := fun x => (Value.slice oa ol oc).ownBlock = some x) g20 (fun x e => .inl e))
              clear hq6 hq12 hq14 hO20 hO21 hrd O20 g20 ob20 hbP
              refine ⟨fun h => absurd h (by decide), ?_⟩
              try simp only [Act.put, rgA, rgB, rgC, rgD, rgE, rgF]
              refine wpAnyT_pure (i := 16) (v := ?_) rfl (by kernel_rfl) (by kernel_rfl) (by kernel_rfl) (fun _ _ _ h => h) (by rfl) ?_ ?_
              rotate_left
              · intro w; go_simp; try with_reducible rfl
              simp only [Act.put, rgA, rgB, rgC, rgD, rgE, rgF]
              refine wpAnyT_done (by kernel_rfl) ?_ _
              refine cut_leaf ?_ ?_
              focus kernel_rfl
              exact ⟨_, _, _, _, _, _, _, _, _, _, _, _, _, _, _, _, ca, cl20, cc, rfl, HRPC.out, HBC.out, HGC.out⟩
          rintro vs wC ⟨v52, v53, v54, v55, v56, v57, v58, v59, v60, v61, v62, v63, v64, v65, v66, v67, ca, cl20, cc, rfl, hRPC, hBC, hGC⟩
          simp only [puts, Act.put, List.setIfInBounds_toArray, List.set_cons_zero, List.set_cons_succ]
          have HRPC := Lib.hid hRPC
          have HBC := Lib.hid hBC
          have HGC := Lib.hid hGC
          clear hRPC hBC hGC
          go_wp2_with fail
          have hnb : ¬ (Value.slice oa ol oc).ownBlock = some b := fun e => by have := (HO.out.own _ e).1; have := HBS.out; have := HB1.out.size; omega
          have hnyb : ¬ (Value.slice oa ol oc).ownBlock = some yb := fun e => by
            obtain ⟨S2, h2, -⟩ := HRP.out.o
            have := (h2.own _ e).2; have := HYB.out.2; omega
          have hC2 : Cells [(⟨b, off + k * 3, none⟩, .int .i64 xe), (⟨b, off + k * 3 + 1, none⟩, .int .i64 xl), (⟨yb, yo + j * 3, none⟩, .int .i64 ye), (⟨yb, yo + j * 3 + 1, none⟩, .int .i64 yl)] wC := by
            obtain ⟨e0, e1, e2, e3, -⟩ := HC1.out
            exact ⟨HGC.out.cell e0 hnb, HGC.out.cell e1 hnb, HGC.out.cell e2 hnyb, HGC.out.cell e3 hnyb, trivial⟩
          have hwC := HBC.out.size
          refine wp_region_T (Cells [(⟨b, off + k * 3, none⟩, .int .i64 xe), (⟨b, off + k * 3 + 1, none⟩, .int .i64 xl), (⟨yb, yo + j * 3, none⟩, .int .i64 ye), (⟨yb, yo + j * 3 + 1, none⟩, .int .i64 yl)]) (fun i => i == 12) (by kernel_rfl) ?_
          have hSss13 := Cells.drew hC2
          have hB_0_s13 : Below wC.heap.size wC wC.drew := below_drew _
          generalize wC.drew = s13 at hSss13 hB_0_s13 ⊢
          have hB_s13_s13 := Below.refl s13.heap.size s13
          refine wpAnyT_pure (i := 0) (v := ?_) rfl (by kernel_rfl) (by kernel_rfl) (by kernel_rfl) (fun _ _ _ h => h) (by rfl) ?_ ?_
          rotate_left
          · intro w; go_simp; try with_reducible rfl
          simp only [Act.put, rgA, rgB, rgC, rgD, rgE, rgF]
          refine wpAnyT_pure (i := 1) (v := ?_) rfl (by kernel_rfl) (by kernel_rfl) (by kernel_rfl) (fun _ _ _ h => h) (by rfl) ?_ ?_
          rotate_left
          · intro w; go_simp; try with_reducible rfl
          simp only [Act.put, rgA, rgB, rgC, rgD, rgE, rgF]
          refine wpAnyT_pure (i := 2) (v := ?_) rfl (by kernel_rfl) (by kernel_rfl) (by kernel_rfl) (fun _ _ _ h => h) (by rfl) ?_ ?_
          rotate_left
          · intro w; go_simp; try with_reducible rfl
          simp only [Act.put, rgA, rgB, rgC, rgD, rgE, rgF]
          refine wpAnyT_pure (i := 3) (v := ?_) rfl (by kernel_rfl) (by kernel_rfl) (by kernel_rfl) (fun _ _ _ h => h) (by rfl) ?_ ?_
          rotate_left
          · intro w; go_simp; try with_reducible rfl
          simp only [Act.put, rgA, rgB, rgC, rgD, rgE, rgF]
          refine wpAnyT_pure (i := 4) (v := ?_) rfl (by kernel_rfl) (by kernel_rfl) (by kernel_rfl) (fun _ _ _ h => h) (by rfl) ?_ ?_
          rotate_left
          · intro w; go_simp; try with_reducible rfl
          simp only [Act.put, rgA, rgB, rgC, rgD, rgE, rgF]
          refine wpAnyT_pure (i := 6) (v := ?_) rfl (by kernel_rfl) (by kernel_rfl) (by kernel_rfl) (fun _ _ _ h => h) (by rfl) ?_ ?_
          rotate_left
          · intro w; go_simp; try with_reducible rfl
          simp only [Act.put, rgA, rgB, rgC, rgD, rgE, rgF]
          refine wpAnyT_pure (i := 7) (v := ?_) rfl (by kernel_rfl) (by kernel_rfl) (by kernel_rfl) (fun _ _ _ h => h) (by rfl) ?_ ?_
          rotate_left
          · intro w; go_simp; try with_reducible rfl
          simp only [Act.put, rgA, rgB, rgC, rgD, rgE, rgF]
          refine wpAnyT_pure (i := 8) (v := ?_) rfl (by kernel_rfl) (by kernel_rfl) (by kernel_rfl) (fun _ _ _ h => h) (by rfl) ?_ ?_
          rotate_left
          · intro w; go_simp; try with_reducible rfl
          simp only [Act.put, rgA, rgB, rgC, rgD, rgE, rgF]
          refine wpAnyT_pure (i := 9) (v := ?_) rfl (by kernel_rfl) (by kernel_rfl) (by kernel_rfl) (fun _ _ _ h => h) (by rfl) ?_ ?_
          rotate_left
          · intro w; go_simp; try with_reducible rfl
          simp only [Act.put, rgA, rgB, rgC, rgD, rgE, rgF]
          refine wpAnyT_loadW (i := 5) (v := ?_) rfl (by kernel_rfl) (by kernel_rfl) (by kernel_rfl) (by kernel_rfl) (by kernel_rfl) (fun _ _ _ h => h) (Or.inl ⟨by rfl, ?_⟩) hSss13 ?_
          rotate_left
          · intro w hSw; obtain ⟨e0, e1, e2, e3, -⟩ := hSw; go_simp; try with_reducible rfl
          simp only [Act.put, rgA, rgB, rgC, rgD, rgE, rgF]
          refine wpAnyT_loadW (i := 10) (v := ?_) rfl (by kernel_rfl) (by kernel_rfl) (by kernel_rfl) (by kernel_rfl) (by kernel_rfl) (fun _ _ _ h => h) (Or.inl ⟨by rfl, ?_⟩) hSss13 ?_
          rotate_left
          · intro w hSw; obtain ⟨e0, e1, e2, e3, -⟩ := hSw; go_simp; try with_reducible rfl
          simp only [Act.put, rgA, rgB, rgC, rgD, rgE, rgF]
          refine wpAnyT_one (i := 11) (by kernel_rfl) rfl (by rfl) ?_
          obtain ⟨b11, hb11⟩ : ∃ b, s13.heap.size = b := ⟨_, rfl⟩
          have hge11 : wC.heap.size ≤ b11 := hb11 ▸ Nat.le_trans (hB_0_s13).size (hB_s13_s13).size
          refine wp_newrow (v := .slice (some ⟨b11, 0, none⟩) 2 2) (cs := #[.int .i64 xe, .int .i64 xl, .int .i64 ye, .int .i64 yl]) (te := 41) (by rw [← hb11]; go_simp) ?_
          intro w114 hX hN11
          rw [hb11] at hN11
          have hB_s13_w114 := below_step hB_s13_s13 hX
          have hB_w114_w114 := Below.refl w114.heap.size w114
          have hSsw114 := Cells.below hB_s13_w114 hSss13
          clear hX
          refine ⟨fun _ _ => hSsw114, ?_⟩
          try simp only [Act.put, rgA, rgB, rgC, rgD, rgE, rgF]
          refine wpAnyT_one (i := 12) (by kernel_rfl) rfl (by rfl) ?_
          have hq11 := ((hB_w114_w114).block _ (blk_lt hN11)).trans hN11
          have hbP : Below wC.heap.size wC w114 := hB_0_s13.trans ((hB_s13_w114).mono (hB_0_s13).size)
          refine wp_app (.tmp 68) (.tmp 79) 37 rfl (e := refT) (te := 41) info_ref Try.underlying37 rfl (by decide) (base := w1.heap.size) (S := fun _ => False) (v := .slice ua s.2.length uc) (xs := s.2.map R2.d) (by kernel_rfl) (HRPC.out.u.below hbP) (by have := hbP.size; omega) (sv := .slice (some ⟨b11, 0, none⟩) 2 2) (by kernel_rfl) (ys := [R2.d ⟨xe, xl⟩, R2.d ⟨ye, yl⟩]) (Src.of_cells (news := [.int .i64 xe, .int .i64 xl, .int .i64 ye, .int .i64 yl]) (fun j u hu => by rw [Nat.zero_add, blk_cell hq11]; simpa using hu)) (⟨[.int .i64 xe, .int .i64 xl], [.int .i64 ye, .int .i64 yl], rfl, ref_rd (r := ⟨xe, xl⟩) HOK.out, RdL.one (e := refT) (ref_rd (r := ⟨ye, yl⟩) HYOK.out)⟩) (by simp only [List.length_map, List.length_cons, List.length_nil]; omega) (by simp only [List.length_map, List.length_cons, List.length_nil]; omega) ?_
          intro ca2 cl2 cc2 w115 O21 g21 ob21
          have HRPD := Lib.hid ((HRPC.out.below hbP).pushU (u' := s.2 ++ [⟨xe, xl⟩, ⟨ye, yl⟩]) g21 (by rw [List.map_append]; exact O21) ob21)
          have HBD := Lib.hid (show Below w1.heap.size w1 w115 from (below_step HBC.out hbP).grown g21 (by have := hbP.size; omega) (fun c hc => (HRPC.out.u.own c hc).1))
          obtain ⟨_, _, _, he, hcl2, -⟩ := O21.slice
          cases he
          have HCL := Lib.hid hcl2
          clear hq11 O21 g21 ob21 hbP hcl2
          refine ⟨fun h => absurd h (by decide), ?_⟩
          try simp only [Act.put, rgA, rgB, rgC, rgD, rgE, rgF]
          refine wpAnyT_pure (i := 13) (v := ?_) rfl (by kernel_rfl) (by kernel_rfl) (by kernel_rfl) (fun _ _ _ h => h) (by rfl) ?_ ?_
          rotate_left
          · intro w; go_simp; try with_reducible rfl
          simp only [Act.put, rgA, rgB, rgC, rgD, rgE, rgF]
          refine wpAnyT_done (by kernel_rfl) ?_ _
          obtain ⟨wD, rfl⟩ : ∃ q, q = w115 := ⟨_, rfl⟩
          go_wp2_with fail
          go_roundw
          case rel =>
            obtain rfl : cl2 = (s.2 ++ [(⟨xe, xl⟩ : R2), ⟨ye, yl⟩]).length := by have := HCL.out; simpa using this
            refine ⟨k + 1, (s.1 ++ [([⟨xe, xl⟩], [⟨ye, yl⟩])], s.2 ++ [⟨xe, xl⟩, ⟨ye, yl⟩]), ca, cl20, cc, ca2, cc2, HKL.out, by go_num, rfl, rfl, ?_, HRPD.out, ⟨by rw [List.length_append, List.length_singleton]; omega, by rw [List.length_append]; simp only [List.length_cons, List.length_nil]; omega⟩, HBD.out⟩
            rw [HTK.out, HRO.out]
            simp only [HBJ.out]
          case measure => have := HKL.out; simp [intOf]; try omega
      · obtain rfl : k = l.length := by omega
        have hkI : ¬ ((l.length : Nat) : Int) < (l.length : Int) := by omega
        rw [List.take_length] at hs
        have HS1 := Lib.hid (show s = rs1 l r tol from hs)
        clear hB hkl hk hRP hs hln HSE
        obtain ⟨wp, rfl⟩ : ∃ q, q = wr := ⟨_, rfl⟩
        go_wp2_with fail
        go_loopw [8, 9, 13] (fun v1 v2 iv wr => ∃ (sd : Nat) (s : RS) (oa : Option Addr) (ol oc : Nat) (ua : Option Addr) (uc : Nat), sd ≤ 2 ∧ iv = .int .i64 (sd : Int) ∧ v1 = .slice oa ol oc ∧ v2 = .slice ua s.2.length uc ∧ s = (match sd with | 0 => rs1 l r tol | 1 => rs2 l r tol | _ => rs3 l r tol) ∧ RP w1.heap.size wr (.slice oa ol oc) (.slice ua s.2.length uc) s ∧ (s.1.length ≤ 12 + 12 * sd ∧ s.2.length ≤ 24 + 156 * sd) ∧ Below w1.heap.size w1 wr) (fun _ _ iv _ => 2 - (intOf iv).toNat)
        case atStart => exact ⟨0, s, oa, ol, oc, ua, uc, by omega, rfl, rfl, rfl, HS1.out, HRP.out, ⟨by have := HLN.out; omega, by have := HLN.out; omega⟩, HB.out⟩
        case round =>
          obtain ⟨sd, s, oa, ol, oc, ua, uc, hsd, rfl, rfl, rfl, hs, hRP, hln, hB⟩ := hrel
          have HRP := Lib.hid hRP
          have HB := Lib.hid hB
          have HSE := Lib.hid hs
          have HLN := Lib.hid hln
          have HBW := Lib.hid (below_step HB1.out hB)
          clear hRP hB hs hln
          rcases sd with _ | sd
          · skip
            have hs12 : s.2.length ≤ 200 ∧ s.1.length ≤ 40 := by have := HLN.out; omega
            have hU0 := HRP.out.u
            have hB0 := HBW.out
            go_wp2_with fail
            refine (without28 (S := S) (S2 := fun b => b < wr.heap.size) wr a1 c1 l (by omega) (H1.out.below hB0 HS.out) (fun b hb => Nat.lt_of_lt_of_le (HS.out b hb) hB0.size) ua uc s.2 (hU0.rd _ (fun _ h => h.elim) (fun b hb => (hU0.own b hb).2)) (fun b hb => hb)).mono ?_
            rintro e wR ⟨vR, rfl, hOR, hBR⟩
            obtain ⟨ra, xR, rc, rfl, hxR, -⟩ := hOR.slice
            rw [List.length_map] at hxR
            subst hxR
            obtain ⟨rl, hrl⟩ : ∃ q, withoutL l s.2 = q := ⟨_, rfl⟩
            rw [hrl] at hOR
            simp only [hrl]
            have hrll : rl.length ≤ 12 := by rw [← hrl]; have := withoutL_len s.2 l; omega
            have HRA := Lib.hid (show ∀ y ∈ rl, amtB y.n = true from fun y hy => HA1.out y (withoutL_sub (by rw [hrl]; exact hy)))
            have HNX := Lib.hid (show rs2 l r tol = rl.foldl (rMany false r tol) s from by have hs2 : s = rs1 l r tol := HSE.out; unfold rs2; rw [← hs2, hrl])
            have HOR := Lib.hid hOR
            have HBR := Lib.hid (below_step HB.out hBR)
            have HBRW := Lib.hid (below_step HBW.out hBR)
            have HRPR := Lib.hid (HRP.out.below hBR)
            have HSEP := Lib.hid (show ∀ b, (Value.slice ra rl.length rc).ownBlock = some b → (Value.slice oa ol oc).ownBlock ≠ some b ∧ (Value.slice ua s.2.length uc).ownBlock ≠ some b from fun b hb => by
              have h0 := (hOR.own b hb).1
              obtain ⟨S2, h2, -⟩ := HRP.out.o
              exact ⟨fun e => by have := (h2.own _ e).2; omega, fun e => by have := (hU0.own _ e).2; omega⟩)
            have hwrs := HB.out.size
            clear hOR hBR hU0 hB0 hrl
            go_wp2_with fail
            obtain ⟨wq, rfl⟩ : ∃ q, q = wr := ⟨_, rfl⟩
            go_loopw [8, 9, 17] (fun v1 v2 iv wr => ∃ (k : Nat) (t : RS) (oa : Option Addr) (ol oc : Nat) (ua : Option Addr) (uc : Nat), k ≤ rl.length ∧ iv = .int .i64 (k : Int) ∧ v1 = .slice oa ol oc ∧ v2 = .slice ua t.2.length uc ∧ t = (rl.take k).foldl (rMany false r tol) s ∧ RP w1.heap.size wr (.slice oa ol oc) (.slice ua t.2.length uc) t ∧ (t.1.length ≤ s.1.length + k ∧ t.2.length ≤ s.2.length + 13 * k) ∧
              Owns openT 50 wq.heap.size (fun _ => False) wr (.slice ra rl.length rc) (rl.map O3.d) ∧ (∀ b, (Value.slice ra rl.length rc).ownBlock = some b → (Value.slice oa ol oc).ownBlock ≠ some b ∧ (Value.slice ua t.2.length uc).ownBlock ≠ some b) ∧ Below w1.heap.size w1 wr) (fun _ _ iv _ => rl.length - (intOf iv).toNat)
            case atStart => exact ⟨0, s, oa, ol, oc, ua, uc, Nat.zero_le _, rfl, rfl, rfl, rfl, HRPR.out, ⟨Nat.le_refl _, Nat.le_refl _⟩, HOR.out, HSEP.out, HBR.out⟩
            case round =>
              obtain ⟨k, t, oa, ol, oc, ua, uc, hk, rfl, rfl, rfl, ht, hRP, hln, hOR, hsep, hB⟩ := hrel
              have HRP2 := Lib.hid hRP
              have HB2 := Lib.hid hB
              have HTE := Lib.hid ht
              have HLN2 := Lib.hid hln
              have HOR2 := Lib.hid hOR
              have HSEP2 := Lib.hid hsep
              have HBW2 := Lib.hid (below_step HB1.out hB)
              by_cases hkl : k < rl.length
              · have hkI : (k : Int) < (rl.length : Int) := by omega
                obtain ⟨b, off, hre, -, m0, m1, m2, hok⟩ := open_at (hOR.rd (fun b => b < wr.heap.size) (fun _ h => h.elim) (fun b hb => (hOR.own b hb).2)) k hkl
                cases hre
                have HTK := Lib.hid (show (rl.take (k + 1)).foldl (rMany false r tol) s = rMany false r tol t rl[k] from by rw [List.take_succ_eq_append_getElem hkl, List.foldl_append, ← ht]; rfl)
                have hxa := HRA.out _ (List.getElem_mem hkl)
                have HKL := Lib.hid hkl
                have HRB := Lib.hid (show off = 0 ∧ (Value.slice (some ⟨b, off, none⟩) rl.length rc).ownBlock = some b from by
                  rcases hOR.len with ⟨h, -⟩ | ⟨g, cap, h, -⟩
                  · cases h
                  · simp only [Value.slice.injEq, Option.some.injEq, Addr.mk.injEq] at h
                    obtain ⟨⟨rfl, rfl, -⟩, -⟩ := h
                    exact ⟨rfl, rfl⟩)
                generalize rl[k] = x at m0 m1 m2 hok HTK hxa
                obtain ⟨⟨xe, xl⟩, xn⟩ := x
                simp only at m0 m1 m2 hxa
                have HOK := Lib.hid hok.1
                have HXA := Lib.hid hxa
                obtain ⟨ls, hls⟩ : ∃ q, againstL xn (withoutL r t.2) = q := ⟨_, rfl⟩
                have HLS := Lib.hid hls
                obtain ⟨ms, hms⟩ : ∃ q, mset xn tol ls = q := ⟨_, rfl⟩
                have HMS := Lib.hid hms
                have HRO := Lib.hid (show rMany false r tol t ⟨⟨xe, xl⟩, xn⟩ = if ms = [] then t else (t.1 ++ [prP false ⟨xe, xl⟩ ms], t.2 ++ ((⟨xe, xl⟩ : R2) :: ms)) from by unfold rMany; simp only [hls, hms])
                have hmsl : ms.length ≤ 12 := by rw [← hms]; exact mset_len _ _ _
                have hlsl : ls.length ≤ 12 := by rw [← hls]; have h1 := againstL_len xn (withoutL r t.2); have h2 := withoutL_len t.2 r; omega
                have HLA := Lib.hid (show ∀ y ∈ ls, amtB y.n = true from fun y hy => HA2.out y (withoutL_sub (againstL_sub (by rw [hls]; exact hy))))
                have hC0 : Cells [(⟨b, off + k * 3, none⟩, .int .i64 xe), (⟨b, off + k * 3 + 1, none⟩, .int .i64 xl), (⟨b, off + k * 3 + 2, none⟩, .int .i64 xn)] wr := ⟨m0, m1, m2, trivial⟩
                have hlN := HLN2.out
                clear hB ht hkl hk m0 m1 m2 hok hRP hln hxa hls hOR hsep hms
                go_wp2_with fail
                refine wp_region_T (Cells [(⟨b, off + k * 3, none⟩, .int .i64 xe), (⟨b, off + k * 3 + 1, none⟩, .int .i64 xl), (⟨b, off + k * 3 + 2, none⟩, .int .i64 xn)]) (fun _ => false) (by kernel_rfl) ?_
                have hSss16 := Cells.drew hC0
                have hB_0_s16 : Below wr.heap.size wr wr.drew := below_drew _
                generalize wr.drew = s16 at hSss16 hB_0_s16 ⊢
                have hB_s16_s16 := Below.refl s16.heap.size s16
                refine wpAnyT_pure (i := 0) (v := ?_) rfl (by kernel_rfl) (by kernel_rfl) (by kernel_rfl) (fun _ _ _ h => h) (by rfl) ?_ ?_
                rotate_left
                · intro w; go_simp; try with_reducible rfl
                simp only [Act.put, rgA, rgB, rgC, rgD, rgE, rgF]
                refine wpAnyT_pure (i := 1) (v := ?_) rfl (by kernel_rfl) (by kernel_rfl) (by kernel_rfl) (fun _ _ _ h => h) (by rfl) ?_ ?_
                rotate_left
                · intro w; go_simp; try with_reducible rfl
                simp only [Act.put, rgA, rgB, rgC, rgD, rgE, rgF]
                refine wpAnyT_pure (i := 2) (v := ?_) rfl (by kernel_rfl) (by kernel_rfl) (by kernel_rfl) (fun _ _ _ h => h) (by rfl) ?_ ?_
                rotate_left
                · intro w; go_simp; try with_reducible rfl
                simp only [Act.put, rgA, rgB, rgC, rgD, rgE, rgF]
                refine wpAnyT_pure (i := 4) (v := ?_) rfl (by kernel_rfl) (by kernel_rfl) (by kernel_rfl) (fun _ _ _ h => h) (by rfl) ?_ ?_
                rotate_left
                · intro w; go_simp; try with_reducible rfl
                simp only [Act.put, rgA, rgB, rgC, rgD, rgE, rgF]
                refine wpAnyT_pure (i := 5) (v := ?_) rfl (by kernel_rfl) (by kernel_rfl) (by kernel_rfl) (fun _ _ _ h => h) (by rfl) ?_ ?_
                rotate_left
                · intro w; go_simp; try with_reducible rfl
                simp only [Act.put, rgA, rgB, rgC, rgD, rgE, rgF]
                refine wpAnyT_pure (i := 6) (v := ?_) rfl (by kernel_rfl) (by kernel_rfl) (by kernel_rfl) (fun _ _ _ h => h) (by rfl) ?_ ?_
                rotate_left
                · intro w; go_simp; try with_reducible rfl
                simp only [Act.put, rgA, rgB, rgC, rgD, rgE, rgF]
                refine wpAnyT_pure (i := 8) (v := ?_) rfl (by kernel_rfl) (by kernel_rfl) (by kernel_rfl) (fun _ _ _ h => h) (by rfl) ?_ ?_
                rotate_left
                · intro w; go_simp; try with_reducible rfl
                simp only [Act.put, rgA, rgB, rgC, rgD, rgE, rgF]
                refine wpAnyT_pure (i := 9) (v := ?_) rfl (by kernel_rfl) (by kernel_rfl) (by kernel_rfl) (fun _ _ _ h => h) (by rfl) ?_ ?_
                rotate_left
                · intro w; go_simp; try with_reducible rfl
                simp only [Act.put, rgA, rgB, rgC, rgD, rgE, rgF]
                refine wpAnyT_pure (i := 12) (v := ?_) rfl (by kernel_rfl) (by kernel_rfl) (by kernel_rfl) (fun _ _ _ h => h) (by rfl) ?_ ?_
                rotate_left
                · intro w; go_simp; try with_reducible rfl
                simp only [Act.put, rgA, rgB, rgC, rgD, rgE, rgF]
                refine wpAnyT_loadW (i := 3) (v := ?_) rfl (by kernel_rfl) (by kernel_rfl) (by kernel_rfl) (by kernel_rfl) (by kernel_rfl) (fun _ _ _ h => h) (Or.inl ⟨by rfl, ?_⟩) hSss16 ?_
                rotate_left
                · intro w hSw; obtain ⟨e0, e1, e2, -⟩ := hSw; go_simp; try with_reducible rfl
                simp only [Act.put, rgA, rgB, rgC, rgD, rgE, rgF]
                refine wpAnyT_loadW (i := 7) (v := ?_) rfl (by kernel_rfl) (by kernel_rfl) (by kernel_rfl) (by kernel_rfl) (by kernel_rfl) (fun _ _ _ h => h) (Or.inl ⟨by rfl, ?_⟩) hSss16 ?_
                rotate_left
                · intro w hSw; obtain ⟨e0, e1, e2, -⟩ := hSw; go_simp; try with_reducible rfl
                simp only [Act.put, rgA, rgB, rgC, rgD, rgE, rgF]
                refine wpAnyT_one (i := 10) (by kernel_rfl) rfl (by rfl) ?_
                have hbP : Below w.heap.size w s16 := below_step HBW2.out (hB_0_s16.trans ((hB_s16_s16).mono hB_0_s16.size))
                have hU := HRP2.out.u.below (hB_0_s16.trans ((hB_s16_s16).mono hB_0_s16.size))
                refine wp_enter (f := 32) (args := #[.slice a2 r.length c2, .slice ua t.2.length uc]) (by go_simp) (without28 (S := S) (S2 := fun b => b < s16.heap.size) s16 a2 c2 r (by omega) (H2.out.below hbP HS.out) (fun b hb => Nat.lt_of_lt_of_le (HS.out b hb) hbP.size) ua uc t.2 (hU.rd _ (fun _ h => h.elim) (fun b hb => (hU.own b hb).2)) (fun b hb => hb)) ?_
                rintro e w117 ⟨v6, rfl, hO6, hX⟩
                obtain ⟨xa, x6, xc, rfl, hx6, -⟩ := hO6.slice
                rw [List.length_map] at hx6
                subst hx6
                have HO6 := Lib.hid hO6
                clear hbP hU hO6
                have hB_s16_w117 := below_step hB_s16_s16 hX
                have hB_w117_w117 := Below.refl w117.heap.size w117
                have hSsw117 := Cells.below hB_s16_w117 hSss16
                clear hX
                refine ⟨_, rfl, fun _ _ => hSsw117, ?_⟩
                try simp only [Act.put, rgA, rgB, rgC, rgD, rgE, rgF]
                refine wpAnyT_one (i := 11) (by kernel_rfl) rfl (by rfl) ?_
                have hO6 := HO6.out
                refine wp_enter (f := 31) (args := #[.agg #[.int .i64 xe, .int .i64 xl, .int .i64 xn], .slice xa (withoutL r t.2).length xc]) (by go_simp) (against28 (S := fun b => b < w117.heap.size) w117 ⟨⟨xe, xl⟩, xn⟩ xa xc (withoutL r t.2) (by have h2 := withoutL_len t.2 r; omega) (hO6.rd _ (fun _ h => h.elim) (fun b hb => (hO6.own b hb).2)) (fun b hb => hb)) ?_
                rintro e w118 ⟨v7, rfl, hO7, hX⟩
                rw [HLS.out] at hO7
                obtain ⟨la, x7, lc, rfl, hx7, -⟩ := hO7.slice
                rw [List.length_map] at hx7
                subst hx7
                have HO7 := Lib.hid hO7
                clear hO7 hO6
                have hB_s16_w118 := below_step hB_s16_w117 hX
                have hB_w117_w118 := below_step hB_w117_w117 hX
                have hB_w118_w118 := Below.refl w118.heap.size w118
                have hSsw118 := Cells.below hB_s16_w118 hSss16
                clear hX
                refine ⟨_, rfl, fun _ _ => hSsw118, ?_⟩
                try simp only [Act.put, rgA, rgB, rgC, rgD, rgE, rgF]
                refine wpAnyT_one (i := 13) (by kernel_rfl) rfl (by rfl) ?_
                have hO7 := HO7.out
                refine wp_enter (f := 34) (args := #[.agg #[.int .i64 xe, .int .i64 xl, .int .i64 xn], .slice la ls.length lc, .int .i64 tol]) (by go_simp) (rmany28 (S := fun b => b < w118.heap.size) w118 ⟨⟨xe, xl⟩, xn⟩ la lc ls tol (by omega) HXA.out HLA.out (hO7.rd _ (fun _ h => h.elim) (fun b hb => (hO7.own b hb).2)) (fun b hb => hb)) ?_
                rintro e w119 ⟨v8, rfl, hO8, hX⟩
                rw [HMS.out] at hO8
                obtain ⟨sa, x8, sc, rfl, hx8, -⟩ := hO8.slice
                rw [List.length_map] at hx8
                subst hx8
                have HO8 := Lib.hid (hO8.base (show wr.heap.size ≤ w118.heap.size from Nat.le_trans hB_0_s16.size (hB_s16_w118).size))
                clear hO8 hO7
                have hB_s16_w119 := below_step hB_s16_w118 hX
                have hB_w117_w119 := below_step hB_w117_w118 hX
                have hB_w118_w119 := below_step hB_w118_w118 hX
                have hB_w119_w119 := Below.refl w119.heap.size w119
                have hSsw119 := Cells.below hB_s16_w119 hSss16
                clear hX
                refine ⟨_, rfl, fun _ _ => hSsw119, ?_⟩
                try simp only [Act.put, rgA, rgB, rgC, rgD, rgE, rgF]
                refine wpAnyT_pure (i := 14) (v := ?_) rfl (by kernel_rfl) (by kernel_rfl) (by kernel_rfl) (fun _ _ _ h => h) (by rfl) ?_ ?_
                rotate_left
                · intro w; go_simp; try with_reducible rfl
                simp only [Act.put, rgA, rgB, rgC, rgD, rgE, rgF]
                refine wpAnyT_done (by kernel_rfl) ?_ _
                have HBA := Lib.hid (show Below wr.heap.size wr w119 from hB_0_s16.trans ((hB_s16_w119).mono hB_0_s16.size))
                obtain ⟨n0, n1, n2, -⟩ := hSsw119
                obtain ⟨wA, rfl⟩ : ∃ q, q = w119 := ⟨_, rfl⟩
                have HN := Lib.hid (And.intro n0 n1)
                have HORA := Lib.hid (HOR2.out.below HBA.out)
                have HRPA := Lib.hid (HRP2.out.below HBA.out)
                have HBA1 := Lib.hid (below_step HB2.out HBA.out)
                have hwA := HBA1.out.size
                have hwAr := HBA.out.size
                have hkn : k ≤ 12 := by have := HKL.out; omega
                clear HO6 HO7 n2
                by_cases hm0 : ms = []
                · have HM0 := Lib.hid hm0
                  have hmI : (ms.length : Int) = 0 := by rw [hm0]; rfl
                  clear n0 n1 hm0
                  go_wp2_with fail
                  go_roundw
                  case rel =>
                    refine ⟨k + 1, t, oa, ol, oc, ua, uc, HKL.out, by go_num, rfl, rfl, ?_, HRPA.out, ⟨by omega, by omega⟩, HORA.out, HSEP2.out, HBA1.out⟩
                    rw [HTK.out, HRO.out, if_pos HM0.out]
                  case measure => have := HKL.out; simp [intOf]; try omega
                · have HM0 := Lib.hid hm0
                  have hmI : ((ms.length : Int) == 0) = false := by simp; exact hm0
                  clear hm0
                  have HO8A := HO8
                  go_wp2_with (first | (have hq := HRPA; at_builtin; clear HRPA; have hal := (Below.refl wA.heap.size wA).alloc (Nat.le_refl _) (.cells #[.int .i64 xe, .int .i64 xl] 41); go_must (refine wpList_app _ rfl _ _ 37 rfl (e := refT) (te := 41) info_ref Try.underlying37 rfl (by decide) (v := .slice ua t.2.length uc) rfl (hq.out.u.alloc _) (by simp only [World.size_alloc]; omega) rfl (ys := [R2.d ⟨xe, xl⟩]) (Src.new _ [_, _] _ _ _) (RdL.one (e := refT) (ref_rd (r := ⟨xe, xl⟩) HOK.out)) (by simp only [List.length_map, List.length_cons, List.length_nil]; omega) (by simp only [List.length_map, List.length_cons, List.length_nil]; omega) ?_); intro v' wU O1 g1 _ ob1; obtain ⟨ua1, ul1, uc1, rfl, -⟩ := O1.slice; have HRPU := Lib.hid ((hq.out.below hal).pushU (u' := t.2 ++ [⟨xe, xl⟩]) g1 (by rw [List.map_append]; exact O1) ob1); have HBU := Lib.hid ((HBA1.out.alloc HBA1.out.size _).grown g1 (by simp only [World.size_alloc]; omega) (fun c hc => (hq.out.u.own c hc).1)); have HORU := Lib.hid ((HORA.out.alloc _).gr (Gr.of_grown g1) (fun _ h => h.elim) (fun c hc e => (HSEP2.out c hc).2 e)); have HSETU := Lib.hid ((HO8A.out.alloc _).gr (Gr.of_grown g1) (fun _ h => h.elim) (fun c hc e => by have := (HO8A.out.own c hc).1; have := (HRP2.out.u.own c e).2; omega)); have HSEPU := Lib.hid (show ∀ c, (Value.slice (some ⟨b, off, none⟩) rl.length rc).ownBlock = some c → (Value.slice ua1 ul1 uc1).ownBlock ≠ some c from fun c hc e => by (rcases ob1 with h | h; (rw [h] at e; exact (HSEP2.out c hc).2 e); (rw [h] at e; cases e; have := (HOR2.out.own _ hc).2; simp only [World.size_alloc] at this; omega))); have HSSU := Lib.hid (show ∀ c, (Value.slice sa ms.length sc).ownBlock = some c → (Value.slice ua1 ul1 uc1).ownBlock ≠ some c from fun c hc e => by (rcases ob1 with h | h; (rw [h] at e; have := (HO8A.out.own c hc).1; have := (HRP2.out.u.own c e).2; omega); (rw [h] at e; cases e; have := (HO8A.out.own _ hc).2; simp only [World.size_alloc] at this; omega))); have HNU := Lib.hid (And.intro ((Gr.of_grown g1).cell (cell_below HN.out.1 hal) (fun e => (HSEP2.out b HRB.out.2).2 e)) ((Gr.of_grown g1).cell (cell_below HN.out.2 hal) (fun e => (HSEP2.out b HRB.out.2).2 e))); clear O1 g1 ob1 hq hal n0 n1) | (have hq := HRPU; at_builtin; clear HRPU; obtain ⟨news, hsrc, hrl⟩ := (HSETU.out.rd (fun _ => True) (fun _ _ => trivial) (fun _ _ => trivial)).src; have hwU := HBU.out.size; go_must (refine wpList_app _ rfl _ _ 37 rfl (e := refT) (te := 41) info_ref Try.underlying37 rfl (by decide) (v := .slice ua1 ul1 uc1) rfl hq.out.u hwU rfl hsrc (hrl.flat (e := refT) rfl) (by simp only [List.length_map, List.length_append, List.length_cons, List.length_nil]; omega) (by simp only [List.length_map, List.length_append, List.length_cons, List.length_nil]; omega) ?_); intro v' wV O1 g1 _ ob1; obtain ⟨ua2, ul2, uc2, rfl, hul2, -⟩ := O1.slice; have HUL2 := Lib.hid hul2; have HRPV := Lib.hid (hq.out.pushU (u' := t.2 ++ ((⟨xe, xl⟩ : R2) :: ms)) g1 (by simpa using O1) ob1); have HBV := Lib.hid (HBU.out.grown g1 hwU (fun c hc => (hq.out.u.own c hc).1)); have HORV := Lib.hid (HORU.out.gr (Gr.of_grown g1) (fun _ h => h.elim) (fun c hc e => HSEPU.out c hc e)); have HSETV := Lib.hid (HSETU.out.gr (Gr.of_grown g1) (fun _ h => h.elim) (fun c hc e => HSSU.out c hc e)); have HSEPV := Lib.hid (show ∀ c, (Value.slice (some ⟨b, off, none⟩) rl.length rc).ownBlock = some c → (Value.slice ua2 ul2 uc2).ownBlock ≠ some c from fun c hc e => by (rcases ob1 with h | h; (rw [h] at e; exact HSEPU.out c hc e); (rw [h] at e; cases e; have := (HORU.out.own _ hc).2; omega))); have HSSV := Lib.hid (show ∀ c, (Value.slice sa ms.length sc).ownBlock = some c → (Value.slice ua2 ul2 uc2).ownBlock ≠ some c from fun c hc e => by (rcases ob1 with h | h; (rw [h] at e; exact HSSU.out c hc e); (rw [h] at e; cases e; have := (HSETU.out.own _ hc).2; omega))); have q0 := (Gr.of_grown g1).cell HNU.out.1 (fun e => HSEPU.out b HRB.out.2 e); have q1 := (Gr.of_grown g1).cell HNU.out.2 (fun e => HSEPU.out b HRB.out.2 e); clear O1 g1 ob1 hq hwU hsrc hrl hul2) | (have hq := HRPV; at_builtin; clear HRPV; obtain ⟨SO, hO, hSO⟩ := hq.out.o; have hwV := HBV.out.size; have hal := ((Below.refl wV.heap.size wV).alloc (Nat.le_refl _) (.cells #[.int .i64 xe, .int .i64 xl] 41)).alloc (by simp only [World.size_alloc]; omega) (.cells #[.slice (some ⟨wV.heap.size, 0, none⟩) 1 1, .slice sa ms.length sc] 88); have hOm : Owns pairT 88 w1.heap.size (fun c => SO c ∨ c = wV.heap.size ∨ (Value.slice sa ms.length sc).ownBlock = some c) _ (.slice oa ol oc) (t.1.map pairD) := (hO.below hal).mono (fun _ h => .inl h) (fun c hc => by (rcases hc with hc | rfl | hc; exact (hO.below hal).bound c hc; exact ⟨fun e => by have := (hO.own _ e).2; omega, by simp only [World.size_alloc]; omega⟩; exact ⟨fun e => by obtain ⟨S2, h2, -⟩ := HRP2.out.o; have := (h2.own _ e).2; have := (HO8A.out.own c hc).1; omega, by have := (HSETV.out.own c hc).2; simp only [World.size_alloc]; omega⟩)); have hrdS := ((HSETV.out.below hal).rd (fun c => SO c ∨ c = wV.heap.size ∨ (Value.slice sa ms.length sc).ownBlock = some c) (fun _ h => h.elim) (fun c hc => .inr (.inr hc))); have hrd1 := ref1_rd (x := ⟨xe, xl⟩) (S := fun c => SO c ∨ c = wV.heap.size ∨ (Value.slice sa ms.length sc).ownBlock = some c) (alloc_old' (y := .cells #[.slice (some ⟨wV.heap.size, 0, none⟩) 1 1, .slice sa ms.length sc] 88) (heap_alloc_new wV (.cells #[.int .i64 xe, .int .i64 xl] 41))) HOK.out (.inr (.inl rfl)); go_must (refine wpList_app _ rfl _ _ 30 rfl (e := pairT) (te := 88) info_rpair Try.underlying30 rfl (by decide) (base := w1.heap.size) (S := fun c => SO c ∨ c = wV.heap.size ∨ (Value.slice sa ms.length sc).ownBlock = some c) (v := .slice oa ol oc) rfl hOm (by simp only [World.size_alloc]; omega) rfl (ys := [pairD ([⟨xe, xl⟩], ms)]) (Src.of_cells (b := wV.heap.size + 1) (off := 0) (news := [.slice (some ⟨wV.heap.size, 0, none⟩) 1 1, .slice sa ms.length sc]) (fun j u hu => by rw [Nat.zero_add, blk_cell (alloc_new' (by simp))]; simpa using hu)) (RdL.one (e := pairT) (pair_rd (p := ([⟨xe, xl⟩], ms)) hrd1 hrdS)) (by simp only [List.length_map, List.length_cons, List.length_nil]; omega) (by simp only [List.length_map, List.length_cons, List.length_nil]; omega) ?_); intro v' wF O1 g1 _ ob1; obtain ⟨oa3, ol3, oc3, rfl, -⟩ := O1.slice; have HRPF := Lib.hid ((hq.out.below hal).pushO (p := ([⟨xe, xl⟩], ms)) g1 (by rw [List.map_append]; exact O1) (fun c hc => by (rcases hc with hc | rfl | hc; exact hSO c hc; exact ⟨by omega, fun e => by have := (hq.out.u.own _ e).2; omega⟩; exact ⟨by have := (HO8A.out.own c hc).1; have := HB2.out.size; omega, fun e => HSSV.out c hc e⟩)) ob1); have HBF := Lib.hid ((below_step HBV.out hal).grown g1 (by simp only [World.size_alloc]; omega) (fun c hc => (hO.own c hc).1)); have HORF := Lib.hid ((HORV.out.below hal).gr (Gr.of_grown g1) (fun _ h => h.elim) (fun c hc e => (HSEP2.out c hc).1 e)); have HSEPF := Lib.hid (show ∀ c, (Value.slice (some ⟨b, off, none⟩) rl.length rc).ownBlock = some c → (Value.slice oa3 ol3 oc3).ownBlock ≠ some c ∧ (Value.slice ua2 ul2 uc2).ownBlock ≠ some c from fun c hc => ⟨fun e => by (rcases ob1 with h | h; (rw [h] at e; exact (HSEP2.out c hc).1 e); (rw [h] at e; cases e; have := (HORV.out.own _ hc).2; simp only [World.size_alloc] at this; omega)), HSEPV.out c hc⟩); clear O1 g1 ob1 hq hal hO hSO hOm hrdS hrd1 hwV))
                  go_roundw
                  case rel =>
                    obtain rfl : ul2 = (t.2 ++ ((⟨xe, xl⟩ : R2) :: ms)).length := by have := HUL2.out; simpa using this
                    refine ⟨k + 1, (t.1 ++ [([⟨xe, xl⟩], ms)], t.2 ++ ((⟨xe, xl⟩ : R2) :: ms)), oa3, ol3, oc3, ua2, uc2, HKL.out, by go_num, rfl, rfl, ?_, HRPF.out, ⟨by rw [List.length_append, List.length_singleton]; omega, by rw [List.length_append, List.length_cons]; omega⟩, HORF.out, HSEPF.out, HBF.out⟩
                    rw [HTK.out, HRO.out, if_neg HM0.out]
                    rfl
                  case measure => have := HKL.out; simp [intOf]; try omega
              · obtain rfl : k = rl.length := by omega
                have hkI : ¬ ((rl.length : Nat) : Int) < (rl.length : Int) := by omega
                rw [List.take_length, ← HNX.out] at ht
                have HTE2 := Lib.hid ht
                clear hB hkl hk hRP ht hOR hsep hln HTE
                go_wp2_with fail
                go_roundw
                case rel => exact ⟨1, t, oa, ol, oc, ua, uc, by omega, rfl, rfl, rfl, HTE2.out, HRP2.out, ⟨by have := HLN.out; have := HLN2.out; omega, by have := HLN.out; have := HLN2.out; omega⟩, HB2.out⟩
                case measure => simp [intOf]
          · rcases sd with _ | sd
            · skip
              have hs12 : s.2.length ≤ 200 ∧ s.1.length ≤ 40 := by have := HLN.out; omega
              have hU0 := HRP.out.u
              have hB0 := HBW.out
              go_wp2_with fail
              refine (without28 (S := S) (S2 := fun b => b < wr.heap.size) wr a2 c2 r (by omega) (H2.out.below hB0 HS.out) (fun b hb => Nat.lt_of_lt_of_le (HS.out b hb) hB0.size) ua uc s.2 (hU0.rd _ (fun _ h => h.elim) (fun b hb => (hU0.own b hb).2)) (fun b hb => hb)).mono ?_
              rintro e wR ⟨vR, rfl, hOR, hBR⟩
              obtain ⟨ra, xR, rc, rfl, hxR, -⟩ := hOR.slice
              rw [List.length_map] at hxR
              subst hxR
              obtain ⟨rl, hrl⟩ : ∃ q, withoutL r s.2 = q := ⟨_, rfl⟩
              rw [hrl] at hOR
              simp only [hrl]
              have hrll : rl.length ≤ 12 := by rw [← hrl]; have := withoutL_len s.2 r; omega
              have HRA := Lib.hid (show ∀ y ∈ rl, amtB y.n = true from fun y hy => HA2.out y (withoutL_sub (by rw [hrl]; exact hy)))
              have HNX := Lib.hid (show rs3 l r tol = rl.foldl (rMany true l tol) s from by have hs2 : s = rs2 l r tol := HSE.out; unfold rs3; rw [← hs2, hrl])
              have HOR := Lib.hid hOR
              have HBR := Lib.hid (below_step HB.out hBR)
              have HBRW := Lib.hid (below_step HBW.out hBR)
              have HRPR := Lib.hid (HRP.out.below hBR)
              have HSEP := Lib.hid (show ∀ b, (Value.slice ra rl.length rc).ownBlock = some b → (Value.slice oa ol oc).ownBlock ≠ some b ∧ (Value.slice ua s.2.length uc).ownBlock ≠ some b from fun b hb => by
                have h0 := (hOR.own b hb).1
                obtain ⟨S2, h2, -⟩ := HRP.out.o
                exact ⟨fun e => by have := (h2.own _ e).2; omega, fun e => by have := (hU0.own _ e).2; omega⟩)
              have hwrs := HB.out.size
              clear hOR hBR hU0 hB0 hrl
              go_wp2_with fail
              obtain ⟨wq, rfl⟩ : ∃ q, q = wr := ⟨_, rfl⟩
              go_loopw [8, 9, 17] (fun v1 v2 iv wr => ∃ (k : Nat) (t : RS) (oa : Option Addr) (ol oc : Nat) (ua : Option Addr) (uc : Nat), k ≤ rl.length ∧ iv = .int .i64 (k : Int) ∧ v1 = .slice oa ol oc ∧ v2 = .slice ua t.2.length uc ∧ t = (rl.take k).foldl (rMany true l tol) s ∧ RP w1.heap.size wr (.slice oa ol oc) (.slice ua t.2.length uc) t ∧ (t.1.length ≤ s.1.length + k ∧ t.2.length ≤ s.2.length + 13 * k) ∧
                Owns openT 50 wq.heap.size (fun _ => False) wr (.slice ra rl.length rc) (rl.map O3.d) ∧ (∀ b, (Value.slice ra rl.length rc).ownBlock = some b → (Value.slice oa ol oc).ownBlock ≠ some b ∧ (Value.slice ua t.2.length uc).ownBlock ≠ some b) ∧ Below w1.heap.size w1 wr) (fun _ _ iv _ => rl.length - (intOf iv).toNat)
              case atStart => exact ⟨0, s, oa, ol, oc, ua, uc, Nat.zero_le _, rfl, rfl, rfl, rfl, HRPR.out, ⟨Nat.le_refl _, Nat.le_refl _⟩, HOR.out, HSEP.out, HBR.out⟩
              case round =>
                obtain ⟨k, t, oa, ol, oc, ua, uc, hk, rfl, rfl, rfl, ht, hRP, hln, hOR, hsep, hB⟩ := hrel
                have HRP2 := Lib.hid hRP
                have HB2 := Lib.hid hB
                have HTE := Lib.hid ht
                have HLN2 := Lib.hid hln
                have HOR2 := Lib.hid hOR
                have HSEP2 := Lib.hid hsep
                have HBW2 := Lib.hid (below_step HB1.out hB)
                by_cases hkl : k < rl.length
                · have hkI : (k : Int) < (rl.length : Int) := by omega
                  obtain ⟨b, off, hre, -, m0, m1, m2, hok⟩ := open_at (hOR.rd (fun b => b < wr.heap.size) (fun _ h => h.elim) (fun b hb => (hOR.own b hb).2)) k hkl
                  cases hre
                  have HTK := Lib.hid (show (rl.take (k + 1)).foldl (rMany true l tol) s = rMany true l tol t rl[k] from by rw [List.take_succ_eq_append_getElem hkl, List.foldl_append, ← ht]; rfl)
                  have hxa := HRA.out _ (List.getElem_mem hkl)
                  have HKL := Lib.hid hkl
                  have HRB := Lib.hid (show off = 0 ∧ (Value.slice (some ⟨b, off, none⟩) rl.length rc).ownBlock = some b from by
                    rcases hOR.len with ⟨h, -⟩ | ⟨g, cap, h, -⟩
                    · cases h
                    · simp only [Value.slice.injEq, Option.some.injEq, Addr.mk.injEq] at h
                      obtain ⟨⟨rfl, rfl, -⟩, -⟩ := h
                      exact ⟨rfl, rfl⟩)
                  generalize rl[k] = x at m0 m1 m2 hok HTK hxa
                  obtain ⟨⟨xe, xl⟩, xn⟩ := x
                  simp only at m0 m1 m2 hxa
                  have HOK := Lib.hid hok.1
                  have HXA := Lib.hid hxa
                  obtain ⟨ls, hls⟩ : ∃ q, againstL xn (withoutL l t.2) = q := ⟨_, rfl⟩
                  have HLS := Lib.hid hls
                  obtain ⟨ms, hms⟩ : ∃ q, mset xn tol ls = q := ⟨_, rfl⟩
                  have HMS := Lib.hid hms
                  have HRO := Lib.hid (show rMany true l tol t ⟨⟨xe, xl⟩, xn⟩ = if ms = [] then t else (t.1 ++ [prP true ⟨xe, xl⟩ ms], t.2 ++ ((⟨xe, xl⟩ : R2) :: ms)) from by unfold rMany; simp only [hls, hms])
                  have hmsl : ms.length ≤ 12 := by rw [← hms]; exact mset_len _ _ _
                  have hlsl : ls.length ≤ 12 := by rw [← hls]; have h1 := againstL_len xn (withoutL l t.2); have h2 := withoutL_len t.2 l; omega
                  have HLA := Lib.hid (show ∀ y ∈ ls, amtB y.n = true from fun y hy => HA1.out y (withoutL_sub (againstL_sub (by rw [hls]; exact hy))))
                  have hC0 : Cells [(⟨b, off + k * 3, none⟩, .int .i64 xe), (⟨b, off + k * 3 + 1, none⟩, .int .i64 xl), (⟨b, off + k * 3 + 2, none⟩, .int .i64 xn)] wr := ⟨m0, m1, m2, trivial⟩
                  have hlN := HLN2.out
                  clear hB ht hkl hk m0 m1 m2 hok hRP hln hxa hls hOR hsep hms
                  go_wp2_with fail
                  refine wp_region_T (Cells [(⟨b, off + k * 3, none⟩, .int .i64 xe), (⟨b, off + k * 3 + 1, none⟩, .int .i64 xl), (⟨b, off + k * 3 + 2, none⟩, .int .i64 xn)]) (fun _ => false) (by kernel_rfl) ?_
                  have hSss20 := Cells.drew hC0
                  have hB_0_s20 : Below wr.heap.size wr wr.drew := below_drew _
                  generalize wr.drew = s20 at hSss20 hB_0_s20 ⊢
                  have hB_s20_s20 := Below.refl s20.heap.size s20
                  refine wpAnyT_pure (i := 0) (v := ?_) rfl (by kernel_rfl) (by kernel_rfl) (by kernel_rfl) (fun _ _ _ h => h) (by rfl) ?_ ?_
                  rotate_left
                  · intro w; go_simp; try with_reducible rfl
                  simp only [Act.put, rgA, rgB, rgC, rgD, rgE, rgF]
                  refine wpAnyT_pure (i := 1) (v := ?_) rfl (by kernel_rfl) (by kernel_rfl) (by kernel_rfl) (fun _ _ _ h => h) (by rfl) ?_ ?_
                  rotate_left
                  · intro w; go_simp; try with_reducible rfl
                  simp only [Act.put, rgA, rgB, rgC, rgD, rgE, rgF]
                  refine wpAnyT_pure (i := 2) (v := ?_) rfl (by kernel_rfl) (by kernel_rfl) (by kernel_rfl) (fun _ _ _ h => h) (by rfl) ?_ ?_
                  rotate_left
                  · intro w; go_simp; try with_reducible rfl
                  simp only [Act.put, rgA, rgB, rgC, rgD, rgE, rgF]
                  refine wpAnyT_pure (i := 4) (v := ?_) rfl (by kernel_rfl) (by kernel_rfl) (by kernel_rfl) (fun _ _ _ h => h) (by rfl) ?_ ?_
                  rotate_left
                  · intro w; go_simp; try with_reducible rfl
                  simp only [Act.put, rgA, rgB, rgC, rgD, rgE, rgF]
                  refine wpAnyT_pure (i := 5) (v := ?_) rfl (by kernel_rfl) (by kernel_rfl) (by kernel_rfl) (fun _ _ _ h => h) (by rfl) ?_ ?_
                  rotate_left
                  · intro w; go_simp; try with_reducible rfl
                  simp only [Act.put, rgA, rgB, rgC, rgD, rgE, rgF]
                  refine wpAnyT_pure (i := 6) (v := ?_) rfl (by kernel_rfl) (by kernel_rfl) (by kernel_rfl) (fun _ _ _ h => h) (by rfl) ?_ ?_
                  rotate_left
                  · intro w; go_simp; try with_reducible rfl
                  simp only [Act.put, rgA, rgB, rgC, rgD, rgE, rgF]
                  refine wpAnyT_pure (i := 8) (v := ?_) rfl (by kernel_rfl) (by kernel_rfl) (by kernel_rfl) (fun _ _ _ h => h) (by rfl) ?_ ?_
                  rotate_left
                  · intro w; go_simp; try with_reducible rfl
                  simp only [Act.put, rgA, rgB, rgC, rgD, rgE, rgF]
                  refine wpAnyT_pure (i := 9) (v := ?_) rfl (by kernel_rfl) (by kernel_rfl) (by kernel_rfl) (fun _ _ _ h => h) (by rfl) ?_ ?_
                  rotate_left
                  · intro w; go_simp; try with_reducible rfl
                  simp only [Act.put, rgA, rgB, rgC, rgD, rgE, rgF]
                  refine wpAnyT_pure (i := 12) (v := ?_) rfl (by kernel_rfl) (by kernel_rfl) (by kernel_rfl) (fun _ _ _ h => h) (by rfl) ?_ ?_
                  rotate_left
                  · intro w; go_simp; try with_reducible rfl
                  simp only [Act.put, rgA, rgB, rgC, rgD, rgE, rgF]
                  refine wpAnyT_loadW (i := 3) (v := ?_) rfl (by kernel_rfl) (by kernel_rfl) (by kernel_rfl) (by kernel_rfl) (by kernel_rfl) (fun _ _ _ h => h) (Or.inl ⟨by rfl, ?_⟩) hSss20 ?_
                  rotate_left
                  · intro w hSw; obtain ⟨e0, e1, e2, -⟩ := hSw; go_simp; try with_reducible rfl
                  simp only [Act.put, rgA, rgB, rgC, rgD, rgE, rgF]
                  refine wpAnyT_loadW (i := 7) (v := ?_) rfl (by kernel_rfl) (by kernel_rfl) (by kernel_rfl) (by kernel_rfl) (by kernel_rfl) (fun _ _ _ h => h) (Or.inl ⟨by rfl, ?_⟩) hSss20 ?_
                  rotate_left
                  · intro w hSw; obtain ⟨e0, e1, e2, -⟩ := hSw; go_simp; try with_reducible rfl
                  simp only [Act.put, rgA, rgB, rgC, rgD, rgE, rgF]
                  refine wpAnyT_one (i := 10) (by kernel_rfl) rfl (by rfl) ?_
                  have hbP : Below w.heap.size w s20 := below_step HBW2.out (hB_0_s20.trans ((hB_s20_s20).mono hB_0_s20.size))
                  have hU := HRP2.out.u.below (hB_0_s20.trans ((hB_s20_s20).mono hB_0_s20.size))
                  refine wp_enter (f := 32) (args := #[.slice a1 l.length c1, .slice ua t.2.length uc]) (by go_simp) (without28 (S := S) (S2 := fun b => b < s20.heap.size) s20 a1 c1 l (by omega) (H1.out.below hbP HS.out) (fun b hb => Nat.lt_of_lt_of_le (HS.out b hb) hbP.size) ua uc t.2 (hU.rd _ (fun _ h => h.elim) (fun b hb => (hU.own b hb).2)) (fun b hb => hb)) ?_
                  rintro e w121 ⟨v6, rfl, hO6, hX⟩
                  obtain ⟨xa, x6, xc, rfl, hx6, -⟩ := hO6.slice
                  rw [List.length_map] at hx6
                  subst hx6
                  have HO6 := Lib.hid hO6
                  clear hbP hU hO6
                  have hB_s20_w121 := below_step hB_s20_s20 hX
                  have hB_w121_w121 := Below.refl w121.heap.size w121
                  have hSsw121 := Cells.below hB_s20_w121 hSss20
                  clear hX
                  refine ⟨_, rfl, fun _ _ => hSsw121, ?_⟩
                  try simp only [Act.put, rgA, rgB, rgC, rgD, rgE, rgF]
                  refine wpAnyT_one (i := 11) (by kernel_rfl) rfl (by rfl) ?_
                  have hO6 := HO6.out
                  refine wp_enter (f := 31) (args := #[.agg #[.int .i64 xe, .int .i64 xl, .int .i64 xn], .slice xa (withoutL l t.2).length xc]) (by go_simp) (against28 (S := fun b => b < w121.heap.size) w121 ⟨⟨xe, xl⟩, xn⟩ xa xc (withoutL l t.2) (by have h2 := withoutL_len t.2 l; omega) (hO6.rd _ (fun _ h => h.elim) (fun b hb => (hO6.own b hb).2)) (fun b hb => hb)) ?_
                  rintro e w122 ⟨v7, rfl, hO7, hX⟩
                  rw [HLS.out] at hO7
                  obtain ⟨la, x7, lc, rfl, hx7, -⟩ := hO7.slice
                  rw [List.length_map] at hx7
                  subst hx7
                  have HO7 := Lib.hid hO7
                  clear hO7 hO6
                  have hB_s20_w122 := below_step hB_s20_w121 hX
                  have hB_w121_w122 := below_step hB_w121_w121 hX
                  have hB_w122_w122 := Below.refl w122.heap.size w122
                  have hSsw122 := Cells.below hB_s20_w122 hSss20
                  clear hX
                  refine ⟨_, rfl, fun _ _ => hSsw122, ?_⟩
                  try simp only [Act.put, rgA, rgB, rgC, rgD, rgE, rgF]
                  refine wpAnyT_one (i := 13) (by kernel_rfl) rfl (by rfl) ?_
                  have hO7 := HO7.out
                  refine wp_enter (f := 34) (args := #[.agg #[.int .i64 xe, .int .i64 xl, .int .i64 xn], .slice la ls.length lc, .int .i64 tol]) (by go_simp) (rmany28 (S := fun b => b < w122.heap.size) w122 ⟨⟨xe, xl⟩, xn⟩ la lc ls tol (by omega) HXA.out HLA.out (hO7.rd _ (fun _ h => h.elim) (fun b hb => (hO7.own b hb).2)) (fun b hb => hb)) ?_
                  rintro e w123 ⟨v8, rfl, hO8, hX⟩
                  rw [HMS.out] at hO8
                  obtain ⟨sa, x8, sc, rfl, hx8, -⟩ := hO8.slice
                  rw [List.length_map] at hx8
                  subst hx8
                  have HO8 := Lib.hid (hO8.base (show wr.heap.size ≤ w122.heap.size from Nat.le_trans hB_0_s20.size (hB_s20_w122).size))
                  clear hO8 hO7
                  have hB_s20_w123 := below_step hB_s20_w122 hX
                  have hB_w121_w123 := below_step hB_w121_w122 hX
                  have hB_w122_w123 := below_step hB_w122_w122 hX
                  have hB_w123_w123 := Below.refl w123.heap.size w123
                  have hSsw123 := Cells.below hB_s20_w123 hSss20
                  clear hX
                  refine ⟨_, rfl, fun _ _ => hSsw123, ?_⟩
                  try simp only [Act.put, rgA, rgB, rgC, rgD, rgE, rgF]
                  refine wpAnyT_pure (i := 14) (v := ?_) rfl (by kernel_rfl) (by kernel_rfl) (by kernel_rfl) (fun _ _ _ h => h) (by rfl) ?_ ?_
                  rotate_left
                  · intro w; go_simp; try with_reducible rfl
                  simp only [Act.put, rgA, rgB, rgC, rgD, rgE, rgF]
                  refine wpAnyT_done (by kernel_rfl) ?_ _
                  have HBA := Lib.hid (show Below wr.heap.size wr w123 from hB_0_s20.trans ((hB_s20_w123).mono hB_0_s20.size))
                  obtain ⟨n0, n1, n2, -⟩ := hSsw123
                  obtain ⟨wA, rfl⟩ : ∃ q, q = w123 := ⟨_, rfl⟩
                  have HN := Lib.hid (And.intro n0 n1)
                  have HORA := Lib.hid (HOR2.out.below HBA.out)
                  have HRPA := Lib.hid (HRP2.out.below HBA.out)
                  have HBA1 := Lib.hid (below_step HB2.out HBA.out)
                  have hwA := HBA1.out.size
                  have hwAr := HBA.out.size
                  have hkn : k ≤ 12 := by have := HKL.out; omega
                  clear HO6 HO7 n2
                  by_cases hm0 : ms = []
                  · have HM0 := Lib.hid hm0
                    have hmI : (ms.length : Int) = 0 := by rw [hm0]; rfl
                    clear n0 n1 hm0
                    go_wp2_with fail
                    go_roundw
                    case rel =>
                      refine ⟨k + 1, t, oa, ol, oc, ua, uc, HKL.out, by go_num, rfl, rfl, ?_, HRPA.out, ⟨by omega, by omega⟩, HORA.out, HSEP2.out, HBA1.out⟩
                      rw [HTK.out, HRO.out, if_pos HM0.out]
                    case measure => have := HKL.out; simp [intOf]; try omega
                  · have HM0 := Lib.hid hm0
                    have hmI : ((ms.length : Int) == 0) = false := by simp; exact hm0
                    clear hm0
                    have HO8A := HO8
                    go_wp2_with (first | (have hq := HRPA; at_builtin; clear HRPA; have hal := (Below.refl wA.heap.size wA).alloc (Nat.le_refl _) (.cells #[.int .i64 xe, .int .i64 xl] 41); go_must (refine wpList_app _ rfl _ _ 37 rfl (e := refT) (te := 41) info_ref Try.underlying37 rfl (by decide) (v := .slice ua t.2.length uc) rfl (hq.out.u.alloc _) (by simp only [World.size_alloc]; omega) rfl (ys := [R2.d ⟨xe, xl⟩]) (Src.new _ [_, _] _ _ _) (RdL.one (e := refT) (ref_rd (r := ⟨xe, xl⟩) HOK.out)) (by simp only [List.length_map, List.length_cons, List.length_nil]; omega) (by simp only [List.length_map, List.length_cons, List.length_nil]; omega) ?_); intro v' wU O1 g1 _ ob1; obtain ⟨ua1, ul1, uc1, rfl, -⟩ := O1.slice; have HRPU := Lib.hid ((hq.out.below hal).pushU (u' := t.2 ++ [⟨xe, xl⟩]) g1 (by rw [List.map_append]; exact O1) ob1); have HBU := Lib.hid ((HBA1.out.alloc HBA1.out.size _).grown g1 (by simp only [World.size_alloc]; omega) (fun c hc => (hq.out.u.own c hc).1)); have HORU := Lib.hid ((HORA.out.alloc _).gr (Gr.of_grown g1) (fun _ h => h.elim) (fun c hc e => (HSEP2.out c hc).2 e)); have HSETU := Lib.hid ((HO8A.out.alloc _).gr (Gr.of_grown g1) (fun _ h => h.elim) (fun c hc e => by have := (HO8A.out.own c hc).1; have := (HRP2.out.u.own c e).2; omega)); have HSEPU := Lib.hid (show ∀ c, (Value.slice (some ⟨b, off, none⟩) rl.length rc).ownBlock = some c → (Value.slice ua1 ul1 uc1).ownBlock ≠ some c from fun c hc e => by (rcases ob1 with h | h; (rw [h] at e; exact (HSEP2.out c hc).2 e); (rw [h] at e; cases e; have := (HOR2.out.own _ hc).2; simp only [World.size_alloc] at this; omega))); have HSSU := Lib.hid (show ∀ c, (Value.slice sa ms.length sc).ownBlock = some c → (Value.slice ua1 ul1 uc1).ownBlock ≠ some c from fun c hc e => by (rcases ob1 with h | h; (rw [h] at e; have := (HO8A.out.own c hc).1; have := (HRP2.out.u.own c e).2; omega); (rw [h] at e; cases e; have := (HO8A.out.own _ hc).2; simp only [World.size_alloc] at this; omega))); have HNU := Lib.hid (And.intro ((Gr.of_grown g1).cell (cell_below HN.out.1 hal) (fun e => (HSEP2.out b HRB.out.2).2 e)) ((Gr.of_grown g1).cell (cell_below HN.out.2 hal) (fun e => (HSEP2.out b HRB.out.2).2 e))); clear O1 g1 ob1 hq hal n0 n1) | (have hq := HRPU; at_builtin; clear HRPU; obtain ⟨news, hsrc, hrl⟩ := (HSETU.out.rd (fun _ => True) (fun _ _ => trivial) (fun _ _ => trivial)).src; have hwU := HBU.out.size; go_must (refine wpList_app _ rfl _ _ 37 rfl (e := refT) (te := 41) info_ref Try.underlying37 rfl (by decide) (v := .slice ua1 ul1 uc1) rfl hq.out.u hwU rfl hsrc (hrl.flat (e := refT) rfl) (by simp only [List.length_map, List.length_append, List.length_cons, List.length_nil]; omega) (by simp only [List.length_map, List.length_append, List.length_cons, List.length_nil]; omega) ?_); intro v' wV O1 g1 _ ob1; obtain ⟨ua2, ul2, uc2, rfl, hul2, -⟩ := O1.slice; have HUL2 := Lib.hid hul2; have HRPV := Lib.hid (hq.out.pushU (u' := t.2 ++ ((⟨xe, xl⟩ : R2) :: ms)) g1 (by simpa using O1) ob1); have HBV := Lib.hid (HBU.out.grown g1 hwU (fun c hc => (hq.out.u.own c hc).1)); have HORV := Lib.hid (HORU.out.gr (Gr.of_grown g1) (fun _ h => h.elim) (fun c hc e => HSEPU.out c hc e)); have HSETV := Lib.hid (HSETU.out.gr (Gr.of_grown g1) (fun _ h => h.elim) (fun c hc e => HSSU.out c hc e)); have HSEPV := Lib.hid (show ∀ c, (Value.slice (some ⟨b, off, none⟩) rl.length rc).ownBlock = some c → (Value.slice ua2 ul2 uc2).ownBlock ≠ some c from fun c hc e => by (rcases ob1 with h | h; (rw [h] at e; exact HSEPU.out c hc e); (rw [h] at e; cases e; have := (HORU.out.own _ hc).2; omega))); have HSSV := Lib.hid (show ∀ c, (Value.slice sa ms.length sc).ownBlock = some c → (Value.slice ua2 ul2 uc2).ownBlock ≠ some c from fun c hc e => by (rcases ob1 with h | h; (rw [h] at e; exact HSSU.out c hc e); (rw [h] at e; cases e; have := (HSETU.out.own _ hc).2; omega))); have q0 := (Gr.of_grown g1).cell HNU.out.1 (fun e => HSEPU.out b HRB.out.2 e); have q1 := (Gr.of_grown g1).cell HNU.out.2 (fun e => HSEPU.out b HRB.out.2 e); clear O1 g1 ob1 hq hwU hsrc hrl hul2) | (have hq := HRPV; at_builtin; clear HRPV; obtain ⟨SO, hO, hSO⟩ := hq.out.o; have hwV := HBV.out.size; have hal := ((Below.refl wV.heap.size wV).alloc (Nat.le_refl _) (.cells #[.int .i64 xe, .int .i64 xl] 41)).alloc (by simp only [World.size_alloc]; omega) (.cells #[.slice sa ms.length sc, .slice (some ⟨wV.heap.size, 0, none⟩) 1 1] 88); have hOm : Owns pairT 88 w1.heap.size (fun c => SO c ∨ c = wV.heap.size ∨ (Value.slice sa ms.length sc).ownBlock = some c) _ (.slice oa ol oc) (t.1.map pairD) := (hO.below hal).mono (fun _ h => .inl h) (fun c hc => by (rcases hc with hc | rfl | hc; exact (hO.below hal).bound c hc; exact ⟨fun e => by have := (hO.own _ e).2; omega, by simp only [World.size_alloc]; omega⟩; exact ⟨fun e => by obtain ⟨S2, h2, -⟩ := HRP2.out.o; have := (h2.own _ e).2; have := (HO8A.out.own c hc).1; omega, by have := (HSETV.out.own c hc).2; simp only [World.size_alloc]; omega⟩)); have hrdS := ((HSETV.out.below hal).rd (fun c => SO c ∨ c = wV.heap.size ∨ (Value.slice sa ms.length sc).ownBlock = some c) (fun _ h => h.elim) (fun c hc => .inr (.inr hc))); have hrd1 := ref1_rd (x := ⟨xe, xl⟩) (S := fun c => SO c ∨ c = wV.heap.size ∨ (Value.slice sa ms.length sc).ownBlock = some c) (alloc_old' (y := .cells #[.slice sa ms.length sc, .slice (some ⟨wV.heap.size, 0, none⟩) 1 1] 88) (heap_alloc_new wV (.cells #[.int .i64 xe, .int .i64 xl] 41))) HOK.out (.inr (.inl rfl)); go_must (refine wpList_app _ rfl _ _ 30 rfl (e := pairT) (te := 88) info_rpair Try.underlying30 rfl (by decide) (base := w1.heap.size) (S := fun c => SO c ∨ c = wV.heap.size ∨ (Value.slice sa ms.length sc).ownBlock = some c) (v := .slice oa ol oc) rfl hOm (by simp only [World.size_alloc]; omega) rfl (ys := [pairD (ms, [⟨xe, xl⟩])]) (Src.of_cells (b := wV.heap.size + 1) (off := 0) (news := [.slice sa ms.length sc, .slice (some ⟨wV.heap.size, 0, none⟩) 1 1]) (fun j u hu => by rw [Nat.zero_add, blk_cell (alloc_new' (by simp))]; simpa using hu)) (RdL.one (e := pairT) (pair_rd (p := (ms, [⟨xe, xl⟩])) hrdS hrd1)) (by simp only [List.length_map, List.length_cons, List.length_nil]; omega) (by simp only [List.length_map, List.length_cons, List.length_nil]; omega) ?_); intro v' wF O1 g1 _ ob1; obtain ⟨oa3, ol3, oc3, rfl, -⟩ := O1.slice; have HRPF := Lib.hid ((hq.out.below hal).pushO (p := (ms, [⟨xe, xl⟩])) g1 (by rw [List.map_append]; exact O1) (fun c hc => by (rcases hc with hc | rfl | hc; exact hSO c hc; exact ⟨by omega, fun e => by have := (hq.out.u.own _ e).2; omega⟩; exact ⟨by have := (HO8A.out.own c hc).1; have := HB2.out.size; omega, fun e => HSSV.out c hc e⟩)) ob1); have HBF := Lib.hid ((below_step HBV.out hal).grown g1 (by simp only [World.size_alloc]; omega) (fun c hc => (hO.own c hc).1)); have HORF := Lib.hid ((HORV.out.below hal).gr (Gr.of_grown g1) (fun _ h => h.elim) (fun c hc e => (HSEP2.out c hc).1 e)); have HSEPF := Lib.hid (show ∀ c, (Value.slice (some ⟨b, off, none⟩) rl.length rc).ownBlock = some c → (Value.slice oa3 ol3 oc3).ownBlock ≠ some c ∧ (Value.slice ua2 ul2 uc2).ownBlock ≠ some c from fun c hc => ⟨fun e => by (rcases ob1 with h | h; (rw [h] at e; exact (HSEP2.out c hc).1 e); (rw [h] at e; cases e; have := (HORV.out.own _ hc).2; simp only [World.size_alloc] at this; omega)), HSEPV.out c hc⟩); clear O1 g1 ob1 hq hal hO hSO hOm hrdS hrd1 hwV))
                    go_roundw
                    case rel =>
                      obtain rfl : ul2 = (t.2 ++ ((⟨xe, xl⟩ : R2) :: ms)).length := by have := HUL2.out; simpa using this
                      refine ⟨k + 1, (t.1 ++ [(ms, [⟨xe, xl⟩])], t.2 ++ ((⟨xe, xl⟩ : R2) :: ms)), oa3, ol3, oc3, ua2, uc2, HKL.out, by go_num, rfl, rfl, ?_, HRPF.out, ⟨by rw [List.length_append, List.length_singleton]; omega, by rw [List.length_append, List.length_cons]; omega⟩, HORF.out, HSEPF.out, HBF.out⟩
                      rw [HTK.out, HRO.out, if_neg HM0.out]
                      rfl
                    case measure => have := HKL.out; simp [intOf]; try omega
                · obtain rfl : k = rl.length := by omega
                  have hkI : ¬ ((rl.length : Nat) : Int) < (rl.length : Int) := by omega
                  rw [List.take_length, ← HNX.out] at ht
                  have HTE2 := Lib.hid ht
                  clear hB hkl hk hRP ht hOR hsep hln HTE
                  go_wp2_with fail
                  go_roundw
                  case rel => exact ⟨2, t, oa, ol, oc, ua, uc, by omega, rfl, rfl, rfl, HTE2.out, HRP2.out, ⟨by have := HLN.out; have := HLN2.out; omega, by have := HLN.out; have := HLN2.out; omega⟩, HB2.out⟩
                  case measure => simp [intOf]
            · obtain rfl : sd = 0 := by omega
              have HS3 := Lib.hid (show s = rs3 l r tol from HSE.out)
              obtain ⟨SO, hO, hSO⟩ := HRP.out.o
              have HO := Lib.hid hO
              have HSO := Lib.hid hSO
              clear hO hSO
              go_wp2_with fail
              go_ret2
              refine ⟨.slice oa ol oc, by rw [HPM.out]; rfl, ?_, HBW.out⟩
              rw [HPM.out, ← HS3.out]
              exact HO.out.rd _ (fun b hb => ⟨by have := (HSO.out b hb).1; have := HB1.out.size; omega, (HO.out.bound b hb).2⟩) (fun b hb => ⟨by have := (HO.out.own b hb).1; have := HB1.out.size; omega, (HO.out.own b hb).2⟩)
end Go.Proofs.Ytpobckedeffjmaa
