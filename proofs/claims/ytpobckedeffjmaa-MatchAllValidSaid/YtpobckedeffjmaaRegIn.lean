/- Layer 28: the finder's one. -/
import Derived.Test.YtpobckedeffjmaaM28i
import Derived.Test.YtpobckedeffjmaaM28a
import Derived.OrdersIn
import Derived.RangeFuncCalls
set_option linter.unusedSimpArgs false
set_option maxRecDepth 50000
namespace Go.Proofs.Ytpobckedeffjmaa
open Go.RowKit Go

theorem Fin6.cs {base B gl gr : Nat} {al : Option Addr} {cl : Nat} {l : List O3} {ar : Option Addr} {cr : Nat} {r : List O3} {tol : Int} {W : World} {st : FS} (h : Fin6 base B gl gr al cl l ar cr r tol W st) :
    (W.cell? ⟨B, 0, none⟩ = some (.slice al l.length cl) ∧ W.cell? ⟨B, 1, none⟩ = some (.slice (some ⟨gl, 0, none⟩) l.length l.length)) ∧ (W.cell? ⟨B, 2, none⟩ = some (.slice ar r.length cr) ∧ W.cell? ⟨B, 3, none⟩ = some (.slice (some ⟨gr, 0, none⟩) r.length r.length)) ∧ W.cell? ⟨B, 4, none⟩ = some (.int .i64 tol) := by
  obtain ⟨⟨vo, hb, -⟩, -⟩ := h
  refine ⟨⟨?_, ?_⟩, ⟨?_, ?_⟩, ?_⟩ <;> (rw [blk_cell hb]; rfl)
def bI : Option Nat → Int
  | none => -1
  | some j => (j : Int)
set_option maxHeartbeats 4000000 in
theorem one28 {base B gl gr : Nat} {al : Option Addr} {cl : Nat} {l : List O3} {ar : Option Addr} {cr : Nat} {r : List O3} {tol : Int} {st : FS} (w : World) (hF : Fin6 base B gl gr al cl l ar cr r tol w st) (hol : st.out.length ≤ 1000) :
    Calls Try.prog 26 #[.pointer (some ⟨B, 0, none⟩)] w fun e w' => e = .returned (.tuple #[]) ∧ Fin6 base B gl gr al cl l ar cr r tol w' (oneAt l r tol st l.length) ∧ Below base w w' := by
  have hll : l.length ≤ 60 := hF.am.2.2.1
  have hrl : r.length ≤ 60 := hF.am.2.2.2.1
  have htol := hF.am.2.2.2.2
  obtain ⟨htl, htu⟩ := htol
  have HF0 := Lib.hid hF
  obtain ⟨⟨q0, q1⟩, ⟨q2, q3⟩, q4⟩ := hF.cs
  clear hF
  go_enter Try.func26, Try.ntmps26
  go_wp2_with fail
  go_loopw [14] (fun iv wr => ∃ (i : Nat), i ≤ l.length ∧ iv = .int .i64 i ∧ Fin6 base B gl gr al cl l ar cr r tol wr (oneAt l r tol st i) ∧ Below base w wr) (fun iv _ => l.length - (intOf iv).toNat)
  case atStart => exact ⟨0, Nat.zero_le _, rfl, HF0.out, Below.refl _ _⟩
  case round =>
    obtain ⟨i, hi, rfl, hF, hB⟩ := hrel
    have HF := Lib.hid hF
    have HB := Lib.hid hB
    clear hF hB q0 q1 q2 q3 q4
    by_cases hil : i < l.length
    · have hiI : (i : Int) < (l.length : Int) := by omega
      obtain ⟨xb, xo, rfl, -, m0, m1, m2, hxo⟩ := open_at HF.out.rl i hil
      rw [lat_get hil] at m0 m1 m2 hxo
      have hxa := HF.out.am.1 l[i] (List.getElem_mem hil)
      rw [lat_get hil] at hxa
      obtain ⟨x, hx⟩ : ∃ x, lat l i = x := ⟨_, rfl⟩
      rw [hx] at m0 m1 m2 hxo hxa
      have HX := Lib.hid hx
      have HIL := Lib.hid hil
      have HXO := Lib.hid hxo
      obtain ⟨⟨xe, xl⟩, xn⟩ := x
      obtain ⟨hx0, hx1, hx2⟩ := amt_bounds hxa
      simp only at m0 m1 m2 hx0 hx1 hx2
      clear hx hil hi hxo hxa
      have hBa := (Below.refl wr.heap.size wr).alloc (Nat.le_refl _) (.cells #[.int .i64 xe, .int .i64 xl, .int .i64 xn] 48)
      have hqb := heap_alloc_new wr (.cells #[.int .i64 xe, .int .i64 xl, .int .i64 xn] 48)
      have HFA := Lib.hid (HF.out.below hBa)
      have HBA := Lib.hid hBa
      obtain ⟨⟨q0, q1⟩, ⟨q2, q3⟩, q4⟩ := HFA.out.cs
      have hx3 := blk_cell hqb 0
      have hx4 := blk_cell hqb 1
      have hx5 := blk_cell hqb 2
      simp only [List.getElem?_toArray, List.getElem?_cons_zero, List.getElem?_cons_succ] at hx3 hx4 hx5
      have HQX := Lib.hid hqb
      clear hqb hBa
      go_wp2_with fail
      obtain ⟨so, hso⟩ : ∃ s, oneAt l r tol st i = s := ⟨_, rfl⟩
      rw [hso] at HFA
      have HSO := Lib.hid hso
      clear hso m0 m1 m2
      generalize hwx : wr.alloc (.cells #[.int .i64 xe, .int .i64 xl, .int .i64 xn] 48) = wx at *
      clear hwx
      have HBX := Lib.hid (show Below base w wx from HB.out.trans (HBA.out.mono HF.out.lt))
      have HNB := Lib.hid (show (base ≤ wr.heap.size ∧ B < wr.heap.size ∧ gl < wr.heap.size ∧ gr < wr.heap.size) ∧ wr.heap.size < wx.heap.size from by
        obtain ⟨vo, hb, -⟩ := HF.out.cells
        exact ⟨⟨HF.out.lt, blk_lt hb, blk_lt HF.out.left, blk_lt HF.out.right⟩, blk_lt HQX.out⟩)
      clear HBA HB
      generalize wr.heap.size = bx at *
      have HX3 := Lib.hid hx3
      have HX4 := Lib.hid hx4
      have HX5 := Lib.hid hx5
      clear hx3 hx4 hx5 q0 q1 q2 q3 q4
      go_loopw [4, 25] (fun v iv w2 => ∃ (k : Nat), k ≤ r.length ∧ iv = .int .i64 k ∧ v = .int .i64 (bI (bestM xn r so.ur tol k)) ∧ Below wx.heap.size wx w2) (fun _ iv _ => r.length - (intOf iv).toNat)
      case atStart => exact ⟨0, Nat.zero_le _, rfl, rfl, Below.refl _ _⟩
      case round =>
        obtain ⟨k, hk, rfl, rfl, hBk⟩ := hrel
        by_cases hkr : k < r.length
        · have hkI : (k : Int) < (r.length : Int) := by omega
          have HFK := HFA.out.below hBk
          have HBK := Lib.hid hBk
          obtain ⟨yb, yo, rfl, -, n0, n1, n2, hyo⟩ := open_at HFK.rr k hkr
          rw [lat_get hkr] at n0 n1 n2 hyo
          have hya := HFK.am.2.1 r[k] (List.getElem_mem hkr)
          rw [lat_get hkr] at hya
          obtain ⟨y, hy⟩ : ∃ y, lat r k = y := ⟨_, rfl⟩
          rw [hy] at n0 n1 n2 hyo hya
          have HY := Lib.hid hy
          have HKR := Lib.hid hkr
          obtain ⟨⟨ye, yl⟩, yn⟩ := y
          obtain ⟨hy0, hy1, hy2⟩ := amt_bounds hya
          simp only at n0 n1 n2 hy0 hy1 hy2
          have hxc := HX5.out
          have hBb := (Below.refl wr.heap.size wr).alloc (Nat.le_refl _) (.cells #[.int .i64 ye, .int .i64 yl, .int .i64 yn] 48)
          have hqb := heap_alloc_new wr (.cells #[.int .i64 ye, .int .i64 yl, .int .i64 yn] 48)
          have hy3 := blk_cell hqb 0
          have hy4 := blk_cell hqb 1
          have hy5 := blk_cell hqb 2
          simp only [List.getElem?_toArray, List.getElem?_cons_zero, List.getElem?_cons_succ] at hy3 hy4 hy5
          have hx3 := cell_below HX3.out (below_step hBk hBb)
          have hx4 := cell_below HX4.out (below_step hBk hBb)
          have hx5 := cell_below HX5.out (below_step hBk hBb)
          have HFY := Lib.hid (HFK.below hBb)
          have HBY := Lib.hid (below_step hBk hBb)
          obtain ⟨⟨q0, q1⟩, ⟨q2, q3⟩, q4⟩ := HFY.out.cs
          have hu := bRow_at HFY.out.right (k := k) (by rw [HFY.out.lr]; exact hkr)
          obtain ⟨uk, huk⟩ : ∃ u, uat so.ur k = u := ⟨_, rfl⟩
          rw [huk] at hu
          have HUK := Lib.hid huk
          have hsum := szI_bounds (n := xn + yn) (N := 2000000000000) (by omega)
          obtain ⟨rs, hrs⟩ : ∃ q, szI (xn + yn) = q := ⟨_, rfl⟩
          rw [hrs] at hsum
          have HRS := Lib.hid hrs
          clear hqb hBb hBk hk hkr hyo hya hy HFK huk hrs hxc
          go_upto_region 7 with fail
          generalize World.alloc wr (.cells #[.int .i64 ye, .int .i64 yl, .int .i64 yn] 48) = wy at *
          generalize wr.heap.size = yb2 at *
          cases uk
          case true =>
            have HN := Lib.hid (show bestM xn r so.ur tol (k + 1) = bestM xn r so.ur tol k from by rw [bestM]; rw [if_neg]; unfold fitB; rw [HUK.out]; simp)
            clear n0 n1 n2 hy3 hy4 
            go_wp2_with (first | (go_at_call 40; refine (size28 _ _ (by omega)).mono ?_; rintro e w9 ⟨rfl, hw9⟩; rw [hw9, HRS.out]; clear hw9) | (go_at_call 41; refine (opposite28 _ _ _).mono ?_; rintro e w9 ⟨rfl, hw9⟩; rw [hw9, HOP.out]; clear hw9))
            go_roundw
            case rel => exact ⟨k + 1, HKR.out, by go_num, by rw [HN.out], HBY.out⟩
            case measure => have := HKR.out; simp [intOf]; try omega
          by_cases hop : oppB xn yn = true
          case neg =>
            rw [Bool.not_eq_true] at hop
            have HOP := Lib.hid hop
            have HN := Lib.hid (show bestM xn r so.ur tol (k + 1) = bestM xn r so.ur tol k from by rw [bestM]; rw [if_neg]; unfold fitB; rw [HY.out, hop]; simp)
            clear n0 n1 n2 hy3 hy4 hop
            go_wp2_with (first | (go_at_call 40; refine (size28 _ _ (by omega)).mono ?_; rintro e w9 ⟨rfl, hw9⟩; rw [hw9, HRS.out]; clear hw9) | (go_at_call 41; refine (opposite28 _ _ _).mono ?_; rintro e w9 ⟨rfl, hw9⟩; rw [hw9, HOP.out]; clear hw9))
            go_roundw
            case rel => exact ⟨k + 1, HKR.out, by go_num, by rw [HN.out], HBY.out⟩
            case measure => have := HKR.out; simp [intOf]; try omega
          have HOP := Lib.hid hop
          by_cases hgt : tol < rs
          case pos =>
            have HN := Lib.hid (show bestM xn r so.ur tol (k + 1) = bestM xn r so.ur tol k from by rw [bestM]; rw [if_neg]; unfold fitB; rw [HY.out, HRS.out, decide_eq_true hgt]; simp)
            clear n0 n1 n2 hy3 hy4 hop
            go_wp2_with (first | (go_at_call 40; refine (size28 _ _ (by omega)).mono ?_; rintro e w9 ⟨rfl, hw9⟩; rw [hw9, HRS.out]; clear hw9) | (go_at_call 41; refine (opposite28 _ _ _).mono ?_; rintro e w9 ⟨rfl, hw9⟩; rw [hw9, HOP.out]; clear hw9))
            go_roundw
            case rel => exact ⟨k + 1, HKR.out, by go_num, by rw [HN.out], HBY.out⟩
            case measure => have := HKR.out; simp [intOf]; try omega
          have HFB := Lib.hid (show fitB xn r so.ur tol k = true from by unfold fitB; rw [HUK.out, HY.out, hop, HRS.out, decide_eq_false hgt]; rfl)
          have HYM := Lib.hid HY.out
          obtain ⟨bo, hbo⟩ : ∃ b, bestM xn r so.ur tol k = b := ⟨_, rfl⟩
          have HBO := Lib.hid hbo
          rw [hbo]
          clear n0 n1 n2 hy3 hy4 hop hbo
          cases bo with
          | none =>
            have HN := Lib.hid (show bestM xn r so.ur tol (k + 1) = some k from by rw [bestM, if_pos HFB.out, HBO.out])
            show Code.wp _ _ _ _ _
            rw [show bI none = -1 from rfl]
            go_wp2_with (first | (go_at_call 40; refine (size28 _ _ (by omega)).mono ?_; rintro e w9 ⟨rfl, hw9⟩; rw [hw9, HRS.out]; clear hw9) | (go_at_call 41; refine (opposite28 _ _ _).mono ?_; rintro e w9 ⟨rfl, hw9⟩; rw [hw9, HOP.out]; clear hw9))
            refine wp_region_T (fun _ => True) (fun _ => false) (by kernel_rfl) ?_
            refine wpAnyT_pure (i := 0) (v := ?_) rfl (by kernel_rfl) (by kernel_rfl) (by kernel_rfl) (fun _ _ _ h => h) (by rfl) ?_ ?_
            rotate_left
            · intro w; go_simp; try with_reducible rfl
            simp only [Act.put, rgA, rgB, rgC, rgD, rgE, rgF]
            refine wpAnyT_pure (i := 1) (v := ?_) rfl (by kernel_rfl) (by kernel_rfl) (by kernel_rfl) (fun _ _ _ h => h) (by rfl) ?_ ?_
            rotate_left
            · intro w; go_simp; try with_reducible rfl
            simp only [Act.put, rgA, rgB, rgC, rgD, rgE, rgF]
            refine wpAnyT_pure (i := 2) (v := ?_) rfl (by kernel_rfl) (by kernel_rfl) (by kernel_rfl) (fun _ _ _ h => h) (by rfl) ?_ ?_
            rotate_left
            · intro w; go_simp; try with_reducible rfl
            simp only [Act.put, rgA, rgB, rgC, rgD, rgE, rgF]
            refine wpAnyT_skip (i := 3) rfl (by kernel_rfl) (by kernel_rfl) (by kernel_rfl) (fun _ _ _ h => h) (by rfl) ?_
            simp only [Act.put, rgA, rgB, rgC, rgD, rgE, rgF]
            refine wpAnyT_skip (i := 4) rfl (by kernel_rfl) (by kernel_rfl) (by kernel_rfl) (fun _ _ _ h => h) (by rfl) ?_
            simp only [Act.put, rgA, rgB, rgC, rgD, rgE, rgF]
            refine wpAnyT_skip (i := 5) rfl (by kernel_rfl) (by kernel_rfl) (by kernel_rfl) (fun _ _ _ h => h) (by rfl) ?_
            simp only [Act.put, rgA, rgB, rgC, rgD, rgE, rgF]
            refine wpAnyT_skip (i := 6) rfl (by kernel_rfl) (by kernel_rfl) (by kernel_rfl) (fun _ _ _ h => h) (by rfl) ?_
            simp only [Act.put, rgA, rgB, rgC, rgD, rgE, rgF]
            refine wpAnyT_skip (i := 7) rfl (by kernel_rfl) (by kernel_rfl) (by kernel_rfl) (fun _ _ _ h => h) (by rfl) ?_
            simp only [Act.put, rgA, rgB, rgC, rgD, rgE, rgF]
            refine wpAnyT_skip (i := 8) rfl (by kernel_rfl) (by kernel_rfl) (by kernel_rfl) (fun _ _ _ h => h) (by rfl) ?_
            simp only [Act.put, rgA, rgB, rgC, rgD, rgE, rgF]
            refine wpAnyT_skip (i := 9) rfl (by kernel_rfl) (by kernel_rfl) (by kernel_rfl) (fun _ _ _ h => h) (by rfl) ?_
            simp only [Act.put, rgA, rgB, rgC, rgD, rgE, rgF]
            refine wpAnyT_skip (i := 10) rfl (by kernel_rfl) (by kernel_rfl) (by kernel_rfl) (fun _ _ _ h => h) (by rfl) ?_
            simp only [Act.put, rgA, rgB, rgC, rgD, rgE, rgF]
            refine wpAnyT_skip (i := 11) rfl (by kernel_rfl) (by kernel_rfl) (by kernel_rfl) (fun _ _ _ h => h) (by rfl) ?_
            simp only [Act.put, rgA, rgB, rgC, rgD, rgE, rgF]
            refine wpAnyT_skip (i := 12) rfl (by kernel_rfl) (by kernel_rfl) (by kernel_rfl) (fun _ _ _ h => h) (by rfl) ?_
            simp only [Act.put, rgA, rgB, rgC, rgD, rgE, rgF]
            refine wpAnyT_skip (i := 13) rfl (by kernel_rfl) (by kernel_rfl) (by kernel_rfl) (fun _ _ _ h => h) (by rfl) ?_
            simp only [Act.put, rgA, rgB, rgC, rgD, rgE, rgF]
            refine wpAnyT_skip (i := 14) rfl (by kernel_rfl) (by kernel_rfl) (by kernel_rfl) (fun _ _ _ h => h) (by rfl) ?_
            simp only [Act.put, rgA, rgB, rgC, rgD, rgE, rgF]
            refine wpAnyT_skip (i := 15) rfl (by kernel_rfl) (by kernel_rfl) (by kernel_rfl) (fun _ _ _ h => h) (by rfl) ?_
            simp only [Act.put, rgA, rgB, rgC, rgD, rgE, rgF]
            refine wpAnyT_skip (i := 16) rfl (by kernel_rfl) (by kernel_rfl) (by kernel_rfl) (fun _ _ _ h => h) (by rfl) ?_
            simp only [Act.put, rgA, rgB, rgC, rgD, rgE, rgF]
            refine wpAnyT_skip (i := 17) rfl (by kernel_rfl) (by kernel_rfl) (by kernel_rfl) (fun _ _ _ h => h) (by rfl) ?_
            simp only [Act.put, rgA, rgB, rgC, rgD, rgE, rgF]
            refine wpAnyT_pure (i := 18) (v := ?_) rfl (by kernel_rfl) (by kernel_rfl) (by kernel_rfl) (fun _ _ _ h => h) (by rfl) ?_ ?_
            rotate_left
            · intro w; go_simp; try with_reducible rfl
            simp only [Act.put, rgA, rgB, rgC, rgD, rgE, rgF]
            refine wpAnyT_done (by kernel_rfl) ?_ _
            go_wp2_with fail
            go_roundw
            case rel => exact ⟨k + 1, HKR.out, by go_num, by rw [HN.out]; rfl, HBY.out.drew⟩
            case measure => have := HKR.out; simp [intOf]; try omega
          | some j =>
            have hj := bestM_lt HBO.out
            rw [show bI (some j) = (j : Int) from rfl]
            obtain ⟨b2, o2, he, -, -, -, p2, -⟩ := open_at HFY.out.rr j (by have := HKR.out; omega)
            rw [lat_get (by have := HKR.out; omega)] at p2
            have hja := HFY.out.am.2.1 r[j] (List.getElem_mem (by have := HKR.out; omega))
            rw [lat_get (by have := HKR.out; omega)] at hja
            obtain ⟨hj0, hj1, hj2⟩ := amt_bounds hja
            simp only [Option.some.injEq, Addr.mk.injEq, and_true] at he
            obtain ⟨rfl, rfl⟩ := he
            obtain ⟨jn, hjn⟩ : ∃ q, (lat r j).n = q := ⟨_, rfl⟩
            obtain ⟨sj, hsj⟩ : ∃ q, szI (xn + jn) = q := ⟨_, rfl⟩
            have HN := Lib.hid (show bestM xn r so.ur tol (k + 1) = if rs < sj then some k else some j from by
              rw [bestM, if_pos HFB.out, HBO.out]
              simp only [HYM.out, hjn, HRS.out, hsj])
            rw [hjn] at p2 hj0 hj1 hj2
            have HSJ := Lib.hid hsj
            have hS0 : Cells [(⟨bx, 2, none⟩, .int .i64 xn), (⟨B, 2, none⟩, .slice (some ⟨yb, yo, none⟩) r.length cr), (⟨yb, yo + j * 3 + 2, none⟩, .int .i64 jn)] wy.drew := ⟨hx5, q2, p2, trivial⟩
            have hjk : j < r.length := by have := HKR.out; omega
            have hjI : (j : Int) < (r.length : Int) := by omega
            clear hja hjn hsj
            go_wp2_with (first | (go_at_call 40; refine (size28 _ _ (by omega)).mono ?_; rintro e w9 ⟨rfl, hw9⟩; rw [hw9, HRS.out]; clear hw9) | (go_at_call 41; refine (opposite28 _ _ _).mono ?_; rintro e w9 ⟨rfl, hw9⟩; rw [hw9, HOP.out]; clear hw9))
            clear p2
            refine wp_region_T (Cells [(⟨bx, 2, none⟩, .int .i64 xn), (⟨B, 2, none⟩, .slice (some ⟨yb, yo, none⟩) r.length cr), (⟨yb, yo + j * 3 + 2, none⟩, .int .i64 jn)]) (fun _ => false) (by kernel_rfl) ?_
            refine wpAnyT_pure (i := 0) (v := ?_) rfl (by kernel_rfl) (by kernel_rfl) (by kernel_rfl) (fun _ _ _ h => h) (by rfl) ?_ ?_
            rotate_left
            · intro w; go_simp; try with_reducible rfl
            simp only [Act.put, rgA, rgB, rgC, rgD, rgE, rgF]
            refine wpAnyT_pure (i := 1) (v := ?_) rfl (by kernel_rfl) (by kernel_rfl) (by kernel_rfl) (fun _ _ _ h => h) (by rfl) ?_ ?_
            rotate_left
            · intro w; go_simp; try with_reducible rfl
            simp only [Act.put, rgA, rgB, rgC, rgD, rgE, rgF]
            refine wpAnyT_pure (i := 2) (v := ?_) rfl (by kernel_rfl) (by kernel_rfl) (by kernel_rfl) (fun _ _ _ h => h) (by rfl) ?_ ?_
            rotate_left
            · intro w; go_simp; try with_reducible rfl
            simp only [Act.put, rgA, rgB, rgC, rgD, rgE, rgF]
            refine wpAnyT_pure (i := 3) (v := ?_) rfl (by kernel_rfl) (by kernel_rfl) (by kernel_rfl) (fun _ _ _ h => h) (by rfl) ?_ ?_
            rotate_left
            · intro w; go_simp; try with_reducible rfl
            simp only [Act.put, rgA, rgB, rgC, rgD, rgE, rgF]
            refine wpAnyT_pure (i := 4) (v := ?_) rfl (by kernel_rfl) (by kernel_rfl) (by kernel_rfl) (fun _ _ _ h => h) (by rfl) ?_ ?_
            rotate_left
            · intro w; go_simp; try with_reducible rfl
            simp only [Act.put, rgA, rgB, rgC, rgD, rgE, rgF]
            refine wpAnyT_pure (i := 6) (v := ?_) rfl (by kernel_rfl) (by kernel_rfl) (by kernel_rfl) (fun _ _ _ h => h) (by rfl) ?_ ?_
            rotate_left
            · intro w; go_simp; try with_reducible rfl
            simp only [Act.put, rgA, rgB, rgC, rgD, rgE, rgF]
            refine wpAnyT_pure (i := 7) (v := ?_) rfl (by kernel_rfl) (by kernel_rfl) (by kernel_rfl) (fun _ _ _ h => h) (by rfl) ?_ ?_
            rotate_left
            · intro w; go_simp; try with_reducible rfl
            simp only [Act.put, rgA, rgB, rgC, rgD, rgE, rgF]
            refine wpAnyT_pure (i := 8) (v := ?_) rfl (by kernel_rfl) (by kernel_rfl) (by kernel_rfl) (fun _ _ _ h => h) (by rfl) ?_ ?_
            rotate_left
            · intro w; go_simp; try with_reducible rfl
            simp only [Act.put, rgA, rgB, rgC, rgD, rgE, rgF]
            refine wpAnyT_pure (i := 9) (v := ?_) rfl (by kernel_rfl) (by kernel_rfl) (by kernel_rfl) (fun _ _ _ h => h) (by rfl) ?_ ?_
            rotate_left
            · intro w; go_simp; try with_reducible rfl
            simp only [Act.put, rgA, rgB, rgC, rgD, rgE, rgF]
            refine wpAnyT_pure (i := 11) (v := ?_) rfl (by kernel_rfl) (by kernel_rfl) (by kernel_rfl) (fun _ _ _ h => h) (by rfl) ?_ ?_
            rotate_left
            · intro w; go_simp; try with_reducible rfl
            simp only [Act.put, rgA, rgB, rgC, rgD, rgE, rgF]
            refine wpAnyT_loadW (i := 5) (v := ?_) rfl (by kernel_rfl) (by kernel_rfl) (by kernel_rfl) (by kernel_rfl) (by kernel_rfl) (fun _ _ _ h => h) (Or.inl ⟨by rfl, ?_⟩) hS0 ?_
            rotate_left
            · intro w hSw; obtain ⟨e0, e1, e2, -⟩ := hSw; go_simp; try with_reducible rfl
            simp only [Act.put, rgA, rgB, rgC, rgD, rgE, rgF]
            refine wpAnyT_loadW (i := 10) (v := ?_) rfl (by kernel_rfl) (by kernel_rfl) (by kernel_rfl) (by kernel_rfl) (by kernel_rfl) (fun _ _ _ h => h) (Or.inl ⟨by rfl, ?_⟩) hS0 ?_
            rotate_left
            · intro w hSw; obtain ⟨e0, e1, e2, -⟩ := hSw; go_simp; try with_reducible rfl
            simp only [Act.put, rgA, rgB, rgC, rgD, rgE, rgF]
            refine wpAnyT_pure (i := 12) (v := ?_) rfl (by kernel_rfl) (by kernel_rfl) (by kernel_rfl) (fun _ _ _ h => h) (by rfl) ?_ ?_
            rotate_left
            · intro w; go_simp; try with_reducible rfl
            simp only [Act.put, rgA, rgB, rgC, rgD, rgE, rgF]
            refine wpAnyT_pure (i := 13) (v := ?_) rfl (by kernel_rfl) (by kernel_rfl) (by kernel_rfl) (fun _ _ _ h => h) (by rfl) ?_ ?_
            rotate_left
            · intro w; go_simp; try with_reducible rfl
            simp only [Act.put, rgA, rgB, rgC, rgD, rgE, rgF]
            refine wpAnyT_loadW (i := 14) (v := ?_) rfl (by kernel_rfl) (by kernel_rfl) (by kernel_rfl) (by kernel_rfl) (by kernel_rfl) (fun _ _ _ h => h) (Or.inl ⟨by rfl, ?_⟩) hS0 ?_
            rotate_left
            · intro w hSw; obtain ⟨e0, e1, e2, -⟩ := hSw; go_simp; try with_reducible rfl
            simp only [Act.put, rgA, rgB, rgC, rgD, rgE, rgF]
            refine wpAnyT_pure (i := 15) (v := ?_) rfl (by kernel_rfl) (by kernel_rfl) (by kernel_rfl) (fun _ _ _ h => h) (by rfl) ?_ ?_
            rotate_left
            · intro w; go_simp; try with_reducible rfl
            simp only [Act.put, rgA, rgB, rgC, rgD, rgE, rgF]
            refine wpAnyT_one (i := 16) (by kernel_rfl) rfl (by rfl) ?_
            refine wp_enter (f := 40) (args := #[.int .i64 (xn + jn)]) (by go_simp; rw [IntKind.wrap_i64] <;> omega) (size28 _ _ (by omega)) ?_
            rintro e y1 ⟨rfl, rfl⟩
            rw [HSJ.out]
            refine ⟨_, rfl, fun _ h => h, ?_⟩
            try simp only [Act.put, rgA, rgB, rgC, rgD, rgE, rgF]
            refine wpAnyT_pure (i := 17) (v := ?_) rfl (by kernel_rfl) (by kernel_rfl) (by kernel_rfl) (fun _ _ _ h => h) (by rfl) ?_ ?_
            rotate_left
            · intro w; go_simp; try with_reducible rfl
            simp only [Act.put, rgA, rgB, rgC, rgD, rgE, rgF]
            refine wpAnyT_pure (i := 18) (v := ?_) rfl (by kernel_rfl) (by kernel_rfl) (by kernel_rfl) (fun _ _ _ h => h) (by rfl) ?_ ?_
            rotate_left
            · intro w; go_simp; try with_reducible rfl
            simp only [Act.put, rgA, rgB, rgC, rgD, rgE, rgF]
            refine wpAnyT_done (by kernel_rfl) ?_ _
            by_cases hlt : rs < sj
            · have HN2 := Lib.hid (show bestM xn r so.ur tol (k + 1) = some k from by rw [HN.out, if_pos hlt])
              go_wp2_with fail
              go_roundw
              case rel => exact ⟨k + 1, HKR.out, by go_num, by rw [HN2.out]; rfl, HBY.out.drew⟩
              case measure => have := HKR.out; simp [intOf]; try omega
            · have HN2 := Lib.hid (show bestM xn r so.ur tol (k + 1) = some j from by rw [HN.out, if_neg hlt])
              go_wp2_with fail
              go_roundw
              case rel => exact ⟨k + 1, HKR.out, by go_num, by rw [HN2.out]; rfl, HBY.out.drew⟩
              case measure => have := HKR.out; simp [intOf]; try omega
        · obtain rfl : k = r.length := by omega
          have HBK := Lib.hid hBk
          clear hkr hk hBk
          cases hbm : bestM xn r so.ur tol r.length with
          | none =>
            have HBM := Lib.hid hbm
            rw [show bI none = -1 from rfl]
            clear hbm
            go_wp2_with fail
            go_roundw
            case rel => exact ⟨i + 1, HIL.out, by go_num, by rw [oneAt_succ, HSO.out]; unfold oneStep; rw [HX.out]; simp only [HBM.out]; exact HFA.out.below HBK.out, HBX.out.trans (HBK.out.mono (by have := HFA.out.lt; omega))⟩
            case measure => have := HIL.out; simp [intOf]; try omega
          | some k =>
            have HBM := Lib.hid hbm
            have hkr := bestM_lt hbm
            rw [show bI (some k) = (k : Int) from rfl]
            clear hbm
            go_wp2_with fail
            have HFR := HFA.out.below HBK.out
            obtain ⟨⟨q0, q1⟩, ⟨q2, q3⟩, q4⟩ := HFR.cs
            have HBR := Lib.hid (show Below base w wr from HBX.out.trans (HBK.out.mono (by have := HFA.out.lt; omega)))
            have hx3 := cell_below HX3.out HBK.out
            have hx4 := cell_below HX4.out HBK.out
            have hC0 : Cells [(⟨B, 1, none⟩, .slice (some ⟨gl, 0, none⟩) l.length l.length), (⟨B, 3, none⟩, .slice (some ⟨gr, 0, none⟩) r.length r.length), (⟨bx, 0, none⟩, .int .i64 xe), (⟨bx, 1, none⟩, .int .i64 xl)] wr := ⟨q1, q3, hx3, hx4, trivial⟩
            have HFR := Lib.hid HFR
            have hkI : (k : Int) < (r.length : Int) := by omega
            clear q0 q1 q2 q3 q4 hx3 hx4
            refine wp_region_T (Cells [(⟨B, 1, none⟩, .slice (some ⟨gl, 0, none⟩) l.length l.length), (⟨B, 3, none⟩, .slice (some ⟨gr, 0, none⟩) r.length r.length), (⟨bx, 0, none⟩, .int .i64 xe), (⟨bx, 1, none⟩, .int .i64 xl)]) (fun _ => false) (by kernel_rfl) ?_
            have hSss1 := Cells.drew hC0
            have hB_0_s1 : Below wr.heap.size wr wr.drew := below_drew _
            generalize wr.drew = s1 at hSss1 hB_0_s1 ⊢
            have hB_s1_s1 := Below.refl s1.heap.size s1
            refine wpAnyT_pure (i := 0) (v := ?_) rfl (by kernel_rfl) (by kernel_rfl) (by kernel_rfl) (fun _ _ _ h => h) (by rfl) ?_ ?_
            rotate_left
            · intro w; go_simp; try with_reducible rfl
            simp only [Act.put, rgA, rgB, rgC, rgD, rgE, rgF]
            refine wpAnyT_pure (i := 1) (v := ?_) rfl (by kernel_rfl) (by kernel_rfl) (by kernel_rfl) (fun _ _ _ h => h) (by rfl) ?_ ?_
            rotate_left
            · intro w; go_simp; try with_reducible rfl
            simp only [Act.put, rgA, rgB, rgC, rgD, rgE, rgF]
            refine wpAnyT_pure (i := 2) (v := ?_) rfl (by kernel_rfl) (by kernel_rfl) (by kernel_rfl) (fun _ _ _ h => h) (by rfl) ?_ ?_
            rotate_left
            · intro w; go_simp; try with_reducible rfl
            simp only [Act.put, rgA, rgB, rgC, rgD, rgE, rgF]
            refine wpAnyT_pure (i := 3) (v := ?_) rfl (by kernel_rfl) (by kernel_rfl) (by kernel_rfl) (fun _ _ _ h => h) (by rfl) ?_ ?_
            rotate_left
            · intro w; go_simp; try with_reducible rfl
            simp only [Act.put, rgA, rgB, rgC, rgD, rgE, rgF]
            refine wpAnyT_pure (i := 5) (v := ?_) rfl (by kernel_rfl) (by kernel_rfl) (by kernel_rfl) (fun _ _ _ h => h) (by rfl) ?_ ?_
            rotate_left
            · intro w; go_simp; try with_reducible rfl
            simp only [Act.put, rgA, rgB, rgC, rgD, rgE, rgF]
            refine wpAnyT_pure (i := 6) (v := ?_) rfl (by kernel_rfl) (by kernel_rfl) (by kernel_rfl) (fun _ _ _ h => h) (by rfl) ?_ ?_
            rotate_left
            · intro w; go_simp; try with_reducible rfl
            simp only [Act.put, rgA, rgB, rgC, rgD, rgE, rgF]
            refine wpAnyT_pure (i := 7) (v := ?_) rfl (by kernel_rfl) (by kernel_rfl) (by kernel_rfl) (fun _ _ _ h => h) (by rfl) ?_ ?_
            rotate_left
            · intro w; go_simp; try with_reducible rfl
            simp only [Act.put, rgA, rgB, rgC, rgD, rgE, rgF]
            refine wpAnyT_pure (i := 8) (v := ?_) rfl (by kernel_rfl) (by kernel_rfl) (by kernel_rfl) (fun _ _ _ h => h) (by rfl) ?_ ?_
            rotate_left
            · intro w; go_simp; try with_reducible rfl
            simp only [Act.put, rgA, rgB, rgC, rgD, rgE, rgF]
            refine wpAnyT_pure (i := 9) (v := ?_) rfl (by kernel_rfl) (by kernel_rfl) (by kernel_rfl) (fun _ _ _ h => h) (by rfl) ?_ ?_
            rotate_left
            · intro w; go_simp; try with_reducible rfl
            simp only [Act.put, rgA, rgB, rgC, rgD, rgE, rgF]
            refine wpAnyT_pure (i := 11) (v := ?_) rfl (by kernel_rfl) (by kernel_rfl) (by kernel_rfl) (fun _ _ _ h => h) (by rfl) ?_ ?_
            rotate_left
            · intro w; go_simp; try with_reducible rfl
            simp only [Act.put, rgA, rgB, rgC, rgD, rgE, rgF]
            refine wpAnyT_loadW (i := 4) (v := ?_) rfl (by kernel_rfl) (by kernel_rfl) (by kernel_rfl) (by kernel_rfl) (by kernel_rfl) (fun _ _ _ h => h) (Or.inl ⟨by rfl, ?_⟩) hSss1 ?_
            rotate_left
            · intro w hSw; obtain ⟨e0, e1, e2, e3, -⟩ := hSw; go_simp; try with_reducible rfl
            simp only [Act.put, rgA, rgB, rgC, rgD, rgE, rgF]
            refine wpAnyT_loadW (i := 10) (v := ?_) rfl (by kernel_rfl) (by kernel_rfl) (by kernel_rfl) (by kernel_rfl) (by kernel_rfl) (fun _ _ _ h => h) (Or.inl ⟨by rfl, ?_⟩) hSss1 ?_
            rotate_left
            · intro w hSw; obtain ⟨e0, e1, e2, e3, -⟩ := hSw; go_simp; try with_reducible rfl
            simp only [Act.put, rgA, rgB, rgC, rgD, rgE, rgF]
            refine wpAnyT_pure (i := 12) (v := ?_) rfl (by kernel_rfl) (by kernel_rfl) (by kernel_rfl) (fun _ _ _ h => h) (by rfl) ?_ ?_
            rotate_left
            · intro w; go_simp; try with_reducible rfl
            simp only [Act.put, rgA, rgB, rgC, rgD, rgE, rgF]
            refine wpAnyT_one (i := 13) (by kernel_rfl) rfl (by rfl) ?_
            have HFS := HFR.out.below hB_0_s1
            have hcl := bRow_at HFS.left (k := i) (by rw [HFS.ll]; exact HIL.out)
            have hfl := blk_frozen HFS.left i
            obtain ⟨HFL, hgL⟩ := HFS.setL i true
            refine wp_store1 (w' := (s1).setCell ⟨gl, i, none⟩ (.bool true)) 4 (.tmp 95) (.const (.bool true)) rfl ⟨gl, i, none⟩ (.bool true) (by kernel_rfl) (by kernel_rfl) (by go_simp) ?_
            have hXS : Cells [(⟨B, 1, none⟩, .slice (some ⟨gl, 0, none⟩) l.length l.length), (⟨B, 3, none⟩, .slice (some ⟨gr, 0, none⟩) r.length r.length), (⟨bx, 0, none⟩, .int .i64 xe), (⟨bx, 1, none⟩, .int .i64 xl)] ((s1).setCell ⟨gl, i, none⟩ (.bool true)) := by
              obtain ⟨e0, e1, e2, e3, -⟩ := hSss1
              have hd := HFS.d
              exact ⟨hgL.cell e0 (fun e => by have : B = gl := e; omega), hgL.cell e1 (fun e => by have : B = gl := e; omega), hgL.cell e2 (fun e => by have : bx = gl := e; have := HNB.out; omega), hgL.cell e3 (fun e => by have : bx = gl := e; have := HNB.out; omega), trivial⟩
            generalize (s1).setCell ⟨gl, i, none⟩ (.bool true) = w102 at HFL hgL hXS ⊢
            have HFL13 := Lib.hid HFL
            have HGL13 := Lib.hid ((Gr.of_below (F := fun x => x = gl) hB_0_s1).trans hgL (fun _ e => .inl e))
            clear hcl hfl HFL hgL HFS
            have hSsw102 := hXS
            have hB_w102_w102 := Below.refl w102.heap.size w102
            refine ⟨fun _ _ => hSsw102, ?_⟩
            try simp only [Act.put, rgA, rgB, rgC, rgD, rgE, rgF]
            refine wpAnyT_pure (i := 14) (v := ?_) rfl (by kernel_rfl) (by kernel_rfl) (by kernel_rfl) (fun _ _ _ h => h) (by rfl) ?_ ?_
            rotate_left
            · intro w; go_simp; try with_reducible rfl
            simp only [Act.put, rgA, rgB, rgC, rgD, rgE, rgF]
            refine wpAnyT_one (i := 15) (by kernel_rfl) rfl (by rfl) ?_
            have hcl := bRow_at HFL13.out.right (k := k) (by rw [HFL13.out.lr]; exact hkr)
            have hfl := blk_frozen HFL13.out.right k
            obtain ⟨HFL, hgL⟩ := HFL13.out.setR k true
            refine wp_store1 (w' := (w102).setCell ⟨gr, k, none⟩ (.bool true)) 4 (.tmp 96) (.const (.bool true)) rfl ⟨gr, k, none⟩ (.bool true) (by kernel_rfl) (by kernel_rfl) (by go_simp) ?_
            have hXS : Cells [(⟨B, 1, none⟩, .slice (some ⟨gl, 0, none⟩) l.length l.length), (⟨B, 3, none⟩, .slice (some ⟨gr, 0, none⟩) r.length r.length), (⟨bx, 0, none⟩, .int .i64 xe), (⟨bx, 1, none⟩, .int .i64 xl)] ((w102).setCell ⟨gr, k, none⟩ (.bool true)) := by
              obtain ⟨e0, e1, e2, e3, -⟩ := hSsw102
              have hd := HFL13.out.d
              exact ⟨hgL.cell e0 (fun e => by have : B = gr := e; omega), hgL.cell e1 (fun e => by have : B = gr := e; omega), hgL.cell e2 (fun e => by have : bx = gr := e; have := HNB.out; omega), hgL.cell e3 (fun e => by have : bx = gr := e; have := HNB.out; omega), trivial⟩
            generalize (w102).setCell ⟨gr, k, none⟩ (.bool true) = w103 at HFL hgL hXS ⊢
            have HFL15 := Lib.hid HFL
            have HGL15 := Lib.hid hgL
            clear hcl hfl HFL hgL
            have hSsw103 := hXS
            have hB_w103_w103 := Below.refl w103.heap.size w103
            refine ⟨fun _ _ => hSsw103, ?_⟩
            try simp only [Act.put, rgA, rgB, rgC, rgD, rgE, rgF]
            refine wpAnyT_done (by kernel_rfl) ?_ _
            obtain ⟨wE, rfl⟩ : ∃ q, q = w103 := ⟨_, rfl⟩
            have HGE := Lib.hid (show Gr (fun x => x = gl ∨ x = gr) wr wE from (HGL13.out.mono (fun x e => .inl (.inl e))).trans HGL15.out (fun x e => .inl (.inr e)))
            clear HGL13 HGL15 HFL13
            go_wp2_with fail
            have hlE : (oneAt l r tol st i).out.length ≤ 1000 + i := Nat.le_trans (oneAt_len _ _ _ _ _) (by omega)
            rw [HSO.out] at hlE
            have HLE := Lib.hid (show so.out.length ≤ 1060 from by have := HIL.out; omega)
            have hNE : B < wE.heap.size ∧ gl < wE.heap.size ∧ gr < wE.heap.size := by
              obtain ⟨vo, hb, -⟩ := HFL15.out.cells
              exact ⟨blk_lt hb, blk_lt HFL15.out.left, blk_lt HFL15.out.right⟩
            have HNE := Lib.hid hNE
            obtain ⟨oa, ol, oc, SO, q5, hO, hSO, hvO⟩ := HFL15.out.outs
            obtain ⟨yb, yo, rfl, -, n0, n1, n2, hyo⟩ := open_at HFL15.out.rr k hkr
            rw [lat_get hkr] at n0 n1 n2 hyo
            obtain ⟨y, hy⟩ : ∃ y, lat r k = y := ⟨_, rfl⟩
            rw [hy] at n0 n1 n2 hyo
            have HY := Lib.hid hy
            have HYO := Lib.hid hyo
            obtain ⟨⟨ye, yl⟩, yn⟩ := y
            simp only at n0 n1 n2
            obtain ⟨⟨q0, q1⟩, ⟨q2, q3⟩, q4⟩ := HFL15.out.cs
            obtain ⟨-, -, e2, e3, -⟩ := hXS
            have hC0 : Cells [(⟨B, 5, none⟩, .slice oa ol oc), (⟨bx, 0, none⟩, .int .i64 xe), (⟨bx, 1, none⟩, .int .i64 xl), (⟨B, 2, none⟩, .slice (some ⟨yb, yo, none⟩) r.length cr), (⟨yb, yo + k * 3, none⟩, .int .i64 ye), (⟨yb, yo + k * 3 + 1, none⟩, .int .i64 yl)] wE := ⟨q5, e2, e3, q2, n0, n1, trivial⟩
            have HO := Lib.hid hO
            have HSS := Lib.hid hSO
            have HVV := Lib.hid hvO
            clear hO hSO hvO q0 q1 q2 q3 q4 q5 e2 e3 n0 n1 n2 hy hyo hNE hlE
            refine wp_region_T (Cells [(⟨B, 5, none⟩, .slice oa ol oc), (⟨bx, 0, none⟩, .int .i64 xe), (⟨bx, 1, none⟩, .int .i64 xl), (⟨B, 2, none⟩, .slice (some ⟨yb, yo, none⟩) r.length cr), (⟨yb, yo + k * 3, none⟩, .int .i64 ye), (⟨yb, yo + k * 3 + 1, none⟩, .int .i64 yl)]) (fun i => i == 20 || i == 23) (by kernel_rfl) ?_
            have hSss4 := Cells.drew hC0
            have hB_0_s4 : Below wE.heap.size wE wE.drew := below_drew _
            generalize wE.drew = s4 at hSss4 hB_0_s4 ⊢
            have hB_s4_s4 := Below.refl s4.heap.size s4
            refine wpAnyT_pure (i := 0) (v := ?_) rfl (by kernel_rfl) (by kernel_rfl) (by kernel_rfl) (fun _ _ _ h => h) (by rfl) ?_ ?_
            rotate_left
            · intro w; go_simp; try with_reducible rfl
            simp only [Act.put, rgA, rgB, rgC, rgD, rgE, rgF]
            refine wpAnyT_pure (i := 1) (v := ?_) rfl (by kernel_rfl) (by kernel_rfl) (by kernel_rfl) (fun _ _ _ h => h) (by rfl) ?_ ?_
            rotate_left
            · intro w; go_simp; try with_reducible rfl
            simp only [Act.put, rgA, rgB, rgC, rgD, rgE, rgF]
            refine wpAnyT_pure (i := 2) (v := ?_) rfl (by kernel_rfl) (by kernel_rfl) (by kernel_rfl) (fun _ _ _ h => h) (by rfl) ?_ ?_
            rotate_left
            · intro w; go_simp; try with_reducible rfl
            simp only [Act.put, rgA, rgB, rgC, rgD, rgE, rgF]
            refine wpAnyT_pure (i := 3) (v := ?_) rfl (by kernel_rfl) (by kernel_rfl) (by kernel_rfl) (fun _ _ _ h => h) (by rfl) ?_ ?_
            rotate_left
            · intro w; go_simp; try with_reducible rfl
            simp only [Act.put, rgA, rgB, rgC, rgD, rgE, rgF]
            refine wpAnyT_pure (i := 5) (v := ?_) rfl (by kernel_rfl) (by kernel_rfl) (by kernel_rfl) (fun _ _ _ h => h) (by rfl) ?_ ?_
            rotate_left
            · intro w; go_simp; try with_reducible rfl
            simp only [Act.put, rgA, rgB, rgC, rgD, rgE, rgF]
            refine wpAnyT_pure (i := 8) (v := ?_) rfl (by kernel_rfl) (by kernel_rfl) (by kernel_rfl) (fun _ _ _ h => h) (by rfl) ?_ ?_
            rotate_left
            · intro w; go_simp; try with_reducible rfl
            simp only [Act.put, rgA, rgB, rgC, rgD, rgE, rgF]
            refine wpAnyT_pure (i := 9) (v := ?_) rfl (by kernel_rfl) (by kernel_rfl) (by kernel_rfl) (fun _ _ _ h => h) (by rfl) ?_ ?_
            rotate_left
            · intro w; go_simp; try with_reducible rfl
            simp only [Act.put, rgA, rgB, rgC, rgD, rgE, rgF]
            refine wpAnyT_pure (i := 10) (v := ?_) rfl (by kernel_rfl) (by kernel_rfl) (by kernel_rfl) (fun _ _ _ h => h) (by rfl) ?_ ?_
            rotate_left
            · intro w; go_simp; try with_reducible rfl
            simp only [Act.put, rgA, rgB, rgC, rgD, rgE, rgF]
            refine wpAnyT_pure (i := 11) (v := ?_) rfl (by kernel_rfl) (by kernel_rfl) (by kernel_rfl) (fun _ _ _ h => h) (by rfl) ?_ ?_
            rotate_left
            · intro w; go_simp; try with_reducible rfl
            simp only [Act.put, rgA, rgB, rgC, rgD, rgE, rgF]
            refine wpAnyT_pure (i := 13) (v := ?_) rfl (by kernel_rfl) (by kernel_rfl) (by kernel_rfl) (fun _ _ _ h => h) (by rfl) ?_ ?_
            rotate_left
            · intro w; go_simp; try with_reducible rfl
            simp only [Act.put, rgA, rgB, rgC, rgD, rgE, rgF]
            refine wpAnyT_loadW (i := 4) (v := ?_) rfl (by kernel_rfl) (by kernel_rfl) (by kernel_rfl) (by kernel_rfl) (by kernel_rfl) (fun _ _ _ h => h) (Or.inl ⟨by rfl, ?_⟩) hSss4 ?_
            rotate_left
            · intro w hSw; obtain ⟨e0, e1, e2, e3, e4, e5, -⟩ := hSw; go_simp; try with_reducible rfl
            simp only [Act.put, rgA, rgB, rgC, rgD, rgE, rgF]
            refine wpAnyT_loadW (i := 6) (v := ?_) rfl (by kernel_rfl) (by kernel_rfl) (by kernel_rfl) (by kernel_rfl) (by kernel_rfl) (fun _ _ _ h => h) (Or.inl ⟨by rfl, ?_⟩) hSss4 ?_
            rotate_left
            · intro w hSw; obtain ⟨e0, e1, e2, e3, e4, e5, -⟩ := hSw; go_simp; try with_reducible rfl
            simp only [Act.put, rgA, rgB, rgC, rgD, rgE, rgF]
            refine wpAnyT_loadW (i := 12) (v := ?_) rfl (by kernel_rfl) (by kernel_rfl) (by kernel_rfl) (by kernel_rfl) (by kernel_rfl) (fun _ _ _ h => h) (Or.inl ⟨by rfl, ?_⟩) hSss4 ?_
            rotate_left
            · intro w hSw; obtain ⟨e0, e1, e2, e3, e4, e5, -⟩ := hSw; go_simp; try with_reducible rfl
            simp only [Act.put, rgA, rgB, rgC, rgD, rgE, rgF]
            refine wpAnyT_pure (i := 14) (v := ?_) rfl (by kernel_rfl) (by kernel_rfl) (by kernel_rfl) (fun _ _ _ h => h) (by rfl) ?_ ?_
            rotate_left
            · intro w; go_simp; try with_reducible rfl
            simp only [Act.put, rgA, rgB, rgC, rgD, rgE, rgF]
            refine wpAnyT_pure (i := 15) (v := ?_) rfl (by kernel_rfl) (by kernel_rfl) (by kernel_rfl) (fun _ _ _ h => h) (by rfl) ?_ ?_
            rotate_left
            · intro w; go_simp; try with_reducible rfl
            simp only [Act.put, rgA, rgB, rgC, rgD, rgE, rgF]
            refine wpAnyT_loadW (i := 16) (v := ?_) rfl (by kernel_rfl) (by kernel_rfl) (by kernel_rfl) (by kernel_rfl) (by kernel_rfl) (fun _ _ _ h => h) (Or.inl ⟨by rfl, ?_⟩) hSss4 ?_
            rotate_left
            · intro w hSw; obtain ⟨e0, e1, e2, e3, e4, e5, -⟩ := hSw; go_simp; try with_reducible rfl
            simp only [Act.put, rgA, rgB, rgC, rgD, rgE, rgF]
            refine wpAnyT_two (i := 7) (k := 17) (by kernel_rfl) rfl rfl (by rfl) (by rfl) ?_ ?_
            · skip
              obtain ⟨b7, hb7⟩ : ∃ b, s4.heap.size = b := ⟨_, rfl⟩
              have hge7 : wE.heap.size ≤ b7 := hb7 ▸ Nat.le_trans (hB_0_s4).size (hB_s4_s4).size
              refine wp_newrow (v := .slice (some ⟨b7, 0, none⟩) 1 1) (cs := #[.int .i64 xe, .int .i64 xl]) (te := 41) (by rw [← hb7]; go_simp) ?_
              intro w105 hX hN7
              rw [hb7] at hN7
              have hB_s4_w105 := below_step hB_s4_s4 hX
              have hB_w105_w105 := Below.refl w105.heap.size w105
              have hSsw105 := Cells.below hB_s4_w105 hSss4
              clear hX
              refine ⟨fun _ _ => hSsw105, ?_⟩
              try simp only [Act.put, rgA, rgB, rgC, rgD, rgE, rgF]
              refine wpAnyT_one (i := 17) (by kernel_rfl) rfl (by rfl) ?_
              obtain ⟨b17, hb17⟩ : ∃ b, w105.heap.size = b := ⟨_, rfl⟩
              have hge17 : wE.heap.size ≤ b17 := hb17 ▸ Nat.le_trans (hB_0_s4).size (hB_s4_w105).size
              refine wp_newrow (v := .slice (some ⟨b17, 0, none⟩) 1 1) (cs := #[.int .i64 ye, .int .i64 yl]) (te := 41) (by rw [← hb17]; go_simp) ?_
              intro w106 hX hN17
              rw [hb17] at hN17
              have hB_s4_w106 := below_step hB_s4_w105 hX
              have hB_w105_w106 := below_step hB_w105_w105 hX
              have hB_w106_w106 := Below.refl w106.heap.size w106
              have hSsw106 := Cells.below hB_s4_w106 hSss4
              clear hX
              refine ⟨fun _ _ => hSsw106, ?_⟩
              try simp only [Act.put, rgA, rgB, rgC, rgD, rgE, rgF]
              refine wpAnyT_pure (i := 18) (v := ?_) rfl (by kernel_rfl) (by kernel_rfl) (by kernel_rfl) (fun _ _ _ h => h) (by rfl) ?_ ?_
              rotate_left
              · intro w; go_simp; try with_reducible rfl
              simp only [Act.put, rgA, rgB, rgC, rgD, rgE, rgF]
              refine wpAnyT_one (i := 19) (by kernel_rfl) rfl (by rfl) ?_
              obtain ⟨b19, hb19⟩ : ∃ b, w106.heap.size = b := ⟨_, rfl⟩
              have hge19 : wE.heap.size ≤ b19 := hb19 ▸ Nat.le_trans (hB_0_s4).size (hB_s4_w106).size
              refine wp_newrow (v := .slice (some ⟨b19, 0, none⟩) 1 1) (cs := #[.slice (some ⟨b7, 0, none⟩) 1 1, .slice (some ⟨b17, 0, none⟩) 1 1]) (te := 39) (by rw [← hb19]; go_simp) ?_
              intro w107 hX hN19
              rw [hb19] at hN19
              have hB_s4_w107 := below_step hB_s4_w106 hX
              have hB_w105_w107 := below_step hB_w105_w106 hX
              have hB_w106_w107 := below_step hB_w106_w106 hX
              have hB_w107_w107 := Below.refl w107.heap.size w107
              have hSsw107 := Cells.below hB_s4_w107 hSss4
              clear hX
              refine ⟨fun _ _ => hSsw107, ?_⟩
              try simp only [Act.put, rgA, rgB, rgC, rgD, rgE, rgF]
              refine wpAnyT_one (i := 20) (by kernel_rfl) rfl (by rfl) ?_
              have hq7 := ((hB_w105_w107).block _ (blk_lt hN7)).trans hN7
              have hq17 := ((hB_w106_w107).block _ (blk_lt hN17)).trans hN17
              have hq19 := ((hB_w107_w107).block _ (blk_lt hN19)).trans hN19
              have hbP : Below wE.heap.size wE w107 := hB_0_s4.trans ((hB_s4_w107).mono (hB_0_s4).size)
              have hO20 := HO.out.below hbP
              have hO21 : Owns pairT 39 base (fun b => SO b ∨ b = b7 ∨ b = b17) w107 (.slice oa ol oc) _ := hO20.mono (fun _ h => .inl h) (fun b hb => by
                rcases hb with hb | rfl | rfl
                · exact hO20.bound b hb
                · exact ⟨fun e => by have := (HO.out.own _ e).2; omega, blk_lt hq7⟩
                · exact ⟨fun e => by have := (HO.out.own _ e).2; omega, blk_lt hq17⟩)
              have hrd : Rd pairT (fun b => SO b ∨ b = b7 ∨ b = b17) w107 [.slice (some ⟨b7, 0, none⟩) 1 1, .slice (some ⟨b17, 0, none⟩) 1 1] (pairD ([⟨xe, xl⟩], [⟨ye, yl⟩])) := pair_rd (p := ([⟨xe, xl⟩], [⟨ye, yl⟩])) (ref1_rd (x := ⟨xe, xl⟩) hq7 HXO.out.1 (.inr (.inl rfl))) (ref1_rd (x := ⟨ye, yl⟩) hq17 HYO.out.1 (.inr (.inr rfl)))
              refine wp_app (.tmp 101) (.tmp 116) 24 rfl (e := pairT) (te := 39) info_pair Try.underlying24 rfl (by decide) (base := base) (S := fun b => SO b ∨ b = b7 ∨ b = b17) (v := .slice oa ol oc) (xs := so.out.map pairD) (by kernel_rfl) hO21 (by have := HFL15.out.lt; have := hbP.size; omega) (sv := .slice (some ⟨b19, 0, none⟩) 1 1) (by kernel_rfl) (ys := [pairD ([⟨xe, xl⟩], [⟨ye, yl⟩])]) (Src.of_cells (news := [.slice (some ⟨b7, 0, none⟩) 1 1, .slice (some ⟨b17, 0, none⟩) 1 1]) (fun j u hu => by rw [Nat.zero_add, blk_cell hq19]; simpa using hu)) (RdL.one (e := pairT) hrd) (by have := HLE.out; simp only [List.length_map, List.length_cons, List.length_nil]; omega) (by have := HLE.out; simp only [List.length_map, List.length_cons, List.length_nil]; omega) ?_
              intro ca cl20 cc w108 O20 g20 ob20
              have HFP := HFL15.out.below hbP
              have hpush := HFP.push (Gr.of_grown g20) (p := ([⟨xe, xl⟩], [⟨ye, yl⟩])) (fun b e => ⟨(HO.out.own b e).1, HVV.out b e⟩) (by rw [List.map_append]; exact O20) (fun b hb => by
                rcases hb with hb | rfl | rfl
                · exact ⟨(HSS.out b hb).1, ((HSS.out b hb).2.below hbP).gr (Gr.of_grown g20) (fun e => (hO20.bound b hb).1 e)⟩
                · have := HNE.out; have := HFL15.out.lt; exact ⟨⟨by omega, by omega, by omega, by omega⟩, cellsAt.gr ⟨_, hq7, rfl⟩ (Gr.of_grown g20) (fun e => by have := (HO.out.own _ e).2; omega)⟩
                · have := HNE.out; have := HFL15.out.lt; exact ⟨⟨by omega, by omega, by omega, by omega⟩, cellsAt.gr ⟨_, hq17, rfl⟩ (Gr.of_grown g20) (fun e => by have := (HO.out.own _ e).2; omega)⟩) (fun b hb => by
                rcases ob20 with e | e
                · rw [e] at hb; exact HVV.out b hb
                · rw [e] at hb; cases hb; have := HNE.out; have := hbP.size; exact ⟨by omega, by omega, by omega⟩)
              obtain ⟨vo20, hb20, -⟩ := HFP.cells
              have hb21 := blk_gr (Gr.of_grown g20) hb20 (fun e => (HVV.out _ e).1 rfl)
              have HPU := Lib.hid hpush
              have HBB := Lib.hid (show Below base wE w108 from (hbP.mono HFL15.out.lt).grown g20 (by have := HFL15.out.lt; have := hbP.size; omega) (fun c hc => (HO.out.own c hc).1))
              clear hpush hb20 hq7 hq17 hq19 hO20 hO21 hrd O20 g20 ob20 HFP
              refine ⟨fun h => absurd h (by decide), ?_⟩
              try simp only [Act.put, rgA, rgB, rgC, rgD, rgE, rgF]
              refine wpAnyT_pure (i := 21) (v := ?_) rfl (by kernel_rfl) (by kernel_rfl) (by kernel_rfl) (fun _ _ _ h => h) (by rfl) ?_ ?_
              rotate_left
              · intro w; go_simp; try with_reducible rfl
              simp only [Act.put, rgA, rgB, rgC, rgD, rgE, rgF]
              refine wpAnyT_pure (i := 22) (v := ?_) rfl (by kernel_rfl) (by kernel_rfl) (by kernel_rfl) (fun _ _ _ h => h) (by rfl) ?_ ?_
              rotate_left
              · intro w; go_simp; try with_reducible rfl
              simp only [Act.put, rgA, rgB, rgC, rgD, rgE, rgF]
              refine wpAnyT_one (i := 23) (by kernel_rfl) rfl (by rfl) ?_
              have hf21 := blk_frozen hb21 5
              have hc21 := blk_cell hb21 5
              simp only [List.getElem?_toArray, List.getElem?_cons_zero, List.getElem?_cons_succ] at hc21
              refine wp_store1 (w' := (w108).setCell ⟨B, 5, none⟩ (.slice ca cl20 cc)) 24 (.tmp 119) (.tmp 117) rfl ⟨B, 5, none⟩ (.slice ca cl20 cc) (by kernel_rfl) (by kernel_rfl) (by go_simp) ?_
              have HBC := Lib.hid (HBB.out.setCell (p := ⟨B, 5, none⟩) HFL15.out.d.1 (.slice ca cl20 cc))
              generalize (w108).setCell ⟨B, 5, none⟩ (.slice ca cl20 cc) = w109 at HPU HBC ⊢
              clear hf21 hc21 hb21
              refine ⟨fun h => absurd h (by decide), ?_⟩
              try simp only [Act.put, rgA, rgB, rgC, rgD, rgE, rgF]
              refine wpAnyT_done (by kernel_rfl) ?_ _
              go_wp2_with fail
              go_roundw
              case rel =>
                refine ⟨i + 1, HIL.out, by go_num, ?_, HBR.out.trans ((HGE.out.below (n := base) (fun b e => by have := HFL15.out.d; omega) (Nat.le_trans HFA.out.lt HBK.out.size)).trans HBC.out)⟩
                rw [oneAt_succ, HSO.out]
                unfold oneStep
                rw [HX.out]
                simp only [HBM.out, HY.out]
                exact HPU.out
              case measure => have := HIL.out; simp [intOf]; try omega
            · skip
              obtain ⟨b17, hb17⟩ : ∃ b, s4.heap.size = b := ⟨_, rfl⟩
              have hge17 : wE.heap.size ≤ b17 := hb17 ▸ Nat.le_trans (hB_0_s4).size (hB_s4_s4).size
              refine wp_newrow (v := .slice (some ⟨b17, 0, none⟩) 1 1) (cs := #[.int .i64 ye, .int .i64 yl]) (te := 41) (by rw [← hb17]; go_simp) ?_
              intro w110 hX hN17
              rw [hb17] at hN17
              have hB_s4_w110 := below_step hB_s4_s4 hX
              have hB_w110_w110 := Below.refl w110.heap.size w110
              have hSsw110 := Cells.below hB_s4_w110 hSss4
              clear hX
              refine ⟨fun _ _ => hSsw110, ?_⟩
              try simp only [Act.put, rgA, rgB, rgC, rgD, rgE, rgF]
              refine wpAnyT_one (i := 7) (by kernel_rfl) rfl (by rfl) ?_
              obtain ⟨b7, hb7⟩ : ∃ b, w110.heap.size = b := ⟨_, rfl⟩
              have hge7 : wE.heap.size ≤ b7 := hb7 ▸ Nat.le_trans (hB_0_s4).size (hB_s4_w110).size
              refine wp_newrow (v := .slice (some ⟨b7, 0, none⟩) 1 1) (cs := #[.int .i64 xe, .int .i64 xl]) (te := 41) (by rw [← hb7]; go_simp) ?_
              intro w111 hX hN7
              rw [hb7] at hN7
              have hB_s4_w111 := below_step hB_s4_w110 hX
              have hB_w110_w111 := below_step hB_w110_w110 hX
              have hB_w111_w111 := Below.refl w111.heap.size w111
              have hSsw111 := Cells.below hB_s4_w111 hSss4
              clear hX
              refine ⟨fun _ _ => hSsw111, ?_⟩
              try simp only [Act.put, rgA, rgB, rgC, rgD, rgE, rgF]
              refine wpAnyT_pure (i := 18) (v := ?_) rfl (by kernel_rfl) (by kernel_rfl) (by kernel_rfl) (fun _ _ _ h => h) (by rfl) ?_ ?_
              rotate_left
              · intro w; go_simp; try with_reducible rfl
              simp only [Act.put, rgA, rgB, rgC, rgD, rgE, rgF]
              refine wpAnyT_one (i := 19) (by kernel_rfl) rfl (by rfl) ?_
              obtain ⟨b19, hb19⟩ : ∃ b, w111.heap.size = b := ⟨_, rfl⟩
              have hge19 : wE.heap.size ≤ b19 := hb19 ▸ Nat.le_trans (hB_0_s4).size (hB_s4_w111).size
              refine wp_newrow (v := .slice (some ⟨b19, 0, none⟩) 1 1) (cs := #[.slice (some ⟨b7, 0, none⟩) 1 1, .slice (some ⟨b17, 0, none⟩) 1 1]) (te := 39) (by rw [← hb19]; go_simp) ?_
              intro w112 hX hN19
              rw [hb19] at hN19
              have hB_s4_w112 := below_step hB_s4_w111 hX
              have hB_w110_w112 := below_step hB_w110_w111 hX
              have hB_w111_w112 := below_step hB_w111_w111 hX
              have hB_w112_w112 := Below.refl w112.heap.size w112
              have hSsw112 := Cells.below hB_s4_w112 hSss4
              clear hX
              refine ⟨fun _ _ => hSsw112, ?_⟩
              try simp only [Act.put, rgA, rgB, rgC, rgD, rgE, rgF]
              refine wpAnyT_one (i := 20) (by kernel_rfl) rfl (by rfl) ?_
              have hq7 := ((hB_w111_w112).block _ (blk_lt hN7)).trans hN7
              have hq17 := ((hB_w110_w112).block _ (blk_lt hN17)).trans hN17
              have hq19 := ((hB_w112_w112).block _ (blk_lt hN19)).trans hN19
              have hbP : Below wE.heap.size wE w112 := hB_0_s4.trans ((hB_s4_w112).mono (hB_0_s4).size)
              have hO20 := HO.out.below hbP
              have hO21 : Owns pairT 39 base (fun b => SO b ∨ b = b7 ∨ b = b17) w112 (.slice oa ol oc) _ := hO20.mono (fun _ h => .inl h) (fun b hb => by
                rcases hb with hb | rfl | rfl
                · exact hO20.bound b hb
                · exact ⟨fun e => by have := (HO.out.own _ e).2; omega, blk_lt hq7⟩
                · exact ⟨fun e => by have := (HO.out.own _ e).2; omega, blk_lt hq17⟩)
              have hrd : Rd pairT (fun b => SO b ∨ b = b7 ∨ b = b17) w112 [.slice (some ⟨b7, 0, none⟩) 1 1, .slice (some ⟨b17, 0, none⟩) 1 1] (pairD ([⟨xe, xl⟩], [⟨ye, yl⟩])) := pair_rd (p := ([⟨xe, xl⟩], [⟨ye, yl⟩])) (ref1_rd (x := ⟨xe, xl⟩) hq7 HXO.out.1 (.inr (.inl rfl))) (ref1_rd (x := ⟨ye, yl⟩) hq17 HYO.out.1 (.inr (.inr rfl)))
              refine wp_app (.tmp 101) (.tmp 116) 24 rfl (e := pairT) (te := 39) info_pair Try.underlying24 rfl (by decide) (base := base) (S := fun b => SO b ∨ b = b7 ∨ b = b17) (v := .slice oa ol oc) (xs := so.out.map pairD) (by kernel_rfl) hO21 (by have := HFL15.out.lt; have := hbP.size; omega) (sv := .slice (some ⟨b19, 0, none⟩) 1 1) (by kernel_rfl) (ys := [pairD ([⟨xe, xl⟩], [⟨ye, yl⟩])]) (Src.of_cells (news := [.slice (some ⟨b7, 0, none⟩) 1 1, .slice (some ⟨b17, 0, none⟩) 1 1]) (fun j u hu => by rw [Nat.zero_add, blk_cell hq19]; simpa using hu)) (RdL.one (e := pairT) hrd) (by have := HLE.out; simp only [List.length_map, List.length_cons, List.length_nil]; omega) (by have := HLE.out; simp only [List.length_map, List.length_cons, List.length_nil]; omega) ?_
              intro ca cl20 cc w113 O20 g20 ob20
              have HFP := HFL15.out.below hbP
              have hpush := HFP.push (Gr.of_grown g20) (p := ([⟨xe, xl⟩], [⟨ye, yl⟩])) (fun b e => ⟨(HO.out.own b e).1, HVV.out b e⟩) (by rw [List.map_append]; exact O20) (fun b hb => by
                rcases hb with hb | rfl | rfl
                · exact ⟨(HSS.out b hb).1, ((HSS.out b hb).2.below hbP).gr (Gr.of_grown g20) (fun e => (hO20.bound b hb).1 e)⟩
                · have := HNE.out; have := HFL15.out.lt; exact ⟨⟨by omega, by omega, by omega, by omega⟩, cellsAt.gr ⟨_, hq7, rfl⟩ (Gr.of_grown g20) (fun e => by have := (HO.out.own _ e).2; omega)⟩
                · have := HNE.out; have := HFL15.out.lt; exact ⟨⟨by omega, by omega, by omega, by omega⟩, cellsAt.gr ⟨_, hq17, rfl⟩ (Gr.of_grown g20) (fun e => by have := (HO.out.own _ e).2; omega)⟩) (fun b hb => by
                rcases ob20 with e | e
                · rw [e] at hb; exact HVV.out b hb
                · rw [e] at hb; cases hb; have := HNE.out; have := hbP.size; exact ⟨by omega, by omega, by omega⟩)
              obtain ⟨vo20, hb20, -⟩ := HFP.cells
              have hb21 := blk_gr (Gr.of_grown g20) hb20 (fun e => (HVV.out _ e).1 rfl)
              have HPU := Lib.hid hpush
              have HBB := Lib.hid (show Below base wE w113 from (hbP.mono HFL15.out.lt).grown g20 (by have := HFL15.out.lt; have := hbP.size; omega) (fun c hc => (HO.out.own c hc).1))
              clear hpush hb20 hq7 hq17 hq19 hO20 hO21 hrd O20 g20 ob20 HFP
              refine ⟨fun h => absurd h (by decide), ?_⟩
              try simp only [Act.put, rgA, rgB, rgC, rgD, rgE, rgF]
              refine wpAnyT_pure (i := 21) (v := ?_) rfl (by kernel_rfl) (by kernel_rfl) (by kernel_rfl) (fun _ _ _ h => h) (by rfl) ?_ ?_
              rotate_left
              · intro w; go_simp; try with_reducible rfl
              simp only [Act.put, rgA, rgB, rgC, rgD, rgE, rgF]
              refine wpAnyT_pure (i := 22) (v := ?_) rfl (by kernel_rfl) (by kernel_rfl) (by kernel_rfl) (fun _ _ _ h => h) (by rfl) ?_ ?_
              rotate_left
              · intro w; go_simp; try with_reducible rfl
              simp only [Act.put, rgA, rgB, rgC, rgD, rgE, rgF]
              refine wpAnyT_one (i := 23) (by kernel_rfl) rfl (by rfl) ?_
              have hf21 := blk_frozen hb21 5
              have hc21 := blk_cell hb21 5
              simp only [List.getElem?_toArray, List.getElem?_cons_zero, List.getElem?_cons_succ] at hc21
              refine wp_store1 (w' := (w113).setCell ⟨B, 5, none⟩ (.slice ca cl20 cc)) 24 (.tmp 119) (.tmp 117) rfl ⟨B, 5, none⟩ (.slice ca cl20 cc) (by kernel_rfl) (by kernel_rfl) (by go_simp) ?_
              have HBC := Lib.hid (HBB.out.setCell (p := ⟨B, 5, none⟩) HFL15.out.d.1 (.slice ca cl20 cc))
              generalize (w113).setCell ⟨B, 5, none⟩ (.slice ca cl20 cc) = w114 at HPU HBC ⊢
              clear hf21 hc21 hb21
              refine ⟨fun h => absurd h (by decide), ?_⟩
              try simp only [Act.put, rgA, rgB, rgC, rgD, rgE, rgF]
              refine wpAnyT_done (by kernel_rfl) ?_ _
              go_wp2_with fail
              go_roundw
              case rel =>
                refine ⟨i + 1, HIL.out, by go_num, ?_, HBR.out.trans ((HGE.out.below (n := base) (fun b e => by have := HFL15.out.d; omega) (Nat.le_trans HFA.out.lt HBK.out.size)).trans HBC.out)⟩
                rw [oneAt_succ, HSO.out]
                unfold oneStep
                rw [HX.out]
                simp only [HBM.out, HY.out]
                exact HPU.out
              case measure => have := HIL.out; simp [intOf]; try omega
    · obtain rfl : i = l.length := by omega
      have hi0 : ¬ ((l.length : Nat) : Int) < (l.length : Int) := by omega
      clear hil hi
      go_wp2_with fail
      go_end0
      exact ⟨rfl, HF.out, HB.out⟩
end Go.Proofs.Ytpobckedeffjmaa

/- Program independent: a region that draws its order, in a round of a range over a function: walked as RegT walks it. -/
namespace Go.Proofs.Ytpobckedeffjmaa
open Go.RowKit Go
theorem oper_in {P : Program} {n l : Nat} {o : Oper} {a : Act} {w : World} {K : Act → World → Prop} {Q : Exit → Act → World → Prop} (hnd : ∀ c, o.op ≠ .defer c) (h : o.wp P a w K Q) : o.wpIn (Fence.wide.inRound l) n P a w K Q := by
  refine ⟨fun f _ => trivial, ?_⟩
  rw [Oper.semAt_eq _ _ _ hnd]
  unfold Oper.wp at h
  generalize (execOp a.eval o).run P w = r at *
  cases r with
  | ok x w' =>
    cases x <;> simp only [Oper.uponIn, Oper.upon] at h ⊢
    all_goals first
      | exact h
      | exact ⟨fun h => by simp [Fence.wide] at h, CallsIn.inRound l (callsIn_wide.2 h)⟩
      | exact ⟨fun h => by simp [Fence.wide] at h, fun c cs _ => let ⟨v, w', r, s⟩ := h c cs; ⟨v, w', r, stepsIn_wide.2 s⟩⟩
  | halt x w' => cases x <;> simp only [Oper.uponIn, Oper.upon] at h ⊢ <;> exact h
theorem wpAny_in {P : Program} {n l : Nat} {md : Region.Mode} {ops : Array Oper} {Q : Exit → Act → World → Prop} (hnd : ∀ (i : Nat) (o : Oper), ops[i]? = some o → ∀ c, o.op ≠ .defer c) (hL : ∀ a w, ¬ Q .outgrown a w) :
    ∀ (fuel : Nat) (listed : Array Bool) (a : Act) (w : World), wpAny P md ops Q fuel listed a w → wpAnyIn (Fence.wide.inRound l) n P md ops Q fuel listed a w
  | 0, _, _, _, h => h
  | fuel + 1, listed, a, w, h => by
    refine ⟨h.1, fun i hi => ?_⟩
    have h2 := wpOp_mono (fun a' w' h' => wpAny_in (n := n) (l := l) hnd hL fuel _ a' w' h') (h.2 i hi)
    unfold wpOpIn
    unfold wpOp at h2
    cases ho : ops[i]? with
    | none => simpa [ho] using h2
    | some o =>
      simp only [ho] at h2 ⊢
      split
      · rename_i hw
        rw [if_pos hw] at h2
        rcases h2 with h2 | ⟨-, a', w', h2⟩
        · exact oper_in (hnd i o ho) h2
        · exact absurd h2 (hL _ _)
      · rename_i hw
        rw [if_neg hw] at h2
        exact ⟨fun _ _ => trivial, h2⟩
def isDefer : Op → Bool
  | .defer _ => true
  | _ => false
theorem wpIn_region_T {P : Program} {n l : Nat} {ops : Array Oper} {Q : Exit → Act → World → Prop} (S : World → Prop) (T : Nat → Bool) {id : Nat} {a : Act} {w : World} (hm : P.follows .mixedOrders = true)
    (hnd : (ops.all fun o => !isDefer o.op) = true) (hL : ∀ a w, ¬ Q .outgrown a w)
    (h : wpAnyT P .any ops Q S T ops.size (Array.replicate ops.size false) a w.drew) : (Code.region id ops true).wpIn (Fence.wide.inRound l) n P Q a w := by
  refine wpIn_region_any hm (wpAny_in (fun i o ho c hc => ?_) hL _ _ _ _ (wpAny_of_T _ _ _ _ h))
  have h1 := Array.all_eq_true.1 hnd i (Array.getElem?_eq_some_iff.1 ho).1
  have h2 : ops[i]'(Array.getElem?_eq_some_iff.1 ho).1 = o := (Array.getElem?_eq_some_iff.1 ho).2
  rw [h2, hc] at h1
  simp [isDefer] at h1
end Go.Proofs.Ytpobckedeffjmaa
