/- Layer 53: the sort of many keys: heapSort. -/
import Derived.Test.YtdcjocldggmdbaaGreatS53d
import Derived.Shelf.SlSortCmp.Xorshift
import Derived.Sort.Walk7
set_option linter.unusedSimpArgs false
namespace Go.Proofs.YtdcjocldggmdbaaGreat
open Go.RowKit Go

theorem sift_size (lt : Ky → Ky → Bool) (hi first : Nat) : ∀ (f root : Nat) (d : Array Ky), hi - root ≤ f → (Sort.siftDown lt hi first root d).size = d.size := by
  intro f
  induction f with
  | zero => intro root d h; rw [sift_end _ _ _ _ _ (by omega)]
  | succ f ih =>
    intro root d h
    by_cases h1 : 2 * root + 1 ≥ hi
    · rw [sift_end _ _ _ _ _ h1]
    by_cases h2 : 2 * root + 1 + 1 < hi ∧ lt d[first + (2 * root + 1)]! d[first + (2 * root + 1) + 1]! = true
    · rw [sift_eq lt hi first root (2 * root + 2) d h1 (.inl ⟨rfl, h2⟩)]
      split
      · rfl
      · rw [ih _ _ (by omega), swp_size]
    · rw [sift_eq lt hi first root (2 * root + 1) d h1 (.inr ⟨rfl, h2⟩)]
      split
      · rfl
      · rw [ih _ _ (by omega), swp_size]
set_option maxRecDepth 20000 in
set_option maxHeartbeats 2000000 in
theorem heapK {S : Nat → Prop} {F : Nat → Prop} (w : World) (p : Nat) (ts : List Tk) (ne np m : Nat) (hS : SCtx S p ts ne np m F w) (g cap n : Nat) (d : Array Ky) (hn : d.size = n) (hn2 : n ≤ 100000) (hK : KA w g d) (hFg : F g) (a b hi : Nat) (hb : b = a + hi) (hh : 1 ≤ hi) (hbn : b ≤ n) :
    Calls Tryz.prog 83 #[.slice (some ⟨g, 0, none⟩) n cap, .int .i64 (a : Nat), .int .i64 (b : Nat), cmpV p] w fun e w' => e = .returned (.tuple #[]) ∧ KA w' g (Sort.heapSort (ltK ts) d a b) ∧ Gr (fun x => x = g) w w' := by
  have HSI := Lib.hid (fun (W : World) (hW : Gr (fun x => x = g) w W) (d' : Array Ky) (hd : d'.size = n) (hK : KA W g d') (lo hi' : Nat) (hlo : lo ≤ 100000) (hfh : a + hi' ≤ n) => siftK W p ts ne np m (hS.gr hW (fun x e => .inl (by rw [e]; exact hFg))) g cap n d' hd hn2 hK hFg lo hi' a hlo hfh)
  have HDEF := Lib.hid (show Sort.heapSort (ltK ts) d a b = Sort.heapPop (ltK ts) a hi (Sort.heapBuild (ltK ts) hi a ((hi - 1) / 2 + 1) d) from by unfold Sort.heapSort; rw [hb, Nat.add_sub_cancel_left])
  obtain ⟨K, hKd⟩ : ∃ q, q = (hi - 1) / 2 := ⟨_, rfl⟩
  rw [← hKd] at HDEF
  have hbI : (b : Int) - (a : Int) = ((hi : Nat) : Int) := by omega
  have HBI := Lib.hid hbI
  have HK := Lib.hid hK
  have HN := Lib.hid hn
  have HKD := Lib.hid (show ((hi : Int) - 1) / 2 = ((K : Nat) : Int) from by omega)
  have hx1 : (1 : Int) ≤ (b : Int) - (a : Int) := by omega
  have hx2 : a + hi ≤ n := by omega
  have hx3 : hi ≤ 100000 := by omega
  have hKn : K ≤ 100000 := by omega
  clear hK hn hS hFg hbI hKd hb
  obtain ⟨fv, hfv⟩ : ∃ v, cmpV p = v := ⟨_, rfl⟩
  rw [hfv] at HSI ⊢
  clear hfv
  go_enter Tryz.func83, Tryz.ntmps83
  go_wp2_with fail
  rw [show (b : Int) - (a : Int) = ((hi : Nat) : Int) from HBI.out, show ((hi : Int) - 1) / 2 = ((K : Nat) : Int) from HKD.out]
  clear HBI HKD hx1
  go_loopw [11] (fun iv wr => ∃ (k : Nat) (d' : Array Ky), k ≤ 100001 ∧ iv = .int .i64 ((k : Int) - 1) ∧ d'.size = n ∧ Sort.heapBuild (ltK ts) hi a k d' = Sort.heapBuild (ltK ts) hi a (K + 1) d ∧ KA wr g d' ∧ Gr (fun x => x = g) w wr) (fun iv _ => (intOf iv + 1).toNat)
  case atStart => exact ⟨K + 1, d, by omega, by go_num, HN.out, rfl, HK.out, Gr.refl _ _⟩
  case round =>
    obtain ⟨k, d', hk, rfl, hd', heq, hka, hg⟩ := hrel
    have HD' := Lib.hid hd'
    have HEQ := Lib.hid heq
    have HKA := Lib.hid hka
    have HG := Lib.hid hg
    clear heq hg hka hd'
    rcases k with _ | k
    · rw [show (((0 : Nat) : Int) - 1) = (-1 : Int) from rfl]
      have HEQ2 := Lib.hid (show Sort.heapPop (ltK ts) a hi d' = Sort.heapSort (ltK ts) d a b from by rw [HDEF.out, ← HEQ.out]; rfl)
      clear HEQ
      go_wp2_with fail
      go_loopw [12] (fun iv wr => ∃ (k : Nat) (d' : Array Ky), k ≤ hi ∧ iv = .int .i64 ((k : Int) - 1) ∧ d'.size = n ∧ Sort.heapPop (ltK ts) a k d' = Sort.heapSort (ltK ts) d a b ∧ KA wr g d' ∧ Gr (fun x => x = g) w wr) (fun iv _ => (intOf iv + 1).toNat)
      case atStart => exact ⟨hi, d', Nat.le_refl _, by go_num, HD'.out, HEQ2.out, HKA.out, HG.out⟩
      case round =>
        clear HEQ2 HKA HG HD' hk
        obtain ⟨k, d', hk, rfl, hd', heq, hka, hg⟩ := hrel
        have HD' := Lib.hid hd'
        have HEQ := Lib.hid heq
        have HKA := Lib.hid hka
        have HG := Lib.hid hg
        clear heq hg hd'
        rcases k with _ | k
        · rw [show (((0 : Nat) : Int) - 1) = (-1 : Int) from rfl]
          have HFIN := Lib.hid (show Sort.heapSort (ltK ts) d a b = d' from by rw [← HEQ.out]; rfl)
          clear HEQ hka
          go_wp2_with fail
          exact bodyPost_end (results_none rfl _ _ _) rfl ⟨rfl, by rw [HFIN.out]; exact HKA.out, HG.out⟩
        · rw [show (((k + 1 : Nat) : Int) - 1) = ((k : Nat) : Int) from by omega]
          obtain ⟨q, hq⟩ : ∃ q, q = a + k := ⟨_, rfl⟩
          have HQ := Lib.hid hq
          have hqn : q < n := by omega
          have han : a < n := by omega
          have hqI : (q : Int) < (n : Int) := by omega
          have haI : (a : Int) < (n : Int) := by omega
          obtain ⟨m0, m1, m2⟩ := hka.cell q (by rw [HD'.out]; exact hqn)
          obtain ⟨p0, p1, p2⟩ := hka.cell a (by rw [HD'.out]; exact han)
          have HNX := Lib.hid (show Sort.heapPop (ltK ts) a k (Sort.siftDown (ltK ts) k a 0 (Sort.swp d' a q)) = Sort.heapSort (ltK ts) d a b from by rw [← HEQ.out, hq]; rfl)
          have HSW := Lib.hid (show Sort.swp d' a q = (d'.setIfInBounds a d'[q]!).setIfInBounds q d'[a]! from rfl)
          have HSZ := Lib.hid (show (Sort.swp d' a q).size = n from by rw [swp_size]; exact HD'.out)
          have HSZ2 := Lib.hid (show (Sort.siftDown (ltK ts) k a 0 (Sort.swp d' a q)).size = n from by rw [sift_size _ _ _ _ _ _ (Nat.le_refl _)]; exact HSZ.out)
          generalize Sort.swp d' a q = d2 at HNX HSW HSZ HSZ2
          generalize d'[q]! = x at m0 m1 m2 HSW
          generalize d'[a]! = y at p0 p1 p2 HSW
          obtain ⟨x1, x2, x3⟩ := x
          obtain ⟨y1, y2, y3⟩ := y
          simp only at m0 m1 m2 p0 p1 p2
          have hC0 : Cells [(⟨g, q * 3, none⟩, .string x1), (⟨g, q * 3 + 1, none⟩, .int .i64 x2), (⟨g, q * 3 + 2, none⟩, .int .i64 x3), (⟨g, a * 3, none⟩, .string y1), (⟨g, a * 3 + 1, none⟩, .int .i64 y2), (⟨g, a * 3 + 2, none⟩, .int .i64 y3)] wr := ⟨m0, m1, m2, p0, p1, p2, trivial⟩
          clear m0 m1 m2 p0 p1 p2 hka hq HEQ
          go_wp2_with fail
          refine wp_region_T (Cells [(⟨g, q * 3, none⟩, .string x1), (⟨g, q * 3 + 1, none⟩, .int .i64 x2), (⟨g, q * 3 + 2, none⟩, .int .i64 x3), (⟨g, a * 3, none⟩, .string y1), (⟨g, a * 3 + 1, none⟩, .int .i64 y2), (⟨g, a * 3 + 2, none⟩, .int .i64 y3)]) (fun i => i == 17 || i == 19) (by kernel_rfl) ?_
          have hSss1 := Cells.drew hC0
          have hB_0_s1 : Below wr.heap.size wr wr.drew := below_drew _
          generalize wr.drew = s1 at hSss1 hB_0_s1 ⊢
          have hB_s1_s1 := Below.refl s1.heap.size s1
          refine wpAnyT_pure (i := 0) (v := ?_) rfl (by kernel_rfl) (by kernel_rfl) (by kernel_rfl) (fun _ _ _ h => h) (by rfl) ?_ ?_
          rotate_left
          · intro w; go_simp; try with_reducible rfl
          simp only [Act.put, rgA, rgB, rgC, rgD, rgE, rgF]
          refine wpAnyT_pure (i := 1) (v := ?_) rfl (by kernel_rfl) (by kernel_rfl) (by kernel_rfl) (fun _ _ _ h => h) (by rfl) ?_ ?_
          rotate_left
          · intro w; go_simp; try with_reducible rfl
          simp only [Act.put, rgA, rgB, rgC, rgD, rgE, rgF]
          refine wpAnyT_pure (i := 2) (v := ?_) rfl (by kernel_rfl) (by kernel_rfl) (by kernel_rfl) (fun _ _ _ h => h) (by rfl) ?_ ?_
          rotate_left
          · intro w; go_simp; try with_reducible rfl
          simp only [Act.put, rgA, rgB, rgC, rgD, rgE, rgF]
          refine wpAnyT_pure (i := 3) (v := ?_) rfl (by kernel_rfl) (by kernel_rfl) (by kernel_rfl) (fun _ _ _ h => h) (by rfl) ?_ ?_
          rotate_left
          · intro w; go_simp; try with_reducible rfl
          simp only [Act.put, rgA, rgB, rgC, rgD, rgE, rgF]
          refine wpAnyT_pure (i := 4) (v := ?_) rfl (by kernel_rfl) (by kernel_rfl) (by kernel_rfl) (fun _ _ _ h => h) (by rfl) ?_ ?_
          rotate_left
          · intro w; go_simp; try with_reducible rfl
          simp only [Act.put, rgA, rgB, rgC, rgD, rgE, rgF]
          refine wpAnyT_pure (i := 6) (v := ?_) rfl (by kernel_rfl) (by kernel_rfl) (by kernel_rfl) (fun _ _ _ h => h) (by rfl) ?_ ?_
          rotate_left
          · intro w; go_simp; try with_reducible rfl
          simp only [Act.put, rgA, rgB, rgC, rgD, rgE, rgF]
          refine wpAnyT_pure (i := 7) (v := ?_) rfl (by kernel_rfl) (by kernel_rfl) (by kernel_rfl) (fun _ _ _ h => h) (by rfl) ?_ ?_
          rotate_left
          · intro w; go_simp; try with_reducible rfl
          simp only [Act.put, rgA, rgB, rgC, rgD, rgE, rgF]
          refine wpAnyT_pure (i := 8) (v := ?_) rfl (by kernel_rfl) (by kernel_rfl) (by kernel_rfl) (fun _ _ _ h => h) (by rfl) ?_ ?_
          rotate_left
          · intro w; go_simp; try with_reducible rfl
          simp only [Act.put, rgA, rgB, rgC, rgD, rgE, rgF]
          refine wpAnyT_pure (i := 12) (v := ?_) rfl (by kernel_rfl) (by kernel_rfl) (by kernel_rfl) (fun _ _ _ h => h) (by rfl) ?_ ?_
          rotate_left
          · intro w; go_simp; try with_reducible rfl
          simp only [Act.put, rgA, rgB, rgC, rgD, rgE, rgF]
          refine wpAnyT_pure (i := 13) (v := ?_) rfl (by kernel_rfl) (by kernel_rfl) (by kernel_rfl) (fun _ _ _ h => h) (by rfl) ?_ ?_
          rotate_left
          · intro w; go_simp; try with_reducible rfl
          simp only [Act.put, rgA, rgB, rgC, rgD, rgE, rgF]
          refine wpAnyT_pure (i := 14) (v := ?_) rfl (by kernel_rfl) (by kernel_rfl) (by kernel_rfl) (fun _ _ _ h => h) (by rfl) ?_ ?_
          rotate_left
          · intro w; go_simp; try with_reducible rfl
          simp only [Act.put, rgA, rgB, rgC, rgD, rgE, rgF]
          refine wpAnyT_loadW (i := 15) (v := ?_) rfl (by kernel_rfl) (by kernel_rfl) (by kernel_rfl) (by kernel_rfl) (by kernel_rfl) (fun _ _ _ h => h) (Or.inl ⟨by rfl, ?_⟩) hSss1 ?_
          rotate_left
          · intro w hSw; obtain ⟨e0, e1, e2, e3, e4, e5, -⟩ := hSw; go_simp; try with_reducible rfl
          simp only [Act.put, rgA, rgB, rgC, rgD, rgE, rgF]
          refine wpAnyT_pure (i := 5) (v := (.int .i64 (q : Nat))) rfl (by kernel_rfl) (by kernel_rfl) (by kernel_rfl) (fun _ _ _ h => h) (by rfl) ?_ ?_
          · intro w; have hq := HQ.out; clear HQ; go_simp; rw [IntKind.wrap_i64] <;> omega
          simp only [Act.put, rgA, rgB, rgC, rgD, rgE, rgF]
          refine wpAnyT_pure (i := 9) (v := (.int .i64 (q : Nat))) rfl (by kernel_rfl) (by kernel_rfl) (by kernel_rfl) (fun _ _ _ h => h) (by rfl) ?_ ?_
          · intro w; have hq := HQ.out; clear HQ; go_simp; rw [IntKind.wrap_i64] <;> omega
          simp only [Act.put, rgA, rgB, rgC, rgD, rgE, rgF]
          refine wpAnyT_pure (i := 10) (v := ?_) rfl (by kernel_rfl) (by kernel_rfl) (by kernel_rfl) (fun _ _ _ h => h) (by rfl) ?_ ?_
          rotate_left
          · intro w; go_simp; try with_reducible rfl
          simp only [Act.put, rgA, rgB, rgC, rgD, rgE, rgF]
          refine wpAnyT_loadW (i := 11) (v := ?_) rfl (by kernel_rfl) (by kernel_rfl) (by kernel_rfl) (by kernel_rfl) (by kernel_rfl) (fun _ _ _ h => h) (Or.inl ⟨by rfl, ?_⟩) hSss1 ?_
          rotate_left
          · intro w hSw; obtain ⟨e0, e1, e2, e3, e4, e5, -⟩ := hSw; go_simp; try with_reducible rfl
          simp only [Act.put, rgA, rgB, rgC, rgD, rgE, rgF]
          refine wpAnyT_pure (i := 16) (v := ?_) rfl (by kernel_rfl) (by kernel_rfl) (by kernel_rfl) (fun _ _ _ h => h) (by rfl) ?_ ?_
          rotate_left
          · intro w; go_simp; try with_reducible rfl
          simp only [Act.put, rgA, rgB, rgC, rgD, rgE, rgF]
          refine wpAnyT_one (i := 17) (by kernel_rfl) rfl (by rfl) ?_
          have hb13 : Below wr.heap.size wr s1 := hB_0_s1.trans ((hB_s1_s1).mono (hB_0_s1).size)
          obtain ⟨hs13, hn13⟩ := (HKA.out.below hb13).set Tryz.prog a (by rw [HD'.out]; exact han) ⟨x1, x2, x3⟩
          have hg13 := (HG.out.step hb13).trans (gr_setCells g (kvs ⟨x1, x2, x3⟩) (a * 3) s1) (fun _ h => .inl h)
          refine wp_storeK (w' := (s1).setCells g (a * 3) (kvs ⟨x1, x2, x3⟩)) 48 (.tmp 52) (.tmp 47) rfl ⟨g, a * 3, none⟩ (.agg #[.string x1, .int .i64 x2, .int .i64 x3]) (by kernel_rfl) (by kernel_rfl) (sizeK _) hs13 ?_
          generalize (s1).setCells g (a * 3) (kvs ⟨x1, x2, x3⟩) = w102 at hn13 hg13 ⊢
          clear hs13
          refine ⟨fun h => absurd h (by decide), ?_⟩
          try simp only [Act.put, rgA, rgB, rgC, rgD, rgE, rgF]
          refine wpAnyT_pure (i := 18) (v := ?_) rfl (by kernel_rfl) (by kernel_rfl) (by kernel_rfl) (fun _ _ _ h => h) (by rfl) ?_ ?_
          rotate_left
          · intro w; go_simp; try with_reducible rfl
          simp only [Act.put, rgA, rgB, rgC, rgD, rgE, rgF]
          refine wpAnyT_one (i := 19) (by kernel_rfl) rfl (by rfl) ?_
          obtain ⟨hs15, hn15⟩ := hn13.set Tryz.prog q (by rw [Array.size_setIfInBounds, HD'.out]; exact hqn) ⟨y1, y2, y3⟩
          have hg15 := hg13.trans (gr_setCells g (kvs ⟨y1, y2, y3⟩) (q * 3) w102) (fun _ h => .inl h)
          refine wp_storeK (w' := (w102).setCells g (q * 3) (kvs ⟨y1, y2, y3⟩)) 48 (.tmp 53) (.tmp 51) rfl ⟨g, q * 3, none⟩ (.agg #[.string y1, .int .i64 y2, .int .i64 y3]) (by kernel_rfl) (by kernel_rfl) (sizeK _) hs15 ?_
          generalize (w102).setCells g (q * 3) (kvs ⟨y1, y2, y3⟩) = w103 at hn15 hg15 ⊢
          clear hs15 hn13 hg13
          refine ⟨fun h => absurd h (by decide), ?_⟩
          try simp only [Act.put, rgA, rgB, rgC, rgD, rgE, rgF]
          refine wpAnyT_done (by kernel_rfl) ?_ _
          obtain ⟨w4, rfl⟩ : ∃ x, x = w103 := ⟨_, rfl⟩
          have HR4 := Lib.hid (show KA w4 g d2 from by rw [HSW.out]; exact hn15)
          have HG4 := Lib.hid hg15
          clear hn15 hg15 HSW HKA HG HD'
          go_wp2_with fail
          refine (HSI.out _ HG4.out d2 HSZ.out HR4.out 0 k (by omega) (by omega)).mono ?_
          rintro e w1 ⟨rfl, hk1, hg1⟩
          have HK1 := Lib.hid hk1
          have HG1 := Lib.hid (HG4.out.trans hg1 (fun _ e => .inl e))
          clear hk1 hg1
          go_wp2_with fail
          go_roundw
          case rel => exact ⟨k, _, by omega, by go_num, HSZ2.out, HNX.out, HK1.out, HG1.out⟩
          case measure => simp [intOf]; try omega
    · rw [show (((k + 1 : Nat) : Int) - 1) = ((k : Nat) : Int) from by omega]
      go_wp2_with fail
      refine (HSI.out _ HG.out d' HD'.out HKA.out k hi (by omega) hx2).mono ?_
      rintro e w1 ⟨rfl, hk1, hg1⟩
      have HSZ := Lib.hid (sift_size (ltK ts) hi a _ k d' (Nat.le_refl _))
      have HK1 := Lib.hid hk1
      have HG1 := Lib.hid (HG.out.trans hg1 (fun _ e => .inl e))
      clear hk1 hg1 HKA HG
      go_wp2_with fail
      go_roundw
      case rel => exact ⟨k, _, by omega, by go_num, by rw [HSZ.out]; exact HD'.out, by rw [← HEQ.out]; rfl, HK1.out, HG1.out⟩
      case measure => simp [intOf]; try omega
end Go.Proofs.YtdcjocldggmdbaaGreat

/- Layer 53: the sort of many keys: choosePivot. -/
set_option linter.unusedSimpArgs false
namespace Go.Proofs.YtdcjocldggmdbaaGreat
open Go.RowKit Go

theorem SCtx.up {S : Nat → Prop} {p : Nat} {ts : List Tk} {ne np m : Nat} {F G : Nat → Prop} {w w' : World} (h : SCtx S p ts ne np m F w) (hG : Gr G w w') (hg : ∀ b, G b → F b ∨ w.heap.size ≤ b) : SCtx S p ts ne np m (fun b => F b ∨ w.heap.size ≤ b) w' where
  wf := (h.gr hG hg).wf
  fp := by
    rintro (h1 | h1)
    · exact h.fp h1
    · obtain ⟨a, l, c, xs, hb, -⟩ := h.wf.row
      have := blk_lt hb
      omega
  fS := by
    intro b hb
    rintro (h1 | h1)
    · exact h.fS b hb h1
    · have := h.wf.hS b hb
      omega
/-- A hint as Go's number. -/
def hintI : Sort.Hint → Int
  | .unknown => 0
  | .increasing => 1
  | .decreasing => 2
theorem choose_lo (lt : Ky → Ky → Bool) (d : Array Ky) (a l i j k : Nat) (h8 : 8 ≤ l) (h50 : ¬ 50 ≤ l) (hi : i = a + l / 4 * 1) (hj : j = a + l / 4 * 2) (hk : k = a + l / 4 * 3) (r : Nat × Nat) (hr : Sort.median lt d i j k 0 = r) :
    Sort.choosePivot lt d a (a + l) = (r.1, if r.2 = 0 then .increasing else if r.2 = 12 then .decreasing else .unknown) := by
  subst hi hj hk hr
  unfold Sort.choosePivot
  simp only [Nat.add_sub_cancel_left, ge_iff_le, h8, h50, if_true, if_false]
theorem choose_hi (lt : Ky → Ky → Bool) (d : Array Ky) (a l i j k : Nat) (h8 : 8 ≤ l) (h50 : 50 ≤ l) (hi : i = a + l / 4 * 1) (hj : j = a + l / 4 * 2) (hk : k = a + l / 4 * 3) (ri rj rk r : Nat × Nat) (hri : Sort.medianAdjacent lt d i 0 = ri) (hrj : Sort.medianAdjacent lt d j ri.2 = rj) (hrk : Sort.medianAdjacent lt d k rj.2 = rk) (hr : Sort.median lt d ri.1 rj.1 rk.1 rk.2 = r) :
    Sort.choosePivot lt d a (a + l) = (r.1, if r.2 = 0 then .increasing else if r.2 = 12 then .decreasing else .unknown) := by
  subst hi hj hk hr hri hrj hrk
  unfold Sort.choosePivot
  simp only [Nat.add_sub_cancel_left, ge_iff_le, h8, h50, if_true]
set_option maxRecDepth 20000 in
set_option maxHeartbeats 2000000 in
theorem chooseK {S : Nat → Prop} {F : Nat → Prop} (w : World) (p : Nat) (ts : List Tk) (ne np m : Nat) (hS : SCtx S p ts ne np m F w) (g cap n : Nat) (d : Array Ky) (hn : d.size = n) (hn2 : n ≤ 100000) (hK : KA w g d) (a b l : Nat) (hl : b = a + l) (hl8 : 8 ≤ l) (hbn : b ≤ n) :
    Calls Tryz.prog 85 #[.slice (some ⟨g, 0, none⟩) n cap, .int .i64 (a : Nat), .int .i64 (b : Nat), cmpV p] w fun e w' => e = .returned (.tuple #[.int .i64 ((Sort.choosePivot (ltK ts) d a b).1 : Nat), .int .i64 (hintI (Sort.choosePivot (ltK ts) d a b).2)]) ∧ Below w.heap.size w w' := by
  have hgl := hK.lt
  have hB1 : Below w.heap.size w (w.alloc (.cells #[.int .i64 0] 3)) := (Below.refl _ w).alloc (Nat.le_refl _) _
  have hs1 : (w.alloc (.cells #[.int .i64 0] 3)).heap[w.heap.size]? = some (.cells #[.int .i64 0] 3 (0, 0)) := heap_alloc_new w _
  have hC1 := hS.up (Gr.of_below (F := fun _ => False) hB1) (fun _ h => h.elim)
  have hk1 := hK.below hB1
  obtain ⟨sb, hsb⟩ : ∃ q, q = w.heap.size := ⟨_, rfl⟩
  obtain ⟨i, hi⟩ : ∃ q, q = a + l / 4 * 1 := ⟨_, rfl⟩
  obtain ⟨j, hj⟩ : ∃ q, q = a + l / 4 * 2 := ⟨_, rfl⟩
  obtain ⟨k, hk⟩ : ∃ q, q = a + l / 4 * 3 := ⟨_, rfl⟩
  have hiI : (a : Int) + ((b : Int) - (a : Int)) / 4 = (i : Int) := by omega
  have hjI : (a : Int) + ((b : Int) - (a : Int)) / 4 * 2 = (j : Int) := by omega
  have hkI : (a : Int) + ((b : Int) - (a : Int)) / 4 * 3 = (k : Int) := by omega
  have h1i : 1 ≤ i ∧ 1 ≤ j ∧ 1 ≤ k := by omega
  have h1n : i + 1 < n ∧ j + 1 < n ∧ k + 1 < n := by omega
  have hx1 : (8 : Int) ≤ (b : Int) - (a : Int) := by omega
  have hx5 : b ≤ 100000 := by omega
  have HI := Lib.hid hiI
  have HJ := Lib.hid hjI
  have HKI := Lib.hid hkI
  clear hiI hjI hkI
  have HM := Lib.hid (fun (W : World) (hW : Gr (fun x => x = sb) (w.alloc (.cells #[.int .i64 0] 3)) W) (a b c : Nat) (ha : a < n) (hb : b < n) (hc : c < n) (s : Nat) (hs2 : s ≤ 900) (hs : W.heap[sb]? = some (.cells #[.int .i64 (s : Nat)] 3 (0, 0))) => medianK W p ts ne np m (hC1.gr hW (fun x e => .inl (.inr (by omega)))) g cap n d hn hn2 (hk1.gr hW (fun e => by omega)) a b c sb ha hb hc s hs2 hs (.inr (by omega)) (by omega))
  have HA := Lib.hid (fun (W : World) (hW : Gr (fun x => x = sb) (w.alloc (.cells #[.int .i64 0] 3)) W) (a : Nat) (ha0 : 1 ≤ a) (ha : a + 1 < n) (s : Nat) (hs2 : s ≤ 900) (hs : W.heap[sb]? = some (.cells #[.int .i64 (s : Nat)] 3 (0, 0))) => medianAdjK W p ts ne np m (hC1.gr hW (fun x e => .inl (.inr (by omega)))) g cap n d hn hn2 (hk1.gr hW (fun e => by omega)) a sb ha0 ha s hs2 hs (.inr (by omega)) (by omega))
  have HLO := Lib.hid (fun (h50 : ¬ 50 ≤ l) (r : Nat × Nat) (hr : Sort.median (ltK ts) d i j k 0 = r) => show Sort.choosePivot (ltK ts) d a b = (r.1, if r.2 = 0 then .increasing else if r.2 = 12 then .decreasing else .unknown) from by rw [hl]; exact choose_lo (ltK ts) d a l i j k hl8 h50 hi hj hk r hr)
  have HHI := Lib.hid (fun (h50 : 50 ≤ l) (ri rj rk r : Nat × Nat) (h1 : Sort.medianAdjacent (ltK ts) d i 0 = ri) (h2 : Sort.medianAdjacent (ltK ts) d j ri.2 = rj) (h3 : Sort.medianAdjacent (ltK ts) d k rj.2 = rk) (h4 : Sort.median (ltK ts) d ri.1 rj.1 rk.1 rk.2 = r) => show Sort.choosePivot (ltK ts) d a b = (r.1, if r.2 = 0 then .increasing else if r.2 = 12 then .decreasing else .unknown) from by rw [hl]; exact choose_hi (ltK ts) d a l i j k hl8 h50 hi hj hk ri rj rk r h1 h2 h3 h4)
  have hxl : (b : Int) - (a : Int) = (l : Int) := by omega
  rw [hxl] at hx1
  have HXL := Lib.hid hxl
  have HB1 := Lib.hid hB1
  have HS1 := Lib.hid hs1
  have HSB := Lib.hid hsb
  clear hK hn hS hk1 hC1 hB1 hs1 hi hj hk hl hgl hsb
  obtain ⟨fv, hfv⟩ : ∃ v, cmpV p = v := ⟨_, rfl⟩
  rw [hfv] at HM HA ⊢
  clear hfv
  by_cases h50 : 50 ≤ l
  · have h50I : (50 : Int) ≤ (b : Int) - (a : Int) := by omega
    have hx1 : (8 : Int) ≤ (b : Int) - (a : Int) := by omega
    clear hxl
    go_enter Tryz.func85, Tryz.ntmps85
    go_wp2_with fail
    rw [HI.out, HJ.out, HKI.out, ← HSB.out]
    rw [← HSB.out] at HS1
    generalize w.alloc (.cells #[.int .i64 0] 3) = w1 at HM HA HB1 HS1 ⊢
    obtain ⟨ri, hri⟩ : ∃ r, Sort.medianAdjacent (ltK ts) d i 0 = r := ⟨_, rfl⟩
    obtain ⟨rj, hrj⟩ : ∃ r, Sort.medianAdjacent (ltK ts) d j ri.2 = r := ⟨_, rfl⟩
    obtain ⟨rk, hrk⟩ : ∃ r, Sort.medianAdjacent (ltK ts) d k rj.2 = r := ⟨_, rfl⟩
    obtain ⟨r, hr⟩ : ∃ r, Sort.median (ltK ts) d ri.1 rj.1 rk.1 rk.2 = r := ⟨_, rfl⟩
    have HCP := Lib.hid (HHI.out h50 ri rj rk r hri hrj hrk hr)
    have LI := Lib.hid (median_lt (ltK ts) d (i - 1) i (i + 1) 0 n (by omega) (by omega) (by omega))
    have LJ := Lib.hid (median_lt (ltK ts) d (j - 1) j (j + 1) ri.2 n (by omega) (by omega) (by omega))
    have LK := Lib.hid (median_lt (ltK ts) d (k - 1) k (k + 1) rj.2 n (by omega) (by omega) (by omega))
    rw [show Sort.median (ltK ts) d (i - 1) i (i + 1) 0 = ri from hri] at LI
    rw [show Sort.median (ltK ts) d (j - 1) j (j + 1) ri.2 = rj from hrj] at LJ
    rw [show Sort.median (ltK ts) d (k - 1) k (k + 1) rj.2 = rk from hrk] at LK
    refine (HA.out w1 (Gr.refl _ _) i h1i.1 h1n.1 0 (by omega) HS1.out).mono ?_
    rw [hri]
    have HRJ := Lib.hid hrj
    have HRK := Lib.hid hrk
    have HR := Lib.hid hr
    clear hri hrj hrk hr
    rintro e w2 ⟨rfl, hs2, hg2⟩
    have HS2 := Lib.hid hs2
    have HG2 := Lib.hid hg2
    clear hs2 hg2
    go_wp2_with fail
    refine (HA.out w2 HG2.out j h1i.2.1 h1n.2.1 ri.2 (by have := LI.out.2; omega) HS2.out).mono ?_
    rw [HRJ.out]
    rintro e w3 ⟨rfl, hs3, hg3⟩
    have HS3 := Lib.hid hs3
    have HG3 := Lib.hid (HG2.out.trans hg3 (fun _ e => .inl e))
    clear hs3 hg3 HRJ
    go_wp2_with fail
    refine (HA.out w3 HG3.out k h1i.2.2 h1n.2.2 rj.2 (by have := LI.out.2; have := LJ.out.2; omega) HS3.out).mono ?_
    rw [HRK.out]
    rintro e w4 ⟨rfl, hs4, hg4⟩
    have HS4 := Lib.hid hs4
    have HG4 := Lib.hid (HG3.out.trans hg4 (fun _ e => .inl e))
    clear hs4 hg4 HRK
    go_wp2_with fail
    refine (HM.out w4 HG4.out ri.1 rj.1 rk.1 LI.out.1 LJ.out.1 LK.out.1 rk.2 (by have := LI.out.2; have := LJ.out.2; have := LK.out.2; omega) HS4.out).mono ?_
    rw [HR.out]
    rintro e w9 ⟨rfl, hs9, hg9⟩
    replace hg9 := HG4.out.trans hg9 (fun _ e => .inl e)
    clear HR HG2 HG3 HG4 HS2 HS3 HS4
    have HS9 := Lib.hid hs9
    have HG9 := Lib.hid hg9
    have z9 := blk_cell hs9 0
    have f9 := blk_frozen hs9 0
    simp at z9
    clear hs9 hg9
    have HBF := Lib.hid (HB1.out.trans (HG9.out.below (n := w.heap.size) (fun x e => by have := HSB.out; omega) HB1.out.size))
    by_cases h0 : r.2 = 0
    · have HF := Lib.hid (show Sort.choosePivot (ltK ts) d a b = (r.1, .increasing) from by rw [HCP.out, if_pos h0])
      have h0I : ((r.2 : Nat) : Int) = 0 := by omega
      rw [h0I] at z9
      go_wp2_with fail
      refine bodyPost_ret (results_tmp2 (t := 8) (u := 9) (by kernel_rfl) _ _ _) rfl ?_
      exact ⟨by rw [HF.out]; rfl, HBF.out⟩
    by_cases h12 : r.2 = 12
    · have HF := Lib.hid (show Sort.choosePivot (ltK ts) d a b = (r.1, .decreasing) from by rw [HCP.out, if_neg h0, if_pos h12])
      have h0I : ((r.2 : Nat) : Int) = 12 := by omega
      rw [h0I] at z9
      go_wp2_with fail
      refine bodyPost_ret (results_tmp2 (t := 8) (u := 9) (by kernel_rfl) _ _ _) rfl ?_
      exact ⟨by rw [HF.out]; rfl, HBF.out⟩
    · have HF := Lib.hid (show Sort.choosePivot (ltK ts) d a b = (r.1, .unknown) from by rw [HCP.out, if_neg h0, if_neg h12])
      have h0I : ¬ ((r.2 : Nat) : Int) = 0 := by omega
      have h12I : ¬ ((r.2 : Nat) : Int) = 12 := by omega
      go_wp2_with fail
      refine bodyPost_ret (results_tmp2 (t := 8) (u := 9) (by kernel_rfl) _ _ _) rfl ?_
      exact ⟨by rw [HF.out]; rfl, HBF.out⟩
  · have h50I : ¬ (50 : Int) ≤ (b : Int) - (a : Int) := by omega
    have hx1 : (8 : Int) ≤ (b : Int) - (a : Int) := by omega
    clear hxl
    go_enter Tryz.func85, Tryz.ntmps85
    go_wp2_with fail
    rw [HI.out, HJ.out, HKI.out, ← HSB.out]
    rw [← HSB.out] at HS1
    generalize w.alloc (.cells #[.int .i64 0] 3) = w1 at HM HA HB1 HS1 ⊢
    refine (HM.out w1 (Gr.refl _ _) i j k (by omega) (by omega) (by omega) 0 (by omega) HS1.out).mono ?_
    obtain ⟨r, hr⟩ : ∃ r, Sort.median (ltK ts) d i j k 0 = r := ⟨_, rfl⟩
    have HCP := Lib.hid (HLO.out h50 r hr)
    rw [hr]
    rintro e w2 ⟨rfl, hs9, hg9⟩
    clear hr
    have HS9 := Lib.hid hs9
    have HG9 := Lib.hid hg9
    have z9 := blk_cell hs9 0
    have f9 := blk_frozen hs9 0
    simp at z9
    clear hs9 hg9
    have HBF := Lib.hid (HB1.out.trans (HG9.out.below (n := w.heap.size) (fun x e => by have := HSB.out; omega) HB1.out.size))
    by_cases h0 : r.2 = 0
    · have HF := Lib.hid (show Sort.choosePivot (ltK ts) d a b = (r.1, .increasing) from by rw [HCP.out, if_pos h0])
      have h0I : ((r.2 : Nat) : Int) = 0 := by omega
      rw [h0I] at z9
      go_wp2_with fail
      refine bodyPost_ret (results_tmp2 (t := 8) (u := 9) (by kernel_rfl) _ _ _) rfl ?_
      exact ⟨by rw [HF.out]; rfl, HBF.out⟩
    by_cases h12 : r.2 = 12
    · have HF := Lib.hid (show Sort.choosePivot (ltK ts) d a b = (r.1, .decreasing) from by rw [HCP.out, if_neg h0, if_pos h12])
      have h0I : ((r.2 : Nat) : Int) = 12 := by omega
      rw [h0I] at z9
      go_wp2_with fail
      refine bodyPost_ret (results_tmp2 (t := 8) (u := 9) (by kernel_rfl) _ _ _) rfl ?_
      exact ⟨by rw [HF.out]; rfl, HBF.out⟩
    · have HF := Lib.hid (show Sort.choosePivot (ltK ts) d a b = (r.1, .unknown) from by rw [HCP.out, if_neg h0, if_neg h12])
      have h0I : ¬ ((r.2 : Nat) : Int) = 0 := by omega
      have h12I : ¬ ((r.2 : Nat) : Int) = 12 := by omega
      go_wp2_with fail
      refine bodyPost_ret (results_tmp2 (t := 8) (u := 9) (by kernel_rfl) _ _ _) rfl ?_
      exact ⟨by rw [HF.out]; rfl, HBF.out⟩
end Go.Proofs.YtdcjocldggmdbaaGreat

/- Layer 53: the sort of many keys: xorshift's Next and nextPowerOfTwo, off the kit's shelf. -/
set_option linter.unusedSimpArgs false
namespace Go.Proofs.YtdcjocldggmdbaaGreat
open Go.Shelf Go.RowKit Go
def xsRen : Go.Shelf.Ren := ⟨fun | 48 => 94 | n => n, fun | 0 => 0 | 39 => 120 | 55 => 140 | 66 => 148 | 76 => 159 | n => n, fun n => n⟩
theorem xs48 : Go.Proofs.SlLaysF0.n48 Tryz.prog xsRen where
  mixed := by kernel_rfl
  f48 := Tryz.func94.trans (congrArg some (by kernel_rfl))
  t0 := Tryz.underlying0
  a0 := Tryz.isAgg0
  z0 := Tryz.sizeOf0
  v0 := Tryz.zeroValue0
  t39 := Tryz.underlying120
  a39 := Tryz.isAgg120
  z39 := Tryz.sizeOf120
  v39 := Tryz.zeroValue120
  t55 := Tryz.underlying140
  a55 := Tryz.isAgg140
  z55 := Tryz.sizeOf140
  v55 := Tryz.zeroValue140
  t66 := Tryz.underlying148
  a66 := Tryz.isAgg148
  z66 := Tryz.sizeOf148
  v66 := Tryz.zeroValue148
  t76 := Tryz.underlying159
  a76 := Tryz.isAgg159
  z76 := Tryz.sizeOf159
  v76 := Tryz.zeroValue159
theorem nextK (rb X : Nat) (hX : X < 18446744073709551616) (w : World) (hs : w.heap[rb]? = some (.cells #[.int .u64 (X : Nat)] 148 (0, 0))) :
    Calls Tryz.prog 94 #[.pointer (some ⟨rb, 0, none⟩)] w fun e w' => e = .returned (.int .u64 (Sort.xorNextN X : Nat)) ∧ w' = (w.setCell ⟨rb, 0, none⟩ (.int .u64 (Sort.xorNextN X : Nat))).drewN 3 :=
  AnyF.xorshift_Next xs48 rb 0 X hX w (by simpa using blk_cell hs 0) (blk_frozen hs 0)
def npRen : Go.Shelf.Ren := ⟨fun | 15 => 59 | 28 => 77 | 29 => 78 | 47 => 93 | n => n, fun | 3 => 3 | 4 => 4 | 5 => 5 | 9 => 9 | 39 => 120 | 53 => 138 | 55 => 140 | n => n, fun n => n⟩
theorem np47 : Go.Proofs.SlLaysF0.n47 Tryz.prog npRen where
  mixed := by kernel_rfl
  f15 := Tryz.func59.trans (congrArg some (by kernel_rfl))
  f28 := Tryz.func77.trans (congrArg some (by kernel_rfl))
  f29 := Tryz.func78.trans (congrArg some (by kernel_rfl))
  f47 := Tryz.func93.trans (congrArg some (by kernel_rfl))
  t3 := Tryz.underlying3
  a3 := Tryz.isAgg3
  z3 := Tryz.sizeOf3
  v3 := Tryz.zeroValue3
  t4 := Tryz.underlying4
  a4 := Tryz.isAgg4
  z4 := Tryz.sizeOf4
  v4 := Tryz.zeroValue4
  t5 := Tryz.underlying5
  a5 := Tryz.isAgg5
  z5 := Tryz.sizeOf5
  v5 := Tryz.zeroValue5
  t9 := Tryz.underlying9
  a9 := Tryz.isAgg9
  z9 := Tryz.sizeOf9
  v9 := Tryz.zeroValue9
  t39 := Tryz.underlying120
  a39 := Tryz.isAgg120
  z39 := Tryz.sizeOf120
  v39 := Tryz.zeroValue120
  t53 := Tryz.underlying138
  a53 := Tryz.isAgg138
  z53 := Tryz.sizeOf138
  v53 := Tryz.zeroValue138
  t55 := Tryz.underlying140
  a55 := Tryz.isAgg140
  z55 := Tryz.sizeOf140
  v55 := Tryz.zeroValue140
theorem npowK (n : Nat) (hn : n < 4611686018427387904) (w : World) :
    Calls Tryz.prog 93 #[.int .i64 (n : Nat)] w fun e w' => e = .returned (.int .u64 ((1 <<< Sort.bitsLen n : Nat) : Int)) ∧ w' = w :=
  AnyF.nextPowerOfTwo np47 n hn w
end Go.Proofs.YtdcjocldggmdbaaGreat

/- Layer 53: the sort of many keys: breakPatterns. -/
set_option linter.unusedSimpArgs false
namespace Go.Proofs.YtdcjocldggmdbaaGreat
open Go.RowKit Go

set_option maxRecDepth 20000 in
set_option maxHeartbeats 2000000 in
theorem breakK (w : World) (g cap n : Nat) (d : Array Ky) (hn : d.size = n) (hn2 : n ≤ 100000) (hK : KA w g d) (a b L : Nat) (hb : b = a + L) (h8 : 8 ≤ L) (hbn : b ≤ n) (fv : Value) :
    Calls Tryz.prog 84 #[.slice (some ⟨g, 0, none⟩) n cap, .int .i64 (a : Nat), .int .i64 (b : Nat), fv] w fun e w' => e = .returned (.tuple #[]) ∧ KA w' g (Sort.breakPatterns d a b) ∧ Gr (fun x => x = g) w w' := by
  have hgl := hK.lt
  obtain ⟨M, hM⟩ : ∃ M : Nat, M = 1 <<< Sort.bitsLen L := ⟨_, rfl⟩
  have hM1 : 1 ≤ M := by rw [hM, Nat.one_shiftLeft]; exact Nat.two_pow_pos _
  have hM2 : M ≤ 2 * L := by rw [hM, Nat.one_shiftLeft]; exact Sort.two_pow_bitsLen_le (by omega)
  have HNP := Lib.hid (show ∀ W, Calls Tryz.prog 93 #[.int .i64 (L : Nat)] W fun e w' => e = .returned (.int .u64 (M : Int)) ∧ w' = W from by rw [hM]; exact fun W => npowK L (by omega) W)
  obtain ⟨i0, hi0⟩ : ∃ q, q = a + L / 4 * 2 - 1 := ⟨_, rfl⟩
  have HDEF := Lib.hid (show Sort.breakPatterns d a b = bpRest a L M i0 3 0 (UInt64.ofNat L, d) from by rw [hb, hM, hi0]; exact breakPatterns_eq d a L h8)
  have hxl : (b : Int) - (a : Int) = (L : Int) := by omega
  have HXL := Lib.hid hxl
  have HI0 := Lib.hid (show (a : Int) + (L : Int) / 4 * 2 - 1 = (i0 : Int) from by omega)
  have hx1 : (8 : Int) ≤ (b : Int) - (a : Int) := by omega
  have hx5 : b ≤ 100000 := by omega
  have hx6 : L ≤ 100000 := by omega
  have hx7 : a ≤ 100000 := by omega
  have HI := Lib.hid hi0
  have HK := Lib.hid hK
  have HN := Lib.hid hn
  have HB := Lib.hid hb
  clear hM hi0 hxl hK hn hb
  go_enter Tryz.func84, Tryz.ntmps84
  go_wp2_with fail
  rw [show (b : Int) - (a : Int) = (L : Int) from HXL.out]
  have hx1 : (8 : Int) ≤ (L : Int) := by omega
  have hs1 : (w.alloc (.cells #[.int .u64 (L : Nat)] 148)).heap[w.heap.size]? = some (.cells #[.int .u64 (L : Nat)] 148 (0, 0)) := heap_alloc_new w _
  have hB1 : Below w.heap.size w (w.alloc (.cells #[.int .u64 (L : Nat)] 148)) := (Below.refl _ w).alloc (Nat.le_refl _) _
  obtain ⟨sb, hsb⟩ : ∃ q, q = w.heap.size := ⟨_, rfl⟩
  rw [← hsb] at hs1 ⊢
  generalize w.alloc (.cells #[.int .u64 (L : Nat)] 148) = w1 at hs1 hB1 ⊢
  have HS1 := Lib.hid hs1
  have HK1 := Lib.hid (HK.out.below hB1)
  have HB1 := Lib.hid hB1
  have HSB := Lib.hid hsb
  have hsg : sb ≠ g := by omega
  clear hs1 hB1 hsb
  refine (HNP.out w1).mono ?_
  rintro e w2 ⟨rfl, rfl⟩
  go_wp2_with fail
  rw [show (a : Int) + (L : Int) / 4 * 2 - 1 = (i0 : Int) from HI0.out]
  go_loopw [11] (fun iv wr => ∃ (t : Nat) (r : UInt64) (dk : Array Ky), iv = .int .i64 ((i0 + t : Nat) : Int) ∧ t ≤ 3 ∧ dk.size = n ∧ wr.heap[sb]? = some (.cells #[.int .u64 (r.toNat : Nat)] 148 (0, 0)) ∧ bpRest a L M i0 (3 - t) t (r, dk) = bpRest a L M i0 3 0 (UInt64.ofNat L, d) ∧ KA wr g dk ∧ Gr (fun x => x = g ∨ x = sb) w2 wr) (fun iv _ => i0 + 3 - (intOf iv).toNat)
  case atStart => exact ⟨0, UInt64.ofNat L, d, by go_num, by omega, HN.out, by rw [show (UInt64.ofNat L).toNat = L from by simp; omega]; exact HS1.out, rfl, HK1.out, Gr.refl _ _⟩
  case round =>
    obtain ⟨t, r, dk, rfl, ht, hd', hs', heq, hka, hg⟩ := hrel
    have HD' := Lib.hid hd'
    have HS' := Lib.hid hs'
    have HEQ := Lib.hid heq
    have HKA := Lib.hid hka
    have HG := Lib.hid hg
    have HX := Lib.hid (nextK sb r.toNat r.toNat_lt wr hs')
    clear heq hg hd' hs'
    by_cases ht3 : t = 3
    · have hI : ¬ ((i0 + t : Nat) : Int) ≤ (a : Int) + (L : Int) / 4 * 2 + 1 := by have := HI.out; omega
      have HFIN := Lib.hid (show Sort.breakPatterns d a b = dk from by rw [HDEF.out, ← HEQ.out, ht3]; rfl)
      go_wp2_with fail
      exact bodyPost_end (results_none rfl _ _ _) rfl ⟨rfl, by rw [HFIN.out]; exact HKA.out, (Gr.of_below HB1.out).trans HG.out (fun x h => h.imp id (fun e => by have := HSB.out; omega))⟩
    · have hI : ((i0 + t : Nat) : Int) ≤ (a : Int) + (L : Int) / 4 * 2 + 1 := by have := HI.out; omega
      have hrN : Sort.xorNextN r.toNat = (Sort.xorNext r).toNat := (Sort.xorNext_toNat r).symm
      rw [hrN] at HX
      obtain ⟨R, hR⟩ : ∃ q, q = (Sort.xorNext r).toNat := ⟨_, rfl⟩
      have lR : R < 18446744073709551616 := by rw [hR]; exact (Sort.xorNext r).toNat_lt
      rw [← hR] at HX
      obtain ⟨O, hO⟩ : ∃ q, q = R &&& (M - 1) := ⟨_, rfl⟩
      have lO : O ≤ M - 1 := by rw [hO]; exact Nat.and_le_right
      have eAnd : bits .and .u64 (R : Int) ((M : Int) - 1) = (O : Int) := by
        rw [show ((M : Int) - 1) = ((M - 1 : Nat) : Int) by omega, bits_and_u64_nat _ _ lR (by omega), hO]
      have hs3 : ((wr.setCell ⟨sb, 0, none⟩ (.int .u64 (R : Nat))).drewN 3).heap[sb]? = some (.cells #[.int .u64 (R : Nat)] 148 (0, 0)) := by simpa using blk_set (i := 0) HS'.out (.int .u64 (R : Nat))
      have hg3 : Gr (fun x => x = g ∨ x = sb) w2 ((wr.setCell ⟨sb, 0, none⟩ (.int .u64 (R : Nat))).drewN 3) := (HG.out.setCell (p := ⟨sb, 0, none⟩) (.inl (.inr rfl)) _).drewN 3
      have hk3 : KA ((wr.setCell ⟨sb, 0, none⟩ (.int .u64 (R : Nat))).drewN 3) g dk := KA.gr (F := fun x => x = sb) HKA.out (((Gr.refl (fun x => x = sb) wr).setCell (p := ⟨sb, 0, none⟩) (.inl rfl) _).drewN 3) (fun e => hsg e.symm)
      have HRN := Lib.hid hR
      have HON := Lib.hid hO
      clear hrN hR hO
      go_wp2_with fail
      refine HX.out.mono ?_
      rintro e w3 ⟨rfl, rfl⟩
      generalize (wr.setCell ⟨sb, 0, none⟩ (.int .u64 (R : Nat))).drewN 3 = w3 at hs3 hg3 hk3 ⊢
      have HS3 := Lib.hid hs3
      have HG3 := Lib.hid hg3
      have HK3 := Lib.hid hk3
      clear hs3 hg3 hk3
      by_cases hOL : L ≤ O
      · obtain ⟨oth, hot⟩ : ∃ q, q = O - L := ⟨_, rfl⟩
        have hol : oth < L := by omega
        have HOT := Lib.hid (show (if (Sort.xorNext r).toNat &&& (M - 1) ≥ L then ((Sort.xorNext r).toNat &&& (M - 1)) - L else (Sort.xorNext r).toNat &&& (M - 1)) = oth from by rw [← HRN.out, ← HON.out, if_pos hOL]; exact hot.symm)
        go_wp2_with fail
        rw [show (O : Int) - (L : Int) = ((oth : Nat) : Int) from by omega]
        clear hot
        obtain ⟨ii, hii⟩ : ∃ q, q = i0 + t := ⟨_, rfl⟩
        obtain ⟨q, hq⟩ : ∃ q, q = a + oth := ⟨_, rfl⟩
        have hiin : ii < n := by have := HI.out; have := HB.out; omega
        have hqn : q < n := by have := HB.out; omega
        have hiiI : (ii : Int) < (n : Int) := by omega
        have hqI : (q : Int) < (n : Int) := by omega
        rw [show (i0 : Int) + (t : Int) = ((ii : Nat) : Int) from by omega]
        have HQ := Lib.hid hq
        have hk4 := HK3.out
        obtain ⟨m0, m1, m2⟩ := hk4.cell q (by rw [HD'.out]; exact hqn)
        obtain ⟨p0, p1, p2⟩ := hk4.cell ii (by rw [HD'.out]; exact hiin)
        have HNX := Lib.hid (show bpRest a L M i0 (3 - (t + 1)) (t + 1) (Sort.xorNext r, Sort.swp dk ii q) = bpRest a L M i0 3 0 (UInt64.ofNat L, d) from by rw [← HEQ.out, bp_step a L M i0 t r dk oth (by omega) HOT.out, hii, hq])
        have HSW := Lib.hid (show Sort.swp dk ii q = (dk.setIfInBounds ii dk[q]!).setIfInBounds q dk[ii]! from rfl)
        have HSZ := Lib.hid (show (Sort.swp dk ii q).size = n from by rw [swp_size]; exact HD'.out)
        generalize Sort.swp dk ii q = d2 at HNX HSW HSZ
        generalize dk[q]! = x at m0 m1 m2 HSW
        generalize dk[ii]! = y at p0 p1 p2 HSW
        obtain ⟨x1, x2, x3⟩ := x
        obtain ⟨y1, y2, y3⟩ := y
        simp only at m0 m1 m2 p0 p1 p2
        have hC0 : Cells [(⟨g, q * 3, none⟩, .string x1), (⟨g, q * 3 + 1, none⟩, .int .i64 x2), (⟨g, q * 3 + 2, none⟩, .int .i64 x3), (⟨g, ii * 3, none⟩, .string y1), (⟨g, ii * 3 + 1, none⟩, .int .i64 y2), (⟨g, ii * 3 + 2, none⟩, .int .i64 y3)] w3 := ⟨m0, m1, m2, p0, p1, p2, trivial⟩
        have HII := Lib.hid hii
        clear m0 m1 m2 p0 p1 p2 hk4 hq hii HX
        refine wp_region_T (Cells [(⟨g, q * 3, none⟩, .string x1), (⟨g, q * 3 + 1, none⟩, .int .i64 x2), (⟨g, q * 3 + 2, none⟩, .int .i64 x3), (⟨g, ii * 3, none⟩, .string y1), (⟨g, ii * 3 + 1, none⟩, .int .i64 y2), (⟨g, ii * 3 + 2, none⟩, .int .i64 y3)]) (fun i => i == 17 || i == 19) (by kernel_rfl) ?_
        have hSss1 := Cells.drew hC0
        have hB_0_s1 : Below w3.heap.size w3 w3.drew := below_drew _
        generalize w3.drew = s1 at hSss1 hB_0_s1 ⊢
        have hB_s1_s1 := Below.refl s1.heap.size s1
        refine wpAnyT_pure (i := 0) (v := ?_) rfl (by kernel_rfl) (by kernel_rfl) (by kernel_rfl) (fun _ _ _ h => h) (by rfl) ?_ ?_
        rotate_left
        · intro w; go_simp; try with_reducible rfl
        simp only [Act.put, rgA, rgB, rgC, rgD, rgE, rgF]
        refine wpAnyT_pure (i := 1) (v := ?_) rfl (by kernel_rfl) (by kernel_rfl) (by kernel_rfl) (fun _ _ _ h => h) (by rfl) ?_ ?_
        rotate_left
        · intro w; go_simp; try with_reducible rfl
        simp only [Act.put, rgA, rgB, rgC, rgD, rgE, rgF]
        refine wpAnyT_pure (i := 2) (v := ?_) rfl (by kernel_rfl) (by kernel_rfl) (by kernel_rfl) (fun _ _ _ h => h) (by rfl) ?_ ?_
        rotate_left
        · intro w; go_simp; try with_reducible rfl
        simp only [Act.put, rgA, rgB, rgC, rgD, rgE, rgF]
        refine wpAnyT_pure (i := 3) (v := ?_) rfl (by kernel_rfl) (by kernel_rfl) (by kernel_rfl) (fun _ _ _ h => h) (by rfl) ?_ ?_
        rotate_left
        · intro w; go_simp; try with_reducible rfl
        simp only [Act.put, rgA, rgB, rgC, rgD, rgE, rgF]
        refine wpAnyT_pure (i := 4) (v := ?_) rfl (by kernel_rfl) (by kernel_rfl) (by kernel_rfl) (fun _ _ _ h => h) (by rfl) ?_ ?_
        rotate_left
        · intro w; go_simp; try with_reducible rfl
        simp only [Act.put, rgA, rgB, rgC, rgD, rgE, rgF]
        refine wpAnyT_pure (i := 6) (v := ?_) rfl (by kernel_rfl) (by kernel_rfl) (by kernel_rfl) (fun _ _ _ h => h) (by rfl) ?_ ?_
        rotate_left
        · intro w; go_simp; try with_reducible rfl
        simp only [Act.put, rgA, rgB, rgC, rgD, rgE, rgF]
        refine wpAnyT_pure (i := 7) (v := ?_) rfl (by kernel_rfl) (by kernel_rfl) (by kernel_rfl) (fun _ _ _ h => h) (by rfl) ?_ ?_
        rotate_left
        · intro w; go_simp; try with_reducible rfl
        simp only [Act.put, rgA, rgB, rgC, rgD, rgE, rgF]
        refine wpAnyT_pure (i := 8) (v := ?_) rfl (by kernel_rfl) (by kernel_rfl) (by kernel_rfl) (fun _ _ _ h => h) (by rfl) ?_ ?_
        rotate_left
        · intro w; go_simp; try with_reducible rfl
        simp only [Act.put, rgA, rgB, rgC, rgD, rgE, rgF]
        refine wpAnyT_pure (i := 12) (v := ?_) rfl (by kernel_rfl) (by kernel_rfl) (by kernel_rfl) (fun _ _ _ h => h) (by rfl) ?_ ?_
        rotate_left
        · intro w; go_simp; try with_reducible rfl
        simp only [Act.put, rgA, rgB, rgC, rgD, rgE, rgF]
        refine wpAnyT_pure (i := 13) (v := ?_) rfl (by kernel_rfl) (by kernel_rfl) (by kernel_rfl) (fun _ _ _ h => h) (by rfl) ?_ ?_
        rotate_left
        · intro w; go_simp; try with_reducible rfl
        simp only [Act.put, rgA, rgB, rgC, rgD, rgE, rgF]
        refine wpAnyT_pure (i := 14) (v := ?_) rfl (by kernel_rfl) (by kernel_rfl) (by kernel_rfl) (fun _ _ _ h => h) (by rfl) ?_ ?_
        rotate_left
        · intro w; go_simp; try with_reducible rfl
        simp only [Act.put, rgA, rgB, rgC, rgD, rgE, rgF]
        refine wpAnyT_loadW (i := 15) (v := ?_) rfl (by kernel_rfl) (by kernel_rfl) (by kernel_rfl) (by kernel_rfl) (by kernel_rfl) (fun _ _ _ h => h) (Or.inl ⟨by rfl, ?_⟩) hSss1 ?_
        rotate_left
        · intro w hSw; obtain ⟨e0, e1, e2, e3, e4, e5, -⟩ := hSw; go_simp; try with_reducible rfl
        simp only [Act.put, rgA, rgB, rgC, rgD, rgE, rgF]
        refine wpAnyT_pure (i := 5) (v := (.int .i64 (q : Nat))) rfl (by kernel_rfl) (by kernel_rfl) (by kernel_rfl) (fun _ _ _ h => h) (by rfl) ?_ ?_
        · intro w; have hq := HQ.out; clear HQ; go_simp; rw [IntKind.wrap_i64] <;> omega
        simp only [Act.put, rgA, rgB, rgC, rgD, rgE, rgF]
        refine wpAnyT_pure (i := 9) (v := (.int .i64 (q : Nat))) rfl (by kernel_rfl) (by kernel_rfl) (by kernel_rfl) (fun _ _ _ h => h) (by rfl) ?_ ?_
        · intro w; have hq := HQ.out; clear HQ; go_simp; rw [IntKind.wrap_i64] <;> omega
        simp only [Act.put, rgA, rgB, rgC, rgD, rgE, rgF]
        refine wpAnyT_pure (i := 10) (v := ?_) rfl (by kernel_rfl) (by kernel_rfl) (by kernel_rfl) (fun _ _ _ h => h) (by rfl) ?_ ?_
        rotate_left
        · intro w; go_simp; try with_reducible rfl
        simp only [Act.put, rgA, rgB, rgC, rgD, rgE, rgF]
        refine wpAnyT_loadW (i := 11) (v := ?_) rfl (by kernel_rfl) (by kernel_rfl) (by kernel_rfl) (by kernel_rfl) (by kernel_rfl) (fun _ _ _ h => h) (Or.inl ⟨by rfl, ?_⟩) hSss1 ?_
        rotate_left
        · intro w hSw; obtain ⟨e0, e1, e2, e3, e4, e5, -⟩ := hSw; go_simp; try with_reducible rfl
        simp only [Act.put, rgA, rgB, rgC, rgD, rgE, rgF]
        refine wpAnyT_pure (i := 16) (v := ?_) rfl (by kernel_rfl) (by kernel_rfl) (by kernel_rfl) (fun _ _ _ h => h) (by rfl) ?_ ?_
        rotate_left
        · intro w; go_simp; try with_reducible rfl
        simp only [Act.put, rgA, rgB, rgC, rgD, rgE, rgF]
        refine wpAnyT_one (i := 17) (by kernel_rfl) rfl (by rfl) ?_
        have hb13 : Below w3.heap.size w3 s1 := hB_0_s1.trans ((hB_s1_s1).mono (hB_0_s1).size)
        obtain ⟨hs13, hn13⟩ := (HK3.out.below hb13).set Tryz.prog ii (by rw [HD'.out]; exact hiin) ⟨x1, x2, x3⟩
        have hg13 := (Gr.of_below hb13 (F := fun x => x = g)).trans (gr_setCells g (kvs ⟨x1, x2, x3⟩) (ii * 3) s1) (fun _ h => .inl h)
        refine wp_storeK (w' := (s1).setCells g (ii * 3) (kvs ⟨x1, x2, x3⟩)) 48 (.tmp 65) (.tmp 60) rfl ⟨g, ii * 3, none⟩ (.agg #[.string x1, .int .i64 x2, .int .i64 x3]) (by kernel_rfl) (by kernel_rfl) (sizeK _) hs13 ?_
        generalize (s1).setCells g (ii * 3) (kvs ⟨x1, x2, x3⟩) = w102 at hn13 hg13 ⊢
        clear hs13
        refine ⟨fun h => absurd h (by decide), ?_⟩
        try simp only [Act.put, rgA, rgB, rgC, rgD, rgE, rgF]
        refine wpAnyT_pure (i := 18) (v := ?_) rfl (by kernel_rfl) (by kernel_rfl) (by kernel_rfl) (fun _ _ _ h => h) (by rfl) ?_ ?_
        rotate_left
        · intro w; go_simp; try with_reducible rfl
        simp only [Act.put, rgA, rgB, rgC, rgD, rgE, rgF]
        refine wpAnyT_one (i := 19) (by kernel_rfl) rfl (by rfl) ?_
        obtain ⟨hs15, hn15⟩ := hn13.set Tryz.prog q (by rw [Array.size_setIfInBounds, HD'.out]; exact hqn) ⟨y1, y2, y3⟩
        have hg15 := hg13.trans (gr_setCells g (kvs ⟨y1, y2, y3⟩) (q * 3) w102) (fun _ h => .inl h)
        refine wp_storeK (w' := (w102).setCells g (q * 3) (kvs ⟨y1, y2, y3⟩)) 48 (.tmp 66) (.tmp 64) rfl ⟨g, q * 3, none⟩ (.agg #[.string y1, .int .i64 y2, .int .i64 y3]) (by kernel_rfl) (by kernel_rfl) (sizeK _) hs15 ?_
        generalize (w102).setCells g (q * 3) (kvs ⟨y1, y2, y3⟩) = w103 at hn15 hg15 ⊢
        clear hs15 hn13 hg13
        refine ⟨fun h => absurd h (by decide), ?_⟩
        try simp only [Act.put, rgA, rgB, rgC, rgD, rgE, rgF]
        refine wpAnyT_done (by kernel_rfl) ?_ _
        obtain ⟨w4, rfl⟩ : ∃ x, x = w103 := ⟨_, rfl⟩
        have HR4 := Lib.hid (show KA w4 g d2 from by rw [HSW.out]; exact hn15)
        have HS4 := Lib.hid (blk_gr hg15 HS3.out hsg)
        have HG4 := Lib.hid (HG3.out.trans hg15 (fun _ h => .inl (.inl h)))
        clear hn15 hg15 HSW
        go_wp2_with fail
        go_roundw
        case rel => exact ⟨t + 1, Sort.xorNext r, d2, by have := HII.out; go_num, by omega, HSZ.out, by rw [← HRN.out]; exact HS4.out, HNX.out, HR4.out, HG4.out⟩
        case measure => have := HII.out; simp [intOf]; try omega
      · obtain ⟨oth, hot⟩ : ∃ q, q = O := ⟨_, rfl⟩
        have hol : oth < L := by omega
        have HOT := Lib.hid (show (if (Sort.xorNext r).toNat &&& (M - 1) ≥ L then ((Sort.xorNext r).toNat &&& (M - 1)) - L else (Sort.xorNext r).toNat &&& (M - 1)) = oth from by rw [← HRN.out, ← HON.out, if_neg hOL]; exact hot.symm)
        go_wp2_with fail
        rw [show (O : Int) = ((oth : Nat) : Int) from by omega]
        clear hot
        obtain ⟨ii, hii⟩ : ∃ q, q = i0 + t := ⟨_, rfl⟩
        obtain ⟨q, hq⟩ : ∃ q, q = a + oth := ⟨_, rfl⟩
        have hiin : ii < n := by have := HI.out; have := HB.out; omega
        have hqn : q < n := by have := HB.out; omega
        have hiiI : (ii : Int) < (n : Int) := by omega
        have hqI : (q : Int) < (n : Int) := by omega
        rw [show (i0 : Int) + (t : Int) = ((ii : Nat) : Int) from by omega]
        have HQ := Lib.hid hq
        have hk4 := HK3.out
        obtain ⟨m0, m1, m2⟩ := hk4.cell q (by rw [HD'.out]; exact hqn)
        obtain ⟨p0, p1, p2⟩ := hk4.cell ii (by rw [HD'.out]; exact hiin)
        have HNX := Lib.hid (show bpRest a L M i0 (3 - (t + 1)) (t + 1) (Sort.xorNext r, Sort.swp dk ii q) = bpRest a L M i0 3 0 (UInt64.ofNat L, d) from by rw [← HEQ.out, bp_step a L M i0 t r dk oth (by omega) HOT.out, hii, hq])
        have HSW := Lib.hid (show Sort.swp dk ii q = (dk.setIfInBounds ii dk[q]!).setIfInBounds q dk[ii]! from rfl)
        have HSZ := Lib.hid (show (Sort.swp dk ii q).size = n from by rw [swp_size]; exact HD'.out)
        generalize Sort.swp dk ii q = d2 at HNX HSW HSZ
        generalize dk[q]! = x at m0 m1 m2 HSW
        generalize dk[ii]! = y at p0 p1 p2 HSW
        obtain ⟨x1, x2, x3⟩ := x
        obtain ⟨y1, y2, y3⟩ := y
        simp only at m0 m1 m2 p0 p1 p2
        have hC0 : Cells [(⟨g, q * 3, none⟩, .string x1), (⟨g, q * 3 + 1, none⟩, .int .i64 x2), (⟨g, q * 3 + 2, none⟩, .int .i64 x3), (⟨g, ii * 3, none⟩, .string y1), (⟨g, ii * 3 + 1, none⟩, .int .i64 y2), (⟨g, ii * 3 + 2, none⟩, .int .i64 y3)] w3 := ⟨m0, m1, m2, p0, p1, p2, trivial⟩
        have HII := Lib.hid hii
        clear m0 m1 m2 p0 p1 p2 hk4 hq hii HX
        refine wp_region_T (Cells [(⟨g, q * 3, none⟩, .string x1), (⟨g, q * 3 + 1, none⟩, .int .i64 x2), (⟨g, q * 3 + 2, none⟩, .int .i64 x3), (⟨g, ii * 3, none⟩, .string y1), (⟨g, ii * 3 + 1, none⟩, .int .i64 y2), (⟨g, ii * 3 + 2, none⟩, .int .i64 y3)]) (fun i => i == 17 || i == 19) (by kernel_rfl) ?_
        have hSss4 := Cells.drew hC0
        have hB_0_s4 : Below w3.heap.size w3 w3.drew := below_drew _
        generalize w3.drew = s4 at hSss4 hB_0_s4 ⊢
        have hB_s4_s4 := Below.refl s4.heap.size s4
        refine wpAnyT_pure (i := 0) (v := ?_) rfl (by kernel_rfl) (by kernel_rfl) (by kernel_rfl) (fun _ _ _ h => h) (by rfl) ?_ ?_
        rotate_left
        · intro w; go_simp; try with_reducible rfl
        simp only [Act.put, rgA, rgB, rgC, rgD, rgE, rgF]
        refine wpAnyT_pure (i := 1) (v := ?_) rfl (by kernel_rfl) (by kernel_rfl) (by kernel_rfl) (fun _ _ _ h => h) (by rfl) ?_ ?_
        rotate_left
        · intro w; go_simp; try with_reducible rfl
        simp only [Act.put, rgA, rgB, rgC, rgD, rgE, rgF]
        refine wpAnyT_pure (i := 2) (v := ?_) rfl (by kernel_rfl) (by kernel_rfl) (by kernel_rfl) (fun _ _ _ h => h) (by rfl) ?_ ?_
        rotate_left
        · intro w; go_simp; try with_reducible rfl
        simp only [Act.put, rgA, rgB, rgC, rgD, rgE, rgF]
        refine wpAnyT_pure (i := 3) (v := ?_) rfl (by kernel_rfl) (by kernel_rfl) (by kernel_rfl) (fun _ _ _ h => h) (by rfl) ?_ ?_
        rotate_left
        · intro w; go_simp; try with_reducible rfl
        simp only [Act.put, rgA, rgB, rgC, rgD, rgE, rgF]
        refine wpAnyT_pure (i := 4) (v := ?_) rfl (by kernel_rfl) (by kernel_rfl) (by kernel_rfl) (fun _ _ _ h => h) (by rfl) ?_ ?_
        rotate_left
        · intro w; go_simp; try with_reducible rfl
        simp only [Act.put, rgA, rgB, rgC, rgD, rgE, rgF]
        refine wpAnyT_pure (i := 6) (v := ?_) rfl (by kernel_rfl) (by kernel_rfl) (by kernel_rfl) (fun _ _ _ h => h) (by rfl) ?_ ?_
        rotate_left
        · intro w; go_simp; try with_reducible rfl
        simp only [Act.put, rgA, rgB, rgC, rgD, rgE, rgF]
        refine wpAnyT_pure (i := 7) (v := ?_) rfl (by kernel_rfl) (by kernel_rfl) (by kernel_rfl) (fun _ _ _ h => h) (by rfl) ?_ ?_
        rotate_left
        · intro w; go_simp; try with_reducible rfl
        simp only [Act.put, rgA, rgB, rgC, rgD, rgE, rgF]
        refine wpAnyT_pure (i := 8) (v := ?_) rfl (by kernel_rfl) (by kernel_rfl) (by kernel_rfl) (fun _ _ _ h => h) (by rfl) ?_ ?_
        rotate_left
        · intro w; go_simp; try with_reducible rfl
        simp only [Act.put, rgA, rgB, rgC, rgD, rgE, rgF]
        refine wpAnyT_pure (i := 12) (v := ?_) rfl (by kernel_rfl) (by kernel_rfl) (by kernel_rfl) (fun _ _ _ h => h) (by rfl) ?_ ?_
        rotate_left
        · intro w; go_simp; try with_reducible rfl
        simp only [Act.put, rgA, rgB, rgC, rgD, rgE, rgF]
        refine wpAnyT_pure (i := 13) (v := ?_) rfl (by kernel_rfl) (by kernel_rfl) (by kernel_rfl) (fun _ _ _ h => h) (by rfl) ?_ ?_
        rotate_left
        · intro w; go_simp; try with_reducible rfl
        simp only [Act.put, rgA, rgB, rgC, rgD, rgE, rgF]
        refine wpAnyT_pure (i := 14) (v := ?_) rfl (by kernel_rfl) (by kernel_rfl) (by kernel_rfl) (fun _ _ _ h => h) (by rfl) ?_ ?_
        rotate_left
        · intro w; go_simp; try with_reducible rfl
        simp only [Act.put, rgA, rgB, rgC, rgD, rgE, rgF]
        refine wpAnyT_loadW (i := 15) (v := ?_) rfl (by kernel_rfl) (by kernel_rfl) (by kernel_rfl) (by kernel_rfl) (by kernel_rfl) (fun _ _ _ h => h) (Or.inl ⟨by rfl, ?_⟩) hSss4 ?_
        rotate_left
        · intro w hSw; obtain ⟨e0, e1, e2, e3, e4, e5, -⟩ := hSw; go_simp; try with_reducible rfl
        simp only [Act.put, rgA, rgB, rgC, rgD, rgE, rgF]
        refine wpAnyT_pure (i := 5) (v := (.int .i64 (q : Nat))) rfl (by kernel_rfl) (by kernel_rfl) (by kernel_rfl) (fun _ _ _ h => h) (by rfl) ?_ ?_
        · intro w; have hq := HQ.out; clear HQ; go_simp; rw [IntKind.wrap_i64] <;> omega
        simp only [Act.put, rgA, rgB, rgC, rgD, rgE, rgF]
        refine wpAnyT_pure (i := 9) (v := (.int .i64 (q : Nat))) rfl (by kernel_rfl) (by kernel_rfl) (by kernel_rfl) (fun _ _ _ h => h) (by rfl) ?_ ?_
        · intro w; have hq := HQ.out; clear HQ; go_simp; rw [IntKind.wrap_i64] <;> omega
        simp only [Act.put, rgA, rgB, rgC, rgD, rgE, rgF]
        refine wpAnyT_pure (i := 10) (v := ?_) rfl (by kernel_rfl) (by kernel_rfl) (by kernel_rfl) (fun _ _ _ h => h) (by rfl) ?_ ?_
        rotate_left
        · intro w; go_simp; try with_reducible rfl
        simp only [Act.put, rgA, rgB, rgC, rgD, rgE, rgF]
        refine wpAnyT_loadW (i := 11) (v := ?_) rfl (by kernel_rfl) (by kernel_rfl) (by kernel_rfl) (by kernel_rfl) (by kernel_rfl) (fun _ _ _ h => h) (Or.inl ⟨by rfl, ?_⟩) hSss4 ?_
        rotate_left
        · intro w hSw; obtain ⟨e0, e1, e2, e3, e4, e5, -⟩ := hSw; go_simp; try with_reducible rfl
        simp only [Act.put, rgA, rgB, rgC, rgD, rgE, rgF]
        refine wpAnyT_pure (i := 16) (v := ?_) rfl (by kernel_rfl) (by kernel_rfl) (by kernel_rfl) (fun _ _ _ h => h) (by rfl) ?_ ?_
        rotate_left
        · intro w; go_simp; try with_reducible rfl
        simp only [Act.put, rgA, rgB, rgC, rgD, rgE, rgF]
        refine wpAnyT_one (i := 17) (by kernel_rfl) rfl (by rfl) ?_
        have hb13 : Below w3.heap.size w3 s4 := hB_0_s4.trans ((hB_s4_s4).mono (hB_0_s4).size)
        obtain ⟨hs13, hn13⟩ := (HK3.out.below hb13).set Tryz.prog ii (by rw [HD'.out]; exact hiin) ⟨x1, x2, x3⟩
        have hg13 := (Gr.of_below hb13 (F := fun x => x = g)).trans (gr_setCells g (kvs ⟨x1, x2, x3⟩) (ii * 3) s4) (fun _ h => .inl h)
        refine wp_storeK (w' := (s4).setCells g (ii * 3) (kvs ⟨x1, x2, x3⟩)) 48 (.tmp 65) (.tmp 60) rfl ⟨g, ii * 3, none⟩ (.agg #[.string x1, .int .i64 x2, .int .i64 x3]) (by kernel_rfl) (by kernel_rfl) (sizeK _) hs13 ?_
        generalize (s4).setCells g (ii * 3) (kvs ⟨x1, x2, x3⟩) = w105 at hn13 hg13 ⊢
        clear hs13
        refine ⟨fun h => absurd h (by decide), ?_⟩
        try simp only [Act.put, rgA, rgB, rgC, rgD, rgE, rgF]
        refine wpAnyT_pure (i := 18) (v := ?_) rfl (by kernel_rfl) (by kernel_rfl) (by kernel_rfl) (fun _ _ _ h => h) (by rfl) ?_ ?_
        rotate_left
        · intro w; go_simp; try with_reducible rfl
        simp only [Act.put, rgA, rgB, rgC, rgD, rgE, rgF]
        refine wpAnyT_one (i := 19) (by kernel_rfl) rfl (by rfl) ?_
        obtain ⟨hs15, hn15⟩ := hn13.set Tryz.prog q (by rw [Array.size_setIfInBounds, HD'.out]; exact hqn) ⟨y1, y2, y3⟩
        have hg15 := hg13.trans (gr_setCells g (kvs ⟨y1, y2, y3⟩) (q * 3) w105) (fun _ h => .inl h)
        refine wp_storeK (w' := (w105).setCells g (q * 3) (kvs ⟨y1, y2, y3⟩)) 48 (.tmp 66) (.tmp 64) rfl ⟨g, q * 3, none⟩ (.agg #[.string y1, .int .i64 y2, .int .i64 y3]) (by kernel_rfl) (by kernel_rfl) (sizeK _) hs15 ?_
        generalize (w105).setCells g (q * 3) (kvs ⟨y1, y2, y3⟩) = w106 at hn15 hg15 ⊢
        clear hs15 hn13 hg13
        refine ⟨fun h => absurd h (by decide), ?_⟩
        try simp only [Act.put, rgA, rgB, rgC, rgD, rgE, rgF]
        refine wpAnyT_done (by kernel_rfl) ?_ _
        obtain ⟨w4, rfl⟩ : ∃ x, x = w106 := ⟨_, rfl⟩
        have HR4 := Lib.hid (show KA w4 g d2 from by rw [HSW.out]; exact hn15)
        have HS4 := Lib.hid (blk_gr hg15 HS3.out hsg)
        have HG4 := Lib.hid (HG3.out.trans hg15 (fun _ h => .inl (.inl h)))
        clear hn15 hg15 HSW
        go_wp2_with fail
        go_roundw
        case rel => exact ⟨t + 1, Sort.xorNext r, d2, by have := HII.out; go_num, by omega, HSZ.out, by rw [← HRN.out]; exact HS4.out, HNX.out, HR4.out, HG4.out⟩
        case measure => have := HII.out; simp [intOf]; try omega
end Go.Proofs.YtdcjocldggmdbaaGreat
