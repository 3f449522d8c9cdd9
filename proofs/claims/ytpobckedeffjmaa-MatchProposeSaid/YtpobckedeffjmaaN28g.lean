/- Layer 28: the law's from; the reference's SameRefs, SamePairs. -/
import Derived.Test.YtpobckedeffjmaaN28f
import Derived.Test.YtpobckedeffjmaaN28e
import Derived.Test.YtpobckedeffjmaaFr
set_option linter.unusedSimpArgs false
set_option maxRecDepth 50000
namespace Go.Proofs.Ytpobckedeffjmaa
open Go.RowKit Go

theorem info_rpair' : (Try.prog.info? 88).map (fun i => (i.zero, i.size, i.bytes)) = some (some (.agg #[.slice none 0 0, .slice none 0 0]), pairT.sz, 48) := by kernel_rfl
set_option maxHeartbeats 2000000 in
theorem from28 {S : Nat → Prop} (w : World) (a : Option Addr) (c : Nat) (l : List P2) (hn : l.length ≤ 1000) (h : Rd (.sl pairT) S w [.slice a l.length c] (l.map pairD)) (hS : ∀ b, S b → b < w.heap.size) :
    Calls Try.prog 14 #[.slice a l.length c] w fun e w' => ∃ v, e = .returned v ∧ Owns pairT 88 w.heap.size S w' v (l.map pairD) ∧ Below w.heap.size w w' := by
  have H := Lib.hid h
  have HS := Lib.hid hS
  clear h hS
  go_enter Try.func14, Try.ntmps14
  go_wp2_with fail
  go_loopw [3, 8] (fun v iv wr => ∃ (k : Nat) (av : Option Addr) (lv cv : Nat), k ≤ l.length ∧ iv = .int .i64 (k : Int) ∧ v = .slice av lv cv ∧ Owns pairT 88 w.heap.size S wr (.slice av lv cv) ((l.take k).map pairD) ∧ Below w.heap.size w wr) (fun _ iv _ => l.length - (intOf iv).toNat)
  case atStart => exact ⟨0, none, 0, 0, Nat.zero_le _, rfl, rfl, (Owns.nil _ _ _ _).mono (fun _ h => h.elim) (fun b hb => ⟨fun e => (by cases e), HS.out b hb⟩), Below.refl _ _⟩
  case round =>
    obtain ⟨k, av, lv, cv, hk, rfl, rfl, hO, hB⟩ := hrel
    have HO := Lib.hid hO
    have HB := Lib.hid hB
    by_cases hkl : k < l.length
    · have hkI : (k : Int) < (l.length : Int) := by omega
      obtain ⟨b, off, b1, c1, b2, c2, rfl, -, m0, m1, hp1, hp2⟩ := pair_at (H.out.below hB HS.out) k hkl
      have HTK := Lib.hid (List.take_succ_eq_append_getElem hkl)
      have HKL := Lib.hid hkl
      generalize l[k] = x at m0 m1 hp1 hp2 HTK
      obtain ⟨x1, x2⟩ := x
      simp only at m0 m1 hp1 hp2
      have HP := Lib.hid (And.intro hp1 hp2)
      have hkn : k ≤ 1000 := by omega
      have hwr := hB.size
      clear hO hB hkl hp1 hp2
      go_wp2_with (at_builtin; have hal := ((Below.refl wr.heap.size wr).alloc (Nat.le_refl _) (.cells #[.slice b1 x1.length c1, .slice b2 x2.length c2] 39)).alloc (by simp only [World.size_alloc]; omega) (.cells #[.slice b1 x1.length c1, .slice b2 x2.length c2] 88); have hSr : ∀ b, S b → b < wr.heap.size := fun b hb => Nat.lt_of_lt_of_le (HS.out b hb) hwr; go_must (refine wpList_app _ rfl _ _ 30 rfl (e := pairT) (te := 88) info_rpair' Try.underlying30 rfl (by decide) (S := S) (v := .slice av lv cv) rfl (HO.out.below hal) (by simp only [World.size_alloc]; omega) rfl (ys := [pairD (x1, x2)]) (Src.of_cells (b := wr.heap.size + 1) (off := 0) (news := [.slice b1 x1.length c1, .slice b2 x2.length c2]) (fun j u hu => by rw [Nat.zero_add, blk_cell (alloc_new' (by simp))]; simpa using hu)) (RdL.one (e := pairT) (pair_rd (p := (x1, x2)) (HP.out.1.below hal hSr) (HP.out.2.below hal hSr))) (by simp only [List.length_map, List.length_take, List.length_cons, List.length_nil]; omega) (by simp only [List.length_map, List.length_take, List.length_cons, List.length_nil]; omega) ?_); intro v' w1 O1 g1 _ hob; obtain ⟨av', lv', cv', rfl, -⟩ := O1.slice; have HO1 := Lib.hid O1; have HG1 := Lib.hid g1; clear O1 g1 hob hal hSr)
      go_roundw
      case rel =>
        refine ⟨k + 1, av', lv', cv', HKL.out, by go_num, rfl, ?_, ((HB.out.alloc HB.out.size _).alloc (by have := HB.out.size; simp only [World.size_alloc]; omega) _).grown HG1.out (by have := HB.out.size; simp only [World.size_alloc]; omega) (fun c hc => (HO.out.own c hc).1)⟩
        rw [HTK.out, List.map_append]
        exact HO1.out
      case measure => have := HKL.out; simp [intOf]; try omega
    · obtain rfl : k = l.length := by omega
      have hkI : ¬ ((l.length : Nat) : Int) < (l.length : Int) := by omega
      have HO2 := Lib.hid (by have h := HO.out; rw [List.take_length] at h; exact h)
      clear hO hB hkl hk HO
      go_wp2_with fail
      go_ret
      exact ⟨_, rfl, HO2.out, HB.out⟩
theorem ref_neq (w : World) (x y : R2) : Sem.run Try.prog (binOp .neq 41 x.v y.v) w = .ok (.bool (!decide (x = y))) w := by
  obtain ⟨c, k⟩ := x
  obtain ⟨d, m⟩ := y
  have u3 := Try.underlying3
  have hS : Try.prog.underlying 41 = some (.struct (Try.prog.fieldsOf 41)) := by kernel_rfl
  have hp : Try.prog.stoodInHeld 41 = false := by kernel_rfl
  unfold R2.v
  rw [run_neq_struct, show (10000 : Nat) = 9999 + 1 from rfl, run_equalIn_agg w 9999 41 _ _ hS hp]
  simp only [Program.fieldsOf, Try.underlying41]
  go_simp
  by_cases h1 : c = d <;> by_cases h2 : k = m <;> simp [h1, h2]
theorem list_eq_of {α : Type} {a b : List α} (hl : a.length = b.length) (h : ∀ i (h1 : i < a.length) (h2 : i < b.length), a[i] = b[i]) : a = b := List.ext_getElem hl h
set_option maxHeartbeats 2000000 in
theorem sameRefs28 {S S2 : Nat → Prop} (w : World) (a : Option Addr) (c : Nat) (l : List R2) (h : Rd (.sl refT) S w [.slice a l.length c] (l.map R2.d)) (hS : ∀ b, S b → b < w.heap.size)
    (a2 : Option Addr) (c2 : Nat) (u : List R2) (h2 : Rd (.sl refT) S2 w [.slice a2 u.length c2] (u.map R2.d)) (hS2 : ∀ b, S2 b → b < w.heap.size) :
    Calls Try.prog 35 #[.slice a l.length c, .slice a2 u.length c2] w fun e w' => e = .returned (.bool (decide (l = u))) ∧ Below w.heap.size w w' := by
  have H := Lib.hid h
  have HS := Lib.hid hS
  have H2 := Lib.hid h2
  have HS2 := Lib.hid hS2
  have hlm : l.length ≤ 9223372036854775807 := Nat.le_trans ((rd_len h) ▸ h.sl_flat.2.1) h.sl_flat.2.2.1
  obtain ⟨rb, hrb⟩ : ∃ q, decide (l = u) = q := ⟨_, rfl⟩
  rw [hrb]
  have HRB := Lib.hid hrb
  clear h hS h2 hS2 hrb
  go_enter Try.func35, Try.ntmps35
  by_cases hlu : l.length = u.length
  case neg =>
    have hI : ((l.length : Int) == (u.length : Int)) = false := by simp; omega
    have hI2 : ¬ (l.length : Int) = (u.length : Int) := by omega
    have HF := Lib.hid (show rb = false from by rw [← HRB.out]; exact decide_eq_false (fun e => hlu (by rw [e])))
    go_wp2_with fail
    go_ret
    exact ⟨by rw [HF.out]; rfl, Below.refl _ _⟩
  have hI : (l.length : Int) = (u.length : Int) := by omega
  have HLU := Lib.hid hlu
  rw [← hlu] at H2 ⊢
  clear hlu hI
  go_wp2_with fail
  go_loopw [5] (fun iv wr => ∃ (k : Nat), k ≤ l.length ∧ iv = .int .i64 (k : Int) ∧ (∀ i (h1 : i < l.length) (h2 : i < u.length), i < k → l[i] = u[i]) ∧ Below w.heap.size w wr) (fun iv _ => l.length - (intOf iv).toNat)
  case atStart => exact ⟨0, Nat.zero_le _, rfl, fun i _ _ h => absurd h (by omega), Below.refl _ _⟩
  case round =>
    obtain ⟨k, hk, rfl, hne, hB⟩ := hrel
    have HB := Lib.hid hB
    have HNE := Lib.hid hne
    by_cases hkl : k < l.length
    · have hkI : (k : Int) < (l.length : Int) := by omega
      have hku : k < u.length := by have := HLU.out; omega
      obtain ⟨b, off, rfl, -, m0, m1, -⟩ := ref_at (H.out.below hB HS.out) k hkl
      obtain ⟨b2, off2, rfl, -, n0, n1, -⟩ := ref_at (H2.out.below hB HS2.out) k hku
      have HKL := Lib.hid hkl
      have HXY := Lib.hid (show ∀ i (h1 : i < l.length) (h2 : i < u.length), i = k → l[i] = l[k] ∧ u[i] = u[k] from fun i h1 h2 e => by subst e; exact ⟨rfl, rfl⟩)
      have HBAD := Lib.hid (show l[k] ≠ u[k] → rb = false from fun hn => by
        rw [← HRB.out]
        refine decide_eq_false (fun e => hn ?_)
        subst e; rfl)
      generalize l[k] = x at m0 m1 HXY HBAD
      generalize u[k] = y at n0 n1 HXY HBAD
      obtain ⟨xe, xl⟩ := x
      obtain ⟨ye, yl⟩ := y
      simp only at m0 m1 n0 n1
      obtain ⟨eb, heb⟩ : ∃ q, decide ((⟨xe, xl⟩ : R2) = ⟨ye, yl⟩) = q := ⟨_, rfl⟩
      have hev := fun w => ref_neq w ⟨xe, xl⟩ ⟨ye, yl⟩
      unfold R2.v at hev
      rw [heb] at hev
      simp only at hev
      have HEB := Lib.hid heb
      have hC0 : Cells [(⟨b, off + k * 2, none⟩, .int .i64 xe), (⟨b, off + k * 2 + 1, none⟩, .int .i64 xl), (⟨b2, off2 + k * 2, none⟩, .int .i64 ye), (⟨b2, off2 + k * 2 + 1, none⟩, .int .i64 yl)] wr := ⟨m0, m1, n0, n1, trivial⟩
      clear hB hne hkl hk m0 m1 n0 n1 heb
      go_wp2_with fail
      refine wp_region_T (Cells [(⟨b, off + k * 2, none⟩, .int .i64 xe), (⟨b, off + k * 2 + 1, none⟩, .int .i64 xl), (⟨b2, off2 + k * 2, none⟩, .int .i64 ye), (⟨b2, off2 + k * 2 + 1, none⟩, .int .i64 yl)]) (fun _ => false) (by kernel_rfl) ?_
      have hSss1 := Cells.drew hC0
      have hB_0_s1 : Below wr.heap.size wr wr.drew := below_drew _
      generalize wr.drew = s1 at hSss1 hB_0_s1 ⊢
      have hB_s1_s1 := Below.refl s1.heap.size s1
      refine wpAnyT_pure (i := 0) (v := ?_) rfl (by kernel_rfl) (by kernel_rfl) (by kernel_rfl) (fun _ _ _ h => h) (by rfl) ?_ ?_
      rotate_left
      · intro w; go_simp; try with_reducible rfl
      simp only [Act.put, rgA, rgB, rgC, rgD, rgE, rgF]
      refine wpAnyT_pure (i := 1) (v := ?_) rfl (by kernel_rfl) (by kernel_rfl) (by kernel_rfl) (fun _ _ _ h => h) (by rfl) ?_ ?_
      rotate_left
      · intro w; go_simp; try with_reducible rfl
      simp only [Act.put, rgA, rgB, rgC, rgD, rgE, rgF]
      refine wpAnyT_pure (i := 2) (v := ?_) rfl (by kernel_rfl) (by kernel_rfl) (by kernel_rfl) (fun _ _ _ h => h) (by rfl) ?_ ?_
      rotate_left
      · intro w; go_simp; try with_reducible rfl
      simp only [Act.put, rgA, rgB, rgC, rgD, rgE, rgF]
      refine wpAnyT_pure (i := 4) (v := ?_) rfl (by kernel_rfl) (by kernel_rfl) (by kernel_rfl) (fun _ _ _ h => h) (by rfl) ?_ ?_
      rotate_left
      · intro w; go_simp; try with_reducible rfl
      simp only [Act.put, rgA, rgB, rgC, rgD, rgE, rgF]
      refine wpAnyT_pure (i := 5) (v := ?_) rfl (by kernel_rfl) (by kernel_rfl) (by kernel_rfl) (fun _ _ _ h => h) (by rfl) ?_ ?_
      rotate_left
      · intro w; go_simp; try with_reducible rfl
      simp only [Act.put, rgA, rgB, rgC, rgD, rgE, rgF]
      refine wpAnyT_pure (i := 6) (v := ?_) rfl (by kernel_rfl) (by kernel_rfl) (by kernel_rfl) (fun _ _ _ h => h) (by rfl) ?_ ?_
      rotate_left
      · intro w; go_simp; try with_reducible rfl
      simp only [Act.put, rgA, rgB, rgC, rgD, rgE, rgF]
      refine wpAnyT_loadW (i := 3) (v := ?_) rfl (by kernel_rfl) (by kernel_rfl) (by kernel_rfl) (by kernel_rfl) (by kernel_rfl) (fun _ _ _ h => h) (Or.inl ⟨by rfl, ?_⟩) hSss1 ?_
      rotate_left
      · intro w hSw; obtain ⟨e0, e1, e2, e3, -⟩ := hSw; go_simp; try with_reducible rfl
      simp only [Act.put, rgA, rgB, rgC, rgD, rgE, rgF]
      refine wpAnyT_loadW (i := 7) (v := ?_) rfl (by kernel_rfl) (by kernel_rfl) (by kernel_rfl) (by kernel_rfl) (by kernel_rfl) (fun _ _ _ h => h) (Or.inl ⟨by rfl, ?_⟩) hSss1 ?_
      rotate_left
      · intro w hSw; obtain ⟨e0, e1, e2, e3, -⟩ := hSw; go_simp; try with_reducible rfl
      simp only [Act.put, rgA, rgB, rgC, rgD, rgE, rgF]
      refine wpAnyT_pure (i := 8) (v := ?_) rfl (by kernel_rfl) (by kernel_rfl) (by kernel_rfl) (fun _ _ _ h => h) (by rfl) ?_ ?_
      rotate_left
      · intro w; go_simp; try with_reducible rfl
      simp only [Act.put, rgA, rgB, rgC, rgD, rgE, rgF]
      refine wpAnyT_done (by kernel_rfl) ?_ _
      obtain ⟨wE, rfl⟩ : ∃ q, q = s1 := ⟨_, rfl⟩
      have HBE := Lib.hid (below_step HB.out hB_0_s1)
      cases eb with
      | false =>
        have HT := Lib.hid (HBAD.out (of_decide_eq_false HEB.out))
        go_wp2_with fail
        go_ret
        exact ⟨by rw [HT.out]; rfl, HBE.out⟩
      | true =>
        go_wp2_with fail
        go_roundw
        case rel =>
          refine ⟨k + 1, HKL.out, by go_num, ?_, HBE.out⟩
          intro i h1 h2 hi
          by_cases e : i = k
          · have h := HXY.out i h1 h2 e
            rw [h.1, h.2]; exact of_decide_eq_true HEB.out
          · exact HNE.out i h1 h2 (by omega)
        case measure => have := HKL.out; simp [intOf]; try omega
    · obtain rfl : k = l.length := by omega
      have hkI : ¬ ((l.length : Nat) : Int) < (l.length : Int) := by omega
      have HT := Lib.hid (show rb = true from by
        rw [← HRB.out]
        exact decide_eq_true (list_eq_of HLU.out (fun i h1 h2 => hne i h1 h2 h1)))
      clear hB hne hkl hk
      go_wp2_with fail
      go_ret
      exact ⟨by rw [HT.out]; rfl, HB.out⟩
set_option maxHeartbeats 4000000 in
theorem samePairs28 {S S2 : Nat → Prop} (w : World) (a : Option Addr) (c : Nat) (l : List P2) (h : Rd (.sl pairT) S w [.slice a l.length c] (l.map pairD)) (hS : ∀ b, S b → b < w.heap.size)
    (a2 : Option Addr) (c2 : Nat) (h2 : Rd (.sl pairT) S2 w [.slice a2 l.length c2] (l.map pairD)) (hS2 : ∀ b, S2 b → b < w.heap.size) :
    Calls Try.prog 13 #[.slice a l.length c, .slice a2 l.length c2] w fun e w' => e = .returned (.bool true) ∧ Below w.heap.size w w' := by
  have H := Lib.hid h
  have HS := Lib.hid hS
  have H2 := Lib.hid h2
  have HS2 := Lib.hid hS2
  have hlm : l.length ≤ 9223372036854775807 := Nat.le_trans ((rd_len h) ▸ h.sl_flat.2.1) h.sl_flat.2.2.1
  clear h hS h2 hS2
  go_enter Try.func13, Try.ntmps13
  go_wp2_with fail
  go_loopw [5] (fun iv wr => ∃ (k : Nat), k ≤ l.length ∧ iv = .int .i64 (k : Int) ∧ Below w.heap.size w wr) (fun iv _ => l.length - (intOf iv).toNat)
  case atStart => exact ⟨0, Nat.zero_le _, rfl, Below.refl _ _⟩
  case round =>
    obtain ⟨k, hk, rfl, hB⟩ := hrel
    have HB := Lib.hid hB
    by_cases hkl : k < l.length
    · have hkI : (k : Int) < (l.length : Int) := by omega
      obtain ⟨b, off, x1, d1, x2, d2, rfl, -, m0, m1, hp1, hp2⟩ := pair_at (H.out.below hB HS.out) k hkl
      obtain ⟨b', off', y1, e1, y2, e2, rfl, -, n0, n1, hq1, hq2⟩ := pair_at (H2.out.below hB HS2.out) k hkl
      have HKL := Lib.hid hkl
      generalize l[k] = p at m0 m1 hp1 hp2 n0 n1 hq1 hq2
      obtain ⟨p1, p2⟩ := p
      simp only at m0 m1 hp1 hp2 n0 n1 hq1 hq2
      have HP1 := Lib.hid hp1
      have HP2 := Lib.hid hp2
      have HQ1 := Lib.hid hq1
      have HQ2 := Lib.hid hq2
      have HSr := Lib.hid (show (∀ b, S b → b < wr.heap.size) ∧ (∀ b, S2 b → b < wr.heap.size) from ⟨fun b hb => Nat.lt_of_lt_of_le (HS.out b hb) hB.size, fun b hb => Nat.lt_of_lt_of_le (HS2.out b hb) hB.size⟩)
      have hC0 : Cells [(⟨b, off + k * 2, none⟩, .slice x1 p1.length d1), (⟨b, off + k * 2 + 1, none⟩, .slice x2 p2.length d2), (⟨b', off' + k * 2, none⟩, .slice y1 p1.length e1), (⟨b', off' + k * 2 + 1, none⟩, .slice y2 p2.length e2)] wr := ⟨m0, m1, n0, n1, trivial⟩
      clear hB hkl hk m0 m1 n0 n1 hp1 hp2 hq1 hq2
      go_wp2_with fail
      refine wp_region_T (Cells [(⟨b, off + k * 2, none⟩, .slice x1 p1.length d1), (⟨b, off + k * 2 + 1, none⟩, .slice x2 p2.length d2), (⟨b', off' + k * 2, none⟩, .slice y1 p1.length e1), (⟨b', off' + k * 2 + 1, none⟩, .slice y2 p2.length e2)]) (fun _ => false) (by kernel_rfl) ?_
      have hSss2 := Cells.drew hC0
      have hB_0_s2 : Below wr.heap.size wr wr.drew := below_drew _
      generalize wr.drew = s2 at hSss2 hB_0_s2 ⊢
      have hB_s2_s2 := Below.refl s2.heap.size s2
      refine wpAnyT_pure (i := 0) (v := ?_) rfl (by kernel_rfl) (by kernel_rfl) (by kernel_rfl) (fun _ _ _ h => h) (by rfl) ?_ ?_
      rotate_left
      · intro w; go_simp; try with_reducible rfl
      simp only [Act.put, rgA, rgB, rgC, rgD, rgE, rgF]
      refine wpAnyT_pure (i := 1) (v := ?_) rfl (by kernel_rfl) (by kernel_rfl) (by kernel_rfl) (fun _ _ _ h => h) (by rfl) ?_ ?_
      rotate_left
      · intro w; go_simp; try with_reducible rfl
      simp only [Act.put, rgA, rgB, rgC, rgD, rgE, rgF]
      refine wpAnyT_pure (i := 2) (v := ?_) rfl (by kernel_rfl) (by kernel_rfl) (by kernel_rfl) (fun _ _ _ h => h) (by rfl) ?_ ?_
      rotate_left
      · intro w; go_simp; try with_reducible rfl
      simp only [Act.put, rgA, rgB, rgC, rgD, rgE, rgF]
      refine wpAnyT_pure (i := 3) (v := ?_) rfl (by kernel_rfl) (by kernel_rfl) (by kernel_rfl) (fun _ _ _ h => h) (by rfl) ?_ ?_
      rotate_left
      · intro w; go_simp; try with_reducible rfl
      simp only [Act.put, rgA, rgB, rgC, rgD, rgE, rgF]
      refine wpAnyT_pure (i := 5) (v := ?_) rfl (by kernel_rfl) (by kernel_rfl) (by kernel_rfl) (fun _ _ _ h => h) (by rfl) ?_ ?_
      rotate_left
      · intro w; go_simp; try with_reducible rfl
      simp only [Act.put, rgA, rgB, rgC, rgD, rgE, rgF]
      refine wpAnyT_pure (i := 6) (v := ?_) rfl (by kernel_rfl) (by kernel_rfl) (by kernel_rfl) (fun _ _ _ h => h) (by rfl) ?_ ?_
      rotate_left
      · intro w; go_simp; try with_reducible rfl
      simp only [Act.put, rgA, rgB, rgC, rgD, rgE, rgF]
      refine wpAnyT_pure (i := 7) (v := ?_) rfl (by kernel_rfl) (by kernel_rfl) (by kernel_rfl) (fun _ _ _ h => h) (by rfl) ?_ ?_
      rotate_left
      · intro w; go_simp; try with_reducible rfl
      simp only [Act.put, rgA, rgB, rgC, rgD, rgE, rgF]
      refine wpAnyT_pure (i := 8) (v := ?_) rfl (by kernel_rfl) (by kernel_rfl) (by kernel_rfl) (fun _ _ _ h => h) (by rfl) ?_ ?_
      rotate_left
      · intro w; go_simp; try with_reducible rfl
      simp only [Act.put, rgA, rgB, rgC, rgD, rgE, rgF]
      refine wpAnyT_loadW (i := 4) (v := ?_) rfl (by kernel_rfl) (by kernel_rfl) (by kernel_rfl) (by kernel_rfl) (by kernel_rfl) (fun _ _ _ h => h) (Or.inl ⟨by rfl, ?_⟩) hSss2 ?_
      rotate_left
      · intro w hSw; obtain ⟨e0, e1, e2, e3, -⟩ := hSw; go_simp; try with_reducible rfl
      simp only [Act.put, rgA, rgB, rgC, rgD, rgE, rgF]
      refine wpAnyT_loadW (i := 9) (v := ?_) rfl (by kernel_rfl) (by kernel_rfl) (by kernel_rfl) (by kernel_rfl) (by kernel_rfl) (fun _ _ _ h => h) (Or.inl ⟨by rfl, ?_⟩) hSss2 ?_
      rotate_left
      · intro w hSw; obtain ⟨e0, e1, e2, e3, -⟩ := hSw; go_simp; try with_reducible rfl
      simp only [Act.put, rgA, rgB, rgC, rgD, rgE, rgF]
      refine wpAnyT_one (i := 10) (by kernel_rfl) rfl (by rfl) ?_
      have hbP : Below wr.heap.size wr s2 := hB_0_s2.trans ((hB_s2_s2).mono hB_0_s2.size)
      refine wp_enter (f := 35) (args := #[.slice x1 p1.length d1, .slice y1 p1.length e1]) (by go_simp) (sameRefs28 (S := S) (S2 := S2) s2 x1 d1 p1 (HP1.out.below hbP HSr.out.1) (fun b hb => Nat.lt_of_lt_of_le (HSr.out.1 b hb) hbP.size) y1 e1 p1 (HQ1.out.below hbP HSr.out.2) (fun b hb => Nat.lt_of_lt_of_le (HSr.out.2 b hb) hbP.size)) ?_
      rw [decide_eq_true rfl]
      rintro e w103 ⟨rfl, hX⟩
      clear hbP
      have hB_s2_w103 := below_step hB_s2_s2 hX
      have hB_w103_w103 := Below.refl w103.heap.size w103
      have hSsw103 := Cells.below hB_s2_w103 hSss2
      clear hX
      refine ⟨_, rfl, fun _ _ => hSsw103, ?_⟩
      try simp only [Act.put, rgA, rgB, rgC, rgD, rgE, rgF]
      refine wpAnyT_pure (i := 11) (v := ?_) rfl (by kernel_rfl) (by kernel_rfl) (by kernel_rfl) (fun _ _ _ h => h) (by rfl) ?_ ?_
      rotate_left
      · intro w; go_simp; try with_reducible rfl
      simp only [Act.put, rgA, rgB, rgC, rgD, rgE, rgF]
      refine wpAnyT_pure (i := 12) (v := ?_) rfl (by kernel_rfl) (by kernel_rfl) (by kernel_rfl) (fun _ _ _ h => h) (by rfl) ?_ ?_
      rotate_left
      · intro w; go_simp; try with_reducible rfl
      simp only [Act.put, rgA, rgB, rgC, rgD, rgE, rgF]
      refine wpAnyT_pure (i := 13) (v := ?_) rfl (by kernel_rfl) (by kernel_rfl) (by kernel_rfl) (fun _ _ _ h => h) (by rfl) ?_ ?_
      rotate_left
      · intro w; go_simp; try with_reducible rfl
      simp only [Act.put, rgA, rgB, rgC, rgD, rgE, rgF]
      refine wpAnyT_pure (i := 14) (v := ?_) rfl (by kernel_rfl) (by kernel_rfl) (by kernel_rfl) (fun _ _ _ h => h) (by rfl) ?_ ?_
      rotate_left
      · intro w; go_simp; try with_reducible rfl
      simp only [Act.put, rgA, rgB, rgC, rgD, rgE, rgF]
      refine wpAnyT_pure (i := 15) (v := ?_) rfl (by kernel_rfl) (by kernel_rfl) (by kernel_rfl) (fun _ _ _ h => h) (by rfl) ?_ ?_
      rotate_left
      · intro w; go_simp; try with_reducible rfl
      simp only [Act.put, rgA, rgB, rgC, rgD, rgE, rgF]
      refine wpAnyT_pure (i := 16) (v := ?_) rfl (by kernel_rfl) (by kernel_rfl) (by kernel_rfl) (fun _ _ _ h => h) (by rfl) ?_ ?_
      rotate_left
      · intro w; go_simp; try with_reducible rfl
      simp only [Act.put, rgA, rgB, rgC, rgD, rgE, rgF]
      refine wpAnyT_pure (i := 18) (v := ?_) rfl (by kernel_rfl) (by kernel_rfl) (by kernel_rfl) (fun _ _ _ h => h) (by rfl) ?_ ?_
      rotate_left
      · intro w; go_simp; try with_reducible rfl
      simp only [Act.put, rgA, rgB, rgC, rgD, rgE, rgF]
      refine wpAnyT_pure (i := 19) (v := ?_) rfl (by kernel_rfl) (by kernel_rfl) (by kernel_rfl) (fun _ _ _ h => h) (by rfl) ?_ ?_
      rotate_left
      · intro w; go_simp; try with_reducible rfl
      simp only [Act.put, rgA, rgB, rgC, rgD, rgE, rgF]
      refine wpAnyT_pure (i := 20) (v := ?_) rfl (by kernel_rfl) (by kernel_rfl) (by kernel_rfl) (fun _ _ _ h => h) (by rfl) ?_ ?_
      rotate_left
      · intro w; go_simp; try with_reducible rfl
      simp only [Act.put, rgA, rgB, rgC, rgD, rgE, rgF]
      refine wpAnyT_pure (i := 21) (v := ?_) rfl (by kernel_rfl) (by kernel_rfl) (by kernel_rfl) (fun _ _ _ h => h) (by rfl) ?_ ?_
      rotate_left
      · intro w; go_simp; try with_reducible rfl
      simp only [Act.put, rgA, rgB, rgC, rgD, rgE, rgF]
      refine wpAnyT_loadW (i := 17) (v := ?_) rfl (by kernel_rfl) (by kernel_rfl) (by kernel_rfl) (by kernel_rfl) (by kernel_rfl) (fun _ _ _ h => h) (Or.inl ⟨by rfl, ?_⟩) hSsw103 ?_
      rotate_left
      · intro w hSw; obtain ⟨e0, e1, e2, e3, -⟩ := hSw; go_simp; try with_reducible rfl
      simp only [Act.put, rgA, rgB, rgC, rgD, rgE, rgF]
      refine wpAnyT_loadW (i := 22) (v := ?_) rfl (by kernel_rfl) (by kernel_rfl) (by kernel_rfl) (by kernel_rfl) (by kernel_rfl) (fun _ _ _ h => h) (Or.inl ⟨by rfl, ?_⟩) hSsw103 ?_
      rotate_left
      · intro w hSw; obtain ⟨e0, e1, e2, e3, -⟩ := hSw; go_simp; try with_reducible rfl
      simp only [Act.put, rgA, rgB, rgC, rgD, rgE, rgF]
      refine wpAnyT_one (i := 23) (by kernel_rfl) rfl (by rfl) ?_
      have hbP : Below wr.heap.size wr w103 := hB_0_s2.trans ((hB_s2_w103).mono hB_0_s2.size)
      refine wp_enter (f := 35) (args := #[.slice x2 p2.length d2, .slice y2 p2.length e2]) (by go_simp) (sameRefs28 (S := S) (S2 := S2) w103 x2 d2 p2 (HP2.out.below hbP HSr.out.1) (fun b hb => Nat.lt_of_lt_of_le (HSr.out.1 b hb) hbP.size) y2 e2 p2 (HQ2.out.below hbP HSr.out.2) (fun b hb => Nat.lt_of_lt_of_le (HSr.out.2 b hb) hbP.size)) ?_
      rw [decide_eq_true rfl]
      rintro e w104 ⟨rfl, hX⟩
      clear hbP
      have hB_s2_w104 := below_step hB_s2_w103 hX
      have hB_w103_w104 := below_step hB_w103_w103 hX
      have hB_w104_w104 := Below.refl w104.heap.size w104
      have hSsw104 := Cells.below hB_s2_w104 hSss2
      clear hX
      refine ⟨_, rfl, fun _ _ => hSsw104, ?_⟩
      try simp only [Act.put, rgA, rgB, rgC, rgD, rgE, rgF]
      refine wpAnyT_pure (i := 24) (v := ?_) rfl (by kernel_rfl) (by kernel_rfl) (by kernel_rfl) (fun _ _ _ h => h) (by rfl) ?_ ?_
      rotate_left
      · intro w; go_simp; try with_reducible rfl
      simp only [Act.put, rgA, rgB, rgC, rgD, rgE, rgF]
      refine wpAnyT_pure (i := 25) (v := ?_) rfl (by kernel_rfl) (by kernel_rfl) (by kernel_rfl) (fun _ _ _ h => h) (by rfl) ?_ ?_
      rotate_left
      · intro w; go_simp; try with_reducible rfl
      simp only [Act.put, rgA, rgB, rgC, rgD, rgE, rgF]
      refine wpAnyT_done (by kernel_rfl) ?_ _
      have HBE := Lib.hid (show Below wr.heap.size wr w104 from hB_0_s2.trans ((hB_s2_w104).mono hB_0_s2.size))
      obtain ⟨wE, rfl⟩ : ∃ q, q = w104 := ⟨_, rfl⟩
      go_wp2_with fail
      go_roundw
      case rel => exact ⟨k + 1, HKL.out, by go_num, below_step HB.out HBE.out⟩
      case measure => have := HKL.out; simp [intOf]; try omega
    · obtain rfl : k = l.length := by omega
      have hkI : ¬ ((l.length : Nat) : Int) < (l.length : Int) := by omega
      clear hB hkl hk
      go_wp2_with fail
      go_ret
      exact ⟨rfl, HB.out⟩
end Go.Proofs.Ytpobckedeffjmaa

/- Layer 28: MatchPropose. -/
set_option linter.unusedSimpArgs false
set_option maxRecDepth 50000
namespace Go.Proofs.Ytpobckedeffjmaa
open Go.RowKit Go

theorem propM_len (l r : List O3) (tol : Int) (hl : l.length ≤ 12) (hr : r.length ≤ 12) : (propM l r tol).1.length ≤ 1000 := by
  unfold propM
  split
  · simp
  · split
    · simp
    · have := st3_len l r tol; show (st3 l r tol).out.length ≤ _; omega
set_option maxHeartbeats 4000000 in
theorem proposeWalk28 (w : World) (c0 : List Value) (xs : (Ty.sl openT).den) (r0 : Rd (.sl openT) (fun b => b < w.heap.size) w c0 xs) (c1 : List Value) (ys : (Ty.sl openT).den) (r1 : Rd (.sl openT) (fun b => b < w.heap.size) w c1 ys) (c2 : List Value) (n : (Ty.int .i64).den) (r2 : Rd (.int .i64) (fun b => b < w.heap.size) w c2 n) :
    Calls Try.prog 3 #[valOf (.sl openT) c0, valOf (.sl openT) c1, valOf (.int .i64) c2] w fun e w' => e = .returned (.bool true) ∧ Below w.heap.size w w' := by
  obtain ⟨a0, k0, rfl, h0⟩ := rd_opens r0
  obtain ⟨a1, k1, rfl, h1⟩ := rd_opens r1
  change Int at n
  obtain ⟨rfl, hn⟩ := r2
  simp only [valOf, List.headD_cons]
  clear r0 r1
  generalize xs.map o3 = l at h0 ⊢
  generalize ys.map o3 = r at h1 ⊢
  clear xs ys
  have hlm : l.length ≤ 9223372036854775807 := Nat.le_trans ((rd_len h0) ▸ h0.sl_flat.2.1) h0.sl_flat.2.2.1
  have hrm : r.length ≤ 9223372036854775807 := Nat.le_trans ((rd_len h1) ▸ h1.sl_flat.2.1) h1.sl_flat.2.2.1
  have H0 := Lib.hid h0
  have H1 := Lib.hid h1
  clear h0 h1 hn
  go_enter Try.func3, Try.ntmps3
  go_wp2_with fail
  refine (awake28 w).mono ?_
  rintro e w1 ⟨rfl, hB1⟩
  have HB1 := Lib.hid hB1
  clear hB1
  by_cases hl : l.length ≤ 12
  case neg =>
    have hI : (12 : Int) < (l.length : Int) := by omega
    go_wp2_with (go_at_call 9; refine (awake28 _).mono ?_; rintro e w2 ⟨rfl, hB2⟩; have HB2 := Lib.hid (below_step HB1.out hB2); clear hB2)
    go_ret
    exact ⟨rfl, HB2.out⟩
  have hlI : ¬ (12 : Int) < (l.length : Int) := by omega
  by_cases hr : r.length ≤ 12
  case neg =>
    have hI : (12 : Int) < (r.length : Int) := by omega
    go_wp2_with (go_at_call 9; refine (awake28 _).mono ?_; rintro e w2 ⟨rfl, hB2⟩; have HB2 := Lib.hid (below_step HB1.out hB2); clear hB2)
    go_ret
    exact ⟨rfl, HB2.out⟩
  have hrI : ¬ (12 : Int) < (r.length : Int) := by omega
  go_wp2_with fail
  have hA0 := H0.out.below HB1.out (fun b hb => hb)
  refine (to28 w1 a0 k0 l (by omega) hA0 (fun b hb => Nat.lt_of_lt_of_le hb HB1.out.size)).mono ?_
  rintro e w2 ⟨v2, rfl, hO2, hB2⟩
  obtain ⟨p2, n2, q2, rfl, hn2, -⟩ := hO2.slice
  rw [List.length_map] at hn2
  subst hn2
  have HO2 := Lib.hid hO2
  have HB2 := Lib.hid (below_step HB1.out hB2)
  clear hO2 hB2 hA0
  go_wp2_with fail
  have hA1 := H1.out.below HB2.out (fun b hb => hb)
  refine (to28 w2 a1 k1 r (by omega) hA1 (fun b hb => Nat.lt_of_lt_of_le hb HB2.out.size)).mono ?_
  rintro e w3 ⟨v3, rfl, hO3, hB3⟩
  obtain ⟨p3, n3, q3, rfl, hn3, -⟩ := hO3.slice
  rw [List.length_map] at hn3
  subst hn3
  have HL3 := Lib.hid ((HO2.out.below hB3).rd (fun b => b < w3.heap.size) (fun _ h => h.elim) (fun b hb => by have := (HO2.out.own b hb).2; have := hB3.size; omega))
  have HR3 := Lib.hid (hO3.rd (fun b => b < w3.heap.size) (fun _ h => h.elim) (fun b hb => (hO3.own b hb).2))
  have HB3 := Lib.hid (below_step HB2.out hB3)
  clear hO3 hB3 hA1
  go_wp2_with fail
  have HPL := Lib.hid (propM_len l r n hl hr)
  have HPP := Lib.hid (propose28 w3 p2 q2 l p3 q3 r n HL3.out HR3.out (fun b hb => hb))
  have HRF := Lib.hid (fun (W : World) (hB : Below w.heap.size w W) => rpropose28 W a0 k0 l a1 k1 r n hl hr (H0.out.below hB (fun b hb => hb)) (H1.out.below hB (fun b hb => hb)) (fun b hb => Nat.lt_of_lt_of_le hb hB.size))
  generalize propM l r n = pm at HPL HPP HRF
  obtain ⟨out, er⟩ := pm
  simp only at HPL HPP HRF
  refine HPP.out.mono ?_
  rintro e w4 ⟨v4, rfl, hR4, hB4⟩
  have HB4 := Lib.hid (below_step HB3.out hB4)
  obtain ⟨p4, n4, q4, hv4, -⟩ := id hR4
  simp only [List.cons.injEq, and_true] at hv4
  subst hv4
  have hn4 := rd_len hR4
  subst hn4
  have HR4 := Lib.hid hR4
  clear hR4 hB4 HPP
  go_wp2_with fail
  refine (HRF.out w4 HB4.out).mono ?_
  rintro e w5 ⟨v5, rfl, hR5, hB5⟩
  have HB5 := Lib.hid (below_step HB4.out hB5)
  obtain ⟨p5, n5, q5, hv5, -⟩ := id hR5
  simp only [List.cons.injEq, and_true] at hv5
  subst hv5
  have hn5 := rd_len hR5
  subst hn5
  have HR5 := Lib.hid hR5
  have HR4' := Lib.hid (HR4.out.below hB5 (fun b hb => hb.2))
  have hs5 := hB5.size
  clear hR5 hB5 HRF
  go_wp2_with fail
  refine (from28 (S := fun b => w3.heap.size ≤ b ∧ b < w4.heap.size) w5 p4 q4 out HPL.out HR4'.out (fun b hb => by have := hb.2; omega)).mono ?_
  rintro e w6 ⟨v6, rfl, hO6, hB6⟩
  have HB6 := Lib.hid (below_step HB5.out hB6)
  obtain ⟨p6, n6, q6, rfl, hn6, -⟩ := hO6.slice
  rw [List.length_map] at hn6
  subst hn6
  have hs6 := hB6.size
  have HR6 := Lib.hid (hO6.rd (fun b => b < w6.heap.size) (fun b hb => by have := hb.2; omega) (fun b hb => (hO6.own b hb).2))
  have HR5' := Lib.hid (HR5.out.below hB6 (fun b hb => hb.2))
  clear hO6 hB6
  go_wp2_with fail
  refine (samePairs28 w6 p6 q6 out HR6.out (fun b hb => hb) p5 q5 HR5'.out (fun b hb => by have := hb.2; omega)).mono ?_
  rintro e w7 ⟨rfl, hB7⟩
  have HB7 := Lib.hid (below_step HB6.out hB7)
  clear hB7
  go_wp2_with fail
  go_ret
  exact ⟨rfl, HB7.out⟩
end Go.Proofs.Ytpobckedeffjmaa
