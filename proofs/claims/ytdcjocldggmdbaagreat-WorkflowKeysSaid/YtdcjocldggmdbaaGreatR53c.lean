/- Layer 53: the reference's before. -/
import Derived.Test.YtdcjocldggmdbaaGreatR53b
set_option linter.unusedSimpArgs false
set_option maxRecDepth 50000
namespace Go.Proofs.YtdcjocldggmdbaaGreat
open Go.RowKit Go

set_option maxHeartbeats 1000000 in
theorem rbefore53 {S : Nat → Prop} (w : World) (ne np : Int) (ts : List Tk) (sg : List Sg) (sa : Option Addr) (sl sc : Nat) (ga : Option Addr) (gl gc : Nat) (xs : List taskT.den) (h : RfW S w ts sg sa sl sc ga gl gc xs) (a b : Ky) (ha : plc ts a.task < ts.length) (hb : plc ts b.task < ts.length) :
    Calls Tryz.prog 31 #[rwV ne np sa sl sc ga gl gc, a.v, b.v] w fun e w' => e = .returned (.bool (ltK ts a b)) ∧ Below w.heap.size w w' := by
  have HA := Lib.hid (fun (h : a.per ≠ b.per) => ltK_per (ts := ts) h)
  have HT := Lib.hid (fun (h : a.per = b.per) (hn : a.task ≠ b.task) => ltK_task h ha hb hn)
  have HE := Lib.hid (fun (h : a.per = b.per) (hn : a.task = b.task) => ltK_ent (ts := ts) h hn)
  generalize ltK ts a b = r at HA HT HE ⊢
  obtain ⟨a1, a2, a3⟩ := a
  obtain ⟨b1, b2, b3⟩ := b
  simp only at HA HT HE
  unfold Ky.v
  simp only
  have hB := (Below.refl w.heap.size w).alloc (Nat.le_refl _) (rwO ne np sa sl sc ga gl gc)
  have hB := hB.alloc hB.size (.cells #[.string a1, .int .i64 a2, .int .i64 a3] 27)
  have hB := hB.alloc hB.size (.cells #[.string b1, .int .i64 b2, .int .i64 b3] 27)
  have HX := Lib.hid (h.below hB)
  have HB1 := Lib.hid hB
  have hp := heap_alloc_new w (rwO ne np sa sl sc ga gl gc)
  have hk := heap_alloc2_old (w.alloc (rwO ne np sa sl sc ga gl gc)) (.cells #[.string a1, .int .i64 a2, .int .i64 a3] 27) (.cells #[.string b1, .int .i64 b2, .int .i64 b3] 27)
  have hk2 := heap_alloc2_new (w.alloc (rwO ne np sa sl sc ga gl gc)) (.cells #[.string a1, .int .i64 a2, .int .i64 a3] 27) (.cells #[.string b1, .int .i64 b2, .int .i64 b3] 27)
  have hBp : Below (w.alloc (rwO ne np sa sl sc ga gl gc)).heap.size (w.alloc (rwO ne np sa sl sc ga gl gc)) (((w.alloc (rwO ne np sa sl sc ga gl gc)).alloc (.cells #[.string a1, .int .i64 a2, .int .i64 a3] 27)).alloc (.cells #[.string b1, .int .i64 b2, .int .i64 b3] 27)) := ((Below.refl _ _).alloc (Nat.le_refl _) _).alloc (by simp) _
  have hpp := (hBp.block _ (blk_lt hp)).trans hp
  rw [World.size_alloc] at hk hk2
  have HP := Lib.hid hpp
  have HKA := Lib.hid hk
  have HKB := Lib.hid hk2
  clear h hB hp hk hk2 hBp hpp
  go_enter Tryz.func31, Tryz.ntmps31
  obtain ⟨w1, hw1⟩ : ∃ x, x = ((w.alloc (rwO ne np sa sl sc ga gl gc)).alloc (.cells #[.string a1, .int .i64 a2, .int .i64 a3] 27)).alloc (.cells #[.string b1, .int .i64 b2, .int .i64 b3] 27) := ⟨_, rfl⟩
  rw [← hw1] at HX HB1 HP HKA HKB
  have x2 := blk_cell HP.out 2
  have p0 := blk_cell HKA.out 0
  have p1 := blk_cell HKA.out 1
  have p2 := blk_cell HKA.out 2
  have q0 := blk_cell HKB.out 0
  have q1 := blk_cell HKB.out 1
  have q2 := blk_cell HKB.out 2
  simp at x2 p0 p1 p2 q0 q1 q2
  have HW1 := Lib.hid hw1
  clear hw1
  by_cases h1 : a3 = b3
  · by_cases h2 : a1 = b1
    · have hs : (a1.toList == b1.toList) = true := by rw [strB]; exact decide_eq_true h2
      have HR := Lib.hid (HE.out h1 h2)
      have H1 := Lib.hid h1
      clear h2
      subst h1
      go_wp2_with fail
      rw [← HW1.out]
      go_ret
      exact ⟨by show Ending.returned (.bool (decide (a2 < b2))) = _; rw [HR.out], HB1.out⟩
    · have hs : (a1.toList == b1.toList) = false := by rw [strB]; exact decide_eq_false h2
      have HR := Lib.hid (HT.out h1 h2)
      have HC1 := Lib.hid (fun W (hB : Below w1.heap.size w1 W) => rplace53 W sa sl sc xs (HX.out.below hB).rt a1)
      have HC2 := Lib.hid (fun W (hB : Below w1.heap.size w1 W) => rplace53 W sa sl sc xs (HX.out.below hB).rt b1)
      rw [HX.out.ht] at HC1 HC2
      clear h2
      subst h1
      have hC0 : Cells [(⟨w.heap.size, 2, none⟩, .slice sa sl sc), (⟨w.heap.size + 1, 0, none⟩, .string a1), (⟨w.heap.size + 1 + 1, 0, none⟩, .string b1)] w1 := ⟨x2, p0, q0, trivial⟩
      clear x2 p0 p1 p2 q0 q1 q2
      go_wp2_with fail
      rw [← HW1.out]
      refine wp_region_T (Cells [(⟨w.heap.size, 2, none⟩, .slice sa sl sc), (⟨w.heap.size + 1, 0, none⟩, .string a1), (⟨w.heap.size + 1 + 1, 0, none⟩, .string b1)]) (fun _ => false) (by kernel_rfl) ?_
      have hSss1 := Cells.drew hC0
      have hB_0_s1 : Below w1.heap.size w1 w1.drew := below_drew _
      generalize w1.drew = s1 at hSss1 hB_0_s1 ⊢
      have hB_s1_s1 := Below.refl s1.heap.size s1
      refine wpAnyT_pure (i := 0) (v := ?_) rfl (by kernel_rfl) (by kernel_rfl) (by kernel_rfl) (fun _ _ _ h => h) (by rfl) ?_ ?_
      rotate_left
      · intro w; go_simp; try with_reducible rfl
      simp only [Act.put, rgA, rgB, rgC, rgD, rgE, rgF]
      refine wpAnyT_pure (i := 2) (v := ?_) rfl (by kernel_rfl) (by kernel_rfl) (by kernel_rfl) (fun _ _ _ h => h) (by rfl) ?_ ?_
      rotate_left
      · intro w; go_simp; try with_reducible rfl
      simp only [Act.put, rgA, rgB, rgC, rgD, rgE, rgF]
      refine wpAnyT_pure (i := 5) (v := ?_) rfl (by kernel_rfl) (by kernel_rfl) (by kernel_rfl) (fun _ _ _ h => h) (by rfl) ?_ ?_
      rotate_left
      · intro w; go_simp; try with_reducible rfl
      simp only [Act.put, rgA, rgB, rgC, rgD, rgE, rgF]
      refine wpAnyT_pure (i := 7) (v := ?_) rfl (by kernel_rfl) (by kernel_rfl) (by kernel_rfl) (fun _ _ _ h => h) (by rfl) ?_ ?_
      rotate_left
      · intro w; go_simp; try with_reducible rfl
      simp only [Act.put, rgA, rgB, rgC, rgD, rgE, rgF]
      refine wpAnyT_loadW (i := 1) (v := ?_) rfl (by kernel_rfl) (by kernel_rfl) (by kernel_rfl) (by kernel_rfl) (by kernel_rfl) (fun _ _ _ h => h) (Or.inl ⟨by rfl, ?_⟩) hSss1 ?_
      rotate_left
      · intro w hSw; obtain ⟨e0, e1, e2, -⟩ := hSw; go_simp; try with_reducible rfl
      simp only [Act.put, rgA, rgB, rgC, rgD, rgE, rgF]
      refine wpAnyT_loadW (i := 3) (v := ?_) rfl (by kernel_rfl) (by kernel_rfl) (by kernel_rfl) (by kernel_rfl) (by kernel_rfl) (fun _ _ _ h => h) (Or.inl ⟨by rfl, ?_⟩) hSss1 ?_
      rotate_left
      · intro w hSw; obtain ⟨e0, e1, e2, -⟩ := hSw; go_simp; try with_reducible rfl
      simp only [Act.put, rgA, rgB, rgC, rgD, rgE, rgF]
      refine wpAnyT_loadW (i := 6) (v := ?_) rfl (by kernel_rfl) (by kernel_rfl) (by kernel_rfl) (by kernel_rfl) (by kernel_rfl) (fun _ _ _ h => h) (Or.inl ⟨by rfl, ?_⟩) hSss1 ?_
      rotate_left
      · intro w hSw; obtain ⟨e0, e1, e2, -⟩ := hSw; go_simp; try with_reducible rfl
      simp only [Act.put, rgA, rgB, rgC, rgD, rgE, rgF]
      refine wpAnyT_loadW (i := 8) (v := ?_) rfl (by kernel_rfl) (by kernel_rfl) (by kernel_rfl) (by kernel_rfl) (by kernel_rfl) (fun _ _ _ h => h) (Or.inl ⟨by rfl, ?_⟩) hSss1 ?_
      rotate_left
      · intro w hSw; obtain ⟨e0, e1, e2, -⟩ := hSw; go_simp; try with_reducible rfl
      simp only [Act.put, rgA, rgB, rgC, rgD, rgE, rgF]
      refine wpAnyT_one (i := 4) (by kernel_rfl) rfl (by rfl) ?_
      refine wp_enter (f := 49) (args := #[.slice sa sl sc, .string a1]) (by go_simp) (HC1.out _ (hB_0_s1.trans ((hB_s1_s1).mono (hB_0_s1).size))) ?_
      rintro e w5 ⟨rfl, hw5⟩
      subst hw5
      refine ⟨_, rfl, fun _ h => h, ?_⟩
      try simp only [Act.put, rgA, rgB, rgC, rgD, rgE, rgF]
      refine wpAnyT_one (i := 9) (by kernel_rfl) rfl (by rfl) ?_
      refine wp_enter (f := 49) (args := #[.slice sa sl sc, .string b1]) (by go_simp) (HC2.out _ (hB_0_s1.trans ((hB_s1_s1).mono (hB_0_s1).size))) ?_
      rintro e w6 ⟨rfl, hw6⟩
      subst hw6
      refine ⟨_, rfl, fun _ h => h, ?_⟩
      try simp only [Act.put, rgA, rgB, rgC, rgD, rgE, rgF]
      refine wpAnyT_pure (i := 10) (v := ?_) rfl (by kernel_rfl) (by kernel_rfl) (by kernel_rfl) (fun _ _ _ h => h) (by rfl) ?_ ?_
      rotate_left
      · intro w; go_simp; try with_reducible rfl
      simp only [Act.put, rgA, rgB, rgC, rgD, rgE, rgF]
      refine wpAnyT_pure (i := 11) (v := ?_) rfl (by kernel_rfl) (by kernel_rfl) (by kernel_rfl) (fun _ _ _ h => h) (by rfl) ?_ ?_
      rotate_left
      · intro w; go_simp; try with_reducible rfl
      simp only [Act.put, rgA, rgB, rgC, rgD, rgE, rgF]
      refine wpAnyT_done (by kernel_rfl) ?_ _
      have HBP := Lib.hid (below_step HB1.out (hB_0_s1.trans ((hB_s1_s1).mono (hB_0_s1).size)))
      go_wp2_with fail
      go_ret
      exact ⟨by show Ending.returned (.bool (decide (plcI ts a1 < plcI ts b1))) = _; rw [HR.out], HBP.out⟩
  · have HR := Lib.hid (HA.out h1)
    have h1b : (a3 == b3) = false := by simp [h1]
    go_wp2_with fail
    rw [← HW1.out]
    go_ret
    exact ⟨by show Ending.returned (.bool (decide (a3 < b3))) = _; rw [HR.out], HB1.out⟩
end Go.Proofs.YtdcjocldggmdbaaGreat
