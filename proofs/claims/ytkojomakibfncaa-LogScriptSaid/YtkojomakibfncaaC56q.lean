/- Layer 56: Truncate. -/
import Derived.Test.YtkojomakibfncaaC56c
set_option linter.unusedSimpArgs false
namespace Go.Proofs.Ytkojomakibfncaa
open Go.RowKit Go

theorem linksI_take (rs : List (List Int)) (k : Nat) (hk : k ≤ rs.length) : linksI (rs.take k) = (linksI rs).take k := by
  unfold linksI linksN
  rw [← List.map_take, List.take_range, List.length_take, Nat.min_eq_left hk]
  refine List.map_congr_left fun j hj => ?_
  have hj' : j < k := by simpa [hk] using hj
  rw [List.take_take, Nat.min_eq_left (by omega)]

theorem trunc_done (F : Nat → Prop) (W X1 X2 : World) (p : Nat) (rs : List (List Int)) (n : Nat) (hn : n ≤ rs.length) (v1 v2 u1 u2 : Value) (S1 : Nat → Prop)
    (hlt : ∀ b, F b → b < W.heap.size) (hp : F p) (hm : W.heap[p]? = some (.cells #[v1, v2] 65 (0, 0)))
    (d : (∀ b, S1 b → F b ∧ b ≠ p ∧ v2.ownBlock ≠ some b) ∧ (∀ b, v1.ownBlock = some b → F b ∧ b ≠ p ∧ v2.ownBlock ≠ some b) ∧ (∀ b, v2.ownBlock = some b → F b ∧ b ≠ p))
    (q1 : Owns rowT 22 W.heap.size (fun b => S1 b ∨ v1.ownBlock = some b) X1 u1 (rs.take n)) (b1 : Below W.heap.size W X1)
    (q2 : Owns (.int .u64) 44 X1.heap.size (fun _ => False) X2 u2 ((linksI rs).take n)) (b2 : Below X1.heap.size X1 X2) :
    X2.cell? ⟨p, 0, none⟩ = some v1 ∧ X2.cell? ⟨p, 1, none⟩ = some v2 ∧ X2.frozen? ⟨p, 0, none⟩ = false ∧ X2.frozen? ⟨p, 1, none⟩ = false ∧
      ∃ F', LogIn F' ((X2.setCell ⟨p, 0, none⟩ u1).setCell ⟨p, 1, none⟩ u2) p (rs.take n) ∧ (∀ b, F' b → F b ∨ W.heap.size ≤ b) ∧ Gr F W ((X2.setCell ⟨p, 0, none⟩ u1).setCell ⟨p, 1, none⟩ u2) := by
  obtain ⟨d1, d2, d3⟩ := d
  have b12 := below_step b1 b2
  have hpX := blk_gr (Gr.of_below (F := fun _ => False) b12) hm (fun h => h)
  have hpW := blk_lt hm
  have hs1 := b1.size
  have hs2 := b2.size
  have gS : Gr (fun b => b = p) X2 ((X2.setCell ⟨p, 0, none⟩ u1).setCell ⟨p, 1, none⟩ u2) := ((Gr.refl (fun b => b = p) X2).setCell (p := ⟨p, 0, none⟩) (.inl rfl) u1).setCell (p := ⟨p, 1, none⟩) (.inl rfl) u2
  have hS : ∀ b, S1 b ∨ v1.ownBlock = some b → F b ∧ b ≠ p ∧ b < W.heap.size := fun b hb => by
    rcases hb with hb | hb
    · exact ⟨(d1 b hb).1, (d1 b hb).2.1, hlt b (d1 b hb).1⟩
    · exact ⟨(d2 b hb).1, (d2 b hb).2.1, hlt b (d2 b hb).1⟩
  have o1 := q1.below b2
  have hu1 := q1.own
  have hu2 := q2.own
  refine ⟨blk_cell hpX 0, blk_cell hpX 1, blk_frozen hpX 0, blk_frozen hpX 1, fun b => (F b ∨ W.heap.size ≤ b) ∧ b < X2.heap.size, ?_, fun b hb => hb.1, ?_⟩
  · refine ⟨fun b hb => Nat.lt_of_lt_of_le hb.2 gS.size, ⟨.inl hp, blk_lt hpX⟩, u1, u2, fun b => S1 b ∨ v1.ownBlock = some b, blk_set (blk_set hpX u1) u2, ?_, ?_, ?_, ?_, ?_⟩
    · exact (o1.base (Nat.zero_le _)).gr gS (fun b hb => (hS b hb).2.1) (fun b hb e => by have := (hu1 b hb).1; omega)
    · rw [linksI_take rs n hn]
      exact (q2.base (Nat.zero_le _)).gr gS (fun _ h => h.elim) (fun b hb e => by have := (hu2 b hb).1; omega)
    · exact fun b hb => ⟨⟨.inl (hS b hb).1, by have := (hS b hb).2.2; omega⟩, (hS b hb).2.1, fun e => by have := (hu2 b e).1; have := (hS b hb).2.2; omega⟩
    · exact fun b hb => ⟨⟨.inr (hu1 b hb).1, by have := (hu1 b hb).2; omega⟩, by have := (hu1 b hb).1; omega, fun e => by have := (hu2 b e).1; have := (hu1 b hb).2; omega⟩
    · exact fun b hb => ⟨⟨.inr (by have := (hu2 b hb).1; omega), (hu2 b hb).2⟩, by have := (hu2 b hb).1; omega⟩
  · exact (Gr.of_below b12).trans gS (fun b hb => .inl (by rw [hb]; exact hp))

theorem truncate_bad (F : Nat → Prop) (w : World) (p : Nat) (n : Int) (rs : List (List Int)) (h : LogIn F w p rs) (hn : n < 0 ∨ (rs.length : Int) < n) :
    Calls Try.prog 24 #[.pointer (some ⟨p, 0, none⟩), .int .i64 n] w fun e w' => e = .returned (.int .i64 2) ∧ w' = w := by
  obtain ⟨a1, c1, a2, c2, k1, k2, f1, f2, r1, r2⟩ := h.open_
  clear h k2 f1 f2 r1 r2
  by_cases h0 : n < 0
  · have hd0 : decide (n < 0) = true := by simp [h0]
    go_enter Try.func24, Try.ntmps24
    go_wp2
    go_ret
    exact ⟨rfl, rfl⟩
  · have hd0 : decide (n < 0) = false := by simp [h0]
    have hd1 : decide ((rs.length : Int) < n) = true := by simp; omega
    go_enter Try.func24, Try.ntmps24
    go_wp2
    all_goals
      go_ret
      exact ⟨rfl, rfl⟩

set_option maxHeartbeats 4000000 in
theorem truncate_sum (F : Nat → Prop) (w : World) (p n : Nat) (rs : List (List Int)) (h : LogIn F w p rs) (hnR : n ≤ rs.length) (hR : rs.length ≤ 1000000) :
    Calls Try.prog 24 #[.pointer (some ⟨p, 0, none⟩), .int .i64 n] w fun e w' => e = .returned (.int .i64 0) ∧ ∃ F', LogIn F' w' p (rs.take n) ∧ (∀ b, F' b → F b ∨ w.heap.size ≤ b) ∧ Gr F w w' := by
  obtain ⟨a1, c1, a2, c2, k1, k2, f1, f2, r1, r2⟩ := h.open_
  have H := Lib.hid h
  have hd0 : decide ((n : Int) < 0) = false := by simp
  have hd1 : decide ((rs.length : Int) < (n : Int)) = false := by simp; omega
  clear h f1 f2 r1 r2
  go_enter Try.func24, Try.ntmps24
  go_wp2_with fail
  have hL : LogIn F w.drew p rs := H.out.below (below_drew _)
  have hBW : Below w.heap.size w w.drew := below_drew w
  refine wp_region_T (fun w' => w'.cell? ⟨p, 0, none⟩ = some (.slice a1 rs.length c1) ∧ w'.cell? ⟨p, 1, none⟩ = some (.slice a2 rs.length c2)) (fun i => i == 18 || i == 21) (by kernel_rfl) ?_
  have hS0 : w.drew.cell? ⟨p, 0, none⟩ = some (.slice a1 rs.length c1) ∧ w.drew.cell? ⟨p, 1, none⟩ = some (.slice a2 rs.length c2) := ⟨k1, k2⟩
  generalize w.drew = W at *
  obtain ⟨hlt, hp, v1, v2, S1, m1, O1, O2, d1, d2, d3⟩ := hL
  obtain rfl : v1 = .slice a1 rs.length c1 := by have h := blk_cell m1 0; rw [hS0.1] at h; simpa using h.symm
  obtain rfl : v2 = .slice a2 rs.length c2 := by have h := blk_cell m1 1; rw [hS0.2] at h; simpa using h.symm
  obtain ⟨v1, hv1⟩ : ∃ v, v = Value.slice a1 rs.length c1 := ⟨_, rfl⟩
  obtain ⟨v2, hv2⟩ : ∃ v, v = Value.slice a2 rs.length c2 := ⟨_, rfl⟩
  have HR1 : Hid (Rd (.sl rowT) (fun b => S1 b ∨ v1.ownBlock = some b) W [.slice a1 rs.length c1] rs) := Lib.hid (by rw [hv1]; exact O1.rd _ (fun b hb => .inl hb) (fun b hb => .inr hb))
  have HR2 : Hid (Rd (.sl (.int .u64)) (fun b => v2.ownBlock = some b) W [.slice a2 rs.length c2] (linksI rs)) := Lib.hid (by rw [hv2]; exact O2.rd _ (fun _ h => h.elim) (fun b hb => hb))
  have HLT1 : Hid (∀ b, S1 b ∨ v1.ownBlock = some b → b < W.heap.size) := Lib.hid (by
    rw [hv1]
    rintro b (hb | hb)
    · exact hlt b (d1 b hb).1
    · exact hlt b (d2 b hb).1)
  have HLT2 : Hid (∀ b, v2.ownBlock = some b → b < W.heap.size) := Lib.hid (by rw [hv2]; exact fun b hb => hlt b (d3 b hb).1)
  have HLT := Lib.hid hlt; have HP := Lib.hid hp
  have HM : Hid (W.heap[p]? = some (.cells #[v1, v2] 65 (0, 0))) := Lib.hid (by rw [hv1, hv2]; exact m1)
  have HDD : Hid ((∀ b, S1 b → F b ∧ b ≠ p ∧ v2.ownBlock ≠ some b) ∧ (∀ b, v1.ownBlock = some b → F b ∧ b ≠ p ∧ v2.ownBlock ≠ some b) ∧ (∀ b, v2.ownBlock = some b → F b ∧ b ≠ p)) := Lib.hid (by rw [hv1, hv2]; exact ⟨d1, d2, d3⟩)
  have hkeep : Hid (∀ X, Below W.heap.size W X → X.cell? ⟨p, 0, none⟩ = some (.slice a1 rs.length c1) ∧ X.cell? ⟨p, 1, none⟩ = some (.slice a2 rs.length c2)) := Lib.hid (fun X hB => ⟨hB.cell (p := ⟨p, 0, none⟩) (hlt p hp) ▸ hS0.1, hB.cell (p := ⟨p, 1, none⟩) (hlt p hp) ▸ hS0.2⟩)
  have HBW := Lib.hid hBW
  have hnN : n ≤ rs.length := hnR
  have hn1 : rs.length ≤ c1 := (O1.rd (fun _ => True) (fun _ _ => trivial) (fun _ _ => trivial)).rows.2.1
  have hn2 : rs.length ≤ c2 := (O2.rd (fun _ => True) (fun _ _ => trivial) (fun _ _ => trivial)).ints.2.1
  have hn3 : n ≤ c1 := by omega
  have hn4 : n ≤ c2 := by omega
  clear hlt hp m1 O1 O2 d1 d2 d3 hBW k1 k2
  refine wpAnyT_pure (i := 0) (v := ?_) rfl (by kernel_rfl) (by kernel_rfl) (by kernel_rfl) (fun _ _ _ h => h) (by rfl) ?_ ?_
  rotate_left
  · intro w; go_simp; try with_reducible rfl
  simp only [Act.put, List.setIfInBounds_toArray, List.set_cons_zero, List.set_cons_succ, List.getElem_toArray, List.getElem_cons_succ, List.getElem_cons_zero]
  refine wpAnyT_pure (i := 1) (v := ?_) rfl (by kernel_rfl) (by kernel_rfl) (by kernel_rfl) (fun _ _ _ h => h) (by rfl) ?_ ?_
  rotate_left
  · intro w; go_simp; try with_reducible rfl
  simp only [Act.put, List.setIfInBounds_toArray, List.set_cons_zero, List.set_cons_succ, List.getElem_toArray, List.getElem_cons_succ, List.getElem_cons_zero]
  refine wpAnyT_pure (i := 2) (v := ?_) rfl (by kernel_rfl) (by kernel_rfl) (by kernel_rfl) (fun _ _ _ h => h) (by rfl) ?_ ?_
  rotate_left
  · intro w; go_simp; try with_reducible rfl
  simp only [Act.put, List.setIfInBounds_toArray, List.set_cons_zero, List.set_cons_succ, List.getElem_toArray, List.getElem_cons_succ, List.getElem_cons_zero]
  refine wpAnyT_pure (i := 3) (v := ?_) rfl (by kernel_rfl) (by kernel_rfl) (by kernel_rfl) (fun _ _ _ h => h) (by rfl) ?_ ?_
  rotate_left
  · intro w; go_simp; try with_reducible rfl
  simp only [Act.put, List.setIfInBounds_toArray, List.set_cons_zero, List.set_cons_succ, List.getElem_toArray, List.getElem_cons_succ, List.getElem_cons_zero]
  refine wpAnyT_pure (i := 4) (v := ?_) rfl (by kernel_rfl) (by kernel_rfl) (by kernel_rfl) (fun _ _ _ h => h) (by rfl) ?_ ?_
  rotate_left
  · intro w; go_simp; try with_reducible rfl
  simp only [Act.put, List.setIfInBounds_toArray, List.set_cons_zero, List.set_cons_succ, List.getElem_toArray, List.getElem_cons_succ, List.getElem_cons_zero]
  refine wpAnyT_pure (i := 6) (v := ?_) rfl (by kernel_rfl) (by kernel_rfl) (by kernel_rfl) (fun _ _ _ h => h) (by rfl) ?_ ?_
  rotate_left
  · intro w; go_simp; try with_reducible rfl
  simp only [Act.put, List.setIfInBounds_toArray, List.set_cons_zero, List.set_cons_succ, List.getElem_toArray, List.getElem_cons_succ, List.getElem_cons_zero]
  refine wpAnyT_pure (i := 9) (v := ?_) rfl (by kernel_rfl) (by kernel_rfl) (by kernel_rfl) (fun _ _ _ h => h) (by rfl) ?_ ?_
  rotate_left
  · intro w; go_simp; try with_reducible rfl
  simp only [Act.put, List.setIfInBounds_toArray, List.set_cons_zero, List.set_cons_succ, List.getElem_toArray, List.getElem_cons_succ, List.getElem_cons_zero]
  refine wpAnyT_pure (i := 10) (v := ?_) rfl (by kernel_rfl) (by kernel_rfl) (by kernel_rfl) (fun _ _ _ h => h) (by rfl) ?_ ?_
  rotate_left
  · intro w; go_simp; try with_reducible rfl
  simp only [Act.put, List.setIfInBounds_toArray, List.set_cons_zero, List.set_cons_succ, List.getElem_toArray, List.getElem_cons_succ, List.getElem_cons_zero]
  refine wpAnyT_pure (i := 11) (v := ?_) rfl (by kernel_rfl) (by kernel_rfl) (by kernel_rfl) (fun _ _ _ h => h) (by rfl) ?_ ?_
  rotate_left
  · intro w; go_simp; try with_reducible rfl
  simp only [Act.put, List.setIfInBounds_toArray, List.set_cons_zero, List.set_cons_succ, List.getElem_toArray, List.getElem_cons_succ, List.getElem_cons_zero]
  refine wpAnyT_pure (i := 13) (v := ?_) rfl (by kernel_rfl) (by kernel_rfl) (by kernel_rfl) (fun _ _ _ h => h) (by rfl) ?_ ?_
  rotate_left
  · intro w; go_simp; try with_reducible rfl
  simp only [Act.put, List.setIfInBounds_toArray, List.set_cons_zero, List.set_cons_succ, List.getElem_toArray, List.getElem_cons_succ, List.getElem_cons_zero]
  refine wpAnyT_loadW (i := 5) (v := ?_) rfl (by kernel_rfl) (by kernel_rfl) (by kernel_rfl) (by kernel_rfl) (by kernel_rfl) (fun _ _ _ h => h) (Or.inl ⟨by rfl, ?_⟩) hS0 ?_
  rotate_left
  · intro w hSw; obtain ⟨e0, e1⟩ := hSw; go_simp; try with_reducible rfl
  simp only [Act.put, List.setIfInBounds_toArray, List.set_cons_zero, List.set_cons_succ, List.getElem_toArray, List.getElem_cons_succ, List.getElem_cons_zero]
  refine wpAnyT_pure (i := 7) (v := ?_) rfl (by kernel_rfl) (by kernel_rfl) (by kernel_rfl) (fun _ _ _ h => h) (by rfl) ?_ ?_
  rotate_left
  · intro w; go_simp; try with_reducible rfl
  simp only [Act.put, List.setIfInBounds_toArray, List.set_cons_zero, List.set_cons_succ, List.getElem_toArray, List.getElem_cons_succ, List.getElem_cons_zero]
  refine wpAnyT_loadW (i := 12) (v := ?_) rfl (by kernel_rfl) (by kernel_rfl) (by kernel_rfl) (by kernel_rfl) (by kernel_rfl) (fun _ _ _ h => h) (Or.inl ⟨by rfl, ?_⟩) hS0 ?_
  rotate_left
  · intro w hSw; obtain ⟨e0, e1⟩ := hSw; go_simp; try with_reducible rfl
  simp only [Act.put, List.setIfInBounds_toArray, List.set_cons_zero, List.set_cons_succ, List.getElem_toArray, List.getElem_cons_succ, List.getElem_cons_zero]
  refine wpAnyT_pure (i := 14) (v := ?_) rfl (by kernel_rfl) (by kernel_rfl) (by kernel_rfl) (fun _ _ _ h => h) (by rfl) ?_ ?_
  rotate_left
  · intro w; go_simp; try with_reducible rfl
  simp only [Act.put, List.setIfInBounds_toArray, List.set_cons_zero, List.set_cons_succ, List.getElem_toArray, List.getElem_cons_succ, List.getElem_cons_zero]
  refine wpAnyT_one (i := 8) (by kernel_rfl) rfl (by rfl) ?_
  have hcl := rclone_any (S := fun b => S1 b ∨ v1.ownBlock = some b) W a1 n c1 (rs.take n) (Rd.take HR1.out n hnN) (fun b hb => HLT1.out b hb) (by omega)
  have HCL := Lib.hid hcl; clear hcl
  refine wp_enter (f := 38) (args := #[.slice a1 n c1]) (by go_simp) HCL.out ?_
  rintro e X1 ⟨u1, rfl, b1, q1⟩
  obtain ⟨x1, y1, z1, rfl, -⟩ := q1.slice
  have HQ1 := Lib.hid q1; clear q1
  have hcells1 := hkeep.out X1 b1
  refine ⟨_, rfl, fun _ _ => hcells1, ?_⟩
  simp only [Act.put, List.setIfInBounds_toArray, List.set_cons_zero, List.set_cons_succ, List.getElem_toArray, List.getElem_cons_succ, List.getElem_cons_zero]
  refine wpAnyT_one (i := 15) (by kernel_rfl) rfl (by rfl) ?_
  have hcl := uclone_any (S := fun b => v2.ownBlock = some b) X1 a2 n c2 ((linksI rs).take n) (Rd.take (HR2.out.keep (fun b hb => b1.block b (HLT2.out b hb)) (fun _ h => h)) n hnN) (fun b hb => Nat.lt_of_lt_of_le (HLT2.out b hb) b1.size) (by omega)
  have HCL2 := Lib.hid hcl; clear hcl
  refine wp_enter (f := 39) (args := #[.slice a2 n c2]) (by go_simp) HCL2.out ?_
  rintro e X2 ⟨u2, rfl, b2, q2⟩
  obtain ⟨x2, y2, z2, rfl, -⟩ := q2.slice
  have b12 := below_step b1 b2
  have hcells2 := hkeep.out X2 b12
  have hfin := trunc_done F W X1 X2 p rs n hnR v1 v2 (.slice x1 y1 z1) (.slice x2 y2 z2) S1 HLT.out HP.out HM.out HDD.out HQ1.out b1 (Owns.flat (e := .int .u64) rfl q2) b2
  obtain ⟨hc0, hc1, hf0, hf1, hfin⟩ := hfin
  have HFIN := Lib.hid hfin
  clear hfin q2
  refine ⟨_, rfl, fun _ _ => hcells2, ?_⟩
  simp only [Act.put, List.setIfInBounds_toArray, List.set_cons_zero, List.set_cons_succ, List.getElem_toArray, List.getElem_cons_succ, List.getElem_cons_zero]
  refine wpAnyT_pure (i := 16) (v := ?_) rfl (by kernel_rfl) (by kernel_rfl) (by kernel_rfl) (fun _ _ _ h => h) (by rfl) ?_ ?_
  rotate_left
  · intro w; go_simp; try with_reducible rfl
  simp only [Act.put, List.setIfInBounds_toArray, List.set_cons_zero, List.set_cons_succ, List.getElem_toArray, List.getElem_cons_succ, List.getElem_cons_zero]
  refine wpAnyT_pure (i := 17) (v := ?_) rfl (by kernel_rfl) (by kernel_rfl) (by kernel_rfl) (fun _ _ _ h => h) (by rfl) ?_ ?_
  rotate_left
  · intro w; go_simp; try with_reducible rfl
  simp only [Act.put, List.setIfInBounds_toArray, List.set_cons_zero, List.set_cons_succ, List.getElem_toArray, List.getElem_cons_succ, List.getElem_cons_zero]
  refine wpAnyT_one (i := 18) (by kernel_rfl) rfl (by rfl) ?_
  go_simp
  try simp only [Act.put, List.setIfInBounds_toArray, List.set_cons_zero, List.set_cons_succ, List.getElem_toArray, List.getElem_cons_succ, List.getElem_cons_zero]
  refine wpAnyT_pure (i := 19) (v := ?_) rfl (by kernel_rfl) (by kernel_rfl) (by kernel_rfl) (fun _ _ _ h => h) (by rfl) ?_ ?_
  rotate_left
  · intro w; go_simp; try with_reducible rfl
  simp only [Act.put, List.setIfInBounds_toArray, List.set_cons_zero, List.set_cons_succ, List.getElem_toArray, List.getElem_cons_succ, List.getElem_cons_zero]
  refine wpAnyT_pure (i := 20) (v := ?_) rfl (by kernel_rfl) (by kernel_rfl) (by kernel_rfl) (fun _ _ _ h => h) (by rfl) ?_ ?_
  rotate_left
  · intro w; go_simp; try with_reducible rfl
  simp only [Act.put, List.setIfInBounds_toArray, List.set_cons_zero, List.set_cons_succ, List.getElem_toArray, List.getElem_cons_succ, List.getElem_cons_zero]
  refine wpAnyT_one (i := 21) (by kernel_rfl) rfl (by rfl) ?_
  go_simp
  try simp only [Act.put, List.setIfInBounds_toArray, List.set_cons_zero, List.set_cons_succ, List.getElem_toArray, List.getElem_cons_succ, List.getElem_cons_zero]
  refine wpAnyT_done (by kernel_rfl) ?_ _
  go_wp2
  go_ret
  obtain ⟨F', hLF, hF', hG⟩ := HFIN.out
  exact ⟨rfl, F', hLF, fun b hb => (hF' b hb).imp id (fun h => Nat.le_trans HBW.out.size h), (Gr.of_below HBW.out).trans hG (fun _ hx => .inl hx)⟩
end Go.Proofs.Ytkojomakibfncaa
