/- The codec: Proper. -/
import Derived.Test.YtlfloekanfhlfaaGreatW57g
set_option linter.unusedSimpArgs false
namespace Go.Proofs.YtlfloekanfhlfaaGreat
open Go.RowKit Go

set_option maxRecDepth 20000 in
set_option maxHeartbeats 1000000 in
theorem proper57 (w : World) : Calls Tryz.prog 28 #[.agg (evCs 8 1 5)] w fun e w' => e = .returned (.bool true) ∧ Below w.heap.size w w' := by
  have hB1 := (Below.refl w.heap.size w).alloc (Nat.le_refl _) (.cells (evCs 8 1 5) 65)
  have hB2 := hB1.alloc (by simp) (.cells #[.int .i64 0, .int .i64 0, .int .i64 0, .int .i64 0, .int .i64 0, .int .i64 0, .string ⟨#[]⟩, .slice none 0 0, .string ⟨#[]⟩, .int .i64 0, .int .i64 0, .int .i64 0, .int .i64 0, .int .i64 0, .int .i64 0, .int .i64 0, .int .i64 0, .slice none 0 0, .slice none 0 0, .int .i64 0, .int .i64 0, .int .i64 0, .int .i64 0, .int .i64 0, .int .i64 0, .int .i64 0, .int .i64 0, .string ⟨#[]⟩] 65)
  have hx2 := alloc_old' (o := .cells #[.int .i64 0, .int .i64 0, .int .i64 0, .int .i64 0, .int .i64 0, .int .i64 0, .string ⟨#[]⟩, .slice none 0 0, .string ⟨#[]⟩, .int .i64 0, .int .i64 0, .int .i64 0, .int .i64 0, .int .i64 0, .int .i64 0, .int .i64 0, .int .i64 0, .slice none 0 0, .slice none 0 0, .int .i64 0, .int .i64 0, .int .i64 0, .int .i64 0, .int .i64 0, .int .i64 0, .int .i64 0, .int .i64 0, .string ⟨#[]⟩] 65) (alloc_new' (w := w) (o := .cells (evCs 8 1 5) 65) rfl)
  have hrz := alloc_new' (w := w.alloc (.cells (evCs 8 1 5) 65)) (o := .cells #[.int .i64 0, .int .i64 0, .int .i64 0, .int .i64 0, .int .i64 0, .int .i64 0, .string ⟨#[]⟩, .slice none 0 0, .string ⟨#[]⟩, .int .i64 0, .int .i64 0, .int .i64 0, .int .i64 0, .int .i64 0, .int .i64 0, .int .i64 0, .int .i64 0, .slice none 0 0, .slice none 0 0, .int .i64 0, .int .i64 0, .int .i64 0, .int .i64 0, .int .i64 0, .int .i64 0, .int .i64 0, .int .i64 0, .string ⟨#[]⟩] 65) (n := w.heap.size + 1) (by simp)
  have x0 := blk_cell (alloc_new' (w := w) (o := .cells (evCs 8 1 5) 65) rfl) 0
  have y0 := blk_cell hx2 0
  rw [show (evCs 8 1 5)[0]? = some (Value.int .i64 8) from rfl] at x0 y0
  have HRZ := Lib.hid hrz
  have hrow := setRow_heap _ _ _ (evCs 8 0 0) _ _ hrz
  have hBs := below_setRow (n := w.heap.size) (p := w.heap.size + 1) hB2 (by omega) (evCs 8 0 0)
  have hx3 := (setRow_other ((w.alloc (.cells (evCs 8 1 5) 65)).alloc (.cells #[.int .i64 0, .int .i64 0, .int .i64 0, .int .i64 0, .int .i64 0, .int .i64 0, .string ⟨#[]⟩, .slice none 0 0, .string ⟨#[]⟩, .int .i64 0, .int .i64 0, .int .i64 0, .int .i64 0, .int .i64 0, .int .i64 0, .int .i64 0, .int .i64 0, .slice none 0 0, .slice none 0 0, .int .i64 0, .int .i64 0, .int .i64 0, .int .i64 0, .int .i64 0, .int .i64 0, .int .i64 0, .int .i64 0, .string ⟨#[]⟩] 65)) (w.heap.size + 1) w.heap.size (evCs 8 0 0) (by omega)).trans hx2
  have z0 := blk_cell hx3 0
  rw [show (evCs 8 1 5)[0]? = some (Value.int .i64 8) from rfl] at z0
  go_enter Tryz.func28, Tryz.ntmps28
  go_wp2_with (refine wpList_store_row rfl _ _ _ rfl (w.heap.size + 1) (evCs 8 0 0) rfl rfl 65 _ HRZ.out (by kernel_rfl) (by rfl) (by simp [evCs, Value.oneCell']) ?_)
  generalize hw3 : World.setRow (World.alloc (w.alloc _) _) _ _ = w3 at hrow hBs hx3 z0 ⊢
  clear hw3 hB1 hB2 hx2 hrz x0 y0 HRZ
  have y1 := blk_cell hx3 25
  have y2 := blk_cell hx3 26
  rw [show (evCs 8 1 5)[25]? = some (Value.int .i64 1) from rfl] at y1
  rw [show (evCs 8 1 5)[26]? = some (Value.int .i64 5) from rfl] at y2
  have HROW := Lib.hid hrow
  have HB3 := Lib.hid hBs
  have HX3 := Lib.hid hx3
  have HC0 : Cells [(⟨w.heap.size, 25, none⟩, .int .i64 1), (⟨w.heap.size, 26, none⟩, .int .i64 5)] w3 := ⟨y1, y2, trivial⟩
  clear hrow hBs hx3 y1 y2
  go_wp2_with fail
  refine wp_region_T (Cells [(⟨w.heap.size, 25, none⟩, .int .i64 1), (⟨w.heap.size, 26, none⟩, .int .i64 5)]) (fun i => i == 7) (by kernel_rfl) ?_
  have hSss1 := Cells.drew HC0
  have hB_0_s1 : Below w3.heap.size w3 w3.drew := below_drew _
  generalize w3.drew = s1 at hSss1 hB_0_s1 ⊢
  have hB_s1_s1 := Below.refl s1.heap.size s1
  refine wpAnyT_pure (i := 0) (v := ?_) rfl (by kernel_rfl) (by kernel_rfl) (by kernel_rfl) (fun _ _ _ h => h) (by rfl) ?_ ?_
  rotate_left
  · intro w; go_simp; try with_reducible rfl
  simp only [Act.put, List.setIfInBounds_toArray, List.set_cons_zero, List.set_cons_succ, List.getElem_toArray, List.getElem_cons_succ, List.getElem_cons_zero]
  refine wpAnyT_pure (i := 2) (v := ?_) rfl (by kernel_rfl) (by kernel_rfl) (by kernel_rfl) (fun _ _ _ h => h) (by rfl) ?_ ?_
  rotate_left
  · intro w; go_simp; try with_reducible rfl
  simp only [Act.put, List.setIfInBounds_toArray, List.set_cons_zero, List.set_cons_succ, List.getElem_toArray, List.getElem_cons_succ, List.getElem_cons_zero]
  refine wpAnyT_loadW (i := 1) (v := ?_) rfl (by kernel_rfl) (by kernel_rfl) (by kernel_rfl) (by kernel_rfl) (by kernel_rfl) (fun _ _ _ h => h) (Or.inl ⟨by rfl, ?_⟩) hSss1 ?_
  rotate_left
  · intro w hSw; obtain ⟨e0, e1, -⟩ := hSw; go_simp; try with_reducible rfl
  simp only [Act.put, List.setIfInBounds_toArray, List.set_cons_zero, List.set_cons_succ, List.getElem_toArray, List.getElem_cons_succ, List.getElem_cons_zero]
  refine wpAnyT_pure (i := 4) (v := ?_) rfl (by kernel_rfl) (by kernel_rfl) (by kernel_rfl) (fun _ _ _ h => h) (by rfl) ?_ ?_
  rotate_left
  · intro w; go_simp; try with_reducible rfl
  simp only [Act.put, List.setIfInBounds_toArray, List.set_cons_zero, List.set_cons_succ, List.getElem_toArray, List.getElem_cons_succ, List.getElem_cons_zero]
  refine wpAnyT_loadW (i := 3) (v := ?_) rfl (by kernel_rfl) (by kernel_rfl) (by kernel_rfl) (by kernel_rfl) (by kernel_rfl) (fun _ _ _ h => h) (Or.inl ⟨by rfl, ?_⟩) hSss1 ?_
  rotate_left
  · intro w hSw; obtain ⟨e0, e1, -⟩ := hSw; go_simp; try with_reducible rfl
  simp only [Act.put, List.setIfInBounds_toArray, List.set_cons_zero, List.set_cons_succ, List.getElem_toArray, List.getElem_cons_succ, List.getElem_cons_zero]
  refine wpAnyT_one (i := 5) (by kernel_rfl) rfl (by rfl) ?_
  have hbP : Below w3.heap.size w3 s1 := hB_0_s1.trans ((hB_s1_s1).mono (hB_0_s1).size)
  have hro := (hbP.block _ (blk_lt HROW.out)).trans HROW.out
  have hxo := (hbP.block _ (blk_lt HX3.out)).trans HX3.out
  have f9 := blk_frozen hro 25
  have q9 := blk_cell hro 25
  rw [show (evCs 8 0 0)[25]? = some (Value.int .i64 0) from rfl] at q9
  have hset := blk_set (i := 25) hro (.int .i64 1)
  have hgs : Gr (fun b => b = w.heap.size + 1) s1 ((s1).setCell ⟨w.heap.size + 1, 25, none⟩ (.int .i64 1)) := (Gr.refl (fun b => b = w.heap.size + 1) _).setCell (.inl rfl) _
  have hc12 := hSss1
  have hXS : Cells [(⟨w.heap.size, 25, none⟩, .int .i64 1), (⟨w.heap.size, 26, none⟩, .int .i64 5)] ((s1).setCell ⟨w.heap.size + 1, 25, none⟩ (.int .i64 1)) := ⟨hgs.cell hc12.1 (by simp), hgs.cell hc12.2.1 (by simp), trivial⟩
  have hxs := (hgs.block _ (blk_lt hxo) (by simp)).trans hxo
  have hBs5 : Below w.heap.size w ((s1).setCell ⟨w.heap.size + 1, 25, none⟩ (.int .i64 1)) := (below_step HB3.out hbP).trans (hgs.below (fun b e => by rw [e]; omega) (below_step HB3.out hbP).size)
  refine wp_store1 (w' := (s1).setCell ⟨w.heap.size + 1, 25, none⟩ (.int .i64 1)) 3 (.tmp 42) (.tmp 39) rfl ⟨w.heap.size + 1, 25, none⟩ (.int .i64 1) (by kernel_rfl) (by kernel_rfl) (by go_simp) ?_
  clear f9 q9 hgs hro hxo hc12
  generalize (s1).setCell ⟨w.heap.size + 1, 25, none⟩ (.int .i64 1) = w102 at hset hXS hxs hBs5 ⊢
  have hSsw102 := hXS
  have hB_w102_w102 := Below.refl w102.heap.size w102
  refine ⟨fun _ _ => hSsw102, ?_⟩
  try simp only [Act.put, List.setIfInBounds_toArray, List.set_cons_zero, List.set_cons_succ, List.getElem_toArray, List.getElem_cons_succ, List.getElem_cons_zero]
  refine wpAnyT_pure (i := 6) (v := ?_) rfl (by kernel_rfl) (by kernel_rfl) (by kernel_rfl) (fun _ _ _ h => h) (by rfl) ?_ ?_
  rotate_left
  · intro w; go_simp; try with_reducible rfl
  simp only [Act.put, List.setIfInBounds_toArray, List.set_cons_zero, List.set_cons_succ, List.getElem_toArray, List.getElem_cons_succ, List.getElem_cons_zero]
  refine wpAnyT_one (i := 7) (by kernel_rfl) rfl (by rfl) ?_
  have f9 := blk_frozen hset 26
  have q9 := blk_cell hset 26
  rw [show ((evCs 8 0 0).setIfInBounds 25 (Value.int .i64 1))[26]? = some (Value.int .i64 0) from rfl] at q9
  have hset2 := blk_set (i := 26) hset (.int .i64 5)
  have hgs : Gr (fun b => b = w.heap.size + 1) w102 ((w102).setCell ⟨w.heap.size + 1, 26, none⟩ (.int .i64 5)) := (Gr.refl (fun b => b = w.heap.size + 1) _).setCell (.inl rfl) _
  have hxs2 := (hgs.block _ (blk_lt hxs) (by simp)).trans hxs
  have hBs6 : Below w.heap.size w ((w102).setCell ⟨w.heap.size + 1, 26, none⟩ (.int .i64 5)) := hBs5.trans (hgs.below (fun b e => by rw [e]; omega) hBs5.size)
  refine wp_store1 (w' := (w102).setCell ⟨w.heap.size + 1, 26, none⟩ (.int .i64 5)) 3 (.tmp 43) (.tmp 41) rfl ⟨w.heap.size + 1, 26, none⟩ (.int .i64 5) (by kernel_rfl) (by kernel_rfl) (by go_simp) ?_
  clear f9 q9 hgs
  generalize (w102).setCell ⟨w.heap.size + 1, 26, none⟩ (.int .i64 5) = w103 at hset2 hxs2 hBs6 ⊢
  refine ⟨fun h => absurd h (by decide), ?_⟩
  try simp only [Act.put, List.setIfInBounds_toArray, List.set_cons_zero, List.set_cons_succ, List.getElem_toArray, List.getElem_cons_succ, List.getElem_cons_zero]
  refine wpAnyT_done (by kernel_rfl) ?_ _
  obtain ⟨w4, rfl⟩ : ∃ x, x = w103 := ⟨_, rfl⟩
  have HO4 := Lib.hid (show w4.heap[w.heap.size + 1]? = some (.cells (evCs 8 1 5) 65 (0, 0)) from hset2)
  have HX4 := Lib.hid hxs2
  have HB4 := Lib.hid hBs6
  clear hset hset2 hxs hxs2 hBs5 hBs6 HROW HX3 HB3
  go_wp2_with (first | refine wpList_load_row rfl 65 _ rfl w.heap.size rfl 65 (evCs 8 1 5) (0, 0) _ HX4.out Tryz.underlying65 rfl (by kernel_rfl) ?_ | refine wpList_load_row rfl 65 _ rfl (w.heap.size + 1) rfl 65 (evCs 8 1 5) (0, 0) _ HO4.out Tryz.underlying65 rfl (by kernel_rfl) ?_)
  refine (same57 w4 8 1 5 (.inr (.inr (.inr rfl))) (.inr (.inl rfl)) (.inr (.inr (.inl rfl)))).mono ?_
  rintro e w5 ⟨rfl, hB5⟩
  have HB5 := Lib.hid (below_step HB4.out hB5)
  clear hB5
  go_wp2_with fail
  go_ret
  exact ⟨rfl, HB5.out⟩
end Go.Proofs.YtlfloekanfhlfaaGreat

/- The codec: fields, Event. -/
set_option linter.unusedSimpArgs false
namespace Go.Proofs.YtlfloekanfhlfaaGreat
open Go.RowKit Go

set_option maxRecDepth 20000 in
set_option maxHeartbeats 1000000 in
theorem fields57 (w0 : World) (s : Nat) (v0 : Value) (xs : List Int) (h : St w0 s v0 xs) (eb : Nat) (te : TypeId) (he : w0.heap[eb]? = some (.cells (evCs 8 1 5) te (0, 0))) (h1 : eb ≠ s ∧ v0.ownBlock ≠ some eb) (hx : xs.length ≤ 900) :
    Calls Tryz.prog 30 #[.pointer (some ⟨s, 0, none⟩), .pointer (some ⟨eb, 0, none⟩)] w0 fun e w' => e = .returned (.bool true) ∧ ∃ v', St w' s v' (xs ++ [2, 10]) ∧ StepS s w0 v0 w' v' := by
  have x0 := blk_cell he 0
  rw [show (evCs 8 1 5)[0]? = some (Value.int .i64 8) from rfl] at x0
  have HE := Lib.hid he
  have HX := Lib.hid hx
  have HS0 := Lib.hid h
  have HT0 := Lib.hid (StepS.refl s w0 v0)
  have hsl := blk_lt h.row
  clear h he hx
  go_enter Tryz.func30, Tryz.ntmps30
  go_wp2_with fail
  have HC0 : Cells [] w0 := trivial
  refine wp_region_T (Cells []) (fun i => i == 8) (by kernel_rfl) ?_
  have hSss1 := Cells.drew HC0
  have hB_0_s1 : Below w0.heap.size w0 w0.drew := below_drew _
  generalize w0.drew = s1 at hSss1 hB_0_s1 ⊢
  have hB_s1_s1 := Below.refl s1.heap.size s1
  refine wpAnyT_pure (i := 0) (v := ?_) rfl (by kernel_rfl) (by kernel_rfl) (by kernel_rfl) (fun _ _ _ h => h) (by rfl) ?_ ?_
  rotate_left
  · intro w; go_simp; try with_reducible rfl
  simp only [Act.put, List.setIfInBounds_toArray, List.set_cons_zero, List.set_cons_succ, List.getElem_toArray, List.getElem_cons_succ, List.getElem_cons_zero]
  refine wpAnyT_pure (i := 1) (v := ?_) rfl (by kernel_rfl) (by kernel_rfl) (by kernel_rfl) (fun _ _ _ h => h) (by rfl) ?_ ?_
  rotate_left
  · intro w; go_simp; try with_reducible rfl
  simp only [Act.put, List.setIfInBounds_toArray, List.set_cons_zero, List.set_cons_succ, List.getElem_toArray, List.getElem_cons_succ, List.getElem_cons_zero]
  refine wpAnyT_pure (i := 2) (v := ?_) rfl (by kernel_rfl) (by kernel_rfl) (by kernel_rfl) (fun _ _ _ h => h) (by rfl) ?_ ?_
  rotate_left
  · intro w; go_simp; try with_reducible rfl
  simp only [Act.put, List.setIfInBounds_toArray, List.set_cons_zero, List.set_cons_succ, List.getElem_toArray, List.getElem_cons_succ, List.getElem_cons_zero]
  refine wpAnyT_pure (i := 3) (v := ?_) rfl (by kernel_rfl) (by kernel_rfl) (by kernel_rfl) (fun _ _ _ h => h) (by rfl) ?_ ?_
  rotate_left
  · intro w; go_simp; try with_reducible rfl
  simp only [Act.put, List.setIfInBounds_toArray, List.set_cons_zero, List.set_cons_succ, List.getElem_toArray, List.getElem_cons_succ, List.getElem_cons_zero]
  refine wpAnyT_pure (i := 4) (v := ?_) rfl (by kernel_rfl) (by kernel_rfl) (by kernel_rfl) (fun _ _ _ h => h) (by rfl) ?_ ?_
  rotate_left
  · intro w; go_simp; try with_reducible rfl
  simp only [Act.put, List.setIfInBounds_toArray, List.set_cons_zero, List.set_cons_succ, List.getElem_toArray, List.getElem_cons_succ, List.getElem_cons_zero]
  refine wpAnyT_pure (i := 5) (v := ?_) rfl (by kernel_rfl) (by kernel_rfl) (by kernel_rfl) (fun _ _ _ h => h) (by rfl) ?_ ?_
  rotate_left
  · intro w; go_simp; try with_reducible rfl
  simp only [Act.put, List.setIfInBounds_toArray, List.set_cons_zero, List.set_cons_succ, List.getElem_toArray, List.getElem_cons_succ, List.getElem_cons_zero]
  refine wpAnyT_pure (i := 6) (v := ?_) rfl (by kernel_rfl) (by kernel_rfl) (by kernel_rfl) (fun _ _ _ h => h) (by rfl) ?_ ?_
  rotate_left
  · intro w; go_simp; try with_reducible rfl
  simp only [Act.put, List.setIfInBounds_toArray, List.set_cons_zero, List.set_cons_succ, List.getElem_toArray, List.getElem_cons_succ, List.getElem_cons_zero]
  refine wpAnyT_one (i := 7) (by kernel_rfl) rfl (by rfl) ?_
  obtain ⟨bl, hbl⟩ : ∃ b, s1.heap.size = b := ⟨_, rfl⟩
  refine wp_newrow (v := .slice (some ⟨bl, 0, none⟩) 2 2) (cs := #[.pointer (some ⟨eb, 25, none⟩), .pointer (some ⟨eb, 26, none⟩)]) (te := 105) (by rw [← hbl]; go_simp) ?_
  intro w102 hX hN
  rw [hbl] at hN
  have hB_s1_w102 := below_step hB_s1_s1 hX
  have hB_w102_w102 := Below.refl w102.heap.size w102
  have hSsw102 := Cells.below hB_s1_w102 hSss1
  clear hX
  refine ⟨fun _ _ => hSsw102, ?_⟩
  try simp only [Act.put, List.setIfInBounds_toArray, List.set_cons_zero, List.set_cons_succ, List.getElem_toArray, List.getElem_cons_succ, List.getElem_cons_zero]
  refine wpAnyT_one (i := 8) (by kernel_rfl) rfl (by rfl) ?_
  have hbP : Below w0.heap.size w0 w102 := hB_0_s1.trans ((hB_s1_w102).mono (hB_0_s1).size)
  have hee := (hbP.block _ (blk_lt HE.out)).trans HE.out
  have hbls : w0.heap.size ≤ bl := by rw [← hbl]; exact (hB_0_s1).size
  have hsz := blk_lt HS0.out.row
  refine wp_enter (f := 29) (args := #[.pointer (some ⟨s, 0, none⟩), .slice (some ⟨bl, 0, none⟩) 2 2]) (by go_simp) (num57 _ s v0 _ (HS0.out.below hbP) eb bl [25, 26] (fun o => if o = 25 then 1 else 5) 105 hN (evCs 8 1 5) te hee (by simp [evCs, Small]) ⟨h1.1, h1.2⟩ ⟨by omega, fun e => by have := (HS0.out.own.own _ e).2; omega⟩ (by decide) (by have := HX.out; omega) 2 rfl) ?_
  rintro e w103 ⟨rfl, v1, hS9, hT9⟩
  refine ⟨_, rfl, fun h => absurd h (by decide), ?_⟩
  try simp only [Act.put, List.setIfInBounds_toArray, List.set_cons_zero, List.set_cons_succ, List.getElem_toArray, List.getElem_cons_succ, List.getElem_cons_zero]
  refine wpAnyT_done (by kernel_rfl) ?_ _
  obtain ⟨w1, rfl⟩ : ∃ x, x = w103 := ⟨_, rfl⟩
  have HS1 := Lib.hid (show St w1 s v1 (xs ++ [2, 10]) from by simpa using hS9)
  have HT1 := Lib.hid ((StepS.below hbP).trans hT9)
  clear hS9 hT9 hbP hee hbls hsz HC0
  go_wp2_with fail
  go_ret
  exact ⟨rfl, v1, HS1.out, HT1.out⟩
set_option maxRecDepth 20000 in
set_option maxHeartbeats 1000000 in
theorem event57 (w : World) : Calls Tryz.prog 12 #[.agg (evCs 8 1 5)] w fun e w' => ∃ a l c, e = .returned (.tuple #[.slice a l c, .int .i64 0]) ∧ Rd (.sl (.int .u8)) (fun b => w.heap.size ≤ b ∧ b < w'.heap.size) w' [.slice a l c] [16, 2, 10] ∧ Below w.heap.size w w' := by
  have HX := Lib.hid (alloc_new' (w := w) (o := .cells (evCs 8 1 5) 65) rfl)
  have HB := Lib.hid ((Below.refl w.heap.size w).alloc (Nat.le_refl _) (.cells (evCs 8 1 5) 65))
  go_enter Tryz.func12, Tryz.ntmps12
  go_wp2_with (refine wpList_load_row rfl 65 _ rfl w.heap.size rfl 65 (evCs 8 1 5) (0, 0) _ HX.out Tryz.underlying65 rfl (by kernel_rfl) ?_)
  generalize hw1 : w.alloc _ = w1 at HX HB ⊢
  clear hw1
  refine (proper57 w1).mono ?_
  rintro e w2 ⟨rfl, hB2⟩
  have hlt := blk_lt HX.out
  have HX2 := Lib.hid ((hB2.block _ hlt).trans HX.out)
  have HB2 := Lib.hid (below_step HB.out hB2)
  have hle2 := hB2.size
  clear hB2 HX HB
  have hBs := (Below.refl w2.heap.size w2).alloc (Nat.le_refl _) (.cells #[.slice none 0 0, .bool false, .bool false] 103)
  have hBl := (Below.refl (w2.alloc (.cells #[.slice none 0 0, .bool false, .bool false] 103)).heap.size (w2.alloc (.cells #[.slice none 0 0, .bool false, .bool false] 103))).alloc (Nat.le_refl _) (.cells #[.pointer (some ⟨w.heap.size, 0, none⟩)] 105)
  have HB3 := Lib.hid (below_step hBs hBl)
  have HSR := Lib.hid (alloc_old' (o := .cells #[.pointer (some ⟨w.heap.size, 0, none⟩)] 105) (alloc_new' (w := w2) (o := .cells #[.slice none 0 0, .bool false, .bool false] 103) rfl))
  have HLB := Lib.hid (alloc_new' (w := w2.alloc (.cells #[.slice none 0 0, .bool false, .bool false] 103)) (o := .cells #[.pointer (some ⟨w.heap.size, 0, none⟩)] 105) (n := w2.heap.size + 1) (by simp))
  clear hBs hBl
  go_wp2_with fail
  generalize hw3 : World.alloc (w2.alloc _) _ = w3 at HB3 HSR HLB ⊢
  clear hw3
  obtain ⟨s, hs⟩ : ∃ q, w2.heap.size = q := ⟨_, rfl⟩
  obtain ⟨eb, heb⟩ : ∃ q, w.heap.size = q := ⟨_, rfl⟩
  have hX3 := (HB3.out.block _ (blk_lt HX2.out)).trans HX2.out
  have hes : eb < s := by rw [← hs, ← heb]; omega
  rw [heb] at hX3 HLB ⊢
  rw [hs] at HSR HLB ⊢
  have HX3 := Lib.hid hX3
  have hS3 : St w3 s (.slice none 0 0) [] := ⟨HSR.out, Owns.nil _ _ _ _, by simp [Value.ownBlock]⟩
  have HS3 := Lib.hid hS3
  clear hX3 hS3 HSR
  refine (num57 w3 s (.slice none 0 0) [] HS3.out eb (s + 1) [0] (fun _ => 8) 105 HLB.out (evCs 8 1 5) _ HX3.out (by simp [evCs, Small]) ⟨by omega, by simp [Value.ownBlock]⟩ ⟨by omega, by simp [Value.ownBlock]⟩ (by decide) (by simp) 1 rfl).mono ?_
  rintro e w4 ⟨rfl, v4, hS4, hT4⟩
  have hk4 := hT4.keep HX3.out (by omega) (by simp [Value.ownBlock])
  have HS4 := Lib.hid (show St w4 s v4 [16] from by simpa using hS4)
  have HT4 := Lib.hid hT4
  have HK4 := Lib.hid hk4
  clear hS4 hT4 hk4 HLB
  go_wp2_with fail
  refine (fields57 w4 s v4 [16] HS4.out eb _ HK4.out.1 ⟨by omega, HK4.out.2⟩ (by decide)).mono ?_
  rintro e w5 ⟨rfl, v5, hS5, hT5⟩
  have HT5 := Lib.hid (HT4.out.trans hT5)
  have HS5 := Lib.hid (show St w5 s v5 [16, 2, 10] from by simpa using hS5)
  clear hS5 hT5 HT4 HS4 HK4
  obtain ⟨va, vl, vc, rfl, hvl⟩ := HS5.out.slice
  have z0 := blk_cell HS5.out.row 0
  simp at z0
  obtain rfl : vl = 3 := hvl
  go_wp2_with fail
  refine bodyPost_ret (results_tmp2 rfl _ _ _) rfl ?_
  have hB5 : Below eb w2 w5 := (HB3.out.mono (by omega)).trans (HT5.out.g.below (fun b e => e.elim (fun e => by omega) (fun e => by simp [Value.ownBlock] at e)) (by have := HB3.out.size; omega))
  refine ⟨va, 3, vc, rfl, HS5.out.own.rd _ (fun _ h => h.elim) (fun b hb => ⟨?_, (HS5.out.own.own b hb).2⟩), ?_⟩
  · have := (HT5.out.nb b hb).elim (fun e => by simp [Value.ownBlock] at e) id
    have := HB3.out.size
    omega
  · exact HB2.out.trans (hB5.mono (by omega))
end Go.Proofs.YtlfloekanfhlfaaGreat

/- The zero query is valid. -/
set_option linter.unusedSimpArgs false
namespace Go.Proofs.YtlfloekanfhlfaaGreat
open Go.RowKit Go

set_option maxRecDepth 20000 in
set_option maxHeartbeats 1000000 in
theorem qindex57 (w : World) (fv : Value) : Calls Tryz.prog 60 #[.slice none 0 0, fv] w fun e w' => e = .returned (.int .i64 (-1)) ∧ w' = w := by
  go_enter Tryz.func60, Tryz.ntmps60
  go_wp2_with fail
  go_loopw [8] (fun i wr => i = .int .i64 0 ∧ wr = w) (fun _ _ => 0)
  case atStart => exact ⟨rfl, rfl⟩
  case round =>
    obtain ⟨rfl, rfl⟩ := hrel
    go_wp2_with fail
    go_ret
    exact ⟨rfl, rfl⟩
set_option maxRecDepth 20000 in
set_option maxHeartbeats 1000000 in
theorem qcontains57 (w : World) (fv : Value) : Calls Tryz.prog 38 #[.slice none 0 0, fv] w fun e w' => e = .returned (.bool false) ∧ w' = w := by
  go_enter Tryz.func38, Tryz.ntmps38
  go_wp2_with fail
  refine (qindex57 w fv).mono ?_
  rintro e w1 ⟨rfl, rfl⟩
  go_wp2_with fail
  go_ret
  exact ⟨rfl, rfl⟩
set_option maxRecDepth 20000 in
set_option maxHeartbeats 1000000 in
theorem qvalid57 (w : World) : Calls Tryz.prog 17 #[.agg #[.int .i64 0, .slice none 0 0, .slice none 0 0]] w fun e w' => e = .returned (.bool true) ∧ Below w.heap.size w w' := by
  have hq := alloc_new' (w := w) (o := .cells #[.int .i64 0, .slice none 0 0, .slice none 0 0] 75) rfl
  have x0 := blk_cell hq 0
  have x1 := blk_cell hq 1
  have x2 := blk_cell hq 2
  simp at x0 x1 x2
  have HB := Lib.hid ((Below.refl w.heap.size w).alloc (Nat.le_refl _) (.cells #[.int .i64 0, .slice none 0 0, .slice none 0 0] 75))
  have HQ := Lib.hid hq
  clear hq
  go_enter Tryz.func17, Tryz.ntmps17
  go_wp2_with fail
  generalize w.alloc _ = w1 at HQ HB ⊢
  go_loopw [22] (fun i wr => i = .int .i64 0 ∧ wr = w1) (fun _ _ => 0)
  case atStart => exact ⟨rfl, rfl⟩
  case round =>
    obtain ⟨rfl, hww⟩ := hrel
    subst hww
    have y2 := blk_cell HQ.out 2
    simp at y2
    go_wp2_with fail
    refine (qcontains57 wr (.func (.func 39) #[] #[])).mono ?_
    rintro e w2 ⟨rfl, rfl⟩
    go_wp2_with fail
    go_ret
    exact ⟨rfl, HB.out⟩
end Go.Proofs.YtlfloekanfhlfaaGreat
