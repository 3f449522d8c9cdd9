/- Layer 56: skip. -/
import Derived.Test.YtlfloekanfhlfaaGreatC56e
namespace Go.Proofs.YtlfloekanfhlfaaGreat
open Go.RowKit Go
set_option linter.unusedSimpArgs false

set_option maxHeartbeats 1000000 in
theorem skip_sum (S : Nat → Prop) (w : World) (q : Nat) (a : Option Addr) (len cap : Nat) (u : Nat) (e0 : Int) (xs : List Int) (hx : Rd rowT S w [.slice a len cap] xs) (hlen : len ≤ 100000000) (hu : u ≤ 100000000) (hS : ∀ b, S b → b < w.heap.size ∧ b ≠ q)
    (hq : w.heap[q]? = some (.cells #[.slice a len cap, .int .i64 u, .int .i64 e0] 111 (0, 0))) (ra : Option Addr) (m rc : Nat) (hm : 16 + m ≤ len) :
    Calls Tryz.prog 35 #[.pointer (some ⟨q, 0, none⟩), .slice ra m rc] w fun e w' => (∃ v, e = .returned v) ∧ ∃ A, w'.heap[q]? = some (.cells #[.slice A (len - (16 + m)) (cap - (16 + m)), .int .i64 ((u + (16 + m) : Nat) : Int), .int .i64 e0] 111 (0, 0)) ∧
      Rd rowT S w' [.slice A (len - (16 + m)) (cap - (16 + m))] (xs.drop (16 + m)) ∧ Gr (fun b => b = q) w w' := by
  obtain ⟨K, hK⟩ : ∃ K, 16 + m = K := ⟨_, rfl⟩
  have hKi : (16 : Int) + (m : Int) = (K : Int) := by omega
  have hd := Rd.drop hx K (by omega)
  obtain ⟨hl, hc, hcm, hat, -⟩ := hx.ints
  obtain ⟨b, off, rfl, -⟩ := hat 0 (by omega)
  simp only [Ty.sz, Nat.mul_one, Option.map_some, Addr.add_none] at hd
  obtain ⟨A, hA⟩ : ∃ A, (if cap = K then some (⟨b, off, none⟩ : Addr) else some ⟨b, off + K, none⟩) = A := ⟨_, rfl⟩
  rw [hA] at hd
  have hui : (u : Int) + (K : Int) = ((u + K : Nat) : Int) := by omega
  have hwr : IntKind.i64.wrap (((u + K : Nat)) : Int) = ((u + K : Nat) : Int) := IntWalk.i64_in _ (by omega)
  have HD := Lib.hid hd
  have HQ := Lib.hid hq
  have HS := Lib.hid hS
  rw [hK]
  have hKl : K ≤ len := by omega
  have hS0 : w.drew.cell? ⟨q, 0, none⟩ = some (.slice (some ⟨b, off, none⟩) len cap) ∧ w.drew.cell? ⟨q, 1, none⟩ = some (.int .i64 u) := ⟨blk_cell hq 0, blk_cell hq 1⟩
  have s0 := blk_cell (w := w.drew) hq 0
  have s1 := blk_cell (w := w.drew) hq 1
  have fr0 := blk_frozen (w := w.drew) hq 0
  have fr1 := blk_frozen (w := w.drew) hq 1
  have s1' := blk_cell (w := (w.setCell ⟨q, 0, none⟩ (.slice A (len - K) (cap - K))).drew) (blk_set (i := 0) hq (.slice A (len - K) (cap - K))) 1
  have fr1' := blk_frozen (w := (w.setCell ⟨q, 0, none⟩ (.slice A (len - K) (cap - K))).drew) (blk_set (i := 0) hq (.slice A (len - K) (cap - K))) 1
  clear hx hl hat hq hS hd hK hm
  generalize hu' : u + K = uk at hui hwr ⊢
  clear hu'
  go_enter Tryz.func35, Tryz.ntmps35
  go_wp2
  refine wp_region_T (fun w' => w'.cell? ⟨q, 0, none⟩ = some (.slice (some ⟨b, off, none⟩) len cap) ∧ w'.cell? ⟨q, 1, none⟩ = some (.int .i64 u)) (fun i => i == 16 || i == 19) (by kernel_rfl) ?_
  refine wpAnyT_pure (i := 0) (v := ?_) rfl (by kernel_rfl) (by kernel_rfl) (by kernel_rfl) (fun _ _ _ h => h) (by rfl) ?_ ?_
  rotate_left
  · intro w; go_simp; try with_reducible rfl
  simp only [Act.put, List.setIfInBounds_toArray, List.set_cons_zero, List.set_cons_succ]
  refine wpAnyT_pure (i := 1) (v := ?_) rfl (by kernel_rfl) (by kernel_rfl) (by kernel_rfl) (fun _ _ _ h => h) (by rfl) ?_ ?_
  rotate_left
  · intro w; go_simp; try with_reducible rfl
  simp only [Act.put, List.setIfInBounds_toArray, List.set_cons_zero, List.set_cons_succ]
  refine wpAnyT_pure (i := 2) (v := ?_) rfl (by kernel_rfl) (by kernel_rfl) (by kernel_rfl) (fun _ _ _ h => h) (by rfl) ?_ ?_
  rotate_left
  · intro w; go_simp; try with_reducible rfl
  simp only [Act.put, List.setIfInBounds_toArray, List.set_cons_zero, List.set_cons_succ]
  refine wpAnyT_pure (i := 3) (v := ?_) rfl (by kernel_rfl) (by kernel_rfl) (by kernel_rfl) (fun _ _ _ h => h) (by rfl) ?_ ?_
  rotate_left
  · intro w; go_simp; try with_reducible rfl
  simp only [Act.put, List.setIfInBounds_toArray, List.set_cons_zero, List.set_cons_succ]
  refine wpAnyT_pure (i := 4) (v := ?_) rfl (by kernel_rfl) (by kernel_rfl) (by kernel_rfl) (fun _ _ _ h => h) (by rfl) ?_ ?_
  rotate_left
  · intro w; go_simp; try with_reducible rfl
  simp only [Act.put, List.setIfInBounds_toArray, List.set_cons_zero, List.set_cons_succ]
  refine wpAnyT_pure (i := 6) (v := ?_) rfl (by kernel_rfl) (by kernel_rfl) (by kernel_rfl) (fun _ _ _ h => h) (by rfl) ?_ ?_
  rotate_left
  · intro w; go_simp; try with_reducible rfl
  simp only [Act.put, List.setIfInBounds_toArray, List.set_cons_zero, List.set_cons_succ]
  refine wpAnyT_pure (i := 8) (v := ?_) rfl (by kernel_rfl) (by kernel_rfl) (by kernel_rfl) (fun _ _ _ h => h) (by rfl) ?_ ?_
  rotate_left
  · intro w; go_simp; try with_reducible rfl
  simp only [Act.put, List.setIfInBounds_toArray, List.set_cons_zero, List.set_cons_succ]
  refine wpAnyT_pure (i := 9) (v := ?_) rfl (by kernel_rfl) (by kernel_rfl) (by kernel_rfl) (fun _ _ _ h => h) (by rfl) ?_ ?_
  rotate_left
  · intro w; go_simp; try with_reducible rfl
  simp only [Act.put, List.setIfInBounds_toArray, List.set_cons_zero, List.set_cons_succ]
  refine wpAnyT_pure (i := 10) (v := ?_) rfl (by kernel_rfl) (by kernel_rfl) (by kernel_rfl) (fun _ _ _ h => h) (by rfl) ?_ ?_
  rotate_left
  · intro w; go_simp; try with_reducible rfl
  simp only [Act.put, List.setIfInBounds_toArray, List.set_cons_zero, List.set_cons_succ]
  refine wpAnyT_pure (i := 12) (v := ?_) rfl (by kernel_rfl) (by kernel_rfl) (by kernel_rfl) (fun _ _ _ h => h) (by rfl) ?_ ?_
  rotate_left
  · intro w; go_simp; try with_reducible rfl
  simp only [Act.put, List.setIfInBounds_toArray, List.set_cons_zero, List.set_cons_succ]
  refine wpAnyT_load (i := 5) (v := ?_) rfl (by kernel_rfl) (by kernel_rfl) (by kernel_rfl) (by kernel_rfl) (fun _ _ _ h => h) (Or.inl ⟨by rfl, ?_⟩) hS0 ?_
  rotate_left
  · intro w hSw; obtain ⟨e0, e1⟩ := hSw; go_simp; try with_reducible rfl
  simp only [Act.put, List.setIfInBounds_toArray, List.set_cons_zero, List.set_cons_succ]
  refine wpAnyT_pure (i := 7) (v := ?_) rfl (by kernel_rfl) (by kernel_rfl) (by kernel_rfl) (fun _ _ _ h => h) (by rfl) ?_ ?_
  rotate_left
  · intro w; go_simp; try with_reducible rfl
  simp only [Act.put, List.setIfInBounds_toArray, List.set_cons_zero, List.set_cons_succ]
  refine wpAnyT_load (i := 11) (v := ?_) rfl (by kernel_rfl) (by kernel_rfl) (by kernel_rfl) (by kernel_rfl) (fun _ _ _ h => h) (Or.inl ⟨by rfl, ?_⟩) hS0 ?_
  rotate_left
  · intro w hSw; obtain ⟨e0, e1⟩ := hSw; go_simp; try with_reducible rfl
  simp only [Act.put, List.setIfInBounds_toArray, List.set_cons_zero, List.set_cons_succ]
  refine wpAnyT_pure (i := 13) (v := ?_) rfl (by kernel_rfl) (by kernel_rfl) (by kernel_rfl) (fun _ _ _ h => h) (by rfl) ?_ ?_
  rotate_left
  · intro w; go_simp; try with_reducible rfl
  simp only [Act.put, List.setIfInBounds_toArray, List.set_cons_zero, List.set_cons_succ]
  refine wpAnyT_pure (i := 14) (v := ?_) rfl (by kernel_rfl) (by kernel_rfl) (by kernel_rfl) (fun _ _ _ h => h) (by rfl) ?_ ?_
  rotate_left
  · intro w; go_simp; try with_reducible rfl
  simp only [Act.put, List.setIfInBounds_toArray, List.set_cons_zero, List.set_cons_succ]
  refine wpAnyT_pure (i := 15) (v := ?_) rfl (by kernel_rfl) (by kernel_rfl) (by kernel_rfl) (fun _ _ _ h => h) (by rfl) ?_ ?_
  rotate_left
  · intro w; go_simp; try with_reducible rfl
  simp only [Act.put, List.setIfInBounds_toArray, List.set_cons_zero, List.set_cons_succ]
  refine wpAnyT_one (i := 16) (by kernel_rfl) rfl (by rfl) ?_
  go_simp
  refine wpAnyT_pure (i := 17) (v := ?_) rfl (by kernel_rfl) (by kernel_rfl) (by kernel_rfl) (fun _ _ _ h => h) (by rfl) ?_ ?_
  rotate_left
  · intro w; go_simp; try with_reducible rfl
  simp only [Act.put, List.setIfInBounds_toArray, List.set_cons_zero, List.set_cons_succ]
  refine wpAnyT_pure (i := 18) (v := ?_) rfl (by kernel_rfl) (by kernel_rfl) (by kernel_rfl) (fun _ _ _ h => h) (by rfl) ?_ ?_
  rotate_left
  · intro w; go_simp; try with_reducible rfl
  simp only [Act.put, List.setIfInBounds_toArray, List.set_cons_zero, List.set_cons_succ]
  refine wpAnyT_one (i := 19) (by kernel_rfl) rfl (by rfl) ?_
  go_simp
  refine wpAnyT_done (by kernel_rfl) ?_ _
  go_wp2
  go_end0
  refine ⟨⟨_, rfl⟩, A, ?_, ?_, ?_⟩
  · exact blk_set (w := (w.setCell ⟨q, 0, none⟩ _).drew) (i := 1) (blk_set (i := 0) HQ.out _) _
  · exact HD.out.gr (((Gr.refl (fun b => b = q) w).setCell (p := ⟨q, 0, none⟩) (.inl rfl) _).drew.setCell (p := ⟨q, 1, none⟩) (.inl rfl) _) (fun b hb => HS.out b hb) (fun _ h => h)
  · exact ((Gr.refl (fun b => b = q) w).setCell (p := ⟨q, 0, none⟩) (.inl rfl) _).drew.setCell (p := ⟨q, 1, none⟩) (.inl rfl) _
end Go.Proofs.YtlfloekanfhlfaaGreat
