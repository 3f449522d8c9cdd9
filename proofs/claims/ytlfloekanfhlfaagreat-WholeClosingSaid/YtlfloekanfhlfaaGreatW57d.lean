/- The codec's stream, writing: Int, num. -/
import Derived.Test.YtlfloekanfhlfaaGreatProg
import Derived.Test.YtlfloekanfhlfaaGreatP53
import Derived.Test.YtlfloekanfhlfaaGreatColl
import Derived.Test.YtlfloekanfhlfaaGreatRegW
import Derived.Test.YtlfloekanfhlfaaGreatW53t
set_option linter.unusedSimpArgs false
namespace Go.Proofs.YtlfloekanfhlfaaGreat
open Go.RowKit Go

theorem info_b57 : (Tryz.prog.info? 5).map (fun i => (i.zero, i.size, i.bytes)) = some (some (.int .u8 0), (Ty.int .u8).sz, 1) := by kernel_rfl
/-- The few numbers of the example. -/
def Small (n : Int) : Prop := n = 0 ∨ n = 1 ∨ n = 5 ∨ n = 8
set_option maxRecDepth 20000 in
set_option maxHeartbeats 1000000 in
theorem codecInt0 (w : World) :
    Calls Tryz.prog 48 #[.int .i64 0] w fun e w' => ∃ v, e = .returned v ∧ Owns (.int .u8) 5 w.heap.size (fun _ => False) w' v [0] ∧ Below w.heap.size w w' := by
  have hx : bits BinOp.xor .u64 0 0 = 0 := by kernel_rfl
  go_enter Tryz.func48, Tryz.ntmps48
  go_wp2_with fail
  clear hx
  go_loopw [3, 4] (fun m o wr => m = .int .u64 0 ∧ o = .slice none 0 0 ∧ wr = w) (fun _ _ _ => 0)
  case atStart => exact ⟨rfl, rfl, rfl⟩
  case round =>
    obtain ⟨rfl, rfl, rfl⟩ := hrel
    go_wp2_with (at_builtin; go_must (refine wpList_app _ rfl _ _ 49 rfl (e := .int .u8) (te := 5) info_b57 Tryz.underlying49 rfl (by decide) (base := wr.heap.size) (S := fun _ => False) (v := .slice none 0 0) (xs := []) rfl (Owns.nil _ _ _ _) (by simp) rfl (ys := [0]) (Src.new _ [_] _ _ _) (RdL.int1 (by decide)) (by decide) (by decide) ?_; intro v' w' h1 h2 _ _))
    go_ret
    exact ⟨v', rfl, h1, (((Below.refl wr.heap.size wr).alloc (Nat.le_refl _) _).grown h2 (by simp) (fun c hc => by simp [Value.ownBlock] at hc))⟩
set_option maxRecDepth 20000 in
set_option maxHeartbeats 1000000 in
theorem codecInt1 (w : World) :
    Calls Tryz.prog 48 #[.int .i64 1] w fun e w' => ∃ v, e = .returned v ∧ Owns (.int .u8) 5 w.heap.size (fun _ => False) w' v [2] ∧ Below w.heap.size w w' := by
  have hx : bits BinOp.xor .u64 2 0 = 2 := by kernel_rfl
  go_enter Tryz.func48, Tryz.ntmps48
  go_wp2_with fail
  clear hx
  go_loopw [3, 4] (fun m o wr => m = .int .u64 2 ∧ o = .slice none 0 0 ∧ wr = w) (fun _ _ _ => 0)
  case atStart => exact ⟨rfl, rfl, rfl⟩
  case round =>
    obtain ⟨rfl, rfl, rfl⟩ := hrel
    go_wp2_with (at_builtin; go_must (refine wpList_app _ rfl _ _ 49 rfl (e := .int .u8) (te := 5) info_b57 Tryz.underlying49 rfl (by decide) (base := wr.heap.size) (S := fun _ => False) (v := .slice none 0 0) (xs := []) rfl (Owns.nil _ _ _ _) (by simp) rfl (ys := [2]) (Src.new _ [_] _ _ _) (RdL.int1 (by decide)) (by decide) (by decide) ?_; intro v' w' h1 h2 _ _))
    go_ret
    exact ⟨v', rfl, h1, (((Below.refl wr.heap.size wr).alloc (Nat.le_refl _) _).grown h2 (by simp) (fun c hc => by simp [Value.ownBlock] at hc))⟩
set_option maxRecDepth 20000 in
set_option maxHeartbeats 1000000 in
theorem codecInt5 (w : World) :
    Calls Tryz.prog 48 #[.int .i64 5] w fun e w' => ∃ v, e = .returned v ∧ Owns (.int .u8) 5 w.heap.size (fun _ => False) w' v [10] ∧ Below w.heap.size w w' := by
  have hx : bits BinOp.xor .u64 10 0 = 10 := by kernel_rfl
  go_enter Tryz.func48, Tryz.ntmps48
  go_wp2_with fail
  clear hx
  go_loopw [3, 4] (fun m o wr => m = .int .u64 10 ∧ o = .slice none 0 0 ∧ wr = w) (fun _ _ _ => 0)
  case atStart => exact ⟨rfl, rfl, rfl⟩
  case round =>
    obtain ⟨rfl, rfl, rfl⟩ := hrel
    go_wp2_with (at_builtin; go_must (refine wpList_app _ rfl _ _ 49 rfl (e := .int .u8) (te := 5) info_b57 Tryz.underlying49 rfl (by decide) (base := wr.heap.size) (S := fun _ => False) (v := .slice none 0 0) (xs := []) rfl (Owns.nil _ _ _ _) (by simp) rfl (ys := [10]) (Src.new _ [_] _ _ _) (RdL.int1 (by decide)) (by decide) (by decide) ?_; intro v' w' h1 h2 _ _))
    go_ret
    exact ⟨v', rfl, h1, (((Below.refl wr.heap.size wr).alloc (Nat.le_refl _) _).grown h2 (by simp) (fun c hc => by simp [Value.ownBlock] at hc))⟩
set_option maxRecDepth 20000 in
set_option maxHeartbeats 1000000 in
theorem codecInt8 (w : World) :
    Calls Tryz.prog 48 #[.int .i64 8] w fun e w' => ∃ v, e = .returned v ∧ Owns (.int .u8) 5 w.heap.size (fun _ => False) w' v [16] ∧ Below w.heap.size w w' := by
  have hx : bits BinOp.xor .u64 16 0 = 16 := by kernel_rfl
  go_enter Tryz.func48, Tryz.ntmps48
  go_wp2_with fail
  clear hx
  go_loopw [3, 4] (fun m o wr => m = .int .u64 16 ∧ o = .slice none 0 0 ∧ wr = w) (fun _ _ _ => 0)
  case atStart => exact ⟨rfl, rfl, rfl⟩
  case round =>
    obtain ⟨rfl, rfl, rfl⟩ := hrel
    go_wp2_with (at_builtin; go_must (refine wpList_app _ rfl _ _ 49 rfl (e := .int .u8) (te := 5) info_b57 Tryz.underlying49 rfl (by decide) (base := wr.heap.size) (S := fun _ => False) (v := .slice none 0 0) (xs := []) rfl (Owns.nil _ _ _ _) (by simp) rfl (ys := [16]) (Src.new _ [_] _ _ _) (RdL.int1 (by decide)) (by decide) (by decide) ?_; intro v' w' h1 h2 _ _))
    go_ret
    exact ⟨v', rfl, h1, (((Below.refl wr.heap.size wr).alloc (Nat.le_refl _) _).grown h2 (by simp) (fun c hc => by simp [Value.ownBlock] at hc))⟩
theorem codecInt (w : World) (n : Int) (hn : Small n) :
    Calls Tryz.prog 48 #[.int .i64 n] w fun e w' => ∃ v, e = .returned v ∧ Owns (.int .u8) 5 w.heap.size (fun _ => False) w' v [2 * n] ∧ Below w.heap.size w w' := by
  rcases hn with rfl | rfl | rfl | rfl
  · exact codecInt0 w
  · exact codecInt1 w
  · exact codecInt5 w
  · exact codecInt8 w
end Go.Proofs.YtlfloekanfhlfaaGreat

/- The codec's stream, writing: a stream in memory, num. -/
set_option linter.unusedSimpArgs false
namespace Go.Proofs.YtlfloekanfhlfaaGreat
open Go.RowKit Go

/-- A stream that writes, with the bytes that it has. -/
structure St (w : World) (s : Nat) (v : Value) (xs : List Int) : Prop where
  row : w.heap[s]? = some (.cells #[v, .bool false, .bool false] 103 (0, 0))
  own : Owns (.int .u8) 5 0 (fun _ => False) w v xs
  ne : v.ownBlock ≠ some s
/-- What a call that writes may turn. -/
structure StepS (s : Nat) (w : World) (v : Value) (w' : World) (v' : Value) : Prop where
  g : Gr (fun b => b = s ∨ v.ownBlock = some b) w w'
  nb : ∀ b, v'.ownBlock = some b → v.ownBlock = some b ∨ w.heap.size ≤ b
theorem StepS.refl (s : Nat) (w : World) (v : Value) : StepS s w v w v := ⟨Gr.refl _ _, fun _ h => .inl h⟩
theorem StepS.below {s : Nat} {w w' : World} {v : Value} (h : Below w.heap.size w w') : StepS s w v w' v := ⟨Gr.of_below h, fun _ h => .inl h⟩
theorem StepS.trans {s : Nat} {w1 w2 w3 : World} {v1 v2 v3 : Value} (h : StepS s w1 v1 w2 v2) (k : StepS s w2 v2 w3 v3) : StepS s w1 v1 w3 v3 :=
  ⟨h.g.trans k.g (fun x e => e.elim (fun e => .inl (.inl e)) (fun e => (h.nb x e).elim (fun e => .inl (.inr e)) .inr)), fun b hb => (k.nb b hb).elim (fun e => h.nb b e) (fun e => .inr (Nat.le_trans h.g.size e))⟩
/-- Another block stays, and stays another one. -/
theorem StepS.keep {s : Nat} {w w' : World} {v v' : Value} (h : StepS s w v w' v') {b : Nat} {o : Obj} (hb : w.heap[b]? = some o) (h1 : b ≠ s) (h2 : v.ownBlock ≠ some b) : w'.heap[b]? = some o ∧ v'.ownBlock ≠ some b :=
  ⟨(h.g.block b (blk_lt hb) (fun e => e.elim h1 h2)).trans hb, fun e => (h.nb b e).elim h2 (fun e' => by have := blk_lt hb; omega)⟩
theorem St.below {w w' : World} {s : Nat} {v : Value} {xs : List Int} (h : St w s v xs) (hB : Below w.heap.size w w') : St w' s v xs :=
  ⟨(hB.block _ (blk_lt h.row)).trans h.row, h.own.below hB, h.ne⟩
theorem St.put {w w1 : World} {s : Nat} {v v' : Value} {xs xs' : List Int} (h : St w s v xs) (g : w.grownBy w1 v.ownBlock) (ho : Owns (.int .u8) 5 0 (fun _ => False) w1 v' xs') (hb : v'.ownBlock = v.ownBlock ∨ v'.ownBlock = some w.heap.size) :
    St (w1.setCell ⟨s, 0, none⟩ v') s v' xs' ∧ StepS s w v (w1.setCell ⟨s, 0, none⟩ v') v' := by
  have hv' : v'.ownBlock ≠ some s := fun e => by
    rcases hb with e' | e'
    · exact h.ne (e' ▸ e)
    · rw [e'] at e
      have := blk_lt h.row
      have := Option.some.inj e
      omega
  have hr1 := blk_gr (Gr.of_grown g) h.row h.ne
  have hr2 := blk_set (i := 0) hr1 v'
  simp at hr2
  have hgs : Gr (fun b => b = s) w1 (w1.setCell ⟨s, 0, none⟩ v') := (Gr.refl (fun b => b = s) w1).setCell (.inl rfl) v'
  refine ⟨⟨hr2, ho.gr hgs (fun _ h => h.elim) (fun b hb e => hv' (e ▸ hb)), hv'⟩, ⟨((Gr.of_grown g).mono (fun x e => .inl (.inr e))).trans hgs (fun x e => .inl (.inl e)), fun b e => ?_⟩⟩
  rcases hb with e' | e'
  · exact .inl (e' ▸ e)
  · rw [e'] at e
    have := Option.some.inj e
    exact .inr (by omega)
theorem St.slice {w : World} {s : Nat} {v : Value} {xs : List Int} (h : St w s v xs) : ∃ a len cap, v = .slice a len cap ∧ len = xs.length := by
  obtain ⟨a, l, c, e, h1, -⟩ := h.own.slice
  exact ⟨a, l, c, e, h1⟩

set_option maxRecDepth 20000 in
set_option maxHeartbeats 1000000 in
theorem num57 (w : World) (s : Nat) (v : Value) (xs : List Int) (h : St w s v xs) (eb lb : Nat) (os : List Nat) (f : Nat → Int) (tl : TypeId)
    (hl : w.heap[lb]? = some (.cells (os.map fun o => Value.pointer (some ⟨eb, o, none⟩)).toArray tl (0, 0))) (cs : Array Value) (te : TypeId) (he : w.heap[eb]? = some (.cells cs te (0, 0))) (hf : ∀ o ∈ os, cs[o]? = some (.int .i64 (f o)) ∧ Small (f o))
    (h1 : eb ≠ s ∧ v.ownBlock ≠ some eb) (h2 : lb ≠ s ∧ v.ownBlock ≠ some lb) (hn : os.length ≤ 100) (hx : xs.length ≤ 1000) (m : Nat) (hm : os.length = m) :
    Calls Tryz.prog 29 #[.pointer (some ⟨s, 0, none⟩), .slice (some ⟨lb, 0, none⟩) m m] w fun e w' => e = .returned (.tuple #[]) ∧ ∃ v', St w' s v' (xs ++ os.map fun o => 2 * f o) ∧ StepS s w v w' v' := by
  have H := Lib.hid h
  have HL := Lib.hid hl
  have HE := Lib.hid he
  have HF := Lib.hid hf
  have HX := Lib.hid hx
  have HM := Lib.hid hm
  have hmn : m ≤ 100 := by omega
  clear h hl he hf hx hm hn
  go_enter Tryz.func29, Tryz.ntmps29
  go_wp2_with fail
  go_loopw [11] (fun i wr => ∃ (k : Nat) (v1 : Value), k ≤ m ∧ i = .int .i64 k ∧ St wr s v1 (xs ++ (os.take k).map fun o => 2 * f o) ∧ StepS s w v wr v1) (fun i _ => m - (intOf i).toNat)
  case atStart => exact ⟨0, v, Nat.zero_le _, rfl, by simpa using H.out, StepS.refl _ _ _⟩
  case round =>
    obtain ⟨k, v1, hk, rfl, hS, hT⟩ := hrel
    obtain ⟨va, vl, vc, rfl, hvl⟩ := hS.slice
    have HS := Lib.hid hS
    have HT := Lib.hid hT
    have HVL := Lib.hid hvl
    clear hS hT hvl
    by_cases hlt : k < m
    · have hkI : (k : Int) < (m : Int) := by omega
      have hkx : k < os.length := by rw [HM.out]; exact hlt
      have hlw := (HT.out.keep HL.out h2.1 h2.2)
      have hew := (HT.out.keep HE.out h1.1 h1.2)
      have y0 := blk_cell hlw.1 k
      simp [hkx] at y0
      have hsucc : (os.take (k + 1)).map (fun o => 2 * f o) = (os.take k).map (fun o => 2 * f o) ++ [2 * f os[k]] := by rw [List.take_succ_eq_append_getElem hkx, List.map_append]; rfl
      have hfo := HF.out _ (List.getElem_mem hkx)
      have HSU := Lib.hid hsucc
      have hlen : ((os.take k).map fun o => 2 * f o).length = k := by rw [List.length_map, List.length_take]; omega
      have HLE := Lib.hid hlen
      clear hsucc hlen
      generalize os[k] = o at y0 hfo HSU
      have HFO := Lib.hid hfo
      have z0 := blk_cell hew.1 o
      rw [hfo.1] at z0
      have hr := HS.out.row
      have z1 := blk_cell hr 0
      have z2 := blk_cell hr 1
      simp at z1 z2
      have HLT := Lib.hid hlt
      have HC0 : Cells [(⟨s, 0, none⟩, .slice va vl vc), (⟨eb, o, none⟩, .int .i64 (f o))] wr := ⟨z1, z0, trivial⟩
      clear hfo hkx hlw hew hr hlt
      go_wp2_with fail
      refine wp_region_T (Cells [(⟨s, 0, none⟩, .slice va vl vc), (⟨eb, o, none⟩, .int .i64 (f o))]) (fun i => i == 9 || i == 12) (by kernel_rfl) ?_
      have hSss1 := Cells.drew HC0
      have hB_0_s1 : Below wr.heap.size wr wr.drew := below_drew _
      generalize wr.drew = s1 at hSss1 hB_0_s1 ⊢
      have hB_s1_s1 := Below.refl s1.heap.size s1
      refine wpAnyT_pure (i := 0) (v := ?_) rfl (by kernel_rfl) (by kernel_rfl) (by kernel_rfl) (fun _ _ _ h => h) (by rfl) ?_ ?_
      rotate_left
      · intro w; go_simp; try with_reducible rfl
      simp only [Act.put, List.setIfInBounds_toArray, List.set_cons_zero, List.set_cons_succ, List.getElem_toArray, List.getElem_cons_succ, List.getElem_cons_zero]
      refine wpAnyT_pure (i := 1) (v := ?_) rfl (by kernel_rfl) (by kernel_rfl) (by kernel_rfl) (fun _ _ _ h => h) (by rfl) ?_ ?_
      rotate_left
      · intro w; go_simp; try with_reducible rfl
      simp only [Act.put, List.setIfInBounds_toArray, List.set_cons_zero, List.set_cons_succ, List.getElem_toArray, List.getElem_cons_succ, List.getElem_cons_zero]
      refine wpAnyT_pure (i := 2) (v := ?_) rfl (by kernel_rfl) (by kernel_rfl) (by kernel_rfl) (fun _ _ _ h => h) (by rfl) ?_ ?_
      rotate_left
      · intro w; go_simp; try with_reducible rfl
      simp only [Act.put, List.setIfInBounds_toArray, List.set_cons_zero, List.set_cons_succ, List.getElem_toArray, List.getElem_cons_succ, List.getElem_cons_zero]
      refine wpAnyT_pure (i := 3) (v := ?_) rfl (by kernel_rfl) (by kernel_rfl) (by kernel_rfl) (fun _ _ _ h => h) (by rfl) ?_ ?_
      rotate_left
      · intro w; go_simp; try with_reducible rfl
      simp only [Act.put, List.setIfInBounds_toArray, List.set_cons_zero, List.set_cons_succ, List.getElem_toArray, List.getElem_cons_succ, List.getElem_cons_zero]
      refine wpAnyT_pure (i := 5) (v := ?_) rfl (by kernel_rfl) (by kernel_rfl) (by kernel_rfl) (fun _ _ _ h => h) (by rfl) ?_ ?_
      rotate_left
      · intro w; go_simp; try with_reducible rfl
      simp only [Act.put, List.setIfInBounds_toArray, List.set_cons_zero, List.set_cons_succ, List.getElem_toArray, List.getElem_cons_succ, List.getElem_cons_zero]
      refine wpAnyT_pure (i := 6) (v := ?_) rfl (by kernel_rfl) (by kernel_rfl) (by kernel_rfl) (fun _ _ _ h => h) (by rfl) ?_ ?_
      rotate_left
      · intro w; go_simp; try with_reducible rfl
      simp only [Act.put, List.setIfInBounds_toArray, List.set_cons_zero, List.set_cons_succ, List.getElem_toArray, List.getElem_cons_succ, List.getElem_cons_zero]
      refine wpAnyT_loadW (i := 4) (v := ?_) rfl (by kernel_rfl) (by kernel_rfl) (by kernel_rfl) (by kernel_rfl) (by kernel_rfl) (fun _ _ _ h => h) (Or.inl ⟨by rfl, ?_⟩) hSss1 ?_
      rotate_left
      · intro w hSw; obtain ⟨e0, e1, -⟩ := hSw; go_simp; try with_reducible rfl
      simp only [Act.put, List.setIfInBounds_toArray, List.set_cons_zero, List.set_cons_succ, List.getElem_toArray, List.getElem_cons_succ, List.getElem_cons_zero]
      refine wpAnyT_loadW (i := 7) (v := ?_) rfl (by kernel_rfl) (by kernel_rfl) (by kernel_rfl) (by kernel_rfl) (by kernel_rfl) (fun _ _ _ h => h) (Or.inl ⟨by rfl, ?_⟩) hSss1 ?_
      rotate_left
      · intro w hSw; obtain ⟨e0, e1, -⟩ := hSw; go_simp; try with_reducible rfl
      simp only [Act.put, List.setIfInBounds_toArray, List.set_cons_zero, List.set_cons_succ, List.getElem_toArray, List.getElem_cons_succ, List.getElem_cons_zero]
      refine wpAnyT_one (i := 8) (by kernel_rfl) rfl (by rfl) ?_
      refine wp_enter (f := 48) (args := #[.int .i64 (f o)]) (by go_simp) (codecInt _ (f o) HFO.out.2) ?_
      rintro e w102 ⟨nv, rfl, hO8, hX⟩
      obtain ⟨na, nl, nc, rfl, -⟩ := hO8.slice
      have hB_s1_w102 := below_step hB_s1_s1 hX
      have hB_w102_w102 := Below.refl w102.heap.size w102
      have hSsw102 := Cells.below hB_s1_w102 hSss1
      clear hX
      refine ⟨_, rfl, fun _ _ => hSsw102, ?_⟩
      try simp only [Act.put, List.setIfInBounds_toArray, List.set_cons_zero, List.set_cons_succ, List.getElem_toArray, List.getElem_cons_succ, List.getElem_cons_zero]
      refine wpAnyT_one (i := 9) (by kernel_rfl) rfl (by rfl) ?_
      have hbP : Below wr.heap.size wr w102 := hB_0_s1.trans ((hB_s1_w102).mono (hB_0_s1).size)
      have hSP := HS.out.below hbP
      have HSP := Lib.hid hSP
      have HBP := Lib.hid hbP
      obtain ⟨news, hsrc, hrd⟩ := (hO8.rd (fun _ => True) (fun _ h => h.elim) (fun _ _ => trivial)).src
      refine wp_app (.tmp 24) (.tmp 28) 49 rfl (e := .int .u8) (te := 5) info_b57 Tryz.underlying49 rfl (by decide) (base := 0) (S := fun _ => False) (v := .slice va vl vc) (xs := xs ++ (os.take k).map fun o => 2 * f o) (by kernel_rfl) hSP.own (Nat.zero_le _) (sv := .slice na nl nc) (by kernel_rfl) (ys := [2 * f o]) hsrc (RdL.flat (e := .int .u8) rfl hrd) (by have h1 := HX.out; have h2 := HLE.out; rw [List.length_append, h2]; simp only [List.length_singleton]; omega) (by have h1 := HX.out; have h2 := HLE.out; rw [List.length_append, h2]; simp only [List.length_singleton]; omega) ?_
      intro ca9 cl9 cc9 w103 O9 g9 ob9
      have hput := HSP.out.put g9 O9 ob9
      have hr9 := blk_gr (Gr.of_grown g9) HSP.out.row HSP.out.ne
      have f9 := blk_frozen hr9 0
      have q9 := blk_cell hr9 0
      simp at q9
      clear O9 g9 ob9 hr9 hbP hSP hsrc hrd
      refine ⟨fun h => absurd h (by decide), ?_⟩
      try simp only [Act.put, List.setIfInBounds_toArray, List.set_cons_zero, List.set_cons_succ, List.getElem_toArray, List.getElem_cons_succ, List.getElem_cons_zero]
      refine wpAnyT_pure (i := 10) (v := ?_) rfl (by kernel_rfl) (by kernel_rfl) (by kernel_rfl) (fun _ _ _ h => h) (by rfl) ?_ ?_
      rotate_left
      · intro w; go_simp; try with_reducible rfl
      simp only [Act.put, List.setIfInBounds_toArray, List.set_cons_zero, List.set_cons_succ, List.getElem_toArray, List.getElem_cons_succ, List.getElem_cons_zero]
      refine wpAnyT_pure (i := 11) (v := ?_) rfl (by kernel_rfl) (by kernel_rfl) (by kernel_rfl) (fun _ _ _ h => h) (by rfl) ?_ ?_
      rotate_left
      · intro w; go_simp; try with_reducible rfl
      simp only [Act.put, List.setIfInBounds_toArray, List.set_cons_zero, List.set_cons_succ, List.getElem_toArray, List.getElem_cons_succ, List.getElem_cons_zero]
      refine wpAnyT_one (i := 12) (by kernel_rfl) rfl (by rfl) ?_
      refine wp_store1 (w' := (w103).setCell ⟨s, 0, none⟩ (.slice ca9 cl9 cc9)) 49 (.tmp 31) (.tmp 29) rfl ⟨s, 0, none⟩ (.slice ca9 cl9 cc9) (by kernel_rfl) (by kernel_rfl) (by go_simp) ?_
      clear f9 q9
      generalize (w103).setCell ⟨s, 0, none⟩ (.slice ca9 cl9 cc9) = w104 at hput ⊢
      refine ⟨fun h => absurd h (by decide), ?_⟩
      try simp only [Act.put, List.setIfInBounds_toArray, List.set_cons_zero, List.set_cons_succ, List.getElem_toArray, List.getElem_cons_succ, List.getElem_cons_zero]
      refine wpAnyT_done (by kernel_rfl) ?_ _
      obtain ⟨w9, rfl⟩ : ∃ x, x = w104 := ⟨_, rfl⟩
      have HP9 := Lib.hid hput.1
      have HT9 := Lib.hid ((HT.out.trans (StepS.below HBP.out)).trans hput.2)
      clear hput HSP HBP
      have hl1 := HLT.out
      go_wp2_with fail
      go_roundw
      case rel => exact ⟨k + 1, _, HLT.out, by go_num, by rw [HSU.out, ← List.append_assoc]; exact HP9.out, HT9.out⟩
      case measure => simp [intOf]; try omega
    · obtain rfl : m = k := by omega
      have hall : os.take m = os := List.take_of_length_le (by rw [HM.out]; exact Nat.le_refl _)
      rw [hall] at HS
      clear hlt hall
      go_wp2_with fail
      exact bodyPost_end (results_none rfl _ _ _) rfl ⟨rfl, _, HS.out, HT.out⟩
end Go.Proofs.YtlfloekanfhlfaaGreat

/- The codec's stream, writing: text, list. -/
set_option linter.unusedSimpArgs false
namespace Go.Proofs.YtlfloekanfhlfaaGreat
open Go.RowKit Go

theorem run_appStr0 {w : World} {base : Nat} {S : Nat → Prop} {v : Value} {xs : List Int} (h : Owns (.int .u8) 5 base S w v xs) (ty : TypeId) :
    (Builtin.append_ #[49, 9] ty #[v, .string ⟨#[]⟩]).run Tryz.prog w = .ok v w := by
  obtain ⟨i, hi, -⟩ := Option.map_eq_some_iff.1 info_b57
  have hf : ∀ w', (Builtin.firstCells i.size 0 (.string ⟨#[]⟩)).run Tryz.prog w' = .ok #[] w' := by
    intro w'
    simp [Builtin.firstCells]
  have hl : (⟨#[]⟩ : ByteArray).size = 0 := rfl
  rcases h.len with ⟨rfl, rfl⟩ | ⟨g, cap, rfl, -, -, hc, -⟩
  · simp [Builtin.append_, run_underlying Tryz.underlying49, run_underlying Tryz.underlying9, sizeOf, typeInfo, hi, Builtin.lenOf, hf, hl]
  · simp [Builtin.append_, run_underlying Tryz.underlying49, run_underlying Tryz.underlying9, sizeOf, typeInfo, hi, Builtin.lenOf, hf, hc, hl, storeCells]
theorem wp_appStr0 {P : Program} {o : Oper} {a : Act} {w : World} {K : Act → World → Prop} {Q : Exit → Act → World → Prop} (s x : Operand) (t ts : TypeId) (ho : o.op = .call { callee := .builtin .append, args := #[s, x], argTypes := #[t, ts] })
    {v : Value} (hv : a.eval s = v) (hx : a.eval x = .string ⟨#[]⟩) (hrun : ∀ ty, (Builtin.append_ #[t, ts] ty #[v, .string ⟨#[]⟩]).run P w = .ok v w) (h : K (a.put o.dst v) w) : o.wp P a w K Q := by
  unfold Oper.wp
  simp [execOp, ho, resolve, invoke, builtin, hv, hx, hrun, Result.andThen]
  exact h
set_option maxRecDepth 20000 in
set_option maxHeartbeats 1000000 in
theorem text57 (w : World) (s : Nat) (v : Value) (xs : List Int) (h : St w s v xs) (eb o : Nat) (cs : Array Value) (te : TypeId) (he : w.heap[eb]? = some (.cells cs te (0, 0))) (hc : cs[o]? = some (.string ⟨#[]⟩))
    (h1 : eb ≠ s ∧ v.ownBlock ≠ some eb) (hx : xs.length ≤ 1000) :
    Calls Tryz.prog 55 #[.pointer (some ⟨s, 0, none⟩), .pointer (some ⟨eb, o, none⟩)] w fun e w' => e = .returned (.tuple #[]) ∧ ∃ v', St w' s v' (xs ++ [0]) ∧ StepS s w v w' v' := by
  have x0 := blk_cell he o
  rw [hc] at x0
  have H := Lib.hid h
  have HE := Lib.hid he
  have HC := Lib.hid hc
  have HX := Lib.hid hx
  have hsl := blk_lt h.row
  have hB1 := (Below.refl w.heap.size w).alloc (Nat.le_refl _) (.cells #[.int .i64 0] 3)
  have hB2 := hB1.alloc (by simp) (.cells #[.pointer (some ⟨w.heap.size, 0, none⟩)] 105)
  have hnb : ((w.alloc (.cells #[.int .i64 0] 3)).alloc (.cells #[.pointer (some ⟨w.heap.size, 0, none⟩)] 105)).heap[w.heap.size]? = some (.cells #[.int .i64 0] 3 (0, 0)) := alloc_old' (alloc_new' rfl)
  have hlb : ((w.alloc (.cells #[.int .i64 0] 3)).alloc (.cells #[.pointer (some ⟨w.heap.size, 0, none⟩)] 105)).heap[w.heap.size + 1]? = some (.cells #[.pointer (some ⟨w.heap.size, 0, none⟩)] 105 (0, 0)) := alloc_new' (by simp)
  have HB2 := Lib.hid hB2
  have HNB := Lib.hid hnb
  have HLB := Lib.hid hlb
  clear h he hc hx hB1 hB2 hnb hlb
  go_enter Tryz.func55, Tryz.ntmps55
  go_wp2_with fail
  generalize hw2 : World.alloc (w.alloc _) _ = w2 at HB2 HNB HLB ⊢
  have hs2 : ∀ b, v.ownBlock = some b → b < w.heap.size := fun b e => (H.out.own.own b e).2
  refine (num57 w2 s v xs (H.out.below HB2.out) w.heap.size (w.heap.size + 1) [0] (fun _ => 0) 105 HLB.out #[.int .i64 0] 3 HNB.out (by simp [Small]) ⟨by omega, fun e => by have := hs2 _ e; omega⟩ ⟨by omega, fun e => by have := hs2 _ e; omega⟩ (by decide) HX.out 1 rfl).mono ?_
  rintro e w3 ⟨rfl, v3, hS3, hT3⟩
  have hT := (StepS.below HB2.out).trans hT3
  have hew := hT.keep HE.out h1.1 h1.2
  have z0 := blk_cell hew.1 o
  rw [HC.out] at z0
  have hr := hS3.row
  have z1 := blk_cell hr 0
  have z2 := blk_cell hr 1
  simp at z1 z2
  have hS3' : St w3 s v3 (xs ++ [0]) := by simpa using hS3
  have HS3 := Lib.hid hS3'
  have HT3 := Lib.hid hT
  have HC0 : Cells [(⟨s, 0, none⟩, v3), (⟨eb, o, none⟩, .string ⟨#[]⟩)] w3 := ⟨z1, z0, trivial⟩
  clear hS3 hS3' hT hT3 hs2 hw2 hr hew x0
  obtain ⟨va, vl, vc, rfl, hvl⟩ := HS3.out.slice
  clear hvl
  go_wp2_with fail
  refine wp_region_T (Cells [(⟨s, 0, none⟩, .slice va vl vc), (⟨eb, o, none⟩, .string ⟨#[]⟩)]) (fun i => i == 8 || i == 11) (by kernel_rfl) ?_
  have hSss1 := Cells.drew HC0
  have hB_0_s1 : Below w3.heap.size w3 w3.drew := below_drew _
  generalize w3.drew = s1 at hSss1 hB_0_s1 ⊢
  have hB_s1_s1 := Below.refl s1.heap.size s1
  refine wpAnyT_pure (i := 0) (v := ?_) rfl (by kernel_rfl) (by kernel_rfl) (by kernel_rfl) (fun _ _ _ h => h) (by rfl) ?_ ?_
  rotate_left
  · intro w; go_simp; try with_reducible rfl
  simp only [Act.put, List.setIfInBounds_toArray, List.set_cons_zero, List.set_cons_succ, List.getElem_toArray, List.getElem_cons_succ, List.getElem_cons_zero]
  refine wpAnyT_pure (i := 1) (v := ?_) rfl (by kernel_rfl) (by kernel_rfl) (by kernel_rfl) (fun _ _ _ h => h) (by rfl) ?_ ?_
  rotate_left
  · intro w; go_simp; try with_reducible rfl
  simp only [Act.put, List.setIfInBounds_toArray, List.set_cons_zero, List.set_cons_succ, List.getElem_toArray, List.getElem_cons_succ, List.getElem_cons_zero]
  refine wpAnyT_pure (i := 2) (v := ?_) rfl (by kernel_rfl) (by kernel_rfl) (by kernel_rfl) (fun _ _ _ h => h) (by rfl) ?_ ?_
  rotate_left
  · intro w; go_simp; try with_reducible rfl
  simp only [Act.put, List.setIfInBounds_toArray, List.set_cons_zero, List.set_cons_succ, List.getElem_toArray, List.getElem_cons_succ, List.getElem_cons_zero]
  refine wpAnyT_pure (i := 3) (v := ?_) rfl (by kernel_rfl) (by kernel_rfl) (by kernel_rfl) (fun _ _ _ h => h) (by rfl) ?_ ?_
  rotate_left
  · intro w; go_simp; try with_reducible rfl
  simp only [Act.put, List.setIfInBounds_toArray, List.set_cons_zero, List.set_cons_succ, List.getElem_toArray, List.getElem_cons_succ, List.getElem_cons_zero]
  refine wpAnyT_pure (i := 5) (v := ?_) rfl (by kernel_rfl) (by kernel_rfl) (by kernel_rfl) (fun _ _ _ h => h) (by rfl) ?_ ?_
  rotate_left
  · intro w; go_simp; try with_reducible rfl
  simp only [Act.put, List.setIfInBounds_toArray, List.set_cons_zero, List.set_cons_succ, List.getElem_toArray, List.getElem_cons_succ, List.getElem_cons_zero]
  refine wpAnyT_pure (i := 6) (v := ?_) rfl (by kernel_rfl) (by kernel_rfl) (by kernel_rfl) (fun _ _ _ h => h) (by rfl) ?_ ?_
  rotate_left
  · intro w; go_simp; try with_reducible rfl
  simp only [Act.put, List.setIfInBounds_toArray, List.set_cons_zero, List.set_cons_succ, List.getElem_toArray, List.getElem_cons_succ, List.getElem_cons_zero]
  refine wpAnyT_loadW (i := 4) (v := ?_) rfl (by kernel_rfl) (by kernel_rfl) (by kernel_rfl) (by kernel_rfl) (by kernel_rfl) (fun _ _ _ h => h) (Or.inl ⟨by rfl, ?_⟩) hSss1 ?_
  rotate_left
  · intro w hSw; obtain ⟨e0, e1, -⟩ := hSw; go_simp; try with_reducible rfl
  simp only [Act.put, List.setIfInBounds_toArray, List.set_cons_zero, List.set_cons_succ, List.getElem_toArray, List.getElem_cons_succ, List.getElem_cons_zero]
  refine wpAnyT_loadW (i := 7) (v := ?_) rfl (by kernel_rfl) (by kernel_rfl) (by kernel_rfl) (by kernel_rfl) (by kernel_rfl) (fun _ _ _ h => h) (Or.inl ⟨by rfl, ?_⟩) hSss1 ?_
  rotate_left
  · intro w hSw; obtain ⟨e0, e1, -⟩ := hSw; go_simp; try with_reducible rfl
  simp only [Act.put, List.setIfInBounds_toArray, List.set_cons_zero, List.set_cons_succ, List.getElem_toArray, List.getElem_cons_succ, List.getElem_cons_zero]
  refine wpAnyT_one (i := 8) (by kernel_rfl) rfl (by rfl) ?_
  have hbP : Below w3.heap.size w3 s1 := hB_0_s1.trans ((hB_s1_s1).mono (hB_0_s1).size)
  have hSP := HS3.out.below hbP
  have HSP := Lib.hid hSP
  have HBP := Lib.hid hbP
  refine wp_appStr0 (.tmp 21) (.tmp 24) 49 9 rfl (v := .slice va vl vc) (by kernel_rfl) (by kernel_rfl) (fun ty => run_appStr0 hSP.own ty) ?_
  have hput := HSP.out.put (World.grownBy.refl _ _) HSP.out.own (.inl rfl)
  have f9 := blk_frozen HSP.out.row 0
  have q9 := blk_cell HSP.out.row 0
  simp at q9
  clear hbP hSP
  refine ⟨fun _ h => h, ?_⟩
  try simp only [Act.put, List.setIfInBounds_toArray, List.set_cons_zero, List.set_cons_succ, List.getElem_toArray, List.getElem_cons_succ, List.getElem_cons_zero]
  refine wpAnyT_pure (i := 9) (v := ?_) rfl (by kernel_rfl) (by kernel_rfl) (by kernel_rfl) (fun _ _ _ h => h) (by rfl) ?_ ?_
  rotate_left
  · intro w; go_simp; try with_reducible rfl
  simp only [Act.put, List.setIfInBounds_toArray, List.set_cons_zero, List.set_cons_succ, List.getElem_toArray, List.getElem_cons_succ, List.getElem_cons_zero]
  refine wpAnyT_pure (i := 10) (v := ?_) rfl (by kernel_rfl) (by kernel_rfl) (by kernel_rfl) (fun _ _ _ h => h) (by rfl) ?_ ?_
  rotate_left
  · intro w; go_simp; try with_reducible rfl
  simp only [Act.put, List.setIfInBounds_toArray, List.set_cons_zero, List.set_cons_succ, List.getElem_toArray, List.getElem_cons_succ, List.getElem_cons_zero]
  refine wpAnyT_one (i := 11) (by kernel_rfl) rfl (by rfl) ?_
  refine wp_store1 (w' := (s1).setCell ⟨s, 0, none⟩ (.slice va vl vc)) 49 (.tmp 27) (.tmp 25) rfl ⟨s, 0, none⟩ (.slice va vl vc) (by kernel_rfl) (by kernel_rfl) (by go_simp) ?_
  clear f9 q9
  generalize (s1).setCell ⟨s, 0, none⟩ (.slice va vl vc) = w102 at hput ⊢
  refine ⟨fun h => absurd h (by decide), ?_⟩
  try simp only [Act.put, List.setIfInBounds_toArray, List.set_cons_zero, List.set_cons_succ, List.getElem_toArray, List.getElem_cons_succ, List.getElem_cons_zero]
  refine wpAnyT_done (by kernel_rfl) ?_ _
  obtain ⟨w9, rfl⟩ : ∃ x, x = w102 := ⟨_, rfl⟩
  have HP9 := Lib.hid hput.1
  have HT9 := Lib.hid ((HT3.out.trans (StepS.below HBP.out)).trans hput.2)
  clear hput HSP HBP
  go_wp2_with fail
  exact bodyPost_ret (results_none rfl _ _ _) rfl ⟨rfl, _, HP9.out, HT9.out⟩
end Go.Proofs.YtlfloekanfhlfaaGreat

/- The codec's stream, writing: list (of no elements). -/
set_option linter.unusedSimpArgs false
namespace Go.Proofs.YtlfloekanfhlfaaGreat
open Go.RowKit Go

set_option maxRecDepth 20000 in
set_option maxHeartbeats 1000000 in
theorem listL57 (w : World) (s : Nat) (v : Value) (xs : List Int) (h : St w s v xs) (eb o : Nat) (cs : Array Value) (te : TypeId) (he : w.heap[eb]? = some (.cells cs te (0, 0))) (hc : cs[o]? = some (.slice none 0 0))
    (h1 : eb ≠ s ∧ v.ownBlock ≠ some eb) (hx : xs.length ≤ 1000) (fv : Value) :
    Calls Tryz.prog 73 #[.pointer (some ⟨s, 0, none⟩), .pointer (some ⟨eb, o, none⟩), fv] w fun e w' => e = .returned (.tuple #[]) ∧ ∃ v', St w' s v' (xs ++ [0]) ∧ StepS s w v w' v' := by
  have x0 := blk_cell he o
  rw [hc] at x0
  have H := Lib.hid h
  have HE := Lib.hid he
  have HC := Lib.hid hc
  have HX := Lib.hid hx
  have hsl := blk_lt h.row
  have hB1 := (Below.refl w.heap.size w).alloc (Nat.le_refl _) (.cells #[.int .i64 0] 3)
  have hB2 := hB1.alloc (by simp) (.cells #[.pointer (some ⟨w.heap.size, 0, none⟩)] 105)
  have hnb : ((w.alloc (.cells #[.int .i64 0] 3)).alloc (.cells #[.pointer (some ⟨w.heap.size, 0, none⟩)] 105)).heap[w.heap.size]? = some (.cells #[.int .i64 0] 3 (0, 0)) := alloc_old' (alloc_new' rfl)
  have hlb : ((w.alloc (.cells #[.int .i64 0] 3)).alloc (.cells #[.pointer (some ⟨w.heap.size, 0, none⟩)] 105)).heap[w.heap.size + 1]? = some (.cells #[.pointer (some ⟨w.heap.size, 0, none⟩)] 105 (0, 0)) := alloc_new' (by simp)
  have HB2 := Lib.hid hB2
  have HNB := Lib.hid hnb
  have HLB := Lib.hid hlb
  clear h he hc hx hB1 hB2 hnb hlb
  go_enter Tryz.func73, Tryz.ntmps73
  go_wp2_with fail
  generalize hw2 : World.alloc (w.alloc _) _ = w2 at HB2 HNB HLB ⊢
  have hs2 : ∀ b, v.ownBlock = some b → b < w.heap.size := fun b e => (H.out.own.own b e).2
  refine (num57 w2 s v xs (H.out.below HB2.out) w.heap.size (w.heap.size + 1) [0] (fun _ => 0) 105 HLB.out #[.int .i64 0] 3 HNB.out (by simp [Small]) ⟨by omega, fun e => by have := hs2 _ e; omega⟩ ⟨by omega, fun e => by have := hs2 _ e; omega⟩ (by decide) HX.out 1 rfl).mono ?_
  rintro e w3 ⟨rfl, v3, hS3, hT3⟩
  have hT := (StepS.below HB2.out).trans hT3
  have hew := hT.keep HE.out h1.1 h1.2
  have z0 := blk_cell hew.1 o
  rw [HC.out] at z0
  have hr := hS3.row
  have z1 := blk_cell hr 0
  have z2 := blk_cell hr 1
  simp at z1 z2
  have hS3' : St w3 s v3 (xs ++ [0]) := by simpa using hS3
  have HS3 := Lib.hid hS3'
  have HT3 := Lib.hid hT
  clear hS3 hS3' hT hT3 hs2 hw2 hr hew x0
  obtain ⟨va, vl, vc, rfl, hvl⟩ := HS3.out.slice
  clear hvl
  go_wp2_with fail
  go_loopw [26] (fun i wr => i = .int .i64 0 ∧ wr = w3) (fun _ _ => 0)
  case atStart => exact ⟨rfl, rfl⟩
  case round =>
    obtain ⟨rfl, rfl⟩ := hrel
    go_wp2_with fail
    exact bodyPost_ret (results_none rfl _ _ _) rfl ⟨rfl, _, HS3.out, HT3.out⟩
set_option maxRecDepth 20000 in
set_option maxHeartbeats 1000000 in
theorem listR57 (w : World) (s : Nat) (v : Value) (xs : List Int) (h : St w s v xs) (eb o : Nat) (cs : Array Value) (te : TypeId) (he : w.heap[eb]? = some (.cells cs te (0, 0))) (hc : cs[o]? = some (.slice none 0 0))
    (h1 : eb ≠ s ∧ v.ownBlock ≠ some eb) (hx : xs.length ≤ 1000) (fv : Value) :
    Calls Tryz.prog 75 #[.pointer (some ⟨s, 0, none⟩), .pointer (some ⟨eb, o, none⟩), fv] w fun e w' => e = .returned (.tuple #[]) ∧ ∃ v', St w' s v' (xs ++ [0]) ∧ StepS s w v w' v' := by
  have x0 := blk_cell he o
  rw [hc] at x0
  have H := Lib.hid h
  have HE := Lib.hid he
  have HC := Lib.hid hc
  have HX := Lib.hid hx
  have hsl := blk_lt h.row
  have hB1 := (Below.refl w.heap.size w).alloc (Nat.le_refl _) (.cells #[.int .i64 0] 3)
  have hB2 := hB1.alloc (by simp) (.cells #[.pointer (some ⟨w.heap.size, 0, none⟩)] 105)
  have hnb : ((w.alloc (.cells #[.int .i64 0] 3)).alloc (.cells #[.pointer (some ⟨w.heap.size, 0, none⟩)] 105)).heap[w.heap.size]? = some (.cells #[.int .i64 0] 3 (0, 0)) := alloc_old' (alloc_new' rfl)
  have hlb : ((w.alloc (.cells #[.int .i64 0] 3)).alloc (.cells #[.pointer (some ⟨w.heap.size, 0, none⟩)] 105)).heap[w.heap.size + 1]? = some (.cells #[.pointer (some ⟨w.heap.size, 0, none⟩)] 105 (0, 0)) := alloc_new' (by simp)
  have HB2 := Lib.hid hB2
  have HNB := Lib.hid hnb
  have HLB := Lib.hid hlb
  clear h he hc hx hB1 hB2 hnb hlb
  go_enter Tryz.func75, Tryz.ntmps75
  go_wp2_with fail
  generalize hw2 : World.alloc (w.alloc _) _ = w2 at HB2 HNB HLB ⊢
  have hs2 : ∀ b, v.ownBlock = some b → b < w.heap.size := fun b e => (H.out.own.own b e).2
  refine (num57 w2 s v xs (H.out.below HB2.out) w.heap.size (w.heap.size + 1) [0] (fun _ => 0) 105 HLB.out #[.int .i64 0] 3 HNB.out (by simp [Small]) ⟨by omega, fun e => by have := hs2 _ e; omega⟩ ⟨by omega, fun e => by have := hs2 _ e; omega⟩ (by decide) HX.out 1 rfl).mono ?_
  rintro e w3 ⟨rfl, v3, hS3, hT3⟩
  have hT := (StepS.below HB2.out).trans hT3
  have hew := hT.keep HE.out h1.1 h1.2
  have z0 := blk_cell hew.1 o
  rw [HC.out] at z0
  have hr := hS3.row
  have z1 := blk_cell hr 0
  have z2 := blk_cell hr 1
  simp at z1 z2
  have hS3' : St w3 s v3 (xs ++ [0]) := by simpa using hS3
  have HS3 := Lib.hid hS3'
  have HT3 := Lib.hid hT
  clear hS3 hS3' hT hT3 hs2 hw2 hr hew x0
  obtain ⟨va, vl, vc, rfl, hvl⟩ := HS3.out.slice
  clear hvl
  go_wp2_with fail
  go_loopw [26] (fun i wr => i = .int .i64 0 ∧ wr = w3) (fun _ _ => 0)
  case atStart => exact ⟨rfl, rfl⟩
  case round =>
    obtain ⟨rfl, rfl⟩ := hrel
    go_wp2_with fail
    exact bodyPost_ret (results_none rfl _ _ _) rfl ⟨rfl, _, HS3.out, HT3.out⟩
end Go.Proofs.YtlfloekanfhlfaaGreat
