/- The sample's entities. -/
import Derived.Test.YtlfloekanfhlfaaGreatW57k
import Derived.Great.BuildSlice
set_option linter.unusedSimpArgs false
namespace Go.Proofs.YtlfloekanfhlfaaGreat
open Go.RowKit Go

abbrev lnkC : Ty := .pr (.int .i64) (.pr (.int .i64) (.pr (.int .i64) .un))
theorem info_lnk : (Tryz.prog.info? 129).map (fun i => (i.zero, i.size, i.bytes)) = some (some (.agg #[.int .i64 0, .int .i64 0, .int .i64 0]), lnkC.sz, 24) := by kernel_rfl
theorem lnk_rd {S : Nat → Prop} {w : World} {x y z : Int} (h1 : (Lit.int .i64 x).wf = true) (h2 : (Lit.int .i64 y).wf = true) (h3 : (Lit.int .i64 z).wf = true) : Rd lnkC S w [.int .i64 x, .int .i64 y, .int .i64 z] (x, y, z, ()) :=
  ⟨[_], _, rfl, ⟨rfl, h1⟩, [_], _, rfl, ⟨rfl, h2⟩, [_], _, rfl, ⟨rfl, h3⟩, rfl⟩
/-- An entity that is made. -/
structure EntW (n0 : Nat) (w : World) (p : Nat) (nm cu : ByteArray) (cv lv : Value) (kc kl : Nat) : Prop where
  row : w.heap[p]? = some (.cells #[.string nm, .string cu, cv, lv, .bool false] 80 (0, 0))
  oc : ∃ xs, Owns accC 127 n0 (fun _ => False) w cv xs ∧ xs.length ≤ kc
  ol : ∃ ys, Owns lnkC 129 n0 (fun _ => False) w lv ys ∧ ys.length ≤ kl
  ne : ∀ b, cv.ownBlock = some b → lv.ownBlock ≠ some b
  lt : p < n0
theorem EntW.below {n0 : Nat} {w w' : World} {p : Nat} {nm cu : ByteArray} {cv lv : Value} {kc kl : Nat} (h : EntW n0 w p nm cu cv lv kc kl) (hB : Below w.heap.size w w') : EntW n0 w' p nm cu cv lv kc kl := by
  obtain ⟨h1, ⟨xs, h2, h3⟩, ⟨ys, h4, h5⟩, h6, h7⟩ := h
  exact ⟨(hB.block _ (blk_lt h1)).trans h1, ⟨xs, h2.below hB, h3⟩, ⟨ys, h4.below hB, h5⟩, h6, h7⟩
theorem EntW.putC {n0 : Nat} {w w1 : World} {p : Nat} {nm cu : ByteArray} {cv lv v' : Value} {kc kl : Nat} {zs' : List accC.den} (h : EntW n0 w p nm cu cv lv kc kl) (g : w.grownBy w1 cv.ownBlock) (ho : Owns accC 127 n0 (fun _ => False) w1 v' zs') (hx : zs'.length ≤ kc + 1) (hb : v'.ownBlock = cv.ownBlock ∨ v'.ownBlock = some w.heap.size) :
    EntW n0 (w1.setCell ⟨p, 2, none⟩ v') p nm cu v' lv (kc + 1) kl ∧ Gr (fun b => b = p ∨ n0 ≤ b) w (w1.setCell ⟨p, 2, none⟩ v') := by
  obtain ⟨h1, ⟨xs, h2, h3⟩, ⟨ys, h4, h5⟩, h6, h7⟩ := h
  have hcp : cv.ownBlock ≠ some p := fun e => by have := (h2.own p e).1; omega
  have hvp : v'.ownBlock ≠ some p := fun e => by have := (ho.own p e).1; omega
  have hlp : lv.ownBlock ≠ some p := fun e => by have := (h4.own p e).1; omega
  have hr1 := blk_gr (Gr.of_grown g) h1 hcp
  have hr2 := blk_set (i := 2) hr1 v'
  simp at hr2
  have hgs : Gr (fun b => b = p) w1 (w1.setCell ⟨p, 2, none⟩ v') := (Gr.refl (fun b => b = p) w1).setCell (.inl rfl) v'
  have hvo := ho.gr hgs (fun _ h => h.elim) (fun b e1 e2 => hvp (e2 ▸ e1))
  refine ⟨⟨hr2, ⟨_, hvo, hx⟩, ⟨ys, (h4.gr (Gr.of_grown g) (fun _ h => h.elim) (fun b e1 e2 => h6 b e2 e1)).gr hgs (fun _ h => h.elim) (fun b e1 e2 => hlp (e2 ▸ e1)), h5⟩, fun b e1 e2 => ?_, h7⟩, ((Gr.of_grown g).mono (G := fun b => b = p ∨ n0 ≤ b) (fun x e => .inl (.inr (h2.own x e).1))).trans hgs (fun x e => .inl (.inl e))⟩
  rcases hb with e | e
  · exact h6 b (e ▸ e1) e2
  · rw [e] at e1
    have := Option.some.inj e1
    have := (h4.own b e2).2
    omega
theorem EntW.putL {n0 : Nat} {w w1 : World} {p : Nat} {nm cu : ByteArray} {cv lv v' : Value} {kc kl : Nat} {zs' : List lnkC.den} (h : EntW n0 w p nm cu cv lv kc kl) (g : w.grownBy w1 lv.ownBlock) (ho : Owns lnkC 129 n0 (fun _ => False) w1 v' zs') (hx : zs'.length ≤ kl + 1) (hb : v'.ownBlock = lv.ownBlock ∨ v'.ownBlock = some w.heap.size) :
    EntW n0 (w1.setCell ⟨p, 3, none⟩ v') p nm cu cv v' kc (kl + 1) ∧ Gr (fun b => b = p ∨ n0 ≤ b) w (w1.setCell ⟨p, 3, none⟩ v') := by
  obtain ⟨h1, ⟨xs, h2, h3⟩, ⟨ys, h4, h5⟩, h6, h7⟩ := h
  have hcp : cv.ownBlock ≠ some p := fun e => by have := (h2.own p e).1; omega
  have hvp : v'.ownBlock ≠ some p := fun e => by have := (ho.own p e).1; omega
  have hlp : lv.ownBlock ≠ some p := fun e => by have := (h4.own p e).1; omega
  have hr1 := blk_gr (Gr.of_grown g) h1 hlp
  have hr2 := blk_set (i := 3) hr1 v'
  simp at hr2
  have hgs : Gr (fun b => b = p) w1 (w1.setCell ⟨p, 3, none⟩ v') := (Gr.refl (fun b => b = p) w1).setCell (.inl rfl) v'
  have hvo := ho.gr hgs (fun _ h => h.elim) (fun b e1 e2 => hvp (e2 ▸ e1))
  refine ⟨⟨hr2, ⟨xs, (h2.gr (Gr.of_grown g) (fun _ h => h.elim) (fun b e1 e2 => h6 b e1 e2)).gr hgs (fun _ h => h.elim) (fun b e1 e2 => hcp (e2 ▸ e1)), h3⟩, ⟨_, hvo, hx⟩, fun b e1 e2 => ?_, h7⟩, ((Gr.of_grown g).mono (G := fun b => b = p ∨ n0 ≤ b) (fun x e => .inl (.inr (h4.own x e).1))).trans hgs (fun x e => .inl (.inl e))⟩
  rcases hb with e | e
  · exact h6 b e1 (e ▸ e2)
  · rw [e] at e2
    have := Option.some.inj e2
    have := (h2.own b e1).2
    omega
def toL : List Int := [1010, 1100, 1200, 1300, 1500, 2000, 2100, 3000, 3300, 4000, 4100, 4700, 5000, 5100]
def kindL : List Int := [1, 1, 1, 1, 1, 2, 2, 3, 3, 4, 4, 4, 5, 5]
theorem wrap14 : ∀ k : Nat, k < 14 → IntKind.i64.wrap (10 * IntKind.i64.wrap ((k : Int) + 1)) = 10 * ((k : Int) + 1) := by decide
set_option maxRecDepth 20000 in
set_option maxHeartbeats 1000000 in
theorem entity57 (w : World) (nm cu : ByteArray) : Calls Tryz.prog 20 #[.string nm, .string cu] w fun e w' => ∃ a l c a2 l2 c2, e = .returned (.agg #[.string nm, .string cu, .slice a l c, .slice a2 l2 c2, .bool false]) ∧ Below w.heap.size w w' := by
  go_enter Tryz.func20, Tryz.ntmps20
  go_wp2_with fail
  generalize hw4 : World.alloc (World.alloc (World.alloc (w.alloc _) _) _) _ = w4
  have hB : Below w.heap.size w w4 := by
    rw [← hw4]
    exact ((((Below.refl w.heap.size w).alloc (Nat.le_refl _) _).alloc (by simp) _).alloc (by simp <;> omega) _).alloc (by simp <;> omega) _
  have hres : w4.heap[w.heap.size]? = some (.cells #[.string ⟨#[]⟩, .string ⟨#[]⟩, .slice none 0 0, .slice none 0 0, .bool false] 80 (0, 0)) := by rw [← hw4]; exact alloc_old' (alloc_old' (alloc_old' (alloc_new' rfl)))
  have hto : w4.heap[w.heap.size + 1]? = some (.cells (toL.map (Value.int .i64)).toArray 3 (0, 0)) := by rw [← hw4]; exact alloc_old' (alloc_old' (alloc_new' (by simp)))
  have hkd : w4.heap[w.heap.size + 1 + 1]? = some (.cells (kindL.map (Value.int .i64)).toArray 3 (0, 0)) := by rw [← hw4]; exact alloc_old' (alloc_new' (by simp))
  have hE : EntW w4.heap.size w4 (w.heap.size + 1 + 1 + 1) nm cu (.slice none 0 0) (.slice none 0 0) 0 0 := by
    refine ⟨by rw [← hw4]; exact alloc_new' (by simp), ⟨[], Owns.nil _ _ _ _, by simp⟩, ⟨[], Owns.nil _ _ _ _, by simp⟩, fun b h => by simp [Value.ownBlock] at h, by rw [← hw4]; simp⟩
  clear hw4
  obtain ⟨b0, hb0⟩ : ∃ q, w.heap.size = q := ⟨_, rfl⟩
  have HW0 := Lib.hid hb0
  rw [hb0] at hres hto hkd hE ⊢
  clear hb0
  have HB := Lib.hid hB
  have HRES := Lib.hid hres
  have HTO := Lib.hid hto
  have HKD := Lib.hid hkd
  have HE := Lib.hid hE
  have hp4 := hE.lt
  clear hB hres hto hkd hE
  go_loopw [8] (fun i wr => ∃ (k : Nat) (cv lv : Value), k ≤ 14 ∧ i = .int .i64 k ∧ EntW w4.heap.size wr (b0 + 1 + 1 + 1) nm cu cv lv k k ∧ Gr (fun b => b = b0 + 1 + 1 + 1 ∨ w4.heap.size ≤ b) w4 wr) (fun i _ => 14 - (intOf i).toNat)
  case atStart => exact ⟨0, _, _, by omega, rfl, HE.out, Gr.refl _ _⟩
  case round =>
    obtain ⟨k, cv, lv, hk, rfl, hE, hG⟩ := hrel
    obtain ⟨xs, hox, hxl⟩ := hE.oc
    obtain ⟨ys, hoy, hyl⟩ := hE.ol
    obtain ⟨ca, cl, cc, rfl, -⟩ := hox.slice
    obtain ⟨la, ll, lc, rfl, -⟩ := hoy.slice
    have HEk := Lib.hid hE
    have HG := Lib.hid hG
    have HOX := Lib.hid hox
    have HXL := Lib.hid hxl
    clear hE hG hox hxl hoy hyl
    by_cases hlt : k < 14
    · have hkI : (k : Int) < 14 := by omega
      have hto := (HG.out.block _ (blk_lt HTO.out) (by omega)).trans HTO.out
      have hkd := (HG.out.block _ (blk_lt HKD.out) (by have := blk_lt HKD.out; omega)).trans HKD.out
      have t1 := blk_cell hto k
      have t2 := blk_cell hkd k
      have hkt : k < toL.length := hlt
      have hkk : k < kindL.length := hlt
      simp [hkt] at t1
      simp [hkk] at t2
      have hw1 : (Lit.int .i64 toL[k]).wf = true := (by decide : ∀ x ∈ toL, (Lit.int .i64 x).wf = true) _ (List.getElem_mem hkt)
      have hw2 : (Lit.int .i64 kindL[k]).wf = true := (by decide : ∀ x ∈ kindL, (Lit.int .i64 x).wf = true) _ (List.getElem_mem hkk)
      generalize htv' : toL[k] = tv at t1 hw1
      have HTV := Lib.hid (show (toL.map (Value.int .i64)).toArray[k]? = some (.int .i64 tv) from by simp [hkt]; exact htv')
      clear htv'
      generalize kindL[k] = kv at t2 hw2
      have HW1 := Lib.hid hw1
      have HW2 := Lib.hid hw2
      have HT1 := Lib.hid t1
      have hr := HEk.out.row
      have r2 := blk_cell hr 2
      have r3 := blk_cell hr 3
      simp at r2 r3
      have hz : (Lit.int .i64 (10 * ((k : Int) + 1))).wf = true := by simp [Lit.wf, IntKind.min, IntKind.max, IntKind.signed, IntKind.bits]; omega
      have HZ := Lib.hid hz
      have HLT := Lib.hid hlt
      have HWZ := Lib.hid (wrap14 k hlt)
      have HC0 : Cells [(⟨b0 + 1 + 1 + 1, 2, none⟩, .slice ca cl cc), (⟨b0 + 1 + 1, k, none⟩, .int .i64 kv)] wr := ⟨r2, t2, trivial⟩
      clear hto hkd t1 hw1 hw2 hr r3 hz hlt
      go_wp2_with fail
      refine wp_region_T (Cells [(⟨b0 + 1 + 1 + 1, 2, none⟩, .slice ca cl cc), (⟨b0 + 1 + 1, k, none⟩, .int .i64 kv)]) (fun i => i == 11 || i == 13) (by kernel_rfl) ?_
      have hSss1 := Cells.drew HC0
      have hB_0_s1 : Below wr.heap.size wr wr.drew := below_drew _
      generalize wr.drew = s1 at hSss1 hB_0_s1 ⊢
      have hB_s1_s1 := Below.refl s1.heap.size s1
      refine wpAnyT_pure (i := 0) (v := ?_) rfl (by kernel_rfl) (by kernel_rfl) (by kernel_rfl) (fun _ _ _ h => h) (by rfl) ?_ ?_
      rotate_left
      · intro w; go_simp; try with_reducible rfl
      simp only [Act.put, List.setIfInBounds_toArray, List.set_cons_zero, List.set_cons_succ, List.getElem_toArray, List.getElem_cons_succ, List.getElem_cons_zero]
      refine wpAnyT_pure (i := 2) (v := ?_) rfl (by kernel_rfl) (by kernel_rfl) (by kernel_rfl) (fun _ _ _ h => h) (by rfl) ?_ ?_
      rotate_left
      · intro w; go_simp; try with_reducible rfl
      simp only [Act.put, List.setIfInBounds_toArray, List.set_cons_zero, List.set_cons_succ, List.getElem_toArray, List.getElem_cons_succ, List.getElem_cons_zero]
      refine wpAnyT_pure (i := 3) (v := ?_) rfl (by kernel_rfl) (by kernel_rfl) (by kernel_rfl) (fun _ _ _ h => h) (by rfl) ?_ ?_
      rotate_left
      · intro w; go_simp; try with_reducible rfl
      simp only [Act.put, List.setIfInBounds_toArray, List.set_cons_zero, List.set_cons_succ, List.getElem_toArray, List.getElem_cons_succ, List.getElem_cons_zero]
      refine wpAnyT_pure (i := 4) (v := ?_) rfl (by kernel_rfl) (by kernel_rfl) (by kernel_rfl) (fun _ _ _ h => h) (by rfl) ?_ ?_
      rotate_left
      · intro w; go_simp; try with_reducible rfl
      simp only [Act.put, List.setIfInBounds_toArray, List.set_cons_zero, List.set_cons_succ, List.getElem_toArray, List.getElem_cons_succ, List.getElem_cons_zero]
      refine wpAnyT_pure (i := 5) (v := ?_) rfl (by kernel_rfl) (by kernel_rfl) (by kernel_rfl) (fun _ _ _ h => h) (by rfl) ?_ ?_
      rotate_left
      · intro w; go_simp; try with_reducible rfl
      simp only [Act.put, List.setIfInBounds_toArray, List.set_cons_zero, List.set_cons_succ, List.getElem_toArray, List.getElem_cons_succ, List.getElem_cons_zero]
      refine wpAnyT_pure (i := 6) (v := ?_) rfl (by kernel_rfl) (by kernel_rfl) (by kernel_rfl) (fun _ _ _ h => h) (by rfl) ?_ ?_
      rotate_left
      · intro w; go_simp; try with_reducible rfl
      simp only [Act.put, List.setIfInBounds_toArray, List.set_cons_zero, List.set_cons_succ, List.getElem_toArray, List.getElem_cons_succ, List.getElem_cons_zero]
      refine wpAnyT_pure (i := 7) (v := ?_) rfl (by kernel_rfl) (by kernel_rfl) (by kernel_rfl) (fun _ _ _ h => h) (by rfl) ?_ ?_
      rotate_left
      · intro w; go_simp; try with_reducible rfl
      simp only [Act.put, List.setIfInBounds_toArray, List.set_cons_zero, List.set_cons_succ, List.getElem_toArray, List.getElem_cons_succ, List.getElem_cons_zero]
      refine wpAnyT_loadW (i := 1) (v := ?_) rfl (by kernel_rfl) (by kernel_rfl) (by kernel_rfl) (by kernel_rfl) (by kernel_rfl) (fun _ _ _ h => h) (Or.inl ⟨by rfl, ?_⟩) hSss1 ?_
      rotate_left
      · intro w hSw; obtain ⟨e0, e1, -⟩ := hSw; go_simp; try with_reducible rfl
      simp only [Act.put, List.setIfInBounds_toArray, List.set_cons_zero, List.set_cons_succ, List.getElem_toArray, List.getElem_cons_succ, List.getElem_cons_zero]
      refine wpAnyT_loadW (i := 8) (v := ?_) rfl (by kernel_rfl) (by kernel_rfl) (by kernel_rfl) (by kernel_rfl) (by kernel_rfl) (fun _ _ _ h => h) (Or.inl ⟨by rfl, ?_⟩) hSss1 ?_
      rotate_left
      · intro w hSw; obtain ⟨e0, e1, -⟩ := hSw; go_simp; try with_reducible rfl
      simp only [Act.put, List.setIfInBounds_toArray, List.set_cons_zero, List.set_cons_succ, List.getElem_toArray, List.getElem_cons_succ, List.getElem_cons_zero]
      refine wpAnyT_pure (i := 9) (v := ?_) rfl (by kernel_rfl) (by kernel_rfl) (by kernel_rfl) (fun _ _ _ h => h) (by rfl) ?_ ?_
      rotate_left
      · intro w; go_simp; try with_reducible rfl
      simp only [Act.put, List.setIfInBounds_toArray, List.set_cons_zero, List.set_cons_succ, List.getElem_toArray, List.getElem_cons_succ, List.getElem_cons_zero]
      refine wpAnyT_one (i := 10) (by kernel_rfl) rfl (by rfl) ?_
      obtain ⟨b20, hb20⟩ : ∃ b, s1.heap.size = b := ⟨_, rfl⟩
      refine wp_newrow (v := .slice (some ⟨b20, 0, none⟩) 1 1) (cs := #[.int .i64 (10 * ((k : Int) + 1)), .int .i64 kv, .int .i64 0, .int .i64 0]) (te := 127) (by rw [← hb20]; go_simp; rw [HWZ.out]) ?_
      intro w102 hX hN20
      rw [hb20] at hN20
      have hB_s1_w102 := below_step hB_s1_s1 hX
      have hB_w102_w102 := Below.refl w102.heap.size w102
      have hSsw102 := Cells.below hB_s1_w102 hSss1
      clear hX
      refine ⟨fun _ _ => hSsw102, ?_⟩
      try simp only [Act.put, List.setIfInBounds_toArray, List.set_cons_zero, List.set_cons_succ, List.getElem_toArray, List.getElem_cons_succ, List.getElem_cons_zero]
      refine wpAnyT_one (i := 11) (by kernel_rfl) rfl (by rfl) ?_
      have hbP : Below wr.heap.size wr w102 := hB_0_s1.trans ((hB_s1_w102).mono (hB_0_s1).size)
      have hEP := HEk.out.below hbP
      have HEP := Lib.hid hEP
      have HBP := Lib.hid hbP
      refine wp_app (.tmp 21) (.tmp 30) 26 rfl (e := accC) (te := 127) info_acc Tryz.underlying26 rfl (by decide) (base := w4.heap.size) (S := fun _ => False) (v := .slice ca cl cc) (xs := xs) (by kernel_rfl) (HOX.out.below hbP) (Nat.le_trans HG.out.size hbP.size) (sv := .slice (some ⟨b20, 0, none⟩) 1 1) (by kernel_rfl) (ys := [(10 * ((k : Int) + 1), kv, 0, 0, ())]) (Src.of_cells (news := [.int .i64 (10 * ((k : Int) + 1)), .int .i64 kv, .int .i64 0, .int .i64 0]) (fun j u hu => by rw [Nat.zero_add, blk_cell hN20]; simpa using hu)) (RdL.one (e := accC) (acc_rd HZ.out HW2.out (by decide) (by decide))) (by have := HXL.out; simp only [List.length_singleton]; omega) (by have := HXL.out; simp only [List.length_singleton]; omega) ?_
      intro ca9 cl9 cc9 w103 O9 g9 ob9
      have hput := HEP.out.putC g9 O9 (by have := HXL.out; simp only [List.length_append, List.length_singleton]; omega) ob9
      have hvs : (Value.slice ca cl cc).ownBlock ≠ some (b0 + 1 + 1 + 1) := fun e => by have := ((HOX.out.below hbP).own _ e).1; omega
      have hr9 := blk_gr (Gr.of_grown g9) HEP.out.row hvs
      have f9 := blk_frozen hr9 2
      have q9 := blk_cell hr9 2
      simp at q9
      clear O9 g9 ob9 hr9 hvs hEP hbP
      refine ⟨fun h => absurd h (by decide), ?_⟩
      try simp only [Act.put, List.setIfInBounds_toArray, List.set_cons_zero, List.set_cons_succ, List.getElem_toArray, List.getElem_cons_succ, List.getElem_cons_zero]
      refine wpAnyT_pure (i := 12) (v := ?_) rfl (by kernel_rfl) (by kernel_rfl) (by kernel_rfl) (fun _ _ _ h => h) (by rfl) ?_ ?_
      rotate_left
      · intro w; go_simp; try with_reducible rfl
      simp only [Act.put, List.setIfInBounds_toArray, List.set_cons_zero, List.set_cons_succ, List.getElem_toArray, List.getElem_cons_succ, List.getElem_cons_zero]
      refine wpAnyT_one (i := 13) (by kernel_rfl) rfl (by rfl) ?_
      refine wp_store1 (w' := (w103).setCell ⟨b0 + 1 + 1 + 1, 2, none⟩ (.slice ca9 cl9 cc9)) 26 (.tmp 32) (.tmp 31) rfl ⟨b0 + 1 + 1 + 1, 2, none⟩ (.slice ca9 cl9 cc9) (by kernel_rfl) (by kernel_rfl) (by go_simp) ?_
      clear f9 q9
      generalize (w103).setCell ⟨b0 + 1 + 1 + 1, 2, none⟩ (.slice ca9 cl9 cc9) = w104 at hput ⊢
      refine ⟨fun h => absurd h (by decide), ?_⟩
      try simp only [Act.put, List.setIfInBounds_toArray, List.set_cons_zero, List.set_cons_succ, List.getElem_toArray, List.getElem_cons_succ, List.getElem_cons_zero]
      refine wpAnyT_done (by kernel_rfl) ?_ _
      obtain ⟨w9, rfl⟩ : ∃ x, x = w104 := ⟨_, rfl⟩
      obtain ⟨hE9, hG9⟩ := hput
      have HE9 := Lib.hid hE9
      have HG9 := Lib.hid ((HG.out.trans (Gr.of_below HBP.out) (G := fun b => wr.heap.size ≤ b) (fun x e => .inr (Nat.le_trans HG.out.size e))).trans hG9 (fun x e => .inl e))
      clear hE9 hG9 HEP HBP r2 t2 HC0 HEk HOX HXL
      obtain ⟨ys9, hoy9, hyl9⟩ := HE9.out.ol
      have HOY := Lib.hid hoy9
      have HYL := Lib.hid hyl9
      have hr9 := HE9.out.row
      have r3 := blk_cell hr9 3
      have hto9 := (HG9.out.block _ (blk_lt HTO.out) (fun e => e.elim (fun e => by omega) (fun e => by have := blk_lt HTO.out; omega))).trans HTO.out
      have t3 := blk_cell hto9 k
      rw [HTV.out] at t3
      simp at r3
      have HC1 : Cells [(⟨b0 + 1 + 1 + 1, 3, none⟩, .slice la ll lc), (⟨b0 + 1, k, none⟩, .int .i64 tv)] w9 := ⟨r3, t3, trivial⟩
      clear hoy9 hyl9 hr9 hto9
      go_wp2_with fail
      refine wp_region_T (Cells [(⟨b0 + 1 + 1 + 1, 3, none⟩, .slice la ll lc), (⟨b0 + 1, k, none⟩, .int .i64 tv)]) (fun i => i == 11 || i == 13) (by kernel_rfl) ?_
      have hSss5 := Cells.drew HC1
      have hB_0_s5 : Below w9.heap.size w9 w9.drew := below_drew _
      generalize w9.drew = s5 at hSss5 hB_0_s5 ⊢
      have hB_s5_s5 := Below.refl s5.heap.size s5
      refine wpAnyT_pure (i := 0) (v := ?_) rfl (by kernel_rfl) (by kernel_rfl) (by kernel_rfl) (fun _ _ _ h => h) (by rfl) ?_ ?_
      rotate_left
      · intro w; go_simp; try with_reducible rfl
      simp only [Act.put, List.setIfInBounds_toArray, List.set_cons_zero, List.set_cons_succ, List.getElem_toArray, List.getElem_cons_succ, List.getElem_cons_zero]
      refine wpAnyT_pure (i := 2) (v := ?_) rfl (by kernel_rfl) (by kernel_rfl) (by kernel_rfl) (fun _ _ _ h => h) (by rfl) ?_ ?_
      rotate_left
      · intro w; go_simp; try with_reducible rfl
      simp only [Act.put, List.setIfInBounds_toArray, List.set_cons_zero, List.set_cons_succ, List.getElem_toArray, List.getElem_cons_succ, List.getElem_cons_zero]
      refine wpAnyT_pure (i := 3) (v := ?_) rfl (by kernel_rfl) (by kernel_rfl) (by kernel_rfl) (fun _ _ _ h => h) (by rfl) ?_ ?_
      rotate_left
      · intro w; go_simp; try with_reducible rfl
      simp only [Act.put, List.setIfInBounds_toArray, List.set_cons_zero, List.set_cons_succ, List.getElem_toArray, List.getElem_cons_succ, List.getElem_cons_zero]
      refine wpAnyT_pure (i := 4) (v := ?_) rfl (by kernel_rfl) (by kernel_rfl) (by kernel_rfl) (fun _ _ _ h => h) (by rfl) ?_ ?_
      rotate_left
      · intro w; go_simp; try with_reducible rfl
      simp only [Act.put, List.setIfInBounds_toArray, List.set_cons_zero, List.set_cons_succ, List.getElem_toArray, List.getElem_cons_succ, List.getElem_cons_zero]
      refine wpAnyT_pure (i := 5) (v := ?_) rfl (by kernel_rfl) (by kernel_rfl) (by kernel_rfl) (fun _ _ _ h => h) (by rfl) ?_ ?_
      rotate_left
      · intro w; go_simp; try with_reducible rfl
      simp only [Act.put, List.setIfInBounds_toArray, List.set_cons_zero, List.set_cons_succ, List.getElem_toArray, List.getElem_cons_succ, List.getElem_cons_zero]
      refine wpAnyT_pure (i := 6) (v := ?_) rfl (by kernel_rfl) (by kernel_rfl) (by kernel_rfl) (fun _ _ _ h => h) (by rfl) ?_ ?_
      rotate_left
      · intro w; go_simp; try with_reducible rfl
      simp only [Act.put, List.setIfInBounds_toArray, List.set_cons_zero, List.set_cons_succ, List.getElem_toArray, List.getElem_cons_succ, List.getElem_cons_zero]
      refine wpAnyT_pure (i := 7) (v := ?_) rfl (by kernel_rfl) (by kernel_rfl) (by kernel_rfl) (fun _ _ _ h => h) (by rfl) ?_ ?_
      rotate_left
      · intro w; go_simp; try with_reducible rfl
      simp only [Act.put, List.setIfInBounds_toArray, List.set_cons_zero, List.set_cons_succ, List.getElem_toArray, List.getElem_cons_succ, List.getElem_cons_zero]
      refine wpAnyT_loadW (i := 1) (v := ?_) rfl (by kernel_rfl) (by kernel_rfl) (by kernel_rfl) (by kernel_rfl) (by kernel_rfl) (fun _ _ _ h => h) (Or.inl ⟨by rfl, ?_⟩) hSss5 ?_
      rotate_left
      · intro w hSw; obtain ⟨e0, e1, -⟩ := hSw; go_simp; try with_reducible rfl
      simp only [Act.put, List.setIfInBounds_toArray, List.set_cons_zero, List.set_cons_succ, List.getElem_toArray, List.getElem_cons_succ, List.getElem_cons_zero]
      refine wpAnyT_loadW (i := 8) (v := ?_) rfl (by kernel_rfl) (by kernel_rfl) (by kernel_rfl) (by kernel_rfl) (by kernel_rfl) (fun _ _ _ h => h) (Or.inl ⟨by rfl, ?_⟩) hSss5 ?_
      rotate_left
      · intro w hSw; obtain ⟨e0, e1, -⟩ := hSw; go_simp; try with_reducible rfl
      simp only [Act.put, List.setIfInBounds_toArray, List.set_cons_zero, List.set_cons_succ, List.getElem_toArray, List.getElem_cons_succ, List.getElem_cons_zero]
      refine wpAnyT_pure (i := 9) (v := ?_) rfl (by kernel_rfl) (by kernel_rfl) (by kernel_rfl) (fun _ _ _ h => h) (by rfl) ?_ ?_
      rotate_left
      · intro w; go_simp; try with_reducible rfl
      simp only [Act.put, List.setIfInBounds_toArray, List.set_cons_zero, List.set_cons_succ, List.getElem_toArray, List.getElem_cons_succ, List.getElem_cons_zero]
      refine wpAnyT_one (i := 10) (by kernel_rfl) rfl (by rfl) ?_
      obtain ⟨b20, hb20⟩ : ∃ b, s5.heap.size = b := ⟨_, rfl⟩
      refine wp_newrow (v := .slice (some ⟨b20, 0, none⟩) 1 1) (cs := #[.int .i64 (10 * ((k : Int) + 1)), .int .i64 tv, .int .i64 (-25567)]) (te := 129) (by rw [← hb20]; go_simp; rw [HWZ.out]) ?_
      intro w106 hX hN20
      rw [hb20] at hN20
      have hB_s5_w106 := below_step hB_s5_s5 hX
      have hB_w106_w106 := Below.refl w106.heap.size w106
      have hSsw106 := Cells.below hB_s5_w106 hSss5
      clear hX
      refine ⟨fun _ _ => hSsw106, ?_⟩
      try simp only [Act.put, List.setIfInBounds_toArray, List.set_cons_zero, List.set_cons_succ, List.getElem_toArray, List.getElem_cons_succ, List.getElem_cons_zero]
      refine wpAnyT_one (i := 11) (by kernel_rfl) rfl (by rfl) ?_
      have hbP : Below w9.heap.size w9 w106 := hB_0_s5.trans ((hB_s5_w106).mono (hB_0_s5).size)
      have hEP := HE9.out.below hbP
      have HEP := Lib.hid hEP
      have HBP := Lib.hid hbP
      refine wp_app (.tmp 34) (.tmp 43) 78 rfl (e := lnkC) (te := 129) info_lnk Tryz.underlying78 rfl (by decide) (base := w4.heap.size) (S := fun _ => False) (v := .slice la ll lc) (xs := ys9) (by kernel_rfl) (HOY.out.below hbP) (Nat.le_trans HG9.out.size hbP.size) (sv := .slice (some ⟨b20, 0, none⟩) 1 1) (by kernel_rfl) (ys := [(10 * ((k : Int) + 1), tv, -25567, ())]) (Src.of_cells (news := [.int .i64 (10 * ((k : Int) + 1)), .int .i64 tv, .int .i64 (-25567)]) (fun j u hu => by rw [Nat.zero_add, blk_cell hN20]; simpa using hu)) (RdL.one (e := lnkC) (lnk_rd HZ.out HW1.out (by decide))) (by have := HYL.out; simp only [List.length_singleton]; omega) (by have := HYL.out; simp only [List.length_singleton]; omega) ?_
      intro ca8 cl8 cc8 w107 O9 g9 ob9
      have hput := HEP.out.putL g9 O9 (by have := HYL.out; simp only [List.length_append, List.length_singleton]; omega) ob9
      have hvs : (Value.slice la ll lc).ownBlock ≠ some (b0 + 1 + 1 + 1) := fun e => by have := ((HOY.out.below hbP).own _ e).1; omega
      have hr9 := blk_gr (Gr.of_grown g9) HEP.out.row hvs
      have f9 := blk_frozen hr9 3
      have q9 := blk_cell hr9 3
      simp at q9
      clear O9 g9 ob9 hr9 hvs hEP hbP
      refine ⟨fun h => absurd h (by decide), ?_⟩
      try simp only [Act.put, List.setIfInBounds_toArray, List.set_cons_zero, List.set_cons_succ, List.getElem_toArray, List.getElem_cons_succ, List.getElem_cons_zero]
      refine wpAnyT_pure (i := 12) (v := ?_) rfl (by kernel_rfl) (by kernel_rfl) (by kernel_rfl) (fun _ _ _ h => h) (by rfl) ?_ ?_
      rotate_left
      · intro w; go_simp; try with_reducible rfl
      simp only [Act.put, List.setIfInBounds_toArray, List.set_cons_zero, List.set_cons_succ, List.getElem_toArray, List.getElem_cons_succ, List.getElem_cons_zero]
      refine wpAnyT_one (i := 13) (by kernel_rfl) rfl (by rfl) ?_
      refine wp_store1 (w' := (w107).setCell ⟨b0 + 1 + 1 + 1, 3, none⟩ (.slice ca8 cl8 cc8)) 78 (.tmp 45) (.tmp 44) rfl ⟨b0 + 1 + 1 + 1, 3, none⟩ (.slice ca8 cl8 cc8) (by kernel_rfl) (by kernel_rfl) (by go_simp) ?_
      clear f9 q9
      generalize (w107).setCell ⟨b0 + 1 + 1 + 1, 3, none⟩ (.slice ca8 cl8 cc8) = w108 at hput ⊢
      refine ⟨fun h => absurd h (by decide), ?_⟩
      try simp only [Act.put, List.setIfInBounds_toArray, List.set_cons_zero, List.set_cons_succ, List.getElem_toArray, List.getElem_cons_succ, List.getElem_cons_zero]
      refine wpAnyT_done (by kernel_rfl) ?_ _
      obtain ⟨w10, rfl⟩ : ∃ x, x = w108 := ⟨_, rfl⟩
      obtain ⟨hE10, hG10⟩ := hput
      have HE10 := Lib.hid hE10
      have HG10 := Lib.hid ((HG9.out.trans (Gr.of_below HBP.out) (G := fun b => w9.heap.size ≤ b) (fun x e => .inr (Nat.le_trans HG9.out.size e))).trans hG10 (fun x e => .inl e))
      clear hE10 hG10 HEP HBP r3 t3 HC1 HE9 HOY HYL
      have hl1 := HLT.out
      go_wp2_with fail
      go_roundw
      case rel => exact ⟨k + 1, _, _, by omega, by go_num, HE10.out, HG10.out⟩
      case measure => simp [intOf]; try omega
    · obtain rfl : k = 14 := by omega
      have hre := (HG.out.block _ (blk_lt HRES.out) (fun e => e.elim (fun e => by omega) (fun e => by have := blk_lt HRES.out; omega))).trans HRES.out
      have hrow := HEk.out.row
      have hset := setRow_heap _ _ _ #[.string nm, .string cu, .slice ca cl cc, .slice la ll lc, .bool false] _ _ hre
      have HRW := Lib.hid hrow
      have HRE := Lib.hid hre
      have HSET := Lib.hid hset
      have HB9 := Lib.hid (show Below b0 wr (wr.setRow b0 #[.string nm, .string cu, .slice ca cl cc, .slice la ll lc, .bool false]) from (gr_setRow wr b0 _).below (fun b e => by rw [e]; exact Nat.le_refl _) (by have := blk_lt hre; omega))
      clear hre hrow hset
      go_wp2_with (first | refine wpList_load_row rfl 80 _ rfl (b0 + 1 + 1 + 1) rfl 80 _ (0, 0) _ HRW.out Tryz.underlying80 rfl (by kernel_rfl) ?_ | refine wpList_store_row rfl _ _ _ rfl b0 #[.string nm, .string cu, .slice ca cl cc, .slice la ll lc, .bool false] rfl rfl 80 _ HRE.out (by kernel_rfl) (by rfl) (by simp [Value.oneCell']) ?_)
      refine bodyPost_ret (results_cell_row rfl _ _ b0 80 _ (0, 0) _ rfl HSET.out Tryz.underlying80 rfl (by kernel_rfl)) rfl ?_
      refine ⟨_, _, _, _, _, _, rfl, ?_⟩
      rw [HW0.out]
      have h1 := HB.out
      rw [HW0.out] at h1
      exact (h1.trans ((HG.out.below (n := b0) (fun b e => e.elim (fun e => by omega) (fun e => by omega)) (by omega)))).trans HB9.out
end Go.Proofs.YtlfloekanfhlfaaGreat

/- The sample group. -/
set_option linter.unusedSimpArgs false
namespace Go.Proofs.YtlfloekanfhlfaaGreat
open Go.RowKit Go

def roleA : Array Value := #[.int .i64 1500, .int .i64 1600, .int .i64 1700, .int .i64 1200, .int .i64 3100, .int .i64 3200, .int .i64 3300, .int .i64 3400, .int .i64 3500, .int .i64 4500, .int .i64 4600, .int .i64 4700, .int .i64 5500, .int .i64 5600, .int .i64 5700]
set_option maxRecDepth 20000 in
set_option maxHeartbeats 1000000 in
theorem roles57 (w : World) : Calls Tryz.prog 19 #[] w fun e w' => e = .returned (.agg roleA) ∧ Below w.heap.size w w' := by
  have hz := alloc_new' (w := w) (o := .cells #[.int .i64 0, .int .i64 0, .int .i64 0, .int .i64 0, .int .i64 0, .int .i64 0, .int .i64 0, .int .i64 0, .int .i64 0, .int .i64 0, .int .i64 0, .int .i64 0, .int .i64 0, .int .i64 0, .int .i64 0] 28) rfl
  have HZ := Lib.hid hz
  have HSET := Lib.hid (setRow_heap _ _ _ roleA _ _ hz)
  have HB := Lib.hid (below_setRow (n := w.heap.size) (p := w.heap.size) ((Below.refl w.heap.size w).alloc (Nat.le_refl _) (.cells #[.int .i64 0, .int .i64 0, .int .i64 0, .int .i64 0, .int .i64 0, .int .i64 0, .int .i64 0, .int .i64 0, .int .i64 0, .int .i64 0, .int .i64 0, .int .i64 0, .int .i64 0, .int .i64 0, .int .i64 0] 28)) (Nat.le_refl _) roleA)
  clear hz
  go_enter Tryz.func19, Tryz.ntmps19
  go_wp2_with (refine wpList_store_row rfl _ _ _ rfl w.heap.size roleA rfl rfl 28 _ HZ.out (by kernel_rfl) (by rfl) (by simp [roleA, Value.oneCell']) ?_)
  refine bodyPost_ret (results_cell_row rfl _ _ w.heap.size 28 _ (0, 0) _ rfl HSET.out Tryz.underlying28 rfl (by kernel_rfl)) rfl ?_
  exact ⟨rfl, HB.out⟩
def roleF (i : Fin 15) : Int := [1500, 1600, 1700, 1200, 3100, 3200, 3300, 3400, 3500, 4500, 4600, 4700, 5500, 5600, 5700].get i
def bEUR : ByteArray := ⟨#[69, 85, 82]⟩
set_option maxRecDepth 20000 in
set_option maxHeartbeats 1000000 in
theorem sample57 (w : World) : Calls Tryz.prog 5 #[] w fun e w' => ∃ ca cl cc eb, e = .returned (.agg (grpV bEUR 2026 1 36 ca cl cc roleF (some ⟨eb, 0, none⟩) 4 4)) ∧ Below w.heap.size w w' := by
  go_enter Tryz.func5, Tryz.ntmps5
  go_wp2_with fail
  have hB1 := (Below.refl w.heap.size w).alloc (Nat.le_refl _) (.cells (grpV ⟨#[]⟩ 0 0 0 none 0 0 (fun _ => 0) none 0 0) 31)
  have HR := Lib.hid (alloc_new' (w := w) (o := .cells (grpV ⟨#[]⟩ 0 0 0 none 0 0 (fun _ => 0) none 0 0) 31) rfl)
  have HB1 := Lib.hid hB1
  clear hB1
  unfold grpV at HR HB1
  generalize hw1 : w.alloc _ = w1 at HR HB1 ⊢
  clear hw1
  refine (chart57 w1).mono ?_
  rintro e w2 ⟨ca, cl, cc, rfl, hB2⟩
  have HR2 := Lib.hid ((hB2.block _ (blk_lt HR.out)).trans HR.out)
  have HB2 := Lib.hid (below_step HB1.out hB2)
  clear hB2 HR HB1
  go_wp2_with fail
  refine (roles57 w2).mono ?_
  rintro e w3 ⟨rfl, hB3⟩
  have HR3 := Lib.hid ((hB3.block _ (blk_lt HR2.out)).trans HR2.out)
  have HB3 := Lib.hid (below_step HB2.out hB3)
  clear hB3 HR2 HB2
  have hz := alloc_new' (w := w3) (o := .cells #[.string ⟨#[]⟩, .int .i64 0, .int .i64 0, .int .i64 0, .slice none 0 0, .int .i64 0, .int .i64 0, .int .i64 0, .int .i64 0, .int .i64 0, .int .i64 0, .int .i64 0, .int .i64 0, .int .i64 0, .int .i64 0, .int .i64 0, .int .i64 0, .int .i64 0, .int .i64 0, .int .i64 0, .slice none 0 0] 31) rfl
  have HZ := Lib.hid hz
  have HG := Lib.hid (setRow_heap _ _ _ (grpV bEUR 2026 1 36 ca cl cc roleF none 0 0) _ _ hz)
  have HBG := Lib.hid (below_setRow (n := w3.heap.size) (p := w3.heap.size) ((Below.refl w3.heap.size w3).alloc (Nat.le_refl _) (.cells #[.string ⟨#[]⟩, .int .i64 0, .int .i64 0, .int .i64 0, .slice none 0 0, .int .i64 0, .int .i64 0, .int .i64 0, .int .i64 0, .int .i64 0, .int .i64 0, .int .i64 0, .int .i64 0, .int .i64 0, .int .i64 0, .int .i64 0, .int .i64 0, .int .i64 0, .int .i64 0, .int .i64 0, .slice none 0 0] 31)) (Nat.le_refl _) (grpV bEUR 2026 1 36 ca cl cc roleF none 0 0))
  clear hz
  go_wp2_with (first | refine wpList_buildTo rfl 31 _ rfl _ rfl (grpV bEUR 2026 1 36 ca cl cc roleF none 0 0) (by kernel_rfl) ?_ | refine wpList_store_row rfl _ _ _ rfl w3.heap.size (grpV bEUR 2026 1 36 ca cl cc roleF none 0 0) rfl rfl 31 _ HZ.out (by kernel_rfl) (by rfl) (by kernel_rfl) ?_)
  generalize World.setRow _ _ _ = w4 at HG HBG ⊢
  obtain ⟨rb, hrb⟩ : ∃ q, w.heap.size = q := ⟨_, rfl⟩
  obtain ⟨gb, hgb⟩ : ∃ q, w3.heap.size = q := ⟨_, rfl⟩
  have hlt3 := blk_lt HR3.out
  have HR4 := Lib.hid ((HBG.out.block _ hlt3).trans HR3.out)
  have HB4 := Lib.hid (below_step HB3.out HBG.out)
  have HRB := Lib.hid hrb
  have HGB := Lib.hid hgb
  rw [hrb] at HR4 hlt3
  rw [hrb, hgb]
  rw [hgb] at HG hlt3
  clear HR3 HB3 HZ HBG hrb hgb
  refine (entity57 w4 _ _).mono ?_
  rintro e w5 ⟨a5, l5, c5, d5, m5, k5, rfl, hB⟩
  have HR5 := Lib.hid ((hB.block _ (blk_lt HR4.out)).trans HR4.out)
  have HG5 := Lib.hid ((hB.block _ (blk_lt HG.out)).trans HG.out)
  have HB5 := Lib.hid (below_step HB4.out hB)
  clear hB HR4 HG HB4
  go_wp2_with fail
  refine (entity57 w5 _ _).mono ?_
  rintro e w6 ⟨a6, l6, c6, d6, m6, k6, rfl, hB⟩
  have HR6 := Lib.hid ((hB.block _ (blk_lt HR5.out)).trans HR5.out)
  have HG6 := Lib.hid ((hB.block _ (blk_lt HG5.out)).trans HG5.out)
  have HB6 := Lib.hid (below_step HB5.out hB)
  clear hB HR5 HG5 HB5
  go_wp2_with fail
  refine (entity57 w6 _ _).mono ?_
  rintro e w7 ⟨a7, l7, c7, d7, m7, k7, rfl, hB⟩
  have HR7 := Lib.hid ((hB.block _ (blk_lt HR6.out)).trans HR6.out)
  have HG7 := Lib.hid ((hB.block _ (blk_lt HG6.out)).trans HG6.out)
  have HB7 := Lib.hid (below_step HB6.out hB)
  clear hB HR6 HG6 HB6
  go_wp2_with fail
  refine (entity57 w7 _ _).mono ?_
  rintro e w8 ⟨a8, l8, c8, d8, m8, k8, rfl, hB⟩
  have HR8 := Lib.hid ((hB.block _ (blk_lt HR7.out)).trans HR7.out)
  have HG8 := Lib.hid ((hB.block _ (blk_lt HG7.out)).trans HG7.out)
  have HB8 := Lib.hid (below_step HB7.out hB)
  clear hB HR7 HG7 HB7
  have hA := alloc_new' (w := w8) (o := .cells #[.string ⟨#[112, 97, 114, 101, 110, 116]⟩, .string ⟨#[69, 85, 82]⟩, .slice a5 l5 c5, .slice d5 m5 k5, .bool false, .string ⟨#[110, 111, 114, 116, 104]⟩, .string ⟨#[69, 85, 82]⟩, .slice a6 l6 c6, .slice d6 m6 k6, .bool false, .string ⟨#[119, 101, 115, 116]⟩, .string ⟨#[85, 83, 68]⟩, .slice a7 l7 c7, .slice d7 m7 k7, .bool false, .string ⟨#[106, 111, 105, 110, 116]⟩, .string ⟨#[85, 83, 68]⟩, .slice a8 l8 c8, .slice d8 m8 k8, .bool false] 80) rfl
  have hBA := (Below.refl w8.heap.size w8).alloc (Nat.le_refl _) (.cells #[.string ⟨#[112, 97, 114, 101, 110, 116]⟩, .string ⟨#[69, 85, 82]⟩, .slice a5 l5 c5, .slice d5 m5 k5, .bool false, .string ⟨#[110, 111, 114, 116, 104]⟩, .string ⟨#[69, 85, 82]⟩, .slice a6 l6 c6, .slice d6 m6 k6, .bool false, .string ⟨#[119, 101, 115, 116]⟩, .string ⟨#[85, 83, 68]⟩, .slice a7 l7 c7, .slice d7 m7 k7, .bool false, .string ⟨#[106, 111, 105, 110, 116]⟩, .string ⟨#[85, 83, 68]⟩, .slice a8 l8 c8, .slice d8 m8 k8, .bool false] 80)
  have hgA := alloc_old' (o := .cells #[.string ⟨#[112, 97, 114, 101, 110, 116]⟩, .string ⟨#[69, 85, 82]⟩, .slice a5 l5 c5, .slice d5 m5 k5, .bool false, .string ⟨#[110, 111, 114, 116, 104]⟩, .string ⟨#[69, 85, 82]⟩, .slice a6 l6 c6, .slice d6 m6 k6, .bool false, .string ⟨#[119, 101, 115, 116]⟩, .string ⟨#[85, 83, 68]⟩, .slice a7 l7 c7, .slice d7 m7 k7, .bool false, .string ⟨#[106, 111, 105, 110, 116]⟩, .string ⟨#[85, 83, 68]⟩, .slice a8 l8 c8, .slice d8 m8 k8, .bool false] 80) HG8.out
  have hrA := alloc_old' (o := .cells #[.string ⟨#[112, 97, 114, 101, 110, 116]⟩, .string ⟨#[69, 85, 82]⟩, .slice a5 l5 c5, .slice d5 m5 k5, .bool false, .string ⟨#[110, 111, 114, 116, 104]⟩, .string ⟨#[69, 85, 82]⟩, .slice a6 l6 c6, .slice d6 m6 k6, .bool false, .string ⟨#[119, 101, 115, 116]⟩, .string ⟨#[85, 83, 68]⟩, .slice a7 l7 c7, .slice d7 m7 k7, .bool false, .string ⟨#[106, 111, 105, 110, 116]⟩, .string ⟨#[85, 83, 68]⟩, .slice a8 l8 c8, .slice d8 m8 k8, .bool false] 80) HR8.out
  have hlr := blk_lt HR8.out
  have hlg := blk_lt HG8.out
  obtain ⟨wA, hwA⟩ : ∃ q, q = w8.alloc (.cells #[.string ⟨#[112, 97, 114, 101, 110, 116]⟩, .string ⟨#[69, 85, 82]⟩, .slice a5 l5 c5, .slice d5 m5 k5, .bool false, .string ⟨#[110, 111, 114, 116, 104]⟩, .string ⟨#[69, 85, 82]⟩, .slice a6 l6 c6, .slice d6 m6 k6, .bool false, .string ⟨#[119, 101, 115, 116]⟩, .string ⟨#[85, 83, 68]⟩, .slice a7 l7 c7, .slice d7 m7 k7, .bool false, .string ⟨#[106, 111, 105, 110, 116]⟩, .string ⟨#[85, 83, 68]⟩, .slice a8 l8 c8, .slice d8 m8 k8, .bool false] 80) := ⟨_, rfl⟩
  rw [← hwA] at hA hBA hgA hrA
  have x1 := blk_cell hgA 20
  rw [show (grpV bEUR 2026 1 36 ca cl cc roleF none 0 0)[20]? = some (.slice none 0 0) from rfl] at x1
  have f1 := blk_frozen hgA 20
  have g1 : Gr (fun b => b = gb) wA (wA.setCell ⟨gb, 20, none⟩ (.slice (some ⟨w8.heap.size, 0, none⟩) 4 4)) := (Gr.refl (fun b => b = gb) wA).setCell (.inl rfl) _
  have hgS := blk_set (i := 20) hgA (.slice (some ⟨w8.heap.size, 0, none⟩) 4 4)
  have hS := (g1.block _ (blk_lt hA) (by omega)).trans hA
  have hrS := (g1.block _ (blk_lt hrA) (by omega)).trans hrA
  have HGS := Lib.hid (show (wA.setCell ⟨gb, 20, none⟩ (.slice (some ⟨w8.heap.size, 0, none⟩) 4 4)).heap[gb]? = some (.cells (grpV bEUR 2026 1 36 ca cl cc roleF (some ⟨w8.heap.size, 0, none⟩) 4 4) 31 (0, 0)) from hgS)
  have x2 := blk_cell HGS.out 20
  rw [show (grpV bEUR 2026 1 36 ca cl cc roleF (some ⟨w8.heap.size, 0, none⟩) 4 4)[20]? = some (.slice (some ⟨w8.heap.size, 0, none⟩) 4 4) from rfl] at x2
  have x3 := blk_cell hS 19
  simp at x3
  have f3 := blk_frozen hS 19
  have g2 : Gr (fun b => b = w8.heap.size) (wA.setCell ⟨gb, 20, none⟩ (.slice (some ⟨w8.heap.size, 0, none⟩) 4 4)) ((wA.setCell ⟨gb, 20, none⟩ (.slice (some ⟨w8.heap.size, 0, none⟩) 4 4)).setCell ⟨w8.heap.size, 19, none⟩ (.bool true)) := (Gr.refl (fun b => b = w8.heap.size) _).setCell (.inl rfl) _
  have HGT := Lib.hid ((g2.block _ (blk_lt HGS.out) (by omega)).trans HGS.out)
  have hrT := (g2.block _ (blk_lt hrS) (by omega)).trans hrS
  have HRT := Lib.hid hrT
  have HSET := Lib.hid (setRow_heap _ _ _ (grpV bEUR 2026 1 36 ca cl cc roleF (some ⟨w8.heap.size, 0, none⟩) 4 4) _ _ hrT)
  have b1 : Below rb w8 wA := hBA.mono (by omega)
  have b2 := g1.below (n := rb) (fun b e => by omega) (by have := b1.size; omega)
  have b3 := g2.below (n := rb) (fun b e => by omega) (by have := b2.size; have := b1.size; omega)
  have b4 := (gr_setRow ((wA.setCell ⟨gb, 20, none⟩ (.slice (some ⟨w8.heap.size, 0, none⟩) 4 4)).setCell ⟨w8.heap.size, 19, none⟩ (.bool true)) rb (grpV bEUR 2026 1 36 ca cl cc roleF (some ⟨w8.heap.size, 0, none⟩) 4 4)).below (n := rb) (fun b e => by omega) (by have := b3.size; have := b2.size; have := b1.size; omega)
  have HBT := Lib.hid (((b1.trans b2).trans b3).trans b4)
  clear hA hBA hgA hrA g1 hgS hS hrS g2 hrT b1 b2 b3 b4 HGS hlr hlg hlt3
  subst hwA
  go_wp2_with (first | refine wpList_load_row rfl 31 _ rfl gb rfl 31 _ (0, 0) _ HGT.out Tryz.underlying31 rfl (by kernel_rfl) ?_ | refine wpList_store_row rfl _ _ _ rfl rb (grpV bEUR 2026 1 36 ca cl cc roleF (some ⟨w8.heap.size, 0, none⟩) 4 4) rfl rfl 31 _ HRT.out (by kernel_rfl) (by rfl) (by kernel_rfl) ?_)
  refine bodyPost_ret (results_cell_row rfl _ _ rb 31 _ (0, 0) _ rfl HSET.out Tryz.underlying31 rfl (by kernel_rfl)) rfl ?_
  refine ⟨_, _, _, _, rfl, ?_⟩
  have h1 := HB8.out
  have h2 := HBT.out
  rw [HRB.out]
  rw [HRB.out] at h1
  exact h1.trans h2
end Go.Proofs.YtlfloekanfhlfaaGreat
