/- Layer 16: Set. -/
import Derived.Test.YtmlekhkgokgpbaaC16h
set_option linter.unusedSimpArgs false
namespace Go.Proofs.Ytmlekhkgokgpbaa
open Go.RowKit Go

/-- A table, its history's slice written out. -/
def Tab2 (F : Nat → Prop) (w : World) (p : Nat) (g : ByteArray) (m : Nat) (f : K3 → Option Int) (hs : List rateT.den) (mb : Nat) (ha : Option Addr) (hl hcap : Nat) : Prop :=
  (∀ b, F b → b < w.heap.size) ∧ F p ∧ w.heap[p]? = some (.cells #[.string g, .map (some mb), .slice ha hl hcap] 54 (0, 0)) ∧ MapKI w mb m f ∧
    Owns rateT 35 0 (fun _ => False) w (.slice ha hl hcap) hs ∧ F mb ∧ mb ≠ p ∧ (∀ c, (Value.slice ha hl hcap).ownBlock = some c → F c ∧ c ≠ p ∧ c ≠ mb) ∧ hl = hs.length
theorem Below.lt_cell {w : World} {b i : Nat} {v : Value} (h : w.cell? ⟨b, i, none⟩ = some v) : b < w.heap.size := World.block_lt_of_cell? w ⟨b, i, none⟩ h
theorem Tab2.of {F : Nat → Prop} {w : World} {p : Nat} {g : ByteArray} {m : Nat} {f : K3 → Option Int} {hs : List rateT.den} (h : TabIn F w p g m f hs) : ∃ mb ha hl hcap, Tab2 F w p g m f hs mb ha hl hcap := by
  obtain ⟨h0, hp, b, hv, h1, h2, h3, h4, h5, h6⟩ := h
  obtain ⟨a, l, c, rfl, hl, -⟩ := h3.slice
  exact ⟨b, a, l, c, h0, hp, h1, h2, h3, h4, h5, h6, hl⟩
theorem Tab2.to {F : Nat → Prop} {w : World} {p : Nat} {g : ByteArray} {m : Nat} {f : K3 → Option Int} {hs : List rateT.den} {mb : Nat} {ha : Option Addr} {hl hcap : Nat} (h : Tab2 F w p g m f hs mb ha hl hcap) : TabIn F w p g m f hs := by
  obtain ⟨h0, hp, h1, h2, h3, h4, h5, h6, -⟩ := h
  exact ⟨h0, hp, mb, _, h1, h2, h3, h4, h5, h6⟩
theorem Tab2.below {F : Nat → Prop} {w w' : World} {p : Nat} {g : ByteArray} {m : Nat} {f : K3 → Option Int} {hs : List rateT.den} {mb : Nat} {ha : Option Addr} {hl hcap : Nat} (h : Tab2 F w p g m f hs mb ha hl hcap) (hB : Below w.heap.size w w') : Tab2 F w' p g m f hs mb ha hl hcap := by
  obtain ⟨h0, hp, h1, h2, h3, h4, h5, h6, h7⟩ := h
  exact ⟨fun b hb => Nat.lt_of_lt_of_le (h0 b hb) hB.size, hp, (hB.block p (h0 p hp)).trans h1, h2.below hB, h3.below hB, h4, h5, h6, h7⟩
theorem Tab2.cells {F : Nat → Prop} {w : World} {p : Nat} {g : ByteArray} {m : Nat} {f : K3 → Option Int} {hs : List rateT.den} {mb : Nat} {ha : Option Addr} {hl hcap : Nat} (h : Tab2 F w p g m f hs mb ha hl hcap) :
    w.cell? ⟨p, 0, none⟩ = some (.string g) ∧ w.cell? ⟨p, 1, none⟩ = some (.map (some mb)) ∧ w.cell? ⟨p, 2, none⟩ = some (.slice ha hl hcap) ∧ w.frozen? ⟨p, 2, none⟩ = false ∧ hl = hs.length :=
  ⟨blk_cell h.2.2.1 0, blk_cell h.2.2.1 1, blk_cell h.2.2.1 2, blk_frozen h.2.2.1 2, h.2.2.2.2.2.2.2.2⟩
theorem Tab2.map {F : Nat → Prop} {w : World} {p : Nat} {g : ByteArray} {m : Nat} {f : K3 → Option Int} {hs : List rateT.den} {mb : Nat} {ha : Option Addr} {hl hcap : Nat} (h : Tab2 F w p g m f hs mb ha hl hcap) : MapKI w mb m f := h.2.2.2.1

theorem info_rate : (Try.prog.info? 35).map (fun i => (i.zero, i.size, i.bytes)) = some (some (.agg #[.string ByteArray.empty, .int .i64 0, .int .i64 0, .int .i64 0]), 4, 40) := by kernel_rfl
theorem set_done (F : Nat → Prop) (w w4 w5 w6 w7 : World) (p : Nat) (g : ByteArray) (m m' : Nat) (f f' : K3 → Option Int) (hs hs' : List rateT.den) (mb : Nat) (ha ca : Option Addr) (hl hcap cl cc : Nat)
    (hT : Tab2 F w4 p g m f hs mb ha hl hcap) (hB : Below w.heap.size w w4) (hFw : ∀ b, F b → b < w.heap.size) (hM : MapKI w5 mb m' f') (g5 : w4.grownBy w5 (some mb)) (b6 : Below w5.heap.size w5 w6)
    (O7 : Owns rateT 35 0 (fun _ => False) w7 (.slice ca cl cc) hs') (g7 : w6.grownBy w7 (Value.slice ha hl hcap).ownBlock) (ob : (Value.slice ca cl cc).ownBlock = (Value.slice ha hl hcap).ownBlock ∨ (Value.slice ca cl cc).ownBlock = some w6.heap.size) :
    w7.cell? ⟨p, 2, none⟩ = some (.slice ha hl hcap) ∧ w7.frozen? ⟨p, 2, none⟩ = false ∧
      ∃ F', TabIn F' (w7.setCell ⟨p, 2, none⟩ (.slice ca cl cc)) p g m' f' hs' ∧ (∀ b, F' b → F b ∨ w.heap.size ≤ b) ∧ Gr F w (w7.setCell ⟨p, 2, none⟩ (.slice ca cl cc)) := by
  obtain ⟨h0, hp, h1, h2, h3, h4, h5, h6, h7⟩ := hT
  have s4 := hB.size
  have s5 := g5.size
  have s6 := b6.size
  have s7 := g7.size
  have hpw := hFw p hp
  have hmw := hFw mb h4
  have hown : ∀ c, (Value.slice ha hl hcap).ownBlock = some c → c < w.heap.size := fun c hc => hFw c (h6 c hc).1
  have hp5 := blk_gr (Gr.of_grown g5) h1 (fun e => h5 (by simpa using e))
  have hp6 := blk_gr (Gr.of_below (F := fun _ => False) b6) hp5 (fun h => h)
  have hp7 := blk_gr (Gr.of_grown g7) hp6 (fun e => (h6 p e).2.1 rfl)
  have gS : Gr (fun b => b = p) w7 (w7.setCell ⟨p, 2, none⟩ (.slice ca cl cc)) := (Gr.refl (fun b => b = p) w7).setCell (p := ⟨p, 2, none⟩) (.inl rfl) _
  have hca : ∀ c, (Value.slice ca cl cc).ownBlock = some c → (F c ∨ w.heap.size ≤ c) ∧ c ≠ p ∧ c ≠ mb := fun c hc => by
    rcases ob with e | e
    · have := h6 c (e ▸ hc)
      exact ⟨.inl this.1, this.2.1, this.2.2⟩
    · rw [hc] at e
      simp only [Option.some.injEq] at e
      exact ⟨.inr (by omega), by omega, by omega⟩
  have hm7 : w7.heap[mb]? = w5.heap[mb]? := (g7.block mb (by omega) (fun e => (h6 mb e.symm).2.2 rfl)).trans (b6.block mb (by omega))
  have hm8 : (w7.setCell ⟨p, 2, none⟩ (.slice ca cl cc)).heap[mb]? = w5.heap[mb]? := (gS.block mb (by omega) h5).trans hm7
  refine ⟨blk_cell hp7 2, blk_frozen hp7 2, fun b => (F b ∨ w.heap.size ≤ b) ∧ b < w7.heap.size, ⟨fun b hb => Nat.lt_of_lt_of_le hb.2 gS.size, ⟨.inl hp, blk_lt hp7⟩, mb, .slice ca cl cc, blk_set hp7 _, hM.keep hm8, ?_, ⟨.inl h4, by omega⟩, h5, fun c hc => ⟨⟨(hca c hc).1, (O7.own c hc).2⟩, (hca c hc).2⟩⟩, fun b hb => hb.1, ?_⟩
  · exact O7.gr gS (fun _ h => h.elim) (fun c hc => (hca c hc).2.1)
  · have e1 : Gr F w w5 := (Gr.of_below (F := F) hB).trans (Gr.of_grown g5) (fun x hx => .inl (by cases hx; exact h4))
    have e2 : Gr F w w6 := e1.step b6
    have e3 : Gr F w w7 := e2.grown g7 (fun x hx => .inl (h6 x hx).1)
    exact e3.trans gS (fun x hx => .inl (by rw [hx]; exact hp))

set_option maxRecDepth 20000 in
set_option maxHeartbeats 4000000 in
theorem Set_bad (F : Nat → Prop) (w : World) (p : Nat) (g : ByteArray) (m : Nat) (f : K3 → Option Int) (hs : List rateT.den) (h : TabIn F w p g m f hs) (r : Rt) (hok : r.k.ok) (hpb : properB g r.cur r.kind r.when_ r.val = false) :
    Calls Try.prog 16 #[.pointer (some ⟨p, 0, none⟩), r.v] w fun e w' => e = .returned (.int .i64 1) ∧ Below w.heap.size w w' := by
  obtain ⟨rc, rk, rw_, rv⟩ := r
  unfold Rt.v rateV
  have hh := heap_alloc_new w (.cells #[.string rc, .int .i64 rk, .int .i64 rw_, .int .i64 rv] 35)
  have hB1 : Below w.heap.size w (w.alloc (.cells #[.string rc, .int .i64 rk, .int .i64 rw_, .int .i64 rv] 35)) := (Below.refl _ w).alloc (Nat.le_refl _) _
  have hp := fun W => proper_sum W g rc rk rw_ rv hok.1
  unfold rateV at hp
  simp only at hpb
  rw [hpb] at hp
  have HP := Lib.hid hp
  have hof := fun W => of_sum W ⟨rc, rk, rw_, rv⟩
  unfold Rt.v rateV keyV at hof
  simp only at hof
  have HOF := Lib.hid hof
  obtain ⟨mb, ha, hl, hcap, hT⟩ := Tab2.of h
  have HT := Lib.hid hT
  have HOK := Lib.hid hok
  clear hp hof h hT
  go_enter Try.func16, Try.ntmps16
  go_wp2_with fail
  generalize w.alloc (.cells #[.string rc, .int .i64 rk, .int .i64 rw_, .int .i64 rv] 35) = W1 at *
  have HT1 := Lib.hid (HT.out.below hB1)
  obtain ⟨k0, k1, k2, -, -⟩ := HT1.out.cells
  have q0 : W1.cell? ⟨w.heap.size, 0, none⟩ = some (.string rc) := blk_cell hh 0
  have q1 : W1.cell? ⟨w.heap.size, 1, none⟩ = some (.int .i64 rk) := blk_cell hh 1
  have q2 : W1.cell? ⟨w.heap.size, 2, none⟩ = some (.int .i64 rw_) := blk_cell hh 2
  have q3 : W1.cell? ⟨w.heap.size, 3, none⟩ = some (.int .i64 rv) := blk_cell hh 3
  refine wp_region_T (fun w' => w'.cell? ⟨p, 0, none⟩ = some (.string g) ∧ w'.cell? ⟨w.heap.size, 0, none⟩ = some (.string rc) ∧ w'.cell? ⟨w.heap.size, 1, none⟩ = some (.int .i64 rk) ∧ w'.cell? ⟨w.heap.size, 2, none⟩ = some (.int .i64 rw_) ∧ w'.cell? ⟨w.heap.size, 3, none⟩ = some (.int .i64 rv)) (fun i => i == 5) (by kernel_rfl) ?_
  have hS0 : W1.drew.cell? ⟨p, 0, none⟩ = some (.string g) ∧ _ := And.intro k0 (And.intro q0 (And.intro q1 (And.intro q2 q3)))
  refine wpAnyT_pure (i := 0) (v := ?_) rfl (by kernel_rfl) (by kernel_rfl) (by kernel_rfl) (fun _ _ _ h => h) (by rfl) ?_ ?_
  rotate_left
  · intro w; go_simp; try with_reducible rfl
  simp only [Act.put, List.setIfInBounds_toArray, List.set_cons_zero, List.set_cons_succ, List.getElem_toArray, List.getElem_cons_succ, List.getElem_cons_zero]
  refine wpAnyT_pure (i := 1) (v := ?_) rfl (by kernel_rfl) (by kernel_rfl) (by kernel_rfl) (fun _ _ _ h => h) (by rfl) ?_ ?_
  rotate_left
  · intro w; go_simp; try with_reducible rfl
  simp only [Act.put, List.setIfInBounds_toArray, List.set_cons_zero, List.set_cons_succ, List.getElem_toArray, List.getElem_cons_succ, List.getElem_cons_zero]
  refine wpAnyT_pure (i := 2) (v := ?_) rfl (by kernel_rfl) (by kernel_rfl) (by kernel_rfl) (fun _ _ _ h => h) (by rfl) ?_ ?_
  rotate_left
  · intro w; go_simp; try with_reducible rfl
  simp only [Act.put, List.setIfInBounds_toArray, List.set_cons_zero, List.set_cons_succ, List.getElem_toArray, List.getElem_cons_succ, List.getElem_cons_zero]
  refine wpAnyT_loadW (i := 3) (v := ?_) rfl (by kernel_rfl) (by kernel_rfl) (by kernel_rfl) (by kernel_rfl) (by kernel_rfl) (fun _ _ _ h => h) (Or.inl ⟨by rfl, ?_⟩) hS0 ?_
  rotate_left
  · intro w hSw; obtain ⟨e9, e0, e1, e2, e3⟩ := hSw; go_simp; try with_reducible rfl
  simp only [Act.put, List.setIfInBounds_toArray, List.set_cons_zero, List.set_cons_succ, List.getElem_toArray, List.getElem_cons_succ, List.getElem_cons_zero]
  refine wpAnyT_loadW (i := 4) (v := ?_) rfl (by kernel_rfl) (by kernel_rfl) (by kernel_rfl) (by kernel_rfl) (by kernel_rfl) (fun _ _ _ h => h) (Or.inl ⟨by rfl, ?_⟩) hS0 ?_
  rotate_left
  · intro w hSw; obtain ⟨e9, e0, e1, e2, e3⟩ := hSw; go_simp; try with_reducible rfl
  simp only [Act.put, List.setIfInBounds_toArray, List.set_cons_zero, List.set_cons_succ, List.getElem_toArray, List.getElem_cons_succ, List.getElem_cons_zero]
  refine wpAnyT_one (i := 5) (by kernel_rfl) rfl (by rfl) ?_
  refine wp_enter (f := 35) (args := #[.string g, .agg #[.string rc, .int .i64 rk, .int .i64 rw_, .int .i64 rv]]) (by go_simp) (HP.out W1.drew) ?_
  rintro e w2 ⟨rfl, hB2⟩
  replace hB2 : Below W1.heap.size W1 w2 := (below_drew W1).trans hB2
  have hh2 := (hB2.block _ (Array.getElem?_eq_some_iff.1 hh).1).trans hh
  have HT2 := Lib.hid (HT1.out.below hB2)
  have HB2 := Lib.hid (below_step hB1 hB2)
  clear hB2
  refine ⟨_, rfl, fun h => absurd h (by decide), ?_⟩
  try simp only [Act.put, List.setIfInBounds_toArray, List.set_cons_zero, List.set_cons_succ, List.getElem_toArray, List.getElem_cons_succ, List.getElem_cons_zero]
  refine wpAnyT_pure (i := 6) (v := ?_) rfl (by kernel_rfl) (by kernel_rfl) (by kernel_rfl) (fun _ _ _ h => h) (by rfl) ?_ ?_
  rotate_left
  · intro w; go_simp; try with_reducible rfl
  simp only [Act.put, List.setIfInBounds_toArray, List.set_cons_zero, List.set_cons_succ, List.getElem_toArray, List.getElem_cons_succ, List.getElem_cons_zero]
  refine wpAnyT_done (by kernel_rfl) ?_ _
  go_wp2
  go_ret
  exact ⟨rfl, HB2.out⟩

set_option maxRecDepth 20000 in
set_option maxHeartbeats 4000000 in
theorem Set_limit (F : Nat → Prop) (w : World) (p : Nat) (g : ByteArray) (m : Nat) (f : K3 → Option Int) (hs : List rateT.den) (h : TabIn F w p g m f hs) (r : Rt) (hok : r.k.ok) (hpb : properB g r.cur r.kind r.when_ r.val = true) (hlim : ((f r.k).isSome = false ∧ 1000 ≤ m) ∨ 5000 ≤ hs.length) :
    Calls Try.prog 16 #[.pointer (some ⟨p, 0, none⟩), r.v] w fun e w' => e = .returned (.int .i64 6) ∧ Below w.heap.size w w' := by
  have HLIM := Lib.hid hlim
  clear hlim
  obtain ⟨rc, rk, rw_, rv⟩ := r
  unfold Rt.v rateV
  have hh := heap_alloc_new w (.cells #[.string rc, .int .i64 rk, .int .i64 rw_, .int .i64 rv] 35)
  have hB1 : Below w.heap.size w (w.alloc (.cells #[.string rc, .int .i64 rk, .int .i64 rw_, .int .i64 rv] 35)) := (Below.refl _ w).alloc (Nat.le_refl _) _
  have hp := fun W => proper_sum W g rc rk rw_ rv hok.1
  unfold rateV at hp
  simp only at hpb
  rw [hpb] at hp
  have HP := Lib.hid hp
  have hof := fun W => of_sum W ⟨rc, rk, rw_, rv⟩
  unfold Rt.v rateV keyV at hof
  simp only at hof
  have HOF := Lib.hid hof
  obtain ⟨mb, ha, hl, hcap, hT⟩ := Tab2.of h
  have HT := Lib.hid hT
  have HOK := Lib.hid hok
  clear hp hof h hT
  go_enter Try.func16, Try.ntmps16
  go_wp2_with fail
  generalize w.alloc (.cells #[.string rc, .int .i64 rk, .int .i64 rw_, .int .i64 rv] 35) = W1 at *
  have HT1 := Lib.hid (HT.out.below hB1)
  obtain ⟨k0, k1, k2, -, -⟩ := HT1.out.cells
  have q0 : W1.cell? ⟨w.heap.size, 0, none⟩ = some (.string rc) := blk_cell hh 0
  have q1 : W1.cell? ⟨w.heap.size, 1, none⟩ = some (.int .i64 rk) := blk_cell hh 1
  have q2 : W1.cell? ⟨w.heap.size, 2, none⟩ = some (.int .i64 rw_) := blk_cell hh 2
  have q3 : W1.cell? ⟨w.heap.size, 3, none⟩ = some (.int .i64 rv) := blk_cell hh 3
  refine wp_region_T (fun w' => w'.cell? ⟨p, 0, none⟩ = some (.string g) ∧ w'.cell? ⟨w.heap.size, 0, none⟩ = some (.string rc) ∧ w'.cell? ⟨w.heap.size, 1, none⟩ = some (.int .i64 rk) ∧ w'.cell? ⟨w.heap.size, 2, none⟩ = some (.int .i64 rw_) ∧ w'.cell? ⟨w.heap.size, 3, none⟩ = some (.int .i64 rv)) (fun i => i == 5) (by kernel_rfl) ?_
  have hS0 : W1.drew.cell? ⟨p, 0, none⟩ = some (.string g) ∧ _ := And.intro k0 (And.intro q0 (And.intro q1 (And.intro q2 q3)))
  refine wpAnyT_pure (i := 0) (v := ?_) rfl (by kernel_rfl) (by kernel_rfl) (by kernel_rfl) (fun _ _ _ h => h) (by rfl) ?_ ?_
  rotate_left
  · intro w; go_simp; try with_reducible rfl
  simp only [Act.put, List.setIfInBounds_toArray, List.set_cons_zero, List.set_cons_succ, List.getElem_toArray, List.getElem_cons_succ, List.getElem_cons_zero]
  refine wpAnyT_pure (i := 1) (v := ?_) rfl (by kernel_rfl) (by kernel_rfl) (by kernel_rfl) (fun _ _ _ h => h) (by rfl) ?_ ?_
  rotate_left
  · intro w; go_simp; try with_reducible rfl
  simp only [Act.put, List.setIfInBounds_toArray, List.set_cons_zero, List.set_cons_succ, List.getElem_toArray, List.getElem_cons_succ, List.getElem_cons_zero]
  refine wpAnyT_pure (i := 2) (v := ?_) rfl (by kernel_rfl) (by kernel_rfl) (by kernel_rfl) (fun _ _ _ h => h) (by rfl) ?_ ?_
  rotate_left
  · intro w; go_simp; try with_reducible rfl
  simp only [Act.put, List.setIfInBounds_toArray, List.set_cons_zero, List.set_cons_succ, List.getElem_toArray, List.getElem_cons_succ, List.getElem_cons_zero]
  refine wpAnyT_loadW (i := 3) (v := ?_) rfl (by kernel_rfl) (by kernel_rfl) (by kernel_rfl) (by kernel_rfl) (by kernel_rfl) (fun _ _ _ h => h) (Or.inl ⟨by rfl, ?_⟩) hS0 ?_
  rotate_left
  · intro w hSw; obtain ⟨e9, e0, e1, e2, e3⟩ := hSw; go_simp; try with_reducible rfl
  simp only [Act.put, List.setIfInBounds_toArray, List.set_cons_zero, List.set_cons_succ, List.getElem_toArray, List.getElem_cons_succ, List.getElem_cons_zero]
  refine wpAnyT_loadW (i := 4) (v := ?_) rfl (by kernel_rfl) (by kernel_rfl) (by kernel_rfl) (by kernel_rfl) (by kernel_rfl) (fun _ _ _ h => h) (Or.inl ⟨by rfl, ?_⟩) hS0 ?_
  rotate_left
  · intro w hSw; obtain ⟨e9, e0, e1, e2, e3⟩ := hSw; go_simp; try with_reducible rfl
  simp only [Act.put, List.setIfInBounds_toArray, List.set_cons_zero, List.set_cons_succ, List.getElem_toArray, List.getElem_cons_succ, List.getElem_cons_zero]
  refine wpAnyT_one (i := 5) (by kernel_rfl) rfl (by rfl) ?_
  refine wp_enter (f := 35) (args := #[.string g, .agg #[.string rc, .int .i64 rk, .int .i64 rw_, .int .i64 rv]]) (by go_simp) (HP.out W1.drew) ?_
  rintro e w2 ⟨rfl, hB2⟩
  replace hB2 : Below W1.heap.size W1 w2 := (below_drew W1).trans hB2
  have hh2 := (hB2.block _ (Array.getElem?_eq_some_iff.1 hh).1).trans hh
  have HT2 := Lib.hid (HT1.out.below hB2)
  have HB2 := Lib.hid (below_step hB1 hB2)
  clear hB2
  refine ⟨_, rfl, fun h => absurd h (by decide), ?_⟩
  try simp only [Act.put, List.setIfInBounds_toArray, List.set_cons_zero, List.set_cons_succ, List.getElem_toArray, List.getElem_cons_succ, List.getElem_cons_zero]
  refine wpAnyT_pure (i := 6) (v := ?_) rfl (by kernel_rfl) (by kernel_rfl) (by kernel_rfl) (fun _ _ _ h => h) (by rfl) ?_ ?_
  rotate_left
  · intro w; go_simp; try with_reducible rfl
  simp only [Act.put, List.setIfInBounds_toArray, List.set_cons_zero, List.set_cons_succ, List.getElem_toArray, List.getElem_cons_succ, List.getElem_cons_zero]
  refine wpAnyT_done (by kernel_rfl) ?_ _
  obtain ⟨fx, hfx⟩ : ∃ fx, (f ⟨rc, rk, rw_⟩).getD 0 = fx := ⟨_, rfl⟩
  obtain ⟨fb, hfb⟩ : ∃ fb, (f ⟨rc, rk, rw_⟩).isSome = fb := ⟨_, rfl⟩
  have HFX := Lib.hid hfx
  have HFB := Lib.hid hfb
  clear hfx hfb
  go_wp2_with fail
  clear hS0 k0 k1 k2 q0 q1 q2 q3
  obtain ⟨k0, k1, k2, -, -⟩ := HT2.out.cells
  have q0 : w2.cell? ⟨w.heap.size, 0, none⟩ = some (.string rc) := blk_cell hh2 0
  have q1 : w2.cell? ⟨w.heap.size, 1, none⟩ = some (.int .i64 rk) := blk_cell hh2 1
  have q2 : w2.cell? ⟨w.heap.size, 2, none⟩ = some (.int .i64 rw_) := blk_cell hh2 2
  have q3 : w2.cell? ⟨w.heap.size, 3, none⟩ = some (.int .i64 rv) := blk_cell hh2 3
  refine wp_region_T (fun w' => w'.cell? ⟨p, 1, none⟩ = some (.map (some mb)) ∧ w'.cell? ⟨w.heap.size, 0, none⟩ = some (.string rc) ∧ w'.cell? ⟨w.heap.size, 1, none⟩ = some (.int .i64 rk) ∧ w'.cell? ⟨w.heap.size, 2, none⟩ = some (.int .i64 rw_) ∧ w'.cell? ⟨w.heap.size, 3, none⟩ = some (.int .i64 rv)) (fun i => i == 6) (by kernel_rfl) ?_
  have hS0 : w2.drew.cell? ⟨p, 1, none⟩ = some (.map (some mb)) ∧ _ := And.intro k1 (And.intro q0 (And.intro q1 (And.intro q2 q3)))
  refine wpAnyT_pure (i := 0) (v := ?_) rfl (by kernel_rfl) (by kernel_rfl) (by kernel_rfl) (fun _ _ _ h => h) (by rfl) ?_ ?_
  rotate_left
  · intro w; go_simp; try with_reducible rfl
  simp only [Act.put, List.setIfInBounds_toArray, List.set_cons_zero, List.set_cons_succ, List.getElem_toArray, List.getElem_cons_succ, List.getElem_cons_zero]
  refine wpAnyT_pure (i := 1) (v := ?_) rfl (by kernel_rfl) (by kernel_rfl) (by kernel_rfl) (fun _ _ _ h => h) (by rfl) ?_ ?_
  rotate_left
  · intro w; go_simp; try with_reducible rfl
  simp only [Act.put, List.setIfInBounds_toArray, List.set_cons_zero, List.set_cons_succ, List.getElem_toArray, List.getElem_cons_succ, List.getElem_cons_zero]
  refine wpAnyT_pure (i := 2) (v := ?_) rfl (by kernel_rfl) (by kernel_rfl) (by kernel_rfl) (fun _ _ _ h => h) (by rfl) ?_ ?_
  rotate_left
  · intro w; go_simp; try with_reducible rfl
  simp only [Act.put, List.setIfInBounds_toArray, List.set_cons_zero, List.set_cons_succ, List.getElem_toArray, List.getElem_cons_succ, List.getElem_cons_zero]
  refine wpAnyT_loadW (i := 3) (v := ?_) rfl (by kernel_rfl) (by kernel_rfl) (by kernel_rfl) (by kernel_rfl) (by kernel_rfl) (fun _ _ _ h => h) (Or.inl ⟨by rfl, ?_⟩) hS0 ?_
  rotate_left
  · intro w hSw; obtain ⟨e9, e0, e1, e2, e3⟩ := hSw; go_simp; try with_reducible rfl
  simp only [Act.put, List.setIfInBounds_toArray, List.set_cons_zero, List.set_cons_succ, List.getElem_toArray, List.getElem_cons_succ, List.getElem_cons_zero]
  refine wpAnyT_loadW (i := 4) (v := ?_) rfl (by kernel_rfl) (by kernel_rfl) (by kernel_rfl) (by kernel_rfl) (by kernel_rfl) (fun _ _ _ h => h) (Or.inl ⟨by rfl, ?_⟩) hS0 ?_
  rotate_left
  · intro w hSw; obtain ⟨e9, e0, e1, e2, e3⟩ := hSw; go_simp; try with_reducible rfl
  simp only [Act.put, List.setIfInBounds_toArray, List.set_cons_zero, List.set_cons_succ, List.getElem_toArray, List.getElem_cons_succ, List.getElem_cons_zero]
  refine wpAnyT_one (i := 5) (by kernel_rfl) rfl (by rfl) ?_
  refine wp_enter (f := 36) (args := #[.agg #[.string rc, .int .i64 rk, .int .i64 rw_, .int .i64 rv]]) (by go_simp) (HOF.out w2.drew) ?_
  rintro e w3 ⟨rfl, hB3⟩
  replace hB3 : Below w2.heap.size w2 w3 := (below_drew w2).trans hB3
  have hh3 := (hB3.block _ (Array.getElem?_eq_some_iff.1 hh2).1).trans hh2
  have HT3 := Lib.hid (HT2.out.below hB3)
  have HB3 := Lib.hid (below_step HB2.out hB3)
  have hq3 : w3.cell? ⟨p, 1, none⟩ = some (.map (some mb)) ∧ w3.cell? ⟨w.heap.size, 0, none⟩ = some (.string rc) ∧ w3.cell? ⟨w.heap.size, 1, none⟩ = some (.int .i64 rk) ∧ w3.cell? ⟨w.heap.size, 2, none⟩ = some (.int .i64 rw_) ∧ w3.cell? ⟨w.heap.size, 3, none⟩ = some (.int .i64 rv) := ⟨HT3.out.cells.2.1, blk_cell hh3 0, blk_cell hh3 1, blk_cell hh3 2, blk_cell hh3 3⟩
  have hlk := HT3.out.map.look Try.underlying52 ⟨rc, rk, rw_⟩ HOK.out
  unfold K3.v at hlk
  rw [HFX.out, HFB.out] at hlk
  clear hB3
  refine ⟨_, rfl, fun _ _ => hq3, ?_⟩
  try simp only [Act.put, List.setIfInBounds_toArray, List.set_cons_zero, List.set_cons_succ, List.getElem_toArray, List.getElem_cons_succ, List.getElem_cons_zero]
  refine wpAnyT_one (i := 6) (by kernel_rfl) rfl (by rfl) ?_
  refine wp_value (v := .tuple #[.int .i64 fx, .bool fb]) (w' := w3) (by go_simp) ?_
  refine ⟨fun h => absurd h (by decide), ?_⟩
  try simp only [Act.put, List.setIfInBounds_toArray, List.set_cons_zero, List.set_cons_succ, List.getElem_toArray, List.getElem_cons_succ, List.getElem_cons_zero]
  refine wpAnyT_pure (i := 7) (v := ?_) rfl (by kernel_rfl) (by kernel_rfl) (by kernel_rfl) (fun _ _ _ h => h) (by rfl) ?_ ?_
  rotate_left
  · intro w; go_simp; try with_reducible rfl
  simp only [Act.put, List.setIfInBounds_toArray, List.set_cons_zero, List.set_cons_succ, List.getElem_toArray, List.getElem_cons_succ, List.getElem_cons_zero]
  refine wpAnyT_pure (i := 8) (v := ?_) rfl (by kernel_rfl) (by kernel_rfl) (by kernel_rfl) (fun _ _ _ h => h) (by rfl) ?_ ?_
  rotate_left
  · intro w; go_simp; try with_reducible rfl
  simp only [Act.put, List.setIfInBounds_toArray, List.set_cons_zero, List.set_cons_succ, List.getElem_toArray, List.getElem_cons_succ, List.getElem_cons_zero]
  refine wpAnyT_pure (i := 9) (v := ?_) rfl (by kernel_rfl) (by kernel_rfl) (by kernel_rfl) (fun _ _ _ h => h) (by rfl) ?_ ?_
  rotate_left
  · intro w; go_simp; try with_reducible rfl
  simp only [Act.put, List.setIfInBounds_toArray, List.set_cons_zero, List.set_cons_succ, List.getElem_toArray, List.getElem_cons_succ, List.getElem_cons_zero]
  refine wpAnyT_pure (i := 10) (v := ?_) rfl (by kernel_rfl) (by kernel_rfl) (by kernel_rfl) (fun _ _ _ h => h) (by rfl) ?_ ?_
  rotate_left
  · intro w; go_simp; try with_reducible rfl
  simp only [Act.put, List.setIfInBounds_toArray, List.set_cons_zero, List.set_cons_succ, List.getElem_toArray, List.getElem_cons_succ, List.getElem_cons_zero]
  refine wpAnyT_pure (i := 11) (v := ?_) rfl (by kernel_rfl) (by kernel_rfl) (by kernel_rfl) (fun _ _ _ h => h) (by rfl) ?_ ?_
  rotate_left
  · intro w; go_simp; try with_reducible rfl
  simp only [Act.put, List.setIfInBounds_toArray, List.set_cons_zero, List.set_cons_succ, List.getElem_toArray, List.getElem_cons_succ, List.getElem_cons_zero]
  refine wpAnyT_done (by kernel_rfl) ?_ _
  clear hS0
  obtain ⟨k0, k1, k2, -, hhl⟩ := HT3.out.cells
  have hln := HT3.out.map.len Try.underlying52
  have hln' := hln 3
  clear hln
  have hd1 : ∃ d, decide ((1000 : Int) ≤ (m : Int)) = d := ⟨_, rfl⟩
  obtain ⟨d1, hd1⟩ := hd1
  have hd2 : ∃ d, decide ((5000 : Int) ≤ (hl : Int)) = d := ⟨_, rfl⟩
  obtain ⟨d2, hd2⟩ := hd2
  have hdd : (fb = false ∧ d1 = true) ∨ d2 = true := by
    rcases HLIM.out with ⟨h1, h2⟩ | h
    · exact .inl ⟨by rw [← HFB.out]; exact h1, by rw [← hd1]; exact decide_eq_true (by omega)⟩
    · exact .inr (by rw [← hd2]; exact decide_eq_true (by omega))
  clear HLIM hhl
  cases fb <;> cases d1 <;> cases d2 <;> first | (exfalso; simp at hdd; done) | skip
  all_goals
    clear hdd
    go_wp2
    all_goals
      go_ret
      exact ⟨rfl, HB3.out⟩

def SetPost (F : Nat → Prop) (w : World) (p : Nat) (g : ByteArray) (m : Nat) (f : K3 → Option Int) (hs : List rateT.den) (r : Rt) (e : Ending) (w' : World) : Prop :=
  e = .returned (.int .i64 0) ∧ ∃ F', TabIn F' w' p g (if (f r.k).isSome then m else m + 1) (fun x => if same3 r.k x = true then some r.val else f x) (hs ++ [(r.cur, r.kind, r.when_, r.val, ())]) ∧ (∀ b, F' b → F b ∨ w.heap.size ≤ b) ∧ Gr F w w'
set_option maxRecDepth 20000 in
set_option maxHeartbeats 4000000 in
theorem Set_ok (F : Nat → Prop) (w : World) (p : Nat) (g : ByteArray) (m : Nat) (f : K3 → Option Int) (hs : List rateT.den) (h : TabIn F w p g m f hs) (r : Rt) (hok : r.k.ok) (hpb : properB g r.cur r.kind r.when_ r.val = true) (hlim : ¬ (((f r.k).isSome = false ∧ 1000 ≤ m) ∨ 5000 ≤ hs.length)) (hml : m ≤ 100000) (hvw : (Lit.int .i64 r.val).wf = true) :
    Calls Try.prog 16 #[.pointer (some ⟨p, 0, none⟩), r.v] w fun e w' => SetPost F w p g m f hs r e w' := by
  have HLIM := Lib.hid hlim
  have HML := Lib.hid hml
  have HVW := Lib.hid hvw
  clear hlim hml hvw
  obtain ⟨rc, rk, rw_, rv⟩ := r
  unfold Rt.v rateV
  have hh := heap_alloc_new w (.cells #[.string rc, .int .i64 rk, .int .i64 rw_, .int .i64 rv] 35)
  have hB1 : Below w.heap.size w (w.alloc (.cells #[.string rc, .int .i64 rk, .int .i64 rw_, .int .i64 rv] 35)) := (Below.refl _ w).alloc (Nat.le_refl _) _
  have hp := fun W => proper_sum W g rc rk rw_ rv hok.1
  unfold rateV at hp
  simp only at hpb
  rw [hpb] at hp
  have HP := Lib.hid hp
  have hof := fun W => of_sum W ⟨rc, rk, rw_, rv⟩
  unfold Rt.v rateV keyV at hof
  simp only at hof
  have HOF := Lib.hid hof
  obtain ⟨mb, ha, hl, hcap, hT⟩ := Tab2.of h
  have HT := Lib.hid hT
  have HOK := Lib.hid hok
  clear hp hof h hT
  go_enter Try.func16, Try.ntmps16
  go_wp2_with fail
  generalize w.alloc (.cells #[.string rc, .int .i64 rk, .int .i64 rw_, .int .i64 rv] 35) = W1 at *
  have HT1 := Lib.hid (HT.out.below hB1)
  obtain ⟨k0, k1, k2, -, -⟩ := HT1.out.cells
  have q0 : W1.cell? ⟨w.heap.size, 0, none⟩ = some (.string rc) := blk_cell hh 0
  have q1 : W1.cell? ⟨w.heap.size, 1, none⟩ = some (.int .i64 rk) := blk_cell hh 1
  have q2 : W1.cell? ⟨w.heap.size, 2, none⟩ = some (.int .i64 rw_) := blk_cell hh 2
  have q3 : W1.cell? ⟨w.heap.size, 3, none⟩ = some (.int .i64 rv) := blk_cell hh 3
  refine wp_region_T (fun w' => w'.cell? ⟨p, 0, none⟩ = some (.string g) ∧ w'.cell? ⟨w.heap.size, 0, none⟩ = some (.string rc) ∧ w'.cell? ⟨w.heap.size, 1, none⟩ = some (.int .i64 rk) ∧ w'.cell? ⟨w.heap.size, 2, none⟩ = some (.int .i64 rw_) ∧ w'.cell? ⟨w.heap.size, 3, none⟩ = some (.int .i64 rv)) (fun i => i == 5) (by kernel_rfl) ?_
  have hS0 : W1.drew.cell? ⟨p, 0, none⟩ = some (.string g) ∧ _ := And.intro k0 (And.intro q0 (And.intro q1 (And.intro q2 q3)))
  refine wpAnyT_pure (i := 0) (v := ?_) rfl (by kernel_rfl) (by kernel_rfl) (by kernel_rfl) (fun _ _ _ h => h) (by rfl) ?_ ?_
  rotate_left
  · intro w; go_simp; try with_reducible rfl
  simp only [Act.put, List.setIfInBounds_toArray, List.set_cons_zero, List.set_cons_succ, List.getElem_toArray, List.getElem_cons_succ, List.getElem_cons_zero]
  refine wpAnyT_pure (i := 1) (v := ?_) rfl (by kernel_rfl) (by kernel_rfl) (by kernel_rfl) (fun _ _ _ h => h) (by rfl) ?_ ?_
  rotate_left
  · intro w; go_simp; try with_reducible rfl
  simp only [Act.put, List.setIfInBounds_toArray, List.set_cons_zero, List.set_cons_succ, List.getElem_toArray, List.getElem_cons_succ, List.getElem_cons_zero]
  refine wpAnyT_pure (i := 2) (v := ?_) rfl (by kernel_rfl) (by kernel_rfl) (by kernel_rfl) (fun _ _ _ h => h) (by rfl) ?_ ?_
  rotate_left
  · intro w; go_simp; try with_reducible rfl
  simp only [Act.put, List.setIfInBounds_toArray, List.set_cons_zero, List.set_cons_succ, List.getElem_toArray, List.getElem_cons_succ, List.getElem_cons_zero]
  refine wpAnyT_loadW (i := 3) (v := ?_) rfl (by kernel_rfl) (by kernel_rfl) (by kernel_rfl) (by kernel_rfl) (by kernel_rfl) (fun _ _ _ h => h) (Or.inl ⟨by rfl, ?_⟩) hS0 ?_
  rotate_left
  · intro w hSw; obtain ⟨e9, e0, e1, e2, e3⟩ := hSw; go_simp; try with_reducible rfl
  simp only [Act.put, List.setIfInBounds_toArray, List.set_cons_zero, List.set_cons_succ, List.getElem_toArray, List.getElem_cons_succ, List.getElem_cons_zero]
  refine wpAnyT_loadW (i := 4) (v := ?_) rfl (by kernel_rfl) (by kernel_rfl) (by kernel_rfl) (by kernel_rfl) (by kernel_rfl) (fun _ _ _ h => h) (Or.inl ⟨by rfl, ?_⟩) hS0 ?_
  rotate_left
  · intro w hSw; obtain ⟨e9, e0, e1, e2, e3⟩ := hSw; go_simp; try with_reducible rfl
  simp only [Act.put, List.setIfInBounds_toArray, List.set_cons_zero, List.set_cons_succ, List.getElem_toArray, List.getElem_cons_succ, List.getElem_cons_zero]
  refine wpAnyT_one (i := 5) (by kernel_rfl) rfl (by rfl) ?_
  refine wp_enter (f := 35) (args := #[.string g, .agg #[.string rc, .int .i64 rk, .int .i64 rw_, .int .i64 rv]]) (by go_simp) (HP.out W1.drew) ?_
  rintro e w2 ⟨rfl, hB2⟩
  replace hB2 : Below W1.heap.size W1 w2 := (below_drew W1).trans hB2
  have hh2 := (hB2.block _ (Array.getElem?_eq_some_iff.1 hh).1).trans hh
  have HT2 := Lib.hid (HT1.out.below hB2)
  have HB2 := Lib.hid (below_step hB1 hB2)
  clear hB2
  refine ⟨_, rfl, fun h => absurd h (by decide), ?_⟩
  try simp only [Act.put, List.setIfInBounds_toArray, List.set_cons_zero, List.set_cons_succ, List.getElem_toArray, List.getElem_cons_succ, List.getElem_cons_zero]
  refine wpAnyT_pure (i := 6) (v := ?_) rfl (by kernel_rfl) (by kernel_rfl) (by kernel_rfl) (fun _ _ _ h => h) (by rfl) ?_ ?_
  rotate_left
  · intro w; go_simp; try with_reducible rfl
  simp only [Act.put, List.setIfInBounds_toArray, List.set_cons_zero, List.set_cons_succ, List.getElem_toArray, List.getElem_cons_succ, List.getElem_cons_zero]
  refine wpAnyT_done (by kernel_rfl) ?_ _
  obtain ⟨fx, hfx⟩ : ∃ fx, (f ⟨rc, rk, rw_⟩).getD 0 = fx := ⟨_, rfl⟩
  obtain ⟨fb, hfb⟩ : ∃ fb, (f ⟨rc, rk, rw_⟩).isSome = fb := ⟨_, rfl⟩
  have HFX := Lib.hid hfx
  have HFB := Lib.hid hfb
  clear hfx hfb
  go_wp2_with fail
  clear hS0 k0 k1 k2 q0 q1 q2 q3
  obtain ⟨k0, k1, k2, -, -⟩ := HT2.out.cells
  have q0 : w2.cell? ⟨w.heap.size, 0, none⟩ = some (.string rc) := blk_cell hh2 0
  have q1 : w2.cell? ⟨w.heap.size, 1, none⟩ = some (.int .i64 rk) := blk_cell hh2 1
  have q2 : w2.cell? ⟨w.heap.size, 2, none⟩ = some (.int .i64 rw_) := blk_cell hh2 2
  have q3 : w2.cell? ⟨w.heap.size, 3, none⟩ = some (.int .i64 rv) := blk_cell hh2 3
  refine wp_region_T (fun w' => w'.cell? ⟨p, 1, none⟩ = some (.map (some mb)) ∧ w'.cell? ⟨w.heap.size, 0, none⟩ = some (.string rc) ∧ w'.cell? ⟨w.heap.size, 1, none⟩ = some (.int .i64 rk) ∧ w'.cell? ⟨w.heap.size, 2, none⟩ = some (.int .i64 rw_) ∧ w'.cell? ⟨w.heap.size, 3, none⟩ = some (.int .i64 rv)) (fun i => i == 6) (by kernel_rfl) ?_
  have hS0 : w2.drew.cell? ⟨p, 1, none⟩ = some (.map (some mb)) ∧ _ := And.intro k1 (And.intro q0 (And.intro q1 (And.intro q2 q3)))
  refine wpAnyT_pure (i := 0) (v := ?_) rfl (by kernel_rfl) (by kernel_rfl) (by kernel_rfl) (fun _ _ _ h => h) (by rfl) ?_ ?_
  rotate_left
  · intro w; go_simp; try with_reducible rfl
  simp only [Act.put, List.setIfInBounds_toArray, List.set_cons_zero, List.set_cons_succ, List.getElem_toArray, List.getElem_cons_succ, List.getElem_cons_zero]
  refine wpAnyT_pure (i := 1) (v := ?_) rfl (by kernel_rfl) (by kernel_rfl) (by kernel_rfl) (fun _ _ _ h => h) (by rfl) ?_ ?_
  rotate_left
  · intro w; go_simp; try with_reducible rfl
  simp only [Act.put, List.setIfInBounds_toArray, List.set_cons_zero, List.set_cons_succ, List.getElem_toArray, List.getElem_cons_succ, List.getElem_cons_zero]
  refine wpAnyT_pure (i := 2) (v := ?_) rfl (by kernel_rfl) (by kernel_rfl) (by kernel_rfl) (fun _ _ _ h => h) (by rfl) ?_ ?_
  rotate_left
  · intro w; go_simp; try with_reducible rfl
  simp only [Act.put, List.setIfInBounds_toArray, List.set_cons_zero, List.set_cons_succ, List.getElem_toArray, List.getElem_cons_succ, List.getElem_cons_zero]
  refine wpAnyT_loadW (i := 3) (v := ?_) rfl (by kernel_rfl) (by kernel_rfl) (by kernel_rfl) (by kernel_rfl) (by kernel_rfl) (fun _ _ _ h => h) (Or.inl ⟨by rfl, ?_⟩) hS0 ?_
  rotate_left
  · intro w hSw; obtain ⟨e9, e0, e1, e2, e3⟩ := hSw; go_simp; try with_reducible rfl
  simp only [Act.put, List.setIfInBounds_toArray, List.set_cons_zero, List.set_cons_succ, List.getElem_toArray, List.getElem_cons_succ, List.getElem_cons_zero]
  refine wpAnyT_loadW (i := 4) (v := ?_) rfl (by kernel_rfl) (by kernel_rfl) (by kernel_rfl) (by kernel_rfl) (by kernel_rfl) (fun _ _ _ h => h) (Or.inl ⟨by rfl, ?_⟩) hS0 ?_
  rotate_left
  · intro w hSw; obtain ⟨e9, e0, e1, e2, e3⟩ := hSw; go_simp; try with_reducible rfl
  simp only [Act.put, List.setIfInBounds_toArray, List.set_cons_zero, List.set_cons_succ, List.getElem_toArray, List.getElem_cons_succ, List.getElem_cons_zero]
  refine wpAnyT_one (i := 5) (by kernel_rfl) rfl (by rfl) ?_
  refine wp_enter (f := 36) (args := #[.agg #[.string rc, .int .i64 rk, .int .i64 rw_, .int .i64 rv]]) (by go_simp) (HOF.out w2.drew) ?_
  rintro e w3 ⟨rfl, hB3⟩
  replace hB3 : Below w2.heap.size w2 w3 := (below_drew w2).trans hB3
  have hh3 := (hB3.block _ (Array.getElem?_eq_some_iff.1 hh2).1).trans hh2
  have HT3 := Lib.hid (HT2.out.below hB3)
  have HB3 := Lib.hid (below_step HB2.out hB3)
  have hq3 : w3.cell? ⟨p, 1, none⟩ = some (.map (some mb)) ∧ w3.cell? ⟨w.heap.size, 0, none⟩ = some (.string rc) ∧ w3.cell? ⟨w.heap.size, 1, none⟩ = some (.int .i64 rk) ∧ w3.cell? ⟨w.heap.size, 2, none⟩ = some (.int .i64 rw_) ∧ w3.cell? ⟨w.heap.size, 3, none⟩ = some (.int .i64 rv) := ⟨HT3.out.cells.2.1, blk_cell hh3 0, blk_cell hh3 1, blk_cell hh3 2, blk_cell hh3 3⟩
  have hlk := HT3.out.map.look Try.underlying52 ⟨rc, rk, rw_⟩ HOK.out
  unfold K3.v at hlk
  rw [HFX.out, HFB.out] at hlk
  clear hB3
  refine ⟨_, rfl, fun _ _ => hq3, ?_⟩
  try simp only [Act.put, List.setIfInBounds_toArray, List.set_cons_zero, List.set_cons_succ, List.getElem_toArray, List.getElem_cons_succ, List.getElem_cons_zero]
  refine wpAnyT_one (i := 6) (by kernel_rfl) rfl (by rfl) ?_
  refine wp_value (v := .tuple #[.int .i64 fx, .bool fb]) (w' := w3) (by go_simp) ?_
  refine ⟨fun h => absurd h (by decide), ?_⟩
  try simp only [Act.put, List.setIfInBounds_toArray, List.set_cons_zero, List.set_cons_succ, List.getElem_toArray, List.getElem_cons_succ, List.getElem_cons_zero]
  refine wpAnyT_pure (i := 7) (v := ?_) rfl (by kernel_rfl) (by kernel_rfl) (by kernel_rfl) (fun _ _ _ h => h) (by rfl) ?_ ?_
  rotate_left
  · intro w; go_simp; try with_reducible rfl
  simp only [Act.put, List.setIfInBounds_toArray, List.set_cons_zero, List.set_cons_succ, List.getElem_toArray, List.getElem_cons_succ, List.getElem_cons_zero]
  refine wpAnyT_pure (i := 8) (v := ?_) rfl (by kernel_rfl) (by kernel_rfl) (by kernel_rfl) (fun _ _ _ h => h) (by rfl) ?_ ?_
  rotate_left
  · intro w; go_simp; try with_reducible rfl
  simp only [Act.put, List.setIfInBounds_toArray, List.set_cons_zero, List.set_cons_succ, List.getElem_toArray, List.getElem_cons_succ, List.getElem_cons_zero]
  refine wpAnyT_pure (i := 9) (v := ?_) rfl (by kernel_rfl) (by kernel_rfl) (by kernel_rfl) (fun _ _ _ h => h) (by rfl) ?_ ?_
  rotate_left
  · intro w; go_simp; try with_reducible rfl
  simp only [Act.put, List.setIfInBounds_toArray, List.set_cons_zero, List.set_cons_succ, List.getElem_toArray, List.getElem_cons_succ, List.getElem_cons_zero]
  refine wpAnyT_pure (i := 10) (v := ?_) rfl (by kernel_rfl) (by kernel_rfl) (by kernel_rfl) (fun _ _ _ h => h) (by rfl) ?_ ?_
  rotate_left
  · intro w; go_simp; try with_reducible rfl
  simp only [Act.put, List.setIfInBounds_toArray, List.set_cons_zero, List.set_cons_succ, List.getElem_toArray, List.getElem_cons_succ, List.getElem_cons_zero]
  refine wpAnyT_pure (i := 11) (v := ?_) rfl (by kernel_rfl) (by kernel_rfl) (by kernel_rfl) (fun _ _ _ h => h) (by rfl) ?_ ?_
  rotate_left
  · intro w; go_simp; try with_reducible rfl
  simp only [Act.put, List.setIfInBounds_toArray, List.set_cons_zero, List.set_cons_succ, List.getElem_toArray, List.getElem_cons_succ, List.getElem_cons_zero]
  refine wpAnyT_done (by kernel_rfl) ?_ _
  clear hS0
  obtain ⟨k0, k1, k2, -, hhl⟩ := HT3.out.cells
  have hln := HT3.out.map.len Try.underlying52
  have hln' := hln 3
  clear hln
  have hd1 : ∃ d, decide ((1000 : Int) ≤ (m : Int)) = d := ⟨_, rfl⟩
  obtain ⟨d1, hd1⟩ := hd1
  have hd2 : ∃ d, decide ((5000 : Int) ≤ (hl : Int)) = d := ⟨_, rfl⟩
  obtain ⟨d2, hd2⟩ := hd2
  have hdd : (fb = true ∨ d1 = false) ∧ d2 = false := by
    have hn := HLIM.out
    constructor
    · cases fb
      · right
        rw [← hd1]
        exact decide_eq_false (fun h => hn (.inl ⟨HFB.out, by omega⟩))
      · exact .inl rfl
    · rw [← hd2]
      exact decide_eq_false (fun h => hn (.inr (by omega)))
  have HHL : Hid (hl = hs.length ∧ hs.length < 5000) := Lib.hid ⟨hhl, by
    by_cases h : 5000 ≤ hs.length
    · exact absurd (.inr h) HLIM.out
    · omega⟩
  clear HLIM hhl
  obtain ⟨hdd, rfl⟩ := hdd
  have h12 : (fb = true ∧ True) ∨ (fb = false ∧ d1 = false) := by
    rcases hdd with h | h
    · exact .inl ⟨h, trivial⟩
    · cases fb
      · exact .inr ⟨rfl, h⟩
      · exact .inl ⟨rfl, trivial⟩
  clear hdd
  rcases h12 with ⟨rfl, -⟩ | ⟨rfl, rfl⟩
  all_goals
    go_wp2_with fail
    clear k0 k2
    have q0 : w3.cell? ⟨w.heap.size, 0, none⟩ = some (.string rc) := hq3.2.1
    have hS0 : w3.drew.cell? ⟨p, 1, none⟩ = some (.map (some mb)) ∧ _ := hq3
    refine wp_region_T (fun w' => w'.cell? ⟨p, 1, none⟩ = some (.map (some mb)) ∧ w'.cell? ⟨w.heap.size, 0, none⟩ = some (.string rc) ∧ w'.cell? ⟨w.heap.size, 1, none⟩ = some (.int .i64 rk) ∧ w'.cell? ⟨w.heap.size, 2, none⟩ = some (.int .i64 rw_) ∧ w'.cell? ⟨w.heap.size, 3, none⟩ = some (.int .i64 rv)) (fun i => i == 8) (by kernel_rfl) ?_
    refine wpAnyT_pure (i := 0) (v := ?_) rfl (by kernel_rfl) (by kernel_rfl) (by kernel_rfl) (fun _ _ _ h => h) (by rfl) ?_ ?_
    rotate_left
    · intro w; go_simp; try with_reducible rfl
    simp only [Act.put, List.setIfInBounds_toArray, List.set_cons_zero, List.set_cons_succ, List.getElem_toArray, List.getElem_cons_succ, List.getElem_cons_zero]
    refine wpAnyT_pure (i := 1) (v := ?_) rfl (by kernel_rfl) (by kernel_rfl) (by kernel_rfl) (fun _ _ _ h => h) (by rfl) ?_ ?_
    rotate_left
    · intro w; go_simp; try with_reducible rfl
    simp only [Act.put, List.setIfInBounds_toArray, List.set_cons_zero, List.set_cons_succ, List.getElem_toArray, List.getElem_cons_succ, List.getElem_cons_zero]
    refine wpAnyT_pure (i := 2) (v := ?_) rfl (by kernel_rfl) (by kernel_rfl) (by kernel_rfl) (fun _ _ _ h => h) (by rfl) ?_ ?_
    rotate_left
    · intro w; go_simp; try with_reducible rfl
    simp only [Act.put, List.setIfInBounds_toArray, List.set_cons_zero, List.set_cons_succ, List.getElem_toArray, List.getElem_cons_succ, List.getElem_cons_zero]
    refine wpAnyT_pure (i := 6) (v := ?_) rfl (by kernel_rfl) (by kernel_rfl) (by kernel_rfl) (fun _ _ _ h => h) (by rfl) ?_ ?_
    rotate_left
    · intro w; go_simp; try with_reducible rfl
    simp only [Act.put, List.setIfInBounds_toArray, List.set_cons_zero, List.set_cons_succ, List.getElem_toArray, List.getElem_cons_succ, List.getElem_cons_zero]
    refine wpAnyT_loadW (i := 3) (v := ?_) rfl (by kernel_rfl) (by kernel_rfl) (by kernel_rfl) (by kernel_rfl) (by kernel_rfl) (fun _ _ _ h => h) (Or.inl ⟨by rfl, ?_⟩) hS0 ?_
    rotate_left
    · intro w hSw; obtain ⟨e9, e0, e1, e2, e3⟩ := hSw; go_simp; try with_reducible rfl
    simp only [Act.put, List.setIfInBounds_toArray, List.set_cons_zero, List.set_cons_succ, List.getElem_toArray, List.getElem_cons_succ, List.getElem_cons_zero]
    refine wpAnyT_loadW (i := 4) (v := ?_) rfl (by kernel_rfl) (by kernel_rfl) (by kernel_rfl) (by kernel_rfl) (by kernel_rfl) (fun _ _ _ h => h) (Or.inl ⟨by rfl, ?_⟩) hS0 ?_
    rotate_left
    · intro w hSw; obtain ⟨e9, e0, e1, e2, e3⟩ := hSw; go_simp; try with_reducible rfl
    simp only [Act.put, List.setIfInBounds_toArray, List.set_cons_zero, List.set_cons_succ, List.getElem_toArray, List.getElem_cons_succ, List.getElem_cons_zero]
    refine wpAnyT_loadW (i := 7) (v := ?_) rfl (by kernel_rfl) (by kernel_rfl) (by kernel_rfl) (by kernel_rfl) (by kernel_rfl) (fun _ _ _ h => h) (Or.inl ⟨by rfl, ?_⟩) hS0 ?_
    rotate_left
    · intro w hSw; obtain ⟨e9, e0, e1, e2, e3⟩ := hSw; go_simp; try with_reducible rfl
    simp only [Act.put, List.setIfInBounds_toArray, List.set_cons_zero, List.set_cons_succ, List.getElem_toArray, List.getElem_cons_succ, List.getElem_cons_zero]
    refine wpAnyT_one (i := 5) (by kernel_rfl) rfl (by rfl) ?_
    refine wp_enter (f := 36) (args := #[.agg #[.string rc, .int .i64 rk, .int .i64 rw_, .int .i64 rv]]) (by go_simp) (HOF.out w3.drew) ?_
    rintro e w4 ⟨rfl, hB4⟩
    replace hB4 : Below w3.heap.size w3 w4 := (below_drew w3).trans hB4
    have hh4 := (hB4.block _ (Array.getElem?_eq_some_iff.1 hh3).1).trans hh3
    have HT4 := Lib.hid (HT3.out.below hB4)
    have HB4 := Lib.hid (below_step HB3.out hB4)
    have hq4 : w4.cell? ⟨p, 1, none⟩ = some (.map (some mb)) ∧ w4.cell? ⟨w.heap.size, 0, none⟩ = some (.string rc) ∧ w4.cell? ⟨w.heap.size, 1, none⟩ = some (.int .i64 rk) ∧ w4.cell? ⟨w.heap.size, 2, none⟩ = some (.int .i64 rw_) ∧ w4.cell? ⟨w.heap.size, 3, none⟩ = some (.int .i64 rv) := ⟨HT4.out.cells.2.1, blk_cell hh4 0, blk_cell hh4 1, blk_cell hh4 2, blk_cell hh4 3⟩
    clear hB4
    refine ⟨_, rfl, fun _ _ => hq4, ?_⟩
    try simp only [Act.put, List.setIfInBounds_toArray, List.set_cons_zero, List.set_cons_succ, List.getElem_toArray, List.getElem_cons_succ, List.getElem_cons_zero]
    refine wpAnyT_one (i := 8) (by kernel_rfl) rfl (by rfl) ?_
    obtain ⟨w5, hmu, hM5, hg5⟩ := HT4.out.map.update Try.underlying52 (by have := HML.out; simp [maxLen]; omega) ⟨rc, rk, rw_⟩ HOK.out rv HVW.out
    unfold K3.v at hmu
    have HM5 := Lib.hid hM5
    have HG5 := Lib.hid hg5
    clear hM5 hg5
    go_simp
    try simp only [Act.put, List.setIfInBounds_toArray, List.set_cons_zero, List.set_cons_succ, List.getElem_toArray, List.getElem_cons_succ, List.getElem_cons_zero]
    refine wpAnyT_done (by kernel_rfl) ?_ _

    go_wp2_with fail
    clear hS0
    have HO5 : Hid (Owns rateT 35 0 (fun _ => False) w5 (.slice ha hl hcap) hs) := Lib.hid (HT4.out.2.2.2.2.1.gr (Gr.of_grown HG5.out) (fun _ h => h.elim) (fun c hc e => (HT4.out.2.2.2.2.2.2.2.1 c hc).2.2 (by simpa using e.symm)))
    have hmbw : mb < w.heap.size := HT.out.1 mb HT.out.2.2.2.2.2.1
    have hp5 := blk_gr (Gr.of_grown HG5.out) HT4.out.2.2.1 (fun e => HT4.out.2.2.2.2.2.2.1 (by simpa using e))
    have hr5 := blk_gr (Gr.of_grown HG5.out) hh4 (fun e => by simp at e; omega)
    have k2 : w5.cell? ⟨p, 2, none⟩ = some (.slice ha hl hcap) := blk_cell hp5 2
    have p0 : w5.cell? ⟨w.heap.size, 0, none⟩ = some (.string rc) := blk_cell hr5 0
    have p1 : w5.cell? ⟨w.heap.size, 1, none⟩ = some (.int .i64 rk) := blk_cell hr5 1
    have p2 : w5.cell? ⟨w.heap.size, 2, none⟩ = some (.int .i64 rw_) := blk_cell hr5 2
    have p3 : w5.cell? ⟨w.heap.size, 3, none⟩ = some (.int .i64 rv) := blk_cell hr5 3
    have hS0 : w5.drew.cell? ⟨p, 2, none⟩ = some (.slice ha hl hcap) ∧ _ := And.intro k2 (And.intro p0 (And.intro p1 (And.intro p2 p3)))
    refine wp_region_T (fun w' => w'.cell? ⟨p, 2, none⟩ = some (.slice ha hl hcap) ∧ w'.cell? ⟨w.heap.size, 0, none⟩ = some (.string rc) ∧ w'.cell? ⟨w.heap.size, 1, none⟩ = some (.int .i64 rk) ∧ w'.cell? ⟨w.heap.size, 2, none⟩ = some (.int .i64 rw_) ∧ w'.cell? ⟨w.heap.size, 3, none⟩ = some (.int .i64 rv)) (fun i => i == 7 || i == 10) (by kernel_rfl) ?_
    refine wpAnyT_pure (i := 0) (v := ?_) rfl (by kernel_rfl) (by kernel_rfl) (by kernel_rfl) (fun _ _ _ h => h) (by rfl) ?_ ?_
    rotate_left
    · intro w; go_simp; try with_reducible rfl
    simp only [Act.put, List.setIfInBounds_toArray, List.set_cons_zero, List.set_cons_succ, List.getElem_toArray, List.getElem_cons_succ, List.getElem_cons_zero]
    refine wpAnyT_pure (i := 1) (v := ?_) rfl (by kernel_rfl) (by kernel_rfl) (by kernel_rfl) (fun _ _ _ h => h) (by rfl) ?_ ?_
    rotate_left
    · intro w; go_simp; try with_reducible rfl
    simp only [Act.put, List.setIfInBounds_toArray, List.set_cons_zero, List.set_cons_succ, List.getElem_toArray, List.getElem_cons_succ, List.getElem_cons_zero]
    refine wpAnyT_pure (i := 2) (v := ?_) rfl (by kernel_rfl) (by kernel_rfl) (by kernel_rfl) (fun _ _ _ h => h) (by rfl) ?_ ?_
    rotate_left
    · intro w; go_simp; try with_reducible rfl
    simp only [Act.put, List.setIfInBounds_toArray, List.set_cons_zero, List.set_cons_succ, List.getElem_toArray, List.getElem_cons_succ, List.getElem_cons_zero]
    refine wpAnyT_pure (i := 3) (v := ?_) rfl (by kernel_rfl) (by kernel_rfl) (by kernel_rfl) (fun _ _ _ h => h) (by rfl) ?_ ?_
    rotate_left
    · intro w; go_simp; try with_reducible rfl
    simp only [Act.put, List.setIfInBounds_toArray, List.set_cons_zero, List.set_cons_succ, List.getElem_toArray, List.getElem_cons_succ, List.getElem_cons_zero]
    refine wpAnyT_loadW (i := 4) (v := ?_) rfl (by kernel_rfl) (by kernel_rfl) (by kernel_rfl) (by kernel_rfl) (by kernel_rfl) (fun _ _ _ h => h) (Or.inl ⟨by rfl, ?_⟩) hS0 ?_
    rotate_left
    · intro w hSw; obtain ⟨e9, e0, e1, e2, e3⟩ := hSw; go_simp; try with_reducible rfl
    simp only [Act.put, List.setIfInBounds_toArray, List.set_cons_zero, List.set_cons_succ, List.getElem_toArray, List.getElem_cons_succ, List.getElem_cons_zero]
    refine wpAnyT_loadW (i := 5) (v := ?_) rfl (by kernel_rfl) (by kernel_rfl) (by kernel_rfl) (by kernel_rfl) (by kernel_rfl) (fun _ _ _ h => h) (Or.inl ⟨by rfl, ?_⟩) hS0 ?_
    rotate_left
    · intro w hSw; obtain ⟨e9, e0, e1, e2, e3⟩ := hSw; go_simp; try with_reducible rfl
    simp only [Act.put, List.setIfInBounds_toArray, List.set_cons_zero, List.set_cons_succ, List.getElem_toArray, List.getElem_cons_succ, List.getElem_cons_zero]
    refine wpAnyT_one (i := 6) (by kernel_rfl) rfl (by rfl) ?_
    refine wp_value (v := .slice (some ⟨w5.heap.size, 0, none⟩) 1 1) (w' := w5.drew.alloc (.cells #[.string rc, .int .i64 rk, .int .i64 rw_, .int .i64 rv] 35)) (by go_simp) ?_
    have hB6 : Below w5.heap.size w5 (w5.drew.alloc (.cells #[.string rc, .int .i64 rk, .int .i64 rw_, .int .i64 rv] 35)) := (below_drew w5).alloc (Nat.le_refl _) _
    have hnews := news_new w5.drew [.string rc, .int .i64 rk, .int .i64 rw_, .int .i64 rv] 35
    have hk6 : (w5.drew.alloc (.cells #[.string rc, .int .i64 rk, .int .i64 rw_, .int .i64 rv] 35)).cell? ⟨p, 2, none⟩ = some (.slice ha hl hcap) := (hB6.cell (p := ⟨p, 2, none⟩) (Below.lt_cell k2)).trans k2
    have hr6 : (w5.drew.alloc (.cells #[.string rc, .int .i64 rk, .int .i64 rw_, .int .i64 rv] 35)).cell? ⟨w.heap.size, 0, none⟩ = some (.string rc) ∧ (w5.drew.alloc (.cells #[.string rc, .int .i64 rk, .int .i64 rw_, .int .i64 rv] 35)).cell? ⟨w.heap.size, 1, none⟩ = some (.int .i64 rk) ∧ (w5.drew.alloc (.cells #[.string rc, .int .i64 rk, .int .i64 rw_, .int .i64 rv] 35)).cell? ⟨w.heap.size, 2, none⟩ = some (.int .i64 rw_) ∧ (w5.drew.alloc (.cells #[.string rc, .int .i64 rk, .int .i64 rw_, .int .i64 rv] 35)).cell? ⟨w.heap.size, 3, none⟩ = some (.int .i64 rv) := ⟨(hB6.cell (p := ⟨w.heap.size, 0, none⟩) (Below.lt_cell p0)).trans p0, (hB6.cell (p := ⟨w.heap.size, 1, none⟩) (Below.lt_cell p0)).trans p1, (hB6.cell (p := ⟨w.heap.size, 2, none⟩) (Below.lt_cell p0)).trans p2, (hB6.cell (p := ⟨w.heap.size, 3, none⟩) (Below.lt_cell p0)).trans p3⟩
    refine ⟨fun _ _ => ⟨hk6, hr6⟩, ?_⟩
    try simp only [Act.put, List.setIfInBounds_toArray, List.set_cons_zero, List.set_cons_succ, List.getElem_toArray, List.getElem_cons_succ, List.getElem_cons_zero]
    refine wpAnyT_one (i := 7) (by kernel_rfl) rfl (by rfl) ?_
    refine wp_app (.tmp 56) (.tmp 58) 22 rfl (e := rateT) (te := 35) info_rate Try.underlying22 rfl (by decide) (base := 0) (S := fun _ => False) (v := .slice ha hl hcap) (xs := hs) (by kernel_rfl) (HO5.out.below hB6) (Nat.zero_le _) (sv := .slice (some ⟨w5.heap.size, 0, none⟩) 1 1) (by kernel_rfl) (ys := [(rc, rk, rw_, rv, ())]) (.inr ⟨_, _, rfl, .inr ⟨_, rfl, hnews⟩⟩) (RdL.one (e := rateT) ⟨[_], [_, _, _], rfl, ⟨rfl, HOK.out.1⟩, [_], [_, _], rfl, ⟨rfl, HOK.out.2.1⟩, [_], [_], rfl, ⟨rfl, HOK.out.2.2⟩, [_], [], rfl, ⟨rfl, HVW.out⟩, rfl⟩) (by have := HHL.out; simp only [List.length_cons, List.length_nil]; omega) (by have := HHL.out; simp only [List.length_cons, List.length_nil]; omega) ?_
    intro ca cl cc w7 O7 g7 ob7
    obtain ⟨hk7, hf7, hdone⟩ := set_done F w w4 w5 _ w7 p g m _ f _ hs _ mb ha ca hl hcap cl cc HT4.out HB4.out HT.out.1 HM5.out HG5.out hB6 O7 g7 ob7
    have HD := Lib.hid hdone
    clear hdone O7 g7 ob7
    refine ⟨fun h => absurd h (by decide), ?_⟩
    try simp only [Act.put, List.setIfInBounds_toArray, List.set_cons_zero, List.set_cons_succ, List.getElem_toArray, List.getElem_cons_succ, List.getElem_cons_zero]
    refine wpAnyT_pure (i := 8) (v := ?_) rfl (by kernel_rfl) (by kernel_rfl) (by kernel_rfl) (fun _ _ _ h => h) (by rfl) ?_ ?_
    rotate_left
    · intro w; go_simp; try with_reducible rfl
    simp only [Act.put, List.setIfInBounds_toArray, List.set_cons_zero, List.set_cons_succ, List.getElem_toArray, List.getElem_cons_succ, List.getElem_cons_zero]
    refine wpAnyT_pure (i := 9) (v := ?_) rfl (by kernel_rfl) (by kernel_rfl) (by kernel_rfl) (fun _ _ _ h => h) (by rfl) ?_ ?_
    rotate_left
    · intro w; go_simp; try with_reducible rfl
    simp only [Act.put, List.setIfInBounds_toArray, List.set_cons_zero, List.set_cons_succ, List.getElem_toArray, List.getElem_cons_succ, List.getElem_cons_zero]
    refine wpAnyT_one (i := 10) (by kernel_rfl) rfl (by rfl) ?_
    go_simp
    try simp only [Act.put, List.setIfInBounds_toArray, List.set_cons_zero, List.set_cons_succ, List.getElem_toArray, List.getElem_cons_succ, List.getElem_cons_zero]
    refine wpAnyT_done (by kernel_rfl) ?_ _
    go_wp2
    go_ret
    obtain ⟨F', hT', hF', hG'⟩ := HD.out
    refine ⟨rfl, F', ?_, hF', hG'⟩
    exact hT'

end Go.Proofs.Ytmlekhkgokgpbaa
