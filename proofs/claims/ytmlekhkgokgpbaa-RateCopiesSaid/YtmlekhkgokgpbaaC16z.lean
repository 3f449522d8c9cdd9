/- Layer 16: a nil table; Clone. -/
import Derived.Test.YtmlekhkgokgpbaaC16y
import Derived.Test.YtmlekhkgokgpbaaRegV
import Derived.Shelf.SlMaps.Clone
set_option linter.unusedSimpArgs false
namespace Go.Proofs.Ytmlekhkgokgpbaa
open Go.RowKit Go

theorem Get_nil (w : World) (c : ByteArray) (k v : Int) : Calls Try.prog 19 #[.pointer none, .string c, .int .i64 k, .int .i64 v] w fun e w' => e = .returned (.tuple #[.int .i64 0, .bool false]) ∧ w' = w := by
  go_enter Try.func19, Try.ntmps19
  go_wp2
  go_ret2
  exact ⟨rfl, rfl⟩
theorem Set_nil (w : World) (r : Rt) : Calls Try.prog 16 #[.pointer none, r.v] w fun e w' => e = .returned (.int .i64 7) ∧ Below w.heap.size w w' := by
  obtain ⟨rc, rk, rw_, rv⟩ := r
  unfold Rt.v rateV
  go_enter Try.func16, Try.ntmps16
  go_wp2
  go_ret
  exact ⟨rfl, (Below.refl _ w).alloc (Nat.le_refl _) _⟩
theorem List_nil16 (w : World) : Calls Try.prog 22 #[.pointer none] w fun e w' => e = .returned (.slice none 0 0) ∧ w' = w := by
  go_enter Try.func22, Try.ntmps22
  go_wp2
  go_ret
  exact ⟨rfl, rfl⟩
theorem History_nil (w : World) : Calls Try.prog 23 #[.pointer none] w fun e w' => e = .returned (.slice none 0 0) ∧ w' = w := by
  go_enter Try.func23, Try.ntmps23
  go_wp2
  go_ret
  exact ⟨rfl, rfl⟩
theorem Clone_nil (w : World) : Calls Try.prog 32 #[.pointer none] w fun e w' => e = .returned (.pointer none) ∧ w' = w := by
  go_enter Try.func32, Try.ntmps32
  go_wp2
  go_ret
  exact ⟨rfl, rfl⟩
set_option maxRecDepth 50000 in
theorem mapsClone16 (w : World) (b m : Nat) (f : K3 → Option Int) (h : MapKI w b m f) :
    Calls Try.prog 43 #[.map (some b)] w fun e w' => e = .returned (.map (some w.heap.size)) ∧ MapKI w' w.heap.size m f ∧ Below w.heap.size w w' := by
  obtain ⟨D, ⟨es, clock, hb, F, hs, hD⟩, hrest⟩ := h
  have hq := fun w => run_eql_map_nil_sl (P := Try.prog) w 52 _ _ (some b) Try.underlying52
  have HB := Lib.hid hb
  have HSS := Lib.hid hs
  have HDD := Lib.hid hD
  have HRR := Lib.hid hrest
  clear hb hs hD hrest
  go_enter Try.func43, Try.ntmps43
  go_wp2
  rw [run_callFunc_extern Try.func53 (by kernel_rfl) (by kernel_rfl) (by kernel_rfl) (e := Extern.MapsClone.clone) (by kernel_rfl), run_maps_clone_sl w 52 HB.out]
  simp only [Result.andThen]
  rw [Oper.upon_value]
  go_wp2
  rw [run_typeAssert_map_sl _ 52 _ _ _ _ Try.underlying52]
  simp only [Result.andThen]
  rw [Oper.upon_value]
  go_wp2
  go_ret
  exact ⟨rfl, ⟨D, ⟨es, clock, (MapKept.heap_alloc w _).1, F, HSS.out, HDD.out⟩, HRR.out⟩, (Below.refl _ w).alloc (Nat.le_refl _) _⟩
set_option maxRecDepth 20000 in
set_option maxHeartbeats 1000000 in
theorem Clone_sum (F : Nat → Prop) (w : World) (p : Nat) (g : ByteArray) (t : Tb) (h : TabT F w p g t) (hl : t.hs.length ≤ 1000000) :
    Calls Try.prog 32 #[.pointer (some ⟨p, 0, none⟩)] w fun e w' => ∃ p' F', e = .returned (.pointer (some ⟨p', 0, none⟩)) ∧ TabT F' w' p' g t ∧ (∀ b, F' b → w.heap.size ≤ b) ∧ Below w.heap.size w w' := by
  obtain ⟨mb, ha, hlen, hcap, hT⟩ := Tab2.of h
  obtain ⟨k0, k1, k2, -, hll⟩ := hT.cells
  have HX := Lib.hid (hT.2.2.2.2.1.rd F (fun _ h => h.elim) (fun c hc => (hT.2.2.2.2.2.2.2.1 c hc).1))
  have HF := Lib.hid hT.1
  have HM := Lib.hid hT.map
  have HLL := Lib.hid (show hlen ≤ 1000000 by omega)
  clear hT hll h hl
  go_enter Try.func32, Try.ntmps32
  go_wp2_with fail
  have hC0 : Cells [(⟨p, 0, none⟩, .string g), (⟨p, 1, none⟩, .map (some mb)), (⟨p, 2, none⟩, .slice ha hlen hcap)] w := ⟨k0, k1, k2, trivial⟩
  refine wp_region_T (Cells [(⟨p, 0, none⟩, .string g), (⟨p, 1, none⟩, .map (some mb)), (⟨p, 2, none⟩, .slice ha hlen hcap)]) (fun _ => false) (by kernel_rfl) ?_
  have hSss1 := Cells.drew hC0
  have hB_0_s1 : Below w.heap.size w w.drew := below_drew _
  generalize w.drew = s1 at hSss1 hB_0_s1 ⊢
  have hB_s1_s1 := Below.refl s1.heap.size s1
  refine wpAnyT_pure (i := 0) (v := ?_) rfl (by kernel_rfl) (by kernel_rfl) (by kernel_rfl) (fun _ _ _ h => h) (by rfl) ?_ ?_
  rotate_left
  · intro w; go_simp; try with_reducible rfl
  simp only [Act.put, List.setIfInBounds_toArray, List.set_cons_zero, List.set_cons_succ, List.getElem_toArray, List.getElem_cons_succ, List.getElem_cons_zero]
  refine wpAnyT_pure (i := 1) (v := ?_) rfl (by kernel_rfl) (by kernel_rfl) (by kernel_rfl) (fun _ _ _ h => h) (by rfl) ?_ ?_
  rotate_left
  · intro w; go_simp; try with_reducible rfl
  simp only [Act.put, List.setIfInBounds_toArray, List.set_cons_zero, List.set_cons_succ, List.getElem_toArray, List.getElem_cons_succ, List.getElem_cons_zero]
  refine wpAnyT_pure (i := 2) (v := ?_) rfl (by kernel_rfl) (by kernel_rfl) (by kernel_rfl) (fun _ _ _ h => h) (by rfl) ?_ ?_
  rotate_left
  · intro w; go_simp; try with_reducible rfl
  simp only [Act.put, List.setIfInBounds_toArray, List.set_cons_zero, List.set_cons_succ, List.getElem_toArray, List.getElem_cons_succ, List.getElem_cons_zero]
  refine wpAnyT_pure (i := 4) (v := ?_) rfl (by kernel_rfl) (by kernel_rfl) (by kernel_rfl) (fun _ _ _ h => h) (by rfl) ?_ ?_
  rotate_left
  · intro w; go_simp; try with_reducible rfl
  simp only [Act.put, List.setIfInBounds_toArray, List.set_cons_zero, List.set_cons_succ, List.getElem_toArray, List.getElem_cons_succ, List.getElem_cons_zero]
  refine wpAnyT_pure (i := 5) (v := ?_) rfl (by kernel_rfl) (by kernel_rfl) (by kernel_rfl) (fun _ _ _ h => h) (by rfl) ?_ ?_
  rotate_left
  · intro w; go_simp; try with_reducible rfl
  simp only [Act.put, List.setIfInBounds_toArray, List.set_cons_zero, List.set_cons_succ, List.getElem_toArray, List.getElem_cons_succ, List.getElem_cons_zero]
  refine wpAnyT_pure (i := 6) (v := ?_) rfl (by kernel_rfl) (by kernel_rfl) (by kernel_rfl) (fun _ _ _ h => h) (by rfl) ?_ ?_
  rotate_left
  · intro w; go_simp; try with_reducible rfl
  simp only [Act.put, List.setIfInBounds_toArray, List.set_cons_zero, List.set_cons_succ, List.getElem_toArray, List.getElem_cons_succ, List.getElem_cons_zero]
  refine wpAnyT_pure (i := 9) (v := ?_) rfl (by kernel_rfl) (by kernel_rfl) (by kernel_rfl) (fun _ _ _ h => h) (by rfl) ?_ ?_
  rotate_left
  · intro w; go_simp; try with_reducible rfl
  simp only [Act.put, List.setIfInBounds_toArray, List.set_cons_zero, List.set_cons_succ, List.getElem_toArray, List.getElem_cons_succ, List.getElem_cons_zero]
  refine wpAnyT_pure (i := 10) (v := ?_) rfl (by kernel_rfl) (by kernel_rfl) (by kernel_rfl) (fun _ _ _ h => h) (by rfl) ?_ ?_
  rotate_left
  · intro w; go_simp; try with_reducible rfl
  simp only [Act.put, List.setIfInBounds_toArray, List.set_cons_zero, List.set_cons_succ, List.getElem_toArray, List.getElem_cons_succ, List.getElem_cons_zero]
  refine wpAnyT_pure (i := 11) (v := ?_) rfl (by kernel_rfl) (by kernel_rfl) (by kernel_rfl) (fun _ _ _ h => h) (by rfl) ?_ ?_
  rotate_left
  · intro w; go_simp; try with_reducible rfl
  simp only [Act.put, List.setIfInBounds_toArray, List.set_cons_zero, List.set_cons_succ, List.getElem_toArray, List.getElem_cons_succ, List.getElem_cons_zero]
  refine wpAnyT_loadW (i := 3) (v := ?_) rfl (by kernel_rfl) (by kernel_rfl) (by kernel_rfl) (by kernel_rfl) (by kernel_rfl) (fun _ _ _ h => h) (Or.inl ⟨by rfl, ?_⟩) hSss1 ?_
  rotate_left
  · intro w hSw; obtain ⟨e0, e1, e2, -⟩ := hSw; go_simp; try with_reducible rfl
  simp only [Act.put, List.setIfInBounds_toArray, List.set_cons_zero, List.set_cons_succ, List.getElem_toArray, List.getElem_cons_succ, List.getElem_cons_zero]
  refine wpAnyT_loadW (i := 7) (v := ?_) rfl (by kernel_rfl) (by kernel_rfl) (by kernel_rfl) (by kernel_rfl) (by kernel_rfl) (fun _ _ _ h => h) (Or.inl ⟨by rfl, ?_⟩) hSss1 ?_
  rotate_left
  · intro w hSw; obtain ⟨e0, e1, e2, -⟩ := hSw; go_simp; try with_reducible rfl
  simp only [Act.put, List.setIfInBounds_toArray, List.set_cons_zero, List.set_cons_succ, List.getElem_toArray, List.getElem_cons_succ, List.getElem_cons_zero]
  refine wpAnyT_loadW (i := 12) (v := ?_) rfl (by kernel_rfl) (by kernel_rfl) (by kernel_rfl) (by kernel_rfl) (by kernel_rfl) (fun _ _ _ h => h) (Or.inl ⟨by rfl, ?_⟩) hSss1 ?_
  rotate_left
  · intro w hSw; obtain ⟨e0, e1, e2, -⟩ := hSw; go_simp; try with_reducible rfl
  simp only [Act.put, List.setIfInBounds_toArray, List.set_cons_zero, List.set_cons_succ, List.getElem_toArray, List.getElem_cons_succ, List.getElem_cons_zero]
  refine wpAnyT_one (i := 8) (by kernel_rfl) rfl (by rfl) ?_
  obtain ⟨b8, hb8⟩ : ∃ b, s1.heap.size = b := ⟨_, rfl⟩
  have hge8 : s1.heap.size ≤ b8 := hb8 ▸ (hB_s1_s1).size
  refine wp_enter (f := 43) (args := #[.map (some mb)]) (by go_simp) (mapsClone16 _ mb _ _ ((HM.out.below hB_0_s1).below hB_s1_s1)) ?_
  rw [hb8]
  rintro e w102 ⟨rfl, hM8, hX⟩
  rw [← hb8] at hX
  have HM8 := Lib.hid hM8
  clear hM8
  have hB_s1_w102 := below_step hB_s1_s1 hX
  have hB_w102_w102 := Below.refl w102.heap.size w102
  have hSsw102 := Cells.below hB_s1_w102 hSss1
  clear hX
  refine ⟨_, rfl, fun _ _ => hSsw102, ?_⟩
  try simp only [Act.put, List.setIfInBounds_toArray, List.set_cons_zero, List.set_cons_succ, List.getElem_toArray, List.getElem_cons_succ, List.getElem_cons_zero]
  refine wpAnyT_one (i := 13) (by kernel_rfl) rfl (by rfl) ?_
  refine wp_enter (f := 40) (args := #[.slice ha hlen hcap]) (by go_simp) (rclone16 _ ha hlen hcap t.hs (HX.out.below (hB_0_s1.trans ((hB_s1_w102).mono hB_0_s1.size)) HF.out) (fun b hb => Nat.lt_of_lt_of_le (HF.out b hb) (hB_0_s1.trans ((hB_s1_w102).mono hB_0_s1.size)).size) HLL.out) ?_
  rintro e w103 ⟨v13, rfl, hX, hO13⟩
  obtain ⟨a13, l13, c13, rfl, -⟩ := hO13.slice
  have HO13 := Lib.hid hO13
  have HM13 := Lib.hid (HM8.out.below hX)
  have hlt8 : b8 < w102.heap.size := HM8.out.lt
  clear hO13
  have hB_s1_w103 := below_step hB_s1_w102 hX
  have hB_w102_w103 := below_step hB_w102_w102 hX
  have hB_w103_w103 := Below.refl w103.heap.size w103
  have hSsw103 := Cells.below hB_s1_w103 hSss1
  clear hX
  refine ⟨_, rfl, fun _ _ => hSsw103, ?_⟩
  try simp only [Act.put, List.setIfInBounds_toArray, List.set_cons_zero, List.set_cons_succ, List.getElem_toArray, List.getElem_cons_succ, List.getElem_cons_zero]
  refine wpAnyT_pure (i := 14) (v := ?_) rfl (by kernel_rfl) (by kernel_rfl) (by kernel_rfl) (fun _ _ _ h => h) (by rfl) ?_ ?_
  rotate_left
  · intro w; go_simp; try with_reducible rfl
  simp only [Act.put, List.setIfInBounds_toArray, List.set_cons_zero, List.set_cons_succ, List.getElem_toArray, List.getElem_cons_succ, List.getElem_cons_zero]
  refine wpAnyT_one (i := 15) (by kernel_rfl) rfl (by rfl) ?_
  obtain ⟨b15, hb15⟩ : ∃ b, w103.heap.size = b := ⟨_, rfl⟩
  have hge15 : s1.heap.size ≤ b15 := hb15 ▸ (hB_s1_w103).size
  refine wp_newrow (v := .pointer (some ⟨b15, 0, none⟩)) (cs := #[.string g, .map (some b8), .slice a13 l13 c13]) (te := 54) (by rw [← hb15]; go_simp) ?_
  intro w104 hX hN15
  rw [hb15] at hN15
  have HM15 := Lib.hid (HM13.out.below hX)
  have HO15 := Lib.hid (HO13.out.below hX)
  have hl815 : b8 < b15 := hb15 ▸ HM13.out.lt
  have hown : ∀ c, (Value.slice a13 l13 c13).ownBlock = some c → b8 < c ∧ c < b15 := fun c hc => ⟨Nat.lt_of_lt_of_le hlt8 (HO13.out.own c hc).1, hb15 ▸ (HO13.out.own c hc).2⟩
  have hs0 := hB_0_s1.size
  have HOWN := Lib.hid hown
  clear hown
  have hB_s1_w104 := below_step hB_s1_w103 hX
  have hB_w102_w104 := below_step hB_w102_w103 hX
  have hB_w103_w104 := below_step hB_w103_w103 hX
  have hB_w104_w104 := Below.refl w104.heap.size w104
  have hSsw104 := Cells.below hB_s1_w104 hSss1
  clear hX
  refine ⟨fun _ _ => hSsw104, ?_⟩
  try simp only [Act.put, List.setIfInBounds_toArray, List.set_cons_zero, List.set_cons_succ, List.getElem_toArray, List.getElem_cons_succ, List.getElem_cons_zero]
  refine wpAnyT_pure (i := 16) (v := ?_) rfl (by kernel_rfl) (by kernel_rfl) (by kernel_rfl) (fun _ _ _ h => h) (by rfl) ?_ ?_
  rotate_left
  · intro w; go_simp; try with_reducible rfl
  simp only [Act.put, List.setIfInBounds_toArray, List.set_cons_zero, List.set_cons_succ, List.getElem_toArray, List.getElem_cons_succ, List.getElem_cons_zero]
  refine wpAnyT_done (by kernel_rfl) ?_ _
  go_wp2_with fail
  go_ret
  refine ⟨b15, fun b => b = b8 ∨ b = b15 ∨ (Value.slice a13 l13 c13).ownBlock = some b, rfl, ⟨fun b hb => ?_, .inr (.inl rfl), b8, .slice a13 l13 c13, hN15, HM15.out, HO15.out.base (Nat.zero_le _), .inl rfl, ?_, fun c hc => ⟨.inr (.inr hc), ?_, ?_⟩⟩, fun b hb => ?_, hB_0_s1.trans ((hB_s1_w104).mono hB_0_s1.size)⟩
  · rcases hb with rfl | rfl | hb
    · exact HM15.out.lt
    · exact blk_lt hN15
    · exact (HO15.out.own b hb).2
  · omega
  · have := HOWN.out c hc; omega
  · have := HOWN.out c hc; omega
  · rcases hb with rfl | rfl | hb
    · omega
    · omega
    · have := HOWN.out b hb; omega
end Go.Proofs.Ytmlekhkgokgpbaa
