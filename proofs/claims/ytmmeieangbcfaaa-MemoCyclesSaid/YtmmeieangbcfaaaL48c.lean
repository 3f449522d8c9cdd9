/- Layer 48: the law MemoCycles. -/
import Derived.Test.YtmmeieangbcfaaaL48a
import Derived.Test.YtmmeieangbcfaaaC48z
import Derived.Test.YtmmeieangbcfaaaP48g
import Derived.Test.YtmmeieangbcfaaaRead
set_option linter.unusedSimpArgs false
namespace Go.Proofs.Ytmmeieangbcfaaa
open Go.RowKit Go

theorem cyForms_len (xs : List cellT.den) (k : Nat) : (cyForms xs k).length = k := by unfold cyForms; simp
theorem i16_range {v : Int} (h : (Lit.int .i16 v).wf = true) : -32768 ≤ v ∧ v ≤ 32767 := by
  simp [Lit.wf, IntKind.min, IntKind.max, IntKind.signed, IntKind.bits] at h
  exact h
theorem cyAll_len (xs : List cellT.den) (r : cellT.den) : (cyAll xs r).length = xs.length + 1 := by unfold cyAll; rw [List.length_append, cyForms_len]; rfl
theorem nodup_at {xs : List cellT.den} (h : ∀ j, j < xs.length → ∀ k, k < j → c4 (at48 xs j) ≠ c4 (at48 xs k)) : (xs.map c4).Nodup := by
  refine List.pairwise_iff_getElem.2 (fun i j hi hj hij => ?_)
  rw [List.length_map] at hi hj
  rw [List.getElem_map, List.getElem_map]
  have := h j hj i hij
  rw [at48_get xs i hi, at48_get xs j hj] at this
  exact fun e => this e.symm
set_option maxRecDepth 20000 in
set_option maxHeartbeats 2000000 in
theorem cyclesWalk48 (w : World) (c0 : List Value) (xs : (Ty.sl cellT).den) (r0 : Rd (.sl cellT) (fun b => b < w.heap.size) w c0 xs) (c1 : List Value) (rd : cellT.den) (r1 : Rd cellT (fun b => b < w.heap.size) w c1 rd) (c2 : List Value) (va : Ty.den (.int .i16)) (r2 : Rd (.int .i16) (fun b => b < w.heap.size) w c2 va) :
    Calls Try.prog 6 #[valOf (.sl cellT) c0, valOf cellT c1, valOf (.int .i16) c2] w fun e w' => e = .returned (.bool true) ∧ Below w.heap.size w w' := by
  change List cellT.den at xs
  obtain ⟨x1, x2, x3, x4, ⟨⟩⟩ := rd
  obtain ⟨k1, kr1, rfl, ⟨rfl, h1⟩, k2, kr2, rfl, ⟨rfl, h2⟩, k3, kr3, rfl, ⟨rfl, h3⟩, k4, kr4, rfl, ⟨rfl, h4⟩, rfl⟩ := r1
  obtain ⟨rfl, hva⟩ := r2
  change Int at va
  obtain ⟨a, len, cap, rfl, hl, hlc, hcm, -⟩ := id r0
  have HX := Lib.hid r0
  have HL := Lib.hid (show xs.length = len from hl)
  have HOK := Lib.hid (show C4.ok ⟨x1, x2, x3, x4⟩ from ⟨h1, h2, h3, h4⟩)
  have HVA := Lib.hid (show (Lit.int .i16 va).wf = true from hva)
  have heq := fun W c d => cell_eql W c d
  have hgd : Try.prog.eqGuardType Try.prog.depth 26 = false := by kernel_rfl
  clear h1 h2 h3 h4 hva hl r0
  change Calls _ _ #[.slice a len cap, .agg #[.int .i64 x1, .int .i64 x2, .int .i64 x3, .int .i64 x4], .int .i16 va] _ _
  go_enter Try.func6, Try.ntmps6
  go_wp2_with fail
  have hb1 := heap_alloc_new w (.cells #[.int .i64 x1, .int .i64 x2, .int .i64 x3, .int .i64 x4] 26)
  have hB1 := (Below.refl _ w).alloc (Nat.le_refl _) (.cells #[.int .i64 x1, .int .i64 x2, .int .i64 x3, .int .i64 x4] 26)
  generalize w.alloc (.cells #[.int .i64 x1, .int .i64 x2, .int .i64 x3, .int .i64 x4] 26) = w0 at *
  refine (awake48 _).mono ?_
  rintro e w1 ⟨rfl, hB2⟩
  have hb2 := (hB2.block _ (blk_lt hb1)).trans hb1
  have HB := Lib.hid (below_step hB1 hB2)
  have HBX := Lib.hid hb2
  clear hB1 hB2 hb1 hb2
  go_wp2_with fail
  any_goals (first | (go_ret; exact ⟨rfl, HB.out⟩) | skip)
  have hl10 : 0 < len ∧ len ≤ 10 := by
    simp_all
    omega
  have HL10 := Lib.hid hl10
  clear hl10
  go_loopw [7, 8] (fun i _ wr => ∃ k : Nat, k ≤ len ∧ i = .int .i64 k ∧ (∀ j, j < k → (∀ q, q < j → c4 (at48 xs j) ≠ c4 (at48 xs q)) ∧ c4 (at48 xs j) ≠ ⟨x1, x2, x3, x4⟩) ∧ Below w1.heap.size w1 wr) (fun i _ _ => len - (intOf i).toNat)
  case atStart => exact ⟨0, Nat.zero_le _, rfl, fun j hj => absurd hj (by omega), Below.refl _ _⟩
  case round =>
    obtain ⟨k, hk, rfl, hdist, hBr⟩ := hrel
    have HD := Lib.hid hdist
    have HBR := Lib.hid hBr
    clear hdist hBr
    by_cases hlt : k < len
    · have hkI : (k : Int) < (len : Int) := by omega
      have HLT := Lib.hid hlt
      clear hlt
      go_wp2_with fail
      go_loopw [8] (fun j wj => ∃ q : Nat, q ≤ k ∧ j = .int .i64 q ∧ (∀ p, p < q → c4 (at48 xs k) ≠ c4 (at48 xs p)) ∧ Below w1.heap.size w1 wj) (fun j _ => k - (intOf j).toNat)
      case atStart => exact ⟨0, Nat.zero_le _, rfl, fun p hp => absurd hp (by omega), HBR.out⟩
      case round =>
        obtain ⟨q, hq, rfl, hne, hBj⟩ := hrel
        have HNE := Lib.hid hne
        have HBJ := Lib.hid hBj
        have hXj := HX.out.below (below_step HB.out hBj) (fun _ h => h)
        have hkx : k < xs.length := by rw [HL.out]; exact HLT.out
        obtain ⟨b, off, rfl, -, m0, m1, m2, m3, mok⟩ := cell_at hXj k hkx
        rw [← at48_get xs k hkx] at m0 m1 m2 m3 mok
        clear hne hBj
        by_cases hqk : q < k
        · have hqx : q < xs.length := by omega
          obtain ⟨b', off', hb', -, p0, p1, p2, p3, pok⟩ := cell_at hXj q hqx
          simp only [Option.some.injEq, Addr.mk.injEq, and_true] at hb'
          obtain ⟨rfl, rfl⟩ := hb'
          rw [← at48_get xs q hqx] at p0 p1 p2 p3 pok
          have hqI : (q : Int) < (k : Int) := by omega
          have hqL : (q : Int) < (len : Int) := by omega
          obtain ⟨eb, heb⟩ : ∃ eb, decide (c4 (at48 xs k) = c4 (at48 xs q)) = eb := ⟨_, rfl⟩
          have HEB := Lib.hid heb
          have HNQ := Lib.hid (show eb = false → c4 (at48 xs k) ≠ c4 (at48 xs q) from fun h => of_decide_eq_false (heb.trans h))
          have HQK := Lib.hid hqk
          have hC0 : Cells [(⟨b, off + k * 4, none⟩, .int .i64 (c4 (at48 xs k)).st), (⟨b, off + k * 4 + 1, none⟩, .int .i64 (c4 (at48 xs k)).en), (⟨b, off + k * 4 + 2, none⟩, .int .i64 (c4 (at48 xs k)).ot), (⟨b, off + k * 4 + 3, none⟩, .int .i64 (c4 (at48 xs k)).pe), (⟨b, off + q * 4, none⟩, .int .i64 (c4 (at48 xs q)).st), (⟨b, off + q * 4 + 1, none⟩, .int .i64 (c4 (at48 xs q)).en), (⟨b, off + q * 4 + 2, none⟩, .int .i64 (c4 (at48 xs q)).ot), (⟨b, off + q * 4 + 3, none⟩, .int .i64 (c4 (at48 xs q)).pe)] wr := ⟨m0, m1, m2, m3, p0, p1, p2, p3, trivial⟩
          clear heb hqk hXj hkx hqx m0 m1 m2 m3 mok p0 p1 p2 p3 pok heq
          go_wp2_with fail
          obtain ⟨⟨ck1, ck2, ck3, ck4⟩, hck⟩ : ∃ c, c4 (at48 xs k) = c := ⟨_, rfl⟩
          obtain ⟨⟨cq1, cq2, cq3, cq4⟩, hcq⟩ : ∃ c, c4 (at48 xs q) = c := ⟨_, rfl⟩
          rw [hck, hcq] at hC0 HEB
          simp only at hC0
          clear hck hcq
          refine wp_region_T (Cells [(⟨b, off + k * 4, none⟩, .int .i64 ck1), (⟨b, off + k * 4 + 1, none⟩, .int .i64 ck2), (⟨b, off + k * 4 + 2, none⟩, .int .i64 ck3), (⟨b, off + k * 4 + 3, none⟩, .int .i64 ck4), (⟨b, off + q * 4, none⟩, .int .i64 cq1), (⟨b, off + q * 4 + 1, none⟩, .int .i64 cq2), (⟨b, off + q * 4 + 2, none⟩, .int .i64 cq3), (⟨b, off + q * 4 + 3, none⟩, .int .i64 cq4)]) (fun _ => false) (by kernel_rfl) ?_
          have hSss1 := Cells.drew hC0
          have hB_0_s1 : Below wr.heap.size wr wr.drew := below_drew _
          generalize wr.drew = s1 at hSss1 hB_0_s1 ⊢
          have hB_s1_s1 := Below.refl s1.heap.size s1
          refine wpAnyT_pure (i := 0) (v := ?_) rfl (by kernel_rfl) (by kernel_rfl) (by kernel_rfl) (fun _ _ _ h => h) (by rfl) ?_ ?_
          rotate_left
          · intro w; go_simp; try with_reducible rfl
          simp only [Act.put, List.setIfInBounds_toArray, List.set_cons_zero, List.set_cons_succ, List.getElem_toArray, List.getElem_cons_succ, List.getElem_cons_zero]
          refine wpAnyT_pure (i := 1) (v := ?_) rfl (by kernel_rfl) (by kernel_rfl) (by kernel_rfl) (fun _ _ _ h => h) (by rfl) ?_ ?_
          rotate_left
          · intro w; go_simp; try with_reducible rfl
          simp only [Act.put, List.setIfInBounds_toArray, List.set_cons_zero, List.set_cons_succ, List.getElem_toArray, List.getElem_cons_succ, List.getElem_cons_zero]
          refine wpAnyT_pure (i := 2) (v := ?_) rfl (by kernel_rfl) (by kernel_rfl) (by kernel_rfl) (fun _ _ _ h => h) (by rfl) ?_ ?_
          rotate_left
          · intro w; go_simp; try with_reducible rfl
          simp only [Act.put, List.setIfInBounds_toArray, List.set_cons_zero, List.set_cons_succ, List.getElem_toArray, List.getElem_cons_succ, List.getElem_cons_zero]
          refine wpAnyT_pure (i := 4) (v := ?_) rfl (by kernel_rfl) (by kernel_rfl) (by kernel_rfl) (fun _ _ _ h => h) (by rfl) ?_ ?_
          rotate_left
          · intro w; go_simp; try with_reducible rfl
          simp only [Act.put, List.setIfInBounds_toArray, List.set_cons_zero, List.set_cons_succ, List.getElem_toArray, List.getElem_cons_succ, List.getElem_cons_zero]
          refine wpAnyT_pure (i := 5) (v := ?_) rfl (by kernel_rfl) (by kernel_rfl) (by kernel_rfl) (fun _ _ _ h => h) (by rfl) ?_ ?_
          rotate_left
          · intro w; go_simp; try with_reducible rfl
          simp only [Act.put, List.setIfInBounds_toArray, List.set_cons_zero, List.set_cons_succ, List.getElem_toArray, List.getElem_cons_succ, List.getElem_cons_zero]
          refine wpAnyT_pure (i := 6) (v := ?_) rfl (by kernel_rfl) (by kernel_rfl) (by kernel_rfl) (fun _ _ _ h => h) (by rfl) ?_ ?_
          rotate_left
          · intro w; go_simp; try with_reducible rfl
          simp only [Act.put, List.setIfInBounds_toArray, List.set_cons_zero, List.set_cons_succ, List.getElem_toArray, List.getElem_cons_succ, List.getElem_cons_zero]
          refine wpAnyT_loadW (i := 3) (v := ?_) rfl (by kernel_rfl) (by kernel_rfl) (by kernel_rfl) (by kernel_rfl) (by kernel_rfl) (fun _ _ _ h => h) (Or.inl ⟨by rfl, ?_⟩) hSss1 ?_
          rotate_left
          · intro w hSw; obtain ⟨e0, e1, e2, e3, e4, e5, e6, e7, -⟩ := hSw; go_simp; try with_reducible rfl
          simp only [Act.put, List.setIfInBounds_toArray, List.set_cons_zero, List.set_cons_succ, List.getElem_toArray, List.getElem_cons_succ, List.getElem_cons_zero]
          refine wpAnyT_loadW (i := 7) (v := ?_) rfl (by kernel_rfl) (by kernel_rfl) (by kernel_rfl) (by kernel_rfl) (by kernel_rfl) (fun _ _ _ h => h) (Or.inl ⟨by rfl, ?_⟩) hSss1 ?_
          rotate_left
          · intro w hSw; obtain ⟨e0, e1, e2, e3, e4, e5, e6, e7, -⟩ := hSw; go_simp; try with_reducible rfl
          simp only [Act.put, List.setIfInBounds_toArray, List.set_cons_zero, List.set_cons_succ, List.getElem_toArray, List.getElem_cons_succ, List.getElem_cons_zero]
          refine wpAnyT_one (i := 8) (by kernel_rfl) rfl (by rfl) ?_
          refine wp_value (v := .bool eb) (w' := s1) (by have hq := HEB.out; clear HEB HNQ; go_simp; rw [← hq]; by_cases e1 : ck1 = cq1 <;> by_cases e2 : ck2 = cq2 <;> by_cases e3 : ck3 = cq3 <;> by_cases e4 : ck4 = cq4 <;> simp [e1, e2, e3, e4]) ?_
          refine ⟨fun _ h => h, ?_⟩
          try simp only [Act.put, List.setIfInBounds_toArray, List.set_cons_zero, List.set_cons_succ, List.getElem_toArray, List.getElem_cons_succ, List.getElem_cons_zero]
          refine wpAnyT_done (by kernel_rfl) ?_ _
          have HBP := Lib.hid (below_step HBJ.out (hB_0_s1.trans ((hB_s1_s1).mono (hB_0_s1).size)))
          cases eb
          · go_wp2
            go_roundw
            case rel => exact ⟨q + 1, by have := HQK.out; omega, by go_num, fun p hp => by
              by_cases hpq : p = q
              · subst hpq
                exact HNQ.out rfl
              · exact HNE.out p (by omega), HBP.out⟩
            case measure => simp [intOf]; try omega
          · go_wp2
            go_ret
            exact ⟨rfl, below_step HB.out HBP.out⟩
        · obtain rfl : q = k := by omega
          obtain ⟨eb, heb⟩ : ∃ eb, decide (c4 (at48 xs q) = ⟨x1, x2, x3, x4⟩) = eb := ⟨_, rfl⟩
          have HEB := Lib.hid heb
          have HNQ := Lib.hid (show eb = false → c4 (at48 xs q) ≠ ⟨x1, x2, x3, x4⟩ from fun h => of_decide_eq_false (heb.trans h))
          have hbx := (HBJ.out.block _ (blk_lt HBX.out)).trans HBX.out
          have hC0 : Cells [(⟨b, off + q * 4, none⟩, .int .i64 (c4 (at48 xs q)).st), (⟨b, off + q * 4 + 1, none⟩, .int .i64 (c4 (at48 xs q)).en), (⟨b, off + q * 4 + 2, none⟩, .int .i64 (c4 (at48 xs q)).ot), (⟨b, off + q * 4 + 3, none⟩, .int .i64 (c4 (at48 xs q)).pe), (⟨w.heap.size, 0, none⟩, .int .i64 x1), (⟨w.heap.size, 1, none⟩, .int .i64 x2), (⟨w.heap.size, 2, none⟩, .int .i64 x3), (⟨w.heap.size, 3, none⟩, .int .i64 x4)] wr := ⟨m0, m1, m2, m3, blk_cell hbx 0, blk_cell hbx 1, blk_cell hbx 2, blk_cell hbx 3, trivial⟩
          clear heb hqk hXj hkx m0 m1 m2 m3 mok heq hbx
          go_wp2_with fail
          obtain ⟨⟨ck1, ck2, ck3, ck4⟩, hck⟩ : ∃ c, c4 (at48 xs q) = c := ⟨_, rfl⟩
          rw [hck] at hC0 HEB
          simp only at hC0
          clear hck
          refine wp_region_T (Cells [(⟨b, off + q * 4, none⟩, .int .i64 ck1), (⟨b, off + q * 4 + 1, none⟩, .int .i64 ck2), (⟨b, off + q * 4 + 2, none⟩, .int .i64 ck3), (⟨b, off + q * 4 + 3, none⟩, .int .i64 ck4), (⟨w.heap.size, 0, none⟩, .int .i64 x1), (⟨w.heap.size, 1, none⟩, .int .i64 x2), (⟨w.heap.size, 2, none⟩, .int .i64 x3), (⟨w.heap.size, 3, none⟩, .int .i64 x4)]) (fun _ => false) (by kernel_rfl) ?_
          have hSss2 := Cells.drew hC0
          have hB_0_s2 : Below wr.heap.size wr wr.drew := below_drew _
          generalize wr.drew = s2 at hSss2 hB_0_s2 ⊢
          have hB_s2_s2 := Below.refl s2.heap.size s2
          refine wpAnyT_pure (i := 0) (v := ?_) rfl (by kernel_rfl) (by kernel_rfl) (by kernel_rfl) (fun _ _ _ h => h) (by rfl) ?_ ?_
          rotate_left
          · intro w; go_simp; try with_reducible rfl
          simp only [Act.put, List.setIfInBounds_toArray, List.set_cons_zero, List.set_cons_succ, List.getElem_toArray, List.getElem_cons_succ, List.getElem_cons_zero]
          refine wpAnyT_pure (i := 1) (v := ?_) rfl (by kernel_rfl) (by kernel_rfl) (by kernel_rfl) (fun _ _ _ h => h) (by rfl) ?_ ?_
          rotate_left
          · intro w; go_simp; try with_reducible rfl
          simp only [Act.put, List.setIfInBounds_toArray, List.set_cons_zero, List.set_cons_succ, List.getElem_toArray, List.getElem_cons_succ, List.getElem_cons_zero]
          refine wpAnyT_pure (i := 2) (v := ?_) rfl (by kernel_rfl) (by kernel_rfl) (by kernel_rfl) (fun _ _ _ h => h) (by rfl) ?_ ?_
          rotate_left
          · intro w; go_simp; try with_reducible rfl
          simp only [Act.put, List.setIfInBounds_toArray, List.set_cons_zero, List.set_cons_succ, List.getElem_toArray, List.getElem_cons_succ, List.getElem_cons_zero]
          refine wpAnyT_loadW (i := 3) (v := ?_) rfl (by kernel_rfl) (by kernel_rfl) (by kernel_rfl) (by kernel_rfl) (by kernel_rfl) (fun _ _ _ h => h) (Or.inl ⟨by rfl, ?_⟩) hSss2 ?_
          rotate_left
          · intro w hSw; obtain ⟨e0, e1, e2, e3, e4, e5, e6, e7, -⟩ := hSw; go_simp; try with_reducible rfl
          simp only [Act.put, List.setIfInBounds_toArray, List.set_cons_zero, List.set_cons_succ, List.getElem_toArray, List.getElem_cons_succ, List.getElem_cons_zero]
          refine wpAnyT_loadW (i := 4) (v := ?_) rfl (by kernel_rfl) (by kernel_rfl) (by kernel_rfl) (by kernel_rfl) (by kernel_rfl) (fun _ _ _ h => h) (Or.inl ⟨by rfl, ?_⟩) hSss2 ?_
          rotate_left
          · intro w hSw; obtain ⟨e0, e1, e2, e3, e4, e5, e6, e7, -⟩ := hSw; go_simp; try with_reducible rfl
          simp only [Act.put, List.setIfInBounds_toArray, List.set_cons_zero, List.set_cons_succ, List.getElem_toArray, List.getElem_cons_succ, List.getElem_cons_zero]
          refine wpAnyT_one (i := 5) (by kernel_rfl) rfl (by rfl) ?_
          refine wp_value (v := .bool eb) (w' := s2) (by have hq := HEB.out; clear HEB HNQ; go_simp; rw [← hq]; by_cases e1 : ck1 = x1 <;> by_cases e2 : ck2 = x2 <;> by_cases e3 : ck3 = x3 <;> by_cases e4 : ck4 = x4 <;> simp [e1, e2, e3, e4]) ?_
          refine ⟨fun _ h => h, ?_⟩
          try simp only [Act.put, List.setIfInBounds_toArray, List.set_cons_zero, List.set_cons_succ, List.getElem_toArray, List.getElem_cons_succ, List.getElem_cons_zero]
          refine wpAnyT_done (by kernel_rfl) ?_ _
          have HBP := Lib.hid (below_step HBJ.out (hB_0_s2.trans ((hB_s2_s2).mono (hB_0_s2).size)))
          cases eb
          · go_wp2
            go_roundw
            case rel => exact ⟨q + 1, HLT.out, by go_num, fun j hj => by
              by_cases hjq : j = q
              · subst hjq
                exact ⟨HNE.out, HNQ.out rfl⟩
              · exact HD.out j (by omega), HBP.out⟩
            case measure => simp [intOf]; try omega
          · go_wp2
            go_ret
            exact ⟨rfl, below_step HB.out HBP.out⟩
    · obtain rfl : len = k := by omega
      have hnd : (xs.map c4).Nodup := nodup_at (fun j hj q hq => (HD.out j (by rw [← HL.out]; exact hj)).1 q hq)
      have hrn : (⟨x1, x2, x3, x4⟩ : C4) ∉ xs.map c4 := fun h => by
        obtain ⟨j, hj, e⟩ := at_mem h
        exact (HD.out j (by rw [← HL.out]; exact hj)).2 e.symm
      have HND := Lib.hid hnd
      have HRN := Lib.hid (show c4 (x1, x2, x3, x4, ()) ∉ xs.map c4 from hrn)
      clear hnd hrn HD hlt heq hgd
      go_wp2_with fail
      have hsr := heap_alloc_new wr (.cells #[.slice none 0 0] 46)
      have hBs := (Below.refl _ wr).alloc (Nat.le_refl _) (.cells #[.slice none 0 0] 46)
      have hs0 := ShO.nil hsr (n0 := w1.heap.size) HBR.out.size
      have hbx := (HBR.out.block _ (blk_lt HBX.out)).trans HBX.out
      have HS0 := Lib.hid hs0
      have HBS := Lib.hid (below_step HBR.out hBs)
      have HSP := Lib.hid (HBR.out.size)
      clear hsr hBs hs0 hbx
      generalize wr.alloc (.cells #[.slice none 0 0] 46) = w2 at *
      generalize wr.heap.size = sp at *
      clear HBR
      go_loopw [10] (fun i wi => ∃ (k : Nat) (v : Value) (SS : Nat → Prop), k ≤ len ∧ i = .int .i64 k ∧ ShO w1.heap.size wi sp (cyForms xs k) v SS ∧ Below w1.heap.size w1 wi) (fun i _ => len - (intOf i).toNat)
      case atStart => exact ⟨0, _, _, Nat.zero_le _, rfl, HS0.out, HBS.out⟩
      case round =>
        obtain ⟨k, v, SS, hk, rfl, hSh, hBi⟩ := hrel
        obtain ⟨av, lv, cv, rfl, hlv⟩ := hSh.own.slice
        have HSH := Lib.hid hSh
        have HBI := Lib.hid hBi
        have HXI := Lib.hid (HX.out.below (below_step HB.out hBi) (fun _ h => h))
        have HLV := Lib.hid hlv
        have HRD := Lib.hid ((hBi.block _ (blk_lt HBX.out)).trans HBX.out)
        clear hSh hBi hlv
        by_cases hlt : k < len
        · have hkI : (k : Int) < (len : Int) := by omega
          have hln : (len : Int) ≠ 0 := by omega
          have hkx : k < xs.length := by rw [HL.out]; exact hlt
          obtain ⟨t, ht⟩ : ∃ t, (k + 1) % len = t := ⟨_, rfl⟩
          have htl : t < len := by rw [← ht]; exact Nat.mod_lt _ (by omega)
          have htI : (t : Int) < (len : Int) := by omega
          have HREM := Lib.hid (show ((k : Int) + 1).tmod (len : Int) = (t : Int) from by
            rw [← ht]
            have : ((k : Int) + 1) = ((k + 1 : Nat) : Int) := by omega
            rw [this, Int.ofNat_tmod])
          have htx : t < xs.length := by rw [HL.out]; exact htl
          obtain ⟨b, off, rfl, -, m0, m1, m2, m3, mok⟩ := cell_at HXI.out k hkx
          obtain ⟨b', off', hb', -, p0, p1, p2, p3, pok⟩ := cell_at HXI.out t htx
          simp only [Option.some.injEq, Addr.mk.injEq, and_true] at hb'
          obtain ⟨rfl, rfl⟩ := hb'
          rw [← at48_get xs k hkx] at m0 m1 m2 m3 mok
          rw [← at48_get xs t htx] at p0 p1 p2 p3 pok
          have hcs := cyForms_succ xs k
          rw [HL.out, ht] at hcs
          have HLT := Lib.hid hlt
          obtain ⟨⟨ck1, ck2, ck3, ck4, ⟨⟩⟩, hck⟩ : ∃ c, at48 xs k = c := ⟨_, rfl⟩
          obtain ⟨⟨ct1, ct2, ct3, ct4, ⟨⟩⟩, hct⟩ : ∃ c, at48 xs t = c := ⟨_, rfl⟩
          rw [hck] at m0 m1 m2 m3 mok hcs
          rw [hct] at p0 p1 p2 p3 pok hcs
          have HCS := Lib.hid hcs
          have MOK := Lib.hid mok
          have POK := Lib.hid pok
          have HLN := Lib.hid hln
          have HC0 : Cells [(⟨sp, 0, none⟩, .slice av lv cv), (⟨b, off + k * 4, none⟩, .int .i64 ck1), (⟨b, off + k * 4 + 1, none⟩, .int .i64 ck2), (⟨b, off + k * 4 + 2, none⟩, .int .i64 ck3), (⟨b, off + k * 4 + 3, none⟩, .int .i64 ck4), (⟨b, off + t * 4, none⟩, .int .i64 ct1), (⟨b, off + t * 4 + 1, none⟩, .int .i64 ct2), (⟨b, off + t * 4 + 2, none⟩, .int .i64 ct3), (⟨b, off + t * 4 + 3, none⟩, .int .i64 ct4)] wr := ⟨blk_cell HSH.out.row 0, m0, m1, m2, m3, p0, p1, p2, p3, trivial⟩
          clear m0 m1 m2 m3 mok p0 p1 p2 p3 pok hck hct hcs hkx htx hlt ht htl hln
          go_wp2_with fail
          refine wp_region_T (Cells [(⟨sp, 0, none⟩, .slice av lv cv), (⟨b, off + k * 4, none⟩, .int .i64 ck1), (⟨b, off + k * 4 + 1, none⟩, .int .i64 ck2), (⟨b, off + k * 4 + 2, none⟩, .int .i64 ck3), (⟨b, off + k * 4 + 3, none⟩, .int .i64 ck4), (⟨b, off + t * 4, none⟩, .int .i64 ct1), (⟨b, off + t * 4 + 1, none⟩, .int .i64 ct2), (⟨b, off + t * 4 + 2, none⟩, .int .i64 ct3), (⟨b, off + t * 4 + 3, none⟩, .int .i64 ct4)]) (fun i => i == 21 || i == 24) (by kernel_rfl) ?_
          have hSss3 := Cells.drew HC0
          have hB_0_s3 : Below wr.heap.size wr wr.drew := below_drew _
          generalize wr.drew = s3 at hSss3 hB_0_s3 ⊢
          have hB_s3_s3 := Below.refl s3.heap.size s3
          refine wpAnyT_pure (i := 0) (v := ?_) rfl (by kernel_rfl) (by kernel_rfl) (by kernel_rfl) (fun _ _ _ h => h) (by rfl) ?_ ?_
          rotate_left
          · intro w; go_simp; try with_reducible rfl
          simp only [Act.put, List.setIfInBounds_toArray, List.set_cons_zero, List.set_cons_succ, List.getElem_toArray, List.getElem_cons_succ, List.getElem_cons_zero]
          refine wpAnyT_pure (i := 1) (v := ?_) rfl (by kernel_rfl) (by kernel_rfl) (by kernel_rfl) (fun _ _ _ h => h) (by rfl) ?_ ?_
          rotate_left
          · intro w; go_simp; try with_reducible rfl
          simp only [Act.put, List.setIfInBounds_toArray, List.set_cons_zero, List.set_cons_succ, List.getElem_toArray, List.getElem_cons_succ, List.getElem_cons_zero]
          refine wpAnyT_pure (i := 2) (v := ?_) rfl (by kernel_rfl) (by kernel_rfl) (by kernel_rfl) (fun _ _ _ h => h) (by rfl) ?_ ?_
          rotate_left
          · intro w; go_simp; try with_reducible rfl
          simp only [Act.put, List.setIfInBounds_toArray, List.set_cons_zero, List.set_cons_succ, List.getElem_toArray, List.getElem_cons_succ, List.getElem_cons_zero]
          refine wpAnyT_pure (i := 3) (v := ?_) rfl (by kernel_rfl) (by kernel_rfl) (by kernel_rfl) (fun _ _ _ h => h) (by rfl) ?_ ?_
          rotate_left
          · intro w; go_simp; try with_reducible rfl
          simp only [Act.put, List.setIfInBounds_toArray, List.set_cons_zero, List.set_cons_succ, List.getElem_toArray, List.getElem_cons_succ, List.getElem_cons_zero]
          refine wpAnyT_pure (i := 5) (v := ?_) rfl (by kernel_rfl) (by kernel_rfl) (by kernel_rfl) (fun _ _ _ h => h) (by rfl) ?_ ?_
          rotate_left
          · intro w; go_simp; try with_reducible rfl
          simp only [Act.put, List.setIfInBounds_toArray, List.set_cons_zero, List.set_cons_succ, List.getElem_toArray, List.getElem_cons_succ, List.getElem_cons_zero]
          refine wpAnyT_pure (i := 6) (v := ?_) rfl (by kernel_rfl) (by kernel_rfl) (by kernel_rfl) (fun _ _ _ h => h) (by rfl) ?_ ?_
          rotate_left
          · intro w; go_simp; try with_reducible rfl
          simp only [Act.put, List.setIfInBounds_toArray, List.set_cons_zero, List.set_cons_succ, List.getElem_toArray, List.getElem_cons_succ, List.getElem_cons_zero]
          refine wpAnyT_pure (i := 7) (v := ?_) rfl (by kernel_rfl) (by kernel_rfl) (by kernel_rfl) (fun _ _ _ h => h) (by rfl) ?_ ?_
          rotate_left
          · intro w; go_simp; try with_reducible rfl
          simp only [Act.put, List.setIfInBounds_toArray, List.set_cons_zero, List.set_cons_succ, List.getElem_toArray, List.getElem_cons_succ, List.getElem_cons_zero]
          refine wpAnyT_pure (i := 9) (v := ?_) rfl (by kernel_rfl) (by kernel_rfl) (by kernel_rfl) (fun _ _ _ h => h) (by rfl) ?_ ?_
          rotate_left
          · intro w; go_simp; try with_reducible rfl
          simp only [Act.put, List.setIfInBounds_toArray, List.set_cons_zero, List.set_cons_succ, List.getElem_toArray, List.getElem_cons_succ, List.getElem_cons_zero]
          refine wpAnyT_pure (i := 10) (v := ?_) rfl (by kernel_rfl) (by kernel_rfl) (by kernel_rfl) (fun _ _ _ h => h) (by rfl) ?_ ?_
          rotate_left
          · intro w; go_simp; try with_reducible rfl
          simp only [Act.put, List.setIfInBounds_toArray, List.set_cons_zero, List.set_cons_succ, List.getElem_toArray, List.getElem_cons_succ, List.getElem_cons_zero]
          refine wpAnyT_pure (i := 11) (v := ?_) rfl (by kernel_rfl) (by kernel_rfl) (by kernel_rfl) (fun _ _ _ h => h) (by rfl) ?_ ?_
          rotate_left
          · intro w; go_simp; try with_reducible rfl
          simp only [Act.put, List.setIfInBounds_toArray, List.set_cons_zero, List.set_cons_succ, List.getElem_toArray, List.getElem_cons_succ, List.getElem_cons_zero]
          refine wpAnyT_pure (i := 12) (v := ?_) rfl (by kernel_rfl) (by kernel_rfl) (by kernel_rfl) (fun _ _ _ h => h) (by rfl) ?_ ?_
          rotate_left
          · intro w; go_simp; try with_reducible rfl
          simp only [Act.put, List.setIfInBounds_toArray, List.set_cons_zero, List.set_cons_succ, List.getElem_toArray, List.getElem_cons_succ, List.getElem_cons_zero]
          refine wpAnyT_pure (i := 13) (v := ?_) rfl (by kernel_rfl) (by kernel_rfl) (by kernel_rfl) (fun _ _ _ h => h) (by rfl) ?_ ?_
          rotate_left
          · intro w; go_simp; try with_reducible rfl
          simp only [Act.put, List.setIfInBounds_toArray, List.set_cons_zero, List.set_cons_succ, List.getElem_toArray, List.getElem_cons_succ, List.getElem_cons_zero]
          refine wpAnyT_loadW (i := 4) (v := ?_) rfl (by kernel_rfl) (by kernel_rfl) (by kernel_rfl) (by kernel_rfl) (by kernel_rfl) (fun _ _ _ h => h) (Or.inl ⟨by rfl, ?_⟩) hSss3 ?_
          rotate_left
          · intro w hSw; obtain ⟨e0, e1, e2, e3, e4, e5, e6, e7, e8, -⟩ := hSw; go_simp; try with_reducible rfl
          simp only [Act.put, List.setIfInBounds_toArray, List.set_cons_zero, List.set_cons_succ, List.getElem_toArray, List.getElem_cons_succ, List.getElem_cons_zero]
          refine wpAnyT_loadW (i := 8) (v := ?_) rfl (by kernel_rfl) (by kernel_rfl) (by kernel_rfl) (by kernel_rfl) (by kernel_rfl) (fun _ _ _ h => h) (Or.inl ⟨by rfl, ?_⟩) hSss3 ?_
          rotate_left
          · intro w hSw; obtain ⟨e0, e1, e2, e3, e4, e5, e6, e7, e8, -⟩ := hSw; go_simp; try with_reducible rfl
          simp only [Act.put, List.setIfInBounds_toArray, List.set_cons_zero, List.set_cons_succ, List.getElem_toArray, List.getElem_cons_succ, List.getElem_cons_zero]
          refine wpAnyT_one (i := 14) (by kernel_rfl) rfl (by rfl) ?_
          refine wp_value (v := .int .i64 t) (w' := s3) (by have hr := HREM.out; have hz := HLN.out; have hl := HL10.out; have hk2 := HLT.out; clear HREM HLN; go_simp; rw [show IntKind.i64.wrap ((k : Int) + 1) = (k : Int) + 1 from by rw [IntKind.wrap_i64]; omega]; exact hr) ?_
          refine ⟨fun _ h => h, ?_⟩
          try simp only [Act.put, List.setIfInBounds_toArray, List.set_cons_zero, List.set_cons_succ, List.getElem_toArray, List.getElem_cons_succ, List.getElem_cons_zero]
          refine wpAnyT_pure (i := 15) (v := ?_) rfl (by kernel_rfl) (by kernel_rfl) (by kernel_rfl) (fun _ _ _ h => h) (by rfl) ?_ ?_
          rotate_left
          · intro w; go_simp; try with_reducible rfl
          simp only [Act.put, List.setIfInBounds_toArray, List.set_cons_zero, List.set_cons_succ, List.getElem_toArray, List.getElem_cons_succ, List.getElem_cons_zero]
          refine wpAnyT_loadW (i := 16) (v := ?_) rfl (by kernel_rfl) (by kernel_rfl) (by kernel_rfl) (by kernel_rfl) (by kernel_rfl) (fun _ _ _ h => h) (Or.inl ⟨by rfl, ?_⟩) hSss3 ?_
          rotate_left
          · intro w hSw; obtain ⟨e0, e1, e2, e3, e4, e5, e6, e7, e8, -⟩ := hSw; go_simp; try with_reducible rfl
          simp only [Act.put, List.setIfInBounds_toArray, List.set_cons_zero, List.set_cons_succ, List.getElem_toArray, List.getElem_cons_succ, List.getElem_cons_zero]
          refine wpAnyT_pure (i := 17) (v := ?_) rfl (by kernel_rfl) (by kernel_rfl) (by kernel_rfl) (fun _ _ _ h => h) (by rfl) ?_ ?_
          rotate_left
          · intro w; go_simp; try with_reducible rfl
          simp only [Act.put, List.setIfInBounds_toArray, List.set_cons_zero, List.set_cons_succ, List.getElem_toArray, List.getElem_cons_succ, List.getElem_cons_zero]
          refine wpAnyT_one (i := 18) (by kernel_rfl) rfl (by rfl) ?_
          have hge18 : wr.heap.size ≤ (s3).heap.size := Nat.le_trans (hB_0_s3).size ((hB_s3_s3).mono (hB_0_s3).size).size
          obtain ⟨b18, hb18⟩ : ∃ b, (s3).heap.size = b := ⟨_, rfl⟩
          refine wp_newrow (v := .slice (some ⟨b18, 0, none⟩) 1 1) (cs := #[.int .i64 ct1, .int .i64 ct2, .int .i64 ct3, .int .i64 ct4, .int .i16 1]) (te := 53) (by rw [← hb18]; go_simp) ?_
          intro w104 hX hN18
          rw [hb18] at hN18 hge18
          have hB_s3_w104 := below_step hB_s3_s3 hX
          have hB_w104_w104 := Below.refl w104.heap.size w104
          have hSsw104 := Cells.below hB_s3_w104 hSss3
          clear hX
          refine ⟨fun _ _ => hSsw104, ?_⟩
          try simp only [Act.put, List.setIfInBounds_toArray, List.set_cons_zero, List.set_cons_succ, List.getElem_toArray, List.getElem_cons_succ, List.getElem_cons_zero]
          refine wpAnyT_pure (i := 19) (v := ?_) rfl (by kernel_rfl) (by kernel_rfl) (by kernel_rfl) (fun _ _ _ h => h) (by rfl) ?_ ?_
          rotate_left
          · intro w; go_simp; try with_reducible rfl
          simp only [Act.put, List.setIfInBounds_toArray, List.set_cons_zero, List.set_cons_succ, List.getElem_toArray, List.getElem_cons_succ, List.getElem_cons_zero]
          refine wpAnyT_one (i := 20) (by kernel_rfl) rfl (by rfl) ?_
          obtain ⟨b20, hb20⟩ : ∃ b, (w104).heap.size = b := ⟨_, rfl⟩
          refine wp_newrow (v := .slice (some ⟨b20, 0, none⟩) 1 1) (cs := #[.int .i64 ck1, .int .i64 ck2, .int .i64 ck3, .int .i64 ck4, .slice (some ⟨b18, 0, none⟩) 1 1, .int .i16 0, .int .u8 0, .int .i8 (-1)]) (te := 41) (by rw [← hb20]; go_simp) ?_
          intro w105 hX hN20
          rw [hb20] at hN20
          have hB_s3_w105 := below_step hB_s3_w104 hX
          have hB_w104_w105 := below_step hB_w104_w104 hX
          have hB_w105_w105 := Below.refl w105.heap.size w105
          have hSsw105 := Cells.below hB_s3_w105 hSss3
          clear hX
          refine ⟨fun _ _ => hSsw105, ?_⟩
          try simp only [Act.put, List.setIfInBounds_toArray, List.set_cons_zero, List.set_cons_succ, List.getElem_toArray, List.getElem_cons_succ, List.getElem_cons_zero]
          refine wpAnyT_one (i := 21) (by kernel_rfl) rfl (by rfl) ?_
          have hq18 := ((hB_w104_w105).block _ (blk_lt hN18)).trans hN18
          have hq20 := ((hB_w105_w105).block _ (blk_lt hN20)).trans hN20
          have hbP : Below wr.heap.size wr w105 := hB_0_s3.trans ((hB_s3_w105).mono (hB_0_s3).size)
          have hsh := (HSH.out.below hbP).wider b18 (blk_lt hq18) (fun e => by have := blk_lt HSH.out.row; omega) (fun e => by have := (HSH.out.own.own b18 e).2; omega)
          have hszP : w1.heap.size ≤ (w105).heap.size := Nat.le_trans HBI.out.size hbP.size
          refine wp_app (.tmp 68) (.tmp 84) 23 rfl (e := formT) (te := 41) info_form Try.underlying23 rfl (by decide) (base := w1.heap.size) (S := _) (v := .slice av lv cv) (xs := cyForms xs k) (by kernel_rfl) hsh.own hszP (sv := .slice (some ⟨b20, 0, none⟩) 1 1) (by kernel_rfl) (ys := [cyForm (ck1, ck2, ck3, ck4, ()) (ct1, ct2, ct3, ct4, ())]) (Src.of_cells (news := [.int .i64 ck1, .int .i64 ck2, .int .i64 ck3, .int .i64 ck4, .slice (some ⟨b18, 0, none⟩) 1 1, .int .i16 0, .int .u8 0, .int .i8 (-1)]) (fun j u hu => by rw [Nat.zero_add, blk_cell hq20]; simpa using hu)) (RdL.one (e := formT) (form_rd (c := (ck1, ck2, ck3, ck4, ())) MOK.out (oneterm_rd (t := (ct1, ct2, ct3, ct4, ())) (.inr rfl) POK.out (by decide) hq18) (by decide) (by decide) (by decide))) (by have := HL10.out; have := HLT.out; rw [cyForms_len]; simp only [List.length_singleton]; omega) (by have := HL10.out; have := HLT.out; rw [cyForms_len]; simp only [List.length_singleton]; omega) ?_
          intro ca8 cl8 cc8 w106 O8 g8 ob8
          obtain ⟨hput, hgr⟩ := hsh.put g8 O8 ob8
          have hblw := hsh.below0 hgr hszP
          have hr8 := blk_gr (Gr.of_grown g8) hsh.row (fun e => hsh.hv sp e rfl)
          have f8 := blk_frozen hr8 0
          have q8 := blk_cell hr8 0
          simp at q8
          have hall := Lib.hid (show Below w1.heap.size w1 _ from HBI.out.trans ((hbP.mono HBI.out.size).trans hblw))
          clear O8 g8 ob8 hgr hblw hr8 hsh hszP hbP hq18 hq20
          refine ⟨fun h => absurd h (by decide), ?_⟩
          try simp only [Act.put, List.setIfInBounds_toArray, List.set_cons_zero, List.set_cons_succ, List.getElem_toArray, List.getElem_cons_succ, List.getElem_cons_zero]
          refine wpAnyT_pure (i := 22) (v := ?_) rfl (by kernel_rfl) (by kernel_rfl) (by kernel_rfl) (fun _ _ _ h => h) (by rfl) ?_ ?_
          rotate_left
          · intro w; go_simp; try with_reducible rfl
          simp only [Act.put, List.setIfInBounds_toArray, List.set_cons_zero, List.set_cons_succ, List.getElem_toArray, List.getElem_cons_succ, List.getElem_cons_zero]
          refine wpAnyT_pure (i := 23) (v := ?_) rfl (by kernel_rfl) (by kernel_rfl) (by kernel_rfl) (fun _ _ _ h => h) (by rfl) ?_ ?_
          rotate_left
          · intro w; go_simp; try with_reducible rfl
          simp only [Act.put, List.setIfInBounds_toArray, List.set_cons_zero, List.set_cons_succ, List.getElem_toArray, List.getElem_cons_succ, List.getElem_cons_zero]
          refine wpAnyT_one (i := 24) (by kernel_rfl) rfl (by rfl) ?_
          refine wp_store1 (w' := (w106).setCell ⟨sp, 0, none⟩ (.slice ca8 cl8 cc8)) 23 (.tmp 87) (.tmp 85) rfl ⟨sp, 0, none⟩ (.slice ca8 cl8 cc8) (by kernel_rfl) (by kernel_rfl) (by go_simp) ?_
          clear f8 q8
          generalize (w106).setCell ⟨sp, 0, none⟩ (.slice ca8 cl8 cc8) = w107 at hput hall ⊢
          refine ⟨fun h => absurd h (by decide), ?_⟩
          try simp only [Act.put, List.setIfInBounds_toArray, List.set_cons_zero, List.set_cons_succ, List.getElem_toArray, List.getElem_cons_succ, List.getElem_cons_zero]
          refine wpAnyT_done (by kernel_rfl) ?_ _
          obtain ⟨w5, rfl⟩ : ∃ x, x = w107 := ⟨_, rfl⟩
          have hP5 := Lib.hid (HCS.out ▸ hput)
          clear hput
          go_wp2_with fail
          go_roundw
          case rel => exact ⟨k + 1, _, _, HLT.out, by go_num, hP5.out, hall.out⟩
          case measure => simp [intOf]; try omega
        · obtain rfl : len = k := by omega
          have h0x : 0 < xs.length := by rw [HL.out]; exact HL10.out.1
          obtain ⟨b, off, rfl, -, p0, p1, p2, p3, pok⟩ := cell_at HXI.out 0 h0x
          rw [← at48_get xs 0 h0x] at p0 p1 p2 p3 pok
          obtain ⟨⟨ct1, ct2, ct3, ct4, ⟨⟩⟩, hct⟩ : ∃ c, at48 xs 0 = c := ⟨_, rfl⟩
          rw [hct] at p0 p1 p2 p3 pok
          simp only [Nat.zero_mul, Nat.add_zero] at p0 p1 p2 p3
          have HCS := Lib.hid (show cyAll xs (x1, x2, x3, x4, ()) = cyForms xs len ++ [cyForm (x1, x2, x3, x4, ()) (ct1, ct2, ct3, ct4, ())] from by unfold cyAll; rw [HL.out, hct])
          have POK := Lib.hid pok
          have HC0 : Cells [(⟨sp, 0, none⟩, .slice av lv cv), (⟨w.heap.size, 0, none⟩, .int .i64 x1), (⟨w.heap.size, 1, none⟩, .int .i64 x2), (⟨w.heap.size, 2, none⟩, .int .i64 x3), (⟨w.heap.size, 3, none⟩, .int .i64 x4), (⟨b, off, none⟩, .int .i64 ct1), (⟨b, off + 1, none⟩, .int .i64 ct2), (⟨b, off + 2, none⟩, .int .i64 ct3), (⟨b, off + 3, none⟩, .int .i64 ct4)] wr := ⟨blk_cell HSH.out.row 0, blk_cell HRD.out 0, blk_cell HRD.out 1, blk_cell HRD.out 2, blk_cell HRD.out 3, p0, p1, p2, p3, trivial⟩
          have h0N : 0 < len := HL10.out.1
          clear p0 p1 p2 p3 pok hct h0x hlt HRD HXI
          go_wp2_with fail
          refine wp_region_T (Cells [(⟨sp, 0, none⟩, .slice av lv cv), (⟨w.heap.size, 0, none⟩, .int .i64 x1), (⟨w.heap.size, 1, none⟩, .int .i64 x2), (⟨w.heap.size, 2, none⟩, .int .i64 x3), (⟨w.heap.size, 3, none⟩, .int .i64 x4), (⟨b, off, none⟩, .int .i64 ct1), (⟨b, off + 1, none⟩, .int .i64 ct2), (⟨b, off + 2, none⟩, .int .i64 ct3), (⟨b, off + 3, none⟩, .int .i64 ct4)]) (fun i => i == 13 || i == 16) (by kernel_rfl) ?_
          have hSss8 := Cells.drew HC0
          have hB_0_s8 : Below wr.heap.size wr wr.drew := below_drew _
          generalize wr.drew = s8 at hSss8 hB_0_s8 ⊢
          have hB_s8_s8 := Below.refl s8.heap.size s8
          refine wpAnyT_pure (i := 0) (v := ?_) rfl (by kernel_rfl) (by kernel_rfl) (by kernel_rfl) (fun _ _ _ h => h) (by rfl) ?_ ?_
          rotate_left
          · intro w; go_simp; try with_reducible rfl
          simp only [Act.put, List.setIfInBounds_toArray, List.set_cons_zero, List.set_cons_succ, List.getElem_toArray, List.getElem_cons_succ, List.getElem_cons_zero]
          refine wpAnyT_pure (i := 1) (v := ?_) rfl (by kernel_rfl) (by kernel_rfl) (by kernel_rfl) (fun _ _ _ h => h) (by rfl) ?_ ?_
          rotate_left
          · intro w; go_simp; try with_reducible rfl
          simp only [Act.put, List.setIfInBounds_toArray, List.set_cons_zero, List.set_cons_succ, List.getElem_toArray, List.getElem_cons_succ, List.getElem_cons_zero]
          refine wpAnyT_pure (i := 2) (v := ?_) rfl (by kernel_rfl) (by kernel_rfl) (by kernel_rfl) (fun _ _ _ h => h) (by rfl) ?_ ?_
          rotate_left
          · intro w; go_simp; try with_reducible rfl
          simp only [Act.put, List.setIfInBounds_toArray, List.set_cons_zero, List.set_cons_succ, List.getElem_toArray, List.getElem_cons_succ, List.getElem_cons_zero]
          refine wpAnyT_pure (i := 3) (v := ?_) rfl (by kernel_rfl) (by kernel_rfl) (by kernel_rfl) (fun _ _ _ h => h) (by rfl) ?_ ?_
          rotate_left
          · intro w; go_simp; try with_reducible rfl
          simp only [Act.put, List.setIfInBounds_toArray, List.set_cons_zero, List.set_cons_succ, List.getElem_toArray, List.getElem_cons_succ, List.getElem_cons_zero]
          refine wpAnyT_pure (i := 6) (v := ?_) rfl (by kernel_rfl) (by kernel_rfl) (by kernel_rfl) (fun _ _ _ h => h) (by rfl) ?_ ?_
          rotate_left
          · intro w; go_simp; try with_reducible rfl
          simp only [Act.put, List.setIfInBounds_toArray, List.set_cons_zero, List.set_cons_succ, List.getElem_toArray, List.getElem_cons_succ, List.getElem_cons_zero]
          refine wpAnyT_pure (i := 7) (v := ?_) rfl (by kernel_rfl) (by kernel_rfl) (by kernel_rfl) (fun _ _ _ h => h) (by rfl) ?_ ?_
          rotate_left
          · intro w; go_simp; try with_reducible rfl
          simp only [Act.put, List.setIfInBounds_toArray, List.set_cons_zero, List.set_cons_succ, List.getElem_toArray, List.getElem_cons_succ, List.getElem_cons_zero]
          refine wpAnyT_loadW (i := 4) (v := ?_) rfl (by kernel_rfl) (by kernel_rfl) (by kernel_rfl) (by kernel_rfl) (by kernel_rfl) (fun _ _ _ h => h) (Or.inl ⟨by rfl, ?_⟩) hSss8 ?_
          rotate_left
          · intro w hSw; obtain ⟨e0, e1, e2, e3, e4, e5, e6, e7, e8, -⟩ := hSw; go_simp; try with_reducible rfl
          simp only [Act.put, List.setIfInBounds_toArray, List.set_cons_zero, List.set_cons_succ, List.getElem_toArray, List.getElem_cons_succ, List.getElem_cons_zero]
          refine wpAnyT_loadW (i := 5) (v := ?_) rfl (by kernel_rfl) (by kernel_rfl) (by kernel_rfl) (by kernel_rfl) (by kernel_rfl) (fun _ _ _ h => h) (Or.inl ⟨by rfl, ?_⟩) hSss8 ?_
          rotate_left
          · intro w hSw; obtain ⟨e0, e1, e2, e3, e4, e5, e6, e7, e8, -⟩ := hSw; go_simp; try with_reducible rfl
          simp only [Act.put, List.setIfInBounds_toArray, List.set_cons_zero, List.set_cons_succ, List.getElem_toArray, List.getElem_cons_succ, List.getElem_cons_zero]
          refine wpAnyT_loadW (i := 8) (v := ?_) rfl (by kernel_rfl) (by kernel_rfl) (by kernel_rfl) (by kernel_rfl) (by kernel_rfl) (fun _ _ _ h => h) (Or.inl ⟨by rfl, ?_⟩) hSss8 ?_
          rotate_left
          · intro w hSw; obtain ⟨e0, e1, e2, e3, e4, e5, e6, e7, e8, -⟩ := hSw; go_simp; try with_reducible rfl
          simp only [Act.put, List.setIfInBounds_toArray, List.set_cons_zero, List.set_cons_succ, List.getElem_toArray, List.getElem_cons_succ, List.getElem_cons_zero]
          refine wpAnyT_pure (i := 9) (v := ?_) rfl (by kernel_rfl) (by kernel_rfl) (by kernel_rfl) (fun _ _ _ h => h) (by rfl) ?_ ?_
          rotate_left
          · intro w; go_simp; try with_reducible rfl
          simp only [Act.put, List.setIfInBounds_toArray, List.set_cons_zero, List.set_cons_succ, List.getElem_toArray, List.getElem_cons_succ, List.getElem_cons_zero]
          refine wpAnyT_one (i := 10) (by kernel_rfl) rfl (by rfl) ?_
          have hge18 : wr.heap.size ≤ (s8).heap.size := Nat.le_trans (hB_0_s8).size ((hB_s8_s8).mono (hB_0_s8).size).size
          obtain ⟨b18, hb18⟩ : ∃ b, (s8).heap.size = b := ⟨_, rfl⟩
          refine wp_newrow (v := .slice (some ⟨b18, 0, none⟩) 1 1) (cs := #[.int .i64 ct1, .int .i64 ct2, .int .i64 ct3, .int .i64 ct4, .int .i16 1]) (te := 53) (by rw [← hb18]; go_simp) ?_
          intro w109 hX hN18
          rw [hb18] at hN18 hge18
          have hB_s8_w109 := below_step hB_s8_s8 hX
          have hB_w109_w109 := Below.refl w109.heap.size w109
          have hSsw109 := Cells.below hB_s8_w109 hSss8
          clear hX
          refine ⟨fun _ _ => hSsw109, ?_⟩
          try simp only [Act.put, List.setIfInBounds_toArray, List.set_cons_zero, List.set_cons_succ, List.getElem_toArray, List.getElem_cons_succ, List.getElem_cons_zero]
          refine wpAnyT_pure (i := 11) (v := ?_) rfl (by kernel_rfl) (by kernel_rfl) (by kernel_rfl) (fun _ _ _ h => h) (by rfl) ?_ ?_
          rotate_left
          · intro w; go_simp; try with_reducible rfl
          simp only [Act.put, List.setIfInBounds_toArray, List.set_cons_zero, List.set_cons_succ, List.getElem_toArray, List.getElem_cons_succ, List.getElem_cons_zero]
          refine wpAnyT_one (i := 12) (by kernel_rfl) rfl (by rfl) ?_
          obtain ⟨b20, hb20⟩ : ∃ b, (w109).heap.size = b := ⟨_, rfl⟩
          refine wp_newrow (v := .slice (some ⟨b20, 0, none⟩) 1 1) (cs := #[.int .i64 x1, .int .i64 x2, .int .i64 x3, .int .i64 x4, .slice (some ⟨b18, 0, none⟩) 1 1, .int .i16 0, .int .u8 0, .int .i8 (-1)]) (te := 41) (by rw [← hb20]; go_simp) ?_
          intro w110 hX hN20
          rw [hb20] at hN20
          have hB_s8_w110 := below_step hB_s8_w109 hX
          have hB_w109_w110 := below_step hB_w109_w109 hX
          have hB_w110_w110 := Below.refl w110.heap.size w110
          have hSsw110 := Cells.below hB_s8_w110 hSss8
          clear hX
          refine ⟨fun _ _ => hSsw110, ?_⟩
          try simp only [Act.put, List.setIfInBounds_toArray, List.set_cons_zero, List.set_cons_succ, List.getElem_toArray, List.getElem_cons_succ, List.getElem_cons_zero]
          refine wpAnyT_one (i := 13) (by kernel_rfl) rfl (by rfl) ?_
          have hq18 := ((hB_w109_w110).block _ (blk_lt hN18)).trans hN18
          have hq20 := ((hB_w110_w110).block _ (blk_lt hN20)).trans hN20
          have hbP : Below wr.heap.size wr w110 := hB_0_s8.trans ((hB_s8_w110).mono (hB_0_s8).size)
          have hsh := (HSH.out.below hbP).wider b18 (blk_lt hq18) (fun e => by have := blk_lt HSH.out.row; omega) (fun e => by have := (HSH.out.own.own b18 e).2; omega)
          have hszP : w1.heap.size ≤ (w110).heap.size := Nat.le_trans HBI.out.size hbP.size
          refine wp_app (.tmp 92) (.tmp 100) 23 rfl (e := formT) (te := 41) info_form Try.underlying23 rfl (by decide) (base := w1.heap.size) (S := _) (v := .slice av lv cv) (xs := cyForms xs len) (by kernel_rfl) hsh.own hszP (sv := .slice (some ⟨b20, 0, none⟩) 1 1) (by kernel_rfl) (ys := [cyForm (x1, x2, x3, x4, ()) (ct1, ct2, ct3, ct4, ())]) (Src.of_cells (news := [.int .i64 x1, .int .i64 x2, .int .i64 x3, .int .i64 x4, .slice (some ⟨b18, 0, none⟩) 1 1, .int .i16 0, .int .u8 0, .int .i8 (-1)]) (fun j u hu => by rw [Nat.zero_add, blk_cell hq20]; simpa using hu)) (RdL.one (e := formT) (form_rd (c := (x1, x2, x3, x4, ())) HOK.out (oneterm_rd (t := (ct1, ct2, ct3, ct4, ())) (.inr rfl) POK.out (by decide) hq18) (by decide) (by decide) (by decide))) (by have := HL10.out; rw [cyForms_len]; simp only [List.length_singleton]; omega) (by have := HL10.out; rw [cyForms_len]; simp only [List.length_singleton]; omega) ?_
          intro ca8 cl8 cc8 w111 O8 g8 ob8
          obtain ⟨hput, hgr⟩ := hsh.put g8 O8 ob8
          have hblw := hsh.below0 hgr hszP
          have hr8 := blk_gr (Gr.of_grown g8) hsh.row (fun e => hsh.hv sp e rfl)
          have f8 := blk_frozen hr8 0
          have q8 := blk_cell hr8 0
          simp at q8
          have hall := Lib.hid (show Below w1.heap.size w1 _ from HBI.out.trans ((hbP.mono HBI.out.size).trans hblw))
          clear O8 g8 ob8 hgr hblw hr8 hsh hszP hbP hq18 hq20
          refine ⟨fun h => absurd h (by decide), ?_⟩
          try simp only [Act.put, List.setIfInBounds_toArray, List.set_cons_zero, List.set_cons_succ, List.getElem_toArray, List.getElem_cons_succ, List.getElem_cons_zero]
          refine wpAnyT_pure (i := 14) (v := ?_) rfl (by kernel_rfl) (by kernel_rfl) (by kernel_rfl) (fun _ _ _ h => h) (by rfl) ?_ ?_
          rotate_left
          · intro w; go_simp; try with_reducible rfl
          simp only [Act.put, List.setIfInBounds_toArray, List.set_cons_zero, List.set_cons_succ, List.getElem_toArray, List.getElem_cons_succ, List.getElem_cons_zero]
          refine wpAnyT_pure (i := 15) (v := ?_) rfl (by kernel_rfl) (by kernel_rfl) (by kernel_rfl) (fun _ _ _ h => h) (by rfl) ?_ ?_
          rotate_left
          · intro w; go_simp; try with_reducible rfl
          simp only [Act.put, List.setIfInBounds_toArray, List.set_cons_zero, List.set_cons_succ, List.getElem_toArray, List.getElem_cons_succ, List.getElem_cons_zero]
          refine wpAnyT_one (i := 16) (by kernel_rfl) rfl (by rfl) ?_
          refine wp_store1 (w' := (w111).setCell ⟨sp, 0, none⟩ (.slice ca8 cl8 cc8)) 23 (.tmp 103) (.tmp 101) rfl ⟨sp, 0, none⟩ (.slice ca8 cl8 cc8) (by kernel_rfl) (by kernel_rfl) (by go_simp) ?_
          clear f8 q8
          generalize (w111).setCell ⟨sp, 0, none⟩ (.slice ca8 cl8 cc8) = w112 at hput hall ⊢
          refine ⟨fun h => absurd h (by decide), ?_⟩
          try simp only [Act.put, List.setIfInBounds_toArray, List.set_cons_zero, List.set_cons_succ, List.getElem_toArray, List.getElem_cons_succ, List.getElem_cons_zero]
          refine wpAnyT_done (by kernel_rfl) ?_ _
          obtain ⟨w5, rfl⟩ : ∃ x, x = w112 := ⟨_, rfl⟩
          have HP5 := Lib.hid (HCS.out ▸ hput)
          clear hput
          go_wp2_with fail
          refine (HP5.out.new hall.out.size).mono ?_
          rintro e w6 ⟨rfl, hB6, hz6, F, hP, -⟩
          generalize w5.heap.size + 2 = p at *
          generalize w5.heap.size + 1 = pb at *
          have HP6 := Lib.hid hP
          have HN6 := Lib.hid (below_step hall.out hB6)
          clear hP hB6 hz6
          have HX6 := Lib.hid (show (⟨x1, x2, x3, x4⟩ : C4) = c4 (x1, x2, x3, x4, ()) from rfl)
          generalize w5.heap.size = kb at *
          clear hall HP5 HCS HSH HBI POK HLV h0N hk HBS HS0 HSP
          go_wp2_with fail
          go_loopw [12] (fun i wi => ∃ (k : Nat) (F : Nat → Nat) (s : MS), k ≤ len ∧ i = .int .i64 k ∧ Pl w1.heap.size F wi p sp kb pb s (cyAll xs (x1, x2, x3, x4, ())) (.slice ca8 cl8 cc8) (fun c => SS c ∨ c = b18) ∧ CyS (2 * k) s ∧ Below w1.heap.size w1 wi) (fun i _ => len - (intOf i).toNat)
          case atStart => exact ⟨0, _, _, Nat.zero_le _, rfl, HP6.out, ⟨fun _ => rfl, rfl, fun _ => rfl, rfl, Nat.zero_le _⟩, HN6.out⟩
          case round =>
            obtain ⟨k, F7, s, hk, rfl, hP7, hcy, hB7⟩ := hrel
            have hX7 := HX.out.below (below_step HB.out hB7) (fun _ h => h)
            have hR7 := (hB7.block _ (blk_lt HBX.out)).trans HBX.out
            have HP7 := Lib.hid hP7
            have HN7 := Lib.hid hB7
            have HCY := Lib.hid hcy
            have HR7 := Lib.hid hR7
            clear hP7 hB7 hR7 hcy
            by_cases hlt : k < len
            · have hkI : (k : Int) < (len : Int) := by omega
              have hkx : k < xs.length := by rw [HL.out]; exact hlt
              obtain ⟨s1, hg1, hs1⟩ := CyS.get HND.out HRN.out (by rw [HL.out]; exact HL10.out.2) HCY.out (by have := HL10.out; omega) k hkx
              obtain ⟨s2, hg2, hs2⟩ := CyS.read HND.out HRN.out (by rw [HL.out]; exact HL10.out.2) (by rw [HL.out]; exact HL10.out.1) hs1 (by have := HL10.out; omega)
              obtain ⟨b', off', hb', -, m0, m1, m2, m3, mok⟩ := cell_at hX7 k hkx
              simp only [Option.some.injEq, Addr.mk.injEq, and_true] at hb'
              obtain ⟨rfl, rfl⟩ := hb'
              rw [← at48_get xs k hkx] at m0 m1 m2 m3 mok
              obtain ⟨⟨ck1, ck2, ck3, ck4⟩, hck⟩ : ∃ c, c4 (at48 xs k) = c := ⟨_, rfl⟩
              rw [hck] at m0 m1 m2 m3 mok hg1
              simp only at m0 m1 m2 m3
              have HG1 := Lib.hid hg1
              have HG2 := Lib.hid hg2
              have HS2 := Lib.hid hs2
              have MOK := Lib.hid mok
              have HLT := Lib.hid hlt
              clear hg1 hs1 hg2 hs2 mok hck hkx hX7 hlt
              go_wp2_with fail
              refine (HP7.out.get HN7.out.size 100 (by decide) ⟨ck1, ck2, ck3, ck4⟩ MOK.out _ HG1.out).mono ?_
              rintro e w8 ⟨rfl, F8, hP8, hS8⟩
              have hB8 := hS8.gr.below HP7.out.ow0 HN7.out.size
              have hR8 := (hB8.block _ (blk_lt HBX.out)).trans HR7.out
              have HP8 := Lib.hid hP8
              have HN8 := Lib.hid (HN7.out.trans hB8)
              have y0 := blk_cell hR8 0
              have y1 := blk_cell hR8 1
              have y2 := blk_cell hR8 2
              have y3 := blk_cell hR8 3
              simp at y0 y1 y2 y3
              clear m0 m1 m2 m3 hP8 hS8 hB8 hR8
              go_wp2_with fail
              refine (HP8.out.get HN8.out.size 100 (by decide) ⟨x1, x2, x3, x4⟩ HOK.out _ HG2.out).mono ?_
              rintro e w9 ⟨rfl, F9, hP9, hS9⟩
              have HP9 := Lib.hid hP9
              have HN9 := Lib.hid (HN8.out.trans (hS9.gr.below HP8.out.ow0 HN8.out.size))
              clear y0 y1 y2 y3 hP9 hS9
              go_wp2_with fail
              refine HP9.out.kept.mono ?_
              rintro e w10 ⟨rfl, rfl⟩
              rw [HS2.out.2.1]
              go_wp2_with fail
              go_roundw
              case rel => exact ⟨k + 1, F9, s2, HLT.out, by go_num, HP9.out, HS2.out, HN9.out⟩
              case measure => simp [intOf]; try omega
            · obtain rfl : len = k := by omega
              obtain ⟨q, rfl⟩ : ∃ q, len = q + 1 := ⟨len - 1, by have := HL10.out; omega⟩
              have hqx : q < xs.length := by rw [HL.out]; omega
              have hql : xs.length - 1 = q := by rw [HL.out]; omega
              obtain ⟨s1, hg1, hs1⟩ := CyS.end_ (xs := xs) (r := (x1, x2, x3, x4, ())) (v := va) (i16_range HVA.out) HND.out HRN.out (by rw [HL.out]; exact HL10.out.2) (by rw [HL.out]; exact HL10.out.1) HCY.out (by have := HL10.out; omega)
              rw [hql] at hg1
              obtain ⟨b', off', hb', -, m0, m1, m2, m3, mok⟩ := cell_at hX7 q hqx
              simp only [Option.some.injEq, Addr.mk.injEq, and_true] at hb'
              obtain ⟨rfl, rfl⟩ := hb'
              rw [← at48_get xs q hqx] at m0 m1 m2 m3 mok
              have HCS := Lib.hid (show cyEnd xs (x1, x2, x3, x4, ()) va = cyAll xs (x1, x2, x3, x4, ()) ++ [(at48 xs q, [], va, 0, 0, ())] from by unfold cyEnd; rw [hql])
              obtain ⟨⟨ck1, ck2, ck3, ck4, ⟨⟩⟩, hck⟩ : ∃ c, at48 xs q = c := ⟨_, rfl⟩
              rw [hck] at m0 m1 m2 m3 mok hg1 HCS
              simp only [c4] at m0 m1 m2 m3
              have HG1 := Lib.hid hg1
              have HS1 := Lib.hid hs1
              have MOK := Lib.hid mok
              clear hg1 hs1 mok hck hqx hql hX7 hlt
              go_wp2_with fail
              have hbl := heap_alloc_new wr (.cells #[.int .i64 ck1, .int .i64 ck2, .int .i64 ck3, .int .i64 ck4] 26)
              have hBl := (Below.refl _ wr).alloc (Nat.le_refl _) (.cells #[.int .i64 ck1, .int .i64 ck2, .int .i64 ck3, .int .i64 ck4] 26)
              generalize wr.alloc (.cells #[.int .i64 ck1, .int .i64 ck2, .int .i64 ck3, .int .i64 ck4] 26) = w8 at *
              have hno : ¬ OW F7 sp (.slice ca8 cl8 cc8) wr.heap.size := fun e => by
                rcases e with e | e | e
                · obtain ⟨sv, cv, eb, hM⟩ := HP7.out.m
                  exact absurd (hM.dom _ e) (Nat.lt_irrefl _)
                · have := blk_lt HP7.out.row; omega
                · have := (HP7.out.own.own _ e).2; omega
              have HX8 := Lib.hid (show w8.heap[wr.heap.size]? = _ ∧ _ from ⟨hbl, hno⟩)
              have HP8 := Lib.hid (HP7.out.below hBl)
              have HN8 := Lib.hid (below_step HN7.out hBl)
              have HC0 : Cells [(⟨sp, 0, none⟩, .slice ca8 cl8 cc8), (⟨wr.heap.size, 0, none⟩, .int .i64 ck1), (⟨wr.heap.size, 1, none⟩, .int .i64 ck2), (⟨wr.heap.size, 2, none⟩, .int .i64 ck3), (⟨wr.heap.size, 3, none⟩, .int .i64 ck4)] w8 := ⟨blk_cell HP8.out.row 0, blk_cell hbl 0, blk_cell hbl 1, blk_cell hbl 2, blk_cell hbl 3, trivial⟩
              clear hbl hBl hno m0 m1 m2 m3 HP7 HN7 HR7
              generalize wr.heap.size = bb at *
              refine wp_region_T (Cells [(⟨sp, 0, none⟩, .slice ca8 cl8 cc8), (⟨bb, 0, none⟩, .int .i64 ck1), (⟨bb, 1, none⟩, .int .i64 ck2), (⟨bb, 2, none⟩, .int .i64 ck3), (⟨bb, 3, none⟩, .int .i64 ck4)]) (fun i => i == 9 || i == 12) (by kernel_rfl) ?_
              have hSss13 := Cells.drew HC0
              have hB_0_s13 : Below w8.heap.size w8 w8.drew := below_drew _
              generalize w8.drew = s13 at hSss13 hB_0_s13 ⊢
              have hB_s13_s13 := Below.refl s13.heap.size s13
              refine wpAnyT_pure (i := 0) (v := ?_) rfl (by kernel_rfl) (by kernel_rfl) (by kernel_rfl) (fun _ _ _ h => h) (by rfl) ?_ ?_
              rotate_left
              · intro w; go_simp; try with_reducible rfl
              simp only [Act.put, List.setIfInBounds_toArray, List.set_cons_zero, List.set_cons_succ, List.getElem_toArray, List.getElem_cons_succ, List.getElem_cons_zero]
              refine wpAnyT_pure (i := 1) (v := ?_) rfl (by kernel_rfl) (by kernel_rfl) (by kernel_rfl) (fun _ _ _ h => h) (by rfl) ?_ ?_
              rotate_left
              · intro w; go_simp; try with_reducible rfl
              simp only [Act.put, List.setIfInBounds_toArray, List.set_cons_zero, List.set_cons_succ, List.getElem_toArray, List.getElem_cons_succ, List.getElem_cons_zero]
              refine wpAnyT_pure (i := 2) (v := ?_) rfl (by kernel_rfl) (by kernel_rfl) (by kernel_rfl) (fun _ _ _ h => h) (by rfl) ?_ ?_
              rotate_left
              · intro w; go_simp; try with_reducible rfl
              simp only [Act.put, List.setIfInBounds_toArray, List.set_cons_zero, List.set_cons_succ, List.getElem_toArray, List.getElem_cons_succ, List.getElem_cons_zero]
              refine wpAnyT_pure (i := 3) (v := ?_) rfl (by kernel_rfl) (by kernel_rfl) (by kernel_rfl) (fun _ _ _ h => h) (by rfl) ?_ ?_
              rotate_left
              · intro w; go_simp; try with_reducible rfl
              simp only [Act.put, List.setIfInBounds_toArray, List.set_cons_zero, List.set_cons_succ, List.getElem_toArray, List.getElem_cons_succ, List.getElem_cons_zero]
              refine wpAnyT_pure (i := 6) (v := ?_) rfl (by kernel_rfl) (by kernel_rfl) (by kernel_rfl) (fun _ _ _ h => h) (by rfl) ?_ ?_
              rotate_left
              · intro w; go_simp; try with_reducible rfl
              simp only [Act.put, List.setIfInBounds_toArray, List.set_cons_zero, List.set_cons_succ, List.getElem_toArray, List.getElem_cons_succ, List.getElem_cons_zero]
              refine wpAnyT_loadW (i := 4) (v := ?_) rfl (by kernel_rfl) (by kernel_rfl) (by kernel_rfl) (by kernel_rfl) (by kernel_rfl) (fun _ _ _ h => h) (Or.inl ⟨by rfl, ?_⟩) hSss13 ?_
              rotate_left
              · intro w hSw; obtain ⟨e0, e1, e2, e3, e4, -⟩ := hSw; go_simp; try with_reducible rfl
              simp only [Act.put, List.setIfInBounds_toArray, List.set_cons_zero, List.set_cons_succ, List.getElem_toArray, List.getElem_cons_succ, List.getElem_cons_zero]
              refine wpAnyT_loadW (i := 5) (v := ?_) rfl (by kernel_rfl) (by kernel_rfl) (by kernel_rfl) (by kernel_rfl) (by kernel_rfl) (fun _ _ _ h => h) (Or.inl ⟨by rfl, ?_⟩) hSss13 ?_
              rotate_left
              · intro w hSw; obtain ⟨e0, e1, e2, e3, e4, -⟩ := hSw; go_simp; try with_reducible rfl
              simp only [Act.put, List.setIfInBounds_toArray, List.set_cons_zero, List.set_cons_succ, List.getElem_toArray, List.getElem_cons_succ, List.getElem_cons_zero]
              refine wpAnyT_pure (i := 7) (v := ?_) rfl (by kernel_rfl) (by kernel_rfl) (by kernel_rfl) (fun _ _ _ h => h) (by rfl) ?_ ?_
              rotate_left
              · intro w; go_simp; try with_reducible rfl
              simp only [Act.put, List.setIfInBounds_toArray, List.set_cons_zero, List.set_cons_succ, List.getElem_toArray, List.getElem_cons_succ, List.getElem_cons_zero]
              refine wpAnyT_one (i := 8) (by kernel_rfl) rfl (by rfl) ?_
              obtain ⟨b20, hb20⟩ : ∃ b, (s13).heap.size = b := ⟨_, rfl⟩
              refine wp_newrow (v := .slice (some ⟨b20, 0, none⟩) 1 1) (cs := #[.int .i64 ck1, .int .i64 ck2, .int .i64 ck3, .int .i64 ck4, .slice none 0 0, .int .i16 va, .int .u8 0, .int .i8 0]) (te := 41) (by rw [← hb20]; go_simp) ?_
              intro w114 hX hN20
              rw [hb20] at hN20
              have hB_s13_w114 := below_step hB_s13_s13 hX
              have hB_w114_w114 := Below.refl w114.heap.size w114
              have hSsw114 := Cells.below hB_s13_w114 hSss13
              clear hX
              refine ⟨fun _ _ => hSsw114, ?_⟩
              try simp only [Act.put, List.setIfInBounds_toArray, List.set_cons_zero, List.set_cons_succ, List.getElem_toArray, List.getElem_cons_succ, List.getElem_cons_zero]
              refine wpAnyT_one (i := 9) (by kernel_rfl) rfl (by rfl) ?_
              have hq20 := ((hB_w114_w114).block _ (blk_lt hN20)).trans hN20
              have hbP : Below w8.heap.size w8 w114 := hB_0_s13.trans ((hB_s13_w114).mono (hB_0_s13).size)
              have HPP := Lib.hid (HP8.out.below hbP)
              have HXP := Lib.hid (show (w114).heap[bb]? = _ from (hbP.block _ (blk_lt HX8.out.1)).trans HX8.out.1)
              have HNP := Lib.hid (below_step HN8.out hbP)
              refine wp_app (.tmp 157) (.tmp 161) 23 rfl (e := formT) (te := 41) info_form Try.underlying23 rfl (by decide) (base := w1.heap.size) (S := _) (v := .slice ca8 cl8 cc8) (xs := cyAll xs (x1, x2, x3, x4, ())) (by kernel_rfl) HPP.out.own HNP.out.size (sv := .slice (some ⟨b20, 0, none⟩) 1 1) (by kernel_rfl) (ys := [((ck1, ck2, ck3, ck4, ()), [], va, 0, 0, ())]) (Src.of_cells (news := [.int .i64 ck1, .int .i64 ck2, .int .i64 ck3, .int .i64 ck4, .slice none 0 0, .int .i16 va, .int .u8 0, .int .i8 0]) (fun j u hu => by rw [Nat.zero_add, blk_cell hq20]; simpa using hu)) (RdL.one (e := formT) (form_rd (c := (ck1, ck2, ck3, ck4, ())) MOK.out noterms_rd HVA.out (by decide) (by decide))) (by have := HL10.out; rw [cyAll_len, HL.out]; simp only [List.length_singleton]; omega) (by have := HL10.out; rw [cyAll_len, HL.out]; simp only [List.length_singleton]; omega) ?_
              intro ca9 cl9 cc9 w115 O8 g8 ob8
              have hput := HPP.out.put g8 O8 ob8 HNP.out.size HPP.out.fS
              have hvs := fun e => (HPP.out.fv sp e).2 rfl
              have hr8 := blk_gr (Gr.of_grown g8) HPP.out.row hvs
              have f8 := blk_frozen hr8 0
              have q8 := blk_cell hr8 0
              simp at q8
              clear O8 g8 ob8 hvs hr8 hbP hq20
              refine ⟨fun h => absurd h (by decide), ?_⟩
              try simp only [Act.put, List.setIfInBounds_toArray, List.set_cons_zero, List.set_cons_succ, List.getElem_toArray, List.getElem_cons_succ, List.getElem_cons_zero]
              refine wpAnyT_pure (i := 10) (v := ?_) rfl (by kernel_rfl) (by kernel_rfl) (by kernel_rfl) (fun _ _ _ h => h) (by rfl) ?_ ?_
              rotate_left
              · intro w; go_simp; try with_reducible rfl
              simp only [Act.put, List.setIfInBounds_toArray, List.set_cons_zero, List.set_cons_succ, List.getElem_toArray, List.getElem_cons_succ, List.getElem_cons_zero]
              refine wpAnyT_pure (i := 11) (v := ?_) rfl (by kernel_rfl) (by kernel_rfl) (by kernel_rfl) (fun _ _ _ h => h) (by rfl) ?_ ?_
              rotate_left
              · intro w; go_simp; try with_reducible rfl
              simp only [Act.put, List.setIfInBounds_toArray, List.set_cons_zero, List.set_cons_succ, List.getElem_toArray, List.getElem_cons_succ, List.getElem_cons_zero]
              refine wpAnyT_one (i := 12) (by kernel_rfl) rfl (by rfl) ?_
              refine wp_store1 (w' := (w115).setCell ⟨sp, 0, none⟩ (.slice ca9 cl9 cc9)) 23 (.tmp 164) (.tmp 162) rfl ⟨sp, 0, none⟩ (.slice ca9 cl9 cc9) (by kernel_rfl) (by kernel_rfl) (by go_simp) ?_
              clear f8 q8
              generalize (w115).setCell ⟨sp, 0, none⟩ (.slice ca9 cl9 cc9) = w116 at hput ⊢
              refine ⟨fun h => absurd h (by decide), ?_⟩
              try simp only [Act.put, List.setIfInBounds_toArray, List.set_cons_zero, List.set_cons_succ, List.getElem_toArray, List.getElem_cons_succ, List.getElem_cons_zero]
              refine wpAnyT_done (by kernel_rfl) ?_ _
              obtain ⟨w9, rfl⟩ : ∃ x, x = w116 := ⟨_, rfl⟩
              obtain ⟨hP9, hS9⟩ := hput
              have HX9 := Lib.hid (hS9.blk HXP.out HX8.out.2)
              have HP9 := Lib.hid (HCS.out ▸ hP9)
              have HN9 := Lib.hid (HNP.out.trans (hS9.gr.below HPP.out.ow0 HNP.out.size))
              clear hP9 hS9 HPP HXP HNP
              have y0 := blk_cell HX9.out.1 0
              have y1 := blk_cell HX9.out.1 1
              have y2 := blk_cell HX9.out.1 2
              have y3 := blk_cell HX9.out.1 3
              simp at y0 y1 y2 y3
              go_wp2_with fail
              refine (HP9.out.change HN9.out.size ⟨ck1, ck2, ck3, ck4⟩ MOK.out).mono ?_
              rintro e w10 ⟨rfl, hP10, hS10⟩
              have hB10 := hS10.gr.below HP9.out.ow0 HN9.out.size
              have HP10 := Lib.hid hP10
              have HN10 := Lib.hid (HN9.out.trans hB10)
              clear y0 y1 y2 y3 hP10 hS10 hB10
              have hR10 := (HN10.out.block _ (blk_lt HBX.out)).trans HBX.out
              have y0 := blk_cell hR10 0
              have y1 := blk_cell hR10 1
              have y2 := blk_cell hR10 2
              have y3 := blk_cell hR10 3
              simp at y0 y1 y2 y3
              clear hR10
              go_wp2_with fail
              refine (HP10.out.get HN10.out.size 100 (by decide) ⟨x1, x2, x3, x4⟩ HOK.out _ HG1.out).mono ?_
              rintro e w11 ⟨rfl, F11, hP11, hS11⟩
              have HP11 := Lib.hid hP11
              have HN11 := Lib.hid (HN10.out.trans (hS11.gr.below HP10.out.ow0 HN10.out.size))
              clear y0 y1 y2 y3 hP11 hS11
              have hw := wrap_i16 HVA.out
              go_wp2_with fail
              refine HP11.out.kept.mono ?_
              rintro e w12 ⟨rfl, rfl⟩
              rw [HS1.out, HL.out]
              have hl10 := HL10.out
              go_wp2_with fail
              go_ret
              exact ⟨rfl, below_step HB.out HN11.out⟩
end Go.Proofs.Ytmmeieangbcfaaa
