/- Layer 16: the law RateCopies. -/
import Derived.Test.YtmlekhkgokgpbaaC16z
import Derived.Test.YtmlekhkgokgpbaaL16f
set_option linter.unusedSimpArgs false
namespace Go.Proofs.Ytmlekhkgokgpbaa
open Go.RowKit Go
/-- A slice whose elements may be written; its block lies in G. -/
def Wr (G : Nat → Prop) (w : World) (a : Option Addr) (len : Nat) : Prop := len = 0 ∨ ∃ g cur, a = some ⟨g, 0, none⟩ ∧ w.heap[g]? = some (.cells cur 35 (0, 0)) ∧ len * 4 ≤ cur.size ∧ G g
theorem Wr.of {G : Nat → Prop} {base : Nat} {S : Nat → Prop} {w : World} {a : Option Addr} {len cap : Nat} {xs : List rateT.den} (h : Owns rateT 35 base S w (.slice a len cap) xs) (hG : ∀ b, (Value.slice a len cap).ownBlock = some b → G b) : Wr G w a len := by
  obtain ⟨vs, ho, hr, -⟩ := h
  rcases ho.2 with ⟨e, -⟩ | ⟨g, cap', cur, e, hb, hg, h1, h2, hcs, -⟩
  · cases e; exact .inl rfl
  · cases e
    refine .inr ⟨g, cur, rfl, hg, ?_, hG g rfl⟩
    rw [hcs]
    exact Nat.mul_le_mul_right 4 h1
theorem Wr.set {G : Nat → Prop} {w : World} {a : Option Addr} {len : Nat} (h : Wr G w a len) (g i : Nat) (u : Value) : Wr G (w.setCell ⟨g, i, none⟩ u) a len := by
  rcases h with h | ⟨g', cur, ha, hg, hs, hG⟩
  · exact .inl h
  · right
    by_cases e : g' = g
    · subst e
      exact ⟨g', _, ha, blk_set hg u, by simpa using hs, hG⟩
    · exact ⟨g', cur, ha, (Below.heap_setCell w ⟨g, i, none⟩ u g' (by simpa using e)).trans hg, hs, hG⟩
theorem Wr.gr {G F : Nat → Prop} {w w' : World} {a : Option Addr} {len : Nat} (h : Wr G w a len) (hg : Gr F w w') (hd : ∀ b, G b → ¬ F b) : Wr G w' a len := by
  rcases h with h | ⟨g', cur, ha, hb, hs, hG⟩
  · exact .inl h
  · exact .inr ⟨g', cur, ha, blk_gr hg hb (hd g' hG), hs, hG⟩
set_option maxRecDepth 20000 in
set_option maxHeartbeats 1000000 in
theorem copiesWalk16 (w : World) (c0 : List Value) (g : Ty.den .str) (r0 : Rd .str (fun b => b < w.heap.size) w c0 g) (c1 : List Value) (xs : (Ty.sl rateT).den) (r1 : Rd (.sl rateT) (fun b => b < w.heap.size) w c1 xs) (s1 : List.length xs * Try.prog.bytesOf 35 ≤ reachBytes) (c2 : List Value) (key : rateT.den) (r2 : Rd rateT (fun b => b < w.heap.size) w c2 key) :
    Calls Try.prog 10 #[valOf .str c0, valOf (.sl rateT) c1, valOf rateT c2] w fun e w' => e = .returned (.bool true) ∧ Below w.heap.size w w' := by
  obtain ⟨rfl, hg⟩ := r0
  obtain ⟨a, len, cap, rfl, hl, hlc, hcm, -⟩ := id r1
  change List rateT.den at xs
  change ByteArray at g
  simp only [valOf, List.headD_cons]
  have R1 := Lib.hid r1
  have HL := Lib.hid (show xs.length = len from hl)
  have HGS := Lib.hid hg
  clear r1 hl hg
  obtain ⟨kc, kk, kw, kv, ⟨⟩⟩ := key
  obtain ⟨kc1, kr1, rfl, ⟨rfl, hk1⟩, kc2, kr2, rfl, ⟨rfl, hk2⟩, kc3, kr3, rfl, ⟨rfl, hk3⟩, kc4, kr4, rfl, ⟨rfl, hk4⟩, rfl⟩ := r2
  have HKOK := Lib.hid (show (⟨kc, kk, kw⟩ : K3).ok from ⟨hk1, hk2, hk3⟩)
  have HKV := Lib.hid hk4
  clear hk1 hk2 hk3 hk4
  have HLM := Lib.hid (show (len + 2) * 40 ≤ 140737488355328 by have := HL.out; rw [show Try.prog.bytesOf 35 = 40 by kernel_rfl] at s1; unfold reachBytes at s1; omega)
  clear s1
  obtain ⟨fb, hfb⟩ : ∃ fb, fewR g (xs ++ [(kc, kk, kw, kv, ())]) = fb := ⟨_, rfl⟩
  have HFB := Lib.hid hfb
  obtain ⟨vb, hvb⟩ : ∃ vb, validB g xs = vb := ⟨_, rfl⟩
  have HVB := Lib.hid hvb
  have hrv := fun W (hB : Below w.heap.size w W) => refValid_sum W g a len cap xs (R1.out.alloc hB) (fun _ h => h) HGS.out
  rw [hvb] at hrv
  have HRV := Lib.hid hrv
  have hsn := fun W => Set_nil W ⟨kc, kk, kw, kv⟩
  unfold Rt.v rateV at hsn
  have HSN := Lib.hid hsn
  clear hfb hvb hrv hsn
  go_enter Try.func10, Try.ntmps10
  go_wp2_with (go_at_call 11; refine (awake16_sum _).mono ?_; rintro e w1 ⟨rfl, hB1⟩)
  have hn1 := (hB1.block _ (by simp)).trans (heap_alloc_new w (.cells #[.string kc, .int .i64 kk, .int .i64 kw, .int .i64 kv] 35))
  replace hB1 : Below w.heap.size w w1 := below_step ((Below.refl _ w).alloc (Nat.le_refl _) _) hB1
  have hC1 : Cells [(⟨w.heap.size, 0, none⟩, .string kc), (⟨w.heap.size, 1, none⟩, .int .i64 kk), (⟨w.heap.size, 2, none⟩, .int .i64 kw), (⟨w.heap.size, 3, none⟩, .int .i64 kv)] w1 := ⟨blk_cell hn1 0, blk_cell hn1 1, blk_cell hn1 2, blk_cell hn1 3, trivial⟩
  obtain ⟨k0, k1, k2, k3, -⟩ := id hC1
  go_wp2_with (first
    | (go_at_call 19; refine (Get_nil _ _ _ _).mono ?_; rintro e wg ⟨rfl, hwg⟩; subst hwg)
    | (go_at_call 16; refine (HSN.out _).mono ?_; rintro e w1c ⟨rfl, hBc⟩; replace hC1 := Cells.below hBc hC1; replace hB1 := below_step hB1 hBc; clear k0 k1 k2 k3 hBc)
    | (go_at_call 22; refine (List_nil16 _).mono ?_; rintro e wg ⟨rfl, hwg⟩; subst hwg)
    | (go_at_call 23; refine (History_nil _).mono ?_; rintro e wg ⟨rfl, hwg⟩; subst hwg)
    | (go_at_call 32; refine (Clone_nil _).mono ?_; rintro e wg ⟨rfl, hwg⟩; subst hwg))
  cases fb
  · skip
    refine wp_region_T (Cells [(⟨w.heap.size, 0, none⟩, .string kc), (⟨w.heap.size, 1, none⟩, .int .i64 kk), (⟨w.heap.size, 2, none⟩, .int .i64 kw), (⟨w.heap.size, 3, none⟩, .int .i64 kv)]) (fun _ => false) (by kernel_rfl) ?_
    have hSss1 := Cells.drew hC1
    have hB_0_s1 : Below wg.heap.size wg wg.drew := below_drew _
    generalize wg.drew = s1 at hSss1 hB_0_s1 ⊢
    have hB_s1_s1 := Below.refl s1.heap.size s1
    refine wpAnyT_pure (i := 0) (v := ?_) rfl (by kernel_rfl) (by kernel_rfl) (by kernel_rfl) (fun _ _ _ h => h) (by rfl) ?_ ?_
    rotate_left
    · intro w; go_simp; try with_reducible rfl
    simp only [Act.put, List.setIfInBounds_toArray, List.set_cons_zero, List.set_cons_succ, List.getElem_toArray, List.getElem_cons_succ, List.getElem_cons_zero]
    refine wpAnyT_pure (i := 2) (v := ?_) rfl (by kernel_rfl) (by kernel_rfl) (by kernel_rfl) (fun _ _ _ h => h) (by rfl) ?_ ?_
    rotate_left
    · intro w; go_simp; try with_reducible rfl
    simp only [Act.put, List.setIfInBounds_toArray, List.set_cons_zero, List.set_cons_succ, List.getElem_toArray, List.getElem_cons_succ, List.getElem_cons_zero]
    refine wpAnyT_loadW (i := 4) (v := ?_) rfl (by kernel_rfl) (by kernel_rfl) (by kernel_rfl) (by kernel_rfl) (by kernel_rfl) (fun _ _ _ h => h) (Or.inl ⟨by rfl, ?_⟩) hSss1 ?_
    rotate_left
    · intro w hSw; obtain ⟨e0, e1, e2, e3, -⟩ := hSw; go_simp; try with_reducible rfl
    simp only [Act.put, List.setIfInBounds_toArray, List.set_cons_zero, List.set_cons_succ, List.getElem_toArray, List.getElem_cons_succ, List.getElem_cons_zero]
    refine wpAnyT_two (i := 1) (k := 5) (by kernel_rfl) rfl rfl (by rfl) (by rfl) ?_ ?_
    · skip
      obtain ⟨b1, hb1⟩ : ∃ b, s1.heap.size = b := ⟨_, rfl⟩
      have hge1 : s1.heap.size ≤ b1 := hb1 ▸ (hB_s1_s1).size
      refine wp_newrow (v := .slice (some ⟨b1, 0, none⟩) 0 0) (cs := #[]) (te := 35) (by rw [← hb1]; go_simp) ?_
      intro w102 hX hN1
      rw [hb1] at hN1
      have hB_s1_w102 := below_step hB_s1_s1 hX
      have hB_w102_w102 := Below.refl w102.heap.size w102
      have hSsw102 := Cells.below hB_s1_w102 hSss1
      clear hX
      refine ⟨fun _ _ => hSsw102, ?_⟩
      try simp only [Act.put, List.setIfInBounds_toArray, List.set_cons_zero, List.set_cons_succ, List.getElem_toArray, List.getElem_cons_succ, List.getElem_cons_zero]
      refine wpAnyT_two (i := 3) (k := 5) (by kernel_rfl) rfl rfl (by rfl) (by rfl) ?_ ?_
      · skip
        have hq1 := ((hB_w102_w102).block _ (blk_lt hN1)).trans hN1
        have hb0 : Below w.heap.size w w102 := below_step hB1 (hB_0_s1.trans ((hB_s1_w102).mono hB_0_s1.size))
        refine wp_appLit (.tmp 52) (.tmp 53) 22 rfl (e := rateT) (te := 35) info_rate Try.underlying22 rfl (by decide) (S := fun b => b < w.heap.size) (base := s1.heap.size) (b := b1) (by kernel_rfl) hq1 hge1 (sv := .slice a len cap) (by kernel_rfl) (ys := xs) (R1.out.below hb0 (fun _ h => h)) (fun x hx => ⟨by have := hb0.size; have h1 := hB1.size; have h2 := (hB_0_s1).size; omega, Nat.lt_of_lt_of_le hx hb0.size⟩) (by have := HL.out; have := HLM.out; omega) (by have := HL.out; have := HLM.out; omega) ?_
        intro ca3 cl3 cc3 w103 O3 hX
        have HO3 := Lib.hid (Owns.flat (e := rateT) rfl O3)
        clear O3 hb0
        have hB_s1_w103 := below_step hB_s1_w102 hX
        have hB_w102_w103 := below_step hB_w102_w102 hX
        have hB_w103_w103 := Below.refl w103.heap.size w103
        have hSsw103 := Cells.below hB_s1_w103 hSss1
        clear hX
        refine ⟨fun _ _ => hSsw103, ?_⟩
        try simp only [Act.put, List.setIfInBounds_toArray, List.set_cons_zero, List.set_cons_succ, List.getElem_toArray, List.getElem_cons_succ, List.getElem_cons_zero]
        refine wpAnyT_one (i := 5) (by kernel_rfl) rfl (by rfl) ?_
        obtain ⟨b5, hb5⟩ : ∃ b, w103.heap.size = b := ⟨_, rfl⟩
        refine wp_newrow (v := .slice (some ⟨b5, 0, none⟩) 1 1) (cs := #[.string kc, .int .i64 kk, .int .i64 kw, .int .i64 kv]) (te := 35) (by rw [← hb5]; go_simp) ?_
        intro w104 hX hN5
        rw [hb5] at hN5
        have hB_s1_w104 := below_step hB_s1_w103 hX
        have hB_w102_w104 := below_step hB_w102_w103 hX
        have hB_w103_w104 := below_step hB_w103_w103 hX
        have hB_w104_w104 := Below.refl w104.heap.size w104
        have hSsw104 := Cells.below hB_s1_w104 hSss1
        clear hX
        refine ⟨fun _ _ => hSsw104, ?_⟩
        try simp only [Act.put, List.setIfInBounds_toArray, List.set_cons_zero, List.set_cons_succ, List.getElem_toArray, List.getElem_cons_succ, List.getElem_cons_zero]
        refine wpAnyT_one (i := 6) (by kernel_rfl) rfl (by rfl) ?_
        have hq5 := ((hB_w104_w104).block _ (blk_lt hN5)).trans hN5
        refine wp_app (.tmp 54) (.tmp 56) 22 rfl (e := rateT) (te := 35) info_rate Try.underlying22 rfl (by decide) (base := s1.heap.size) (S := fun _ => False) (v := .slice ca3 cl3 cc3) (xs := xs) (by kernel_rfl) (HO3.out.below hB_w103_w104) (hB_s1_w104).size (sv := .slice (some ⟨b5, 0, none⟩) 1 1) (by kernel_rfl) (ys := [(kc, kk, kw, kv, ())]) (Src.of_cells (news := [.string kc, .int .i64 kk, .int .i64 kw, .int .i64 kv]) (fun j u hu => by rw [Nat.zero_add, blk_cell hq5]; simpa using hu)) (RdL.one (e := rateT) (rate_rd HKOK.out HKV.out)) (by have := HL.out; have := HLM.out; simp only [List.length_cons, List.length_nil]; omega) (by have := HL.out; have := HLM.out; simp only [List.length_cons, List.length_nil]; omega) ?_
        intro ca6 cl6 cc6 w105 O6 g6 ob6
        have hX : Below s1.heap.size s1 w105 := (hB_s1_w104).grown g6 (hB_s1_w104).size (fun c hc => (HO3.out.own c hc).1)
        have HO6 := Lib.hid O6
        clear O6 g6 ob6
        have hB_s1_w105 := hX
        have hB_w105_w105 := Below.refl w105.heap.size w105
        have hSsw105 := Cells.below hB_s1_w105 hSss1
        clear hX
        refine ⟨fun _ _ => hSsw105, ?_⟩
        try simp only [Act.put, List.setIfInBounds_toArray, List.set_cons_zero, List.set_cons_succ, List.getElem_toArray, List.getElem_cons_succ, List.getElem_cons_zero]
        refine wpAnyT_one (i := 7) (by kernel_rfl) rfl (by rfl) ?_
        refine wp_enter (f := 12) (args := #[.string g, .slice ca6 cl6 cc6]) (by go_simp) (few16_sum _ g ca6 cl6 cc6 _ (rdOwn HO6.out)) ?_
        rw [HFB.out]
        rintro e w7 ⟨rfl, hw7⟩
        subst hw7
        refine ⟨_, rfl, fun _ h => h, ?_⟩
        try simp only [Act.put, List.setIfInBounds_toArray, List.set_cons_zero, List.set_cons_succ, List.getElem_toArray, List.getElem_cons_succ, List.getElem_cons_zero]
        refine wpAnyT_pure (i := 8) (v := ?_) rfl (by kernel_rfl) (by kernel_rfl) (by kernel_rfl) (fun _ _ _ h => h) (by rfl) ?_ ?_
        rotate_left
        · intro w; go_simp; try with_reducible rfl
        simp only [Act.put, List.setIfInBounds_toArray, List.set_cons_zero, List.set_cons_succ, List.getElem_toArray, List.getElem_cons_succ, List.getElem_cons_zero]
        refine wpAnyT_pure (i := 9) (v := ?_) rfl (by kernel_rfl) (by kernel_rfl) (by kernel_rfl) (fun _ _ _ h => h) (by rfl) ?_ ?_
        rotate_left
        · intro w; go_simp; try with_reducible rfl
        simp only [Act.put, List.setIfInBounds_toArray, List.set_cons_zero, List.set_cons_succ, List.getElem_toArray, List.getElem_cons_succ, List.getElem_cons_zero]
        refine wpAnyT_skip (i := 10) rfl (by kernel_rfl) (by kernel_rfl) (by kernel_rfl) (fun _ _ _ h => h) (by rfl) ?_
        simp only [Act.put, List.setIfInBounds_toArray, List.set_cons_zero, List.set_cons_succ, List.getElem_toArray, List.getElem_cons_succ, List.getElem_cons_zero]
        refine wpAnyT_skip (i := 11) rfl (by kernel_rfl) (by kernel_rfl) (by kernel_rfl) (fun _ _ _ h => h) (by rfl) ?_
        simp only [Act.put, List.setIfInBounds_toArray, List.set_cons_zero, List.set_cons_succ, List.getElem_toArray, List.getElem_cons_succ, List.getElem_cons_zero]
        refine wpAnyT_skip (i := 12) rfl (by kernel_rfl) (by kernel_rfl) (by kernel_rfl) (fun _ _ _ h => h) (by rfl) ?_
        simp only [Act.put, List.setIfInBounds_toArray, List.set_cons_zero, List.set_cons_succ, List.getElem_toArray, List.getElem_cons_succ, List.getElem_cons_zero]
        refine wpAnyT_skip (i := 13) rfl (by kernel_rfl) (by kernel_rfl) (by kernel_rfl) (fun _ _ _ h => h) (by rfl) ?_
        simp only [Act.put, List.setIfInBounds_toArray, List.set_cons_zero, List.set_cons_succ, List.getElem_toArray, List.getElem_cons_succ, List.getElem_cons_zero]
        refine wpAnyT_pure (i := 14) (v := ?_) rfl (by kernel_rfl) (by kernel_rfl) (by kernel_rfl) (fun _ _ _ h => h) (by rfl) ?_ ?_
        rotate_left
        · intro w; go_simp; try with_reducible rfl
        simp only [Act.put, List.setIfInBounds_toArray, List.set_cons_zero, List.set_cons_succ, List.getElem_toArray, List.getElem_cons_succ, List.getElem_cons_zero]
        refine wpAnyT_done (by kernel_rfl) ?_ _
        go_wp2_with fail
        go_ret
        exact ⟨rfl, below_step hB1 (hB_0_s1.trans ((hB_s1_w105).mono hB_0_s1.size))⟩
      · skip
        obtain ⟨b5, hb5⟩ : ∃ b, w102.heap.size = b := ⟨_, rfl⟩
        refine wp_newrow (v := .slice (some ⟨b5, 0, none⟩) 1 1) (cs := #[.string kc, .int .i64 kk, .int .i64 kw, .int .i64 kv]) (te := 35) (by rw [← hb5]; go_simp) ?_
        intro w106 hX hN5
        rw [hb5] at hN5
        have hB_s1_w106 := below_step hB_s1_w102 hX
        have hB_w102_w106 := below_step hB_w102_w102 hX
        have hB_w106_w106 := Below.refl w106.heap.size w106
        have hSsw106 := Cells.below hB_s1_w106 hSss1
        clear hX
        refine ⟨fun _ _ => hSsw106, ?_⟩
        try simp only [Act.put, List.setIfInBounds_toArray, List.set_cons_zero, List.set_cons_succ, List.getElem_toArray, List.getElem_cons_succ, List.getElem_cons_zero]
        refine wpAnyT_one (i := 3) (by kernel_rfl) rfl (by rfl) ?_
        have hq1 := ((hB_w102_w106).block _ (blk_lt hN1)).trans hN1
        have hb0 : Below w.heap.size w w106 := below_step hB1 (hB_0_s1.trans ((hB_s1_w106).mono hB_0_s1.size))
        refine wp_appLit (.tmp 52) (.tmp 53) 22 rfl (e := rateT) (te := 35) info_rate Try.underlying22 rfl (by decide) (S := fun b => b < w.heap.size) (base := s1.heap.size) (b := b1) (by kernel_rfl) hq1 hge1 (sv := .slice a len cap) (by kernel_rfl) (ys := xs) (R1.out.below hb0 (fun _ h => h)) (fun x hx => ⟨by have := hb0.size; have h1 := hB1.size; have h2 := (hB_0_s1).size; omega, Nat.lt_of_lt_of_le hx hb0.size⟩) (by have := HL.out; have := HLM.out; omega) (by have := HL.out; have := HLM.out; omega) ?_
        intro ca3 cl3 cc3 w107 O3 hX
        have HO3 := Lib.hid (Owns.flat (e := rateT) rfl O3)
        clear O3 hb0
        have hB_s1_w107 := below_step hB_s1_w106 hX
        have hB_w102_w107 := below_step hB_w102_w106 hX
        have hB_w106_w107 := below_step hB_w106_w106 hX
        have hB_w107_w107 := Below.refl w107.heap.size w107
        have hSsw107 := Cells.below hB_s1_w107 hSss1
        clear hX
        refine ⟨fun _ _ => hSsw107, ?_⟩
        try simp only [Act.put, List.setIfInBounds_toArray, List.set_cons_zero, List.set_cons_succ, List.getElem_toArray, List.getElem_cons_succ, List.getElem_cons_zero]
        refine wpAnyT_one (i := 6) (by kernel_rfl) rfl (by rfl) ?_
        have hq5 := ((hB_w106_w107).block _ (blk_lt hN5)).trans hN5
        refine wp_app (.tmp 54) (.tmp 56) 22 rfl (e := rateT) (te := 35) info_rate Try.underlying22 rfl (by decide) (base := s1.heap.size) (S := fun _ => False) (v := .slice ca3 cl3 cc3) (xs := xs) (by kernel_rfl) (HO3.out.below hB_w107_w107) (hB_s1_w107).size (sv := .slice (some ⟨b5, 0, none⟩) 1 1) (by kernel_rfl) (ys := [(kc, kk, kw, kv, ())]) (Src.of_cells (news := [.string kc, .int .i64 kk, .int .i64 kw, .int .i64 kv]) (fun j u hu => by rw [Nat.zero_add, blk_cell hq5]; simpa using hu)) (RdL.one (e := rateT) (rate_rd HKOK.out HKV.out)) (by have := HL.out; have := HLM.out; simp only [List.length_cons, List.length_nil]; omega) (by have := HL.out; have := HLM.out; simp only [List.length_cons, List.length_nil]; omega) ?_
        intro ca6 cl6 cc6 w108 O6 g6 ob6
        have hX : Below s1.heap.size s1 w108 := (hB_s1_w107).grown g6 (hB_s1_w107).size (fun c hc => (HO3.out.own c hc).1)
        have HO6 := Lib.hid O6
        clear O6 g6 ob6
        have hB_s1_w108 := hX
        have hB_w108_w108 := Below.refl w108.heap.size w108
        have hSsw108 := Cells.below hB_s1_w108 hSss1
        clear hX
        refine ⟨fun _ _ => hSsw108, ?_⟩
        try simp only [Act.put, List.setIfInBounds_toArray, List.set_cons_zero, List.set_cons_succ, List.getElem_toArray, List.getElem_cons_succ, List.getElem_cons_zero]
        refine wpAnyT_one (i := 7) (by kernel_rfl) rfl (by rfl) ?_
        refine wp_enter (f := 12) (args := #[.string g, .slice ca6 cl6 cc6]) (by go_simp) (few16_sum _ g ca6 cl6 cc6 _ (rdOwn HO6.out)) ?_
        rw [HFB.out]
        rintro e w7 ⟨rfl, hw7⟩
        subst hw7
        refine ⟨_, rfl, fun _ h => h, ?_⟩
        try simp only [Act.put, List.setIfInBounds_toArray, List.set_cons_zero, List.set_cons_succ, List.getElem_toArray, List.getElem_cons_succ, List.getElem_cons_zero]
        refine wpAnyT_pure (i := 8) (v := ?_) rfl (by kernel_rfl) (by kernel_rfl) (by kernel_rfl) (fun _ _ _ h => h) (by rfl) ?_ ?_
        rotate_left
        · intro w; go_simp; try with_reducible rfl
        simp only [Act.put, List.setIfInBounds_toArray, List.set_cons_zero, List.set_cons_succ, List.getElem_toArray, List.getElem_cons_succ, List.getElem_cons_zero]
        refine wpAnyT_pure (i := 9) (v := ?_) rfl (by kernel_rfl) (by kernel_rfl) (by kernel_rfl) (fun _ _ _ h => h) (by rfl) ?_ ?_
        rotate_left
        · intro w; go_simp; try with_reducible rfl
        simp only [Act.put, List.setIfInBounds_toArray, List.set_cons_zero, List.set_cons_succ, List.getElem_toArray, List.getElem_cons_succ, List.getElem_cons_zero]
        refine wpAnyT_skip (i := 10) rfl (by kernel_rfl) (by kernel_rfl) (by kernel_rfl) (fun _ _ _ h => h) (by rfl) ?_
        simp only [Act.put, List.setIfInBounds_toArray, List.set_cons_zero, List.set_cons_succ, List.getElem_toArray, List.getElem_cons_succ, List.getElem_cons_zero]
        refine wpAnyT_skip (i := 11) rfl (by kernel_rfl) (by kernel_rfl) (by kernel_rfl) (fun _ _ _ h => h) (by rfl) ?_
        simp only [Act.put, List.setIfInBounds_toArray, List.set_cons_zero, List.set_cons_succ, List.getElem_toArray, List.getElem_cons_succ, List.getElem_cons_zero]
        refine wpAnyT_skip (i := 12) rfl (by kernel_rfl) (by kernel_rfl) (by kernel_rfl) (fun _ _ _ h => h) (by rfl) ?_
        simp only [Act.put, List.setIfInBounds_toArray, List.set_cons_zero, List.set_cons_succ, List.getElem_toArray, List.getElem_cons_succ, List.getElem_cons_zero]
        refine wpAnyT_skip (i := 13) rfl (by kernel_rfl) (by kernel_rfl) (by kernel_rfl) (fun _ _ _ h => h) (by rfl) ?_
        simp only [Act.put, List.setIfInBounds_toArray, List.set_cons_zero, List.set_cons_succ, List.getElem_toArray, List.getElem_cons_succ, List.getElem_cons_zero]
        refine wpAnyT_pure (i := 14) (v := ?_) rfl (by kernel_rfl) (by kernel_rfl) (by kernel_rfl) (fun _ _ _ h => h) (by rfl) ?_ ?_
        rotate_left
        · intro w; go_simp; try with_reducible rfl
        simp only [Act.put, List.setIfInBounds_toArray, List.set_cons_zero, List.set_cons_succ, List.getElem_toArray, List.getElem_cons_succ, List.getElem_cons_zero]
        refine wpAnyT_done (by kernel_rfl) ?_ _
        go_wp2_with fail
        go_ret
        exact ⟨rfl, below_step hB1 (hB_0_s1.trans ((hB_s1_w108).mono hB_0_s1.size))⟩
    · skip
      obtain ⟨b5, hb5⟩ : ∃ b, s1.heap.size = b := ⟨_, rfl⟩
      refine wp_newrow (v := .slice (some ⟨b5, 0, none⟩) 1 1) (cs := #[.string kc, .int .i64 kk, .int .i64 kw, .int .i64 kv]) (te := 35) (by rw [← hb5]; go_simp) ?_
      intro w109 hX hN5
      rw [hb5] at hN5
      have hB_s1_w109 := below_step hB_s1_s1 hX
      have hB_w109_w109 := Below.refl w109.heap.size w109
      have hSsw109 := Cells.below hB_s1_w109 hSss1
      clear hX
      refine ⟨fun _ _ => hSsw109, ?_⟩
      try simp only [Act.put, List.setIfInBounds_toArray, List.set_cons_zero, List.set_cons_succ, List.getElem_toArray, List.getElem_cons_succ, List.getElem_cons_zero]
      refine wpAnyT_one (i := 1) (by kernel_rfl) rfl (by rfl) ?_
      obtain ⟨b1, hb1⟩ : ∃ b, w109.heap.size = b := ⟨_, rfl⟩
      have hge1 : s1.heap.size ≤ b1 := hb1 ▸ (hB_s1_w109).size
      refine wp_newrow (v := .slice (some ⟨b1, 0, none⟩) 0 0) (cs := #[]) (te := 35) (by rw [← hb1]; go_simp) ?_
      intro w110 hX hN1
      rw [hb1] at hN1
      have hB_s1_w110 := below_step hB_s1_w109 hX
      have hB_w109_w110 := below_step hB_w109_w109 hX
      have hB_w110_w110 := Below.refl w110.heap.size w110
      have hSsw110 := Cells.below hB_s1_w110 hSss1
      clear hX
      refine ⟨fun _ _ => hSsw110, ?_⟩
      try simp only [Act.put, List.setIfInBounds_toArray, List.set_cons_zero, List.set_cons_succ, List.getElem_toArray, List.getElem_cons_succ, List.getElem_cons_zero]
      refine wpAnyT_one (i := 3) (by kernel_rfl) rfl (by rfl) ?_
      have hq1 := ((hB_w110_w110).block _ (blk_lt hN1)).trans hN1
      have hb0 : Below w.heap.size w w110 := below_step hB1 (hB_0_s1.trans ((hB_s1_w110).mono hB_0_s1.size))
      refine wp_appLit (.tmp 52) (.tmp 53) 22 rfl (e := rateT) (te := 35) info_rate Try.underlying22 rfl (by decide) (S := fun b => b < w.heap.size) (base := s1.heap.size) (b := b1) (by kernel_rfl) hq1 hge1 (sv := .slice a len cap) (by kernel_rfl) (ys := xs) (R1.out.below hb0 (fun _ h => h)) (fun x hx => ⟨by have := hb0.size; have h1 := hB1.size; have h2 := (hB_0_s1).size; omega, Nat.lt_of_lt_of_le hx hb0.size⟩) (by have := HL.out; have := HLM.out; omega) (by have := HL.out; have := HLM.out; omega) ?_
      intro ca3 cl3 cc3 w111 O3 hX
      have HO3 := Lib.hid (Owns.flat (e := rateT) rfl O3)
      clear O3 hb0
      have hB_s1_w111 := below_step hB_s1_w110 hX
      have hB_w109_w111 := below_step hB_w109_w110 hX
      have hB_w110_w111 := below_step hB_w110_w110 hX
      have hB_w111_w111 := Below.refl w111.heap.size w111
      have hSsw111 := Cells.below hB_s1_w111 hSss1
      clear hX
      refine ⟨fun _ _ => hSsw111, ?_⟩
      try simp only [Act.put, List.setIfInBounds_toArray, List.set_cons_zero, List.set_cons_succ, List.getElem_toArray, List.getElem_cons_succ, List.getElem_cons_zero]
      refine wpAnyT_one (i := 6) (by kernel_rfl) rfl (by rfl) ?_
      have hq5 := ((hB_w109_w111).block _ (blk_lt hN5)).trans hN5
      refine wp_app (.tmp 54) (.tmp 56) 22 rfl (e := rateT) (te := 35) info_rate Try.underlying22 rfl (by decide) (base := s1.heap.size) (S := fun _ => False) (v := .slice ca3 cl3 cc3) (xs := xs) (by kernel_rfl) (HO3.out.below hB_w111_w111) (hB_s1_w111).size (sv := .slice (some ⟨b5, 0, none⟩) 1 1) (by kernel_rfl) (ys := [(kc, kk, kw, kv, ())]) (Src.of_cells (news := [.string kc, .int .i64 kk, .int .i64 kw, .int .i64 kv]) (fun j u hu => by rw [Nat.zero_add, blk_cell hq5]; simpa using hu)) (RdL.one (e := rateT) (rate_rd HKOK.out HKV.out)) (by have := HL.out; have := HLM.out; simp only [List.length_cons, List.length_nil]; omega) (by have := HL.out; have := HLM.out; simp only [List.length_cons, List.length_nil]; omega) ?_
      intro ca6 cl6 cc6 w112 O6 g6 ob6
      have hX : Below s1.heap.size s1 w112 := (hB_s1_w111).grown g6 (hB_s1_w111).size (fun c hc => (HO3.out.own c hc).1)
      have HO6 := Lib.hid O6
      clear O6 g6 ob6
      have hB_s1_w112 := hX
      have hB_w112_w112 := Below.refl w112.heap.size w112
      have hSsw112 := Cells.below hB_s1_w112 hSss1
      clear hX
      refine ⟨fun _ _ => hSsw112, ?_⟩
      try simp only [Act.put, List.setIfInBounds_toArray, List.set_cons_zero, List.set_cons_succ, List.getElem_toArray, List.getElem_cons_succ, List.getElem_cons_zero]
      refine wpAnyT_one (i := 7) (by kernel_rfl) rfl (by rfl) ?_
      refine wp_enter (f := 12) (args := #[.string g, .slice ca6 cl6 cc6]) (by go_simp) (few16_sum _ g ca6 cl6 cc6 _ (rdOwn HO6.out)) ?_
      rw [HFB.out]
      rintro e w7 ⟨rfl, hw7⟩
      subst hw7
      refine ⟨_, rfl, fun _ h => h, ?_⟩
      try simp only [Act.put, List.setIfInBounds_toArray, List.set_cons_zero, List.set_cons_succ, List.getElem_toArray, List.getElem_cons_succ, List.getElem_cons_zero]
      refine wpAnyT_pure (i := 8) (v := ?_) rfl (by kernel_rfl) (by kernel_rfl) (by kernel_rfl) (fun _ _ _ h => h) (by rfl) ?_ ?_
      rotate_left
      · intro w; go_simp; try with_reducible rfl
      simp only [Act.put, List.setIfInBounds_toArray, List.set_cons_zero, List.set_cons_succ, List.getElem_toArray, List.getElem_cons_succ, List.getElem_cons_zero]
      refine wpAnyT_pure (i := 9) (v := ?_) rfl (by kernel_rfl) (by kernel_rfl) (by kernel_rfl) (fun _ _ _ h => h) (by rfl) ?_ ?_
      rotate_left
      · intro w; go_simp; try with_reducible rfl
      simp only [Act.put, List.setIfInBounds_toArray, List.set_cons_zero, List.set_cons_succ, List.getElem_toArray, List.getElem_cons_succ, List.getElem_cons_zero]
      refine wpAnyT_skip (i := 10) rfl (by kernel_rfl) (by kernel_rfl) (by kernel_rfl) (fun _ _ _ h => h) (by rfl) ?_
      simp only [Act.put, List.setIfInBounds_toArray, List.set_cons_zero, List.set_cons_succ, List.getElem_toArray, List.getElem_cons_succ, List.getElem_cons_zero]
      refine wpAnyT_skip (i := 11) rfl (by kernel_rfl) (by kernel_rfl) (by kernel_rfl) (fun _ _ _ h => h) (by rfl) ?_
      simp only [Act.put, List.setIfInBounds_toArray, List.set_cons_zero, List.set_cons_succ, List.getElem_toArray, List.getElem_cons_succ, List.getElem_cons_zero]
      refine wpAnyT_skip (i := 12) rfl (by kernel_rfl) (by kernel_rfl) (by kernel_rfl) (fun _ _ _ h => h) (by rfl) ?_
      simp only [Act.put, List.setIfInBounds_toArray, List.set_cons_zero, List.set_cons_succ, List.getElem_toArray, List.getElem_cons_succ, List.getElem_cons_zero]
      refine wpAnyT_skip (i := 13) rfl (by kernel_rfl) (by kernel_rfl) (by kernel_rfl) (fun _ _ _ h => h) (by rfl) ?_
      simp only [Act.put, List.setIfInBounds_toArray, List.set_cons_zero, List.set_cons_succ, List.getElem_toArray, List.getElem_cons_succ, List.getElem_cons_zero]
      refine wpAnyT_pure (i := 14) (v := ?_) rfl (by kernel_rfl) (by kernel_rfl) (by kernel_rfl) (fun _ _ _ h => h) (by rfl) ?_ ?_
      rotate_left
      · intro w; go_simp; try with_reducible rfl
      simp only [Act.put, List.setIfInBounds_toArray, List.set_cons_zero, List.set_cons_succ, List.getElem_toArray, List.getElem_cons_succ, List.getElem_cons_zero]
      refine wpAnyT_done (by kernel_rfl) ?_ _
      go_wp2_with fail
      go_ret
      exact ⟨rfl, below_step hB1 (hB_0_s1.trans ((hB_s1_w112).mono hB_0_s1.size))⟩
  obtain ⟨hg20, hl200, -⟩ := few_len HFB.out
  rw [List.length_append] at hl200
  have hlen200 : len ≤ 200 := by have := HL.out; simp only [List.length_cons, List.length_nil] at hl200; omega
  clear hl200
  refine wp_cut [51, 52, 53, 54, 55, 56, 57, 58, 59, 60, 61, 62, 63, 64, 65] (fun vs w' => (∃ v51 v52 v53 v54 v55 v56 v57 v58 v59 v60 v61 v62 v63 v64, vs = [v51, v52, v53, v54, v55, v56, v57, v58, v59, v60, v61, v62, v63, v64, .bool (!vb)]) ∧ Below wg.heap.size wg w') ?_ ?_
  · skip
    refine wp_region_T (Cells [(⟨w.heap.size, 0, none⟩, .string kc), (⟨w.heap.size, 1, none⟩, .int .i64 kk), (⟨w.heap.size, 2, none⟩, .int .i64 kw), (⟨w.heap.size, 3, none⟩, .int .i64 kv)]) (fun _ => false) (by kernel_rfl) ?_
    have hSss13 := Cells.drew hC1
    have hB_0_s13 : Below wg.heap.size wg wg.drew := below_drew _
    generalize wg.drew = s13 at hSss13 hB_0_s13 ⊢
    have hB_s13_s13 := Below.refl s13.heap.size s13
    refine wpAnyT_pure (i := 0) (v := ?_) rfl (by kernel_rfl) (by kernel_rfl) (by kernel_rfl) (fun _ _ _ h => h) (by rfl) ?_ ?_
    rotate_left
    · intro w; go_simp; try with_reducible rfl
    simp only [Act.put, List.setIfInBounds_toArray, List.set_cons_zero, List.set_cons_succ, List.getElem_toArray, List.getElem_cons_succ, List.getElem_cons_zero]
    refine wpAnyT_pure (i := 2) (v := ?_) rfl (by kernel_rfl) (by kernel_rfl) (by kernel_rfl) (fun _ _ _ h => h) (by rfl) ?_ ?_
    rotate_left
    · intro w; go_simp; try with_reducible rfl
    simp only [Act.put, List.setIfInBounds_toArray, List.set_cons_zero, List.set_cons_succ, List.getElem_toArray, List.getElem_cons_succ, List.getElem_cons_zero]
    refine wpAnyT_loadW (i := 4) (v := ?_) rfl (by kernel_rfl) (by kernel_rfl) (by kernel_rfl) (by kernel_rfl) (by kernel_rfl) (fun _ _ _ h => h) (Or.inl ⟨by rfl, ?_⟩) hSss13 ?_
    rotate_left
    · intro w hSw; obtain ⟨e0, e1, e2, e3, -⟩ := hSw; go_simp; try with_reducible rfl
    simp only [Act.put, List.setIfInBounds_toArray, List.set_cons_zero, List.set_cons_succ, List.getElem_toArray, List.getElem_cons_succ, List.getElem_cons_zero]
    refine wpAnyT_two (i := 1) (k := 5) (by kernel_rfl) rfl rfl (by rfl) (by rfl) ?_ ?_
    · skip
      obtain ⟨b1, hb1⟩ : ∃ b, s13.heap.size = b := ⟨_, rfl⟩
      have hge1 : s13.heap.size ≤ b1 := hb1 ▸ (hB_s13_s13).size
      refine wp_newrow (v := .slice (some ⟨b1, 0, none⟩) 0 0) (cs := #[]) (te := 35) (by rw [← hb1]; go_simp) ?_
      intro w114 hX hN1
      rw [hb1] at hN1
      have hB_s13_w114 := below_step hB_s13_s13 hX
      have hB_w114_w114 := Below.refl w114.heap.size w114
      have hSsw114 := Cells.below hB_s13_w114 hSss13
      clear hX
      refine ⟨fun _ _ => hSsw114, ?_⟩
      try simp only [Act.put, List.setIfInBounds_toArray, List.set_cons_zero, List.set_cons_succ, List.getElem_toArray, List.getElem_cons_succ, List.getElem_cons_zero]
      refine wpAnyT_two (i := 3) (k := 5) (by kernel_rfl) rfl rfl (by rfl) (by rfl) ?_ ?_
      · skip
        have hq1 := ((hB_w114_w114).block _ (blk_lt hN1)).trans hN1
        have hb0 : Below w.heap.size w w114 := below_step hB1 (hB_0_s13.trans ((hB_s13_w114).mono hB_0_s13.size))
        refine wp_appLit (.tmp 52) (.tmp 53) 22 rfl (e := rateT) (te := 35) info_rate Try.underlying22 rfl (by decide) (S := fun b => b < w.heap.size) (base := s13.heap.size) (b := b1) (by kernel_rfl) hq1 hge1 (sv := .slice a len cap) (by kernel_rfl) (ys := xs) (R1.out.below hb0 (fun _ h => h)) (fun x hx => ⟨by have := hb0.size; have h1 := hB1.size; have h2 := (hB_0_s13).size; omega, Nat.lt_of_lt_of_le hx hb0.size⟩) (by have := HL.out; have := HLM.out; omega) (by have := HL.out; have := HLM.out; omega) ?_
        intro ca3 cl3 cc3 w115 O3 hX
        have HO3 := Lib.hid (Owns.flat (e := rateT) rfl O3)
        clear O3 hb0
        have hB_s13_w115 := below_step hB_s13_w114 hX
        have hB_w114_w115 := below_step hB_w114_w114 hX
        have hB_w115_w115 := Below.refl w115.heap.size w115
        have hSsw115 := Cells.below hB_s13_w115 hSss13
        clear hX
        refine ⟨fun _ _ => hSsw115, ?_⟩
        try simp only [Act.put, List.setIfInBounds_toArray, List.set_cons_zero, List.set_cons_succ, List.getElem_toArray, List.getElem_cons_succ, List.getElem_cons_zero]
        refine wpAnyT_one (i := 5) (by kernel_rfl) rfl (by rfl) ?_
        obtain ⟨b5, hb5⟩ : ∃ b, w115.heap.size = b := ⟨_, rfl⟩
        refine wp_newrow (v := .slice (some ⟨b5, 0, none⟩) 1 1) (cs := #[.string kc, .int .i64 kk, .int .i64 kw, .int .i64 kv]) (te := 35) (by rw [← hb5]; go_simp) ?_
        intro w116 hX hN5
        rw [hb5] at hN5
        have hB_s13_w116 := below_step hB_s13_w115 hX
        have hB_w114_w116 := below_step hB_w114_w115 hX
        have hB_w115_w116 := below_step hB_w115_w115 hX
        have hB_w116_w116 := Below.refl w116.heap.size w116
        have hSsw116 := Cells.below hB_s13_w116 hSss13
        clear hX
        refine ⟨fun _ _ => hSsw116, ?_⟩
        try simp only [Act.put, List.setIfInBounds_toArray, List.set_cons_zero, List.set_cons_succ, List.getElem_toArray, List.getElem_cons_succ, List.getElem_cons_zero]
        refine wpAnyT_one (i := 6) (by kernel_rfl) rfl (by rfl) ?_
        have hq5 := ((hB_w116_w116).block _ (blk_lt hN5)).trans hN5
        refine wp_app (.tmp 54) (.tmp 56) 22 rfl (e := rateT) (te := 35) info_rate Try.underlying22 rfl (by decide) (base := s13.heap.size) (S := fun _ => False) (v := .slice ca3 cl3 cc3) (xs := xs) (by kernel_rfl) (HO3.out.below hB_w115_w116) (hB_s13_w116).size (sv := .slice (some ⟨b5, 0, none⟩) 1 1) (by kernel_rfl) (ys := [(kc, kk, kw, kv, ())]) (Src.of_cells (news := [.string kc, .int .i64 kk, .int .i64 kw, .int .i64 kv]) (fun j u hu => by rw [Nat.zero_add, blk_cell hq5]; simpa using hu)) (RdL.one (e := rateT) (rate_rd HKOK.out HKV.out)) (by have := HL.out; have := HLM.out; simp only [List.length_cons, List.length_nil]; omega) (by have := HL.out; have := HLM.out; simp only [List.length_cons, List.length_nil]; omega) ?_
        intro ca6 cl6 cc6 w117 O6 g6 ob6
        have hX : Below s13.heap.size s13 w117 := (hB_s13_w116).grown g6 (hB_s13_w116).size (fun c hc => (HO3.out.own c hc).1)
        have HO6 := Lib.hid O6
        clear O6 g6 ob6
        have hB_s13_w117 := hX
        have hB_w117_w117 := Below.refl w117.heap.size w117
        have hSsw117 := Cells.below hB_s13_w117 hSss13
        clear hX
        refine ⟨fun _ _ => hSsw117, ?_⟩
        try simp only [Act.put, List.setIfInBounds_toArray, List.set_cons_zero, List.set_cons_succ, List.getElem_toArray, List.getElem_cons_succ, List.getElem_cons_zero]
        refine wpAnyT_one (i := 7) (by kernel_rfl) rfl (by rfl) ?_
        refine wp_enter (f := 12) (args := #[.string g, .slice ca6 cl6 cc6]) (by go_simp) (few16_sum _ g ca6 cl6 cc6 _ (rdOwn HO6.out)) ?_
        rw [HFB.out]
        rintro e w7 ⟨rfl, hw7⟩
        subst hw7
        refine ⟨_, rfl, fun _ h => h, ?_⟩
        try simp only [Act.put, List.setIfInBounds_toArray, List.set_cons_zero, List.set_cons_succ, List.getElem_toArray, List.getElem_cons_succ, List.getElem_cons_zero]
        refine wpAnyT_pure (i := 8) (v := ?_) rfl (by kernel_rfl) (by kernel_rfl) (by kernel_rfl) (fun _ _ _ h => h) (by rfl) ?_ ?_
        rotate_left
        · intro w; go_simp; try with_reducible rfl
        simp only [Act.put, List.setIfInBounds_toArray, List.set_cons_zero, List.set_cons_succ, List.getElem_toArray, List.getElem_cons_succ, List.getElem_cons_zero]
        refine wpAnyT_pure (i := 9) (v := ?_) rfl (by kernel_rfl) (by kernel_rfl) (by kernel_rfl) (fun _ _ _ h => h) (by rfl) ?_ ?_
        rotate_left
        · intro w; go_simp; try with_reducible rfl
        simp only [Act.put, List.setIfInBounds_toArray, List.set_cons_zero, List.set_cons_succ, List.getElem_toArray, List.getElem_cons_succ, List.getElem_cons_zero]
        refine wpAnyT_pure (i := 10) (v := ?_) rfl (by kernel_rfl) (by kernel_rfl) (by kernel_rfl) (fun _ _ _ h => h) (by rfl) ?_ ?_
        rotate_left
        · intro w; go_simp; try with_reducible rfl
        simp only [Act.put, List.setIfInBounds_toArray, List.set_cons_zero, List.set_cons_succ, List.getElem_toArray, List.getElem_cons_succ, List.getElem_cons_zero]
        refine wpAnyT_pure (i := 11) (v := ?_) rfl (by kernel_rfl) (by kernel_rfl) (by kernel_rfl) (fun _ _ _ h => h) (by rfl) ?_ ?_
        rotate_left
        · intro w; go_simp; try with_reducible rfl
        simp only [Act.put, List.setIfInBounds_toArray, List.set_cons_zero, List.set_cons_succ, List.getElem_toArray, List.getElem_cons_succ, List.getElem_cons_zero]
        refine wpAnyT_one (i := 12) (by kernel_rfl) rfl (by rfl) ?_
        refine wp_enter (f := 30) (args := #[.string g, .slice a len cap]) (by go_simp) (HRV.out _ (below_step hB1 (hB_0_s13.trans ((hB_s13_w117).mono hB_0_s13.size)))) ?_
        rintro e w118 ⟨rfl, hX⟩
        have hB_s13_w118 := below_step hB_s13_w117 hX
        have hB_w117_w118 := below_step hB_w117_w117 hX
        have hB_w118_w118 := Below.refl w118.heap.size w118
        have hSsw118 := Cells.below hB_s13_w118 hSss13
        clear hX
        refine ⟨_, rfl, fun _ _ => hSsw118, ?_⟩
        try simp only [Act.put, List.setIfInBounds_toArray, List.set_cons_zero, List.set_cons_succ, List.getElem_toArray, List.getElem_cons_succ, List.getElem_cons_zero]
        refine wpAnyT_pure (i := 13) (v := ?_) rfl (by kernel_rfl) (by kernel_rfl) (by kernel_rfl) (fun _ _ _ h => h) (by rfl) ?_ ?_
        rotate_left
        · intro w; go_simp; try with_reducible rfl
        simp only [Act.put, List.setIfInBounds_toArray, List.set_cons_zero, List.set_cons_succ, List.getElem_toArray, List.getElem_cons_succ, List.getElem_cons_zero]
        refine wpAnyT_pure (i := 14) (v := ?_) rfl (by kernel_rfl) (by kernel_rfl) (by kernel_rfl) (fun _ _ _ h => h) (by rfl) ?_ ?_
        rotate_left
        · intro w; go_simp; try with_reducible rfl
        simp only [Act.put, List.setIfInBounds_toArray, List.set_cons_zero, List.set_cons_succ, List.getElem_toArray, List.getElem_cons_succ, List.getElem_cons_zero]
        refine wpAnyT_done (by kernel_rfl) ?_ _
        refine cut_leaf ?_ ?_
        focus kernel_rfl
        exact ⟨⟨_, _, _, _, _, _, _, _, _, _, _, _, _, _, rfl⟩, hB_0_s13.trans ((hB_s13_w118).mono hB_0_s13.size)⟩
      · skip
        obtain ⟨b5, hb5⟩ : ∃ b, w114.heap.size = b := ⟨_, rfl⟩
        refine wp_newrow (v := .slice (some ⟨b5, 0, none⟩) 1 1) (cs := #[.string kc, .int .i64 kk, .int .i64 kw, .int .i64 kv]) (te := 35) (by rw [← hb5]; go_simp) ?_
        intro w119 hX hN5
        rw [hb5] at hN5
        have hB_s13_w119 := below_step hB_s13_w114 hX
        have hB_w114_w119 := below_step hB_w114_w114 hX
        have hB_w119_w119 := Below.refl w119.heap.size w119
        have hSsw119 := Cells.below hB_s13_w119 hSss13
        clear hX
        refine ⟨fun _ _ => hSsw119, ?_⟩
        try simp only [Act.put, List.setIfInBounds_toArray, List.set_cons_zero, List.set_cons_succ, List.getElem_toArray, List.getElem_cons_succ, List.getElem_cons_zero]
        refine wpAnyT_one (i := 3) (by kernel_rfl) rfl (by rfl) ?_
        have hq1 := ((hB_w114_w119).block _ (blk_lt hN1)).trans hN1
        have hb0 : Below w.heap.size w w119 := below_step hB1 (hB_0_s13.trans ((hB_s13_w119).mono hB_0_s13.size))
        refine wp_appLit (.tmp 52) (.tmp 53) 22 rfl (e := rateT) (te := 35) info_rate Try.underlying22 rfl (by decide) (S := fun b => b < w.heap.size) (base := s13.heap.size) (b := b1) (by kernel_rfl) hq1 hge1 (sv := .slice a len cap) (by kernel_rfl) (ys := xs) (R1.out.below hb0 (fun _ h => h)) (fun x hx => ⟨by have := hb0.size; have h1 := hB1.size; have h2 := (hB_0_s13).size; omega, Nat.lt_of_lt_of_le hx hb0.size⟩) (by have := HL.out; have := HLM.out; omega) (by have := HL.out; have := HLM.out; omega) ?_
        intro ca3 cl3 cc3 w120 O3 hX
        have HO3 := Lib.hid (Owns.flat (e := rateT) rfl O3)
        clear O3 hb0
        have hB_s13_w120 := below_step hB_s13_w119 hX
        have hB_w114_w120 := below_step hB_w114_w119 hX
        have hB_w119_w120 := below_step hB_w119_w119 hX
        have hB_w120_w120 := Below.refl w120.heap.size w120
        have hSsw120 := Cells.below hB_s13_w120 hSss13
        clear hX
        refine ⟨fun _ _ => hSsw120, ?_⟩
        try simp only [Act.put, List.setIfInBounds_toArray, List.set_cons_zero, List.set_cons_succ, List.getElem_toArray, List.getElem_cons_succ, List.getElem_cons_zero]
        refine wpAnyT_one (i := 6) (by kernel_rfl) rfl (by rfl) ?_
        have hq5 := ((hB_w119_w120).block _ (blk_lt hN5)).trans hN5
        refine wp_app (.tmp 54) (.tmp 56) 22 rfl (e := rateT) (te := 35) info_rate Try.underlying22 rfl (by decide) (base := s13.heap.size) (S := fun _ => False) (v := .slice ca3 cl3 cc3) (xs := xs) (by kernel_rfl) (HO3.out.below hB_w120_w120) (hB_s13_w120).size (sv := .slice (some ⟨b5, 0, none⟩) 1 1) (by kernel_rfl) (ys := [(kc, kk, kw, kv, ())]) (Src.of_cells (news := [.string kc, .int .i64 kk, .int .i64 kw, .int .i64 kv]) (fun j u hu => by rw [Nat.zero_add, blk_cell hq5]; simpa using hu)) (RdL.one (e := rateT) (rate_rd HKOK.out HKV.out)) (by have := HL.out; have := HLM.out; simp only [List.length_cons, List.length_nil]; omega) (by have := HL.out; have := HLM.out; simp only [List.length_cons, List.length_nil]; omega) ?_
        intro ca6 cl6 cc6 w121 O6 g6 ob6
        have hX : Below s13.heap.size s13 w121 := (hB_s13_w120).grown g6 (hB_s13_w120).size (fun c hc => (HO3.out.own c hc).1)
        have HO6 := Lib.hid O6
        clear O6 g6 ob6
        have hB_s13_w121 := hX
        have hB_w121_w121 := Below.refl w121.heap.size w121
        have hSsw121 := Cells.below hB_s13_w121 hSss13
        clear hX
        refine ⟨fun _ _ => hSsw121, ?_⟩
        try simp only [Act.put, List.setIfInBounds_toArray, List.set_cons_zero, List.set_cons_succ, List.getElem_toArray, List.getElem_cons_succ, List.getElem_cons_zero]
        refine wpAnyT_one (i := 7) (by kernel_rfl) rfl (by rfl) ?_
        refine wp_enter (f := 12) (args := #[.string g, .slice ca6 cl6 cc6]) (by go_simp) (few16_sum _ g ca6 cl6 cc6 _ (rdOwn HO6.out)) ?_
        rw [HFB.out]
        rintro e w7 ⟨rfl, hw7⟩
        subst hw7
        refine ⟨_, rfl, fun _ h => h, ?_⟩
        try simp only [Act.put, List.setIfInBounds_toArray, List.set_cons_zero, List.set_cons_succ, List.getElem_toArray, List.getElem_cons_succ, List.getElem_cons_zero]
        refine wpAnyT_pure (i := 8) (v := ?_) rfl (by kernel_rfl) (by kernel_rfl) (by kernel_rfl) (fun _ _ _ h => h) (by rfl) ?_ ?_
        rotate_left
        · intro w; go_simp; try with_reducible rfl
        simp only [Act.put, List.setIfInBounds_toArray, List.set_cons_zero, List.set_cons_succ, List.getElem_toArray, List.getElem_cons_succ, List.getElem_cons_zero]
        refine wpAnyT_pure (i := 9) (v := ?_) rfl (by kernel_rfl) (by kernel_rfl) (by kernel_rfl) (fun _ _ _ h => h) (by rfl) ?_ ?_
        rotate_left
        · intro w; go_simp; try with_reducible rfl
        simp only [Act.put, List.setIfInBounds_toArray, List.set_cons_zero, List.set_cons_succ, List.getElem_toArray, List.getElem_cons_succ, List.getElem_cons_zero]
        refine wpAnyT_pure (i := 10) (v := ?_) rfl (by kernel_rfl) (by kernel_rfl) (by kernel_rfl) (fun _ _ _ h => h) (by rfl) ?_ ?_
        rotate_left
        · intro w; go_simp; try with_reducible rfl
        simp only [Act.put, List.setIfInBounds_toArray, List.set_cons_zero, List.set_cons_succ, List.getElem_toArray, List.getElem_cons_succ, List.getElem_cons_zero]
        refine wpAnyT_pure (i := 11) (v := ?_) rfl (by kernel_rfl) (by kernel_rfl) (by kernel_rfl) (fun _ _ _ h => h) (by rfl) ?_ ?_
        rotate_left
        · intro w; go_simp; try with_reducible rfl
        simp only [Act.put, List.setIfInBounds_toArray, List.set_cons_zero, List.set_cons_succ, List.getElem_toArray, List.getElem_cons_succ, List.getElem_cons_zero]
        refine wpAnyT_one (i := 12) (by kernel_rfl) rfl (by rfl) ?_
        refine wp_enter (f := 30) (args := #[.string g, .slice a len cap]) (by go_simp) (HRV.out _ (below_step hB1 (hB_0_s13.trans ((hB_s13_w121).mono hB_0_s13.size)))) ?_
        rintro e w122 ⟨rfl, hX⟩
        have hB_s13_w122 := below_step hB_s13_w121 hX
        have hB_w121_w122 := below_step hB_w121_w121 hX
        have hB_w122_w122 := Below.refl w122.heap.size w122
        have hSsw122 := Cells.below hB_s13_w122 hSss13
        clear hX
        refine ⟨_, rfl, fun _ _ => hSsw122, ?_⟩
        try simp only [Act.put, List.setIfInBounds_toArray, List.set_cons_zero, List.set_cons_succ, List.getElem_toArray, List.getElem_cons_succ, List.getElem_cons_zero]
        refine wpAnyT_pure (i := 13) (v := ?_) rfl (by kernel_rfl) (by kernel_rfl) (by kernel_rfl) (fun _ _ _ h => h) (by rfl) ?_ ?_
        rotate_left
        · intro w; go_simp; try with_reducible rfl
        simp only [Act.put, List.setIfInBounds_toArray, List.set_cons_zero, List.set_cons_succ, List.getElem_toArray, List.getElem_cons_succ, List.getElem_cons_zero]
        refine wpAnyT_pure (i := 14) (v := ?_) rfl (by kernel_rfl) (by kernel_rfl) (by kernel_rfl) (fun _ _ _ h => h) (by rfl) ?_ ?_
        rotate_left
        · intro w; go_simp; try with_reducible rfl
        simp only [Act.put, List.setIfInBounds_toArray, List.set_cons_zero, List.set_cons_succ, List.getElem_toArray, List.getElem_cons_succ, List.getElem_cons_zero]
        refine wpAnyT_done (by kernel_rfl) ?_ _
        refine cut_leaf ?_ ?_
        focus kernel_rfl
        exact ⟨⟨_, _, _, _, _, _, _, _, _, _, _, _, _, _, rfl⟩, hB_0_s13.trans ((hB_s13_w122).mono hB_0_s13.size)⟩
    · skip
      obtain ⟨b5, hb5⟩ : ∃ b, s13.heap.size = b := ⟨_, rfl⟩
      refine wp_newrow (v := .slice (some ⟨b5, 0, none⟩) 1 1) (cs := #[.string kc, .int .i64 kk, .int .i64 kw, .int .i64 kv]) (te := 35) (by rw [← hb5]; go_simp) ?_
      intro w123 hX hN5
      rw [hb5] at hN5
      have hB_s13_w123 := below_step hB_s13_s13 hX
      have hB_w123_w123 := Below.refl w123.heap.size w123
      have hSsw123 := Cells.below hB_s13_w123 hSss13
      clear hX
      refine ⟨fun _ _ => hSsw123, ?_⟩
      try simp only [Act.put, List.setIfInBounds_toArray, List.set_cons_zero, List.set_cons_succ, List.getElem_toArray, List.getElem_cons_succ, List.getElem_cons_zero]
      refine wpAnyT_one (i := 1) (by kernel_rfl) rfl (by rfl) ?_
      obtain ⟨b1, hb1⟩ : ∃ b, w123.heap.size = b := ⟨_, rfl⟩
      have hge1 : s13.heap.size ≤ b1 := hb1 ▸ (hB_s13_w123).size
      refine wp_newrow (v := .slice (some ⟨b1, 0, none⟩) 0 0) (cs := #[]) (te := 35) (by rw [← hb1]; go_simp) ?_
      intro w124 hX hN1
      rw [hb1] at hN1
      have hB_s13_w124 := below_step hB_s13_w123 hX
      have hB_w123_w124 := below_step hB_w123_w123 hX
      have hB_w124_w124 := Below.refl w124.heap.size w124
      have hSsw124 := Cells.below hB_s13_w124 hSss13
      clear hX
      refine ⟨fun _ _ => hSsw124, ?_⟩
      try simp only [Act.put, List.setIfInBounds_toArray, List.set_cons_zero, List.set_cons_succ, List.getElem_toArray, List.getElem_cons_succ, List.getElem_cons_zero]
      refine wpAnyT_one (i := 3) (by kernel_rfl) rfl (by rfl) ?_
      have hq1 := ((hB_w124_w124).block _ (blk_lt hN1)).trans hN1
      have hb0 : Below w.heap.size w w124 := below_step hB1 (hB_0_s13.trans ((hB_s13_w124).mono hB_0_s13.size))
      refine wp_appLit (.tmp 52) (.tmp 53) 22 rfl (e := rateT) (te := 35) info_rate Try.underlying22 rfl (by decide) (S := fun b => b < w.heap.size) (base := s13.heap.size) (b := b1) (by kernel_rfl) hq1 hge1 (sv := .slice a len cap) (by kernel_rfl) (ys := xs) (R1.out.below hb0 (fun _ h => h)) (fun x hx => ⟨by have := hb0.size; have h1 := hB1.size; have h2 := (hB_0_s13).size; omega, Nat.lt_of_lt_of_le hx hb0.size⟩) (by have := HL.out; have := HLM.out; omega) (by have := HL.out; have := HLM.out; omega) ?_
      intro ca3 cl3 cc3 w125 O3 hX
      have HO3 := Lib.hid (Owns.flat (e := rateT) rfl O3)
      clear O3 hb0
      have hB_s13_w125 := below_step hB_s13_w124 hX
      have hB_w123_w125 := below_step hB_w123_w124 hX
      have hB_w124_w125 := below_step hB_w124_w124 hX
      have hB_w125_w125 := Below.refl w125.heap.size w125
      have hSsw125 := Cells.below hB_s13_w125 hSss13
      clear hX
      refine ⟨fun _ _ => hSsw125, ?_⟩
      try simp only [Act.put, List.setIfInBounds_toArray, List.set_cons_zero, List.set_cons_succ, List.getElem_toArray, List.getElem_cons_succ, List.getElem_cons_zero]
      refine wpAnyT_one (i := 6) (by kernel_rfl) rfl (by rfl) ?_
      have hq5 := ((hB_w123_w125).block _ (blk_lt hN5)).trans hN5
      refine wp_app (.tmp 54) (.tmp 56) 22 rfl (e := rateT) (te := 35) info_rate Try.underlying22 rfl (by decide) (base := s13.heap.size) (S := fun _ => False) (v := .slice ca3 cl3 cc3) (xs := xs) (by kernel_rfl) (HO3.out.below hB_w125_w125) (hB_s13_w125).size (sv := .slice (some ⟨b5, 0, none⟩) 1 1) (by kernel_rfl) (ys := [(kc, kk, kw, kv, ())]) (Src.of_cells (news := [.string kc, .int .i64 kk, .int .i64 kw, .int .i64 kv]) (fun j u hu => by rw [Nat.zero_add, blk_cell hq5]; simpa using hu)) (RdL.one (e := rateT) (rate_rd HKOK.out HKV.out)) (by have := HL.out; have := HLM.out; simp only [List.length_cons, List.length_nil]; omega) (by have := HL.out; have := HLM.out; simp only [List.length_cons, List.length_nil]; omega) ?_
      intro ca6 cl6 cc6 w126 O6 g6 ob6
      have hX : Below s13.heap.size s13 w126 := (hB_s13_w125).grown g6 (hB_s13_w125).size (fun c hc => (HO3.out.own c hc).1)
      have HO6 := Lib.hid O6
      clear O6 g6 ob6
      have hB_s13_w126 := hX
      have hB_w126_w126 := Below.refl w126.heap.size w126
      have hSsw126 := Cells.below hB_s13_w126 hSss13
      clear hX
      refine ⟨fun _ _ => hSsw126, ?_⟩
      try simp only [Act.put, List.setIfInBounds_toArray, List.set_cons_zero, List.set_cons_succ, List.getElem_toArray, List.getElem_cons_succ, List.getElem_cons_zero]
      refine wpAnyT_one (i := 7) (by kernel_rfl) rfl (by rfl) ?_
      refine wp_enter (f := 12) (args := #[.string g, .slice ca6 cl6 cc6]) (by go_simp) (few16_sum _ g ca6 cl6 cc6 _ (rdOwn HO6.out)) ?_
      rw [HFB.out]
      rintro e w7 ⟨rfl, hw7⟩
      subst hw7
      refine ⟨_, rfl, fun _ h => h, ?_⟩
      try simp only [Act.put, List.setIfInBounds_toArray, List.set_cons_zero, List.set_cons_succ, List.getElem_toArray, List.getElem_cons_succ, List.getElem_cons_zero]
      refine wpAnyT_pure (i := 8) (v := ?_) rfl (by kernel_rfl) (by kernel_rfl) (by kernel_rfl) (fun _ _ _ h => h) (by rfl) ?_ ?_
      rotate_left
      · intro w; go_simp; try with_reducible rfl
      simp only [Act.put, List.setIfInBounds_toArray, List.set_cons_zero, List.set_cons_succ, List.getElem_toArray, List.getElem_cons_succ, List.getElem_cons_zero]
      refine wpAnyT_pure (i := 9) (v := ?_) rfl (by kernel_rfl) (by kernel_rfl) (by kernel_rfl) (fun _ _ _ h => h) (by rfl) ?_ ?_
      rotate_left
      · intro w; go_simp; try with_reducible rfl
      simp only [Act.put, List.setIfInBounds_toArray, List.set_cons_zero, List.set_cons_succ, List.getElem_toArray, List.getElem_cons_succ, List.getElem_cons_zero]
      refine wpAnyT_pure (i := 10) (v := ?_) rfl (by kernel_rfl) (by kernel_rfl) (by kernel_rfl) (fun _ _ _ h => h) (by rfl) ?_ ?_
      rotate_left
      · intro w; go_simp; try with_reducible rfl
      simp only [Act.put, List.setIfInBounds_toArray, List.set_cons_zero, List.set_cons_succ, List.getElem_toArray, List.getElem_cons_succ, List.getElem_cons_zero]
      refine wpAnyT_pure (i := 11) (v := ?_) rfl (by kernel_rfl) (by kernel_rfl) (by kernel_rfl) (fun _ _ _ h => h) (by rfl) ?_ ?_
      rotate_left
      · intro w; go_simp; try with_reducible rfl
      simp only [Act.put, List.setIfInBounds_toArray, List.set_cons_zero, List.set_cons_succ, List.getElem_toArray, List.getElem_cons_succ, List.getElem_cons_zero]
      refine wpAnyT_one (i := 12) (by kernel_rfl) rfl (by rfl) ?_
      refine wp_enter (f := 30) (args := #[.string g, .slice a len cap]) (by go_simp) (HRV.out _ (below_step hB1 (hB_0_s13.trans ((hB_s13_w126).mono hB_0_s13.size)))) ?_
      rintro e w127 ⟨rfl, hX⟩
      have hB_s13_w127 := below_step hB_s13_w126 hX
      have hB_w126_w127 := below_step hB_w126_w126 hX
      have hB_w127_w127 := Below.refl w127.heap.size w127
      have hSsw127 := Cells.below hB_s13_w127 hSss13
      clear hX
      refine ⟨_, rfl, fun _ _ => hSsw127, ?_⟩
      try simp only [Act.put, List.setIfInBounds_toArray, List.set_cons_zero, List.set_cons_succ, List.getElem_toArray, List.getElem_cons_succ, List.getElem_cons_zero]
      refine wpAnyT_pure (i := 13) (v := ?_) rfl (by kernel_rfl) (by kernel_rfl) (by kernel_rfl) (fun _ _ _ h => h) (by rfl) ?_ ?_
      rotate_left
      · intro w; go_simp; try with_reducible rfl
      simp only [Act.put, List.setIfInBounds_toArray, List.set_cons_zero, List.set_cons_succ, List.getElem_toArray, List.getElem_cons_succ, List.getElem_cons_zero]
      refine wpAnyT_pure (i := 14) (v := ?_) rfl (by kernel_rfl) (by kernel_rfl) (by kernel_rfl) (fun _ _ _ h => h) (by rfl) ?_ ?_
      rotate_left
      · intro w; go_simp; try with_reducible rfl
      simp only [Act.put, List.setIfInBounds_toArray, List.set_cons_zero, List.set_cons_succ, List.getElem_toArray, List.getElem_cons_succ, List.getElem_cons_zero]
      refine wpAnyT_done (by kernel_rfl) ?_ _
      refine cut_leaf ?_ ?_
      focus kernel_rfl
      exact ⟨⟨_, _, _, _, _, _, _, _, _, _, _, _, _, _, rfl⟩, hB_0_s13.trans ((hB_s13_w127).mono hB_0_s13.size)⟩
  rintro vs w2 ⟨⟨v51, v52, v53, v54, v55, v56, v57, v58, v59, v60, v61, v62, v63, v64, rfl⟩, hB12⟩
  have hC2 := Cells.below hB12 hC1
  have hB2 := below_step hB1 hB12
  simp only [puts, Act.put, List.setIfInBounds_toArray, List.set_cons_zero, List.set_cons_succ]
  cases vb
  · go_wp2
    go_ret
    exact ⟨rfl, hB2⟩
  obtain ⟨T, hT⟩ : ∃ T, tb0.setAll g xs = T := ⟨_, rfl⟩
  obtain ⟨zs, hzs⟩ := TbOk.setAll (xs := xs) g TbOk.zero (keys_ok R1.out)
  have htm := Tb.setAll_m g xs tb0
  have hth := Tb.setAll_hs g xs tb0
  have htz : tb0.m = 0 := rfl
  have hhz : tb0.hs.length = 0 := rfl
  rw [hT] at htm hth hzs
  have htl : T.m ≤ 200 ∧ T.hs.length ≤ 200 := by have := HL.out; omega
  have HT := Lib.hid hT
  have HTL := Lib.hid htl
  have HLI := Lib.hid (fun F W p (h : TabT F W p g T) => List_tb F W p g T zs hzs h (by omega))
  have HHI := Lib.hid (fun F W p (h : TabT F W p g T) => History_sum F W p g T h (by omega))
  have HZL := Lib.hid (show (rowsOf T.f zs).length ≤ 200 by rw [rowsOf, List.length_map, ← hzs.2]; omega)
  have HSL := Lib.hid (fun ys : List rateT.den => show sameL ys ys = true from decide_eq_true rfl)
  have hset := fun F W p (h : TabT F W p g T) => Set_any F W p g T h ⟨kc, kk, kw, kv⟩ HKOK.out HKV.out (by omega)
  unfold Rt.v rateV at hset
  generalize T.set g ⟨kc, kk, kw, kv⟩ = er at hset
  obtain ⟨er, T'⟩ := er
  simp only at hset
  have HSET := Lib.hid hset
  clear hT hzs htm hth htz hhz htl hset
  go_wp2_with (first
    | (at_builtin; go_must (refine wpList_copy _ rfl _ _ 22 rfl (e := rateT) info_rate Try.underlying22 rfl (by decide) rfl (S := fun b => b < w.heap.size) (sv := .slice a len cap) (xs := xs) rfl (R1.out.below hB2 (fun _ h => h)) (fun b hb => Nat.lt_of_lt_of_le hb hB2.size) HL.out (by omega) (by omega) ?_; intro g10 cv10 w3 O10 hg10 hB23 h5 h6; have HO10 := Lib.hid (Owns.flat (e := rateT) rfl O10); have hB3 := hB23; clear O10 h5 h6))
    | (go_at_call 31; refine (Of_ok _ g (some ⟨g10, 0, none⟩) len cv10 xs (rdOwn HO10.out) (fun _ h => h) HGS.out HVB.out).mono ?_; rintro e w4 ⟨p, F, rfl, hT4, hF4, hB34⟩; rw [HT.out] at hT4; have HT4 := Lib.hid hT4; have HF4 := Lib.hid hF4; have HFB := Lib.hid (show ∀ b, F b → b < w4.heap.size from HT4.out.1); have HO10a := Lib.hid (HO10.out.below hB34); have hB4 := below_step hB3 hB34; have hg10b : g10 < w3.heap.size := (HO10.out.own g10 rfl).2; have hs34 := hB34.size; clear hT4 hF4 hB34)
    | (go_at_call 16; refine (HSET.out _ _ _ HK11.out.2.2.2.2).mono ?_; rintro e w12 ⟨rfl, F12, -, -, hG12⟩; have HT12 := Lib.hid (show TabT F w12 p g T from TabIn.gr HK11.out.2.2.2.1 hG12 (fun b hb e => by have := HFC.out b e; have := HFB.out b hb; omega)); have HO5s := Lib.hid (HK11.out.1.gr hG12 (fun _ h => h.elim) (fun c hc e => by have := HFC.out c e; have := HU5.out c hc; omega)); have HO6s := Lib.hid (HK11.out.2.1.gr hG12 (fun _ h => h.elim) (fun c hc e => by have := HFC.out c e; have := HU6.out c hc; omega)); have HOWs := Lib.hid (HK11.out.2.2.1.gr hG12 (fun _ h => h.elim) (fun c hc e => by have := HFC.out c e; have hce : g10 = c := (by simpa [Value.ownBlock] using hc); omega)); have hB12x := hB11.trans (hG12.below (n := w2.heap.size) (fun b h => by have := HFC.out b h; have := hB3.size; omega) hB11.size); have hs1112 := hG12.size; clear hG12 k0 k1 k2 k3)
    | (go_at_call 22; first
      | (refine (HLI.out _ _ _ HT12.out).mono ?_; rintro e w13 ⟨v13, rfl, hO13, hB1213⟩; obtain ⟨a13, l13, c13, rfl, hl13, -, -⟩ := hO13.slice; have HO13 := Lib.hid hO13; have HL13 := Lib.hid (show l13 ≤ 200 by have := HZL.out; omega); have HT13 := Lib.hid (show TabT F w13 p g T from TabIn.below HT12.out hB1213); have HO5t := Lib.hid (HO5s.out.below hB1213); have HO6t := Lib.hid (HO6s.out.below hB1213); have HOWt := Lib.hid (HOWs.out.below hB1213); have hB13 := below_step hB12x hB1213; have hs1213 := hB1213.size; clear hO13 hB1213 HT12 hl13)
      | (refine (HLI.out _ _ _ HC7.out).mono ?_; rintro e w8 ⟨v8, rfl, hO8, hB78⟩; obtain ⟨a8, l8, c8, rfl, -⟩ := hO8.slice; have HO8 := Lib.hid hO8; have hB8 := below_step hB7 hB78; have HK8 := Lib.hid (And.intro (HO5.out.below hB78) (And.intro (HO6.out.below hB78) (And.intro (HO10c.out.below hB78) (And.intro (show TabT F w8 p g T from TabIn.below HT7.out hB78) (show TabT Fc w8 pc g T from TabIn.below HC7.out hB78))))); have hs78 := hB78.size; clear hO8 HC7)
      | (refine (HLI.out _ _ _ HT4.out).mono ?_; rintro e w5 ⟨v5, rfl, hO5, hB45⟩; obtain ⟨a5, l5, c5, rfl, hl5, -, -⟩ := hO5.slice; have HO5a := Lib.hid hO5; have HU5 := Lib.hid hO5.own; have HT5 := Lib.hid (TabIn.below HT4.out hB45); have HO10b := Lib.hid (HO10a.out.below hB45); have hB5 := below_step hB4 hB45; have hs45 := hB45.size; clear hO5 hB45 HT4 hl5))
    | (go_at_call 23; first
      | (refine (HHI.out _ _ _ HT13.out).mono ?_; rintro e w14 ⟨v14, rfl, hB1314, hO14⟩; obtain ⟨a14, l14, c14, rfl, hl14, -, -⟩ := hO14.slice; have HO14 := Lib.hid hO14; have HL14 := Lib.hid (show l14 ≤ 200 by have := HTL.out; omega); have HT14 := Lib.hid (show TabT F w14 p g T from TabIn.below HT13.out hB1314); have HO5u := Lib.hid (HO5t.out.below hB1314); have HO6u := Lib.hid (HO6t.out.below hB1314); have HOWu := Lib.hid (HOWt.out.below hB1314); have HO13u := Lib.hid (HO13.out.below hB1314); have hB14 := below_step hB13 hB1314; have hs1314 := hB1314.size; clear hO14 hB1314 HT13 hl14)
      | (refine (HHI.out _ _ _ HC9.out).mono ?_; rintro e w10 ⟨v10, rfl, hB910, hO10x⟩; obtain ⟨a10, l10, c10, rfl, -⟩ := hO10x.slice; have HO10x := Lib.hid hO10x; have hB10 := below_step hB9 hB910; have HK10 := Lib.hid (And.intro (HK9.out.1.below hB910) (And.intro (HK9.out.2.1.below hB910) (And.intro (HK9.out.2.2.1.below hB910) (And.intro (show TabT F w10 p g T from TabIn.below HK9.out.2.2.2.1 hB910) (show TabT Fc w10 pc g T from TabIn.below HC9.out hB910))))); have hs910 := hB910.size; clear hO10x HC9)
      | (refine (HHI.out _ _ _ HT5.out).mono ?_; rintro e w6 ⟨v6, rfl, hB56, hO6x⟩; obtain ⟨a6, l6, c6, rfl, -⟩ := hO6x.slice; have HO6 := Lib.hid hO6x; have HU6 := Lib.hid hO6x.own; have HO5b := Lib.hid (HO5a.out.below hB56); have HT6 := Lib.hid (TabIn.below HT5.out hB56); have HO10b' := Lib.hid (HO10b.out.below hB56); have hB6 := below_step hB5 hB56; have hs56 := hB56.size; clear hO6x hB56 HT5))
    | (go_at_call 32; refine (Clone_sum F _ p g T HT6.out (by have := HTL.out; omega)).mono ?_; rintro e w7 ⟨pc, Fc, rfl, hTc, hFc, hB67⟩; have HC7 := Lib.hid hTc; have HFC := Lib.hid hFc; have HT7 := Lib.hid (TabIn.below HT6.out hB67); have HO5 := Lib.hid (HO5b.out.below hB67); replace HO6 := Lib.hid (HO6.out.below hB67); have HO10c := Lib.hid (HO10b'.out.below hB67); have HT6' := HT6; have hB7 := below_step hB6 hB67; have hs67 := hB67.size; clear hTc hFc hB67)
    | (go_at_call 21; first
      | (refine (Same16_sum _ a10 a6 l10 c10 l6 c6 _ _ (rdOwn HO10x.out) (rdOwn HK10.out.2.1) (fun _ h => h) (fun _ h => h)).mono ?_; rw [HSL.out]; rintro e w11 ⟨rfl, hB1011⟩; have hB11 := below_step hB10 hB1011; have HK11 := Lib.hid (And.intro (HK10.out.1.below hB1011) (And.intro (HK10.out.2.1.below hB1011) (And.intro (HK10.out.2.2.1.below hB1011) (And.intro (show TabT F w11 p g T from TabIn.below HK10.out.2.2.2.1 hB1011) (show TabT Fc w11 pc g T from TabIn.below HK10.out.2.2.2.2 hB1011))))); have hs1011 := hB1011.size; obtain ⟨k0, k1, k2, k3, -⟩ := Cells.below hB11 hC2)
      | (refine (Same16_sum _ a8 a5 l8 c8 l5 c5 _ _ (rdOwn HO8.out) (rdOwn HK8.out.1) (fun _ h => h) (fun _ h => h)).mono ?_; rw [HSL.out]; rintro e w9 ⟨rfl, hB89⟩; have hB9 := below_step hB8 hB89; have HK9 := Lib.hid (And.intro (HK8.out.1.below hB89) (And.intro (HK8.out.2.1.below hB89) (And.intro (HK8.out.2.2.1.below hB89) (show TabT F w9 p g T ∧ True from ⟨TabIn.below HK8.out.2.2.2.1 hB89, trivial⟩)))); have HC9 := Lib.hid (show TabT Fc w9 pc g T from TabIn.below HK8.out.2.2.2.2 hB89); have hs89 := hB89.size)))
  obtain ⟨G, hG⟩ : ∃ G : Nat → Prop, G = fun b => (Value.slice (some ⟨g10, 0, none⟩) len cv10).ownBlock = some b ∨ (Value.slice a13 l13 c13).ownBlock = some b ∨ (Value.slice a14 l14 c14).ownBlock = some b := ⟨_, rfl⟩
  have hGb : ∀ b, G b → b < w14.heap.size ∧ (b = g10 ∨ w12.heap.size ≤ b) := fun b hb => by
    rw [hG] at hb
    rcases hb with hb | hb | hb
    · have hce : g10 = b := (by simpa [Value.ownBlock] using hb)
      omega
    · have := (HO13u.out.own b hb); omega
    · have := (HO14.out.own b hb); omega
  have hw1 : Wr G w14 (some ⟨g10, 0, none⟩) len := Wr.of HOWu.out (fun b hb => by rw [hG]; exact .inl hb)
  have hw2 : Wr G w14 a13 l13 := Wr.of HO13u.out (fun b hb => by rw [hG]; exact .inr (.inl hb))
  have hw3 : Wr G w14 a14 l14 := Wr.of HO14.out (fun b hb => by rw [hG]; exact .inr (.inr hb))
  clear hG
  have hBa : Below w14.heap.size w14 (w14.alloc (.cells #[.slice (some ⟨g10, 0, none⟩) len cv10, .slice a13 l13 c13, .slice a14 l14 c14] 22)) := (Below.refl _ w14).alloc (Nat.le_refl _) _
  have hba := heap_alloc_new w14 (.cells #[.slice (some ⟨g10, 0, none⟩) len cv10, .slice a13 l13 c13, .slice a14 l14 c14] 22)
  replace hw1 := hw1.gr (Gr.of_below (F := fun _ => False) hBa) (fun _ _ h => h)
  replace hw2 := hw2.gr (Gr.of_below (F := fun _ => False) hBa) (fun _ _ h => h)
  replace hw3 := hw3.gr (Gr.of_below (F := fun _ => False) hBa) (fun _ _ h => h)
  have hT15 : TabT F (w14.alloc (.cells #[.slice (some ⟨g10, 0, none⟩) len cv10, .slice a13 l13 c13, .slice a14 l14 c14] 22)) p g T := TabIn.below HT14.out hBa
  have hO5v := HO5u.out.below hBa
  have hO6v := HO6u.out.below hBa
  have hB15 := below_step hB14 hBa
  obtain ⟨bs, hbs⟩ : ∃ bs, w14.heap.size = bs := ⟨_, rfl⟩
  rw [hbs] at hba hGb
  rw [hbs]
  generalize w14.alloc (.cells #[.slice (some ⟨g10, 0, none⟩) len cv10, .slice a13 l13 c13, .slice a14 l14 c14] 22) = w15 at hBa hba hw1 hw2 hw3 hT15 hO5v hO6v hB15 ⊢
  have HBS := Lib.hid hba
  have HGB := Lib.hid hGb
  have HT15 := Lib.hid hT15
  have HO5v := Lib.hid hO5v
  have HO6v := Lib.hid hO6v
  have HW1 := Lib.hid hw1
  have HW2 := Lib.hid hw2
  have HW3 := Lib.hid hw3
  have HL34 := Lib.hid (And.intro HL13.out HL14.out)
  clear hba hGb hT15 hO5v hO6v hw1 hw2 hw3 hBa HOWu HO13u HO14
  go_loopw [113] (fun i wr => ∃ (k : Nat), k ≤ 3 ∧ i = .int .i64 k ∧ Gr G w15 wr ∧ Wr G wr (some ⟨g10, 0, none⟩) len ∧ Wr G wr a13 l13 ∧ Wr G wr a14 l14) (fun i _ => 3 - (intOf i).toNat)
  case atStart => exact ⟨0, by omega, rfl, Gr.refl _ _, HW1.out, HW2.out, HW3.out⟩
  case round =>
    obtain ⟨k, hk, rfl, hGr, hw1, hw2, hw3⟩ := hrel
    by_cases hlt : k < 3
    · obtain ⟨A, L, C, hcell, hWr, hL⟩ : ∃ A L C, wr.cell? ⟨bs, k, none⟩ = some (.slice A L C) ∧ Wr G wr A L ∧ L ≤ 200 := by
        have hb := blk_gr hGr HBS.out (fun h => by have := (HGB.out bs h).1; omega)
        have hk3 : k = 0 ∨ k = 1 ∨ k = 2 := by omega
        rcases hk3 with rfl | rfl | rfl
        · exact ⟨_, _, _, blk_cell hb 0, hw1, by omega⟩
        · exact ⟨_, _, _, blk_cell hb 1, hw2, HL34.out.1⟩
        · exact ⟨_, _, _, blk_cell hb 2, hw3, HL34.out.2⟩
      have HGR := Lib.hid hGr
      have HR1 := Lib.hid hw1
      have HR2 := Lib.hid hw2
      have HR3 := Lib.hid hw3
      have HWR := Lib.hid hWr
      have hkI : (k : Int) < 3 := by omega
      clear hGr hw1 hw2 hw3 hWr
      go_wp2_with fail
      go_loopw [119] (fun j wj => ∃ (m : Nat), m ≤ L ∧ j = .int .i64 m ∧ Gr G w15 wj ∧ Wr G wj (some ⟨g10, 0, none⟩) len ∧ Wr G wj a13 l13 ∧ Wr G wj a14 l14 ∧ Wr G wj A L) (fun j _ => L - (intOf j).toNat)
      case atStart => exact ⟨0, Nat.zero_le _, rfl, HGR.out, HR1.out, HR2.out, HR3.out, HWR.out⟩
      case round =>
        clear hcell
        obtain ⟨m, hm, rfl, hGr, hw1, hw2, hw3, hWr⟩ := hrel
        by_cases hml : m < L
        · obtain ⟨gg, cur, rfl, hgg, hcs, hGg⟩ : ∃ g cur, A = some ⟨g, 0, none⟩ ∧ wr.heap[g]? = some (.cells cur 35 (0, 0)) ∧ L * 4 ≤ cur.size ∧ G g := by
            rcases hWr with h | h
            · omega
            · exact h
          have hcc : wr.cell? ⟨gg, m * 4 + 3, none⟩ = some (cur[m * 4 + 3]'(by omega)) := (blk_cell hgg (m * 4 + 3)).trans (Array.getElem?_eq_getElem (by omega))
          have hff := blk_frozen hgg (m * 4 + 3)
          generalize cur[m * 4 + 3]'(by omega) = oldv at hcc
          have HGR2 := Lib.hid hGr
          have HQ1 := Lib.hid hw1
          have HQ2 := Lib.hid hw2
          have HQ3 := Lib.hid hw3
          have HQ4 := Lib.hid hWr
          have HGG := Lib.hid hGg
          have hmI : (m : Int) < (L : Int) := by omega
          clear hGr hw1 hw2 hw3 hWr hgg hcs hGg
          go_wp2_with fail
          go_roundw
          case rel => exact ⟨m + 1, by omega, by go_num, HGR2.out.setCell (p := ⟨gg, m * 4 + 3, none⟩) (.inl HGG.out) _, HQ1.out.set _ _ _, HQ2.out.set _ _ _, HQ3.out.set _ _ _, HQ4.out.set _ _ _⟩
          case measure => simp [intOf]; omega
        · obtain rfl : m = L := by omega
          have HGR2 := Lib.hid hGr
          have HQ1 := Lib.hid hw1
          have HQ2 := Lib.hid hw2
          have HQ3 := Lib.hid hw3
          clear hGr hw1 hw2 hw3 hWr
          go_wp2_with fail
          go_roundw
          case rel => exact ⟨k + 1, by omega, by go_num, HGR2.out, HQ1.out, HQ2.out, HQ3.out⟩
          case measure => simp [intOf]; omega
    · obtain rfl : k = 3 := by omega
      have HTr := Lib.hid (show TabT F wr p g T from TabIn.gr HT15.out hGr (fun b hb e => by have := HFB.out b hb; have := HF4.out b hb; rcases (HGB.out b e).2 with h | h <;> omega))
      have HO5r := Lib.hid (HO5v.out.gr hGr (fun _ h => h.elim) (fun c hc e => by have := HU5.out c hc; rcases (HGB.out c e).2 with h | h <;> omega))
      have HO6r := Lib.hid (HO6v.out.gr hGr (fun _ h => h.elim) (fun c hc e => by have := HU6.out c hc; rcases (HGB.out c e).2 with h | h <;> omega))
      have hBr : Below w2.heap.size w2 wr := hB15.trans (hGr.below (n := w2.heap.size) (fun b h => by have := hB12x.size; rcases (HGB.out b h).2 with h | h <;> omega) hB15.size)
      clear hGr hw1 hw2 hw3
      go_wp2_with (first
        | (go_at_call 22; refine (HLI.out _ _ _ HTr.out).mono ?_; rintro e w20 ⟨v20, rfl, hO20, hB20⟩; obtain ⟨a20, l20, c20, rfl, -⟩ := hO20.slice; have HO20 := Lib.hid hO20; have HT20 := Lib.hid (show TabT F w20 p g T from TabIn.below HTr.out hB20); have HO5w := Lib.hid (HO5r.out.below hB20); have HO6w := Lib.hid (HO6r.out.below hB20); have hBr2 := below_step hBr hB20; clear hO20 hB20)
        | (go_at_call 23; refine (HHI.out _ _ _ HT21.out).mono ?_; rintro e w22 ⟨v22, rfl, hB22, hO22⟩; obtain ⟨a22, l22, c22, rfl, -⟩ := hO22.slice; have HO22 := Lib.hid hO22; have HO6y := Lib.hid (HO6x.out.below hB22); have hBr4 := below_step hBr3 hB22; clear hO22 hB22)
        | (go_at_call 21; first
          | (refine (Same16_sum _ a22 a6 l22 c22 l6 c6 _ _ (rdOwn HO22.out) (rdOwn HO6y.out) (fun _ h => h) (fun _ h => h)).mono ?_; rw [HSL.out]; rintro e w23 ⟨rfl, hB23x⟩; have hBr5 := below_step hBr4 hB23x)
          | (refine (Same16_sum _ a20 a5 l20 c20 l5 c5 _ _ (rdOwn HO20.out) (rdOwn HO5w.out) (fun _ h => h) (fun _ h => h)).mono ?_; rw [HSL.out]; rintro e w21 ⟨rfl, hB21⟩; have HT21 := Lib.hid (show TabT F w21 p g T from TabIn.below HT20.out hB21); have HO6x := Lib.hid (HO6w.out.below hB21); have hBr3 := below_step hBr2 hB21)))
      go_ret
      exact ⟨rfl, below_step hB2 hBr5⟩
end Go.Proofs.Ytmlekhkgokgpbaa
