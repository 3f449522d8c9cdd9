/- The law WholeClosing, walked. -/
import Derived.Test.YtlfloekanfhlfaaGreatW57n
import Derived.Test.YtlfloekanfhlfaaGreatW53t
import Derived.Test.YtlfloekanfhlfaaGreatRead
set_option linter.unusedSimpArgs false
namespace Go.Proofs.YtlfloekanfhlfaaGreat
open Go.RowKit Go

theorem ky_eq (x : keyT.den) : (ky x).d = x := by obtain ⟨a, b, c, ⟨⟩⟩ := x; rfl
theorem dfl_back : (dfl.map Tk.d).map tk = dfl := rfl
theorem dfl_ns : ∀ i (hi : i < (dfl.map Tk.d).length), (tk (dfl.map Tk.d)[i]).needs.length ≤ 1000000 := by
  have h : ∀ x ∈ dfl.map Tk.d, (tk x).needs.length ≤ 1000000 := by
    intro x hx
    obtain ⟨t, ht, rfl⟩ := List.mem_map.1 hx
    have : ∀ t ∈ dfl, t.needs.length ≤ 2 := by
      intro t ht
      simp only [dfl, List.mem_cons, List.not_mem_nil, or_false] at ht
      rcases ht with rfl | rfl | rfl | rfl | rfl | rfl <;> simp
    have := this t ht
    rw [tk_d]
    omega
  exact fun i hi => h _ (List.getElem_mem hi)
set_option maxRecDepth 20000 in
set_option maxHeartbeats 1000000 in
theorem closingWalk57 (w : World) (c0 : List Value) (x0 : Int) (r0 : Rd (.int .u8) (fun b => b < w.heap.size) w c0 x0) (c1 : List Value) (xs : List keyT.den) (r1 : Rd (.sl keyT) (fun b => b < w.heap.size) w c1 xs) (c2 : List Value) (x2 : Int) (r2 : Rd (.int .u8) (fun b => b < w.heap.size) w c2 x2) :
    Calls Tryz.prog 3 #[valOf (.int .u8) c0, valOf (.sl keyT) c1, valOf (.int .u8) c2] w fun e w' => e = .returned (.bool true) ∧ Below w.heap.size w w' := by
  obtain ⟨rfl, hx0⟩ := r0
  obtain ⟨rfl, hx2⟩ := r2
  obtain ⟨a, len, cap, rfl, hl, hlc, hcm, -⟩ := id r1
  simp only [valOf, List.headD_cons]
  have R1 := Lib.hid r1
  have HL := Lib.hid (show xs.length = len from hl)
  have hx0' : 0 ≤ x0 ∧ x0 ≤ 255 := by simpa [Lit.wf, IntKind.min, IntKind.max, IntKind.signed, IntKind.bits] using hx0
  have hx2' : 0 ≤ x2 ∧ x2 ≤ 255 := by simpa [Lit.wf, IntKind.min, IntKind.max, IntKind.signed, IntKind.bits] using hx2
  clear r1 hl hx0 hx2
  go_enter Tryz.func3, Tryz.ntmps3
  go_wp2_with fail
  refine (awake57_sum w).mono ?_
  rintro e w1 ⟨rfl, hB1⟩
  have HB1 := Lib.hid hB1
  clear hB1
  by_cases hbig : (60 : Int) < len
  · go_wp2_with fail
    refine (awake57_sum w1).mono ?_
    rintro e w2 ⟨rfl, hB2⟩
    have HB2 := Lib.hid (below_step HB1.out hB2)
    clear hB2
    go_wp2_with fail
    go_ret
    exact ⟨rfl, HB2.out⟩
  go_wp2_with fail
  refine (sample57 w1).mono ?_
  rintro e w2 ⟨ca, cl, cc, eb, rfl, hB2⟩
  have HB2 := Lib.hid (below_step HB1.out hB2)
  clear hB2
  have hz := alloc_new' (w := w2) (o := .cells #[.string ⟨#[]⟩, .int .i64 0, .int .i64 0, .int .i64 0, .slice none 0 0, .int .i64 0, .int .i64 0, .int .i64 0, .int .i64 0, .int .i64 0, .int .i64 0, .int .i64 0, .int .i64 0, .int .i64 0, .int .i64 0, .int .i64 0, .int .i64 0, .int .i64 0, .int .i64 0, .int .i64 0, .slice none 0 0] 31) rfl
  have HZ := Lib.hid hz
  have hg := setRow_heap _ _ _ (grpV bEUR 2026 1 36 ca cl cc roleF (some ⟨eb, 0, none⟩) 4 4) _ _ hz
  have hBG := below_setRow (n := w2.heap.size) (p := w2.heap.size) ((Below.refl w2.heap.size w2).alloc (Nat.le_refl _) (.cells #[.string ⟨#[]⟩, .int .i64 0, .int .i64 0, .int .i64 0, .slice none 0 0, .int .i64 0, .int .i64 0, .int .i64 0, .int .i64 0, .int .i64 0, .int .i64 0, .int .i64 0, .int .i64 0, .int .i64 0, .int .i64 0, .int .i64 0, .int .i64 0, .int .i64 0, .int .i64 0, .int .i64 0, .slice none 0 0] 31)) (Nat.le_refl _) (grpV bEUR 2026 1 36 ca cl cc roleF (some ⟨eb, 0, none⟩) 4 4)
  have g20 := blk_cell hg 20
  rw [show (grpV bEUR 2026 1 36 ca cl cc roleF (some ⟨eb, 0, none⟩) 4 4)[20]? = some (.slice (some ⟨eb, 0, none⟩) 4 4) from rfl] at g20
  have f20 := blk_frozen hg 20
  go_wp2_with (refine wpList_store_row rfl _ _ _ rfl w2.heap.size (grpV bEUR 2026 1 36 ca cl cc roleF (some ⟨eb, 0, none⟩) 4 4) rfl rfl 31 _ HZ.out (by kernel_rfl) (by rfl) (by kernel_rfl) ?_)
  generalize hel : (1 + x0 % 4).toNat = el
  have hel1 : 1 ≤ el := by omega
  have hel4 : el ≤ 4 := by omega
  clear hel
  have hgS : (World.setCell (World.setRow _ _ _) ⟨w2.heap.size, 20, none⟩ (.slice (some ⟨eb, 0, none⟩) el 4)).heap[w2.heap.size]? = some (.cells (grpV bEUR 2026 1 36 ca cl cc roleF (some ⟨eb, 0, none⟩) el 4) 31 (0, 0)) := blk_set (i := 20) hg (.slice (some ⟨eb, 0, none⟩) el 4)
  have hBS : Below w2.heap.size w2 (World.setCell (World.setRow _ _ _) ⟨w2.heap.size, 20, none⟩ (.slice (some ⟨eb, 0, none⟩) el 4)) := hBG.trans (((Gr.refl (fun b => b = w2.heap.size) _).setCell (.inl rfl) (.slice (some ⟨eb, 0, none⟩) el 4)).below (fun b e => by rw [e]; exact Nat.le_refl _) hBG.size)
  generalize World.setCell (World.setRow _ _ _) _ _ = w3 at hgS hBS ⊢
  obtain ⟨gb, hgb⟩ : ∃ q, w2.heap.size = q := ⟨_, rfl⟩
  have HG3 := Lib.hid hgS
  have HB3 := Lib.hid (below_step HB2.out hBS)
  have hgw : w.heap.size ≤ gb := by rw [← hgb]; exact HB2.out.size
  rw [hgb] at HG3 ⊢
  clear hz HZ hg hBG g20 f20 hgS hBS hgb
  have HC0 : Cells [] w3 := trivial
  refine wp_cut [36, 37, 38, 39, 40, 41, 8, 9] (fun vs w' => ∃ (p m : Nat) (SS : Nat → Prop) (v38 : Value), vs = [.tuple #[.pointer (some ⟨p, 0, none⟩), .int .i64 0], .agg (grpV bEUR 2026 1 36 ca cl cc roleF (some ⟨eb, 0, none⟩) el 4), v38, .tuple #[.pointer (some ⟨p, 0, none⟩), .int .i64 0], .pointer (some ⟨p, 0, none⟩), .int .i64 0, .pointer (some ⟨p, 0, none⟩), .int .i64 0] ∧ Below w3.heap.size w3 w' ∧ w3.heap.size ≤ m ∧ WfIn SS w' p dfl el 36 m 0 (fun _ => none)) ?_ ?_
  · skip
    refine wp_region_T (Cells []) (fun _ => false) (by kernel_rfl) ?_
    have hSss1 := Cells.drew HC0
    have hB_0_s1 : Below w3.heap.size w3 w3.drew := below_drew _
    generalize w3.drew = s1 at hSss1 hB_0_s1 ⊢
    have hB_s1_s1 := Below.refl s1.heap.size s1
    refine wpAnyT_two (i := 0) (k := 1) (by kernel_rfl) rfl rfl (by rfl) (by rfl) ?_ ?_
    · skip
      have hro := ((hB_0_s1.trans ((hB_s1_s1).mono (hB_0_s1).size)).block _ (blk_lt HG3.out)).trans HG3.out
      refine wp_load_row 31 (.tmp 7) rfl gb (by kernel_rfl) 31 _ (0, 0) _ hro Tryz.underlying31 rfl (by kernel_rfl) ?_
      clear hro
      refine ⟨fun _ h => h, ?_⟩
      try simp only [Act.put, List.setIfInBounds_toArray, List.set_cons_zero, List.set_cons_succ, List.getElem_toArray, List.getElem_cons_succ, List.getElem_cons_zero]
      refine wpAnyT_one (i := 1) (by kernel_rfl) rfl (by rfl) ?_
      refine wp_enter (f := 7) (args := #[]) (by go_simp) (default53 _) ?_
      rintro e w102 ⟨db, rfl, hd, hX⟩
      have HD := Lib.hid hd
      clear hd
      have hB_s1_w102 := below_step hB_s1_s1 hX
      have hB_w102_w102 := Below.refl w102.heap.size w102
      have hSsw102 := Cells.below hB_s1_w102 hSss1
      clear hX
      refine ⟨_, rfl, fun _ _ => hSsw102, ?_⟩
      try simp only [Act.put, List.setIfInBounds_toArray, List.set_cons_zero, List.set_cons_succ, List.getElem_toArray, List.getElem_cons_succ, List.getElem_cons_zero]
      refine wpAnyT_one (i := 2) (by kernel_rfl) rfl (by rfl) ?_
      have hns3 : w3.heap.size ≤ (w102).heap.size := (hB_0_s1.trans ((hB_s1_w102).mono (hB_0_s1).size)).size
      refine wp_enter (f := 6) (args := #[.agg (grpV bEUR 2026 1 36 ca cl cc roleF (some ⟨eb, 0, none⟩) el 4), .slice (some ⟨db, 0, none⟩) 6 6]) (by go_simp) (new53 _ bEUR 2026 1 36 ca cl cc roleF (some ⟨eb, 0, none⟩) el 4 (by omega) (by omega) (by omega) (by omega) (by omega) (by omega) (by omega) (by omega) (some ⟨db, 0, none⟩) 6 6 (dfl.map Tk.d) HD.out (fun b hb => hb.2) (by omega) dfl_ns) ?_
      rintro e w103 hnew
      rw [dfl_back] at hnew
      rcases hnew with ⟨hbad, -⟩ | ⟨-, SS, p, m, rfl, hX, hm, hW⟩
      · exact absurd ⟨hel1, by omega, dfl_valid⟩ hbad
      have hB_s1_w103 := below_step hB_s1_w102 hX
      have hB_w102_w103 := below_step hB_w102_w102 hX
      have hB_w103_w103 := Below.refl w103.heap.size w103
      have hSsw103 := Cells.below hB_s1_w103 hSss1
      clear hX
      refine ⟨_, rfl, fun _ _ => hSsw103, ?_⟩
      try simp only [Act.put, List.setIfInBounds_toArray, List.set_cons_zero, List.set_cons_succ, List.getElem_toArray, List.getElem_cons_succ, List.getElem_cons_zero]
      refine wpAnyT_pure (i := 3) (v := ?_) rfl (by kernel_rfl) (by kernel_rfl) (by kernel_rfl) (fun _ _ _ h => h) (by rfl) ?_ ?_
      rotate_left
      · intro w; go_simp; try with_reducible rfl
      simp only [Act.put, List.setIfInBounds_toArray, List.set_cons_zero, List.set_cons_succ, List.getElem_toArray, List.getElem_cons_succ, List.getElem_cons_zero]
      refine wpAnyT_pure (i := 4) (v := ?_) rfl (by kernel_rfl) (by kernel_rfl) (by kernel_rfl) (fun _ _ _ h => h) (by rfl) ?_ ?_
      rotate_left
      · intro w; go_simp; try with_reducible rfl
      simp only [Act.put, List.setIfInBounds_toArray, List.set_cons_zero, List.set_cons_succ, List.getElem_toArray, List.getElem_cons_succ, List.getElem_cons_zero]
      refine wpAnyT_pure (i := 5) (v := ?_) rfl (by kernel_rfl) (by kernel_rfl) (by kernel_rfl) (fun _ _ _ h => h) (by rfl) ?_ ?_
      rotate_left
      · intro w; go_simp; try with_reducible rfl
      simp only [Act.put, List.setIfInBounds_toArray, List.set_cons_zero, List.set_cons_succ, List.getElem_toArray, List.getElem_cons_succ, List.getElem_cons_zero]
      refine wpAnyT_pure (i := 6) (v := ?_) rfl (by kernel_rfl) (by kernel_rfl) (by kernel_rfl) (fun _ _ _ h => h) (by rfl) ?_ ?_
      rotate_left
      · intro w; go_simp; try with_reducible rfl
      simp only [Act.put, List.setIfInBounds_toArray, List.set_cons_zero, List.set_cons_succ, List.getElem_toArray, List.getElem_cons_succ, List.getElem_cons_zero]
      refine wpAnyT_pure (i := 7) (v := ?_) rfl (by kernel_rfl) (by kernel_rfl) (by kernel_rfl) (fun _ _ _ h => h) (by rfl) ?_ ?_
      rotate_left
      · intro w; go_simp; try with_reducible rfl
      simp only [Act.put, List.setIfInBounds_toArray, List.set_cons_zero, List.set_cons_succ, List.getElem_toArray, List.getElem_cons_succ, List.getElem_cons_zero]
      refine wpAnyT_done (by kernel_rfl) ?_ _
      refine cut_leaf ?_ ?_
      focus kernel_rfl
      exact ⟨p, m, SS, _, rfl, hB_0_s1.trans ((hB_s1_w103).mono hB_0_s1.size), Nat.le_trans hns3 hm, hW⟩
    · skip
      refine wp_enter (f := 7) (args := #[]) (by go_simp) (default53 _) ?_
      rintro e w104 ⟨db, rfl, hd, hX⟩
      have HD := Lib.hid hd
      clear hd
      have hB_s1_w104 := below_step hB_s1_s1 hX
      have hB_w104_w104 := Below.refl w104.heap.size w104
      have hSsw104 := Cells.below hB_s1_w104 hSss1
      clear hX
      refine ⟨_, rfl, fun _ _ => hSsw104, ?_⟩
      try simp only [Act.put, List.setIfInBounds_toArray, List.set_cons_zero, List.set_cons_succ, List.getElem_toArray, List.getElem_cons_succ, List.getElem_cons_zero]
      refine wpAnyT_one (i := 0) (by kernel_rfl) rfl (by rfl) ?_
      have hro := ((hB_0_s1.trans ((hB_s1_w104).mono (hB_0_s1).size)).block _ (blk_lt HG3.out)).trans HG3.out
      refine wp_load_row 31 (.tmp 7) rfl gb (by kernel_rfl) 31 _ (0, 0) _ hro Tryz.underlying31 rfl (by kernel_rfl) ?_
      clear hro
      refine ⟨fun _ h => h, ?_⟩
      try simp only [Act.put, List.setIfInBounds_toArray, List.set_cons_zero, List.set_cons_succ, List.getElem_toArray, List.getElem_cons_succ, List.getElem_cons_zero]
      refine wpAnyT_one (i := 2) (by kernel_rfl) rfl (by rfl) ?_
      have hns3 : w3.heap.size ≤ (w104).heap.size := (hB_0_s1.trans ((hB_s1_w104).mono (hB_0_s1).size)).size
      refine wp_enter (f := 6) (args := #[.agg (grpV bEUR 2026 1 36 ca cl cc roleF (some ⟨eb, 0, none⟩) el 4), .slice (some ⟨db, 0, none⟩) 6 6]) (by go_simp) (new53 _ bEUR 2026 1 36 ca cl cc roleF (some ⟨eb, 0, none⟩) el 4 (by omega) (by omega) (by omega) (by omega) (by omega) (by omega) (by omega) (by omega) (some ⟨db, 0, none⟩) 6 6 (dfl.map Tk.d) HD.out (fun b hb => hb.2) (by omega) dfl_ns) ?_
      rintro e w105 hnew
      rw [dfl_back] at hnew
      rcases hnew with ⟨hbad, -⟩ | ⟨-, SS, p, m, rfl, hX, hm, hW⟩
      · exact absurd ⟨hel1, by omega, dfl_valid⟩ hbad
      have hB_s1_w105 := below_step hB_s1_w104 hX
      have hB_w104_w105 := below_step hB_w104_w104 hX
      have hB_w105_w105 := Below.refl w105.heap.size w105
      have hSsw105 := Cells.below hB_s1_w105 hSss1
      clear hX
      refine ⟨_, rfl, fun _ _ => hSsw105, ?_⟩
      try simp only [Act.put, List.setIfInBounds_toArray, List.set_cons_zero, List.set_cons_succ, List.getElem_toArray, List.getElem_cons_succ, List.getElem_cons_zero]
      refine wpAnyT_pure (i := 3) (v := ?_) rfl (by kernel_rfl) (by kernel_rfl) (by kernel_rfl) (fun _ _ _ h => h) (by rfl) ?_ ?_
      rotate_left
      · intro w; go_simp; try with_reducible rfl
      simp only [Act.put, List.setIfInBounds_toArray, List.set_cons_zero, List.set_cons_succ, List.getElem_toArray, List.getElem_cons_succ, List.getElem_cons_zero]
      refine wpAnyT_pure (i := 4) (v := ?_) rfl (by kernel_rfl) (by kernel_rfl) (by kernel_rfl) (fun _ _ _ h => h) (by rfl) ?_ ?_
      rotate_left
      · intro w; go_simp; try with_reducible rfl
      simp only [Act.put, List.setIfInBounds_toArray, List.set_cons_zero, List.set_cons_succ, List.getElem_toArray, List.getElem_cons_succ, List.getElem_cons_zero]
      refine wpAnyT_pure (i := 5) (v := ?_) rfl (by kernel_rfl) (by kernel_rfl) (by kernel_rfl) (fun _ _ _ h => h) (by rfl) ?_ ?_
      rotate_left
      · intro w; go_simp; try with_reducible rfl
      simp only [Act.put, List.setIfInBounds_toArray, List.set_cons_zero, List.set_cons_succ, List.getElem_toArray, List.getElem_cons_succ, List.getElem_cons_zero]
      refine wpAnyT_pure (i := 6) (v := ?_) rfl (by kernel_rfl) (by kernel_rfl) (by kernel_rfl) (fun _ _ _ h => h) (by rfl) ?_ ?_
      rotate_left
      · intro w; go_simp; try with_reducible rfl
      simp only [Act.put, List.setIfInBounds_toArray, List.set_cons_zero, List.set_cons_succ, List.getElem_toArray, List.getElem_cons_succ, List.getElem_cons_zero]
      refine wpAnyT_pure (i := 7) (v := ?_) rfl (by kernel_rfl) (by kernel_rfl) (by kernel_rfl) (fun _ _ _ h => h) (by rfl) ?_ ?_
      rotate_left
      · intro w; go_simp; try with_reducible rfl
      simp only [Act.put, List.setIfInBounds_toArray, List.set_cons_zero, List.set_cons_succ, List.getElem_toArray, List.getElem_cons_succ, List.getElem_cons_zero]
      refine wpAnyT_done (by kernel_rfl) ?_ _
      refine cut_leaf ?_ ?_
      focus kernel_rfl
      exact ⟨p, m, SS, _, rfl, hB_0_s1.trans ((hB_s1_w105).mono hB_0_s1.size), Nat.le_trans hns3 hm, hW⟩
  rintro vs w4 ⟨p, m, SS, v38, rfl, hB4, hm4, hW⟩
  simp only [puts, Act.put, List.setIfInBounds_toArray, List.set_cons_zero, List.set_cons_succ]
  have HBW := Lib.hid (HB3.out.trans (hB4.mono HB3.out.size))
  have HG4 := Lib.hid ((hB4.block _ (blk_lt HG3.out)).trans HG3.out)
  have hgb3 := blk_lt HG3.out
  have hmw : w.heap.size ≤ m := by omega
  have hgm : gb ≠ m := by omega
  have HW4 := Lib.hid hW
  have hxs : xs = (xs.map ky).map Ky.d := by rw [List.map_map, show Ky.d ∘ ky = id from funext ky_eq, List.map_id]
  obtain ⟨ls, hls⟩ : ∃ l : List Ky, xs = l.map Ky.d := ⟨_, hxs⟩
  clear hxs hB4 hm4 hW HG3 HB3 hgb3 HC0
  subst hls
  rw [List.length_map] at HL
  have hlen60 : len ≤ 60 := by omega
  go_wp2_with fail
  go_loopw [10] (fun i wr => ∃ (k n : Nat) (f : Ky → Option ByteArray), k ≤ len ∧ i = .int .i64 k ∧ n ≤ k ∧ WfIn SS wr p dfl el 36 m n f ∧ InvS dfl el 36 f ∧ Gr (fun b => b = m) w4 wr) (fun i _ => len - (intOf i).toNat)
  case atStart => exact ⟨0, 0, _, Nat.zero_le _, rfl, Nat.le_refl _, HW4.out, InvS.none _ _ _, Gr.refl _ _⟩
  case round =>
    obtain ⟨k, n, f, hk, rfl, hnk, hW, hI, hG⟩ := hrel
    have HW := Lib.hid hW
    have HI := Lib.hid hI
    have HG := Lib.hid hG
    have HBR := Lib.hid (HBW.out.trans (hG.below (n := w.heap.size) (fun b e => by rw [e]; exact hmw) HBW.out.size))
    clear hW hI hG
    by_cases hlt : k < len
    · have hkI : (k : Int) < (len : Int) := by omega
      have hkx : k < ls.length := by rw [HL.out]; exact hlt
      obtain ⟨b, o, rfl, -, m0, m1, m2, hok⟩ := key_at (R1.out.below HBR.out (fun _ h => h)) k hkx
      generalize ls[k] = x at m0 m1 m2 hok
      obtain ⟨x1, x4, x3⟩ := x
      simp only at m0 m1 m2
      have HOK := Lib.hid hok
      have HLT := Lib.hid hlt
      have HC0 : Cells [(⟨b, o + k * 3, none⟩, .string x1), (⟨b, o + k * 3 + 1, none⟩, .int .i64 x4), (⟨b, o + k * 3 + 2, none⟩, .int .i64 x3)] wr := ⟨m0, m1, m2, trivial⟩
      clear hok hlt hkx
      by_cases hsz : (40 : Int) < x1.size
      · go_wp2_with fail
        go_ret
        exact ⟨rfl, HBR.out⟩
      go_wp2_with fail
      refine wp_region_T (Cells [(⟨b, o + k * 3, none⟩, .string x1), (⟨b, o + k * 3 + 1, none⟩, .int .i64 x4), (⟨b, o + k * 3 + 2, none⟩, .int .i64 x3)]) (fun i => i == 17) (by kernel_rfl) ?_
      have hSss6 := Cells.drew HC0
      have hB_0_s6 : Below wr.heap.size wr wr.drew := below_drew _
      generalize wr.drew = s6 at hSss6 hB_0_s6 ⊢
      have hB_s6_s6 := Below.refl s6.heap.size s6
      refine wpAnyT_pure (i := 0) (v := ?_) rfl (by kernel_rfl) (by kernel_rfl) (by kernel_rfl) (fun _ _ _ h => h) (by rfl) ?_ ?_
      rotate_left
      · intro w; go_simp; try with_reducible rfl
      simp only [Act.put, List.setIfInBounds_toArray, List.set_cons_zero, List.set_cons_succ, List.getElem_toArray, List.getElem_cons_succ, List.getElem_cons_zero]
      refine wpAnyT_pure (i := 1) (v := ?_) rfl (by kernel_rfl) (by kernel_rfl) (by kernel_rfl) (fun _ _ _ h => h) (by rfl) ?_ ?_
      rotate_left
      · intro w; go_simp; try with_reducible rfl
      simp only [Act.put, List.setIfInBounds_toArray, List.set_cons_zero, List.set_cons_succ, List.getElem_toArray, List.getElem_cons_succ, List.getElem_cons_zero]
      refine wpAnyT_pure (i := 2) (v := ?_) rfl (by kernel_rfl) (by kernel_rfl) (by kernel_rfl) (fun _ _ _ h => h) (by rfl) ?_ ?_
      rotate_left
      · intro w; go_simp; try with_reducible rfl
      simp only [Act.put, List.setIfInBounds_toArray, List.set_cons_zero, List.set_cons_succ, List.getElem_toArray, List.getElem_cons_succ, List.getElem_cons_zero]
      refine wpAnyT_pure (i := 3) (v := ?_) rfl (by kernel_rfl) (by kernel_rfl) (by kernel_rfl) (fun _ _ _ h => h) (by rfl) ?_ ?_
      rotate_left
      · intro w; go_simp; try with_reducible rfl
      simp only [Act.put, List.setIfInBounds_toArray, List.set_cons_zero, List.set_cons_succ, List.getElem_toArray, List.getElem_cons_succ, List.getElem_cons_zero]
      refine wpAnyT_pure (i := 4) (v := ?_) rfl (by kernel_rfl) (by kernel_rfl) (by kernel_rfl) (fun _ _ _ h => h) (by rfl) ?_ ?_
      rotate_left
      · intro w; go_simp; try with_reducible rfl
      simp only [Act.put, List.setIfInBounds_toArray, List.set_cons_zero, List.set_cons_succ, List.getElem_toArray, List.getElem_cons_succ, List.getElem_cons_zero]
      refine wpAnyT_pure (i := 6) (v := ?_) rfl (by kernel_rfl) (by kernel_rfl) (by kernel_rfl) (fun _ _ _ h => h) (by rfl) ?_ ?_
      rotate_left
      · intro w; go_simp; try with_reducible rfl
      simp only [Act.put, List.setIfInBounds_toArray, List.set_cons_zero, List.set_cons_succ, List.getElem_toArray, List.getElem_cons_succ, List.getElem_cons_zero]
      refine wpAnyT_pure (i := 7) (v := ?_) rfl (by kernel_rfl) (by kernel_rfl) (by kernel_rfl) (fun _ _ _ h => h) (by rfl) ?_ ?_
      rotate_left
      · intro w; go_simp; try with_reducible rfl
      simp only [Act.put, List.setIfInBounds_toArray, List.set_cons_zero, List.set_cons_succ, List.getElem_toArray, List.getElem_cons_succ, List.getElem_cons_zero]
      refine wpAnyT_pure (i := 8) (v := ?_) rfl (by kernel_rfl) (by kernel_rfl) (by kernel_rfl) (fun _ _ _ h => h) (by rfl) ?_ ?_
      rotate_left
      · intro w; go_simp; try with_reducible rfl
      simp only [Act.put, List.setIfInBounds_toArray, List.set_cons_zero, List.set_cons_succ, List.getElem_toArray, List.getElem_cons_succ, List.getElem_cons_zero]
      refine wpAnyT_pure (i := 9) (v := ?_) rfl (by kernel_rfl) (by kernel_rfl) (by kernel_rfl) (fun _ _ _ h => h) (by rfl) ?_ ?_
      rotate_left
      · intro w; go_simp; try with_reducible rfl
      simp only [Act.put, List.setIfInBounds_toArray, List.set_cons_zero, List.set_cons_succ, List.getElem_toArray, List.getElem_cons_succ, List.getElem_cons_zero]
      refine wpAnyT_pure (i := 11) (v := ?_) rfl (by kernel_rfl) (by kernel_rfl) (by kernel_rfl) (fun _ _ _ h => h) (by rfl) ?_ ?_
      rotate_left
      · intro w; go_simp; try with_reducible rfl
      simp only [Act.put, List.setIfInBounds_toArray, List.set_cons_zero, List.set_cons_succ, List.getElem_toArray, List.getElem_cons_succ, List.getElem_cons_zero]
      refine wpAnyT_pure (i := 12) (v := ?_) rfl (by kernel_rfl) (by kernel_rfl) (by kernel_rfl) (fun _ _ _ h => h) (by rfl) ?_ ?_
      rotate_left
      · intro w; go_simp; try with_reducible rfl
      simp only [Act.put, List.setIfInBounds_toArray, List.set_cons_zero, List.set_cons_succ, List.getElem_toArray, List.getElem_cons_succ, List.getElem_cons_zero]
      refine wpAnyT_pure (i := 13) (v := ?_) rfl (by kernel_rfl) (by kernel_rfl) (by kernel_rfl) (fun _ _ _ h => h) (by rfl) ?_ ?_
      rotate_left
      · intro w; go_simp; try with_reducible rfl
      simp only [Act.put, List.setIfInBounds_toArray, List.set_cons_zero, List.set_cons_succ, List.getElem_toArray, List.getElem_cons_succ, List.getElem_cons_zero]
      refine wpAnyT_pure (i := 14) (v := ?_) rfl (by kernel_rfl) (by kernel_rfl) (by kernel_rfl) (fun _ _ _ h => h) (by rfl) ?_ ?_
      rotate_left
      · intro w; go_simp; try with_reducible rfl
      simp only [Act.put, List.setIfInBounds_toArray, List.set_cons_zero, List.set_cons_succ, List.getElem_toArray, List.getElem_cons_succ, List.getElem_cons_zero]
      refine wpAnyT_loadW (i := 5) (v := ?_) rfl (by kernel_rfl) (by kernel_rfl) (by kernel_rfl) (by kernel_rfl) (by kernel_rfl) (fun _ _ _ h => h) (Or.inl ⟨by rfl, ?_⟩) hSss6 ?_
      rotate_left
      · intro w hSw; obtain ⟨e0, e1, e2, -⟩ := hSw; go_simp; try with_reducible rfl
      simp only [Act.put, List.setIfInBounds_toArray, List.set_cons_zero, List.set_cons_succ, List.getElem_toArray, List.getElem_cons_succ, List.getElem_cons_zero]
      refine wpAnyT_loadW (i := 10) (v := ?_) rfl (by kernel_rfl) (by kernel_rfl) (by kernel_rfl) (by kernel_rfl) (by kernel_rfl) (fun _ _ _ h => h) (Or.inl ⟨by rfl, ?_⟩) hSss6 ?_
      rotate_left
      · intro w hSw; obtain ⟨e0, e1, e2, -⟩ := hSw; go_simp; try with_reducible rfl
      simp only [Act.put, List.setIfInBounds_toArray, List.set_cons_zero, List.set_cons_succ, List.getElem_toArray, List.getElem_cons_succ, List.getElem_cons_zero]
      refine wpAnyT_loadW (i := 15) (v := ?_) rfl (by kernel_rfl) (by kernel_rfl) (by kernel_rfl) (by kernel_rfl) (by kernel_rfl) (fun _ _ _ h => h) (Or.inl ⟨by rfl, ?_⟩) hSss6 ?_
      rotate_left
      · intro w hSw; obtain ⟨e0, e1, e2, -⟩ := hSw; go_simp; try with_reducible rfl
      simp only [Act.put, List.setIfInBounds_toArray, List.set_cons_zero, List.set_cons_succ, List.getElem_toArray, List.getElem_cons_succ, List.getElem_cons_zero]
      refine wpAnyT_pure (i := 16) (v := ?_) rfl (by kernel_rfl) (by kernel_rfl) (by kernel_rfl) (fun _ _ _ h => h) (by rfl) ?_ ?_
      rotate_left
      · intro w; go_simp; try with_reducible rfl
      simp only [Act.put, List.setIfInBounds_toArray, List.set_cons_zero, List.set_cons_succ, List.getElem_toArray, List.getElem_cons_succ, List.getElem_cons_zero]
      refine wpAnyT_one (i := 17) (by kernel_rfl) rfl (by rfl) ?_
      have hbP : Below wr.heap.size wr s6 := hB_0_s6.trans ((hB_s6_s6).mono (hB_0_s6).size)
      refine wp_enter (f := 8) (args := #[.pointer (some ⟨p, 0, none⟩), .agg #[.string x1, .int .i64 x4, .int .i64 x3], .string ⟨#[120]⟩]) (by go_simp) (sign53 _ p dfl el 36 m n f (HW.out.below hbP) (by omega) (by omega) ⟨x1, x4, x3⟩ HOK.out ⟨#[120]⟩ (by decide) (fun hc => dfl_needOk (by omega) HOK.out hc)) ?_
      rintro e w107 ⟨rfl, hg9, n', hn9, hw9⟩
      refine ⟨_, rfl, fun h => absurd h (by decide), ?_⟩
      try simp only [Act.put, List.setIfInBounds_toArray, List.set_cons_zero, List.set_cons_succ, List.getElem_toArray, List.getElem_cons_succ, List.getElem_cons_zero]
      refine wpAnyT_done (by kernel_rfl) ?_ _
      obtain ⟨w9, rfl⟩ : ∃ x, x = w107 := ⟨_, rfl⟩
      have HW9 := Lib.hid hw9
      have HG9 := Lib.hid ((HG.out.trans (Gr.of_below hbP) (G := fun b => wr.heap.size ≤ b) (fun x e => .inr (Nat.le_trans HG.out.size e))).trans hg9 (fun x e => .inl e))
      have hl1 := HLT.out
      clear hw9 hg9 hbP
      go_wp2_with fail
      go_roundw
      case rel => exact ⟨k + 1, n', _, by omega, by go_num, by omega, HW9.out, HI.out.sign, HG9.out⟩
      case measure => simp [intOf]; try omega
    · obtain rfl : k = len := by omega
      obtain ⟨w5, rfl⟩ : ∃ x, x = wr := ⟨_, rfl⟩
      have hper : 0 ≤ x2 % 36 ∧ x2 % 36 < 36 := by omega
      have HPW := Lib.hid (show (Lit.int .i64 (x2 % 36)).wf = true from by simp [Lit.wf, IntKind.min, IntKind.max, IntKind.signed, IntKind.bits]; omega)
      have HG5 := Lib.hid ((HG.out.block _ (blk_lt HG4.out) hgm).trans HG4.out)
      clear hlt
      go_wp2_with fail
      generalize x2 % 36 = per at hper HPW ⊢
      refine (signed53 w5 p dfl el 36 m n f HW.out ⟨bReport, -1, per⟩ ⟨(by decide : bReport.size ≤ maxLen), (by decide : (Lit.int .i64 (-1)).wf = true), HPW.out⟩).mono ?_
      rintro e w6 ⟨rfl, hB6⟩
      have HB6 := Lib.hid (below_step HBR.out hB6)
      have HW6 := Lib.hid (HW.out.below hB6)
      have HG6 := Lib.hid ((hB6.block _ (blk_lt HG5.out)).trans HG5.out)
      clear hB6 HG5 HG4 HW
      generalize (f ⟨bReport, -1, per⟩).getD ⟨#[]⟩ = sv
      generalize hsr : (f ⟨bReport, -1, per⟩).isSome = sr
      have HSR := Lib.hid hsr
      clear hsr
      cases sr
      · go_wp2_with fail
        refine (done53 w6 p dfl el 36 m n f HW6.out (by omega) (by rw [dfl_len]; omega) per HPW.out hper.1 (by omega)).mono ?_
        rintro e w7 ⟨rfl, hB7⟩
        rw [notDone HSR.out]
        have HB7 := Lib.hid (below_step HB6.out hB7)
        clear hB7
        go_wp2_with fail
        go_ret
        exact ⟨rfl, HB7.out⟩
      · have HCL := Lib.hid (closing HI.out HSR.out)
        go_wp2_with fail
        go_loopw [14] (fun i wr => ∃ j : Nat, j ≤ el ∧ i = .int .i64 j ∧ Below w6.heap.size w6 wr) (fun i _ => el - (intOf i).toNat)
        case atStart => exact ⟨0, Nat.zero_le _, rfl, Below.refl _ _⟩
        case round =>
          obtain ⟨j, hj, rfl, hB7⟩ := hrel
          have HB7 := Lib.hid (below_step HB6.out hB7)
          have HBJ := Lib.hid hB7
          have HW7 := Lib.hid (HW6.out.below hB7)
          have hg7 := (hB7.block _ (blk_lt HG6.out)).trans HG6.out
          have g20 := blk_cell hg7 20
          rw [show (grpV bEUR 2026 1 36 ca cl cc roleF (some ⟨eb, 0, none⟩) el 4)[20]? = some (.slice (some ⟨eb, 0, none⟩) el 4) from rfl] at g20
          clear hB7 hg7
          by_cases hlt : j < el
          · have hjI : (j : Int) < (el : Int) := by omega
            have hjw : (Lit.int .i64 (j : Int)).wf = true := by simp [Lit.wf, IntKind.min, IntKind.max, IntKind.signed, IntKind.bits]; omega
            have HJW := Lib.hid hjw
            have HLT := Lib.hid hlt
            clear hjw hlt
            go_wp2_with fail
            refine (signed53 wr p dfl el 36 m n f HW7.out ⟨bEntries, (j : Nat), per⟩ ⟨(by decide : bEntries.size ≤ maxLen), HJW.out, HPW.out⟩).mono ?_
            rintro e w8 ⟨rfl, hB8⟩
            rw [(HCL.out.1 j HLT.out).1]
            have HB8 := Lib.hid (below_step HBJ.out hB8)
            have HW8 := Lib.hid (HW7.out.below hB8)
            clear hB8 g20
            generalize (f ⟨bEntries, (j : Nat), per⟩).getD ⟨#[]⟩ = s8
            go_wp2_with fail
            refine (signed53 w8 p dfl el 36 m n f HW8.out ⟨bLocal, (j : Nat), per⟩ ⟨(by decide : bLocal.size ≤ maxLen), HJW.out, HPW.out⟩).mono ?_
            rintro e w9 ⟨rfl, hB9⟩
            rw [(HCL.out.1 j HLT.out).2]
            have HB9 := Lib.hid (below_step HB8.out hB9)
            clear hB9
            generalize (f ⟨bLocal, (j : Nat), per⟩).getD ⟨#[]⟩ = s9
            have hl1 := HLT.out
            go_wp2_with fail
            go_roundw
            case rel => exact ⟨j + 1, by omega, by go_num, HB9.out⟩
            case measure => simp [intOf]; try omega
          · obtain rfl : j = el := by omega
            go_wp2_with fail
            refine (done53 wr p dfl j 36 _ n f HW7.out (by omega) (by rw [dfl_len]; omega) per HPW.out hper.1 (by omega)).mono ?_
            rintro e w8 ⟨rfl, hB8⟩
            rw [HCL.out.2]
            have HB8 := Lib.hid (below_step HB7.out hB8)
            clear hB8
            go_wp2_with fail
            go_ret
            exact ⟨rfl, HB8.out⟩
end Go.Proofs.YtlfloekanfhlfaaGreat
