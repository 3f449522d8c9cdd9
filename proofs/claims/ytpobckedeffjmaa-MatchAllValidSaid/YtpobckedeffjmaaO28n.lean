/- Layer 28: MatchAllValid, the walk. -/
import Derived.Test.YtpobckedeffjmaaO28m2
set_option linter.unusedSimpArgs false
set_option maxRecDepth 50000
namespace Go.Proofs.Ytpobckedeffjmaa
open Go.RowKit Go

/-- The two copies of the books. -/
structure CP (n : Nat) (bs : Array Value) (w W : World) (b2 b3 : Nat) : Prop where
  r0 : W.heap[n]? = some (.cells bs 65 (0, 0))
  r2 : W.heap[b2]? = some (.cells bs 65 (0, 0))
  r3 : W.heap[b3]? = some (.cells bs 65 (0, 0))
  ne : b2 ≠ b3
  lt : n < b2 ∧ n < b3
  b : Below n w W
theorem wpList_appLit {P : Program} {ops : Array Oper} {rest : List Oper} {o : Oper} {a : Act} {w : World} {Q : Exit → Act → World → Prop} (hgd : o.guard = none) (s x : Operand) (t : TypeId)
    (ho : o.op = .call { callee := .builtin .append, args := #[s, x], argTypes := #[t, t] })
    {e : Ty} {te : TypeId} {z : Value} {bytes : Nat} (hi : (P.info? te).map (fun i => (i.zero, i.size, i.bytes)) = some (some z, e.sz, bytes)) (ht : P.underlying t = some (.slice te)) (hz : z.cells.size = e.sz) (h0 : 0 < e.sz)
    {S : Nat → Prop} {b base : Nat} (hv : a.eval s = .slice (some ⟨b, 0, none⟩) 0 0) (hb : w.heap[b]? = some (.cells #[] te (0, 0))) (hbase : base ≤ b)
    {sv : Value} (hsv : a.eval x = sv) {ys : List e.den} (hr : Rd (.sl e) S w [sv] ys) (hS : ∀ x, S x → x ≠ b ∧ x < w.heap.size) (hbt : ys.length * bytes ≤ 140737488355328) (hmx : ys.length ≤ 9223372036854775807)
    (h : ∀ (ca : Option Addr) (cl cc : Nat) w', Owns e te base S w' (.slice ca cl cc) ys → Below w.heap.size w w' → wpList P ops Q rest (a.put o.dst (.slice ca cl cc)) w') :
    wpList P ops Q (o :: rest) a w := by
  refine wpList_plain hgd fun K hK => ?_
  exact wp_appLit s x t ho hi ht hz h0 hv hb hbase hsv hr hS hbt hmx (fun ca cl cc w' h1 h2 => hK _ _ (h ca cl cc w' h1 h2))
set_option maxHeartbeats 8000000 in
theorem allWalk28 (w : World) (c0 : List Value) (bk : booksT.den) (r0 : Rd booksT (fun b => b < w.heap.size) w c0 bk) (c1 : List Value) (x1 : (Ty.int .u8).den) (r1 : Rd (.int .u8) (fun b => b < w.heap.size) w c1 x1) (c2 : List Value) (x2 : (Ty.int .u8).den) (r2 : Rd (.int .u8) (fun b => b < w.heap.size) w c2 x2) :
    Calls Try.prog 8 #[valOf booksT c0, valOf (.int .u8) c1, valOf (.int .u8) c2] w fun e w' => e = .returned (.bool true) ∧ Below w.heap.size w w' := by
  have hone := r0.one_cell
  obtain ⟨bs, hbs, hbk⟩ := rd_books r0
  change Int at x1
  change Int at x2
  obtain ⟨rfl, hn1⟩ := r1
  obtain ⟨rfl, hn2⟩ := r2
  show Calls _ _ #[.agg c0.toArray, .int .u8 x1, .int .u8 x2] w _
  have hone2 : bs.all (·.oneCell') = true := by
    rw [← hbs, Array.all_eq_true_iff_forall_mem]
    intro u hu
    exact hone u (by simpa using hu)
  rw [hbs]
  have hat : 0 ≤ x1 ∧ x1 ≤ 255 := by simp [Lit.wf, IntKind.min, IntKind.max, IntKind.signed, IntKind.bits] at hn1; omega
  have hsw : 0 ≤ x2 ∧ x2 ≤ 255 := by simp [Lit.wf, IntKind.min, IntKind.max, IntKind.signed, IntKind.bits] at hn2; omega
  obtain ⟨a1, rfl⟩ := Int.eq_ofNat_of_zero_le hat.1
  obtain ⟨s1, rfl⟩ := Int.eq_ofNat_of_zero_le hsw.1
  generalize List.map en7 bk.2.1 = es at hbk
  generalize List.map m4 bk.2.2.2.2.1 = ms at hbk
  have HSZ := Lib.hid hbk.sz
  have HONE := Lib.hid hone2
  have H := Lib.hid hbk
  obtain ⟨ma, mc, hm24, hMR⟩ := hbk.m
  have HM24 := Lib.hid hm24
  have HMR := Lib.hid hMR
  have hmcap : ms.length ≤ mc := hMR.sl_flat.2.1
  have hmc63 : mc ≤ 9223372036854775807 := hMR.sl_flat.2.2.1
  have HB0 := Lib.hid ((Below.refl w.heap.size w).alloc (Nat.le_refl _) (.cells bs 65))
  have HR0 := Lib.hid (heap_alloc_new w (.cells bs 65))
  clear r0 hbs hbk hone hone2 hm24 hMR hn1 hn2
  go_enter Try.func8, Try.ntmps8
  go_upto_region 1 with fail
  generalize World.alloc w (.cells bs 65) = w0 at *
  obtain ⟨n, hn⟩ : ∃ q, w.heap.size = q := ⟨_, rfl⟩
  rw [hn] at HR0
  have HN := Lib.hid hn
  simp only [hn]
  clear hn
  go_wp2_with fail
  refine (awake28 w0).mono ?_
  rintro e w1 ⟨rfl, hB1⟩
  have HB1 := Lib.hid (below_step HB0.out hB1)
  have HR0a := Lib.hid ((hB1.block _ (blk_lt HR0.out)).trans HR0.out)
  clear hB1
  have HROW := Lib.hid HR0a.out
  go_wp2_with (have hq := HROW; clear HROW; refine wpList_load_rowG (by rfl) 65 _ rfl n rfl 65 bs (0, 0) _ hq.out Try.underlying65 rfl (by rw [HSZ.out]; kernel_rfl) ?_; clear hq)
  refine (few28 w1 bs es ms (H.out.below HB1.out (fun b hb => hb)) (fun b hb => Nat.lt_of_lt_of_le hb HB1.out.size)).mono ?_
  rintro e w2 ⟨rfl, hB2⟩
  have HB2 := Lib.hid (below_step HB1.out hB2)
  have HR0b := Lib.hid ((hB2.block _ (blk_lt HR0a.out)).trans HR0a.out)
  clear hB2
  obtain ⟨fb, hfb⟩ : ∃ q, fewB es ms = q := ⟨_, rfl⟩
  have HFB := Lib.hid hfb
  rw [hfb]
  clear hfb
  cases fb with
  | false =>
    go_wp2_with (go_at_call 9; refine (awake28 _).mono ?_; rintro e wz ⟨rfl, hBz⟩; have HBz := Lib.hid (below_step HB2.out hBz); clear hBz)
    go_ret
    exact ⟨rfl, HBz.out⟩
  | true =>
    obtain ⟨h8, h40, h20⟩ := fewB_true HFB.out
    have H8 := Lib.hid h8
    clear h8
    have HROW := Lib.hid HR0b.out
    go_wp2_with (have hq := HROW; clear HROW; refine wpList_load_row rfl 65 _ rfl n rfl 65 bs (0, 0) _ hq.out Try.underlying65 rfl (by rw [HSZ.out]; kernel_rfl) ?_; clear hq)
    refine (allValid28 w2 bs es ms (H.out.below HB2.out (fun b hb => hb)) (fun b hb => Nat.lt_of_lt_of_le hb HB2.out.size) h40 H8.out h20).mono ?_
    rintro e w3 ⟨rfl, hB3⟩
    have HB3 := Lib.hid (below_step HB2.out hB3)
    have HR0c := Lib.hid ((hB3.block _ (blk_lt HR0b.out)).trans HR0b.out)
    clear hB3
    have HROW := Lib.hid HR0c.out
    obtain ⟨ab, hab⟩ : ∃ q, allB es ms = q := ⟨_, rfl⟩
    have HAB := Lib.hid hab
    have HRA := Lib.hid (rallValid28 w3 bs es ms (H.out.below HB3.out (fun b hb => hb)) (fun b hb => Nat.lt_of_lt_of_le hb HB3.out.size) h40 H8.out h20)
    rw [hab] at HRA ⊢
    clear hab
    go_wp2_with (have hq := HROW; clear HROW; refine wpList_load_row rfl 65 _ rfl n rfl 65 bs (0, 0) _ hq.out Try.underlying65 rfl (by rw [HSZ.out]; kernel_rfl) ?_; clear hq)
    refine HRA.out.mono ?_
    rintro e w4 ⟨rfl, hB4⟩
    have HB4 := Lib.hid (below_step HB3.out hB4)
    have HR0d := Lib.hid ((hB4.block _ (blk_lt HR0c.out)).trans HR0c.out)
    clear hB4
    cases ab with
    | false =>
      go_wp2_with fail
      go_ret
      exact ⟨rfl, HB4.out⟩
    | true =>
      have d24 : w4.cell? ⟨n, 24, none⟩ = some (.slice ma ms.length mc) := (blk_cell HR0d.out 24).trans HM24.out
      by_cases hm0 : ms.length = 0
      · have e0 : ((ms.length : Int) == 0) = true := by simp [hm0]
        go_wp2_with fail
        go_ret
        exact ⟨rfl, HB4.out⟩
      have e0 : ((ms.length : Int) == 0) = false := by simp; intro e; rw [e] at hm0; exact hm0 rfl
      obtain ⟨k, hk⟩ : ∃ q, a1 % ms.length = q := ⟨_, rfl⟩
      have hkl : k < ms.length := by rw [← hk]; exact Nat.mod_lt _ (by omega)
      have hrem : Int.tmod (a1 : Int) (ms.length : Int) = (k : Int) := by rw [← hk]; exact (Int.ofNat_tmod _ _).symm
      clear hk
      go_wp2_with fail
      have hC4 : CellsR n bs [] w4 := ⟨trivial, HR0d.out⟩
      have hn4 : n < w4.heap.size := blk_lt HR0d.out
      clear d24
      refine wp_cut [39, 40, 9, 10] (fun vs w' => ∃ b2 b3, vs = [.agg bs, .agg bs, .pointer (some ⟨b2, 0, none⟩), .pointer (some ⟨b3, 0, none⟩)] ∧ CP n bs w w' b2 b3) ?_ ?_
      · skip
        refine wp_region_T (CellsR n bs []) (fun i => i == 5) (by kernel_rfl) ?_
        have hSss1 := CellsR.drew hC4
        have hB_0_s1 : Below w4.heap.size w4 w4.drew := below_drew _
        generalize w4.drew = s1 at hSss1 hB_0_s1 ⊢
        have hB_s1_s1 := Below.refl s1.heap.size s1
        refine wpAnyT_loadW (i := 0) (v := (.agg bs)) rfl (by kernel_rfl) (by kernel_rfl) (by kernel_rfl) (by kernel_rfl) (by kernel_rfl) (fun _ _ _ h => h) (Or.inl ⟨by rfl, ?_⟩) hSss1 ?_
        · intro w hSw; exact exec_load_row 65 (.tmp 3) rfl n (by kernel_rfl) 65 bs (0, 0) _ hSw.2 Try.underlying65 rfl (by rw [HSZ.out]; kernel_rfl)
        simp only [Act.put, rgA, rgB, rgC, rgD, rgE, rgF]
        refine wpAnyT_loadW (i := 1) (v := (.agg bs)) rfl (by kernel_rfl) (by kernel_rfl) (by kernel_rfl) (by kernel_rfl) (by kernel_rfl) (fun _ _ _ h => h) (Or.inl ⟨by rfl, ?_⟩) hSss1 ?_
        · intro w hSw; exact exec_load_row 65 (.tmp 3) rfl n (by kernel_rfl) 65 bs (0, 0) _ hSw.2 Try.underlying65 rfl (by rw [HSZ.out]; kernel_rfl)
        simp only [Act.put, rgA, rgB, rgC, rgD, rgE, rgF]
        refine wpAnyT_two (i := 2) (k := 3) (by kernel_rfl) rfl rfl (by rfl) (by rfl) ?_ ?_
        · skip
          obtain ⟨b2, hb2⟩ : ∃ b, s1.heap.size = b := ⟨_, rfl⟩
          have hge2 : w4.heap.size ≤ b2 := hb2 ▸ Nat.le_trans (hB_0_s1).size (hB_s1_s1).size
          refine wp_newrow (v := .pointer (some ⟨b2, 0, none⟩)) (cs := bk0) (te := 65) (by rw [← hb2]; rfl) ?_
          intro w102 hX hN2
          rw [hb2] at hN2
          have hB_s1_w102 := below_step hB_s1_s1 hX
          have hB_w102_w102 := Below.refl w102.heap.size w102
          have hSsw102 := CellsR.below hB_s1_w102 hSss1
          clear hX
          refine ⟨fun _ _ => hSsw102, ?_⟩
          try simp only [Act.put, rgA, rgB, rgC, rgD, rgE, rgF]
          refine wpAnyT_one (i := 3) (by kernel_rfl) rfl (by rfl) ?_
          obtain ⟨b3, hb3⟩ : ∃ b, w102.heap.size = b := ⟨_, rfl⟩
          have hge3 : w4.heap.size ≤ b3 := hb3 ▸ Nat.le_trans (hB_0_s1).size (hB_s1_w102).size
          refine wp_newrow (v := .pointer (some ⟨b3, 0, none⟩)) (cs := bk0) (te := 65) (by rw [← hb3]; rfl) ?_
          intro w103 hX hN3
          rw [hb3] at hN3
          have hB_s1_w103 := below_step hB_s1_w102 hX
          have hB_w102_w103 := below_step hB_w102_w102 hX
          have hB_w103_w103 := Below.refl w103.heap.size w103
          have hSsw103 := CellsR.below hB_s1_w103 hSss1
          clear hX
          refine ⟨fun _ _ => hSsw103, ?_⟩
          try simp only [Act.put, rgA, rgB, rgC, rgD, rgE, rgF]
          refine wpAnyT_one (i := 4) (by kernel_rfl) rfl (by rfl) ?_
          have hq2 := ((hB_w102_w103).block _ (blk_lt hN2)).trans hN2
          have hbP : Below n w w103 := by first | exact hBKeep | (rw [← HN.out]; exact below_step HB4.out (hB_0_s1.trans ((hB_s1_w103).mono hB_0_s1.size)))
          have hr2 := setRow_heap w103 b2 _ bs _ _ hq2
          have hbN := below_setRow hbP (show n ≤ b2 by omega) bs
          have hXS : CellsR n bs [] ((w103).setRow b2 bs) := ⟨trivial, (setRow_other w103 b2 n bs (by omega)).trans (hSsw103).2⟩
          have hsz4 : ((w103).setRow b2 bs).heap.size = (w103).heap.size := by simp
          have hlt2 : b2 < (w103).heap.size := blk_lt hq2
          try have hne : b2 ≠ b3 := by first | omega | (intro e; have h2 := blk_lt hN2; have h3 := blk_lt hN3; omega)
          try have hq3 := (setRow_other w103 b2 b3 bs (fun e => hne e.symm)).trans (((hB_w103_w103).block _ (blk_lt hN3)).trans hN3)
          refine wp_store_row 65 (.tmp 9) (.tmp 39) rfl b2 bs (by kernel_rfl) (by kernel_rfl) 65 _ hq2 (by rw [HSZ.out]; kernel_rfl) (by rw [HSZ.out]; rfl) HONE.out ?_
          generalize (w103).setRow b2 bs = w104 at *
          have hSsw104 := hXS
          have hB_w104_w104 := Below.refl w104.heap.size w104
          refine ⟨fun _ _ => hSsw104, ?_⟩
          try simp only [Act.put, rgA, rgB, rgC, rgD, rgE, rgF]
          refine wpAnyT_one (i := 5) (by kernel_rfl) rfl (by rfl) ?_
          have hq5 : (w104).heap[b3]? = some (.cells bk0 65 (0, 0)) := by first | exact hq3 | exact ((hB_w103_w104).block _ (blk_lt hN3)).trans hN3
          have hlt3 := blk_lt hq5
          have hne5 : b2 ≠ b3 := by first | exact hne | omega | (intro e; have h2 := blk_lt hr2; omega)
          have hl2 := blk_lt hr2
          have hr25 := ((hB_w104_w104).block _ (blk_lt hr2)).trans hr2
          have hC5 : CP n bs w ((w104).setRow b3 bs) b2 b3 := ⟨(setRow_other w104 b3 n bs (by omega)).trans (hSsw104).2, (setRow_other w104 b3 b2 bs hne5).trans hr25, setRow_heap w104 b3 _ bs _ _ hq5, hne5, ⟨by omega, by omega⟩, below_setRow (hbN.trans ((hB_w104_w104).mono (by omega))) (by omega) bs⟩
          refine wp_store_row 65 (.tmp 10) (.tmp 40) rfl b3 bs (by kernel_rfl) (by kernel_rfl) 65 _ hq5 (by rw [HSZ.out]; kernel_rfl) (by rw [HSZ.out]; rfl) HONE.out ?_
          generalize (w104).setRow b3 bs = w105 at *
          refine ⟨fun h => absurd h (by decide), ?_⟩
          try simp only [Act.put, rgA, rgB, rgC, rgD, rgE, rgF]
          refine wpAnyT_done (by kernel_rfl) ?_ _
          refine cut_leaf ?_ ?_
          focus kernel_rfl
          exact ⟨b2, b3, rfl, hC5⟩
        · skip
          obtain ⟨b3, hb3⟩ : ∃ b, s1.heap.size = b := ⟨_, rfl⟩
          have hge3 : w4.heap.size ≤ b3 := hb3 ▸ Nat.le_trans (hB_0_s1).size (hB_s1_s1).size
          refine wp_newrow (v := .pointer (some ⟨b3, 0, none⟩)) (cs := bk0) (te := 65) (by rw [← hb3]; rfl) ?_
          intro w106 hX hN3
          rw [hb3] at hN3
          have hB_s1_w106 := below_step hB_s1_s1 hX
          have hB_w106_w106 := Below.refl w106.heap.size w106
          have hSsw106 := CellsR.below hB_s1_w106 hSss1
          clear hX
          refine ⟨fun _ _ => hSsw106, ?_⟩
          try simp only [Act.put, rgA, rgB, rgC, rgD, rgE, rgF]
          refine wpAnyT_one (i := 2) (by kernel_rfl) rfl (by rfl) ?_
          obtain ⟨b2, hb2⟩ : ∃ b, w106.heap.size = b := ⟨_, rfl⟩
          have hge2 : w4.heap.size ≤ b2 := hb2 ▸ Nat.le_trans (hB_0_s1).size (hB_s1_w106).size
          refine wp_newrow (v := .pointer (some ⟨b2, 0, none⟩)) (cs := bk0) (te := 65) (by rw [← hb2]; rfl) ?_
          intro w107 hX hN2
          rw [hb2] at hN2
          have hB_s1_w107 := below_step hB_s1_w106 hX
          have hB_w106_w107 := below_step hB_w106_w106 hX
          have hB_w107_w107 := Below.refl w107.heap.size w107
          have hSsw107 := CellsR.below hB_s1_w107 hSss1
          clear hX
          refine ⟨fun _ _ => hSsw107, ?_⟩
          try simp only [Act.put, rgA, rgB, rgC, rgD, rgE, rgF]
          refine wpAnyT_one (i := 4) (by kernel_rfl) rfl (by rfl) ?_
          have hq2 := ((hB_w107_w107).block _ (blk_lt hN2)).trans hN2
          have hbP : Below n w w107 := by first | exact hBKeep | (rw [← HN.out]; exact below_step HB4.out (hB_0_s1.trans ((hB_s1_w107).mono hB_0_s1.size)))
          have hr2 := setRow_heap w107 b2 _ bs _ _ hq2
          have hbN := below_setRow hbP (show n ≤ b2 by omega) bs
          have hXS : CellsR n bs [] ((w107).setRow b2 bs) := ⟨trivial, (setRow_other w107 b2 n bs (by omega)).trans (hSsw107).2⟩
          have hsz4 : ((w107).setRow b2 bs).heap.size = (w107).heap.size := by simp
          have hlt2 : b2 < (w107).heap.size := blk_lt hq2
          try have hne : b2 ≠ b3 := by first | omega | (intro e; have h2 := blk_lt hN2; have h3 := blk_lt hN3; omega)
          try have hq3 := (setRow_other w107 b2 b3 bs (fun e => hne e.symm)).trans (((hB_w106_w107).block _ (blk_lt hN3)).trans hN3)
          refine wp_store_row 65 (.tmp 9) (.tmp 39) rfl b2 bs (by kernel_rfl) (by kernel_rfl) 65 _ hq2 (by rw [HSZ.out]; kernel_rfl) (by rw [HSZ.out]; rfl) HONE.out ?_
          generalize (w107).setRow b2 bs = w108 at *
          have hSsw108 := hXS
          have hB_w108_w108 := Below.refl w108.heap.size w108
          refine ⟨fun _ _ => hSsw108, ?_⟩
          try simp only [Act.put, rgA, rgB, rgC, rgD, rgE, rgF]
          refine wpAnyT_one (i := 5) (by kernel_rfl) rfl (by rfl) ?_
          have hq5 : (w108).heap[b3]? = some (.cells bk0 65 (0, 0)) := by first | exact hq3 | exact ((hB_w106_w108).block _ (blk_lt hN3)).trans hN3
          have hlt3 := blk_lt hq5
          have hne5 : b2 ≠ b3 := by first | exact hne | omega | (intro e; have h2 := blk_lt hr2; omega)
          have hl2 := blk_lt hr2
          have hr25 := ((hB_w108_w108).block _ (blk_lt hr2)).trans hr2
          have hC5 : CP n bs w ((w108).setRow b3 bs) b2 b3 := ⟨(setRow_other w108 b3 n bs (by omega)).trans (hSsw108).2, (setRow_other w108 b3 b2 bs hne5).trans hr25, setRow_heap w108 b3 _ bs _ _ hq5, hne5, ⟨by omega, by omega⟩, below_setRow (hbN.trans ((hB_w108_w108).mono (by omega))) (by omega) bs⟩
          refine wp_store_row 65 (.tmp 10) (.tmp 40) rfl b3 bs (by kernel_rfl) (by kernel_rfl) 65 _ hq5 (by rw [HSZ.out]; kernel_rfl) (by rw [HSZ.out]; rfl) HONE.out ?_
          generalize (w108).setRow b3 bs = w109 at *
          refine ⟨fun h => absurd h (by decide), ?_⟩
          try simp only [Act.put, rgA, rgB, rgC, rgD, rgE, rgF]
          refine wpAnyT_done (by kernel_rfl) ?_ _
          refine cut_leaf ?_ ?_
          focus kernel_rfl
          exact ⟨b2, b3, rfl, hC5⟩
      rintro vs wC ⟨b2, b3, rfl, hCP⟩
      simp only [puts, Act.put, List.setIfInBounds_toArray, List.set_cons_zero, List.set_cons_succ]
      have HBC := Lib.hid (show Below w.heap.size w wC from by rw [HN.out]; exact hCP.b)
      have hC10 : CellsR n bs [(⟨n, 24, none⟩, .slice ma ms.length mc)] wC := ⟨⟨(blk_cell hCP.r0 24).trans HM24.out, trivial⟩, hCP.r0⟩
      have hlt2 := blk_lt hCP.r2
      have HCP := Lib.hid hCP
      have hn24 : n < b2 ∧ n < b3 := hCP.lt
      have HSLT := Lib.hid (show ∀ b, b < w.heap.size → b < w.heap.size from fun b hb => hb)
      clear hC4 hCP
      go_wp2_with fail
      refine wp_region_T (CellsR n bs [(⟨n, 24, none⟩, .slice ma ms.length mc)]) (fun i => i == 13) (by kernel_rfl) ?_
      have hSss10 := CellsR.drew hC10
      have hB_0_s10 : Below wC.heap.size wC wC.drew := below_drew _
      generalize wC.drew = s10 at hSss10 hB_0_s10 ⊢
      have hB_s10_s10 := Below.refl s10.heap.size s10
      refine wpAnyT_pure (i := 1) (v := ?_) rfl (by kernel_rfl) (by kernel_rfl) (by kernel_rfl) (fun _ _ _ h => h) (by rfl) ?_ ?_
      rotate_left
      · intro w; go_simp; try with_reducible rfl
      simp only [Act.put, rgA, rgB, rgC, rgD, rgE, rgF]
      refine wpAnyT_pure (i := 3) (v := ?_) rfl (by kernel_rfl) (by kernel_rfl) (by kernel_rfl) (fun _ _ _ h => h) (by rfl) ?_ ?_
      rotate_left
      · intro w; go_simp; try with_reducible rfl
      simp only [Act.put, rgA, rgB, rgC, rgD, rgE, rgF]
      refine wpAnyT_pure (i := 6) (v := ?_) rfl (by kernel_rfl) (by kernel_rfl) (by kernel_rfl) (fun _ _ _ h => h) (by rfl) ?_ ?_
      rotate_left
      · intro w; go_simp; try with_reducible rfl
      simp only [Act.put, rgA, rgB, rgC, rgD, rgE, rgF]
      refine wpAnyT_pure (i := 8) (v := ?_) rfl (by kernel_rfl) (by kernel_rfl) (by kernel_rfl) (fun _ _ _ h => h) (by rfl) ?_ ?_
      rotate_left
      · intro w; go_simp; try with_reducible rfl
      simp only [Act.put, rgA, rgB, rgC, rgD, rgE, rgF]
      refine wpAnyT_loadW (i := 2) (v := ?_) rfl (by kernel_rfl) (by kernel_rfl) (by kernel_rfl) (by kernel_rfl) (by kernel_rfl) (fun _ _ _ h => h) (Or.inl ⟨by rfl, ?_⟩) hSss10 ?_
      rotate_left
      · intro w hSw; obtain ⟨⟨e0, -⟩, hrw⟩ := hSw; go_simp; try with_reducible rfl
      simp only [Act.put, rgA, rgB, rgC, rgD, rgE, rgF]
      refine wpAnyT_loadW (i := 7) (v := ?_) rfl (by kernel_rfl) (by kernel_rfl) (by kernel_rfl) (by kernel_rfl) (by kernel_rfl) (fun _ _ _ h => h) (Or.inl ⟨by rfl, ?_⟩) hSss10 ?_
      rotate_left
      · intro w hSw; obtain ⟨⟨e0, -⟩, hrw⟩ := hSw; go_simp; try with_reducible rfl
      simp only [Act.put, rgA, rgB, rgC, rgD, rgE, rgF]
      refine wpAnyT_pure (i := 4) (v := (.slice ma k mc)) rfl (by kernel_rfl) (by kernel_rfl) (by kernel_rfl) (fun _ _ _ h => h) (by rfl) ?_ ?_
      · intro w; go_simp; intro h; omega
      simp only [Act.put, rgA, rgB, rgC, rgD, rgE, rgF]
      refine wpAnyT_pure (i := 9) (v := (.int .i64 ((k + 1 : Nat) : Int))) rfl (by kernel_rfl) (by kernel_rfl) (by kernel_rfl) (fun _ _ _ h => h) (by rfl) ?_ ?_
      · intro w; go_simp <;> first | omega | (rw [IntKind.wrap_i64] <;> omega)
      simp only [Act.put, rgA, rgB, rgC, rgD, rgE, rgF]
      refine wpAnyT_pure (i := 10) (v := (.slice (if mc = k + 1 then ma else ma.map (·.add ((k + 1) * 4))) (ms.length - (k + 1)) (mc - (k + 1)))) rfl (by kernel_rfl) (by kernel_rfl) (by kernel_rfl) (fun _ _ _ h => h) (by rfl) ?_ ?_
      · intro w; go_simp <;> omega
      simp only [Act.put, rgA, rgB, rgC, rgD, rgE, rgF]
      refine wpAnyT_one (i := 0) (by kernel_rfl) rfl (by rfl) ?_
      obtain ⟨b0, hb0⟩ : ∃ b, s10.heap.size = b := ⟨_, rfl⟩
      have hge0 : s10.heap.size ≤ b0 := hb0 ▸ (hB_s10_s10).size
      refine wp_newrow (v := .slice (some ⟨b0, 0, none⟩) 0 0) (cs := #[]) (te := 67) (by rw [← hb0]; go_simp) ?_
      intro w111 hX hN0
      rw [hb0] at hN0
      have hB_s10_w111 := below_step hB_s10_s10 hX
      have hB_w111_w111 := Below.refl w111.heap.size w111
      have hSsw111 := CellsR.below hB_s10_w111 hSss10
      clear hX
      refine ⟨fun _ _ => hSsw111, ?_⟩
      try simp only [Act.put, rgA, rgB, rgC, rgD, rgE, rgF]
      refine wpAnyT_one (i := 5) (by kernel_rfl) rfl (by rfl) ?_
      have hq0 := ((hB_w111_w111).block _ (blk_lt hN0)).trans hN0
      have hbq : Below w.heap.size w w111 := HBC.out.trans ((hB_0_s10.trans ((hB_s10_w111).mono hB_0_s10.size)).mono HBC.out.size)
      refine wp_appLit (.tmp 41) (.tmp 45) 62 rfl (e := matchT) (te := 67) info_match Try.underlying62 rfl (by decide) (S := fun b => b < w.heap.size) (base := s10.heap.size) (b := b0) (by kernel_rfl) hq0 hge0 (sv := .slice ma k mc) (by kernel_rfl) (ys := (ms.map M4.d).take k) ((HMR.out.below hbq HSLT.out).take k (by omega)) (fun x hx => ⟨by have h2 := HBC.out.size; have h3 := (hB_0_s10).size; omega, by have h2 := hbq.size; omega⟩) (by rw [List.length_take, List.length_map]; omega) (by rw [List.length_take, List.length_map]; omega) ?_
      intro ca5 cl5 cc5 w112 O5' hX
      have HO5 := Lib.hid O5'
      clear O5' hq0 hbq
      have hB_s10_w112 := below_step hB_s10_w111 hX
      have hB_w111_w112 := below_step hB_w111_w111 hX
      have hB_w112_w112 := Below.refl w112.heap.size w112
      have hSsw112 := CellsR.below hB_s10_w112 hSss10
      clear hX
      refine ⟨fun _ _ => hSsw112, ?_⟩
      try simp only [Act.put, rgA, rgB, rgC, rgD, rgE, rgF]
      refine wpAnyT_one (i := 11) (by kernel_rfl) rfl (by rfl) ?_
      have hbq : Below w.heap.size w w112 := HBC.out.trans ((hB_0_s10.trans ((hB_s10_w112).mono hB_0_s10.size)).mono HBC.out.size)
      obtain ⟨news, hsrc, hrl⟩ := ((HMR.out.below hbq HSLT.out).drop (k + 1) (by omega)).src
      refine wp_app (.tmp 46) (.tmp 51) 62 rfl (e := matchT) (te := 67) info_match Try.underlying62 rfl (by decide) (base := s10.heap.size) (S := fun b => b < w.heap.size) (v := .slice ca5 cl5 cc5) (xs := (ms.map M4.d).take k) (by kernel_rfl) (HO5.out.below hB_w112_w112) (hB_s10_w112).size (sv := .slice (if mc = k + 1 then ma else ma.map (·.add ((k + 1) * matchT.sz))) (ms.length - (k + 1)) (mc - (k + 1))) (by kernel_rfl) (ys := (ms.map M4.d).drop (k + 1)) hsrc hrl (by rw [List.length_take, List.length_drop, List.length_map]; omega) (by rw [List.length_take, List.length_drop, List.length_map]; omega) ?_
      intro ca cl cc w113 O6 g6 ob6
      have hX6 : Below s10.heap.size s10 w113 := (hB_s10_w112).grown g6 (hB_s10_w112).size (fun c hc => (HO5.out.own c hc).1)
      have HBA := Lib.hid (show Below wC.heap.size wC w113 from hB_0_s10.trans (hX6.mono hB_0_s10.size))
      have HOA := Lib.hid (O6.base hB_0_s10.size)
      have hXS := CellsR.below HBA.out hC10
      clear O6 g6 ob6 hrl hsrc hbq hX6
      have hSsw113 := hXS
      have hB_w113_w113 := Below.refl w113.heap.size w113
      refine ⟨fun _ _ => hSsw113, ?_⟩
      try simp only [Act.put, rgA, rgB, rgC, rgD, rgE, rgF]
      refine wpAnyT_pure (i := 12) (v := ?_) rfl (by kernel_rfl) (by kernel_rfl) (by kernel_rfl) (fun _ _ _ h => h) (by rfl) ?_ ?_
      rotate_left
      · intro w; go_simp; try with_reducible rfl
      simp only [Act.put, rgA, rgB, rgC, rgD, rgE, rgF]
      refine wpAnyT_one (i := 13) (by kernel_rfl) rfl (by rfl) ?_
      have hr2 := (HBA.out.block _ (blk_lt HCP.out.r2)).trans HCP.out.r2
      have hf24 := blk_frozen hr2 24
      have hd24 : (w113).cell? ⟨b2, 24, none⟩ = some (.slice ma ms.length mc) := (blk_cell hr2 24).trans HM24.out
      refine wp_store1 (w' := (w113).setCell ⟨b2, 24, none⟩ (.slice ca cl cc)) 62 (.tmp 53) (.tmp 52) rfl ⟨b2, 24, none⟩ (.slice ca cl cc) (by kernel_rfl) (by kernel_rfl) (by go_simp) ?_
      have HR2 := Lib.hid (blk_set (i := 24) hr2 (.slice ca cl cc))
      have HR0e := Lib.hid ((heap_setCell_other w113 ⟨b2, 24, none⟩ n (.slice ca cl cc) (show n ≠ b2 by omega)).trans ((HBA.out.block _ (blk_lt HCP.out.r0)).trans HCP.out.r0))
      have HR3 := Lib.hid ((heap_setCell_other w113 ⟨b2, 24, none⟩ b3 (.slice ca cl cc) (show b3 ≠ b2 from fun e => HCP.out.ne e.symm)).trans ((HBA.out.block _ (blk_lt HCP.out.r3)).trans HCP.out.r3))
      have HBD := Lib.hid ((HBC.out.trans (HBA.out.mono HBC.out.size)).setCell (p := ⟨b2, 24, none⟩) (show w.heap.size ≤ b2 by rw [HN.out]; omega) (.slice ca cl cc))
      have HOD := Lib.hid (HOA.out.keep (w' := (w113).setCell ⟨b2, 24, none⟩ (.slice ca cl cc)) (fun b hb => heap_setCell_other w113 ⟨b2, 24, none⟩ b (.slice ca cl cc) (by
        rcases hb with hb | hb
        · have h1 := HN.out; show b ≠ b2; omega
        · have h1 := (HOA.out.own b hb).1; show b ≠ b2; omega)) (by simp))
      generalize (w113).setCell ⟨b2, 24, none⟩ (.slice ca cl cc) = w114 at HR2 HR0e HR3 HBD HOD ⊢
      clear hr2 hd24 hf24
      refine ⟨fun h => absurd h (by decide), ?_⟩
      try simp only [Act.put, rgA, rgB, rgC, rgD, rgE, rgF]
      refine wpAnyT_done (by kernel_rfl) ?_ _
      obtain ⟨wD, rfl⟩ : ∃ q, q = w114 := ⟨_, rfl⟩
      generalize (if mc = k + 1 then ma else ma.map (·.add ((k + 1) * 4))) = am51
      have d24 := (blk_cell HR0e.out 24).trans HM24.out
      have hnD : n < wD.heap.size := blk_lt HR0e.out
      have HRD := Lib.hid (HMR.out.below HBD.out HSLT.out)
      have hSD : ∀ b, b < w.heap.size → b < wD.heap.size := fun b hb => Nat.lt_of_lt_of_le hb HBD.out.size
      have HSD := Lib.hid hSD
      clear hSD
      obtain ⟨s5, hs5⟩ : ∃ q, s1 % 5 = q := ⟨_, rfl⟩
      have h55 : s5 < 5 := by rw [← hs5]; exact Nat.mod_lt _ (by omega)
      have hr5 : Int.tmod (s1 : Int) 5 = (s5 : Int) := by rw [← hs5]; exact (Int.ofNat_tmod _ _).symm
      clear hs5
      go_upto_region 13 with (at_builtin; have hq := HRD; clear hq; go_must (refine wpList_appLit rfl _ _ 62 rfl (e := matchT) (te := 67) info_match Try.underlying62 rfl (by decide) (S := fun b => b < w.heap.size) (b := wD.heap.size) (base := wD.heap.size) rfl (heap_alloc_new _ _) (Nat.le_refl _) rfl (ys := ms.map M4.d) (HRD.out.below ((Below.refl _ _).alloc (Nat.le_refl _) _) HSD.out) (fun x hx => ⟨Nat.ne_of_lt (HSD.out x hx), Nat.lt_trans (HSD.out x hx) (by simp)⟩) (by rw [List.length_map]; omega) (by rw [List.length_map]; omega) ?_); intro ca3 cl3 cc3 wq O6 hX; have HO6 := Lib.hid O6; have HBq := Lib.hid (((Below.refl wD.heap.size wD).alloc (Nat.le_refl _) _).trans (hX.mono (by simp))); clear O6 hX HRD; go_must (have hr3 := (HBq.out.block _ (blk_lt HR3.out)).trans HR3.out); go_must (have f3 := blk_frozen hr3 24); go_must (have d3 : wq.cell? ⟨b3, 24, none⟩ = some (.slice ma ms.length mc) := (blk_cell hr3 24).trans HM24.out); go_must (obtain ⟨g, rfl, rfl, hgb, hgc, hgm, ⟨cur, hgr⟩, ⟨u3, hu3⟩, -⟩ := own_state HO6.out hkl); go_must (have fg := blk_frozen hgr (k * 4 + 3)); go_must (have hb3g : b3 < g := Nat.lt_of_lt_of_le (blk_lt HR3.out) hgb); go_must (have hg3 : g ≠ b3 := by omega); go_must (have HR3q := Lib.hid hr3); go_must (have HGR := Lib.hid hgr); go_must (clear hr3 hgr))
      obtain ⟨wE, hE⟩ : ∃ q, (wq.setCell ⟨b3, 24, none⟩ (.slice (some ⟨g, 0, none⟩) ms.length cc3)).setCell ⟨g, k * 4 + 3, none⟩ (.int .i64 (1 + (s5 : Int))) = q := ⟨_, rfl⟩
      rw [hE]
      have hszE : wE.heap.size = wq.heap.size := by rw [← hE]; simp
      have hn := HN.out
      have hgl := blk_lt HGR.out
      have hzq := HBq.out.size
      have hzD := HBD.out.size
      have hl3 := blk_lt HCP.out.r3
      have hl3D := blk_lt HR3.out
      have hl2D := blk_lt HR2.out
      have hb23 := HCP.out.ne
      have HX := HO6.out.keep (w' := wq.setCell ⟨b3, 24, none⟩ (.slice (some ⟨g, 0, none⟩) ms.length cc3)) (fun b hb => heap_setCell_other wq ⟨b3, 24, none⟩ b _ (by
        rcases hb with hb | hb
        · show b ≠ b3; omega
        · have h1 := (HO6.out.own b hb).1; show b ≠ b3; omega)) (by simp)
      obtain ⟨g', hg', -, -, -, -, -, -, hset⟩ := own_state HX hkl
      cases hg'
      have hMS := hset (1 + (s5 : Int)) ⟨by omega, by omega⟩ (fun b => b < wE.heap.size) (fun b hb => by show b < wE.heap.size; rw [hszE]; exact Nat.lt_of_lt_of_le (HSD.out b hb) hzq) (by show g < wE.heap.size; rw [hszE]; exact hgl)
      rw [hE] at hMS
      have hoth : ∀ b, b ≠ g → b ≠ b3 → wE.heap[b]? = wq.heap[b]? := fun b h1 h2 => by
        rw [← hE, heap_setCell_other _ ⟨g, k * 4 + 3, none⟩ b _ h1, heap_setCell_other _ ⟨b3, 24, none⟩ b _ h2]
      have hR2E := (hoth b2 (by omega) hb23).trans ((HBq.out.block _ hl2D).trans HR2.out)
      have hR3E : wE.heap[b3]? = some (.cells (bs.setIfInBounds 24 (.slice (some ⟨g, 0, none⟩) ms.length cc3)) 65 (0, 0)) := by
        rw [← hE, heap_setCell_other _ ⟨g, k * 4 + 3, none⟩ b3 _ (show b3 ≠ g by omega)]
        exact blk_set HR3q.out _
      have hBE : Below w.heap.size w wE := by
        rw [← hE]
        exact (((HBD.out.trans (HBq.out.mono HBD.out.size)).setCell (p := ⟨b3, 24, none⟩) (show w.heap.size ≤ b3 by omega) _).setCell (p := ⟨g, k * 4 + 3, none⟩) (show w.heap.size ≤ g by omega) _)
      have hOE := (HOD.out.below HBq.out).keep (w' := wE) (fun b hb => by
        rcases hb with hb | hb
        · exact hoth b (by omega) (by omega)
        · have h1 := HOD.out.own b hb; exact hoth b (by omega) (by omega)) (by rw [hszE]; exact Nat.le_refl _)
      rw [show List.take k (List.map M4.d ms) ++ List.drop (k + 1) (List.map M4.d ms) = (ms.take k ++ ms.drop (k + 1)).map M4.d from by rw [List.map_append, List.map_take, List.map_drop]] at hOE
      have hSE : ∀ b, b < w.heap.size → b < wE.heap.size := fun b hb => by omega
      have hBK := H.out.below hBE (fun b hb => hb)
      obtain ⟨_, _, _, he7, hl7, -⟩ := hOE.slice
      cases he7
      rw [List.length_map] at hl7
      have HB2 := Lib.hid (hBK.put (T := fun b => b < wE.heap.size) hSE _ _ _ hl7 (hOE.rd _ hSE (fun b hb => (hOE.own b hb).2)))
      have HB3' := Lib.hid (hBK.put (T := fun b => b < wE.heap.size) hSE _ _ _ (by rw [List.length_set]) hMS)
      have HL20 := Lib.hid (show (ms.take k ++ ms.drop (k + 1)).length ≤ 20 from by rw [List.length_append, List.length_take, List.length_drop]; omega)
      have HS20 := Lib.hid (show (ms.set k ⟨ms[k].id, ms[k].l, ms[k].r, 1 + (s5 : Int)⟩).length ≤ 20 from by rw [List.length_set]; exact h20)
      have HA2 := Lib.hid (allB_erase HAB.out hkl)
      have HA3 := Lib.hid (allB_state HAB.out hkl (s := 1 + (s5 : Int)) (by omega) (by omega))
      generalize bs.setIfInBounds 24 (.slice (some ⟨g, 0, none⟩) ms.length cc3) = bs3 at hR3E HB3'
      generalize bs.setIfInBounds 24 (.slice ca cl cc) = bs2 at hR2E HB2
      have HROW := Lib.hid hR2E
      have HROW3 := Lib.hid hR3E
      have HBE := Lib.hid hBE
      have HH40 := Lib.hid h40
      clear hE hszE HX hset hMS hoth hR2E hR3E hBE hOE hSE hBK f3 d3 fg hu3
      go_wp2_with (have hq := HROW; clear HROW; refine wpList_load_row rfl 65 _ rfl b2 rfl 65 bs2 (0, 0) _ hq.out Try.underlying65 rfl (by rw [HB2.out.sz]; kernel_rfl) ?_; clear hq)
      refine (allValid28 wE bs2 es _ HB2.out (fun b hb => hb) HH40.out H8.out HL20.out).mono ?_
      rintro e wF ⟨rfl, hBF⟩
      rw [HA2.out]
      have HBF := Lib.hid (below_step HBE.out hBF)
      have HROW4 := Lib.hid ((hBF.block _ (blk_lt HROW3.out)).trans HROW3.out)
      have HB4' := Lib.hid (HB3'.out.below hBF (fun b hb => hb))
      have HSF := Lib.hid hBF.size
      clear hBF
      go_wp2_with (have hq := HROW4; clear HROW4; refine wpList_load_rowG (by rfl) 65 _ rfl b3 rfl 65 bs3 (0, 0) _ hq.out Try.underlying65 rfl (by rw [HB3'.out.sz]; kernel_rfl) ?_; clear hq)
      refine (allValid28 wF bs3 es _ HB4'.out (fun b hb => Nat.lt_of_lt_of_le hb HSF.out) HH40.out H8.out HS20.out).mono ?_
      rintro e wG ⟨rfl, hBG⟩
      rw [HA3.out]
      have HBG := Lib.hid (below_step HBF.out hBG)
      clear hBG
      go_wp2_with fail
      go_ret
      exact ⟨rfl, HBG.out⟩
end Go.Proofs.Ytpobckedeffjmaa
