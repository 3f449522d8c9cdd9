/- The law WorkflowScript, walked. -/
import Derived.Test.YtdcjocldggmdbaaR53h
set_option linter.unusedSimpArgs false
set_option maxRecDepth 50000
namespace Go.Proofs.Ytdcjocldggmdbaa
open Go.RowKit Go

/-- Where the parts of both workflows lie. -/
structure Sep53 (S : Nat → Prop) (B p m rb : Nat) : Prop where
  pr : p ≠ rb
  mr : m ≠ rb
  sr : ∀ b, S b → b ≠ rb
  mB : B ≤ m
  rB : B ≤ rb
/-- Both workflows between two steps. -/
structure ScrI (S : Nat → Prop) (w wx : World) (p m rb : Nat) (ts : List Tk) (ne : Nat) (a : Option Addr) (len cap : Nat) (xs : List taskT.den) (sg : List Sg) (n : Nat) : Prop where
  wf : ∃ n', n' ≤ n ∧ WfIn S wx p ts ne 12 m n' (lkS sg)
  rf : ∃ (S' : Nat → Prop) (ga : Option Addr) (gl gc : Nat), RfW S' wx ts sg a len cap ga gl gc xs ∧ (∀ b, S' b → b ≠ m ∧ b ≠ rb) ∧ wx.heap[rb]? = some (.cells #[.int .i64 (ne : Int), .int .i64 12, .slice a len cap, .slice ga gl gc] 30 (0, 0))
  bel : Below w.heap.size w wx
theorem ScrI.below {S : Nat → Prop} {w wx wy : World} {p m rb : Nat} {ts : List Tk} {ne : Nat} {a : Option Addr} {len cap : Nat} {xs : List taskT.den} {sg : List Sg} {n : Nat} (h : ScrI S w wx p m rb ts ne a len cap xs sg n) (hB : Below wx.heap.size wx wy) : ScrI S w wy p m rb ts ne a len cap xs sg n where
  wf := by
    obtain ⟨n', h1, h2⟩ := h.wf
    exact ⟨n', h1, h2.below hB⟩
  rf := by
    obtain ⟨S', ga, gl, gc, h1, h2, h3⟩ := h.rf
    exact ⟨S', ga, gl, gc, h1.below hB, h2, (hB.block _ (blk_lt h3)).trans h3⟩
  bel := below_step h.bel hB
theorem WfIn.map_lt {S : Nat → Prop} {w : World} {p : Nat} {ts : List Tk} {ne np m n : Nat} {f : Ky → Option ByteArray} (h : WfIn S w p ts ne np m n f) : m < w.heap.size := by
  obtain ⟨D, ⟨es, clock, hb, -⟩, -⟩ := h.mp
  exact (Array.getElem?_eq_some_iff.1 hb).1
theorem WfIn.ptr_lt {S : Nat → Prop} {w : World} {p : Nat} {ts : List Tk} {ne np m n : Nat} {f : Ky → Option ByteArray} (h : WfIn S w p ts ne np m n f) : p < w.heap.size := by
  obtain ⟨_, _, _, _, h1, -⟩ := h.wf.row
  exact blk_lt h1
/-- Both workflows after the row of the reference's has been stored anew. -/
theorem ScrI.put {S S' : Nat → Prop} {w wx wy : World} {p m rb : Nat} {ts : List Tk} {ne : Nat} {a : Option Addr} {len cap : Nat} {xs : List taskT.den} {sg : List Sg} {n n' : Nat} {ga : Option Addr} {gl gc : Nat} (hs : Sep53 S w.heap.size p m rb) (hn : n' ≤ n) (hw : WfIn S wx p ts ne 12 m n' (lkS sg)) (hr : RfW S' wx ts sg a len cap ga gl gc xs) (hS : ∀ b, S' b → b ≠ m ∧ b ≠ rb) (hg : Gr (fun b => b = rb) wx wy)
    (hy : wy.heap[rb]? = some (.cells #[.int .i64 (ne : Int), .int .i64 12, .slice a len cap, .slice ga gl gc] 30 (0, 0))) (hB : Below w.heap.size w wx) : ScrI S w wy p m rb ts ne a len cap xs sg n where
  wf := ⟨n', hn, hw.setRow' hg hs.pr hs.mr hs.sr⟩
  rf := ⟨S', ga, gl, gc, hr.gr hg (fun b hb => (hS b hb).2), hS, hy⟩
  bel := hB.trans (hg.below (fun b e => by rw [e]; exact hs.rB) hB.size)
set_option maxHeartbeats 4000000 in
theorem scriptWalk53 (w : World) (c0 : List Value) (x0 : planT.den) (r0 : Rd planT (fun b => b < w.heap.size) w c0 x0) (c1 : List Value) (x1 : (Ty.sl stepT).den) (r1 : Rd (.sl stepT) (fun b => b < w.heap.size) w c1 x1) :
    Calls Try.prog 4 #[valOf planT c0, valOf (.sl stepT) c1] w fun e w' => e = .returned (.bool true) ∧ Below w.heap.size w w' := by
  obtain ⟨n, xs, ⟨⟩⟩ := x0
  obtain ⟨k1, kr1, rfl, ⟨rfl, hn⟩, k2, kr2, rfl, hx, rfl⟩ := r0
  obtain ⟨a, len, cap, rfl, hl, hlc, hcm, -⟩ := id hx
  obtain ⟨la, ll, lc, rfl, hll, -⟩ := id r1
  change List taskT.den at xs
  change List stepT.den at x1
  change Calls _ _ #[.agg #[.int .i64 n, .slice a len cap], .slice la ll lc] _ _
  have hp := alloc_new' (w := w) (o := .cells #[.int .i64 n, .slice a len cap] 24) rfl
  have hB := (Below.refl w.heap.size w).alloc (Nat.le_refl _) (.cells #[.int .i64 n, .slice a len cap] 24)
  have HP := Lib.hid hp
  have HB := Lib.hid hB
  have HX := Lib.hid hx
  have HLS := Lib.hid r1
  have HL := Lib.hid (show xs.length = len from hl)
  have HLL := Lib.hid (show x1.length = ll from hll)
  clear hx hl hn hp hB r1 hll
  go_enter Try.func4, Try.ntmps4
  go_wp2_with fail
  generalize w.alloc _ = w1 at HP HB ⊢
  obtain ⟨pb, hpb⟩ : ∃ q, w.heap.size = q := ⟨_, rfl⟩
  have HPB := Lib.hid hpb
  rw [hpb] at HP ⊢
  clear hpb
  have hX := awake53 w1
  refine Calls.mono hX ?_
  clear hX
  rintro e w2 ⟨rfl, hB2⟩
  have HP2 := Lib.hid ((hB2.block _ (blk_lt HP.out)).trans HP.out)
  have HB2 := Lib.hid (below_step HB.out hB2)
  have y0 := blk_cell HP2.out 0
  have y1 := blk_cell HP2.out 1
  simp at y0 y1
  clear hB2 HP HB
  go_wp2_with fail
  have hX := fewS53 w2 n a len cap xs (HX.out.alloc HB2.out) (fun b hb => hb) la ll lc x1 (HLS.out.alloc HB2.out) (fun b hb => hb)
  refine Calls.mono hX ?_
  clear hX
  rintro e w3 ⟨fb, rfl, hB3, hfb⟩
  have HP3 := Lib.hid ((hB3.block _ (blk_lt HP2.out)).trans HP2.out)
  have HB3 := Lib.hid (below_step HB2.out hB3)
  have HFB := Lib.hid hfb
  have y0 := blk_cell HP3.out 0
  have y1 := blk_cell HP3.out 1
  simp at y0 y1
  clear hB3 hfb HP2 HB2
  cases fb
  · go_wp2_with fail
    go_ret
    exact ⟨rfl, HB3.out⟩
  have HFW := Lib.hid (HFB.out rfl)
  clear HFB
  have hlen8 : len ≤ 8 := by rw [← HL.out]; exact HFW.out.1.1
  have hll40 : ll ≤ 40 := by rw [← HLL.out]; exact HFW.out.2.1
  have hn13 : n ≤ 13 := HFW.out.2.2
  go_wp2_with fail
  have hX := start53 w3 n a len cap xs (HX.out.alloc HB3.out) (fun b hb => hb) (by omega) (fun i hi => Nat.le_trans (HFW.out.1.2 i hi) (by omega))
  refine Calls.mono hX ?_
  clear hX
  rintro e w4 ⟨q, z1, z2, sa, sl, sc, rfl, hB4, hst⟩
  have HB4 := Lib.hid (below_step HB3.out hB4)
  have hBa := (Below.refl w4.heap.size w4).alloc (Nat.le_refl _) (.cells #[.int .i64 z1, .int .i64 z2, .slice sa sl sc, .slice none 0 0] 30)
  have HRW := Lib.hid (heap_alloc_new w4 (.cells #[.int .i64 z1, .int .i64 z2, .slice sa sl sc, .slice none 0 0] 30))
  have HB5 := Lib.hid (below_step HB4.out hBa)
  have HB45 := Lib.hid hBa
  have HST := Lib.hid hst
  have HS3 := Lib.hid (show w.heap.size ≤ w3.heap.size from HB3.out.size)
  clear hst hB4 hBa y0 y1 HP3 HB3
  rcases HST.out with ⟨rfl, -⟩ | ⟨hok, hzz, S, p, m, rfl, hm3, hwf⟩
  · go_wp2_with fail
    go_ret
    exact ⟨rfl, HB5.out⟩
  have HWK := Lib.hid (wk_of hok HFW.out.1.2)
  have HWF := Lib.hid hwf
  have HM3 := Lib.hid hm3
  have HOK := Lib.hid hok
  have HZZ := Lib.hid hzz
  clear hok hwf hm3 HST hzz
  go_wp2_with fail
  generalize w4.alloc (.cells #[.int .i64 z1, .int .i64 z2, .slice sa sl sc, .slice none 0 0] 30) = w5 at HB5 HB45 HRW ⊢
  obtain ⟨e1, e2, e3, e4, e5⟩ := HZZ.out
  rw [e1, e2, e3, e4, e5] at HRW
  clear e1 e2 e3 e4 e5 HZZ
  obtain ⟨rb, hrb⟩ : ∃ x, w4.heap.size = x := ⟨_, rfl⟩
  have HSEP := Lib.hid (show Sep53 S w.heap.size p m rb from ⟨by have := HWF.out.ptr_lt; omega, by have := HWF.out.map_lt; omega, fun b hb => by have := HWF.out.wf.hS b hb; omega, Nat.le_trans HS3.out HM3.out, by have := HB4.out.size; omega⟩)
  have HI5 := Lib.hid (show ScrI S w w5 p m rb (xs.map tk) (gN n) a len cap xs [] 0 from
    ⟨⟨0, Nat.le_refl _, HWF.out.below HB45.out⟩, ⟨fun b => b < w.heap.size, none, 0, 0, ⟨HX.out.below HB5.out (fun _ h => h), rfl, rd_nil _ _ _, fun b hb => Nat.lt_of_lt_of_le hb HB5.out.size⟩, fun b hb => ⟨by have := HSEP.out.mB; omega, by have := HSEP.out.rB; omega⟩, by rw [← hrb]; exact HRW.out⟩, HB5.out⟩)
  rw [hrb]
  clear hrb HRW HB45 HB5 HM3 HS3 HWF HB4
  have HGN := Lib.hid (show gN n ≤ 12 from HOK.out.2.1)
  generalize xs.map tk = ts at HWK HI5 HOK
  generalize gN n = ne at HWK HI5 HOK HGN
  clear HOK HFW
  go_loopw [8] (fun iv wr => ∃ (i : Nat) (sg : List Sg), i ≤ ll ∧ iv = .int .i64 i ∧ SgInv ts ne 12 sg ∧ sg.length ≤ i ∧ ScrI S w wr p m rb ts ne a len cap xs sg i) (fun iv _ => ll - (intOf iv).toNat)
  case atStart => exact ⟨0, [], Nat.zero_le _, rfl, SgInv.nil _ _ _, Nat.le_refl _, HI5.out⟩
  obtain ⟨i, sg, hi, rfl, hsi, hsl, hI⟩ := hrel
  have HSI := Lib.hid hsi
  have HSL := Lib.hid hsl
  have HI := Lib.hid hI
  clear hsi hsl hI
  by_cases hlt : i < ll
  · have hltI : (i : Int) < (ll : Int) := by omega
    have hix : i < x1.length := by rw [HLL.out]; exact hlt
    have HLT := Lib.hid hlt
    obtain ⟨b, o, rfl, hbw, m0, m1, m2, m3, m4, hko, hwz⟩ := step_at (HLS.out.below HI.out.bel (fun _ h => h)) i hix
    generalize stp x1[i] = st at m0 m1 m2 m3 m4 hko hwz
    have HST := Lib.hid (show SgInv ts ne 12 (playS ts ne 12 sg st) from HSI.out.playS HWK.out st hwz)
    have HLN := Lib.hid (show (playS ts ne 12 sg st).length ≤ i + 1 from Nat.le_trans (playS_len ts ne 12 sg st) (by have := HSL.out; omega))
    obtain ⟨⟨q1, q2, q3⟩, who, back⟩ := st
    simp only at m0 m1 m2 m3 m4 hko hwz
    have HBM := Lib.hid (show ¬ b = m from by have := HSEP.out.mB; omega)
    have HKO := Lib.hid hko
    have HWZ := Lib.hid hwz
    clear hko hwz hix hlt hbw
    have HIK := Lib.hid (HI.out.below ((Below.refl wr.heap.size wr).alloc (Nat.le_refl _) (.cells #[.string q1, .int .i64 q2, .int .i64 q3] 46)))
    have HKB := Lib.hid (heap_alloc_new wr (.cells #[.string q1, .int .i64 q2, .int .i64 q3] 46))
    have HBK := Lib.hid ((Below.refl wr.heap.size wr).alloc (Nat.le_refl _) (.cells #[.string q1, .int .i64 q2, .int .i64 q3] 46))
    go_upto_region 12 with fail
    generalize wr.alloc (.cells #[.string q1, .int .i64 q2, .int .i64 q3] 46) = wk at HIK HKB HBK ⊢
    have m3 := cell_below m3 HBK.out
    have m4 := cell_below m4 HBK.out
    clear m0 m1 m2
    go_upto_if 56 with fail
    obtain ⟨kb, hkb⟩ : ∃ x, wr.heap.size = x := ⟨_, rfl⟩
    have HKM := Lib.hid (show kb ≠ m ∧ kb ≠ rb from by
      obtain ⟨_, -, h2⟩ := HI.out.wf
      obtain ⟨_, _, _, _, -, -, h3⟩ := HI.out.rf
      have h4 := h2.map_lt
      have h5 := blk_lt h3
      exact ⟨by omega, by omega⟩)
    rw [hkb] at HKB ⊢
    clear hkb m4 HBK HI
    obtain ⟨sg', hsg'⟩ : ∃ l, l = playS ts ne 12 sg ⟨⟨q1, q2, q3⟩, who, back⟩ := ⟨_, rfl⟩
    rw [← hsg'] at HST HLN
    have HSG := Lib.hid hsg'
    clear hsg'
    go_cut [] (fun wx => ScrI S w wx p m rb ts ne (a) len cap xs sg' (i + 1) ∧ wx.heap[kb]? = some (.cells #[.string q1, .int .i64 q2, .int .i64 q3] 46 (0, 0)))
    case first =>
      obtain ⟨n7, hn7, hwf7⟩ := HIK.out.wf
      obtain ⟨S', ga, gl, gc, hrf7, hS7, hr7⟩ := HIK.out.rf
      have HN7 := Lib.hid hn7
      have HWF7 := Lib.hid hwf7
      have HRF7 := Lib.hid hrf7
      have HS7 := Lib.hid hS7
      have HR7 := Lib.hid hr7
      have HGL := Lib.hid (show gl ≤ 1000 from by
        have h1 : sg.length = gl := by simpa using hrf7.rs.sl_flat.1
        have h2 := HSL.out
        omega)
      clear hn7 hwf7 hrf7 hS7 hr7
      cases back
      · have HSE := Lib.hid (show sg' = signS ts ne 12 sg ⟨q1, q2, q3⟩ who from by rw [HSG.out]; rfl)
        have HC := Lib.hid (fun W (hB : Below wk.heap.size wk W) => sign53 W p ts ne 12 m n7 (lkS sg) (HWF7.out.below hB) (by have := HGN.out; omega) (by have := HN7.out; omega) ⟨q1, q2, q3⟩ HKO.out who HWZ.out (fun h => HWK.out.need h))
        unfold Ky.v at HC
        simp only at HC
        have HKL := Lib.hid (show w.heap.size ≤ wk.heap.size from HIK.out.bel.size)
        have hC0 : Cells [(⟨kb, 0, none⟩, .string q1), (⟨kb, 1, none⟩, .int .i64 q2), (⟨kb, 2, none⟩, .int .i64 q3), (⟨b, o + i * 5 + 3, none⟩, .string who)] wk := ⟨blk_cell HKB.out 0, blk_cell HKB.out 1, blk_cell HKB.out 2, m3, trivial⟩
        clear m3
        obtain ⟨ri, hri⟩ : ∃ ri, signI ts ne 12 (lkS sg) ⟨q1, q2, q3⟩ who = ri := ⟨_, rfl⟩
        have HRI := Lib.hid hri
        clear hri
        go_wp2_with fail
        refine wp_region_T (Cells [(⟨kb, 0, none⟩, .string q1), (⟨kb, 1, none⟩, .int .i64 q2), (⟨kb, 2, none⟩, .int .i64 q3), (⟨b, o + i * 5 + 3, none⟩, .string who)]) (fun i => i == 7) (by kernel_rfl) ?_
        have hSss1 := Cells.drew hC0
        have hB_0_s1 : Below wk.heap.size wk wk.drew := below_drew _
        generalize wk.drew = s1 at hSss1 hB_0_s1 ⊢
        have hB_s1_s1 := Below.refl s1.heap.size s1
        refine wpAnyT_pure (i := 0) (v := ?_) rfl (by kernel_rfl) (by kernel_rfl) (by kernel_rfl) (fun _ _ _ h => h) (by rfl) ?_ ?_
        rotate_left
        · intro w; go_simp; try with_reducible rfl
        simp only [Act.put, rgA, rgB, rgC, rgD, rgE, rgF]
        refine wpAnyT_pure (i := 2) (v := ?_) rfl (by kernel_rfl) (by kernel_rfl) (by kernel_rfl) (fun _ _ _ h => h) (by rfl) ?_ ?_
        rotate_left
        · intro w; go_simp; try with_reducible rfl
        simp only [Act.put, rgA, rgB, rgC, rgD, rgE, rgF]
        refine wpAnyT_pure (i := 3) (v := ?_) rfl (by kernel_rfl) (by kernel_rfl) (by kernel_rfl) (fun _ _ _ h => h) (by rfl) ?_ ?_
        rotate_left
        · intro w; go_simp; try with_reducible rfl
        simp only [Act.put, rgA, rgB, rgC, rgD, rgE, rgF]
        refine wpAnyT_pure (i := 4) (v := ?_) rfl (by kernel_rfl) (by kernel_rfl) (by kernel_rfl) (fun _ _ _ h => h) (by rfl) ?_ ?_
        rotate_left
        · intro w; go_simp; try with_reducible rfl
        simp only [Act.put, rgA, rgB, rgC, rgD, rgE, rgF]
        refine wpAnyT_pure (i := 5) (v := ?_) rfl (by kernel_rfl) (by kernel_rfl) (by kernel_rfl) (fun _ _ _ h => h) (by rfl) ?_ ?_
        rotate_left
        · intro w; go_simp; try with_reducible rfl
        simp only [Act.put, rgA, rgB, rgC, rgD, rgE, rgF]
        refine wpAnyT_loadW (i := 1) (v := ?_) rfl (by kernel_rfl) (by kernel_rfl) (by kernel_rfl) (by kernel_rfl) (by kernel_rfl) (fun _ _ _ h => h) (Or.inl ⟨by rfl, ?_⟩) hSss1 ?_
        rotate_left
        · intro w hSw; obtain ⟨e0, e1, e2, e3, -⟩ := hSw; go_simp; try with_reducible rfl
        simp only [Act.put, rgA, rgB, rgC, rgD, rgE, rgF]
        refine wpAnyT_loadW (i := 6) (v := ?_) rfl (by kernel_rfl) (by kernel_rfl) (by kernel_rfl) (by kernel_rfl) (by kernel_rfl) (fun _ _ _ h => h) (Or.inl ⟨by rfl, ?_⟩) hSss1 ?_
        rotate_left
        · intro w hSw; obtain ⟨e0, e1, e2, e3, -⟩ := hSw; go_simp; try with_reducible rfl
        simp only [Act.put, rgA, rgB, rgC, rgD, rgE, rgF]
        refine wpAnyT_one (i := 7) (by kernel_rfl) rfl (by rfl) ?_
        have hbP : Below wk.heap.size wk s1 := hB_0_s1.trans ((hB_s1_s1).mono (hB_0_s1).size)
        refine wp_enter (f := 19) (args := #[.pointer (some ⟨p, 0, none⟩), .agg #[.string q1, .int .i64 q2, .int .i64 q3], .string who]) (by go_simp) (HC.out s1 hbP) ?_
        rintro e w102 ⟨rfl, hg8, n8, hn8, hwf8⟩
        rw [sign_lk] at hwf8
        rw [HRI.out]
        have HWF8 := Lib.hid (show WfIn S w102 p ts ne 12 m n8 (lkS sg') from by rw [HSE.out]; exact hwf8)
        have HN8 := Lib.hid (show n8 ≤ i + 1 from by have := HN7.out; omega)
        have HRF8 := Lib.hid ((HRF7.out.below hbP).gr hg8 (fun b hb => (HS7.out b hb).1))
        have HR8 := Lib.hid (blk_gr hg8 ((hbP.block _ (blk_lt HR7.out)).trans HR7.out) (fun e => HSEP.out.mr e.symm))
        have HKB8 := Lib.hid (blk_gr hg8 ((hbP.block _ (blk_lt HKB.out)).trans HKB.out) HKM.out.1)
        have HB8 := Lib.hid ((HIK.out.bel.trans (hbP.mono HKL.out)).trans (hg8.below (fun b e => by rw [e]; exact HSEP.out.mB) (Nat.le_trans HKL.out hbP.size)))
        have m3 := hg8.cell (cell_below hC0.2.2.2.1 hbP) (show ¬ b = m from HBM.out)
        clear hg8 hn8 hwf8 hbP
        refine ⟨_, rfl, fun h => absurd h (by decide), ?_⟩
        try simp only [Act.put, rgA, rgB, rgC, rgD, rgE, rgF]
        refine wpAnyT_pure (i := 8) (v := ?_) rfl (by kernel_rfl) (by kernel_rfl) (by kernel_rfl) (fun _ _ _ h => h) (by rfl) ?_ ?_
        rotate_left
        · intro w; go_simp; try with_reducible rfl
        simp only [Act.put, rgA, rgB, rgC, rgD, rgE, rgF]
        refine wpAnyT_done (by kernel_rfl) ?_ _
        obtain ⟨w8, rfl⟩ : ∃ x, x = w102 := ⟨_, rfl⟩
        have hC1 : Cells [(⟨rb, 0, none⟩, .int .i64 ne), (⟨rb, 1, none⟩, .int .i64 12), (⟨rb, 2, none⟩, .slice a len cap), (⟨rb, 3, none⟩, .slice ga gl gc), (⟨kb, 0, none⟩, .string q1), (⟨kb, 1, none⟩, .int .i64 q2), (⟨kb, 2, none⟩, .int .i64 q3), (⟨b, o + i * 5 + 3, none⟩, .string who)] w8 := ⟨blk_cell HR8.out 0, blk_cell HR8.out 1, blk_cell HR8.out 2, blk_cell HR8.out 3, blk_cell HKB8.out 0, blk_cell HKB8.out 1, blk_cell HKB8.out 2, m3, trivial⟩
        have HCS := Lib.hid (fun W (hB : Below w8.heap.size w8 W) => rsign53 W ne 12 ts sg a len cap ga gl gc xs (HRF8.out.below hB) HWK.out (by have := HGN.out; omega) HSI.out.ok HGL.out ⟨q1, q2, q3⟩ HKO.out who HWZ.out)
        unfold Ky.v at HCS
        simp only at HCS
        clear hC0 m3
        go_wp2_with fail
        refine wp_cut [88, 89, 90, 91, 92, 93, 94, 95, 96, 97, 98, 16, 17] (fun vs w' => ∃ v88 v89 v90 v91 v92 v93 v94 v95 v96 v97 v98 nb ga' gl' gc', ∃ S9 : Nat → Prop, vs = [v88, v89, v90, v91, v92, v93, v94, v95, v96, v97, v98, .pointer (some ⟨nb, 0, none⟩), .int .i64 ri] ∧ Below w8.heap.size w8 w' ∧ w'.heap[nb]? = some (.cells #[.int .i64 (ne : Int), .int .i64 12, .slice a len cap, .slice ga' gl' gc'] 30 (0, 0)) ∧ RfW S9 w' ts sg' a len cap ga' gl' gc' xs ∧ ∀ b, S9 b → b ≠ m ∧ b ≠ rb) ?_ ?_
        · skip
          refine wp_region_T (Cells [(⟨rb, 0, none⟩, .int .i64 ne), (⟨rb, 1, none⟩, .int .i64 12), (⟨rb, 2, none⟩, .slice a len cap), (⟨rb, 3, none⟩, .slice ga gl gc), (⟨kb, 0, none⟩, .string q1), (⟨kb, 1, none⟩, .int .i64 q2), (⟨kb, 2, none⟩, .int .i64 q3), (⟨b, o + i * 5 + 3, none⟩, .string who)]) (fun i => i == 12) (by kernel_rfl) ?_
          have hSss3 := Cells.drew hC1
          have hB_0_s3 : Below w8.heap.size w8 w8.drew := below_drew _
          generalize w8.drew = s3 at hSss3 hB_0_s3 ⊢
          have hB_s3_s3 := Below.refl s3.heap.size s3
          refine wpAnyT_pure (i := 2) (v := ?_) rfl (by kernel_rfl) (by kernel_rfl) (by kernel_rfl) (fun _ _ _ h => h) (by rfl) ?_ ?_
          rotate_left
          · intro w; go_simp; try with_reducible rfl
          simp only [Act.put, rgA, rgB, rgC, rgD, rgE, rgF]
          refine wpAnyT_pure (i := 3) (v := ?_) rfl (by kernel_rfl) (by kernel_rfl) (by kernel_rfl) (fun _ _ _ h => h) (by rfl) ?_ ?_
          rotate_left
          · intro w; go_simp; try with_reducible rfl
          simp only [Act.put, rgA, rgB, rgC, rgD, rgE, rgF]
          refine wpAnyT_pure (i := 4) (v := ?_) rfl (by kernel_rfl) (by kernel_rfl) (by kernel_rfl) (fun _ _ _ h => h) (by rfl) ?_ ?_
          rotate_left
          · intro w; go_simp; try with_reducible rfl
          simp only [Act.put, rgA, rgB, rgC, rgD, rgE, rgF]
          refine wpAnyT_pure (i := 5) (v := ?_) rfl (by kernel_rfl) (by kernel_rfl) (by kernel_rfl) (fun _ _ _ h => h) (by rfl) ?_ ?_
          rotate_left
          · intro w; go_simp; try with_reducible rfl
          simp only [Act.put, rgA, rgB, rgC, rgD, rgE, rgF]
          refine wpAnyT_loadW (i := 0) (v := ?_) rfl (by kernel_rfl) (by kernel_rfl) (by kernel_rfl) (by kernel_rfl) (by kernel_rfl) (fun _ _ _ h => h) (Or.inl ⟨by rfl, ?_⟩) hSss3 ?_
          rotate_left
          · intro w hSw; obtain ⟨e0, e1, e2, e3, e4, e5, e6, e7, -⟩ := hSw; go_simp; try with_reducible rfl
          simp only [Act.put, rgA, rgB, rgC, rgD, rgE, rgF]
          refine wpAnyT_loadW (i := 1) (v := ?_) rfl (by kernel_rfl) (by kernel_rfl) (by kernel_rfl) (by kernel_rfl) (by kernel_rfl) (fun _ _ _ h => h) (Or.inl ⟨by rfl, ?_⟩) hSss3 ?_
          rotate_left
          · intro w hSw; obtain ⟨e0, e1, e2, e3, e4, e5, e6, e7, -⟩ := hSw; go_simp; try with_reducible rfl
          simp only [Act.put, rgA, rgB, rgC, rgD, rgE, rgF]
          refine wpAnyT_loadW (i := 6) (v := ?_) rfl (by kernel_rfl) (by kernel_rfl) (by kernel_rfl) (by kernel_rfl) (by kernel_rfl) (fun _ _ _ h => h) (Or.inl ⟨by rfl, ?_⟩) hSss3 ?_
          rotate_left
          · intro w hSw; obtain ⟨e0, e1, e2, e3, e4, e5, e6, e7, -⟩ := hSw; go_simp; try with_reducible rfl
          simp only [Act.put, rgA, rgB, rgC, rgD, rgE, rgF]
          refine wpAnyT_two (i := 7) (k := 11) (by kernel_rfl) rfl rfl (by rfl) (by rfl) ?_ ?_
          · skip
            have hbP : Below w8.heap.size w8 s3 := hB_0_s3.trans ((hB_s3_s3).mono (hB_0_s3).size)
            refine wp_enter (f := 20) (args := #[rwV ne 12 a len cap ga gl gc, .agg #[.string q1, .int .i64 q2, .int .i64 q3], .string who]) (by go_simp) (HCS.out s3 hbP) ?_
            rintro e w104 ⟨ga', gl', gc', rfl, hX, hrf⟩
            rw [HRI.out]
            rw [← HSE.out] at hrf
            obtain ⟨u7, hu7⟩ : ∃ x, (s3).heap.size = x := ⟨_, rfl⟩
            obtain ⟨t7, ht7⟩ : ∃ x, (w104).heap.size = x := ⟨_, rfl⟩
            rw [hu7, ht7] at hrf
            have HU7 := Lib.hid hu7
            have HT7 := Lib.hid ht7
            have HU8 := Lib.hid (show w8.heap.size ≤ u7 from by rw [← hu7]; exact hbP.size)
            have HRF := Lib.hid hrf
            clear hu7 ht7 hrf hbP
            have hB_s3_w104 := below_step hB_s3_s3 hX
            have hB_w104_w104 := Below.refl w104.heap.size w104
            have hSsw104 := Cells.below hB_s3_w104 hSss3
            clear hX
            refine ⟨_, rfl, fun _ _ => hSsw104, ?_⟩
            try simp only [Act.put, rgA, rgB, rgC, rgD, rgE, rgF]
            refine wpAnyT_pure (i := 8) (v := ?_) rfl (by kernel_rfl) (by kernel_rfl) (by kernel_rfl) (fun _ _ _ h => h) (by rfl) ?_ ?_
            rotate_left
            · intro w; go_simp; try with_reducible rfl
            simp only [Act.put, rgA, rgB, rgC, rgD, rgE, rgF]
            refine wpAnyT_pure (i := 9) (v := ?_) rfl (by kernel_rfl) (by kernel_rfl) (by kernel_rfl) (fun _ _ _ h => h) (by rfl) ?_ ?_
            rotate_left
            · intro w; go_simp; try with_reducible rfl
            simp only [Act.put, rgA, rgB, rgC, rgD, rgE, rgF]
            refine wpAnyT_pure (i := 10) (v := ?_) rfl (by kernel_rfl) (by kernel_rfl) (by kernel_rfl) (fun _ _ _ h => h) (by rfl) ?_ ?_
            rotate_left
            · intro w; go_simp; try with_reducible rfl
            simp only [Act.put, rgA, rgB, rgC, rgD, rgE, rgF]
            refine wpAnyT_one (i := 11) (by kernel_rfl) rfl (by rfl) ?_
            obtain ⟨b6, hb6⟩ : ∃ b, (w104).heap.size = b := ⟨_, rfl⟩
            have hge6 : (s3).heap.size ≤ b6 := hb6 ▸ (hB_s3_w104).size
            refine wp_newrow (v := .pointer (some ⟨b6, 0, none⟩)) (cs := #[.int .i64 0, .int .i64 0, .slice none 0 0, .slice none 0 0]) (te := 30) (by rw [← hb6]; go_simp) ?_
            intro w105 hX r6
            rw [hb6] at r6
            have HB6 := Lib.hid hb6
            have HE6 := Lib.hid hge6
            have HR6 := Lib.hid r6
            clear hb6 hge6 r6
            have hB_s3_w105 := below_step hB_s3_w104 hX
            have hB_w104_w105 := below_step hB_w104_w104 hX
            have hB_w105_w105 := Below.refl w105.heap.size w105
            have hSsw105 := Cells.below hB_s3_w105 hSss3
            clear hX
            refine ⟨fun _ _ => hSsw105, ?_⟩
            try simp only [Act.put, rgA, rgB, rgC, rgD, rgE, rgF]
            refine wpAnyT_one (i := 12) (by kernel_rfl) rfl (by rfl) ?_
            have hr7 := ((hB_w105_w105).block _ (blk_lt HR6.out)).trans HR6.out
            have h12 : b6 < u7 ∨ t7 ≤ b6 := by
              first
              | exact .inl (by rw [← HU7.out]; exact blk_lt HR6.out)
              | exact .inr (by rw [← HT7.out]; exact Nat.le_of_eq HB6.out)
            have hse : w8.heap.size ≤ b6 := Nat.le_trans (hB_0_s3).size HE6.out
            have HRFP := Lib.hid (HRF.out.below hB_w104_w105)
            refine wp_store_row 30 (.tmp 16) (.tmp 97) rfl b6 #[.int .i64 (ne : Int), .int .i64 12, .slice a len cap, .slice ga' gl' gc'] (by kernel_rfl) (by kernel_rfl) 30 _ hr7 (by kernel_rfl) (by rfl) (by simp [Value.oneCell']) ?_
            have hblk := setRow_heap (w105) b6 _ #[.int .i64 (ne : Int), .int .i64 12, .slice a len cap, .slice ga' gl' gc'] _ _ hr7
            have hX := below_setRow (hB_0_s3.trans ((hB_s3_w105).mono (hB_0_s3).size)) hse #[.int .i64 (ne : Int), .int .i64 12, .slice a len cap, .slice ga' gl' gc']
            have hrfn := HRFP.out.gr (gr_setRow (w105) b6 #[.int .i64 (ne : Int), .int .i64 12, .slice a len cap, .slice ga' gl' gc']) (fun x hx e => by
              subst e
              rcases hx with hx | hx
              · have := HRF8.out.hS _ hx; omega
              · rcases h12 with h | h <;> omega)
            generalize (w105).setRow b6 #[.int .i64 (ne : Int), .int .i64 12, .slice a len cap, .slice ga' gl' gc'] = w106 at hblk hX hrfn ⊢
            refine ⟨fun h => absurd h (by decide), ?_⟩
            try simp only [Act.put, rgA, rgB, rgC, rgD, rgE, rgF]
            refine wpAnyT_pure (i := 13) (v := ?_) rfl (by kernel_rfl) (by kernel_rfl) (by kernel_rfl) (fun _ _ _ h => h) (by rfl) ?_ ?_
            rotate_left
            · intro w; go_simp; try with_reducible rfl
            simp only [Act.put, rgA, rgB, rgC, rgD, rgE, rgF]
            refine wpAnyT_done (by kernel_rfl) ?_ _
            refine cut_leaf ?_ ?_
            focus kernel_rfl
            exact ⟨_, _, _, _, _, _, _, _, _, _, _, b6, ga', gl', gc', _, rfl, hX, hblk, hrfn, fun x hx => by
              have h1 := HWF8.out.map_lt
              have h2 := blk_lt HR8.out
              have h3 := HU8.out
              rcases hx with hx | hx
              · exact HS7.out x hx
              · exact ⟨by omega, by omega⟩⟩
          · skip
            obtain ⟨b6, hb6⟩ : ∃ b, (s3).heap.size = b := ⟨_, rfl⟩
            have hge6 : (s3).heap.size ≤ b6 := hb6 ▸ (hB_s3_s3).size
            refine wp_newrow (v := .pointer (some ⟨b6, 0, none⟩)) (cs := #[.int .i64 0, .int .i64 0, .slice none 0 0, .slice none 0 0]) (te := 30) (by rw [← hb6]; go_simp) ?_
            intro w107 hX r6
            rw [hb6] at r6
            have HB6 := Lib.hid hb6
            have HE6 := Lib.hid hge6
            have HR6 := Lib.hid r6
            clear hb6 hge6 r6
            have hB_s3_w107 := below_step hB_s3_s3 hX
            have hB_w107_w107 := Below.refl w107.heap.size w107
            have hSsw107 := Cells.below hB_s3_w107 hSss3
            clear hX
            refine ⟨fun _ _ => hSsw107, ?_⟩
            try simp only [Act.put, rgA, rgB, rgC, rgD, rgE, rgF]
            refine wpAnyT_one (i := 7) (by kernel_rfl) rfl (by rfl) ?_
            have hbP : Below w8.heap.size w8 w107 := hB_0_s3.trans ((hB_s3_w107).mono (hB_0_s3).size)
            refine wp_enter (f := 20) (args := #[rwV ne 12 a len cap ga gl gc, .agg #[.string q1, .int .i64 q2, .int .i64 q3], .string who]) (by go_simp) (HCS.out w107 hbP) ?_
            rintro e w108 ⟨ga', gl', gc', rfl, hX, hrf⟩
            rw [HRI.out]
            rw [← HSE.out] at hrf
            obtain ⟨u7, hu7⟩ : ∃ x, (w107).heap.size = x := ⟨_, rfl⟩
            obtain ⟨t7, ht7⟩ : ∃ x, (w108).heap.size = x := ⟨_, rfl⟩
            rw [hu7, ht7] at hrf
            have HU7 := Lib.hid hu7
            have HT7 := Lib.hid ht7
            have HU8 := Lib.hid (show w8.heap.size ≤ u7 from by rw [← hu7]; exact hbP.size)
            have HRF := Lib.hid hrf
            clear hu7 ht7 hrf hbP
            have hB_s3_w108 := below_step hB_s3_w107 hX
            have hB_w107_w108 := below_step hB_w107_w107 hX
            have hB_w108_w108 := Below.refl w108.heap.size w108
            have hSsw108 := Cells.below hB_s3_w108 hSss3
            clear hX
            refine ⟨_, rfl, fun _ _ => hSsw108, ?_⟩
            try simp only [Act.put, rgA, rgB, rgC, rgD, rgE, rgF]
            refine wpAnyT_pure (i := 8) (v := ?_) rfl (by kernel_rfl) (by kernel_rfl) (by kernel_rfl) (fun _ _ _ h => h) (by rfl) ?_ ?_
            rotate_left
            · intro w; go_simp; try with_reducible rfl
            simp only [Act.put, rgA, rgB, rgC, rgD, rgE, rgF]
            refine wpAnyT_pure (i := 9) (v := ?_) rfl (by kernel_rfl) (by kernel_rfl) (by kernel_rfl) (fun _ _ _ h => h) (by rfl) ?_ ?_
            rotate_left
            · intro w; go_simp; try with_reducible rfl
            simp only [Act.put, rgA, rgB, rgC, rgD, rgE, rgF]
            refine wpAnyT_pure (i := 10) (v := ?_) rfl (by kernel_rfl) (by kernel_rfl) (by kernel_rfl) (fun _ _ _ h => h) (by rfl) ?_ ?_
            rotate_left
            · intro w; go_simp; try with_reducible rfl
            simp only [Act.put, rgA, rgB, rgC, rgD, rgE, rgF]
            refine wpAnyT_one (i := 12) (by kernel_rfl) rfl (by rfl) ?_
            have hr7 := ((hB_w107_w108).block _ (blk_lt HR6.out)).trans HR6.out
            have h12 : b6 < u7 ∨ t7 ≤ b6 := by
              first
              | exact .inl (by rw [← HU7.out]; exact blk_lt HR6.out)
              | exact .inr (by rw [← HT7.out]; exact Nat.le_of_eq HB6.out)
            have hse : w8.heap.size ≤ b6 := Nat.le_trans (hB_0_s3).size HE6.out
            have HRFP := Lib.hid (HRF.out.below hB_w108_w108)
            refine wp_store_row 30 (.tmp 16) (.tmp 97) rfl b6 #[.int .i64 (ne : Int), .int .i64 12, .slice a len cap, .slice ga' gl' gc'] (by kernel_rfl) (by kernel_rfl) 30 _ hr7 (by kernel_rfl) (by rfl) (by simp [Value.oneCell']) ?_
            have hblk := setRow_heap (w108) b6 _ #[.int .i64 (ne : Int), .int .i64 12, .slice a len cap, .slice ga' gl' gc'] _ _ hr7
            have hX := below_setRow (hB_0_s3.trans ((hB_s3_w108).mono (hB_0_s3).size)) hse #[.int .i64 (ne : Int), .int .i64 12, .slice a len cap, .slice ga' gl' gc']
            have hrfn := HRFP.out.gr (gr_setRow (w108) b6 #[.int .i64 (ne : Int), .int .i64 12, .slice a len cap, .slice ga' gl' gc']) (fun x hx e => by
              subst e
              rcases hx with hx | hx
              · have := HRF8.out.hS _ hx; omega
              · rcases h12 with h | h <;> omega)
            generalize (w108).setRow b6 #[.int .i64 (ne : Int), .int .i64 12, .slice a len cap, .slice ga' gl' gc'] = w109 at hblk hX hrfn ⊢
            refine ⟨fun h => absurd h (by decide), ?_⟩
            try simp only [Act.put, rgA, rgB, rgC, rgD, rgE, rgF]
            refine wpAnyT_pure (i := 13) (v := ?_) rfl (by kernel_rfl) (by kernel_rfl) (by kernel_rfl) (fun _ _ _ h => h) (by rfl) ?_ ?_
            rotate_left
            · intro w; go_simp; try with_reducible rfl
            simp only [Act.put, rgA, rgB, rgC, rgD, rgE, rgF]
            refine wpAnyT_done (by kernel_rfl) ?_ _
            refine cut_leaf ?_ ?_
            focus kernel_rfl
            exact ⟨_, _, _, _, _, _, _, _, _, _, _, b6, ga', gl', gc', _, rfl, hX, hblk, hrfn, fun x hx => by
              have h1 := HWF8.out.map_lt
              have h2 := blk_lt HR8.out
              have h3 := HU8.out
              rcases hx with hx | hx
              · exact HS7.out x hx
              · exact ⟨by omega, by omega⟩⟩
        rintro vs w11 ⟨v88, v89, v90, v91, v92, v93, v94, v95, v96, v97, v98, nb, ga', gl', gc', S9, rfl, hb, hrn, hrf9, hs9⟩
        simp only [puts, Act.put, List.setIfInBounds_toArray, List.set_cons_zero, List.set_cons_succ]
        have HB11 := Lib.hid (HB8.out.trans (hb.mono HB8.out.size))
        have HWF11 := Lib.hid (HWF8.out.below hb)
        have HR11 := Lib.hid ((hb.block _ (blk_lt HR8.out)).trans HR8.out)
        have HKB11 := Lib.hid ((hb.block _ (blk_lt HKB8.out)).trans HKB8.out)
        have HRF11 := Lib.hid hrf9
        have HS9 := Lib.hid hs9
        have HRN11 := Lib.hid hrn
        clear hb hrn hrf9 hs9 hC1
        have z0 := blk_cell HRN11.out 0
        have z1 := blk_cell HRN11.out 1
        have z2 := blk_cell HRN11.out 2
        have z3 := blk_cell HRN11.out 3
        simp at z0 z1 z2 z3
        have HSET := Lib.hid (setRow_heap _ _ _ #[.int .i64 (ne : Int), .int .i64 12, .slice a len cap, .slice ga' gl' gc'] _ _ HR11.out)
        have HGS := Lib.hid (gr_setRow w11 rb #[.int .i64 (ne : Int), .int .i64 12, .slice a len cap, .slice ga' gl' gc'])
        go_wp2_with (refine wpList_store_row rfl _ _ _ rfl rb #[.int .i64 (ne : Int), .int .i64 12, .slice a len cap, .slice ga' gl' gc'] rfl rfl 30 _ HR11.out (by kernel_rfl) (by rfl) (by simp [Value.oneCell']) ?_)
        go_meet
        exact ⟨ScrI.put HSEP.out HN8.out HWF11.out HRF11.out HS9.out HGS.out HSET.out HB11.out, (HGS.out.block _ (blk_lt HKB11.out) HKM.out.2).trans HKB11.out⟩
      · have HSE := Lib.hid (show sg' = reopS ts ne 12 sg ⟨q1, q2, q3⟩ from by rw [HSG.out]; rfl)
        have HC := Lib.hid (reopM wk p ts ne 12 m n7 sg HWF7.out HWK.out HSI.out.ok (by have := HSL.out; omega) (by have := HN7.out; omega) ⟨q1, q2, q3⟩ HKO.out)
        unfold Ky.v at HC
        simp only at HC
        have y0 := blk_cell HKB.out 0
        have y1 := blk_cell HKB.out 1
        have y2 := blk_cell HKB.out 2
        simp at y0 y1 y2
        go_wp2_with fail
        have hX := HC.out
        refine Calls.mono hX ?_
        clear hX HC
        rintro e w8 ⟨oa, ol, oc, rfl, hr8, hg8, n8, hn8, hwf8⟩
        have HG8 := Lib.hid hr8
        have HWF8 := Lib.hid (show WfIn S w8 p ts ne 12 m n8 (lkS sg') from by rw [HSE.out]; exact hwf8)
        have HN8 := Lib.hid (show n8 ≤ i + 1 from by have := HN7.out; omega)
        have HRF8 := Lib.hid (HRF7.out.gr hg8 (fun b hb => (HS7.out b hb).1))
        have HR8 := Lib.hid (blk_gr hg8 HR7.out (fun e => HSEP.out.mr e.symm))
        have HKB8 := Lib.hid (blk_gr hg8 HKB.out HKM.out.1)
        have HB8 := Lib.hid (HIK.out.bel.trans (hg8.below (fun b e => by rw [e]; exact HSEP.out.mB) HIK.out.bel.size))
        clear hr8 hg8 hn8 hwf8 y0 y1 y2
        have y0 := blk_cell HKB8.out 0
        have y1 := blk_cell HKB8.out 1
        have y2 := blk_cell HKB8.out 2
        simp at y0 y1 y2
        have z0 := blk_cell HR8.out 0
        have z1 := blk_cell HR8.out 1
        have z2 := blk_cell HR8.out 2
        have z3 := blk_cell HR8.out 3
        simp at z0 z1 z2 z3
        have HC := Lib.hid (rreop53 w8 ne 12 ts sg a len cap ga gl gc xs HRF8.out HWK.out (by have := HGN.out; omega) HSI.out.ok HGL.out ⟨q1, q2, q3⟩)
        unfold Ky.v at HC
        simp only at HC
        obtain ⟨ri, hri⟩ : ∃ ri, reopI ts ne 12 sg ⟨q1, q2, q3⟩ = ri := ⟨_, rfl⟩
        rw [hri] at HG8
        go_wp2_with fail
        have hX := HC.out
        refine Calls.mono hX ?_
        clear hX HC
        rintro e w9 ⟨ga', gl', gc', va, vl, vc, rfl, hb9, hrf9, hr9⟩
        rw [hri] at hr9 ⊢
        clear hri
        have HB9 := Lib.hid (HB8.out.trans (hb9.mono HB8.out.size))
        have HWF9 := Lib.hid (HWF8.out.below hb9)
        have HR9 := Lib.hid ((hb9.block _ (blk_lt HR8.out)).trans HR8.out)
        have HKB9 := Lib.hid ((hb9.block _ (blk_lt HKB8.out)).trans HKB8.out)
        have HG9 := Lib.hid (HG8.out.below hb9 (fun _ h => h))
        have HV9 := Lib.hid hr9
        have HSV := Lib.hid hb9.size
        obtain ⟨S9, hS9⟩ : ∃ x, x = (fun b => S' b ∨ (w8.heap.size ≤ b ∧ b < w9.heap.size)) := ⟨_, rfl⟩
        have HS9 := Lib.hid (show ∀ b, S9 b → b ≠ m ∧ b ≠ rb from fun b hb => by
          rw [hS9] at hb
          have h1 := HWF8.out.map_lt
          have h2 := blk_lt HR8.out
          rcases hb with hb | hb
          · exact HS7.out b hb
          · exact ⟨by omega, by omega⟩)
        have HRF9 := Lib.hid (show RfW S9 w9 ts sg' a len cap ga' gl' gc' xs from by rw [HSE.out, hS9]; exact hrf9)
        clear hb9 hrf9 hr9 hS9 y0 y1 y2 z0 z1 z2 z3
        have HRN := Lib.hid (heap_alloc_new w9 (.cells #[.int .i64 (ne : Int), .int .i64 12, .slice a len cap, .slice ga' gl' gc'] 30))
        have HBN := Lib.hid ((Below.refl w9.heap.size w9).alloc (Nat.le_refl _) (.cells #[.int .i64 (ne : Int), .int .i64 12, .slice a len cap, .slice ga' gl' gc'] 30))
        go_wp2_with fail
        generalize w9.alloc (.cells #[.int .i64 (ne : Int), .int .i64 12, .slice a len cap, .slice ga' gl' gc'] 30) = w10 at HRN HBN ⊢
        obtain ⟨nb, hnb⟩ : ∃ x, w9.heap.size = x := ⟨_, rfl⟩
        rw [hnb] at HRN ⊢
        clear hnb
        have hX := sameKeys53 w10 oa ol oc va vl vc _ (HG9.out.below HBN.out (fun b hb => Nat.lt_of_lt_of_le hb HSV.out)) (HV9.out.below HBN.out (fun b hb => hb.2)) (fun b hb => Nat.lt_of_lt_of_le hb (Nat.le_trans HSV.out HBN.out.size)) (fun b hb => Nat.lt_of_lt_of_le hb.2 HBN.out.size)
        refine Calls.mono hX ?_
        clear hX
        rintro e w11 ⟨rfl, hb11⟩
        have hb := HBN.out.trans (hb11.mono HBN.out.size)
        have HB11 := Lib.hid (HB9.out.trans (hb.mono HB9.out.size))
        have HWF11 := Lib.hid (HWF9.out.below hb)
        have HR11 := Lib.hid ((hb.block _ (blk_lt HR9.out)).trans HR9.out)
        have HKB11 := Lib.hid ((hb.block _ (blk_lt HKB9.out)).trans HKB9.out)
        have HRF11 := Lib.hid (HRF9.out.below hb)
        have HRN11 := Lib.hid ((hb11.block _ (blk_lt HRN.out)).trans HRN.out)
        clear hb hb11
        have z0 := blk_cell HRN11.out 0
        have z1 := blk_cell HRN11.out 1
        have z2 := blk_cell HRN11.out 2
        have z3 := blk_cell HRN11.out 3
        simp at z0 z1 z2 z3
        have HSET := Lib.hid (setRow_heap _ _ _ #[.int .i64 (ne : Int), .int .i64 12, .slice a len cap, .slice ga' gl' gc'] _ _ HR11.out)
        have HGS := Lib.hid (gr_setRow w11 rb #[.int .i64 (ne : Int), .int .i64 12, .slice a len cap, .slice ga' gl' gc'])
        go_wp2_with (refine wpList_store_row rfl _ _ _ rfl rb #[.int .i64 (ne : Int), .int .i64 12, .slice a len cap, .slice ga' gl' gc'] rfl rfl 30 _ HR11.out (by kernel_rfl) (by rfl) (by simp [Value.oneCell']) ?_)
        go_meet
        exact ⟨ScrI.put HSEP.out HN8.out HWF11.out HRF11.out HS9.out HGS.out HSET.out HB11.out, (HGS.out.block _ (blk_lt HKB11.out) HKM.out.2).trans HKB11.out⟩
    obtain ⟨hI, hk⟩ := hcut
    have HIC := Lib.hid hI
    obtain ⟨n9, -, hwf9⟩ := HIC.out.wf
    obtain ⟨S9, ga, gl, gc, hrf9, -, hr9⟩ := HIC.out.rf
    have HWF9 := Lib.hid hwf9
    have HRF9 := Lib.hid hrf9
    have HR9 := Lib.hid hr9
    have HK9 := Lib.hid hk
    clear hI hk hwf9 hrf9 hr9
    obtain ⟨sb, hsb⟩ : ∃ sb, (lkS sg' ⟨q1, q2, q3⟩).isSome = sb := ⟨_, rfl⟩
    obtain ⟨sw, hsw⟩ : ∃ sw, (lkS sg' ⟨q1, q2, q3⟩).getD ⟨#[]⟩ = sw := ⟨_, rfl⟩
    have HC := Lib.hid (signed53 wc p ts ne 12 m n9 (lkS sg') HWF9.out ⟨q1, q2, q3⟩ HKO.out)
    unfold Ky.v at HC
    simp only at HC
    rw [hsb, hsw] at HC
    have y0 := blk_cell HK9.out 0
    have y1 := blk_cell HK9.out 1
    have y2 := blk_cell HK9.out 2
    simp at y0 y1 y2
    go_wp2_with fail
    have hX := HC.out
    refine Calls.mono hX ?_
    clear hX HC
    rintro e w20 ⟨rfl, hb20⟩
    have HI20 := Lib.hid (HIC.out.below hb20)
    have HWF20 := Lib.hid (HWF9.out.below hb20)
    have HRF20 := Lib.hid (HRF9.out.below hb20)
    have HR20 := Lib.hid ((hb20.block _ (blk_lt HR9.out)).trans HR9.out)
    have HK20 := Lib.hid ((hb20.block _ (blk_lt HK9.out)).trans HK9.out)
    clear hb20 y0 y1 y2
    have y0 := blk_cell HK20.out 0
    have y1 := blk_cell HK20.out 1
    have y2 := blk_cell HK20.out 2
    simp at y0 y1 y2
    have z0 := blk_cell HR20.out 0
    have z1 := blk_cell HR20.out 1
    have z2 := blk_cell HR20.out 2
    have z3 := blk_cell HR20.out 3
    simp at z0 z1 z2 z3
    have HC := Lib.hid (rwho53 w20 ne 12 ts sg' a len cap ga gl gc xs HRF20.out ⟨q1, q2, q3⟩)
    unfold Ky.v at HC
    simp only at HC
    rw [hsb, hsw] at HC
    clear hsb hsw
    go_wp2_with fail
    have hX := HC.out
    refine Calls.mono hX ?_
    clear hX HC
    rintro e w21 ⟨rfl, hb21⟩
    have HI21 := Lib.hid (HI20.out.below hb21)
    have HWF21 := Lib.hid (HWF20.out.below hb21)
    have HRF21 := Lib.hid (HRF20.out.below hb21)
    have HR21 := Lib.hid ((hb21.block _ (blk_lt HR20.out)).trans HR20.out)
    clear hb21 y0 y1 y2 z0 z1 z2 z3
    have hC1 : Cells [(⟨rb, 3, none⟩, .slice ga gl gc)] w21 := ⟨blk_cell HR21.out 3, trivial⟩
    go_wp2_with fail
    refine wp_region_T (Cells [(⟨rb, 3, none⟩, .slice ga gl gc)]) (fun _ => false) (by kernel_rfl) ?_
    have hSss10 := Cells.drew hC1
    have hB_0_s10 : Below w21.heap.size w21 w21.drew := below_drew _
    generalize w21.drew = s10 at hSss10 hB_0_s10 ⊢
    have hB_s10_s10 := Below.refl s10.heap.size s10
    refine wpAnyT_pure (i := 0) (v := ?_) rfl (by kernel_rfl) (by kernel_rfl) (by kernel_rfl) (fun _ _ _ h => h) (by rfl) ?_ ?_
    rotate_left
    · intro w; go_simp; try with_reducible rfl
    simp only [Act.put, rgA, rgB, rgC, rgD, rgE, rgF]
    refine wpAnyT_pure (i := 2) (v := ?_) rfl (by kernel_rfl) (by kernel_rfl) (by kernel_rfl) (fun _ _ _ h => h) (by rfl) ?_ ?_
    rotate_left
    · intro w; go_simp; try with_reducible rfl
    simp only [Act.put, rgA, rgB, rgC, rgD, rgE, rgF]
    refine wpAnyT_loadW (i := 3) (v := ?_) rfl (by kernel_rfl) (by kernel_rfl) (by kernel_rfl) (by kernel_rfl) (by kernel_rfl) (fun _ _ _ h => h) (Or.inl ⟨by rfl, ?_⟩) hSss10 ?_
    rotate_left
    · intro w hSw; obtain ⟨e0, -⟩ := hSw; go_simp; try with_reducible rfl
    simp only [Act.put, rgA, rgB, rgC, rgD, rgE, rgF]
    refine wpAnyT_one (i := 1) (by kernel_rfl) rfl (by rfl) ?_
    have hbP : Below w21.heap.size w21 s10 := hB_0_s10.trans ((hB_s10_s10).mono (hB_0_s10).size)
    refine wp_enter (f := 24) (args := #[.pointer (some ⟨p, 0, none⟩)]) (by go_simp) (sigsK s10 p ts ne 12 m n9 sg' (HWF21.out.below hbP) HWK.out HST.out.ok (by have := HLN.out; omega)) ?_
    rintro e w111 ⟨ba, bl, bc, rfl, hrs, hX⟩
    have HRS := Lib.hid hrs
    clear hrs hbP
    have hB_s10_w111 := below_step hB_s10_s10 hX
    have hB_w111_w111 := Below.refl w111.heap.size w111
    have hSsw111 := Cells.below hB_s10_w111 hSss10
    clear hX
    refine ⟨_, rfl, fun _ _ => hSsw111, ?_⟩
    try simp only [Act.put, rgA, rgB, rgC, rgD, rgE, rgF]
    refine wpAnyT_one (i := 4) (by kernel_rfl) rfl (by rfl) ?_
    have hbP : Below w21.heap.size w21 w111 := hB_0_s10.trans ((hB_s10_w111).mono (hB_0_s10).size)
    refine wp_enter (f := 23) (args := #[.slice ba bl bc, .slice ga gl gc]) (by go_simp) (sameSigned53 w111 ba bl bc ga gl gc sg' (HRS.out.below hB_w111_w111 (fun _ h => h)) (HRF21.out.below hbP).rs (fun b hb => Nat.lt_of_lt_of_le hb (hB_w111_w111).size) (HRF21.out.below hbP).hS) ?_
    rintro e w112 ⟨rfl, hX⟩
    clear hbP
    have hB_s10_w112 := below_step hB_s10_w111 hX
    have hB_w111_w112 := below_step hB_w111_w111 hX
    have hB_w112_w112 := Below.refl w112.heap.size w112
    have hSsw112 := Cells.below hB_s10_w112 hSss10
    clear hX
    refine ⟨_, rfl, fun _ _ => hSsw112, ?_⟩
    try simp only [Act.put, rgA, rgB, rgC, rgD, rgE, rgF]
    refine wpAnyT_pure (i := 5) (v := ?_) rfl (by kernel_rfl) (by kernel_rfl) (by kernel_rfl) (fun _ _ _ h => h) (by rfl) ?_ ?_
    rotate_left
    · intro w; go_simp; try with_reducible rfl
    simp only [Act.put, rgA, rgB, rgC, rgD, rgE, rgF]
    refine wpAnyT_pure (i := 6) (v := ?_) rfl (by kernel_rfl) (by kernel_rfl) (by kernel_rfl) (fun _ _ _ h => h) (by rfl) ?_ ?_
    rotate_left
    · intro w; go_simp; try with_reducible rfl
    simp only [Act.put, rgA, rgB, rgC, rgD, rgE, rgF]
    refine wpAnyT_pure (i := 7) (v := ?_) rfl (by kernel_rfl) (by kernel_rfl) (by kernel_rfl) (fun _ _ _ h => h) (by rfl) ?_ ?_
    rotate_left
    · intro w; go_simp; try with_reducible rfl
    simp only [Act.put, rgA, rgB, rgC, rgD, rgE, rgF]
    refine wpAnyT_pure (i := 8) (v := ?_) rfl (by kernel_rfl) (by kernel_rfl) (by kernel_rfl) (fun _ _ _ h => h) (by rfl) ?_ ?_
    rotate_left
    · intro w; go_simp; try with_reducible rfl
    simp only [Act.put, rgA, rgB, rgC, rgD, rgE, rgF]
    refine wpAnyT_pure (i := 9) (v := (.bool false)) rfl (by kernel_rfl) (by kernel_rfl) (by kernel_rfl) (fun _ _ _ h => h) (by rfl) ?_ ?_
    · intro w; go_simp <;> simp
    simp only [Act.put, rgA, rgB, rgC, rgD, rgE, rgF]
    refine wpAnyT_pure (i := 10) (v := ?_) rfl (by kernel_rfl) (by kernel_rfl) (by kernel_rfl) (fun _ _ _ h => h) (by rfl) ?_ ?_
    rotate_left
    · intro w; go_simp; try with_reducible rfl
    simp only [Act.put, rgA, rgB, rgC, rgD, rgE, rgF]
    refine wpAnyT_pure (i := 11) (v := ?_) rfl (by kernel_rfl) (by kernel_rfl) (by kernel_rfl) (fun _ _ _ h => h) (by rfl) ?_ ?_
    rotate_left
    · intro w; go_simp; try with_reducible rfl
    simp only [Act.put, rgA, rgB, rgC, rgD, rgE, rgF]
    refine wpAnyT_pure (i := 12) (v := ?_) rfl (by kernel_rfl) (by kernel_rfl) (by kernel_rfl) (fun _ _ _ h => h) (by rfl) ?_ ?_
    rotate_left
    · intro w; go_simp; try with_reducible rfl
    simp only [Act.put, rgA, rgB, rgC, rgD, rgE, rgF]
    refine wpAnyT_pure (i := 13) (v := ?_) rfl (by kernel_rfl) (by kernel_rfl) (by kernel_rfl) (fun _ _ _ h => h) (by rfl) ?_ ?_
    rotate_left
    · intro w; go_simp; try with_reducible rfl
    simp only [Act.put, rgA, rgB, rgC, rgD, rgE, rgF]
    refine wpAnyT_pure (i := 14) (v := (.bool false)) rfl (by kernel_rfl) (by kernel_rfl) (by kernel_rfl) (fun _ _ _ h => h) (by rfl) ?_ ?_
    · intro w; go_simp <;> simp
    simp only [Act.put, rgA, rgB, rgC, rgD, rgE, rgF]
    refine wpAnyT_pure (i := 15) (v := ?_) rfl (by kernel_rfl) (by kernel_rfl) (by kernel_rfl) (fun _ _ _ h => h) (by rfl) ?_ ?_
    rotate_left
    · intro w; go_simp; try with_reducible rfl
    simp only [Act.put, rgA, rgB, rgC, rgD, rgE, rgF]
    refine wpAnyT_done (by kernel_rfl) ?_ _
    have HBP := Lib.hid (hB_0_s10.trans ((hB_s10_w112).mono (hB_0_s10).size))
    go_wp2_with fail
    go_roundw
    case rel => exact ⟨i + 1, sg', HLT.out, by go_num, HST.out, HLN.out, HI21.out.below HBP.out⟩
    case measure => simp [intOf]; try omega
  · obtain rfl : ll = i := by omega
    go_wp2_with fail
    go_ret
    exact ⟨rfl, HI.out.bel⟩
end Go.Proofs.Ytdcjocldggmdbaa
