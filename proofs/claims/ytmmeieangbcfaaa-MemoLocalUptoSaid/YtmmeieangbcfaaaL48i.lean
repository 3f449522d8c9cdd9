/- Layer 48: the law MemoLocal (its second form). -/
import Derived.Test.YtmmeieangbcfaaaL48e
import Derived.Test.YtmmeieangbcfaaaL48h
set_option linter.unusedSimpArgs false
namespace Go.Proofs.Ytmmeieangbcfaaa
open Go.RowKit Go

theorem form_tl {S : Nat → Prop} {w : World} {cs : List Value} {f : formT.den} {ta : Option Addr} {tl tc : Nat} (h : Rd formT S w cs f) (hc : cs[4]? = some (.slice ta tl tc)) : tl ≤ 9223372036854775807 := by
  obtain ⟨⟨x1, x2, x3, x4, ⟨⟩⟩, ts, ad, md, sk, ⟨⟩⟩ := f
  obtain ⟨cc, rr, rfl, ⟨c1, r1, rfl, ⟨rfl, h1⟩, c2, r2, rfl, ⟨rfl, h2⟩, c3, r3, rfl, ⟨rfl, h3⟩, c4, r4, rfl, ⟨rfl, h4⟩, rfl⟩, c5, r5, rfl, h5, c6, r6, rfl, ⟨rfl, h6⟩, c7, r7, rfl, ⟨rfl, h7⟩, c8, r8, rfl, ⟨rfl, h8⟩, rfl⟩ := h
  obtain ⟨ta', tl', tc', rfl, h5'⟩ := id h5
  simp at hc
  obtain ⟨rfl, rfl, rfl⟩ := hc
  obtain ⟨-, e1, e2, -⟩ := h5.sl_flat
  omega
theorem keep_rd {S : Nat → Prop} {n0 g : Nat} {w w' : World} {cs : List Value} {xs : List formT.den} (h : Rd (.sl formT) S w cs xs) (hS : ∀ b, S b → b < n0 ∨ b = g) (hB : Below n0 w w') (hg : w'.heap[g]? = w.heap[g]?) : Rd (.sl formT) S w' cs xs :=
  h.keep (fun b hb => (hS b hb).elim (fun h => hB.block b h) (fun e => by rw [e]; exact hg)) (fun _ h => h)
theorem cell_blk {w w' : World} {g : Nat} (h : w'.heap[g]? = w.heap[g]?) (o : Nat) : w'.cell? ⟨g, o, none⟩ = w.cell? ⟨g, o, none⟩ := by
  unfold World.cell?
  simp only [h]
theorem below_eq {n b : Nat} {w w' : World} (h : Below n w w') (hb : b < n) : w'.heap[b]? = w.heap[b]? := h.block b hb
theorem Stp.keep {n0 sp : Nat} {F F' : Nat → Nat} {v v' : Value} {w w' : World} (h : Stp n0 sp F v w F' v' w') {b : Nat} (hb : b < w.heap.size) (hn : ¬ OW F sp v b) : w'.heap[b]? = w.heap[b]? ∧ ¬ OW F' sp v' b :=
  ⟨h.gr.block b hb hn, fun e => hn (h.ow b hb e)⟩
set_option maxRecDepth 20000 in
set_option maxHeartbeats 4000000 in
theorem localWalk48 (w : World) (c0 : List Value) (xs : (Ty.sl formT).den) (r0 : Rd (.sl formT) (fun b => b < w.heap.size) w c0 xs) (s0 : (Ty.sl formT).bulk xs ≤ 1048576) (c1 : List Value) (x : callsT.den) (r1 : Rd callsT (fun b => b < w.heap.size) w c1 x) (s1 : callsT.bulk x ≤ 1048576) :
    Calls Try.prog 4 #[valOf (.sl formT) c0, valOf callsT c1] w fun e w' => e = .returned (.bool true) ∧ Below w.heap.size w w' := by
  change List formT.den at xs
  obtain ⟨a, len, cap, rfl, hl, hlc, hcm, -⟩ := id r0
  obtain ⟨a2, len2, cap2, ta, tl, tc, rfl, hys, hff, fok, cok, htl⟩ := calls_split r1
  have htb : tl ≤ 9223372036854775807 := form_tl hff rfl
  have hl2 : (show List stepT.den from x.1).length = len2 := hys.sl_flat.1
  have HX := Lib.hid r0
  have HY := Lib.hid hys
  have HL := Lib.hid (show len ≤ 1048576 from by have h : xs.length = len := hl; rw [← h]; exact form_bulk xs s0)
  have HL2 := Lib.hid (show len2 ≤ 1048576 from by rw [← hl2]; exact calls_bulk x s1)
  have hgd : Try.prog.eqGuardType Try.prog.depth 26 = false := by kernel_rfl
  clear hl hl2 r0 r1 s0 s1 hys
  generalize x.1 = ys at HY
  generalize c4 x.2.2.1 = cc at cok ⊢
  generalize x.2.1 = xf at hff fok htl ⊢
  obtain ⟨fo, hfo⟩ : ∃ f, fm xf = f := ⟨_, rfl⟩
  rw [hfo] at hff fok htl ⊢
  obtain ⟨x1, x2, x3, x4⟩ := cc
  obtain ⟨⟨q1, q2, q3, q4⟩, ft, fa, fmd, fs⟩ := fo
  have HOK := Lib.hid cok
  have FOK := Lib.hid fok
  have HFF := Lib.hid hff
  have HTL := Lib.hid htl
  have HFO := Lib.hid hfo
  clear fok cok hff htl hfo
  change Calls _ _ #[.slice a len cap, .agg #[.slice a2 len2 cap2, .int .i64 q1, .int .i64 q2, .int .i64 q3, .int .i64 q4, .slice ta tl tc, .int .i16 fa, .int .u8 fmd, .int .i8 fs, .int .i64 x1, .int .i64 x2, .int .i64 x3, .int .i64 x4]] _ _
  go_enter Try.func4, Try.ntmps4
  go_wp2_with fail
  have hb1 := heap_alloc_new w (.cells #[.slice a2 len2 cap2, .int .i64 q1, .int .i64 q2, .int .i64 q3, .int .i64 q4, .slice ta tl tc, .int .i16 fa, .int .u8 fmd, .int .i8 fs, .int .i64 x1, .int .i64 x2, .int .i64 x3, .int .i64 x4] 43)
  have hB1 := (Below.refl _ w).alloc (Nat.le_refl _) (.cells #[.slice a2 len2 cap2, .int .i64 q1, .int .i64 q2, .int .i64 q3, .int .i64 q4, .slice ta tl tc, .int .i16 fa, .int .u8 fmd, .int .i8 fs, .int .i64 x1, .int .i64 x2, .int .i64 x3, .int .i64 x4] 43)
  generalize w.alloc (.cells #[.slice a2 len2 cap2, .int .i64 q1, .int .i64 q2, .int .i64 q3, .int .i64 q4, .slice ta tl tc, .int .i16 fa, .int .u8 fmd, .int .i8 fs, .int .i64 x1, .int .i64 x2, .int .i64 x3, .int .i64 x4] 43) = w0 at *
  refine (awake48 _).mono ?_
  rintro e w1 ⟨rfl, hB2⟩
  have hb2 := (hB2.block _ (blk_lt hb1)).trans hb1
  have HB := Lib.hid (below_step hB1 hB2)
  have HBX := Lib.hid hb2
  have y0 := blk_cell hb2 0
  simp at y0
  clear hB1 hB2 hb1 hb2
  go_wp2_with fail
  refine (play48 w1 a len cap xs (HX.out.alloc HB.out) a2 len2 cap2 ys (HY.out.alloc HB.out) HL.out HL2.out).mono ?_
  rintro e w2 hplay
  clear y0
  rcases hplay with ⟨rfl, hB⟩ | ⟨n0, p, sp, kb, pb, F, s, zs, v, SS, rfl, hB, hn, hn2, hP, hSS, hT, hS⟩
  · have HB2 := Lib.hid hB
    clear hB
    go_wp2_with fail
    go_ret
    exact ⟨rfl, below_step HB.out HB2.out⟩
  have hr2 := (hB.block _ (blk_lt HBX.out)).trans HBX.out
  have HT := Lib.hid hT
  have HS := Lib.hid hS
  have HSS := Lib.hid (show ∀ b, SS b → b < n0 from fun b hb => Nat.lt_of_lt_of_le ((hSS b).1 hb) hn)
  have HP := Lib.hid hP
  have HN := Lib.hid hn2
  have HNW := Lib.hid (show w.heap.size ≤ n0 from Nat.le_trans HB.out.size hn)
  have HNX := Lib.hid (show w.heap.size < n0 from Nat.lt_of_lt_of_le (blk_lt HBX.out) hn)
  have HB2 := Lib.hid (below_step HB.out hB)
  have HR2 := Lib.hid hr2
  have y1 := blk_cell hr2 1
  have y2 := blk_cell hr2 2
  have y3 := blk_cell hr2 3
  have y4 := blk_cell hr2 4
  have y5 := blk_cell hr2 5
  have y6 := blk_cell hr2 6
  have y7 := blk_cell hr2 7
  have y8 := blk_cell hr2 8
  simp at y1 y2 y3 y4 y5 y6 y7 y8
  clear hP hT hS hn hn2 hB hr2 hSS
  go_wp2_with fail
  have hrow := heap_alloc_new w2 (.cells #[.int .i64 q1, .int .i64 q2, .int .i64 q3, .int .i64 q4, .slice ta tl tc, .int .i16 fa, .int .u8 fmd, .int .i8 fs] 41)
  have hBr := (Below.refl _ w2).alloc (Nat.le_refl _) (.cells #[.int .i64 q1, .int .i64 q2, .int .i64 q3, .int .i64 q4, .slice ta tl tc, .int .i16 fa, .int .u8 fmd, .int .i8 fs] 41)
  refine (ranked48 (S := fun c => c < w.heap.size ∨ c = w2.heap.size) _ (some ⟨w2.heap.size, 0, none⟩) 1 1 [xf] (oneform_rd (.inr rfl) hrow ((HFF.out.below (HB2.out.trans (hBr.mono HB2.out.size)) (fun _ h => h)).keep (fun _ _ => rfl) (fun _ h => .inl h))) (fun c hc => by have := HB2.out.size; simp only [World.size_alloc]; rcases hc with hc | hc <;> omega)).mono ?_
  rintro e w3 ⟨b3, rfl, hB3, hrk3⟩
  have hB3 := below_step hBr hB3
  have hr3 := (hB3.block _ (blk_lt HR2.out)).trans HR2.out
  have HB3 := Lib.hid (below_step HB2.out hB3)
  have HR3 := Lib.hid hr3
  have HP3 := Lib.hid (HP.out.below hB3)
  have HN3 := Lib.hid (Nat.le_trans HN.out hB3.size)
  have HRK3 := Lib.hid hrk3
  have y5 := blk_cell hr3 5
  simp at y5
  clear hrow hBr hB3 hrk3 y1 y2 y3 y4 y6 y7 y8
  cases b3
  · go_wp2_with fail
    go_ret
    exact ⟨rfl, HB3.out⟩
  by_cases h6 : 6 < tl
  · have h6I : (6 : Int) < (tl : Int) := by omega
    go_wp2_with fail
    go_ret
    exact ⟨rfl, HB3.out⟩
  have h6I : ¬ (6 : Int) < (tl : Int) := by omega
  have HSM := Lib.hid (show Small (zs.map fm ++ [fm xf]) 35 from by
    obtain ⟨g1, g2, g3⟩ := HS.out
    refine ⟨fun f hf => ?_, by rw [List.length_append]; simp only [List.length_singleton]; omega, fun f hf => ?_⟩
    · rcases List.mem_append.1 hf with h | h
      · exact g1 f h
      · exact HRK3.out (by first | rfl | trivial) f h
    · rcases List.mem_append.1 hf with h | h
      · exact g3 f h
      · rw [List.mem_singleton.1 h, HFO.out, HTL.out]; omega)
  have y9 := blk_cell hr3 9
  have y10 := blk_cell hr3 10
  have y11 := blk_cell hr3 11
  have y12 := blk_cell hr3 12
  simp at y9 y10 y11 y12
  clear hr3
  obtain ⟨s1, nw, hg1, hT1, -, -, -, -, -, hck⟩ := top_get0 HS.out (by decide) HT.out (by decide) ⟨x1, x2, x3, x4⟩
  have HG1 := Lib.hid hg1
  have HT1 := Lib.hid hT1
  have HCK := Lib.hid hck
  clear hg1 hT1 hck h6
  go_wp2_with fail
  refine (HP3.out.get HN3.out 500 (by decide) ⟨x1, x2, x3, x4⟩ HOK.out _ HG1.out).mono ?_
  rintro e w8 ⟨rfl, F8, hP8, hS8⟩
  have hB8 := hS8.gr.below HP3.out.ow0 HN3.out
  have HR8 := Lib.hid ((hB8.block _ HNX.out).trans HR3.out)
  have HP8 := Lib.hid hP8
  have HN8 := Lib.hid (show n0 ≤ w8.heap.size from Nat.le_trans HN3.out hB8.size)
  have HB8 := Lib.hid (HB3.out.trans (hB8.mono HNW.out))
  obtain ⟨va, vl, vc, rfl, hvl, -⟩ := hP8.own.slice
  have HVL := Lib.hid (show zs.length = vl from hvl.symm)
  have HVB := Lib.hid (show vl ≤ 34 from by rw [hvl]; have := HS.out.2.1; rw [List.length_map] at this; exact this)
  clear y5 y9 y10 y11 y12 hP8 hS8 hB8 hvl
  have hvb := HVB.out
  go_wp2_with fail
  go_loopw [8] (fun i wr => ∃ (k : Nat) (F : Nat → Nat) (s : MS), k ≤ vl ∧ i = .int .i64 k ∧ Pl n0 F wr p sp kb pb s zs (.slice va vl vc) SS ∧ TopI (zs.map fm) s (7300 + 300 * k) ∧ Chk s ⟨x1, x2, x3, x4⟩ ∧ (∀ j (hj : j < zs.length), j < k → Chk s (fm zs[j]).cell) ∧ Below n0 w8 wr) (fun i _ => vl - (intOf i).toNat)
  case atStart => exact ⟨0, F8, s1, Nat.zero_le _, rfl, HP8.out, HT1.out, HCK.out, fun j _ hj => absurd hj (by omega), Below.refl _ _⟩
  case round =>
    obtain ⟨k, F, s, hk, rfl, hP, hT, hc, hcs, hB⟩ := hrel
    have HP := Lib.hid hP
    have HT := Lib.hid hT
    have HC := Lib.hid hc
    have HCS := Lib.hid hcs
    have HBk := Lib.hid hB
    have HNk := Lib.hid (show n0 ≤ wr.heap.size from Nat.le_trans HN8.out hB.size)
    have x0 := blk_cell hP.row 0
    simp at x0
    clear hT hc hcs hB
    by_cases hlt : k < vl
    · have hkx : k < zs.length := by rw [HVL.out]; exact hlt
      have hkI : (k : Int) < (vl : Int) := by omega
      obtain ⟨b, off, ta', tl', tc', rfl, -, m0, m1, m2, m3, -, -, -, -, hfv⟩ := form_at (hP.own.rd (fun b => b < wr.heap.size) (fun b hb => (hP.own.bound b hb).2) (fun b hb => (hP.own.own b hb).2)) k hkx
      obtain ⟨_, _, _, _, -, -, -, mok, -⟩ := hfv
      have hz : zs.length ≤ 34 := by have := HS.out.2.1; rw [List.length_map] at this; exact this
      obtain ⟨s', nw', hg, hT', -, -, -, -, hkeep, hck⟩ := top_get0 HS.out (by decide) HT.out (by omega) (fm zs[k]).cell
      have HG := Lib.hid hg
      have HT' := Lib.hid hT'
      have MOK := Lib.hid mok
      have HLT := Lib.hid hlt
      have HKEEP := Lib.hid (show ∀ d, Chk s d → Chk s' d from fun d ⟨y, h1, h2⟩ => ⟨y, hkeep d y h1 h2, h2⟩)
      have HCSs := Lib.hid (show ∀ j (hj : j < zs.length), j < k + 1 → Chk s' (fm zs[j]).cell from fun j hj hjk => by
        by_cases e : j = k
        · subst e; exact hck
        · obtain ⟨y, h1, h2⟩ := HCS.out j hj (by omega)
          exact ⟨y, hkeep _ y h1 h2, h2⟩)
      generalize (fm zs[k]).cell = cc at m0 m1 m2 m3 MOK HG
      clear hg hT' mok hkeep hck hlt hz hP
      obtain ⟨d1, d2, d3, d4⟩ := cc
      simp only at m0 m1 m2 m3
      go_wp2_with fail
      refine (HP.out.get HNk.out 500 (by decide) ⟨d1, d2, d3, d4⟩ MOK.out _ HG.out).mono ?_
      rintro e w9 ⟨rfl, F9, hP9, hS9⟩
      have HP9 := Lib.hid hP9
      have HB9 := Lib.hid (HBk.out.trans (hS9.gr.below HP.out.ow0 HNk.out))
      clear hP9 hS9 m0 m1 m2 m3 x0
      go_wp2_with fail
      go_roundw
      case rel => exact ⟨k + 1, F9, s', HLT.out, by go_num, HP9.out, HT'.out.le (by omega), HKEEP.out _ HC.out, HCSs.out, HB9.out⟩
      case measure => simp [intOf]; try omega
    · obtain rfl : vl = k := by omega
      have HRV := Lib.hid (hP.own.rd (fun b => b < wr.heap.size) (fun b hb => (hP.own.bound b hb).2) (fun b hb => (hP.own.own b hb).2))
      have hdom : ∀ b, OW F sp (.slice va vl vc) b → b < wr.heap.size := fun b e => by
        rcases e with e | e | e
        · obtain ⟨sv, cv, eb, hM⟩ := hP.m
          exact hM.dom _ e
        · rw [e]; exact blk_lt hP.row
        · exact (hP.own.own _ e).2
      have HDOM := Lib.hid hdom
      have HALL := Lib.hid (show ∀ j (hj : j < zs.length), Chk s (fm zs[j]).cell from fun j hj => HCS.out j hj (by rw [← HVL.out]; exact hj))
      have hr9 := (HBk.out.block _ HNX.out).trans HR8.out
      have HR9 := Lib.hid hr9
      have x0' := blk_cell (((Below.refl _ wr).alloc (Nat.le_refl _) (.cells #[] 41)).block _ (blk_lt hP.row) |>.trans hP.row) 0
      simp at x0'
      clear hP hdom hlt HCS hr9 HP8 HT1 HCK HG1
      go_wp2_with (at_builtin; go_must (refine wpList_copy wr rfl _ _ 23 rfl (e := formT) info_form Try.underlying23 rfl (by decide) rfl (S := fun b => b < wr.heap.size) (sv := .slice va vl vc) (xs := zs) rfl HRV.out (fun _ h => h) HVL.out (by omega) (by omega) ?_; intro g cv w10 O10 hg hB10 h5 h6; have HO10 := Lib.hid O10; have HB10 := Lib.hid hB10; have HG10 := Lib.hid hg; clear O10 hB10 hg))
      have hgo := HO10.out.own g rfl
      have HCB := Lib.hid (show ∀ wj : World, wj.heap[g]? = w10.heap[g]? → ∀ j (hj : j < zs.length), wj.cell? ⟨g, j * 8, none⟩ = some (.int .i64 (fm zs[j]).cell.st) ∧ wj.cell? ⟨g, j * 8 + 1, none⟩ = some (.int .i64 (fm zs[j]).cell.en) ∧ wj.cell? ⟨g, j * 8 + 2, none⟩ = some (.int .i64 (fm zs[j]).cell.ot) ∧ wj.cell? ⟨g, j * 8 + 3, none⟩ = some (.int .i64 (fm zs[j]).cell.pe) from fun wj hwj j hj => by
        obtain ⟨b, off, ta', tl', tc', hb', -, m0, m1, m2, m3, -, -, -, -, -⟩ := form_at (HO10.out.rd (fun b => b < w10.heap.size) (fun b hb => (HO10.out.bound b hb).2) (fun b hb => (HO10.out.own b hb).2)) j hj
        simp only [Option.some.injEq, Addr.mk.injEq, and_true] at hb'
        obtain ⟨rfl, rfl⟩ := hb'
        simp only [Nat.zero_add] at m0 m1 m2 m3
        exact ⟨(cell_blk hwj _).trans m0, (cell_blk hwj _).trans m1, (cell_blk hwj _).trans m2, (cell_blk hwj _).trans m3⟩)
      have HP10 := Lib.hid (HP.out.below HB10.out)
      have HN10 := Lib.hid (show n0 ≤ w10.heap.size from Nat.le_trans HNk.out HB10.out.size)
      have HW10 := Lib.hid (HBk.out.trans (HB10.out.mono HNk.out))
      have HK10 := Lib.hid (show g < w10.heap.size ∧ ¬ OW F sp (.slice va vl vc) g from ⟨hgo.2, fun e => by have := HDOM.out g e; have := HG10.out; omega⟩)
      clear hgo h5 h6 HO10 HB10 HRV HDOM HG10 HP HBk HNk
      refine (HP10.out.reset HN10.out).mono ?_
      rintro e w11 ⟨rfl, hP11, hS11⟩
      have hB11 := hS11.gr.below HP10.out.ow0 HN10.out
      have hk11 := hS11.keep HK10.out.1 HK10.out.2
      have HK11 := Lib.hid (show w11.heap[g]? = w10.heap[g]? ∧ ¬ OW F sp (.slice va vl vc) g from hk11)
      have HP11 := Lib.hid hP11
      have HN11 := Lib.hid (show n0 ≤ w11.heap.size from Nat.le_trans HN10.out hB11.size)
      have HW11 := Lib.hid (HW10.out.trans hB11)
      have hr11 := (HW11.out.block _ HNX.out).trans HR8.out
      have HC0 : Cells [(⟨sp, 0, none⟩, .slice va vl vc), (⟨w.heap.size, 1, none⟩, .int .i64 q1), (⟨w.heap.size, 2, none⟩, .int .i64 q2), (⟨w.heap.size, 3, none⟩, .int .i64 q3), (⟨w.heap.size, 4, none⟩, .int .i64 q4), (⟨w.heap.size, 5, none⟩, .slice ta tl tc), (⟨w.heap.size, 6, none⟩, .int .i16 fa), (⟨w.heap.size, 7, none⟩, .int .u8 fmd), (⟨w.heap.size, 8, none⟩, .int .i8 fs)] w11 := ⟨blk_cell hP11.row 0, blk_cell hr11 1, blk_cell hr11 2, blk_cell hr11 3, blk_cell hr11 4, blk_cell hr11 5, blk_cell hr11 6, blk_cell hr11 7, blk_cell hr11 8, trivial⟩
      have HG11 := Lib.hid (show g < w11.heap.size from Nat.lt_of_lt_of_le HK10.out.1 hS11.gr.size)
      clear hP11 hS11 hB11 hk11 hr11
      go_wp2_with fail
      refine wp_region_T (Cells [(⟨sp, 0, none⟩, .slice va vl vc), (⟨w.heap.size, 1, none⟩, .int .i64 q1), (⟨w.heap.size, 2, none⟩, .int .i64 q2), (⟨w.heap.size, 3, none⟩, .int .i64 q3), (⟨w.heap.size, 4, none⟩, .int .i64 q4), (⟨w.heap.size, 5, none⟩, .slice ta tl tc), (⟨w.heap.size, 6, none⟩, .int .i16 fa), (⟨w.heap.size, 7, none⟩, .int .u8 fmd), (⟨w.heap.size, 8, none⟩, .int .i8 fs)]) (fun i => i == 8 || i == 11) (by kernel_rfl) ?_
      have hSss1 := Cells.drew HC0
      have hB_0_s1 : Below w11.heap.size w11 w11.drew := below_drew _
      generalize w11.drew = s1 at hSss1 hB_0_s1 ⊢
      have hB_s1_s1 := Below.refl s1.heap.size s1
      refine wpAnyT_pure (i := 0) (v := ?_) rfl (by kernel_rfl) (by kernel_rfl) (by kernel_rfl) (fun _ _ _ h => h) (by rfl) ?_ ?_
      rotate_left
      · intro w; go_simp; try with_reducible rfl
      simp only [Act.put, List.setIfInBounds_toArray, List.set_cons_zero, List.set_cons_succ, List.getElem_toArray, List.getElem_cons_succ, List.getElem_cons_zero]
      refine wpAnyT_pure (i := 1) (v := ?_) rfl (by kernel_rfl) (by kernel_rfl) (by kernel_rfl) (fun _ _ _ h => h) (by rfl) ?_ ?_
      rotate_left
      · intro w; go_simp; try with_reducible rfl
      simp only [Act.put, List.setIfInBounds_toArray, List.set_cons_zero, List.set_cons_succ, List.getElem_toArray, List.getElem_cons_succ, List.getElem_cons_zero]
      refine wpAnyT_pure (i := 2) (v := ?_) rfl (by kernel_rfl) (by kernel_rfl) (by kernel_rfl) (fun _ _ _ h => h) (by rfl) ?_ ?_
      rotate_left
      · intro w; go_simp; try with_reducible rfl
      simp only [Act.put, List.setIfInBounds_toArray, List.set_cons_zero, List.set_cons_succ, List.getElem_toArray, List.getElem_cons_succ, List.getElem_cons_zero]
      refine wpAnyT_pure (i := 3) (v := ?_) rfl (by kernel_rfl) (by kernel_rfl) (by kernel_rfl) (fun _ _ _ h => h) (by rfl) ?_ ?_
      rotate_left
      · intro w; go_simp; try with_reducible rfl
      simp only [Act.put, List.setIfInBounds_toArray, List.set_cons_zero, List.set_cons_succ, List.getElem_toArray, List.getElem_cons_succ, List.getElem_cons_zero]
      refine wpAnyT_pure (i := 5) (v := ?_) rfl (by kernel_rfl) (by kernel_rfl) (by kernel_rfl) (fun _ _ _ h => h) (by rfl) ?_ ?_
      rotate_left
      · intro w; go_simp; try with_reducible rfl
      simp only [Act.put, List.setIfInBounds_toArray, List.set_cons_zero, List.set_cons_succ, List.getElem_toArray, List.getElem_cons_succ, List.getElem_cons_zero]
      refine wpAnyT_loadW (i := 4) (v := ?_) rfl (by kernel_rfl) (by kernel_rfl) (by kernel_rfl) (by kernel_rfl) (by kernel_rfl) (fun _ _ _ h => h) (Or.inl ⟨by rfl, ?_⟩) hSss1 ?_
      rotate_left
      · intro w hSw; obtain ⟨e0, e1, e2, e3, e4, e5, e6, e7, e8, -⟩ := hSw; go_simp; try with_reducible rfl
      simp only [Act.put, List.setIfInBounds_toArray, List.set_cons_zero, List.set_cons_succ, List.getElem_toArray, List.getElem_cons_succ, List.getElem_cons_zero]
      refine wpAnyT_loadW (i := 6) (v := ?_) rfl (by kernel_rfl) (by kernel_rfl) (by kernel_rfl) (by kernel_rfl) (by kernel_rfl) (fun _ _ _ h => h) (Or.inl ⟨by rfl, ?_⟩) hSss1 ?_
      rotate_left
      · intro w hSw; obtain ⟨e0, e1, e2, e3, e4, e5, e6, e7, e8, -⟩ := hSw; go_simp; try with_reducible rfl
      simp only [Act.put, List.setIfInBounds_toArray, List.set_cons_zero, List.set_cons_succ, List.getElem_toArray, List.getElem_cons_succ, List.getElem_cons_zero]
      refine wpAnyT_one (i := 7) (by kernel_rfl) rfl (by rfl) ?_
      obtain ⟨b20, hb20⟩ : ∃ b, (s1).heap.size = b := ⟨_, rfl⟩
      refine wp_newrow (v := .slice (some ⟨b20, 0, none⟩) 1 1) (cs := #[.int .i64 q1, .int .i64 q2, .int .i64 q3, .int .i64 q4, .slice ta tl tc, .int .i16 fa, .int .u8 fmd, .int .i8 fs]) (te := 41) (by rw [← hb20]; go_simp) ?_
      intro w102 hX hN20
      rw [hb20] at hN20
      have hB_s1_w102 := below_step hB_s1_s1 hX
      have hB_w102_w102 := Below.refl w102.heap.size w102
      have hSsw102 := Cells.below hB_s1_w102 hSss1
      clear hX
      refine ⟨fun _ _ => hSsw102, ?_⟩
      try simp only [Act.put, List.setIfInBounds_toArray, List.set_cons_zero, List.set_cons_succ, List.getElem_toArray, List.getElem_cons_succ, List.getElem_cons_zero]
      refine wpAnyT_one (i := 8) (by kernel_rfl) rfl (by rfl) ?_
      have hq20 := ((hB_w102_w102).block _ (blk_lt hN20)).trans hN20
      have hbP : Below w11.heap.size w11 w102 := hB_0_s1.trans ((hB_s1_w102).mono (hB_0_s1).size)
      have HPP := Lib.hid (HP11.out.below hbP)
      have HNP := Lib.hid (show n0 ≤ (w102).heap.size from Nat.le_trans HN11.out hbP.size)
      have HWP := Lib.hid (HW11.out.trans (hbP.mono HN11.out))
      have HGP := Lib.hid (show g < (w102).heap.size ∧ (w102).heap[g]? = w10.heap[g]? from ⟨Nat.lt_of_lt_of_le HG11.out hbP.size, (hbP.block g HG11.out).trans HK11.out.1⟩)
      refine wp_app (.tmp 78) (.tmp 81) 23 rfl (e := formT) (te := 41) info_form Try.underlying23 rfl (by decide) (base := n0) (S := fun b => SS b ∨ b < w.heap.size) (v := .slice va vl vc) (xs := zs) (by kernel_rfl) (HPP.out.own.wider (fun _ h => .inl h) (fun b hb => hb.elim (fun h => HPP.out.own.bound b h) (fun h => ⟨fun e => by have h1 := (HPP.out.own.own b e).1; have h2 := HNW.out; omega, by have := HNW.out; have := HNP.out; omega⟩))) HNP.out (sv := .slice (some ⟨b20, 0, none⟩) 1 1) (by kernel_rfl) (ys := [xf]) (Src.of_cells (news := [.int .i64 q1, .int .i64 q2, .int .i64 q3, .int .i64 q4, .slice ta tl tc, .int .i16 fa, .int .u8 fmd, .int .i8 fs]) (fun j u hu => by rw [Nat.zero_add, blk_cell hq20]; simpa using hu)) (RdL.one (e := formT) ((HFF.out.below (HB8.out.trans (HWP.out.mono HNW.out)) (fun _ h => h)).keep (fun _ _ => rfl) (fun _ h => .inr h))) (by have := HVB.out; rw [HVL.out]; simp only [List.length_singleton]; omega) (by have := HVB.out; rw [HVL.out]; simp only [List.length_singleton]; omega) ?_
      intro ca9 cl9 cc9 w103 O8 g8 ob8
      have hput := HPP.out.put g8 O8 ob8 HNP.out (fun b hb => hb.elim (fun h => HPP.out.fS b h) (fun h => ⟨by
        by_cases e : F b = 0
        · exact e
        · have h1 := HPP.out.f0 b e; have h2 := HNW.out; omega, fun e => by have h1 := HPP.out.sp0; have h2 := HNW.out; omega⟩))
      have hvs := fun e => (HPP.out.fv sp e).2 rfl
      have hr8 := blk_gr (Gr.of_grown g8) HPP.out.row hvs
      have f8 := blk_frozen hr8 0
      have q8 := blk_cell hr8 0
      simp at q8
      clear O8 g8 ob8 hvs hr8 hbP hq20
      refine ⟨fun h => absurd h (by decide), ?_⟩
      try simp only [Act.put, List.setIfInBounds_toArray, List.set_cons_zero, List.set_cons_succ, List.getElem_toArray, List.getElem_cons_succ, List.getElem_cons_zero]
      refine wpAnyT_pure (i := 9) (v := ?_) rfl (by kernel_rfl) (by kernel_rfl) (by kernel_rfl) (fun _ _ _ h => h) (by rfl) ?_ ?_
      rotate_left
      · intro w; go_simp; try with_reducible rfl
      simp only [Act.put, List.setIfInBounds_toArray, List.set_cons_zero, List.set_cons_succ, List.getElem_toArray, List.getElem_cons_succ, List.getElem_cons_zero]
      refine wpAnyT_pure (i := 10) (v := ?_) rfl (by kernel_rfl) (by kernel_rfl) (by kernel_rfl) (fun _ _ _ h => h) (by rfl) ?_ ?_
      rotate_left
      · intro w; go_simp; try with_reducible rfl
      simp only [Act.put, List.setIfInBounds_toArray, List.set_cons_zero, List.set_cons_succ, List.getElem_toArray, List.getElem_cons_succ, List.getElem_cons_zero]
      refine wpAnyT_one (i := 11) (by kernel_rfl) rfl (by rfl) ?_
      refine wp_store1 (w' := (w103).setCell ⟨sp, 0, none⟩ (.slice ca9 cl9 cc9)) 23 (.tmp 84) (.tmp 82) rfl ⟨sp, 0, none⟩ (.slice ca9 cl9 cc9) (by kernel_rfl) (by kernel_rfl) (by go_simp) ?_
      clear f8 q8
      generalize (w103).setCell ⟨sp, 0, none⟩ (.slice ca9 cl9 cc9) = w104 at hput ⊢
      refine ⟨fun h => absurd h (by decide), ?_⟩
      try simp only [Act.put, List.setIfInBounds_toArray, List.set_cons_zero, List.set_cons_succ, List.getElem_toArray, List.getElem_cons_succ, List.getElem_cons_zero]
      refine wpAnyT_done (by kernel_rfl) ?_ _
      obtain ⟨w12, rfl⟩ : ∃ x, x = w104 := ⟨_, rfl⟩
      obtain ⟨hP12, hS12⟩ := hput
      have hB12 := hS12.gr.below HPP.out.ow0 HNP.out
      have HP12 := Lib.hid hP12
      have HN12 := Lib.hid (show n0 ≤ w12.heap.size from Nat.le_trans HNP.out hB12.size)
      have HW12 := Lib.hid (HWP.out.trans hB12)
      have hk12 := hS12.keep HGP.out.1 HK11.out.2
      have HK12 := Lib.hid (show g < w12.heap.size ∧ w12.heap[g]? = w10.heap[g]? ∧ ¬ OW F sp (.slice ca9 cl9 cc9) g from ⟨Nat.lt_of_lt_of_le HGP.out.1 hS12.gr.size, hk12.1.trans HGP.out.2, hk12.2⟩)
      clear hP12 hS12 hB12 hk12 HPP HNP HWP HGP
      have hr12 := (HW12.out.block _ HNX.out).trans HR8.out
      have y1 := blk_cell hr12 1
      have y2 := blk_cell hr12 2
      have y3 := blk_cell hr12 3
      have y4 := blk_cell hr12 4
      simp at y1 y2 y3 y4
      obtain ⟨s2, hg2, hnd, hlen, hdep⟩ := local_ok HSM.out (by decide) HT.out (by omega) ⟨x1, x2, x3, x4⟩
      have hcell : (fm xf).cell = ⟨q1, q2, q3, q4⟩ := by rw [HFO.out]
      have hmap : (zs ++ [xf]).map fm = zs.map fm ++ [fm xf] := by rw [List.map_append]; rfl
      rw [hcell] at hg2 hdep
      rw [← hmap] at hg2 hdep
      have hrk : ranked ((zs ++ [xf]).map fm) := by rw [hmap]; exact HSM.out.1
      have HRK := Lib.hid hrk
      have HG2 := Lib.hid hg2
      have HND := Lib.hid hnd
      have HLEN := Lib.hid hlen
      have HDEP := Lib.hid hdep
      clear hg2 hnd hlen hdep hcell hmap hrk hr12
      go_wp2_with fail
      refine (HP12.out.change HN12.out ⟨q1, q2, q3, q4⟩ FOK.out).mono ?_
      rintro e w13 ⟨rfl, hP13, hS13⟩
      have hB13 := hS13.gr.below HP12.out.ow0 HN12.out
      have hk13 := hS13.keep HK12.out.1 HK12.out.2.2
      have HP13 := Lib.hid hP13
      have HN13 := Lib.hid (show n0 ≤ w13.heap.size from Nat.le_trans HN12.out hB13.size)
      have HW13 := Lib.hid (HW12.out.trans hB13)
      have HK13 := Lib.hid (show g < w13.heap.size ∧ w13.heap[g]? = w10.heap[g]? ∧ ¬ OW F sp (.slice ca9 cl9 cc9) g from ⟨Nat.lt_of_lt_of_le HK12.out.1 hS13.gr.size, hk13.1.trans HK12.out.2.1, hk13.2⟩)
      clear y1 y2 y3 y4 hP13 hS13 hB13 hk13
      have hr13 := (HW13.out.block _ HNX.out).trans HR8.out
      have y9 := blk_cell hr13 9
      have y10 := blk_cell hr13 10
      have y11 := blk_cell hr13 11
      have y12 := blk_cell hr13 12
      simp at y9 y10 y11 y12
      clear hr13
      go_wp2_with fail
      refine (HP13.out.get HN13.out 500 (by decide) ⟨x1, x2, x3, x4⟩ HOK.out _ HG2.out).mono ?_
      rintro e w14 ⟨rfl, F14, hP14, hS14⟩
      have hB14 := hS14.gr.below HP13.out.ow0 HN13.out
      have hk14 := hS14.keep HK13.out.1 HK13.out.2.2
      have HP14 := Lib.hid hP14
      have HN14 := Lib.hid (show n0 ≤ w14.heap.size from Nat.le_trans HN13.out hB14.size)
      have HW14 := Lib.hid (HW13.out.trans hB14)
      have HK14 := Lib.hid (show g < w14.heap.size ∧ w14.heap[g]? = w10.heap[g]? from ⟨Nat.lt_of_lt_of_le HK13.out.1 hS14.gr.size, hk14.1.trans HK13.out.2.1⟩)
      clear y9 y10 y11 y12 hP14 hS14 hB14 hk14
      go_wp2_with fail
      refine (HP14.out.computed (Nat.le_trans HLEN.out (by decide))).mono ?_
      rintro e w15 ⟨v15, rfl, hB15, hO15⟩
      obtain ⟨av2, lv2, cv2, rfl, hlv2⟩ := hO15.slice
      obtain ⟨cp, hcp⟩ : ∃ l, s2.comp = l := ⟨_, rfl⟩
      rw [hcp] at hO15 hlv2
      have HCP := Lib.hid hcp
      have HLC := Lib.hid (show cp.length = lv2 ∧ lv2 ≤ 300 from by
        have h1 := hlv2.1
        rw [List.length_map] at h1
        have h2 := HLEN.out
        rw [hcp] at h2
        omega)
      have HRC := Lib.hid (rdOwn hO15)
      have HP15 := Lib.hid (HP14.out.below hB15)
      have HW15 := Lib.hid (HW14.out.trans (hB15.mono HN14.out))
      have HK15 := Lib.hid (show w15.heap[g]? = w10.heap[g]? from (hB15.block g HK14.out.1).trans HK14.out.2)
      have HGL := Lib.hid (show g < w15.heap.size from Nat.lt_of_lt_of_le HK14.out.1 hB15.size)
      have HR15 := Lib.hid (show w15.heap[w.heap.size]? = _ from (HW15.out.block _ HNX.out).trans HR8.out)
      have HRL := Lib.hid (HP15.out.own.rd (fun b => b < w15.heap.size) (fun b hb => (HP15.out.own.bound b hb).2) (fun b hb => (HP15.out.own.own b hb).2))
      have HSP := Lib.hid HP15.out.row
      have HWA := Lib.hid (show Below w.heap.size w w15 from HB8.out.trans (HW15.out.mono HNW.out))
      clear hO15 hlv2 hB15 hcp HP3 HP10 HP11 HP12 HP13 HP14 HP15 HG2 HW10 HW11 HW12 HW13 HW14 HK10 HK11 HK12 HK13 HK14 HN10 HN11 HN12 HN13 HN14 HR2 HR3 HR9 HG11
      have hl300 := HLC.out.2
      go_wp2_with fail
      go_loopw [13, 14, 15, 16] (fun i _ _ _ wr => ∃ k : Nat, k ≤ lv2 ∧ i = .int .i64 k ∧ Below w15.heap.size w15 wr) (fun i _ _ _ _ => lv2 - (intOf i).toNat)
      case atStart => exact ⟨0, Nat.zero_le _, rfl, Below.refl _ _⟩
      case round =>
        obtain ⟨k, hk, rfl, hB⟩ := hrel
        have HBo := Lib.hid hB
        by_cases hlt : k < lv2
        · have hkc : k < cp.length := by rw [HLC.out.1]; exact hlt
          have hkI : (k : Int) < (lv2 : Int) := by omega
          obtain ⟨b, off, rfl, hbS, m0, m1, m2, m3, mok⟩ := cell_at HRC.out k (by rw [List.length_map]; exact hkc)
          simp only [List.getElem_map] at m0 m1 m2 m3 mok
          have hcd : ∀ c : C4, c4 c.d = c := fun c => rfl
          rw [hcd] at m0 m1 m2 m3 mok
          have HNE := Lib.hid (show ∀ q (hq : q < cp.length), q < k → cp[q] ≠ cp[k] from fun q hq hqk e => by
            have h := HND.out
            rw [HCP.out] at h
            exact (List.pairwise_iff_getElem.1 h q k hq hkc hqk) e)
          have HDP := Lib.hid (show Chk s cp[k] → Dep ((zs ++ [xf]).map fm) ⟨q1, q2, q3, q4⟩ cp[k] from HDEP.out _ (by rw [HCP.out]; exact List.getElem_mem hkc))
          have HCQ := Lib.hid (show ∀ q (hq : q < cp.length) wj, Below w15.heap.size w15 wj → wj.cell? ⟨b, off + q * 4, none⟩ = some (.int .i64 cp[q].st) ∧ wj.cell? ⟨b, off + q * 4 + 1, none⟩ = some (.int .i64 cp[q].en) ∧ wj.cell? ⟨b, off + q * 4 + 2, none⟩ = some (.int .i64 cp[q].ot) ∧ wj.cell? ⟨b, off + q * 4 + 3, none⟩ = some (.int .i64 cp[q].pe) from fun q hq wj hBj => by
            obtain ⟨b', off', hb', -, p0, p1, p2, p3, -⟩ := cell_at (HRC.out.below hBj (fun _ h => h)) q (by rw [List.length_map]; exact hq)
            simp only [Option.some.injEq, Addr.mk.injEq, and_true] at hb'
            obtain ⟨rfl, rfl⟩ := hb'
            simp only [List.getElem_map] at p0 p1 p2 p3
            rw [hcd] at p0 p1 p2 p3
            exact ⟨p0, p1, p2, p3⟩)
          have HMK := Lib.hid (show ∀ wj, Below w15.heap.size w15 wj → wj.cell? ⟨b, off + k * 4, none⟩ = some (.int .i64 cp[k].st) ∧ wj.cell? ⟨b, off + k * 4 + 1, none⟩ = some (.int .i64 cp[k].en) ∧ wj.cell? ⟨b, off + k * 4 + 2, none⟩ = some (.int .i64 cp[k].ot) ∧ wj.cell? ⟨b, off + k * 4 + 3, none⟩ = some (.int .i64 cp[k].pe) from fun wj hBj => HCQ.out k hkc wj hBj)
          have MOK := Lib.hid mok
          have HLT := Lib.hid hlt
          clear hcd m0 m1 m2 m3 mok hB hbS
          generalize cp[k] = dk at HNE HDP HMK MOK
          obtain ⟨d1, d2, d3, d4⟩ := dk
          simp only at HMK
          clear hlt hkc
          go_wp2_with fail
          go_loopw [14] (fun j wj => ∃ q : Nat, q ≤ k ∧ j = .int .i64 q ∧ Below w15.heap.size w15 wj) (fun j _ => k - (intOf j).toNat)
          case atStart => exact ⟨0, Nat.zero_le _, rfl, HBo.out⟩
          case round =>
            obtain ⟨q, hq, rfl, hBj⟩ := hrel
            have HBj := Lib.hid hBj
            obtain ⟨m0, m1, m2, m3⟩ := HMK.out wr hBj
            clear hBj
            by_cases hqk : q < k
            · have hqI : (q : Int) < (k : Int) := by omega
              have hqL : (q : Int) < (lv2 : Int) := by omega
              have hqc : q < cp.length := by rw [HLC.out.1]; have := HLT.out; omega
              obtain ⟨p0, p1, p2, p3⟩ := HCQ.out q hqc wr HBj.out
              have hne := HNE.out q hqc hqk
              generalize cp[q] = dq at p0 p1 p2 p3 hne
              obtain ⟨e1, e2, e3, e4⟩ := dq
              simp only at p0 p1 p2 p3
              have HNQ := Lib.hid (decide_eq_false hne)
              have HQK := Lib.hid hqk
              have hC0 : Cells [(⟨b, off + q * 4, none⟩, .int .i64 e1), (⟨b, off + q * 4 + 1, none⟩, .int .i64 e2), (⟨b, off + q * 4 + 2, none⟩, .int .i64 e3), (⟨b, off + q * 4 + 3, none⟩, .int .i64 e4), (⟨b, off + k * 4, none⟩, .int .i64 d1), (⟨b, off + k * 4 + 1, none⟩, .int .i64 d2), (⟨b, off + k * 4 + 2, none⟩, .int .i64 d3), (⟨b, off + k * 4 + 3, none⟩, .int .i64 d4)] wr := ⟨p0, p1, p2, p3, m0, m1, m2, m3, trivial⟩
              clear hne hqk hqc m0 m1 m2 m3 p0 p1 p2 p3
              go_wp2_with fail
              refine wp_region_T (Cells [(⟨b, off + q * 4, none⟩, .int .i64 e1), (⟨b, off + q * 4 + 1, none⟩, .int .i64 e2), (⟨b, off + q * 4 + 2, none⟩, .int .i64 e3), (⟨b, off + q * 4 + 3, none⟩, .int .i64 e4), (⟨b, off + k * 4, none⟩, .int .i64 d1), (⟨b, off + k * 4 + 1, none⟩, .int .i64 d2), (⟨b, off + k * 4 + 2, none⟩, .int .i64 d3), (⟨b, off + k * 4 + 3, none⟩, .int .i64 d4)]) (fun _ => false) (by kernel_rfl) ?_
              have hSss5 := Cells.drew hC0
              have hB_0_s5 : Below wr.heap.size wr wr.drew := below_drew _
              generalize wr.drew = s5 at hSss5 hB_0_s5 ⊢
              have hB_s5_s5 := Below.refl s5.heap.size s5
              refine wpAnyT_pure (i := 0) (v := ?_) rfl (by kernel_rfl) (by kernel_rfl) (by kernel_rfl) (fun _ _ _ h => h) (by rfl) ?_ ?_
              rotate_left
              · intro w; go_simp; try with_reducible rfl
              simp only [Act.put, List.setIfInBounds_toArray, List.set_cons_zero, List.set_cons_succ, List.getElem_toArray, List.getElem_cons_succ, List.getElem_cons_zero]
              refine wpAnyT_pure (i := 1) (v := ?_) rfl (by kernel_rfl) (by kernel_rfl) (by kernel_rfl) (fun _ _ _ h => h) (by rfl) ?_ ?_
              rotate_left
              · intro w; go_simp; try with_reducible rfl
              simp only [Act.put, List.setIfInBounds_toArray, List.set_cons_zero, List.set_cons_succ, List.getElem_toArray, List.getElem_cons_succ, List.getElem_cons_zero]
              refine wpAnyT_pure (i := 2) (v := ?_) rfl (by kernel_rfl) (by kernel_rfl) (by kernel_rfl) (fun _ _ _ h => h) (by rfl) ?_ ?_
              rotate_left
              · intro w; go_simp; try with_reducible rfl
              simp only [Act.put, List.setIfInBounds_toArray, List.set_cons_zero, List.set_cons_succ, List.getElem_toArray, List.getElem_cons_succ, List.getElem_cons_zero]
              refine wpAnyT_pure (i := 4) (v := ?_) rfl (by kernel_rfl) (by kernel_rfl) (by kernel_rfl) (fun _ _ _ h => h) (by rfl) ?_ ?_
              rotate_left
              · intro w; go_simp; try with_reducible rfl
              simp only [Act.put, List.setIfInBounds_toArray, List.set_cons_zero, List.set_cons_succ, List.getElem_toArray, List.getElem_cons_succ, List.getElem_cons_zero]
              refine wpAnyT_pure (i := 5) (v := ?_) rfl (by kernel_rfl) (by kernel_rfl) (by kernel_rfl) (fun _ _ _ h => h) (by rfl) ?_ ?_
              rotate_left
              · intro w; go_simp; try with_reducible rfl
              simp only [Act.put, List.setIfInBounds_toArray, List.set_cons_zero, List.set_cons_succ, List.getElem_toArray, List.getElem_cons_succ, List.getElem_cons_zero]
              refine wpAnyT_pure (i := 6) (v := ?_) rfl (by kernel_rfl) (by kernel_rfl) (by kernel_rfl) (fun _ _ _ h => h) (by rfl) ?_ ?_
              rotate_left
              · intro w; go_simp; try with_reducible rfl
              simp only [Act.put, List.setIfInBounds_toArray, List.set_cons_zero, List.set_cons_succ, List.getElem_toArray, List.getElem_cons_succ, List.getElem_cons_zero]
              refine wpAnyT_loadW (i := 3) (v := ?_) rfl (by kernel_rfl) (by kernel_rfl) (by kernel_rfl) (by kernel_rfl) (by kernel_rfl) (fun _ _ _ h => h) (Or.inl ⟨by rfl, ?_⟩) hSss5 ?_
              rotate_left
              · intro w hSw; obtain ⟨e0, e1, e2, e3, e4, e5, e6, e7, -⟩ := hSw; go_simp; try with_reducible rfl
              simp only [Act.put, List.setIfInBounds_toArray, List.set_cons_zero, List.set_cons_succ, List.getElem_toArray, List.getElem_cons_succ, List.getElem_cons_zero]
              refine wpAnyT_loadW (i := 7) (v := ?_) rfl (by kernel_rfl) (by kernel_rfl) (by kernel_rfl) (by kernel_rfl) (by kernel_rfl) (fun _ _ _ h => h) (Or.inl ⟨by rfl, ?_⟩) hSss5 ?_
              rotate_left
              · intro w hSw; obtain ⟨e0, e1, e2, e3, e4, e5, e6, e7, -⟩ := hSw; go_simp; try with_reducible rfl
              simp only [Act.put, List.setIfInBounds_toArray, List.set_cons_zero, List.set_cons_succ, List.getElem_toArray, List.getElem_cons_succ, List.getElem_cons_zero]
              refine wpAnyT_one (i := 8) (by kernel_rfl) rfl (by rfl) ?_
              refine wp_value (v := .bool false) (w' := s5) (by have hq := of_decide_eq_false HNQ.out; clear HNQ; go_simp; intro z1 z2 z3 z4; subst z1 z2 z3 z4; exact hq rfl) ?_
              refine ⟨fun _ h => h, ?_⟩
              try simp only [Act.put, List.setIfInBounds_toArray, List.set_cons_zero, List.set_cons_succ, List.getElem_toArray, List.getElem_cons_succ, List.getElem_cons_zero]
              refine wpAnyT_done (by kernel_rfl) ?_ _
              have HBP := Lib.hid (below_step HBj.out (hB_0_s5.trans ((hB_s5_s5).mono (hB_0_s5).size)))
              go_wp2_with fail
              go_roundw
              case rel => exact ⟨q + 1, HQK.out, by go_num, HBP.out⟩
              case measure => simp [intOf]; try omega
            · obtain rfl : q = k := by omega
              obtain ⟨eb, heb⟩ : ∃ eb, decide ((⟨d1, d2, d3, d4⟩ : C4) = ⟨x1, x2, x3, x4⟩) = eb := ⟨_, rfl⟩
              have HEB := Lib.hid heb
              have HKN := Lib.hid (show eb = true → Chk s ⟨d1, d2, d3, d4⟩ from fun h => by rw [of_decide_eq_true (heb.trans h)]; exact HC.out)
              have hr15 := (HBj.out.block _ (blk_lt HR15.out)).trans HR15.out
              have hC0 : Cells [(⟨b, off + q * 4, none⟩, .int .i64 d1), (⟨b, off + q * 4 + 1, none⟩, .int .i64 d2), (⟨b, off + q * 4 + 2, none⟩, .int .i64 d3), (⟨b, off + q * 4 + 3, none⟩, .int .i64 d4), (⟨w.heap.size, 9, none⟩, .int .i64 x1), (⟨w.heap.size, 10, none⟩, .int .i64 x2), (⟨w.heap.size, 11, none⟩, .int .i64 x3), (⟨w.heap.size, 12, none⟩, .int .i64 x4)] wr := ⟨m0, m1, m2, m3, blk_cell hr15 9, blk_cell hr15 10, blk_cell hr15 11, blk_cell hr15 12, trivial⟩
              clear hqk heb hr15 m0 m1 m2 m3
              go_wp2_with fail
              refine wp_region_T (Cells [(⟨b, off + q * 4, none⟩, .int .i64 d1), (⟨b, off + q * 4 + 1, none⟩, .int .i64 d2), (⟨b, off + q * 4 + 2, none⟩, .int .i64 d3), (⟨b, off + q * 4 + 3, none⟩, .int .i64 d4), (⟨w.heap.size, 9, none⟩, .int .i64 x1), (⟨w.heap.size, 10, none⟩, .int .i64 x2), (⟨w.heap.size, 11, none⟩, .int .i64 x3), (⟨w.heap.size, 12, none⟩, .int .i64 x4)]) (fun _ => false) (by kernel_rfl) ?_
              have hSss6 := Cells.drew hC0
              have hB_0_s6 : Below wr.heap.size wr wr.drew := below_drew _
              generalize wr.drew = s6 at hSss6 hB_0_s6 ⊢
              have hB_s6_s6 := Below.refl s6.heap.size s6
              refine wpAnyT_pure (i := 0) (v := ?_) rfl (by kernel_rfl) (by kernel_rfl) (by kernel_rfl) (fun _ _ _ h => h) (by rfl) ?_ ?_
              rotate_left
              · intro w; go_simp; try with_reducible rfl
              simp only [Act.put, List.setIfInBounds_toArray, List.set_cons_zero, List.set_cons_succ, List.getElem_toArray, List.getElem_cons_succ, List.getElem_cons_zero]
              refine wpAnyT_pure (i := 1) (v := ?_) rfl (by kernel_rfl) (by kernel_rfl) (by kernel_rfl) (fun _ _ _ h => h) (by rfl) ?_ ?_
              rotate_left
              · intro w; go_simp; try with_reducible rfl
              simp only [Act.put, List.setIfInBounds_toArray, List.set_cons_zero, List.set_cons_succ, List.getElem_toArray, List.getElem_cons_succ, List.getElem_cons_zero]
              refine wpAnyT_pure (i := 2) (v := ?_) rfl (by kernel_rfl) (by kernel_rfl) (by kernel_rfl) (fun _ _ _ h => h) (by rfl) ?_ ?_
              rotate_left
              · intro w; go_simp; try with_reducible rfl
              simp only [Act.put, List.setIfInBounds_toArray, List.set_cons_zero, List.set_cons_succ, List.getElem_toArray, List.getElem_cons_succ, List.getElem_cons_zero]
              refine wpAnyT_pure (i := 4) (v := ?_) rfl (by kernel_rfl) (by kernel_rfl) (by kernel_rfl) (fun _ _ _ h => h) (by rfl) ?_ ?_
              rotate_left
              · intro w; go_simp; try with_reducible rfl
              simp only [Act.put, List.setIfInBounds_toArray, List.set_cons_zero, List.set_cons_succ, List.getElem_toArray, List.getElem_cons_succ, List.getElem_cons_zero]
              refine wpAnyT_loadW (i := 3) (v := ?_) rfl (by kernel_rfl) (by kernel_rfl) (by kernel_rfl) (by kernel_rfl) (by kernel_rfl) (fun _ _ _ h => h) (Or.inl ⟨by rfl, ?_⟩) hSss6 ?_
              rotate_left
              · intro w hSw; obtain ⟨e0, e1, e2, e3, e4, e5, e6, e7, -⟩ := hSw; go_simp; try with_reducible rfl
              simp only [Act.put, List.setIfInBounds_toArray, List.set_cons_zero, List.set_cons_succ, List.getElem_toArray, List.getElem_cons_succ, List.getElem_cons_zero]
              refine wpAnyT_loadW (i := 5) (v := ?_) rfl (by kernel_rfl) (by kernel_rfl) (by kernel_rfl) (by kernel_rfl) (by kernel_rfl) (fun _ _ _ h => h) (Or.inl ⟨by rfl, ?_⟩) hSss6 ?_
              rotate_left
              · intro w hSw; obtain ⟨e0, e1, e2, e3, e4, e5, e6, e7, -⟩ := hSw; go_simp; try with_reducible rfl
              simp only [Act.put, List.setIfInBounds_toArray, List.set_cons_zero, List.set_cons_succ, List.getElem_toArray, List.getElem_cons_succ, List.getElem_cons_zero]
              refine wpAnyT_one (i := 6) (by kernel_rfl) rfl (by rfl) ?_
              refine wp_value (v := .bool eb) (w' := s6) (by have hq := HEB.out; clear HEB; go_simp; rw [← hq]; by_cases z1 : d1 = x1 <;> by_cases z2 : d2 = x2 <;> by_cases z3 : d3 = x3 <;> by_cases z4 : d4 = x4 <;> simp [z1, z2, z3, z4]) ?_
              refine ⟨fun _ h => h, ?_⟩
              try simp only [Act.put, List.setIfInBounds_toArray, List.set_cons_zero, List.set_cons_succ, List.getElem_toArray, List.getElem_cons_succ, List.getElem_cons_zero]
              refine wpAnyT_pure (i := 7) (v := ?_) rfl (by kernel_rfl) (by kernel_rfl) (by kernel_rfl) (fun _ _ _ h => h) (by rfl) ?_ ?_
              rotate_left
              · intro w; go_simp; try with_reducible rfl
              simp only [Act.put, List.setIfInBounds_toArray, List.set_cons_zero, List.set_cons_succ, List.getElem_toArray, List.getElem_cons_succ, List.getElem_cons_zero]
              refine wpAnyT_done (by kernel_rfl) ?_ _
              have HBP := Lib.hid (below_step HBj.out (hB_0_s6.trans ((hB_s6_s6).mono (hB_0_s6).size)))
              obtain ⟨w16, hw16⟩ : ∃ x, x = s6 := ⟨_, rfl⟩
              rw [← hw16] at HBP ⊢
              clear hw16
              go_wp2_with fail
              go_loopw [15, 16] (fun kn i wj => ∃ (r : Nat) (kb : Bool), r ≤ vl ∧ i = .int .i64 r ∧ kn = .bool kb ∧ (kb = true → Chk s ⟨d1, d2, d3, d4⟩) ∧ Below w15.heap.size w15 wj) (fun _ i _ => vl - (intOf i).toNat)
              case atStart => exact ⟨0, eb, Nat.zero_le _, rfl, rfl, HKN.out, HBP.out⟩
              case round =>
                obtain ⟨r, kb, hr, rfl, rfl, hkb, hBr⟩ := hrel
                have HKB := Lib.hid hkb
                have HBr := Lib.hid hBr
                clear hkb hBr
                by_cases hrv : r < vl
                · have hrI : (r : Int) < (vl : Int) := by omega
                  have HRV := Lib.hid hrv
                  cases kb
                  · have hrz : r < zs.length := by rw [HVL.out]; exact hrv
                    have hqL : (q : Int) < (lv2 : Int) := hkI
                    obtain ⟨m0, m1, m2, m3⟩ := HMK.out wr HBr.out
                    obtain ⟨p0, p1, p2, p3⟩ := HCB.out wr ((HBr.out.block g HGL.out).trans HK15.out) r hrz
                    have hall := HALL.out r hrz
                    generalize (fm zs[r]).cell = dz at p0 p1 p2 p3 hall
                    obtain ⟨e1, e2, e3, e4⟩ := dz
                    simp only at p0 p1 p2 p3
                    obtain ⟨ez, hez⟩ : ∃ eb, decide ((⟨e1, e2, e3, e4⟩ : C4) = ⟨d1, d2, d3, d4⟩) = eb := ⟨_, rfl⟩
                    have HEZ := Lib.hid hez
                    have HKZ := Lib.hid (show ez = true → Chk s ⟨d1, d2, d3, d4⟩ from fun h => by rw [← of_decide_eq_true (hez.trans h)]; exact hall)
                    have hC0 : Cells [(⟨g, r * 8, none⟩, .int .i64 e1), (⟨g, r * 8 + 1, none⟩, .int .i64 e2), (⟨g, r * 8 + 2, none⟩, .int .i64 e3), (⟨g, r * 8 + 3, none⟩, .int .i64 e4), (⟨b, off + q * 4, none⟩, .int .i64 d1), (⟨b, off + q * 4 + 1, none⟩, .int .i64 d2), (⟨b, off + q * 4 + 2, none⟩, .int .i64 d3), (⟨b, off + q * 4 + 3, none⟩, .int .i64 d4)] wr := ⟨p0, p1, p2, p3, m0, m1, m2, m3, trivial⟩
                    clear hez hall hrz hrv m0 m1 m2 m3 p0 p1 p2 p3
                    go_wp2_with fail
                    refine wp_region_T (Cells [(⟨g, r * 8, none⟩, .int .i64 e1), (⟨g, r * 8 + 1, none⟩, .int .i64 e2), (⟨g, r * 8 + 2, none⟩, .int .i64 e3), (⟨g, r * 8 + 3, none⟩, .int .i64 e4), (⟨b, off + q * 4, none⟩, .int .i64 d1), (⟨b, off + q * 4 + 1, none⟩, .int .i64 d2), (⟨b, off + q * 4 + 2, none⟩, .int .i64 d3), (⟨b, off + q * 4 + 3, none⟩, .int .i64 d4)]) (fun _ => false) (by kernel_rfl) ?_
                    have hSss7 := Cells.drew hC0
                    have hB_0_s7 : Below wr.heap.size wr wr.drew := below_drew _
                    generalize wr.drew = s7 at hSss7 hB_0_s7 ⊢
                    have hB_s7_s7 := Below.refl s7.heap.size s7
                    refine wpAnyT_pure (i := 0) (v := ?_) rfl (by kernel_rfl) (by kernel_rfl) (by kernel_rfl) (fun _ _ _ h => h) (by rfl) ?_ ?_
                    rotate_left
                    · intro w; go_simp; try with_reducible rfl
                    simp only [Act.put, List.setIfInBounds_toArray, List.set_cons_zero, List.set_cons_succ, List.getElem_toArray, List.getElem_cons_succ, List.getElem_cons_zero]
                    refine wpAnyT_pure (i := 1) (v := ?_) rfl (by kernel_rfl) (by kernel_rfl) (by kernel_rfl) (fun _ _ _ h => h) (by rfl) ?_ ?_
                    rotate_left
                    · intro w; go_simp; try with_reducible rfl
                    simp only [Act.put, List.setIfInBounds_toArray, List.set_cons_zero, List.set_cons_succ, List.getElem_toArray, List.getElem_cons_succ, List.getElem_cons_zero]
                    refine wpAnyT_pure (i := 2) (v := ?_) rfl (by kernel_rfl) (by kernel_rfl) (by kernel_rfl) (fun _ _ _ h => h) (by rfl) ?_ ?_
                    rotate_left
                    · intro w; go_simp; try with_reducible rfl
                    simp only [Act.put, List.setIfInBounds_toArray, List.set_cons_zero, List.set_cons_succ, List.getElem_toArray, List.getElem_cons_succ, List.getElem_cons_zero]
                    refine wpAnyT_pure (i := 3) (v := ?_) rfl (by kernel_rfl) (by kernel_rfl) (by kernel_rfl) (fun _ _ _ h => h) (by rfl) ?_ ?_
                    rotate_left
                    · intro w; go_simp; try with_reducible rfl
                    simp only [Act.put, List.setIfInBounds_toArray, List.set_cons_zero, List.set_cons_succ, List.getElem_toArray, List.getElem_cons_succ, List.getElem_cons_zero]
                    refine wpAnyT_pure (i := 4) (v := ?_) rfl (by kernel_rfl) (by kernel_rfl) (by kernel_rfl) (fun _ _ _ h => h) (by rfl) ?_ ?_
                    rotate_left
                    · intro w; go_simp; try with_reducible rfl
                    simp only [Act.put, List.setIfInBounds_toArray, List.set_cons_zero, List.set_cons_succ, List.getElem_toArray, List.getElem_cons_succ, List.getElem_cons_zero]
                    refine wpAnyT_pure (i := 5) (v := ?_) rfl (by kernel_rfl) (by kernel_rfl) (by kernel_rfl) (fun _ _ _ h => h) (by rfl) ?_ ?_
                    rotate_left
                    · intro w; go_simp; try with_reducible rfl
                    simp only [Act.put, List.setIfInBounds_toArray, List.set_cons_zero, List.set_cons_succ, List.getElem_toArray, List.getElem_cons_succ, List.getElem_cons_zero]
                    refine wpAnyT_pure (i := 7) (v := ?_) rfl (by kernel_rfl) (by kernel_rfl) (by kernel_rfl) (fun _ _ _ h => h) (by rfl) ?_ ?_
                    rotate_left
                    · intro w; go_simp; try with_reducible rfl
                    simp only [Act.put, List.setIfInBounds_toArray, List.set_cons_zero, List.set_cons_succ, List.getElem_toArray, List.getElem_cons_succ, List.getElem_cons_zero]
                    refine wpAnyT_pure (i := 8) (v := ?_) rfl (by kernel_rfl) (by kernel_rfl) (by kernel_rfl) (fun _ _ _ h => h) (by rfl) ?_ ?_
                    rotate_left
                    · intro w; go_simp; try with_reducible rfl
                    simp only [Act.put, List.setIfInBounds_toArray, List.set_cons_zero, List.set_cons_succ, List.getElem_toArray, List.getElem_cons_succ, List.getElem_cons_zero]
                    refine wpAnyT_pure (i := 9) (v := ?_) rfl (by kernel_rfl) (by kernel_rfl) (by kernel_rfl) (fun _ _ _ h => h) (by rfl) ?_ ?_
                    rotate_left
                    · intro w; go_simp; try with_reducible rfl
                    simp only [Act.put, List.setIfInBounds_toArray, List.set_cons_zero, List.set_cons_succ, List.getElem_toArray, List.getElem_cons_succ, List.getElem_cons_zero]
                    refine wpAnyT_loadW (i := 6) (v := ?_) rfl (by kernel_rfl) (by kernel_rfl) (by kernel_rfl) (by kernel_rfl) (by kernel_rfl) (fun _ _ _ h => h) (Or.inl ⟨by rfl, ?_⟩) hSss7 ?_
                    rotate_left
                    · intro w hSw; obtain ⟨e0, e1, e2, e3, e4, e5, e6, e7, -⟩ := hSw; go_simp; try with_reducible rfl
                    simp only [Act.put, List.setIfInBounds_toArray, List.set_cons_zero, List.set_cons_succ, List.getElem_toArray, List.getElem_cons_succ, List.getElem_cons_zero]
                    refine wpAnyT_loadW (i := 10) (v := ?_) rfl (by kernel_rfl) (by kernel_rfl) (by kernel_rfl) (by kernel_rfl) (by kernel_rfl) (fun _ _ _ h => h) (Or.inl ⟨by rfl, ?_⟩) hSss7 ?_
                    rotate_left
                    · intro w hSw; obtain ⟨e0, e1, e2, e3, e4, e5, e6, e7, -⟩ := hSw; go_simp; try with_reducible rfl
                    simp only [Act.put, List.setIfInBounds_toArray, List.set_cons_zero, List.set_cons_succ, List.getElem_toArray, List.getElem_cons_succ, List.getElem_cons_zero]
                    refine wpAnyT_one (i := 11) (by kernel_rfl) rfl (by rfl) ?_
                    refine wp_value (v := .bool ez) (w' := s7) (by have hq := HEZ.out; clear HEZ; go_simp; rw [← hq]; by_cases z1 : e1 = d1 <;> by_cases z2 : e2 = d2 <;> by_cases z3 : e3 = d3 <;> by_cases z4 : e4 = d4 <;> simp [z1, z2, z3, z4]) ?_
                    refine ⟨fun _ h => h, ?_⟩
                    try simp only [Act.put, List.setIfInBounds_toArray, List.set_cons_zero, List.set_cons_succ, List.getElem_toArray, List.getElem_cons_succ, List.getElem_cons_zero]
                    refine wpAnyT_pure (i := 12) (v := ?_) rfl (by kernel_rfl) (by kernel_rfl) (by kernel_rfl) (fun _ _ _ h => h) (by rfl) ?_ ?_
                    rotate_left
                    · intro w; go_simp; try with_reducible rfl
                    simp only [Act.put, List.setIfInBounds_toArray, List.set_cons_zero, List.set_cons_succ, List.getElem_toArray, List.getElem_cons_succ, List.getElem_cons_zero]
                    refine wpAnyT_pure (i := 13) (v := ?_) rfl (by kernel_rfl) (by kernel_rfl) (by kernel_rfl) (fun _ _ _ h => h) (by rfl) ?_ ?_
                    rotate_left
                    · intro w; go_simp; try with_reducible rfl
                    simp only [Act.put, List.setIfInBounds_toArray, List.set_cons_zero, List.set_cons_succ, List.getElem_toArray, List.getElem_cons_succ, List.getElem_cons_zero]
                    refine wpAnyT_done (by kernel_rfl) ?_ _
                    have HBQ := Lib.hid (below_step HBr.out (hB_0_s7.trans ((hB_s7_s7).mono (hB_0_s7).size)))
                    go_wp2_with fail
                    go_roundw
                    case rel => exact ⟨r + 1, ez, HRV.out, by go_num, rfl, HKZ.out, HBQ.out⟩
                    case measure => simp [intOf]; try omega
                  · have hC0 : Cells [(⟨w.heap.size, 9, none⟩, .int .i64 x1)] wr := ⟨blk_cell ((HBr.out.block _ (blk_lt HR15.out)).trans HR15.out) 9, trivial⟩
                    clear hrv
                    go_wp2_with fail
                    refine wp_region_T (Cells [(⟨w.heap.size, 9, none⟩, .int .i64 x1)]) (fun _ => false) (by kernel_rfl) ?_
                    have hSss8 := Cells.drew hC0
                    have hB_0_s8 : Below wr.heap.size wr wr.drew := below_drew _
                    generalize wr.drew = s8 at hSss8 hB_0_s8 ⊢
                    have hB_s8_s8 := Below.refl s8.heap.size s8
                    refine wpAnyT_pure (i := 0) (v := ?_) rfl (by kernel_rfl) (by kernel_rfl) (by kernel_rfl) (fun _ _ _ h => h) (by rfl) ?_ ?_
                    rotate_left
                    · intro w; go_simp; try with_reducible rfl
                    simp only [Act.put, List.setIfInBounds_toArray, List.set_cons_zero, List.set_cons_succ, List.getElem_toArray, List.getElem_cons_succ, List.getElem_cons_zero]
                    refine wpAnyT_pure (i := 1) (v := ?_) rfl (by kernel_rfl) (by kernel_rfl) (by kernel_rfl) (fun _ _ _ h => h) (by rfl) ?_ ?_
                    rotate_left
                    · intro w; go_simp; try with_reducible rfl
                    simp only [Act.put, List.setIfInBounds_toArray, List.set_cons_zero, List.set_cons_succ, List.getElem_toArray, List.getElem_cons_succ, List.getElem_cons_zero]
                    refine wpAnyT_skip (i := 2) rfl (by kernel_rfl) (by kernel_rfl) (by kernel_rfl) (fun _ _ _ h => h) (by rfl) ?_
                    simp only [Act.put, List.setIfInBounds_toArray, List.set_cons_zero, List.set_cons_succ, List.getElem_toArray, List.getElem_cons_succ, List.getElem_cons_zero]
                    refine wpAnyT_skip (i := 3) rfl (by kernel_rfl) (by kernel_rfl) (by kernel_rfl) (fun _ _ _ h => h) (by rfl) ?_
                    simp only [Act.put, List.setIfInBounds_toArray, List.set_cons_zero, List.set_cons_succ, List.getElem_toArray, List.getElem_cons_succ, List.getElem_cons_zero]
                    refine wpAnyT_skip (i := 4) rfl (by kernel_rfl) (by kernel_rfl) (by kernel_rfl) (fun _ _ _ h => h) (by rfl) ?_
                    simp only [Act.put, List.setIfInBounds_toArray, List.set_cons_zero, List.set_cons_succ, List.getElem_toArray, List.getElem_cons_succ, List.getElem_cons_zero]
                    refine wpAnyT_skip (i := 5) rfl (by kernel_rfl) (by kernel_rfl) (by kernel_rfl) (fun _ _ _ h => h) (by rfl) ?_
                    simp only [Act.put, List.setIfInBounds_toArray, List.set_cons_zero, List.set_cons_succ, List.getElem_toArray, List.getElem_cons_succ, List.getElem_cons_zero]
                    refine wpAnyT_skip (i := 6) rfl (by kernel_rfl) (by kernel_rfl) (by kernel_rfl) (fun _ _ _ h => h) (by rfl) ?_
                    simp only [Act.put, List.setIfInBounds_toArray, List.set_cons_zero, List.set_cons_succ, List.getElem_toArray, List.getElem_cons_succ, List.getElem_cons_zero]
                    refine wpAnyT_skip (i := 7) rfl (by kernel_rfl) (by kernel_rfl) (by kernel_rfl) (fun _ _ _ h => h) (by rfl) ?_
                    simp only [Act.put, List.setIfInBounds_toArray, List.set_cons_zero, List.set_cons_succ, List.getElem_toArray, List.getElem_cons_succ, List.getElem_cons_zero]
                    refine wpAnyT_skip (i := 8) rfl (by kernel_rfl) (by kernel_rfl) (by kernel_rfl) (fun _ _ _ h => h) (by rfl) ?_
                    simp only [Act.put, List.setIfInBounds_toArray, List.set_cons_zero, List.set_cons_succ, List.getElem_toArray, List.getElem_cons_succ, List.getElem_cons_zero]
                    refine wpAnyT_skip (i := 9) rfl (by kernel_rfl) (by kernel_rfl) (by kernel_rfl) (fun _ _ _ h => h) (by rfl) ?_
                    simp only [Act.put, List.setIfInBounds_toArray, List.set_cons_zero, List.set_cons_succ, List.getElem_toArray, List.getElem_cons_succ, List.getElem_cons_zero]
                    refine wpAnyT_skip (i := 10) rfl (by kernel_rfl) (by kernel_rfl) (by kernel_rfl) (fun _ _ _ h => h) (by rfl) ?_
                    simp only [Act.put, List.setIfInBounds_toArray, List.set_cons_zero, List.set_cons_succ, List.getElem_toArray, List.getElem_cons_succ, List.getElem_cons_zero]
                    refine wpAnyT_skip (i := 11) rfl (by kernel_rfl) (by kernel_rfl) (by kernel_rfl) (fun _ _ _ h => h) (by rfl) ?_
                    simp only [Act.put, List.setIfInBounds_toArray, List.set_cons_zero, List.set_cons_succ, List.getElem_toArray, List.getElem_cons_succ, List.getElem_cons_zero]
                    refine wpAnyT_pure (i := 12) (v := ?_) rfl (by kernel_rfl) (by kernel_rfl) (by kernel_rfl) (fun _ _ _ h => h) (by rfl) ?_ ?_
                    rotate_left
                    · intro w; go_simp; try with_reducible rfl
                    simp only [Act.put, List.setIfInBounds_toArray, List.set_cons_zero, List.set_cons_succ, List.getElem_toArray, List.getElem_cons_succ, List.getElem_cons_zero]
                    refine wpAnyT_pure (i := 13) (v := ?_) rfl (by kernel_rfl) (by kernel_rfl) (by kernel_rfl) (fun _ _ _ h => h) (by rfl) ?_ ?_
                    rotate_left
                    · intro w; go_simp; try with_reducible rfl
                    simp only [Act.put, List.setIfInBounds_toArray, List.set_cons_zero, List.set_cons_succ, List.getElem_toArray, List.getElem_cons_succ, List.getElem_cons_zero]
                    refine wpAnyT_done (by kernel_rfl) ?_ _
                    have HBQ := Lib.hid (below_step HBr.out (hB_0_s8.trans ((hB_s8_s8).mono (hB_0_s8).size)))
                    go_wp2_with fail
                    go_roundw
                    case rel => exact ⟨r + 1, true, HRV.out, by go_num, rfl, fun _ => HKB.out (by first | rfl | trivial), HBQ.out⟩
                    case measure => simp [intOf]; try omega
                · obtain rfl : r = vl := by omega
                  cases kb
                  · have hC0 : Cells [(⟨w.heap.size, 9, none⟩, .int .i64 x1)] wr := ⟨blk_cell ((HBr.out.block _ (blk_lt HR15.out)).trans HR15.out) 9, trivial⟩
                    clear hrv
                    go_wp2_with fail
                    refine wp_region_T (Cells [(⟨w.heap.size, 9, none⟩, .int .i64 x1)]) (fun _ => false) (by kernel_rfl) ?_
                    have hSss9 := Cells.drew hC0
                    have hB_0_s9 : Below wr.heap.size wr wr.drew := below_drew _
                    generalize wr.drew = s9 at hSss9 hB_0_s9 ⊢
                    have hB_s9_s9 := Below.refl s9.heap.size s9
                    refine wpAnyT_pure (i := 0) (v := ?_) rfl (by kernel_rfl) (by kernel_rfl) (by kernel_rfl) (fun _ _ _ h => h) (by rfl) ?_ ?_
                    rotate_left
                    · intro w; go_simp; try with_reducible rfl
                    simp only [Act.put, List.setIfInBounds_toArray, List.set_cons_zero, List.set_cons_succ, List.getElem_toArray, List.getElem_cons_succ, List.getElem_cons_zero]
                    refine wpAnyT_pure (i := 1) (v := ?_) rfl (by kernel_rfl) (by kernel_rfl) (by kernel_rfl) (fun _ _ _ h => h) (by rfl) ?_ ?_
                    rotate_left
                    · intro w; go_simp; try with_reducible rfl
                    simp only [Act.put, List.setIfInBounds_toArray, List.set_cons_zero, List.set_cons_succ, List.getElem_toArray, List.getElem_cons_succ, List.getElem_cons_zero]
                    refine wpAnyT_skip (i := 2) rfl (by kernel_rfl) (by kernel_rfl) (by kernel_rfl) (fun _ _ _ h => h) (by rfl) ?_
                    simp only [Act.put, List.setIfInBounds_toArray, List.set_cons_zero, List.set_cons_succ, List.getElem_toArray, List.getElem_cons_succ, List.getElem_cons_zero]
                    refine wpAnyT_skip (i := 3) rfl (by kernel_rfl) (by kernel_rfl) (by kernel_rfl) (fun _ _ _ h => h) (by rfl) ?_
                    simp only [Act.put, List.setIfInBounds_toArray, List.set_cons_zero, List.set_cons_succ, List.getElem_toArray, List.getElem_cons_succ, List.getElem_cons_zero]
                    refine wpAnyT_skip (i := 4) rfl (by kernel_rfl) (by kernel_rfl) (by kernel_rfl) (fun _ _ _ h => h) (by rfl) ?_
                    simp only [Act.put, List.setIfInBounds_toArray, List.set_cons_zero, List.set_cons_succ, List.getElem_toArray, List.getElem_cons_succ, List.getElem_cons_zero]
                    refine wpAnyT_skip (i := 5) rfl (by kernel_rfl) (by kernel_rfl) (by kernel_rfl) (fun _ _ _ h => h) (by rfl) ?_
                    simp only [Act.put, List.setIfInBounds_toArray, List.set_cons_zero, List.set_cons_succ, List.getElem_toArray, List.getElem_cons_succ, List.getElem_cons_zero]
                    refine wpAnyT_skip (i := 6) rfl (by kernel_rfl) (by kernel_rfl) (by kernel_rfl) (fun _ _ _ h => h) (by rfl) ?_
                    simp only [Act.put, List.setIfInBounds_toArray, List.set_cons_zero, List.set_cons_succ, List.getElem_toArray, List.getElem_cons_succ, List.getElem_cons_zero]
                    refine wpAnyT_skip (i := 7) rfl (by kernel_rfl) (by kernel_rfl) (by kernel_rfl) (fun _ _ _ h => h) (by rfl) ?_
                    simp only [Act.put, List.setIfInBounds_toArray, List.set_cons_zero, List.set_cons_succ, List.getElem_toArray, List.getElem_cons_succ, List.getElem_cons_zero]
                    refine wpAnyT_skip (i := 8) rfl (by kernel_rfl) (by kernel_rfl) (by kernel_rfl) (fun _ _ _ h => h) (by rfl) ?_
                    simp only [Act.put, List.setIfInBounds_toArray, List.set_cons_zero, List.set_cons_succ, List.getElem_toArray, List.getElem_cons_succ, List.getElem_cons_zero]
                    refine wpAnyT_skip (i := 9) rfl (by kernel_rfl) (by kernel_rfl) (by kernel_rfl) (fun _ _ _ h => h) (by rfl) ?_
                    simp only [Act.put, List.setIfInBounds_toArray, List.set_cons_zero, List.set_cons_succ, List.getElem_toArray, List.getElem_cons_succ, List.getElem_cons_zero]
                    refine wpAnyT_skip (i := 10) rfl (by kernel_rfl) (by kernel_rfl) (by kernel_rfl) (fun _ _ _ h => h) (by rfl) ?_
                    simp only [Act.put, List.setIfInBounds_toArray, List.set_cons_zero, List.set_cons_succ, List.getElem_toArray, List.getElem_cons_succ, List.getElem_cons_zero]
                    refine wpAnyT_skip (i := 11) rfl (by kernel_rfl) (by kernel_rfl) (by kernel_rfl) (fun _ _ _ h => h) (by rfl) ?_
                    simp only [Act.put, List.setIfInBounds_toArray, List.set_cons_zero, List.set_cons_succ, List.getElem_toArray, List.getElem_cons_succ, List.getElem_cons_zero]
                    refine wpAnyT_skip (i := 12) rfl (by kernel_rfl) (by kernel_rfl) (by kernel_rfl) (fun _ _ _ h => h) (by rfl) ?_
                    simp only [Act.put, List.setIfInBounds_toArray, List.set_cons_zero, List.set_cons_succ, List.getElem_toArray, List.getElem_cons_succ, List.getElem_cons_zero]
                    refine wpAnyT_skip (i := 13) rfl (by kernel_rfl) (by kernel_rfl) (by kernel_rfl) (fun _ _ _ h => h) (by rfl) ?_
                    simp only [Act.put, List.setIfInBounds_toArray, List.set_cons_zero, List.set_cons_succ, List.getElem_toArray, List.getElem_cons_succ, List.getElem_cons_zero]
                    refine wpAnyT_skip (i := 14) rfl (by kernel_rfl) (by kernel_rfl) (by kernel_rfl) (fun _ _ _ h => h) (by rfl) ?_
                    simp only [Act.put, List.setIfInBounds_toArray, List.set_cons_zero, List.set_cons_succ, List.getElem_toArray, List.getElem_cons_succ, List.getElem_cons_zero]
                    refine wpAnyT_pure (i := 15) (v := ?_) rfl (by kernel_rfl) (by kernel_rfl) (by kernel_rfl) (fun _ _ _ h => h) (by rfl) ?_ ?_
                    rotate_left
                    · intro w; go_simp; try with_reducible rfl
                    simp only [Act.put, List.setIfInBounds_toArray, List.set_cons_zero, List.set_cons_succ, List.getElem_toArray, List.getElem_cons_succ, List.getElem_cons_zero]
                    refine wpAnyT_done (by kernel_rfl) ?_ _
                    have HBQ := Lib.hid (below_step HBr.out (hB_0_s9.trans ((hB_s9_s9).mono (hB_0_s9).size)))
                    go_wp2_with fail
                    go_roundw
                    case rel => exact ⟨q + 1, HLT.out, by go_num, HBQ.out⟩
                    case measure => simp [intOf]; try omega
                  · have HDD := Lib.hid (HDP.out (HKB.out (by first | rfl | trivial)))
                    have hqL : (q : Int) < (lv2 : Int) := hkI
                    obtain ⟨m0, m1, m2, m3⟩ := HMK.out wr HBr.out
                    have hr15 := (HBr.out.block _ (blk_lt HR15.out)).trans HR15.out
                    have hsp := (HBr.out.block _ (blk_lt HSP.out)).trans HSP.out
                    have hC0 : Cells [(⟨sp, 0, none⟩, .slice ca9 cl9 cc9), (⟨b, off + q * 4, none⟩, .int .i64 d1), (⟨b, off + q * 4 + 1, none⟩, .int .i64 d2), (⟨b, off + q * 4 + 2, none⟩, .int .i64 d3), (⟨b, off + q * 4 + 3, none⟩, .int .i64 d4), (⟨w.heap.size, 1, none⟩, .int .i64 q1), (⟨w.heap.size, 2, none⟩, .int .i64 q2), (⟨w.heap.size, 3, none⟩, .int .i64 q3), (⟨w.heap.size, 4, none⟩, .int .i64 q4)] wr := ⟨blk_cell hsp 0, m0, m1, m2, m3, blk_cell hr15 1, blk_cell hr15 2, blk_cell hr15 3, blk_cell hr15 4, trivial⟩
                    clear hrv m0 m1 m2 m3 hr15 hsp
                    go_wp2_with fail
                    refine wp_region_T (Cells [(⟨sp, 0, none⟩, .slice ca9 cl9 cc9), (⟨b, off + q * 4, none⟩, .int .i64 d1), (⟨b, off + q * 4 + 1, none⟩, .int .i64 d2), (⟨b, off + q * 4 + 2, none⟩, .int .i64 d3), (⟨b, off + q * 4 + 3, none⟩, .int .i64 d4), (⟨w.heap.size, 1, none⟩, .int .i64 q1), (⟨w.heap.size, 2, none⟩, .int .i64 q2), (⟨w.heap.size, 3, none⟩, .int .i64 q3), (⟨w.heap.size, 4, none⟩, .int .i64 q4)]) (fun _ => false) (by kernel_rfl) ?_
                    have hSss10 := Cells.drew hC0
                    have hB_0_s10 : Below wr.heap.size wr wr.drew := below_drew _
                    generalize wr.drew = s10 at hSss10 hB_0_s10 ⊢
                    have hB_s10_s10 := Below.refl s10.heap.size s10
                    refine wpAnyT_pure (i := 0) (v := ?_) rfl (by kernel_rfl) (by kernel_rfl) (by kernel_rfl) (fun _ _ _ h => h) (by rfl) ?_ ?_
                    rotate_left
                    · intro w; go_simp; try with_reducible rfl
                    simp only [Act.put, List.setIfInBounds_toArray, List.set_cons_zero, List.set_cons_succ, List.getElem_toArray, List.getElem_cons_succ, List.getElem_cons_zero]
                    refine wpAnyT_pure (i := 1) (v := ?_) rfl (by kernel_rfl) (by kernel_rfl) (by kernel_rfl) (fun _ _ _ h => h) (by rfl) ?_ ?_
                    rotate_left
                    · intro w; go_simp; try with_reducible rfl
                    simp only [Act.put, List.setIfInBounds_toArray, List.set_cons_zero, List.set_cons_succ, List.getElem_toArray, List.getElem_cons_succ, List.getElem_cons_zero]
                    refine wpAnyT_pure (i := 2) (v := ?_) rfl (by kernel_rfl) (by kernel_rfl) (by kernel_rfl) (fun _ _ _ h => h) (by rfl) ?_ ?_
                    rotate_left
                    · intro w; go_simp; try with_reducible rfl
                    simp only [Act.put, List.setIfInBounds_toArray, List.set_cons_zero, List.set_cons_succ, List.getElem_toArray, List.getElem_cons_succ, List.getElem_cons_zero]
                    refine wpAnyT_pure (i := 3) (v := ?_) rfl (by kernel_rfl) (by kernel_rfl) (by kernel_rfl) (fun _ _ _ h => h) (by rfl) ?_ ?_
                    rotate_left
                    · intro w; go_simp; try with_reducible rfl
                    simp only [Act.put, List.setIfInBounds_toArray, List.set_cons_zero, List.set_cons_succ, List.getElem_toArray, List.getElem_cons_succ, List.getElem_cons_zero]
                    refine wpAnyT_pure (i := 4) (v := ?_) rfl (by kernel_rfl) (by kernel_rfl) (by kernel_rfl) (fun _ _ _ h => h) (by rfl) ?_ ?_
                    rotate_left
                    · intro w; go_simp; try with_reducible rfl
                    simp only [Act.put, List.setIfInBounds_toArray, List.set_cons_zero, List.set_cons_succ, List.getElem_toArray, List.getElem_cons_succ, List.getElem_cons_zero]
                    refine wpAnyT_pure (i := 6) (v := ?_) rfl (by kernel_rfl) (by kernel_rfl) (by kernel_rfl) (fun _ _ _ h => h) (by rfl) ?_ ?_
                    rotate_left
                    · intro w; go_simp; try with_reducible rfl
                    simp only [Act.put, List.setIfInBounds_toArray, List.set_cons_zero, List.set_cons_succ, List.getElem_toArray, List.getElem_cons_succ, List.getElem_cons_zero]
                    refine wpAnyT_pure (i := 7) (v := ?_) rfl (by kernel_rfl) (by kernel_rfl) (by kernel_rfl) (fun _ _ _ h => h) (by rfl) ?_ ?_
                    rotate_left
                    · intro w; go_simp; try with_reducible rfl
                    simp only [Act.put, List.setIfInBounds_toArray, List.set_cons_zero, List.set_cons_succ, List.getElem_toArray, List.getElem_cons_succ, List.getElem_cons_zero]
                    refine wpAnyT_pure (i := 8) (v := ?_) rfl (by kernel_rfl) (by kernel_rfl) (by kernel_rfl) (fun _ _ _ h => h) (by rfl) ?_ ?_
                    rotate_left
                    · intro w; go_simp; try with_reducible rfl
                    simp only [Act.put, List.setIfInBounds_toArray, List.set_cons_zero, List.set_cons_succ, List.getElem_toArray, List.getElem_cons_succ, List.getElem_cons_zero]
                    refine wpAnyT_pure (i := 10) (v := ?_) rfl (by kernel_rfl) (by kernel_rfl) (by kernel_rfl) (fun _ _ _ h => h) (by rfl) ?_ ?_
                    rotate_left
                    · intro w; go_simp; try with_reducible rfl
                    simp only [Act.put, List.setIfInBounds_toArray, List.set_cons_zero, List.set_cons_succ, List.getElem_toArray, List.getElem_cons_succ, List.getElem_cons_zero]
                    refine wpAnyT_pure (i := 11) (v := ?_) rfl (by kernel_rfl) (by kernel_rfl) (by kernel_rfl) (fun _ _ _ h => h) (by rfl) ?_ ?_
                    rotate_left
                    · intro w; go_simp; try with_reducible rfl
                    simp only [Act.put, List.setIfInBounds_toArray, List.set_cons_zero, List.set_cons_succ, List.getElem_toArray, List.getElem_cons_succ, List.getElem_cons_zero]
                    refine wpAnyT_loadW (i := 5) (v := ?_) rfl (by kernel_rfl) (by kernel_rfl) (by kernel_rfl) (by kernel_rfl) (by kernel_rfl) (fun _ _ _ h => h) (Or.inl ⟨by rfl, ?_⟩) hSss10 ?_
                    rotate_left
                    · intro w hSw; obtain ⟨e0, e1, e2, e3, e4, e5, e6, e7, e8, -⟩ := hSw; go_simp; try with_reducible rfl
                    simp only [Act.put, List.setIfInBounds_toArray, List.set_cons_zero, List.set_cons_succ, List.getElem_toArray, List.getElem_cons_succ, List.getElem_cons_zero]
                    refine wpAnyT_loadW (i := 9) (v := ?_) rfl (by kernel_rfl) (by kernel_rfl) (by kernel_rfl) (by kernel_rfl) (by kernel_rfl) (fun _ _ _ h => h) (Or.inl ⟨by rfl, ?_⟩) hSss10 ?_
                    rotate_left
                    · intro w hSw; obtain ⟨e0, e1, e2, e3, e4, e5, e6, e7, e8, -⟩ := hSw; go_simp; try with_reducible rfl
                    simp only [Act.put, List.setIfInBounds_toArray, List.set_cons_zero, List.set_cons_succ, List.getElem_toArray, List.getElem_cons_succ, List.getElem_cons_zero]
                    refine wpAnyT_loadW (i := 12) (v := ?_) rfl (by kernel_rfl) (by kernel_rfl) (by kernel_rfl) (by kernel_rfl) (by kernel_rfl) (fun _ _ _ h => h) (Or.inl ⟨by rfl, ?_⟩) hSss10 ?_
                    rotate_left
                    · intro w hSw; obtain ⟨e0, e1, e2, e3, e4, e5, e6, e7, e8, -⟩ := hSw; go_simp; try with_reducible rfl
                    simp only [Act.put, List.setIfInBounds_toArray, List.set_cons_zero, List.set_cons_succ, List.getElem_toArray, List.getElem_cons_succ, List.getElem_cons_zero]
                    refine wpAnyT_one (i := 13) (by kernel_rfl) rfl (by rfl) ?_
                    have hb8 : Below w15.heap.size w15 s10 := below_step HBr.out (hB_0_s10.trans ((hB_s10_s10).mono (hB_0_s10).size))
                    refine wp_enter (f := 16) (args := #[.slice ca9 cl9 cc9, .agg #[.int .i64 d1, .int .i64 d2, .int .i64 d3, .int .i64 d4], .agg #[.int .i64 q1, .int .i64 q2, .int .i64 q3, .int .i64 q4]]) (by go_simp) (depends48 (S := fun c => c < w15.heap.size) ca9 cl9 cc9 (zs ++ [xf]) HRK.out ⟨q1, q2, q3, q4⟩ FOK.out _ s10 ⟨d1, d2, d3, d4⟩ (HRL.out.below hb8 (fun _ h => h)) (fun c hc => Nat.lt_of_lt_of_le hc hb8.size) MOK.out (Nat.lt_succ_self _)) ?_
                    rintro e w111 ⟨b9, rfl, hX, hd9⟩
                    obtain rfl : b9 = true := by
                      cases b9
                      · exact absurd HDD.out (hd9 rfl)
                      · rfl
                    clear hb8 hd9
                    have hB_s10_w111 := below_step hB_s10_s10 hX
                    have hB_w111_w111 := Below.refl w111.heap.size w111
                    have hSsw111 := Cells.below hB_s10_w111 hSss10
                    clear hX
                    refine ⟨_, rfl, fun _ _ => hSsw111, ?_⟩
                    try simp only [Act.put, List.setIfInBounds_toArray, List.set_cons_zero, List.set_cons_succ, List.getElem_toArray, List.getElem_cons_succ, List.getElem_cons_zero]
                    refine wpAnyT_pure (i := 14) (v := ?_) rfl (by kernel_rfl) (by kernel_rfl) (by kernel_rfl) (fun _ _ _ h => h) (by rfl) ?_ ?_
                    rotate_left
                    · intro w; go_simp; try with_reducible rfl
                    simp only [Act.put, List.setIfInBounds_toArray, List.set_cons_zero, List.set_cons_succ, List.getElem_toArray, List.getElem_cons_succ, List.getElem_cons_zero]
                    refine wpAnyT_pure (i := 15) (v := ?_) rfl (by kernel_rfl) (by kernel_rfl) (by kernel_rfl) (fun _ _ _ h => h) (by rfl) ?_ ?_
                    rotate_left
                    · intro w; go_simp; try with_reducible rfl
                    simp only [Act.put, List.setIfInBounds_toArray, List.set_cons_zero, List.set_cons_succ, List.getElem_toArray, List.getElem_cons_succ, List.getElem_cons_zero]
                    refine wpAnyT_done (by kernel_rfl) ?_ _
                    have HBQ := Lib.hid (below_step HBr.out (hB_0_s10.trans ((hB_s10_w111).mono (hB_0_s10).size)))
                    go_wp2_with fail
                    go_roundw
                    case rel => exact ⟨q + 1, HLT.out, by go_num, HBQ.out⟩
                    case measure => simp [intOf]; try omega
        · obtain rfl : lv2 = k := by omega
          go_wp2_with fail
          go_ret
          exact ⟨rfl, below_step HWA.out HBo.out⟩
end Go.Proofs.Ytmmeieangbcfaaa
