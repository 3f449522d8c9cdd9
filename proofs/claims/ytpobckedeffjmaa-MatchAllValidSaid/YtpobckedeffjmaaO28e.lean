/- Layer 28: the reference's Find. -/
import Derived.Test.YtpobckedeffjmaaO28b
import Derived.Test.YtpobckedeffjmaaO28a
set_option linter.unusedSimpArgs false
set_option maxRecDepth 50000
namespace Go.Proofs.Ytpobckedeffjmaa
open Go.RowKit Go
set_option maxHeartbeats 4000000 in
theorem rfind28 {S : Nat → Prop} (w : World) (bs : Array Value) (es : List En) (ms : List M4) (h : Bk S w bs es ms) (hS : ∀ b, S b → b < w.heap.size) (h40 : es.length ≤ 40) (h8 : ∀ e ∈ es, e.ln.length ≤ 8) (r : R2) (hr : r.ok) :
    Calls Try.prog 48 #[.agg bs, r.v] w fun e w' => FindP (findM es r) e ∧ Below w.heap.size w w' := by
  obtain ⟨re, rl⟩ := r
  unfold R2.v
  simp only
  have HS := Lib.hid hS
  have H8 := Lib.hid h8
  have HOK := Lib.hid hr
  obtain ⟨hsz, ⟨ea, ec, he, hE⟩, -⟩ := h
  obtain ⟨fo, hfo⟩ : ∃ q, findM es ⟨re, rl⟩ = q := ⟨_, rfl⟩
  rw [hfo]
  have HFO := Lib.hid hfo
  have HE := Lib.hid hE
  have HSZ := Lib.hid hsz
  have HBE := Lib.hid he
  have HFF := Lib.hid (FW_ff w bs re rl)
  clear hfo hE hsz he hS h8 hr
  go_enter Try.func48, Try.ntmps48
  go_upto_region 1 with fail
  change Code.wp _ _ _ _ (FW w bs re rl)
  generalize FW w bs re rl = w0 at *
  obtain ⟨n, hn⟩ : ∃ q, w.heap.size = q := ⟨_, rfl⟩
  rw [hn] at HFF
  have HN := Lib.hid hn
  simp only [hn]
  clear hn
  have hbS : ∀ b, S b → b < n := fun b hb => by rw [← HN.out]; exact HS.out b hb
  have HBS := Lib.hid hbS
  clear hbS
  go_wp2_with fail
  go_loopw [7] (fun iv wr => ∃ (i : Nat), i ≤ es.length ∧ iv = .int .i64 (i : Int) ∧ (∀ x ∈ es.take i, decide (x.id = re) = false) ∧ Below w0.heap.size w0 wr) (fun iv _ => es.length - (intOf iv).toNat)
  case atStart => exact ⟨0, Nat.zero_le _, rfl, fun x hx => by simp at hx, Below.refl _ _⟩
  case round =>
    obtain ⟨j, hj, rfl, hno, hB⟩ := hrel
    have HB := Lib.hid hB
    have HF1 := Lib.hid (HFF.out.below hB)
    have d21 : wr.cell? ⟨n, 21, none⟩ = some (.slice ea es.length ec) := (blk_cell HF1.out.r0 21).trans HBE.out
    by_cases hjl : j < es.length
    · have hjI : (j : Int) < (es.length : Int) := by omega
      obtain ⟨eb, eo, la, lc, rfl, hebS, ⟨m0, m1, m2, m3, m4, m5, m6⟩, hL⟩ := entry_at (HE.out.below HF1.out.b HBS.out) j hjl
      have h8j := H8.out es[j] (List.getElem_mem hjl)
      have HTK := Lib.hid (List.take_succ_eq_append_getElem hjl)
      have HNO := Lib.hid hno
      have HFD := Lib.hid (show decide (es[j].id = re) = true → es.find? (fun x => decide (x.id = re)) = some es[j] from fun hd => find_first hjl hno hd)
      have HJL := Lib.hid hjl
      generalize es[j] = q at m0 m1 m2 m3 m4 m5 m6 hL HFD h8j HTK
      obtain ⟨q1, q2, q3, q4, q5, q6, q7⟩ := q
      simp only at m0 m1 m2 m3 m4 m5 m6 hL h8j
      have HM := Lib.hid (And.intro m0 (And.intro m1 (And.intro m2 (And.intro m3 (And.intro m4 (And.intro m5 m6))))))
      have HL := Lib.hid hL
      have hC0 : Cells [(⟨n, 21, none⟩, .slice (some ⟨eb, eo, none⟩) es.length ec), (⟨eb, eo + j * 7, none⟩, .int .i64 q1), (⟨n + 1, 0, none⟩, .int .i64 re)] wr := ⟨d21, m0, blk_cell HF1.out.r1 0, trivial⟩
      obtain ⟨eq, heq⟩ : ∃ q, decide (q1 = re) = q := ⟨_, rfl⟩
      have HEQ := Lib.hid heq
      clear hno hB hj hjl hL m0 m1 m2 m3 m4 m5 m6 heq
      go_wp2_with fail
      clear d21
      refine wp_region_T (Cells [(⟨n, 21, none⟩, .slice (some ⟨eb, eo, none⟩) es.length ec), (⟨eb, eo + j * 7, none⟩, .int .i64 q1), (⟨n + 1, 0, none⟩, .int .i64 re)]) (fun _ => false) (by kernel_rfl) ?_
      have hSss1 := Cells.drew hC0
      have hB_0_s1 : Below wr.heap.size wr wr.drew := below_drew _
      generalize wr.drew = s1 at hSss1 hB_0_s1 ⊢
      have hB_s1_s1 := Below.refl s1.heap.size s1
      refine wpAnyT_pure (i := 0) (v := ?_) rfl (by kernel_rfl) (by kernel_rfl) (by kernel_rfl) (fun _ _ _ h => h) (by rfl) ?_ ?_
      rotate_left
      · intro w; go_simp; try with_reducible rfl
      simp only [Act.put, rgA, rgB, rgC, rgD, rgE, rgF]
      refine wpAnyT_pure (i := 2) (v := ?_) rfl (by kernel_rfl) (by kernel_rfl) (by kernel_rfl) (fun _ _ _ h => h) (by rfl) ?_ ?_
      rotate_left
      · intro w; go_simp; try with_reducible rfl
      simp only [Act.put, rgA, rgB, rgC, rgD, rgE, rgF]
      refine wpAnyT_pure (i := 6) (v := ?_) rfl (by kernel_rfl) (by kernel_rfl) (by kernel_rfl) (fun _ _ _ h => h) (by rfl) ?_ ?_
      rotate_left
      · intro w; go_simp; try with_reducible rfl
      simp only [Act.put, rgA, rgB, rgC, rgD, rgE, rgF]
      refine wpAnyT_loadW (i := 1) (v := ?_) rfl (by kernel_rfl) (by kernel_rfl) (by kernel_rfl) (by kernel_rfl) (by kernel_rfl) (fun _ _ _ h => h) (Or.inl ⟨by rfl, ?_⟩) hSss1 ?_
      rotate_left
      · intro w hSw; obtain ⟨e0, e1, e2, -⟩ := hSw; go_simp; try with_reducible rfl
      simp only [Act.put, rgA, rgB, rgC, rgD, rgE, rgF]
      refine wpAnyT_pure (i := 3) (v := ?_) rfl (by kernel_rfl) (by kernel_rfl) (by kernel_rfl) (fun _ _ _ h => h) (by rfl) ?_ ?_
      rotate_left
      · intro w; go_simp; try with_reducible rfl
      simp only [Act.put, rgA, rgB, rgC, rgD, rgE, rgF]
      refine wpAnyT_pure (i := 4) (v := ?_) rfl (by kernel_rfl) (by kernel_rfl) (by kernel_rfl) (fun _ _ _ h => h) (by rfl) ?_ ?_
      rotate_left
      · intro w; go_simp; try with_reducible rfl
      simp only [Act.put, rgA, rgB, rgC, rgD, rgE, rgF]
      refine wpAnyT_loadW (i := 5) (v := ?_) rfl (by kernel_rfl) (by kernel_rfl) (by kernel_rfl) (by kernel_rfl) (by kernel_rfl) (fun _ _ _ h => h) (Or.inl ⟨by rfl, ?_⟩) hSss1 ?_
      rotate_left
      · intro w hSw; obtain ⟨e0, e1, e2, -⟩ := hSw; go_simp; try with_reducible rfl
      simp only [Act.put, rgA, rgB, rgC, rgD, rgE, rgF]
      refine wpAnyT_loadW (i := 7) (v := ?_) rfl (by kernel_rfl) (by kernel_rfl) (by kernel_rfl) (by kernel_rfl) (by kernel_rfl) (fun _ _ _ h => h) (Or.inl ⟨by rfl, ?_⟩) hSss1 ?_
      rotate_left
      · intro w hSw; obtain ⟨e0, e1, e2, -⟩ := hSw; go_simp; try with_reducible rfl
      simp only [Act.put, rgA, rgB, rgC, rgD, rgE, rgF]
      refine wpAnyT_pure (i := 8) (v := (.bool (!eq))) rfl (by kernel_rfl) (by kernel_rfl) (by kernel_rfl) (fun _ _ _ h => h) (by rfl) ?_ ?_
      · intro w; have hq := HEQ.out; clear HEQ; go_simp; try (rw [← hq]; by_cases e : q1 = re <;> simp [e])
      simp only [Act.put, rgA, rgB, rgC, rgD, rgE, rgF]
      refine wpAnyT_done (by kernel_rfl) ?_ _
      have HB2 := Lib.hid hB_0_s1
      have g21 := (hSss1).1
      obtain ⟨w2, rfl⟩ : ∃ q, q = s1 := ⟨_, rfl⟩
      have HF2 := Lib.hid (HF1.out.below HB2.out)
      cases eq with
      | false =>
        clear g21
        go_wp2_with fail
        go_roundw
        case rel =>
          refine ⟨j + 1, HJL.out, by go_num, fun x hx => ?_, below_step HB.out HB2.out⟩
          rw [HTK.out] at hx
          rcases List.mem_append.1 hx with hx | hx
          · exact HNO.out x hx
          · rw [List.mem_singleton.1 hx]; exact HEQ.out
        case measure => have := HJL.out; simp [intOf]; try omega
      | true =>
        have HFV := Lib.hid (show fo = if rl < 0 ∨ (q7.length : Int) ≤ rl then none else some (q2, (q7[rl.toNat]?.getD default).pa) from by rw [← HFO.out]; unfold findM; rw [show es.find? (fun e => decide (e.id = re)) = _ from HFD.out HEQ.out])
        obtain ⟨e0, e1, e2, e3, e4, e5, e6⟩ := HM.out
        have e0 := cell_below e0 HB2.out
        have e1 := cell_below e1 HB2.out
        have e2 := cell_below e2 HB2.out
        have e3 := cell_below e3 HB2.out
        have e4 := cell_below e4 HB2.out
        have e5 := cell_below e5 HB2.out
        have e6 := cell_below e6 HB2.out
        have hrow8 := heap_alloc_new w2 (.cells #[.int .i64 q1, .int .i64 q2, .int .i64 q3, .int .i64 q4, .int .i64 q5, .string q6, .slice la q7.length lc] 93)
        have hb8 := (Below.refl w2.heap.size w2).alloc (Nat.le_refl _) (.cells #[.int .i64 q1, .int .i64 q2, .int .i64 q3, .int .i64 q4, .int .i64 q5, .string q6, .slice la q7.length lc] 93)
        have HR8 := Lib.hid hrow8
        have HF3 := Lib.hid (HF2.out.below hb8)
        have HN2 := Lib.hid (show n + 1 + 1 + 1 < w2.heap.size from blk_lt HF2.out.r5)
        have HLB := Lib.hid (HL.out.below (below_step HB2.out hb8) (fun b hb => Nat.lt_of_lt_of_le (HBS.out b hb) (Nat.le_of_lt (blk_lt HF1.out.r0))))
        have hjI2 : (j : Int) < (es.length : Int) := by have := HJL.out; omega
        clear hrow8 hb8 HM
        go_upto_region 6 with fail
        generalize World.alloc w2 (.cells #[.int .i64 q1, .int .i64 q2, .int .i64 q3, .int .i64 q4, .int .i64 q5, .string q6, .slice la q7.length lc] 93) = w3 at *
        obtain ⟨b8, hb8e⟩ : ∃ q, w2.heap.size = q := ⟨_, rfl⟩
        rw [hb8e] at HR8 HN2
        simp only [hb8e]
        clear hb8e e0 e1 e2 e3 e4 e5 e6 g21
        have c86 : w3.cell? ⟨b8, 6, none⟩ = some (.slice la q7.length lc) := blk_cell HR8.out 6
        have cn1 : w3.cell? ⟨n + 1, 1, none⟩ = some (.int .i64 rl) := blk_cell HF3.out.r1 1
        by_cases hr0 : rl < 0
        · have HNF := Lib.hid (show fo = none from by rw [HFV.out, if_pos (.inl hr0)])
          have HR4 := Lib.hid HF3.out.r4
          have HR5 := Lib.hid ((setRow_other w3 (n + 1 + 1) (n + 1 + 1 + 1) en0 (by omega)).trans HF3.out.r5)
          have HE4 := Lib.hid ((setRow_other (w3.setRow (n + 1 + 1) en0) (n + 1 + 1 + 1) (n + 1 + 1) ln0 (by omega)).trans (setRow_heap w3 (n + 1 + 1) _ en0 _ _ HF3.out.r4))
          have HE5 := Lib.hid (setRow_heap (w3.setRow (n + 1 + 1) en0) (n + 1 + 1 + 1) _ ln0 _ _ HR5.out)
          have HEB := Lib.hid (below_setRow (below_setRow HF3.out.b (show n ≤ n + 1 + 1 by omega) en0) (show n ≤ n + 1 + 1 + 1 by omega) ln0)
          go_wp2_with (first | (have hq := HR4; clear HR4; refine wpList_store_row rfl _ _ _ rfl (n + 1 + 1) en0 rfl rfl 93 _ hq.out (by kernel_rfl) (by rfl) (by kernel_rfl) ?_) | (have hq := HR5; clear HR5; refine wpList_store_row rfl _ _ _ rfl (n + 1 + 1 + 1) ln0 rfl rfl 110 _ hq.out (by kernel_rfl) (by rfl) (by kernel_rfl) ?_))
          (try simp only [Exit.inBlock, Exit.then])
          refine bodyPost_ret (find_res rfl _ _ (n + 1 + 1) (n + 1 + 1 + 1) en0 ln0 rfl rfl HE4.out rfl HE5.out rfl) rfl ?_
          rw [HNF.out]
          exact ⟨⟨_, _, _, _, _, _, _, _, _, _, _, _, false, rfl, rfl⟩, by rw [HN.out]; exact HEB.out⟩
        by_cases hr1 : (q7.length : Int) ≤ rl
        · have HNF := Lib.hid (show fo = none from by rw [HFV.out, if_pos (.inr hr1)])
          have HR4 := Lib.hid HF3.out.r4
          have HR5 := Lib.hid ((setRow_other w3 (n + 1 + 1) (n + 1 + 1 + 1) en0 (by omega)).trans HF3.out.r5)
          have HE4 := Lib.hid ((setRow_other (w3.setRow (n + 1 + 1) en0) (n + 1 + 1 + 1) (n + 1 + 1) ln0 (by omega)).trans (setRow_heap w3 (n + 1 + 1) _ en0 _ _ HF3.out.r4))
          have HE5 := Lib.hid (setRow_heap (w3.setRow (n + 1 + 1) en0) (n + 1 + 1 + 1) _ ln0 _ _ HR5.out)
          have HEB := Lib.hid (below_setRow (below_setRow HF3.out.b (show n ≤ n + 1 + 1 by omega) en0) (show n ≤ n + 1 + 1 + 1 by omega) ln0)
          go_wp2_with (first | (have hq := HR4; clear HR4; refine wpList_store_row rfl _ _ _ rfl (n + 1 + 1) en0 rfl rfl 93 _ hq.out (by kernel_rfl) (by rfl) (by kernel_rfl) ?_) | (have hq := HR5; clear HR5; refine wpList_store_row rfl _ _ _ rfl (n + 1 + 1 + 1) ln0 rfl rfl 110 _ hq.out (by kernel_rfl) (by rfl) (by kernel_rfl) ?_))
          (try simp only [Exit.inBlock, Exit.then])
          refine bodyPost_ret (find_res rfl _ _ (n + 1 + 1) (n + 1 + 1 + 1) en0 ln0 rfl rfl HE4.out rfl HE5.out rfl) rfl ?_
          rw [HNF.out]
          exact ⟨⟨_, _, _, _, _, _, _, _, _, _, _, _, false, rfl, rfl⟩, by rw [HN.out]; exact HEB.out⟩
        obtain ⟨k, rfl⟩ := Int.eq_ofNat_of_zero_le (show 0 ≤ rl by omega)
        have hkl : k < q7.length := by omega
        have HFS := Lib.hid (show fo = some (q2, q7[k].pa) from by rw [HFV.out, if_neg (by omega), Int.toNat_natCast, List.getElem?_eq_getElem hkl]; rfl)
        obtain ⟨vb, vo, rfl, hvbS, l0, l1, l2, -⟩ := line_at HLB.out k hkl
        generalize q7[k] = ln at l0 l1 l2 HFS
        obtain ⟨ac, am, pa⟩ := ln
        simp only at l0 l1 l2 HFS
        have s8 := fun i => blk_cell HR8.out i
        have hC5 : Cells [(⟨b8, 0, none⟩, .int .i64 q1), (⟨b8, 1, none⟩, .int .i64 q2), (⟨b8, 2, none⟩, .int .i64 q3), (⟨b8, 3, none⟩, .int .i64 q4), (⟨b8, 4, none⟩, .int .i64 q5), (⟨b8, 5, none⟩, .string q6), (⟨b8, 6, none⟩, .slice (some ⟨vb, vo, none⟩) q7.length lc), (⟨n + 1, 1, none⟩, .int .i64 (k : Int)), (⟨vb, vo + k * 3, none⟩, .int .i64 ac), (⟨vb, vo + k * 3 + 1, none⟩, .int .i64 am), (⟨vb, vo + k * 3 + 2, none⟩, .int .i64 pa)] w3 :=
          ⟨s8 0, s8 1, s8 2, s8 3, s8 4, s8 5, s8 6, blk_cell HF3.out.r1 1, l0, l1, l2, trivial⟩
        have hkI : (k : Int) < (q7.length : Int) := by omega
        have h8n := HN2.out
        have hvn : vb < n := HBS.out vb hvbS
        clear s8 l0 l1 l2
        go_wp2_with fail
        clear c86 cn1
        refine wp_region_T (Cells [(⟨b8, 0, none⟩, .int .i64 q1), (⟨b8, 1, none⟩, .int .i64 q2), (⟨b8, 2, none⟩, .int .i64 q3), (⟨b8, 3, none⟩, .int .i64 q4), (⟨b8, 4, none⟩, .int .i64 q5), (⟨b8, 5, none⟩, .string q6), (⟨b8, 6, none⟩, .slice (some ⟨vb, vo, none⟩) q7.length lc), (⟨n + 1, 1, none⟩, .int .i64 (k : Int)), (⟨vb, vo + k * 3, none⟩, .int .i64 ac), (⟨vb, vo + k * 3 + 1, none⟩, .int .i64 am), (⟨vb, vo + k * 3 + 2, none⟩, .int .i64 pa)]) (fun i => i == 8) (by kernel_rfl) ?_
        have hSss2 := Cells.drew hC5
        have hB_0_s2 : Below w3.heap.size w3 w3.drew := below_drew _
        generalize w3.drew = s2 at hSss2 hB_0_s2 ⊢
        have hB_s2_s2 := Below.refl s2.heap.size s2
        refine wpAnyT_pure (i := 1) (v := ?_) rfl (by kernel_rfl) (by kernel_rfl) (by kernel_rfl) (fun _ _ _ h => h) (by rfl) ?_ ?_
        rotate_left
        · intro w; go_simp; try with_reducible rfl
        simp only [Act.put, rgA, rgB, rgC, rgD, rgE, rgF]
        refine wpAnyT_pure (i := 3) (v := ?_) rfl (by kernel_rfl) (by kernel_rfl) (by kernel_rfl) (fun _ _ _ h => h) (by rfl) ?_ ?_
        rotate_left
        · intro w; go_simp; try with_reducible rfl
        simp only [Act.put, rgA, rgB, rgC, rgD, rgE, rgF]
        refine wpAnyT_loadW (i := 0) (v := ?_) rfl (by kernel_rfl) (by kernel_rfl) (by kernel_rfl) (by kernel_rfl) (by kernel_rfl) (fun _ _ _ h => h) (Or.inl ⟨by rfl, ?_⟩) hSss2 ?_
        rotate_left
        · intro w hSw; obtain ⟨e0, e1, e2, e3, e4, e5, e6, e7, e8, e9, e10, -⟩ := hSw; go_simp; try with_reducible rfl
        simp only [Act.put, rgA, rgB, rgC, rgD, rgE, rgF]
        refine wpAnyT_loadW (i := 2) (v := ?_) rfl (by kernel_rfl) (by kernel_rfl) (by kernel_rfl) (by kernel_rfl) (by kernel_rfl) (fun _ _ _ h => h) (Or.inl ⟨by rfl, ?_⟩) hSss2 ?_
        rotate_left
        · intro w hSw; obtain ⟨e0, e1, e2, e3, e4, e5, e6, e7, e8, e9, e10, -⟩ := hSw; go_simp; try with_reducible rfl
        simp only [Act.put, rgA, rgB, rgC, rgD, rgE, rgF]
        refine wpAnyT_loadW (i := 4) (v := ?_) rfl (by kernel_rfl) (by kernel_rfl) (by kernel_rfl) (by kernel_rfl) (by kernel_rfl) (fun _ _ _ h => h) (Or.inl ⟨by rfl, ?_⟩) hSss2 ?_
        rotate_left
        · intro w hSw; obtain ⟨e0, e1, e2, e3, e4, e5, e6, e7, e8, e9, e10, -⟩ := hSw; go_simp; try with_reducible rfl
        simp only [Act.put, rgA, rgB, rgC, rgD, rgE, rgF]
        refine wpAnyT_pure (i := 5) (v := ?_) rfl (by kernel_rfl) (by kernel_rfl) (by kernel_rfl) (fun _ _ _ h => h) (by rfl) ?_ ?_
        rotate_left
        · intro w; go_simp; try with_reducible rfl
        simp only [Act.put, rgA, rgB, rgC, rgD, rgE, rgF]
        refine wpAnyT_loadW (i := 6) (v := ?_) rfl (by kernel_rfl) (by kernel_rfl) (by kernel_rfl) (by kernel_rfl) (by kernel_rfl) (fun _ _ _ h => h) (Or.inl ⟨by rfl, ?_⟩) hSss2 ?_
        rotate_left
        · intro w hSw; obtain ⟨e0, e1, e2, e3, e4, e5, e6, e7, e8, e9, e10, -⟩ := hSw; go_simp; try with_reducible rfl
        simp only [Act.put, rgA, rgB, rgC, rgD, rgE, rgF]
        refine wpAnyT_one (i := 7) (by kernel_rfl) rfl (by rfl) ?_
        have hf6 := HF3.out.below (hB_0_s2.trans ((hB_s2_s2).mono hB_0_s2.size))
        have hR5' := (setRow_other s2 (n + 1 + 1) (n + 1 + 1 + 1) #[.int .i64 q1, .int .i64 q2, .int .i64 q3, .int .i64 q4, .int .i64 q5, .string q6, .slice (some ⟨vb, vo, none⟩) q7.length lc] (by omega)).trans hf6.r5
        have HE4' := setRow_heap s2 (n + 1 + 1) _ #[.int .i64 q1, .int .i64 q2, .int .i64 q3, .int .i64 q4, .int .i64 q5, .string q6, .slice (some ⟨vb, vo, none⟩) q7.length lc] _ _ hf6.r4
        have HEB' := below_setRow hf6.b (show n ≤ n + 1 + 1 by omega) #[.int .i64 q1, .int .i64 q2, .int .i64 q3, .int .i64 q4, .int .i64 q5, .string q6, .slice (some ⟨vb, vo, none⟩) q7.length lc]
        refine wp_store_row 93 (.tmp 4) (.tmp 43) rfl (n + 1 + 1) #[.int .i64 q1, .int .i64 q2, .int .i64 q3, .int .i64 q4, .int .i64 q5, .string q6, .slice (some ⟨vb, vo, none⟩) q7.length lc] (by kernel_rfl) (by kernel_rfl) 93 _ hf6.r4 (by kernel_rfl) (by rfl) (by kernel_rfl) ?_
        have hXS : Cells [(⟨b8, 0, none⟩, .int .i64 q1), (⟨b8, 1, none⟩, .int .i64 q2), (⟨b8, 2, none⟩, .int .i64 q3), (⟨b8, 3, none⟩, .int .i64 q4), (⟨b8, 4, none⟩, .int .i64 q5), (⟨b8, 5, none⟩, .string q6), (⟨b8, 6, none⟩, .slice (some ⟨vb, vo, none⟩) q7.length lc), (⟨n + 1, 1, none⟩, .int .i64 (k : Int)), (⟨vb, vo + k * 3, none⟩, .int .i64 ac), (⟨vb, vo + k * 3 + 1, none⟩, .int .i64 am), (⟨vb, vo + k * 3 + 2, none⟩, .int .i64 pa)] ((s2).setRow (n + 1 + 1) #[.int .i64 q1, .int .i64 q2, .int .i64 q3, .int .i64 q4, .int .i64 q5, .string q6, .slice (some ⟨vb, vo, none⟩) q7.length lc]) := by
          have hq := gr_setRow s2 (n + 1 + 1) #[.int .i64 q1, .int .i64 q2, .int .i64 q3, .int .i64 q4, .int .i64 q5, .string q6, .slice (some ⟨vb, vo, none⟩) q7.length lc]
          obtain ⟨z0, z1, z2, z3, z4, z5, z6, z7, z8, z9, z10, -⟩ := hSss2
          exact ⟨hq.cell z0 (fun e => by simp only at e; omega), hq.cell z1 (fun e => by simp only at e; omega), hq.cell z2 (fun e => by simp only at e; omega), hq.cell z3 (fun e => by simp only at e; omega), hq.cell z4 (fun e => by simp only at e; omega), hq.cell z5 (fun e => by simp only at e; omega), hq.cell z6 (fun e => by simp only at e; omega), hq.cell z7 (fun e => by simp only at e; omega), hq.cell z8 (fun e => by simp only at e; omega), hq.cell z9 (fun e => by simp only at e; omega), hq.cell z10 (fun e => by simp only at e; omega), trivial⟩
        generalize (s2).setRow (n + 1 + 1) #[.int .i64 q1, .int .i64 q2, .int .i64 q3, .int .i64 q4, .int .i64 q5, .string q6, .slice (some ⟨vb, vo, none⟩) q7.length lc] = w103 at hR5' HE4' HEB' hXS ⊢
        clear hf6
        have hSsw103 := hXS
        have hB_w103_w103 := Below.refl w103.heap.size w103
        refine ⟨fun _ _ => hSsw103, ?_⟩
        try simp only [Act.put, rgA, rgB, rgC, rgD, rgE, rgF]
        refine wpAnyT_one (i := 8) (by kernel_rfl) rfl (by rfl) ?_
        have HE5 := Lib.hid (setRow_heap w103 (n + 1 + 1 + 1) _ #[.int .i64 ac, .int .i64 am, .int .i64 pa] _ _ hR5')
        have HE4 := Lib.hid ((setRow_other w103 (n + 1 + 1 + 1) (n + 1 + 1) #[.int .i64 ac, .int .i64 am, .int .i64 pa] (by omega)).trans HE4')
        have HEB := Lib.hid (below_setRow HEB' (show n ≤ n + 1 + 1 + 1 by omega) #[.int .i64 ac, .int .i64 am, .int .i64 pa])
        refine wp_store_row 110 (.tmp 5) (.tmp 49) rfl (n + 1 + 1 + 1) #[.int .i64 ac, .int .i64 am, .int .i64 pa] (by kernel_rfl) (by kernel_rfl) 110 _ hR5' (by kernel_rfl) (by rfl) (by kernel_rfl) ?_
        generalize (w103).setRow (n + 1 + 1 + 1) #[.int .i64 ac, .int .i64 am, .int .i64 pa] = w104 at HE5 HE4 HEB ⊢
        clear hR5' HE4' HEB'
        refine ⟨fun h => absurd h (by decide), ?_⟩
        try simp only [Act.put, rgA, rgB, rgC, rgD, rgE, rgF]
        refine wpAnyT_pure (i := 9) (v := ?_) rfl (by kernel_rfl) (by kernel_rfl) (by kernel_rfl) (fun _ _ _ h => h) (by rfl) ?_ ?_
        rotate_left
        · intro w; go_simp; try with_reducible rfl
        simp only [Act.put, rgA, rgB, rgC, rgD, rgE, rgF]
        refine wpAnyT_done (by kernel_rfl) ?_ _
        obtain ⟨w6, rfl⟩ : ∃ q, q = w104 := ⟨_, rfl⟩
        go_wp2_with fail
        (try simp only [Exit.inBlock, Exit.then])
        refine bodyPost_ret (find_res rfl _ _ (n + 1 + 1) (n + 1 + 1 + 1) _ _ rfl rfl HE4.out rfl HE5.out rfl) rfl ?_
        rw [HFS.out]
        exact ⟨⟨_, _, _, _, _, _, _, _, _, _, _, _, true, rfl, rfl, rfl, rfl⟩, by rw [HN.out]; exact HEB.out⟩
    · obtain rfl : j = es.length := by omega
      have hjI : ¬ ((es.length : Nat) : Int) < (es.length : Int) := by omega
      rw [List.take_length] at hno
      have HNF := Lib.hid (show fo = none from by
        rw [← HFO.out]; unfold findM
        rw [(List.find?_eq_none (p := fun x : En => decide (x.id = re))).2 fun x hx h => by rw [hno x hx] at h; cases h])
      clear hno hB hjl hj
      have HR4 := Lib.hid HF1.out.r4
      have HR5 := Lib.hid ((setRow_other wr (n + 1 + 1) (n + 1 + 1 + 1) en0 (by omega)).trans HF1.out.r5)
      have HE4 := Lib.hid ((setRow_other (wr.setRow (n + 1 + 1) en0) (n + 1 + 1 + 1) (n + 1 + 1) ln0 (by omega)).trans (setRow_heap wr (n + 1 + 1) _ en0 _ _ HF1.out.r4))
      have HE5 := Lib.hid (setRow_heap (wr.setRow (n + 1 + 1) en0) (n + 1 + 1 + 1) _ ln0 _ _ HR5.out)
      have HEB := Lib.hid (below_setRow (below_setRow HF1.out.b (show n ≤ n + 1 + 1 by omega) en0) (show n ≤ n + 1 + 1 + 1 by omega) ln0)
      go_wp2_with (first | (have hq := HR4; clear HR4; refine wpList_store_row rfl _ _ _ rfl (n + 1 + 1) en0 rfl rfl 93 _ hq.out (by kernel_rfl) (by rfl) (by kernel_rfl) ?_) | (have hq := HR5; clear HR5; refine wpList_store_row rfl _ _ _ rfl (n + 1 + 1 + 1) ln0 rfl rfl 110 _ hq.out (by kernel_rfl) (by rfl) (by kernel_rfl) ?_))
      (try simp only [Exit.inBlock, Exit.then])
      refine bodyPost_ret (find_res rfl _ _ (n + 1 + 1) (n + 1 + 1 + 1) en0 ln0 rfl rfl HE4.out rfl HE5.out rfl) rfl ?_
      rw [HNF.out]
      exact ⟨⟨_, _, _, _, _, _, _, _, _, _, _, _, false, rfl, rfl⟩, by rw [HN.out]; exact HEB.out⟩
end Go.Proofs.Ytpobckedeffjmaa

/- Layer 28: the entity of a side: entity, side. -/
set_option linter.unusedSimpArgs false
set_option maxRecDepth 50000
namespace Go.Proofs.Ytpobckedeffjmaa
open Go.RowKit Go

def entS (es : List En) : List R2 → Option (Int × Int)
  | [] => some (0, 0)
  | r :: l => match findM es r with
    | none => none
    | some p => if l.all (fun q => decide (findM es q = some p)) then some p else none
theorem entS_snoc (es : List En) (l : List R2) (r : R2) : entS es (l ++ [r]) = match entS es l with
    | none => none
    | some p => match findM es r with
      | none => none
      | some q => if l = [] ∨ q = p then some q else none := by
  cases l with
  | nil => simp only [List.nil_append, entS]; cases findM es r <;> simp
  | cons a l =>
    simp only [List.cons_append, entS]
    cases findM es a with
    | none => rfl
    | some p =>
      simp only [List.all_append, List.all_cons, List.all_nil, Bool.and_true]
      cases h : l.all fun q => decide (findM es q = some p) with
      | false => simp
      | true =>
        cases hr : findM es r with
        | none => simp
        | some q => by_cases e : q = p <;> simp [e]
theorem entS_none {es : List En} {l : List R2} (h : entS es l = none) (m : List R2) : entS es (l ++ m) = none := by
  cases l with
  | nil => cases h
  | cons a l =>
    simp only [List.cons_append, entS] at h ⊢
    cases hf : findM es a with
    | none => rfl
    | some p =>
      rw [hf] at h
      simp only [List.all_append] at h ⊢
      cases hq : l.all fun q => decide (findM es q = some p) with
      | false => simp
      | true => rw [hq] at h; simp at h
theorem entS_take {es : List En} {l : List R2} {i : Nat} (h : entS es (l.take i) = none) : entS es l = none := by
  have := entS_none h (l.drop i)
  rwa [List.take_append_drop] at this
def entP (es : List En) (l : List R2) : Option (Int × Int) := if 1 ≤ l.length ∧ l.length ≤ 12 then entS es l else none
def sideP (es : List En) (l : List R2) : Option (Int × Int) := if l.Nodup then entP es l else none
def EntP (o : Option (Int × Int)) (e : Ending) : Prop := ∃ (a b : Int) (ok : Bool), e = .returned (.tuple #[.int .i64 a, .int .i64 b, .bool ok]) ∧ match o with
  | none => ok = false
  | some (x, y) => ok = true ∧ a = x ∧ b = y
theorem EntP.no {o : Option (Int × Int)} (h : o = none) : EntP o (.returned (.tuple #[.int .i64 0, .int .i64 0, .bool false])) := ⟨0, 0, false, rfl, by rw [h]⟩
set_option maxHeartbeats 4000000 in
theorem entity28 {S S2 : Nat → Prop} (w : World) (bs : Array Value) (es : List En) (ms : List M4) (h : Bk S w bs es ms) (hS : ∀ b, S b → b < w.heap.size) (h40 : es.length ≤ 40) (h8 : ∀ e ∈ es, e.ln.length ≤ 8)
    (a : Option Addr) (c : Nat) (l : List R2) (hl : Rd (.sl refT) S2 w [.slice a l.length c] (l.map R2.d)) (hS2 : ∀ b, S2 b → b < w.heap.size) :
    Calls Try.prog 36 #[.agg bs, .slice a l.length c] w fun e w' => EntP (entP es l) e ∧ Below w.heap.size w w' := by
  have H := Lib.hid h
  have HS := Lib.hid hS
  have H8 := Lib.hid h8
  have HL := Lib.hid hl
  have HS2 := Lib.hid hS2
  have HSZ := Lib.hid h.sz
  have hlm : l.length ≤ 9223372036854775807 := Nat.le_trans ((rd_len hl) ▸ hl.sl_flat.2.1) hl.sl_flat.2.2.1
  obtain ⟨fo, hfo⟩ : ∃ q, entP es l = q := ⟨_, rfl⟩
  rw [hfo]
  have HFO := Lib.hid hfo
  have hrow0 := heap_alloc_new w (.cells bs 65)
  have HBX := Lib.hid ((Below.refl w.heap.size w).alloc (Nat.le_refl _) (.cells bs 65))
  have HR0 := Lib.hid hrow0
  clear h hS h8 hl hS2 hfo hrow0
  go_enter Try.func36, Try.ntmps36
  go_wp2_with fail
  generalize World.alloc w (.cells bs 65) = w0 at *
  obtain ⟨n, hn⟩ : ∃ q, w.heap.size = q := ⟨_, rfl⟩
  rw [hn] at HR0
  have HN := Lib.hid hn
  simp only [hn]
  clear hn
  go_loopw [7, 8, 16] (fun v1 v2 iv wr => ∃ (i : Nat) (x y : Int), i ≤ l.length ∧ iv = .int .i64 (i : Int) ∧ v1 = .int .i64 x ∧ v2 = .int .i64 y ∧ entS es (l.take i) = some (x, y) ∧ Below w0.heap.size w0 wr) (fun _ _ iv _ => l.length - (intOf iv).toNat)
  case atStart => exact ⟨0, 0, 0, Nat.zero_le _, rfl, rfl, rfl, rfl, Below.refl _ _⟩
  case round =>
    obtain ⟨i, x, y, hi, rfl, rfl, rfl, hst, hB⟩ := hrel
    have HB := Lib.hid hB
    have HST := Lib.hid hst
    have HBW := Lib.hid (show Below w.heap.size w wr from below_step HBX.out hB)
    by_cases hil : i < l.length
    · have hiI : (i : Int) < (l.length : Int) := by omega
      obtain ⟨b, off, rfl, -, m0, m1, hok⟩ := ref_at (HL.out.below HBW.out HS2.out) i hil
      have HTK := Lib.hid (show entS es (l.take (i + 1)) = match findM es l[i] with | none => none | some q => if i = 0 ∨ q = (x, y) then some q else none from by
        rw [List.take_succ_eq_append_getElem hil, entS_snoc, hst]
        simp only
        cases findM es l[i] with
        | none => rfl
        | some q =>
          simp only
          have : (l.take i = []) ↔ i = 0 := by
            rw [List.take_eq_nil_iff]
            constructor
            · rintro (h | h)
              · exact h
              · rw [h] at hil; simp at hil
            · exact .inl
          simp only [this])
      have HIL := Lib.hid hil
      generalize l[i] = r at m0 m1 hok HTK
      obtain ⟨re, rl⟩ := r
      simp only at m0 m1
      have hbr := (Below.refl wr.heap.size wr).alloc (Nat.le_refl _) (.cells #[.int .i64 re, .int .i64 rl] 41)
      have HBR := Lib.hid (below_step HB.out hbr)
      have HBRW := Lib.hid (below_step HBW.out hbr)
      have HFD := Lib.hid (find28 (wr.alloc (.cells #[.int .i64 re, .int .i64 rl] 41)) bs es ms (H.out.below HBRW.out HS.out) (fun b hb => Nat.lt_of_lt_of_le (HS.out b hb) HBRW.out.size) h40 H8.out ⟨re, rl⟩ hok)
      have HROW := Lib.hid ((HBR.out.block _ (blk_lt HR0.out)).trans HR0.out)
      obtain ⟨fi, hfi⟩ : ∃ q, findM es ⟨re, rl⟩ = q := ⟨_, rfl⟩
      rw [hfi] at HFD HTK
      clear hbr hok hB hst hil hi hfi
      go_wp2_with (have hq := HROW; clear HROW; refine wpList_load_row rfl 65 _ rfl n rfl 65 bs (0, 0) _ hq.out Try.underlying65 rfl (by rw [HSZ.out]; kernel_rfl) ?_; clear hq)
      refine HFD.out.mono ?_
      rintro e w1 ⟨⟨i0, en, dt, kd, of', tx, la, ll, lc, ac, am, pa, ok, rfl, hm⟩, hB1⟩
      have HM := Lib.hid hm
      have hxx := ((Below.refl w1.heap.size w1).alloc (Nat.le_refl _) (.cells #[.int .i64 i0, .int .i64 en, .int .i64 dt, .int .i64 kd, .int .i64 of', .string tx, .slice la ll lc] 93)).alloc (by simp) (.cells #[.int .i64 ac, .int .i64 am, .int .i64 pa] 110)
      have HBX1 := Lib.hid (below_step HBR.out (below_step hB1 hxx))
      have C1 := Lib.hid (blk_cell (alloc_old' (y := .cells #[.int .i64 ac, .int .i64 am, .int .i64 pa] 110) (heap_alloc_new w1 (.cells #[.int .i64 i0, .int .i64 en, .int .i64 dt, .int .i64 kd, .int .i64 of', .string tx, .slice la ll lc] 93))) 1)
      have C2 := Lib.hid (blk_cell (heap_alloc_new (w1.alloc (.cells #[.int .i64 i0, .int .i64 en, .int .i64 dt, .int .i64 kd, .int .i64 of', .string tx, .slice la ll lc] 93)) (.cells #[.int .i64 ac, .int .i64 am, .int .i64 pa] 110)) 2)
      rw [World.size_alloc] at C2
      clear hxx hB1 hm HFD
      go_upto_region 6 with fail
      generalize World.alloc (World.alloc w1 (.cells #[.int .i64 i0, .int .i64 en, .int .i64 dt, .int .i64 kd, .int .i64 of', .string tx, .slice la ll lc] 93)) (.cells #[.int .i64 ac, .int .i64 am, .int .i64 pa] 110) = wx at *
      have c1 : wx.cell? ⟨w1.heap.size, 1, none⟩ = some (.int .i64 en) := C1.out
      have c2 : wx.cell? ⟨w1.heap.size + 1, 2, none⟩ = some (.int .i64 pa) := C2.out
      clear m0 m1
      rcases fi with _ | ⟨u, v⟩
      · obtain rfl : ok = false := HM.out
        have HNO := Lib.hid (show fo = none from by rw [← HFO.out]; unfold entP; rw [entS_take (i := i + 1) HTK.out]; split <;> rfl)
        go_wp2_with fail
        go_ret3
        exact ⟨EntP.no HNO.out, below_step HBX.out HBX1.out⟩
      have hmm : ok = true ∧ en = u ∧ pa = v := HM.out
      obtain ⟨rfl, rfl, rfl⟩ := hmm
      simp only at HTK
      by_cases hi0 : i = 0
      · have HT2 := Lib.hid (show entS es (l.take (i + 1)) = some (en, pa) from by rw [HTK.out, if_pos (.inl hi0)])
        have hi0I : ¬ (0 : Int) < (i : Int) := by omega
        clear hi0
        go_wp2_with fail
        have hC0 : Cells [(⟨w1.heap.size, 1, none⟩, .int .i64 en), (⟨w1.heap.size + 1, 2, none⟩, .int .i64 pa)] wx := ⟨c1, c2, trivial⟩
        refine wp_region_T (Cells [(⟨w1.heap.size, 1, none⟩, .int .i64 en), (⟨w1.heap.size + 1, 2, none⟩, .int .i64 pa)]) (fun _ => false) (by kernel_rfl) ?_
        have hSss1 := Cells.drew hC0
        have hB_0_s1 : Below wx.heap.size wx wx.drew := below_drew _
        generalize wx.drew = s1 at hSss1 hB_0_s1 ⊢
        have hB_s1_s1 := Below.refl s1.heap.size s1
        refine wpAnyT_pure (i := 0) (v := ?_) rfl (by kernel_rfl) (by kernel_rfl) (by kernel_rfl) (fun _ _ _ h => h) (by rfl) ?_ ?_
        rotate_left
        · intro w; go_simp; try with_reducible rfl
        simp only [Act.put, rgA, rgB, rgC, rgD, rgE, rgF]
        refine wpAnyT_pure (i := 2) (v := ?_) rfl (by kernel_rfl) (by kernel_rfl) (by kernel_rfl) (fun _ _ _ h => h) (by rfl) ?_ ?_
        rotate_left
        · intro w; go_simp; try with_reducible rfl
        simp only [Act.put, rgA, rgB, rgC, rgD, rgE, rgF]
        refine wpAnyT_loadW (i := 1) (v := ?_) rfl (by kernel_rfl) (by kernel_rfl) (by kernel_rfl) (by kernel_rfl) (by kernel_rfl) (fun _ _ _ h => h) (Or.inl ⟨by rfl, ?_⟩) hSss1 ?_
        rotate_left
        · intro w hSw; obtain ⟨e0, e1, -⟩ := hSw; go_simp; try with_reducible rfl
        simp only [Act.put, rgA, rgB, rgC, rgD, rgE, rgF]
        refine wpAnyT_pure (i := 4) (v := ?_) rfl (by kernel_rfl) (by kernel_rfl) (by kernel_rfl) (fun _ _ _ h => h) (by rfl) ?_ ?_
        rotate_left
        · intro w; go_simp; try with_reducible rfl
        simp only [Act.put, rgA, rgB, rgC, rgD, rgE, rgF]
        refine wpAnyT_loadW (i := 3) (v := ?_) rfl (by kernel_rfl) (by kernel_rfl) (by kernel_rfl) (by kernel_rfl) (by kernel_rfl) (fun _ _ _ h => h) (Or.inl ⟨by rfl, ?_⟩) hSss1 ?_
        rotate_left
        · intro w hSw; obtain ⟨e0, e1, -⟩ := hSw; go_simp; try with_reducible rfl
        simp only [Act.put, rgA, rgB, rgC, rgD, rgE, rgF]
        refine wpAnyT_pure (i := 5) (v := ?_) rfl (by kernel_rfl) (by kernel_rfl) (by kernel_rfl) (fun _ _ _ h => h) (by rfl) ?_ ?_
        rotate_left
        · intro w; go_simp; try with_reducible rfl
        simp only [Act.put, rgA, rgB, rgC, rgD, rgE, rgF]
        refine wpAnyT_done (by kernel_rfl) ?_ _
        have HBE := Lib.hid (below_step HBX1.out hB_0_s1)
        obtain ⟨wE, rfl⟩ : ∃ q, q = s1 := ⟨_, rfl⟩
        clear c1 c2
        go_wp2_with fail
        go_roundw
        case rel => exact ⟨i + 1, en, pa, HIL.out, by go_num, rfl, rfl, HT2.out, HBE.out⟩
        case measure => have := HIL.out; simp [intOf]; try omega
      have hi0I : (0 : Int) < (i : Int) := by omega
      by_cases hex : en = x
      case neg =>
        have hexb : (en == x) = false := by simpa using hex
        have hexn : (en != x) = true := by simpa using hex
        have HNO := Lib.hid (show fo = none from by rw [← HFO.out]; unfold entP; rw [entS_take (i := i + 1) (by rw [HTK.out, if_neg (by rintro (h | h); (exact hi0 h); (simp only [Prod.mk.injEq] at h; exact hex h.1))])]; split <;> rfl)
        go_wp2_with fail
        go_ret3
        exact ⟨EntP.no HNO.out, below_step HBX.out HBX1.out⟩
      by_cases hpy : pa = y
      case neg =>
        have hexb : (en == x) = true := by simpa using hex
        have hpyb : (pa == y) = false := by simpa using hpy
        have hexn : (en != x) = false := by simpa using hex
        have hpyn : (pa != y) = true := by simpa using hpy
        have HNO := Lib.hid (show fo = none from by rw [← HFO.out]; unfold entP; rw [entS_take (i := i + 1) (by rw [HTK.out, if_neg (by rintro (h | h); (exact hi0 h); (simp only [Prod.mk.injEq] at h; exact hpy h.2))])]; split <;> rfl)
        clear hex
        go_wp2_with fail
        go_ret3
        exact ⟨EntP.no HNO.out, below_step HBX.out HBX1.out⟩
      have hexb : (en == x) = true := by simpa using hex
      have hpyb : (pa == y) = true := by simpa using hpy
      have hexn : (en != x) = false := by simpa using hex
      have hpyn : (pa != y) = false := by simpa using hpy
      have HT2 := Lib.hid (show entS es (l.take (i + 1)) = some (en, pa) from by rw [HTK.out, if_pos (.inr (by rw [hex, hpy]))])
      clear hex hpy hi0
      go_wp2_with fail
      have hC0 : Cells [(⟨w1.heap.size, 1, none⟩, .int .i64 en), (⟨w1.heap.size + 1, 2, none⟩, .int .i64 pa)] wx := ⟨c1, c2, trivial⟩
      refine wp_region_T (Cells [(⟨w1.heap.size, 1, none⟩, .int .i64 en), (⟨w1.heap.size + 1, 2, none⟩, .int .i64 pa)]) (fun _ => false) (by kernel_rfl) ?_
      have hSss2 := Cells.drew hC0
      have hB_0_s2 : Below wx.heap.size wx wx.drew := below_drew _
      generalize wx.drew = s2 at hSss2 hB_0_s2 ⊢
      have hB_s2_s2 := Below.refl s2.heap.size s2
      refine wpAnyT_pure (i := 0) (v := ?_) rfl (by kernel_rfl) (by kernel_rfl) (by kernel_rfl) (fun _ _ _ h => h) (by rfl) ?_ ?_
      rotate_left
      · intro w; go_simp; try with_reducible rfl
      simp only [Act.put, rgA, rgB, rgC, rgD, rgE, rgF]
      refine wpAnyT_pure (i := 2) (v := ?_) rfl (by kernel_rfl) (by kernel_rfl) (by kernel_rfl) (fun _ _ _ h => h) (by rfl) ?_ ?_
      rotate_left
      · intro w; go_simp; try with_reducible rfl
      simp only [Act.put, rgA, rgB, rgC, rgD, rgE, rgF]
      refine wpAnyT_loadW (i := 1) (v := ?_) rfl (by kernel_rfl) (by kernel_rfl) (by kernel_rfl) (by kernel_rfl) (by kernel_rfl) (fun _ _ _ h => h) (Or.inl ⟨by rfl, ?_⟩) hSss2 ?_
      rotate_left
      · intro w hSw; obtain ⟨e0, e1, -⟩ := hSw; go_simp; try with_reducible rfl
      simp only [Act.put, rgA, rgB, rgC, rgD, rgE, rgF]
      refine wpAnyT_pure (i := 4) (v := ?_) rfl (by kernel_rfl) (by kernel_rfl) (by kernel_rfl) (fun _ _ _ h => h) (by rfl) ?_ ?_
      rotate_left
      · intro w; go_simp; try with_reducible rfl
      simp only [Act.put, rgA, rgB, rgC, rgD, rgE, rgF]
      refine wpAnyT_loadW (i := 3) (v := ?_) rfl (by kernel_rfl) (by kernel_rfl) (by kernel_rfl) (by kernel_rfl) (by kernel_rfl) (fun _ _ _ h => h) (Or.inl ⟨by rfl, ?_⟩) hSss2 ?_
      rotate_left
      · intro w hSw; obtain ⟨e0, e1, -⟩ := hSw; go_simp; try with_reducible rfl
      simp only [Act.put, rgA, rgB, rgC, rgD, rgE, rgF]
      refine wpAnyT_pure (i := 5) (v := ?_) rfl (by kernel_rfl) (by kernel_rfl) (by kernel_rfl) (fun _ _ _ h => h) (by rfl) ?_ ?_
      rotate_left
      · intro w; go_simp; try with_reducible rfl
      simp only [Act.put, rgA, rgB, rgC, rgD, rgE, rgF]
      refine wpAnyT_done (by kernel_rfl) ?_ _
      have HBE := Lib.hid (below_step HBX1.out hB_0_s2)
      obtain ⟨wE, rfl⟩ : ∃ q, q = s2 := ⟨_, rfl⟩
      clear c1 c2
      go_wp2_with fail
      go_roundw
      case rel => exact ⟨i + 1, en, pa, HIL.out, by go_num, rfl, rfl, HT2.out, HBE.out⟩
      case measure => have := HIL.out; simp [intOf]; try omega
    · obtain rfl : i = l.length := by omega
      have hiI : ¬ ((l.length : Nat) : Int) < (l.length : Int) := by omega
      rw [List.take_length] at hst
      have HE := Lib.hid (show fo = if 1 ≤ l.length ∧ l.length ≤ 12 then some (x, y) else none from by rw [← HFO.out]; unfold entP; rw [hst])
      clear hst hB hil hi
      by_cases h1 : 1 ≤ l.length
      · have h1I : (1 : Int) ≤ (l.length : Int) := by omega
        by_cases h12 : l.length ≤ 12
        · have h12I : (l.length : Int) ≤ 12 := by omega
          go_wp2_with fail
          go_ret3
          refine ⟨⟨x, y, true, rfl, ?_⟩, ?_⟩
          · rw [HE.out, if_pos ⟨h1, h12⟩]; exact ⟨rfl, rfl, rfl⟩
          · first | exact HBW.out | (rw [← HN.out]; exact HBW.out)
        · have h12I : ¬ (l.length : Int) ≤ 12 := by omega
          go_wp2_with fail
          go_ret3
          refine ⟨⟨x, y, false, by first | rfl | simp [h12], ?_⟩, ?_⟩
          · rw [HE.out, if_neg (fun h => h12 h.2)]
          · first | exact HBW.out | (rw [← HN.out]; exact HBW.out)
      · have h1I : ¬ (1 : Int) ≤ (l.length : Int) := by omega
        go_wp2_with fail
        go_ret3
        refine ⟨⟨x, y, false, by first | rfl | simp [h1], ?_⟩, ?_⟩
        · rw [HE.out, if_neg (fun h => h1 h.1)]
        · first | exact HBW.out | (rw [← HN.out]; exact HBW.out)
end Go.Proofs.Ytpobckedeffjmaa

/- Layer 28, plain: the proposals fit. -/
set_option linter.unusedSimpArgs false
namespace Go.Proofs.Ytpobckedeffjmaa
open Go.RowKit Go

theorem nodup_app {α : Type} {a b : List α} (h1 : a.Nodup) (h2 : b.Nodup) (h : ∀ x ∈ b, x ∉ a) : (a ++ b).Nodup :=
  List.nodup_append.2 ⟨h1, h2, fun x hx y hy e => h y hy (e ▸ hx)⟩
/-! ### Several -/
end Go.Proofs.Ytpobckedeffjmaa

/- Layer 28: Sides, plain and the program's. -/
set_option linter.unusedSimpArgs false
set_option maxRecDepth 50000
namespace Go.Proofs.Ytpobckedeffjmaa
open Go.RowKit Go

def sidesM (es : List En) (L R : List R2) (st : Int) : Int × Int × Int :=
  match entP es L with
  | none => (0, 0, 1)
  | some p => match entP es R with
    | none => (0, 0, 1)
    | some q => if p.1 ≠ q.1 ∧ p.2 = q.1 ∧ q.2 = p.1 ∧ 1 ≤ st ∧ st ≤ 5 ∧ (L ++ R).Nodup then (p.1, q.1, 0) else (0, 0, 1)
theorem entP_len {es : List En} {l : List R2} {p : Int × Int} (h : entP es l = some p) : l.length ≤ 12 := by
  unfold entP at h
  split at h
  · rename_i h1; exact h1.2
  · cases h
theorem entP_mem {es : List En} {l : List R2} {p : Int × Int} (h : entP es l = some p) : ∀ r ∈ l, findM es r = some p := by
  unfold entP at h
  split at h
  · cases l with
    | nil => intro r hr; cases hr
    | cons a l =>
      simp only [entS] at h
      cases hf : findM es a with
      | none => rw [hf] at h; cases h
      | some q =>
        rw [hf] at h
        simp only at h
        split at h
        · rename_i hall
          cases h
          intro r hr
          rcases List.mem_cons.1 hr with rfl | hr
          · exact hf
          · rw [List.all_eq_true] at hall
            exact of_decide_eq_true (hall r hr)
        · cases h
  · cases h
/-- As the reference says it. -/
theorem sidesM_ref (es : List En) (L R : List R2) (st : Int) : sidesM es L R st = match sideP es L with
    | none => (0, 0, 1)
    | some p => match sideP es R with
      | none => (0, 0, 1)
      | some q => if p.1 ≠ q.1 ∧ p.2 = q.1 ∧ q.2 = p.1 ∧ 1 ≤ st ∧ st ≤ 5 then (p.1, q.1, 0) else (0, 0, 1) := by
  unfold sidesM sideP
  by_cases hL : L.Nodup
  · rw [if_pos hL]
    cases hl : entP es L with
    | none => rfl
    | some p =>
      simp only
      by_cases hR : R.Nodup
      · rw [if_pos hR]
        cases hr : entP es R with
        | none => rfl
        | some q =>
          simp only
          by_cases hx : p.1 = q.1
          · rw [if_neg (fun h => h.1 hx), if_neg (fun h => h.1 hx)]
          · have hnd : (L ++ R).Nodup := nodup_app hL hR (fun x hx2 hx1 => by
              have h1 := entP_mem hl x hx1
              have h2 := entP_mem hr x hx2
              rw [h1] at h2
              cases h2
              exact hx rfl)
            by_cases hc : p.2 = q.1 ∧ q.2 = p.1 ∧ 1 ≤ st ∧ st ≤ 5
            · rw [if_pos ⟨hx, hc.1, hc.2.1, hc.2.2.1, hc.2.2.2, hnd⟩, if_pos ⟨hx, hc.1, hc.2.1, hc.2.2.1, hc.2.2.2⟩]
            · rw [if_neg (fun h => hc ⟨h.2.1, h.2.2.1, h.2.2.2.1, h.2.2.2.2.1⟩), if_neg (fun h => hc ⟨h.2.1, h.2.2.1, h.2.2.2.1, h.2.2.2.2⟩)]
      · rw [if_neg hR]
        cases hr : entP es R with
        | none => rfl
        | some q =>
          simp only
          rw [if_neg (fun h => hR (List.nodup_append.1 h.2.2.2.2.2).2.1)]
  · rw [if_neg hL]
    cases hl : entP es L with
    | none => rfl
    | some p =>
      simp only
      cases hr : entP es R with
      | none => rfl
      | some q =>
        simp only
        rw [if_neg (fun h => hL (List.nodup_append.1 h.2.2.2.2.2).1)]
def SdP (t : Int × Int × Int) (e : Ending) : Prop := e = .returned (.tuple #[.int .i64 t.1, .int .i64 t.2.1, .int .i64 t.2.2])
set_option maxHeartbeats 8000000 in
theorem sides28 {S S2 : Nat → Prop} (w : World) (bs : Array Value) (es : List En) (ms : List M4) (h : Bk S w bs es ms) (hS : ∀ b, S b → b < w.heap.size) (h40 : es.length ≤ 40) (h8 : ∀ e ∈ es, e.ln.length ≤ 8)
    (id st : Int) (la : Option Addr) (lc : Nat) (L : List R2) (ra : Option Addr) (rc : Nat) (R : List R2) (hL : Rd (.sl refT) S2 w [.slice la L.length lc] (L.map R2.d)) (hR : Rd (.sl refT) S2 w [.slice ra R.length rc] (R.map R2.d)) (hS2 : ∀ b, S2 b → b < w.heap.size) :
    Calls Try.prog 18 #[.agg bs, .agg #[.int .i64 id, .slice la L.length lc, .slice ra R.length rc, .int .i64 st]] w fun e w' => SdP (sidesM es L R st) e ∧ Below w.heap.size w w' := by
  have hmm := fun w => @run_makeMap Try.prog w
  have HSZ := Lib.hid h.sz
  have H := Lib.hid h
  have HS := Lib.hid hS
  have H8 := Lib.hid h8
  have HL := Lib.hid hL
  have HR := Lib.hid hR
  have HS2 := Lib.hid hS2
  obtain ⟨sd, hsd⟩ : ∃ q, sidesM es L R st = q := ⟨_, rfl⟩
  rw [hsd]
  have HSD := Lib.hid hsd
  have hb0 := ((Below.refl w.heap.size w).alloc (Nat.le_refl _) (.cells bs 65)).alloc (by simp) (.cells #[.int .i64 id, .slice la L.length lc, .slice ra R.length rc, .int .i64 st] 67)
  have HB0 := Lib.hid hb0
  have HR0 := Lib.hid (alloc_old' (y := .cells #[.int .i64 id, .slice la L.length lc, .slice ra R.length rc, .int .i64 st] 67) (heap_alloc_new w (.cells bs 65)))
  have hr1 := heap_alloc_new (w.alloc (.cells bs 65)) (.cells #[.int .i64 id, .slice la L.length lc, .slice ra R.length rc, .int .i64 st] 67)
  rw [World.size_alloc] at hr1
  have HR1 := Lib.hid hr1
  clear h hS h8 hL hR hS2 hsd hb0 hr1
  go_enter Try.func18, Try.ntmps18
  go_upto_region 1 with fail
  generalize World.alloc (World.alloc w (.cells bs 65)) (.cells #[.int .i64 id, .slice la L.length lc, .slice ra R.length rc, .int .i64 st] 67) = w0 at *
  obtain ⟨n, hn⟩ : ∃ q, w.heap.size = q := ⟨_, rfl⟩
  rw [hn] at HR0 HR1
  have HN := Lib.hid hn
  simp only [hn]
  clear hn
  have c1 : w0.cell? ⟨n + 1, 1, none⟩ = some (.slice la L.length lc) := blk_cell HR1.out 1
  have HROW := Lib.hid HR0.out
  go_wp2_with (have hq := HROW; clear HROW; refine wpList_load_row rfl 65 _ rfl n rfl 65 bs (0, 0) _ hq.out Try.underlying65 rfl (by rw [HSZ.out]; kernel_rfl) ?_; clear hq)
  refine (entity28 w0 bs es ms (H.out.below HB0.out HS.out) (fun b hb => Nat.lt_of_lt_of_le (HS.out b hb) HB0.out.size) h40 H8.out la lc L (HL.out.below HB0.out HS2.out) (fun b hb => Nat.lt_of_lt_of_le (HS2.out b hb) HB0.out.size)).mono ?_
  rintro e w1 ⟨⟨x, px, ok1, rfl, hm1⟩, hB1⟩
  have HM1 := Lib.hid hm1
  have HB1 := Lib.hid (below_step HB0.out hB1)
  have c2 : w1.cell? ⟨n + 1, 2, none⟩ = some (.slice ra R.length rc) := cell_below (blk_cell HR1.out 2) hB1
  have HROW := Lib.hid ((hB1.block _ (blk_lt HR0.out)).trans HR0.out)
  have HRM := Lib.hid ((hB1.block _ (blk_lt HR1.out)).trans HR1.out)
  clear hm1 hB1 c1
  go_wp2_with (have hq := HROW; clear HROW; refine wpList_load_row rfl 65 _ rfl n rfl 65 bs (0, 0) _ hq.out Try.underlying65 rfl (by rw [HSZ.out]; kernel_rfl) ?_; clear hq)
  refine (entity28 w1 bs es ms (H.out.below HB1.out HS.out) (fun b hb => Nat.lt_of_lt_of_le (HS.out b hb) HB1.out.size) h40 H8.out ra rc R (HR.out.below HB1.out HS2.out) (fun b hb => Nat.lt_of_lt_of_le (HS2.out b hb) HB1.out.size)).mono ?_
  rintro e w2 ⟨⟨y, py, ok2, rfl, hm2⟩, hB2⟩
  have HM2 := Lib.hid hm2
  have HB2 := Lib.hid (below_step HB1.out hB2)
  have d1 : w2.cell? ⟨n + 1, 1, none⟩ = some (.slice la L.length lc) := cell_below (blk_cell HRM.out 1) hB2
  have d2 : w2.cell? ⟨n + 1, 2, none⟩ = some (.slice ra R.length rc) := cell_below (blk_cell HRM.out 2) hB2
  have d3 : w2.cell? ⟨n + 1, 3, none⟩ = some (.int .i64 st) := cell_below (blk_cell HRM.out 3) hB2
  clear hm2 hB2 c2
  cases hL : entP es L with
  | none =>
    have HQ := HM1.out
    rw [hL] at HQ
    obtain rfl : ok1 = false := HQ
    have HBAD := Lib.hid (show sd = (0, 0, 1) from by rw [← HSD.out]; unfold sidesM; rw [hL])
    clear hL
    go_wp2_with fail
    go_ret3
    exact ⟨by rw [HBAD.out]; rfl, HB2.out⟩
  | some p =>
    have HQ := HM1.out
    rw [hL] at HQ
    have hq3 : ok1 = true ∧ x = p.1 ∧ px = p.2 := HQ
    obtain ⟨hok, hxp, hpp⟩ := hq3
    subst hok
    clear HQ
    cases hR : entP es R with
    | none =>
      have HQ := HM2.out
      rw [hR] at HQ
      obtain rfl : ok2 = false := HQ
      have HBAD := Lib.hid (show sd = (0, 0, 1) from by rw [← HSD.out]; unfold sidesM; rw [hL, hR])
      clear hL hR hxp hpp
      go_wp2_with fail
      go_ret3
      exact ⟨by rw [HBAD.out]; rfl, HB2.out⟩
    | some q =>
      have HQ := HM2.out
      rw [hR] at HQ
      have hq3 : ok2 = true ∧ y = q.1 ∧ py = q.2 := HQ
      obtain ⟨hok, hyq, hpq⟩ := hq3
      subst hok
      clear HQ
      have HSV := Lib.hid (show sd = if x ≠ y ∧ px = y ∧ py = x ∧ 1 ≤ st ∧ st ≤ 5 ∧ (L ++ R).Nodup then (x, y, 0) else (0, 0, 1) from by rw [← HSD.out]; unfold sidesM; rw [hL, hR, hxp, hpp, hyq, hpq])
      have HLL := Lib.hid (entP_len hL)
      have HRL := Lib.hid (entP_len hR)
      clear hL hR hxp hpp hyq hpq
      by_cases hxy : x = y
      · have e1 : (x == y) = true := by simpa using hxy
        have HBAD := Lib.hid (show sd = (0, 0, 1) from by rw [HSV.out, if_neg (fun h => h.1 hxy)])
        clear hxy
        go_wp2_with fail
        go_ret3
        exact ⟨by rw [HBAD.out]; rfl, HB2.out⟩
      have e1 : (x == y) = false := by simpa using hxy
      have HXY := Lib.hid hxy
      clear hxy
      by_cases h2 : px = y
      case neg =>
        have e2 : (px == y) = false := by simpa using h2
        have e2' : (px != y) = true := by simpa using h2
        have HBAD := Lib.hid (show sd = (0, 0, 1) from by rw [HSV.out, if_neg (fun h => h2 h.2.1)])
        clear h2
        go_wp2_with fail
        go_ret3
        exact ⟨by rw [HBAD.out]; rfl, HB2.out⟩
      have h2' := h2.symm
      subst h2'
      clear h2
      by_cases h3 : py = x
      case neg =>
        have e3 : (py == x) = false := by simpa using h3
        have e3' : (py != x) = true := by simpa using h3
        have HBAD := Lib.hid (show sd = (0, 0, 1) from by rw [HSV.out, if_neg (fun h => h3 h.2.2.1)])
        clear h3
        go_wp2_with fail
        go_ret3
        exact ⟨by rw [HBAD.out]; rfl, HB2.out⟩
      have h3' := h3.symm
      subst h3'
      clear h3
      have hne : ¬ x = y := HXY.out
      by_cases h4 : st < 1
      · have HBAD := Lib.hid (show sd = (0, 0, 1) from by rw [HSV.out, if_neg (fun h => by omega)])
        go_wp2_with fail
        go_ret3
        exact ⟨by rw [HBAD.out]; rfl, HB2.out⟩
      by_cases h5 : 5 < st
      · have HBAD := Lib.hid (show sd = (0, 0, 1) from by rw [HSV.out, if_neg (fun h => by omega)])
        go_wp2_with fail
        go_ret3
        exact ⟨by rw [HBAD.out]; rfl, HB2.out⟩
      have HSW := Lib.hid (show sd = if (L ++ R).Nodup then (x, y, 0) else (0, 0, 1) from by
        rw [HSV.out]
        by_cases hnd : (L ++ R).Nodup
        · rw [if_pos ⟨HXY.out, rfl, rfl, by omega, by omega, hnd⟩, if_pos hnd]
        · rw [if_neg (fun h => hnd h.2.2.2.2.2), if_neg hnd])
      have hm0 : MapG refK boolE (w2.alloc (.map #[] 0)) w2.heap.size 0 (fun _ => none) := MapG.made w2
      have hB1 := (Below.refl w2.heap.size w2).alloc (Nat.le_refl _) (.map #[] 0)
      have hrow := heap_alloc_new (w2.alloc (.map #[] 0)) (.cells #[.slice la L.length lc, .slice ra R.length rc] 37)
      have hBb := (Below.refl (w2.alloc (.map #[] 0)).heap.size (w2.alloc (.map #[] 0))).alloc (Nat.le_refl _) (.cells #[.slice la L.length lc, .slice ra R.length rc] 37)
      have hB12 := below_step hB1 hBb
      have hBw := below_step HB2.out hB12
      have d1' := cell_below d1 hB1
      have d2' := cell_below d2 hB1
      have HCC := Lib.hid (concatR ((w2.alloc (.map #[] 0)).alloc (.cells #[.slice la L.length lc, .slice ra R.length rc] 37)) (w2.alloc (.map #[] 0)).heap.size la lc L ra rc R hrow (HL.out.below hBw HS2.out) (HR.out.below hBw HS2.out) (fun b hb => Nat.lt_of_lt_of_le (HS2.out b hb) hBw.size) (by have := HLL.out; omega) (by have := HRL.out; omega))
      have HMP := Lib.hid (hm0.below hBb)
      have HB12 := Lib.hid hB12
      clear hm0 hB1 hrow hBb hB12 hBw
      rw [World.size_alloc] at HCC
      go_wp2_with fail
      refine HCC.out.mono ?_
      rintro e w3 ⟨v, rfl, hO, hB3⟩
      have HM3 := Lib.hid (HMP.out.below hB3)
      have HB3 := Lib.hid (below_step HB12.out hB3)
      have hO2 := hO.base (base' := w2.heap.size + 1) (by simp)
      obtain ⟨va, vl, vc, rfl, hvl, -⟩ := hO.slice
      obtain ⟨al, hal⟩ : ∃ x, L ++ R = x := ⟨_, rfl⟩
      rw [hal] at hO2 HSW
      have hvl2 : vl = al.length := by rw [hvl, ← hal, List.length_map]
      subst hvl2
      have HAN := Lib.hid (show al.length ≤ 24 from by rw [← hal, List.length_append]; have := HLL.out; have := HRL.out; omega)
      have HO2 := Lib.hid hO2
      have hal1 := HAN.out
      clear hO hO2 hB3 hal hvl HCC HMP d1 d2 d3 d1' d2'
      go_wp2_with fail
      go_loopw [71] (fun iv wr => ∃ (k m : Nat), k ≤ al.length ∧ iv = .int .i64 k ∧ m ≤ k ∧ MapG refK boolE wr w2.heap.size m (setF (fun x => decide (x ∈ al.take k))) ∧ (al.take k).Nodup ∧ Gr (fun b => b = w2.heap.size) w3 wr) (fun iv _ => al.length - (intOf iv).toNat)
      case atStart => exact ⟨0, 0, Nat.zero_le _, rfl, Nat.le_refl _, HM3.out.congr (fun x _ => by simp [setF]), by simp, Gr.refl _ _⟩
      obtain ⟨k, m, hk, rfl, hmk, hM, hnd, hG⟩ := hrel
      have HM := Lib.hid hM
      have HND := Lib.hid hnd
      have HG := Lib.hid hG
      have HMK := Lib.hid hmk
      have HBR := Lib.hid (show Below w2.heap.size w2 wr from HB3.out.trans (hG.below (fun b e => by omega) HB3.out.size))
      clear hM hnd hG hmk
      by_cases hlt : k < al.length
      · have hkI : (k : Int) < (al.length : Int) := by omega
        have hO3 := HO2.out.gr HG.out (fun _ h => h.elim) (fun b e e2 => by have := (HO2.out.own b e).1; omega)
        obtain ⟨b, o, rfl, -, m0, m1, hxo⟩ := ref_at (hO3.rd (fun b => b < wr.heap.size) (fun _ h => h.elim) (fun b e => (hO3.own b e).2)) k hlt
        have HTK := Lib.hid (List.take_succ_eq_append_getElem hlt)
        have HLT := Lib.hid hlt
        generalize al[k] = z at m0 m1 hxo HTK
        have HXO := Lib.hid hxo
        obtain ⟨xe, xl⟩ := z
        simp only at m0 m1
        obtain ⟨sb, hsb⟩ : ∃ q, decide ((⟨xe, xl⟩ : R2) ∈ al.take k) = q := ⟨_, rfl⟩
        have HSB := Lib.hid hsb
        have HBADF := Lib.hid (show sb = true → sd = (0, 0, 1) from fun h => by
          rw [HSW.out, if_neg]
          intro hn
          have h2 : (al.take (k + 1)).Nodup := hn.sublist (List.take_sublist _ _)
          rw [HTK.out, nodup_snoc] at h2
          exact h2.2 (of_decide_eq_true (hsb.trans h)))
        have hBa := (Below.refl wr.heap.size wr).alloc (Nat.le_refl _) (.cells #[.int .i64 xe, .int .i64 xl] 41)
        have hqb := heap_alloc_new wr (.cells #[.int .i64 xe, .int .i64 xl] 41)
        have hm4 := HM.out.below hBa
        have hlk := hm4.look1 Try.underlying96 ⟨xe, xl⟩ HXO.out
        rw [show ((setF (fun x => decide (x ∈ al.take k)) ⟨xe, xl⟩).getD boolE.z) = sb from by unfold setF; simp only [hsb]; cases sb <;> rfl] at hlk
        change Sem.run Try.prog (Instr.lookup 96 (.map (some w2.heap.size)) (.agg #[.int .i64 xe, .int .i64 xl]) false) _ = .ok (.bool sb) _ at hlk
        have HM4 := Lib.hid hm4
        have HBA := Lib.hid hBa
        have HBX := Lib.hid (below_step HB2.out (below_step HBR.out hBa))
        have k0 := blk_cell hqb 0
        have k1 := blk_cell hqb 1
        simp only [List.getElem?_toArray, List.getElem?_cons_zero, List.getElem?_cons_succ] at k0 k1
        clear hO3 hxo hBa hqb hm4 hlt hsb
        go_upto_region 9 with fail
        generalize World.alloc wr (.cells #[.int .i64 xe, .int .i64 xl] 41) = wa at *
        cases sb
        case true =>
          have HF := Lib.hid (HBADF.out (by first | rfl | trivial))
          go_wp2_with fail
          go_ret3
          exact ⟨by rw [HF.out]; rfl, HBX.out⟩
        obtain ⟨wb, hrun, hM5, hT⟩ := HM4.out.store Try.underlying96 (by have := HMK.out; have := HAN.out; simp [maxLen]; omega) ⟨xe, xl⟩ HXO.out true trivial
        change Sem.run Try.prog (Instr.mapUpdate 96 (.map (some w2.heap.size)) (.agg #[.int .i64 xe, .int .i64 xl]) (.bool true)) wa = _ at hrun
        have HG5 := Lib.hid (show Gr (fun b => b = w2.heap.size) w3 wb from (HG.out.step HBA.out).trans (Gr.of_turned hT) (fun x e => .inl e))
        have HM5 := Lib.hid hM5
        clear hM5 hT
        go_wp2_with fail
        clear hlk hrun k0 k1 m0 m1
        go_roundw
        case rel =>
          refine ⟨k + 1, _, HLT.out, by go_num, ?_, HM5.out.congr (fun y hy => ?_), ?_, HG5.out⟩
          · have := HMK.out
            split <;> omega
          · rw [HTK.out]
            unfold setF
            by_cases e : y = ⟨xe, xl⟩
            · simp [e]
            · simp [e]
          · rw [HTK.out, nodup_snoc]
            exact ⟨HND.out, of_decide_eq_false HSB.out⟩
        case measure => simp [intOf]; try omega
      · obtain rfl : k = al.length := by omega
        have hnd := HND.out
        rw [List.take_length] at hnd
        have HT := Lib.hid (show sd = (x, y, 0) from by rw [HSW.out, if_pos hnd])
        have HBX := Lib.hid (below_step HB2.out HBR.out)
        clear hnd
        go_wp2_with fail
        go_ret3
        exact ⟨by rw [HT.out]; rfl, HBX.out⟩
end Go.Proofs.Ytpobckedeffjmaa

/- Regions: three ways; a row that stands besides cells. -/
set_option linter.unusedSimpArgs false
namespace Go.Proofs.Ytpobckedeffjmaa
open Go.RowKit Go

section
variable {P : Program} {md : Region.Mode} {ops : Array Oper} {Q : Exit → Act → World → Prop} {S : World → Prop} {T : Nat → Bool}
theorem wpAnyT_three {i k m : Nat} {fuel : Nat} {listed : Array Bool} {a : Act} {w : World} {oi ok om : Oper} (hr : Region.ready md ops listed = [i, k, m]) (hi : ops[i]? = some oi) (hk : ops[k]? = some ok) (hm : ops[m]? = some om)
    (hw : Region.wanted oi (yielded ops a.tmps) = true) (hwk : Region.wanted ok (yielded ops a.tmps) = true) (hwm : Region.wanted om (yielded ops a.tmps) = true)
    (h : oi.wp P a w (fun a' w' => (T i = false → S w → S w') ∧ wpAnyT P md ops Q S T fuel (listed.setIfInBounds i true) a' w') Q)
    (h2 : ok.wp P a w (fun a' w' => (T k = false → S w → S w') ∧ wpAnyT P md ops Q S T fuel (listed.setIfInBounds k true) a' w') Q)
    (h3 : om.wp P a w (fun a' w' => (T m = false → S w → S w') ∧ wpAnyT P md ops Q S T fuel (listed.setIfInBounds m true) a' w') Q) : wpAnyT P md ops Q S T (fuel + 1) listed a w := by
  refine wpAnyT_all hr (by simp) (fun j hj => ?_)
  have hj' : j = i ∨ j = k ∨ j = m := by simpa using hj
  rcases hj' with rfl | rfl | rfl
  · unfold wpOp; simp only [hi, hw, if_true]; exact .inl h
  · unfold wpOp; simp only [hk, hwk, if_true]; exact .inl h2
  · unfold wpOp; simp only [hm, hwm, if_true]; exact .inl h3
end
/-- Cells, and the books in their box. -/
def CellsR (n : Nat) (bs : Array Value) (cs : List (Addr × Value)) (W : World) : Prop := Cells cs W ∧ W.heap[n]? = some (.cells bs 65 (0, 0))
theorem CellsR.drew {n : Nat} {bs : Array Value} {cs : List (Addr × Value)} {W : World} (h : CellsR n bs cs W) : CellsR n bs cs W.drew := ⟨Cells.drew h.1, h.2⟩
theorem CellsR.below {n : Nat} {bs : Array Value} {cs : List (Addr × Value)} {W W' : World} (hB : Below W.heap.size W W') (h : CellsR n bs cs W) : CellsR n bs cs W' := ⟨Cells.below hB h.1, (hB.block _ (blk_lt h.2)).trans h.2⟩
theorem exec_load_row {P : Program} {o : Oper} {a : Act} {w : World} (ty : TypeId) (x : Operand) (ho : o.op = .load ty x)
    (g : Nat) (hx : a.eval x = .pointer (some ⟨g, 0, none⟩)) (t : TypeId) (cs : Array Value) (fr : Nat × Nat) (d : TypeDesc) (hg : w.heap[g]? = some (.cells cs t fr))
    (hu : P.underlying ty = some d) (hd : (match d with | .struct _ | .array _ _ => true | _ => false) = true) (hi : (P.info? ty).map (·.size) = some cs.size) : (execOp a.eval o).run P w = .ok (.value (.agg cs)) w := by
  unfold execOp
  simp only [ho, hx, Instr.loadAt, Instr.sureAddr, Sem.run_bind, Sem.run_pure, Result.andThen_ok, run_loadVar_row w g t ty cs fr d hg hu hd hi]
end Go.Proofs.Ytpobckedeffjmaa
