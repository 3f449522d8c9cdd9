/- Layer 47: the reference's Has, Put, Sorted, Same. -/
import Derived.Test.YtoimbhdjhhmonaaD47h
set_option linter.unusedSimpArgs false
set_option maxRecDepth 50000
namespace Go.Proofs.Ytoimbhdjhhmonaa
open Go.RowKit Go

theorem map_snoc_d (l : List C4) (c : C4) : l.map C4.d ++ [c.d] = (l ++ [c]).map C4.d := by simp
set_option maxHeartbeats 1000000 in
theorem rhas47 {S : Nat → Prop} (w : World) (a : Option Addr) (cap : Nat) (l : List C4) (hx : Rd (.sl cellT) S w [.slice a l.length cap] (l.map C4.d)) (hS : ∀ b, S b → b < w.heap.size) (c : C4) :
    Calls Try.prog 18 #[.slice a l.length cap, c.v] w fun e w' => e = .returned (.bool (decide (c ∈ l))) ∧ Below w.heap.size w w' := by
  have hlm : l.length ≤ 9223372036854775807 := Nat.le_trans (hx.sl_flat.1 ▸ hx.sl_flat.2.1) hx.sl_flat.2.2.1
  obtain ⟨db, hdb⟩ : ∃ b, decide (c ∈ l) = b := ⟨_, rfl⟩
  rw [hdb]
  have HDB := Lib.hid hdb
  clear hdb
  obtain ⟨c1, c2, c3, c4⟩ := c
  have hB := (Below.refl w.heap.size w).alloc (Nat.le_refl _) (.cells #[.int .i64 c1, .int .i64 c2, .int .i64 c3, .int .i64 c4] 38)
  have hkb := heap_alloc_new w (.cells #[.int .i64 c1, .int .i64 c2, .int .i64 c3, .int .i64 c4] 38)
  have HB := Lib.hid hB
  have HKB := Lib.hid hkb
  unfold C4.v
  simp only
  have HX := Lib.hid (hx.below hB hS)
  have HS := Lib.hid (fun b hb => Nat.lt_of_lt_of_le (hS b hb) hB.size)
  clear hB hkb hx hS
  go_enter Try.func18, Try.ntmps18
  go_wp2_with fail
  generalize World.alloc _ _ = w1 at *
  go_loopw [5] (fun i wr => ∃ (k : Nat), k ≤ l.length ∧ i = .int .i64 k ∧ (⟨c1, c2, c3, c4⟩ : C4) ∉ l.take k ∧ Below w1.heap.size w1 wr) (fun i _ => l.length - (intOf i).toNat)
  case atStart => exact ⟨0, Nat.zero_le _, rfl, by simp, Below.refl _ _⟩
  obtain ⟨k, hk, rfl, hno, hBr⟩ := hrel
  have HNO := Lib.hid hno
  have HBR := Lib.hid hBr
  have hkb := (hBr.block _ (blk_lt HKB.out)).trans HKB.out
  clear hno
  by_cases hlt : k < l.length
  · have hkI : (k : Int) < (l.length : Int) := by omega
    obtain ⟨b, o, rfl, -, m0, m1, m2, m3, -⟩ := cell_at (HX.out.below hBr HS.out) k hlt
    have HTK := Lib.hid (List.take_succ_eq_append_getElem hlt)
    have HIN := Lib.hid (List.getElem_mem hlt)
    generalize l[k] = y at m0 m1 m2 m3 HTK HIN
    have heql := fun W => cell_eql W y ⟨c1, c2, c3, c4⟩
    obtain ⟨eb, heb⟩ : ∃ eb, decide (y = ⟨c1, c2, c3, c4⟩) = eb := ⟨_, rfl⟩
    rw [heb] at heql
    have HEB := Lib.hid heb
    obtain ⟨y1, y2, y3, y4⟩ := y
    unfold C4.v at heql
    simp only at m0 m1 m2 m3 heql
    have HLT := Lib.hid hlt
    have hC0 : Cells [(⟨b, o + k * 4, none⟩, .int .i64 y1), (⟨b, o + k * 4 + 1, none⟩, .int .i64 y2), (⟨b, o + k * 4 + 2, none⟩, .int .i64 y3), (⟨b, o + k * 4 + 3, none⟩, .int .i64 y4), (⟨w.heap.size, 0, none⟩, .int .i64 c1), (⟨w.heap.size, 1, none⟩, .int .i64 c2), (⟨w.heap.size, 2, none⟩, .int .i64 c3), (⟨w.heap.size, 3, none⟩, .int .i64 c4)] wr := ⟨m0, m1, m2, m3, blk_cell hkb 0, blk_cell hkb 1, blk_cell hkb 2, blk_cell hkb 3, trivial⟩
    clear m0 m1 m2 m3 hlt hBr heb hkb
    go_wp2_with fail
    refine wp_region_T (Cells [(⟨b, o + k * 4, none⟩, .int .i64 y1), (⟨b, o + k * 4 + 1, none⟩, .int .i64 y2), (⟨b, o + k * 4 + 2, none⟩, .int .i64 y3), (⟨b, o + k * 4 + 3, none⟩, .int .i64 y4), (⟨w.heap.size, 0, none⟩, .int .i64 c1), (⟨w.heap.size, 1, none⟩, .int .i64 c2), (⟨w.heap.size, 2, none⟩, .int .i64 c3), (⟨w.heap.size, 3, none⟩, .int .i64 c4)]) (fun _ => false) (by kernel_rfl) ?_
    have hSss1 := Cells.drew hC0
    have hB_0_s1 : Below wr.heap.size wr wr.drew := below_drew _
    generalize wr.drew = s1 at hSss1 hB_0_s1 ⊢
    have hB_s1_s1 := Below.refl s1.heap.size s1
    refine wpAnyT_pure (i := 0) (v := ?_) rfl (by kernel_rfl) (by kernel_rfl) (by kernel_rfl) (fun _ _ _ h => h) (by rfl) ?_ ?_
    rotate_left
    · intro w; go_simp; try with_reducible rfl
    simp only [Act.put, rgA, rgB, rgC, rgD, rgE, rgF]
    refine wpAnyT_pure (i := 1) (v := ?_) rfl (by kernel_rfl) (by kernel_rfl) (by kernel_rfl) (fun _ _ _ h => h) (by rfl) ?_ ?_
    rotate_left
    · intro w; go_simp; try with_reducible rfl
    simp only [Act.put, rgA, rgB, rgC, rgD, rgE, rgF]
    refine wpAnyT_pure (i := 2) (v := ?_) rfl (by kernel_rfl) (by kernel_rfl) (by kernel_rfl) (fun _ _ _ h => h) (by rfl) ?_ ?_
    rotate_left
    · intro w; go_simp; try with_reducible rfl
    simp only [Act.put, rgA, rgB, rgC, rgD, rgE, rgF]
    refine wpAnyT_loadW (i := 3) (v := ?_) rfl (by kernel_rfl) (by kernel_rfl) (by kernel_rfl) (by kernel_rfl) (by kernel_rfl) (fun _ _ _ h => h) (Or.inl ⟨by rfl, ?_⟩) hSss1 ?_
    rotate_left
    · intro w hSw; obtain ⟨e0, e1, e2, e3, e4, e5, e6, e7, -⟩ := hSw; go_simp; try with_reducible rfl
    simp only [Act.put, rgA, rgB, rgC, rgD, rgE, rgF]
    refine wpAnyT_loadW (i := 4) (v := ?_) rfl (by kernel_rfl) (by kernel_rfl) (by kernel_rfl) (by kernel_rfl) (by kernel_rfl) (fun _ _ _ h => h) (Or.inl ⟨by rfl, ?_⟩) hSss1 ?_
    rotate_left
    · intro w hSw; obtain ⟨e0, e1, e2, e3, e4, e5, e6, e7, -⟩ := hSw; go_simp; try with_reducible rfl
    simp only [Act.put, rgA, rgB, rgC, rgD, rgE, rgF]
    refine wpAnyT_pure (i := 5) (v := ?_) rfl (by kernel_rfl) (by kernel_rfl) (by kernel_rfl) (fun _ _ _ h => h) (by rfl) ?_ ?_
    rotate_left
    · intro w; go_simp; try with_reducible rfl
    simp only [Act.put, rgA, rgB, rgC, rgD, rgE, rgF]
    refine wpAnyT_done (by kernel_rfl) ?_ _
    have HBP := Lib.hid (HBR.out.trans ((hB_0_s1.trans ((hB_s1_s1).mono (hB_0_s1).size)).mono HBR.out.size))
    obtain ⟨w4, rfl⟩ : ∃ x, x = s1 := ⟨_, rfl⟩
    clear hC0
    cases eb
    · go_wp2_with fail
      go_roundw
      case rel => exact ⟨k + 1, HLT.out, by go_num, by rw [HTK.out, List.mem_append, List.mem_singleton]; exact fun h => h.elim HNO.out (fun e => of_decide_eq_false HEB.out e.symm), HBP.out⟩
      case measure => simp [intOf]; try omega
    · go_wp2_with fail
      go_ret
      exact ⟨by rw [← HDB.out, decide_eq_true (by rw [← of_decide_eq_true HEB.out]; exact HIN.out)]; rfl, HB.out.trans (HBP.out.mono HB.out.size)⟩
  · obtain rfl : k = l.length := by omega
    have HDF := Lib.hid (show db = false from by rw [← HDB.out]; exact decide_eq_false (by have := HNO.out; rwa [List.take_length] at this))
    clear hBr hkb
    go_wp2_with fail
    go_ret
    exact ⟨by rw [HDF.out]; rfl, HB.out.trans (HBR.out.mono HB.out.size)⟩
set_option maxHeartbeats 2000000 in
theorem rput47 {S : Nat → Prop} (w : World) (a : Option Addr) (cap : Nat) (l : List C4) (hx : Rd (.sl cellT) S w [.slice a l.length cap] (l.map C4.d)) (hS : ∀ b, S b → b < w.heap.size) (hsr : Srt l) (hok : ∀ x ∈ l, x.ok) (hl : l.length ≤ 100000) (c : C4) (hc : c.ok) :
    Calls Try.prog 36 #[.slice a l.length cap, c.v] w (ReadsP w (insC l c)) := by
  have HC := Lib.hid hc
  have HOK := Lib.hid hok
  have HEND := Lib.hid (putL_end (c := c) hsr)
  have HSR := Lib.hid hsr
  have HCR := Lib.hid (fun W y => rcompare47 W c y)
  have HP0 := Lib.hid (show putL [] c = [] from rfl)
  have HPS := Lib.hid (fun k (hk : k < l.length) => putL_snoc (c := c) (l := l.take k) (y := l[k]) (by rw [← List.take_succ_eq_append_getElem hk]; exact hsr.sublist (List.take_sublist _ _)))
  have HPT := Lib.hid (fun k (hk : k < l.length) => putD_snoc (l.take k) c l[k])
  have HPB := Lib.hid (fun k => show (putL (l.take k) c).length ≤ 100001 from by
    have h1 := insC_len (l.take k) c
    have h2 := List.length_take_le' k l
    unfold putL
    split <;> omega)
  have HTF := Lib.hid (List.take_length (l := l))
  obtain ⟨c1, c2, c3, c4⟩ := c
  have hB := (Below.refl w.heap.size w).alloc (Nat.le_refl _) (.cells #[.int .i64 c1, .int .i64 c2, .int .i64 c3, .int .i64 c4] 38)
  have hkb := heap_alloc_new w (.cells #[.int .i64 c1, .int .i64 c2, .int .i64 c3, .int .i64 c4] 38)
  have HB := Lib.hid hB
  have HKB := Lib.hid hkb
  unfold C4.v
  simp only
  have HX := Lib.hid (hx.below hB hS)
  have HS := Lib.hid (fun b hb => Nat.lt_of_lt_of_le (hS b hb) hB.size)
  clear hB hkb hx hS hsr hok hc
  go_enter Try.func36, Try.ntmps36
  go_wp2_with fail
  generalize hw1 : World.alloc _ _ = w1 at *
  clear hw1
  obtain ⟨gb, hgb⟩ : ∃ x, w.heap.size = x := ⟨_, rfl⟩
  have HGB := Lib.hid hgb
  rw [hgb] at HKB ⊢
  clear hgb
  go_loopw [5, 6, 7] (fun o d i wr => ∃ (k : Nat) (oa : Option Addr) (ol oc : Nat), k ≤ l.length ∧ i = .int .i64 k ∧ o = .slice oa ol oc ∧ d = .bool (putD (l.take k) ⟨c1, c2, c3, c4⟩) ∧ Owns cellT 38 w1.heap.size (fun _ => False) wr (.slice oa ol oc) ((putL (l.take k) ⟨c1, c2, c3, c4⟩).map C4.d) ∧ Below w1.heap.size w1 wr) (fun _ _ i _ => l.length - (intOf i).toNat)
  case atStart => exact ⟨0, none, 0, 0, Nat.zero_le _, rfl, rfl, rfl, by rw [List.take_zero, HP0.out]; exact Owns.nil _ _ _ _, Below.refl _ _⟩
  obtain ⟨k, oa0, ol0, oc0, hk, rfl, rfl, rfl, hO, hBr⟩ := hrel
  have HO0 := Lib.hid hO
  have HB0 := Lib.hid hBr
  have hkb := (hBr.block _ (blk_lt HKB.out)).trans HKB.out
  have HPN := Lib.hid (HPB.out k)
  clear hO
  obtain ⟨dn, hdn⟩ : ∃ x, putD (l.take k) ⟨c1, c2, c3, c4⟩ = x := ⟨_, rfl⟩
  rw [hdn]
  by_cases hlt : k < l.length
  · have hkI : (k : Int) < (l.length : Int) := by omega
    obtain ⟨b, o, rfl, hbS, m0, m1, m2, m3, -⟩ := cell_at HX.out k hlt
    have HLT := Lib.hid hlt
    have hPS := HPS.out k hlt
    have hPT := HPT.out k hlt
    have HYO := Lib.hid (HOK.out _ (List.getElem_mem hlt))
    rw [← List.take_succ_eq_append_getElem hlt] at hPS hPT
    have hCM := fun W => HCR.out W l[k]
    generalize l[k] = y at m0 m1 m2 m3 hPS hPT HYO hCM
    obtain ⟨r, hr⟩ : ∃ r, cfC ⟨c1, c2, c3, c4⟩ y = r := ⟨_, rfl⟩
    obtain ⟨pl, hpl⟩ : ∃ r, putL (l.take k) ⟨c1, c2, c3, c4⟩ = r := ⟨_, rfl⟩
    rw [hdn, hr, hpl] at hPS
    rw [hdn, hr] at hPT
    rw [hpl] at HO0 HPN
    simp only [hr] at hCM
    have HPD := Lib.hid hPT
    have HPL := Lib.hid hPS
    obtain ⟨y1, y2, y3, y4⟩ := y
    unfold C4.v at hCM
    simp only at m0 m1 m2 m3 hCM
    have HCM := Lib.hid hCM
    have HC0 := Lib.hid (show Cells [(⟨b, o + k * 4, none⟩, .int .i64 y1), (⟨b, o + k * 4 + 1, none⟩, .int .i64 y2), (⟨b, o + k * 4 + 2, none⟩, .int .i64 y3), (⟨b, o + k * 4 + 3, none⟩, .int .i64 y4), (⟨gb, 0, none⟩, .int .i64 c1), (⟨gb, 1, none⟩, .int .i64 c2), (⟨gb, 2, none⟩, .int .i64 c3), (⟨gb, 3, none⟩, .int .i64 c4)] w1 from ⟨m0, m1, m2, m3, blk_cell HKB.out 0, blk_cell HKB.out 1, blk_cell HKB.out 2, blk_cell HKB.out 3, trivial⟩)
    have hbl := HS.out b hbS
    have hgl := blk_lt HKB.out
    have HCL := Lib.hid (show CellsLt w1.heap.size [(⟨b, o + k * 4, none⟩, .int .i64 y1), (⟨b, o + k * 4 + 1, none⟩, .int .i64 y2), (⟨b, o + k * 4 + 2, none⟩, .int .i64 y3), (⟨b, o + k * 4 + 3, none⟩, .int .i64 y4), (⟨gb, 0, none⟩, .int .i64 c1), (⟨gb, 1, none⟩, .int .i64 c2), (⟨gb, 2, none⟩, .int .i64 c3), (⟨gb, 3, none⟩, .int .i64 c4)] from ⟨hbl, hbl, hbl, hbl, hgl, hgl, hgl, hgl, trivial⟩)
    have hC0 := Cells.belowN hBr HCL.out HC0.out
    clear m0 m1 m2 m3 hlt hBr hkb hPS hPT hCM hdn hr hpl hbl hgl hbS
    go_wp2_with fail
    refine wp_region_T (Cells [(⟨b, o + k * 4, none⟩, .int .i64 y1), (⟨b, o + k * 4 + 1, none⟩, .int .i64 y2), (⟨b, o + k * 4 + 2, none⟩, .int .i64 y3), (⟨b, o + k * 4 + 3, none⟩, .int .i64 y4), (⟨gb, 0, none⟩, .int .i64 c1), (⟨gb, 1, none⟩, .int .i64 c2), (⟨gb, 2, none⟩, .int .i64 c3), (⟨gb, 3, none⟩, .int .i64 c4)]) (fun _ => false) (by kernel_rfl) ?_
    have hSss2 := Cells.drew hC0
    have hB_0_s2 : Below wr.heap.size wr wr.drew := below_drew _
    generalize wr.drew = s2 at hSss2 hB_0_s2 ⊢
    have hB_s2_s2 := Below.refl s2.heap.size s2
    refine wpAnyT_pure (i := 1) (v := ?_) rfl (by kernel_rfl) (by kernel_rfl) (by kernel_rfl) (fun _ _ _ h => h) (by rfl) ?_ ?_
    rotate_left
    · intro w; go_simp; try with_reducible rfl
    simp only [Act.put, rgA, rgB, rgC, rgD, rgE, rgF]
    refine wpAnyT_pure (i := 2) (v := ?_) rfl (by kernel_rfl) (by kernel_rfl) (by kernel_rfl) (fun _ _ _ h => h) (by rfl) ?_ ?_
    rotate_left
    · intro w; go_simp; try with_reducible rfl
    simp only [Act.put, rgA, rgB, rgC, rgD, rgE, rgF]
    refine wpAnyT_pure (i := 3) (v := ?_) rfl (by kernel_rfl) (by kernel_rfl) (by kernel_rfl) (fun _ _ _ h => h) (by rfl) ?_ ?_
    rotate_left
    · intro w; go_simp; try with_reducible rfl
    simp only [Act.put, rgA, rgB, rgC, rgD, rgE, rgF]
    refine wpAnyT_loadW (i := 0) (v := ?_) rfl (by kernel_rfl) (by kernel_rfl) (by kernel_rfl) (by kernel_rfl) (by kernel_rfl) (fun _ _ _ h => h) (Or.inl ⟨by rfl, ?_⟩) hSss2 ?_
    rotate_left
    · intro w hSw; obtain ⟨e0, e1, e2, e3, e4, e5, e6, e7, -⟩ := hSw; go_simp; try with_reducible rfl
    simp only [Act.put, rgA, rgB, rgC, rgD, rgE, rgF]
    refine wpAnyT_loadW (i := 4) (v := ?_) rfl (by kernel_rfl) (by kernel_rfl) (by kernel_rfl) (by kernel_rfl) (by kernel_rfl) (fun _ _ _ h => h) (Or.inl ⟨by rfl, ?_⟩) hSss2 ?_
    rotate_left
    · intro w hSw; obtain ⟨e0, e1, e2, e3, e4, e5, e6, e7, -⟩ := hSw; go_simp; try with_reducible rfl
    simp only [Act.put, rgA, rgB, rgC, rgD, rgE, rgF]
    refine wpAnyT_one (i := 5) (by kernel_rfl) rfl (by rfl) ?_
    refine wp_enter (f := 57) (args := #[.agg #[.int .i64 c1, .int .i64 c2, .int .i64 c3, .int .i64 c4], .agg #[.int .i64 y1, .int .i64 y2, .int .i64 y3, .int .i64 y4]]) (by go_simp) (HCM.out s2) ?_
    rintro e w103 ⟨rfl, hX⟩
    have hB_s2_w103 := below_step hB_s2_s2 hX
    have hB_w103_w103 := Below.refl w103.heap.size w103
    have hSsw103 := Cells.below hB_s2_w103 hSss2
    clear hX
    refine ⟨_, rfl, fun _ _ => hSsw103, ?_⟩
    try simp only [Act.put, rgA, rgB, rgC, rgD, rgE, rgF]
    refine wpAnyT_pure (i := 6) (v := ?_) rfl (by kernel_rfl) (by kernel_rfl) (by kernel_rfl) (fun _ _ _ h => h) (by rfl) ?_ ?_
    rotate_left
    · intro w; go_simp; try with_reducible rfl
    simp only [Act.put, rgA, rgB, rgC, rgD, rgE, rgF]
    refine wpAnyT_done (by kernel_rfl) ?_ _
    have hBW := hB_0_s2.trans ((hB_s2_w103).mono (hB_0_s2).size)
    have HO1 := Lib.hid (HO0.out.below hBW)
    have HB1 := Lib.hid (HB0.out.trans (hBW.mono HB0.out.size))
    obtain ⟨w4, rfl⟩ : ∃ x, x = w103 := ⟨_, rfl⟩
    clear hBW
    clear hC0
    obtain ⟨z0, z1, z2, z3, n0, n1, n2, n3, -⟩ := Cells.belowN (HB1.out) HCL.out HC0.out
    obtain ⟨oa1, hoa1⟩ : ∃ x, x = oa0 := ⟨_, rfl⟩
    obtain ⟨ol1, hol1⟩ : ∃ x, x = ol0 := ⟨_, rfl⟩
    obtain ⟨oc1, hoc1⟩ : ∃ x, x = oc0 := ⟨_, rfl⟩
    rw [← hoa1, ← hol1, ← hoc1] at HO1 ⊢
    clear hoa1 hol1 hoc1 HO0 HB0
    by_cases hr0 : r < 0
    · have hrz : r ≤ 0 := by omega
      have HPE := Lib.hid (show putD (l.take (k + 1)) ⟨c1, c2, c3, c4⟩ = true from by rw [HPD.out, decide_eq_true hrz, Bool.or_true])
      cases dn
      · have HPM := Lib.hid (show putL (l.take (k + 1)) ⟨c1, c2, c3, c4⟩ = pl ++ [⟨c1, c2, c3, c4⟩] ++ [⟨y1, y2, y3, y4⟩] from by rw [HPL.out, decide_eq_true hr0]; rfl)
        go_wp2_with (first | (at_builtin; have hq := HO1; clear hq; go_must (refine wpList_app _ rfl _ _ 23 rfl (e := cellT) (te := 38) info_cell Try.underlying23 rfl (by decide) (base := w1.heap.size) (S := fun _ => False) (v := .slice oa1 ol1 oc1) (xs := (pl).map C4.d) rfl (HO1.out.alloc _) (by have := HB1.out.size; simp only [World.size_alloc]; omega) rfl (ys := [C4.d ⟨c1, c2, c3, c4⟩]) (Src.new _ [_, _, _, _] _ _ _) (RdL.one (e := cellT) (cell_rd HC.out)) (by have := HPN.out; rw [List.length_map]; simp only [List.length_singleton, List.length_append] at *; omega) (by have := HPN.out; rw [List.length_map]; simp only [List.length_singleton, List.length_append] at *; omega) ?_; intro v' w2 O9 g9 _ ob9; have HG9 := Lib.hid (((Below.refl w1.heap.size w4).alloc (by have := HB1.out.size; omega) _).grown g9 (by have := HB1.out.size; simp only [World.size_alloc]; omega) (fun c hc => (HO1.out.own c hc).1)); have HB2 := Lib.hid (HB1.out.trans (HG9.out.mono (by first | exact Nat.le_refl _ | exact HB1.out.size))); rw [map_snoc_d] at O9; obtain ⟨oa2, ol2, oc2, rfl, -⟩ := O9.slice; have HO2 := Lib.hid O9; clear O9 g9 ob9 HG9 HO1; clear z0 z1 z2 z3 n0 n1 n2 n3; obtain ⟨z0, z1, z2, z3, n0, n1, n2, n3, -⟩ := Cells.belowN HB2.out HCL.out HC0.out)) | (at_builtin; have hq := HO2; clear hq; go_must (refine wpList_app _ rfl _ _ 23 rfl (e := cellT) (te := 38) info_cell Try.underlying23 rfl (by decide) (base := w1.heap.size) (S := fun _ => False) (v := .slice oa2 ol2 oc2) (xs := (pl ++ [(⟨c1, c2, c3, c4⟩ : C4)]).map C4.d) rfl (HO2.out.alloc _) (by have := HB2.out.size; simp only [World.size_alloc]; omega) rfl (ys := [C4.d ⟨y1, y2, y3, y4⟩]) (Src.new _ [_, _, _, _] _ _ _) (RdL.one (e := cellT) (cell_rd HYO.out)) (by have := HPN.out; rw [List.length_map]; simp only [List.length_singleton, List.length_append] at *; omega) (by have := HPN.out; rw [List.length_map]; simp only [List.length_singleton, List.length_append] at *; omega) ?_; intro v' w3 O9 g9 _ ob9; have HG9 := Lib.hid (((Below.refl w1.heap.size w2).alloc (by have := HB2.out.size; omega) _).grown g9 (by have := HB2.out.size; simp only [World.size_alloc]; omega) (fun c hc => (HO2.out.own c hc).1)); have HB3 := Lib.hid (HB2.out.trans (HG9.out.mono (by first | exact Nat.le_refl _ | exact HB2.out.size))); rw [map_snoc_d] at O9; obtain ⟨oa3, ol3, oc3, rfl, -⟩ := O9.slice; have HO3 := Lib.hid O9; clear O9 g9 ob9 HG9 HO2; skip)))
        go_wp2_with fail
        go_roundw
        case rel => exact ⟨k + 1, _, _, _, HLT.out, by go_num, rfl, by rw [HPE.out], by rw [HPM.out]; exact HO3.out, HB3.out⟩
        case measure => simp [intOf]; try omega
      · have HPM := Lib.hid (show putL (l.take (k + 1)) ⟨c1, c2, c3, c4⟩ = pl ++ [⟨y1, y2, y3, y4⟩] from by rw [HPL.out, Bool.not_true, Bool.and_false]; rfl)
        go_wp2_with (at_builtin; have hq := HO1; clear hq; go_must (refine wpList_app _ rfl _ _ 23 rfl (e := cellT) (te := 38) info_cell Try.underlying23 rfl (by decide) (base := w1.heap.size) (S := fun _ => False) (v := .slice oa1 ol1 oc1) (xs := (pl).map C4.d) rfl (HO1.out.alloc _) (by have := HB1.out.size; simp only [World.size_alloc]; omega) rfl (ys := [C4.d ⟨y1, y2, y3, y4⟩]) (Src.new _ [_, _, _, _] _ _ _) (RdL.one (e := cellT) (cell_rd HYO.out)) (by have := HPN.out; rw [List.length_map]; simp only [List.length_singleton, List.length_append] at *; omega) (by have := HPN.out; rw [List.length_map]; simp only [List.length_singleton, List.length_append] at *; omega) ?_; intro v' w2 O9 g9 _ ob9; have HG9 := Lib.hid ((((Below.refl w1.heap.size w4)).alloc (by have := HB1.out.size; omega) _).grown g9 (by have := HB1.out.size; simp only [World.size_alloc]; omega) (fun c hc => (HO1.out.own c hc).1)); have HB2 := Lib.hid (HB1.out.trans (HG9.out.mono (by first | exact Nat.le_refl _ | exact HB1.out.size))); rw [map_snoc_d] at O9; obtain ⟨oa2, ol2, oc2, rfl, -⟩ := O9.slice; have HO2 := Lib.hid O9; clear O9 g9 ob9 HG9 HO1; skip))
        go_wp2_with fail
        go_roundw
        case rel => exact ⟨k + 1, _, _, _, HLT.out, by go_num, rfl, by rw [HPE.out], by rw [HPM.out]; exact HO2.out, HB2.out⟩
        case measure => simp [intOf]; try omega
    · have HPM := Lib.hid (show putL (l.take (k + 1)) ⟨c1, c2, c3, c4⟩ = pl ++ [⟨y1, y2, y3, y4⟩] from by rw [HPL.out, decide_eq_false hr0]; rfl)
      by_cases hrz : r ≤ 0
      · have HPE := Lib.hid (show putD (l.take (k + 1)) ⟨c1, c2, c3, c4⟩ = true from by rw [HPD.out, decide_eq_true hrz, Bool.or_true])
        cases dn
        · skip
          go_wp2_with (at_builtin; have hq := HO1; clear hq; go_must (refine wpList_app _ rfl _ _ 23 rfl (e := cellT) (te := 38) info_cell Try.underlying23 rfl (by decide) (base := w1.heap.size) (S := fun _ => False) (v := .slice oa1 ol1 oc1) (xs := (pl).map C4.d) rfl (HO1.out.alloc _) (by have := HB1.out.size; simp only [World.size_alloc]; omega) rfl (ys := [C4.d ⟨y1, y2, y3, y4⟩]) (Src.new _ [_, _, _, _] _ _ _) (RdL.one (e := cellT) (cell_rd HYO.out)) (by have := HPN.out; rw [List.length_map]; simp only [List.length_singleton, List.length_append] at *; omega) (by have := HPN.out; rw [List.length_map]; simp only [List.length_singleton, List.length_append] at *; omega) ?_; intro v' w2 O9 g9 _ ob9; have HG9 := Lib.hid ((((Below.refl w1.heap.size w4)).alloc (by have := HB1.out.size; omega) _).grown g9 (by have := HB1.out.size; simp only [World.size_alloc]; omega) (fun c hc => (HO1.out.own c hc).1)); have HB2 := Lib.hid (HB1.out.trans (HG9.out.mono (by first | exact Nat.le_refl _ | exact HB1.out.size))); rw [map_snoc_d] at O9; obtain ⟨oa2, ol2, oc2, rfl, -⟩ := O9.slice; have HO2 := Lib.hid O9; clear O9 g9 ob9 HG9 HO1; skip))
          go_wp2_with fail
          go_roundw
          case rel => exact ⟨k + 1, _, _, _, HLT.out, by go_num, rfl, by rw [HPE.out], by rw [HPM.out]; exact HO2.out, HB2.out⟩
          case measure => simp [intOf]; try omega
        · skip
          go_wp2_with (at_builtin; have hq := HO1; clear hq; go_must (refine wpList_app _ rfl _ _ 23 rfl (e := cellT) (te := 38) info_cell Try.underlying23 rfl (by decide) (base := w1.heap.size) (S := fun _ => False) (v := .slice oa1 ol1 oc1) (xs := (pl).map C4.d) rfl (HO1.out.alloc _) (by have := HB1.out.size; simp only [World.size_alloc]; omega) rfl (ys := [C4.d ⟨y1, y2, y3, y4⟩]) (Src.new _ [_, _, _, _] _ _ _) (RdL.one (e := cellT) (cell_rd HYO.out)) (by have := HPN.out; rw [List.length_map]; simp only [List.length_singleton, List.length_append] at *; omega) (by have := HPN.out; rw [List.length_map]; simp only [List.length_singleton, List.length_append] at *; omega) ?_; intro v' w2 O9 g9 _ ob9; have HG9 := Lib.hid ((((Below.refl w1.heap.size w4)).alloc (by have := HB1.out.size; omega) _).grown g9 (by have := HB1.out.size; simp only [World.size_alloc]; omega) (fun c hc => (HO1.out.own c hc).1)); have HB2 := Lib.hid (HB1.out.trans (HG9.out.mono (by first | exact Nat.le_refl _ | exact HB1.out.size))); rw [map_snoc_d] at O9; obtain ⟨oa2, ol2, oc2, rfl, -⟩ := O9.slice; have HO2 := Lib.hid O9; clear O9 g9 ob9 HG9 HO1; skip))
          go_wp2_with fail
          go_roundw
          case rel => exact ⟨k + 1, _, _, _, HLT.out, by go_num, rfl, by rw [HPE.out], by rw [HPM.out]; exact HO2.out, HB2.out⟩
          case measure => simp [intOf]; try omega
      · have HPE := Lib.hid (show putD (l.take (k + 1)) ⟨c1, c2, c3, c4⟩ = dn from by rw [HPD.out, decide_eq_false hrz, Bool.or_false])
        cases dn
        · skip
          go_wp2_with (at_builtin; have hq := HO1; clear hq; go_must (refine wpList_app _ rfl _ _ 23 rfl (e := cellT) (te := 38) info_cell Try.underlying23 rfl (by decide) (base := w1.heap.size) (S := fun _ => False) (v := .slice oa1 ol1 oc1) (xs := (pl).map C4.d) rfl (HO1.out.alloc _) (by have := HB1.out.size; simp only [World.size_alloc]; omega) rfl (ys := [C4.d ⟨y1, y2, y3, y4⟩]) (Src.new _ [_, _, _, _] _ _ _) (RdL.one (e := cellT) (cell_rd HYO.out)) (by have := HPN.out; rw [List.length_map]; simp only [List.length_singleton, List.length_append] at *; omega) (by have := HPN.out; rw [List.length_map]; simp only [List.length_singleton, List.length_append] at *; omega) ?_; intro v' w2 O9 g9 _ ob9; have HG9 := Lib.hid ((((Below.refl w1.heap.size w4)).alloc (by have := HB1.out.size; omega) _).grown g9 (by have := HB1.out.size; simp only [World.size_alloc]; omega) (fun c hc => (HO1.out.own c hc).1)); have HB2 := Lib.hid (HB1.out.trans (HG9.out.mono (by first | exact Nat.le_refl _ | exact HB1.out.size))); rw [map_snoc_d] at O9; obtain ⟨oa2, ol2, oc2, rfl, -⟩ := O9.slice; have HO2 := Lib.hid O9; clear O9 g9 ob9 HG9 HO1; skip))
          go_wp2_with fail
          go_roundw
          case rel => exact ⟨k + 1, _, _, _, HLT.out, by go_num, rfl, by rw [HPE.out], by rw [HPM.out]; exact HO2.out, HB2.out⟩
          case measure => simp [intOf]; try omega
        · skip
          go_wp2_with (at_builtin; have hq := HO1; clear hq; go_must (refine wpList_app _ rfl _ _ 23 rfl (e := cellT) (te := 38) info_cell Try.underlying23 rfl (by decide) (base := w1.heap.size) (S := fun _ => False) (v := .slice oa1 ol1 oc1) (xs := (pl).map C4.d) rfl (HO1.out.alloc _) (by have := HB1.out.size; simp only [World.size_alloc]; omega) rfl (ys := [C4.d ⟨y1, y2, y3, y4⟩]) (Src.new _ [_, _, _, _] _ _ _) (RdL.one (e := cellT) (cell_rd HYO.out)) (by have := HPN.out; rw [List.length_map]; simp only [List.length_singleton, List.length_append] at *; omega) (by have := HPN.out; rw [List.length_map]; simp only [List.length_singleton, List.length_append] at *; omega) ?_; intro v' w2 O9 g9 _ ob9; have HG9 := Lib.hid ((((Below.refl w1.heap.size w4)).alloc (by have := HB1.out.size; omega) _).grown g9 (by have := HB1.out.size; simp only [World.size_alloc]; omega) (fun c hc => (HO1.out.own c hc).1)); have HB2 := Lib.hid (HB1.out.trans (HG9.out.mono (by first | exact Nat.le_refl _ | exact HB1.out.size))); rw [map_snoc_d] at O9; obtain ⟨oa2, ol2, oc2, rfl, -⟩ := O9.slice; have HO2 := Lib.hid O9; clear O9 g9 ob9 HG9 HO1; skip))
          go_wp2_with fail
          go_roundw
          case rel => exact ⟨k + 1, _, _, _, HLT.out, by go_num, rfl, by rw [HPE.out], by rw [HPM.out]; exact HO2.out, HB2.out⟩
          case measure => simp [intOf]; try omega
  · obtain rfl : k = l.length := by omega
    have hend := HEND.out
    rw [HTF.out] at HO0 hdn HPN
    rw [hdn] at hend
    obtain ⟨pl, hpl⟩ : ∃ r, putL l ⟨c1, c2, c3, c4⟩ = r := ⟨_, rfl⟩
    rw [hpl] at hend HO0 HPN
    have n0 := blk_cell hkb 0
    have n1 := blk_cell hkb 1
    have n2 := blk_cell hkb 2
    have n3 := blk_cell hkb 3
    simp only [List.getElem?_toArray, List.getElem?_cons_zero, List.getElem?_cons_succ] at n0 n1 n2 n3
    clear hBr hkb hdn hpl
    have HE := Lib.hid hend
    clear hend
    cases dn
    · skip
      go_wp2_with (at_builtin; have hq := HO0; clear hq; go_must (refine wpList_app _ rfl _ _ 23 rfl (e := cellT) (te := 38) info_cell Try.underlying23 rfl (by decide) (base := w1.heap.size) (S := fun _ => False) (v := .slice oa0 ol0 oc0) (xs := (pl).map C4.d) rfl (HO0.out.alloc _) (by have := HB0.out.size; simp only [World.size_alloc]; omega) rfl (ys := [C4.d ⟨c1, c2, c3, c4⟩]) (Src.new _ [_, _, _, _] _ _ _) (RdL.one (e := cellT) (cell_rd HC.out)) (by have := HPN.out; rw [List.length_map]; simp only [List.length_singleton, List.length_append] at *; omega) (by have := HPN.out; rw [List.length_map]; simp only [List.length_singleton, List.length_append] at *; omega) ?_; intro v' w2 O9 g9 _ ob9; have HG9 := Lib.hid ((((Below.refl w1.heap.size wr)).alloc (by have := HB0.out.size; omega) _).grown g9 (by have := HB0.out.size; simp only [World.size_alloc]; omega) (fun c hc => (HO0.out.own c hc).1)); have HB2 := Lib.hid (HB0.out.trans (HG9.out.mono (by first | exact Nat.le_refl _ | exact HB0.out.size))); rw [map_snoc_d] at O9; obtain ⟨oa2, ol2, oc2, rfl, -⟩ := O9.slice; have HO2 := Lib.hid O9; clear O9 g9 ob9 HG9 HO0; skip))
      clear n0 n1 n2 n3
      go_wp2_with fail
      go_ret
      refine ⟨_, rfl, ?_, ?_⟩
      · have h1 := HE.out
        rw [← h1]
        exact SlC.of_owns (HO2.out.base HB.out.size)
      · exact HB.out.trans (HB2.out.mono HB.out.size)
    · clear n0 n1 n2 n3
      go_wp2_with fail
      go_ret
      refine ⟨_, rfl, ?_, ?_⟩
      · have h1 := HE.out
        rw [← h1]
        exact SlC.of_owns (HO0.out.base HB.out.size)
      · exact HB.out.trans (HB0.out.mono HB.out.size)
end Go.Proofs.Ytoimbhdjhhmonaa

/- Layer 47: the reference's graph in memory; find, Remove, Reads, Readers. -/
set_option linter.unusedSimpArgs false
set_option maxRecDepth 50000
namespace Go.Proofs.Ytoimbhdjhhmonaa
open Go.RowKit Go

abbrev entT : Ty := .pr cellT (.pr (.sl cellT) .un)
def entD (e : En4) : entT.den := (e.1.d, e.2.map C4.d, ())
theorem info_ent : (Try.prog.info? 65).map (fun i => (i.zero, i.size, i.bytes)) = some (some (.agg #[.int .i64 0, .int .i64 0, .int .i64 0, .int .i64 0, .slice none 0 0]), entT.sz, 56) := by kernel_rfl
theorem ent_at {S : Nat → Prop} {w : World} {a : Option Addr} {len cap : Nat} {G : List En4} (h : Rd (.sl entT) S w [.slice a len cap] (G.map entD)) (i : Nat) (hi : i < G.length) :
    ∃ b off ra rc, a = some ⟨b, off, none⟩ ∧ S b ∧ w.cell? ⟨b, off + i * 5, none⟩ = some (.int .i64 G[i].1.st) ∧ w.cell? ⟨b, off + i * 5 + 1, none⟩ = some (.int .i64 G[i].1.en) ∧ w.cell? ⟨b, off + i * 5 + 2, none⟩ = some (.int .i64 G[i].1.ot) ∧ w.cell? ⟨b, off + i * 5 + 3, none⟩ = some (.int .i64 G[i].1.pe) ∧
      w.cell? ⟨b, off + i * 5 + 4, none⟩ = some (.slice ra G[i].2.length rc) ∧ Rd (.sl cellT) S w [.slice ra G[i].2.length rc] (G[i].2.map C4.d) ∧ G[i].1.ok := by
  obtain ⟨hl, -, -, vs, hr, hor⟩ := h.sl_flat
  obtain ⟨c, hc, hcc, hrd⟩ := hr.at_ i (by rw [List.length_map]; exact hi)
  rw [List.getElem_map] at hrd
  rcases hor with h0 | ⟨b, off, rfl, hb, hcell⟩
  · rw [List.length_map] at hl; omega
  · generalize G[i] = s at hrd ⊢
    obtain ⟨⟨s1, s2, s3, s4⟩, sl⟩ := s
    obtain ⟨d1, r1, rfl, hcr, d2, r2, rfl, hsl, rfl⟩ := hrd
    obtain ⟨x1, q1, rfl, ⟨rfl, h1⟩, x2, q2, rfl, ⟨rfl, h2⟩, x3, q3, rfl, ⟨rfl, h3⟩, x4, q4, rfl, ⟨rfl, h4⟩, rfl⟩ := hcr
    have hsl' := hsl
    obtain ⟨ra, rl, rc, rfl, hlen, -⟩ := hsl'
    have hlen : (sl.map C4.d).length = rl := hlen
    rw [List.length_map] at hlen
    subst hlen
    refine ⟨b, off, ra, rc, rfl, hb, ?_, ?_, ?_, ?_, ?_, hsl, ⟨h1, h2, h3, h4⟩⟩
    · rw [show off + i * 5 = off + (i * entT.sz + 0) from rfl]; exact hcell _ _ (hcc 0 _ rfl)
    · rw [show off + i * 5 + 1 = off + (i * entT.sz + 1) from rfl]; exact hcell _ _ (hcc 1 _ rfl)
    · rw [show off + i * 5 + 2 = off + (i * entT.sz + 2) from rfl]; exact hcell _ _ (hcc 2 _ rfl)
    · rw [show off + i * 5 + 3 = off + (i * entT.sz + 3) from rfl]; exact hcell _ _ (hcc 3 _ rfl)
    · rw [show off + i * 5 + 4 = off + (i * entT.sz + 4) from rfl]; exact hcell _ _ (hcc 4 _ rfl)
theorem ent_rd {S : Nat → Prop} {w : World} {e : En4} {ra : Option Addr} {rc : Nat} (h : e.1.ok) (hr : Rd (.sl cellT) S w [.slice ra e.2.length rc] (e.2.map C4.d)) :
    Rd entT S w [.int .i64 e.1.st, .int .i64 e.1.en, .int .i64 e.1.ot, .int .i64 e.1.pe, .slice ra e.2.length rc] (entD e) :=
  ⟨[_, _, _, _], [_], rfl, cell_rd h, [_], [], rfl, hr, rfl⟩
theorem rd_len {e : Ty} {S : Nat → Prop} {w : World} {a : Option Addr} {len cap : Nat} {α : Type} {f : α → e.den} {l : List α} (h : Rd (.sl e) S w [.slice a len cap] (l.map f)) : len = l.length := by
  have := h.sl_flat.1
  rw [List.length_map] at this
  exact this.symm
def FindP (w : World) (G : List En4) (c : C4) (e : Ending) (w' : World) : Prop :=
  Below w.heap.size w w' ∧ ((e = .returned (.int .i64 (-1)) ∧ lkG G c = none) ∨ ∃ (i : Nat) (h : i < G.length), e = .returned (.int .i64 i) ∧ G[i].1 = c ∧ lkG G c = some G[i].2)
set_option maxHeartbeats 1000000 in
theorem rfind47 {S : Nat → Prop} (w : World) (a : Option Addr) (cap : Nat) (G : List En4) (hx : Rd (.sl entT) S w [.slice a G.length cap] (G.map entD)) (hS : ∀ b, S b → b < w.heap.size) (c : C4) :
    Calls Try.prog 38 #[.slice a G.length cap, c.v] w (FindP w G c) := by
  obtain ⟨c1, c2, c3, c4⟩ := c
  have hB := (Below.refl w.heap.size w).alloc (Nat.le_refl _) (.cells #[.int .i64 c1, .int .i64 c2, .int .i64 c3, .int .i64 c4] 38)
  have hkb := heap_alloc_new w (.cells #[.int .i64 c1, .int .i64 c2, .int .i64 c3, .int .i64 c4] 38)
  have HB := Lib.hid hB
  have HKB := Lib.hid hkb
  unfold C4.v
  simp only
  have HX := Lib.hid (hx.below hB hS)
  have HS := Lib.hid (fun b hb => Nat.lt_of_lt_of_le (hS b hb) hB.size)
  have hlm : G.length ≤ 9223372036854775807 := Nat.le_trans ((rd_len hx) ▸ hx.sl_flat.2.1) hx.sl_flat.2.2.1
  clear hB hkb hx hS
  go_enter Try.func38, Try.ntmps38
  go_wp2_with fail
  generalize hw1 : World.alloc _ _ = w1 at *
  clear hw1
  obtain ⟨gb, hgb⟩ : ∃ x, w.heap.size = x := ⟨_, rfl⟩
  have HGB := Lib.hid hgb
  rw [hgb] at HKB
  clear hgb
  go_loopw [5] (fun i wr => ∃ (k : Nat), k ≤ G.length ∧ i = .int .i64 k ∧ (∀ j (hj : j < G.length), j < k → G[j].1 ≠ ⟨c1, c2, c3, c4⟩) ∧ Below w1.heap.size w1 wr) (fun i _ => G.length - (intOf i).toNat)
  case atStart => exact ⟨0, Nat.zero_le _, rfl, fun _ _ h => absurd h (Nat.not_lt_zero _), Below.refl _ _⟩
  obtain ⟨k, hk, rfl, hno, hBr⟩ := hrel
  have HNO := Lib.hid hno
  have HBR := Lib.hid hBr
  have hkb := (hBr.block _ (blk_lt HKB.out)).trans HKB.out
  clear hno
  by_cases hlt : k < G.length
  · have hkI : (k : Int) < (G.length : Int) := by omega
    obtain ⟨b, o, ra, rc, rfl, -, m0, m1, m2, m3, m4, hrr, -⟩ := ent_at (HX.out.below hBr HS.out) k hlt
    have HYK := Lib.hid (show ∀ y : En4, G[k] = y → (y.1 = ⟨c1, c2, c3, c4⟩ → ∃ h : k < G.length, G[k].1 = ⟨c1, c2, c3, c4⟩ ∧ lkG G ⟨c1, c2, c3, c4⟩ = some G[k].2) ∧ (y.1 ≠ ⟨c1, c2, c3, c4⟩ → ∀ j (hj : j < G.length), j < k + 1 → G[j].1 ≠ ⟨c1, c2, c3, c4⟩) from fun y hy => by
      subst hy
      refine ⟨fun e => ⟨hlt, e, ?_⟩, fun e j hj hjk => ?_⟩
      · unfold lkG
        rw [show G.find? (fun e => decide (e.1 = (⟨c1, c2, c3, c4⟩ : C4))) = some G[k] from List.find?_eq_some_iff_getElem.2 ⟨decide_eq_true e, k, hlt, rfl, fun j hj => by simp [HNO.out j (by omega) hj]⟩]
        rfl
      · by_cases e2 : j = k
        · subst e2; exact e
        · exact HNO.out j hj (by omega))
    obtain ⟨y, hy⟩ : ∃ y, G[k] = y := ⟨_, rfl⟩
    have HYE := Lib.hid (HYK.out y hy)
    clear HYK
    rw [hy] at m0 m1 m2 m3 m4
    clear hy hrr
    obtain ⟨y, yl⟩ := y
    simp only at m0 m1 m2 m3 m4
    have heql := fun W => cell_eql W y ⟨c1, c2, c3, c4⟩
    obtain ⟨eb, heb⟩ : ∃ eb, decide (y = ⟨c1, c2, c3, c4⟩) = eb := ⟨_, rfl⟩
    rw [heb] at heql
    have HEB := Lib.hid heb
    obtain ⟨y1, y2, y3, y4⟩ := y
    unfold C4.v at heql
    simp only at m0 m1 m2 m3 heql
    have HLT := Lib.hid hlt
    have hC0 : Cells [(⟨b, o + k * 5, none⟩, .int .i64 y1), (⟨b, o + k * 5 + 1, none⟩, .int .i64 y2), (⟨b, o + k * 5 + 2, none⟩, .int .i64 y3), (⟨b, o + k * 5 + 3, none⟩, .int .i64 y4), (⟨b, o + k * 5 + 4, none⟩, .slice ra yl.length rc), (⟨gb, 0, none⟩, .int .i64 c1), (⟨gb, 1, none⟩, .int .i64 c2), (⟨gb, 2, none⟩, .int .i64 c3), (⟨gb, 3, none⟩, .int .i64 c4)] wr := ⟨m0, m1, m2, m3, m4, blk_cell hkb 0, blk_cell hkb 1, blk_cell hkb 2, blk_cell hkb 3, trivial⟩
    clear m0 m1 m2 m3 m4 hlt hBr heb hkb
    rw [HGB.out]
    go_wp2_with fail
    refine wp_region_T (Cells [(⟨b, o + k * 5, none⟩, .int .i64 y1), (⟨b, o + k * 5 + 1, none⟩, .int .i64 y2), (⟨b, o + k * 5 + 2, none⟩, .int .i64 y3), (⟨b, o + k * 5 + 3, none⟩, .int .i64 y4), (⟨b, o + k * 5 + 4, none⟩, .slice ra yl.length rc), (⟨gb, 0, none⟩, .int .i64 c1), (⟨gb, 1, none⟩, .int .i64 c2), (⟨gb, 2, none⟩, .int .i64 c3), (⟨gb, 3, none⟩, .int .i64 c4)]) (fun _ => false) (by kernel_rfl) ?_
    have hSss1 := Cells.drew hC0
    have hB_0_s1 : Below wr.heap.size wr wr.drew := below_drew _
    generalize wr.drew = s1 at hSss1 hB_0_s1 ⊢
    have hB_s1_s1 := Below.refl s1.heap.size s1
    refine wpAnyT_pure (i := 0) (v := ?_) rfl (by kernel_rfl) (by kernel_rfl) (by kernel_rfl) (fun _ _ _ h => h) (by rfl) ?_ ?_
    rotate_left
    · intro w; go_simp; try with_reducible rfl
    simp only [Act.put, rgA, rgB, rgC, rgD, rgE, rgF]
    refine wpAnyT_pure (i := 1) (v := ?_) rfl (by kernel_rfl) (by kernel_rfl) (by kernel_rfl) (fun _ _ _ h => h) (by rfl) ?_ ?_
    rotate_left
    · intro w; go_simp; try with_reducible rfl
    simp only [Act.put, rgA, rgB, rgC, rgD, rgE, rgF]
    refine wpAnyT_pure (i := 2) (v := ?_) rfl (by kernel_rfl) (by kernel_rfl) (by kernel_rfl) (fun _ _ _ h => h) (by rfl) ?_ ?_
    rotate_left
    · intro w; go_simp; try with_reducible rfl
    simp only [Act.put, rgA, rgB, rgC, rgD, rgE, rgF]
    refine wpAnyT_pure (i := 3) (v := ?_) rfl (by kernel_rfl) (by kernel_rfl) (by kernel_rfl) (fun _ _ _ h => h) (by rfl) ?_ ?_
    rotate_left
    · intro w; go_simp; try with_reducible rfl
    simp only [Act.put, rgA, rgB, rgC, rgD, rgE, rgF]
    refine wpAnyT_loadW (i := 4) (v := ?_) rfl (by kernel_rfl) (by kernel_rfl) (by kernel_rfl) (by kernel_rfl) (by kernel_rfl) (fun _ _ _ h => h) (Or.inl ⟨by rfl, ?_⟩) hSss1 ?_
    rotate_left
    · intro w hSw; obtain ⟨e0, e1, e2, e3, e4, e5, e6, e7, e8, -⟩ := hSw; go_simp; try with_reducible rfl
    simp only [Act.put, rgA, rgB, rgC, rgD, rgE, rgF]
    refine wpAnyT_loadW (i := 5) (v := ?_) rfl (by kernel_rfl) (by kernel_rfl) (by kernel_rfl) (by kernel_rfl) (by kernel_rfl) (fun _ _ _ h => h) (Or.inl ⟨by rfl, ?_⟩) hSss1 ?_
    rotate_left
    · intro w hSw; obtain ⟨e0, e1, e2, e3, e4, e5, e6, e7, e8, -⟩ := hSw; go_simp; try with_reducible rfl
    simp only [Act.put, rgA, rgB, rgC, rgD, rgE, rgF]
    refine wpAnyT_pure (i := 6) (v := ?_) rfl (by kernel_rfl) (by kernel_rfl) (by kernel_rfl) (fun _ _ _ h => h) (by rfl) ?_ ?_
    rotate_left
    · intro w; go_simp; try with_reducible rfl
    simp only [Act.put, rgA, rgB, rgC, rgD, rgE, rgF]
    refine wpAnyT_done (by kernel_rfl) ?_ _
    have HBP := Lib.hid (HBR.out.trans ((hB_0_s1.trans ((hB_s1_s1).mono (hB_0_s1).size)).mono HBR.out.size))
    obtain ⟨w4, rfl⟩ : ∃ x, x = s1 := ⟨_, rfl⟩
    clear hC0
    cases eb
    · go_wp2_with fail
      go_roundw
      case rel => exact ⟨k + 1, HLT.out, by go_num, HYE.out.2 (of_decide_eq_false HEB.out), HBP.out⟩
      case measure => simp [intOf]; try omega
    · go_wp2_with fail
      go_ret
      obtain ⟨h1, h2, h3⟩ := HYE.out.1 (of_decide_eq_true HEB.out)
      exact ⟨HB.out.trans (HBP.out.mono HB.out.size), .inr ⟨k, h1, rfl, h2, h3⟩⟩
  · obtain rfl : k = G.length := by omega
    have HDF := Lib.hid (show lkG G ⟨c1, c2, c3, c4⟩ = none from lkG_none.2 fun e he => by
      obtain ⟨j, hj, rfl⟩ := List.mem_iff_getElem.1 he
      exact HNO.out j hj hj)
    clear hBr hkb
    go_wp2_with fail
    go_ret
    exact ⟨HB.out.trans (HBR.out.mono HB.out.size), .inl ⟨rfl, HDF.out⟩⟩
/-- What the reference's Remove leaves. -/
def RRemP (S : Nat → Prop) (w : World) (G : List En4) (c : C4) (e : Ending) (w' : World) : Prop :=
  ∃ (a : Option Addr) (cap : Nat), e = .returned (.tuple #[.slice a (delG G c).length cap, .int .i64 (if (lkG G c).isSome then 0 else 8)]) ∧ Below w.heap.size w w' ∧ Rd (.sl entT) (fun b => S b ∨ (w.heap.size ≤ b ∧ b < w'.heap.size)) w' [.slice a (delG G c).length cap] ((delG G c).map entD)
theorem delG_none {G : List En4} {c : C4} (h : lkG G c = none) : delG G c = G := by
  unfold delG
  rw [List.filter_eq_self]
  intro e he
  simp [lkG_none.1 h e he]
theorem delG_snoc (G : List En4) (e : En4) (c : C4) : delG (G ++ [e]) c = if decide (e.1 = c) = true then delG G c else delG G c ++ [e] := by
  unfold delG
  rw [List.filter_append]
  by_cases h : e.1 = c <;> simp [h]
set_option maxHeartbeats 2000000 in
theorem rremove47 {S : Nat → Prop} (w : World) (a : Option Addr) (cap : Nat) (G : List En4) (hx : Rd (.sl entT) S w [.slice a G.length cap] (G.map entD)) (hS : ∀ b, S b → b < w.heap.size) (hlen : G.length ≤ 100000) (c : C4) :
    Calls Try.prog 31 #[.slice a G.length cap, c.v] w (RRemP S w G c) := by
  have HX0 := Lib.hid hx
  have HLL := Lib.hid (fun k => show (delG (G.take k) c).length ≤ 100000 from by
    have h1 := delG_len (G.take k) c
    have h2 := List.length_take_le' k G
    omega)
  have HTF := Lib.hid (List.take_length (l := G))
  have HST := Lib.hid (fun k (hk : k < G.length) => show delG (G.take (k + 1)) c = if decide (G[k].1 = c) = true then delG (G.take k) c else delG (G.take k) c ++ [G[k]] from by rw [List.take_succ_eq_append_getElem hk]; exact delG_snoc _ _ _)
  have HDN := Lib.hid (delG_none (G := G) (c := c))
  have HSB := Lib.hid hS
  have HD0 := Lib.hid (show delG [] c = [] from rfl)
  obtain ⟨c1, c2, c3, c4⟩ := c
  have hB := (Below.refl w.heap.size w).alloc (Nat.le_refl _) (.cells #[.int .i64 c1, .int .i64 c2, .int .i64 c3, .int .i64 c4] 38)
  have hkb := heap_alloc_new w (.cells #[.int .i64 c1, .int .i64 c2, .int .i64 c3, .int .i64 c4] 38)
  have HB := Lib.hid hB
  have HKB := Lib.hid hkb
  unfold C4.v
  simp only
  have HX := Lib.hid (hx.below hB hS)
  have HS := Lib.hid (fun b hb => Nat.lt_of_lt_of_le (hS b hb) hB.size)
  have hlm : G.length ≤ 9223372036854775807 := Nat.le_trans ((rd_len hx) ▸ hx.sl_flat.2.1) hx.sl_flat.2.2.1
  clear hB hkb hx hS
  have HFI := Lib.hid (fun W (hW : Below (w.alloc (.cells #[.int .i64 c1, .int .i64 c2, .int .i64 c3, .int .i64 c4] 38)).heap.size (w.alloc (.cells #[.int .i64 c1, .int .i64 c2, .int .i64 c3, .int .i64 c4] 38)) W) => rfind47 W a cap G (HX.out.below hW HS.out) (fun b hb => Nat.lt_of_lt_of_le (HS.out b hb) hW.size) ⟨c1, c2, c3, c4⟩)
  unfold C4.v at HFI
  simp only at HFI
  go_enter Try.func31, Try.ntmps31
  go_wp2_with fail
  generalize hw1 : World.alloc _ _ = w1 at *
  clear hw1
  obtain ⟨gb, hgb⟩ : ∃ x, w.heap.size = x := ⟨_, rfl⟩
  have HGB := Lib.hid hgb
  rw [hgb] at HKB
  clear hgb
  rw [HGB.out]
  have n0 := blk_cell HKB.out 0
  have n1 := blk_cell HKB.out 1
  have n2 := blk_cell HKB.out 2
  have n3 := blk_cell HKB.out 3
  simp only [List.getElem?_toArray, List.getElem?_cons_zero, List.getElem?_cons_succ] at n0 n1 n2 n3
  go_wp2_with fail
  refine (HFI.out w1 (Below.refl _ _)).mono ?_
  clear n0 n1 n2 n3
  rintro e w2 ⟨hB2, h2 | ⟨i, hi, rfl, hic, hlk⟩⟩
  · obtain ⟨rfl, hn⟩ := h2
    have HN := Lib.hid hn
    have HB2 := Lib.hid hB2
    clear hn hB2
    go_wp2_with fail
    refine bodyPost_ret (results_tmp2 rfl _ _ _) rfl ?_
    unfold RRemP
    rw [HN.out, HDN.out HN.out]
    have hBX := HB.out.trans (HB2.out.mono HB.out.size)
    exact ⟨a, cap, rfl, hBX, (HX0.out.below hBX HSB.out).keep (fun _ _ => rfl) (fun _ h => .inl h)⟩
  · have hiI : ¬ (i : Int) < 0 := by omega
    have HLK := Lib.hid (show (lkG G ⟨c1, c2, c3, c4⟩).isSome = true from by rw [hlk]; rfl)
    have HB2 := Lib.hid hB2
    have HX2 := Lib.hid (HX.out.below hB2 HS.out)
    have HS2 := Lib.hid (fun b hb => Nat.lt_of_lt_of_le (HS.out b hb) hB2.size)
    have HK2 := Lib.hid ((hB2.block _ (blk_lt HKB.out)).trans HKB.out)
    clear hlk hB2 hic
    go_wp2_with fail
    clear hiI hi
    go_loopw [6, 7] (fun ov i wr => ∃ (k : Nat) (oa : Option Addr) (ol oc : Nat), k ≤ G.length ∧ i = .int .i64 k ∧ ov = .slice oa ol oc ∧ Owns entT 65 w2.heap.size S wr (.slice oa ol oc) ((delG (G.take k) ⟨c1, c2, c3, c4⟩).map entD) ∧ Below w2.heap.size w2 wr) (fun _ i _ => G.length - (intOf i).toNat)
    case atStart => exact ⟨0, none, 0, 0, Nat.zero_le _, rfl, rfl, by rw [List.take_zero, HD0.out]; exact (Owns.nil _ _ _ _).mono (fun _ h => h.elim) (fun b hb => ⟨by simp [Value.ownBlock], HS2.out b hb⟩), Below.refl _ _⟩
    obtain ⟨k, oa0, ol0, oc0, hk, rfl, rfl, hO, hBr⟩ := hrel
    have HO0 := Lib.hid hO
    have HBR := Lib.hid hBr
    have hkb := (hBr.block _ (blk_lt HK2.out)).trans HK2.out
    have HPN := Lib.hid (HLL.out k)
    clear hO
    by_cases hlt : k < G.length
    · have hkI : (k : Int) < (G.length : Int) := by omega
      obtain ⟨b, o, ra, rc, rfl, hbS, m0, m1, m2, m3, m4, hrr, hyo⟩ := ent_at HX2.out k hlt
      have hSK := HST.out k hlt
      generalize G[k] = y at m0 m1 m2 m3 m4 hrr hyo hSK
      obtain ⟨y, yl⟩ := y
      simp only at m0 m1 m2 m3 m4 hrr hyo hSK
      have heql := fun W => cell_neq W y ⟨c1, c2, c3, c4⟩
      obtain ⟨eb, heb⟩ : ∃ eb, decide (y = ⟨c1, c2, c3, c4⟩) = eb := ⟨_, rfl⟩
      rw [heb] at heql
      have HEB := Lib.hid heb
      obtain ⟨y1, y2, y3, y4⟩ := y
      unfold C4.v at heql
      simp only at m0 m1 m2 m3 heql
      rw [heb] at hSK
      have HSK := Lib.hid hSK
      have HRR := Lib.hid hrr
      have HYO := Lib.hid hyo
      have HLT := Lib.hid hlt
      have hbl := HS2.out b hbS
      have hgl := blk_lt HK2.out
      have HC0 := Lib.hid (show Cells [(⟨b, o + k * 5, none⟩, .int .i64 y1), (⟨b, o + k * 5 + 1, none⟩, .int .i64 y2), (⟨b, o + k * 5 + 2, none⟩, .int .i64 y3), (⟨b, o + k * 5 + 3, none⟩, .int .i64 y4), (⟨b, o + k * 5 + 4, none⟩, .slice ra yl.length rc), (⟨gb, 0, none⟩, .int .i64 c1), (⟨gb, 1, none⟩, .int .i64 c2), (⟨gb, 2, none⟩, .int .i64 c3), (⟨gb, 3, none⟩, .int .i64 c4)] w2 from ⟨m0, m1, m2, m3, m4, blk_cell HK2.out 0, blk_cell HK2.out 1, blk_cell HK2.out 2, blk_cell HK2.out 3, trivial⟩)
      have HCL := Lib.hid (show CellsLt w2.heap.size [(⟨b, o + k * 5, none⟩, .int .i64 y1), (⟨b, o + k * 5 + 1, none⟩, .int .i64 y2), (⟨b, o + k * 5 + 2, none⟩, .int .i64 y3), (⟨b, o + k * 5 + 3, none⟩, .int .i64 y4), (⟨b, o + k * 5 + 4, none⟩, .slice ra yl.length rc), (⟨gb, 0, none⟩, .int .i64 c1), (⟨gb, 1, none⟩, .int .i64 c2), (⟨gb, 2, none⟩, .int .i64 c3), (⟨gb, 3, none⟩, .int .i64 c4)] from ⟨hbl, hbl, hbl, hbl, hbl, hgl, hgl, hgl, hgl, trivial⟩)
      have hC0 := Cells.belowN hBr HCL.out HC0.out
      clear m0 m1 m2 m3 m4 hlt hBr hkb heb hSK hrr hyo hbl hgl hbS
      go_wp2_with fail
      refine wp_region_T (Cells [(⟨b, o + k * 5, none⟩, .int .i64 y1), (⟨b, o + k * 5 + 1, none⟩, .int .i64 y2), (⟨b, o + k * 5 + 2, none⟩, .int .i64 y3), (⟨b, o + k * 5 + 3, none⟩, .int .i64 y4), (⟨b, o + k * 5 + 4, none⟩, .slice ra yl.length rc), (⟨gb, 0, none⟩, .int .i64 c1), (⟨gb, 1, none⟩, .int .i64 c2), (⟨gb, 2, none⟩, .int .i64 c3), (⟨gb, 3, none⟩, .int .i64 c4)]) (fun _ => false) (by kernel_rfl) ?_
      have hSss2 := Cells.drew hC0
      have hB_0_s2 : Below wr.heap.size wr wr.drew := below_drew _
      generalize wr.drew = s2 at hSss2 hB_0_s2 ⊢
      have hB_s2_s2 := Below.refl s2.heap.size s2
      refine wpAnyT_pure (i := 0) (v := ?_) rfl (by kernel_rfl) (by kernel_rfl) (by kernel_rfl) (fun _ _ _ h => h) (by rfl) ?_ ?_
      rotate_left
      · intro w; go_simp; try with_reducible rfl
      simp only [Act.put, rgA, rgB, rgC, rgD, rgE, rgF]
      refine wpAnyT_pure (i := 1) (v := ?_) rfl (by kernel_rfl) (by kernel_rfl) (by kernel_rfl) (fun _ _ _ h => h) (by rfl) ?_ ?_
      rotate_left
      · intro w; go_simp; try with_reducible rfl
      simp only [Act.put, rgA, rgB, rgC, rgD, rgE, rgF]
      refine wpAnyT_pure (i := 2) (v := ?_) rfl (by kernel_rfl) (by kernel_rfl) (by kernel_rfl) (fun _ _ _ h => h) (by rfl) ?_ ?_
      rotate_left
      · intro w; go_simp; try with_reducible rfl
      simp only [Act.put, rgA, rgB, rgC, rgD, rgE, rgF]
      refine wpAnyT_pure (i := 3) (v := ?_) rfl (by kernel_rfl) (by kernel_rfl) (by kernel_rfl) (fun _ _ _ h => h) (by rfl) ?_ ?_
      rotate_left
      · intro w; go_simp; try with_reducible rfl
      simp only [Act.put, rgA, rgB, rgC, rgD, rgE, rgF]
      refine wpAnyT_loadW (i := 4) (v := ?_) rfl (by kernel_rfl) (by kernel_rfl) (by kernel_rfl) (by kernel_rfl) (by kernel_rfl) (fun _ _ _ h => h) (Or.inl ⟨by rfl, ?_⟩) hSss2 ?_
      rotate_left
      · intro w hSw; obtain ⟨e0, e1, e2, e3, e4, e5, e6, e7, e8, -⟩ := hSw; go_simp; try with_reducible rfl
      simp only [Act.put, rgA, rgB, rgC, rgD, rgE, rgF]
      refine wpAnyT_loadW (i := 5) (v := ?_) rfl (by kernel_rfl) (by kernel_rfl) (by kernel_rfl) (by kernel_rfl) (by kernel_rfl) (fun _ _ _ h => h) (Or.inl ⟨by rfl, ?_⟩) hSss2 ?_
      rotate_left
      · intro w hSw; obtain ⟨e0, e1, e2, e3, e4, e5, e6, e7, e8, -⟩ := hSw; go_simp; try with_reducible rfl
      simp only [Act.put, rgA, rgB, rgC, rgD, rgE, rgF]
      refine wpAnyT_pure (i := 6) (v := ?_) rfl (by kernel_rfl) (by kernel_rfl) (by kernel_rfl) (fun _ _ _ h => h) (by rfl) ?_ ?_
      rotate_left
      · intro w; go_simp; try with_reducible rfl
      simp only [Act.put, rgA, rgB, rgC, rgD, rgE, rgF]
      refine wpAnyT_done (by kernel_rfl) ?_ _
      have hBW := hB_0_s2.trans ((hB_s2_s2).mono (hB_0_s2).size)
      have HO1 := Lib.hid (HO0.out.below hBW)
      have HB1 := Lib.hid (HBR.out.trans (hBW.mono HBR.out.size))
      obtain ⟨w4, rfl⟩ : ∃ x, x = s2 := ⟨_, rfl⟩
      clear hBW
      clear hC0
      cases eb
      · obtain ⟨z0, z1, z2, z3, z4, -⟩ := Cells.belowN HB1.out HCL.out HC0.out
        have HRR4 := Lib.hid (HRR.out.below HB1.out HS2.out)
        go_wp2_with (at_builtin; go_must (refine wpList_app _ rfl _ _ 28 rfl (e := entT) (te := 65) info_ent Try.underlying28 rfl (by decide) (base := w2.heap.size) (S := S) (v := .slice oa0 ol0 oc0) (xs := (delG (G.take k) ⟨c1, c2, c3, c4⟩).map entD) rfl (HO1.out.alloc _) (by have := HB1.out.size; simp only [World.size_alloc]; omega) rfl (ys := [entD (⟨y1, y2, y3, y4⟩, yl)]) (Src.new _ [_, _, _, _, _] _ _ _) (RdL.one (e := entT) ((ent_rd (e := (⟨y1, y2, y3, y4⟩, yl)) HYO.out HRR4.out).below ((Below.refl _ _).alloc (Nat.le_refl _) _) (fun b hb => Nat.lt_of_lt_of_le (HS2.out b hb) HB1.out.size))) (by have := HPN.out; rw [List.length_map]; simp only [List.length_singleton]; omega) (by have := HPN.out; rw [List.length_map]; simp only [List.length_singleton]; omega) ?_); intro v' w9 O9 g9 _ ob9; have HB9 := Lib.hid ((HB1.out.alloc HB1.out.size _).grown g9 (by have := HB1.out.size; simp only [World.size_alloc]; omega) (fun c hc => (HO1.out.own c hc).1)); rw [show (delG (G.take k) ⟨c1, c2, c3, c4⟩).map entD ++ [entD (⟨y1, y2, y3, y4⟩, yl)] = (delG (G.take (k + 1)) ⟨c1, c2, c3, c4⟩).map entD from by rw [HSK.out]; simp] at O9; obtain ⟨oa9, ol9, oc9, rfl, -⟩ := O9.slice; have HO9 := Lib.hid O9; clear O9 g9 ob9 z0 z1 z2 z3 z4)
        go_wp2_with fail
        go_roundw
        case rel => exact ⟨k + 1, _, _, _, HLT.out, by go_num, rfl, HO9.out, HB9.out⟩
        case measure => simp [intOf]; try omega
      · have HSK := Lib.hid (show delG (G.take (k + 1)) ⟨c1, c2, c3, c4⟩ = delG (G.take k) ⟨c1, c2, c3, c4⟩ from HSK.out)
        go_wp2_with fail
        go_roundw
        case rel => exact ⟨k + 1, _, _, _, HLT.out, by go_num, rfl, by rw [HSK.out]; exact HO1.out, HB1.out⟩
        case measure => simp [intOf]; try omega
    · obtain rfl : k = G.length := by omega
      rw [HTF.out] at HO0
      clear hBr hkb
      go_wp2_with fail
      refine bodyPost_ret (results_tmp2 rfl _ _ _) rfl ?_
      unfold RRemP
      rw [HLK.out]
      have hBX := HB.out.trans ((HB2.out.trans (HBR.out.mono HB2.out.size)).mono HB.out.size)
      have hle := Nat.le_trans HB.out.size HB2.out.size
      have hrd := HO0.out.rd (fun b => S b ∨ (w.heap.size ≤ b ∧ b < wr.heap.size)) (fun _ h => .inl h) (fun b e => .inr ⟨Nat.le_trans hle (HO0.out.own b e).1, (HO0.out.own b e).2⟩)
      obtain rfl := rd_len hrd
      exact ⟨_, _, rfl, hBX, hrd⟩
end Go.Proofs.Ytoimbhdjhhmonaa
