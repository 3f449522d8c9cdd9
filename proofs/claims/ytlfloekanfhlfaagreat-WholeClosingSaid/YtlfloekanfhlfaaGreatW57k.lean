/- The sample's chart. -/
import Derived.Test.YtlfloekanfhlfaaGreatW57j
set_option linter.unusedSimpArgs false
namespace Go.Proofs.YtlfloekanfhlfaaGreat
open Go.RowKit Go

abbrev accC : Ty := .pr (.int .i64) (.pr (.int .i64) (.pr (.int .i64) (.pr (.int .i64) .un)))
abbrev rowC : Ty := .pr (.int .i64) (.pr (.int .i64) (.pr (.sl (.int .i64)) .un))
theorem info_acc : (Tryz.prog.info? 127).map (fun i => (i.zero, i.size, i.bytes)) = some (some (.agg #[.int .i64 0, .int .i64 0, .int .i64 0, .int .i64 0]), accC.sz, 32) := by kernel_rfl
theorem acc_rd {S : Nat → Prop} {w : World} {x y z u : Int} (h1 : (Lit.int .i64 x).wf = true) (h2 : (Lit.int .i64 y).wf = true) (h3 : (Lit.int .i64 z).wf = true) (h4 : (Lit.int .i64 u).wf = true) : Rd accC S w [.int .i64 x, .int .i64 y, .int .i64 z, .int .i64 u] (x, y, z, u, ()) :=
  ⟨[_], _, rfl, ⟨rfl, h1⟩, [_], _, rfl, ⟨rfl, h2⟩, [_], _, rfl, ⟨rfl, h3⟩, [_], _, rfl, ⟨rfl, h4⟩, rfl⟩
theorem rowc_rd {S : Nat → Prop} {w : World} {x y : Int} {ca : Option Addr} {cl cc : Nat} {l : List Int} (h1 : (Lit.int .i64 x).wf = true) (h2 : (Lit.int .i64 y).wf = true) (h3 : Rd (.sl (.int .i64)) S w [.slice ca cl cc] l) : Rd rowC S w [.int .i64 x, .int .i64 y, .slice ca cl cc] (x, y, l, ()) :=
  ⟨[_], _, rfl, ⟨rfl, h1⟩, [_], _, rfl, ⟨rfl, h2⟩, [_], _, rfl, h3, rfl⟩
theorem rowC_sz : rowC.sz = 3 := rfl
theorem rowc_at {S : Nat → Prop} {w : World} {a : Option Addr} {len cap : Nat} {xs : List rowC.den} (h : Rd (.sl rowC) S w [.slice a len cap] xs) (i : Nat) (hi : i < xs.length) :
    ∃ b off ca cl cc, a = some ⟨b, off, none⟩ ∧ S b ∧ w.cell? ⟨b, off + i * 3, none⟩ = some (.int .i64 xs[i].1) ∧ w.cell? ⟨b, off + i * 3 + 1, none⟩ = some (.int .i64 xs[i].2.1) ∧ w.cell? ⟨b, off + i * 3 + 2, none⟩ = some (.slice ca cl cc) ∧
      Rd (.sl (.int .i64)) S w [.slice ca cl cc] xs[i].2.2.1 ∧ (Lit.int .i64 xs[i].1).wf = true ∧ (Lit.int .i64 xs[i].2.1).wf = true := by
  obtain ⟨hl, -, -, vs, hr, hor⟩ := h.sl_flat
  obtain ⟨c, hc, hcc, hrd⟩ := hr.at_ i hi
  rcases hor with h0 | ⟨b, off, rfl, hb, hcell⟩
  · omega
  · generalize xs[i] = s at hrd ⊢
    obtain ⟨x, y, l, ⟨⟩⟩ := s
    obtain ⟨c1, r1, rfl, ⟨rfl, h1⟩, c2, r2, rfl, ⟨rfl, h2⟩, c3, r3, rfl, h3, rfl⟩ := hrd
    obtain ⟨ca, cl, cc, rfl, h3'⟩ := id h3
    refine ⟨b, off, ca, cl, cc, rfl, hb, ?_, ?_, ?_, h3, h1, h2⟩
    · rw [show off + i * 3 = off + (i * rowC.sz + 0) by rw [rowC_sz]; omega]; exact hcell _ _ (hcc 0 _ rfl)
    · rw [show off + i * 3 + 1 = off + (i * rowC.sz + 1) by rw [rowC_sz]; omega]; exact hcell _ _ (hcc 1 _ rfl)
    · rw [show off + i * 3 + 2 = off + (i * rowC.sz + 2) by rw [rowC_sz]; omega]; exact hcell _ _ (hcc 2 _ rfl)
def chartL : List rowC.den := [(1, 1, [1000, 1010, 1100, 1200], ()), (1, 3, [1300, 1500, 1600, 1700], ()), (2, 1, [2000, 2100], ()), (3, 3, [3000, 3100, 3200, 3300, 3400, 3500], ()), (4, 2, [4000, 4100, 4500, 4600, 4700], ()), (5, 2, [5000, 5100, 5500, 5600, 5700], ())]
theorem chart_len : ∀ x ∈ chartL, x.2.2.1.length ≤ 6 := by decide
theorem rd_ints {S : Nat → Prop} {w : World} {b n : Nat} {l : List Int} {t : TypeId} (hb : w.heap[b]? = some (.cells (l.map (Value.int .i64)).toArray t (0, 0))) (hS : S b) (hn : l.length = n) (hm : n ≤ 100) (hw : ∀ x ∈ l, (Lit.int .i64 x).wf = true) : Rd (.sl (.int .i64)) S w [.slice (some ⟨b, 0, none⟩) n n] l :=
  Rd.sl_blk hb hS hn (by omega) (by simpa using RdL.ints .i64 S w l hw)
theorem row1 {w : World} (x y : Int) (b n : Nat) (l : List Int) (t : TypeId) (hb : w.heap[b]? = some (.cells (l.map (Value.int .i64)).toArray t (0, 0))) (h1 : (Lit.int .i64 x).wf = true) (h2 : (Lit.int .i64 y).wf = true) (hn : l.length = n) (hm : n ≤ 100) (hw : ∀ x ∈ l, (Lit.int .i64 x).wf = true) :
    RdL rowC (fun b => b < w.heap.size) w [.int .i64 x, .int .i64 y, .slice (some ⟨b, 0, none⟩) n n] [(x, y, l, ())] := RdL.one (e := rowC) (rowc_rd h1 h2 (rd_ints hb (blk_lt hb) hn hm hw))
set_option maxRecDepth 20000 in
set_option maxHeartbeats 1000000 in
theorem chart57 (w : World) : Calls Tryz.prog 18 #[] w fun e w' => ∃ a l c, e = .returned (.slice a l c) ∧ Below w.heap.size w w' := by
  go_enter Tryz.func18, Tryz.ntmps18
  go_wp2_with fail
  generalize hw7 : World.alloc (World.alloc (World.alloc (World.alloc (World.alloc (World.alloc (w.alloc _) _) _) _) _) _) _ = w7
  have hB : Below w.heap.size w w7 := by
    rw [← hw7]
    exact (((((((Below.refl w.heap.size w).alloc (Nat.le_refl _) _).alloc (by simp) _).alloc (by simp <;> omega) _).alloc (by simp <;> omega) _).alloc (by simp <;> omega) _).alloc (by simp <;> omega) _).alloc (by simp <;> omega) _
  have hR : Rd (.sl rowC) (fun b => b < w7.heap.size) w7 [.slice (some ⟨w.heap.size + 1 + 1 + 1 + 1 + 1 + 1, 0, none⟩) 6 6] chartL := by
    have e0 : w7.heap[w.heap.size]? = some (.cells #[.int .i64 1000, .int .i64 1010, .int .i64 1100, .int .i64 1200] 3 (0, 0)) := by rw [← hw7]; exact alloc_old' (alloc_old' (alloc_old' (alloc_old' (alloc_old' (alloc_old' (alloc_new' rfl))))))
    have e1 : w7.heap[w.heap.size + 1]? = some (.cells #[.int .i64 1300, .int .i64 1500, .int .i64 1600, .int .i64 1700] 3 (0, 0)) := by rw [← hw7]; exact alloc_old' (alloc_old' (alloc_old' (alloc_old' (alloc_old' (alloc_new' (by simp))))))
    have e2 : w7.heap[w.heap.size + 1 + 1]? = some (.cells #[.int .i64 2000, .int .i64 2100] 3 (0, 0)) := by rw [← hw7]; exact alloc_old' (alloc_old' (alloc_old' (alloc_old' (alloc_new' (by simp)))))
    have e3 : w7.heap[w.heap.size + 1 + 1 + 1]? = some (.cells #[.int .i64 3000, .int .i64 3100, .int .i64 3200, .int .i64 3300, .int .i64 3400, .int .i64 3500] 3 (0, 0)) := by rw [← hw7]; exact alloc_old' (alloc_old' (alloc_old' (alloc_new' (by simp))))
    have e4 : w7.heap[w.heap.size + 1 + 1 + 1 + 1]? = some (.cells #[.int .i64 4000, .int .i64 4100, .int .i64 4500, .int .i64 4600, .int .i64 4700] 3 (0, 0)) := by rw [← hw7]; exact alloc_old' (alloc_old' (alloc_new' (by simp)))
    have e5 : w7.heap[w.heap.size + 1 + 1 + 1 + 1 + 1]? = some (.cells #[.int .i64 5000, .int .i64 5100, .int .i64 5500, .int .i64 5600, .int .i64 5700] 3 (0, 0)) := by rw [← hw7]; exact alloc_old' (alloc_new' (by simp))
    have e6 : w7.heap[w.heap.size + 1 + 1 + 1 + 1 + 1 + 1]? = some (.cells #[.int .i64 1, .int .i64 1, .slice (some ⟨w.heap.size, 0, none⟩) 4 4, .int .i64 1, .int .i64 3, .slice (some ⟨w.heap.size + 1, 0, none⟩) 4 4, .int .i64 2, .int .i64 1, .slice (some ⟨w.heap.size + 1 + 1, 0, none⟩) 2 2, .int .i64 3, .int .i64 3, .slice (some ⟨w.heap.size + 1 + 1 + 1, 0, none⟩) 6 6,
      .int .i64 4, .int .i64 2, .slice (some ⟨w.heap.size + 1 + 1 + 1 + 1, 0, none⟩) 5 5, .int .i64 5, .int .i64 2, .slice (some ⟨w.heap.size + 1 + 1 + 1 + 1 + 1, 0, none⟩) 5 5] 124 (0, 0)) := by rw [← hw7]; exact alloc_new' (by simp)
    refine Rd.sl_blk e6 (blk_lt e6) rfl (by decide) ?_
    exact ((row1 1 1 _ 4 [1000, 1010, 1100, 1200] _ e0 (by decide) (by decide) rfl (by decide) (by decide)).append ((row1 1 3 _ 4 [1300, 1500, 1600, 1700] _ e1 (by decide) (by decide) rfl (by decide) (by decide)).append ((row1 2 1 _ 2 [2000, 2100] _ e2 (by decide) (by decide) rfl (by decide) (by decide)).append ((row1 3 3 _ 6 [3000, 3100, 3200, 3300, 3400, 3500] _ e3 (by decide) (by decide) rfl (by decide) (by decide)).append ((row1 4 2 _ 5 [4000, 4100, 4500, 4600, 4700] _ e4 (by decide) (by decide) rfl (by decide) (by decide)).append (row1 5 2 _ 5 [5000, 5100, 5500, 5600, 5700] _ e5 (by decide) (by decide) rfl (by decide) (by decide)))))))
  clear hw7
  generalize w.heap.size + 1 + 1 + 1 + 1 + 1 + 1 = rb at hR ⊢
  have HB := Lib.hid hB
  have HR := Lib.hid hR
  clear hB hR
  go_loopw [2, 3] (fun o i wr => ∃ (n : Nat) (xs : List accC.den), n ≤ 6 ∧ i = .int .i64 n ∧ Owns accC 127 w7.heap.size (fun _ => False) wr o xs ∧ xs.length ≤ 6 * n ∧ Below w7.heap.size w7 wr) (fun _ i _ => 6 - (intOf i).toNat)
  case atStart => exact ⟨0, [], by omega, rfl, Owns.nil _ _ _ _, by simp, Below.refl _ _⟩
  case round =>
    obtain ⟨n, xs, hn, rfl, hO, hxl, hBw⟩ := hrel
    obtain ⟨oa, ol, oc, rfl, hol, -⟩ := hO.slice
    have HO := Lib.hid hO
    have HXL := Lib.hid hxl
    have HBW := Lib.hid hBw
    clear hO hxl hBw hol
    by_cases hlt : n < 6
    · have hnI : (n : Int) < 6 := by omega
      have hch : n < chartL.length := hlt
      obtain ⟨b, off, ca, cl, cc, hab, hbl, y0, y1, y2, hcr, wf1, wf2⟩ := rowc_at HR.out n hch
      simp only [Option.some.injEq, Addr.mk.injEq, and_true] at hab
      obtain ⟨rfl, rfl⟩ := hab
      rw [Nat.zero_add] at y0 y1 y2
      have hcl : cl ≤ 6 := by rw [← hcr.sl_flat.1]; exact chart_len _ (List.getElem_mem hch)
      obtain ⟨-, -, -, hcodes, hcw⟩ := hcr.ints
      generalize chartL[n] = x at y0 y1 y2 hcr wf1 wf2 hcodes hcw
      obtain ⟨xk, xb, xcs, ⟨⟩⟩ := x
      have y2w := (World.cell?_of_block (w := w7) (w' := wr) (a := ⟨rb, n * 3 + 2, none⟩) (HBW.out.block rb hbl)).trans y2
      have HY0 := Lib.hid y0
      have HY1 := Lib.hid y1
      have HY2 := Lib.hid y2
      have HCODES := Lib.hid hcodes
      have HCW := Lib.hid hcw
      have HWF := Lib.hid (And.intro wf1 wf2)
      have HN := Lib.hid hlt
      clear y0 y1 y2 hcodes hcw wf1 wf2 hcr hch hlt
      go_wp2_with fail
      go_loopw [2, 4] (fun o i wr2 => ∃ (k : Nat) (xs2 : List accC.den), k ≤ cl ∧ i = .int .i64 k ∧ Owns accC 127 w7.heap.size (fun _ => False) wr2 o xs2 ∧ xs2.length ≤ 6 * n + k ∧ Below w7.heap.size w7 wr2) (fun _ i _ => cl - (intOf i).toNat)
      case atStart => exact ⟨0, xs, Nat.zero_le _, rfl, HO.out, by have := HXL.out; omega, HBW.out⟩
      case round =>
        obtain ⟨k, xs2, hk, rfl, hO2, hxl2, hBw2⟩ := hrel
        obtain ⟨oa2, ol2, oc2, rfl, hol2, -⟩ := hO2.slice
        have HO2 := Lib.hid hO2
        have HXL2 := Lib.hid hxl2
        have HBW2 := Lib.hid hBw2
        clear hO2 hxl2 hBw2 hol2
        have y0 := (World.cell?_of_block (w := w7) (w' := wr) (a := ⟨rb, n * 3, none⟩) (HBW2.out.block rb hbl)).trans HY0.out
        have y1 := (World.cell?_of_block (w := w7) (w' := wr) (a := ⟨rb, n * 3 + 1, none⟩) (HBW2.out.block rb hbl)).trans HY1.out
        have y2 := (World.cell?_of_block (w := w7) (w' := wr) (a := ⟨rb, n * 3 + 2, none⟩) (HBW2.out.block rb hbl)).trans HY2.out
        by_cases hlt2 : k < cl
        · have hkI : (k : Int) < (cl : Int) := by omega
          obtain ⟨cb, co, rfl, hcb, y3'⟩ := HCODES.out k hlt2
          have y3 := (World.cell?_of_block (w := w7) (w' := wr) (a := ⟨cb, co + k, none⟩) (HBW2.out.block cb hcb)).trans y3'
          have hwc : (Lit.int .i64 (xcs[k]?.getD 0)).wf = true := by
            cases h : xcs[k]? with
            | none => decide
            | some v => exact HCW.out v (List.mem_of_getElem? h)
          generalize xcs[k]?.getD 0 = c at y3 hwc
          have HWC := Lib.hid hwc
          have HLT2 := Lib.hid hlt2
          have HC0 : Cells [(⟨rb, n * 3, none⟩, .int .i64 xk), (⟨rb, n * 3 + 1, none⟩, .int .i64 xb), (⟨rb, n * 3 + 2, none⟩, .slice (some ⟨cb, co, none⟩) cl cc), (⟨cb, co + k, none⟩, .int .i64 c)] wr := ⟨y0, y1, y2, y3, trivial⟩
          clear y3' hcb hwc hlt2
          go_wp2_with fail
          refine wp_region_T (Cells [(⟨rb, n * 3, none⟩, .int .i64 xk), (⟨rb, n * 3 + 1, none⟩, .int .i64 xb), (⟨rb, n * 3 + 2, none⟩, .slice (some ⟨cb, co, none⟩) cl cc), (⟨cb, co + k, none⟩, .int .i64 c)]) (fun i => i == 20) (by kernel_rfl) ?_
          have hSss1 := Cells.drew HC0
          have hB_0_s1 : Below wr.heap.size wr wr.drew := below_drew _
          generalize wr.drew = s1 at hSss1 hB_0_s1 ⊢
          have hB_s1_s1 := Below.refl s1.heap.size s1
          refine wpAnyT_pure (i := 0) (v := ?_) rfl (by kernel_rfl) (by kernel_rfl) (by kernel_rfl) (fun _ _ _ h => h) (by rfl) ?_ ?_
          rotate_left
          · intro w; go_simp; try with_reducible rfl
          simp only [Act.put, List.setIfInBounds_toArray, List.set_cons_zero, List.set_cons_succ, List.getElem_toArray, List.getElem_cons_succ, List.getElem_cons_zero]
          refine wpAnyT_pure (i := 1) (v := ?_) rfl (by kernel_rfl) (by kernel_rfl) (by kernel_rfl) (fun _ _ _ h => h) (by rfl) ?_ ?_
          rotate_left
          · intro w; go_simp; try with_reducible rfl
          simp only [Act.put, List.setIfInBounds_toArray, List.set_cons_zero, List.set_cons_succ, List.getElem_toArray, List.getElem_cons_succ, List.getElem_cons_zero]
          refine wpAnyT_pure (i := 2) (v := ?_) rfl (by kernel_rfl) (by kernel_rfl) (by kernel_rfl) (fun _ _ _ h => h) (by rfl) ?_ ?_
          rotate_left
          · intro w; go_simp; try with_reducible rfl
          simp only [Act.put, List.setIfInBounds_toArray, List.set_cons_zero, List.set_cons_succ, List.getElem_toArray, List.getElem_cons_succ, List.getElem_cons_zero]
          refine wpAnyT_pure (i := 3) (v := ?_) rfl (by kernel_rfl) (by kernel_rfl) (by kernel_rfl) (fun _ _ _ h => h) (by rfl) ?_ ?_
          rotate_left
          · intro w; go_simp; try with_reducible rfl
          simp only [Act.put, List.setIfInBounds_toArray, List.set_cons_zero, List.set_cons_succ, List.getElem_toArray, List.getElem_cons_succ, List.getElem_cons_zero]
          refine wpAnyT_pure (i := 5) (v := ?_) rfl (by kernel_rfl) (by kernel_rfl) (by kernel_rfl) (fun _ _ _ h => h) (by rfl) ?_ ?_
          rotate_left
          · intro w; go_simp; try with_reducible rfl
          simp only [Act.put, List.setIfInBounds_toArray, List.set_cons_zero, List.set_cons_succ, List.getElem_toArray, List.getElem_cons_succ, List.getElem_cons_zero]
          refine wpAnyT_pure (i := 8) (v := ?_) rfl (by kernel_rfl) (by kernel_rfl) (by kernel_rfl) (fun _ _ _ h => h) (by rfl) ?_ ?_
          rotate_left
          · intro w; go_simp; try with_reducible rfl
          simp only [Act.put, List.setIfInBounds_toArray, List.set_cons_zero, List.set_cons_succ, List.getElem_toArray, List.getElem_cons_succ, List.getElem_cons_zero]
          refine wpAnyT_pure (i := 9) (v := ?_) rfl (by kernel_rfl) (by kernel_rfl) (by kernel_rfl) (fun _ _ _ h => h) (by rfl) ?_ ?_
          rotate_left
          · intro w; go_simp; try with_reducible rfl
          simp only [Act.put, List.setIfInBounds_toArray, List.set_cons_zero, List.set_cons_succ, List.getElem_toArray, List.getElem_cons_succ, List.getElem_cons_zero]
          refine wpAnyT_pure (i := 10) (v := ?_) rfl (by kernel_rfl) (by kernel_rfl) (by kernel_rfl) (fun _ _ _ h => h) (by rfl) ?_ ?_
          rotate_left
          · intro w; go_simp; try with_reducible rfl
          simp only [Act.put, List.setIfInBounds_toArray, List.set_cons_zero, List.set_cons_succ, List.getElem_toArray, List.getElem_cons_succ, List.getElem_cons_zero]
          refine wpAnyT_pure (i := 11) (v := ?_) rfl (by kernel_rfl) (by kernel_rfl) (by kernel_rfl) (fun _ _ _ h => h) (by rfl) ?_ ?_
          rotate_left
          · intro w; go_simp; try with_reducible rfl
          simp only [Act.put, List.setIfInBounds_toArray, List.set_cons_zero, List.set_cons_succ, List.getElem_toArray, List.getElem_cons_succ, List.getElem_cons_zero]
          refine wpAnyT_pure (i := 13) (v := ?_) rfl (by kernel_rfl) (by kernel_rfl) (by kernel_rfl) (fun _ _ _ h => h) (by rfl) ?_ ?_
          rotate_left
          · intro w; go_simp; try with_reducible rfl
          simp only [Act.put, List.setIfInBounds_toArray, List.set_cons_zero, List.set_cons_succ, List.getElem_toArray, List.getElem_cons_succ, List.getElem_cons_zero]
          refine wpAnyT_pure (i := 14) (v := ?_) rfl (by kernel_rfl) (by kernel_rfl) (by kernel_rfl) (fun _ _ _ h => h) (by rfl) ?_ ?_
          rotate_left
          · intro w; go_simp; try with_reducible rfl
          simp only [Act.put, List.setIfInBounds_toArray, List.set_cons_zero, List.set_cons_succ, List.getElem_toArray, List.getElem_cons_succ, List.getElem_cons_zero]
          refine wpAnyT_pure (i := 15) (v := ?_) rfl (by kernel_rfl) (by kernel_rfl) (by kernel_rfl) (fun _ _ _ h => h) (by rfl) ?_ ?_
          rotate_left
          · intro w; go_simp; try with_reducible rfl
          simp only [Act.put, List.setIfInBounds_toArray, List.set_cons_zero, List.set_cons_succ, List.getElem_toArray, List.getElem_cons_succ, List.getElem_cons_zero]
          refine wpAnyT_pure (i := 16) (v := ?_) rfl (by kernel_rfl) (by kernel_rfl) (by kernel_rfl) (fun _ _ _ h => h) (by rfl) ?_ ?_
          rotate_left
          · intro w; go_simp; try with_reducible rfl
          simp only [Act.put, List.setIfInBounds_toArray, List.set_cons_zero, List.set_cons_succ, List.getElem_toArray, List.getElem_cons_succ, List.getElem_cons_zero]
          refine wpAnyT_loadW (i := 4) (v := ?_) rfl (by kernel_rfl) (by kernel_rfl) (by kernel_rfl) (by kernel_rfl) (by kernel_rfl) (fun _ _ _ h => h) (Or.inl ⟨by rfl, ?_⟩) hSss1 ?_
          rotate_left
          · intro w hSw; obtain ⟨e0, e1, e2, e3, -⟩ := hSw; go_simp; try with_reducible rfl
          simp only [Act.put, List.setIfInBounds_toArray, List.set_cons_zero, List.set_cons_succ, List.getElem_toArray, List.getElem_cons_succ, List.getElem_cons_zero]
          refine wpAnyT_pure (i := 6) (v := ?_) rfl (by kernel_rfl) (by kernel_rfl) (by kernel_rfl) (fun _ _ _ h => h) (by rfl) ?_ ?_
          rotate_left
          · intro w; go_simp; try with_reducible rfl
          simp only [Act.put, List.setIfInBounds_toArray, List.set_cons_zero, List.set_cons_succ, List.getElem_toArray, List.getElem_cons_succ, List.getElem_cons_zero]
          refine wpAnyT_loadW (i := 7) (v := ?_) rfl (by kernel_rfl) (by kernel_rfl) (by kernel_rfl) (by kernel_rfl) (by kernel_rfl) (fun _ _ _ h => h) (Or.inl ⟨by rfl, ?_⟩) hSss1 ?_
          rotate_left
          · intro w hSw; obtain ⟨e0, e1, e2, e3, -⟩ := hSw; go_simp; try with_reducible rfl
          simp only [Act.put, List.setIfInBounds_toArray, List.set_cons_zero, List.set_cons_succ, List.getElem_toArray, List.getElem_cons_succ, List.getElem_cons_zero]
          refine wpAnyT_loadW (i := 12) (v := ?_) rfl (by kernel_rfl) (by kernel_rfl) (by kernel_rfl) (by kernel_rfl) (by kernel_rfl) (fun _ _ _ h => h) (Or.inl ⟨by rfl, ?_⟩) hSss1 ?_
          rotate_left
          · intro w hSw; obtain ⟨e0, e1, e2, e3, -⟩ := hSw; go_simp; try with_reducible rfl
          simp only [Act.put, List.setIfInBounds_toArray, List.set_cons_zero, List.set_cons_succ, List.getElem_toArray, List.getElem_cons_succ, List.getElem_cons_zero]
          refine wpAnyT_loadW (i := 17) (v := ?_) rfl (by kernel_rfl) (by kernel_rfl) (by kernel_rfl) (by kernel_rfl) (by kernel_rfl) (fun _ _ _ h => h) (Or.inl ⟨by rfl, ?_⟩) hSss1 ?_
          rotate_left
          · intro w hSw; obtain ⟨e0, e1, e2, e3, -⟩ := hSw; go_simp; try with_reducible rfl
          simp only [Act.put, List.setIfInBounds_toArray, List.set_cons_zero, List.set_cons_succ, List.getElem_toArray, List.getElem_cons_succ, List.getElem_cons_zero]
          refine wpAnyT_pure (i := 18) (v := ?_) rfl (by kernel_rfl) (by kernel_rfl) (by kernel_rfl) (fun _ _ _ h => h) (by rfl) ?_ ?_
          rotate_left
          · intro w; go_simp; try with_reducible rfl
          simp only [Act.put, List.setIfInBounds_toArray, List.set_cons_zero, List.set_cons_succ, List.getElem_toArray, List.getElem_cons_succ, List.getElem_cons_zero]
          refine wpAnyT_one (i := 19) (by kernel_rfl) rfl (by rfl) ?_
          obtain ⟨b19, hb19⟩ : ∃ b, s1.heap.size = b := ⟨_, rfl⟩
          have hb19' : wr.heap.size ≤ b19 := by rw [← hb19]; exact (hB_0_s1).size
          refine wp_newrow (v := .pointer (some ⟨b19, 0, none⟩)) (cs := #[.int .i64 0, .int .i64 0, .int .i64 0, .int .i64 0]) (te := 127) (by rw [← hb19]; go_simp) ?_
          intro w102 hX hN
          rw [hb19] at hN
          have hB_s1_w102 := below_step hB_s1_s1 hX
          have hB_w102_w102 := Below.refl w102.heap.size w102
          have hSsw102 := Cells.below hB_s1_w102 hSss1
          clear hX
          refine ⟨fun _ _ => hSsw102, ?_⟩
          try simp only [Act.put, List.setIfInBounds_toArray, List.set_cons_zero, List.set_cons_succ, List.getElem_toArray, List.getElem_cons_succ, List.getElem_cons_zero]
          refine wpAnyT_one (i := 20) (by kernel_rfl) rfl (by rfl) ?_
          have hbP : Below wr.heap.size wr w102 := hB_0_s1.trans ((hB_s1_w102).mono (hB_0_s1).size)
          have hrow := setRow_heap _ _ _ #[.int .i64 c, .int .i64 xk, .int .i64 xb, .int .i64 0] _ _ hN
          have hbN := below_setRow (n := wr.heap.size) (p := b19) hbP hb19' #[.int .i64 c, .int .i64 xk, .int .i64 xb, .int .i64 0]
          refine wp_store_row 127 _ _ rfl b19 #[.int .i64 c, .int .i64 xk, .int .i64 xb, .int .i64 0] (by kernel_rfl) (by kernel_rfl) 127 _ hN (by kernel_rfl) (by rfl) (by simp [Value.oneCell']) ?_
          generalize World.setRow _ _ _ = w103 at hrow hbN ⊢
          refine ⟨fun h => absurd h (by decide), ?_⟩
          try simp only [Act.put, List.setIfInBounds_toArray, List.set_cons_zero, List.set_cons_succ, List.getElem_toArray, List.getElem_cons_succ, List.getElem_cons_zero]
          refine wpAnyT_done (by kernel_rfl) ?_ _
          obtain ⟨w9, rfl⟩ : ∃ x, x = w103 := ⟨_, rfl⟩
          have HRW := Lib.hid hrow
          have HO9 := Lib.hid (HO2.out.below hbN)
          have HB9 := Lib.hid (HBW2.out.trans (hbN.mono HBW2.out.size))
          have HB19 := Lib.hid hb19'
          have z0 := blk_cell hrow 0
          have z3 := blk_cell hrow 3
          have f3 := blk_frozen hrow 3
          simp at z0 z3
          clear hrow hbN hb19' hbP hN hb19
          by_cases e1 : c = 1010
          · subst e1
            have hset := blk_set (i := 3) HRW.out (.int .i64 1000)
            simp at hset
            have hgs : Gr (fun b => b = b19) w9 (w9.setCell ⟨b19, 3, none⟩ (.int .i64 1000)) := (Gr.refl (fun b => b = b19) w9).setCell (.inl rfl) _
            have HSET := Lib.hid hset
            have HOS := Lib.hid (HO9.out.gr hgs (fun _ h => h.elim) (fun b hb e => by have := (HO2.out.own b hb).2; have := HB19.out; omega))
            have HBS := Lib.hid (HB9.out.trans (hgs.below (fun b e => by rw [e]; have := HB19.out; have := HBW2.out.size; omega) HB9.out.size))
            clear hset hgs
            go_wp2_with (first | refine wpList_load_row rfl 127 _ rfl b19 rfl 127 #[.int .i64 1010, .int .i64 xk, .int .i64 xb, .int .i64 1000] (0, 0) _ HSET.out Tryz.underlying127 rfl (by kernel_rfl) ?_ | (at_builtin; go_must (refine wpList_app _ rfl _ _ 26 rfl (e := accC) (te := 127) info_acc Tryz.underlying26 rfl (by decide) (base := w7.heap.size) (S := fun _ => False) (v := .slice oa2 ol2 oc2) (xs := xs2) rfl (HOS.out.alloc _) (by have := HBS.out.size; simp only [World.size_alloc]; omega) (sv := .slice (some ⟨w9.heap.size, 0, none⟩) 1 1) rfl (ys := [(1010, xk, xb, 1000, ())]) (by simpa using Src.new (w9.setCell ⟨b19, 3, none⟩ (.int .i64 1000)) [.int .i64 1010, .int .i64 xk, .int .i64 xb, .int .i64 1000] 127 1 1) (RdL.one (e := accC) (acc_rd HWC.out HWF.out.1 HWF.out.2 (by first | decide | exact HW100.out))) (by have := HXL2.out; simp only [List.length_singleton]; omega) (by have := HXL2.out; simp only [List.length_singleton]; omega) ?_; intro v' w2 O2 g2 _ ob2; have HO5 := Lib.hid O2; have HB5 := Lib.hid ((HBS.out.alloc HBS.out.size _).grown g2 (by have := HBS.out.size; simp only [World.size_alloc]; omega) (fun c hc => (HOS.out.own c hc).1)); clear O2 g2 ob2)))
            go_roundw
            case rel => exact ⟨k + 1, _, by have := HLT2.out; omega, by go_num, HO5.out, by have := HXL2.out; simp only [List.length_append, List.length_singleton]; omega, HB5.out⟩
            case measure => have h1 := HLT2.out; simp [intOf]; try omega
          by_cases e2 : c = 1100
          · subst e2
            have hset := blk_set (i := 3) HRW.out (.int .i64 1000)
            simp at hset
            have hgs : Gr (fun b => b = b19) w9 (w9.setCell ⟨b19, 3, none⟩ (.int .i64 1000)) := (Gr.refl (fun b => b = b19) w9).setCell (.inl rfl) _
            have HSET := Lib.hid hset
            have HOS := Lib.hid (HO9.out.gr hgs (fun _ h => h.elim) (fun b hb e => by have := (HO2.out.own b hb).2; have := HB19.out; omega))
            have HBS := Lib.hid (HB9.out.trans (hgs.below (fun b e => by rw [e]; have := HB19.out; have := HBW2.out.size; omega) HB9.out.size))
            clear hset hgs
            go_wp2_with (first | refine wpList_load_row rfl 127 _ rfl b19 rfl 127 #[.int .i64 1100, .int .i64 xk, .int .i64 xb, .int .i64 1000] (0, 0) _ HSET.out Tryz.underlying127 rfl (by kernel_rfl) ?_ | (at_builtin; go_must (refine wpList_app _ rfl _ _ 26 rfl (e := accC) (te := 127) info_acc Tryz.underlying26 rfl (by decide) (base := w7.heap.size) (S := fun _ => False) (v := .slice oa2 ol2 oc2) (xs := xs2) rfl (HOS.out.alloc _) (by have := HBS.out.size; simp only [World.size_alloc]; omega) (sv := .slice (some ⟨w9.heap.size, 0, none⟩) 1 1) rfl (ys := [(1100, xk, xb, 1000, ())]) (by simpa using Src.new (w9.setCell ⟨b19, 3, none⟩ (.int .i64 1000)) [.int .i64 1100, .int .i64 xk, .int .i64 xb, .int .i64 1000] 127 1 1) (RdL.one (e := accC) (acc_rd HWC.out HWF.out.1 HWF.out.2 (by first | decide | exact HW100.out))) (by have := HXL2.out; simp only [List.length_singleton]; omega) (by have := HXL2.out; simp only [List.length_singleton]; omega) ?_; intro v' w2 O2 g2 _ ob2; have HO5 := Lib.hid O2; have HB5 := Lib.hid ((HBS.out.alloc HBS.out.size _).grown g2 (by have := HBS.out.size; simp only [World.size_alloc]; omega) (fun c hc => (HOS.out.own c hc).1)); clear O2 g2 ob2)))
            go_roundw
            case rel => exact ⟨k + 1, _, by have := HLT2.out; omega, by go_num, HO5.out, by have := HXL2.out; simp only [List.length_append, List.length_singleton]; omega, HB5.out⟩
            case measure => have h1 := HLT2.out; simp [intOf]; try omega
          by_cases e3 : c = 1200
          · subst e3
            have hset := blk_set (i := 3) HRW.out (.int .i64 1000)
            simp at hset
            have hgs : Gr (fun b => b = b19) w9 (w9.setCell ⟨b19, 3, none⟩ (.int .i64 1000)) := (Gr.refl (fun b => b = b19) w9).setCell (.inl rfl) _
            have HSET := Lib.hid hset
            have HOS := Lib.hid (HO9.out.gr hgs (fun _ h => h.elim) (fun b hb e => by have := (HO2.out.own b hb).2; have := HB19.out; omega))
            have HBS := Lib.hid (HB9.out.trans (hgs.below (fun b e => by rw [e]; have := HB19.out; have := HBW2.out.size; omega) HB9.out.size))
            clear hset hgs
            go_wp2_with (first | refine wpList_load_row rfl 127 _ rfl b19 rfl 127 #[.int .i64 1200, .int .i64 xk, .int .i64 xb, .int .i64 1000] (0, 0) _ HSET.out Tryz.underlying127 rfl (by kernel_rfl) ?_ | (at_builtin; go_must (refine wpList_app _ rfl _ _ 26 rfl (e := accC) (te := 127) info_acc Tryz.underlying26 rfl (by decide) (base := w7.heap.size) (S := fun _ => False) (v := .slice oa2 ol2 oc2) (xs := xs2) rfl (HOS.out.alloc _) (by have := HBS.out.size; simp only [World.size_alloc]; omega) (sv := .slice (some ⟨w9.heap.size, 0, none⟩) 1 1) rfl (ys := [(1200, xk, xb, 1000, ())]) (by simpa using Src.new (w9.setCell ⟨b19, 3, none⟩ (.int .i64 1000)) [.int .i64 1200, .int .i64 xk, .int .i64 xb, .int .i64 1000] 127 1 1) (RdL.one (e := accC) (acc_rd HWC.out HWF.out.1 HWF.out.2 (by first | decide | exact HW100.out))) (by have := HXL2.out; simp only [List.length_singleton]; omega) (by have := HXL2.out; simp only [List.length_singleton]; omega) ?_; intro v' w2 O2 g2 _ ob2; have HO5 := Lib.hid O2; have HB5 := Lib.hid ((HBS.out.alloc HBS.out.size _).grown g2 (by have := HBS.out.size; simp only [World.size_alloc]; omega) (fun c hc => (HOS.out.own c hc).1)); clear O2 g2 ob2)))
            go_roundw
            case rel => exact ⟨k + 1, _, by have := HLT2.out; omega, by go_num, HO5.out, by have := HXL2.out; simp only [List.length_append, List.length_singleton]; omega, HB5.out⟩
            case measure => have h1 := HLT2.out; simp [intOf]; try omega
          by_cases e4 : c = 2100
          · subst e4
            have hset := blk_set (i := 3) HRW.out (.int .i64 2000)
            simp at hset
            have hgs : Gr (fun b => b = b19) w9 (w9.setCell ⟨b19, 3, none⟩ (.int .i64 2000)) := (Gr.refl (fun b => b = b19) w9).setCell (.inl rfl) _
            have HSET := Lib.hid hset
            have HOS := Lib.hid (HO9.out.gr hgs (fun _ h => h.elim) (fun b hb e => by have := (HO2.out.own b hb).2; have := HB19.out; omega))
            have HBS := Lib.hid (HB9.out.trans (hgs.below (fun b e => by rw [e]; have := HB19.out; have := HBW2.out.size; omega) HB9.out.size))
            clear hset hgs
            go_wp2_with (first | refine wpList_load_row rfl 127 _ rfl b19 rfl 127 #[.int .i64 2100, .int .i64 xk, .int .i64 xb, .int .i64 2000] (0, 0) _ HSET.out Tryz.underlying127 rfl (by kernel_rfl) ?_ | (at_builtin; go_must (refine wpList_app _ rfl _ _ 26 rfl (e := accC) (te := 127) info_acc Tryz.underlying26 rfl (by decide) (base := w7.heap.size) (S := fun _ => False) (v := .slice oa2 ol2 oc2) (xs := xs2) rfl (HOS.out.alloc _) (by have := HBS.out.size; simp only [World.size_alloc]; omega) (sv := .slice (some ⟨w9.heap.size, 0, none⟩) 1 1) rfl (ys := [(2100, xk, xb, 2000, ())]) (by simpa using Src.new (w9.setCell ⟨b19, 3, none⟩ (.int .i64 2000)) [.int .i64 2100, .int .i64 xk, .int .i64 xb, .int .i64 2000] 127 1 1) (RdL.one (e := accC) (acc_rd HWC.out HWF.out.1 HWF.out.2 (by first | decide | exact HW100.out))) (by have := HXL2.out; simp only [List.length_singleton]; omega) (by have := HXL2.out; simp only [List.length_singleton]; omega) ?_; intro v' w2 O2 g2 _ ob2; have HO5 := Lib.hid O2; have HB5 := Lib.hid ((HBS.out.alloc HBS.out.size _).grown g2 (by have := HBS.out.size; simp only [World.size_alloc]; omega) (fun c hc => (HOS.out.own c hc).1)); clear O2 g2 ob2)))
            go_roundw
            case rel => exact ⟨k + 1, _, by have := HLT2.out; omega, by go_num, HO5.out, by have := HXL2.out; simp only [List.length_append, List.length_singleton]; omega, HB5.out⟩
            case measure => have h1 := HLT2.out; simp [intOf]; try omega
          by_cases e5 : c = 4100
          · subst e5
            have hset := blk_set (i := 3) HRW.out (.int .i64 4000)
            simp at hset
            have hgs : Gr (fun b => b = b19) w9 (w9.setCell ⟨b19, 3, none⟩ (.int .i64 4000)) := (Gr.refl (fun b => b = b19) w9).setCell (.inl rfl) _
            have HSET := Lib.hid hset
            have HOS := Lib.hid (HO9.out.gr hgs (fun _ h => h.elim) (fun b hb e => by have := (HO2.out.own b hb).2; have := HB19.out; omega))
            have HBS := Lib.hid (HB9.out.trans (hgs.below (fun b e => by rw [e]; have := HB19.out; have := HBW2.out.size; omega) HB9.out.size))
            clear hset hgs
            go_wp2_with (first | refine wpList_load_row rfl 127 _ rfl b19 rfl 127 #[.int .i64 4100, .int .i64 xk, .int .i64 xb, .int .i64 4000] (0, 0) _ HSET.out Tryz.underlying127 rfl (by kernel_rfl) ?_ | (at_builtin; go_must (refine wpList_app _ rfl _ _ 26 rfl (e := accC) (te := 127) info_acc Tryz.underlying26 rfl (by decide) (base := w7.heap.size) (S := fun _ => False) (v := .slice oa2 ol2 oc2) (xs := xs2) rfl (HOS.out.alloc _) (by have := HBS.out.size; simp only [World.size_alloc]; omega) (sv := .slice (some ⟨w9.heap.size, 0, none⟩) 1 1) rfl (ys := [(4100, xk, xb, 4000, ())]) (by simpa using Src.new (w9.setCell ⟨b19, 3, none⟩ (.int .i64 4000)) [.int .i64 4100, .int .i64 xk, .int .i64 xb, .int .i64 4000] 127 1 1) (RdL.one (e := accC) (acc_rd HWC.out HWF.out.1 HWF.out.2 (by first | decide | exact HW100.out))) (by have := HXL2.out; simp only [List.length_singleton]; omega) (by have := HXL2.out; simp only [List.length_singleton]; omega) ?_; intro v' w2 O2 g2 _ ob2; have HO5 := Lib.hid O2; have HB5 := Lib.hid ((HBS.out.alloc HBS.out.size _).grown g2 (by have := HBS.out.size; simp only [World.size_alloc]; omega) (fun c hc => (HOS.out.own c hc).1)); clear O2 g2 ob2)))
            go_roundw
            case rel => exact ⟨k + 1, _, by have := HLT2.out; omega, by go_num, HO5.out, by have := HXL2.out; simp only [List.length_append, List.length_singleton]; omega, HB5.out⟩
            case measure => have h1 := HLT2.out; simp [intOf]; try omega
          have b1 : (c == 1010) = false := beq_false_of_ne e1
          have b2 : (c == 1100) = false := beq_false_of_ne e2
          have b3 : (c == 1200) = false := beq_false_of_ne e3
          have b4 : (c == 2100) = false := beq_false_of_ne e4
          have b5 : (c == 4100) = false := beq_false_of_ne e5
          go_wp2_with (first | refine wpList_load_row rfl 127 _ rfl b19 rfl 127 #[.int .i64 c, .int .i64 xk, .int .i64 xb, .int .i64 0] (0, 0) _ HRW.out Tryz.underlying127 rfl (by kernel_rfl) ?_ | (at_builtin; go_must (refine wpList_app _ rfl _ _ 26 rfl (e := accC) (te := 127) info_acc Tryz.underlying26 rfl (by decide) (base := w7.heap.size) (S := fun _ => False) (v := .slice oa2 ol2 oc2) (xs := xs2) rfl (HO9.out.alloc _) (by have := HB9.out.size; simp only [World.size_alloc]; omega) (sv := .slice (some ⟨w9.heap.size, 0, none⟩) 1 1) rfl (ys := [(c, xk, xb, 0, ())]) (by simpa using Src.new w9 [.int .i64 c, .int .i64 xk, .int .i64 xb, .int .i64 0] 127 1 1) (RdL.one (e := accC) (acc_rd HWC.out HWF.out.1 HWF.out.2 (by first | decide | exact HW100.out))) (by have := HXL2.out; simp only [List.length_singleton]; omega) (by have := HXL2.out; simp only [List.length_singleton]; omega) ?_; intro v' w2 O2 g2 _ ob2; have HO5 := Lib.hid O2; have HB5 := Lib.hid ((HB9.out.alloc HB9.out.size _).grown g2 (by have := HB9.out.size; simp only [World.size_alloc]; omega) (fun c hc => (HO9.out.own c hc).1)); clear O2 g2 ob2)))
          go_roundw
          case rel => exact ⟨k + 1, _, by have := HLT2.out; omega, by go_num, HO5.out, by have := HXL2.out; simp only [List.length_append, List.length_singleton]; omega, HB5.out⟩
          case measure => have h1 := HLT2.out; simp [intOf]; try omega
        · obtain rfl : k = cl := by omega
          clear y0 y1
          go_wp2_with fail
          go_roundw
          case rel => exact ⟨n + 1, xs2, by have := HN.out; omega, by go_num, HO2.out, by have := HXL2.out; omega, HBW2.out⟩
          case measure => simp [intOf]; try omega
    · obtain rfl : n = 6 := by omega
      go_wp2_with fail
      go_ret
      exact ⟨_, _, _, rfl, HB.out.trans (HBW.out.mono HB.out.size)⟩
end Go.Proofs.YtlfloekanfhlfaaGreat
