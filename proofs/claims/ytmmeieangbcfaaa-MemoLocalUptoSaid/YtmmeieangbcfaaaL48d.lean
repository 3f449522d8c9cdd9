/- Layer 48: the reference's Ranked; the law's few. -/
import Derived.Test.YtmmeieangbcfaaaC48y
import Derived.Test.YtmmeieangbcfaaaP48h
set_option linter.unusedSimpArgs false
namespace Go.Proofs.Ytmmeieangbcfaaa
open Go.RowKit Go

set_option maxRecDepth 20000 in
set_option maxHeartbeats 1000000 in
theorem ranked48 {S : Nat → Prop} (w : World) (a : Option Addr) (len cap : Nat) (xs : List formT.den) (hx : Rd (.sl formT) S w [.slice a len cap] xs) (hS : ∀ b, S b → b < w.heap.size) :
    Calls Try.prog 12 #[.slice a len cap] w fun e w' => ∃ b, e = .returned (.bool b) ∧ Below w.heap.size w w' ∧ (b = true → ranked (xs.map fm)) := by
  obtain ⟨hl, hlc, hm, -⟩ := hx.sl_flat
  have HX := Lib.hid hx
  have HL := Lib.hid hl
  have HS := Lib.hid hS
  clear hx hl hS
  go_enter Try.func12, Try.ntmps12
  go_wp2_with fail
  go_loopw [3] (fun i wr => ∃ k : Nat, k ≤ len ∧ i = .int .i64 k ∧ (∀ j (hj : j < xs.length), j < k → ∀ t ∈ (fm xs[j]).terms, t.1.st < (fm xs[j]).cell.st) ∧ Below w.heap.size w wr) (fun i _ => len - (intOf i).toNat)
  case atStart => exact ⟨0, Nat.zero_le _, rfl, fun j _ hj => absurd hj (by omega), Below.refl _ _⟩
  case round =>
    obtain ⟨k, hk, rfl, hd, hB⟩ := hrel
    have HD := Lib.hid hd
    have HB := Lib.hid hB
    clear hd hB
    by_cases hlt : k < len
    · have hkx : k < xs.length := by rw [HL.out]; exact hlt
      have hkI : (k : Int) < (len : Int) := by omega
      obtain ⟨b, off, ta, tl, tc, rfl, hb, m0, -, -, -, m4, -, -, -, hfv⟩ := form_at HX.out k hkx
      obtain ⟨ta', tl', tc', ts, he, hT, ht, -⟩ := hfv
      simp only [Value.agg.injEq, Array.mk.injEq, List.cons.injEq, Value.slice.injEq, and_true, true_and] at he
      obtain ⟨rfl, rfl, rfl⟩ := he
      obtain ⟨cs, hcs⟩ : ∃ cs, (fm xs[k]).cell.st = cs := ⟨_, rfl⟩
      rw [hcs] at m0
      have HT := Lib.hid hT
      have HFT := Lib.hid (show (fm xs[k]).terms = ts.map tm ∧ (fm xs[k]).cell.st = cs from ⟨ht, hcs⟩)
      have hb := HS.out b hb
      have M := Lib.hid (show ∀ wj, Below w.heap.size w wj → wj.cell? ⟨b, off + k * 8, none⟩ = some (.int .i64 cs) ∧ wj.cell? ⟨b, off + k * 8 + 4, none⟩ = some (.slice ta tl tc) from fun wj hBj => ⟨(hBj.cell hb).trans m0, (hBj.cell hb).trans m4⟩)
      have hlen : ts.length = tl := hT.sl_flat.1
      have htb : tl ≤ 9223372036854775807 := by obtain ⟨-, e1, e2, -⟩ := hT.sl_flat; omega
      have HLEN := Lib.hid hlen
      have HKX := Lib.hid hkx
      clear m0 m4 hT ht hcs hlt hlen
      go_wp2_with fail
      go_loopw [4] (fun i wj => ∃ q : Nat, q ≤ tl ∧ i = .int .i64 q ∧ (∀ p (hp : p < ts.length), p < q → (tm ts[p]).1.st < cs) ∧ Below w.heap.size w wj) (fun i _ => tl - (intOf i).toNat)
      case atStart => exact ⟨0, Nat.zero_le _, rfl, fun j _ hj => absurd hj (by omega), HB.out⟩
      case round =>
        obtain ⟨q, hq, rfl, hd2, hBj⟩ := hrel
        have HD2 := Lib.hid hd2
        have HBJ := Lib.hid hBj
        obtain ⟨m0, m4⟩ := M.out wr hBj
        clear hd2 hBj
        by_cases hqt : q < tl
        · have hqx : q < ts.length := by rw [HLEN.out]; exact hqt
          have hqI : (q : Int) < (tl : Int) := by omega
          obtain ⟨tb, toff, rfl, -, p0, -, -, -, -, -, -⟩ := term_at (HT.out.below HBJ.out HS.out) q hqx
          obtain ⟨ct, hct⟩ : ∃ ct, (tm ts[q]).1.st = ct := ⟨_, rfl⟩
          rw [hct] at p0
          have HCT := Lib.hid hct
          have HQ := Lib.hid hqt
          have hC0 : Cells [(⟨b, off + k * 8, none⟩, .int .i64 cs), (⟨b, off + k * 8 + 4, none⟩, .slice (some ⟨tb, toff, none⟩) tl tc), (⟨tb, toff + q * 5, none⟩, .int .i64 ct)] wr := ⟨m0, m4, p0, trivial⟩
          clear hct hqt p0
          go_wp2_with fail
          clear m0 m4
          refine wp_region_T (Cells [(⟨b, off + k * 8, none⟩, .int .i64 cs), (⟨b, off + k * 8 + 4, none⟩, .slice (some ⟨tb, toff, none⟩) tl tc), (⟨tb, toff + q * 5, none⟩, .int .i64 ct)]) (fun _ => false) (by kernel_rfl) ?_
          have hSss1 := Cells.drew hC0
          have hB_0_s1 : Below wr.heap.size wr wr.drew := below_drew _
          generalize wr.drew = s1 at hSss1 hB_0_s1 ⊢
          have hB_s1_s1 := Below.refl s1.heap.size s1
          refine wpAnyT_pure (i := 0) (v := ?_) rfl (by kernel_rfl) (by kernel_rfl) (by kernel_rfl) (fun _ _ _ h => h) (by rfl) ?_ ?_
          rotate_left
          · intro w; go_simp; try with_reducible rfl
          simp only [Act.put, List.setIfInBounds_toArray, List.set_cons_zero, List.set_cons_succ, List.getElem_toArray, List.getElem_cons_succ, List.getElem_cons_zero]
          refine wpAnyT_pure (i := 1) (v := ?_) rfl (by kernel_rfl) (by kernel_rfl) (by kernel_rfl) (fun _ _ _ h => h) (by rfl) ?_ ?_
          rotate_left
          · intro w; go_simp; try with_reducible rfl
          simp only [Act.put, List.setIfInBounds_toArray, List.set_cons_zero, List.set_cons_succ, List.getElem_toArray, List.getElem_cons_succ, List.getElem_cons_zero]
          refine wpAnyT_pure (i := 2) (v := ?_) rfl (by kernel_rfl) (by kernel_rfl) (by kernel_rfl) (fun _ _ _ h => h) (by rfl) ?_ ?_
          rotate_left
          · intro w; go_simp; try with_reducible rfl
          simp only [Act.put, List.setIfInBounds_toArray, List.set_cons_zero, List.set_cons_succ, List.getElem_toArray, List.getElem_cons_succ, List.getElem_cons_zero]
          refine wpAnyT_pure (i := 3) (v := ?_) rfl (by kernel_rfl) (by kernel_rfl) (by kernel_rfl) (fun _ _ _ h => h) (by rfl) ?_ ?_
          rotate_left
          · intro w; go_simp; try with_reducible rfl
          simp only [Act.put, List.setIfInBounds_toArray, List.set_cons_zero, List.set_cons_succ, List.getElem_toArray, List.getElem_cons_succ, List.getElem_cons_zero]
          refine wpAnyT_pure (i := 5) (v := ?_) rfl (by kernel_rfl) (by kernel_rfl) (by kernel_rfl) (fun _ _ _ h => h) (by rfl) ?_ ?_
          rotate_left
          · intro w; go_simp; try with_reducible rfl
          simp only [Act.put, List.setIfInBounds_toArray, List.set_cons_zero, List.set_cons_succ, List.getElem_toArray, List.getElem_cons_succ, List.getElem_cons_zero]
          refine wpAnyT_pure (i := 10) (v := ?_) rfl (by kernel_rfl) (by kernel_rfl) (by kernel_rfl) (fun _ _ _ h => h) (by rfl) ?_ ?_
          rotate_left
          · intro w; go_simp; try with_reducible rfl
          simp only [Act.put, List.setIfInBounds_toArray, List.set_cons_zero, List.set_cons_succ, List.getElem_toArray, List.getElem_cons_succ, List.getElem_cons_zero]
          refine wpAnyT_pure (i := 11) (v := ?_) rfl (by kernel_rfl) (by kernel_rfl) (by kernel_rfl) (fun _ _ _ h => h) (by rfl) ?_ ?_
          rotate_left
          · intro w; go_simp; try with_reducible rfl
          simp only [Act.put, List.setIfInBounds_toArray, List.set_cons_zero, List.set_cons_succ, List.getElem_toArray, List.getElem_cons_succ, List.getElem_cons_zero]
          refine wpAnyT_pure (i := 12) (v := ?_) rfl (by kernel_rfl) (by kernel_rfl) (by kernel_rfl) (fun _ _ _ h => h) (by rfl) ?_ ?_
          rotate_left
          · intro w; go_simp; try with_reducible rfl
          simp only [Act.put, List.setIfInBounds_toArray, List.set_cons_zero, List.set_cons_succ, List.getElem_toArray, List.getElem_cons_succ, List.getElem_cons_zero]
          refine wpAnyT_pure (i := 13) (v := ?_) rfl (by kernel_rfl) (by kernel_rfl) (by kernel_rfl) (fun _ _ _ h => h) (by rfl) ?_ ?_
          rotate_left
          · intro w; go_simp; try with_reducible rfl
          simp only [Act.put, List.setIfInBounds_toArray, List.set_cons_zero, List.set_cons_succ, List.getElem_toArray, List.getElem_cons_succ, List.getElem_cons_zero]
          refine wpAnyT_pure (i := 14) (v := ?_) rfl (by kernel_rfl) (by kernel_rfl) (by kernel_rfl) (fun _ _ _ h => h) (by rfl) ?_ ?_
          rotate_left
          · intro w; go_simp; try with_reducible rfl
          simp only [Act.put, List.setIfInBounds_toArray, List.set_cons_zero, List.set_cons_succ, List.getElem_toArray, List.getElem_cons_succ, List.getElem_cons_zero]
          refine wpAnyT_loadW (i := 4) (v := ?_) rfl (by kernel_rfl) (by kernel_rfl) (by kernel_rfl) (by kernel_rfl) (by kernel_rfl) (fun _ _ _ h => h) (Or.inl ⟨by rfl, ?_⟩) hSss1 ?_
          rotate_left
          · intro w hSw; obtain ⟨e0, e1, e2, -⟩ := hSw; go_simp; try with_reducible rfl
          simp only [Act.put, List.setIfInBounds_toArray, List.set_cons_zero, List.set_cons_succ, List.getElem_toArray, List.getElem_cons_succ, List.getElem_cons_zero]
          refine wpAnyT_pure (i := 6) (v := ?_) rfl (by kernel_rfl) (by kernel_rfl) (by kernel_rfl) (fun _ _ _ h => h) (by rfl) ?_ ?_
          rotate_left
          · intro w; go_simp; try with_reducible rfl
          simp only [Act.put, List.setIfInBounds_toArray, List.set_cons_zero, List.set_cons_succ, List.getElem_toArray, List.getElem_cons_succ, List.getElem_cons_zero]
          refine wpAnyT_pure (i := 7) (v := ?_) rfl (by kernel_rfl) (by kernel_rfl) (by kernel_rfl) (fun _ _ _ h => h) (by rfl) ?_ ?_
          rotate_left
          · intro w; go_simp; try with_reducible rfl
          simp only [Act.put, List.setIfInBounds_toArray, List.set_cons_zero, List.set_cons_succ, List.getElem_toArray, List.getElem_cons_succ, List.getElem_cons_zero]
          refine wpAnyT_pure (i := 8) (v := ?_) rfl (by kernel_rfl) (by kernel_rfl) (by kernel_rfl) (fun _ _ _ h => h) (by rfl) ?_ ?_
          rotate_left
          · intro w; go_simp; try with_reducible rfl
          simp only [Act.put, List.setIfInBounds_toArray, List.set_cons_zero, List.set_cons_succ, List.getElem_toArray, List.getElem_cons_succ, List.getElem_cons_zero]
          refine wpAnyT_loadW (i := 9) (v := ?_) rfl (by kernel_rfl) (by kernel_rfl) (by kernel_rfl) (by kernel_rfl) (by kernel_rfl) (fun _ _ _ h => h) (Or.inl ⟨by rfl, ?_⟩) hSss1 ?_
          rotate_left
          · intro w hSw; obtain ⟨e0, e1, e2, -⟩ := hSw; go_simp; try with_reducible rfl
          simp only [Act.put, List.setIfInBounds_toArray, List.set_cons_zero, List.set_cons_succ, List.getElem_toArray, List.getElem_cons_succ, List.getElem_cons_zero]
          refine wpAnyT_loadW (i := 15) (v := ?_) rfl (by kernel_rfl) (by kernel_rfl) (by kernel_rfl) (by kernel_rfl) (by kernel_rfl) (fun _ _ _ h => h) (Or.inl ⟨by rfl, ?_⟩) hSss1 ?_
          rotate_left
          · intro w hSw; obtain ⟨e0, e1, e2, -⟩ := hSw; go_simp; try with_reducible rfl
          simp only [Act.put, List.setIfInBounds_toArray, List.set_cons_zero, List.set_cons_succ, List.getElem_toArray, List.getElem_cons_succ, List.getElem_cons_zero]
          refine wpAnyT_pure (i := 16) (v := ?_) rfl (by kernel_rfl) (by kernel_rfl) (by kernel_rfl) (fun _ _ _ h => h) (by rfl) ?_ ?_
          rotate_left
          · intro w; go_simp; try with_reducible rfl
          simp only [Act.put, List.setIfInBounds_toArray, List.set_cons_zero, List.set_cons_succ, List.getElem_toArray, List.getElem_cons_succ, List.getElem_cons_zero]
          refine wpAnyT_done (by kernel_rfl) ?_ _
          have HBP := Lib.hid (below_step HBJ.out (hB_0_s1.trans ((hB_s1_s1).mono (hB_0_s1).size)))
          by_cases hge : cs ≤ ct
          · go_wp2
            go_ret
            exact ⟨false, rfl, HBP.out, fun h => by cases h⟩
          · go_wp2
            go_roundw
            case rel => exact ⟨q + 1, by have := HQ.out; omega, by go_num, fun p hp hpq => by
              by_cases e : p = q
              · subst e; rw [HCT.out]; omega
              · exact HD2.out p hp (by omega), HBP.out⟩
            case measure => simp [intOf]; try omega
        · obtain rfl : tl = q := by omega
          go_wp2_with fail
          go_roundw
          case rel => exact ⟨k + 1, by have := HKX.out; rw [HL.out] at this; omega, by go_num, fun j hj hjk t ht => by
            by_cases e : j = k
            · subst e
              rw [HFT.out.1] at ht
              obtain ⟨y, hy, rfl⟩ := List.mem_map.1 ht
              obtain ⟨p, hp, rfl⟩ := List.getElem_of_mem hy
              rw [HFT.out.2]
              exact HD2.out p hp (by rw [← HLEN.out]; exact hp)
            · exact HD.out j hj (by omega) t ht, HBJ.out⟩
          case measure => simp [intOf]; try omega
    · obtain rfl : len = k := by omega
      go_wp2
      go_ret
      refine ⟨true, rfl, HB.out, fun _ f hf t ht => ?_⟩
      obtain ⟨x, hx, rfl⟩ := List.mem_map.1 hf
      obtain ⟨j, hj, rfl⟩ := List.getElem_of_mem hx
      exact HD.out j hj (by rw [← HL.out]; exact hj) t ht
abbrev stepT : Ty := .pr (.int .i64) (.pr cellT (.pr formT .un))
theorem stepT_sz : stepT.sz = 13 := rfl
/-- A step of a list, in memory. -/
theorem step_at {S : Nat → Prop} {w : World} {a : Option Addr} {len cap : Nat} {xs : List stepT.den} (h : Rd (.sl stepT) S w [.slice a len cap] xs) (i : Nat) (hi : i < xs.length) :
    ∃ b off ta tl tc, a = some ⟨b, off, none⟩ ∧ S b ∧ w.cell? ⟨b, off + i * 13, none⟩ = some (.int .i64 xs[i].1) ∧ w.cell? ⟨b, off + i * 13 + 1, none⟩ = some (.int .i64 (c4 xs[i].2.1).st) ∧ w.cell? ⟨b, off + i * 13 + 2, none⟩ = some (.int .i64 (c4 xs[i].2.1).en) ∧ w.cell? ⟨b, off + i * 13 + 3, none⟩ = some (.int .i64 (c4 xs[i].2.1).ot) ∧ w.cell? ⟨b, off + i * 13 + 4, none⟩ = some (.int .i64 (c4 xs[i].2.1).pe) ∧ (c4 xs[i].2.1).ok ∧
      w.cell? ⟨b, off + i * 13 + 5, none⟩ = some (.int .i64 (fm xs[i].2.2.1).cell.st) ∧ w.cell? ⟨b, off + i * 13 + 6, none⟩ = some (.int .i64 (fm xs[i].2.2.1).cell.en) ∧ w.cell? ⟨b, off + i * 13 + 7, none⟩ = some (.int .i64 (fm xs[i].2.2.1).cell.ot) ∧ w.cell? ⟨b, off + i * 13 + 8, none⟩ = some (.int .i64 (fm xs[i].2.2.1).cell.pe) ∧
      w.cell? ⟨b, off + i * 13 + 9, none⟩ = some (.slice ta tl tc) ∧ w.cell? ⟨b, off + i * 13 + 10, none⟩ = some (.int .i16 (fm xs[i].2.2.1).add) ∧ w.cell? ⟨b, off + i * 13 + 11, none⟩ = some (.int .u8 (fm xs[i].2.2.1).md) ∧ w.cell? ⟨b, off + i * 13 + 12, none⟩ = some (.int .i8 (fm xs[i].2.2.1).skip) ∧
      Rd formT S w [.int .i64 (fm xs[i].2.2.1).cell.st, .int .i64 (fm xs[i].2.2.1).cell.en, .int .i64 (fm xs[i].2.2.1).cell.ot, .int .i64 (fm xs[i].2.2.1).cell.pe, .slice ta tl tc, .int .i16 (fm xs[i].2.2.1).add, .int .u8 (fm xs[i].2.2.1).md, .int .i8 (fm xs[i].2.2.1).skip] xs[i].2.2.1 ∧ (fm xs[i].2.2.1).cell.ok := by
  obtain ⟨hl, -, -, vs, hr, hor⟩ := h.sl_flat
  obtain ⟨c, hc, hcc, hrd⟩ := hr.at_ i hi
  rcases hor with h0 | ⟨b, off, rfl, hb, hcell⟩
  · omega
  · generalize xs[i] = s at hrd ⊢
    obtain ⟨kd, ⟨y1, y2, y3, y4, ⟨⟩⟩, ⟨⟨x1, x2, x3, x4, ⟨⟩⟩, ts, ad, md, sk, ⟨⟩⟩, ⟨⟩⟩ := s
    obtain ⟨ck, rk, rfl, ⟨rfl, hk⟩, cy, ry, rfl, ⟨d1, s1, rfl, ⟨rfl, g1⟩, d2, s2, rfl, ⟨rfl, g2⟩, d3, s3, rfl, ⟨rfl, g3⟩, d4, s4, rfl, ⟨rfl, g4⟩, rfl⟩, cf, rf, rfl, hf, rfl⟩ := hrd
    obtain ⟨cc, rr, rfl, ⟨c1, r1, rfl, ⟨rfl, h1⟩, c2, r2, rfl, ⟨rfl, h2⟩, c3, r3, rfl, ⟨rfl, h3⟩, c4, r4, rfl, ⟨rfl, h4⟩, rfl⟩, c5, r5, rfl, h5, c6, r6, rfl, ⟨rfl, h6⟩, c7, r7, rfl, ⟨rfl, h7⟩, c8, r8, rfl, ⟨rfl, h8⟩, rfl⟩ := id hf
    obtain ⟨ta, tl, tc, rfl, h5'⟩ := id h5
    refine ⟨b, off, ta, tl, tc, rfl, hb, ?_, ?_, ?_, ?_, ?_, ⟨g1, g2, g3, g4⟩, ?_, ?_, ?_, ?_, ?_, ?_, ?_, ?_, hf, ⟨h1, h2, h3, h4⟩⟩
    · rw [show off + i * 13 = off + (i * stepT.sz + 0) by rw [stepT_sz]; omega]; exact hcell _ _ (hcc 0 _ rfl)
    · rw [show off + i * 13 + 1 = off + (i * stepT.sz + 1) by rw [stepT_sz]; omega]; exact hcell _ _ (hcc 1 _ rfl)
    · rw [show off + i * 13 + 2 = off + (i * stepT.sz + 2) by rw [stepT_sz]; omega]; exact hcell _ _ (hcc 2 _ rfl)
    · rw [show off + i * 13 + 3 = off + (i * stepT.sz + 3) by rw [stepT_sz]; omega]; exact hcell _ _ (hcc 3 _ rfl)
    · rw [show off + i * 13 + 4 = off + (i * stepT.sz + 4) by rw [stepT_sz]; omega]; exact hcell _ _ (hcc 4 _ rfl)
    · rw [show off + i * 13 + 5 = off + (i * stepT.sz + 5) by rw [stepT_sz]; omega]; exact hcell _ _ (hcc 5 _ rfl)
    · rw [show off + i * 13 + 6 = off + (i * stepT.sz + 6) by rw [stepT_sz]; omega]; exact hcell _ _ (hcc 6 _ rfl)
    · rw [show off + i * 13 + 7 = off + (i * stepT.sz + 7) by rw [stepT_sz]; omega]; exact hcell _ _ (hcc 7 _ rfl)
    · rw [show off + i * 13 + 8 = off + (i * stepT.sz + 8) by rw [stepT_sz]; omega]; exact hcell _ _ (hcc 8 _ rfl)
    · rw [show off + i * 13 + 9 = off + (i * stepT.sz + 9) by rw [stepT_sz]; omega]; exact hcell _ _ (hcc 9 _ rfl)
    · rw [show off + i * 13 + 10 = off + (i * stepT.sz + 10) by rw [stepT_sz]; omega]; exact hcell _ _ (hcc 10 _ rfl)
    · rw [show off + i * 13 + 11 = off + (i * stepT.sz + 11) by rw [stepT_sz]; omega]; exact hcell _ _ (hcc 11 _ rfl)
    · rw [show off + i * 13 + 12 = off + (i * stepT.sz + 12) by rw [stepT_sz]; omega]; exact hcell _ _ (hcc 12 _ rfl)
/-- The formulas of the steps that change. -/
def formsOf (ys : List stepT.den) : List formT.den := (ys.filter fun y => decide (y.1 = 1)).map fun y => y.2.2.1
theorem formsOf_succ (ys : List stepT.den) (k : Nat) (hk : k < ys.length) : formsOf (ys.take (k + 1)) = formsOf (ys.take k) ++ (if ys[k].1 = 1 then [ys[k].2.2.1] else []) := by
  unfold formsOf
  rw [List.take_succ_eq_append_getElem hk, List.filter_append, List.map_append]
  congr 1
  by_cases h : ys[k].1 = 1
  · rw [if_pos h, List.filter_cons_of_pos (by simpa using h)]; rfl
  · rw [if_neg h, List.filter_cons_of_neg (by simpa using h)]; rfl
theorem formsOf_len (ys : List stepT.den) : (formsOf ys).length ≤ ys.length := by
  unfold formsOf
  rw [List.length_map]
  exact List.length_filter_le _ _
theorem formsOf_mem {ys : List stepT.den} {k : Nat} (hk : k < ys.length) (h : ys[k].1 = 1) : ys[k].2.2.1 ∈ formsOf ys := by
  unfold formsOf
  exact List.mem_map_of_mem (List.mem_filter.2 ⟨List.getElem_mem hk, by simpa using h⟩)
set_option maxRecDepth 20000 in
set_option maxHeartbeats 1000000 in
theorem few48 {S : Nat → Prop} (w : World) (a : Option Addr) (len cap : Nat) (xs : List formT.den) (hx : Rd (.sl formT) S w [.slice a len cap] xs) (hS : ∀ b, S b → b < w.heap.size) (a2 : Option Addr) (len2 cap2 : Nat) (ys : List stepT.den) (hy : Rd (.sl stepT) S w [.slice a2 len2 cap2] ys) (hb1 : len ≤ 1048576) (hb2 : len2 ≤ 1048576) :
    Calls Try.prog 19 #[.slice a len cap, .slice a2 len2 cap2] w fun e w' => ∃ b, e = .returned (.bool b) ∧ Below w.heap.size w w' ∧ (b = true → len ≤ 14 ∧ len2 ≤ 20 ∧ ∀ f ∈ xs ++ formsOf ys, (fm f).terms.length ≤ 6) := by
  obtain ⟨hl, hlc, hm, -⟩ := hx.sl_flat
  obtain ⟨hl2, hlc2, hm2, -⟩ := hy.sl_flat
  have HX := Lib.hid hx
  have HY := Lib.hid hy
  have HL := Lib.hid hl
  have HL2 := Lib.hid hl2
  have HS := Lib.hid hS
  clear hx hy hl hS hl2
  go_enter Try.func19, Try.ntmps19
  go_wp2_with (at_builtin; go_must (refine wpList_copy w rfl _ _ 23 rfl (e := formT) info_form Try.underlying23 rfl (by decide) rfl (S := S) (sv := .slice a len cap) (xs := xs) rfl HX.out HS.out HL.out (by omega) (by omega) ?_; intro g cv w1 O1 hg hB1 h5 h6; have HO1 := Lib.hid O1; clear O1))
  have HB1 := Lib.hid hB1
  clear hg hB1
  go_loopw [5, 6] (fun v i wr => ∃ k : Nat, k ≤ len2 ∧ i = .int .i64 k ∧ Owns formT 41 w.heap.size S wr v (xs ++ formsOf (ys.take k)) ∧ Below w.heap.size w wr) (fun _ i _ => len2 - (intOf i).toNat)
  case atStart => exact ⟨0, Nat.zero_le _, rfl, by rw [List.take_zero]; show Owns _ _ _ _ _ _ (xs ++ []); rw [List.append_nil]; exact HO1.out, HB1.out⟩
  case round =>
    obtain ⟨k, hk, rfl, hO, hB⟩ := hrel
    obtain ⟨oa, ol, oc, rfl, hol, -⟩ := hO.slice
    have HO := Lib.hid hO
    have HB := Lib.hid hB
    have HOL := Lib.hid hol
    clear hO hB hol
    by_cases hlt : k < len2
    · have hkx : k < ys.length := by rw [HL2.out]; exact hlt
      have hkI : (k : Int) < (len2 : Int) := by omega
      obtain ⟨b, off, ta, tl, tc, rfl, hb, m0, -, -, -, -, -, m5, m6, m7, m8, m9, m10, m11, m12, hrf, -⟩ := step_at (HY.out.below HB.out HS.out) k hkx
      have hsucc := formsOf_succ ys k hkx
      have hpl : (xs ++ formsOf (ys.take k)).length ≤ len + len2 := by
        rw [List.length_append, HL.out]
        have := formsOf_len (ys.take k)
        rw [List.length_take] at this
        omega
      have HPL := Lib.hid hpl
      have HLT := Lib.hid hlt
      generalize ys[k] = y at m0 m5 m6 m7 m8 m9 m10 m11 m12 hrf hsucc
      obtain ⟨kd, yc, yf, ⟨⟩⟩ := y
      change Int at kd
      simp only at m0 m5 m6 m7 m8 m9 m10 m11 m12 hrf hsucc
      by_cases hkd : kd = 1
      · subst hkd
        rw [if_pos rfl] at hsucc
        have HSU := Lib.hid hsucc
        have HRF := Lib.hid hrf
        clear hrf hsucc hb hkx hlt hpl
        have m6 : wr.cell? ⟨b, off + k * 13 + 5 + 1, none⟩ = _ := m6
        have m7 : wr.cell? ⟨b, off + k * 13 + 5 + 2, none⟩ = _ := m7
        have m8 : wr.cell? ⟨b, off + k * 13 + 5 + 3, none⟩ = _ := m8
        have m9 : wr.cell? ⟨b, off + k * 13 + 5 + 4, none⟩ = _ := m9
        have m10 : wr.cell? ⟨b, off + k * 13 + 5 + 5, none⟩ = _ := m10
        have m11 : wr.cell? ⟨b, off + k * 13 + 5 + 6, none⟩ = _ := m11
        have m12 : wr.cell? ⟨b, off + k * 13 + 5 + 7, none⟩ = _ := m12
        go_wp2_with (at_builtin; go_must (refine wpList_app _ rfl _ _ 23 rfl (e := formT) (te := 41) info_form Try.underlying23 rfl (by decide) (base := w.heap.size) (S := S) (v := .slice oa ol oc) (xs := xs ++ formsOf (ys.take k)) rfl (HO.out.alloc _) (by have := HB.out.size; simp only [World.size_alloc]; omega) rfl (ys := [yf]) (Src.new _ [_, _, _, _, _, _, _, _] _ _ _) (RdL.one (e := formT) (HRF.out.below ((Below.refl _ _).alloc (Nat.le_refl _) _) (fun b hb => Nat.lt_of_lt_of_le (HS.out b hb) HB.out.size))) (by have := HPL.out; simp only [List.length_singleton]; omega) (by have := HPL.out; simp only [List.length_singleton]; omega) ?_; intro v' w2 O2 g2 _ ob2; have HO2 := Lib.hid O2; have HB2 := Lib.hid ((HB.out.alloc HB.out.size _).grown g2 (by have := HB.out.size; simp only [World.size_alloc]; omega) (fun c hc => (HO.out.own c hc).1)); clear O2 g2 ob2))
        go_roundw
        case rel => exact ⟨k + 1, HLT.out, by go_num, by rw [HSU.out, ← List.append_assoc]; exact HO2.out, HB2.out⟩
        case measure => simp [intOf]; try omega
      · have HSU := Lib.hid hsucc
        rw [if_neg hkd, List.append_nil] at hsucc
        have HSU := Lib.hid hsucc
        have HOut := HO
        clear hrf hsucc hb hkx hlt hpl m5 m6 m7 m8 m9 m10 m11 m12
        go_wp2_with fail
        go_roundw
        case rel => exact ⟨k + 1, HLT.out, by go_num, by rw [HSU.out]; exact HO.out, HB.out⟩
        case measure => simp [intOf]; try omega
    · obtain rfl : len2 = k := by omega
      have hall : ys.take len2 = ys := List.take_of_length_le (by rw [HL2.out]; exact Nat.le_refl _)
      rw [hall] at HO HOL
      have HR := Lib.hid (HO.out.rd (fun b => b < wr.heap.size) (fun b hb => (HO.out.bound b hb).2) (fun b hb => (HO.out.own b hb).2))
      obtain ⟨zs, hzs⟩ : ∃ zs, xs ++ formsOf ys = zs := ⟨_, rfl⟩
      have HZS := Lib.hid hzs
      rw [hzs] at HR HOL
      have HZ := Lib.hid (HR.out.sl_flat.1)
      obtain ⟨-, e1, e2, -⟩ := HR.out.sl_flat
      clear hlt hall hzs HO
      go_wp2_with fail
      go_loopw [7] (fun i w2 => ∃ q : Nat, q ≤ ol ∧ i = .int .i64 q ∧ (∀ j (hj : j < zs.length), j < q → (fm zs[j]).terms.length ≤ 6) ∧ w2 = wr) (fun i _ => ol - (intOf i).toNat)
      case atStart => exact ⟨0, Nat.zero_le _, rfl, fun j _ hj => absurd hj (by omega), rfl⟩
      case round =>
        obtain ⟨q, hq, rfl, hd, rfl⟩ := hrel
        have HD := Lib.hid hd
        clear hd
        by_cases hqt : q < ol
        · have hqx : q < zs.length := by rw [HZ.out]; exact hqt
          have hqI : (q : Int) < (ol : Int) := by omega
          obtain ⟨b, off, ta, tl, tc, rfl, -, -, -, -, -, m4, -, -, -, hfv⟩ := form_at HR.out q hqx
          obtain ⟨ta', tl', tc', ts, he, hT, ht, -⟩ := hfv
          simp only [Value.agg.injEq, Array.mk.injEq, List.cons.injEq, Value.slice.injEq, and_true, true_and] at he
          obtain ⟨rfl, rfl, rfl⟩ := he
          have htl : (fm zs[q]).terms.length = tl := by rw [ht, List.length_map]; exact hT.sl_flat.1
          have HTL := Lib.hid htl
          have HQ := Lib.hid hqt
          clear hT ht htl hqt
          by_cases h7 : tl ≤ 6
          · go_wp2_with fail
            go_roundw
            case rel => exact ⟨q + 1, HQ.out, by go_num, fun j hj hjq => by
              by_cases e : j = q
              · subst e; rw [HTL.out]; exact h7
              · exact HD.out j hj (by omega), trivial⟩
            case measure => simp [intOf]; try omega
          · go_wp2_with fail
            go_ret
            exact ⟨false, rfl, HB.out, fun h => by cases h⟩
        · obtain rfl : ol = q := by omega
          have hall : ∀ f ∈ zs, (fm f).terms.length ≤ 6 := fun f hf => by
            obtain ⟨j, hj, rfl⟩ := List.getElem_of_mem hf
            exact HD.out j hj (by rw [← HZ.out]; exact hj)
          have HALL := Lib.hid hall
          clear hall hqt
          go_wp2_with fail
          all_goals
            go_ret
            first
              | exact .inl ⟨rfl, HB.out⟩
              | (refine ⟨_, rfl, HB.out, fun h => ?_⟩
                 rw [HZS.out]
                 refine ⟨?_, ?_, HALL.out⟩ <;> simp_all <;> omega)
end Go.Proofs.Ytmmeieangbcfaaa
