/- Layer 48: the law's play: a memo after the steps. -/
import Derived.Test.YtmmeieangbcfaaaL48d
import Derived.Test.YtmmeieangbcfaaaC48z
set_option linter.unusedSimpArgs false
namespace Go.Proofs.Ytmmeieangbcfaaa
open Go.RowKit Go

theorem formsOf_sub {ys : List stepT.den} {k : Nat} {f : formT.den} (h : f ∈ formsOf (ys.take k)) : f ∈ formsOf ys := by
  unfold formsOf at h ⊢
  obtain ⟨y, hy, rfl⟩ := List.mem_map.1 h
  obtain ⟨h1, h2⟩ := List.mem_filter.1 hy
  exact List.mem_map_of_mem (List.mem_filter.2 ⟨List.mem_of_mem_take h1, h2⟩)
theorem TopI.le {l : List Fm} {s : MS} {b b' : Nat} (h : TopI l s b) (hb : b ≤ b') : TopI l s b' := ⟨h.base, h.prog, h.pn, Nat.le_trans h.n hb, Nat.le_trans h.comp hb⟩
/-- One formula in a row. -/
theorem oneform_rd {S : Nat → Prop} {w : World} {b : Nat} {c1 c2 c3 c4 : Int} {ta : Option Addr} {tl tc : Nat} {ad md sk : Int} {f : formT.den} (hS : S b) (hb : w.heap[b]? = some (.cells #[.int .i64 c1, .int .i64 c2, .int .i64 c3, .int .i64 c4, .slice ta tl tc, .int .i16 ad, .int .u8 md, .int .i8 sk] 41 (0, 0))) (hr : Rd formT S w [.int .i64 c1, .int .i64 c2, .int .i64 c3, .int .i64 c4, .slice ta tl tc, .int .i16 ad, .int .u8 md, .int .i8 sk] f) :
    Rd (.sl formT) S w [.slice (some ⟨b, 0, none⟩) 1 1] [f] := by
  refine ⟨_, 1, 1, rfl, rfl, Nat.le_refl _, by decide, .inr ⟨b, 0, rfl, hS, fun i hi => ?_⟩⟩
  have hi : i < 1 := hi
  obtain rfl : i = 0 := by omega
  exact ⟨[.int .i64 c1, .int .i64 c2, .int .i64 c3, .int .i64 c4, .slice ta tl tc, .int .i16 ad, .int .u8 md, .int .i8 sk], rfl, fun j u hu => by rw [show 0 + 0 * formT.sz + j = j by omega, blk_cell hb]; simpa using hu, hr⟩
def PlayP (w : World) (e : Ending) (w' : World) : Prop :=
  (e = .returned (.tuple #[.pointer none, .pointer none, .bool false]) ∧ Below w.heap.size w w') ∨
  ∃ n0 p sp kb pb F s zs v SS, e = .returned (.tuple #[.pointer (some ⟨p, 0, none⟩), .pointer (some ⟨sp, 0, none⟩), .bool true]) ∧ Below w.heap.size w w' ∧ w.heap.size ≤ n0 ∧ n0 ≤ w'.heap.size ∧ Pl n0 F w' p sp kb pb s zs v SS ∧ (∀ b, SS b ↔ b < w.heap.size) ∧ TopI (zs.map fm) s 7000 ∧ Small (zs.map fm) 34
set_option maxRecDepth 20000 in
set_option maxHeartbeats 1000000 in
theorem play48 (w : World) (a : Option Addr) (len cap : Nat) (xs : List formT.den) (hx : Rd (.sl formT) (fun b => b < w.heap.size) w [.slice a len cap] xs) (a2 : Option Addr) (len2 cap2 : Nat) (ys : List stepT.den) (hy : Rd (.sl stepT) (fun b => b < w.heap.size) w [.slice a2 len2 cap2] ys) (hb1 : len ≤ 1048576) (hb2 : len2 ≤ 1048576) :
    Calls Try.prog 9 #[.slice a len cap, .slice a2 len2 cap2] w (PlayP w) := by
  obtain ⟨hl, hlc, hm, -⟩ := hx.sl_flat
  obtain ⟨hl2, hlc2, hm2, -⟩ := hy.sl_flat
  have HX := Lib.hid hx
  have HY := Lib.hid hy
  have HL := Lib.hid hl
  have HL2 := Lib.hid hl2
  clear hx hy hl hl2
  go_enter Try.func9, Try.ntmps9
  go_wp2_with fail
  refine (few48 w a len cap xs HX.out (fun _ h => h) a2 len2 cap2 ys HY.out hb1 hb2).mono ?_
  rintro e w1 ⟨b1, rfl, hB1, hf⟩
  have HB1 := Lib.hid hB1
  have HF := Lib.hid hf
  clear hB1 hf
  cases b1
  · go_wp2_with fail
    refine bodyPost_ret (results_tmp3 rfl _ _ _) rfl ?_
    exact .inl ⟨rfl, HB1.out⟩
  have HF1 := Lib.hid (HF.out (by first | rfl | trivial))
  go_wp2_with fail
  refine (ranked48 w1 a len cap xs (HX.out.below HB1.out (fun _ h => h)) (fun b hb => Nat.lt_of_lt_of_le hb HB1.out.size)).mono ?_
  rintro e w2 ⟨b2, rfl, hB2, hrk⟩
  have HB2 := Lib.hid (below_step HB1.out hB2)
  have HRK := Lib.hid hrk
  clear hB2 hrk
  cases b2
  · go_wp2_with fail
    refine bodyPost_ret (results_tmp3 rfl _ _ _) rfl ?_
    exact .inl ⟨rfl, HB2.out⟩
  have HRK1 := Lib.hid (HRK.out (by first | rfl | trivial))
  have HL14 := Lib.hid (show len ≤ 14 ∧ len2 ≤ 20 from ⟨HF1.out.1, HF1.out.2.1⟩)
  go_wp2_with (at_builtin; go_must (refine wpList_copy w2 rfl _ _ 23 rfl (e := formT) info_form Try.underlying23 rfl (by decide) rfl (S := fun b => b < w.heap.size) (sv := .slice a len cap) (xs := xs) rfl (HX.out.below HB2.out (fun _ h => h)) (fun b hb => Nat.lt_of_lt_of_le hb HB2.out.size) HL.out (by omega) (by omega) ?_; intro g cv w3 O3 hg hB3 h5 h6; have HO3 := Lib.hid O3; have HB3 := Lib.hid hB3; clear O3 hB3))
  have HBZ := Lib.hid (show w.heap.size ≤ w2.heap.size from HB2.out.size)
  clear HF HRK hg h5 h6
  generalize hv : Value.slice (some ⟨g, 0, none⟩) len cv = v0 at *
  have hsr := heap_alloc_new w3 (.cells #[v0] 46)
  have hBs := (Below.refl _ w3).alloc (Nat.le_refl _) (.cells #[v0] 46)
  have hZ := HB3.out.size
  have hSH : ShO w2.heap.size (w3.alloc (.cells #[v0] 46)) w3.heap.size xs v0 (fun b => b < w.heap.size) :=
    ⟨hsr, HO3.out.below hBs, fun b hb e => by have := (HO3.out.own b hb).2; omega, fun b hb e => by have := HB2.out.size; omega, hZ⟩
  have HSH := Lib.hid hSH
  have HB4 := Lib.hid (below_step HB3.out hBs)
  clear hsr hBs hSH hZ
  generalize w3.alloc (.cells #[v0] 46) = w4 at *
  generalize w3.heap.size = sp at *
  refine (HSH.out.new HB4.out.size).mono ?_
  rintro e w5 ⟨rfl, hB5, -, F5, hP5, -⟩
  generalize w4.heap.size + 2 = p at *
  generalize w4.heap.size + 1 = pb at *
  have HP5 := Lib.hid hP5
  have HN5 := Lib.hid (below_step HB4.out hB5)
  clear hP5 hB5 HSH
  generalize w4.heap.size = kb at *
  have hgd : Try.prog.eqGuardType Try.prog.depth 26 = false := by kernel_rfl
  go_wp2_with fail
  go_loopw [9] (fun i wr => ∃ (k : Nat) (F : Nat → Nat) (s : MS) (v : Value), k ≤ len2 ∧ i = .int .i64 k ∧ Pl w2.heap.size F wr p sp kb pb s (xs ++ formsOf (ys.take k)) v (fun b => b < w.heap.size) ∧ TopI ((xs ++ formsOf (ys.take k)).map fm) s (300 * k) ∧ ranked ((xs ++ formsOf (ys.take k)).map fm) ∧ Below w2.heap.size w2 wr) (fun i _ => len2 - (intOf i).toNat)
  case atStart => exact ⟨0, F5, newS, v0, Nat.zero_le _, rfl, by rw [List.take_zero]; show Pl _ _ _ _ _ _ _ _ (xs ++ []) _ _; rw [List.append_nil]; exact HP5.out, top_new _, by rw [List.take_zero]; show ranked (List.map fm (xs ++ [])); rw [List.append_nil]; exact HRK1.out, HN5.out⟩
  case round =>
    obtain ⟨k, F, s, v, hk, rfl, hP, hT, hR, hB⟩ := hrel
    obtain ⟨av, lv, cv3, rfl, -⟩ := hP.own.slice
    have HP := Lib.hid hP
    have HT := Lib.hid hT
    have HR := Lib.hid hR
    have HB := Lib.hid hB
    have hsm : Small ((xs ++ formsOf (ys.take k)).map fm) 34 := by
      refine ⟨hR, ?_, fun f hf => ?_⟩
      · have h1 := formsOf_len (ys.take k)
        have h2 := HL14.out
        rw [List.length_take] at h1
        rw [List.length_map, List.length_append, HL.out]
        omega
      · obtain ⟨y, hy, rfl⟩ := List.mem_map.1 hf
        refine HF1.out.2.2 y ?_
        rcases List.mem_append.1 hy with h | h
        · exact List.mem_append_left _ h
        · exact List.mem_append_right _ (formsOf_sub h)
    have HSM := Lib.hid hsm
    clear hP hT hR hB hsm
    by_cases hlt : k < len2
    · have hkx : k < ys.length := by rw [HL2.out]; exact hlt
      have hkI : (k : Int) < (len2 : Int) := by omega
      have HYR := Lib.hid (HY.out.below (below_step HB2.out HB.out) (fun _ h => h))
      obtain ⟨b, off, ta, tl, tc, rfl, hb, m0, m1, m2, m3, m4, mok, m5, m6, m7, m8, m9, m10, m11, m12, hrf, fok⟩ := step_at HYR.out k hkx
      have hsucc := formsOf_succ ys k hkx
      have hfin : ys[k].1 = 1 → ys[k].2.2.1 ∈ formsOf ys := formsOf_mem hkx
      have HLT := Lib.hid hlt
      generalize ys[k] = y at m0 m1 m2 m3 m4 mok m5 m6 m7 m8 m9 m10 m11 m12 hrf fok hsucc hfin
      obtain ⟨kd, yc, yf, ⟨⟩⟩ := y
      change Int at kd
      simp only at m0 m1 m2 m3 m4 mok m5 m6 m7 m8 m9 m10 m11 m12 hrf fok hsucc hfin
      by_cases hkd0 : kd = 0
      · subst hkd0
        rw [if_neg (by decide), List.append_nil] at hsucc
        have hmost : (300 * k) ≤ 900000 := by have := HL14.out; omega
        obtain ⟨s', nw, hg, hT', -⟩ := top_get0 HSM.out (by decide) HT.out hmost (c4 yc)
        have HSU := Lib.hid hsucc
        have HG := Lib.hid hg
        have HT' := Lib.hid hT'
        have MOK := Lib.hid mok
        clear hsucc hg hT' mok hrf fok hfin m5 m6 m7 m8 m9 m10 m11 m12 hb hlt hmost hkx
        generalize c4 yc = cc at *
        obtain ⟨c1, c2, c3, c4'⟩ := cc
        simp only at m1 m2 m3 m4
        go_wp2_with fail
        refine (HP.out.get HB.out.size 500 (by decide) ⟨c1, c2, c3, c4'⟩ MOK.out _ HG.out).mono ?_
        rintro e w8 ⟨rfl, F8, hP8, hS8⟩
        have HP8 := Lib.hid hP8
        have HB8 := Lib.hid (HB.out.trans (hS8.gr.below HP.out.ow0 HB.out.size))
        clear hP8 hS8 m0 m1 m2 m3 m4
        go_wp2_with fail
        go_roundw
        case rel => exact ⟨k + 1, F8, s', _, HLT.out, by go_num, by rw [HSU.out]; exact HP8.out, by rw [HSU.out]; exact HT'.out.le (by omega), by rw [HSU.out]; exact HSM.out.1, HB8.out⟩
        case measure => simp [intOf]; try omega
      by_cases hkd1 : kd = 1
      · subst hkd1
        rw [if_pos rfl] at hsucc
        have hf6 : (fm yf).terms.length ≤ 6 := HF1.out.2.2 yf (List.mem_append_right _ (hfin rfl))
        have hrr : ranked ([yf].map fm) → ranked ((xs ++ formsOf (ys.take (k + 1))).map fm) := fun h => by
          rw [hsucc, ← List.append_assoc, List.map_append]
          intro f hf
          rcases List.mem_append.1 hf with h' | h'
          · exact HSM.out.1 f h'
          · exact h f h'
        have htt : ∀ s, TopI ((xs ++ formsOf (ys.take k)).map fm) s (300 * k) → TopI ((xs ++ formsOf (ys.take (k + 1))).map fm) (s.change (fm yf).cell) (300 * (k + 1)) := fun s h => by
          rw [hsucc, ← List.append_assoc, List.map_append]
          exact (top_change h (fm yf)).le (by omega)
        obtain ⟨fo, hfo⟩ : ∃ f, fm yf = f := ⟨_, rfl⟩
        rw [hfo] at m5 m6 m7 m8 m10 m11 m12 hrf fok htt
        obtain ⟨⟨d1, d2, d3, d4⟩, ft, fa, fmd, fs⟩ := fo
        simp only at m5 m6 m7 m8 m10 m11 m12 hrf htt
        have HSU := Lib.hid (show xs ++ formsOf (ys.take (k + 1)) = (xs ++ formsOf (ys.take k)) ++ [yf] by rw [hsucc, List.append_assoc])
        have HRR := Lib.hid hrr
        have HTT := Lib.hid htt
        have HRF := Lib.hid hrf
        have FOK := Lib.hid fok
        have HBL := Lib.hid (show w.heap.size ≤ wr.heap.size from Nat.le_trans HB2.out.size HB.out.size)
        have HPL := Lib.hid (show (xs ++ formsOf (ys.take k)).length ≤ 34 from by have := HSM.out.2.1; rw [List.length_map] at this; exact this)
        have M := Lib.hid (show ∀ wj, Below w.heap.size wr wj → Cells [(⟨b, off + k * 13 + 5, none⟩, .int .i64 d1), (⟨b, off + k * 13 + 5 + 1, none⟩, .int .i64 d2), (⟨b, off + k * 13 + 5 + 2, none⟩, .int .i64 d3), (⟨b, off + k * 13 + 5 + 3, none⟩, .int .i64 d4), (⟨b, off + k * 13 + 5 + 4, none⟩, .slice ta tl tc), (⟨b, off + k * 13 + 5 + 5, none⟩, .int .i16 fa), (⟨b, off + k * 13 + 5 + 6, none⟩, .int .u8 fmd), (⟨b, off + k * 13 + 5 + 7, none⟩, .int .i8 fs)] wj from fun wj hBj => ⟨(hBj.cell hb).trans m5, (hBj.cell hb).trans m6, (hBj.cell hb).trans m7, (hBj.cell hb).trans m8, (hBj.cell hb).trans m9, (hBj.cell hb).trans m10, (hBj.cell hb).trans m11, (hBj.cell hb).trans m12, trivial⟩)
        have m6 : wr.cell? ⟨b, off + k * 13 + 5 + 1, none⟩ = _ := m6
        have m7 : wr.cell? ⟨b, off + k * 13 + 5 + 2, none⟩ = _ := m7
        have m8 : wr.cell? ⟨b, off + k * 13 + 5 + 3, none⟩ = _ := m8
        have m9 : wr.cell? ⟨b, off + k * 13 + 5 + 4, none⟩ = _ := m9
        have m10 : wr.cell? ⟨b, off + k * 13 + 5 + 5, none⟩ = _ := m10
        have m11 : wr.cell? ⟨b, off + k * 13 + 5 + 6, none⟩ = _ := m11
        have m12 : wr.cell? ⟨b, off + k * 13 + 5 + 7, none⟩ = _ := m12
        clear hsucc hrr htt hfo hf6 hfin mok fok m1 m2 m3 m4 hb hlt hkx hrf
        go_wp2_with fail
        have hrow := heap_alloc_new wr (.cells #[.int .i64 d1, .int .i64 d2, .int .i64 d3, .int .i64 d4, .slice ta tl tc, .int .i16 fa, .int .u8 fmd, .int .i8 fs] 41)
        have hBr := (Below.refl _ wr).alloc (Nat.le_refl _) (.cells #[.int .i64 d1, .int .i64 d2, .int .i64 d3, .int .i64 d4, .slice ta tl tc, .int .i16 fa, .int .u8 fmd, .int .i8 fs] 41)
        refine (ranked48 (S := fun c => c < w.heap.size ∨ c = wr.heap.size) _ (some ⟨wr.heap.size, 0, none⟩) 1 1 [yf] (oneform_rd (.inr rfl) hrow ((HRF.out.below hBr (fun c hc => Nat.lt_of_lt_of_le hc HBL.out)).keep (fun _ _ => rfl) (fun _ h => .inl h))) (fun c hc => by have := HBL.out; simp only [World.size_alloc]; rcases hc with hc | hc <;> omega)).mono ?_
        rintro e w8 ⟨b8, rfl, hB8, hrk8⟩
        have hB8 := below_step hBr hB8
        have HB8 := Lib.hid hB8
        have HRK8 := Lib.hid hrk8
        clear hrow hBr hB8 hrk8 m5 m6 m7 m8 m9 m10 m11 m12
        cases b8
        · go_wp2_with fail
          refine bodyPost_ret (results_tmp3 rfl _ _ _) rfl ?_
          exact .inl ⟨rfl, below_step HB2.out (HB.out.trans (HB8.out.mono HB.out.size))⟩
        have HR8 := Lib.hid (HRR.out (HRK8.out (by first | rfl | trivial)))
        have HP8 := Lib.hid (HP.out.below HB8.out)
        have HN8 := Lib.hid (HB.out.trans (HB8.out.mono HB.out.size))
        have HW8 := Lib.hid (HB8.out.mono HBL.out)
        obtain ⟨m5, m6, m7, m8, m9, m10, m11, m12, -⟩ := M.out w8 HW8.out
        have HC0 : Cells [(⟨sp, 0, none⟩, .slice av lv cv3), (⟨b, off + k * 13 + 5, none⟩, .int .i64 d1), (⟨b, off + k * 13 + 5 + 1, none⟩, .int .i64 d2), (⟨b, off + k * 13 + 5 + 2, none⟩, .int .i64 d3), (⟨b, off + k * 13 + 5 + 3, none⟩, .int .i64 d4), (⟨b, off + k * 13 + 5 + 4, none⟩, .slice ta tl tc), (⟨b, off + k * 13 + 5 + 5, none⟩, .int .i16 fa), (⟨b, off + k * 13 + 5 + 6, none⟩, .int .u8 fmd), (⟨b, off + k * 13 + 5 + 7, none⟩, .int .i8 fs)] w8 := ⟨blk_cell HP8.out.row 0, m5, m6, m7, m8, m9, m10, m11, m12, trivial⟩
        clear m5 m6 m7 m8 m9 m10 m11 m12 HRR HRK8 HB HP HRK1
        go_wp2_with fail
        refine wp_region_T (Cells [(⟨sp, 0, none⟩, .slice av lv cv3), (⟨b, off + k * 13 + 5, none⟩, .int .i64 d1), (⟨b, off + k * 13 + 5 + 1, none⟩, .int .i64 d2), (⟨b, off + k * 13 + 5 + 2, none⟩, .int .i64 d3), (⟨b, off + k * 13 + 5 + 3, none⟩, .int .i64 d4), (⟨b, off + k * 13 + 5 + 4, none⟩, .slice ta tl tc), (⟨b, off + k * 13 + 5 + 5, none⟩, .int .i16 fa), (⟨b, off + k * 13 + 5 + 6, none⟩, .int .u8 fmd), (⟨b, off + k * 13 + 5 + 7, none⟩, .int .i8 fs)]) (fun i => i == 11 || i == 14) (by kernel_rfl) ?_
        have hSss1 := Cells.drew HC0
        have hB_0_s1 : Below w8.heap.size w8 w8.drew := below_drew _
        generalize w8.drew = s1 at hSss1 hB_0_s1 ⊢
        have hB_s1_s1 := Below.refl s1.heap.size s1
        refine wpAnyT_pure (i := 0) (v := ?_) rfl (by kernel_rfl) (by kernel_rfl) (by kernel_rfl) (fun _ _ _ h => h) (by rfl) ?_ ?_
        rotate_left
        · intro w; go_simp; try with_reducible rfl
        simp only [Act.put, List.setIfInBounds_toArray, List.set_cons_zero, List.set_cons_succ, List.getElem_toArray, List.getElem_cons_succ, List.getElem_cons_zero]
        refine wpAnyT_pure (i := 1) (v := ?_) rfl (by kernel_rfl) (by kernel_rfl) (by kernel_rfl) (fun _ _ _ h => h) (by rfl) ?_ ?_
        rotate_left
        · intro w; go_simp; try with_reducible rfl
        simp only [Act.put, List.setIfInBounds_toArray, List.set_cons_zero, List.set_cons_succ, List.getElem_toArray, List.getElem_cons_succ, List.getElem_cons_zero]
        refine wpAnyT_pure (i := 2) (v := ?_) rfl (by kernel_rfl) (by kernel_rfl) (by kernel_rfl) (fun _ _ _ h => h) (by rfl) ?_ ?_
        rotate_left
        · intro w; go_simp; try with_reducible rfl
        simp only [Act.put, List.setIfInBounds_toArray, List.set_cons_zero, List.set_cons_succ, List.getElem_toArray, List.getElem_cons_succ, List.getElem_cons_zero]
        refine wpAnyT_pure (i := 3) (v := ?_) rfl (by kernel_rfl) (by kernel_rfl) (by kernel_rfl) (fun _ _ _ h => h) (by rfl) ?_ ?_
        rotate_left
        · intro w; go_simp; try with_reducible rfl
        simp only [Act.put, List.setIfInBounds_toArray, List.set_cons_zero, List.set_cons_succ, List.getElem_toArray, List.getElem_cons_succ, List.getElem_cons_zero]
        refine wpAnyT_pure (i := 5) (v := ?_) rfl (by kernel_rfl) (by kernel_rfl) (by kernel_rfl) (fun _ _ _ h => h) (by rfl) ?_ ?_
        rotate_left
        · intro w; go_simp; try with_reducible rfl
        simp only [Act.put, List.setIfInBounds_toArray, List.set_cons_zero, List.set_cons_succ, List.getElem_toArray, List.getElem_cons_succ, List.getElem_cons_zero]
        refine wpAnyT_pure (i := 6) (v := ?_) rfl (by kernel_rfl) (by kernel_rfl) (by kernel_rfl) (fun _ _ _ h => h) (by rfl) ?_ ?_
        rotate_left
        · intro w; go_simp; try with_reducible rfl
        simp only [Act.put, List.setIfInBounds_toArray, List.set_cons_zero, List.set_cons_succ, List.getElem_toArray, List.getElem_cons_succ, List.getElem_cons_zero]
        refine wpAnyT_pure (i := 7) (v := ?_) rfl (by kernel_rfl) (by kernel_rfl) (by kernel_rfl) (fun _ _ _ h => h) (by rfl) ?_ ?_
        rotate_left
        · intro w; go_simp; try with_reducible rfl
        simp only [Act.put, List.setIfInBounds_toArray, List.set_cons_zero, List.set_cons_succ, List.getElem_toArray, List.getElem_cons_succ, List.getElem_cons_zero]
        refine wpAnyT_pure (i := 8) (v := ?_) rfl (by kernel_rfl) (by kernel_rfl) (by kernel_rfl) (fun _ _ _ h => h) (by rfl) ?_ ?_
        rotate_left
        · intro w; go_simp; try with_reducible rfl
        simp only [Act.put, List.setIfInBounds_toArray, List.set_cons_zero, List.set_cons_succ, List.getElem_toArray, List.getElem_cons_succ, List.getElem_cons_zero]
        refine wpAnyT_loadW (i := 4) (v := ?_) rfl (by kernel_rfl) (by kernel_rfl) (by kernel_rfl) (by kernel_rfl) (by kernel_rfl) (fun _ _ _ h => h) (Or.inl ⟨by rfl, ?_⟩) hSss1 ?_
        rotate_left
        · intro w hSw; obtain ⟨e0, e1, e2, e3, e4, e5, e6, e7, e8, -⟩ := hSw; go_simp; try with_reducible rfl
        simp only [Act.put, List.setIfInBounds_toArray, List.set_cons_zero, List.set_cons_succ, List.getElem_toArray, List.getElem_cons_succ, List.getElem_cons_zero]
        refine wpAnyT_loadW (i := 9) (v := ?_) rfl (by kernel_rfl) (by kernel_rfl) (by kernel_rfl) (by kernel_rfl) (by kernel_rfl) (fun _ _ _ h => h) (Or.inl ⟨by rfl, ?_⟩) hSss1 ?_
        rotate_left
        · intro w hSw; obtain ⟨e0, e1, e2, e3, e4, e5, e6, e7, e8, -⟩ := hSw; go_simp; try with_reducible rfl
        simp only [Act.put, List.setIfInBounds_toArray, List.set_cons_zero, List.set_cons_succ, List.getElem_toArray, List.getElem_cons_succ, List.getElem_cons_zero]
        refine wpAnyT_one (i := 10) (by kernel_rfl) rfl (by rfl) ?_
        obtain ⟨b20, hb20⟩ : ∃ b, (s1).heap.size = b := ⟨_, rfl⟩
        refine wp_newrow (v := .slice (some ⟨b20, 0, none⟩) 1 1) (cs := #[.int .i64 d1, .int .i64 d2, .int .i64 d3, .int .i64 d4, .slice ta tl tc, .int .i16 fa, .int .u8 fmd, .int .i8 fs]) (te := 41) (by rw [← hb20]; go_simp) ?_
        intro w102 hX hN20
        rw [hb20] at hN20
        have hB_s1_w102 := below_step hB_s1_s1 hX
        have hB_w102_w102 := Below.refl w102.heap.size w102
        have hSsw102 := Cells.below hB_s1_w102 hSss1
        clear hX
        refine ⟨fun _ _ => hSsw102, ?_⟩
        try simp only [Act.put, List.setIfInBounds_toArray, List.set_cons_zero, List.set_cons_succ, List.getElem_toArray, List.getElem_cons_succ, List.getElem_cons_zero]
        refine wpAnyT_one (i := 11) (by kernel_rfl) rfl (by rfl) ?_
        have hq20 := ((hB_w102_w102).block _ (blk_lt hN20)).trans hN20
        have hbP : Below w8.heap.size w8 w102 := hB_0_s1.trans ((hB_s1_w102).mono (hB_0_s1).size)
        have HPP := Lib.hid (HP8.out.below hbP)
        have HNP := Lib.hid (below_step HN8.out hbP)
        have HWP := Lib.hid (HW8.out.trans (hbP.mono (Nat.le_trans HBL.out HB8.out.size)))
        refine wp_app (.tmp 61) (.tmp 67) 23 rfl (e := formT) (te := 41) info_form Try.underlying23 rfl (by decide) (base := w2.heap.size) (S := fun c => c < w.heap.size) (v := .slice av lv cv3) (xs := xs ++ formsOf (ys.take k)) (by kernel_rfl) HPP.out.own HNP.out.size (sv := .slice (some ⟨b20, 0, none⟩) 1 1) (by kernel_rfl) (ys := [yf]) (Src.of_cells (news := [.int .i64 d1, .int .i64 d2, .int .i64 d3, .int .i64 d4, .slice ta tl tc, .int .i16 fa, .int .u8 fmd, .int .i8 fs]) (fun j u hu => by rw [Nat.zero_add, blk_cell hq20]; simpa using hu)) (RdL.one (e := formT) (HRF.out.below HWP.out (fun _ h => h))) (by have := HPL.out; simp only [List.length_singleton]; omega) (by have := HPL.out; simp only [List.length_singleton]; omega) ?_
        intro ca9 cl9 cc9 w103 O8 g8 ob8
        have hput := HPP.out.put g8 O8 ob8 HNP.out.size HPP.out.fS
        have hvs := fun e => (HPP.out.fv sp e).2 rfl
        have hr8 := blk_gr (Gr.of_grown g8) HPP.out.row hvs
        have f8 := blk_frozen hr8 0
        have q8 := blk_cell hr8 0
        simp at q8
        clear O8 g8 ob8 hvs hr8 hbP hq20
        refine ⟨fun h => absurd h (by decide), ?_⟩
        try simp only [Act.put, List.setIfInBounds_toArray, List.set_cons_zero, List.set_cons_succ, List.getElem_toArray, List.getElem_cons_succ, List.getElem_cons_zero]
        refine wpAnyT_pure (i := 12) (v := ?_) rfl (by kernel_rfl) (by kernel_rfl) (by kernel_rfl) (fun _ _ _ h => h) (by rfl) ?_ ?_
        rotate_left
        · intro w; go_simp; try with_reducible rfl
        simp only [Act.put, List.setIfInBounds_toArray, List.set_cons_zero, List.set_cons_succ, List.getElem_toArray, List.getElem_cons_succ, List.getElem_cons_zero]
        refine wpAnyT_pure (i := 13) (v := ?_) rfl (by kernel_rfl) (by kernel_rfl) (by kernel_rfl) (fun _ _ _ h => h) (by rfl) ?_ ?_
        rotate_left
        · intro w; go_simp; try with_reducible rfl
        simp only [Act.put, List.setIfInBounds_toArray, List.set_cons_zero, List.set_cons_succ, List.getElem_toArray, List.getElem_cons_succ, List.getElem_cons_zero]
        refine wpAnyT_one (i := 14) (by kernel_rfl) rfl (by rfl) ?_
        refine wp_store1 (w' := (w103).setCell ⟨sp, 0, none⟩ (.slice ca9 cl9 cc9)) 23 (.tmp 70) (.tmp 68) rfl ⟨sp, 0, none⟩ (.slice ca9 cl9 cc9) (by kernel_rfl) (by kernel_rfl) (by go_simp) ?_
        clear f8 q8
        generalize (w103).setCell ⟨sp, 0, none⟩ (.slice ca9 cl9 cc9) = w104 at hput ⊢
        refine ⟨fun h => absurd h (by decide), ?_⟩
        try simp only [Act.put, List.setIfInBounds_toArray, List.set_cons_zero, List.set_cons_succ, List.getElem_toArray, List.getElem_cons_succ, List.getElem_cons_zero]
        refine wpAnyT_done (by kernel_rfl) ?_ _
        obtain ⟨w9, rfl⟩ : ∃ x, x = w104 := ⟨_, rfl⟩
        obtain ⟨hP9, hS9⟩ := hput
        have hB9 := hS9.gr.below HPP.out.ow0 HNP.out.size
        have HP9 := Lib.hid hP9
        have HN9 := Lib.hid (HNP.out.trans hB9)
        have HW9 := Lib.hid (HWP.out.trans (hB9.mono HBZ.out))
        clear hP9 hS9 hB9 HPP HNP HWP
        obtain ⟨m5, m6, m7, m8, -⟩ := M.out w9 HW9.out
        go_wp2_with fail
        refine (HP9.out.change HN9.out.size ⟨d1, d2, d3, d4⟩ FOK.out).mono ?_
        rintro e w10 ⟨rfl, hP10, hS10⟩
        have HP10 := Lib.hid hP10
        have HN10 := Lib.hid (HN9.out.trans (hS10.gr.below HP9.out.ow0 HN9.out.size))
        clear m5 m6 m7 m8 hP10 hS10
        go_wp2_with fail
        go_roundw
        case rel => exact ⟨k + 1, F, _, _, HLT.out, by go_num, by rw [HSU.out]; exact HP10.out, HTT.out s HT.out, HR8.out, HN10.out⟩
        case measure => simp [intOf]; try omega
      · rw [if_neg hkd1, List.append_nil] at hsucc
        have HSU := Lib.hid hsucc
        clear hsucc mok hrf fok hfin m1 m2 m3 m4 m5 m6 m7 m8 m9 m10 m11 m12 hb hlt hkx
        go_wp2_with fail
        go_roundw
        case rel => exact ⟨k + 1, F, s, _, HLT.out, by go_num, by rw [HSU.out]; exact HP.out, by rw [HSU.out]; exact HT.out.le (by omega), by rw [HSU.out]; exact HSM.out.1, HB.out⟩
        case measure => simp [intOf]; try omega
    · obtain rfl : len2 = k := by omega
      have hall : ys.take len2 = ys := List.take_of_length_le (by rw [HL2.out]; exact Nat.le_refl _)
      go_wp2_with fail
      refine bodyPost_ret (results_tmp3 rfl _ _ _) rfl ?_
      exact .inr ⟨_, p, sp, kb, pb, F, s, _, _, _, rfl, below_step HB2.out HB.out, HBZ.out, HB.out.size, HP.out, fun _ => Iff.rfl, HT.out.le (by have := HL14.out; omega), HSM.out⟩
end Go.Proofs.Ytmmeieangbcfaaa
