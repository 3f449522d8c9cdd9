/- Layer 56: the walk of LogScript. -/
import Derived.Test.YtkojomakibfncaaC56q
import Derived.Test.YtkojomakibfncaaC56p
import Derived.Test.YtkojomakibfncaaL56b
set_option linter.unusedSimpArgs false
namespace Go.Proofs.Ytkojomakibfncaa
open Go.RowKit Go

theorem Below.lt_of_cell {w : World} {b i : Nat} {v : Value} (h : w.cell? ⟨b, i, none⟩ = some v) : b < w.heap.size := World.block_lt_of_cell? w ⟨b, i, none⟩ h
theorem OwnsC.gr {base : Nat} {w w' : World} {v : Value} {xs : List Int} {F : Nat → Prop} (h : OwnsC base w v xs) (hg : Gr F w w') (hF : ∀ b, F b → b < base) : OwnsC base w' v xs := by
  rcases h with h | ⟨b, n, rfl, hb, h0, hl, hok, hn, hh⟩
  · exact .inl (Owns.gr h hg (fun _ h => h.elim) (fun b hb hf => by have := (Owns.own h b hb).1; have := hF b hf; omega))
  · exact .inr ⟨b, n, rfl, hb, h0, hl, hok, hn, blk_gr hg hh (fun hf => by have := hF b hf; omega)⟩
abbrev stepT : Ty := .pr rowT (.pr .bool (.pr (.int .i64) .un))
theorem stepT_sz : stepT.sz = 3 := rfl
theorem step_at {S : Nat → Prop} {w : World} {a : Option Addr} {len cap : Nat} {ss : List stepT.den} (h : Rd (.sl stepT) S w [.slice a len cap] ss) (i : Nat) (hi : i < ss.length) :
    ∃ b off ra rl rc, a = some ⟨b, off, none⟩ ∧ S b ∧ w.cell? ⟨b, off + i * 3, none⟩ = some (.slice ra rl rc) ∧ w.cell? ⟨b, off + i * 3 + 1, none⟩ = some (.bool ss[i].2.1) ∧ w.cell? ⟨b, off + i * 3 + 2, none⟩ = some (.int .i64 ss[i].2.2.1) ∧
      Rd rowT S w [.slice ra rl rc] ss[i].1 ∧ (Lit.int .i64 ss[i].2.2.1).wf = true := by
  obtain ⟨hl, -, -, vs, hr, hor⟩ := h.sl_flat
  obtain ⟨c, hc, hcc, hrd⟩ := hr.at_ i hi
  rcases hor with h0 | ⟨b, off, rfl, hb, hcell⟩
  · omega
  · generalize ss[i] = s at hrd ⊢
    obtain ⟨x, y, z, ⟨⟩⟩ := s
    obtain ⟨c1, r1, rfl, h1, c2, r2, rfl, h2, c3, r3, rfl, h3, rfl⟩ := hrd
    obtain ⟨ra, rl, rc, rfl, -⟩ := id h1
    obtain rfl := h2
    obtain ⟨rfl, h3⟩ := h3
    refine ⟨b, off, ra, rl, rc, rfl, hb, ?_, ?_, ?_, h1, h3⟩
    · rw [show off + i * 3 = off + (i * stepT.sz + 0) by rw [stepT_sz]; omega]; exact hcell _ _ (hcc 0 _ rfl)
    · rw [show off + i * 3 + 1 = off + (i * stepT.sz + 1) by rw [stepT_sz]; omega]; exact hcell _ _ (hcc 1 _ rfl)
    · rw [show off + i * 3 + 2 = off + (i * stepT.sz + 2) by rw [stepT_sz]; omega]; exact hcell _ _ (hcc 2 _ rfl)

set_option maxRecDepth 10000 in
set_option maxHeartbeats 8000000 in
theorem scriptWalk (w : World) (c0 : List Value) (rs : (Ty.sl (.sl (.int .u8))).den) (r0 : Rd (.sl (.sl (.int .u8))) (fun b => b < w.heap.size) w c0 rs)
    (c1 : List Value) (ss : (Ty.sl (.pr (.sl (.int .u8)) (.pr .bool (.pr (.int .i64) .un)))).den) (r1 : Rd (.sl (.pr (.sl (.int .u8)) (.pr .bool (.pr (.int .i64) .un)))) (fun b => b < w.heap.size) w c1 ss) :
    Calls Try.prog 9 #[valOf (.sl (.sl (.int .u8))) c0, valOf (.sl (.pr (.sl (.int .u8)) (.pr .bool (.pr (.int .i64) .un)))) c1] w fun e w' => e = .returned (.bool true) ∧ Below w.heap.size w w' := by
  obtain ⟨a, len, cap, rfl, hl, hlc, hcm, -⟩ := id r0
  obtain ⟨a1, len1, cap1, rfl, hl1, hlc1, hcm1, -⟩ := id r1
  change List (List Int) at rs
  change List stepT.den at ss
  simp only [valOf, List.headD_cons]
  have R0 := Lib.hid (show Rd (.sl rowT) (fun b => b < w.heap.size) w [.slice a len cap] rs from r0)
  have R1 := Lib.hid (show Rd (.sl stepT) (fun b => b < w.heap.size) w [.slice a1 len1 cap1] ss from r1)
  have HL := Lib.hid (show rs.length = len from hl)
  have HL1 := Lib.hid (show ss.length = len1 from hl1)
  clear r0 hl r1 hl1
  obtain ⟨fw, hfw⟩ : ∃ fw, fewB rs = fw := ⟨_, rfl⟩
  have HFW := Lib.hid hfw
  clear hfw
  by_cases hbad : fw = false ∨ 20 < len1
  · go_enter Try.func9, Try.ntmps9
    go_wp2_with fail
    refine (awake_sum _).mono ?_
    rintro e w1 ⟨rfl, hB1⟩
    have HR1 := Lib.hid (R0.out.alloc hB1)
    go_wp2_with fail
    refine (few_any _ _ _ _ _ HR1.out).mono ?_
    rw [HFW.out]
    rintro e w2 ⟨rfl, hw⟩
    subst w2
    rcases hbad with rfl | hbad
    · go_wp2
      go_ret
      exact ⟨rfl, hB1⟩
    · cases fw <;> go_wp2 <;> (go_ret; exact ⟨rfl, hB1⟩)
  have hfw1 : fw = true := by
    cases fw
    · exact absurd (.inl rfl) hbad
    · rfl
  have h20 : ¬ 20 < len1 := fun h => hbad (.inr h)
  subst hfw1
  have hfs := fewB_spec HFW.out
  have hbl := bytesI_len rs hfs.1 (by omega)
  have HFS := Lib.hid hfs
  have HOP := Lib.hid (openI_bytes rs (fun r hr => Nat.le_trans (hfs.1 r hr) (by omega)))
  have HBL := Lib.hid hbl
  have hlen20 : len ≤ 20 := by rw [← HL.out]; exact hfs.2
  clear hfs hbl hbad
  go_enter Try.func9, Try.ntmps9
  go_wp2_with fail
  refine (awake_sum _).mono ?_
  rintro e w1 ⟨rfl, hB1⟩
  have HR1 := Lib.hid (R0.out.alloc hB1)
  go_wp2_with fail
  refine (few_any _ _ _ _ _ HR1.out).mono ?_
  rw [HFW.out]
  rintro e w2 ⟨rfl, hw⟩
  subst w2
  go_wp2_with fail
  refine (refBytes_sum w1 a len cap rs HR1.out (fun r hr => Nat.le_trans (HFS.out.1 r hr) (by omega)) (by omega) (by have := HBL.out; omega)).mono ?_
  rintro e w3 ⟨v3, rfl, hB3, hO3⟩
  obtain ⟨a3, l3, c3, rfl, hl3⟩ := hO3.slice
  have hl3' : l3 ≤ 16000 := by rw [hl3]; exact HBL.out
  have HO3 := Lib.hid hO3
  clear hO3 hl3
  go_wp2_with fail
  refine (open_sum _ _ _ _ _ HO3.out.lt hl3').mono ?_
  rw [HOP.out]
  rintro e w4 ⟨p, F, rfl, hL4, hF4, hB4⟩
  have hB04 := below_step (below_step hB1 hB3) hB4
  have HL4 := Lib.hid hL4
  have HF4 := Lib.hid (fun b (hb : F b) => Nat.le_trans (below_step hB1 hB3).size (hF4 b hb))
  have HR4 := Lib.hid (R0.out.keep (w' := w4) (S' := fun b => b < w.heap.size) (fun b hb => hB04.block b hb) (fun _ h => h))
  have hs04 := hB04.size
  have HB04 := Lib.hid hB04
  clear hL4 hF4 hB1 hB3 hB4 hB04 HO3
  go_wp2_with (at_builtin; go_must (refine wpList_copy w4 rfl _ _ 28 rfl (e := rowT) info_bs Try.underlying28 rfl (by decide) rfl (S := fun b => b < w.heap.size) (sv := .slice a len cap) rfl HR4.out (fun b hb => Nat.lt_of_lt_of_le hb hs04) HL.out (by omega) (by omega) ?_; intro g5 cv5 w5 O5 hg5 hB5 h5 h6; have HO5 := Lib.hid O5; clear O5))
  have hB05 := below_step HB04.out hB5
  have HL5 := Lib.hid (HL4.out.below hB5)
  go_loopw [8, 9, 10, 11, 12, 13, 14] (fun v i _ _ _ _ _ wr => ∃ (q : Nat) (ps : List (List Int)) (F S : Nat → Prop), q ≤ len1 ∧ i = .int .i64 q ∧ LogIn F wr p ps ∧ Owns rowT 22 w.heap.size S wr v ps ∧ (∀ b, F b → w.heap.size ≤ b ∧ ¬ S b ∧ v.ownBlock ≠ some b) ∧ (∀ r ∈ ps, r.length ≤ 300) ∧ ps.length ≤ 20 + q ∧ Below w.heap.size w wr) (fun _ i _ _ _ _ _ _ => len1 - (intOf i).toNat)
  case atStart =>
    refine ⟨0, rs, F, fun b => b < w.heap.size, Nat.zero_le _, rfl, HL5.out, HO5.out.base hs04, fun b hb => ⟨HF4.out b hb, fun h => by have := HF4.out b hb; omega, fun e => ?_⟩, HFS.out.1, by have := HFS.out.2; omega, hB05⟩
    have h1 := HL4.out.lt b hb
    simp [Value.ownBlock] at e
    omega
  case round =>
    clear HL5 HO5
    obtain ⟨q, ps, F, S, hq, rfl, hL, hO, hF, hR, hN, hB⟩ := hrel
    obtain ⟨av, lv, cv, rfl, hlv, -⟩ := hO.slice
    have HL := Lib.hid hL
    have HO := Lib.hid hO
    have HF := Lib.hid hF
    have HR := Lib.hid hR
    have HB := Lib.hid hB
    have HLV := Lib.hid hlv
    have hsz := hB.size
    clear hL hO hF hR hlv
    by_cases hlt : q < len1
    · have hqs : q < ss.length := by rw [HL1.out]; exact hlt
      obtain ⟨b, off, ra, rl, rc, rfl, hb, k0, k1, k2, hrow, hnw⟩ := step_at (R1.out.keep (w' := wr) (S' := fun b => b < w.heap.size) (fun b hb => hB.block b hb) (fun _ h => h)) q hqs
      generalize ss[q] = s at k1 k2 hrow hnw
      obtain ⟨rec, cut, n, ⟨⟩⟩ := s
      simp only at k1 k2 hrow hnw
      have hrl : List.length rec = rl := hrow.ints.1
      have HROW := Lib.hid hrow
      have HRL := Lib.hid hrl
      have hqI : (q : Int) < (len1 : Int) := by omega
      clear hrow hB hb
      go_wp2_with fail
      have hh := heap_alloc_new wr (.cells #[.slice ra rl rc, .bool cut, .int .i64 n] 54)
      have hB1 : Below wr.heap.size wr (wr.alloc (.cells #[.slice ra rl rc, .bool cut, .int .i64 n] 54)) := (Below.refl _ wr).alloc (Nat.le_refl _) _
      generalize wr.alloc (.cells #[.slice ra rl rc, .bool cut, .int .i64 n] 54) = W1 at *
      refine (bytes_sum F W1 p ps (HL.out.below hB1) (fun r hr => Nat.le_trans (HR.out r hr) (by omega)) (by omega)).mono ?_
      rintro e w6 ⟨v6, rfl, hB6, hO6⟩
      obtain ⟨ab, lb, cb, rfl, hlb⟩ := hO6.slice
      have hsb := (Array.getElem?_eq_some_iff.1 hh).1
      have hh6 := (hB6.block _ hsb).trans hh
      have q0 : w6.cell? ⟨wr.heap.size, 0, none⟩ = some (.slice ra rl rc) := blk_cell hh6 0
      have q1 : w6.cell? ⟨wr.heap.size, 1, none⟩ = some (.bool cut) := blk_cell hh6 1
      have q2 : w6.cell? ⟨wr.heap.size, 2, none⟩ = some (.int .i64 n) := blk_cell hh6 2
      have hB16 := below_step hB1 hB6
      have HL6 := Lib.hid (HL.out.below hB16)
      have HO6 := Lib.hid (HO.out.below hB16)
      have HB6 := Lib.hid (below_step HB.out hB16)
      have HX6 := Lib.hid hO6
      have HLb := Lib.hid hlb
      have hsW := hB1.size
      have hs6 : wr.heap.size < w6.heap.size := Nat.lt_of_lt_of_le hsb hB6.size
      have hHH := Lib.hid hh6
      clear hO6 hlb hh hh6 hB1 hB6 hsb
      cases cut with
      | true =>
        by_cases hneg : n < 0
        · have hn0 : decide (n < 0) = true := by simp; omega
          have hTB := truncate_bad F w6 p n ps HL6.out (.inl hneg)
          have HTB := Lib.hid hTB
          clear hTB
          go_wp2_with (go_at_call 24; (with_reducible refine HTB.out.mono ?_); rintro e w7 ⟨rfl, hw7⟩; subst hw7)
          all_goals
            have HL8 := HL6
            have HOp := HO6
            have HF8 := HF
            have HR8 := HR
            have HB8 := HB6
            have HK1 := Lib.hid q1
            have HOb := HX6
            obtain ⟨S8, hS8⟩ : ∃ S8, S8 = S := ⟨_, rfl⟩
            subst hS8
            obtain ⟨F8, hF8⟩ : ∃ F8, F8 = F := ⟨_, rfl⟩
            subst hF8
            obtain ⟨ps8, hps8⟩ : ∃ ps8, ps8 = ps := ⟨_, rfl⟩
            subst hps8
            obtain ⟨pa, hpa⟩ : ∃ pa, pa = av := ⟨_, rfl⟩
            subst hpa
            obtain ⟨pl, hpl⟩ : ∃ pl, pl = lv := ⟨_, rfl⟩
            subst hpl
            obtain ⟨pc, hpc⟩ : ∃ pc, pc = cv := ⟨_, rfl⟩
            subst hpc
            have HPL8 := HLV
            have hl40 : ps8.length ≤ 40 := by omega
            have hbl8 := bytesI_len ps8 HR8.out hl40
            have HBL8 := Lib.hid hbl8
            obtain ⟨N8, hN8⟩ : ∃ N, bytesI ps8 = N := ⟨_, rfl⟩
            obtain ⟨T8, hT8⟩ : ∃ T, strOfNums N8 = T := ⟨_, rfl⟩
            have HN8 := Lib.hid hN8
            have HT8 := Lib.hid hT8
            clear hN8 hT8 hbl8
            go_wp2_with fail
            refine (bytes_sum F8 _ p ps8 HL8.out (fun r hr => Nat.le_trans (HR8.out r hr) (by omega)) (by omega)).mono ?_
            rw [HN8.out]
            rintro e w9 ⟨v9, rfl, hB9, hO9⟩
            obtain ⟨aa, la, ca, rfl, hla⟩ := hO9.slice
            have hlca : la ≤ ca := hO9.lt.ints.2.1
            have HL9 := Lib.hid (HL8.out.below hB9)
            have HOp9 := Lib.hid (HOp.out.below hB9)
            have HP9 := Lib.hid (HOp9.out.rd (fun b => b < w9.heap.size) (fun b hb => (HOp9.out.bound b hb).2) (fun b hb => (HOp9.out.own b hb).2))
            have hk9 : w9.cell? ⟨wr.heap.size, 1, none⟩ = some (.bool true) := (hB9.cell (p := ⟨wr.heap.size, 1, none⟩) (Below.lt_of_cell HK1.out)).trans HK1.out
            have HB9 := Lib.hid (below_step HB8.out hB9)
            have HK9 : Hid (∀ X, Below w9.heap.size w9 X → X.cell? ⟨wr.heap.size, 1, none⟩ = some (.bool true)) := Lib.hid (fun X hX => (hX.cell (p := ⟨wr.heap.size, 1, none⟩) (Below.lt_of_cell hk9)).trans hk9)
            have HCV : Hid (∀ X, Below w9.heap.size w9 X → Sem.run Try.prog (convert 22 9 (.slice aa la ca)) X = .ok (.string T8) X) := Lib.hid (fun X hX => by
              have h := Rd.conv (P := Try.prog) (w := X) (hO9.below hX).lt Try.underlying22 Try.underlying5 Try.underlying9
              rwa [HT8.out] at h)
            clear hO9 hk9 hB9 hla
            go_wp2_with fail
            refine wp_region_T (fun w' => Sem.run Try.prog (convert 22 9 (.slice aa la ca)) w' = .ok (.string T8) w') (fun _ => false) (by kernel_rfl) ?_
            have hS0 := HCV.out w9.drew (below_drew _)
            refine wpAnyT_pure (i := 0) (v := ?_) rfl (by kernel_rfl) (by kernel_rfl) (by kernel_rfl) (fun _ _ _ h => h) (by rfl) ?_ ?_
            rotate_left
            · intro w; go_simp; try with_reducible rfl
            simp only [Act.put, List.setIfInBounds_toArray, List.set_cons_zero, List.set_cons_succ, List.getElem_toArray, List.getElem_cons_succ, List.getElem_cons_zero]
            refine wpAnyT_pure (i := 1) (v := ?_) rfl (by kernel_rfl) (by kernel_rfl) (by kernel_rfl) (fun _ _ _ h => h) (by rfl) ?_ ?_
            rotate_left
            · intro w; go_simp; try with_reducible rfl
            simp only [Act.put, List.setIfInBounds_toArray, List.set_cons_zero, List.set_cons_succ, List.getElem_toArray, List.getElem_cons_succ, List.getElem_cons_zero]
            refine wpAnyT_pure (i := 2) (v := ?_) rfl (by kernel_rfl) (by kernel_rfl) (by kernel_rfl) (fun _ _ _ h => h) (by rfl) ?_ ?_
            rotate_left
            · intro w; go_simp; try with_reducible rfl
            simp only [Act.put, List.setIfInBounds_toArray, List.set_cons_zero, List.set_cons_succ, List.getElem_toArray, List.getElem_cons_succ, List.getElem_cons_zero]
            refine wpAnyT_pure (i := 3) (v := ?_) rfl (by kernel_rfl) (by kernel_rfl) (by kernel_rfl) (fun _ _ _ h => h) (by rfl) ?_ ?_
            rotate_left
            · intro w; go_simp; try with_reducible rfl
            simp only [Act.put, List.setIfInBounds_toArray, List.set_cons_zero, List.set_cons_succ, List.getElem_toArray, List.getElem_cons_succ, List.getElem_cons_zero]
            refine wpAnyT_pure (i := 4) (v := ?_) rfl (by kernel_rfl) (by kernel_rfl) (by kernel_rfl) (fun _ _ _ h => h) (by rfl) ?_ ?_
            rotate_left
            · intro w; go_simp; try with_reducible rfl
            simp only [Act.put, List.setIfInBounds_toArray, List.set_cons_zero, List.set_cons_succ, List.getElem_toArray, List.getElem_cons_succ, List.getElem_cons_zero]
            refine wpAnyT_pure (i := 6) (v := ?_) rfl (by kernel_rfl) (by kernel_rfl) (by kernel_rfl) (fun _ _ _ h => h) (by rfl) ?_ ?_
            rotate_left
            · intro w; go_simp; try with_reducible rfl
            simp only [Act.put, List.setIfInBounds_toArray, List.set_cons_zero, List.set_cons_succ, List.getElem_toArray, List.getElem_cons_succ, List.getElem_cons_zero]
            refine wpAnyT_one (i := 5) (by kernel_rfl) rfl (by rfl) ?_
            refine wp_enter (f := 14) (args := #[.pointer (some ⟨p, 0, none⟩)]) (by go_simp) (records_sum F8 w9.drew p ps8 (HL9.out.below (below_drew _)) (fun r hr => Nat.le_trans (HR8.out r hr) (by omega)) (by omega)) ?_
            rintro e x1 ⟨y1, S1, rfl, hX1, hO1, -⟩
            replace hX1 : Below w9.heap.size w9 x1 := (below_drew w9).trans hX1
            obtain ⟨a1', l1, c1, rfl, -⟩ := hO1.slice
            have HO1 := Lib.hid hO1
            clear hO1
            refine ⟨_, rfl, fun _ _ => HCV.out x1 hX1, ?_⟩
            have hS0 := HCV.out x1 hX1
            try simp only [Act.put, List.setIfInBounds_toArray, List.set_cons_zero, List.set_cons_succ, List.getElem_toArray, List.getElem_cons_succ, List.getElem_cons_zero]
            refine wpAnyT_one (i := 7) (by kernel_rfl) rfl (by rfl) ?_
            refine wp_enter (f := 13) (args := #[.slice a1' l1 c1, .slice pa pl pc]) (by go_simp) (same_sum x1 a1' pa l1 c1 pl pc ps8 ps8 (HO1.out.rd (fun b => b < x1.heap.size) (fun b hb => (HO1.out.bound b hb).2) (fun b hb => (HO1.out.own b hb).2)) (HP9.out.alloc hX1) (fun _ h => h) (fun _ h => h)) ?_
            rw [decide_eq_true rfl]
            rintro e x2 ⟨rfl, hX2⟩
            replace hX2 := below_step hX1 hX2
            refine ⟨_, rfl, fun _ _ => HCV.out x2 hX2, ?_⟩
            have hS0 := HCV.out x2 hX2
            try simp only [Act.put, List.setIfInBounds_toArray, List.set_cons_zero, List.set_cons_succ, List.getElem_toArray, List.getElem_cons_succ, List.getElem_cons_zero]
            refine wpAnyT_pure (i := 8) (v := ?_) rfl (by kernel_rfl) (by kernel_rfl) (by kernel_rfl) (fun _ _ _ h => h) (by rfl) ?_ ?_
            rotate_left
            · intro w; go_simp; try with_reducible rfl
            simp only [Act.put, List.setIfInBounds_toArray, List.set_cons_zero, List.set_cons_succ, List.getElem_toArray, List.getElem_cons_succ, List.getElem_cons_zero]
            refine wpAnyT_pure (i := 9) (v := ?_) rfl (by kernel_rfl) (by kernel_rfl) (by kernel_rfl) (fun _ _ _ h => h) (by rfl) ?_ ?_
            rotate_left
            · intro w; go_simp; try with_reducible rfl
            simp only [Act.put, List.setIfInBounds_toArray, List.set_cons_zero, List.set_cons_succ, List.getElem_toArray, List.getElem_cons_succ, List.getElem_cons_zero]
            refine wpAnyT_pure (i := 10) (v := ?_) rfl (by kernel_rfl) (by kernel_rfl) (by kernel_rfl) (fun _ _ _ h => h) (by rfl) ?_ ?_
            rotate_left
            · intro w; go_simp; try with_reducible rfl
            simp only [Act.put, List.setIfInBounds_toArray, List.set_cons_zero, List.set_cons_succ, List.getElem_toArray, List.getElem_cons_succ, List.getElem_cons_zero]
            refine wpAnyT_pure (i := 11) (v := ?_) rfl (by kernel_rfl) (by kernel_rfl) (by kernel_rfl) (fun _ _ _ h => h) (by rfl) ?_ ?_
            rotate_left
            · intro w; go_simp; try with_reducible rfl
            simp only [Act.put, List.setIfInBounds_toArray, List.set_cons_zero, List.set_cons_succ, List.getElem_toArray, List.getElem_cons_succ, List.getElem_cons_zero]
            refine wpAnyT_pure (i := 13) (v := ?_) rfl (by kernel_rfl) (by kernel_rfl) (by kernel_rfl) (fun _ _ _ h => h) (by rfl) ?_ ?_
            rotate_left
            · intro w; go_simp; try with_reducible rfl
            simp only [Act.put, List.setIfInBounds_toArray, List.set_cons_zero, List.set_cons_succ, List.getElem_toArray, List.getElem_cons_succ, List.getElem_cons_zero]
            refine wpAnyT_loadW (i := 12) (v := ?_) rfl (by kernel_rfl) (by kernel_rfl) (by kernel_rfl) (by kernel_rfl) (by kernel_rfl) (fun _ _ _ h => h) (Or.inl ⟨by rfl, ?_⟩) hS0 ?_
            rotate_left
            · intro w hSw; go_simp; try with_reducible rfl
            simp only [Act.put, List.setIfInBounds_toArray, List.set_cons_zero, List.set_cons_succ, List.getElem_toArray, List.getElem_cons_succ, List.getElem_cons_zero]
            refine wpAnyT_one (i := 14) (by kernel_rfl) rfl (by rfl) ?_
            refine wp_enter (f := 22) (args := #[.slice pa pl pc]) (by go_simp) (refBytes_sum x2 pa pl pc ps8 (HP9.out.alloc hX2) (fun r hr => Nat.le_trans (HR8.out r hr) (by omega)) (by have := HPL8.out; omega) (Nat.le_trans HBL8.out (by omega))) ?_
            rw [HN8.out]
            rintro e x3 ⟨y3, rfl, hX3, hO3⟩
            obtain ⟨a3', l3', c3', rfl, -⟩ := hO3.slice
            have hcv3 := Rd.conv (P := Try.prog) (w := x3) hO3.lt Try.underlying22 Try.underlying5 Try.underlying9
            rw [HT8.out] at hcv3
            replace hX3 := below_step hX2 hX3
            clear hO3
            refine ⟨_, rfl, fun _ _ => HCV.out x3 hX3, ?_⟩
            try simp only [Act.put, List.setIfInBounds_toArray, List.set_cons_zero, List.set_cons_succ, List.getElem_toArray, List.getElem_cons_succ, List.getElem_cons_zero]
            refine wpAnyT_one (i := 15) (by kernel_rfl) rfl (by rfl) ?_
            refine wp_value (v := .string T8) (w' := x3) (by go_simp) ?_
            refine ⟨fun _ h => h, ?_⟩
            try simp only [Act.put, List.setIfInBounds_toArray, List.set_cons_zero, List.set_cons_succ, List.getElem_toArray, List.getElem_cons_succ, List.getElem_cons_zero]
            refine wpAnyT_pure (i := 16) (v := ?_) rfl (by kernel_rfl) (by kernel_rfl) (by kernel_rfl) (fun _ _ _ h => h) (by rfl) ?_ ?_
            rotate_left
            · intro w; go_simp; try with_reducible rfl
            simp only [Act.put, List.setIfInBounds_toArray, List.set_cons_zero, List.set_cons_succ, List.getElem_toArray, List.getElem_cons_succ, List.getElem_cons_zero]
            refine wpAnyT_pure (i := 17) (v := ?_) rfl (by kernel_rfl) (by kernel_rfl) (by kernel_rfl) (fun _ _ _ h => h) (by rfl) ?_ ?_
            rotate_left
            · intro w; go_simp; try with_reducible rfl
            simp only [Act.put, List.setIfInBounds_toArray, List.set_cons_zero, List.set_cons_succ, List.getElem_toArray, List.getElem_cons_succ, List.getElem_cons_zero]
            refine wpAnyT_pure (i := 18) (v := ?_) rfl (by kernel_rfl) (by kernel_rfl) (by kernel_rfl) (fun _ _ _ h => h) (by rfl) ?_ ?_
            rotate_left
            · intro w; go_simp; try with_reducible rfl
            simp only [Act.put, List.setIfInBounds_toArray, List.set_cons_zero, List.set_cons_succ, List.getElem_toArray, List.getElem_cons_succ, List.getElem_cons_zero]
            refine wpAnyT_pure (i := 19) (v := ?_) rfl (by kernel_rfl) (by kernel_rfl) (by kernel_rfl) (fun _ _ _ h => h) (by rfl) ?_ ?_
            rotate_left
            · intro w; go_simp; try with_reducible rfl
            simp only [Act.put, List.setIfInBounds_toArray, List.set_cons_zero, List.set_cons_succ, List.getElem_toArray, List.getElem_cons_succ, List.getElem_cons_zero]
            refine wpAnyT_pure (i := 21) (v := ?_) rfl (by kernel_rfl) (by kernel_rfl) (by kernel_rfl) (fun _ _ _ h => h) (by rfl) ?_ ?_
            rotate_left
            · intro w; go_simp; try with_reducible rfl
            simp only [Act.put, List.setIfInBounds_toArray, List.set_cons_zero, List.set_cons_succ, List.getElem_toArray, List.getElem_cons_succ, List.getElem_cons_zero]
            refine wpAnyT_one (i := 20) (by kernel_rfl) rfl (by rfl) ?_
            refine wp_enter (f := 20) (args := #[.pointer (some ⟨p, 0, none⟩)]) (by go_simp) (Head_sum F8 x3 p ps8 (HL9.out.below hX3)) ?_
            rintro e x4 ⟨rfl, hx⟩
            subst hx
            refine ⟨_, rfl, fun _ h => h, ?_⟩
            try simp only [Act.put, List.setIfInBounds_toArray, List.set_cons_zero, List.set_cons_succ, List.getElem_toArray, List.getElem_cons_succ, List.getElem_cons_zero]
            refine wpAnyT_one (i := 22) (by kernel_rfl) rfl (by rfl) ?_
            refine wp_enter (f := 26) (args := #[.slice pa pl pc]) (by go_simp) (Head_any pa pl pc ps8 x4 (HP9.out.alloc hX3)) ?_
            rintro e x5 ⟨rfl, hX5⟩
            replace hX5 := below_step hX3 hX5
            refine ⟨_, rfl, fun _ _ => HCV.out x5 hX5, ?_⟩
            try simp only [Act.put, List.setIfInBounds_toArray, List.set_cons_zero, List.set_cons_succ, List.getElem_toArray, List.getElem_cons_succ, List.getElem_cons_zero]
            refine wpAnyT_pure (i := 23) (v := ?_) rfl (by kernel_rfl) (by kernel_rfl) (by kernel_rfl) (fun _ _ _ h => h) (by rfl) ?_ ?_
            rotate_left
            · intro w; go_simp; try with_reducible rfl
            simp only [Act.put, List.setIfInBounds_toArray, List.set_cons_zero, List.set_cons_succ, List.getElem_toArray, List.getElem_cons_succ, List.getElem_cons_zero]
            refine wpAnyT_pure (i := 24) (v := ?_) rfl (by kernel_rfl) (by kernel_rfl) (by kernel_rfl) (fun _ _ _ h => h) (by rfl) ?_ ?_
            rotate_left
            · intro w; go_simp; try with_reducible rfl
            simp only [Act.put, List.setIfInBounds_toArray, List.set_cons_zero, List.set_cons_succ, List.getElem_toArray, List.getElem_cons_succ, List.getElem_cons_zero]
            refine wpAnyT_done (by kernel_rfl) ?_ _
            go_wp2_with fail
            clear hS0
            refine wp_region_T (fun w' => w'.cell? ⟨wr.heap.size, 1, none⟩ = some (.bool true)) (fun _ => false) (by kernel_rfl) ?_
            have hS0 := HK9.out x5.drew (hX5.drew)
            refine wpAnyT_pure (i := 0) (v := ?_) rfl (by kernel_rfl) (by kernel_rfl) (by kernel_rfl) (fun _ _ _ h => h) (by rfl) ?_ ?_
            rotate_left
            · intro w; go_simp; try with_reducible rfl
            simp only [Act.put, List.setIfInBounds_toArray, List.set_cons_zero, List.set_cons_succ, List.getElem_toArray, List.getElem_cons_succ, List.getElem_cons_zero]
            refine wpAnyT_loadW (i := 1) (v := ?_) rfl (by kernel_rfl) (by kernel_rfl) (by kernel_rfl) (by kernel_rfl) (by kernel_rfl) (fun _ _ _ h => h) (Or.inl ⟨by rfl, ?_⟩) hS0 ?_
            rotate_left
            · intro w hSw; go_simp; try with_reducible rfl
            simp only [Act.put, List.setIfInBounds_toArray, List.set_cons_zero, List.set_cons_succ, List.getElem_toArray, List.getElem_cons_succ, List.getElem_cons_zero]
            refine wpAnyT_pure (i := 2) (v := ?_) rfl (by kernel_rfl) (by kernel_rfl) (by kernel_rfl) (fun _ _ _ h => h) (by rfl) ?_ ?_
            rotate_left
            · intro w; go_simp; try with_reducible rfl
            simp only [Act.put, List.setIfInBounds_toArray, List.set_cons_zero, List.set_cons_succ, List.getElem_toArray, List.getElem_cons_succ, List.getElem_cons_zero]
            refine wpAnyT_pure (i := 3) (v := ?_) rfl (by kernel_rfl) (by kernel_rfl) (by kernel_rfl) (fun _ _ _ h => h) (by rfl) ?_ ?_
            rotate_left
            · intro w; go_simp; try with_reducible rfl
            simp only [Act.put, List.setIfInBounds_toArray, List.set_cons_zero, List.set_cons_succ, List.getElem_toArray, List.getElem_cons_succ, List.getElem_cons_zero]
            refine wpAnyT_skip (i := 4) rfl (by kernel_rfl) (by kernel_rfl) (by kernel_rfl) (fun _ _ _ h => h) (by rfl) ?_
            simp only [Act.put, List.setIfInBounds_toArray, List.set_cons_zero, List.set_cons_succ, List.getElem_toArray, List.getElem_cons_succ, List.getElem_cons_zero]
            refine wpAnyT_skip (i := 5) rfl (by kernel_rfl) (by kernel_rfl) (by kernel_rfl) (fun _ _ _ h => h) (by rfl) ?_
            simp only [Act.put, List.setIfInBounds_toArray, List.set_cons_zero, List.set_cons_succ, List.getElem_toArray, List.getElem_cons_succ, List.getElem_cons_zero]
            refine wpAnyT_skip (i := 6) rfl (by kernel_rfl) (by kernel_rfl) (by kernel_rfl) (fun _ _ _ h => h) (by rfl) ?_
            simp only [Act.put, List.setIfInBounds_toArray, List.set_cons_zero, List.set_cons_succ, List.getElem_toArray, List.getElem_cons_succ, List.getElem_cons_zero]
            refine wpAnyT_skip (i := 7) rfl (by kernel_rfl) (by kernel_rfl) (by kernel_rfl) (fun _ _ _ h => h) (by rfl) ?_
            simp only [Act.put, List.setIfInBounds_toArray, List.set_cons_zero, List.set_cons_succ, List.getElem_toArray, List.getElem_cons_succ, List.getElem_cons_zero]
            refine wpAnyT_skip (i := 8) rfl (by kernel_rfl) (by kernel_rfl) (by kernel_rfl) (fun _ _ _ h => h) (by rfl) ?_
            simp only [Act.put, List.setIfInBounds_toArray, List.set_cons_zero, List.set_cons_succ, List.getElem_toArray, List.getElem_cons_succ, List.getElem_cons_zero]
            refine wpAnyT_skip (i := 9) rfl (by kernel_rfl) (by kernel_rfl) (by kernel_rfl) (fun _ _ _ h => h) (by rfl) ?_
            simp only [Act.put, List.setIfInBounds_toArray, List.set_cons_zero, List.set_cons_succ, List.getElem_toArray, List.getElem_cons_succ, List.getElem_cons_zero]
            refine wpAnyT_skip (i := 10) rfl (by kernel_rfl) (by kernel_rfl) (by kernel_rfl) (fun _ _ _ h => h) (by rfl) ?_
            simp only [Act.put, List.setIfInBounds_toArray, List.set_cons_zero, List.set_cons_succ, List.getElem_toArray, List.getElem_cons_succ, List.getElem_cons_zero]
            refine wpAnyT_skip (i := 11) rfl (by kernel_rfl) (by kernel_rfl) (by kernel_rfl) (fun _ _ _ h => h) (by rfl) ?_
            simp only [Act.put, List.setIfInBounds_toArray, List.set_cons_zero, List.set_cons_succ, List.getElem_toArray, List.getElem_cons_succ, List.getElem_cons_zero]
            refine wpAnyT_skip (i := 12) rfl (by kernel_rfl) (by kernel_rfl) (by kernel_rfl) (fun _ _ _ h => h) (by rfl) ?_
            simp only [Act.put, List.setIfInBounds_toArray, List.set_cons_zero, List.set_cons_succ, List.getElem_toArray, List.getElem_cons_succ, List.getElem_cons_zero]
            refine wpAnyT_skip (i := 13) rfl (by kernel_rfl) (by kernel_rfl) (by kernel_rfl) (fun _ _ _ h => h) (by rfl) ?_
            simp only [Act.put, List.setIfInBounds_toArray, List.set_cons_zero, List.set_cons_succ, List.getElem_toArray, List.getElem_cons_succ, List.getElem_cons_zero]
            refine wpAnyT_skip (i := 14) rfl (by kernel_rfl) (by kernel_rfl) (by kernel_rfl) (fun _ _ _ h => h) (by rfl) ?_
            simp only [Act.put, List.setIfInBounds_toArray, List.set_cons_zero, List.set_cons_succ, List.getElem_toArray, List.getElem_cons_succ, List.getElem_cons_zero]
            refine wpAnyT_skip (i := 15) rfl (by kernel_rfl) (by kernel_rfl) (by kernel_rfl) (fun _ _ _ h => h) (by rfl) ?_
            simp only [Act.put, List.setIfInBounds_toArray, List.set_cons_zero, List.set_cons_succ, List.getElem_toArray, List.getElem_cons_succ, List.getElem_cons_zero]
            refine wpAnyT_skip (i := 16) rfl (by kernel_rfl) (by kernel_rfl) (by kernel_rfl) (fun _ _ _ h => h) (by rfl) ?_
            simp only [Act.put, List.setIfInBounds_toArray, List.set_cons_zero, List.set_cons_succ, List.getElem_toArray, List.getElem_cons_succ, List.getElem_cons_zero]
            refine wpAnyT_skip (i := 17) rfl (by kernel_rfl) (by kernel_rfl) (by kernel_rfl) (fun _ _ _ h => h) (by rfl) ?_
            simp only [Act.put, List.setIfInBounds_toArray, List.set_cons_zero, List.set_cons_succ, List.getElem_toArray, List.getElem_cons_succ, List.getElem_cons_zero]
            refine wpAnyT_skip (i := 18) rfl (by kernel_rfl) (by kernel_rfl) (by kernel_rfl) (fun _ _ _ h => h) (by rfl) ?_
            simp only [Act.put, List.setIfInBounds_toArray, List.set_cons_zero, List.set_cons_succ, List.getElem_toArray, List.getElem_cons_succ, List.getElem_cons_zero]
            refine wpAnyT_pure (i := 19) (v := ?_) rfl (by kernel_rfl) (by kernel_rfl) (by kernel_rfl) (fun _ _ _ h => h) (by rfl) ?_ ?_
            rotate_left
            · intro w; go_simp; try with_reducible rfl
            simp only [Act.put, List.setIfInBounds_toArray, List.set_cons_zero, List.set_cons_succ, List.getElem_toArray, List.getElem_cons_succ, List.getElem_cons_zero]
            refine wpAnyT_done (by kernel_rfl) ?_ _
            go_wp2
            go_roundw
            case rel => exact ⟨q + 1, ps8, F8, S8, by omega, by go_num, HL9.out.below hX5.drew, HOp9.out.below hX5.drew, HF8.out, HR8.out, by omega, below_step HB9.out hX5.drew⟩
            case measure => simp [intOf]; omega

        by_cases hbig : (lv : Int) < n
        · have hn0 : decide (n < 0) = false := by simp; omega
          have hn1 : decide ((lv : Int) < n) = true := by simp; omega
          have hTB := truncate_bad F w6 p n ps HL6.out (.inr (by have := HLV.out; omega))
          have HTB := Lib.hid hTB
          clear hTB
          go_wp2_with (go_at_call 24; (with_reducible refine HTB.out.mono ?_); rintro e w7 ⟨rfl, hw7⟩; subst hw7)
          all_goals
            have HL8 := HL6
            have HOp := HO6
            have HF8 := HF
            have HR8 := HR
            have HB8 := HB6
            have HK1 := Lib.hid q1
            have HOb := HX6
            obtain ⟨S8, hS8⟩ : ∃ S8, S8 = S := ⟨_, rfl⟩
            subst hS8
            obtain ⟨F8, hF8⟩ : ∃ F8, F8 = F := ⟨_, rfl⟩
            subst hF8
            obtain ⟨ps8, hps8⟩ : ∃ ps8, ps8 = ps := ⟨_, rfl⟩
            subst hps8
            obtain ⟨pa, hpa⟩ : ∃ pa, pa = av := ⟨_, rfl⟩
            subst hpa
            obtain ⟨pl, hpl⟩ : ∃ pl, pl = lv := ⟨_, rfl⟩
            subst hpl
            obtain ⟨pc, hpc⟩ : ∃ pc, pc = cv := ⟨_, rfl⟩
            subst hpc
            have HPL8 := HLV
            have hl40 : ps8.length ≤ 40 := by omega
            have hbl8 := bytesI_len ps8 HR8.out hl40
            have HBL8 := Lib.hid hbl8
            obtain ⟨N8, hN8⟩ : ∃ N, bytesI ps8 = N := ⟨_, rfl⟩
            obtain ⟨T8, hT8⟩ : ∃ T, strOfNums N8 = T := ⟨_, rfl⟩
            have HN8 := Lib.hid hN8
            have HT8 := Lib.hid hT8
            clear hN8 hT8 hbl8
            go_wp2_with fail
            refine (bytes_sum F8 _ p ps8 HL8.out (fun r hr => Nat.le_trans (HR8.out r hr) (by omega)) (by omega)).mono ?_
            rw [HN8.out]
            rintro e w9 ⟨v9, rfl, hB9, hO9⟩
            obtain ⟨aa, la, ca, rfl, hla⟩ := hO9.slice
            have hlca : la ≤ ca := hO9.lt.ints.2.1
            have HL9 := Lib.hid (HL8.out.below hB9)
            have HOp9 := Lib.hid (HOp.out.below hB9)
            have HP9 := Lib.hid (HOp9.out.rd (fun b => b < w9.heap.size) (fun b hb => (HOp9.out.bound b hb).2) (fun b hb => (HOp9.out.own b hb).2))
            have hk9 : w9.cell? ⟨wr.heap.size, 1, none⟩ = some (.bool true) := (hB9.cell (p := ⟨wr.heap.size, 1, none⟩) (Below.lt_of_cell HK1.out)).trans HK1.out
            have HB9 := Lib.hid (below_step HB8.out hB9)
            have HK9 : Hid (∀ X, Below w9.heap.size w9 X → X.cell? ⟨wr.heap.size, 1, none⟩ = some (.bool true)) := Lib.hid (fun X hX => (hX.cell (p := ⟨wr.heap.size, 1, none⟩) (Below.lt_of_cell hk9)).trans hk9)
            have HCV : Hid (∀ X, Below w9.heap.size w9 X → Sem.run Try.prog (convert 22 9 (.slice aa la ca)) X = .ok (.string T8) X) := Lib.hid (fun X hX => by
              have h := Rd.conv (P := Try.prog) (w := X) (hO9.below hX).lt Try.underlying22 Try.underlying5 Try.underlying9
              rwa [HT8.out] at h)
            clear hO9 hk9 hB9 hla
            go_wp2_with fail
            refine wp_region_T (fun w' => Sem.run Try.prog (convert 22 9 (.slice aa la ca)) w' = .ok (.string T8) w') (fun _ => false) (by kernel_rfl) ?_
            have hS0 := HCV.out w9.drew (below_drew _)
            refine wpAnyT_pure (i := 0) (v := ?_) rfl (by kernel_rfl) (by kernel_rfl) (by kernel_rfl) (fun _ _ _ h => h) (by rfl) ?_ ?_
            rotate_left
            · intro w; go_simp; try with_reducible rfl
            simp only [Act.put, List.setIfInBounds_toArray, List.set_cons_zero, List.set_cons_succ, List.getElem_toArray, List.getElem_cons_succ, List.getElem_cons_zero]
            refine wpAnyT_pure (i := 1) (v := ?_) rfl (by kernel_rfl) (by kernel_rfl) (by kernel_rfl) (fun _ _ _ h => h) (by rfl) ?_ ?_
            rotate_left
            · intro w; go_simp; try with_reducible rfl
            simp only [Act.put, List.setIfInBounds_toArray, List.set_cons_zero, List.set_cons_succ, List.getElem_toArray, List.getElem_cons_succ, List.getElem_cons_zero]
            refine wpAnyT_pure (i := 2) (v := ?_) rfl (by kernel_rfl) (by kernel_rfl) (by kernel_rfl) (fun _ _ _ h => h) (by rfl) ?_ ?_
            rotate_left
            · intro w; go_simp; try with_reducible rfl
            simp only [Act.put, List.setIfInBounds_toArray, List.set_cons_zero, List.set_cons_succ, List.getElem_toArray, List.getElem_cons_succ, List.getElem_cons_zero]
            refine wpAnyT_pure (i := 3) (v := ?_) rfl (by kernel_rfl) (by kernel_rfl) (by kernel_rfl) (fun _ _ _ h => h) (by rfl) ?_ ?_
            rotate_left
            · intro w; go_simp; try with_reducible rfl
            simp only [Act.put, List.setIfInBounds_toArray, List.set_cons_zero, List.set_cons_succ, List.getElem_toArray, List.getElem_cons_succ, List.getElem_cons_zero]
            refine wpAnyT_pure (i := 4) (v := ?_) rfl (by kernel_rfl) (by kernel_rfl) (by kernel_rfl) (fun _ _ _ h => h) (by rfl) ?_ ?_
            rotate_left
            · intro w; go_simp; try with_reducible rfl
            simp only [Act.put, List.setIfInBounds_toArray, List.set_cons_zero, List.set_cons_succ, List.getElem_toArray, List.getElem_cons_succ, List.getElem_cons_zero]
            refine wpAnyT_pure (i := 6) (v := ?_) rfl (by kernel_rfl) (by kernel_rfl) (by kernel_rfl) (fun _ _ _ h => h) (by rfl) ?_ ?_
            rotate_left
            · intro w; go_simp; try with_reducible rfl
            simp only [Act.put, List.setIfInBounds_toArray, List.set_cons_zero, List.set_cons_succ, List.getElem_toArray, List.getElem_cons_succ, List.getElem_cons_zero]
            refine wpAnyT_one (i := 5) (by kernel_rfl) rfl (by rfl) ?_
            refine wp_enter (f := 14) (args := #[.pointer (some ⟨p, 0, none⟩)]) (by go_simp) (records_sum F8 w9.drew p ps8 (HL9.out.below (below_drew _)) (fun r hr => Nat.le_trans (HR8.out r hr) (by omega)) (by omega)) ?_
            rintro e x1 ⟨y1, S1, rfl, hX1, hO1, -⟩
            replace hX1 : Below w9.heap.size w9 x1 := (below_drew w9).trans hX1
            obtain ⟨a1', l1, c1, rfl, -⟩ := hO1.slice
            have HO1 := Lib.hid hO1
            clear hO1
            refine ⟨_, rfl, fun _ _ => HCV.out x1 hX1, ?_⟩
            have hS0 := HCV.out x1 hX1
            try simp only [Act.put, List.setIfInBounds_toArray, List.set_cons_zero, List.set_cons_succ, List.getElem_toArray, List.getElem_cons_succ, List.getElem_cons_zero]
            refine wpAnyT_one (i := 7) (by kernel_rfl) rfl (by rfl) ?_
            refine wp_enter (f := 13) (args := #[.slice a1' l1 c1, .slice pa pl pc]) (by go_simp) (same_sum x1 a1' pa l1 c1 pl pc ps8 ps8 (HO1.out.rd (fun b => b < x1.heap.size) (fun b hb => (HO1.out.bound b hb).2) (fun b hb => (HO1.out.own b hb).2)) (HP9.out.alloc hX1) (fun _ h => h) (fun _ h => h)) ?_
            rw [decide_eq_true rfl]
            rintro e x2 ⟨rfl, hX2⟩
            replace hX2 := below_step hX1 hX2
            refine ⟨_, rfl, fun _ _ => HCV.out x2 hX2, ?_⟩
            have hS0 := HCV.out x2 hX2
            try simp only [Act.put, List.setIfInBounds_toArray, List.set_cons_zero, List.set_cons_succ, List.getElem_toArray, List.getElem_cons_succ, List.getElem_cons_zero]
            refine wpAnyT_pure (i := 8) (v := ?_) rfl (by kernel_rfl) (by kernel_rfl) (by kernel_rfl) (fun _ _ _ h => h) (by rfl) ?_ ?_
            rotate_left
            · intro w; go_simp; try with_reducible rfl
            simp only [Act.put, List.setIfInBounds_toArray, List.set_cons_zero, List.set_cons_succ, List.getElem_toArray, List.getElem_cons_succ, List.getElem_cons_zero]
            refine wpAnyT_pure (i := 9) (v := ?_) rfl (by kernel_rfl) (by kernel_rfl) (by kernel_rfl) (fun _ _ _ h => h) (by rfl) ?_ ?_
            rotate_left
            · intro w; go_simp; try with_reducible rfl
            simp only [Act.put, List.setIfInBounds_toArray, List.set_cons_zero, List.set_cons_succ, List.getElem_toArray, List.getElem_cons_succ, List.getElem_cons_zero]
            refine wpAnyT_pure (i := 10) (v := ?_) rfl (by kernel_rfl) (by kernel_rfl) (by kernel_rfl) (fun _ _ _ h => h) (by rfl) ?_ ?_
            rotate_left
            · intro w; go_simp; try with_reducible rfl
            simp only [Act.put, List.setIfInBounds_toArray, List.set_cons_zero, List.set_cons_succ, List.getElem_toArray, List.getElem_cons_succ, List.getElem_cons_zero]
            refine wpAnyT_pure (i := 11) (v := ?_) rfl (by kernel_rfl) (by kernel_rfl) (by kernel_rfl) (fun _ _ _ h => h) (by rfl) ?_ ?_
            rotate_left
            · intro w; go_simp; try with_reducible rfl
            simp only [Act.put, List.setIfInBounds_toArray, List.set_cons_zero, List.set_cons_succ, List.getElem_toArray, List.getElem_cons_succ, List.getElem_cons_zero]
            refine wpAnyT_pure (i := 13) (v := ?_) rfl (by kernel_rfl) (by kernel_rfl) (by kernel_rfl) (fun _ _ _ h => h) (by rfl) ?_ ?_
            rotate_left
            · intro w; go_simp; try with_reducible rfl
            simp only [Act.put, List.setIfInBounds_toArray, List.set_cons_zero, List.set_cons_succ, List.getElem_toArray, List.getElem_cons_succ, List.getElem_cons_zero]
            refine wpAnyT_loadW (i := 12) (v := ?_) rfl (by kernel_rfl) (by kernel_rfl) (by kernel_rfl) (by kernel_rfl) (by kernel_rfl) (fun _ _ _ h => h) (Or.inl ⟨by rfl, ?_⟩) hS0 ?_
            rotate_left
            · intro w hSw; go_simp; try with_reducible rfl
            simp only [Act.put, List.setIfInBounds_toArray, List.set_cons_zero, List.set_cons_succ, List.getElem_toArray, List.getElem_cons_succ, List.getElem_cons_zero]
            refine wpAnyT_one (i := 14) (by kernel_rfl) rfl (by rfl) ?_
            refine wp_enter (f := 22) (args := #[.slice pa pl pc]) (by go_simp) (refBytes_sum x2 pa pl pc ps8 (HP9.out.alloc hX2) (fun r hr => Nat.le_trans (HR8.out r hr) (by omega)) (by have := HPL8.out; omega) (Nat.le_trans HBL8.out (by omega))) ?_
            rw [HN8.out]
            rintro e x3 ⟨y3, rfl, hX3, hO3⟩
            obtain ⟨a3', l3', c3', rfl, -⟩ := hO3.slice
            have hcv3 := Rd.conv (P := Try.prog) (w := x3) hO3.lt Try.underlying22 Try.underlying5 Try.underlying9
            rw [HT8.out] at hcv3
            replace hX3 := below_step hX2 hX3
            clear hO3
            refine ⟨_, rfl, fun _ _ => HCV.out x3 hX3, ?_⟩
            try simp only [Act.put, List.setIfInBounds_toArray, List.set_cons_zero, List.set_cons_succ, List.getElem_toArray, List.getElem_cons_succ, List.getElem_cons_zero]
            refine wpAnyT_one (i := 15) (by kernel_rfl) rfl (by rfl) ?_
            refine wp_value (v := .string T8) (w' := x3) (by go_simp) ?_
            refine ⟨fun _ h => h, ?_⟩
            try simp only [Act.put, List.setIfInBounds_toArray, List.set_cons_zero, List.set_cons_succ, List.getElem_toArray, List.getElem_cons_succ, List.getElem_cons_zero]
            refine wpAnyT_pure (i := 16) (v := ?_) rfl (by kernel_rfl) (by kernel_rfl) (by kernel_rfl) (fun _ _ _ h => h) (by rfl) ?_ ?_
            rotate_left
            · intro w; go_simp; try with_reducible rfl
            simp only [Act.put, List.setIfInBounds_toArray, List.set_cons_zero, List.set_cons_succ, List.getElem_toArray, List.getElem_cons_succ, List.getElem_cons_zero]
            refine wpAnyT_pure (i := 17) (v := ?_) rfl (by kernel_rfl) (by kernel_rfl) (by kernel_rfl) (fun _ _ _ h => h) (by rfl) ?_ ?_
            rotate_left
            · intro w; go_simp; try with_reducible rfl
            simp only [Act.put, List.setIfInBounds_toArray, List.set_cons_zero, List.set_cons_succ, List.getElem_toArray, List.getElem_cons_succ, List.getElem_cons_zero]
            refine wpAnyT_pure (i := 18) (v := ?_) rfl (by kernel_rfl) (by kernel_rfl) (by kernel_rfl) (fun _ _ _ h => h) (by rfl) ?_ ?_
            rotate_left
            · intro w; go_simp; try with_reducible rfl
            simp only [Act.put, List.setIfInBounds_toArray, List.set_cons_zero, List.set_cons_succ, List.getElem_toArray, List.getElem_cons_succ, List.getElem_cons_zero]
            refine wpAnyT_pure (i := 19) (v := ?_) rfl (by kernel_rfl) (by kernel_rfl) (by kernel_rfl) (fun _ _ _ h => h) (by rfl) ?_ ?_
            rotate_left
            · intro w; go_simp; try with_reducible rfl
            simp only [Act.put, List.setIfInBounds_toArray, List.set_cons_zero, List.set_cons_succ, List.getElem_toArray, List.getElem_cons_succ, List.getElem_cons_zero]
            refine wpAnyT_pure (i := 21) (v := ?_) rfl (by kernel_rfl) (by kernel_rfl) (by kernel_rfl) (fun _ _ _ h => h) (by rfl) ?_ ?_
            rotate_left
            · intro w; go_simp; try with_reducible rfl
            simp only [Act.put, List.setIfInBounds_toArray, List.set_cons_zero, List.set_cons_succ, List.getElem_toArray, List.getElem_cons_succ, List.getElem_cons_zero]
            refine wpAnyT_one (i := 20) (by kernel_rfl) rfl (by rfl) ?_
            refine wp_enter (f := 20) (args := #[.pointer (some ⟨p, 0, none⟩)]) (by go_simp) (Head_sum F8 x3 p ps8 (HL9.out.below hX3)) ?_
            rintro e x4 ⟨rfl, hx⟩
            subst hx
            refine ⟨_, rfl, fun _ h => h, ?_⟩
            try simp only [Act.put, List.setIfInBounds_toArray, List.set_cons_zero, List.set_cons_succ, List.getElem_toArray, List.getElem_cons_succ, List.getElem_cons_zero]
            refine wpAnyT_one (i := 22) (by kernel_rfl) rfl (by rfl) ?_
            refine wp_enter (f := 26) (args := #[.slice pa pl pc]) (by go_simp) (Head_any pa pl pc ps8 x4 (HP9.out.alloc hX3)) ?_
            rintro e x5 ⟨rfl, hX5⟩
            replace hX5 := below_step hX3 hX5
            refine ⟨_, rfl, fun _ _ => HCV.out x5 hX5, ?_⟩
            try simp only [Act.put, List.setIfInBounds_toArray, List.set_cons_zero, List.set_cons_succ, List.getElem_toArray, List.getElem_cons_succ, List.getElem_cons_zero]
            refine wpAnyT_pure (i := 23) (v := ?_) rfl (by kernel_rfl) (by kernel_rfl) (by kernel_rfl) (fun _ _ _ h => h) (by rfl) ?_ ?_
            rotate_left
            · intro w; go_simp; try with_reducible rfl
            simp only [Act.put, List.setIfInBounds_toArray, List.set_cons_zero, List.set_cons_succ, List.getElem_toArray, List.getElem_cons_succ, List.getElem_cons_zero]
            refine wpAnyT_pure (i := 24) (v := ?_) rfl (by kernel_rfl) (by kernel_rfl) (by kernel_rfl) (fun _ _ _ h => h) (by rfl) ?_ ?_
            rotate_left
            · intro w; go_simp; try with_reducible rfl
            simp only [Act.put, List.setIfInBounds_toArray, List.set_cons_zero, List.set_cons_succ, List.getElem_toArray, List.getElem_cons_succ, List.getElem_cons_zero]
            refine wpAnyT_done (by kernel_rfl) ?_ _
            go_wp2_with fail
            clear hS0
            refine wp_region_T (fun w' => w'.cell? ⟨wr.heap.size, 1, none⟩ = some (.bool true)) (fun _ => false) (by kernel_rfl) ?_
            have hS0 := HK9.out x5.drew (hX5.drew)
            refine wpAnyT_pure (i := 0) (v := ?_) rfl (by kernel_rfl) (by kernel_rfl) (by kernel_rfl) (fun _ _ _ h => h) (by rfl) ?_ ?_
            rotate_left
            · intro w; go_simp; try with_reducible rfl
            simp only [Act.put, List.setIfInBounds_toArray, List.set_cons_zero, List.set_cons_succ, List.getElem_toArray, List.getElem_cons_succ, List.getElem_cons_zero]
            refine wpAnyT_loadW (i := 1) (v := ?_) rfl (by kernel_rfl) (by kernel_rfl) (by kernel_rfl) (by kernel_rfl) (by kernel_rfl) (fun _ _ _ h => h) (Or.inl ⟨by rfl, ?_⟩) hS0 ?_
            rotate_left
            · intro w hSw; go_simp; try with_reducible rfl
            simp only [Act.put, List.setIfInBounds_toArray, List.set_cons_zero, List.set_cons_succ, List.getElem_toArray, List.getElem_cons_succ, List.getElem_cons_zero]
            refine wpAnyT_pure (i := 2) (v := ?_) rfl (by kernel_rfl) (by kernel_rfl) (by kernel_rfl) (fun _ _ _ h => h) (by rfl) ?_ ?_
            rotate_left
            · intro w; go_simp; try with_reducible rfl
            simp only [Act.put, List.setIfInBounds_toArray, List.set_cons_zero, List.set_cons_succ, List.getElem_toArray, List.getElem_cons_succ, List.getElem_cons_zero]
            refine wpAnyT_pure (i := 3) (v := ?_) rfl (by kernel_rfl) (by kernel_rfl) (by kernel_rfl) (fun _ _ _ h => h) (by rfl) ?_ ?_
            rotate_left
            · intro w; go_simp; try with_reducible rfl
            simp only [Act.put, List.setIfInBounds_toArray, List.set_cons_zero, List.set_cons_succ, List.getElem_toArray, List.getElem_cons_succ, List.getElem_cons_zero]
            refine wpAnyT_skip (i := 4) rfl (by kernel_rfl) (by kernel_rfl) (by kernel_rfl) (fun _ _ _ h => h) (by rfl) ?_
            simp only [Act.put, List.setIfInBounds_toArray, List.set_cons_zero, List.set_cons_succ, List.getElem_toArray, List.getElem_cons_succ, List.getElem_cons_zero]
            refine wpAnyT_skip (i := 5) rfl (by kernel_rfl) (by kernel_rfl) (by kernel_rfl) (fun _ _ _ h => h) (by rfl) ?_
            simp only [Act.put, List.setIfInBounds_toArray, List.set_cons_zero, List.set_cons_succ, List.getElem_toArray, List.getElem_cons_succ, List.getElem_cons_zero]
            refine wpAnyT_skip (i := 6) rfl (by kernel_rfl) (by kernel_rfl) (by kernel_rfl) (fun _ _ _ h => h) (by rfl) ?_
            simp only [Act.put, List.setIfInBounds_toArray, List.set_cons_zero, List.set_cons_succ, List.getElem_toArray, List.getElem_cons_succ, List.getElem_cons_zero]
            refine wpAnyT_skip (i := 7) rfl (by kernel_rfl) (by kernel_rfl) (by kernel_rfl) (fun _ _ _ h => h) (by rfl) ?_
            simp only [Act.put, List.setIfInBounds_toArray, List.set_cons_zero, List.set_cons_succ, List.getElem_toArray, List.getElem_cons_succ, List.getElem_cons_zero]
            refine wpAnyT_skip (i := 8) rfl (by kernel_rfl) (by kernel_rfl) (by kernel_rfl) (fun _ _ _ h => h) (by rfl) ?_
            simp only [Act.put, List.setIfInBounds_toArray, List.set_cons_zero, List.set_cons_succ, List.getElem_toArray, List.getElem_cons_succ, List.getElem_cons_zero]
            refine wpAnyT_skip (i := 9) rfl (by kernel_rfl) (by kernel_rfl) (by kernel_rfl) (fun _ _ _ h => h) (by rfl) ?_
            simp only [Act.put, List.setIfInBounds_toArray, List.set_cons_zero, List.set_cons_succ, List.getElem_toArray, List.getElem_cons_succ, List.getElem_cons_zero]
            refine wpAnyT_skip (i := 10) rfl (by kernel_rfl) (by kernel_rfl) (by kernel_rfl) (fun _ _ _ h => h) (by rfl) ?_
            simp only [Act.put, List.setIfInBounds_toArray, List.set_cons_zero, List.set_cons_succ, List.getElem_toArray, List.getElem_cons_succ, List.getElem_cons_zero]
            refine wpAnyT_skip (i := 11) rfl (by kernel_rfl) (by kernel_rfl) (by kernel_rfl) (fun _ _ _ h => h) (by rfl) ?_
            simp only [Act.put, List.setIfInBounds_toArray, List.set_cons_zero, List.set_cons_succ, List.getElem_toArray, List.getElem_cons_succ, List.getElem_cons_zero]
            refine wpAnyT_skip (i := 12) rfl (by kernel_rfl) (by kernel_rfl) (by kernel_rfl) (fun _ _ _ h => h) (by rfl) ?_
            simp only [Act.put, List.setIfInBounds_toArray, List.set_cons_zero, List.set_cons_succ, List.getElem_toArray, List.getElem_cons_succ, List.getElem_cons_zero]
            refine wpAnyT_skip (i := 13) rfl (by kernel_rfl) (by kernel_rfl) (by kernel_rfl) (fun _ _ _ h => h) (by rfl) ?_
            simp only [Act.put, List.setIfInBounds_toArray, List.set_cons_zero, List.set_cons_succ, List.getElem_toArray, List.getElem_cons_succ, List.getElem_cons_zero]
            refine wpAnyT_skip (i := 14) rfl (by kernel_rfl) (by kernel_rfl) (by kernel_rfl) (fun _ _ _ h => h) (by rfl) ?_
            simp only [Act.put, List.setIfInBounds_toArray, List.set_cons_zero, List.set_cons_succ, List.getElem_toArray, List.getElem_cons_succ, List.getElem_cons_zero]
            refine wpAnyT_skip (i := 15) rfl (by kernel_rfl) (by kernel_rfl) (by kernel_rfl) (fun _ _ _ h => h) (by rfl) ?_
            simp only [Act.put, List.setIfInBounds_toArray, List.set_cons_zero, List.set_cons_succ, List.getElem_toArray, List.getElem_cons_succ, List.getElem_cons_zero]
            refine wpAnyT_skip (i := 16) rfl (by kernel_rfl) (by kernel_rfl) (by kernel_rfl) (fun _ _ _ h => h) (by rfl) ?_
            simp only [Act.put, List.setIfInBounds_toArray, List.set_cons_zero, List.set_cons_succ, List.getElem_toArray, List.getElem_cons_succ, List.getElem_cons_zero]
            refine wpAnyT_skip (i := 17) rfl (by kernel_rfl) (by kernel_rfl) (by kernel_rfl) (fun _ _ _ h => h) (by rfl) ?_
            simp only [Act.put, List.setIfInBounds_toArray, List.set_cons_zero, List.set_cons_succ, List.getElem_toArray, List.getElem_cons_succ, List.getElem_cons_zero]
            refine wpAnyT_skip (i := 18) rfl (by kernel_rfl) (by kernel_rfl) (by kernel_rfl) (fun _ _ _ h => h) (by rfl) ?_
            simp only [Act.put, List.setIfInBounds_toArray, List.set_cons_zero, List.set_cons_succ, List.getElem_toArray, List.getElem_cons_succ, List.getElem_cons_zero]
            refine wpAnyT_pure (i := 19) (v := ?_) rfl (by kernel_rfl) (by kernel_rfl) (by kernel_rfl) (fun _ _ _ h => h) (by rfl) ?_ ?_
            rotate_left
            · intro w; go_simp; try with_reducible rfl
            simp only [Act.put, List.setIfInBounds_toArray, List.set_cons_zero, List.set_cons_succ, List.getElem_toArray, List.getElem_cons_succ, List.getElem_cons_zero]
            refine wpAnyT_done (by kernel_rfl) ?_ _
            go_wp2
            go_roundw
            case rel => exact ⟨q + 1, ps8, F8, S8, by omega, by go_num, HL9.out.below hX5.drew, HOp9.out.below hX5.drew, HF8.out, HR8.out, by omega, below_step HB9.out hX5.drew⟩
            case measure => simp [intOf]; omega

        · obtain ⟨m, hm⟩ : ∃ m : Nat, n = (m : Int) := ⟨n.toNat, (Int.toNat_of_nonneg (Int.not_lt.1 hneg)).symm⟩
          subst hm
          have hn0 : decide ((m : Int) < 0) = false := by simp
          have hn1 : decide ((lv : Int) < (m : Int)) = false := by simp; omega
          have hml : m ≤ lv := by omega
          have hlv40 : lv ≤ 100 := by have := HLV.out; omega
          have hTS := truncate_sum F w6 p m ps HL6.out (by have := HLV.out; omega) (by omega)
          have HTS := Lib.hid hTS
          have HLC := Lib.hid (show lv ≤ cv from (HO.out.rd (fun _ => True) (fun _ _ => trivial) (fun _ _ => trivial)).rows.2.1)
          have hmc : m ≤ cv := by have := HLC.out; omega
          clear hTS
          go_wp2_with (first
            | (go_at_call 24; (with_reducible refine HTS.out.mono ?_); rintro e w7 ⟨rfl, F8, hL7, hF7, hG7⟩; have HL7 := Lib.hid hL7; have HF7 := Lib.hid hF7; have HG7 := Lib.hid hG7; have q1 := blk_cell (blk_gr hG7 hHH.out (fun e => by have := HL.out.lt _ e; omega)) 1; have q2 := blk_cell (blk_gr hG7 hHH.out (fun e => by have := HL.out.lt _ e; omega)) 2; have q2' : (w7.alloc (.cells #[] 22)).cell? ⟨wr.heap.size, 2, none⟩ = some (.int .i64 m) := (((Below.refl _ w7).alloc (Nat.le_refl _) _).cell (p := ⟨wr.heap.size, 2, none⟩) (Below.lt_of_cell q2)).trans q2; have q1h := Lib.hid q1; clear hL7 hF7 hG7)
            | (at_builtin; go_must (refine wpList_copy w7 rfl _ _ 28 rfl (e := rowT) info_bs Try.underlying28 rfl (by decide) rfl (S := fun b => S b ∨ (Value.slice av lv cv).ownBlock = some b) (sv := .slice av m cv) rfl (Rd.take ((HO6.out.gr HG7.out (fun b hb e => (HF.out b e).2.1 hb) (fun b hb e => (HF.out b e).2.2 hb)).rd _ (fun b hb => .inl hb) (fun b hb => .inr hb)) m hml) (fun b hb => Nat.lt_of_lt_of_le (by rcases hb with hb | hb; exact (HO6.out.bound b hb).2; exact (HO6.out.own b hb).2) HG7.out.size) (len := m) (by rw [List.length_take]; have := HLV.out; omega) (by omega) (by omega) ?_; intro g8 cv8 w8 O8 hg8 hB8 _ _; have HO8 := Lib.hid O8; have HB78 := Lib.hid hB8; have hg8' := hg8; have q1w := (hB8.cell (p := ⟨wr.heap.size, 1, none⟩) (Below.lt_of_cell q1h.out)).trans q1h.out; clear O8 hB8)))
          all_goals
            have hs67 := HG7.out.size
            have hs0 := HB6.out.size
            have HL8 := Lib.hid (HL7.out.below HB78.out)
            have HOp : Hid (Owns rowT 22 w.heap.size (fun b => S b ∨ (Value.slice av lv cv).ownBlock = some b) w8 (.slice (some ⟨g8, 0, none⟩) m cv8) (ps.take m)) := Lib.hid (HO8.out.base (by omega))
            have HF8 : Hid (∀ b, F8 b → w.heap.size ≤ b ∧ ¬ (S b ∨ (Value.slice av lv cv).ownBlock = some b) ∧ (Value.slice (some ⟨g8, 0, none⟩) m cv8).ownBlock ≠ some b) := Lib.hid (fun b hb => by
              have h7 := HL7.out.lt b hb
              refine ⟨?_, ?_, fun e => ?_⟩
              · rcases HF7.out b hb with h | h
                · exact (HF.out b h).1
                · omega
              · intro h
                rcases HF7.out b hb with h' | h'
                · rcases h with h | h
                  · exact (HF.out b h').2.1 h
                  · exact (HF.out b h').2.2 h
                · rcases h with h | h
                  · have := (HO6.out.bound b h).2; omega
                  · have := (HO6.out.own b h).2; omega
              · simp [Value.ownBlock] at e
                omega)
            have HR8 : Hid (∀ r ∈ ps.take m, r.length ≤ 300) := Lib.hid (fun r h => HR.out r (List.mem_of_mem_take h))
            have HB8 := Lib.hid (HB6.out.trans ((HG7.out.below (n := w.heap.size) (fun b hb => (HF.out b hb).1) hs0).trans (HB78.out.mono (by omega))))
            have HK1 := Lib.hid ((HB78.out.cell (p := ⟨wr.heap.size, 1, none⟩) (Below.lt_of_cell q1h.out)).trans q1h.out)
            have hl8 : (ps.take m).length ≤ 20 + q := by rw [List.length_take]; omega
            have HPL8 : Hid (m = (ps.take m).length) := Lib.hid (by rw [List.length_take]; have := HLV.out; omega)
            obtain ⟨S8, hS8⟩ : ∃ S8, S8 = (fun b => S b ∨ (Value.slice av lv cv).ownBlock = some b) := ⟨_, rfl⟩
            have HOp : Hid (Owns rowT 22 w.heap.size S8 w8 (.slice (some ⟨g8, 0, none⟩) m cv8) (ps.take m)) := by rw [hS8]; exact HOp
            have HF8 : Hid (∀ b, F8 b → w.heap.size ≤ b ∧ ¬ S8 b ∧ (Value.slice (some ⟨g8, 0, none⟩) m cv8).ownBlock ≠ some b) := by rw [hS8]; exact HF8
            generalize ps.take m = ps8 at *
            clear hS8 q1 q2 q2' q1w
            obtain ⟨pa, hpa⟩ : ∃ pa, pa = (some (⟨g8, 0, none⟩ : Addr)) := ⟨_, rfl⟩
            rw [← hpa] at HOp HF8 ⊢
            obtain ⟨pl, hpl⟩ : ∃ pl, pl = m := ⟨_, rfl⟩
            obtain ⟨pc, hpc⟩ : ∃ pc, pc = cv8 := ⟨_, rfl⟩
            subst hpl
            subst hpc
            clear hpa
            have hl40 : ps8.length ≤ 40 := by omega
            have hbl8 := bytesI_len ps8 HR8.out hl40
            have HBL8 := Lib.hid hbl8
            obtain ⟨N8, hN8⟩ : ∃ N, bytesI ps8 = N := ⟨_, rfl⟩
            obtain ⟨T8, hT8⟩ : ∃ T, strOfNums N8 = T := ⟨_, rfl⟩
            have HN8 := Lib.hid hN8
            have HT8 := Lib.hid hT8
            clear hN8 hT8 hbl8
            go_wp2_with fail
            refine (bytes_sum F8 _ p ps8 HL8.out (fun r hr => Nat.le_trans (HR8.out r hr) (by omega)) (by omega)).mono ?_
            rw [HN8.out]
            rintro e w9 ⟨v9, rfl, hB9, hO9⟩
            obtain ⟨aa, la, ca, rfl, hla⟩ := hO9.slice
            have hlca : la ≤ ca := hO9.lt.ints.2.1
            have HL9 := Lib.hid (HL8.out.below hB9)
            have HOp9 := Lib.hid (HOp.out.below hB9)
            have HP9 := Lib.hid (HOp9.out.rd (fun b => b < w9.heap.size) (fun b hb => (HOp9.out.bound b hb).2) (fun b hb => (HOp9.out.own b hb).2))
            have hk9 : w9.cell? ⟨wr.heap.size, 1, none⟩ = some (.bool true) := (hB9.cell (p := ⟨wr.heap.size, 1, none⟩) (Below.lt_of_cell HK1.out)).trans HK1.out
            have HB9 := Lib.hid (below_step HB8.out hB9)
            have HK9 : Hid (∀ X, Below w9.heap.size w9 X → X.cell? ⟨wr.heap.size, 1, none⟩ = some (.bool true)) := Lib.hid (fun X hX => (hX.cell (p := ⟨wr.heap.size, 1, none⟩) (Below.lt_of_cell hk9)).trans hk9)
            have HCV : Hid (∀ X, Below w9.heap.size w9 X → Sem.run Try.prog (convert 22 9 (.slice aa la ca)) X = .ok (.string T8) X) := Lib.hid (fun X hX => by
              have h := Rd.conv (P := Try.prog) (w := X) (hO9.below hX).lt Try.underlying22 Try.underlying5 Try.underlying9
              rwa [HT8.out] at h)
            clear hO9 hk9 hB9 hla
            go_wp2_with fail
            refine wp_region_T (fun w' => Sem.run Try.prog (convert 22 9 (.slice aa la ca)) w' = .ok (.string T8) w') (fun _ => false) (by kernel_rfl) ?_
            have hS0 := HCV.out w9.drew (below_drew _)
            refine wpAnyT_pure (i := 0) (v := ?_) rfl (by kernel_rfl) (by kernel_rfl) (by kernel_rfl) (fun _ _ _ h => h) (by rfl) ?_ ?_
            rotate_left
            · intro w; go_simp; try with_reducible rfl
            simp only [Act.put, List.setIfInBounds_toArray, List.set_cons_zero, List.set_cons_succ, List.getElem_toArray, List.getElem_cons_succ, List.getElem_cons_zero]
            refine wpAnyT_pure (i := 1) (v := ?_) rfl (by kernel_rfl) (by kernel_rfl) (by kernel_rfl) (fun _ _ _ h => h) (by rfl) ?_ ?_
            rotate_left
            · intro w; go_simp; try with_reducible rfl
            simp only [Act.put, List.setIfInBounds_toArray, List.set_cons_zero, List.set_cons_succ, List.getElem_toArray, List.getElem_cons_succ, List.getElem_cons_zero]
            refine wpAnyT_pure (i := 2) (v := ?_) rfl (by kernel_rfl) (by kernel_rfl) (by kernel_rfl) (fun _ _ _ h => h) (by rfl) ?_ ?_
            rotate_left
            · intro w; go_simp; try with_reducible rfl
            simp only [Act.put, List.setIfInBounds_toArray, List.set_cons_zero, List.set_cons_succ, List.getElem_toArray, List.getElem_cons_succ, List.getElem_cons_zero]
            refine wpAnyT_pure (i := 3) (v := ?_) rfl (by kernel_rfl) (by kernel_rfl) (by kernel_rfl) (fun _ _ _ h => h) (by rfl) ?_ ?_
            rotate_left
            · intro w; go_simp; try with_reducible rfl
            simp only [Act.put, List.setIfInBounds_toArray, List.set_cons_zero, List.set_cons_succ, List.getElem_toArray, List.getElem_cons_succ, List.getElem_cons_zero]
            refine wpAnyT_pure (i := 4) (v := ?_) rfl (by kernel_rfl) (by kernel_rfl) (by kernel_rfl) (fun _ _ _ h => h) (by rfl) ?_ ?_
            rotate_left
            · intro w; go_simp; try with_reducible rfl
            simp only [Act.put, List.setIfInBounds_toArray, List.set_cons_zero, List.set_cons_succ, List.getElem_toArray, List.getElem_cons_succ, List.getElem_cons_zero]
            refine wpAnyT_pure (i := 6) (v := ?_) rfl (by kernel_rfl) (by kernel_rfl) (by kernel_rfl) (fun _ _ _ h => h) (by rfl) ?_ ?_
            rotate_left
            · intro w; go_simp; try with_reducible rfl
            simp only [Act.put, List.setIfInBounds_toArray, List.set_cons_zero, List.set_cons_succ, List.getElem_toArray, List.getElem_cons_succ, List.getElem_cons_zero]
            refine wpAnyT_one (i := 5) (by kernel_rfl) rfl (by rfl) ?_
            refine wp_enter (f := 14) (args := #[.pointer (some ⟨p, 0, none⟩)]) (by go_simp) (records_sum F8 w9.drew p ps8 (HL9.out.below (below_drew _)) (fun r hr => Nat.le_trans (HR8.out r hr) (by omega)) (by omega)) ?_
            rintro e x1 ⟨y1, S1, rfl, hX1, hO1, -⟩
            replace hX1 : Below w9.heap.size w9 x1 := (below_drew w9).trans hX1
            obtain ⟨a1', l1, c1, rfl, -⟩ := hO1.slice
            have HO1 := Lib.hid hO1
            clear hO1
            refine ⟨_, rfl, fun _ _ => HCV.out x1 hX1, ?_⟩
            have hS0 := HCV.out x1 hX1
            try simp only [Act.put, List.setIfInBounds_toArray, List.set_cons_zero, List.set_cons_succ, List.getElem_toArray, List.getElem_cons_succ, List.getElem_cons_zero]
            refine wpAnyT_one (i := 7) (by kernel_rfl) rfl (by rfl) ?_
            refine wp_enter (f := 13) (args := #[.slice a1' l1 c1, .slice pa pl pc]) (by go_simp) (same_sum x1 a1' pa l1 c1 pl pc ps8 ps8 (HO1.out.rd (fun b => b < x1.heap.size) (fun b hb => (HO1.out.bound b hb).2) (fun b hb => (HO1.out.own b hb).2)) (HP9.out.alloc hX1) (fun _ h => h) (fun _ h => h)) ?_
            rw [decide_eq_true rfl]
            rintro e x2 ⟨rfl, hX2⟩
            replace hX2 := below_step hX1 hX2
            refine ⟨_, rfl, fun _ _ => HCV.out x2 hX2, ?_⟩
            have hS0 := HCV.out x2 hX2
            try simp only [Act.put, List.setIfInBounds_toArray, List.set_cons_zero, List.set_cons_succ, List.getElem_toArray, List.getElem_cons_succ, List.getElem_cons_zero]
            refine wpAnyT_pure (i := 8) (v := ?_) rfl (by kernel_rfl) (by kernel_rfl) (by kernel_rfl) (fun _ _ _ h => h) (by rfl) ?_ ?_
            rotate_left
            · intro w; go_simp; try with_reducible rfl
            simp only [Act.put, List.setIfInBounds_toArray, List.set_cons_zero, List.set_cons_succ, List.getElem_toArray, List.getElem_cons_succ, List.getElem_cons_zero]
            refine wpAnyT_pure (i := 9) (v := ?_) rfl (by kernel_rfl) (by kernel_rfl) (by kernel_rfl) (fun _ _ _ h => h) (by rfl) ?_ ?_
            rotate_left
            · intro w; go_simp; try with_reducible rfl
            simp only [Act.put, List.setIfInBounds_toArray, List.set_cons_zero, List.set_cons_succ, List.getElem_toArray, List.getElem_cons_succ, List.getElem_cons_zero]
            refine wpAnyT_pure (i := 10) (v := ?_) rfl (by kernel_rfl) (by kernel_rfl) (by kernel_rfl) (fun _ _ _ h => h) (by rfl) ?_ ?_
            rotate_left
            · intro w; go_simp; try with_reducible rfl
            simp only [Act.put, List.setIfInBounds_toArray, List.set_cons_zero, List.set_cons_succ, List.getElem_toArray, List.getElem_cons_succ, List.getElem_cons_zero]
            refine wpAnyT_pure (i := 11) (v := ?_) rfl (by kernel_rfl) (by kernel_rfl) (by kernel_rfl) (fun _ _ _ h => h) (by rfl) ?_ ?_
            rotate_left
            · intro w; go_simp; try with_reducible rfl
            simp only [Act.put, List.setIfInBounds_toArray, List.set_cons_zero, List.set_cons_succ, List.getElem_toArray, List.getElem_cons_succ, List.getElem_cons_zero]
            refine wpAnyT_pure (i := 13) (v := ?_) rfl (by kernel_rfl) (by kernel_rfl) (by kernel_rfl) (fun _ _ _ h => h) (by rfl) ?_ ?_
            rotate_left
            · intro w; go_simp; try with_reducible rfl
            simp only [Act.put, List.setIfInBounds_toArray, List.set_cons_zero, List.set_cons_succ, List.getElem_toArray, List.getElem_cons_succ, List.getElem_cons_zero]
            refine wpAnyT_loadW (i := 12) (v := ?_) rfl (by kernel_rfl) (by kernel_rfl) (by kernel_rfl) (by kernel_rfl) (by kernel_rfl) (fun _ _ _ h => h) (Or.inl ⟨by rfl, ?_⟩) hS0 ?_
            rotate_left
            · intro w hSw; go_simp; try with_reducible rfl
            simp only [Act.put, List.setIfInBounds_toArray, List.set_cons_zero, List.set_cons_succ, List.getElem_toArray, List.getElem_cons_succ, List.getElem_cons_zero]
            refine wpAnyT_one (i := 14) (by kernel_rfl) rfl (by rfl) ?_
            refine wp_enter (f := 22) (args := #[.slice pa pl pc]) (by go_simp) (refBytes_sum x2 pa pl pc ps8 (HP9.out.alloc hX2) (fun r hr => Nat.le_trans (HR8.out r hr) (by omega)) (by have := HPL8.out; omega) (Nat.le_trans HBL8.out (by omega))) ?_
            rw [HN8.out]
            rintro e x3 ⟨y3, rfl, hX3, hO3⟩
            obtain ⟨a3', l3', c3', rfl, -⟩ := hO3.slice
            have hcv3 := Rd.conv (P := Try.prog) (w := x3) hO3.lt Try.underlying22 Try.underlying5 Try.underlying9
            rw [HT8.out] at hcv3
            replace hX3 := below_step hX2 hX3
            clear hO3
            refine ⟨_, rfl, fun _ _ => HCV.out x3 hX3, ?_⟩
            try simp only [Act.put, List.setIfInBounds_toArray, List.set_cons_zero, List.set_cons_succ, List.getElem_toArray, List.getElem_cons_succ, List.getElem_cons_zero]
            refine wpAnyT_one (i := 15) (by kernel_rfl) rfl (by rfl) ?_
            refine wp_value (v := .string T8) (w' := x3) (by go_simp) ?_
            refine ⟨fun _ h => h, ?_⟩
            try simp only [Act.put, List.setIfInBounds_toArray, List.set_cons_zero, List.set_cons_succ, List.getElem_toArray, List.getElem_cons_succ, List.getElem_cons_zero]
            refine wpAnyT_pure (i := 16) (v := ?_) rfl (by kernel_rfl) (by kernel_rfl) (by kernel_rfl) (fun _ _ _ h => h) (by rfl) ?_ ?_
            rotate_left
            · intro w; go_simp; try with_reducible rfl
            simp only [Act.put, List.setIfInBounds_toArray, List.set_cons_zero, List.set_cons_succ, List.getElem_toArray, List.getElem_cons_succ, List.getElem_cons_zero]
            refine wpAnyT_pure (i := 17) (v := ?_) rfl (by kernel_rfl) (by kernel_rfl) (by kernel_rfl) (fun _ _ _ h => h) (by rfl) ?_ ?_
            rotate_left
            · intro w; go_simp; try with_reducible rfl
            simp only [Act.put, List.setIfInBounds_toArray, List.set_cons_zero, List.set_cons_succ, List.getElem_toArray, List.getElem_cons_succ, List.getElem_cons_zero]
            refine wpAnyT_pure (i := 18) (v := ?_) rfl (by kernel_rfl) (by kernel_rfl) (by kernel_rfl) (fun _ _ _ h => h) (by rfl) ?_ ?_
            rotate_left
            · intro w; go_simp; try with_reducible rfl
            simp only [Act.put, List.setIfInBounds_toArray, List.set_cons_zero, List.set_cons_succ, List.getElem_toArray, List.getElem_cons_succ, List.getElem_cons_zero]
            refine wpAnyT_pure (i := 19) (v := ?_) rfl (by kernel_rfl) (by kernel_rfl) (by kernel_rfl) (fun _ _ _ h => h) (by rfl) ?_ ?_
            rotate_left
            · intro w; go_simp; try with_reducible rfl
            simp only [Act.put, List.setIfInBounds_toArray, List.set_cons_zero, List.set_cons_succ, List.getElem_toArray, List.getElem_cons_succ, List.getElem_cons_zero]
            refine wpAnyT_pure (i := 21) (v := ?_) rfl (by kernel_rfl) (by kernel_rfl) (by kernel_rfl) (fun _ _ _ h => h) (by rfl) ?_ ?_
            rotate_left
            · intro w; go_simp; try with_reducible rfl
            simp only [Act.put, List.setIfInBounds_toArray, List.set_cons_zero, List.set_cons_succ, List.getElem_toArray, List.getElem_cons_succ, List.getElem_cons_zero]
            refine wpAnyT_one (i := 20) (by kernel_rfl) rfl (by rfl) ?_
            refine wp_enter (f := 20) (args := #[.pointer (some ⟨p, 0, none⟩)]) (by go_simp) (Head_sum F8 x3 p ps8 (HL9.out.below hX3)) ?_
            rintro e x4 ⟨rfl, hx⟩
            subst hx
            refine ⟨_, rfl, fun _ h => h, ?_⟩
            try simp only [Act.put, List.setIfInBounds_toArray, List.set_cons_zero, List.set_cons_succ, List.getElem_toArray, List.getElem_cons_succ, List.getElem_cons_zero]
            refine wpAnyT_one (i := 22) (by kernel_rfl) rfl (by rfl) ?_
            refine wp_enter (f := 26) (args := #[.slice pa pl pc]) (by go_simp) (Head_any pa pl pc ps8 x4 (HP9.out.alloc hX3)) ?_
            rintro e x5 ⟨rfl, hX5⟩
            replace hX5 := below_step hX3 hX5
            refine ⟨_, rfl, fun _ _ => HCV.out x5 hX5, ?_⟩
            try simp only [Act.put, List.setIfInBounds_toArray, List.set_cons_zero, List.set_cons_succ, List.getElem_toArray, List.getElem_cons_succ, List.getElem_cons_zero]
            refine wpAnyT_pure (i := 23) (v := ?_) rfl (by kernel_rfl) (by kernel_rfl) (by kernel_rfl) (fun _ _ _ h => h) (by rfl) ?_ ?_
            rotate_left
            · intro w; go_simp; try with_reducible rfl
            simp only [Act.put, List.setIfInBounds_toArray, List.set_cons_zero, List.set_cons_succ, List.getElem_toArray, List.getElem_cons_succ, List.getElem_cons_zero]
            refine wpAnyT_pure (i := 24) (v := ?_) rfl (by kernel_rfl) (by kernel_rfl) (by kernel_rfl) (fun _ _ _ h => h) (by rfl) ?_ ?_
            rotate_left
            · intro w; go_simp; try with_reducible rfl
            simp only [Act.put, List.setIfInBounds_toArray, List.set_cons_zero, List.set_cons_succ, List.getElem_toArray, List.getElem_cons_succ, List.getElem_cons_zero]
            refine wpAnyT_done (by kernel_rfl) ?_ _
            go_wp2_with fail
            clear hS0
            refine wp_region_T (fun w' => w'.cell? ⟨wr.heap.size, 1, none⟩ = some (.bool true)) (fun _ => false) (by kernel_rfl) ?_
            have hS0 := HK9.out x5.drew (hX5.drew)
            refine wpAnyT_pure (i := 0) (v := ?_) rfl (by kernel_rfl) (by kernel_rfl) (by kernel_rfl) (fun _ _ _ h => h) (by rfl) ?_ ?_
            rotate_left
            · intro w; go_simp; try with_reducible rfl
            simp only [Act.put, List.setIfInBounds_toArray, List.set_cons_zero, List.set_cons_succ, List.getElem_toArray, List.getElem_cons_succ, List.getElem_cons_zero]
            refine wpAnyT_loadW (i := 1) (v := ?_) rfl (by kernel_rfl) (by kernel_rfl) (by kernel_rfl) (by kernel_rfl) (by kernel_rfl) (fun _ _ _ h => h) (Or.inl ⟨by rfl, ?_⟩) hS0 ?_
            rotate_left
            · intro w hSw; go_simp; try with_reducible rfl
            simp only [Act.put, List.setIfInBounds_toArray, List.set_cons_zero, List.set_cons_succ, List.getElem_toArray, List.getElem_cons_succ, List.getElem_cons_zero]
            refine wpAnyT_pure (i := 2) (v := ?_) rfl (by kernel_rfl) (by kernel_rfl) (by kernel_rfl) (fun _ _ _ h => h) (by rfl) ?_ ?_
            rotate_left
            · intro w; go_simp; try with_reducible rfl
            simp only [Act.put, List.setIfInBounds_toArray, List.set_cons_zero, List.set_cons_succ, List.getElem_toArray, List.getElem_cons_succ, List.getElem_cons_zero]
            refine wpAnyT_pure (i := 3) (v := ?_) rfl (by kernel_rfl) (by kernel_rfl) (by kernel_rfl) (fun _ _ _ h => h) (by rfl) ?_ ?_
            rotate_left
            · intro w; go_simp; try with_reducible rfl
            simp only [Act.put, List.setIfInBounds_toArray, List.set_cons_zero, List.set_cons_succ, List.getElem_toArray, List.getElem_cons_succ, List.getElem_cons_zero]
            refine wpAnyT_skip (i := 4) rfl (by kernel_rfl) (by kernel_rfl) (by kernel_rfl) (fun _ _ _ h => h) (by rfl) ?_
            simp only [Act.put, List.setIfInBounds_toArray, List.set_cons_zero, List.set_cons_succ, List.getElem_toArray, List.getElem_cons_succ, List.getElem_cons_zero]
            refine wpAnyT_skip (i := 5) rfl (by kernel_rfl) (by kernel_rfl) (by kernel_rfl) (fun _ _ _ h => h) (by rfl) ?_
            simp only [Act.put, List.setIfInBounds_toArray, List.set_cons_zero, List.set_cons_succ, List.getElem_toArray, List.getElem_cons_succ, List.getElem_cons_zero]
            refine wpAnyT_skip (i := 6) rfl (by kernel_rfl) (by kernel_rfl) (by kernel_rfl) (fun _ _ _ h => h) (by rfl) ?_
            simp only [Act.put, List.setIfInBounds_toArray, List.set_cons_zero, List.set_cons_succ, List.getElem_toArray, List.getElem_cons_succ, List.getElem_cons_zero]
            refine wpAnyT_skip (i := 7) rfl (by kernel_rfl) (by kernel_rfl) (by kernel_rfl) (fun _ _ _ h => h) (by rfl) ?_
            simp only [Act.put, List.setIfInBounds_toArray, List.set_cons_zero, List.set_cons_succ, List.getElem_toArray, List.getElem_cons_succ, List.getElem_cons_zero]
            refine wpAnyT_skip (i := 8) rfl (by kernel_rfl) (by kernel_rfl) (by kernel_rfl) (fun _ _ _ h => h) (by rfl) ?_
            simp only [Act.put, List.setIfInBounds_toArray, List.set_cons_zero, List.set_cons_succ, List.getElem_toArray, List.getElem_cons_succ, List.getElem_cons_zero]
            refine wpAnyT_skip (i := 9) rfl (by kernel_rfl) (by kernel_rfl) (by kernel_rfl) (fun _ _ _ h => h) (by rfl) ?_
            simp only [Act.put, List.setIfInBounds_toArray, List.set_cons_zero, List.set_cons_succ, List.getElem_toArray, List.getElem_cons_succ, List.getElem_cons_zero]
            refine wpAnyT_skip (i := 10) rfl (by kernel_rfl) (by kernel_rfl) (by kernel_rfl) (fun _ _ _ h => h) (by rfl) ?_
            simp only [Act.put, List.setIfInBounds_toArray, List.set_cons_zero, List.set_cons_succ, List.getElem_toArray, List.getElem_cons_succ, List.getElem_cons_zero]
            refine wpAnyT_skip (i := 11) rfl (by kernel_rfl) (by kernel_rfl) (by kernel_rfl) (fun _ _ _ h => h) (by rfl) ?_
            simp only [Act.put, List.setIfInBounds_toArray, List.set_cons_zero, List.set_cons_succ, List.getElem_toArray, List.getElem_cons_succ, List.getElem_cons_zero]
            refine wpAnyT_skip (i := 12) rfl (by kernel_rfl) (by kernel_rfl) (by kernel_rfl) (fun _ _ _ h => h) (by rfl) ?_
            simp only [Act.put, List.setIfInBounds_toArray, List.set_cons_zero, List.set_cons_succ, List.getElem_toArray, List.getElem_cons_succ, List.getElem_cons_zero]
            refine wpAnyT_skip (i := 13) rfl (by kernel_rfl) (by kernel_rfl) (by kernel_rfl) (fun _ _ _ h => h) (by rfl) ?_
            simp only [Act.put, List.setIfInBounds_toArray, List.set_cons_zero, List.set_cons_succ, List.getElem_toArray, List.getElem_cons_succ, List.getElem_cons_zero]
            refine wpAnyT_skip (i := 14) rfl (by kernel_rfl) (by kernel_rfl) (by kernel_rfl) (fun _ _ _ h => h) (by rfl) ?_
            simp only [Act.put, List.setIfInBounds_toArray, List.set_cons_zero, List.set_cons_succ, List.getElem_toArray, List.getElem_cons_succ, List.getElem_cons_zero]
            refine wpAnyT_skip (i := 15) rfl (by kernel_rfl) (by kernel_rfl) (by kernel_rfl) (fun _ _ _ h => h) (by rfl) ?_
            simp only [Act.put, List.setIfInBounds_toArray, List.set_cons_zero, List.set_cons_succ, List.getElem_toArray, List.getElem_cons_succ, List.getElem_cons_zero]
            refine wpAnyT_skip (i := 16) rfl (by kernel_rfl) (by kernel_rfl) (by kernel_rfl) (fun _ _ _ h => h) (by rfl) ?_
            simp only [Act.put, List.setIfInBounds_toArray, List.set_cons_zero, List.set_cons_succ, List.getElem_toArray, List.getElem_cons_succ, List.getElem_cons_zero]
            refine wpAnyT_skip (i := 17) rfl (by kernel_rfl) (by kernel_rfl) (by kernel_rfl) (fun _ _ _ h => h) (by rfl) ?_
            simp only [Act.put, List.setIfInBounds_toArray, List.set_cons_zero, List.set_cons_succ, List.getElem_toArray, List.getElem_cons_succ, List.getElem_cons_zero]
            refine wpAnyT_skip (i := 18) rfl (by kernel_rfl) (by kernel_rfl) (by kernel_rfl) (fun _ _ _ h => h) (by rfl) ?_
            simp only [Act.put, List.setIfInBounds_toArray, List.set_cons_zero, List.set_cons_succ, List.getElem_toArray, List.getElem_cons_succ, List.getElem_cons_zero]
            refine wpAnyT_pure (i := 19) (v := ?_) rfl (by kernel_rfl) (by kernel_rfl) (by kernel_rfl) (fun _ _ _ h => h) (by rfl) ?_ ?_
            rotate_left
            · intro w; go_simp; try with_reducible rfl
            simp only [Act.put, List.setIfInBounds_toArray, List.set_cons_zero, List.set_cons_succ, List.getElem_toArray, List.getElem_cons_succ, List.getElem_cons_zero]
            refine wpAnyT_done (by kernel_rfl) ?_ _
            go_wp2
            go_roundw
            case rel => exact ⟨q + 1, ps8, F8, S8, by omega, by go_num, HL9.out.below hX5.drew, HOp9.out.below hX5.drew, HF8.out, HR8.out, by omega, below_step HB9.out hX5.drew⟩
            case measure => simp [intOf]; omega

      | false =>
        by_cases hlong : 300 < rl
        · have hlI : decide ((300 : Int) < (rl : Int)) = true := by simp; omega
          go_wp2
          all_goals
            go_ret
            exact ⟨rfl, HB6.out⟩

        · have hlI : decide ((300 : Int) < (rl : Int)) = false := by simp; omega
          have hlv40 : lv ≤ 100 := by have := HLV.out; omega
          have hB16' := HB.out
          have hs0 := HB6.out.size
          have HROW6 := Lib.hid (HROW.out.keep (w' := w6) (S' := fun b => b < w.heap.size) (fun b hb => hB16.block b (Nat.lt_of_lt_of_le hb hsz)) (fun _ h => h))
          have hAS := append_sum F (fun b => b < w.heap.size) w6 p ps HL6.out ra rl rc rec HROW6.out (fun b hb => ⟨Nat.lt_of_lt_of_le hb hs0, fun e => by have := (HF.out b e).1; omega⟩) (by omega) (by omega)
          have HAS := Lib.hid hAS
          have HOWN : Hid (∀ b, (Value.slice av lv cv).ownBlock = some b → w.heap.size ≤ b ∧ b < wr.heap.size) := Lib.hid HO.out.own
          clear hAS
          go_wp2_with (first
            | (go_at_call 23; (with_reducible refine HAS.out.mono ?_); rintro e w7 ⟨rfl, F8, hL7, hF7, hG7⟩; have HL7 := Lib.hid hL7; have HF7 := Lib.hid hF7; have HG7 := Lib.hid hG7; have hH7 := blk_gr hG7 hHH.out (fun e => by have := HL.out.lt _ e; omega); have q0 := blk_cell hH7 0; have q1 := blk_cell hH7 1; have q1h := Lib.hid q1; have HO7 := Lib.hid (HO6.out.gr hG7 (fun b hb e => (HF.out b e).2.1 hb) (fun b hb e => (HF.out b e).2.2 hb)); have HROW7 := Lib.hid (HROW6.out.keep (w' := w7) (S' := fun b => b < w.heap.size) (fun b hb => hG7.block b (Nat.lt_of_lt_of_le hb hs0) (fun e => by have := (HF.out b e).1; omega)) (fun _ h => h)); have hs67 := hG7.size; clear hL7 hF7 hG7 hH7)
            | (at_builtin; go_must (refine wpList_app _ rfl _ _ 28 rfl (e := rowT) info_bs Try.underlying28 rfl (by decide) (base := w.heap.size) (S := fun b => S b ∨ b < w.heap.size) (v := .slice av lv cv) (xs := ps) rfl ((HO7.out.alloc _).mono (fun b hb => .inl hb) (fun b hb => by
                rcases hb with hb | hb
                · exact (HO7.out.alloc _).bound b hb
                · exact ⟨fun e => by have := (HOWN.out b e).1; omega, by simp only [World.size_alloc]; omega⟩)) (by simp only [World.size_alloc]; omega) rfl (ys := [rec]) (Src.new _ [_] _ _ _) (RdL.one (e := rowT) (HROW7.out.keep (fun b hb => heap_alloc_old w7 _ (by omega)) (fun b hb => .inr hb))) (by simp only [List.length_cons, List.length_nil]; omega) (by simp only [List.length_cons, List.length_nil]; omega) ?_; intro v8 w8 O8 g8 _ hob; obtain ⟨pa, pl, pc, rfl, hpl, -⟩ := O8.slice; have HPL0 := Lib.hid hpl; have HO8 := Lib.hid O8; have HG8 := Lib.hid g8; have HOB := Lib.hid hob; have q1w := (Gr.of_grown g8).cell ((((Below.refl _ w7).alloc (Nat.le_refl _) (.cells #[.slice ra rl rc] 22)).cell (p := ⟨wr.heap.size, 1, none⟩) (Below.lt_of_cell q1h.out)).trans q1h.out) (fun e => Nat.lt_irrefl _ (show wr.heap.size < wr.heap.size from (HOWN.out _ e).2)); clear O8 g8 hob hpl)))
          all_goals
            have hsa : w7.heap.size < (w7.alloc (.cells #[.slice ra rl rc] 22)).heap.size := by simp
            have hBa : Below w7.heap.size w7 (w7.alloc (.cells #[.slice ra rl rc] 22)) := (Below.refl _ w7).alloc (Nat.le_refl _) _
            generalize w7.alloc (.cells #[.slice ra rl rc] 22) = W7 at *
            have HFB : Hid (∀ b, F8 b → w.heap.size ≤ b ∧ b < w7.heap.size ∧ ¬ S b ∧ (Value.slice av lv cv).ownBlock ≠ some b) := Lib.hid (fun b hb => by
              have h7 := HL7.out.lt b hb
              rcases HF7.out b hb with h | h
              · exact ⟨(HF.out b h).1, h7, (HF.out b h).2.1, (HF.out b h).2.2⟩
              · exact ⟨by omega, h7, fun e => by have := (HO6.out.bound b e).2; omega, fun e => by have := (HOWN.out b e).2; omega⟩)
            have HL8 : Hid (LogIn F8 w8 p (ps ++ [rec])) := Lib.hid ((HL7.out.below hBa).gr (Gr.of_grown HG8.out) (fun b hb e => (HFB.out b hb).2.2.2 e))
            have HF8 : Hid (∀ b, F8 b → w.heap.size ≤ b ∧ ¬ (S b ∨ b < w.heap.size) ∧ (Value.slice pa pl pc).ownBlock ≠ some b) := Lib.hid (fun b hb => by
              obtain ⟨f1, f2, f3, f4⟩ := HFB.out b hb
              refine ⟨f1, fun h => ?_, fun e => ?_⟩
              · rcases h with h | h
                · exact f3 h
                · omega
              · rcases HOB.out with h | h
                · exact f4 (h ▸ e)
                · rw [e] at h
                  simp only [Option.some.injEq] at h
                  omega)
            have HR8 : Hid (∀ r ∈ ps ++ [rec], r.length ≤ 300) := Lib.hid (fun r h => by
              rcases List.mem_append.1 h with h | h
              · exact HR.out r h
              · simp only [List.mem_singleton] at h
                rw [h, HRL.out]
                omega)
            have HB8 : Hid (Below w.heap.size w w8) := Lib.hid ((HB6.out.trans ((HG7.out.below (n := w.heap.size) (fun b hb => (HF.out b hb).1) hs0).trans (hBa.mono (by omega)))).grown HG8.out (by omega) (fun b e => (HOWN.out b e).1))
            have HK1 := Lib.hid q1w
            have hl8 : (ps ++ [rec]).length ≤ 20 + (q + 1) := by rw [List.length_append, List.length_singleton]; omega
            have HPL8 := HPL0
            have HPRE : Hid ((bytesI (ps ++ [rec])).take (bytesI ps).length = bytesI ps) := Lib.hid (by
              have h := bytesI_split (ps ++ [rec]) ps.length
              rw [List.take_left' rfl] at h
              rw [h, List.take_left' rfl])
            have HOb : Hid (OwnsC W1.heap.size w8 (.slice ab lb cb) (bytesI ps)) := Lib.hid (((HX6.out.gr HG7.out (fun b hb => Nat.lt_of_lt_of_le (HL.out.lt b hb) hsW)).below hBa).gr (Gr.of_grown HG8.out) (fun b hb => Nat.lt_of_lt_of_le (HOWN.out b hb).2 hsW))
            obtain ⟨S8, hS8⟩ : ∃ S8, S8 = (fun b => S b ∨ b < w.heap.size) := ⟨_, rfl⟩
            have HOp : Hid (Owns rowT 22 w.heap.size S8 w8 (.slice pa pl pc) (ps ++ [rec])) := by rw [hS8]; exact HO8
            have HF8 : Hid (∀ b, F8 b → w.heap.size ≤ b ∧ ¬ S8 b ∧ (Value.slice pa pl pc).ownBlock ≠ some b) := by rw [hS8]; exact HF8
            generalize ps ++ [rec] = ps8 at *
            clear hS8 q0 q1 q1w HG8 HOB HO7 HROW7 HAS HO8 HPL0 hBa
            have hl40 : ps8.length ≤ 40 := by omega
            have hbl8 := bytesI_len ps8 HR8.out hl40
            have HBL8 := Lib.hid hbl8
            obtain ⟨N8, hN8⟩ : ∃ N, bytesI ps8 = N := ⟨_, rfl⟩
            obtain ⟨T8, hT8⟩ : ∃ T, strOfNums N8 = T := ⟨_, rfl⟩
            have HN8 := Lib.hid hN8
            have HT8 := Lib.hid hT8
            clear hN8 hT8 hbl8
            go_wp2_with fail
            refine (bytes_sum F8 _ p ps8 HL8.out (fun r hr => Nat.le_trans (HR8.out r hr) (by omega)) (by omega)).mono ?_
            rw [HN8.out]
            rintro e w9 ⟨v9, rfl, hB9, hO9⟩
            obtain ⟨aa, la, ca, rfl, hla⟩ := hO9.slice
            have hlca : la ≤ ca := hO9.lt.ints.2.1
            have HL9 := Lib.hid (HL8.out.below hB9)
            have HOp9 := Lib.hid (HOp.out.below hB9)
            have HP9 := Lib.hid (HOp9.out.rd (fun b => b < w9.heap.size) (fun b hb => (HOp9.out.bound b hb).2) (fun b hb => (HOp9.out.own b hb).2))
            have hk9 : w9.cell? ⟨wr.heap.size, 1, none⟩ = some (.bool false) := (hB9.cell (p := ⟨wr.heap.size, 1, none⟩) (Below.lt_of_cell HK1.out)).trans HK1.out
            have HB9 := Lib.hid (below_step HB8.out hB9)
            have HK9 : Hid (∀ X, Below w9.heap.size w9 X → X.cell? ⟨wr.heap.size, 1, none⟩ = some (.bool false)) := Lib.hid (fun X hX => (hX.cell (p := ⟨wr.heap.size, 1, none⟩) (Below.lt_of_cell hk9)).trans hk9)
            have HCV : Hid (∀ X, Below w9.heap.size w9 X → Sem.run Try.prog (convert 22 9 (.slice aa la ca)) X = .ok (.string T8) X) := Lib.hid (fun X hX => by
              have h := Rd.conv (P := Try.prog) (w := X) (hO9.below hX).lt Try.underlying22 Try.underlying5 Try.underlying9
              rwa [HT8.out] at h)
            have HOb9 := Lib.hid (HOb.out.below hB9)
            have hlb : lb = (bytesI ps).length := HLb.out
            have hpre : N8.take lb = bytesI ps := by rw [← HN8.out, hlb]; exact HPRE.out
            have hlbla : lb ≤ la := by
              have h := congrArg List.length hpre
              rw [List.length_take, ← hlb] at h
              omega
            obtain ⟨Tb, hTb⟩ : ∃ T, strOfNums (bytesI ps) = T := ⟨_, rfl⟩
            have HCVb : Hid (∀ X, Below w9.heap.size w9 X → Sem.run Try.prog (convert 22 9 (.slice aa lb ca)) X = .ok (.string Tb) X ∧ Sem.run Try.prog (convert 22 9 (.slice ab lb cb)) X = .ok (.string Tb) X) := Lib.hid (fun X hX => by
              have h1 := Rd.conv (P := Try.prog) (w := X) (Rd.take (hO9.below hX).lt lb hlbla) Try.underlying22 Try.underlying5 Try.underlying9
              have h2 := Rd.conv (P := Try.prog) (w := X) (HOb9.out.below hX).lt Try.underlying22 Try.underlying5 Try.underlying9
              rw [hpre, hTb] at h1
              rw [hTb] at h2
              exact ⟨h1, h2⟩)
            have hdl : decide ((la : Int) < (lb : Int)) = false := by simp; omega
            have hdl2 : decide (la < lb) = false := by simp; omega
            have hlbc : lb ≤ ca := by omega
            clear hpre hTb hlb
            clear hO9 hk9 hB9 hla
            go_wp2_with fail
            refine wp_region_T (fun w' => Sem.run Try.prog (convert 22 9 (.slice aa la ca)) w' = .ok (.string T8) w') (fun _ => false) (by kernel_rfl) ?_
            have hS0 := HCV.out w9.drew (below_drew _)
            refine wpAnyT_pure (i := 0) (v := ?_) rfl (by kernel_rfl) (by kernel_rfl) (by kernel_rfl) (fun _ _ _ h => h) (by rfl) ?_ ?_
            rotate_left
            · intro w; go_simp; try with_reducible rfl
            simp only [Act.put, List.setIfInBounds_toArray, List.set_cons_zero, List.set_cons_succ, List.getElem_toArray, List.getElem_cons_succ, List.getElem_cons_zero]
            refine wpAnyT_pure (i := 1) (v := ?_) rfl (by kernel_rfl) (by kernel_rfl) (by kernel_rfl) (fun _ _ _ h => h) (by rfl) ?_ ?_
            rotate_left
            · intro w; go_simp; try with_reducible rfl
            simp only [Act.put, List.setIfInBounds_toArray, List.set_cons_zero, List.set_cons_succ, List.getElem_toArray, List.getElem_cons_succ, List.getElem_cons_zero]
            refine wpAnyT_pure (i := 2) (v := ?_) rfl (by kernel_rfl) (by kernel_rfl) (by kernel_rfl) (fun _ _ _ h => h) (by rfl) ?_ ?_
            rotate_left
            · intro w; go_simp; try with_reducible rfl
            simp only [Act.put, List.setIfInBounds_toArray, List.set_cons_zero, List.set_cons_succ, List.getElem_toArray, List.getElem_cons_succ, List.getElem_cons_zero]
            refine wpAnyT_pure (i := 3) (v := ?_) rfl (by kernel_rfl) (by kernel_rfl) (by kernel_rfl) (fun _ _ _ h => h) (by rfl) ?_ ?_
            rotate_left
            · intro w; go_simp; try with_reducible rfl
            simp only [Act.put, List.setIfInBounds_toArray, List.set_cons_zero, List.set_cons_succ, List.getElem_toArray, List.getElem_cons_succ, List.getElem_cons_zero]
            refine wpAnyT_pure (i := 4) (v := ?_) rfl (by kernel_rfl) (by kernel_rfl) (by kernel_rfl) (fun _ _ _ h => h) (by rfl) ?_ ?_
            rotate_left
            · intro w; go_simp; try with_reducible rfl
            simp only [Act.put, List.setIfInBounds_toArray, List.set_cons_zero, List.set_cons_succ, List.getElem_toArray, List.getElem_cons_succ, List.getElem_cons_zero]
            refine wpAnyT_pure (i := 6) (v := ?_) rfl (by kernel_rfl) (by kernel_rfl) (by kernel_rfl) (fun _ _ _ h => h) (by rfl) ?_ ?_
            rotate_left
            · intro w; go_simp; try with_reducible rfl
            simp only [Act.put, List.setIfInBounds_toArray, List.set_cons_zero, List.set_cons_succ, List.getElem_toArray, List.getElem_cons_succ, List.getElem_cons_zero]
            refine wpAnyT_one (i := 5) (by kernel_rfl) rfl (by rfl) ?_
            refine wp_enter (f := 14) (args := #[.pointer (some ⟨p, 0, none⟩)]) (by go_simp) (records_sum F8 w9.drew p ps8 (HL9.out.below (below_drew _)) (fun r hr => Nat.le_trans (HR8.out r hr) (by omega)) (by omega)) ?_
            rintro e x1 ⟨y1, S1, rfl, hX1, hO1, -⟩
            replace hX1 : Below w9.heap.size w9 x1 := (below_drew w9).trans hX1
            obtain ⟨a1', l1, c1, rfl, -⟩ := hO1.slice
            have HO1 := Lib.hid hO1
            clear hO1
            refine ⟨_, rfl, fun _ _ => HCV.out x1 hX1, ?_⟩
            have hS0 := HCV.out x1 hX1
            try simp only [Act.put, List.setIfInBounds_toArray, List.set_cons_zero, List.set_cons_succ, List.getElem_toArray, List.getElem_cons_succ, List.getElem_cons_zero]
            refine wpAnyT_one (i := 7) (by kernel_rfl) rfl (by rfl) ?_
            refine wp_enter (f := 13) (args := #[.slice a1' l1 c1, .slice pa pl pc]) (by go_simp) (same_sum x1 a1' pa l1 c1 pl pc ps8 ps8 (HO1.out.rd (fun b => b < x1.heap.size) (fun b hb => (HO1.out.bound b hb).2) (fun b hb => (HO1.out.own b hb).2)) (HP9.out.alloc hX1) (fun _ h => h) (fun _ h => h)) ?_
            rw [decide_eq_true rfl]
            rintro e x2 ⟨rfl, hX2⟩
            replace hX2 := below_step hX1 hX2
            refine ⟨_, rfl, fun _ _ => HCV.out x2 hX2, ?_⟩
            have hS0 := HCV.out x2 hX2
            try simp only [Act.put, List.setIfInBounds_toArray, List.set_cons_zero, List.set_cons_succ, List.getElem_toArray, List.getElem_cons_succ, List.getElem_cons_zero]
            refine wpAnyT_pure (i := 8) (v := ?_) rfl (by kernel_rfl) (by kernel_rfl) (by kernel_rfl) (fun _ _ _ h => h) (by rfl) ?_ ?_
            rotate_left
            · intro w; go_simp; try with_reducible rfl
            simp only [Act.put, List.setIfInBounds_toArray, List.set_cons_zero, List.set_cons_succ, List.getElem_toArray, List.getElem_cons_succ, List.getElem_cons_zero]
            refine wpAnyT_pure (i := 9) (v := ?_) rfl (by kernel_rfl) (by kernel_rfl) (by kernel_rfl) (fun _ _ _ h => h) (by rfl) ?_ ?_
            rotate_left
            · intro w; go_simp; try with_reducible rfl
            simp only [Act.put, List.setIfInBounds_toArray, List.set_cons_zero, List.set_cons_succ, List.getElem_toArray, List.getElem_cons_succ, List.getElem_cons_zero]
            refine wpAnyT_pure (i := 10) (v := ?_) rfl (by kernel_rfl) (by kernel_rfl) (by kernel_rfl) (fun _ _ _ h => h) (by rfl) ?_ ?_
            rotate_left
            · intro w; go_simp; try with_reducible rfl
            simp only [Act.put, List.setIfInBounds_toArray, List.set_cons_zero, List.set_cons_succ, List.getElem_toArray, List.getElem_cons_succ, List.getElem_cons_zero]
            refine wpAnyT_pure (i := 11) (v := ?_) rfl (by kernel_rfl) (by kernel_rfl) (by kernel_rfl) (fun _ _ _ h => h) (by rfl) ?_ ?_
            rotate_left
            · intro w; go_simp; try with_reducible rfl
            simp only [Act.put, List.setIfInBounds_toArray, List.set_cons_zero, List.set_cons_succ, List.getElem_toArray, List.getElem_cons_succ, List.getElem_cons_zero]
            refine wpAnyT_pure (i := 13) (v := ?_) rfl (by kernel_rfl) (by kernel_rfl) (by kernel_rfl) (fun _ _ _ h => h) (by rfl) ?_ ?_
            rotate_left
            · intro w; go_simp; try with_reducible rfl
            simp only [Act.put, List.setIfInBounds_toArray, List.set_cons_zero, List.set_cons_succ, List.getElem_toArray, List.getElem_cons_succ, List.getElem_cons_zero]
            refine wpAnyT_loadW (i := 12) (v := ?_) rfl (by kernel_rfl) (by kernel_rfl) (by kernel_rfl) (by kernel_rfl) (by kernel_rfl) (fun _ _ _ h => h) (Or.inl ⟨by rfl, ?_⟩) hS0 ?_
            rotate_left
            · intro w hSw; go_simp; try with_reducible rfl
            simp only [Act.put, List.setIfInBounds_toArray, List.set_cons_zero, List.set_cons_succ, List.getElem_toArray, List.getElem_cons_succ, List.getElem_cons_zero]
            refine wpAnyT_one (i := 14) (by kernel_rfl) rfl (by rfl) ?_
            refine wp_enter (f := 22) (args := #[.slice pa pl pc]) (by go_simp) (refBytes_sum x2 pa pl pc ps8 (HP9.out.alloc hX2) (fun r hr => Nat.le_trans (HR8.out r hr) (by omega)) (by have := HPL8.out; omega) (Nat.le_trans HBL8.out (by omega))) ?_
            rw [HN8.out]
            rintro e x3 ⟨y3, rfl, hX3, hO3⟩
            obtain ⟨a3', l3', c3', rfl, -⟩ := hO3.slice
            have hcv3 := Rd.conv (P := Try.prog) (w := x3) hO3.lt Try.underlying22 Try.underlying5 Try.underlying9
            rw [HT8.out] at hcv3
            replace hX3 := below_step hX2 hX3
            clear hO3
            refine ⟨_, rfl, fun _ _ => HCV.out x3 hX3, ?_⟩
            try simp only [Act.put, List.setIfInBounds_toArray, List.set_cons_zero, List.set_cons_succ, List.getElem_toArray, List.getElem_cons_succ, List.getElem_cons_zero]
            refine wpAnyT_one (i := 15) (by kernel_rfl) rfl (by rfl) ?_
            refine wp_value (v := .string T8) (w' := x3) (by go_simp) ?_
            refine ⟨fun _ h => h, ?_⟩
            try simp only [Act.put, List.setIfInBounds_toArray, List.set_cons_zero, List.set_cons_succ, List.getElem_toArray, List.getElem_cons_succ, List.getElem_cons_zero]
            refine wpAnyT_pure (i := 16) (v := ?_) rfl (by kernel_rfl) (by kernel_rfl) (by kernel_rfl) (fun _ _ _ h => h) (by rfl) ?_ ?_
            rotate_left
            · intro w; go_simp; try with_reducible rfl
            simp only [Act.put, List.setIfInBounds_toArray, List.set_cons_zero, List.set_cons_succ, List.getElem_toArray, List.getElem_cons_succ, List.getElem_cons_zero]
            refine wpAnyT_pure (i := 17) (v := ?_) rfl (by kernel_rfl) (by kernel_rfl) (by kernel_rfl) (fun _ _ _ h => h) (by rfl) ?_ ?_
            rotate_left
            · intro w; go_simp; try with_reducible rfl
            simp only [Act.put, List.setIfInBounds_toArray, List.set_cons_zero, List.set_cons_succ, List.getElem_toArray, List.getElem_cons_succ, List.getElem_cons_zero]
            refine wpAnyT_pure (i := 18) (v := ?_) rfl (by kernel_rfl) (by kernel_rfl) (by kernel_rfl) (fun _ _ _ h => h) (by rfl) ?_ ?_
            rotate_left
            · intro w; go_simp; try with_reducible rfl
            simp only [Act.put, List.setIfInBounds_toArray, List.set_cons_zero, List.set_cons_succ, List.getElem_toArray, List.getElem_cons_succ, List.getElem_cons_zero]
            refine wpAnyT_pure (i := 19) (v := ?_) rfl (by kernel_rfl) (by kernel_rfl) (by kernel_rfl) (fun _ _ _ h => h) (by rfl) ?_ ?_
            rotate_left
            · intro w; go_simp; try with_reducible rfl
            simp only [Act.put, List.setIfInBounds_toArray, List.set_cons_zero, List.set_cons_succ, List.getElem_toArray, List.getElem_cons_succ, List.getElem_cons_zero]
            refine wpAnyT_pure (i := 21) (v := ?_) rfl (by kernel_rfl) (by kernel_rfl) (by kernel_rfl) (fun _ _ _ h => h) (by rfl) ?_ ?_
            rotate_left
            · intro w; go_simp; try with_reducible rfl
            simp only [Act.put, List.setIfInBounds_toArray, List.set_cons_zero, List.set_cons_succ, List.getElem_toArray, List.getElem_cons_succ, List.getElem_cons_zero]
            refine wpAnyT_one (i := 20) (by kernel_rfl) rfl (by rfl) ?_
            refine wp_enter (f := 20) (args := #[.pointer (some ⟨p, 0, none⟩)]) (by go_simp) (Head_sum F8 x3 p ps8 (HL9.out.below hX3)) ?_
            rintro e x4 ⟨rfl, hx⟩
            subst hx
            refine ⟨_, rfl, fun _ h => h, ?_⟩
            try simp only [Act.put, List.setIfInBounds_toArray, List.set_cons_zero, List.set_cons_succ, List.getElem_toArray, List.getElem_cons_succ, List.getElem_cons_zero]
            refine wpAnyT_one (i := 22) (by kernel_rfl) rfl (by rfl) ?_
            refine wp_enter (f := 26) (args := #[.slice pa pl pc]) (by go_simp) (Head_any pa pl pc ps8 x4 (HP9.out.alloc hX3)) ?_
            rintro e x5 ⟨rfl, hX5⟩
            replace hX5 := below_step hX3 hX5
            refine ⟨_, rfl, fun _ _ => HCV.out x5 hX5, ?_⟩
            try simp only [Act.put, List.setIfInBounds_toArray, List.set_cons_zero, List.set_cons_succ, List.getElem_toArray, List.getElem_cons_succ, List.getElem_cons_zero]
            refine wpAnyT_pure (i := 23) (v := ?_) rfl (by kernel_rfl) (by kernel_rfl) (by kernel_rfl) (fun _ _ _ h => h) (by rfl) ?_ ?_
            rotate_left
            · intro w; go_simp; try with_reducible rfl
            simp only [Act.put, List.setIfInBounds_toArray, List.set_cons_zero, List.set_cons_succ, List.getElem_toArray, List.getElem_cons_succ, List.getElem_cons_zero]
            refine wpAnyT_pure (i := 24) (v := ?_) rfl (by kernel_rfl) (by kernel_rfl) (by kernel_rfl) (fun _ _ _ h => h) (by rfl) ?_ ?_
            rotate_left
            · intro w; go_simp; try with_reducible rfl
            simp only [Act.put, List.setIfInBounds_toArray, List.set_cons_zero, List.set_cons_succ, List.getElem_toArray, List.getElem_cons_succ, List.getElem_cons_zero]
            refine wpAnyT_done (by kernel_rfl) ?_ _
            go_wp2_with fail
            clear hS0
            refine wp_region_T (fun w' => w'.cell? ⟨wr.heap.size, 1, none⟩ = some (.bool false) ∧ Sem.run Try.prog (convert 22 9 (.slice aa lb ca)) w' = .ok (.string Tb) w' ∧ Sem.run Try.prog (convert 22 9 (.slice ab lb cb)) w' = .ok (.string Tb) w') (fun _ => false) (by kernel_rfl) ?_
            have hS0 := And.intro (HK9.out x5.drew (hX5.drew)) (HCVb.out x5.drew (hX5.drew))
            refine wpAnyT_pure (i := 0) (v := ?_) rfl (by kernel_rfl) (by kernel_rfl) (by kernel_rfl) (fun _ _ _ h => h) (by rfl) ?_ ?_
            rotate_left
            · intro w; go_simp; try with_reducible rfl
            simp only [Act.put, List.setIfInBounds_toArray, List.set_cons_zero, List.set_cons_succ, List.getElem_toArray, List.getElem_cons_succ, List.getElem_cons_zero]
            refine wpAnyT_loadW (i := 1) (v := ?_) rfl (by kernel_rfl) (by kernel_rfl) (by kernel_rfl) (by kernel_rfl) (by kernel_rfl) (fun _ _ _ h => h) (Or.inl ⟨by rfl, ?_⟩) hS0 ?_
            rotate_left
            · intro w hSw; obtain ⟨e0, e1, e2⟩ := hSw; go_simp; try with_reducible rfl
            simp only [Act.put, List.setIfInBounds_toArray, List.set_cons_zero, List.set_cons_succ, List.getElem_toArray, List.getElem_cons_succ, List.getElem_cons_zero]
            refine wpAnyT_pure (i := 2) (v := ?_) rfl (by kernel_rfl) (by kernel_rfl) (by kernel_rfl) (fun _ _ _ h => h) (by rfl) ?_ ?_
            rotate_left
            · intro w; go_simp; try with_reducible rfl
            simp only [Act.put, List.setIfInBounds_toArray, List.set_cons_zero, List.set_cons_succ, List.getElem_toArray, List.getElem_cons_succ, List.getElem_cons_zero]
            refine wpAnyT_pure (i := 3) (v := ?_) rfl (by kernel_rfl) (by kernel_rfl) (by kernel_rfl) (fun _ _ _ h => h) (by rfl) ?_ ?_
            rotate_left
            · intro w; go_simp; try with_reducible rfl
            simp only [Act.put, List.setIfInBounds_toArray, List.set_cons_zero, List.set_cons_succ, List.getElem_toArray, List.getElem_cons_succ, List.getElem_cons_zero]
            refine wpAnyT_pure (i := 4) (v := ?_) rfl (by kernel_rfl) (by kernel_rfl) (by kernel_rfl) (fun _ _ _ h => h) (by rfl) ?_ ?_
            rotate_left
            · intro w; go_simp; try with_reducible rfl
            simp only [Act.put, List.setIfInBounds_toArray, List.set_cons_zero, List.set_cons_succ, List.getElem_toArray, List.getElem_cons_succ, List.getElem_cons_zero]
            refine wpAnyT_pure (i := 5) (v := ?_) rfl (by kernel_rfl) (by kernel_rfl) (by kernel_rfl) (fun _ _ _ h => h) (by rfl) ?_ ?_
            rotate_left
            · intro w; go_simp; try with_reducible rfl
            simp only [Act.put, List.setIfInBounds_toArray, List.set_cons_zero, List.set_cons_succ, List.getElem_toArray, List.getElem_cons_succ, List.getElem_cons_zero]
            refine wpAnyT_pure (i := 6) (v := ?_) rfl (by kernel_rfl) (by kernel_rfl) (by kernel_rfl) (fun _ _ _ h => h) (by rfl) ?_ ?_
            rotate_left
            · intro w; go_simp; try with_reducible rfl
            simp only [Act.put, List.setIfInBounds_toArray, List.set_cons_zero, List.set_cons_succ, List.getElem_toArray, List.getElem_cons_succ, List.getElem_cons_zero]
            refine wpAnyT_pure (i := 7) (v := ?_) rfl (by kernel_rfl) (by kernel_rfl) (by kernel_rfl) (fun _ _ _ h => h) (by rfl) ?_ ?_
            rotate_left
            · intro w; go_simp; try with_reducible rfl
            simp only [Act.put, List.setIfInBounds_toArray, List.set_cons_zero, List.set_cons_succ, List.getElem_toArray, List.getElem_cons_succ, List.getElem_cons_zero]
            refine wpAnyT_pure (i := 8) (v := ?_) rfl (by kernel_rfl) (by kernel_rfl) (by kernel_rfl) (fun _ _ _ h => h) (by rfl) ?_ ?_
            rotate_left
            · intro w; go_simp; try with_reducible rfl
            simp only [Act.put, List.setIfInBounds_toArray, List.set_cons_zero, List.set_cons_succ, List.getElem_toArray, List.getElem_cons_succ, List.getElem_cons_zero]
            refine wpAnyT_pure (i := 9) (v := ?_) rfl (by kernel_rfl) (by kernel_rfl) (by kernel_rfl) (fun _ _ _ h => h) (by rfl) ?_ ?_
            rotate_left
            · intro w; go_simp; try with_reducible rfl
            simp only [Act.put, List.setIfInBounds_toArray, List.set_cons_zero, List.set_cons_succ, List.getElem_toArray, List.getElem_cons_succ, List.getElem_cons_zero]
            refine wpAnyT_pure (i := 10) (v := ?_) rfl (by kernel_rfl) (by kernel_rfl) (by kernel_rfl) (fun _ _ _ h => h) (by rfl) ?_ ?_
            rotate_left
            · intro w; go_simp; try with_reducible rfl
            simp only [Act.put, List.setIfInBounds_toArray, List.set_cons_zero, List.set_cons_succ, List.getElem_toArray, List.getElem_cons_succ, List.getElem_cons_zero]
            refine wpAnyT_pure (i := 11) (v := ?_) rfl (by kernel_rfl) (by kernel_rfl) (by kernel_rfl) (fun _ _ _ h => h) (by rfl) ?_ ?_
            rotate_left
            · intro w; go_simp; try with_reducible rfl
            simp only [Act.put, List.setIfInBounds_toArray, List.set_cons_zero, List.set_cons_succ, List.getElem_toArray, List.getElem_cons_succ, List.getElem_cons_zero]
            refine wpAnyT_pure (i := 12) (v := ?_) rfl (by kernel_rfl) (by kernel_rfl) (by kernel_rfl) (fun _ _ _ h => h) (by rfl) ?_ ?_
            rotate_left
            · intro w; go_simp; try with_reducible rfl
            simp only [Act.put, List.setIfInBounds_toArray, List.set_cons_zero, List.set_cons_succ, List.getElem_toArray, List.getElem_cons_succ, List.getElem_cons_zero]
            refine wpAnyT_pure (i := 13) (v := ?_) rfl (by kernel_rfl) (by kernel_rfl) (by kernel_rfl) (fun _ _ _ h => h) (by rfl) ?_ ?_
            rotate_left
            · intro w; go_simp; try with_reducible rfl
            simp only [Act.put, List.setIfInBounds_toArray, List.set_cons_zero, List.set_cons_succ, List.getElem_toArray, List.getElem_cons_succ, List.getElem_cons_zero]
            refine wpAnyT_pure (i := 15) (v := ?_) rfl (by kernel_rfl) (by kernel_rfl) (by kernel_rfl) (fun _ _ _ h => h) (by rfl) ?_ ?_
            rotate_left
            · intro w; go_simp; try with_reducible rfl
            simp only [Act.put, List.setIfInBounds_toArray, List.set_cons_zero, List.set_cons_succ, List.getElem_toArray, List.getElem_cons_succ, List.getElem_cons_zero]
            refine wpAnyT_loadW (i := 14) (v := ?_) rfl (by kernel_rfl) (by kernel_rfl) (by kernel_rfl) (by kernel_rfl) (by kernel_rfl) (fun _ _ _ h => h) (Or.inl ⟨by rfl, ?_⟩) hS0 ?_
            rotate_left
            · intro w hSw; obtain ⟨e0, e1, e2⟩ := hSw; go_simp; try with_reducible rfl
            simp only [Act.put, List.setIfInBounds_toArray, List.set_cons_zero, List.set_cons_succ, List.getElem_toArray, List.getElem_cons_succ, List.getElem_cons_zero]
            refine wpAnyT_loadW (i := 16) (v := ?_) rfl (by kernel_rfl) (by kernel_rfl) (by kernel_rfl) (by kernel_rfl) (by kernel_rfl) (fun _ _ _ h => h) (Or.inl ⟨by rfl, ?_⟩) hS0 ?_
            rotate_left
            · intro w hSw; obtain ⟨e0, e1, e2⟩ := hSw; go_simp; try with_reducible rfl
            simp only [Act.put, List.setIfInBounds_toArray, List.set_cons_zero, List.set_cons_succ, List.getElem_toArray, List.getElem_cons_succ, List.getElem_cons_zero]
            refine wpAnyT_pure (i := 17) (v := ?_) rfl (by kernel_rfl) (by kernel_rfl) (by kernel_rfl) (fun _ _ _ h => h) (by rfl) ?_ ?_
            rotate_left
            · intro w; go_simp; try with_reducible rfl
            simp only [Act.put, List.setIfInBounds_toArray, List.set_cons_zero, List.set_cons_succ, List.getElem_toArray, List.getElem_cons_succ, List.getElem_cons_zero]
            refine wpAnyT_pure (i := 18) (v := ?_) rfl (by kernel_rfl) (by kernel_rfl) (by kernel_rfl) (fun _ _ _ h => h) (by rfl) ?_ ?_
            rotate_left
            · intro w; go_simp; try with_reducible rfl
            simp only [Act.put, List.setIfInBounds_toArray, List.set_cons_zero, List.set_cons_succ, List.getElem_toArray, List.getElem_cons_succ, List.getElem_cons_zero]
            refine wpAnyT_pure (i := 19) (v := ?_) rfl (by kernel_rfl) (by kernel_rfl) (by kernel_rfl) (fun _ _ _ h => h) (by rfl) ?_ ?_
            rotate_left
            · intro w; go_simp; try with_reducible rfl
            simp only [Act.put, List.setIfInBounds_toArray, List.set_cons_zero, List.set_cons_succ, List.getElem_toArray, List.getElem_cons_succ, List.getElem_cons_zero]
            refine wpAnyT_done (by kernel_rfl) ?_ _
            go_wp2
            go_roundw
            case rel => exact ⟨q + 1, ps8, F8, S8, by omega, by go_num, HL9.out.below hX5.drew, HOp9.out.below hX5.drew, HF8.out, HR8.out, by omega, below_step HB9.out hX5.drew⟩
            case measure => simp [intOf]; omega

    · obtain rfl : q = len1 := by omega
      go_wp2
      go_ret
      exact ⟨rfl, HB.out⟩
end Go.Proofs.Ytkojomakibfncaa
