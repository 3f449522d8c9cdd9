/- Layer 53: the reference's ordered, Needs. -/
import Derived.Test.YtdcjocldggmdbaaGreatR53j
set_option linter.unusedSimpArgs false
set_option maxRecDepth 50000
namespace Go.Proofs.YtdcjocldggmdbaaGreat
open Go.RowKit Go

theorem ordN_len {ts : List Tk} {ne np : Nat} (lo : Int) (l : List Ky) (hne : ne ≤ 1000) (hts : ts.length ≤ 1000) : ∀ t : Nat, (ordN ts ne np lo l t).length ≤ t * 1001000
  | 0 => by simp [ordN]
  | t + 1 => by
    have h1 := ordN_len (ts := ts) (ne := ne) (np := np) lo l hne hts t
    have h2 := all_len (ts := ts) (np := np) (lo + (t : Nat)) hne hts
    have h3 : ((allP ts ne np (lo + (t : Nat))).filter fun n => decide (n ∈ l)).length ≤ (allP ts ne np (lo + (t : Nat))).length := List.length_filter_le _ _
    rw [ordN_succ, List.length_append]
    omega
set_option maxHeartbeats 4000000 in
theorem rordered53 {S T : Nat → Prop} (w : World) (ne np : Nat) (ts : List Tk) (sg : List Sg) (sa : Option Addr) (sl sc : Nat) (ga : Option Addr) (gl gc : Nat) (xs : List taskT.den) (h : RfW S w ts sg sa sl sc ga gl gc xs) (hn1000 : ne ≤ 1000) (hts : ts.length ≤ 1000) (na : Option Addr) (nl nc : Nat) (l : List Ky) (hl : Rd (.sl keyT) T w [.slice na nl nc] (l.map Ky.d)) (hT : ∀ b, T b → b < w.heap.size) (lo : Int) (hlo : -1 ≤ lo) (hhi : lo ≤ 100000) :
    Calls Tryz.prog 34 #[rwV ne np sa sl sc ga gl gc, .slice na nl nc, .int .i64 lo, .int .i64 (lo + 1)] w (RKeysP (ordN ts ne np lo l 2) w) := by
  have hp0 := heap_alloc_new w (rwO ne np sa sl sc ga gl gc)
  have hB := (Below.refl w.heap.size w).alloc (Nat.le_refl _) (rwO ne np sa sl sc ga gl gc)
  have HP := Lib.hid hp0
  have HB := Lib.hid hB
  have HX := Lib.hid (h.below hB)
  have HTS := Lib.hid hts
  have HLL := Lib.hid (hl.below hB hT)
  have HTT := Lib.hid (fun b hb => Nat.lt_of_lt_of_le (hT b hb) hB.size)
  obtain ⟨hi, hhi2⟩ : ∃ hi, hi = lo + 1 := ⟨_, rfl⟩
  rw [← hhi2]
  have HHI := Lib.hid hhi2
  have HLO := Lib.hid (show -1 ≤ lo ∧ lo ≤ 100000 from ⟨hlo, hhi⟩)
  have HOL := Lib.hid (fun t => ordN_len (ts := ts) (ne := ne) (np := np) lo l hn1000 hts t)
  clear h hp0 hB hts hl hT hhi2 hlo hhi
  go_enter Tryz.func34, Tryz.ntmps34
  go_wp2_with fail
  generalize World.alloc _ _ = w1 at *
  go_loopw [9, 10] (fun v i wr => ∃ t : Nat, t ≤ 2 ∧ i = .int .i64 (lo + (t : Nat)) ∧ Owns keyT 27 w1.heap.size (fun _ => False) wr v ((ordN ts ne np lo l t).map Ky.d) ∧ Below w1.heap.size w1 wr) (fun _ i _ => (lo + 2 - intOf i).toNat)
  case atStart => exact ⟨0, by omega, by simp, Owns.nil _ _ _ _, Below.refl _ _⟩
  obtain ⟨t, ht, rfl, hO, hBr⟩ := hrel
  obtain ⟨va, vl, vc, rfl, -⟩ := hO.slice
  have HO := Lib.hid hO
  have HBr := Lib.hid hBr
  have HXr := Lib.hid (HX.out.below hBr)
  have HPr := Lib.hid ((hBr.block _ (blk_lt HP.out)).trans HP.out)
  clear hO hBr
  by_cases hlt : t < 2
  · have hle : lo + (t : Nat) ≤ hi := by have := HHI.out; omega
    have HLT := Lib.hid hlt
    have HSU := Lib.hid (ordN_succ ts ne np lo l t)
    have HAC := Lib.hid (show (ordN ts ne np lo l (t + 1)).length ≤ 2002000 from by have h1 := HOL.out (t + 1); have h2 : (t + 1) * 1001000 ≤ 2 * 1001000 := Nat.mul_le_mul (by omega) (Nat.le_refl _); omega)
    obtain ⟨per, hper⟩ : ∃ p, lo + (t : Nat) = p := ⟨_, rfl⟩
    rw [hper] at hle HSU ⊢
    have hb1 : -1 ≤ per ∧ per ≤ 100001 := by have := HLO.out; omega
    have HPE := Lib.hid hper
    have HC := Lib.hid (rkeys53 wr ne np ts sg sa sl sc ga gl gc xs HXr.out hn1000 HTS.out per (wf_small (by omega) (by omega)))
    clear hper hlt
    have z0 := blk_cell HPr.out 0
    have z1 := blk_cell HPr.out 1
    have z2 := blk_cell HPr.out 2
    have z3 := blk_cell HPr.out 3
    simp at z0 z1 z2 z3
    go_wp2_with fail
    have hX := HC.out
    refine Calls.mono hX ?_
    clear hX HC
    rintro e w5 ⟨aa, al, ac, rfl, hrd, hb5⟩
    generalize allP ts ne np per = all at hrd HSU
    obtain ⟨l0, hl0⟩ : ∃ x, x = ordN ts ne np lo l t := ⟨_, rfl⟩
    rw [← hl0] at HO HSU
    rw [HSU.out] at HAC
    clear hl0
    have HA5 := Lib.hid hrd
    have HAL := Lib.hid (show all.length = al from by simpa using hrd.sl_flat.1)
    have halm : al ≤ 9223372036854775807 := Nat.le_trans hrd.sl_flat.2.1 hrd.sl_flat.2.2.1
    have HALM := Lib.hid halm
    have HBr5 := Lib.hid (HBr.out.trans (hb5.mono HBr.out.size))
    have HO5 := Lib.hid (HO.out.below hb5)
    have HOB := Lib.hid (fun ob h => (HO.out.own ob h).2)
    obtain ⟨w3, hw3⟩ : ∃ x, x = wr := ⟨_, rfl⟩
    rw [← hw3] at HOB HA5
    clear hw3 hrd hb5 HO HBr HXr HPr z0 z1 z2 z3 halm
    go_wp2_with fail
    go_loopw [9, 12] (fun v iv wr => ∃ q : Nat, q ≤ al ∧ iv = .int .i64 q ∧ Owns keyT 27 w1.heap.size (fun _ => False) wr v ((l0 ++ (all.take q).filter fun n => decide (n ∈ l)).map Ky.d) ∧ Below w1.heap.size w1 wr ∧ w5.heap.size ≤ wr.heap.size ∧ (∀ ob, v.ownBlock = some ob → ob < w3.heap.size ∨ w5.heap.size ≤ ob) ∧ ∀ b, w3.heap.size ≤ b → b < w5.heap.size → wr.heap[b]? = w5.heap[b]?) (fun _ iv _ => al - (intOf iv).toNat)
    case atStart => exact ⟨0, Nat.zero_le _, rfl, by simpa using HO5.out, HBr5.out, Nat.le_refl _, fun ob h => .inl (HOB.out ob h), fun _ _ _ => rfl⟩
    obtain ⟨q, hq, rfl, hO, hBr, hsz, hob, hfr⟩ := hrel
    obtain ⟨oa', ol', oc', rfl, -⟩ := hO.slice
    have HO := Lib.hid hO
    have HBr := Lib.hid hBr
    have HSZ := Lib.hid hsz
    have HOBq := Lib.hid hob
    have HFR := Lib.hid hfr
    clear hO hBr hsz hob hfr
    by_cases hlq : q < al
    · have halm := HALM.out
      have hqI : (q : Int) < (al : Int) := by omega
      have hqx : q < all.length := by rw [HAL.out]; exact hlq
      have HLTQ := Lib.hid hlq
      obtain ⟨b, o, rfl, -, m0, m1, m2, hok⟩ := key_at (HA5.out.keep (S' := fun b => w3.heap.size ≤ b ∧ b < w5.heap.size) (fun b hb => HFR.out b hb.1 hb.2) (fun _ h => h)) q hqx
      have HTQ := Lib.hid (show (all.take (q + 1)).filter (fun n => decide (n ∈ l)) = (all.take q).filter (fun n => decide (n ∈ l)) ++ (if decide (all[q] ∈ l) = true then [all[q]] else []) from by
        rw [List.take_succ_eq_append_getElem hqx, List.filter_append, List.filter_cons]
        rfl)
      have HAQ := Lib.hid (show ((all.take (q + 1)).filter fun n => decide (n ∈ l)).length ≤ (all.filter fun n => decide (n ∈ l)).length from ((List.take_sublist (q + 1) all).filter _).length_le)
      have HCH := Lib.hid (rhas53 wr na nl nc l (HLL.out.below HBr.out HTT.out) (fun b hb => Nat.lt_of_lt_of_le (HTT.out b hb) HBr.out.size) all[q])
      obtain ⟨mb, hmb⟩ : ∃ mb, decide (all[q] ∈ l) = mb := ⟨_, rfl⟩
      rw [hmb] at HTQ HCH
      clear hmb
      generalize all[q] = x at m0 m1 m2 hok HTQ HCH
      have HKO := Lib.hid hok
      obtain ⟨x1, x2, x3⟩ := x
      unfold Ky.v at HCH
      simp only at m0 m1 m2 HCH
      have HM := Lib.hid (show Cells [(⟨b, o + q * 3, none⟩, .string x1), (⟨b, o + q * 3 + 1, none⟩, .int .i64 x2), (⟨b, o + q * 3 + 2, none⟩, .int .i64 x3)] wr from ⟨m0, m1, m2, trivial⟩)
      clear hqx hlq hok
      go_wp2_with fail
      have hX := HCH.out
      refine Calls.mono hX ?_
      clear hX HCH
      rintro e w8 ⟨rfl, hb8⟩
      have HB8 := Lib.hid hb8
      obtain ⟨m0, m1, m2, -⟩ := Cells.below hb8 HM.out
      clear hb8
      cases mb
      · simp only [Bool.false_eq_true, if_false, List.append_nil] at HTQ
        clear m0 m1 m2
        go_wp2_with fail
        go_roundw
        case rel => exact ⟨q + 1, HLTQ.out, by go_num, by rw [HTQ.out]; exact HO.out.below HB8.out, HBr.out.trans (HB8.out.mono HBr.out.size), Nat.le_trans HSZ.out HB8.out.size, fun ob h => HOBq.out ob h, fun b h1 h2 => (HB8.out.block b (Nat.lt_of_lt_of_le h2 HSZ.out)).trans (HFR.out b h1 h2)⟩
        case measure => simp [intOf]; try omega
      · simp only [if_true] at HTQ
        have HTN := Lib.hid (show (l0 ++ (all.take (q + 1)).filter fun n => decide (n ∈ l)).map Ky.d = (l0 ++ (all.take q).filter fun n => decide (n ∈ l)).map Ky.d ++ [Ky.d ⟨x1, x2, x3⟩] from by
          rw [HTQ.out]
          simp)
        have HACQ := Lib.hid (show (l0 ++ (all.take q).filter fun n => decide (n ∈ l)).length + 1 ≤ 2002000 from by
          have h1 := HAC.out
          have h2 := HAQ.out
          rw [HTQ.out] at h2
          simp only [List.length_append, List.length_singleton] at h1 h2 ⊢
          omega)
        have HO8 := Lib.hid (HO.out.below HB8.out)
        go_wp2_with (at_builtin; go_must (refine wpList_app _ rfl _ _ 39 rfl (e := keyT) (te := 27) info_rkey Tryz.underlying39 rfl (by decide) (base := w1.heap.size) (S := fun _ => False) (v := .slice oa' ol' oc') (xs := (l0 ++ (all.take q).filter fun n => decide (n ∈ l)).map Ky.d) rfl (HO8.out.alloc _) (by have h1 := HBr.out.size; have h2 := HB8.out.size; simp only [World.size_alloc]; omega) rfl (ys := [Ky.d ⟨x1, x2, x3⟩]) (Src.new _ [_, _, _] _ _ _) (RdL.one (e := keyT) (key_rd HKO.out)) (by have := HACQ.out; rw [List.length_map]; simp only [List.length_singleton] at *; omega) (by have := HACQ.out; rw [List.length_map]; simp only [List.length_singleton] at *; omega) ?_; intro v' w9 O9 g9 _ ob9; rw [← HTN.out] at O9; have HO9 := Lib.hid O9; have HG9 := Lib.hid g9; have HOB9' := Lib.hid ob9; clear O9 g9 ob9))
        clear m0 m1 m2
        have HBA := Lib.hid ((show Below wr.heap.size wr w8 from HB8.out).alloc HB8.out.size (.cells #[.string x1, .int .i64 x2, .int .i64 x3] 27))
        have HSZ9 := Lib.hid (show w5.heap.size ≤ w9.heap.size from Nat.le_trans HSZ.out (Nat.le_trans HBA.out.size HG9.out.size))
        have HOB9 := Lib.hid (show ∀ ob, v'.ownBlock = some ob → ob < w3.heap.size ∨ w5.heap.size ≤ ob from fun ob h => by
          rcases HOB9'.out with e | e
          · exact HOBq.out ob (e ▸ h)
          · rw [e] at h
            cases h
            exact .inr (Nat.le_trans HSZ.out HBA.out.size))
        have HFR9 := Lib.hid (show ∀ b, w3.heap.size ≤ b → b < w5.heap.size → w9.heap[b]? = w5.heap[b]? from fun b h1 h2 => by
          have h3 := Nat.lt_of_lt_of_le h2 HSZ.out
          refine ((HG9.out.block b (Nat.lt_of_lt_of_le h3 HBA.out.size) (fun e => ?_)).trans (HBA.out.block b h3)).trans (HFR.out b h1 h2)
          rcases HOBq.out b e.symm with h | h <;> omega)
        go_roundw
        case rel => exact ⟨q + 1, HLTQ.out, by go_num, HO9.out, (HBr.out.trans (HBA.out.mono HBr.out.size)).grown HG9.out (Nat.le_trans HBr.out.size HBA.out.size) (fun c hc => (HO.out.own c hc).1), HSZ9.out, HOB9.out, HFR9.out⟩
        case measure => simp [intOf]; try omega
    · obtain rfl : al = q := by omega
      have hall : all.take al = all := List.take_of_length_le (by rw [HAL.out]; exact Nat.le_refl _)
      rw [hall, ← HSU.out] at HO
      clear hall hlq
      go_wp2_with fail
      go_roundw
      case rel => exact ⟨t + 1, HLT.out, by rw [← HPE.out]; go_num, HO.out, HBr.out⟩
      case measure => (have := HPE.out; have := HLT.out; simp [intOf]; try omega)
  · obtain rfl : t = 2 := by omega
    have hgt : ¬ (lo + ((2 : Nat) : Int) ≤ hi) := by have := HHI.out; omega
    clear hlt
    go_wp2_with fail
    go_ret
    exact ⟨_, _, _, rfl, HO.out.rd _ (fun _ h => h.elim) (fun c hc => ⟨Nat.le_trans HB.out.size (HO.out.own c hc).1, (HO.out.own c hc).2⟩), below_step HB.out HBr.out⟩
end Go.Proofs.YtdcjocldggmdbaaGreat

/- Layer 53: the reference's Needs, Next, Done. -/
set_option linter.unusedSimpArgs false
set_option maxRecDepth 50000
namespace Go.Proofs.YtdcjocldggmdbaaGreat
open Go.RowKit Go

/-- The prerequisites that the reference lists. -/
def needsR (ts : List Tk) (ne np : Nat) (k : Ky) : List Ky := if checkI ts ne np k = 0 then ordN ts ne np (k.per - 1) (rawNeeds ts ne k) 2 else []
set_option maxHeartbeats 4000000 in
theorem rneeds53 {S : Nat → Prop} (w : World) (ne np : Nat) (ts : List Tk) (sg : List Sg) (sa : Option Addr) (sl sc : Nat) (ga : Option Addr) (gl gc : Nat) (xs : List taskT.den) (h : RfW S w ts sg sa sl sc ga gl gc xs) (hw : Wk ts ne np) (hts : ts.length ≤ 1000) (k : Ky) :
    Calls Tryz.prog 12 #[rwV ne np sa sl sc ga gl gc, k.v] w (RKeysP (needsR ts ne np k) w) := by
  have hn1000 : ne ≤ 1000 := by have := hw.ne; omega
  have HW := Lib.hid hw
  have HTS := Lib.hid hts
  obtain ⟨k1, k2, k3⟩ := k
  have hp := heap_alloc_new w (rwO ne np sa sl sc ga gl gc)
  have hB := (Below.refl w.heap.size w).alloc (Nat.le_refl _) (rwO ne np sa sl sc ga gl gc)
  have hk := heap_alloc_new (w.alloc (rwO ne np sa sl sc ga gl gc)) (.cells #[.string k1, .int .i64 k2, .int .i64 k3] 27)
  have hBk := (Below.refl (w.alloc (rwO ne np sa sl sc ga gl gc)).heap.size (w.alloc (rwO ne np sa sl sc ga gl gc))).alloc (Nat.le_refl _) (.cells #[.string k1, .int .i64 k2, .int .i64 k3] 27)
  replace hp := (hBk.block _ (blk_lt hp)).trans hp
  rw [World.size_alloc] at hk
  have HP := Lib.hid hp
  have HK := Lib.hid hk
  have HB1 := Lib.hid (below_step hB hBk)
  have HX := Lib.hid (h.below (below_step hB hBk))
  clear h hp hB hk hBk hw hts
  unfold Ky.v
  simp only
  go_enter Tryz.func12, Tryz.ntmps12
  go_wp2_with fail
  generalize World.alloc _ _ = w1 at *
  have z0 := blk_cell HP.out 0
  have z1 := blk_cell HP.out 1
  have z2 := blk_cell HP.out 2
  have z3 := blk_cell HP.out 3
  simp at z0 z1 z2 z3
  have y0 := blk_cell HK.out 0
  have y1 := blk_cell HK.out 1
  have y2 := blk_cell HK.out 2
  simp at y0 y1 y2
  have HC := Lib.hid (rcheck53 w1 ne np ts sg sa sl sc ga gl gc xs HX.out ⟨k1, k2, k3⟩)
  unfold Ky.v at HC
  simp only at HC
  obtain ⟨ci, hci⟩ : ∃ c, checkI ts ne np ⟨k1, k2, k3⟩ = c := ⟨_, rfl⟩
  rw [hci] at HC
  have HCI := Lib.hid hci
  clear hci
  go_wp2_with fail
  have hX := HC.out
  refine Calls.mono hX ?_
  clear hX HC
  rintro e w2 ⟨rfl, hb2⟩
  have HB2 := Lib.hid (below_step HB1.out hb2)
  have HX2 := Lib.hid (HX.out.below hb2)
  have HP2 := Lib.hid ((hb2.block _ (blk_lt HP.out)).trans HP.out)
  have HK2 := Lib.hid ((hb2.block _ (blk_lt HK.out)).trans HK.out)
  clear hb2 z0 z1 z2 z3 y0 y1 y2 HX HP HK HB1
  by_cases hc0 : ci = 0
  case neg =>
    have HE := Lib.hid (show needsR ts ne np ⟨k1, k2, k3⟩ = [] from by unfold needsR; rw [HCI.out, if_neg hc0])
    go_wp2_with fail
    go_ret
    exact ⟨none, 0, 0, rfl, by rw [HE.out]; exact rd_nil _ _ _, HB2.out⟩
  subst hc0
  have HE := Lib.hid (show needsR ts ne np ⟨k1, k2, k3⟩ = ordN ts ne np (k3 - 1) (rawNeeds ts ne ⟨k1, k2, k3⟩) 2 from by unfold needsR; rw [if_pos HCI.out])
  have hkv := kv_iff.1 HCI.out
  have hnp := HW.out.np
  have hk3 : 0 ≤ k3 ∧ k3 < (np : Int) := hkv.2.2
  have HWP := Lib.hid (show IntKind.i64.wrap (k3 - 1) = k3 - 1 from by rw [IntKind.wrap_i64] <;> omega)
  have HK3 := Lib.hid (show -1 ≤ k3 - 1 ∧ k3 - 1 ≤ 100000 from by omega)
  clear hkv hnp hk3
  have HCN := Lib.hid (fun W (hB : Below w2.heap.size w2 W) => rneeded53 W ne np ts sg sa sl sc ga gl gc xs (HX2.out.below hB) HW.out hn1000 ⟨k1, k2, k3⟩ HCI.out)
  unfold Ky.v at HCN
  simp only at HCN
  have hC0 : Cells [(⟨w.heap.size, 0, none⟩, .int .i64 ne), (⟨w.heap.size, 1, none⟩, .int .i64 np), (⟨w.heap.size, 2, none⟩, .slice sa sl sc), (⟨w.heap.size, 3, none⟩, .slice ga gl gc), (⟨w.heap.size + 1, 0, none⟩, .string k1), (⟨w.heap.size + 1, 1, none⟩, .int .i64 k2), (⟨w.heap.size + 1, 2, none⟩, .int .i64 k3)] w2 := ⟨blk_cell HP2.out 0, blk_cell HP2.out 1, blk_cell HP2.out 2, blk_cell HP2.out 3, blk_cell HK2.out 0, blk_cell HK2.out 1, blk_cell HK2.out 2, trivial⟩
  go_wp2_with fail
  refine wp_region_T (Cells [(⟨w.heap.size, 0, none⟩, .int .i64 ne), (⟨w.heap.size, 1, none⟩, .int .i64 np), (⟨w.heap.size, 2, none⟩, .slice sa sl sc), (⟨w.heap.size, 3, none⟩, .slice ga gl gc), (⟨w.heap.size + 1, 0, none⟩, .string k1), (⟨w.heap.size + 1, 1, none⟩, .int .i64 k2), (⟨w.heap.size + 1, 2, none⟩, .int .i64 k3)]) (fun _ => false) (by kernel_rfl) ?_
  have hSss1 := Cells.drew hC0
  have hB_0_s1 : Below w2.heap.size w2 w2.drew := below_drew _
  generalize w2.drew = s1 at hSss1 hB_0_s1 ⊢
  have hB_s1_s1 := Below.refl s1.heap.size s1
  refine wpAnyT_pure (i := 4) (v := ?_) rfl (by kernel_rfl) (by kernel_rfl) (by kernel_rfl) (fun _ _ _ h => h) (by rfl) ?_ ?_
  rotate_left
  · intro w; go_simp; try with_reducible rfl
  simp only [Act.put, rgA, rgB, rgC, rgD, rgE, rgF]
  refine wpAnyT_pure (i := 7) (v := ?_) rfl (by kernel_rfl) (by kernel_rfl) (by kernel_rfl) (fun _ _ _ h => h) (by rfl) ?_ ?_
  rotate_left
  · intro w; go_simp; try with_reducible rfl
  simp only [Act.put, rgA, rgB, rgC, rgD, rgE, rgF]
  refine wpAnyT_loadW (i := 0) (v := ?_) rfl (by kernel_rfl) (by kernel_rfl) (by kernel_rfl) (by kernel_rfl) (by kernel_rfl) (fun _ _ _ h => h) (Or.inl ⟨by rfl, ?_⟩) hSss1 ?_
  rotate_left
  · intro w hSw; obtain ⟨e0, e1, e2, e3, e4, e5, e6, -⟩ := hSw; go_simp; try with_reducible rfl
  simp only [Act.put, rgA, rgB, rgC, rgD, rgE, rgF]
  refine wpAnyT_loadW (i := 1) (v := ?_) rfl (by kernel_rfl) (by kernel_rfl) (by kernel_rfl) (by kernel_rfl) (by kernel_rfl) (fun _ _ _ h => h) (Or.inl ⟨by rfl, ?_⟩) hSss1 ?_
  rotate_left
  · intro w hSw; obtain ⟨e0, e1, e2, e3, e4, e5, e6, -⟩ := hSw; go_simp; try with_reducible rfl
  simp only [Act.put, rgA, rgB, rgC, rgD, rgE, rgF]
  refine wpAnyT_loadW (i := 2) (v := ?_) rfl (by kernel_rfl) (by kernel_rfl) (by kernel_rfl) (by kernel_rfl) (by kernel_rfl) (fun _ _ _ h => h) (Or.inl ⟨by rfl, ?_⟩) hSss1 ?_
  rotate_left
  · intro w hSw; obtain ⟨e0, e1, e2, e3, e4, e5, e6, -⟩ := hSw; go_simp; try with_reducible rfl
  simp only [Act.put, rgA, rgB, rgC, rgD, rgE, rgF]
  refine wpAnyT_loadW (i := 5) (v := ?_) rfl (by kernel_rfl) (by kernel_rfl) (by kernel_rfl) (by kernel_rfl) (by kernel_rfl) (fun _ _ _ h => h) (Or.inl ⟨by rfl, ?_⟩) hSss1 ?_
  rotate_left
  · intro w hSw; obtain ⟨e0, e1, e2, e3, e4, e5, e6, -⟩ := hSw; go_simp; try with_reducible rfl
  simp only [Act.put, rgA, rgB, rgC, rgD, rgE, rgF]
  refine wpAnyT_loadW (i := 8) (v := ?_) rfl (by kernel_rfl) (by kernel_rfl) (by kernel_rfl) (by kernel_rfl) (by kernel_rfl) (fun _ _ _ h => h) (Or.inl ⟨by rfl, ?_⟩) hSss1 ?_
  rotate_left
  · intro w hSw; obtain ⟨e0, e1, e2, e3, e4, e5, e6, -⟩ := hSw; go_simp; try with_reducible rfl
  simp only [Act.put, rgA, rgB, rgC, rgD, rgE, rgF]
  refine wpAnyT_pure (i := 6) (v := (.int .i64 (k3 - 1))) rfl (by kernel_rfl) (by kernel_rfl) (by kernel_rfl) (fun _ _ _ h => h) (by rfl) ?_ ?_
  · intro w; have hq := HWP.out; go_simp <;> simp [hq]
  simp only [Act.put, rgA, rgB, rgC, rgD, rgE, rgF]
  refine wpAnyT_one (i := 3) (by kernel_rfl) rfl (by rfl) ?_
  have hbP : Below w2.heap.size w2 s1 := hB_0_s1.trans ((hB_s1_s1).mono (hB_0_s1).size)
  refine wp_enter (f := 27) (args := #[rwV ne np sa sl sc ga gl gc, .agg #[.string k1, .int .i64 k2, .int .i64 k3]]) (by go_simp) (HCN.out s1 hbP) ?_
  rintro e w102 ⟨na, nl, nc, rfl, hrd, hX⟩
  have HRD := Lib.hid hrd
  clear hrd hbP
  have hB_s1_w102 := below_step hB_s1_s1 hX
  have hB_w102_w102 := Below.refl w102.heap.size w102
  have hSsw102 := Cells.below hB_s1_w102 hSss1
  clear hX
  refine ⟨_, rfl, fun _ _ => hSsw102, ?_⟩
  try simp only [Act.put, rgA, rgB, rgC, rgD, rgE, rgF]
  refine wpAnyT_one (i := 9) (by kernel_rfl) rfl (by rfl) ?_
  have hbP : Below w2.heap.size w2 w102 := hB_0_s1.trans ((hB_s1_w102).mono (hB_0_s1).size)
  refine wp_enter (f := 34) (args := #[rwV ne np sa sl sc ga gl gc, .slice na nl nc, .int .i64 (k3 - 1), .int .i64 k3]) (by go_simp) (by have h := rordered53 w102 ne np ts sg sa sl sc ga gl gc xs (HX2.out.below hbP) hn1000 HTS.out na nl nc _ (HRD.out.below hB_w102_w102 (fun _ h => h)) (fun b hb => Nat.lt_of_lt_of_le hb (hB_w102_w102).size) (k3 - 1) HK3.out.1 HK3.out.2; rw [Int.sub_add_cancel] at h; exact h) ?_
  rintro e w103 ⟨oa, ol, oc, rfl, hro, hX⟩
  have HRO := Lib.hid (show Rd (.sl keyT) (fun b => w.heap.size ≤ b ∧ b < (w103).heap.size) w103 [.slice oa ol oc] _ from hro.keep (fun _ _ => rfl) (fun b hb => ⟨Nat.le_trans HB2.out.size (Nat.le_trans hbP.size hb.1), hb.2⟩))
  clear hro hbP
  have hB_s1_w103 := below_step hB_s1_w102 hX
  have hB_w102_w103 := below_step hB_w102_w102 hX
  have hB_w103_w103 := Below.refl w103.heap.size w103
  have hSsw103 := Cells.below hB_s1_w103 hSss1
  clear hX
  refine ⟨_, rfl, fun _ _ => hSsw103, ?_⟩
  try simp only [Act.put, rgA, rgB, rgC, rgD, rgE, rgF]
  refine wpAnyT_pure (i := 10) (v := ?_) rfl (by kernel_rfl) (by kernel_rfl) (by kernel_rfl) (fun _ _ _ h => h) (by rfl) ?_ ?_
  rotate_left
  · intro w; go_simp; try with_reducible rfl
  simp only [Act.put, rgA, rgB, rgC, rgD, rgE, rgF]
  refine wpAnyT_done (by kernel_rfl) ?_ _
  have HBP := Lib.hid (below_step HB2.out (hB_0_s1.trans ((hB_s1_w103).mono (hB_0_s1).size)))
  obtain ⟨w9, rfl⟩ : ∃ x, x = w103 := ⟨_, rfl⟩
  go_wp2_with fail
  go_ret
  exact ⟨oa, ol, oc, rfl, by rw [HE.out]; exact HRO.out, HBP.out⟩
set_option maxHeartbeats 4000000 in
theorem rnext53 {S : Nat → Prop} (w : World) (ne np : Nat) (ts : List Tk) (sg : List Sg) (sa : Option Addr) (sl sc : Nat) (ga : Option Addr) (gl gc : Nat) (xs : List taskT.den) (h : RfW S w ts sg sa sl sc ga gl gc xs) (hw : Wk ts ne np) (hts : ts.length ≤ 1000) (per : Int) (hp : (Lit.int .i64 per).wf = true) :
    Calls Tryz.prog 14 #[rwV ne np sa sl sc ga gl gc, .int .i64 per] w (RKeysP (nextL ts ne np (lkS sg) per) w) := by
  have hn1000 : ne ≤ 1000 := by have := hw.ne; omega
  have HW := Lib.hid hw
  have hp0 := heap_alloc_new w (rwO ne np sa sl sc ga gl gc)
  have hB := (Below.refl w.heap.size w).alloc (Nat.le_refl _) (rwO ne np sa sl sc ga gl gc)
  have HP := Lib.hid hp0
  have HB := Lib.hid hB
  have HX := Lib.hid (h.below hB)
  have HKY := Lib.hid (rkeys53 _ ne np ts sg sa sl sc ga gl gc xs (h.below hB) hn1000 hts per hp)
  have HLN := Lib.hid (all_len (ts := ts) (np := np) per hn1000 hts)
  have HKV := Lib.hid (show ∀ x ∈ allP ts ne np per, checkI ts ne np x = 0 from fun x hx => ((all_kv hw).1 hx).1)
  unfold nextL
  clear h hp0 hB hp hts hw
  go_enter Tryz.func14, Tryz.ntmps14
  go_wp2_with fail
  generalize World.alloc _ _ = w1 at *
  have z0 := blk_cell HP.out 0
  have z1 := blk_cell HP.out 1
  have z2 := blk_cell HP.out 2
  have z3 := blk_cell HP.out 3
  simp at z0 z1 z2 z3
  go_wp2_with fail
  have hX := HKY.out
  refine Calls.mono hX ?_
  clear hX HKY
  rintro e w5 ⟨aa, al, ac, rfl, hrd, hb5⟩
  obtain ⟨all, hallE⟩ : ∃ x, allP ts ne np per = x := ⟨_, rfl⟩
  rw [hallE] at hrd HLN HKV
  have HALE := Lib.hid hallE
  clear hallE
  have HA5 := Lib.hid hrd
  have HAL := Lib.hid (show all.length = al from by simpa using hrd.sl_flat.1)
  have HBr5 := Lib.hid hb5
  obtain ⟨w3, hw3⟩ : ∃ x, x = w1 := ⟨_, rfl⟩
  rw [← hw3] at HA5
  have HW3 := Lib.hid hw3
  clear hw3 hrd hb5 z0 z1 z2 z3
  go_wp2_with fail
  go_loopw [5, 7] (fun v iv wr => ∃ q : Nat, q ≤ al ∧ iv = .int .i64 q ∧ Owns keyT 27 w1.heap.size (fun _ => False) wr v (((all.take q).filter fun n => (lkS sg n).isNone && readyB ts ne (lkS sg) n).map Ky.d) ∧ Below w1.heap.size w1 wr ∧ w5.heap.size ≤ wr.heap.size ∧ (∀ ob, v.ownBlock = some ob → ob < w3.heap.size ∨ w5.heap.size ≤ ob) ∧ ∀ b, w3.heap.size ≤ b → b < w5.heap.size → wr.heap[b]? = w5.heap[b]?) (fun _ iv _ => al - (intOf iv).toNat)
  case atStart => exact ⟨0, Nat.zero_le _, rfl, Owns.nil _ _ _ _, HBr5.out, Nat.le_refl _, fun ob h => by simp [Value.ownBlock] at h, fun _ _ _ => rfl⟩
  obtain ⟨q, hq, rfl, hO, hBr, hsz, hob, hfr⟩ := hrel
  obtain ⟨oa', ol', oc', rfl, -⟩ := hO.slice
  have HO := Lib.hid hO
  have HBr := Lib.hid hBr
  have HSZ := Lib.hid hsz
  have HOBq := Lib.hid hob
  have HFR := Lib.hid hfr
  have HXr := Lib.hid (HX.out.below hBr)
  have HPr := Lib.hid ((hBr.block _ (blk_lt HP.out)).trans HP.out)
  clear hO hBr hsz hob hfr
  by_cases hlq : q < al
  · have halm : al ≤ 1001000 := by rw [← HAL.out]; exact HLN.out
    have hqI : (q : Int) < (al : Int) := by omega
    have hqx : q < all.length := by rw [HAL.out]; exact hlq
    have HLTQ := Lib.hid hlq
    obtain ⟨b, o, rfl, -, m0, m1, m2, hok⟩ := key_at (HA5.out.keep (S' := fun b => w3.heap.size ≤ b ∧ b < w5.heap.size) (fun b hb => HFR.out b hb.1 hb.2) (fun _ h => h)) q hqx
    have HTQ := Lib.hid (show (all.take (q + 1)).filter (fun n => (lkS sg n).isNone && readyB ts ne (lkS sg) n) = (all.take q).filter (fun n => (lkS sg n).isNone && readyB ts ne (lkS sg) n) ++ (if ((lkS sg all[q]).isNone && readyB ts ne (lkS sg) all[q]) = true then [all[q]] else []) from by
      rw [List.take_succ_eq_append_getElem hqx, List.filter_append, List.filter_cons]
      rfl)
    have HAQ := Lib.hid (show ((all.take q).filter fun n => (lkS sg n).isNone && readyB ts ne (lkS sg) n).length ≤ 1001000 from by
      have h1 : ((all.take q).filter fun n => (lkS sg n).isNone && readyB ts ne (lkS sg) n).length ≤ (all.take q).length := List.length_filter_le _ _
      rw [List.length_take] at h1
      omega)
    have HCK := Lib.hid (HKV.out _ (List.getElem_mem hqx))
    have HCW := Lib.hid (fun W (hB : Below wr.heap.size wr W) => rwho53 W ne np ts sg sa sl sc ga gl gc xs (HXr.out.below hB) all[q])
    have HCR := Lib.hid (fun W (hB : Below wr.heap.size wr W) => rready53 W ne np ts sg sa sl sc ga gl gc xs (HXr.out.below hB) HW.out hn1000 all[q] HCK.out)
    rw [show (lkS sg all[q]).isNone = !(lkS sg all[q]).isSome by cases lkS sg all[q] <;> rfl] at HTQ
    obtain ⟨sb, hsb⟩ : ∃ sb, (lkS sg all[q]).isSome = sb := ⟨_, rfl⟩
    obtain ⟨sw, hsw⟩ : ∃ sw, (lkS sg all[q]).getD ⟨#[]⟩ = sw := ⟨_, rfl⟩
    obtain ⟨yb, hyb⟩ : ∃ yb, readyB ts ne (lkS sg) all[q] = yb := ⟨_, rfl⟩
    rw [hsb, hsw] at HCW
    rw [hsb, hyb] at HTQ
    rw [hyb] at HCR
    clear hsb hsw hyb HCK
    generalize all[q] = x at m0 m1 m2 hok HTQ HCW HCR
    have HKO := Lib.hid hok
    obtain ⟨x1, x2, x3⟩ := x
    unfold Ky.v at HCW HCR
    simp only at m0 m1 m2 HCW HCR
    have hC0 : Cells [(⟨w.heap.size, 0, none⟩, .int .i64 ne), (⟨w.heap.size, 1, none⟩, .int .i64 np), (⟨w.heap.size, 2, none⟩, .slice sa sl sc), (⟨w.heap.size, 3, none⟩, .slice ga gl gc), (⟨b, o + q * 3, none⟩, .string x1), (⟨b, o + q * 3 + 1, none⟩, .int .i64 x2), (⟨b, o + q * 3 + 2, none⟩, .int .i64 x3)] wr := ⟨blk_cell HPr.out 0, blk_cell HPr.out 1, blk_cell HPr.out 2, blk_cell HPr.out 3, m0, m1, m2, trivial⟩
    clear m0 m1 m2 hqx hlq hok
    go_wp2_with fail
    refine wp_region_T (Cells [(⟨w.heap.size, 0, none⟩, .int .i64 ne), (⟨w.heap.size, 1, none⟩, .int .i64 np), (⟨w.heap.size, 2, none⟩, .slice sa sl sc), (⟨w.heap.size, 3, none⟩, .slice ga gl gc), (⟨b, o + q * 3, none⟩, .string x1), (⟨b, o + q * 3 + 1, none⟩, .int .i64 x2), (⟨b, o + q * 3 + 2, none⟩, .int .i64 x3)]) (fun _ => false) (by kernel_rfl) ?_
    have hSss4 := Cells.drew hC0
    have hB_0_s4 : Below wr.heap.size wr wr.drew := below_drew _
    generalize wr.drew = s4 at hSss4 hB_0_s4 ⊢
    have hB_s4_s4 := Below.refl s4.heap.size s4
    refine wpAnyT_pure (i := 1) (v := ?_) rfl (by kernel_rfl) (by kernel_rfl) (by kernel_rfl) (fun _ _ _ h => h) (by rfl) ?_ ?_
    rotate_left
    · intro w; go_simp; try with_reducible rfl
    simp only [Act.put, rgA, rgB, rgC, rgD, rgE, rgF]
    refine wpAnyT_pure (i := 2) (v := ?_) rfl (by kernel_rfl) (by kernel_rfl) (by kernel_rfl) (fun _ _ _ h => h) (by rfl) ?_ ?_
    rotate_left
    · intro w; go_simp; try with_reducible rfl
    simp only [Act.put, rgA, rgB, rgC, rgD, rgE, rgF]
    refine wpAnyT_pure (i := 3) (v := ?_) rfl (by kernel_rfl) (by kernel_rfl) (by kernel_rfl) (fun _ _ _ h => h) (by rfl) ?_ ?_
    rotate_left
    · intro w; go_simp; try with_reducible rfl
    simp only [Act.put, rgA, rgB, rgC, rgD, rgE, rgF]
    refine wpAnyT_loadW (i := 0) (v := ?_) rfl (by kernel_rfl) (by kernel_rfl) (by kernel_rfl) (by kernel_rfl) (by kernel_rfl) (fun _ _ _ h => h) (Or.inl ⟨by rfl, ?_⟩) hSss4 ?_
    rotate_left
    · intro w hSw; obtain ⟨e0, e1, e2, e3, e4, e5, e6, -⟩ := hSw; go_simp; try with_reducible rfl
    simp only [Act.put, rgA, rgB, rgC, rgD, rgE, rgF]
    refine wpAnyT_loadW (i := 4) (v := ?_) rfl (by kernel_rfl) (by kernel_rfl) (by kernel_rfl) (by kernel_rfl) (by kernel_rfl) (fun _ _ _ h => h) (Or.inl ⟨by rfl, ?_⟩) hSss4 ?_
    rotate_left
    · intro w hSw; obtain ⟨e0, e1, e2, e3, e4, e5, e6, -⟩ := hSw; go_simp; try with_reducible rfl
    simp only [Act.put, rgA, rgB, rgC, rgD, rgE, rgF]
    refine wpAnyT_one (i := 5) (by kernel_rfl) rfl (by rfl) ?_
    refine wp_enter (f := 26) (args := #[rwV ne np sa sl sc ga gl gc, .agg #[.string x1, .int .i64 x2, .int .i64 x3]]) (by go_simp) (HCW.out s4 (hB_0_s4.trans ((hB_s4_s4).mono (hB_0_s4).size))) ?_
    rintro e w105 ⟨rfl, hX⟩
    have hB_s4_w105 := below_step hB_s4_s4 hX
    have hB_w105_w105 := Below.refl w105.heap.size w105
    have hSsw105 := Cells.below hB_s4_w105 hSss4
    clear hX
    refine ⟨_, rfl, fun _ _ => hSsw105, ?_⟩
    try simp only [Act.put, rgA, rgB, rgC, rgD, rgE, rgF]
    refine wpAnyT_pure (i := 6) (v := ?_) rfl (by kernel_rfl) (by kernel_rfl) (by kernel_rfl) (fun _ _ _ h => h) (by rfl) ?_ ?_
    rotate_left
    · intro w; go_simp; try with_reducible rfl
    simp only [Act.put, rgA, rgB, rgC, rgD, rgE, rgF]
    refine wpAnyT_pure (i := 7) (v := ?_) rfl (by kernel_rfl) (by kernel_rfl) (by kernel_rfl) (fun _ _ _ h => h) (by rfl) ?_ ?_
    rotate_left
    · intro w; go_simp; try with_reducible rfl
    simp only [Act.put, rgA, rgB, rgC, rgD, rgE, rgF]
    refine wpAnyT_pure (i := 8) (v := ?_) rfl (by kernel_rfl) (by kernel_rfl) (by kernel_rfl) (fun _ _ _ h => h) (by rfl) ?_ ?_
    rotate_left
    · intro w; go_simp; try with_reducible rfl
    simp only [Act.put, rgA, rgB, rgC, rgD, rgE, rgF]
    refine wpAnyT_pure (i := 9) (v := ?_) rfl (by kernel_rfl) (by kernel_rfl) (by kernel_rfl) (fun _ _ _ h => h) (by rfl) ?_ ?_
    rotate_left
    · intro w; go_simp; try with_reducible rfl
    simp only [Act.put, rgA, rgB, rgC, rgD, rgE, rgF]
    refine wpAnyT_pure (i := 10) (v := ?_) rfl (by kernel_rfl) (by kernel_rfl) (by kernel_rfl) (fun _ _ _ h => h) (by rfl) ?_ ?_
    rotate_left
    · intro w; go_simp; try with_reducible rfl
    simp only [Act.put, rgA, rgB, rgC, rgD, rgE, rgF]
    refine wpAnyT_done (by kernel_rfl) ?_ _
    have HB6 := Lib.hid (hB_0_s4.trans ((hB_s4_w105).mono (hB_0_s4).size))
    obtain ⟨w6, rfl⟩ : ∃ x, x = w105 := ⟨_, rfl⟩
    have hC1 := Cells.below HB6.out hC0
    cases sb
    · simp only [Bool.not_false, Bool.true_and] at HTQ
      go_wp2_with fail
      refine wp_region_T (Cells [(⟨w.heap.size, 0, none⟩, .int .i64 ne), (⟨w.heap.size, 1, none⟩, .int .i64 np), (⟨w.heap.size, 2, none⟩, .slice sa sl sc), (⟨w.heap.size, 3, none⟩, .slice ga gl gc), (⟨b, o + q * 3, none⟩, .string x1), (⟨b, o + q * 3 + 1, none⟩, .int .i64 x2), (⟨b, o + q * 3 + 2, none⟩, .int .i64 x3)]) (fun _ => false) (by kernel_rfl) ?_
      have hSss6 := Cells.drew hC1
      have hB_0_s6 : Below w6.heap.size w6 w6.drew := below_drew _
      generalize w6.drew = s6 at hSss6 hB_0_s6 ⊢
      have hB_s6_s6 := Below.refl s6.heap.size s6
      refine wpAnyT_pure (i := 0) (v := ?_) rfl (by kernel_rfl) (by kernel_rfl) (by kernel_rfl) (fun _ _ _ h => h) (by rfl) ?_ ?_
      rotate_left
      · intro w; go_simp; try with_reducible rfl
      simp only [Act.put, rgA, rgB, rgC, rgD, rgE, rgF]
      refine wpAnyT_pure (i := 1) (v := ?_) rfl (by kernel_rfl) (by kernel_rfl) (by kernel_rfl) (fun _ _ _ h => h) (by rfl) ?_ ?_
      rotate_left
      · intro w; go_simp; try with_reducible rfl
      simp only [Act.put, rgA, rgB, rgC, rgD, rgE, rgF]
      refine wpAnyT_pure (i := 2) (v := ?_) rfl (by kernel_rfl) (by kernel_rfl) (by kernel_rfl) (fun _ _ _ h => h) (by rfl) ?_ ?_
      rotate_left
      · intro w; go_simp; try with_reducible rfl
      simp only [Act.put, rgA, rgB, rgC, rgD, rgE, rgF]
      refine wpAnyT_pure (i := 4) (v := ?_) rfl (by kernel_rfl) (by kernel_rfl) (by kernel_rfl) (fun _ _ _ h => h) (by rfl) ?_ ?_
      rotate_left
      · intro w; go_simp; try with_reducible rfl
      simp only [Act.put, rgA, rgB, rgC, rgD, rgE, rgF]
      refine wpAnyT_pure (i := 5) (v := ?_) rfl (by kernel_rfl) (by kernel_rfl) (by kernel_rfl) (fun _ _ _ h => h) (by rfl) ?_ ?_
      rotate_left
      · intro w; go_simp; try with_reducible rfl
      simp only [Act.put, rgA, rgB, rgC, rgD, rgE, rgF]
      refine wpAnyT_pure (i := 6) (v := ?_) rfl (by kernel_rfl) (by kernel_rfl) (by kernel_rfl) (fun _ _ _ h => h) (by rfl) ?_ ?_
      rotate_left
      · intro w; go_simp; try with_reducible rfl
      simp only [Act.put, rgA, rgB, rgC, rgD, rgE, rgF]
      refine wpAnyT_loadW (i := 3) (v := ?_) rfl (by kernel_rfl) (by kernel_rfl) (by kernel_rfl) (by kernel_rfl) (by kernel_rfl) (fun _ _ _ h => h) (Or.inl ⟨by rfl, ?_⟩) hSss6 ?_
      rotate_left
      · intro w hSw; obtain ⟨e0, e1, e2, e3, e4, e5, e6, -⟩ := hSw; go_simp; try with_reducible rfl
      simp only [Act.put, rgA, rgB, rgC, rgD, rgE, rgF]
      refine wpAnyT_loadW (i := 7) (v := ?_) rfl (by kernel_rfl) (by kernel_rfl) (by kernel_rfl) (by kernel_rfl) (by kernel_rfl) (fun _ _ _ h => h) (Or.inl ⟨by rfl, ?_⟩) hSss6 ?_
      rotate_left
      · intro w hSw; obtain ⟨e0, e1, e2, e3, e4, e5, e6, -⟩ := hSw; go_simp; try with_reducible rfl
      simp only [Act.put, rgA, rgB, rgC, rgD, rgE, rgF]
      refine wpAnyT_one (i := 8) (by kernel_rfl) rfl (by rfl) ?_
      refine wp_enter (f := 30) (args := #[rwV ne np sa sl sc ga gl gc, .agg #[.string x1, .int .i64 x2, .int .i64 x3]]) (by go_simp) (HCR.out s6 (HB6.out.trans ((hB_0_s6.trans ((hB_s6_s6).mono (hB_0_s6).size)).mono HB6.out.size))) ?_
      rintro e w107 ⟨rfl, hX⟩
      have hB_s6_w107 := below_step hB_s6_s6 hX
      have hB_w107_w107 := Below.refl w107.heap.size w107
      have hSsw107 := Cells.below hB_s6_w107 hSss6
      clear hX
      refine ⟨_, rfl, fun _ _ => hSsw107, ?_⟩
      try simp only [Act.put, rgA, rgB, rgC, rgD, rgE, rgF]
      refine wpAnyT_pure (i := 9) (v := ?_) rfl (by kernel_rfl) (by kernel_rfl) (by kernel_rfl) (fun _ _ _ h => h) (by rfl) ?_ ?_
      rotate_left
      · intro w; go_simp; try with_reducible rfl
      simp only [Act.put, rgA, rgB, rgC, rgD, rgE, rgF]
      refine wpAnyT_done (by kernel_rfl) ?_ _
      have HB8 := Lib.hid (HB6.out.trans ((hB_0_s6.trans ((hB_s6_w107).mono (hB_0_s6).size)).mono HB6.out.size))
      obtain ⟨w8, rfl⟩ : ∃ x, x = w107 := ⟨_, rfl⟩
      cases yb
      · simp only [Bool.false_eq_true, if_false, List.append_nil] at HTQ
        go_wp2_with fail
        go_roundw
        case rel => exact ⟨q + 1, HLTQ.out, by go_num, by rw [HTQ.out]; exact HO.out.below HB8.out, HBr.out.trans (HB8.out.mono HBr.out.size), Nat.le_trans HSZ.out HB8.out.size, fun ob h => HOBq.out ob h, fun b h1 h2 => (HB8.out.block b (Nat.lt_of_lt_of_le h2 HSZ.out)).trans (HFR.out b h1 h2)⟩
        case measure => simp [intOf]; try omega
      · simp only [if_true] at HTQ
        have HTN := Lib.hid (show ((all.take (q + 1)).filter fun n => (lkS sg n).isNone && readyB ts ne (lkS sg) n).map Ky.d = ((all.take q).filter fun n => (lkS sg n).isNone && readyB ts ne (lkS sg) n).map Ky.d ++ [Ky.d ⟨x1, x2, x3⟩] from by
          rw [HTQ.out, List.map_append]
          rfl)
        have HO8 := Lib.hid (HO.out.below HB8.out)
        obtain ⟨-, -, -, -, m0, m1, m2, -⟩ := Cells.below HB8.out hC0
        clear hC0 hC1
        go_wp2_with (at_builtin; go_must (refine wpList_app _ rfl _ _ 39 rfl (e := keyT) (te := 27) info_rkey Tryz.underlying39 rfl (by decide) (base := w1.heap.size) (S := fun _ => False) (v := .slice oa' ol' oc') (xs := ((all.take q).filter fun n => (lkS sg n).isNone && readyB ts ne (lkS sg) n).map Ky.d) rfl (HO8.out.alloc _) (by have h1 := HBr.out.size; have h2 := HB8.out.size; simp only [World.size_alloc]; omega) rfl (ys := [Ky.d ⟨x1, x2, x3⟩]) (Src.new _ [_, _, _] _ _ _) (RdL.one (e := keyT) (key_rd HKO.out)) (by have := HAQ.out; rw [List.length_map]; simp only [List.length_singleton] at *; omega) (by have := HAQ.out; rw [List.length_map]; simp only [List.length_singleton] at *; omega) ?_; intro v' w9 O9 g9 _ ob9; rw [← HTN.out] at O9; have HO9 := Lib.hid O9; have HG9 := Lib.hid g9; have HOB9' := Lib.hid ob9; clear O9 g9 ob9))
        clear m0 m1 m2
        have HBA := Lib.hid ((show Below wr.heap.size wr w8 from HB8.out).alloc HB8.out.size (.cells #[.string x1, .int .i64 x2, .int .i64 x3] 27))
        have HSZ9 := Lib.hid (show w5.heap.size ≤ w9.heap.size from Nat.le_trans HSZ.out (Nat.le_trans HBA.out.size HG9.out.size))
        have HOB9 := Lib.hid (show ∀ ob, v'.ownBlock = some ob → ob < w3.heap.size ∨ w5.heap.size ≤ ob from fun ob h => by
          rcases HOB9'.out with e | e
          · exact HOBq.out ob (e ▸ h)
          · rw [e] at h
            cases h
            exact .inr (Nat.le_trans HSZ.out HBA.out.size))
        have HFR9 := Lib.hid (show ∀ b, w3.heap.size ≤ b → b < w5.heap.size → w9.heap[b]? = w5.heap[b]? from fun b h1 h2 => by
          have h3 := Nat.lt_of_lt_of_le h2 HSZ.out
          refine ((HG9.out.block b (Nat.lt_of_lt_of_le h3 HBA.out.size) (fun e => ?_)).trans (HBA.out.block b h3)).trans (HFR.out b h1 h2)
          rcases HOBq.out b e.symm with h | h <;> omega)
        go_roundw
        case rel => exact ⟨q + 1, HLTQ.out, by go_num, HO9.out, (HBr.out.trans (HBA.out.mono HBr.out.size)).grown HG9.out (Nat.le_trans HBr.out.size HBA.out.size) (fun c hc => (HO.out.own c hc).1), HSZ9.out, HOB9.out, HFR9.out⟩
        case measure => simp [intOf]; try omega
    · simp only [Bool.not_true, Bool.false_and, Bool.false_eq_true, if_false, List.append_nil] at HTQ
      go_wp2_with fail
      refine wp_region_T (Cells [(⟨w.heap.size, 0, none⟩, .int .i64 ne), (⟨w.heap.size, 1, none⟩, .int .i64 np), (⟨w.heap.size, 2, none⟩, .slice sa sl sc), (⟨w.heap.size, 3, none⟩, .slice ga gl gc), (⟨b, o + q * 3, none⟩, .string x1), (⟨b, o + q * 3 + 1, none⟩, .int .i64 x2), (⟨b, o + q * 3 + 2, none⟩, .int .i64 x3)]) (fun _ => false) (by kernel_rfl) ?_
      have hSss8 := Cells.drew hC1
      have hB_0_s8 : Below w6.heap.size w6 w6.drew := below_drew _
      generalize w6.drew = s8 at hSss8 hB_0_s8 ⊢
      have hB_s8_s8 := Below.refl s8.heap.size s8
      refine wpAnyT_pure (i := 0) (v := ?_) rfl (by kernel_rfl) (by kernel_rfl) (by kernel_rfl) (fun _ _ _ h => h) (by rfl) ?_ ?_
      rotate_left
      · intro w; go_simp; try with_reducible rfl
      simp only [Act.put, rgA, rgB, rgC, rgD, rgE, rgF]
      refine wpAnyT_pure (i := 1) (v := ?_) rfl (by kernel_rfl) (by kernel_rfl) (by kernel_rfl) (fun _ _ _ h => h) (by rfl) ?_ ?_
      rotate_left
      · intro w; go_simp; try with_reducible rfl
      simp only [Act.put, rgA, rgB, rgC, rgD, rgE, rgF]
      refine wpAnyT_pure (i := 2) (v := ?_) rfl (by kernel_rfl) (by kernel_rfl) (by kernel_rfl) (fun _ _ _ h => h) (by rfl) ?_ ?_
      rotate_left
      · intro w; go_simp; try with_reducible rfl
      simp only [Act.put, rgA, rgB, rgC, rgD, rgE, rgF]
      refine wpAnyT_skip (i := 3) rfl (by kernel_rfl) (by kernel_rfl) (by kernel_rfl) (fun _ _ _ h => h) (by rfl) ?_
      simp only [Act.put, rgA, rgB, rgC, rgD, rgE, rgF]
      refine wpAnyT_skip (i := 4) rfl (by kernel_rfl) (by kernel_rfl) (by kernel_rfl) (fun _ _ _ h => h) (by rfl) ?_
      simp only [Act.put, rgA, rgB, rgC, rgD, rgE, rgF]
      refine wpAnyT_skip (i := 5) rfl (by kernel_rfl) (by kernel_rfl) (by kernel_rfl) (fun _ _ _ h => h) (by rfl) ?_
      simp only [Act.put, rgA, rgB, rgC, rgD, rgE, rgF]
      refine wpAnyT_skip (i := 6) rfl (by kernel_rfl) (by kernel_rfl) (by kernel_rfl) (fun _ _ _ h => h) (by rfl) ?_
      simp only [Act.put, rgA, rgB, rgC, rgD, rgE, rgF]
      refine wpAnyT_skip (i := 7) rfl (by kernel_rfl) (by kernel_rfl) (by kernel_rfl) (fun _ _ _ h => h) (by rfl) ?_
      simp only [Act.put, rgA, rgB, rgC, rgD, rgE, rgF]
      refine wpAnyT_skip (i := 8) rfl (by kernel_rfl) (by kernel_rfl) (by kernel_rfl) (fun _ _ _ h => h) (by rfl) ?_
      simp only [Act.put, rgA, rgB, rgC, rgD, rgE, rgF]
      refine wpAnyT_pure (i := 9) (v := ?_) rfl (by kernel_rfl) (by kernel_rfl) (by kernel_rfl) (fun _ _ _ h => h) (by rfl) ?_ ?_
      rotate_left
      · intro w; go_simp; try with_reducible rfl
      simp only [Act.put, rgA, rgB, rgC, rgD, rgE, rgF]
      refine wpAnyT_done (by kernel_rfl) ?_ _
      have HB8 := Lib.hid (HB6.out.trans ((hB_0_s8.trans ((hB_s8_s8).mono (hB_0_s8).size)).mono HB6.out.size))
      obtain ⟨w8, rfl⟩ : ∃ x, x = s8 := ⟨_, rfl⟩
      go_wp2_with fail
      go_roundw
      case rel => exact ⟨q + 1, HLTQ.out, by go_num, by rw [HTQ.out]; exact HO.out.below HB8.out, HBr.out.trans (HB8.out.mono HBr.out.size), Nat.le_trans HSZ.out HB8.out.size, fun ob h => HOBq.out ob h, fun b h1 h2 => (HB8.out.block b (Nat.lt_of_lt_of_le h2 HSZ.out)).trans (HFR.out b h1 h2)⟩
      case measure => simp [intOf]; try omega
  · obtain rfl : al = q := by omega
    have hall : all.take al = all := List.take_of_length_le (by rw [HAL.out]; exact Nat.le_refl _)
    rw [hall] at HO
    clear hall hlq
    go_wp2_with fail
    go_ret
    exact ⟨_, _, _, rfl, by rw [HALE.out]; exact HO.out.rd _ (fun _ h => h.elim) (fun c hc => ⟨Nat.le_trans HB.out.size (HO.out.own c hc).1, (HO.out.own c hc).2⟩), below_step HB.out HBr.out⟩
set_option maxHeartbeats 4000000 in
theorem rdone53 {S : Nat → Prop} (w : World) (ne np : Nat) (ts : List Tk) (sg : List Sg) (sa : Option Addr) (sl sc : Nat) (ga : Option Addr) (gl gc : Nat) (xs : List taskT.den) (h : RfW S w ts sg sa sl sc ga gl gc xs) (hn1000 : ne ≤ 1000) (hts : ts.length ≤ 1000) (per : Int) (hp : (Lit.int .i64 per).wf = true) :
    Calls Tryz.prog 16 #[rwV ne np sa sl sc ga gl gc, .int .i64 per] w fun e w' => e = .returned (.bool (doneA ts ne np (lkS sg) per)) ∧ Below w.heap.size w w' := by
  have hp0 := heap_alloc_new w (rwO ne np sa sl sc ga gl gc)
  have hB := (Below.refl w.heap.size w).alloc (Nat.le_refl _) (rwO ne np sa sl sc ga gl gc)
  have HP := Lib.hid hp0
  have HB := Lib.hid hB
  have HX := Lib.hid (h.below hB)
  have HKY := Lib.hid (rkeys53 _ ne np ts sg sa sl sc ga gl gc xs (h.below hB) hn1000 hts per hp)
  have HLN := Lib.hid (all_len (ts := ts) (np := np) per hn1000 hts)
  obtain ⟨db, hdb⟩ : ∃ b, doneA ts ne np (lkS sg) per = b := ⟨_, rfl⟩
  rw [hdb]
  unfold doneA at hdb
  have HDB := Lib.hid hdb
  clear h hp0 hB hp hts hdb
  go_enter Tryz.func16, Tryz.ntmps16
  go_wp2_with fail
  generalize World.alloc _ _ = w1 at *
  have z0 := blk_cell HP.out 0
  have z1 := blk_cell HP.out 1
  have z2 := blk_cell HP.out 2
  have z3 := blk_cell HP.out 3
  simp at z0 z1 z2 z3
  go_wp2_with fail
  have hX := HKY.out
  refine Calls.mono hX ?_
  clear hX HKY
  rintro e w5 ⟨aa, al, ac, rfl, hrd, hb5⟩
  generalize allP ts ne np per = all at hrd HLN HDB
  have HA5 := Lib.hid hrd
  have HAL := Lib.hid (show all.length = al from by simpa using hrd.sl_flat.1)
  have HBr5 := Lib.hid hb5
  have HX5 := Lib.hid (HX.out.below hb5)
  have HP5 := Lib.hid ((hb5.block _ (blk_lt HP.out)).trans HP.out)
  clear hrd hb5 z0 z1 z2 z3 HX HP
  go_wp2_with fail
  go_loopw [6] (fun iv wr => ∃ q : Nat, q ≤ al ∧ iv = .int .i64 q ∧ (∀ j (hj : j < all.length), j < q → (lkS sg all[j]).isSome = true) ∧ Below w5.heap.size w5 wr) (fun iv _ => al - (intOf iv).toNat)
  case atStart => exact ⟨0, Nat.zero_le _, rfl, fun j _ hj => absurd hj (by omega), Below.refl _ _⟩
  obtain ⟨q, hq, rfl, hno, hBr⟩ := hrel
  have HNO := Lib.hid hno
  have HBr := Lib.hid hBr
  have HXr := Lib.hid (HX5.out.below hBr)
  have HPr := Lib.hid ((hBr.block _ (blk_lt HP5.out)).trans HP5.out)
  clear hno hBr
  have halm : al ≤ 1001000 := by rw [← HAL.out]; exact HLN.out
  by_cases hlq : q < al
  · have hqI : (q : Int) < (al : Int) := by omega
    have hqx : q < all.length := by rw [HAL.out]; exact hlq
    have HLTQ := Lib.hid hlq
    obtain ⟨b, o, rfl, -, m0, m1, m2, -⟩ := key_at (HA5.out.below HBr.out (fun b hb => hb.2)) q hqx
    have HCW := Lib.hid (fun W (hB : Below wr.heap.size wr W) => rwho53 W ne np ts sg sa sl sc ga gl gc xs (HXr.out.below hB) all[q])
    obtain ⟨sb, hsb⟩ : ∃ sb, (lkS sg all[q]).isSome = sb := ⟨_, rfl⟩
    obtain ⟨sw, hsw⟩ : ∃ sw, (lkS sg all[q]).getD ⟨#[]⟩ = sw := ⟨_, rfl⟩
    rw [hsb, hsw] at HCW
    have HIN := Lib.hid (show sb = false → db = false from fun h => by
      rw [← HDB.out]
      have h1 : all.all (fun k => (lkS sg k).isSome) = false := List.all_eq_false.2 ⟨all[q], List.getElem_mem hqx, by rw [hsb, h]; simp⟩
      rw [h1]
      rfl)
    have HNN := Lib.hid (show sb = true → ∀ j (hj : j < all.length), j < q + 1 → (lkS sg all[j]).isSome = true from fun h j hj hjq => by
      by_cases e : j = q
      · subst e; rw [hsb]; exact h
      · exact HNO.out j hj (by omega))
    generalize all[q] = x at m0 m1 m2 HCW
    obtain ⟨x1, x2, x3⟩ := x
    unfold Ky.v at HCW
    simp only at m0 m1 m2 HCW
    have hC0 : Cells [(⟨w.heap.size, 0, none⟩, .int .i64 ne), (⟨w.heap.size, 1, none⟩, .int .i64 np), (⟨w.heap.size, 2, none⟩, .slice sa sl sc), (⟨w.heap.size, 3, none⟩, .slice ga gl gc), (⟨b, o + q * 3, none⟩, .string x1), (⟨b, o + q * 3 + 1, none⟩, .int .i64 x2), (⟨b, o + q * 3 + 2, none⟩, .int .i64 x3)] wr := ⟨blk_cell HPr.out 0, blk_cell HPr.out 1, blk_cell HPr.out 2, blk_cell HPr.out 3, m0, m1, m2, trivial⟩
    clear m0 m1 m2 hqx hlq hsb hsw
    go_wp2_with fail
    refine wp_region_T (Cells [(⟨w.heap.size, 0, none⟩, .int .i64 ne), (⟨w.heap.size, 1, none⟩, .int .i64 np), (⟨w.heap.size, 2, none⟩, .slice sa sl sc), (⟨w.heap.size, 3, none⟩, .slice ga gl gc), (⟨b, o + q * 3, none⟩, .string x1), (⟨b, o + q * 3 + 1, none⟩, .int .i64 x2), (⟨b, o + q * 3 + 2, none⟩, .int .i64 x3)]) (fun _ => false) (by kernel_rfl) ?_
    have hSss9 := Cells.drew hC0
    have hB_0_s9 : Below wr.heap.size wr wr.drew := below_drew _
    generalize wr.drew = s9 at hSss9 hB_0_s9 ⊢
    have hB_s9_s9 := Below.refl s9.heap.size s9
    refine wpAnyT_pure (i := 1) (v := ?_) rfl (by kernel_rfl) (by kernel_rfl) (by kernel_rfl) (fun _ _ _ h => h) (by rfl) ?_ ?_
    rotate_left
    · intro w; go_simp; try with_reducible rfl
    simp only [Act.put, rgA, rgB, rgC, rgD, rgE, rgF]
    refine wpAnyT_pure (i := 2) (v := ?_) rfl (by kernel_rfl) (by kernel_rfl) (by kernel_rfl) (fun _ _ _ h => h) (by rfl) ?_ ?_
    rotate_left
    · intro w; go_simp; try with_reducible rfl
    simp only [Act.put, rgA, rgB, rgC, rgD, rgE, rgF]
    refine wpAnyT_pure (i := 3) (v := ?_) rfl (by kernel_rfl) (by kernel_rfl) (by kernel_rfl) (fun _ _ _ h => h) (by rfl) ?_ ?_
    rotate_left
    · intro w; go_simp; try with_reducible rfl
    simp only [Act.put, rgA, rgB, rgC, rgD, rgE, rgF]
    refine wpAnyT_loadW (i := 0) (v := ?_) rfl (by kernel_rfl) (by kernel_rfl) (by kernel_rfl) (by kernel_rfl) (by kernel_rfl) (fun _ _ _ h => h) (Or.inl ⟨by rfl, ?_⟩) hSss9 ?_
    rotate_left
    · intro w hSw; obtain ⟨e0, e1, e2, e3, e4, e5, e6, -⟩ := hSw; go_simp; try with_reducible rfl
    simp only [Act.put, rgA, rgB, rgC, rgD, rgE, rgF]
    refine wpAnyT_loadW (i := 4) (v := ?_) rfl (by kernel_rfl) (by kernel_rfl) (by kernel_rfl) (by kernel_rfl) (by kernel_rfl) (fun _ _ _ h => h) (Or.inl ⟨by rfl, ?_⟩) hSss9 ?_
    rotate_left
    · intro w hSw; obtain ⟨e0, e1, e2, e3, e4, e5, e6, -⟩ := hSw; go_simp; try with_reducible rfl
    simp only [Act.put, rgA, rgB, rgC, rgD, rgE, rgF]
    refine wpAnyT_one (i := 5) (by kernel_rfl) rfl (by rfl) ?_
    refine wp_enter (f := 26) (args := #[rwV ne np sa sl sc ga gl gc, .agg #[.string x1, .int .i64 x2, .int .i64 x3]]) (by go_simp) (HCW.out s9 (hB_0_s9.trans ((hB_s9_s9).mono (hB_0_s9).size))) ?_
    rintro e w110 ⟨rfl, hX⟩
    have hB_s9_w110 := below_step hB_s9_s9 hX
    have hB_w110_w110 := Below.refl w110.heap.size w110
    have hSsw110 := Cells.below hB_s9_w110 hSss9
    clear hX
    refine ⟨_, rfl, fun _ _ => hSsw110, ?_⟩
    try simp only [Act.put, rgA, rgB, rgC, rgD, rgE, rgF]
    refine wpAnyT_pure (i := 6) (v := ?_) rfl (by kernel_rfl) (by kernel_rfl) (by kernel_rfl) (fun _ _ _ h => h) (by rfl) ?_ ?_
    rotate_left
    · intro w; go_simp; try with_reducible rfl
    simp only [Act.put, rgA, rgB, rgC, rgD, rgE, rgF]
    refine wpAnyT_pure (i := 7) (v := ?_) rfl (by kernel_rfl) (by kernel_rfl) (by kernel_rfl) (fun _ _ _ h => h) (by rfl) ?_ ?_
    rotate_left
    · intro w; go_simp; try with_reducible rfl
    simp only [Act.put, rgA, rgB, rgC, rgD, rgE, rgF]
    refine wpAnyT_pure (i := 8) (v := ?_) rfl (by kernel_rfl) (by kernel_rfl) (by kernel_rfl) (fun _ _ _ h => h) (by rfl) ?_ ?_
    rotate_left
    · intro w; go_simp; try with_reducible rfl
    simp only [Act.put, rgA, rgB, rgC, rgD, rgE, rgF]
    refine wpAnyT_pure (i := 9) (v := ?_) rfl (by kernel_rfl) (by kernel_rfl) (by kernel_rfl) (fun _ _ _ h => h) (by rfl) ?_ ?_
    rotate_left
    · intro w; go_simp; try with_reducible rfl
    simp only [Act.put, rgA, rgB, rgC, rgD, rgE, rgF]
    refine wpAnyT_pure (i := 10) (v := ?_) rfl (by kernel_rfl) (by kernel_rfl) (by kernel_rfl) (fun _ _ _ h => h) (by rfl) ?_ ?_
    rotate_left
    · intro w; go_simp; try with_reducible rfl
    simp only [Act.put, rgA, rgB, rgC, rgD, rgE, rgF]
    refine wpAnyT_done (by kernel_rfl) ?_ _
    have HBP := Lib.hid (HBr.out.trans ((hB_0_s9.trans ((hB_s9_w110).mono (hB_0_s9).size)).mono HBr.out.size))
    cases sb
    · go_wp2_with fail
      go_ret
      exact ⟨by show Ending.returned (.bool false) = _; rw [HIN.out (by first | rfl | trivial)], below_step (below_step HB.out HBr5.out) HBP.out⟩
    · go_wp2_with fail
      go_roundw
      case rel => exact ⟨q + 1, HLTQ.out, by go_num, HNN.out (by first | rfl | trivial), HBP.out⟩
      case measure => simp [intOf]; try omega
  · obtain rfl : al = q := by omega
    have HN := Lib.hid (show db = decide (0 < al) from by
      rw [← HDB.out]
      have h1 : all.all (fun k => (lkS sg k).isSome) = true := List.all_eq_true.2 fun n hn => by
        obtain ⟨j, hj, e⟩ := List.getElem_of_mem hn
        rw [← e]
        exact HNO.out j hj (by rw [← HAL.out]; exact hj)
      rw [h1, Bool.true_and, HAL.out])
    go_wp2_with fail
    go_ret
    exact ⟨by show Ending.returned (.bool (decide (0 < al))) = _; rw [HN.out], below_step (below_step HB.out HBr5.out) HBr.out⟩
end Go.Proofs.YtdcjocldggmdbaaGreat
