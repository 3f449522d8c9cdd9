/- Layer 53: the reference's ready. -/
import Derived.Test.YtdcjocldggmdbaaGreatR53d
set_option linter.unusedSimpArgs false
set_option maxRecDepth 50000
namespace Go.Proofs.YtdcjocldggmdbaaGreat
open Go.RowKit Go

theorem RfW.mono {S S' : Nat → Prop} {w : World} {ts : List Tk} {sg : List Sg} {sa : Option Addr} {sl sc : Nat} {ga : Option Addr} {gl gc : Nat} {xs : List taskT.den} (h : RfW S w ts sg sa sl sc ga gl gc xs) (hs : ∀ b, S b → S' b) (hb : ∀ b, S' b → b < w.heap.size) : RfW S' w ts sg sa sl sc ga gl gc xs :=
  ⟨h.rt.keep (fun _ _ => rfl) hs, h.ht, h.rs.keep (fun _ _ => rfl) hs, hb⟩
set_option maxHeartbeats 2000000 in
theorem rready53 {S : Nat → Prop} (w : World) (ne np : Nat) (ts : List Tk) (sg : List Sg) (sa : Option Addr) (sl sc : Nat) (ga : Option Addr) (gl gc : Nat) (xs : List taskT.den) (h : RfW S w ts sg sa sl sc ga gl gc xs) (hw : Wk ts ne np) (hn1000 : ne ≤ 1000) (k : Ky) (hkv : checkI ts ne np k = 0) :
    Calls Tryz.prog 30 #[rwV ne np sa sl sc ga gl gc, k.v] w fun e w' => e = .returned (.bool (readyB ts ne (lkS sg) k)) ∧ Below w.heap.size w w' := by
  have HRN := Lib.hid (show readyB ts ne (lkS sg) k = true ↔ ∀ n ∈ rawNeeds ts ne k, (lkS sg n).isSome = true from by
    unfold readyB
    exact List.all_eq_true)
  have HNE := Lib.hid (fun W (hB : Below w.heap.size w W) => rneeded53 W ne np ts sg sa sl sc ga gl gc xs (h.below hB) hw hn1000 k hkv)
  generalize readyB ts ne (lkS sg) k = rb at HRN ⊢
  have HLM := Lib.hid (raw_len hw hkv)
  obtain ⟨k1, k2, k3⟩ := k
  have hp := heap_alloc_new w (rwO ne np sa sl sc ga gl gc)
  have hB := (Below.refl w.heap.size w).alloc (Nat.le_refl _) (rwO ne np sa sl sc ga gl gc)
  have hk := heap_alloc_new (w.alloc (rwO ne np sa sl sc ga gl gc)) (.cells #[.string k1, .int .i64 k2, .int .i64 k3] 27)
  have hBk := (Below.refl (w.alloc (rwO ne np sa sl sc ga gl gc)).heap.size (w.alloc (rwO ne np sa sl sc ga gl gc))).alloc (Nat.le_refl _) (.cells #[.string k1, .int .i64 k2, .int .i64 k3] 27)
  replace hp := (hBk.block _ (blk_lt hp)).trans hp
  rw [World.size_alloc] at hk
  have HP := Lib.hid hp
  have HK := Lib.hid hk
  have HB1 := Lib.hid (below_step hB hBk)
  have HX := Lib.hid (h.below (below_step hB hBk))
  clear h hp hB hk hBk
  have HNC := Lib.hid (HNE.out _ HB1.out)
  unfold Ky.v at HNC ⊢
  simp only at HNC ⊢
  clear hkv HNE hw
  go_enter Tryz.func30, Tryz.ntmps30
  go_wp2_with fail
  generalize World.alloc _ _ = w1 at *
  have z0 := blk_cell HP.out 0
  have z1 := blk_cell HP.out 1
  have z2 := blk_cell HP.out 2
  have z3 := blk_cell HP.out 3
  have y0 := blk_cell HK.out 0
  have y1 := blk_cell HK.out 1
  have y2 := blk_cell HK.out 2
  simp at z0 z1 z2 z3 y0 y1 y2
  go_wp2_with fail
  have hX := HNC.out
  refine Calls.mono hX ?_
  clear hX HNC
  rintro e w2 ⟨a, len, cap, rfl, hrd, hb2⟩
  generalize rawNeeds ts ne ⟨k1, k2, k3⟩ = l at hrd HRN HLM
  have HL2 := Lib.hid hrd
  have HLL := Lib.hid (show l.length = len from by simpa using hrd.sl_flat.1)
  have HB2 := Lib.hid (below_step HB1.out hb2)
  have HX2 := Lib.hid (HX.out.below hb2)
  have HP2 := Lib.hid ((hb2.block _ (blk_lt HP.out)).trans HP.out)
  clear hrd hb2 z0 z1 z2 z3 y0 y1 y2 HX HP HK
  go_wp2_with fail
  go_loopw [6] (fun i wr => ∃ (q : Nat), q ≤ len ∧ i = .int .i64 q ∧ (∀ j (hj : j < l.length), j < q → (lkS sg l[j]).isSome = true) ∧ Below w2.heap.size w2 wr) (fun i _ => len - (intOf i).toNat)
  case atStart => exact ⟨0, Nat.zero_le _, rfl, fun j _ hj => absurd hj (by omega), Below.refl _ _⟩
  obtain ⟨q, hk, rfl, hno, hB⟩ := hrel
  have HB := Lib.hid hB
  have HNO := Lib.hid hno
  clear hno
  by_cases hlt : q < len
  · have hkm : len ≤ 1000 := by rw [← HLL.out]; exact HLM.out
    have hkI : (q : Int) < (len : Int) := by omega
    have hql : q < l.length := by rw [HLL.out]; exact hlt
    obtain ⟨b, o, rfl, -, m0, m1, m2, -⟩ := key_at (HL2.out.below hB (fun _ h => h)) q hql
    have hpr := (hB.block _ (blk_lt HP2.out)).trans HP2.out
    have HCW := Lib.hid (fun W (hB2 : Below wr.heap.size wr W) => rwho53 W ne np ts sg sa sl sc ga gl gc xs ((HX2.out.below hB).below hB2) l[q])
    obtain ⟨sb, hsb⟩ : ∃ sb, (lkS sg l[q]).isSome = sb := ⟨_, rfl⟩
    obtain ⟨sw, hsw⟩ : ∃ sw, (lkS sg l[q]).getD ⟨#[]⟩ = sw := ⟨_, rfl⟩
    rw [hsb, hsw] at HCW
    have HIN := Lib.hid (show sb = false → rb = false from fun h => by
      cases hr : rb
      · rfl
      · have h1 := HRN.out.1 hr l[q] (List.getElem_mem hql)
        rw [hsb, h] at h1
        cases h1)
    have HNN := Lib.hid (show sb = true → ∀ j (hj : j < l.length), j < q + 1 → (lkS sg l[j]).isSome = true from fun h j hj hjq => by
      by_cases e : j = q
      · subst e; rw [hsb]; exact h
      · exact HNO.out j hj (by omega))
    generalize l[q] = y at m0 m1 m2 HCW
    obtain ⟨y1, y2, y3⟩ := y
    unfold Ky.v at HCW
    simp only at m0 m1 m2 HCW
    have HLT := Lib.hid hlt
    have hC0 : Cells [(⟨w.heap.size, 0, none⟩, .int .i64 ne), (⟨w.heap.size, 1, none⟩, .int .i64 np), (⟨w.heap.size, 2, none⟩, .slice sa sl sc), (⟨w.heap.size, 3, none⟩, .slice ga gl gc), (⟨b, o + q * 3, none⟩, .string y1), (⟨b, o + q * 3 + 1, none⟩, .int .i64 y2), (⟨b, o + q * 3 + 2, none⟩, .int .i64 y3)] wr := ⟨blk_cell hpr 0, blk_cell hpr 1, blk_cell hpr 2, blk_cell hpr 3, m0, m1, m2, trivial⟩
    clear m0 m1 m2 hpr hB hlt hql hsb hsw
    go_wp2_with fail
    refine wp_region_T (Cells [(⟨w.heap.size, 0, none⟩, .int .i64 ne), (⟨w.heap.size, 1, none⟩, .int .i64 np), (⟨w.heap.size, 2, none⟩, .slice sa sl sc), (⟨w.heap.size, 3, none⟩, .slice ga gl gc), (⟨b, o + q * 3, none⟩, .string y1), (⟨b, o + q * 3 + 1, none⟩, .int .i64 y2), (⟨b, o + q * 3 + 2, none⟩, .int .i64 y3)]) (fun _ => false) (by kernel_rfl) ?_
    have hSss1 := Cells.drew hC0
    have hB_0_s1 : Below wr.heap.size wr wr.drew := below_drew _
    generalize wr.drew = s1 at hSss1 hB_0_s1 ⊢
    have hB_s1_s1 := Below.refl s1.heap.size s1
    refine wpAnyT_pure (i := 1) (v := ?_) rfl (by kernel_rfl) (by kernel_rfl) (by kernel_rfl) (fun _ _ _ h => h) (by rfl) ?_ ?_
    rotate_left
    · intro w; go_simp; try with_reducible rfl
    simp only [Act.put, rgA, rgB, rgC, rgD, rgE, rgF]
    refine wpAnyT_pure (i := 2) (v := ?_) rfl (by kernel_rfl) (by kernel_rfl) (by kernel_rfl) (fun _ _ _ h => h) (by rfl) ?_ ?_
    rotate_left
    · intro w; go_simp; try with_reducible rfl
    simp only [Act.put, rgA, rgB, rgC, rgD, rgE, rgF]
    refine wpAnyT_pure (i := 3) (v := ?_) rfl (by kernel_rfl) (by kernel_rfl) (by kernel_rfl) (fun _ _ _ h => h) (by rfl) ?_ ?_
    rotate_left
    · intro w; go_simp; try with_reducible rfl
    simp only [Act.put, rgA, rgB, rgC, rgD, rgE, rgF]
    refine wpAnyT_loadW (i := 0) (v := ?_) rfl (by kernel_rfl) (by kernel_rfl) (by kernel_rfl) (by kernel_rfl) (by kernel_rfl) (fun _ _ _ h => h) (Or.inl ⟨by rfl, ?_⟩) hSss1 ?_
    rotate_left
    · intro w hSw; obtain ⟨e0, e1, e2, e3, e4, e5, e6, -⟩ := hSw; go_simp; try with_reducible rfl
    simp only [Act.put, rgA, rgB, rgC, rgD, rgE, rgF]
    refine wpAnyT_loadW (i := 4) (v := ?_) rfl (by kernel_rfl) (by kernel_rfl) (by kernel_rfl) (by kernel_rfl) (by kernel_rfl) (fun _ _ _ h => h) (Or.inl ⟨by rfl, ?_⟩) hSss1 ?_
    rotate_left
    · intro w hSw; obtain ⟨e0, e1, e2, e3, e4, e5, e6, -⟩ := hSw; go_simp; try with_reducible rfl
    simp only [Act.put, rgA, rgB, rgC, rgD, rgE, rgF]
    refine wpAnyT_one (i := 5) (by kernel_rfl) rfl (by rfl) ?_
    refine wp_enter (f := 26) (args := #[rwV ne np sa sl sc ga gl gc, .agg #[.string y1, .int .i64 y2, .int .i64 y3]]) (by go_simp) (HCW.out s1 (hB_0_s1.trans ((hB_s1_s1).mono (hB_0_s1).size))) ?_
    rintro e w102 ⟨rfl, hX⟩
    have hB_s1_w102 := below_step hB_s1_s1 hX
    have hB_w102_w102 := Below.refl w102.heap.size w102
    have hSsw102 := Cells.below hB_s1_w102 hSss1
    clear hX
    refine ⟨_, rfl, fun _ _ => hSsw102, ?_⟩
    try simp only [Act.put, rgA, rgB, rgC, rgD, rgE, rgF]
    refine wpAnyT_pure (i := 6) (v := ?_) rfl (by kernel_rfl) (by kernel_rfl) (by kernel_rfl) (fun _ _ _ h => h) (by rfl) ?_ ?_
    rotate_left
    · intro w; go_simp; try with_reducible rfl
    simp only [Act.put, rgA, rgB, rgC, rgD, rgE, rgF]
    refine wpAnyT_pure (i := 7) (v := ?_) rfl (by kernel_rfl) (by kernel_rfl) (by kernel_rfl) (fun _ _ _ h => h) (by rfl) ?_ ?_
    rotate_left
    · intro w; go_simp; try with_reducible rfl
    simp only [Act.put, rgA, rgB, rgC, rgD, rgE, rgF]
    refine wpAnyT_pure (i := 8) (v := ?_) rfl (by kernel_rfl) (by kernel_rfl) (by kernel_rfl) (fun _ _ _ h => h) (by rfl) ?_ ?_
    rotate_left
    · intro w; go_simp; try with_reducible rfl
    simp only [Act.put, rgA, rgB, rgC, rgD, rgE, rgF]
    refine wpAnyT_pure (i := 9) (v := ?_) rfl (by kernel_rfl) (by kernel_rfl) (by kernel_rfl) (fun _ _ _ h => h) (by rfl) ?_ ?_
    rotate_left
    · intro w; go_simp; try with_reducible rfl
    simp only [Act.put, rgA, rgB, rgC, rgD, rgE, rgF]
    refine wpAnyT_pure (i := 10) (v := ?_) rfl (by kernel_rfl) (by kernel_rfl) (by kernel_rfl) (fun _ _ _ h => h) (by rfl) ?_ ?_
    rotate_left
    · intro w; go_simp; try with_reducible rfl
    simp only [Act.put, rgA, rgB, rgC, rgD, rgE, rgF]
    refine wpAnyT_done (by kernel_rfl) ?_ _
    have HBP := Lib.hid (HB.out.trans ((hB_0_s1.trans ((hB_s1_w102).mono (hB_0_s1).size)).mono HB.out.size))
    cases sb
    · go_wp2_with fail
      go_ret
      exact ⟨by show Ending.returned (.bool false) = _; rw [HIN.out (by first | rfl | trivial)], below_step HB2.out HBP.out⟩
    · go_wp2_with fail
      go_roundw
      case rel => exact ⟨q + 1, HLT.out, by go_num, HNN.out (by first | rfl | trivial), HBP.out⟩
      case measure => simp [intOf]; try omega
  · obtain rfl : len = q := by omega
    have HN := Lib.hid (show rb = true from HRN.out.2 fun n hn => by
      obtain ⟨j, hj, e⟩ := List.getElem_of_mem hn
      rw [← e]
      exact HNO.out j hj (by rw [← HLL.out]; exact hj))
    clear hB
    go_wp2_with fail
    go_ret
    exact ⟨by show Ending.returned (.bool true) = _; rw [HN.out], below_step HB2.out HB.out⟩
end Go.Proofs.YtdcjocldggmdbaaGreat
