/- Layer 47: Cycle. -/
import Derived.Test.YtoimbhdjhhmonaaP47j
set_option linter.unusedSimpArgs false
set_option linter.unusedVariables false
set_option maxRecDepth 50000
namespace Go.Proofs.Ytoimbhdjhhmonaa
open Go.RowKit Go Go.Shelf

/-- What Cycle leaves. -/
def CycleP (w : World) (all : List C4) (rd : C4 → Option (List C4)) (e : Ending) (w' : World) : Prop :=
  ∃ (a : Option Addr) (cap : Nat) (ys : List C4), e = .returned (.slice a ys.length cap) ∧ CycQ all (rsOf rd) (rdL rd) ys ∧ (∀ x ∈ ys, x ∈ all) ∧ ys.length ≤ all.length ∧
    Rd (.sl cellT) (fun b => w.heap.size ≤ b ∧ b < w'.heap.size) w' [.slice a ys.length cap] (ys.map C4.d) ∧ Below w.heap.size w w'
set_option maxHeartbeats 4000000 in
theorem cycle47 {F : Nat → Nat} (w : World) {p mr ms n K : Nat} {rd : C4 → Option (List C4)} (h : DepI F w p mr ms n K rd) (hK : n + K ≤ 100000) {all : List C4} (hA : AllG rd all) :
    Calls Try.prog 25 #[.pointer (some ⟨p, 0, none⟩)] w (CycleP w all rd) := by
  have HA := Lib.hid hA
  have hB := (Below.refl w.heap.size w).alloc (Nat.le_refl _) (.cells #[.pointer (some ⟨p, 0, none⟩)] 26)
  have hgb := heap_alloc_new w (.cells #[.pointer (some ⟨p, 0, none⟩)] 26)
  have HB := Lib.hid hB
  have HGB := Lib.hid hgb
  have HI := Lib.hid (h.below hB)
  have HCL := Lib.hid (cells47 (w.alloc (.cells #[.pointer (some ⟨p, 0, none⟩)] 26)) (h.below hB) (by omega))
  have hszw : (w.alloc (.cells #[.pointer (some ⟨p, 0, none⟩)] 26)).heap.size = w.heap.size + 1 := by simp
  have HSW := Lib.hid hszw
  have y0 := blk_cell hgb 0
  simp only [List.getElem?_toArray, List.getElem?_cons_zero] at y0
  clear h hA hB hgb hszw
  go_enter Try.func25, Try.ntmps25
  go_upto_region 3 with fail
  generalize World.alloc _ _ = w0 at *
  go_upto_region 4 with (go_at_call 16; refine HCL.out.mono ?_; rintro e w1 ⟨v, ys, rfl, h2, h3, h4, h5, h6, h7⟩; obtain ⟨oa, oc, rfl⟩ := h6.form; have hya : ys = all := h2.ext HA.out.srt (fun x => ⟨fun hx => (HA.out.mem x (h3 x hx)).2 ((h4 x (h3 x hx)).1 hx), fun hx => (h4 x (HA.out.ok x hx)).2 ((HA.out.mem x (HA.out.ok x hx)).1 hx)⟩); have HY := Lib.hid hya; rw [hya] at h5 h6; have HX := Lib.hid h6; have HB1 := Lib.hid h7; have HAL := Lib.hid (Nat.le_trans h5 hK); rw [show ys.length = all.length from congrArg List.length hya]; clear h2 h3 h4 h5 h6 h7 hya y0)
  have HG1 := Lib.hid ((HB1.out.block _ (blk_lt HGB.out)).trans HGB.out)
  have HI1 := Lib.hid (HI.out.below HB1.out)
  have HU := Lib.hid (show ∀ c d, rsOf rd d c = true → d ∈ all from fun c d hd => (HA.out.reader hd).1)
  have HUL := Lib.hid (show all.length ≤ 1000000 from by have := HAL.out; omega)
  have hall := HAL.out
  have HIX := Lib.hid (index1_47 w1 oa oc all HX.out.rd (fun b hb => hb.2) w.heap.size (fun x => Rch (rsOf rd) x x) (fun W hW x hx => cyc1_47 W (HI1.out.below hW) HU.out HUL.out ((hW.block _ (blk_lt HG1.out)).trans HG1.out) x hx))
  go_wp2_with fail
  refine HIX.out.mono ?_
  rintro e w2 ⟨hB2, hor⟩
  have HB2 := Lib.hid hB2
  have HBW2 := Lib.hid (below_step HB.out (below_step HB1.out hB2))
  clear hB2
  rcases hor with ⟨rfl, hno⟩ | ⟨i, hi, rfl, hi1, hi2⟩
  · have HNO := Lib.hid hno
    clear hno
    go_wp2_with fail
    go_ret
    exact ⟨none, 0, [], rfl, .inl ⟨rfl, HNO.out⟩, (fun x hx => by cases hx), Nat.zero_le _, ⟨none, 0, 0, rfl, rfl, Nat.le_refl _, by decide, .inl rfl⟩, HBW2.out⟩
  · obtain ⟨b, o, hoa, -, m0, m1, m2, m3, hfok⟩ := cell_at (HX.out.rd.below HB2.out (fun b hb => hb.2)) i hi
    subst hoa
    obtain ⟨f, hf⟩ : ∃ x, x = all[i]'hi := ⟨_, rfl⟩
    rw [← hf] at m0 m1 m2 m3 hfok hi1
    have HFE := Lib.hid hf
    have HI0 := Lib.hid hi
    have HI2 := Lib.hid hi2
    have HI3 := Lib.hid hi1
    have HFO := Lib.hid hfok
    have hiI : ¬ (i : Int) < 0 := by omega
    clear hf hi2 hi1 hfok
    obtain ⟨f1, f2, f3, f4⟩ := f
    simp only at m0 m1 m2 m3
    have hBa := (Below.refl w2.heap.size w2).alloc (Nat.le_refl _) (.cells #[.int .i64 f1, .int .i64 f2, .int .i64 f3, .int .i64 f4] 38)
    have hfb := heap_alloc_new w2 (.cells #[.int .i64 f1, .int .i64 f2, .int .i64 f3, .int .i64 f4] 38)
    have HBa := Lib.hid hBa
    have HFB := Lib.hid hfb
    have k0 := blk_cell hfb 0
    have k1 := blk_cell hfb 1
    have k2 := blk_cell hfb 2
    have k3 := blk_cell hfb 3
    have hsa : (w2.alloc (.cells #[.int .i64 f1, .int .i64 f2, .int .i64 f3, .int .i64 f4] 38)).heap.size = w2.heap.size + 1 := by simp
    have HSA := Lib.hid hsa
    simp only [List.getElem?_toArray, List.getElem?_cons_zero, List.getElem?_cons_succ] at k0 k1 k2 k3
    clear hBa hfb hsa
    go_upto_region 8 with fail
    clear m0 m1 m2 m3
    generalize w2.alloc (.cells #[.int .i64 f1, .int .i64 f2, .int .i64 f3, .int .i64 f4] 38) = wa at *
    have hBb := (Below.refl wa.heap.size wa).alloc (Nat.le_refl _) (.cells #[.int .i64 f1, .int .i64 f2, .int .i64 f3, .int .i64 f4] 38)
    have hlb := heap_alloc_new wa (.cells #[.int .i64 f1, .int .i64 f2, .int .i64 f3, .int .i64 f4] 38)
    have HBb := Lib.hid hBb
    have HFBb := Lib.hid ((hBb.block _ (blk_lt HFB.out)).trans HFB.out)
    have HO3 := Lib.hid (owns_of_row (base := wa.heap.size) (l := [⟨f1, f2, f3, f4⟩]) (cap := 1) hlb rfl (Nat.le_refl _) (Nat.le_refl _) (by decide) (fun i hi => by
      have : i = 0 := by simp at hi; omega
      subst this
      exact ⟨rfl, rfl, rfl, rfl⟩) (fun x hx => by rw [List.mem_singleton] at hx; rw [hx]; exact HFO.out))
    clear hBb hlb
    go_wp2_with fail
    generalize wa.alloc (.cells #[.int .i64 f1, .int .i64 f2, .int .i64 f3, .int .i64 f4] 38) = w3 at *
    have HW13 := Lib.hid (show Below w1.heap.size w1 w3 from below_step HB2.out (below_step HBa.out HBb.out))
    have HI3d := Lib.hid (HI1.out.below HW13.out)
    have HWA := Lib.hid (show w.heap.size < wa.heap.size ∧ wa.heap.size < w3.heap.size from by
      have := HSA.out
      have := HB2.out.size
      have := HB1.out.size
      have := HSW.out
      have := (blk_lt HFBb.out)
      have h1 := HO3.out.own wa.heap.size rfl
      omega)
    have HGB3 := Lib.hid ((HW13.out.block _ (blk_lt HG1.out)).trans HG1.out)
    go_loopw [6] (fun s6 wr => ∃ (k : Nat), (wayC (rsOf rd) (rdL rd) ⟨f1, f2, f3, f4⟩ (k + 1)).Nodup ∧ Owns cellT 38 wa.heap.size (fun _ => False) wr s6 ((wayC (rsOf rd) (rdL rd) ⟨f1, f2, f3, f4⟩ (k + 1)).map C4.d) ∧ Below wa.heap.size w3 wr) (fun s6 _ => all.length + 1 - slLen s6)
    case atStart => exact ⟨0, by simp [wayC], HO3.out, Below.refl _ _⟩
    case round =>
      obtain ⟨k, hnd, hO, hB⟩ := hrel
      have HND := Lib.hid hnd
      have HO := Lib.hid hO
      have HBr := Lib.hid hB
      have HKL := Lib.hid (way_len HA.out HI3.out hnd)
      rcases hO.len with ⟨-, h0⟩ | ⟨lg, lc, rfl, hlg, hlgw, hllc, hlcm⟩
      · have := congrArg List.length h0; rw [List.length_map, wayC_len] at this; cases this
      have hlrd := (SlC.of_owns hO).rd
      rw [List.length_map, wayC_len] at hllc HO ⊢
      rw [List.length_map] at hlrd
      obtain ⟨b4, o4, hb4, -, m0, m1, m2, m3, hcok⟩ := cell_at hlrd k (by rw [wayC_len]; omega)
      obtain ⟨rfl, rfl⟩ : lg = b4 ∧ o4 = 0 := by injection hb4 with h; injection h with h1 h2; exact ⟨h1, h2.symm⟩
      obtain ⟨c, hc⟩ : ∃ x, x = itC (rsOf rd) (rdL rd) ⟨f1, f2, f3, f4⟩ k := ⟨_, rfl⟩
      rw [wayC_get, ← hc] at m0 m1 m2 m3 hcok
      have HCE := Lib.hid hc
      have HCO := Lib.hid hcok
      have HLG := Lib.hid (And.intro hlg hlgw)
      obtain ⟨L, hL⟩ : ∃ L, L = k + 1 := ⟨_, rfl⟩
      have hLI : (L : Int) - 1 = (k : Nat) := by omega
      have hkL : k < L := by omega
      have hLm : L ≤ 100001 := by have := HKL.out; have := HAL.out; omega
      rw [← hL] at hllc HO HKL HND ⊢
      have HLE := Lib.hid hL
      have hlw : wr.heap.size ≥ w3.heap.size := hB.size
      clear hnd hO hB hb4 hlrd hc hcok hlg hlgw hL
      obtain ⟨c1, c2, c3, c4⟩ := c
      simp only [Nat.zero_add] at m0 m1 m2 m3
      have hBa := (Below.refl wr.heap.size wr).alloc (Nat.le_refl _) (.cells #[.int .i64 c1, .int .i64 c2, .int .i64 c3, .int .i64 c4] 38)
      have hcb := heap_alloc_new wr (.cells #[.int .i64 c1, .int .i64 c2, .int .i64 c3, .int .i64 c4] 38)
      have HBc := Lib.hid hBa
      have HCB := Lib.hid hcb
      clear hBa hcb
      go_upto_region 10 with fail
      clear m0 m1 m2 m3
      generalize World.alloc _ _ = wb at *
      have HW1b := Lib.hid (HW13.out.trans ((HBr.out.trans (HBc.out.mono (by have := HWA.out; omega))).mono (by have := HBa.out.size; have := HB2.out.size; have := HWA.out; have := HSA.out; omega)))
      have HIb := Lib.hid (HI1.out.below HW1b.out)
      have HGb := Lib.hid ((HW1b.out.block _ (blk_lt HG1.out)).trans HG1.out)
      have HFb := Lib.hid ((HBc.out.block w2.heap.size (by have := HWA.out; have := HSA.out; omega)).trans ((HBr.out.block w2.heap.size (by have := HSA.out; omega)).trans HFBb.out))
      obtain ⟨kk, sl, ib, hD, -⟩ := HIb.out
      have HD := Lib.hid hD
      obtain ⟨ra, rc, hsl, hrd, hl200⟩ := hD.rdR ⟨c1, c2, c3, c4⟩
      obtain ⟨l, hl⟩ : ∃ l, (rd ⟨c1, c2, c3, c4⟩).getD [] = l := ⟨_, rfl⟩
      rw [hl] at hsl hrd hl200
      rw [hsl] at hrd
      have HLQ := Lib.hid (show rdL rd (itC (rsOf rd) (rdL rd) ⟨f1, f2, f3, f4⟩ k) = l from by rw [← HCE.out]; exact hl)
      have HSL := Lib.hid hsl
      have HRD := Lib.hid hrd
      have HL2 := Lib.hid hl200
      have hDom := Lib.hid (show ∀ b, F b = 5 → b < wb.heap.size from fun b e => hD.dom b (by rw [e]; decide))
      have k0 := blk_cell HCB.out 0
      have k1 := blk_cell HCB.out 1
      have k2 := blk_cell HCB.out 2
      have k3 := blk_cell HCB.out 3
      simp only [List.getElem?_toArray, List.getElem?_cons_zero, List.getElem?_cons_succ] at k0 k1 k2 k3
      have hC0 : Cells [(⟨w.heap.size, 0, none⟩, .pointer (some ⟨p, 0, none⟩)), (⟨p, 0, none⟩, .map (some mr)), (⟨wr.heap.size, 0, none⟩, .int .i64 c1), (⟨wr.heap.size, 1, none⟩, .int .i64 c2), (⟨wr.heap.size, 2, none⟩, .int .i64 c3), (⟨wr.heap.size, 3, none⟩, .int .i64 c4)] wb := ⟨blk_cell HGb.out 0, blk_cell hD.row 0, k0, k1, k2, k3, trivial⟩
      clear hD hsl hrd hl200 hl k0 k1 k2 k3
      refine wp_region_T (Cells [(⟨w.heap.size, 0, none⟩, .pointer (some ⟨p, 0, none⟩)), (⟨p, 0, none⟩, .map (some mr)), (⟨wr.heap.size, 0, none⟩, .int .i64 c1), (⟨wr.heap.size, 1, none⟩, .int .i64 c2), (⟨wr.heap.size, 2, none⟩, .int .i64 c3), (⟨wr.heap.size, 3, none⟩, .int .i64 c4)]) (fun _ => false) (by kernel_rfl) ?_
      have hSss1 := Cells.drew hC0
      have hB_0_s1 : Below wb.heap.size wb wb.drew := below_drew _
      generalize wb.drew = s1 at hSss1 hB_0_s1 ⊢
      have hB_s1_s1 := Below.refl s1.heap.size s1
      refine wpAnyT_loadW (i := 0) (v := ?_) rfl (by kernel_rfl) (by kernel_rfl) (by kernel_rfl) (by kernel_rfl) (by kernel_rfl) (fun _ _ _ h => h) (Or.inl ⟨by rfl, ?_⟩) hSss1 ?_
      rotate_left
      · intro w hSw; obtain ⟨e0, e1, e2, e3, e4, e5, -⟩ := hSw; go_simp; try with_reducible rfl
      simp only [Act.put, rgA, rgB, rgC, rgD, rgE, rgF]
      refine wpAnyT_pure (i := 1) (v := ?_) rfl (by kernel_rfl) (by kernel_rfl) (by kernel_rfl) (fun _ _ _ h => h) (by rfl) ?_ ?_
      rotate_left
      · intro w; go_simp; try with_reducible rfl
      simp only [Act.put, rgA, rgB, rgC, rgD, rgE, rgF]
      refine wpAnyT_pure (i := 2) (v := ?_) rfl (by kernel_rfl) (by kernel_rfl) (by kernel_rfl) (fun _ _ _ h => h) (by rfl) ?_ ?_
      rotate_left
      · intro w; go_simp; try with_reducible rfl
      simp only [Act.put, rgA, rgB, rgC, rgD, rgE, rgF]
      refine wpAnyT_loadW (i := 3) (v := ?_) rfl (by kernel_rfl) (by kernel_rfl) (by kernel_rfl) (by kernel_rfl) (by kernel_rfl) (fun _ _ _ h => h) (Or.inl ⟨by rfl, ?_⟩) hSss1 ?_
      rotate_left
      · intro w hSw; obtain ⟨e0, e1, e2, e3, e4, e5, -⟩ := hSw; go_simp; try with_reducible rfl
      simp only [Act.put, rgA, rgB, rgC, rgD, rgE, rgF]
      refine wpAnyT_loadW (i := 4) (v := ?_) rfl (by kernel_rfl) (by kernel_rfl) (by kernel_rfl) (by kernel_rfl) (by kernel_rfl) (fun _ _ _ h => h) (Or.inl ⟨by rfl, ?_⟩) hSss1 ?_
      rotate_left
      · intro w hSw; obtain ⟨e0, e1, e2, e3, e4, e5, -⟩ := hSw; go_simp; try with_reducible rfl
      simp only [Act.put, rgA, rgB, rgC, rgD, rgE, rgF]
      refine wpAnyT_pure (i := 6) (v := (.func (.func 45) #[] #[.pointer (some ⟨w.heap.size, 0, none⟩), .pointer (some ⟨w2.heap.size, 0, none⟩)])) rfl (by kernel_rfl) (by kernel_rfl) (by kernel_rfl) (fun _ _ _ h => h) (by rfl) ?_ ?_
      · intro w; go_simp; try with_reducible rfl
      simp only [Act.put, rgA, rgB, rgC, rgD, rgE, rgF]
      refine wpAnyT_one (i := 5) (by kernel_rfl) rfl (by rfl) ?_
      have hlk := (HD.out.below (hB_0_s1.trans ((hB_s1_s1).mono (hB_0_s1).size))).lookR ⟨c1, c2, c3, c4⟩ HCO.out
      rw [HSL.out] at hlk
      change Sem.run Try.prog (Instr.lookup 59 (.map (some mr)) (.agg #[.int .i64 c1, .int .i64 c2, .int .i64 c3, .int .i64 c4]) false) s1 = _ at hlk
      refine wp_value (v := .slice ra l.length rc) (w' := s1) (by go_simp) ?_
      clear hlk
      refine ⟨fun _ h => h, ?_⟩
      try simp only [Act.put, rgA, rgB, rgC, rgD, rgE, rgF]
      refine wpAnyT_one (i := 7) (by kernel_rfl) rfl (by rfl) ?_
      have hbP : Below wb.heap.size wb s1 := hB_0_s1.trans ((hB_s1_s1).mono (hB_0_s1).size)
      refine wp_enter (f := 42) (args := #[.slice ra l.length rc, .func (.func 45) #[] #[.pointer (some ⟨w.heap.size, 0, none⟩), .pointer (some ⟨w2.heap.size, 0, none⟩)]]) (by go_simp) (index2_47 s1 ra rc l (HRD.out.below hbP (fun b e => hDom.out b e)) (fun b e => Nat.lt_of_lt_of_le (hDom.out b e) hbP.size) w.heap.size w2.heap.size (PTst rd ⟨f1, f2, f3, f4⟩) (fun W hW x hx => cyc2_47 W ((HIb.out.below hbP).below hW) HU.out HUL.out ((hW.block _ (Nat.lt_of_lt_of_le (blk_lt HGb.out) hbP.size)).trans ((hbP.block _ (blk_lt HGb.out)).trans HGb.out)) ⟨f1, f2, f3, f4⟩ HFO.out ((hW.block _ (Nat.lt_of_lt_of_le (blk_lt HFb.out) hbP.size)).trans ((hbP.block _ (blk_lt HFb.out)).trans HFb.out)) x hx)) ?_
      rintro e w102 ⟨hX, hor⟩
      have hor2 := hor.resolve_left (fun h => by
        obtain ⟨d, hd, ht⟩ := way_some HI3.out k
        rw [HLQ.out] at hd
        exact h.2 d hd ht)
      obtain ⟨j, hj, rfl, hj1, hj2⟩ := hor2
      have HJ1 := Lib.hid hj1
      have HJ2 := Lib.hid hj2
      have HJ := Lib.hid hj
      clear hor hj1 hj2 hbP
      have hB_s1_w102 := below_step hB_s1_s1 hX
      have hB_w102_w102 := Below.refl w102.heap.size w102
      have hSsw102 := Cells.below hB_s1_w102 hSss1
      clear hX
      refine ⟨_, rfl, fun _ _ => hSsw102, ?_⟩
      try simp only [Act.put, rgA, rgB, rgC, rgD, rgE, rgF]
      refine wpAnyT_pure (i := 8) (v := ?_) rfl (by kernel_rfl) (by kernel_rfl) (by kernel_rfl) (fun _ _ _ h => h) (by rfl) ?_ ?_
      rotate_left
      · intro w; go_simp; try with_reducible rfl
      simp only [Act.put, rgA, rgB, rgC, rgD, rgE, rgF]
      refine wpAnyT_done (by kernel_rfl) ?_ _
      have HB10 := Lib.hid (hB_0_s1.trans ((hB_s1_w102).mono (hB_0_s1).size))
      obtain ⟨w10, rfl⟩ : ∃ x, x = w102 := ⟨_, rfl⟩
      clear hC0
      have HNX := Lib.hid (show itC (rsOf rd) (rdL rd) ⟨f1, f2, f3, f4⟩ (k + 1) = l[j]'HJ.out from by
        have hlq := HLQ.out
        have h1 := HJ.out
        have h2 := HJ1.out
        have h3 := HJ2.out
        clear HJ1 HJ2
        subst hlq
        exact way_next HI3.out k h1 h2 h3)
      have hjl := HJ.out
      have hRD10 := HRD.out.below HB10.out (fun b e => hDom.out b e)
      obtain ⟨b5, o5, hra, hb5, m0, m1, m2, m3, hdok⟩ := cell_at hRD10 j hjl
      obtain ⟨d, hd⟩ : ∃ x, x = l[j]'hjl := ⟨_, rfl⟩
      rw [← hd] at m0 m1 m2 m3 hdok
      have HNE := Lib.hid (show itC (rsOf rd) (rdL rd) ⟨f1, f2, f3, f4⟩ (k + 1) = d from by rw [HNX.out, hd])
      have HDO := Lib.hid hdok
      subst hra
      clear hd hdok hRD10 HNX
      obtain ⟨d1, d2, d3, d4⟩ := d
      simp only at m0 m1 m2 m3
      have HC10 := Lib.hid ((HB10.out.block _ (blk_lt HCB.out)).trans HCB.out)
      have HG10 := Lib.hid ((HB10.out.block _ (blk_lt HGb.out)).trans HGb.out)
      have k0 := blk_cell HC10.out 0
      have k1 := blk_cell HC10.out 1
      have k2 := blk_cell HC10.out 2
      have k3 := blk_cell HC10.out 3
      simp only [List.getElem?_toArray, List.getElem?_cons_zero, List.getElem?_cons_succ] at k0 k1 k2 k3
      have hC0 : Cells [(⟨w.heap.size, 0, none⟩, .pointer (some ⟨p, 0, none⟩)), (⟨p, 0, none⟩, .map (some mr)), (⟨wr.heap.size, 0, none⟩, .int .i64 c1), (⟨wr.heap.size, 1, none⟩, .int .i64 c2), (⟨wr.heap.size, 2, none⟩, .int .i64 c3), (⟨wr.heap.size, 3, none⟩, .int .i64 c4), (⟨b5, o5 + j * 4, none⟩, .int .i64 d1), (⟨b5, o5 + j * 4 + 1, none⟩, .int .i64 d2), (⟨b5, o5 + j * 4 + 2, none⟩, .int .i64 d3), (⟨b5, o5 + j * 4 + 3, none⟩, .int .i64 d4)] w10 := ⟨blk_cell HG10.out 0, blk_cell (HD.out.below HB10.out).row 0, k0, k1, k2, k3, m0, m1, m2, m3, trivial⟩
      have hjI : (j : Int) < (l.length : Int) := by omega
      have hl2 : l.length ≤ 200 := HL2.out
      clear k0 k1 k2 k3 m0 m1 m2 m3
      go_upto_region 11 with fail
      go_cut [9] (fun s9 wx => ∃ nb : Nat, s9 = .pointer (some ⟨nb, 0, none⟩) ∧ w10.heap.size ≤ nb ∧ CRow wx nb [⟨d1, d2, d3, d4⟩] ∧ Below w10.heap.size w10 wx)
      case first =>
        refine wp_region_T (Cells [(⟨w.heap.size, 0, none⟩, .pointer (some ⟨p, 0, none⟩)), (⟨p, 0, none⟩, .map (some mr)), (⟨wr.heap.size, 0, none⟩, .int .i64 c1), (⟨wr.heap.size, 1, none⟩, .int .i64 c2), (⟨wr.heap.size, 2, none⟩, .int .i64 c3), (⟨wr.heap.size, 3, none⟩, .int .i64 c4), (⟨b5, o5 + j * 4, none⟩, .int .i64 d1), (⟨b5, o5 + j * 4 + 1, none⟩, .int .i64 d2), (⟨b5, o5 + j * 4 + 2, none⟩, .int .i64 d3), (⟨b5, o5 + j * 4 + 3, none⟩, .int .i64 d4)]) (fun i => i == 10) (by kernel_rfl) ?_
        have hSss3 := Cells.drew hC0
        have hB_0_s3 : Below w10.heap.size w10 w10.drew := below_drew _
        generalize w10.drew = s3 at hSss3 hB_0_s3 ⊢
        have hB_s3_s3 := Below.refl s3.heap.size s3
        refine wpAnyT_pure (i := 6) (v := ?_) rfl (by kernel_rfl) (by kernel_rfl) (by kernel_rfl) (fun _ _ _ h => h) (by rfl) ?_ ?_
        rotate_left
        · intro w; go_simp; try with_reducible rfl
        simp only [Act.put, rgA, rgB, rgC, rgD, rgE, rgF]
        refine wpAnyT_loadW (i := 0) (v := ?_) rfl (by kernel_rfl) (by kernel_rfl) (by kernel_rfl) (by kernel_rfl) (by kernel_rfl) (fun _ _ _ h => h) (Or.inl ⟨by rfl, ?_⟩) hSss3 ?_
        rotate_left
        · intro w hSw; obtain ⟨e0, e1, e2, e3, e4, e5, e6, e7, e8, e9, -⟩ := hSw; go_simp; try with_reducible rfl
        simp only [Act.put, rgA, rgB, rgC, rgD, rgE, rgF]
        refine wpAnyT_pure (i := 1) (v := ?_) rfl (by kernel_rfl) (by kernel_rfl) (by kernel_rfl) (fun _ _ _ h => h) (by rfl) ?_ ?_
        rotate_left
        · intro w; go_simp; try with_reducible rfl
        simp only [Act.put, rgA, rgB, rgC, rgD, rgE, rgF]
        refine wpAnyT_pure (i := 2) (v := ?_) rfl (by kernel_rfl) (by kernel_rfl) (by kernel_rfl) (fun _ _ _ h => h) (by rfl) ?_ ?_
        rotate_left
        · intro w; go_simp; try with_reducible rfl
        simp only [Act.put, rgA, rgB, rgC, rgD, rgE, rgF]
        refine wpAnyT_loadW (i := 3) (v := ?_) rfl (by kernel_rfl) (by kernel_rfl) (by kernel_rfl) (by kernel_rfl) (by kernel_rfl) (fun _ _ _ h => h) (Or.inl ⟨by rfl, ?_⟩) hSss3 ?_
        rotate_left
        · intro w hSw; obtain ⟨e0, e1, e2, e3, e4, e5, e6, e7, e8, e9, -⟩ := hSw; go_simp; try with_reducible rfl
        simp only [Act.put, rgA, rgB, rgC, rgD, rgE, rgF]
        refine wpAnyT_loadW (i := 4) (v := ?_) rfl (by kernel_rfl) (by kernel_rfl) (by kernel_rfl) (by kernel_rfl) (by kernel_rfl) (fun _ _ _ h => h) (Or.inl ⟨by rfl, ?_⟩) hSss3 ?_
        rotate_left
        · intro w hSw; obtain ⟨e0, e1, e2, e3, e4, e5, e6, e7, e8, e9, -⟩ := hSw; go_simp; try with_reducible rfl
        simp only [Act.put, rgA, rgB, rgC, rgD, rgE, rgF]
        refine wpAnyT_two (i := 5) (k := 9) (by kernel_rfl) rfl rfl (by rfl) (by rfl) ?_ ?_
        · skip
          have hlk := ((HD.out.below HB10.out).below (hB_0_s3.trans ((hB_s3_s3).mono (hB_0_s3).size))).lookR ⟨c1, c2, c3, c4⟩ HCO.out
          rw [HSL.out] at hlk
          change Sem.run Try.prog (Instr.lookup 59 (.map (some mr)) (.agg #[.int .i64 c1, .int .i64 c2, .int .i64 c3, .int .i64 c4]) false) s3 = _ at hlk
          refine wp_value (v := .slice (some ⟨b5, o5, none⟩) l.length rc) (w' := s3) (by go_simp) ?_
          clear hlk
          refine ⟨fun _ h => h, ?_⟩
          try simp only [Act.put, rgA, rgB, rgC, rgD, rgE, rgF]
          refine wpAnyT_pure (i := 7) (v := ?_) rfl (by kernel_rfl) (by kernel_rfl) (by kernel_rfl) (fun _ _ _ h => h) (by rfl) ?_ ?_
          rotate_left
          · intro w; go_simp; try with_reducible rfl
          simp only [Act.put, rgA, rgB, rgC, rgD, rgE, rgF]
          refine wpAnyT_loadW (i := 8) (v := ?_) rfl (by kernel_rfl) (by kernel_rfl) (by kernel_rfl) (by kernel_rfl) (by kernel_rfl) (fun _ _ _ h => h) (Or.inl ⟨by rfl, ?_⟩) hSss3 ?_
          rotate_left
          · intro w hSw; obtain ⟨e0, e1, e2, e3, e4, e5, e6, e7, e8, e9, -⟩ := hSw; go_simp; try with_reducible rfl
          simp only [Act.put, rgA, rgB, rgC, rgD, rgE, rgF]
          refine wpAnyT_one (i := 9) (by kernel_rfl) rfl (by rfl) ?_
          obtain ⟨nb, hnb⟩ : ∃ b, b = s3.heap.size := ⟨_, rfl⟩
          refine wp_newrow (v := .pointer (some ⟨nb, 0, none⟩)) (cs := #[.int .i64 0, .int .i64 0, .int .i64 0, .int .i64 0]) (te := 38) (by rw [hnb]; go_simp) ?_
          rw [← hnb]
          intro w104 hX hrow
          rw [hnb] at hX
          have HNB := Lib.hid (show w10.heap.size ≤ nb from by rw [hnb]; exact (hB_0_s3.trans ((hB_s3_s3).mono (hB_0_s3).size)).size)
          have HRO := Lib.hid hrow
          clear hrow hnb
          have hB_s3_w104 := below_step hB_s3_s3 hX
          have hB_w104_w104 := Below.refl w104.heap.size w104
          have hSsw104 := Cells.below hB_s3_w104 hSss3
          clear hX
          refine ⟨fun _ _ => hSsw104, ?_⟩
          try simp only [Act.put, rgA, rgB, rgC, rgD, rgE, rgF]
          refine wpAnyT_one (i := 10) (by kernel_rfl) rfl (by rfl) ?_
          have hbP : Below w10.heap.size w10 w104 := hB_0_s3.trans ((hB_s3_w104).mono (hB_0_s3).size)
          have hr9 := ((hB_w104_w104).block _ (blk_lt HRO.out)).trans HRO.out
          have hcr : CRow w104 nb [⟨0, 0, 0, 0⟩] := ⟨_, hr9, fun i hi => by
            have : i = 0 := by simp at hi; omega
            subst this
            exact ⟨rfl, rfl, rfl, rfl⟩⟩
          obtain ⟨hs, hn⟩ := hcr.set Try.prog 0 (by simp) ⟨d1, d2, d3, d4⟩
          have hg10 := gr_setCells nb (encC ⟨d1, d2, d3, d4⟩) (0 * 4) w104
          refine wp_storeK (w' := (w104).setCells nb (0 * 4) (encC ⟨d1, d2, d3, d4⟩)) 38 (.tmp 9) (.tmp 48) rfl ⟨nb, 0 * 4, none⟩ (.agg #[.int .i64 d1, .int .i64 d2, .int .i64 d3, .int .i64 d4]) (by kernel_rfl) (by kernel_rfl) (sizeC' _) hs ?_
          generalize (w104).setCells nb (0 * 4) (encC ⟨d1, d2, d3, d4⟩) = w105 at hn hg10 ⊢
          have HCR := Lib.hid (show CRow w105 nb [⟨d1, d2, d3, d4⟩] from hn)
          have HBX := Lib.hid (hbP.trans (hg10.below (n := w10.heap.size) (fun b e => by have := HNB.out; omega) hbP.size))
          clear hbP hr9 hcr hs hn hg10
          refine ⟨fun h => absurd h (by decide), ?_⟩
          try simp only [Act.put, rgA, rgB, rgC, rgD, rgE, rgF]
          refine wpAnyT_done (by kernel_rfl) ?_ _
          go_wp2_with fail
          go_meet
          case rel => exact ⟨nb, rfl, HNB.out, HCR.out, HBX.out⟩
        · skip
          obtain ⟨nb, hnb⟩ : ∃ b, b = s3.heap.size := ⟨_, rfl⟩
          refine wp_newrow (v := .pointer (some ⟨nb, 0, none⟩)) (cs := #[.int .i64 0, .int .i64 0, .int .i64 0, .int .i64 0]) (te := 38) (by rw [hnb]; go_simp) ?_
          rw [← hnb]
          intro w106 hX hrow
          rw [hnb] at hX
          have HNB := Lib.hid (show w10.heap.size ≤ nb from by rw [hnb]; exact (hB_0_s3.trans ((hB_s3_s3).mono (hB_0_s3).size)).size)
          have HRO := Lib.hid hrow
          clear hrow hnb
          have hB_s3_w106 := below_step hB_s3_s3 hX
          have hB_w106_w106 := Below.refl w106.heap.size w106
          have hSsw106 := Cells.below hB_s3_w106 hSss3
          clear hX
          refine ⟨fun _ _ => hSsw106, ?_⟩
          try simp only [Act.put, rgA, rgB, rgC, rgD, rgE, rgF]
          refine wpAnyT_one (i := 5) (by kernel_rfl) rfl (by rfl) ?_
          have hlk := ((HD.out.below HB10.out).below (hB_0_s3.trans ((hB_s3_w106).mono (hB_0_s3).size))).lookR ⟨c1, c2, c3, c4⟩ HCO.out
          rw [HSL.out] at hlk
          change Sem.run Try.prog (Instr.lookup 59 (.map (some mr)) (.agg #[.int .i64 c1, .int .i64 c2, .int .i64 c3, .int .i64 c4]) false) w106 = _ at hlk
          refine wp_value (v := .slice (some ⟨b5, o5, none⟩) l.length rc) (w' := w106) (by go_simp) ?_
          clear hlk
          refine ⟨fun _ h => h, ?_⟩
          try simp only [Act.put, rgA, rgB, rgC, rgD, rgE, rgF]
          refine wpAnyT_pure (i := 7) (v := ?_) rfl (by kernel_rfl) (by kernel_rfl) (by kernel_rfl) (fun _ _ _ h => h) (by rfl) ?_ ?_
          rotate_left
          · intro w; go_simp; try with_reducible rfl
          simp only [Act.put, rgA, rgB, rgC, rgD, rgE, rgF]
          refine wpAnyT_loadW (i := 8) (v := ?_) rfl (by kernel_rfl) (by kernel_rfl) (by kernel_rfl) (by kernel_rfl) (by kernel_rfl) (fun _ _ _ h => h) (Or.inl ⟨by rfl, ?_⟩) hSsw106 ?_
          rotate_left
          · intro w hSw; obtain ⟨e0, e1, e2, e3, e4, e5, e6, e7, e8, e9, -⟩ := hSw; go_simp; try with_reducible rfl
          simp only [Act.put, rgA, rgB, rgC, rgD, rgE, rgF]
          refine wpAnyT_one (i := 10) (by kernel_rfl) rfl (by rfl) ?_
          have hbP : Below w10.heap.size w10 w106 := hB_0_s3.trans ((hB_s3_w106).mono (hB_0_s3).size)
          have hr9 := ((hB_w106_w106).block _ (blk_lt HRO.out)).trans HRO.out
          have hcr : CRow w106 nb [⟨0, 0, 0, 0⟩] := ⟨_, hr9, fun i hi => by
            have : i = 0 := by simp at hi; omega
            subst this
            exact ⟨rfl, rfl, rfl, rfl⟩⟩
          obtain ⟨hs, hn⟩ := hcr.set Try.prog 0 (by simp) ⟨d1, d2, d3, d4⟩
          have hg10 := gr_setCells nb (encC ⟨d1, d2, d3, d4⟩) (0 * 4) w106
          refine wp_storeK (w' := (w106).setCells nb (0 * 4) (encC ⟨d1, d2, d3, d4⟩)) 38 (.tmp 9) (.tmp 48) rfl ⟨nb, 0 * 4, none⟩ (.agg #[.int .i64 d1, .int .i64 d2, .int .i64 d3, .int .i64 d4]) (by kernel_rfl) (by kernel_rfl) (sizeC' _) hs ?_
          generalize (w106).setCells nb (0 * 4) (encC ⟨d1, d2, d3, d4⟩) = w107 at hn hg10 ⊢
          have HCR := Lib.hid (show CRow w107 nb [⟨d1, d2, d3, d4⟩] from hn)
          have HBX := Lib.hid (hbP.trans (hg10.below (n := w10.heap.size) (fun b e => by have := HNB.out; omega) hbP.size))
          clear hbP hr9 hcr hs hn hg10
          refine ⟨fun h => absurd h (by decide), ?_⟩
          try simp only [Act.put, rgA, rgB, rgC, rgD, rgE, rgF]
          refine wpAnyT_done (by kernel_rfl) ?_ _
          go_wp2_with fail
          go_meet
          case rel => exact ⟨nb, rfl, HNB.out, HCR.out, HBX.out⟩
      obtain ⟨nb, rfl, hnb, hcr, hB11⟩ := hcut
      have HOc := Lib.hid (((HO.out.below HBc.out).below HB10.out).below hB11)
      have HWR := Lib.hid (show Below wr.heap.size wr wc from below_step HBc.out (below_step HB10.out hB11))
      have hix := index47 wc (some ⟨lg, 0, none⟩) lc (wayC (rsOf rd) (rdL rd) ⟨f1, f2, f3, f4⟩ L) (S := fun b => wa.heap.size ≤ b ∧ b < wc.heap.size) (by rw [wayC_len]; exact (SlC.of_owns HOc.out).rd) (fun b hb => hb.2) ⟨d1, d2, d3, d4⟩
      rw [wayC_len] at hix
      unfold C4.v at hix
      have HIN := Lib.hid hix
      have HCR := Lib.hid hcr
      have HB11 := Lib.hid hB11
      have HNB := Lib.hid hnb
      obtain ⟨k0, k1, k2, k3⟩ := hcr.cell 0 (by simp)
      simp only [Nat.zero_mul, Nat.zero_add, List.getElem_cons_zero] at k0 k1 k2 k3
      clear hix hcr hB11 hnb
      go_wp2_with fail
      refine HIN.out.mono ?_
      rintro e w12 ⟨hB12, hor⟩
      have HB12 := Lib.hid hB12
      have HO12 := Lib.hid (HOc.out.below hB12)
      have HW12 := Lib.hid (below_step HWR.out hB12)
      have hc12 := HCR.out.below hB12
      clear k0 k1 k2 k3
      obtain ⟨k0, k1, k2, k3⟩ := hc12.cell 0 (by simp)
      simp only [Nat.zero_mul, Nat.zero_add, List.getElem_cons_zero] at k0 k1 k2 k3
      clear hB12 hc12
      rcases hor with ⟨rfl, hno⟩ | ⟨j2, hj2, rfl, he2, -⟩
      · have HNO := Lib.hid hno
        clear hno
        have HN1 := Lib.hid (show wayC (rsOf rd) (rdL rd) ⟨f1, f2, f3, f4⟩ L ++ [⟨d1, d2, d3, d4⟩] = wayC (rsOf rd) (rdL rd) ⟨f1, f2, f3, f4⟩ (L + 1) from by
          rw [wayC_succ, HLE.out, HNE.out])
        have HND1 := Lib.hid (show (wayC (rsOf rd) (rdL rd) ⟨f1, f2, f3, f4⟩ (L + 1)).Nodup from way_snoc HND.out (fun x hx e => HNO.out x hx (by rw [← e, HLE.out, HNE.out])))
        have HSZ12 := Lib.hid (show wa.heap.size ≤ w12.heap.size from by have := HW12.out.size; have := HWA.out; omega)
        have HLM := Lib.hid hLm
        go_wp2_with (at_builtin; have hq := HO12; clear hq; go_must (refine wpList_app _ rfl _ _ 23 rfl (e := cellT) (te := 38) info_cell Try.underlying23 rfl (by decide) (base := wa.heap.size) (S := fun _ => False) (v := .slice (some ⟨lg, 0, none⟩) L lc) (xs := (wayC (rsOf rd) (rdL rd) ⟨f1, f2, f3, f4⟩ L).map C4.d) rfl (HO12.out.alloc _) (by have := HSZ12.out; simp only [World.size_alloc]; omega) rfl (ys := [C4.d ⟨d1, d2, d3, d4⟩]) (Src.new _ [_, _, _, _] _ _ _) (RdL.one (e := cellT) (cell_rd HDO.out)) (by have := HLM.out; rw [List.length_map, wayC_len]; simp only [List.length_singleton]; omega) (by have := HLM.out; rw [List.length_map, wayC_len]; simp only [List.length_singleton]; omega) ?_; intro v' w13 O9 g9 _ ob9; have HG13 := Lib.hid (((Gr.refl (fun b => Value.ownBlock (.slice (some ⟨lg, 0, none⟩) L lc) = some b) w12).alloc (.cells #[.int .i64 d1, .int .i64 d2, .int .i64 d3, .int .i64 d4] 38)).grown g9 (fun c hc => .inl hc)); rw [map_snoc_d, HN1.out] at O9; have HO13 := Lib.hid O9; clear O9 g9 ob9; skip))
        go_roundw
        case rel =>
          exact ⟨L, HND1.out, HO13.out, (HBr.out.trans (HW12.out.mono (by have := HWA.out; omega))).trans (HG13.out.below (n := wa.heap.size) (fun b e => (HO12.out.own b e).1) HSZ12.out)⟩
        case measure =>
          have h1 := way_len HA.out HI3.out HND1.out
          rcases HO13.out.len with ⟨-, h0⟩ | ⟨g9, c9, h9, -⟩
          · have := congrArg List.length h0; rw [List.length_map, wayC_len] at this; cases this
          · rw [h9, List.length_map, wayC_len]
            simp only [slLen]
            omega
      · have hj2L : j2 < L := by rw [wayC_len] at hj2; exact hj2
        rw [wayC_get] at he2
        have HCQ := Lib.hid (show CycQ all (rsOf rd) (rdL rd) ((wayC (rsOf rd) (rdL rd) ⟨f1, f2, f3, f4⟩ L).drop j2) from by
          refine .inr ⟨i, HI0.out, j2, L, ?_⟩
          rw [← HFE.out]
          refine ⟨HI3.out, HI2.out, hj2L, HND.out, ?_, rfl⟩
          rw [HLE.out, HNE.out]
          exact he2)
        have HRR := Lib.hid ((SlC.of_owns HO12.out).rd.drop j2 (by omega))
        have hne : ¬ lc = j2 := by omega
        clear he2 hj2
        have HJ2L := Lib.hid hj2L
        go_wp2_with fail
        go_ret
        refine ⟨some ⟨lg, j2 * 4, none⟩, lc - j2, (wayC (rsOf rd) (rdL rd) ⟨f1, f2, f3, f4⟩ L).drop j2, ?_, HCQ.out, fun x hx => way_sub HA.out HI3.out L x (List.mem_of_mem_drop hx), ?_, ?_, ?_⟩
        · rw [List.length_drop, wayC_len]; rfl
        · rw [List.length_drop, wayC_len]; have := HKL.out; omega
        · have h1 := HRR.out
          rw [if_neg hne, Option.map_some, Addr.add_lit, Nat.zero_add, show j2 * cellT.sz = j2 * 4 from rfl] at h1
          rw [List.length_drop, wayC_len, List.map_drop]
          refine h1.keep (fun _ _ => rfl) (fun b hb => ?_)
          have hb' : wa.heap.size ≤ b ∧ b < w12.heap.size := hb
          exact ⟨by have := HWA.out; omega, hb'.2⟩
        · exact HBW2.out.trans ((HBa.out.trans ((HBb.out.trans ((HBr.out.trans (HW12.out.mono (by have := HWA.out; omega))).mono (by exact Nat.le_refl _))).mono (by have := HSA.out; omega))).mono HBW2.out.size)
end Go.Proofs.Ytoimbhdjhhmonaa

/- Layer 47: the reference's Order. -/
set_option linter.unusedSimpArgs false
set_option linter.unusedVariables false
set_option maxRecDepth 50000
namespace Go.Proofs.Ytoimbhdjhhmonaa
open Go.RowKit Go Go.Shelf

theorem GI.allG {m : Nat} {G : List En4} (h : GI m G) : AllG (lkG G) (cellsG G) where
  srt := srt_srtC _
  ok := fun x hx => cellsG_ok h hx
  mem := fun x _ => mem_cellsG h
  srd := fun y => by
    unfold rdL
    cases hl : lkG G y with
    | none => exact .nil
    | some l => exact h.srtL hl
  rok := fun d y hr => by
    obtain ⟨e, he, rfl, hd⟩ := (rsOf_lkG h _ _).1 hr
    exact ⟨h.okr e he d hd, h.okc e he⟩
theorem BG.order {F : Nat → Nat} {w : World} {p mr ms n K m : Nat} {G : List En4} {ha : Option Addr} {hc : Nat} (h : BG F w p mr ms n K m G ha hc) (hm : m ≤ 100) : Calls Try.prog 23 #[.pointer (some ⟨p, 0, none⟩)] w (OrderP w (cellsG G) (rdL (lkG G))) :=
  order47 w h.dep (by have := h.nle; have := h.kle; omega) h.gi.allG
theorem BG.cycle {F : Nat → Nat} {w : World} {p mr ms n K m : Nat} {G : List En4} {ha : Option Addr} {hc : Nat} (h : BG F w p mr ms n K m G ha hc) (hm : m ≤ 100) : Calls Try.prog 25 #[.pointer (some ⟨p, 0, none⟩)] w (CycleP w (cellsG G) (lkG G)) :=
  cycle47 w h.dep (by have := h.nle; have := h.kle; omega) h.gi.allG
end Go.Proofs.Ytoimbhdjhhmonaa

/- Layer 47: the reference's Cycle. -/
set_option linter.unusedSimpArgs false
set_option linter.unusedVariables false
set_option maxRecDepth 50000
namespace Go.Proofs.Ytoimbhdjhhmonaa
open Go.RowKit Go Go.Shelf

/-- A cell in a block of its own. -/
def BoxC (w : World) (b : Nat) (c : C4) : Prop := w.heap[b]? = some (.cells #[.int .i64 c.st, .int .i64 c.en, .int .i64 c.ot, .int .i64 c.pe] 38 (0, 0))
theorem BoxC.lt {w : World} {b : Nat} {c : C4} (h : BoxC w b c) : b < w.heap.size := blk_lt h
theorem BoxC.gr {w w' : World} {b : Nat} {c : C4} {G : Nat → Prop} (h : BoxC w b c) (hg : Gr G w w') (hb : ¬ G b) : BoxC w' b c := blk_gr hg h hb
theorem BoxC.below {w w' : World} {b : Nat} {c : C4} (h : BoxC w b c) (hB : Below w.heap.size w w') : BoxC w' b c := (hB.block _ h.lt).trans h
theorem BoxC.cells {w : World} {b : Nat} {c : C4} (h : BoxC w b c) : w.cell? ⟨b, 0, none⟩ = some (.int .i64 c.st) ∧ w.cell? ⟨b, 1, none⟩ = some (.int .i64 c.en) ∧ w.cell? ⟨b, 2, none⟩ = some (.int .i64 c.ot) ∧ w.cell? ⟨b, 3, none⟩ = some (.int .i64 c.pe) :=
  ⟨blk_cell h 0, blk_cell h 1, blk_cell h 2, blk_cell h 3⟩
/-- A cell is put into it. -/
theorem BoxC.store {w : World} {b : Nat} {c : C4} (h : BoxC w b c) (P : Program) (d : C4) :
    ∃ w', Sem.run P (storeCells ⟨b, 0, none⟩ (C4.v d).cells.toList) w = .ok () w' ∧ BoxC w' b d ∧ Gr (fun x => x = b) w w' := by
  have hrun := run_storeCells_cells (P := P) b 0 (encC d) 0 w (fun j hj => by
    rw [encC_len] at hj
    rw [blk_cell h]
    match j, hj with
    | 0, _ => rfl
    | 1, _ => rfl
    | 2, _ => rfl
    | 3, _ => rfl) (fun j hj => blk_frozen h _) (fun v hv => by
    simp [encC] at hv
    rcases hv with rfl | rfl | rfl | rfl <;> rfl)
  have e0 := blk_set (i := 0) h (.int .i64 d.st)
  have e1 := blk_set (i := 0 + 1) e0 (.int .i64 d.en)
  have e2 := blk_set (i := 0 + 1 + 1) e1 (.int .i64 d.ot)
  have e3 := blk_set (i := 0 + 1 + 1 + 1) e2 (.int .i64 d.pe)
  exact ⟨_, hrun, e3, gr_setCells b (encC d) 0 w⟩
end Go.Proofs.Ytoimbhdjhhmonaa

/- Layer 47: DepsOrder. -/
set_option linter.unusedSimpArgs false
set_option linter.unusedVariables false
set_option maxRecDepth 50000
namespace Go.Proofs.Ytoimbhdjhhmonaa
open Go.RowKit Go Go.Shelf

/-- Order's list and error. -/
def ordL (all : List C4) (rd : C4 → List C4) : List C4 := if (finO all rd).length < all.length then [] else finO all rd
def ordE (all : List C4) (rd : C4 → List C4) : Int := if (finO all rd).length < all.length then 7 else 0
def OrdOutP (w : World) (all : List C4) (rd : C4 → List C4) (e : Ending) (w' : World) : Prop :=
  ∃ (va : Option Addr) (vc : Nat), e = .returned (.tuple #[.slice va (ordL all rd).length vc, .int .i64 (ordE all rd)]) ∧ SlC w.heap.size w' (.slice va (ordL all rd).length vc) (ordL all rd) ∧ Below w.heap.size w w'
theorem OrderP.out {w : World} {all : List C4} {rd : C4 → List C4} {e : Ending} {w' : World} (h : OrderP w all rd e w') : OrdOutP w all rd e w' := by
  obtain ⟨hB, ⟨hl, rfl⟩ | ⟨hl, v, rfl, hs⟩⟩ := h
  · unfold OrdOutP ordL ordE
    simp only [hl, if_true]
    exact ⟨none, 0, rfl, SlC.nil _ _, hB⟩
  · unfold OrdOutP ordL ordE
    have hn : ¬ (finO all rd).length < all.length := by omega
    simp only [hn, if_false]
    obtain ⟨va, vc, rfl⟩ := hs.form
    exact ⟨va, vc, rfl, hs, hB⟩
section
variable {F : Nat → Nat} {w : World} {p mr ms n K m : Nat} {G : List En4} {ha : Option Addr} {hc : Nat}
end
end Go.Proofs.Ytoimbhdjhhmonaa
