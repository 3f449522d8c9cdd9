/- Layer 56: add. -/
import Derived.Test.YtlfloekanfhlfaaGreatC56b
import Derived.Test.YtlfloekanfhlfaaGreatRegT
namespace Go.Proofs.YtlfloekanfhlfaaGreat
open Go.RowKit Go
set_option linter.unusedSimpArgs false


theorem linksI_snoc (rs : List (List Int)) (xs : List Int) : linksI (rs ++ [xs]) = linksI rs ++ [nextI (headI rs) xs] := by
  unfold linksI
  rw [List.length_append, List.length_singleton, linksN_succ]
  congr 1
  · unfold linksN
    apply List.map_congr_left
    intro j hj
    rw [List.mem_range] at hj
    rw [List.take_append_of_le_length (by omega)]
  · rw [List.take_of_length_le (by simp)]
    simp [headI]
theorem bclone_sl {S : Nat → Prop} (w : World) (a : Option Addr) (len cap : Nat) (xs : List Int) (h : Rd rowT S w [.slice a len cap] xs) (hS : ∀ b, S b → b < w.heap.size) (hlen : len ≤ 1000000) :
    Calls Tryz.prog 56 #[.slice a len cap] w fun e w' => ∃ ca cl cc, e = .returned (.slice ca cl cc) ∧ Below w.heap.size w w' ∧ Owns (.int .u8) 5 w.heap.size S w' (.slice ca cl cc) xs :=
  (bclone_any w a len cap xs h hS hlen).mono fun e w' hh => by
    obtain ⟨v, he, hB, hO⟩ := hh
    obtain ⟨ca, cl, cc, rfl, -⟩ := hO.slice
    exact ⟨ca, cl, cc, he, hB, hO⟩
theorem ext1 {v1 cv : Value} {rs : List (List Int)} {S1 : Nat → Prop} (X : World) (h : Owns rowT 49 0 S1 X v1 rs) (hS : ∀ b, S1 b → v1.ownBlock ≠ some b ∧ b < X.heap.size) {n : Nat} (hc : ∀ g, cv.ownBlock = some g → n ≤ g ∧ g < X.heap.size) (hv : ∀ b, v1.ownBlock = some b → b < n) :
    Owns rowT 49 0 (fun b => S1 b ∨ cv.ownBlock = some b) X v1 rs :=
  h.mono (fun b hb => .inl hb) (fun b hb => by
    rcases hb with hb | hb
    · exact hS b hb
    · exact ⟨fun e => by have := (hc b hb).1; have := hv b e; omega, (hc b hb).2⟩)
theorem add_done (F : Nat → Prop) (W : World) (p : Nat) (rs : List (List Int)) (xs : List Int) (hd : Int) (v1 v2 v1' v2' : Value) (S1 S5 : Nat → Prop) (Y Z : World)
    (hlt : ∀ b, F b → b < W.heap.size) (hp : F p) (hm : W.heap[p]? = some (.cells #[v1, v2] 99 (0, 0))) (hhd : nextI (headI rs) xs = hd)
    (d : (∀ b, S1 b → F b ∧ b ≠ p ∧ v2.ownBlock ≠ some b) ∧ (∀ b, v1.ownBlock = some b → F b ∧ b ≠ p ∧ v2.ownBlock ≠ some b) ∧ (∀ b, v2.ownBlock = some b → F b ∧ b ≠ p))
    (o5 : Owns rowT 49 0 S5 Y v1' (rs ++ [xs])) (fr : ∀ b, S5 b ∨ v1'.ownBlock = some b → S1 b ∨ v1.ownBlock = some b ∨ W.heap.size ≤ b)
    (ob : v2'.ownBlock = v2.ownBlock ∨ v2'.ownBlock = some Y.heap.size) (gY : Gr (fun b => v1.ownBlock = some b) W Y) (gg : Y.grownBy Z v2.ownBlock) (gZ : Gr (fun b => v1.ownBlock = some b ∨ v2.ownBlock = some b) W Z)
    (o7 : Owns (.int .u64) 112 0 (fun _ => False) Z v2' (linksI rs ++ [hd])) :
    Z.cell? ⟨p, 0, none⟩ = some v1 ∧ Z.cell? ⟨p, 1, none⟩ = some v2 ∧ Z.frozen? ⟨p, 0, none⟩ = false ∧ Z.frozen? ⟨p, 1, none⟩ = false ∧
      ∃ F', LogIn F' ((Z.setCell ⟨p, 0, none⟩ v1').setCell ⟨p, 1, none⟩ v2') p (rs ++ [xs]) ∧ (∀ b, F' b → F b ∨ W.heap.size ≤ b) ∧ Gr F W ((Z.setCell ⟨p, 0, none⟩ v1').setCell ⟨p, 1, none⟩ v2') := by
  obtain ⟨d1, d2, d3⟩ := d
  have hnp : ¬ (v1.ownBlock = some p ∨ v2.ownBlock = some p) := by
    rintro (e | e)
    · exact (d2 p e).2.1 rfl
    · exact (d3 p e).2 rfl
  have hpZ := blk_gr gZ hm hnp
  have hpW := blk_lt hm
  have hv2 : ∀ b, v2.ownBlock = some b → b < W.heap.size := fun b hb => hlt b (d3 b hb).1
  have hYs := gY.size
  have hZs := gg.size
  have fr2 : ∀ b, S5 b ∨ v1'.ownBlock = some b → (F b ∨ W.heap.size ≤ b) ∧ b ≠ p ∧ v2.ownBlock ≠ some b := by
    intro b hb
    rcases fr b hb with h | h | h
    · exact ⟨.inl (d1 b h).1, (d1 b h).2⟩
    · exact ⟨.inl (d2 b h).1, (d2 b h).2⟩
    · exact ⟨.inr h, by omega, fun e => by have := hv2 b e; omega⟩
  have hYb : ∀ b, S5 b ∨ v1'.ownBlock = some b → b < Y.heap.size := by
    rintro b (hb | hb)
    · exact (o5.bound b hb).2
    · exact (o5.own b hb).2
  have gS : Gr (fun b => b = p) Z ((Z.setCell ⟨p, 0, none⟩ v1').setCell ⟨p, 1, none⟩ v2') := ((Gr.refl (fun b => b = p) Z).setCell (p := ⟨p, 0, none⟩) (.inl rfl) v1').setCell (p := ⟨p, 1, none⟩) (.inl rfl) v2'
  have o5Z := o5.gr (Gr.of_grown gg) (fun b hb => (fr2 b (.inl hb)).2.2) (fun b hb => (fr2 b (.inr hb)).2.2)
  have hv2p : ∀ b, v2'.ownBlock = some b → (F b ∨ W.heap.size ≤ b) ∧ b ≠ p ∧ b < Z.heap.size := by
    intro b hb
    refine ⟨?_, ?_, (o7.own b hb).2⟩
    · rcases ob with e | e
      · exact .inl (d3 b (e ▸ hb)).1
      · rw [hb] at e; cases e; exact .inr hYs
    · rcases ob with e | e
      · exact (d3 b (e ▸ hb)).2
      · rw [hb] at e; cases e; omega
  have hv2n : ∀ b, S5 b ∨ v1'.ownBlock = some b → v2'.ownBlock ≠ some b := by
    intro b hb e
    rcases ob with e' | e'
    · exact (fr2 b hb).2.2 (e' ▸ e)
    · rw [e] at e'; cases e'; have := hYb _ hb; omega
  refine ⟨blk_cell hpZ 0, blk_cell hpZ 1, blk_frozen hpZ 0, blk_frozen hpZ 1, fun b => (F b ∨ W.heap.size ≤ b) ∧ b < Z.heap.size, ?_, fun b hb => hb.1, ?_⟩
  · refine ⟨fun b hb => Nat.lt_of_lt_of_le hb.2 gS.size, ⟨.inl hp, blk_lt hpZ⟩, v1', v2', S5, blk_set (blk_set hpZ v1') v2', ?_, ?_, ?_, ?_, ?_⟩
    · exact o5Z.gr gS (fun b hb => (fr2 b (.inl hb)).2.1) (fun b hb => (fr2 b (.inr hb)).2.1)
    · rw [linksI_snoc, hhd]
      exact o7.gr gS (fun _ h => h.elim) (fun b hb => (hv2p b hb).2.1)
    · exact fun b hb => ⟨⟨(fr2 b (.inl hb)).1, Nat.lt_of_lt_of_le (hYb b (.inl hb)) hZs⟩, (fr2 b (.inl hb)).2.1, hv2n b (.inl hb)⟩
    · exact fun b hb => ⟨⟨(fr2 b (.inr hb)).1, Nat.lt_of_lt_of_le (hYb b (.inr hb)) hZs⟩, (fr2 b (.inr hb)).2.1, hv2n b (.inr hb)⟩
    · exact fun b hb => ⟨⟨(hv2p b hb).1, (hv2p b hb).2.2⟩, (hv2p b hb).2.1⟩
  · refine (gZ.mono (G := F) (fun b hb => ?_)).trans gS (fun b hb => .inl (by rw [hb]; exact hp))
    rcases hb with hb | hb
    · exact .inl (d2 b hb).1
    · exact .inl (d3 b hb).1

set_option maxRecDepth 20000 in
set_option maxHeartbeats 4000000 in
theorem add_sum (F S : Nat → Prop) (w : World) (p : Nat) (rs : List (List Int)) (h : LogIn F w p rs) (a : Option Addr) (len cap : Nat) (xs : List Int) (hx : Rd rowT S w [.slice a len cap] xs) (hS : ∀ b, S b → b < w.heap.size ∧ ¬ F b)
    (hlen : len ≤ 65536) (hn : rs.length ≤ 1000) :
    Calls Tryz.prog 31 #[.pointer (some ⟨p, 0, none⟩), .slice a len cap] w fun e w' => (∃ v, e = .returned v) ∧ ∃ F', LogIn F' w' p (rs ++ [xs]) ∧ (∀ b, F' b → F b ∨ w.heap.size ≤ b) ∧ Gr F w w' := by
  obtain ⟨a1, c1, a2, c2, k1, k2, f1, f2, r1, r2⟩ := h.open_
  clear r1 r2
  have H := Lib.hid h; clear h
  have HX := Lib.hid hx; clear hx
  have HS := Lib.hid hS; clear hS
  go_enter Tryz.func31, Tryz.ntmps31
  go_wp2_with (first
    | (go_at_call 34; refine (head_sum F _ p rs.length rs H.out (Nat.le_refl _)).mono ?_; rw [List.take_length]; rintro e w1 ⟨rfl, hw⟩; subst w1)
    | (go_at_call 33; refine (Next_any _ _ _ _ _ _ (fun b hb => (HS.out b hb).1) HX.out).mono ?_; rintro e w1 ⟨rfl, hB1⟩))
  clear k1 k2 f1 f2
  obtain ⟨W, hW⟩ : ∃ W, W = w1.drew := ⟨_, rfl⟩
  have hL : LogIn F W p rs := by rw [hW]; exact (H.out.below hB1).below (below_drew _)
  have hX : Rd rowT S W [.slice a len cap] xs := by rw [hW]; exact HX.out.below (hB1.drew) (fun b hb => (HS.out b hb).1)
  have hBW : Below w.heap.size w W := by rw [hW]; exact hB1.drew
  obtain ⟨hlt, hp, v1, v2, S1, m1, O1, O2, d1, d2, d3⟩ := hL
  have HLT := Lib.hid hlt; have HP := Lib.hid hp; have HM := Lib.hid m1; have HO1 := Lib.hid O1; have HO2 := Lib.hid O2; have HXW := Lib.hid hX; have HBW := Lib.hid hBW
  have HDD := Lib.hid (And.intro d1 (And.intro d2 d3))
  have HSW := Lib.hid (fun b (hb : S b) => (show b < W.heap.size ∧ ¬ F b from ⟨Nat.lt_of_lt_of_le (HS.out b hb).1 hBW.size, (HS.out b hb).2⟩))
  have HD1 := Lib.hid O1.bound
  have HV1 := Lib.hid (fun b (hb : v1.ownBlock = some b) => (O1.own b hb).2)
  have HD2 : Hid (∀ b, v1.ownBlock = some b → v2.ownBlock ≠ some b) := Lib.hid (fun b hb => (d2 b hb).2.2)
  have hS0 : W.cell? ⟨p, 0, none⟩ = some v1 ∧ W.cell? ⟨p, 1, none⟩ = some v2 := ⟨blk_cell m1 0, blk_cell m1 1⟩
  have hkeep : ∀ X, Gr (fun b => v1.ownBlock = some b ∨ v2.ownBlock = some b) W X → X.cell? ⟨p, 0, none⟩ = some v1 ∧ X.cell? ⟨p, 1, none⟩ = some v2 := fun X hg => by
    have hnp : ¬ (v1.ownBlock = some p ∨ v2.ownBlock = some p) := by
      rintro (e | e)
      · exact (d2 p e).2.1 rfl
      · exact (d3 p e).2 rfl
    exact ⟨hg.cell (blk_cell m1 0) hnp, hg.cell (blk_cell m1 1) hnp⟩
  clear hlt hp m1 O1 O2 d1 d2 d3 hX hBW
  obtain ⟨hd, hhd⟩ : ∃ hd, nextI (headI rs) xs = hd := ⟨_, rfl⟩
  have hdw : (Lit.int .u64 hd).wf = true := by rw [← hhd]; exact nextI_wf _ _ (headI_wf _)
  have HD := Lib.hid hhd
  rw [hhd]
  clear hhd
  have keepS := Lib.hid hkeep
  clear hkeep
  refine wp_region_T (fun w' => w'.cell? ⟨p, 0, none⟩ = some v1 ∧ w'.cell? ⟨p, 1, none⟩ = some v2) (fun i => i == 19 || i == 22) (by kernel_rfl) ?_
  rw [← hW]
  clear hW hB1
  refine wpAnyT_pure (i := 0) (v := ?_) rfl (by kernel_rfl) (by kernel_rfl) (by kernel_rfl) (fun _ _ _ h => h) (by rfl) ?_ ?_
  rotate_left
  · intro w; go_simp; try with_reducible rfl
  simp only [Act.put, List.setIfInBounds_toArray, List.set_cons_zero, List.set_cons_succ]
  refine wpAnyT_pure (i := 1) (v := ?_) rfl (by kernel_rfl) (by kernel_rfl) (by kernel_rfl) (fun _ _ _ h => h) (by rfl) ?_ ?_
  rotate_left
  · intro w; go_simp; try with_reducible rfl
  simp only [Act.put, List.setIfInBounds_toArray, List.set_cons_zero, List.set_cons_succ]
  refine wpAnyT_pure (i := 2) (v := ?_) rfl (by kernel_rfl) (by kernel_rfl) (by kernel_rfl) (fun _ _ _ h => h) (by rfl) ?_ ?_
  rotate_left
  · intro w; go_simp; try with_reducible rfl
  simp only [Act.put, List.setIfInBounds_toArray, List.set_cons_zero, List.set_cons_succ]
  refine wpAnyT_pure (i := 3) (v := ?_) rfl (by kernel_rfl) (by kernel_rfl) (by kernel_rfl) (fun _ _ _ h => h) (by rfl) ?_ ?_
  rotate_left
  · intro w; go_simp; try with_reducible rfl
  simp only [Act.put, List.setIfInBounds_toArray, List.set_cons_zero, List.set_cons_succ]
  refine wpAnyT_pure (i := 4) (v := ?_) rfl (by kernel_rfl) (by kernel_rfl) (by kernel_rfl) (fun _ _ _ h => h) (by rfl) ?_ ?_
  rotate_left
  · intro w; go_simp; try with_reducible rfl
  simp only [Act.put, List.setIfInBounds_toArray, List.set_cons_zero, List.set_cons_succ]
  refine wpAnyT_pure (i := 6) (v := ?_) rfl (by kernel_rfl) (by kernel_rfl) (by kernel_rfl) (fun _ _ _ h => h) (by rfl) ?_ ?_
  rotate_left
  · intro w; go_simp; try with_reducible rfl
  simp only [Act.put, List.setIfInBounds_toArray, List.set_cons_zero, List.set_cons_succ]
  refine wpAnyT_pure (i := 10) (v := ?_) rfl (by kernel_rfl) (by kernel_rfl) (by kernel_rfl) (fun _ _ _ h => h) (by rfl) ?_ ?_
  rotate_left
  · intro w; go_simp; try with_reducible rfl
  simp only [Act.put, List.setIfInBounds_toArray, List.set_cons_zero, List.set_cons_succ]
  refine wpAnyT_pure (i := 11) (v := ?_) rfl (by kernel_rfl) (by kernel_rfl) (by kernel_rfl) (fun _ _ _ h => h) (by rfl) ?_ ?_
  rotate_left
  · intro w; go_simp; try with_reducible rfl
  simp only [Act.put, List.setIfInBounds_toArray, List.set_cons_zero, List.set_cons_succ]
  refine wpAnyT_pure (i := 12) (v := ?_) rfl (by kernel_rfl) (by kernel_rfl) (by kernel_rfl) (fun _ _ _ h => h) (by rfl) ?_ ?_
  rotate_left
  · intro w; go_simp; try with_reducible rfl
  simp only [Act.put, List.setIfInBounds_toArray, List.set_cons_zero, List.set_cons_succ]
  refine wpAnyT_pure (i := 14) (v := ?_) rfl (by kernel_rfl) (by kernel_rfl) (by kernel_rfl) (fun _ _ _ h => h) (by rfl) ?_ ?_
  rotate_left
  · intro w; go_simp; try with_reducible rfl
  simp only [Act.put, List.setIfInBounds_toArray, List.set_cons_zero, List.set_cons_succ]
  refine wpAnyT_load (i := 5) (v := ?_) rfl (by kernel_rfl) (by kernel_rfl) (by kernel_rfl) (by kernel_rfl) (fun _ _ _ h => h) (Or.inl ⟨by rfl, ?_⟩) hS0 ?_
  rotate_left
  · intro w hSw; obtain ⟨e0, e1⟩ := hSw; go_simp; try with_reducible rfl
  simp only [Act.put, List.setIfInBounds_toArray, List.set_cons_zero, List.set_cons_succ]
  refine wpAnyT_load (i := 13) (v := ?_) rfl (by kernel_rfl) (by kernel_rfl) (by kernel_rfl) (by kernel_rfl) (fun _ _ _ h => h) (Or.inl ⟨by rfl, ?_⟩) hS0 ?_
  rotate_left
  · intro w hSw; obtain ⟨e0, e1⟩ := hSw; go_simp; try with_reducible rfl
  simp only [Act.put, List.setIfInBounds_toArray, List.set_cons_zero, List.set_cons_succ]
  refine wpAnyT_two (i := 7) (k := 15) (by kernel_rfl) rfl rfl (by rfl) (by rfl) ?_ ?_
  ·
    have hcl := bclone_sl W a len cap xs (HXW.out.below (Below.refl W.heap.size W) (fun b hb => (HSW.out b hb).1)) (fun b hb => Nat.lt_of_lt_of_le (HSW.out b hb).1 (Below.refl W.heap.size W).size) (by omega)
    have HCL := Lib.hid hcl; clear hcl
    refine wp_enter (f := 56) (args := #[.slice a len cap]) ?_ HCL.out ?_
    · go_simp
    rintro e X1 ⟨ca, cl, cc, rfl, s1, q1⟩
    have b1 : Below W.heap.size W X1 := below_step (Below.refl W.heap.size W) s1
    have oc1 : Owns (.int .u8) 5 W.heap.size (fun _ => False) X1 (.slice ca cl cc) xs := (q1.flat rfl).base (Below.refl W.heap.size W).size
    clear q1
    refine ⟨_, rfl, fun _ _ => keepS.out X1 (Gr.of_below b1), ?_⟩
    simp only [Act.put, List.setIfInBounds_toArray, List.set_cons_zero, List.set_cons_succ]
    refine wpAnyT_two (i := 8) (k := 15) (by kernel_rfl) rfl rfl (by rfl) (by rfl) ?_ ?_
    ·
      refine wp_new1 (v := .slice (some ⟨X1.heap.size, 0, none⟩) 1 1) (u := (.slice ca cl cc)) (te := 49) (by go_simp) ?_
      intro X2 s2 c12
      have b2 : Below W.heap.size W X2 := below_step b1 s2
      refine ⟨fun _ _ => keepS.out X2 (Gr.of_below b2), ?_⟩
      have oc2 := oc1.below s2
      simp only [Act.put, List.setIfInBounds_toArray, List.set_cons_zero, List.set_cons_succ]
      refine wpAnyT_two (i := 9) (k := 15) (by kernel_rfl) rfl rfl (by rfl) (by rfl) ?_ ?_
      ·
        have hw9 := ext1 _ (HO1.out.below b2) (fun b hb => ⟨(HD1.out b hb).1, Nat.lt_of_lt_of_le (HD1.out b hb).2 b2.size⟩) oc2.own HV1.out
        have hs9 : Src X2 (.slice (some ⟨X1.heap.size, 0, none⟩) [xs].length 1) [xs].length [.slice ca cl cc] := Src.of_cell rfl c12
        have hr9 : RdL rowT (fun b => S1 b ∨ (Value.slice ca cl cc).ownBlock = some b) X2 [.slice ca cl cc] [xs] := RdL.one (e := rowT) (oc2.rd _ (fun _ h => h.elim) (fun b hb => .inr hb))
        have HW9 := Lib.hid hw9; have HS9 := Lib.hid hs9; have HR9 := Lib.hid hr9; clear hw9 hs9 hr9
        refine wp_app (.tmp 19) (.tmp 22) 96 rfl (e := rowT) (te := 49) info_bs Tryz.underlying96 rfl (by decide) (base := 0) (S := fun b => S1 b ∨ (Value.slice ca cl cc).ownBlock = some b) (v := v1) (xs := rs) ?_ HW9.out (Nat.zero_le _) (sv := .slice (some ⟨X1.heap.size, 0, none⟩) 1 1) ?_ (ys := [xs]) HS9.out HR9.out (by simp only [List.length_cons, List.length_nil]; omega) (by simp only [List.length_cons, List.length_nil]; omega) ?_
        · kernel_rfl
        · kernel_rfl
        intro da dl dc X3 o53 gg3 ob3
        have g3 : Gr (fun b => v1.ownBlock = some b) W X3 := (Gr.of_below b2).grown gg3 (fun x hx => .inl hx)
        refine ⟨fun _ _ => keepS.out X3 (g3.mono (fun x hx => .inl (.inl hx))), ?_⟩
        have fr3 : ∀ b, (S1 b ∨ (Value.slice ca cl cc).ownBlock = some b) ∨ (Value.slice da dl dc).ownBlock = some b → S1 b ∨ v1.ownBlock = some b ∨ W.heap.size ≤ b := by
          rintro b ((hb | hb) | hb)
          · exact .inl hb
          · exact .inr (.inr (oc2.own b hb).1)
          · rcases ob3 with e | e
            · exact .inr (.inl (e ▸ hb))
            · rw [hb] at e; cases e; exact .inr (.inr b2.size)
        simp only [Act.put, List.setIfInBounds_toArray, List.set_cons_zero, List.set_cons_succ]
        refine wpAnyT_one (i := 15) (by kernel_rfl) rfl (by rfl) ?_
        refine wp_new1 (v := .slice (some ⟨X3.heap.size, 0, none⟩) 1 1) (u := .int .u64 hd) (te := 112) (by go_simp) ?_
        intro X4 s4 c24
        have g4 : Gr (fun b => v1.ownBlock = some b) W X4 := Gr.step g3 s4
        refine ⟨fun _ _ => keepS.out X4 (g4.mono (fun x hx => .inl (.inl hx))), ?_⟩
        have o54 := o53.below s4
        simp only [Act.put, List.setIfInBounds_toArray, List.set_cons_zero, List.set_cons_succ]
        refine wpAnyT_one (i := 16) (by kernel_rfl) rfl (by rfl) ?_
        have hw9 := HO2.out.gr g4 (fun _ h => h.elim) (fun b hb e => HD2.out b e hb)
        have hs9 : Src X4 (.slice (some ⟨X3.heap.size, 0, none⟩) [hd].length 1) [hd].length [.int .u64 hd] := Src.of_cell rfl c24
        have HW9 := Lib.hid hw9; have HS9 := Lib.hid hs9; clear hw9 hs9
        refine wp_app (.tmp 27) (.tmp 29) 97 rfl (e := .int .u64) (te := 112) info_u64 Tryz.underlying97 rfl (by decide) (base := 0) (S := fun _ => False) (v := v2) (xs := linksI rs) ?_ HW9.out (Nat.zero_le _) (sv := .slice (some ⟨X3.heap.size, 0, none⟩) 1 1) ?_ (ys := [hd]) HS9.out (RdL.int1 hdw) (by rw [linksI_length]; simp only [List.length_cons, List.length_nil]; omega) (by rw [linksI_length]; simp only [List.length_cons, List.length_nil]; omega) ?_
        · kernel_rfl
        · kernel_rfl
        intro ea el ec X5 o75 gg5 ob5
        have g5 : Gr (fun b => v1.ownBlock = some b ∨ v2.ownBlock = some b) W X5 := (g4.mono (fun x hx => .inl (.inl hx))).grown gg5 (fun x hx => .inl (.inr hx))
        refine ⟨fun _ _ => keepS.out X5 g5, ?_⟩
        have fin5 := add_done F W p rs xs hd v1 v2 (.slice da dl dc) (.slice ea el ec) S1 (fun b => S1 b ∨ (Value.slice ca cl cc).ownBlock = some b) X4 X5 HLT.out HP.out HM.out HD.out HDD.out o54 fr3 ob5 g4 gg5 g5 o75
        obtain ⟨hc0, hc1, hf0, hf1, hfin⟩ := fin5
        simp only [Act.put, List.setIfInBounds_toArray, List.set_cons_zero, List.set_cons_succ]
        refine wpAnyT_pure (i := 17) (v := ?_) rfl (by kernel_rfl) (by kernel_rfl) (by kernel_rfl) (fun _ _ _ h => h) (by rfl) ?_ ?_
        rotate_left
        · intro w; go_simp; try with_reducible rfl
        simp only [Act.put, List.setIfInBounds_toArray, List.set_cons_zero, List.set_cons_succ]
        refine wpAnyT_pure (i := 18) (v := ?_) rfl (by kernel_rfl) (by kernel_rfl) (by kernel_rfl) (fun _ _ _ h => h) (by rfl) ?_ ?_
        rotate_left
        · intro w; go_simp; try with_reducible rfl
        simp only [Act.put, List.setIfInBounds_toArray, List.set_cons_zero, List.set_cons_succ]
        refine wpAnyT_one (i := 19) (by kernel_rfl) rfl (by rfl) ?_
        go_simp
        refine wpAnyT_pure (i := 20) (v := ?_) rfl (by kernel_rfl) (by kernel_rfl) (by kernel_rfl) (fun _ _ _ h => h) (by rfl) ?_ ?_
        rotate_left
        · intro w; go_simp; try with_reducible rfl
        simp only [Act.put, List.setIfInBounds_toArray, List.set_cons_zero, List.set_cons_succ]
        refine wpAnyT_pure (i := 21) (v := ?_) rfl (by kernel_rfl) (by kernel_rfl) (by kernel_rfl) (fun _ _ _ h => h) (by rfl) ?_ ?_
        rotate_left
        · intro w; go_simp; try with_reducible rfl
        simp only [Act.put, List.setIfInBounds_toArray, List.set_cons_zero, List.set_cons_succ]
        refine wpAnyT_one (i := 22) (by kernel_rfl) rfl (by rfl) ?_
        go_simp
        refine wpAnyT_done (by kernel_rfl) ?_ _
        go_wp2
        go_end0
        obtain ⟨F', hLF, hF', hG⟩ := hfin
        exact ⟨⟨_, rfl⟩, F', hLF, fun b hb => (hF' b hb).imp id (fun h => Nat.le_trans HBW.out.size h), (Gr.of_below HBW.out).trans hG (fun _ hx => .inl hx)⟩
      ·
        refine wp_new1 (v := .slice (some ⟨X2.heap.size, 0, none⟩) 1 1) (u := .int .u64 hd) (te := 112) (by go_simp) ?_
        intro X3 s3 c23
        have b3 : Below W.heap.size W X3 := below_step b2 s3
        refine ⟨fun _ _ => keepS.out X3 (Gr.of_below b3), ?_⟩
        have ccc13 := cell_below c12 s3
        have oc3 := oc2.below s3
        simp only [Act.put, List.setIfInBounds_toArray, List.set_cons_zero, List.set_cons_succ]
        refine wpAnyT_one (i := 9) (by kernel_rfl) rfl (by rfl) ?_
        have hw9 := ext1 _ (HO1.out.below b3) (fun b hb => ⟨(HD1.out b hb).1, Nat.lt_of_lt_of_le (HD1.out b hb).2 b3.size⟩) oc3.own HV1.out
        have hs9 : Src X3 (.slice (some ⟨X1.heap.size, 0, none⟩) [xs].length 1) [xs].length [.slice ca cl cc] := Src.of_cell rfl ccc13
        have hr9 : RdL rowT (fun b => S1 b ∨ (Value.slice ca cl cc).ownBlock = some b) X3 [.slice ca cl cc] [xs] := RdL.one (e := rowT) (oc3.rd _ (fun _ h => h.elim) (fun b hb => .inr hb))
        have HW9 := Lib.hid hw9; have HS9 := Lib.hid hs9; have HR9 := Lib.hid hr9; clear hw9 hs9 hr9
        refine wp_app (.tmp 19) (.tmp 22) 96 rfl (e := rowT) (te := 49) info_bs Tryz.underlying96 rfl (by decide) (base := 0) (S := fun b => S1 b ∨ (Value.slice ca cl cc).ownBlock = some b) (v := v1) (xs := rs) ?_ HW9.out (Nat.zero_le _) (sv := .slice (some ⟨X1.heap.size, 0, none⟩) 1 1) ?_ (ys := [xs]) HS9.out HR9.out (by simp only [List.length_cons, List.length_nil]; omega) (by simp only [List.length_cons, List.length_nil]; omega) ?_
        · kernel_rfl
        · kernel_rfl
        intro da dl dc X4 o54 gg4 ob4
        have g4 : Gr (fun b => v1.ownBlock = some b) W X4 := (Gr.of_below b3).grown gg4 (fun x hx => .inl hx)
        refine ⟨fun _ _ => keepS.out X4 (g4.mono (fun x hx => .inl (.inl hx))), ?_⟩
        have cc24 := (Gr.of_grown gg4).cell c23 (fun e => absurd (HV1.out _ e) (Nat.not_lt.2 (b2.size)))
        have fr4 : ∀ b, (S1 b ∨ (Value.slice ca cl cc).ownBlock = some b) ∨ (Value.slice da dl dc).ownBlock = some b → S1 b ∨ v1.ownBlock = some b ∨ W.heap.size ≤ b := by
          rintro b ((hb | hb) | hb)
          · exact .inl hb
          · exact .inr (.inr (oc3.own b hb).1)
          · rcases ob4 with e | e
            · exact .inr (.inl (e ▸ hb))
            · rw [hb] at e; cases e; exact .inr (.inr b3.size)
        simp only [Act.put, List.setIfInBounds_toArray, List.set_cons_zero, List.set_cons_succ]
        refine wpAnyT_one (i := 16) (by kernel_rfl) rfl (by rfl) ?_
        have hw9 := HO2.out.gr g4 (fun _ h => h.elim) (fun b hb e => HD2.out b e hb)
        have hs9 : Src X4 (.slice (some ⟨X2.heap.size, 0, none⟩) [hd].length 1) [hd].length [.int .u64 hd] := Src.of_cell rfl cc24
        have HW9 := Lib.hid hw9; have HS9 := Lib.hid hs9; clear hw9 hs9
        refine wp_app (.tmp 27) (.tmp 29) 97 rfl (e := .int .u64) (te := 112) info_u64 Tryz.underlying97 rfl (by decide) (base := 0) (S := fun _ => False) (v := v2) (xs := linksI rs) ?_ HW9.out (Nat.zero_le _) (sv := .slice (some ⟨X2.heap.size, 0, none⟩) 1 1) ?_ (ys := [hd]) HS9.out (RdL.int1 hdw) (by rw [linksI_length]; simp only [List.length_cons, List.length_nil]; omega) (by rw [linksI_length]; simp only [List.length_cons, List.length_nil]; omega) ?_
        · kernel_rfl
        · kernel_rfl
        intro ea el ec X5 o75 gg5 ob5
        have g5 : Gr (fun b => v1.ownBlock = some b ∨ v2.ownBlock = some b) W X5 := (g4.mono (fun x hx => .inl (.inl hx))).grown gg5 (fun x hx => .inl (.inr hx))
        refine ⟨fun _ _ => keepS.out X5 g5, ?_⟩
        have fin5 := add_done F W p rs xs hd v1 v2 (.slice da dl dc) (.slice ea el ec) S1 (fun b => S1 b ∨ (Value.slice ca cl cc).ownBlock = some b) X4 X5 HLT.out HP.out HM.out HD.out HDD.out o54 fr4 ob5 g4 gg5 g5 o75
        obtain ⟨hc0, hc1, hf0, hf1, hfin⟩ := fin5
        simp only [Act.put, List.setIfInBounds_toArray, List.set_cons_zero, List.set_cons_succ]
        refine wpAnyT_pure (i := 17) (v := ?_) rfl (by kernel_rfl) (by kernel_rfl) (by kernel_rfl) (fun _ _ _ h => h) (by rfl) ?_ ?_
        rotate_left
        · intro w; go_simp; try with_reducible rfl
        simp only [Act.put, List.setIfInBounds_toArray, List.set_cons_zero, List.set_cons_succ]
        refine wpAnyT_pure (i := 18) (v := ?_) rfl (by kernel_rfl) (by kernel_rfl) (by kernel_rfl) (fun _ _ _ h => h) (by rfl) ?_ ?_
        rotate_left
        · intro w; go_simp; try with_reducible rfl
        simp only [Act.put, List.setIfInBounds_toArray, List.set_cons_zero, List.set_cons_succ]
        refine wpAnyT_one (i := 19) (by kernel_rfl) rfl (by rfl) ?_
        go_simp
        refine wpAnyT_pure (i := 20) (v := ?_) rfl (by kernel_rfl) (by kernel_rfl) (by kernel_rfl) (fun _ _ _ h => h) (by rfl) ?_ ?_
        rotate_left
        · intro w; go_simp; try with_reducible rfl
        simp only [Act.put, List.setIfInBounds_toArray, List.set_cons_zero, List.set_cons_succ]
        refine wpAnyT_pure (i := 21) (v := ?_) rfl (by kernel_rfl) (by kernel_rfl) (by kernel_rfl) (fun _ _ _ h => h) (by rfl) ?_ ?_
        rotate_left
        · intro w; go_simp; try with_reducible rfl
        simp only [Act.put, List.setIfInBounds_toArray, List.set_cons_zero, List.set_cons_succ]
        refine wpAnyT_one (i := 22) (by kernel_rfl) rfl (by rfl) ?_
        go_simp
        refine wpAnyT_done (by kernel_rfl) ?_ _
        go_wp2
        go_end0
        obtain ⟨F', hLF, hF', hG⟩ := hfin
        exact ⟨⟨_, rfl⟩, F', hLF, fun b hb => (hF' b hb).imp id (fun h => Nat.le_trans HBW.out.size h), (Gr.of_below HBW.out).trans hG (fun _ hx => .inl hx)⟩
    ·
      refine wp_new1 (v := .slice (some ⟨X1.heap.size, 0, none⟩) 1 1) (u := .int .u64 hd) (te := 112) (by go_simp) ?_
      intro X2 s2 c22
      have b2 : Below W.heap.size W X2 := below_step b1 s2
      refine ⟨fun _ _ => keepS.out X2 (Gr.of_below b2), ?_⟩
      have oc2 := oc1.below s2
      simp only [Act.put, List.setIfInBounds_toArray, List.set_cons_zero, List.set_cons_succ]
      refine wpAnyT_one (i := 8) (by kernel_rfl) rfl (by rfl) ?_
      refine wp_new1 (v := .slice (some ⟨X2.heap.size, 0, none⟩) 1 1) (u := (.slice ca cl cc)) (te := 49) (by go_simp) ?_
      intro X3 s3 c13
      have b3 : Below W.heap.size W X3 := below_step b2 s3
      refine ⟨fun _ _ => keepS.out X3 (Gr.of_below b3), ?_⟩
      have ccc23 := cell_below c22 s3
      have oc3 := oc2.below s3
      simp only [Act.put, List.setIfInBounds_toArray, List.set_cons_zero, List.set_cons_succ]
      refine wpAnyT_one (i := 9) (by kernel_rfl) rfl (by rfl) ?_
      have hw9 := ext1 _ (HO1.out.below b3) (fun b hb => ⟨(HD1.out b hb).1, Nat.lt_of_lt_of_le (HD1.out b hb).2 b3.size⟩) oc3.own HV1.out
      have hs9 : Src X3 (.slice (some ⟨X2.heap.size, 0, none⟩) [xs].length 1) [xs].length [.slice ca cl cc] := Src.of_cell rfl c13
      have hr9 : RdL rowT (fun b => S1 b ∨ (Value.slice ca cl cc).ownBlock = some b) X3 [.slice ca cl cc] [xs] := RdL.one (e := rowT) (oc3.rd _ (fun _ h => h.elim) (fun b hb => .inr hb))
      have HW9 := Lib.hid hw9; have HS9 := Lib.hid hs9; have HR9 := Lib.hid hr9; clear hw9 hs9 hr9
      refine wp_app (.tmp 19) (.tmp 22) 96 rfl (e := rowT) (te := 49) info_bs Tryz.underlying96 rfl (by decide) (base := 0) (S := fun b => S1 b ∨ (Value.slice ca cl cc).ownBlock = some b) (v := v1) (xs := rs) ?_ HW9.out (Nat.zero_le _) (sv := .slice (some ⟨X2.heap.size, 0, none⟩) 1 1) ?_ (ys := [xs]) HS9.out HR9.out (by simp only [List.length_cons, List.length_nil]; omega) (by simp only [List.length_cons, List.length_nil]; omega) ?_
      · kernel_rfl
      · kernel_rfl
      intro da dl dc X4 o54 gg4 ob4
      have g4 : Gr (fun b => v1.ownBlock = some b) W X4 := (Gr.of_below b3).grown gg4 (fun x hx => .inl hx)
      refine ⟨fun _ _ => keepS.out X4 (g4.mono (fun x hx => .inl (.inl hx))), ?_⟩
      have cc24 := (Gr.of_grown gg4).cell ccc23 (fun e => absurd (HV1.out _ e) (Nat.not_lt.2 (b1.size)))
      have fr4 : ∀ b, (S1 b ∨ (Value.slice ca cl cc).ownBlock = some b) ∨ (Value.slice da dl dc).ownBlock = some b → S1 b ∨ v1.ownBlock = some b ∨ W.heap.size ≤ b := by
        rintro b ((hb | hb) | hb)
        · exact .inl hb
        · exact .inr (.inr (oc3.own b hb).1)
        · rcases ob4 with e | e
          · exact .inr (.inl (e ▸ hb))
          · rw [hb] at e; cases e; exact .inr (.inr b3.size)
      simp only [Act.put, List.setIfInBounds_toArray, List.set_cons_zero, List.set_cons_succ]
      refine wpAnyT_one (i := 16) (by kernel_rfl) rfl (by rfl) ?_
      have hw9 := HO2.out.gr g4 (fun _ h => h.elim) (fun b hb e => HD2.out b e hb)
      have hs9 : Src X4 (.slice (some ⟨X1.heap.size, 0, none⟩) [hd].length 1) [hd].length [.int .u64 hd] := Src.of_cell rfl cc24
      have HW9 := Lib.hid hw9; have HS9 := Lib.hid hs9; clear hw9 hs9
      refine wp_app (.tmp 27) (.tmp 29) 97 rfl (e := .int .u64) (te := 112) info_u64 Tryz.underlying97 rfl (by decide) (base := 0) (S := fun _ => False) (v := v2) (xs := linksI rs) ?_ HW9.out (Nat.zero_le _) (sv := .slice (some ⟨X1.heap.size, 0, none⟩) 1 1) ?_ (ys := [hd]) HS9.out (RdL.int1 hdw) (by rw [linksI_length]; simp only [List.length_cons, List.length_nil]; omega) (by rw [linksI_length]; simp only [List.length_cons, List.length_nil]; omega) ?_
      · kernel_rfl
      · kernel_rfl
      intro ea el ec X5 o75 gg5 ob5
      have g5 : Gr (fun b => v1.ownBlock = some b ∨ v2.ownBlock = some b) W X5 := (g4.mono (fun x hx => .inl (.inl hx))).grown gg5 (fun x hx => .inl (.inr hx))
      refine ⟨fun _ _ => keepS.out X5 g5, ?_⟩
      have fin5 := add_done F W p rs xs hd v1 v2 (.slice da dl dc) (.slice ea el ec) S1 (fun b => S1 b ∨ (Value.slice ca cl cc).ownBlock = some b) X4 X5 HLT.out HP.out HM.out HD.out HDD.out o54 fr4 ob5 g4 gg5 g5 o75
      obtain ⟨hc0, hc1, hf0, hf1, hfin⟩ := fin5
      simp only [Act.put, List.setIfInBounds_toArray, List.set_cons_zero, List.set_cons_succ]
      refine wpAnyT_pure (i := 17) (v := ?_) rfl (by kernel_rfl) (by kernel_rfl) (by kernel_rfl) (fun _ _ _ h => h) (by rfl) ?_ ?_
      rotate_left
      · intro w; go_simp; try with_reducible rfl
      simp only [Act.put, List.setIfInBounds_toArray, List.set_cons_zero, List.set_cons_succ]
      refine wpAnyT_pure (i := 18) (v := ?_) rfl (by kernel_rfl) (by kernel_rfl) (by kernel_rfl) (fun _ _ _ h => h) (by rfl) ?_ ?_
      rotate_left
      · intro w; go_simp; try with_reducible rfl
      simp only [Act.put, List.setIfInBounds_toArray, List.set_cons_zero, List.set_cons_succ]
      refine wpAnyT_one (i := 19) (by kernel_rfl) rfl (by rfl) ?_
      go_simp
      refine wpAnyT_pure (i := 20) (v := ?_) rfl (by kernel_rfl) (by kernel_rfl) (by kernel_rfl) (fun _ _ _ h => h) (by rfl) ?_ ?_
      rotate_left
      · intro w; go_simp; try with_reducible rfl
      simp only [Act.put, List.setIfInBounds_toArray, List.set_cons_zero, List.set_cons_succ]
      refine wpAnyT_pure (i := 21) (v := ?_) rfl (by kernel_rfl) (by kernel_rfl) (by kernel_rfl) (fun _ _ _ h => h) (by rfl) ?_ ?_
      rotate_left
      · intro w; go_simp; try with_reducible rfl
      simp only [Act.put, List.setIfInBounds_toArray, List.set_cons_zero, List.set_cons_succ]
      refine wpAnyT_one (i := 22) (by kernel_rfl) rfl (by rfl) ?_
      go_simp
      refine wpAnyT_done (by kernel_rfl) ?_ _
      go_wp2
      go_end0
      obtain ⟨F', hLF, hF', hG⟩ := hfin
      exact ⟨⟨_, rfl⟩, F', hLF, fun b hb => (hF' b hb).imp id (fun h => Nat.le_trans HBW.out.size h), (Gr.of_below HBW.out).trans hG (fun _ hx => .inl hx)⟩
  ·
    refine wp_new1 (v := .slice (some ⟨W.heap.size, 0, none⟩) 1 1) (u := .int .u64 hd) (te := 112) (by go_simp) ?_
    intro X1 s1 c21
    have b1 : Below W.heap.size W X1 := below_step (Below.refl W.heap.size W) s1
    refine ⟨fun _ _ => keepS.out X1 (Gr.of_below b1), ?_⟩
    simp only [Act.put, List.setIfInBounds_toArray, List.set_cons_zero, List.set_cons_succ]
    refine wpAnyT_one (i := 7) (by kernel_rfl) rfl (by rfl) ?_
    have hcl := bclone_sl X1 a len cap xs (HXW.out.below b1 (fun b hb => (HSW.out b hb).1)) (fun b hb => Nat.lt_of_lt_of_le (HSW.out b hb).1 b1.size) (by omega)
    have HCL := Lib.hid hcl; clear hcl
    refine wp_enter (f := 56) (args := #[.slice a len cap]) ?_ HCL.out ?_
    · go_simp
    rintro e X2 ⟨ca, cl, cc, rfl, s2, q2⟩
    have b2 : Below W.heap.size W X2 := below_step b1 s2
    have oc2 : Owns (.int .u8) 5 W.heap.size (fun _ => False) X2 (.slice ca cl cc) xs := (q2.flat rfl).base b1.size
    clear q2
    have cc2 := cell_below c21 s2
    refine ⟨_, rfl, fun _ _ => keepS.out X2 (Gr.of_below b2), ?_⟩
    simp only [Act.put, List.setIfInBounds_toArray, List.set_cons_zero, List.set_cons_succ]
    refine wpAnyT_one (i := 8) (by kernel_rfl) rfl (by rfl) ?_
    refine wp_new1 (v := .slice (some ⟨X2.heap.size, 0, none⟩) 1 1) (u := (.slice ca cl cc)) (te := 49) (by go_simp) ?_
    intro X3 s3 c13
    have b3 : Below W.heap.size W X3 := below_step b2 s3
    refine ⟨fun _ _ => keepS.out X3 (Gr.of_below b3), ?_⟩
    have ccc23 := cell_below cc2 s3
    have oc3 := oc2.below s3
    simp only [Act.put, List.setIfInBounds_toArray, List.set_cons_zero, List.set_cons_succ]
    refine wpAnyT_one (i := 9) (by kernel_rfl) rfl (by rfl) ?_
    have hw9 := ext1 _ (HO1.out.below b3) (fun b hb => ⟨(HD1.out b hb).1, Nat.lt_of_lt_of_le (HD1.out b hb).2 b3.size⟩) oc3.own HV1.out
    have hs9 : Src X3 (.slice (some ⟨X2.heap.size, 0, none⟩) [xs].length 1) [xs].length [.slice ca cl cc] := Src.of_cell rfl c13
    have hr9 : RdL rowT (fun b => S1 b ∨ (Value.slice ca cl cc).ownBlock = some b) X3 [.slice ca cl cc] [xs] := RdL.one (e := rowT) (oc3.rd _ (fun _ h => h.elim) (fun b hb => .inr hb))
    have HW9 := Lib.hid hw9; have HS9 := Lib.hid hs9; have HR9 := Lib.hid hr9; clear hw9 hs9 hr9
    refine wp_app (.tmp 19) (.tmp 22) 96 rfl (e := rowT) (te := 49) info_bs Tryz.underlying96 rfl (by decide) (base := 0) (S := fun b => S1 b ∨ (Value.slice ca cl cc).ownBlock = some b) (v := v1) (xs := rs) ?_ HW9.out (Nat.zero_le _) (sv := .slice (some ⟨X2.heap.size, 0, none⟩) 1 1) ?_ (ys := [xs]) HS9.out HR9.out (by simp only [List.length_cons, List.length_nil]; omega) (by simp only [List.length_cons, List.length_nil]; omega) ?_
    · kernel_rfl
    · kernel_rfl
    intro da dl dc X4 o54 gg4 ob4
    have g4 : Gr (fun b => v1.ownBlock = some b) W X4 := (Gr.of_below b3).grown gg4 (fun x hx => .inl hx)
    refine ⟨fun _ _ => keepS.out X4 (g4.mono (fun x hx => .inl (.inl hx))), ?_⟩
    have cc24 := (Gr.of_grown gg4).cell ccc23 (fun e => absurd (HV1.out _ e) (Nat.not_lt.2 ((Below.refl W.heap.size W).size)))
    have fr4 : ∀ b, (S1 b ∨ (Value.slice ca cl cc).ownBlock = some b) ∨ (Value.slice da dl dc).ownBlock = some b → S1 b ∨ v1.ownBlock = some b ∨ W.heap.size ≤ b := by
      rintro b ((hb | hb) | hb)
      · exact .inl hb
      · exact .inr (.inr (oc3.own b hb).1)
      · rcases ob4 with e | e
        · exact .inr (.inl (e ▸ hb))
        · rw [hb] at e; cases e; exact .inr (.inr b3.size)
    simp only [Act.put, List.setIfInBounds_toArray, List.set_cons_zero, List.set_cons_succ]
    refine wpAnyT_one (i := 16) (by kernel_rfl) rfl (by rfl) ?_
    have hw9 := HO2.out.gr g4 (fun _ h => h.elim) (fun b hb e => HD2.out b e hb)
    have hs9 : Src X4 (.slice (some ⟨W.heap.size, 0, none⟩) [hd].length 1) [hd].length [.int .u64 hd] := Src.of_cell rfl cc24
    have HW9 := Lib.hid hw9; have HS9 := Lib.hid hs9; clear hw9 hs9
    refine wp_app (.tmp 27) (.tmp 29) 97 rfl (e := .int .u64) (te := 112) info_u64 Tryz.underlying97 rfl (by decide) (base := 0) (S := fun _ => False) (v := v2) (xs := linksI rs) ?_ HW9.out (Nat.zero_le _) (sv := .slice (some ⟨W.heap.size, 0, none⟩) 1 1) ?_ (ys := [hd]) HS9.out (RdL.int1 hdw) (by rw [linksI_length]; simp only [List.length_cons, List.length_nil]; omega) (by rw [linksI_length]; simp only [List.length_cons, List.length_nil]; omega) ?_
    · kernel_rfl
    · kernel_rfl
    intro ea el ec X5 o75 gg5 ob5
    have g5 : Gr (fun b => v1.ownBlock = some b ∨ v2.ownBlock = some b) W X5 := (g4.mono (fun x hx => .inl (.inl hx))).grown gg5 (fun x hx => .inl (.inr hx))
    refine ⟨fun _ _ => keepS.out X5 g5, ?_⟩
    have fin5 := add_done F W p rs xs hd v1 v2 (.slice da dl dc) (.slice ea el ec) S1 (fun b => S1 b ∨ (Value.slice ca cl cc).ownBlock = some b) X4 X5 HLT.out HP.out HM.out HD.out HDD.out o54 fr4 ob5 g4 gg5 g5 o75
    obtain ⟨hc0, hc1, hf0, hf1, hfin⟩ := fin5
    simp only [Act.put, List.setIfInBounds_toArray, List.set_cons_zero, List.set_cons_succ]
    refine wpAnyT_pure (i := 17) (v := ?_) rfl (by kernel_rfl) (by kernel_rfl) (by kernel_rfl) (fun _ _ _ h => h) (by rfl) ?_ ?_
    rotate_left
    · intro w; go_simp; try with_reducible rfl
    simp only [Act.put, List.setIfInBounds_toArray, List.set_cons_zero, List.set_cons_succ]
    refine wpAnyT_pure (i := 18) (v := ?_) rfl (by kernel_rfl) (by kernel_rfl) (by kernel_rfl) (fun _ _ _ h => h) (by rfl) ?_ ?_
    rotate_left
    · intro w; go_simp; try with_reducible rfl
    simp only [Act.put, List.setIfInBounds_toArray, List.set_cons_zero, List.set_cons_succ]
    refine wpAnyT_one (i := 19) (by kernel_rfl) rfl (by rfl) ?_
    go_simp
    refine wpAnyT_pure (i := 20) (v := ?_) rfl (by kernel_rfl) (by kernel_rfl) (by kernel_rfl) (fun _ _ _ h => h) (by rfl) ?_ ?_
    rotate_left
    · intro w; go_simp; try with_reducible rfl
    simp only [Act.put, List.setIfInBounds_toArray, List.set_cons_zero, List.set_cons_succ]
    refine wpAnyT_pure (i := 21) (v := ?_) rfl (by kernel_rfl) (by kernel_rfl) (by kernel_rfl) (fun _ _ _ h => h) (by rfl) ?_ ?_
    rotate_left
    · intro w; go_simp; try with_reducible rfl
    simp only [Act.put, List.setIfInBounds_toArray, List.set_cons_zero, List.set_cons_succ]
    refine wpAnyT_one (i := 22) (by kernel_rfl) rfl (by rfl) ?_
    go_simp
    refine wpAnyT_done (by kernel_rfl) ?_ _
    go_wp2
    go_end0
    obtain ⟨F', hLF, hF', hG⟩ := hfin
    exact ⟨⟨_, rfl⟩, F', hLF, fun b hb => (hF' b hb).imp id (fun h => Nat.le_trans HBW.out.size h), (Gr.of_below HBW.out).trans hG (fun _ hx => .inl hx)⟩
end Go.Proofs.YtlfloekanfhlfaaGreat
