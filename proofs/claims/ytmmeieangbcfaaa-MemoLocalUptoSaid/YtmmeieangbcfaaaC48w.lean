/- Layer 48: Change, the walk. -/
import Derived.Test.YtmmeieangbcfaaaC48v
set_option linter.unusedSimpArgs false
namespace Go.Proofs.Ytmmeieangbcfaaa
open Go.RowKit Go

def LeftC (F : Nat → Nat) (w : World) (p : Nat) (iv : Value) (st : List (Option Nat)) (kb pb : Nat) (s' : MS) (sv cv : Value) (eb : C4 → Option Nat) (e : Ending) (w' : World) : Prop :=
  e = .returned (.tuple #[]) ∧ MemoIn F w' p iv s' st kb pb sv cv eb ∧ Gr (Mem F) w w'
set_option maxRecDepth 20000 in
set_option maxHeartbeats 1000000 in
theorem change48 {F : Nat → Nat} (w : World) {p : Nat} {iv : Value} {s : MS} {st : List (Option Nat)} {kb pb : Nat} {sv cv : Value} {eb : C4 → Option Nat} (h : MemoIn F w p iv s st kb pb sv cv eb) (c : C4) (hc : c.ok) :
    Calls Try.prog 14 #[.pointer (some ⟨p, 0, none⟩), c.v] w (LeftC F w p iv st kb pb (s.change c) sv cv eb) := by
  have hB1 : Below w.heap.size w (w.alloc (.cells #[.int .i64 c.st, .int .i64 c.en, .int .i64 c.ot, .int .i64 c.pe] 26)) := (Below.refl _ w).alloc (Nat.le_refl _) _
  have hcb := heap_alloc_new w (.cells #[.int .i64 c.st, .int .i64 c.en, .int .i64 c.ot, .int .i64 c.pe] 26)
  have h1 := h.below hB1
  have hf0 : ∀ b, w.heap.size ≤ b → F b = 0 := fun b hb => by
    by_cases e : F b = 0
    · exact e
    · exact absurd (h.dom b e) (by omega)
  obtain ⟨D, hown, hsz, hD0⟩ := id h1.mke
  have hD : ∀ x : C4, x.ok → Maps.has D (C4.l x) = (eb x).isSome ∧ D.atKey (C4.l x) (entE.d entE.z) = entE.d (((eb x).map some).getD entE.z) := fun x hx => ⟨by have := (hD0 x hx).1; rw [Option.isSome_map] at this; exact this, (hD0 x hx).2⟩
  have hst : ∀ d x, s.kept d = some x → Maps.has D (C4.l d) = true := fun d x hx => by
    obtain ⟨e, he⟩ : ∃ e, eb d = some e := Option.isSome_iff_exists.1 (by rw [← h.some_, hx]; rfl)
    have := (hD d (h.okc d e he)).1
    rw [he] at this
    exact this
  have hkok : ∀ d x, s.kept d = some x → d.ok := fun d x hx => by
    obtain ⟨e, he⟩ : ∃ e, eb d = some e := Option.isSome_iff_exists.1 (by rw [← h.some_, hx]; rfl)
    exact h.okc d e he
  have H := Lib.hid h
  have H1 := Lib.hid h1
  have HC := Lib.hid hc
  have HCB := Lib.hid hcb
  have HB1 := Lib.hid hB1
  have HF0 := Lib.hid hf0
  have HOWN := Lib.hid hown
  have HD := Lib.hid hD
  have HST := Lib.hid hst
  have HKOK := Lib.hid hkok
  have k1 := blk_cell h1.row 1
  simp at k1
  obtain ⟨c1, c2, c3, c4⟩ := c
  unfold C4.v
  simp only at *
  clear h h1 hc hcb hB1 hf0 hown hD hst hkok hsz hD0
  go_enter Try.func14, Try.ntmps14
  go_wp2_with (at_range; go_must (refine wpList_range_own _ rfl _ 64 rfl 26 70 cellK.K Try.underlying64 entE.R kb s.n D rfl HOWN.out ?_); intro w0 hrg0 hg0 hs0)
  go_frame
  generalize hw1 : w.alloc (.cells #[.int .i64 c1, .int .i64 c2, .int .i64 c3, .int .i64 c4] 26) = w1 at *
  have hr1 : w1.heap.size = w.heap.size + 1 := by rw [← hw1]; simp
  have HR1 := Lib.hid hr1
  clear hw1
  have hM0 : MemoIn F w0 p iv s st kb pb sv cv eb := H1.out.gr (Gr.of_grown hg0) (fun b hb e => by cases e)
  have hG0 : Gr (Mem F) w1 w0 := (Gr.of_grown hg0).mono (fun x hx => by cases hx)
  have HM0 := Lib.hid hM0
  have HG0 := Lib.hid hG0
  have HRG := Lib.hid hrg0
  clear hM0 hG0 hrg0 hg0 hs0 hr1
  go_loopw [5] (fun _ wr => ∃ (left : Lit → Bool) (cnt : Nat), MemoIn F wr p iv { s with kept := unch left s.kept } st kb pb sv cv eb ∧ wr.ranges Try.prog 26 entE.R kb (w1.heap.size) s.n D left cnt ∧ Gr (Mem F) w1 wr) (fun _ wr => wr.rangeLeft kb (w1.heap.size))
  case atStart => exact ⟨Maps.has D, _, by rw [unch_start HST.out]; exact HM0.out, HRG.out, HG0.out⟩
  case round =>
    obtain ⟨left, cnt, hM, hrg, hG⟩ := hrel
    have HM := Lib.hid hM
    have HG := Lib.hid hG
    have HRGr := Lib.hid hrg
    clear hM hG hrg
    go_wp2_with (first | (at_next; go_must (refine wpList_next48 rfl _ rfl (m := 0) (f := eb) rfl HRGr.out HD.out ?_ ?_)) | go_in)
    · intro hl0
      have hk1 := blk_cell HM.out.row 1
      simp at hk1
      have HL0 := Lib.hid hl0
      clear hl0
      go_wp2_with fail
      have hbx := blk_gr HG.out HCB.out (fun e => e.1 (HF0.out _ (Nat.le_refl _)))
      have hC0 : Cells [(⟨p, 1, none⟩, .map (some kb)), (⟨w.heap.size, 0, none⟩, .int .i64 c1), (⟨w.heap.size, 1, none⟩, .int .i64 c2), (⟨w.heap.size, 2, none⟩, .int .i64 c3), (⟨w.heap.size, 3, none⟩, .int .i64 c4)] wr := ⟨blk_cell HM.out.row 1, blk_cell hbx 0, blk_cell hbx 1, blk_cell hbx 2, blk_cell hbx 3, trivial⟩
      clear hk1 hbx
      cases he : eb ⟨c1, c2, c3, c4⟩ with
      | none =>
        have hkn : s.kept ⟨c1, c2, c3, c4⟩ = none := Option.isNone_iff_eq_none.1 (by rw [Option.isNone_iff_eq_none, ← Option.not_isSome_iff_eq_none, H.out.some_, he]; simp)
        have heq : s.change ⟨c1, c2, c3, c4⟩ = { s with kept := unch left s.kept } := by
          unfold MS.change
          rw [unch_end HL0.out]
          congr 1
          funext d
          by_cases hd : d = ⟨c1, c2, c3, c4⟩
          · rw [hd, hkn]; rfl
          · simp [hd]
        have HEQ := Lib.hid heq
        have HE := Lib.hid he
        clear he heq hkn
        refine wp_region_T (Cells [(⟨p, 1, none⟩, .map (some kb)), (⟨w.heap.size, 0, none⟩, .int .i64 c1), (⟨w.heap.size, 1, none⟩, .int .i64 c2), (⟨w.heap.size, 2, none⟩, .int .i64 c3), (⟨w.heap.size, 3, none⟩, .int .i64 c4)]) (fun _ => false) (by kernel_rfl) ?_
        have hSss1 := Cells.drew hC0
        have hB_0_s1 : Below wr.heap.size wr wr.drew := below_drew _
        generalize wr.drew = s1 at hSss1 hB_0_s1 ⊢
        have hB_s1_s1 := Below.refl s1.heap.size s1
        refine wpAnyT_pure (i := 0) (v := ?_) rfl (by kernel_rfl) (by kernel_rfl) (by kernel_rfl) (fun _ _ _ h => h) (by rfl) ?_ ?_
        rotate_left
        · intro w; go_simp; try with_reducible rfl
        simp only [Act.put, List.setIfInBounds_toArray, List.set_cons_zero, List.set_cons_succ, List.getElem_toArray, List.getElem_cons_succ, List.getElem_cons_zero]
        refine wpAnyT_pure (i := 1) (v := ?_) rfl (by kernel_rfl) (by kernel_rfl) (by kernel_rfl) (fun _ _ _ h => h) (by rfl) ?_ ?_
        rotate_left
        · intro w; go_simp; try with_reducible rfl
        simp only [Act.put, List.setIfInBounds_toArray, List.set_cons_zero, List.set_cons_succ, List.getElem_toArray, List.getElem_cons_succ, List.getElem_cons_zero]
        refine wpAnyT_pure (i := 2) (v := ?_) rfl (by kernel_rfl) (by kernel_rfl) (by kernel_rfl) (fun _ _ _ h => h) (by rfl) ?_ ?_
        rotate_left
        · intro w; go_simp; try with_reducible rfl
        simp only [Act.put, List.setIfInBounds_toArray, List.set_cons_zero, List.set_cons_succ, List.getElem_toArray, List.getElem_cons_succ, List.getElem_cons_zero]
        refine wpAnyT_loadW (i := 3) (v := ?_) rfl (by kernel_rfl) (by kernel_rfl) (by kernel_rfl) (by kernel_rfl) (by kernel_rfl) (fun _ _ _ h => h) (Or.inl ⟨by rfl, ?_⟩) hSss1 ?_
        rotate_left
        · intro w hSw; obtain ⟨e0, e1, e2, e3, e4, -⟩ := hSw; go_simp; try with_reducible rfl
        simp only [Act.put, List.setIfInBounds_toArray, List.set_cons_zero, List.set_cons_succ, List.getElem_toArray, List.getElem_cons_succ, List.getElem_cons_zero]
        refine wpAnyT_loadW (i := 4) (v := ?_) rfl (by kernel_rfl) (by kernel_rfl) (by kernel_rfl) (by kernel_rfl) (by kernel_rfl) (fun _ _ _ h => h) (Or.inl ⟨by rfl, ?_⟩) hSss1 ?_
        rotate_left
        · intro w hSw; obtain ⟨e0, e1, e2, e3, e4, -⟩ := hSw; go_simp; try with_reducible rfl
        simp only [Act.put, List.setIfInBounds_toArray, List.set_cons_zero, List.set_cons_succ, List.getElem_toArray, List.getElem_cons_succ, List.getElem_cons_zero]
        refine wpAnyT_one (i := 5) (by kernel_rfl) rfl (by rfl) ?_
        have hlk := (HM.out.below (hB_0_s1.trans ((hB_s1_s1).mono (hB_0_s1).size))).mke.look ⟨c1, c2, c3, c4⟩ HC.out
        rw [HE.out] at hlk
        unfold C4.v ptrV at hlk
        simp only at hlk
        refine wp_value (v := .pointer none) (w' := s1) (by go_simp) ?_
        clear hlk
        refine ⟨fun _ h => h, ?_⟩
        try simp only [Act.put, List.setIfInBounds_toArray, List.set_cons_zero, List.set_cons_succ, List.getElem_toArray, List.getElem_cons_succ, List.getElem_cons_zero]
        refine wpAnyT_pure (i := 6) (v := ?_) rfl (by kernel_rfl) (by kernel_rfl) (by kernel_rfl) (fun _ _ _ h => h) (by rfl) ?_ ?_
        rotate_left
        · intro w; go_simp; try with_reducible rfl
        simp only [Act.put, List.setIfInBounds_toArray, List.set_cons_zero, List.set_cons_succ, List.getElem_toArray, List.getElem_cons_succ, List.getElem_cons_zero]
        refine wpAnyT_done (by kernel_rfl) ?_ _
        have HBP := Lib.hid (show Below wr.heap.size wr s1 from hB_0_s1.trans ((hB_s1_s1).mono (hB_0_s1).size))
        go_wp2
        go_end0
        exact ⟨rfl, by rw [HEQ.out]; exact HM.out.below HBP.out, ((Gr.of_below HB1.out).trans HG.out (fun _ h => .inl h)).step HBP.out⟩
      | some e =>
        obtain ⟨x, hx⟩ : ∃ x, s.kept ⟨c1, c2, c3, c4⟩ = some x := Option.isSome_iff_exists.1 (by rw [H.out.some_, he]; rfl)
        have hux : unch left s.kept ⟨c1, c2, c3, c4⟩ = some { x with checked := false } := by unfold unch; rw [hx]; simp [HL0.out]
        have heq : s.change ⟨c1, c2, c3, c4⟩ = { s with kept := upd (unch left s.kept) ⟨c1, c2, c3, c4⟩ (some { x with checked := false, changed := true }) } := by
          unfold MS.change
          rw [unch_end HL0.out]
          congr 1
          funext d
          unfold upd
          by_cases hd : d = ⟨c1, c2, c3, c4⟩
          · rw [hd, hx]; simp
          · simp [hd]
        have HEQ := Lib.hid heq
        have HE := Lib.hid he
        have HUX := Lib.hid hux
        clear he heq hx hux
        refine wp_region_T (Cells [(⟨p, 1, none⟩, .map (some kb)), (⟨w.heap.size, 0, none⟩, .int .i64 c1), (⟨w.heap.size, 1, none⟩, .int .i64 c2), (⟨w.heap.size, 2, none⟩, .int .i64 c3), (⟨w.heap.size, 3, none⟩, .int .i64 c4)]) (fun _ => false) (by kernel_rfl) ?_
        have hSss2 := Cells.drew hC0
        have hB_0_s2 : Below wr.heap.size wr wr.drew := below_drew _
        generalize wr.drew = s2 at hSss2 hB_0_s2 ⊢
        have hB_s2_s2 := Below.refl s2.heap.size s2
        refine wpAnyT_pure (i := 0) (v := ?_) rfl (by kernel_rfl) (by kernel_rfl) (by kernel_rfl) (fun _ _ _ h => h) (by rfl) ?_ ?_
        rotate_left
        · intro w; go_simp; try with_reducible rfl
        simp only [Act.put, List.setIfInBounds_toArray, List.set_cons_zero, List.set_cons_succ, List.getElem_toArray, List.getElem_cons_succ, List.getElem_cons_zero]
        refine wpAnyT_pure (i := 1) (v := ?_) rfl (by kernel_rfl) (by kernel_rfl) (by kernel_rfl) (fun _ _ _ h => h) (by rfl) ?_ ?_
        rotate_left
        · intro w; go_simp; try with_reducible rfl
        simp only [Act.put, List.setIfInBounds_toArray, List.set_cons_zero, List.set_cons_succ, List.getElem_toArray, List.getElem_cons_succ, List.getElem_cons_zero]
        refine wpAnyT_pure (i := 2) (v := ?_) rfl (by kernel_rfl) (by kernel_rfl) (by kernel_rfl) (fun _ _ _ h => h) (by rfl) ?_ ?_
        rotate_left
        · intro w; go_simp; try with_reducible rfl
        simp only [Act.put, List.setIfInBounds_toArray, List.set_cons_zero, List.set_cons_succ, List.getElem_toArray, List.getElem_cons_succ, List.getElem_cons_zero]
        refine wpAnyT_loadW (i := 3) (v := ?_) rfl (by kernel_rfl) (by kernel_rfl) (by kernel_rfl) (by kernel_rfl) (by kernel_rfl) (fun _ _ _ h => h) (Or.inl ⟨by rfl, ?_⟩) hSss2 ?_
        rotate_left
        · intro w hSw; obtain ⟨e0, e1, e2, e3, e4, -⟩ := hSw; go_simp; try with_reducible rfl
        simp only [Act.put, List.setIfInBounds_toArray, List.set_cons_zero, List.set_cons_succ, List.getElem_toArray, List.getElem_cons_succ, List.getElem_cons_zero]
        refine wpAnyT_loadW (i := 4) (v := ?_) rfl (by kernel_rfl) (by kernel_rfl) (by kernel_rfl) (by kernel_rfl) (by kernel_rfl) (fun _ _ _ h => h) (Or.inl ⟨by rfl, ?_⟩) hSss2 ?_
        rotate_left
        · intro w hSw; obtain ⟨e0, e1, e2, e3, e4, -⟩ := hSw; go_simp; try with_reducible rfl
        simp only [Act.put, List.setIfInBounds_toArray, List.set_cons_zero, List.set_cons_succ, List.getElem_toArray, List.getElem_cons_succ, List.getElem_cons_zero]
        refine wpAnyT_one (i := 5) (by kernel_rfl) rfl (by rfl) ?_
        have hlk := (HM.out.below (hB_0_s2.trans ((hB_s2_s2).mono (hB_0_s2).size))).mke.look ⟨c1, c2, c3, c4⟩ HC.out
        rw [HE.out] at hlk
        unfold C4.v ptrV at hlk
        simp only at hlk
        refine wp_value (v := .pointer (some ⟨e, 0, none⟩)) (w' := s2) (by go_simp) ?_
        clear hlk
        refine ⟨fun _ h => h, ?_⟩
        try simp only [Act.put, List.setIfInBounds_toArray, List.set_cons_zero, List.set_cons_succ, List.getElem_toArray, List.getElem_cons_succ, List.getElem_cons_zero]
        refine wpAnyT_pure (i := 6) (v := ?_) rfl (by kernel_rfl) (by kernel_rfl) (by kernel_rfl) (fun _ _ _ h => h) (by rfl) ?_ ?_
        rotate_left
        · intro w; go_simp; try with_reducible rfl
        simp only [Act.put, List.setIfInBounds_toArray, List.set_cons_zero, List.set_cons_succ, List.getElem_toArray, List.getElem_cons_succ, List.getElem_cons_zero]
        refine wpAnyT_done (by kernel_rfl) ?_ _
        have HBP := Lib.hid (show Below wr.heap.size wr s2 from hB_0_s2.trans ((hB_s2_s2).mono (hB_0_s2).size))
        have hMP := HM.out.below HBP.out
        obtain ⟨h6, -, ra, rl, rc, hrow, -⟩ := hMP.ent _ _ e HUX.out HE.out
        have k3 := blk_cell hrow 3
        have f3 := blk_frozen hrow 3
        simp at k3
        obtain ⟨hM5, hG5⟩ := hMP.mark ⟨c1, c2, c3, c4⟩ _ { x with checked := false, changed := true } HUX.out e HE.out 3 (.bool true) rfl rfl (fun a b => rfl)
        have HM5 := Lib.hid hM5
        have HG5 := Lib.hid hG5
        clear hMP h6 hrow hM5 hG5
        go_wp2
        go_end0
        exact ⟨rfl, by rw [HEQ.out]; exact HM5.out, (((Gr.of_below HB1.out).trans HG.out (fun _ h => .inl h)).step HBP.out).trans HG5.out (fun _ h => .inl h)⟩
    · intro d e w2 cnt2 hdok hde hdl hrg2 hlt hg2 hs2 hen
      obtain ⟨x, hx⟩ : ∃ x, s.kept d = some x := Option.isSome_iff_exists.1 (by rw [H.out.some_, hde]; rfl)
      have hux : unch left s.kept d = some x := by unfold unch; rw [hx]; simp [hdl]
      have hM2 : MemoIn F w2 p iv { s with kept := unch left s.kept } st kb pb sv cv eb := HM.out.gr (Gr.of_grown hg2) (fun b hb e => by obtain rfl := Option.some.inj e; exact hb (HF0.out _ (by have := HR1.out; omega)))
      obtain ⟨h6, -, ra, rl, rc, hrow, -⟩ := hM2.ent d x e hux hde
      have k2 := blk_cell hrow 2
      have f2 := blk_frozen hrow 2
      simp at k2
      obtain ⟨hM3, hG3⟩ := hM2.mark d x { x with checked := false } hux e hde 2 (.bool false) rfl rfl (fun a b => rfl)
      have hne : e ≠ kb := fun e' => by have := H.out.fk; rw [e', this] at h6; omega
      have hnr : e ≠ w1.heap.size := fun e' => by have := HF0.out (w1.heap.size) (by have := HR1.out; omega); rw [e', this] at h6; omega
      have hrg3 := hrg2.kept (w' := w2.setCell ⟨e, 2, none⟩ (.bool false)) (row := some e) ⟨rfl, rfl, rfl, by simp, fun i hi hne => Below.heap_setCell _ _ _ _ (fun e' => hne (by rw [e']))⟩ (fun e' => hne (Option.some.inj e').symm) (fun e' => hnr (Option.some.inj e').symm)
      have hM4 : MemoIn F (w2.setCell ⟨e, 2, none⟩ (.bool false)) p iv { s with kept := unch (fun z => left z && !z.sameKey (C4.l d)) s.kept } st kb pb sv cv eb := by rw [← unch_step hdok HKOK.out hx hdl]; exact hM3
      have hG4 : Gr (Mem F) w1 (w2.setCell ⟨e, 2, none⟩ (.bool false)) := (HG.out.trans (Gr.of_grown hg2) (fun x e => by obtain rfl := Option.some.inj e; exact .inr (Nat.le_refl _))).trans hG3 (fun _ h => .inl h)
      have HM4 := Lib.hid hM4
      have HG4 := Lib.hid hG4
      have HRG3 := Lib.hid hrg3
      have HLT := Lib.hid hlt
      clear hdok hde hdl hrg2 hlt hg2 hs2 hx hux hM2 h6 hrow hM3 hG3 hne hnr hrg3 hM4 hG4
      go_wp2
      go_roundw
      case rel => exact ⟨_, cnt2, HM4.out, HRG3.out, HG4.out⟩
      case measure => rw [HRG3.out.left_eq, HRGr.out.left_eq]; exact HLT.out
end Go.Proofs.Ytmmeieangbcfaaa
