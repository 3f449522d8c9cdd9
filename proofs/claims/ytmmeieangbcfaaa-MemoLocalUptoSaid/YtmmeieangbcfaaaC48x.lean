/- Layer 48: New, Reset, Computed, Kept; Reads of a nil memo. -/
import Derived.Test.YtmmeieangbcfaaaC48w
import Derived.Test.YtmmeieangbcfaaaC48r
set_option linter.unusedSimpArgs false
namespace Go.Proofs.Ytmmeieangbcfaaa
open Go.RowKit Go

set_option maxRecDepth 50000 in
theorem cclone48 {S : Nat → Prop} (w : World) (a : Option Addr) (len cap : Nat) (xs : List cellT.den) (h : Rd (.sl cellT) S w [.slice a len cap] xs) (hS : ∀ b, S b → b < w.heap.size) (hlen : len ≤ 1000000) :
    Calls Try.prog 22 #[.slice a len cap] w fun e w' => ∃ v, e = .returned v ∧ Below w.heap.size w w' ∧ Owns cellT 26 w.heap.size (fun _ => False) w' v xs := by
  obtain ⟨a', len', cap', he, h1, h2, h3, h4⟩ := id h
  simp only [List.cons.injEq, Value.slice.injEq, and_true] at he
  obtain ⟨rfl, rfl, rfl⟩ := he
  have hz := fun w => Lib.run_eql_slice_nil (P := Try.prog) w 48 _ a len cap 0 0 Try.underlying48
  cases a with
  | none =>
    have h0 : len = 0 := by
      rcases h4 with h0 | ⟨b, off, h0, _⟩
      · exact h0
      · cases h0
    subst h0
    obtain rfl : xs = [] := List.eq_nil_of_length_eq_zero h1
    clear h h4 h1
    simp only [Option.isNone] at hz
    go_enter Try.func22, Try.ntmps22
    go_wp2
    go_ret
    exact ⟨_, rfl, Below.refl _ _, Owns.nil _ _ _ _⟩
  | some ad =>
    clear h4
    have H := Lib.hid h
    have H1 := Lib.hid h1
    clear h h1
    simp only [Option.isNone] at hz
    go_enter Try.func22, Try.ntmps22
    go_wp2_with (at_builtin; go_must (refine wpList_copy w rfl _ _ 48 rfl (e := cellT) info_cell Try.underlying48 rfl (by decide) rfl (S := S) (sv := .slice (some ad) len cap) (xs := xs) rfl H.out hS H1.out (by omega) (by omega) ?_; intro g cv w1 O1 hg hB1 h5 h6; have HO1 := Lib.hid (Owns.flat (e := cellT) rfl O1); clear O1))
    go_ret
    exact ⟨_, rfl, hB1, HO1.out⟩
theorem computed48 {F : Nat → Nat} (w : World) {p : Nat} {iv : Value} {s : MS} {st : List (Option Nat)} {kb pb : Nat} {sv cv : Value} {eb : C4 → Option Nat} (h : MemoIn F w p iv s st kb pb sv cv eb) (hl : s.comp.length ≤ most) :
    Calls Try.prog 15 #[.pointer (some ⟨p, 0, none⟩)] w fun e w' => ∃ v, e = .returned v ∧ Below w.heap.size w w' ∧ Owns cellT 26 w.heap.size (fun _ => False) w' v (s.comp.map C4.d) := by
  obtain ⟨a, len, cap, rfl, hle, -⟩ := h.cmp.slice
  have hlen : len ≤ 1000000 := by have := h.cmp.rd (fun _ => True) (fun _ h => h.elim) (fun _ _ => trivial); have := this.sl_flat.1; rw [List.length_map] at this; unfold most at hl; omega
  have hc := cclone48 (S := fun b => (Value.slice a len cap).ownBlock = some b) w a len cap (s.comp.map C4.d) (h.cmp.rd _ (fun _ h => h.elim) (fun _ h => h)) (fun b hb => (h.cmp.own b hb).2) hlen
  have HC := Lib.hid hc
  have k4 := blk_cell h.row 4
  simp at k4
  clear h hl hle hlen hc
  go_enter Try.func15, Try.ntmps15
  go_wp2_with (go_at_call 22; refine (HC.out).mono ?_; rintro e w1 ⟨v, rfl, hB, hO⟩; have HO := Lib.hid hO; have HB := Lib.hid hB; clear hO hB)
  go_ret
  exact ⟨v, rfl, HB.out, HO.out⟩
theorem kept48 {F : Nat → Nat} (w : World) {p : Nat} {iv : Value} {s : MS} {st : List (Option Nat)} {kb pb : Nat} {sv cv : Value} {eb : C4 → Option Nat} (h : MemoIn F w p iv s st kb pb sv cv eb) :
    Calls Try.prog 17 #[.pointer (some ⟨p, 0, none⟩)] w fun e w' => e = .returned (.int .i64 s.n) ∧ w' = w := by
  have hlen := fun ty => MapG.len h.mke Try.underlying64 ty
  have k1 := blk_cell h.row 1
  simp at k1
  clear h
  go_enter Try.func17, Try.ntmps17
  go_wp2
  go_ret
  exact ⟨rfl, rfl⟩
theorem reset48 {F : Nat → Nat} (w : World) {p : Nat} {iv : Value} {s : MS} {st : List (Option Nat)} {kb pb : Nat} {sv cv : Value} {eb : C4 → Option Nat} (h : MemoIn F w p iv s st kb pb sv cv eb) :
    Calls Try.prog 13 #[.pointer (some ⟨p, 0, none⟩)] w (LeftC F w p iv st kb pb { s with comp := [] } sv (.slice none 0 0) eb) := by
  have k4 := blk_cell h.row 4
  have f4 := blk_frozen h.row 4
  simp at k4
  have hs := blk_set (i := 4) h.row (.slice none 0 0)
  simp at hs
  have hg := gr_setCell w p 4 (.slice none 0 0)
  have hM := h.turn (F' := F) (comp' := []) (st' := st) (sv' := sv) (cv' := .slice none 0 0) (fun _ _ => rfl) (fun b hb => by simpa using h.dom b hb) (hg.mono (fun b hb => .inl (.inl (by rw [hb]; exact h.fp)))) hs (ownsRow_gr h.stk hg (fun b hb e => by have h1 := h.sf b hb; have h2 := h.fp; rw [e] at h1; omega)) h.sf (Owns.nil _ _ _ _) (fun b hb => by simp [Value.ownBlock] at hb)
  have hgm : Gr (Mem F) w (w.setCell ⟨p, 4, none⟩ (.slice none 0 0)) := hg.mono (fun b hb => .inl (by unfold Mem; rw [hb, h.fp]; decide))
  have HM := Lib.hid hM
  have HG := Lib.hid hgm
  clear h hs hg hM hgm
  go_enter Try.func13, Try.ntmps13
  go_wp2
  go_end0
  exact ⟨rfl, HM.out, HG.out⟩
def newS : MS := ⟨fun _ => none, 0, fun _ => false, 0, []⟩
set_option maxRecDepth 20000 in
theorem new48 (w : World) (sp : Nat) :
    Calls Try.prog 11 #[sheetV sp] w fun e w' => e = .returned (.pointer (some ⟨w.heap.size + 2, 0, none⟩)) ∧ Below w.heap.size w w' ∧ w'.heap.size = w.heap.size + 3 ∧
      MemoIn (fun b => if b = w.heap.size + 2 then 1 else if b = w.heap.size then 2 else if b = w.heap.size + 1 then 3 else 0) w' (w.heap.size + 2) (sheetV sp) newS [] w.heap.size (w.heap.size + 1) (.slice none 0 0) (.slice none 0 0) (fun _ => none) := by
  have hmm := fun w => @run_makeMap Try.prog w
  unfold sheetV
  go_enter Try.func11, Try.ntmps11
  go_wp2
  go_ret
  have e1 : (w.alloc (.map #[] 0)).heap.size = w.heap.size + 1 := by simp
  have e2 : ((w.alloc (.map #[] 0)).alloc (.map #[] 0)).heap.size = w.heap.size + 2 := by simp
  have hh := heap_alloc_new ((w.alloc (.map #[] 0)).alloc (.map #[] 0)) (.cells #[.iface 29 (.pointer (some ⟨sp, 0, none⟩)), .map (some w.heap.size), .map (some (w.heap.size + 1)), .slice none 0 0, .slice none 0 0] 68)
  rw [e2] at hh
  have hB0 : Below w.heap.size w (((w.alloc (.map #[] 0)).alloc (.map #[] 0)).alloc (.cells #[.iface 29 (.pointer (some ⟨sp, 0, none⟩)), .map (some w.heap.size), .map (some (w.heap.size + 1)), .slice none 0 0, .slice none 0 0] 68)) := (((Below.refl _ w).alloc (Nat.le_refl _) _).alloc (by simp) _).alloc (by simp only [World.size_alloc]; omega) _
  have hB1 : Below (w.alloc (.map #[] 0)).heap.size (w.alloc (.map #[] 0)) (((w.alloc (.map #[] 0)).alloc (.map #[] 0)).alloc (.cells #[.iface 29 (.pointer (some ⟨sp, 0, none⟩)), .map (some w.heap.size), .map (some (w.heap.size + 1)), .slice none 0 0, .slice none 0 0] 68)) := ((Below.refl _ _).alloc (Nat.le_refl _) _).alloc (by simp) _
  have hB2 : Below ((w.alloc (.map #[] 0)).alloc (.map #[] 0)).heap.size ((w.alloc (.map #[] 0)).alloc (.map #[] 0)) (((w.alloc (.map #[] 0)).alloc (.map #[] 0)).alloc (.cells #[.iface 29 (.pointer (some ⟨sp, 0, none⟩)), .map (some w.heap.size), .map (some (w.heap.size + 1)), .slice none 0 0, .slice none 0 0] 68)) := (Below.refl _ _).alloc (Nat.le_refl _) _
  have hM1 := (MapG.made (Ks := cellK) (Es := entE) w).below hB1
  have hM2 := (MapG.made (Ks := cellK) (Es := boolE) (w.alloc (.map #[] 0))).below hB2
  rw [show (w.alloc (.map #[] 0)).heap.size = w.heap.size + 1 from e1] at hM2
  refine ⟨rfl, hB0, by simp, { row := hh, fp := by simp, fk := by simp, fg := by simp, mke := hM1.congr (fun _ _ => rfl), mpr := hM2.congr (fun _ _ => rfl), stk := World.ownsRow_nil _ _ _ _, sf := (fun b hb => by simp [Value.ownBlock] at hb), cmp := Owns.nil _ _ _ _, cf := (fun b hb => by simp [Value.ownBlock] at hb), some_ := (fun _ => rfl), ent := (fun c x e hx => by cases hx), inj := (fun c d e hx => by cases hx), dom := (fun b hb => ?_), okc := (fun c e hx => by cases hx) }⟩
  simp only [World.size_alloc]
  split at hb
  · omega
  · split at hb
    · omega
    · split at hb
      · omega
      · exact absurd rfl hb
theorem nilReads (w : World) (c : C4) : Calls Try.prog 18 #[.pointer none, c.v] w fun e w' => e = .returned (.slice none 0 0) ∧ Below w.heap.size w w' := by
  unfold C4.v
  go_enter Try.func18, Try.ntmps18
  go_wp2_with fail
  have hC0 : Cells [] (w.alloc (.cells #[.int .i64 c.st, .int .i64 c.en, .int .i64 c.ot, .int .i64 c.pe] 26)) := trivial
  have HB1 := Lib.hid (show Below w.heap.size w (w.alloc (.cells #[.int .i64 c.st, .int .i64 c.en, .int .i64 c.ot, .int .i64 c.pe] 26)) from (Below.refl _ w).alloc (Nat.le_refl _) _)
  generalize w.alloc (.cells #[.int .i64 c.st, .int .i64 c.en, .int .i64 c.ot, .int .i64 c.pe] 26) = w1 at *
  refine wp_region_T (Cells []) (fun _ => false) (by kernel_rfl) ?_
  have hSss1 := Cells.drew hC0
  have hB_0_s1 : Below w1.heap.size w1 w1.drew := below_drew _
  generalize w1.drew = s1 at hSss1 hB_0_s1 ⊢
  have hB_s1_s1 := Below.refl s1.heap.size s1
  refine wpAnyT_pure (i := 0) (v := ?_) rfl (by kernel_rfl) (by kernel_rfl) (by kernel_rfl) (fun _ _ _ h => h) (by rfl) ?_ ?_
  rotate_left
  · intro w; go_simp; try with_reducible rfl
  simp only [Act.put, List.setIfInBounds_toArray, List.set_cons_zero, List.set_cons_succ, List.getElem_toArray, List.getElem_cons_succ, List.getElem_cons_zero]
  refine wpAnyT_pure (i := 1) (v := ?_) rfl (by kernel_rfl) (by kernel_rfl) (by kernel_rfl) (fun _ _ _ h => h) (by rfl) ?_ ?_
  rotate_left
  · intro w; go_simp; try with_reducible rfl
  simp only [Act.put, List.setIfInBounds_toArray, List.set_cons_zero, List.set_cons_succ, List.getElem_toArray, List.getElem_cons_succ, List.getElem_cons_zero]
  refine wpAnyT_pure (i := 2) (v := ?_) rfl (by kernel_rfl) (by kernel_rfl) (by kernel_rfl) (fun _ _ _ h => h) (by rfl) ?_ ?_
  rotate_left
  · intro w; go_simp; try with_reducible rfl
  simp only [Act.put, List.setIfInBounds_toArray, List.set_cons_zero, List.set_cons_succ, List.getElem_toArray, List.getElem_cons_succ, List.getElem_cons_zero]
  refine wpAnyT_skip (i := 3) rfl (by kernel_rfl) (by kernel_rfl) (by kernel_rfl) (fun _ _ _ h => h) (by rfl) ?_
  simp only [Act.put, List.setIfInBounds_toArray, List.set_cons_zero, List.set_cons_succ, List.getElem_toArray, List.getElem_cons_succ, List.getElem_cons_zero]
  refine wpAnyT_skip (i := 4) rfl (by kernel_rfl) (by kernel_rfl) (by kernel_rfl) (fun _ _ _ h => h) (by rfl) ?_
  simp only [Act.put, List.setIfInBounds_toArray, List.set_cons_zero, List.set_cons_succ, List.getElem_toArray, List.getElem_cons_succ, List.getElem_cons_zero]
  refine wpAnyT_skip (i := 5) rfl (by kernel_rfl) (by kernel_rfl) (by kernel_rfl) (fun _ _ _ h => h) (by rfl) ?_
  simp only [Act.put, List.setIfInBounds_toArray, List.set_cons_zero, List.set_cons_succ, List.getElem_toArray, List.getElem_cons_succ, List.getElem_cons_zero]
  refine wpAnyT_skip (i := 6) rfl (by kernel_rfl) (by kernel_rfl) (by kernel_rfl) (fun _ _ _ h => h) (by rfl) ?_
  simp only [Act.put, List.setIfInBounds_toArray, List.set_cons_zero, List.set_cons_succ, List.getElem_toArray, List.getElem_cons_succ, List.getElem_cons_zero]
  refine wpAnyT_skip (i := 7) rfl (by kernel_rfl) (by kernel_rfl) (by kernel_rfl) (fun _ _ _ h => h) (by rfl) ?_
  simp only [Act.put, List.setIfInBounds_toArray, List.set_cons_zero, List.set_cons_succ, List.getElem_toArray, List.getElem_cons_succ, List.getElem_cons_zero]
  refine wpAnyT_skip (i := 8) rfl (by kernel_rfl) (by kernel_rfl) (by kernel_rfl) (fun _ _ _ h => h) (by rfl) ?_
  simp only [Act.put, List.setIfInBounds_toArray, List.set_cons_zero, List.set_cons_succ, List.getElem_toArray, List.getElem_cons_succ, List.getElem_cons_zero]
  refine wpAnyT_skip (i := 9) rfl (by kernel_rfl) (by kernel_rfl) (by kernel_rfl) (fun _ _ _ h => h) (by rfl) ?_
  simp only [Act.put, List.setIfInBounds_toArray, List.set_cons_zero, List.set_cons_succ, List.getElem_toArray, List.getElem_cons_succ, List.getElem_cons_zero]
  refine wpAnyT_pure (i := 10) (v := ?_) rfl (by kernel_rfl) (by kernel_rfl) (by kernel_rfl) (fun _ _ _ h => h) (by rfl) ?_ ?_
  rotate_left
  · intro w; go_simp; try with_reducible rfl
  simp only [Act.put, List.setIfInBounds_toArray, List.set_cons_zero, List.set_cons_succ, List.getElem_toArray, List.getElem_cons_succ, List.getElem_cons_zero]
  refine wpAnyT_done (by kernel_rfl) ?_ _
  have HBP := Lib.hid (below_step HB1.out (hB_0_s1.trans ((hB_s1_s1).mono (hB_0_s1).size)))
  go_wp2
  go_ret
  exact ⟨rfl, HBP.out⟩
end Go.Proofs.Ytmmeieangbcfaaa
