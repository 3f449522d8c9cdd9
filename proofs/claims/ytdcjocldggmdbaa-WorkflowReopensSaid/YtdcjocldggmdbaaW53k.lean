/- Layer 53: open, Sign, Signed. -/
import Derived.Test.YtdcjocldggmdbaaW53j
set_option linter.unusedSimpArgs false
namespace Go.Proofs.Ytdcjocldggmdbaa
open Go.RowKit Go

/-- All prerequisites are signed. -/
def readyB (ts : List Tk) (ne : Nat) (f : Ky → Option ByteArray) (k : Ky) : Bool := (rawNeeds ts ne k).all fun n => (f n).isSome
theorem any_ready {ts : List Tk} {ne : Nat} {f : Ky → Option ByteArray} {k : Ky} {l : List Ky} (h : l.Perm (rawNeeds ts ne k)) : (!(l.any fun n => (f n).isNone)) = readyB ts ne f k := by
  unfold readyB
  rw [Bool.eq_iff_iff]
  simp only [Bool.not_eq_true', List.any_eq_false, List.all_eq_true]
  constructor
  · intro h1 x hx
    have := h1 x (h.mem_iff.2 hx)
    cases hf : f x with
    | none => rw [hf] at this; exact absurd rfl this
    | some _ => rfl
  · intro h1 x hx
    have := h1 x (h.mem_iff.1 hx)
    cases hf : f x with
    | none => rw [hf] at this; cases this
    | some _ => simp
set_option maxRecDepth 20000 in
set_option maxHeartbeats 1000000 in
theorem open53 {S : Nat → Prop} (w : World) (p : Nat) (ts : List Tk) (ne np m n : Nat) (f : Ky → Option ByteArray) (h : WfIn S w p ts ne np m n f) (hne : ne ≤ 1000) (k : Ky) (hN : NeedOk ts ne k) :
    Calls Try.prog 44 #[.pointer (some ⟨p, 0, none⟩), k.v] w fun e w' => e = .returned (.bool ((f k).isNone && readyB ts ne f k)) ∧ Below w.heap.size w w' := by
  have hok := hN.ok
  have HNE := Lib.hid fun W (hB : Below w.heap.size w W) => needs53 W p ts ne np m (h.wf.below hB) hne k hN
  obtain ⟨fk, hfk⟩ : ∃ o, f k = o := ⟨_, rfl⟩
  have HRD := Lib.hid fun (l : List Ky) (hl : l.Perm (rawNeeds ts ne k)) => any_ready (f := f) hl
  unfold NeedP at HNE
  rw [hfk]
  have HFK := Lib.hid hfk
  generalize readyB ts ne f k = rb at HRD ⊢
  generalize rawNeeds ts ne k = raw at HNE HRD
  obtain ⟨k1, k2, k3⟩ := k
  unfold Ky.v at *
  simp only at HNE
  have hh2 := heap_alloc2_old w (.cells #[.pointer (some ⟨p, 0, none⟩)] 27) (.cells #[.string k1, .int .i64 k2, .int .i64 k3] 53)
  have hr2 := heap_alloc2_new w (.cells #[.pointer (some ⟨p, 0, none⟩)] 27) (.cells #[.string k1, .int .i64 k2, .int .i64 k3] 53)
  have hB1 : Below w.heap.size w ((w.alloc (.cells #[.pointer (some ⟨p, 0, none⟩)] 27)).alloc (.cells #[.string k1, .int .i64 k2, .int .i64 k3] 53)) := ((Below.refl _ w).alloc (Nat.le_refl _) _).alloc (by simp) _
  have h' := h.below hB1
  obtain ⟨a, len, cap, xs, h1, -, -⟩ := h'.wf.row
  have H := Lib.hid h'
  have HB1 := Lib.hid hB1
  have HK := Lib.hid hok
  have HP := Lib.hid hh2
  have HKB := Lib.hid hr2
  have hC0 : Cells [(⟨w.heap.size, 0, none⟩, .pointer (some ⟨p, 0, none⟩)), (⟨p, 3, none⟩, .map (some m)), (⟨w.heap.size + 1, 0, none⟩, .string k1), (⟨w.heap.size + 1, 1, none⟩, .int .i64 k2), (⟨w.heap.size + 1, 2, none⟩, .int .i64 k3)] ((w.alloc (.cells #[.pointer (some ⟨p, 0, none⟩)] 27)).alloc (.cells #[.string k1, .int .i64 k2, .int .i64 k3] 53)) := ⟨blk_cell hh2 0, blk_cell h1 3, blk_cell hr2 0, blk_cell hr2 1, blk_cell hr2 2, trivial⟩
  clear h h' hB1 hh2 hr2 h1 hok hfk hN
  go_enter Try.func44, Try.ntmps44
  go_wp2_with fail
  generalize (w.alloc (.cells #[.pointer (some ⟨p, 0, none⟩)] 27)).alloc (.cells #[.string k1, .int .i64 k2, .int .i64 k3] 53) = w1 at *
  refine wp_region_T (Cells [(⟨w.heap.size, 0, none⟩, .pointer (some ⟨p, 0, none⟩)), (⟨p, 3, none⟩, .map (some m)), (⟨w.heap.size + 1, 0, none⟩, .string k1), (⟨w.heap.size + 1, 1, none⟩, .int .i64 k2), (⟨w.heap.size + 1, 2, none⟩, .int .i64 k3)]) (fun _ => false) (by kernel_rfl) ?_
  have hSss1 := Cells.drew hC0
  have hB_0_s1 : Below w1.heap.size w1 w1.drew := below_drew _
  generalize w1.drew = s1 at hSss1 hB_0_s1 ⊢
  have hB_s1_s1 := Below.refl s1.heap.size s1
  refine wpAnyT_loadW (i := 0) (v := ?_) rfl (by kernel_rfl) (by kernel_rfl) (by kernel_rfl) (by kernel_rfl) (by kernel_rfl) (fun _ _ _ h => h) (Or.inl ⟨by rfl, ?_⟩) hSss1 ?_
  rotate_left
  · intro w hSw; obtain ⟨e0, e1, e2, e3, e4, -⟩ := hSw; go_simp; try with_reducible rfl
  simp only [Act.put, List.setIfInBounds_toArray, List.set_cons_zero, List.set_cons_succ, List.getElem_toArray, List.getElem_cons_succ, List.getElem_cons_zero]
  refine wpAnyT_pure (i := 1) (v := ?_) rfl (by kernel_rfl) (by kernel_rfl) (by kernel_rfl) (fun _ _ _ h => h) (by rfl) ?_ ?_
  rotate_left
  · intro w; go_simp; try with_reducible rfl
  simp only [Act.put, List.setIfInBounds_toArray, List.set_cons_zero, List.set_cons_succ, List.getElem_toArray, List.getElem_cons_succ, List.getElem_cons_zero]
  refine wpAnyT_pure (i := 2) (v := ?_) rfl (by kernel_rfl) (by kernel_rfl) (by kernel_rfl) (fun _ _ _ h => h) (by rfl) ?_ ?_
  rotate_left
  · intro w; go_simp; try with_reducible rfl
  simp only [Act.put, List.setIfInBounds_toArray, List.set_cons_zero, List.set_cons_succ, List.getElem_toArray, List.getElem_cons_succ, List.getElem_cons_zero]
  refine wpAnyT_loadW (i := 3) (v := ?_) rfl (by kernel_rfl) (by kernel_rfl) (by kernel_rfl) (by kernel_rfl) (by kernel_rfl) (fun _ _ _ h => h) (Or.inl ⟨by rfl, ?_⟩) hSss1 ?_
  rotate_left
  · intro w hSw; obtain ⟨e0, e1, e2, e3, e4, -⟩ := hSw; go_simp; try with_reducible rfl
  simp only [Act.put, List.setIfInBounds_toArray, List.set_cons_zero, List.set_cons_succ, List.getElem_toArray, List.getElem_cons_succ, List.getElem_cons_zero]
  refine wpAnyT_loadW (i := 4) (v := ?_) rfl (by kernel_rfl) (by kernel_rfl) (by kernel_rfl) (by kernel_rfl) (by kernel_rfl) (fun _ _ _ h => h) (Or.inl ⟨by rfl, ?_⟩) hSss1 ?_
  rotate_left
  · intro w hSw; obtain ⟨e0, e1, e2, e3, e4, -⟩ := hSw; go_simp; try with_reducible rfl
  simp only [Act.put, List.setIfInBounds_toArray, List.set_cons_zero, List.set_cons_succ, List.getElem_toArray, List.getElem_cons_succ, List.getElem_cons_zero]
  refine wpAnyT_one (i := 5) (by kernel_rfl) rfl (by rfl) ?_
  have hlk := MapG.look2 ((H.out.below (hB_0_s1.trans ((hB_s1_s1).mono (hB_0_s1).size))).mp) Try.underlying91 ⟨k1, k2, k3⟩ HK.out
  rw [HFK.out] at hlk
  change Sem.run Try.prog (Instr.lookup 91 (.map (some m)) (.agg #[.string k1, .int .i64 k2, .int .i64 k3]) true) s1 = _ at hlk
  refine wp_value (v := .tuple #[.string (fk.getD ⟨#[]⟩), .bool fk.isSome]) (w' := s1) (by go_simp; rfl) ?_
  clear hlk
  refine ⟨fun _ h => h, ?_⟩
  try simp only [Act.put, List.setIfInBounds_toArray, List.set_cons_zero, List.set_cons_succ, List.getElem_toArray, List.getElem_cons_succ, List.getElem_cons_zero]
  refine wpAnyT_pure (i := 6) (v := ?_) rfl (by kernel_rfl) (by kernel_rfl) (by kernel_rfl) (fun _ _ _ h => h) (by rfl) ?_ ?_
  rotate_left
  · intro w; go_simp; try with_reducible rfl
  simp only [Act.put, List.setIfInBounds_toArray, List.set_cons_zero, List.set_cons_succ, List.getElem_toArray, List.getElem_cons_succ, List.getElem_cons_zero]
  refine wpAnyT_pure (i := 7) (v := ?_) rfl (by kernel_rfl) (by kernel_rfl) (by kernel_rfl) (fun _ _ _ h => h) (by rfl) ?_ ?_
  rotate_left
  · intro w; go_simp; try with_reducible rfl
  simp only [Act.put, List.setIfInBounds_toArray, List.set_cons_zero, List.set_cons_succ, List.getElem_toArray, List.getElem_cons_succ, List.getElem_cons_zero]
  refine wpAnyT_pure (i := 8) (v := ?_) rfl (by kernel_rfl) (by kernel_rfl) (by kernel_rfl) (fun _ _ _ h => h) (by rfl) ?_ ?_
  rotate_left
  · intro w; go_simp; try with_reducible rfl
  simp only [Act.put, List.setIfInBounds_toArray, List.set_cons_zero, List.set_cons_succ, List.getElem_toArray, List.getElem_cons_succ, List.getElem_cons_zero]
  refine wpAnyT_pure (i := 9) (v := ?_) rfl (by kernel_rfl) (by kernel_rfl) (by kernel_rfl) (fun _ _ _ h => h) (by rfl) ?_ ?_
  rotate_left
  · intro w; go_simp; try with_reducible rfl
  simp only [Act.put, List.setIfInBounds_toArray, List.set_cons_zero, List.set_cons_succ, List.getElem_toArray, List.getElem_cons_succ, List.getElem_cons_zero]
  refine wpAnyT_pure (i := 10) (v := ?_) rfl (by kernel_rfl) (by kernel_rfl) (by kernel_rfl) (fun _ _ _ h => h) (by rfl) ?_ ?_
  rotate_left
  · intro w; go_simp; try with_reducible rfl
  simp only [Act.put, List.setIfInBounds_toArray, List.set_cons_zero, List.set_cons_succ, List.getElem_toArray, List.getElem_cons_succ, List.getElem_cons_zero]
  refine wpAnyT_done (by kernel_rfl) ?_ _
  have hbP : Below w1.heap.size w1 s1 := hB_0_s1.trans ((hB_s1_s1).mono (hB_0_s1).size)
  obtain ⟨w2, rfl⟩ : ∃ x, x = s1 := ⟨_, rfl⟩
  have HB2 := Lib.hid (below_step HB1.out hbP)
  have H2 := Lib.hid (H.out.below hbP)
  have HP2 := Lib.hid ((hbP.block _ (blk_lt HP.out)).trans HP.out)
  have HKB2 := Lib.hid ((hbP.block _ (blk_lt HKB.out)).trans HKB.out)
  clear hbP
  cases fk with
  | some v =>
    go_wp2_with fail
    go_ret
    exact ⟨rfl, HB2.out⟩
  | none =>
    have x0 := blk_cell HP2.out 0
    have k0 := blk_cell HKB2.out 0
    have k1' := blk_cell HKB2.out 1
    have k2' := blk_cell HKB2.out 2
    simp at x0 k0 k1' k2'
    go_wp2_with fail
    refine (HNE.out w2 HB2.out).mono ?_
    rintro e w3 ⟨a, len, cap, l, rfl, hp, hr, hok, hB3, -⟩
    have HPE := Lib.hid hp
    have HC := Lib.hid (anyNot w3 p ts ne np m n f (H2.out.below hB3) a len cap l hr (fun _ h => h) w.heap.size ((hB3.block _ (blk_lt HP2.out)).trans HP2.out))
    have HB3 := Lib.hid (below_step HB2.out hB3)
    clear hp hr hok hB3 x0 k0 k1' k2'
    go_wp2_with fail
    refine HC.out.mono ?_
    rintro e w4 ⟨rfl, hB4⟩
    have HB4 := Lib.hid (below_step HB3.out hB4)
    clear hB4
    go_wp2_with fail
    go_ret
    refine ⟨?_, HB4.out⟩
    rw [← HRD.out l HPE.out]
    rfl
end Go.Proofs.Ytdcjocldggmdbaa
