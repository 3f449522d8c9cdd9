/- Layer 53: Done; the names of tasks, Clone, Valid. -/
import Derived.Test.YtdcjocldggmdbaaW53m
set_option linter.unusedSimpArgs false
namespace Go.Proofs.Ytdcjocldggmdbaa
open Go.RowKit Go

def doneB (ts : List Tk) (ne : Nat) (f : Ky → Option ByteArray) (per : Int) : Bool := (allK ts ne per).all (fun k => (f k).isSome) && decide (0 < (allK ts ne per).length)
set_option maxRecDepth 20000 in
set_option maxHeartbeats 1000000 in
theorem done53 {S : Nat → Prop} (w : World) (p : Nat) (ts : List Tk) (ne np m n : Nat) (f : Ky → Option ByteArray) (h : WfIn S w p ts ne np m n f) (hne : ne ≤ 1000) (hts : ts.length ≤ 1000) (per : Int) (hp : (Lit.int .i64 per).wf = true) (h0 : 0 ≤ per) (h1 : per < np) :
    Calls Try.prog 27 #[.pointer (some ⟨p, 0, none⟩), .int .i64 per] w fun e w' => e = .returned (.bool (doneB ts ne f per)) ∧ Below w.heap.size w w' := by
  have HA := Lib.hid (all53 w p ts ne np m h.wf hne hts per hp h0 h1)
  have H := Lib.hid h
  unfold doneB
  generalize allK ts ne per = l at HA ⊢
  clear h hne hts hp h0 h1
  go_enter Try.func27, Try.ntmps27
  go_wp2_with fail
  refine HA.out.mono ?_
  rintro e w1 ⟨v, rfl, hO, hB1⟩
  obtain ⟨a, len, cap, rfl, hl, hlc, hcm⟩ := hO.slice
  rw [List.length_map] at hl
  have HR := Lib.hid (hO.rd (fun b => b < w1.heap.size) (fun _ h => h.elim) (fun b hb => (hO.own b hb).2))
  have HL := Lib.hid hl
  have HB1 := Lib.hid hB1
  have H1 := Lib.hid (H.out.below hB1)
  clear hO hl hB1
  go_wp2_with fail
  go_loopw [7, 8, 9, 15] (fun _ _ _ i wr => ∃ k : Nat, k ≤ len ∧ i = .int .i64 k ∧ ((l.take k).all fun k => (f k).isSome) = true ∧ Below w1.heap.size w1 wr) (fun _ _ _ i _ => len - (intOf i).toNat)
  case atStart => exact ⟨0, Nat.zero_le _, rfl, rfl, Below.refl _ _⟩
  case round =>
    obtain ⟨k, hk, rfl, hall, hB⟩ := hrel
    have HB := Lib.hid hB
    have HALL := Lib.hid hall
    clear hall
    by_cases hlt : k < len
    · have hkI : (k : Int) < (len : Int) := by omega
      have hkx : k < l.length := by rw [← HL.out]; exact hlt
      obtain ⟨b, o, rfl, -, m0, m1, m2, hok⟩ := key_at (HR.out.below hB (fun _ h => h)) k hkx
      have hstep : ((l.take (k + 1)).all fun k => (f k).isSome) = (f l[k]).isSome := by
        rw [List.take_succ_eq_append_getElem hkx, List.all_append, HALL.out]
        simp
      have HST := Lib.hid hstep
      have HNO := Lib.hid (show (f l[k]).isSome = false → (l.all fun k => (f k).isSome) = false from fun h => List.all_eq_false.2 ⟨l[k], List.getElem_mem hkx, by rw [h]; simp⟩)
      have HLT := Lib.hid hlt
      generalize l[k] = x at m0 m1 m2 hok HST HNO
      obtain ⟨fx, hfx⟩ : ∃ o, f x = o := ⟨_, rfl⟩
      rw [hfx] at HST HNO
      have HFX := Lib.hid hfx
      have HOK := Lib.hid hok
      obtain ⟨x1, x2, x3⟩ := x
      simp only at m0 m1 m2
      have hrz := heap_alloc_new wr (.cells #[.string ⟨#[]⟩, .int .i64 0, .int .i64 0] 53)
      have hBz := (Below.refl wr.heap.size wr).alloc (Nat.le_refl _) (.cells #[.string ⟨#[]⟩, .int .i64 0, .int .i64 0] 53)
      have HRZ := Lib.hid hrz
      have HROW := Lib.hid (setRow_heap _ _ _ #[.string x1, .int .i64 x2, .int .i64 x3] _ _ hrz)
      have HBS := Lib.hid (below_setRow (n := wr.heap.size) hBz (Nat.le_refl _) #[.string x1, .int .i64 x2, .int .i64 x3])
      clear hstep hlt hkx hB hfx hok hrz hBz
      go_wp2_with (refine wpList_store_row rfl _ _ _ rfl (wr.heap.size) #[.string x1, .int .i64 x2, .int .i64 x3] rfl rfl 53 _ HRZ.out (by kernel_rfl) (by rfl) (by simp [Value.oneCell']) ?_)
      have hBs := HBS.out
      have hrow := HROW.out
      generalize hw3 : World.setRow (wr.alloc _) _ _ = w3 at hBs hrow ⊢
      clear hw3 HBS HROW m0 m1 m2
      have HB3 := Lib.hid (below_step HB.out hBs)
      have h3 := H1.out.below (below_step HB.out hBs)
      obtain ⟨ta, tl, tc, txs, hw, -, -⟩ := h3.wf.row
      have H3 := Lib.hid h3
      have hC0 : Cells [(⟨p, 3, none⟩, .map (some m)), (⟨wr.heap.size, 0, none⟩, .string x1), (⟨wr.heap.size, 1, none⟩, .int .i64 x2), (⟨wr.heap.size, 2, none⟩, .int .i64 x3)] w3 := ⟨blk_cell hw 3, blk_cell hrow 0, blk_cell hrow 1, blk_cell hrow 2, trivial⟩
      clear h3 hw hBs hrow
      go_wp2_with fail
      refine wp_region_T (Cells [(⟨p, 3, none⟩, .map (some m)), (⟨wr.heap.size, 0, none⟩, .string x1), (⟨wr.heap.size, 1, none⟩, .int .i64 x2), (⟨wr.heap.size, 2, none⟩, .int .i64 x3)]) (fun _ => false) (by kernel_rfl) ?_
      have hSss1 := Cells.drew hC0
      have hB_0_s1 : Below w3.heap.size w3 w3.drew := below_drew _
      generalize w3.drew = s1 at hSss1 hB_0_s1 ⊢
      have hB_s1_s1 := Below.refl s1.heap.size s1
      refine wpAnyT_pure (i := 0) (v := ?_) rfl (by kernel_rfl) (by kernel_rfl) (by kernel_rfl) (fun _ _ _ h => h) (by rfl) ?_ ?_
      rotate_left
      · intro w; go_simp; try with_reducible rfl
      simp only [Act.put, List.setIfInBounds_toArray, List.set_cons_zero, List.set_cons_succ, List.getElem_toArray, List.getElem_cons_succ, List.getElem_cons_zero]
      refine wpAnyT_pure (i := 1) (v := ?_) rfl (by kernel_rfl) (by kernel_rfl) (by kernel_rfl) (fun _ _ _ h => h) (by rfl) ?_ ?_
      rotate_left
      · intro w; go_simp; try with_reducible rfl
      simp only [Act.put, List.setIfInBounds_toArray, List.set_cons_zero, List.set_cons_succ, List.getElem_toArray, List.getElem_cons_succ, List.getElem_cons_zero]
      refine wpAnyT_pure (i := 2) (v := ?_) rfl (by kernel_rfl) (by kernel_rfl) (by kernel_rfl) (fun _ _ _ h => h) (by rfl) ?_ ?_
      rotate_left
      · intro w; go_simp; try with_reducible rfl
      simp only [Act.put, List.setIfInBounds_toArray, List.set_cons_zero, List.set_cons_succ, List.getElem_toArray, List.getElem_cons_succ, List.getElem_cons_zero]
      refine wpAnyT_loadW (i := 3) (v := ?_) rfl (by kernel_rfl) (by kernel_rfl) (by kernel_rfl) (by kernel_rfl) (by kernel_rfl) (fun _ _ _ h => h) (Or.inl ⟨by rfl, ?_⟩) hSss1 ?_
      rotate_left
      · intro w hSw; obtain ⟨e0, e1, e2, e3, -⟩ := hSw; go_simp; try with_reducible rfl
      simp only [Act.put, List.setIfInBounds_toArray, List.set_cons_zero, List.set_cons_succ, List.getElem_toArray, List.getElem_cons_succ, List.getElem_cons_zero]
      refine wpAnyT_loadW (i := 4) (v := ?_) rfl (by kernel_rfl) (by kernel_rfl) (by kernel_rfl) (by kernel_rfl) (by kernel_rfl) (fun _ _ _ h => h) (Or.inl ⟨by rfl, ?_⟩) hSss1 ?_
      rotate_left
      · intro w hSw; obtain ⟨e0, e1, e2, e3, -⟩ := hSw; go_simp; try with_reducible rfl
      simp only [Act.put, List.setIfInBounds_toArray, List.set_cons_zero, List.set_cons_succ, List.getElem_toArray, List.getElem_cons_succ, List.getElem_cons_zero]
      refine wpAnyT_one (i := 5) (by kernel_rfl) rfl (by rfl) ?_
      have hlk := MapG.look2 ((H3.out.below (hB_0_s1.trans ((hB_s1_s1).mono (hB_0_s1).size))).mp) Try.underlying91 ⟨x1, x2, x3⟩ HOK.out
      rw [HFX.out] at hlk
      change Sem.run Try.prog (Instr.lookup 91 (.map (some m)) (.agg #[.string x1, .int .i64 x2, .int .i64 x3]) true) s1 = _ at hlk
      refine wp_value (v := .tuple #[.string (fx.getD ⟨#[]⟩), .bool fx.isSome]) (w' := s1) (by go_simp; rfl) ?_
      clear hlk
      refine ⟨fun _ h => h, ?_⟩
      try simp only [Act.put, List.setIfInBounds_toArray, List.set_cons_zero, List.set_cons_succ, List.getElem_toArray, List.getElem_cons_succ, List.getElem_cons_zero]
      refine wpAnyT_pure (i := 6) (v := ?_) rfl (by kernel_rfl) (by kernel_rfl) (by kernel_rfl) (fun _ _ _ h => h) (by rfl) ?_ ?_
      rotate_left
      · intro w; go_simp; try with_reducible rfl
      simp only [Act.put, List.setIfInBounds_toArray, List.set_cons_zero, List.set_cons_succ, List.getElem_toArray, List.getElem_cons_succ, List.getElem_cons_zero]
      refine wpAnyT_pure (i := 7) (v := ?_) rfl (by kernel_rfl) (by kernel_rfl) (by kernel_rfl) (fun _ _ _ h => h) (by rfl) ?_ ?_
      rotate_left
      · intro w; go_simp; try with_reducible rfl
      simp only [Act.put, List.setIfInBounds_toArray, List.set_cons_zero, List.set_cons_succ, List.getElem_toArray, List.getElem_cons_succ, List.getElem_cons_zero]
      refine wpAnyT_pure (i := 8) (v := ?_) rfl (by kernel_rfl) (by kernel_rfl) (by kernel_rfl) (fun _ _ _ h => h) (by rfl) ?_ ?_
      rotate_left
      · intro w; go_simp; try with_reducible rfl
      simp only [Act.put, List.setIfInBounds_toArray, List.set_cons_zero, List.set_cons_succ, List.getElem_toArray, List.getElem_cons_succ, List.getElem_cons_zero]
      refine wpAnyT_pure (i := 9) (v := ?_) rfl (by kernel_rfl) (by kernel_rfl) (by kernel_rfl) (fun _ _ _ h => h) (by rfl) ?_ ?_
      rotate_left
      · intro w; go_simp; try with_reducible rfl
      simp only [Act.put, List.setIfInBounds_toArray, List.set_cons_zero, List.set_cons_succ, List.getElem_toArray, List.getElem_cons_succ, List.getElem_cons_zero]
      refine wpAnyT_pure (i := 10) (v := ?_) rfl (by kernel_rfl) (by kernel_rfl) (by kernel_rfl) (fun _ _ _ h => h) (by rfl) ?_ ?_
      rotate_left
      · intro w; go_simp; try with_reducible rfl
      simp only [Act.put, List.setIfInBounds_toArray, List.set_cons_zero, List.set_cons_succ, List.getElem_toArray, List.getElem_cons_succ, List.getElem_cons_zero]
      refine wpAnyT_done (by kernel_rfl) ?_ _
      have HBP := Lib.hid (below_step HB3.out (hB_0_s1.trans ((hB_s1_s1).mono (hB_0_s1).size)))
      cases fx with
      | none =>
        go_wp2_with fail
        go_ret
        refine ⟨?_, below_step HB1.out HBP.out⟩
        rw [HNO.out rfl]; rfl
      | some v =>
        go_wp2_with fail
        go_roundw
        case rel => exact ⟨k + 1, HLT.out, by go_num, HST.out, HBP.out⟩
        case measure => simp [intOf]; try omega
    · obtain rfl : len = k := by omega
      have hall : l.take len = l := List.take_of_length_le (by rw [← HL.out]; exact Nat.le_refl _)
      rw [hall] at HALL
      have HLI := Lib.hid (show decide (0 < l.length) = decide ((0 : Int) < (len : Int)) from decide_eq_decide.2 (by have := HL.out; omega))
      clear hB hall hlt
      go_wp2_with fail
      go_ret
      refine ⟨?_, below_step HB1.out HB.out⟩
      rw [HALL.out, HLI.out]
      first | rfl | simp
set_option maxHeartbeats 1000000 in
set_option maxRecDepth 20000 in
theorem cloneS53 {S : Nat → Prop} (w : World) (a : Option Addr) (len cap : Nat) (l : List ByteArray) (hx : Rd (.sl .str) S w [.slice a len cap] l) (hS : ∀ b, S b → b < w.heap.size) (hlen : len ≤ 1000000) :
    Calls Try.prog 51 #[.slice a len cap] w fun e w' => ∃ v, e = .returned v ∧ Owns .str 9 w.heap.size (fun _ => False) w' v l ∧ Below w.heap.size w w' := by
  have info_str : (Try.prog.info? 9).map (fun i => (i.zero, i.size, i.bytes)) = some (some (.string ⟨#[]⟩), (Ty.str).sz, 16) := by kernel_rfl
  have hl : l.length = len := hx.sl_flat.1
  have HX := Lib.hid hx
  have HS := Lib.hid hS
  have HL := Lib.hid hl
  obtain ⟨-, -, -, vs, -, hor⟩ := hx.sl_flat
  have hz := fun w => Lib.run_eql_slice_nil (P := Try.prog) w 36 _ a len cap 0 0 Try.underlying36
  clear hx hS hl
  cases a with
  | none =>
    obtain rfl : len = 0 := by
      rcases hor with h | ⟨_, _, h, _⟩
      · exact h
      · cases h
    obtain rfl : l = [] := List.eq_nil_of_length_eq_zero HL.out
    clear hor
    simp only [Option.isNone] at hz
    go_enter Try.func51, Try.ntmps51
    go_wp2_with fail
    go_ret
    exact ⟨_, rfl, Owns.nil _ _ _ _, Below.refl _ _⟩
  | some a =>
    clear hor
    simp only [Option.isNone] at hz
    go_enter Try.func51, Try.ntmps51
    go_wp2_with (at_builtin; go_must (refine wpList_copy w rfl _ _ 36 rfl (e := .str) info_str Try.underlying36 rfl (by decide) rfl (S := S) (sv := .slice (some a) len cap) (xs := l) rfl HX.out HS.out HL.out (by omega) (by omega) ?_; intro g cv w1 O1 hg hB1 h5 h6; have HO1 := Lib.hid O1; have HB1 := Lib.hid hB1; clear O1 hB1))
    go_ret
    exact ⟨_, rfl, HO1.out.flat rfl, HB1.out⟩
end Go.Proofs.Ytdcjocldggmdbaa
