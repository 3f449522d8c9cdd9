/- Layer 53: Signed, all, Done. -/
import Derived.Test.YtdcjocldggmdbaaW53l
set_option linter.unusedSimpArgs false
namespace Go.Proofs.Ytdcjocldggmdbaa
open Go.RowKit Go

set_option maxRecDepth 20000 in
set_option maxHeartbeats 1000000 in
theorem signed53 {S : Nat → Prop} (w : World) (p : Nat) (ts : List Tk) (ne np m n : Nat) (f : Ky → Option ByteArray) (h : WfIn S w p ts ne np m n f) (k : Ky) (hk : k.ok) :
    Calls Try.prog 21 #[.pointer (some ⟨p, 0, none⟩), k.v] w fun e w' => e = .returned (.tuple #[.string ((f k).getD ⟨#[]⟩), .bool (f k).isSome]) ∧ Below w.heap.size w w' := by
  obtain ⟨k1, k2, k3⟩ := k
  have hB : Below w.heap.size w (w.alloc (.cells #[.string k1, .int .i64 k2, .int .i64 k3] 53)) := (Below.refl _ w).alloc (Nat.le_refl _) _
  have hkb := heap_alloc_new w (.cells #[.string k1, .int .i64 k2, .int .i64 k3] 53)
  have h' := h.below hB
  obtain ⟨a, len, cap, xs, h1, -, -⟩ := h'.wf.row
  have H := Lib.hid h'
  have HB := Lib.hid hB
  have HK := Lib.hid hk
  have hC0 : Cells [(⟨p, 3, none⟩, .map (some m)), (⟨w.heap.size, 0, none⟩, .string k1), (⟨w.heap.size, 1, none⟩, .int .i64 k2), (⟨w.heap.size, 2, none⟩, .int .i64 k3)] (w.alloc (.cells #[.string k1, .int .i64 k2, .int .i64 k3] 53)) := ⟨blk_cell h1 3, blk_cell hkb 0, blk_cell hkb 1, blk_cell hkb 2, trivial⟩
  clear h h' hB hkb h1 hk
  unfold Ky.v
  simp only
  go_enter Try.func21, Try.ntmps21
  go_wp2_with fail
  generalize w.alloc (.cells #[.string k1, .int .i64 k2, .int .i64 k3] 53) = w1 at *
  refine wp_region_T (Cells [(⟨p, 3, none⟩, .map (some m)), (⟨w.heap.size, 0, none⟩, .string k1), (⟨w.heap.size, 1, none⟩, .int .i64 k2), (⟨w.heap.size, 2, none⟩, .int .i64 k3)]) (fun _ => false) (by kernel_rfl) ?_
  have hSss1 := Cells.drew hC0
  have hB_0_s1 : Below w1.heap.size w1 w1.drew := below_drew _
  generalize w1.drew = s1 at hSss1 hB_0_s1 ⊢
  have hB_s1_s1 := Below.refl s1.heap.size s1
  refine wpAnyT_pure (i := 0) (v := ?_) rfl (by kernel_rfl) (by kernel_rfl) (by kernel_rfl) (fun _ _ _ h => h) (by rfl) ?_ ?_
  rotate_left
  · intro w; go_simp; try with_reducible rfl
  simp only [Act.put, List.setIfInBounds_toArray, List.set_cons_zero, List.set_cons_succ, List.getElem_toArray, List.getElem_cons_succ, List.getElem_cons_zero]
  refine wpAnyT_pure (i := 1) (v := ?_) rfl (by kernel_rfl) (by kernel_rfl) (by kernel_rfl) (fun _ _ _ h => h) (by rfl) ?_ ?_
  rotate_left
  · intro w; go_simp; try with_reducible rfl
  simp only [Act.put, List.setIfInBounds_toArray, List.set_cons_zero, List.set_cons_succ, List.getElem_toArray, List.getElem_cons_succ, List.getElem_cons_zero]
  refine wpAnyT_pure (i := 2) (v := ?_) rfl (by kernel_rfl) (by kernel_rfl) (by kernel_rfl) (fun _ _ _ h => h) (by rfl) ?_ ?_
  rotate_left
  · intro w; go_simp; try with_reducible rfl
  simp only [Act.put, List.setIfInBounds_toArray, List.set_cons_zero, List.set_cons_succ, List.getElem_toArray, List.getElem_cons_succ, List.getElem_cons_zero]
  refine wpAnyT_loadW (i := 3) (v := ?_) rfl (by kernel_rfl) (by kernel_rfl) (by kernel_rfl) (by kernel_rfl) (by kernel_rfl) (fun _ _ _ h => h) (Or.inl ⟨by rfl, ?_⟩) hSss1 ?_
  rotate_left
  · intro w hSw; obtain ⟨e0, e1, e2, e3, -⟩ := hSw; go_simp; try with_reducible rfl
  simp only [Act.put, List.setIfInBounds_toArray, List.set_cons_zero, List.set_cons_succ, List.getElem_toArray, List.getElem_cons_succ, List.getElem_cons_zero]
  refine wpAnyT_loadW (i := 4) (v := ?_) rfl (by kernel_rfl) (by kernel_rfl) (by kernel_rfl) (by kernel_rfl) (by kernel_rfl) (fun _ _ _ h => h) (Or.inl ⟨by rfl, ?_⟩) hSss1 ?_
  rotate_left
  · intro w hSw; obtain ⟨e0, e1, e2, e3, -⟩ := hSw; go_simp; try with_reducible rfl
  simp only [Act.put, List.setIfInBounds_toArray, List.set_cons_zero, List.set_cons_succ, List.getElem_toArray, List.getElem_cons_succ, List.getElem_cons_zero]
  refine wpAnyT_one (i := 5) (by kernel_rfl) rfl (by rfl) ?_
  have hlk := MapG.look2 ((H.out.below (hB_0_s1.trans ((hB_s1_s1).mono (hB_0_s1).size))).mp) Try.underlying91 ⟨k1, k2, k3⟩ HK.out
  change Sem.run Try.prog (Instr.lookup 91 (.map (some m)) (.agg #[.string k1, .int .i64 k2, .int .i64 k3]) true) s1 = _ at hlk
  refine wp_value (v := .tuple #[.string ((f ⟨k1, k2, k3⟩).getD ⟨#[]⟩), .bool (f ⟨k1, k2, k3⟩).isSome]) (w' := s1) (by go_simp; rfl) ?_
  clear hlk
  refine ⟨fun _ h => h, ?_⟩
  try simp only [Act.put, List.setIfInBounds_toArray, List.set_cons_zero, List.set_cons_succ, List.getElem_toArray, List.getElem_cons_succ, List.getElem_cons_zero]
  refine wpAnyT_pure (i := 6) (v := ?_) rfl (by kernel_rfl) (by kernel_rfl) (by kernel_rfl) (fun _ _ _ h => h) (by rfl) ?_ ?_
  rotate_left
  · intro w; go_simp; try with_reducible rfl
  simp only [Act.put, List.setIfInBounds_toArray, List.set_cons_zero, List.set_cons_succ, List.getElem_toArray, List.getElem_cons_succ, List.getElem_cons_zero]
  refine wpAnyT_pure (i := 7) (v := ?_) rfl (by kernel_rfl) (by kernel_rfl) (by kernel_rfl) (fun _ _ _ h => h) (by rfl) ?_ ?_
  rotate_left
  · intro w; go_simp; try with_reducible rfl
  simp only [Act.put, List.setIfInBounds_toArray, List.set_cons_zero, List.set_cons_succ, List.getElem_toArray, List.getElem_cons_succ, List.getElem_cons_zero]
  refine wpAnyT_pure (i := 8) (v := ?_) rfl (by kernel_rfl) (by kernel_rfl) (by kernel_rfl) (fun _ _ _ h => h) (by rfl) ?_ ?_
  rotate_left
  · intro w; go_simp; try with_reducible rfl
  simp only [Act.put, List.setIfInBounds_toArray, List.set_cons_zero, List.set_cons_succ, List.getElem_toArray, List.getElem_cons_succ, List.getElem_cons_zero]
  refine wpAnyT_pure (i := 9) (v := ?_) rfl (by kernel_rfl) (by kernel_rfl) (by kernel_rfl) (fun _ _ _ h => h) (by rfl) ?_ ?_
  rotate_left
  · intro w; go_simp; try with_reducible rfl
  simp only [Act.put, List.setIfInBounds_toArray, List.set_cons_zero, List.set_cons_succ, List.getElem_toArray, List.getElem_cons_succ, List.getElem_cons_zero]
  refine wpAnyT_pure (i := 10) (v := ?_) rfl (by kernel_rfl) (by kernel_rfl) (by kernel_rfl) (fun _ _ _ h => h) (by rfl) ?_ ?_
  rotate_left
  · intro w; go_simp; try with_reducible rfl
  simp only [Act.put, List.setIfInBounds_toArray, List.set_cons_zero, List.set_cons_succ, List.getElem_toArray, List.getElem_cons_succ, List.getElem_cons_zero]
  refine wpAnyT_done (by kernel_rfl) ?_ _
  have hbP : Below w1.heap.size w1 s1 := hB_0_s1.trans ((hB_s1_s1).mono (hB_0_s1).size)
  go_wp2_with fail
  refine bodyPost_ret (results_tmp2 rfl _ _ _) rfl ?_
  exact ⟨rfl, below_step HB.out hbP⟩
/-- The keys of a period. -/
def allK (ts : List Tk) (ne : Nat) (per : Int) : List Ky := ts.flatMap fun t => keysL ne t per
theorem keysL_len (ne : Nat) (t : Tk) (per : Int) : (keysL ne t per).length ≤ ne + 1 := by
  unfold keysL
  split
  · simp
  · simp
theorem flat_len {ts : List Tk} (ne : Nat) (per : Int) : (ts.flatMap fun t => keysL ne t per).length ≤ ts.length * (ne + 1) := by
  induction ts with
  | nil => simp
  | cons t l ih =>
    rw [List.flatMap_cons, List.length_append, List.length_cons, Nat.add_mul, Nat.one_mul]
    have := keysL_len ne t per
    omega
set_option maxRecDepth 20000 in
set_option maxHeartbeats 1000000 in
theorem all53 {S : Nat → Prop} (w : World) (p : Nat) (ts : List Tk) (ne np m : Nat) (h : WfT S w p ts ne np m) (hne : ne ≤ 1000) (hts : ts.length ≤ 1000) (per : Int) (hp : (Lit.int .i64 per).wf = true) (h0 : 0 ≤ per) (h1 : per < np) :
    Calls Try.prog 49 #[.pointer (some ⟨p, 0, none⟩), .int .i64 per] w fun e w' => ∃ v, e = .returned v ∧ Owns keyT 53 w.heap.size (fun _ => False) w' v ((allK ts ne per).map Ky.d) ∧ Below w.heap.size w w' := by
  obtain ⟨a, len, cap, xs, hrow, hx, hxs⟩ := h.row
  obtain ⟨hl, hlc, hm, -⟩ := hx.sl_flat
  have y0 := blk_cell hrow 0
  have y2 := blk_cell hrow 2
  simp at y0 y2
  have HW := Lib.hid h
  have HX := Lib.hid hx
  have HL := Lib.hid hl
  have HXS := Lib.hid hxs
  have HTS := Lib.hid hts
  have HPW := Lib.hid hp
  have HNE := Lib.hid hne
  have HLEN := Lib.hid (show ∀ k, ((xs.take k).map tk).length = min k len from fun k => by rw [List.length_map, List.length_take, hl])
  have hlen1 : len ≤ 1000 := by rw [← hl, ← List.length_map (f := tk), hxs]; exact hts
  have HLL := Lib.hid hlen1
  have h0' : ¬ per < 0 := by omega
  have h1' : ¬ (np : Int) ≤ per := by omega
  clear h hx hl hxs hts hrow hp hne h0
  go_enter Try.func49, Try.ntmps49
  go_wp2_with fail
  go_loopw [5, 7, 27] (fun v _ i wr => ∃ k : Nat, k ≤ len ∧ i = .int .i64 k ∧ Owns keyT 53 w.heap.size (fun _ => False) wr v ((allK ((xs.take k).map tk) ne per).map Ky.d) ∧ Below w.heap.size w wr) (fun _ _ i _ => len - (intOf i).toNat)
  case atStart => exact ⟨0, Nat.zero_le _, rfl, Owns.nil _ _ _ _, Below.refl _ _⟩
  case round =>
    obtain ⟨k, hk, rfl, hO, hB⟩ := hrel
    obtain ⟨oa, ol, oc, rfl, -⟩ := hO.slice
    have HO := Lib.hid hO
    have HB := Lib.hid hB
    by_cases hlt : k < len
    · have hkI : (k : Int) < (len : Int) := by omega
      have hkx : k < xs.length := by rw [HL.out]; exact hlt
      obtain ⟨b, o, na, nl, nc, rfl, -, m0, m1, m2, m3, -, hnm⟩ := task_at (HX.out.below hB HW.out.hS) k hkx
      have hsucc : allK ((xs.take (k + 1)).map tk) ne per = allK ((xs.take k).map tk) ne per ++ keysL ne (tk xs[k]) per := by
        unfold allK
        rw [List.take_succ_eq_append_getElem hkx, List.map_append, List.flatMap_append]
        simp
      have hl1 : (allK ((xs.take k).map tk) ne per).length ≤ k * (ne + 1) := by
        have := flat_len (ts := (xs.take k).map tk) ne per
        rw [HLEN.out, Nat.min_eq_left (by omega)] at this
        exact this
      have HSU := Lib.hid hsucc
      have HL1 := Lib.hid hl1
      have HLT := Lib.hid hlt
      generalize tk xs[k] = t at m0 m2 m3 hnm HSU
      have HNM := Lib.hid hnm
      obtain ⟨tnm, tnd, tg, ta⟩ := t
      simp only at m0 m2 m3 HNM
      have hrz := heap_alloc_new wr (.cells #[.string ⟨#[]⟩, .slice none 0 0, .bool false, .bool false] 38)
      have hBz := (Below.refl wr.heap.size wr).alloc (Nat.le_refl _) (.cells #[.string ⟨#[]⟩, .slice none 0 0, .bool false, .bool false] 38)
      have HRZ := Lib.hid hrz
      have hrow := setRow_heap _ _ _ #[.string tnm, .slice na nl nc, .bool tg, .bool ta] _ _ hrz
      have hBs := below_setRow (n := wr.heap.size) hBz (Nat.le_refl _) #[.string tnm, .slice na nl nc, .bool tg, .bool ta]
      have x0 := blk_cell hrow 0
      have x1 := blk_cell hrow 1
      have x2 := blk_cell hrow 2
      have x3 := blk_cell hrow 3
      simp at x0 x1 x2 x3
      clear hsucc hl1 hlt hnm hrz hkx hO hB hrow
      have HBS := Lib.hid hBs
      clear hBs hBz
      go_wp2_with (refine wpList_store_row rfl _ _ _ rfl (wr.heap.size) #[.string tnm, .slice na nl nc, .bool tg, .bool ta] rfl rfl 38 _ HRZ.out (by kernel_rfl) (by rfl) (by simp [Value.oneCell']) ?_)
      have hBs := HBS.out
      generalize hw3 : World.setRow (wr.alloc _) _ _ = w3 at hBs x0 x1 x2 x3 ⊢
      clear hw3 HBS
      have HB3 := Lib.hid (below_step HB.out hBs)
      have HO3 := Lib.hid (HO.out.below hBs)
      have HW3 := Lib.hid (HW.out.below (below_step HB.out hBs))
      clear hBs m0 m1 m2 m3 x0 x1 x2 x3
      refine (keys53 w3 p ts ne np m HW3.out HNE.out ⟨tnm, tnd, tg, ta⟩ na nl nc HNM.out per HPW.out).mono ?_
      rintro e w5 ⟨kv, rfl, hO5, hB5⟩
      obtain ⟨ka, kl, kc, rfl, -⟩ := hO5.slice
      obtain ⟨news, hs5, hr5⟩ := (hO5.rd (fun b => b < w5.heap.size) (fun _ h => h.elim) (fun b hb => (hO5.own b hb).2)).src
      have HSRC := Lib.hid hs5
      have HRDL := Lib.hid (hr5.flat keyT_flat (S' := fun _ => False) (w' := w5))
      have HO5 := Lib.hid (HO3.out.below hB5)
      have HB5 := Lib.hid (below_step HB3.out hB5)
      have HKL := Lib.hid (keysL_len ne ⟨tnm, tnd, tg, ta⟩ per)
      have HBD := Lib.hid (show k * (ne + 1) + (ne + 1) ≤ 2000000 from by
        have h1 := HNE.out
        have h2 := HLL.out
        have h3 := HLT.out
        have := Nat.mul_le_mul (show k ≤ 1000 by omega) (show ne + 1 ≤ 1001 by omega)
        omega)
      clear hO5 hs5 hr5 hB5
      go_wp2_with (at_builtin; go_must (refine wpList_app _ rfl _ _ 49 rfl (e := keyT) (te := 53) info_key Try.underlying49 rfl (by decide) (base := w.heap.size) (S := fun _ => False) (v := .slice oa ol oc) (xs := (allK ((xs.take k).map tk) ne per).map Ky.d) rfl HO5.out HB5.out.size rfl (ys := (keysL ne ⟨tnm, tnd, tg, ta⟩ per).map Ky.d) HSRC.out HRDL.out (by have h1 := HL1.out; have h2 := HKL.out; have h3 := HBD.out; rw [List.length_map, List.length_map]; omega) (by have h1 := HL1.out; have h2 := HKL.out; have h3 := HBD.out; rw [List.length_map, List.length_map]; omega) ?_; intro v' w6 O6 g6 _ ob6; have HO6 := Lib.hid O6; have HG6 := Lib.hid g6; clear O6 g6 ob6))
      go_roundw
      case rel => exact ⟨k + 1, HLT.out, by go_num, by rw [HSU.out, List.map_append]; exact HO6.out, HB5.out.grown HG6.out HB5.out.size (fun c hc => (HO5.out.own c hc).1)⟩
      case measure => simp [intOf]; try omega
    · obtain rfl : len = k := by omega
      have hall : xs.take len = xs := List.take_of_length_le (by rw [HL.out]; exact Nat.le_refl _)
      rw [hall, HXS.out] at HO
      clear hO hB hall
      go_wp2_with fail
      go_ret
      exact ⟨_, rfl, HO.out, HB.out⟩
end Go.Proofs.Ytdcjocldggmdbaa
