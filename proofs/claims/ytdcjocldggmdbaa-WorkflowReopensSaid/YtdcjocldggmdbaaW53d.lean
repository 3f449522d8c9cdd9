/- Layer 53: the keys of a task; the order of keys. -/
import Derived.Test.YtdcjocldggmdbaaW53c
set_option linter.unusedSimpArgs false
namespace Go.Proofs.Ytdcjocldggmdbaa
open Go.RowKit Go

theorem info_key : (Try.prog.info? 53).map (fun i => (i.zero, i.size, i.bytes)) = some (some (.agg #[.string ⟨#[]⟩, .int .i64 0, .int .i64 0]), keyT.sz, 32) := by kernel_rfl
theorem key_rd {S : Nat → Prop} {w : World} {k : Ky} (h : k.ok) : Rd keyT S w [.string k.task, .int .i64 k.ent, .int .i64 k.per] k.d :=
  ⟨[_], _, rfl, ⟨rfl, h.1⟩, [_], _, rfl, ⟨rfl, h.2.1⟩, [_], _, rfl, ⟨rfl, h.2.2⟩, rfl⟩
theorem keyT_flat : keyT.flat = true := rfl
theorem wf_small {n : Int} (h1 : -1 ≤ n) (h2 : n ≤ 1000000) : (Lit.int .i64 n).wf = true := by
  simp [Lit.wf, IntKind.min, IntKind.max, IntKind.signed, IntKind.bits]
  omega
set_option maxRecDepth 20000 in
set_option maxHeartbeats 1000000 in
theorem keys53 {S : Nat → Prop} (w : World) (p : Nat) (ts : List Tk) (ne np m : Nat) (h : WfT S w p ts ne np m) (hne : ne ≤ 1000) (t : Tk) (na : Option Addr) (nl nc : Nat) (ht : t.name.size ≤ maxLen) (per : Int) (hp : (Lit.int .i64 per).wf = true) :
    Calls Try.prog 56 #[.pointer (some ⟨p, 0, none⟩), .agg #[.string t.name, .slice na nl nc, .bool t.grp, .bool t.aft], .int .i64 per] w fun e w' => ∃ v, e = .returned v ∧ Owns keyT 53 w.heap.size (fun _ => False) w' v ((keysL ne t per).map Ky.d) ∧ Below w.heap.size w w' := by
  obtain ⟨nm, nd, g, f⟩ := t
  simp only at ht
  have hB : Below w.heap.size w (w.alloc (.cells #[.string nm, .slice na nl nc, .bool g, .bool f] 38)) := (Below.refl _ w).alloc (Nat.le_refl _) _
  have hcb := heap_alloc_new w (.cells #[.string nm, .slice na nl nc, .bool g, .bool f] 38)
  have h' := h.below hB
  obtain ⟨a, len, cap, xs, h1, -, -⟩ := h'.row
  have y1 := blk_cell h1 1
  simp at y1
  have HT := Lib.hid (show (∀ e : Int, (Lit.int .i64 e).wf = true → Ky.ok ⟨nm, e, per⟩) from fun e he => ⟨ht, he, hp⟩)
  have HB := Lib.hid hB
  have HCB := Lib.hid hcb
  clear h h' hB hcb h1 ht hp
  go_enter Try.func56, Try.ntmps56
  cases g
  · go_wp2_with fail
    generalize hw1 : w.alloc (.cells #[.string nm, .slice na nl nc, .bool false, .bool f] 38) = w1 at *
    clear hw1
    go_loopw [7, 8, 20] (fun v _ i wr => ∃ k : Nat, k ≤ ne ∧ i = .int .i64 k ∧ Owns keyT 53 (w.heap.size + 1) (fun _ => False) wr v (((List.range k).map fun e => (⟨nm, (e : Nat), per⟩ : Ky)).map Ky.d) ∧ Below w.heap.size w wr ∧ wr.heap[w.heap.size]? = w1.heap[w.heap.size]?) (fun _ _ i _ => ne - (intOf i).toNat)
    case atStart => exact ⟨0, Nat.zero_le _, rfl, Owns.nil _ _ _ _, HB.out, rfl⟩
    case round =>
      obtain ⟨k, hk, rfl, hO, hBr, hcr⟩ := hrel
      obtain ⟨oa, ol, oc, rfl, hol, -⟩ := hO.slice
      have HO := Lib.hid hO
      have HBr := Lib.hid hBr
      have hr := hcr.trans HCB.out
      have HCR := Lib.hid hcr
      have HSZ := Lib.hid (Nat.lt_of_lt_of_le (blk_lt hr) (Nat.le_refl _))
      have HR := Lib.hid hr
      have k0 := blk_cell hr 0
      simp at k0
      clear hO hBr hcr hr hol
      by_cases hlt : k < ne
      · have hkI : (k : Int) < (ne : Int) := by omega
        have HLT := Lib.hid hlt
        have hsucc : ((List.range (k + 1)).map fun e => (⟨nm, (e : Nat), per⟩ : Ky)).map Ky.d = ((List.range k).map fun e => (⟨nm, (e : Nat), per⟩ : Ky)).map Ky.d ++ [Ky.d ⟨nm, (k : Nat), per⟩] := by rw [List.range_succ, List.map_append, List.map_append]; rfl
        have HSU := Lib.hid hsucc
        have hlen : (((List.range k).map fun e => (⟨nm, (e : Nat), per⟩ : Ky)).map Ky.d).length = k := by rw [List.length_map, List.length_map, List.length_range]
        have HLN := Lib.hid hlen
        have hok := HT.out (k : Nat) (wf_small (by omega) (by omega))
        have HOK := Lib.hid hok
        clear hsucc hlen hok hlt
        go_wp2_with (at_builtin; go_must (refine wpList_app _ rfl _ _ 49 rfl (e := keyT) (te := 53) info_key Try.underlying49 rfl (by decide) (base := w.heap.size + 1) (S := fun _ => False) (v := .slice oa ol oc) (xs := ((List.range k).map fun e => (⟨nm, (e : Nat), per⟩ : Ky)).map Ky.d) rfl (HO.out.alloc _) (by have := HSZ.out; simp only [World.size_alloc]; omega) rfl (ys := [Ky.d ⟨nm, (k : Nat), per⟩]) (Src.new _ [_, _, _] _ _ _) (RdL.one (e := keyT) (key_rd HOK.out)) (by have := HLT.out; rw [HLN.out]; simp only [List.length_singleton]; omega) (by have := HLT.out; rw [HLN.out]; simp only [List.length_singleton]; omega) ?_; intro v' w2 O2 g2 _ ob2; have HO2 := Lib.hid O2; have HG2 := Lib.hid g2; clear O2 g2 ob2))
        have hB2 := (HBr.out.alloc HBr.out.size _).grown HG2.out (by have := HBr.out.size; simp only [World.size_alloc]; omega) (fun c hc => Nat.le_of_succ_le (HO.out.own c hc).1)
        have hcb2 : w2.heap[w.heap.size]? = w1.heap[w.heap.size]? := by
          have h1 := (Gr.of_grown HG2.out).block w.heap.size (by have := HSZ.out; simp only [World.size_alloc]; omega) (fun e => by have := (HO.out.own _ e).1; omega)
          exact h1.trans ((((Below.refl _ wr).alloc (Nat.le_refl _) _).block w.heap.size HSZ.out).trans HCR.out)
        go_roundw
        case rel => exact ⟨k + 1, HLT.out, by go_num, by rw [HSU.out]; exact HO2.out, hB2, hcb2⟩
        case measure => simp [intOf]; try omega
      · obtain rfl : ne = k := by omega
        go_wp2_with fail
        go_ret
        exact ⟨_, rfl, HO.out.base (Nat.le_succ _), HBr.out⟩
  · go_wp2_with fail
    go_ret
    have hl := Owns.lit (e := keyT) (te := 53) (base := w.heap.size) (S := fun _ => False) (w.alloc (.cells #[.string nm, .slice na nl nc, .bool true, .bool f] 38)) (vs := [.string nm, .int .i64 (-1), .int .i64 per]) (xs := [Ky.d ⟨nm, -1, per⟩]) (RdL.one (e := keyT) (key_rd (k := ⟨nm, -1, per⟩) (HT.out (-1) (by decide)))) HB.out.size (fun _ h => h.elim) (by simp)
    simp only [World.size_alloc] at hl
    refine ⟨_, rfl, ?_, HB.out.alloc HB.out.size _⟩
    exact hl
set_option maxRecDepth 20000 in
set_option maxHeartbeats 1000000 in
theorem compare53 {S : Nat → Prop} (w : World) (p : Nat) (ts : List Tk) (ne np m : Nat) (h : WfT S w p ts ne np m) (x y : Ky) :
    Calls Try.prog 40 #[.pointer (some ⟨p, 0, none⟩), x.v, y.v] w fun e w' => e = .returned (.int .i64 (orI (cmpI x.per y.per) (cmpI (plcI ts x.task) (plcI ts y.task)) (cmpI x.ent y.ent))) ∧ Below w.heap.size w w' := by
  obtain ⟨x1, x2, x3⟩ := x
  obtain ⟨y1, y2, y3⟩ := y
  unfold Ky.v
  simp only
  have hh2 := heap_alloc2_old w (.cells #[.string x1, .int .i64 x2, .int .i64 x3] 53) (.cells #[.string y1, .int .i64 y2, .int .i64 y3] 53)
  have hr2 := heap_alloc2_new w (.cells #[.string x1, .int .i64 x2, .int .i64 x3] 53) (.cells #[.string y1, .int .i64 y2, .int .i64 y3] 53)
  have hB1 : Below w.heap.size w ((w.alloc (.cells #[.string x1, .int .i64 x2, .int .i64 x3] 53)).alloc (.cells #[.string y1, .int .i64 y2, .int .i64 y3] 53)) := ((Below.refl _ w).alloc (Nat.le_refl _) _).alloc (by simp) _
  have HB1 := Lib.hid hB1
  have HW := Lib.hid (h.below hB1)
  have hC0 : Cells [(⟨w.heap.size, 0, none⟩, .string x1), (⟨w.heap.size, 1, none⟩, .int .i64 x2), (⟨w.heap.size, 2, none⟩, .int .i64 x3), (⟨w.heap.size + 1, 0, none⟩, .string y1), (⟨w.heap.size + 1, 1, none⟩, .int .i64 y2), (⟨w.heap.size + 1, 2, none⟩, .int .i64 y3)] ((w.alloc (.cells #[.string x1, .int .i64 x2, .int .i64 x3] 53)).alloc (.cells #[.string y1, .int .i64 y2, .int .i64 y3] 53)) := ⟨blk_cell hh2 0, blk_cell hh2 1, blk_cell hh2 2, blk_cell hr2 0, blk_cell hr2 1, blk_cell hr2 2, trivial⟩
  clear h hh2 hr2 hB1
  go_enter Try.func40, Try.ntmps40
  go_wp2_with fail
  generalize (w.alloc (.cells #[.string x1, .int .i64 x2, .int .i64 x3] 53)).alloc (.cells #[.string y1, .int .i64 y2, .int .i64 y3] 53) = w1 at *
  refine wp_region_T (Cells [(⟨w.heap.size, 0, none⟩, .string x1), (⟨w.heap.size, 1, none⟩, .int .i64 x2), (⟨w.heap.size, 2, none⟩, .int .i64 x3), (⟨w.heap.size + 1, 0, none⟩, .string y1), (⟨w.heap.size + 1, 1, none⟩, .int .i64 y2), (⟨w.heap.size + 1, 2, none⟩, .int .i64 y3)]) (fun _ => false) (by kernel_rfl) ?_
  have hSss1 := Cells.drew hC0
  have hB_0_s1 : Below w1.heap.size w1 w1.drew := below_drew _
  generalize w1.drew = s1 at hSss1 hB_0_s1 ⊢
  have hB_s1_s1 := Below.refl s1.heap.size s1
  refine wpAnyT_pure (i := 0) (v := ?_) rfl (by kernel_rfl) (by kernel_rfl) (by kernel_rfl) (fun _ _ _ h => h) (by rfl) ?_ ?_
  rotate_left
  · intro w; go_simp; try with_reducible rfl
  simp only [Act.put, List.setIfInBounds_toArray, List.set_cons_zero, List.set_cons_succ, List.getElem_toArray, List.getElem_cons_succ, List.getElem_cons_zero]
  refine wpAnyT_pure (i := 2) (v := ?_) rfl (by kernel_rfl) (by kernel_rfl) (by kernel_rfl) (fun _ _ _ h => h) (by rfl) ?_ ?_
  rotate_left
  · intro w; go_simp; try with_reducible rfl
  simp only [Act.put, List.setIfInBounds_toArray, List.set_cons_zero, List.set_cons_succ, List.getElem_toArray, List.getElem_cons_succ, List.getElem_cons_zero]
  refine wpAnyT_pure (i := 5) (v := ?_) rfl (by kernel_rfl) (by kernel_rfl) (by kernel_rfl) (fun _ _ _ h => h) (by rfl) ?_ ?_
  rotate_left
  · intro w; go_simp; try with_reducible rfl
  simp only [Act.put, List.setIfInBounds_toArray, List.set_cons_zero, List.set_cons_succ, List.getElem_toArray, List.getElem_cons_succ, List.getElem_cons_zero]
  refine wpAnyT_pure (i := 6) (v := ?_) rfl (by kernel_rfl) (by kernel_rfl) (by kernel_rfl) (fun _ _ _ h => h) (by rfl) ?_ ?_
  rotate_left
  · intro w; go_simp; try with_reducible rfl
  simp only [Act.put, List.setIfInBounds_toArray, List.set_cons_zero, List.set_cons_succ, List.getElem_toArray, List.getElem_cons_succ, List.getElem_cons_zero]
  refine wpAnyT_pure (i := 9) (v := ?_) rfl (by kernel_rfl) (by kernel_rfl) (by kernel_rfl) (fun _ _ _ h => h) (by rfl) ?_ ?_
  rotate_left
  · intro w; go_simp; try with_reducible rfl
  simp only [Act.put, List.setIfInBounds_toArray, List.set_cons_zero, List.set_cons_succ, List.getElem_toArray, List.getElem_cons_succ, List.getElem_cons_zero]
  refine wpAnyT_pure (i := 10) (v := ?_) rfl (by kernel_rfl) (by kernel_rfl) (by kernel_rfl) (fun _ _ _ h => h) (by rfl) ?_ ?_
  rotate_left
  · intro w; go_simp; try with_reducible rfl
  simp only [Act.put, List.setIfInBounds_toArray, List.set_cons_zero, List.set_cons_succ, List.getElem_toArray, List.getElem_cons_succ, List.getElem_cons_zero]
  refine wpAnyT_pure (i := 14) (v := ?_) rfl (by kernel_rfl) (by kernel_rfl) (by kernel_rfl) (fun _ _ _ h => h) (by rfl) ?_ ?_
  rotate_left
  · intro w; go_simp; try with_reducible rfl
  simp only [Act.put, List.setIfInBounds_toArray, List.set_cons_zero, List.set_cons_succ, List.getElem_toArray, List.getElem_cons_succ, List.getElem_cons_zero]
  refine wpAnyT_pure (i := 16) (v := ?_) rfl (by kernel_rfl) (by kernel_rfl) (by kernel_rfl) (fun _ _ _ h => h) (by rfl) ?_ ?_
  rotate_left
  · intro w; go_simp; try with_reducible rfl
  simp only [Act.put, List.setIfInBounds_toArray, List.set_cons_zero, List.set_cons_succ, List.getElem_toArray, List.getElem_cons_succ, List.getElem_cons_zero]
  refine wpAnyT_loadW (i := 1) (v := ?_) rfl (by kernel_rfl) (by kernel_rfl) (by kernel_rfl) (by kernel_rfl) (by kernel_rfl) (fun _ _ _ h => h) (Or.inl ⟨by rfl, ?_⟩) hSss1 ?_
  rotate_left
  · intro w hSw; obtain ⟨e0, e1, e2, e3, e4, e5, -⟩ := hSw; go_simp; try with_reducible rfl
  simp only [Act.put, List.setIfInBounds_toArray, List.set_cons_zero, List.set_cons_succ, List.getElem_toArray, List.getElem_cons_succ, List.getElem_cons_zero]
  refine wpAnyT_loadW (i := 3) (v := ?_) rfl (by kernel_rfl) (by kernel_rfl) (by kernel_rfl) (by kernel_rfl) (by kernel_rfl) (fun _ _ _ h => h) (Or.inl ⟨by rfl, ?_⟩) hSss1 ?_
  rotate_left
  · intro w hSw; obtain ⟨e0, e1, e2, e3, e4, e5, -⟩ := hSw; go_simp; try with_reducible rfl
  simp only [Act.put, List.setIfInBounds_toArray, List.set_cons_zero, List.set_cons_succ, List.getElem_toArray, List.getElem_cons_succ, List.getElem_cons_zero]
  refine wpAnyT_loadW (i := 7) (v := ?_) rfl (by kernel_rfl) (by kernel_rfl) (by kernel_rfl) (by kernel_rfl) (by kernel_rfl) (fun _ _ _ h => h) (Or.inl ⟨by rfl, ?_⟩) hSss1 ?_
  rotate_left
  · intro w hSw; obtain ⟨e0, e1, e2, e3, e4, e5, -⟩ := hSw; go_simp; try with_reducible rfl
  simp only [Act.put, List.setIfInBounds_toArray, List.set_cons_zero, List.set_cons_succ, List.getElem_toArray, List.getElem_cons_succ, List.getElem_cons_zero]
  refine wpAnyT_loadW (i := 11) (v := ?_) rfl (by kernel_rfl) (by kernel_rfl) (by kernel_rfl) (by kernel_rfl) (by kernel_rfl) (fun _ _ _ h => h) (Or.inl ⟨by rfl, ?_⟩) hSss1 ?_
  rotate_left
  · intro w hSw; obtain ⟨e0, e1, e2, e3, e4, e5, -⟩ := hSw; go_simp; try with_reducible rfl
  simp only [Act.put, List.setIfInBounds_toArray, List.set_cons_zero, List.set_cons_succ, List.getElem_toArray, List.getElem_cons_succ, List.getElem_cons_zero]
  refine wpAnyT_loadW (i := 15) (v := ?_) rfl (by kernel_rfl) (by kernel_rfl) (by kernel_rfl) (by kernel_rfl) (by kernel_rfl) (fun _ _ _ h => h) (Or.inl ⟨by rfl, ?_⟩) hSss1 ?_
  rotate_left
  · intro w hSw; obtain ⟨e0, e1, e2, e3, e4, e5, -⟩ := hSw; go_simp; try with_reducible rfl
  simp only [Act.put, List.setIfInBounds_toArray, List.set_cons_zero, List.set_cons_succ, List.getElem_toArray, List.getElem_cons_succ, List.getElem_cons_zero]
  refine wpAnyT_loadW (i := 17) (v := ?_) rfl (by kernel_rfl) (by kernel_rfl) (by kernel_rfl) (by kernel_rfl) (by kernel_rfl) (fun _ _ _ h => h) (Or.inl ⟨by rfl, ?_⟩) hSss1 ?_
  rotate_left
  · intro w hSw; obtain ⟨e0, e1, e2, e3, e4, e5, -⟩ := hSw; go_simp; try with_reducible rfl
  simp only [Act.put, List.setIfInBounds_toArray, List.set_cons_zero, List.set_cons_succ, List.getElem_toArray, List.getElem_cons_succ, List.getElem_cons_zero]
  refine wpAnyT_one (i := 4) (by kernel_rfl) rfl (by rfl) ?_
  refine wp_enter (f := 61) (args := #[.int .i64 x3, .int .i64 y3]) (by go_simp) (compareB s1 x3 y3) ?_
  rintro e w102 ⟨rfl, hX⟩
  have hB_s1_w102 := below_step hB_s1_s1 hX
  have hB_w102_w102 := Below.refl w102.heap.size w102
  have hSsw102 := Cells.below hB_s1_w102 hSss1
  clear hX
  refine ⟨_, rfl, fun _ _ => hSsw102, ?_⟩
  try simp only [Act.put, List.setIfInBounds_toArray, List.set_cons_zero, List.set_cons_succ, List.getElem_toArray, List.getElem_cons_succ, List.getElem_cons_zero]
  refine wpAnyT_one (i := 8) (by kernel_rfl) rfl (by rfl) ?_
  refine wp_enter (f := 54) (args := #[.pointer (some ⟨p, 0, none⟩), .string x1]) (by go_simp) (place53 w102 p ts ne np m (HW.out.below (hB_0_s1.trans ((hB_s1_w102).mono (hB_0_s1).size))) x1) ?_
  rintro e w103 ⟨rfl, hX⟩
  have hB_s1_w103 := below_step hB_s1_w102 hX
  have hB_w102_w103 := below_step hB_w102_w102 hX
  have hB_w103_w103 := Below.refl w103.heap.size w103
  have hSsw103 := Cells.below hB_s1_w103 hSss1
  clear hX
  refine ⟨_, rfl, fun _ _ => hSsw103, ?_⟩
  try simp only [Act.put, List.setIfInBounds_toArray, List.set_cons_zero, List.set_cons_succ, List.getElem_toArray, List.getElem_cons_succ, List.getElem_cons_zero]
  refine wpAnyT_one (i := 12) (by kernel_rfl) rfl (by rfl) ?_
  refine wp_enter (f := 54) (args := #[.pointer (some ⟨p, 0, none⟩), .string y1]) (by go_simp) (place53 w103 p ts ne np m (HW.out.below (hB_0_s1.trans ((hB_s1_w103).mono (hB_0_s1).size))) y1) ?_
  rintro e w104 ⟨rfl, hX⟩
  have hB_s1_w104 := below_step hB_s1_w103 hX
  have hB_w102_w104 := below_step hB_w102_w103 hX
  have hB_w103_w104 := below_step hB_w103_w103 hX
  have hB_w104_w104 := Below.refl w104.heap.size w104
  have hSsw104 := Cells.below hB_s1_w104 hSss1
  clear hX
  refine ⟨_, rfl, fun _ _ => hSsw104, ?_⟩
  try simp only [Act.put, List.setIfInBounds_toArray, List.set_cons_zero, List.set_cons_succ, List.getElem_toArray, List.getElem_cons_succ, List.getElem_cons_zero]
  refine wpAnyT_one (i := 13) (by kernel_rfl) rfl (by rfl) ?_
  refine wp_enter (f := 61) (args := #[.int .i64 (plcI ts x1), .int .i64 (plcI ts y1)]) (by go_simp) (compareB w104 (plcI ts x1) (plcI ts y1)) ?_
  rintro e w105 ⟨rfl, hX⟩
  have hB_s1_w105 := below_step hB_s1_w104 hX
  have hB_w102_w105 := below_step hB_w102_w104 hX
  have hB_w103_w105 := below_step hB_w103_w104 hX
  have hB_w104_w105 := below_step hB_w104_w104 hX
  have hB_w105_w105 := Below.refl w105.heap.size w105
  have hSsw105 := Cells.below hB_s1_w105 hSss1
  clear hX
  refine ⟨_, rfl, fun _ _ => hSsw105, ?_⟩
  try simp only [Act.put, List.setIfInBounds_toArray, List.set_cons_zero, List.set_cons_succ, List.getElem_toArray, List.getElem_cons_succ, List.getElem_cons_zero]
  refine wpAnyT_one (i := 18) (by kernel_rfl) rfl (by rfl) ?_
  refine wp_enter (f := 61) (args := #[.int .i64 x2, .int .i64 y2]) (by go_simp) (compareB w105 x2 y2) ?_
  rintro e w106 ⟨rfl, hX⟩
  have hB_s1_w106 := below_step hB_s1_w105 hX
  have hB_w102_w106 := below_step hB_w102_w105 hX
  have hB_w103_w106 := below_step hB_w103_w105 hX
  have hB_w104_w106 := below_step hB_w104_w105 hX
  have hB_w105_w106 := below_step hB_w105_w105 hX
  have hB_w106_w106 := Below.refl w106.heap.size w106
  have hSsw106 := Cells.below hB_s1_w106 hSss1
  clear hX
  refine ⟨_, rfl, fun _ _ => hSsw106, ?_⟩
  try simp only [Act.put, List.setIfInBounds_toArray, List.set_cons_zero, List.set_cons_succ, List.getElem_toArray, List.getElem_cons_succ, List.getElem_cons_zero]
  refine wpAnyT_one (i := 19) (by kernel_rfl) rfl (by rfl) ?_
  obtain ⟨b20, hb20⟩ : ∃ b, (w106).heap.size = b := ⟨_, rfl⟩
  refine wp_newrow (v := .slice (some ⟨b20, 0, none⟩) 3 3) (cs := #[.int .i64 (cmpI x3 y3), .int .i64 (cmpI (plcI ts x1) (plcI ts y1)), .int .i64 (cmpI x2 y2)]) (te := 3) (by rw [← hb20]; go_simp) ?_
  intro w107 hX hN20
  rw [hb20] at hN20
  have hB_s1_w107 := below_step hB_s1_w106 hX
  have hB_w102_w107 := below_step hB_w102_w106 hX
  have hB_w103_w107 := below_step hB_w103_w106 hX
  have hB_w104_w107 := below_step hB_w104_w106 hX
  have hB_w105_w107 := below_step hB_w105_w106 hX
  have hB_w106_w107 := below_step hB_w106_w106 hX
  have hB_w107_w107 := Below.refl w107.heap.size w107
  have hSsw107 := Cells.below hB_s1_w107 hSss1
  clear hX
  refine ⟨fun _ _ => hSsw107, ?_⟩
  try simp only [Act.put, List.setIfInBounds_toArray, List.set_cons_zero, List.set_cons_succ, List.getElem_toArray, List.getElem_cons_succ, List.getElem_cons_zero]
  refine wpAnyT_one (i := 20) (by kernel_rfl) rfl (by rfl) ?_
  have hq20 : (w107).heap[b20]? = some (.cells #[.int .i64 (cmpI x3 y3), .int .i64 (cmpI (plcI ts x1) (plcI ts y1)), .int .i64 (cmpI x2 y2)] 3 (0, 0)) := by first | exact hN20 | exact ((hB_w107_w107).block _ (blk_lt hN20)).trans hN20
  refine wp_enter (f := 60) (args := #[.slice (some ⟨b20, 0, none⟩) 3 3]) (by go_simp) (orB w107 b20 3 _ _ _ (blk_cell hq20 0) (blk_cell hq20 1) (blk_cell hq20 2)) ?_
  rintro e w108 ⟨rfl, hX⟩
  have hB_s1_w108 := below_step hB_s1_w107 hX
  have hB_w102_w108 := below_step hB_w102_w107 hX
  have hB_w103_w108 := below_step hB_w103_w107 hX
  have hB_w104_w108 := below_step hB_w104_w107 hX
  have hB_w105_w108 := below_step hB_w105_w107 hX
  have hB_w106_w108 := below_step hB_w106_w107 hX
  have hB_w107_w108 := below_step hB_w107_w107 hX
  have hB_w108_w108 := Below.refl w108.heap.size w108
  have hSsw108 := Cells.below hB_s1_w108 hSss1
  clear hX
  refine ⟨_, rfl, fun _ _ => hSsw108, ?_⟩
  try simp only [Act.put, List.setIfInBounds_toArray, List.set_cons_zero, List.set_cons_succ, List.getElem_toArray, List.getElem_cons_succ, List.getElem_cons_zero]
  refine wpAnyT_pure (i := 21) (v := ?_) rfl (by kernel_rfl) (by kernel_rfl) (by kernel_rfl) (fun _ _ _ h => h) (by rfl) ?_ ?_
  rotate_left
  · intro w; go_simp; try with_reducible rfl
  simp only [Act.put, List.setIfInBounds_toArray, List.set_cons_zero, List.set_cons_succ, List.getElem_toArray, List.getElem_cons_succ, List.getElem_cons_zero]
  refine wpAnyT_done (by kernel_rfl) ?_ _
  have hbP : Below w1.heap.size w1 w108 := hB_0_s1.trans ((hB_s1_w108).mono (hB_0_s1).size)
  go_wp2_with fail
  go_ret
  exact ⟨rfl, below_step HB1.out hbP⟩
end Go.Proofs.Ytdcjocldggmdbaa
