/- Layer 53: the keys of a task; the order of keys. -/
import Derived.Test.YtdcjocldggmdbaaGreatW53c
import Derived.Test.YtdcjocldggmdbaaGreatRegV
import Derived.Maps.OwnSet
import Derived.Maps.Ext
import Derived.DeepKeys5
import Derived.Test.YtdcjocldggmdbaaGreatColl
import Derived.Laws.IdiomCopy
set_option linter.unusedSimpArgs false
namespace Go.Proofs.YtdcjocldggmdbaaGreat
open Go.RowKit Go

theorem info_key : (Tryz.prog.info? 48).map (fun i => (i.zero, i.size, i.bytes)) = some (some (.agg #[.string ⟨#[]⟩, .int .i64 0, .int .i64 0]), keyT.sz, 32) := by kernel_rfl
theorem key_rd {S : Nat → Prop} {w : World} {k : Ky} (h : k.ok) : Rd keyT S w [.string k.task, .int .i64 k.ent, .int .i64 k.per] k.d :=
  ⟨[_], _, rfl, ⟨rfl, h.1⟩, [_], _, rfl, ⟨rfl, h.2.1⟩, [_], _, rfl, ⟨rfl, h.2.2⟩, rfl⟩
theorem keyT_flat : keyT.flat = true := rfl
theorem wf_small {n : Int} (h1 : -1 ≤ n) (h2 : n ≤ 1000000) : (Lit.int .i64 n).wf = true := by
  simp [Lit.wf, IntKind.min, IntKind.max, IntKind.signed, IntKind.bits]
  omega
set_option maxRecDepth 20000 in
set_option maxHeartbeats 1000000 in
theorem keys53 {S : Nat → Prop} (w : World) (p : Nat) (ts : List Tk) (ne np m : Nat) (h : WfT S w p ts ne np m) (hne : ne ≤ 1000) (t : Tk) (na : Option Addr) (nl nc : Nat) (ht : t.name.size ≤ maxLen) (per : Int) (hp : (Lit.int .i64 per).wf = true) :
    Calls Tryz.prog 53 #[.pointer (some ⟨p, 0, none⟩), .agg #[.string t.name, .slice na nl nc, .bool t.grp, .bool t.aft], .int .i64 per] w fun e w' => ∃ v, e = .returned v ∧ Owns keyT 48 w.heap.size (fun _ => False) w' v ((keysL ne t per).map Ky.d) ∧ Below w.heap.size w w' := by
  obtain ⟨nm, nd, g, f⟩ := t
  simp only at ht
  have hB : Below w.heap.size w (w.alloc (.cells #[.string nm, .slice na nl nc, .bool g, .bool f] 68)) := (Below.refl _ w).alloc (Nat.le_refl _) _
  have hcb := heap_alloc_new w (.cells #[.string nm, .slice na nl nc, .bool g, .bool f] 68)
  have h' := h.below hB
  obtain ⟨a, len, cap, xs, h1, -, -⟩ := h'.row
  have y1 := blk_cell h1 1
  simp at y1
  have HT := Lib.hid (show (∀ e : Int, (Lit.int .i64 e).wf = true → Ky.ok ⟨nm, e, per⟩) from fun e he => ⟨ht, he, hp⟩)
  have HB := Lib.hid hB
  have HCB := Lib.hid hcb
  clear h h' hB hcb h1 ht hp
  go_enter Tryz.func53, Tryz.ntmps53
  cases g
  · go_wp2_with fail
    generalize hw1 : w.alloc (.cells #[.string nm, .slice na nl nc, .bool false, .bool f] 68) = w1 at *
    clear hw1
    go_loopw [7, 8, 20] (fun v _ i wr => ∃ k : Nat, k ≤ ne ∧ i = .int .i64 k ∧ Owns keyT 48 (w.heap.size + 1) (fun _ => False) wr v (((List.range k).map fun e => (⟨nm, (e : Nat), per⟩ : Ky)).map Ky.d) ∧ Below w.heap.size w wr ∧ wr.heap[w.heap.size]? = w1.heap[w.heap.size]?) (fun _ _ i _ => ne - (intOf i).toNat)
    case atStart => exact ⟨0, Nat.zero_le _, rfl, Owns.nil _ _ _ _, HB.out, rfl⟩
    case round =>
      obtain ⟨k, hk, rfl, hO, hBr, hcr⟩ := hrel
      obtain ⟨oa, ol, oc, rfl, hol, -⟩ := hO.slice
      have HO := Lib.hid hO
      have HBr := Lib.hid hBr
      have hr := hcr.trans HCB.out
      have HCR := Lib.hid hcr
      have HSZ := Lib.hid (Nat.lt_of_lt_of_le (blk_lt hr) (Nat.le_refl _))
      have HR := Lib.hid hr
      have k0 := blk_cell hr 0
      simp at k0
      clear hO hBr hcr hr hol
      by_cases hlt : k < ne
      · have hkI : (k : Int) < (ne : Int) := by omega
        have HLT := Lib.hid hlt
        have hsucc : ((List.range (k + 1)).map fun e => (⟨nm, (e : Nat), per⟩ : Ky)).map Ky.d = ((List.range k).map fun e => (⟨nm, (e : Nat), per⟩ : Ky)).map Ky.d ++ [Ky.d ⟨nm, (k : Nat), per⟩] := by rw [List.range_succ, List.map_append, List.map_append]; rfl
        have HSU := Lib.hid hsucc
        have hlen : (((List.range k).map fun e => (⟨nm, (e : Nat), per⟩ : Ky)).map Ky.d).length = k := by rw [List.length_map, List.length_map, List.length_range]
        have HLN := Lib.hid hlen
        have hok := HT.out (k : Nat) (wf_small (by omega) (by omega))
        have HOK := Lib.hid hok
        clear hsucc hlen hok hlt
        go_wp2_with (at_builtin; go_must (refine wpList_app _ rfl _ _ 46 rfl (e := keyT) (te := 48) info_key Tryz.underlying46 rfl (by decide) (base := w.heap.size + 1) (S := fun _ => False) (v := .slice oa ol oc) (xs := ((List.range k).map fun e => (⟨nm, (e : Nat), per⟩ : Ky)).map Ky.d) rfl (HO.out.alloc _) (by have := HSZ.out; simp only [World.size_alloc]; omega) rfl (ys := [Ky.d ⟨nm, (k : Nat), per⟩]) (Src.new _ [_, _, _] _ _ _) (RdL.one (e := keyT) (key_rd HOK.out)) (by have := HLT.out; rw [HLN.out]; simp only [List.length_singleton]; omega) (by have := HLT.out; rw [HLN.out]; simp only [List.length_singleton]; omega) ?_; intro v' w2 O2 g2 _ ob2; have HO2 := Lib.hid O2; have HG2 := Lib.hid g2; clear O2 g2 ob2))
        have hB2 := (HBr.out.alloc HBr.out.size _).grown HG2.out (by have := HBr.out.size; simp only [World.size_alloc]; omega) (fun c hc => Nat.le_of_succ_le (HO.out.own c hc).1)
        have hcb2 : w2.heap[w.heap.size]? = w1.heap[w.heap.size]? := by
          have h1 := (Gr.of_grown HG2.out).block w.heap.size (by have := HSZ.out; simp only [World.size_alloc]; omega) (fun e => by have := (HO.out.own _ e).1; omega)
          exact h1.trans ((((Below.refl _ wr).alloc (Nat.le_refl _) _).block w.heap.size HSZ.out).trans HCR.out)
        go_roundw
        case rel => exact ⟨k + 1, HLT.out, by go_num, by rw [HSU.out]; exact HO2.out, hB2, hcb2⟩
        case measure => simp [intOf]; try omega
      · obtain rfl : ne = k := by omega
        go_wp2_with fail
        go_ret
        exact ⟨_, rfl, HO.out.base (Nat.le_succ _), HBr.out⟩
  · go_wp2_with fail
    go_ret
    have hl := Owns.lit (e := keyT) (te := 48) (base := w.heap.size) (S := fun _ => False) (w.alloc (.cells #[.string nm, .slice na nl nc, .bool true, .bool f] 68)) (vs := [.string nm, .int .i64 (-1), .int .i64 per]) (xs := [Ky.d ⟨nm, -1, per⟩]) (RdL.one (e := keyT) (key_rd (k := ⟨nm, -1, per⟩) (HT.out (-1) (by decide)))) HB.out.size (fun _ h => h.elim) (by simp)
    simp only [World.size_alloc] at hl
    refine ⟨_, rfl, ?_, HB.out.alloc HB.out.size _⟩
    exact hl
set_option maxRecDepth 20000 in
set_option maxHeartbeats 1000000 in
theorem compare53 {S : Nat → Prop} (w : World) (p : Nat) (ts : List Tk) (ne np m : Nat) (h : WfT S w p ts ne np m) (x y : Ky) :
    Calls Tryz.prog 44 #[.pointer (some ⟨p, 0, none⟩), x.v, y.v] w fun e w' => e = .returned (.int .i64 (orI (cmpI x.per y.per) (cmpI (plcI ts x.task) (plcI ts y.task)) (cmpI x.ent y.ent))) ∧ Below w.heap.size w w' := by
  obtain ⟨x1, x2, x3⟩ := x
  obtain ⟨y1, y2, y3⟩ := y
  unfold Ky.v
  simp only
  have hh2 := heap_alloc2_old w (.cells #[.string x1, .int .i64 x2, .int .i64 x3] 48) (.cells #[.string y1, .int .i64 y2, .int .i64 y3] 48)
  have hr2 := heap_alloc2_new w (.cells #[.string x1, .int .i64 x2, .int .i64 x3] 48) (.cells #[.string y1, .int .i64 y2, .int .i64 y3] 48)
  have hB1 : Below w.heap.size w ((w.alloc (.cells #[.string x1, .int .i64 x2, .int .i64 x3] 48)).alloc (.cells #[.string y1, .int .i64 y2, .int .i64 y3] 48)) := ((Below.refl _ w).alloc (Nat.le_refl _) _).alloc (by simp) _
  have HB1 := Lib.hid hB1
  have HW := Lib.hid (h.below hB1)
  have hC0 : Cells [(⟨w.heap.size, 0, none⟩, .string x1), (⟨w.heap.size, 1, none⟩, .int .i64 x2), (⟨w.heap.size, 2, none⟩, .int .i64 x3), (⟨w.heap.size + 1, 0, none⟩, .string y1), (⟨w.heap.size + 1, 1, none⟩, .int .i64 y2), (⟨w.heap.size + 1, 2, none⟩, .int .i64 y3)] ((w.alloc (.cells #[.string x1, .int .i64 x2, .int .i64 x3] 48)).alloc (.cells #[.string y1, .int .i64 y2, .int .i64 y3] 48)) := ⟨blk_cell hh2 0, blk_cell hh2 1, blk_cell hh2 2, blk_cell hr2 0, blk_cell hr2 1, blk_cell hr2 2, trivial⟩
  clear h hh2 hr2 hB1
  go_enter Tryz.func44, Tryz.ntmps44
  go_wp2_with fail
  generalize (w.alloc (.cells #[.string x1, .int .i64 x2, .int .i64 x3] 48)).alloc (.cells #[.string y1, .int .i64 y2, .int .i64 y3] 48) = w1 at *
  refine wp_region_T (Cells [(⟨w.heap.size, 0, none⟩, .string x1), (⟨w.heap.size, 1, none⟩, .int .i64 x2), (⟨w.heap.size, 2, none⟩, .int .i64 x3), (⟨w.heap.size + 1, 0, none⟩, .string y1), (⟨w.heap.size + 1, 1, none⟩, .int .i64 y2), (⟨w.heap.size + 1, 2, none⟩, .int .i64 y3)]) (fun _ => false) (by kernel_rfl) ?_
  have hSss1 := Cells.drew hC0
  have hB_0_s1 : Below w1.heap.size w1 w1.drew := below_drew _
  generalize w1.drew = s1 at hSss1 hB_0_s1 ⊢
  have hB_s1_s1 := Below.refl s1.heap.size s1
  refine wpAnyT_pure (i := 0) (v := ?_) rfl (by kernel_rfl) (by kernel_rfl) (by kernel_rfl) (fun _ _ _ h => h) (by rfl) ?_ ?_
  rotate_left
  · intro w; go_simp; try with_reducible rfl
  simp only [Act.put, rgA, rgB, rgC, rgD, rgE, rgF]
  refine wpAnyT_pure (i := 2) (v := ?_) rfl (by kernel_rfl) (by kernel_rfl) (by kernel_rfl) (fun _ _ _ h => h) (by rfl) ?_ ?_
  rotate_left
  · intro w; go_simp; try with_reducible rfl
  simp only [Act.put, rgA, rgB, rgC, rgD, rgE, rgF]
  refine wpAnyT_pure (i := 5) (v := ?_) rfl (by kernel_rfl) (by kernel_rfl) (by kernel_rfl) (fun _ _ _ h => h) (by rfl) ?_ ?_
  rotate_left
  · intro w; go_simp; try with_reducible rfl
  simp only [Act.put, rgA, rgB, rgC, rgD, rgE, rgF]
  refine wpAnyT_pure (i := 6) (v := ?_) rfl (by kernel_rfl) (by kernel_rfl) (by kernel_rfl) (fun _ _ _ h => h) (by rfl) ?_ ?_
  rotate_left
  · intro w; go_simp; try with_reducible rfl
  simp only [Act.put, rgA, rgB, rgC, rgD, rgE, rgF]
  refine wpAnyT_pure (i := 9) (v := ?_) rfl (by kernel_rfl) (by kernel_rfl) (by kernel_rfl) (fun _ _ _ h => h) (by rfl) ?_ ?_
  rotate_left
  · intro w; go_simp; try with_reducible rfl
  simp only [Act.put, rgA, rgB, rgC, rgD, rgE, rgF]
  refine wpAnyT_pure (i := 10) (v := ?_) rfl (by kernel_rfl) (by kernel_rfl) (by kernel_rfl) (fun _ _ _ h => h) (by rfl) ?_ ?_
  rotate_left
  · intro w; go_simp; try with_reducible rfl
  simp only [Act.put, rgA, rgB, rgC, rgD, rgE, rgF]
  refine wpAnyT_pure (i := 14) (v := ?_) rfl (by kernel_rfl) (by kernel_rfl) (by kernel_rfl) (fun _ _ _ h => h) (by rfl) ?_ ?_
  rotate_left
  · intro w; go_simp; try with_reducible rfl
  simp only [Act.put, rgA, rgB, rgC, rgD, rgE, rgF]
  refine wpAnyT_pure (i := 16) (v := ?_) rfl (by kernel_rfl) (by kernel_rfl) (by kernel_rfl) (fun _ _ _ h => h) (by rfl) ?_ ?_
  rotate_left
  · intro w; go_simp; try with_reducible rfl
  simp only [Act.put, rgA, rgB, rgC, rgD, rgE, rgF]
  refine wpAnyT_loadW (i := 1) (v := ?_) rfl (by kernel_rfl) (by kernel_rfl) (by kernel_rfl) (by kernel_rfl) (by kernel_rfl) (fun _ _ _ h => h) (Or.inl ⟨by rfl, ?_⟩) hSss1 ?_
  rotate_left
  · intro w hSw; obtain ⟨e0, e1, e2, e3, e4, e5, -⟩ := hSw; go_simp; try with_reducible rfl
  simp only [Act.put, rgA, rgB, rgC, rgD, rgE, rgF]
  refine wpAnyT_loadW (i := 3) (v := ?_) rfl (by kernel_rfl) (by kernel_rfl) (by kernel_rfl) (by kernel_rfl) (by kernel_rfl) (fun _ _ _ h => h) (Or.inl ⟨by rfl, ?_⟩) hSss1 ?_
  rotate_left
  · intro w hSw; obtain ⟨e0, e1, e2, e3, e4, e5, -⟩ := hSw; go_simp; try with_reducible rfl
  simp only [Act.put, rgA, rgB, rgC, rgD, rgE, rgF]
  refine wpAnyT_loadW (i := 7) (v := ?_) rfl (by kernel_rfl) (by kernel_rfl) (by kernel_rfl) (by kernel_rfl) (by kernel_rfl) (fun _ _ _ h => h) (Or.inl ⟨by rfl, ?_⟩) hSss1 ?_
  rotate_left
  · intro w hSw; obtain ⟨e0, e1, e2, e3, e4, e5, -⟩ := hSw; go_simp; try with_reducible rfl
  simp only [Act.put, rgA, rgB, rgC, rgD, rgE, rgF]
  refine wpAnyT_loadW (i := 11) (v := ?_) rfl (by kernel_rfl) (by kernel_rfl) (by kernel_rfl) (by kernel_rfl) (by kernel_rfl) (fun _ _ _ h => h) (Or.inl ⟨by rfl, ?_⟩) hSss1 ?_
  rotate_left
  · intro w hSw; obtain ⟨e0, e1, e2, e3, e4, e5, -⟩ := hSw; go_simp; try with_reducible rfl
  simp only [Act.put, rgA, rgB, rgC, rgD, rgE, rgF]
  refine wpAnyT_loadW (i := 15) (v := ?_) rfl (by kernel_rfl) (by kernel_rfl) (by kernel_rfl) (by kernel_rfl) (by kernel_rfl) (fun _ _ _ h => h) (Or.inl ⟨by rfl, ?_⟩) hSss1 ?_
  rotate_left
  · intro w hSw; obtain ⟨e0, e1, e2, e3, e4, e5, -⟩ := hSw; go_simp; try with_reducible rfl
  simp only [Act.put, rgA, rgB, rgC, rgD, rgE, rgF]
  refine wpAnyT_loadW (i := 17) (v := ?_) rfl (by kernel_rfl) (by kernel_rfl) (by kernel_rfl) (by kernel_rfl) (by kernel_rfl) (fun _ _ _ h => h) (Or.inl ⟨by rfl, ?_⟩) hSss1 ?_
  rotate_left
  · intro w hSw; obtain ⟨e0, e1, e2, e3, e4, e5, -⟩ := hSw; go_simp; try with_reducible rfl
  simp only [Act.put, rgA, rgB, rgC, rgD, rgE, rgF]
  refine wpAnyT_one (i := 4) (by kernel_rfl) rfl (by rfl) ?_
  refine wp_enter (f := 61) (args := #[.int .i64 x3, .int .i64 y3]) (by go_simp) (compareB s1 x3 y3) ?_
  rintro e w102 ⟨rfl, hX⟩
  have hB_s1_w102 := below_step hB_s1_s1 hX
  have hB_w102_w102 := Below.refl w102.heap.size w102
  have hSsw102 := Cells.below hB_s1_w102 hSss1
  clear hX
  refine ⟨_, rfl, fun _ _ => hSsw102, ?_⟩
  try simp only [Act.put, rgA, rgB, rgC, rgD, rgE, rgF]
  refine wpAnyT_one (i := 8) (by kernel_rfl) rfl (by rfl) ?_
  refine wp_enter (f := 52) (args := #[.pointer (some ⟨p, 0, none⟩), .string x1]) (by go_simp) (place53 w102 p ts ne np m (HW.out.below (hB_0_s1.trans ((hB_s1_w102).mono (hB_0_s1).size))) x1) ?_
  rintro e w103 ⟨rfl, hX⟩
  have hB_s1_w103 := below_step hB_s1_w102 hX
  have hB_w102_w103 := below_step hB_w102_w102 hX
  have hB_w103_w103 := Below.refl w103.heap.size w103
  have hSsw103 := Cells.below hB_s1_w103 hSss1
  clear hX
  refine ⟨_, rfl, fun _ _ => hSsw103, ?_⟩
  try simp only [Act.put, rgA, rgB, rgC, rgD, rgE, rgF]
  refine wpAnyT_one (i := 12) (by kernel_rfl) rfl (by rfl) ?_
  refine wp_enter (f := 52) (args := #[.pointer (some ⟨p, 0, none⟩), .string y1]) (by go_simp) (place53 w103 p ts ne np m (HW.out.below (hB_0_s1.trans ((hB_s1_w103).mono (hB_0_s1).size))) y1) ?_
  rintro e w104 ⟨rfl, hX⟩
  have hB_s1_w104 := below_step hB_s1_w103 hX
  have hB_w102_w104 := below_step hB_w102_w103 hX
  have hB_w103_w104 := below_step hB_w103_w103 hX
  have hB_w104_w104 := Below.refl w104.heap.size w104
  have hSsw104 := Cells.below hB_s1_w104 hSss1
  clear hX
  refine ⟨_, rfl, fun _ _ => hSsw104, ?_⟩
  try simp only [Act.put, rgA, rgB, rgC, rgD, rgE, rgF]
  refine wpAnyT_one (i := 13) (by kernel_rfl) rfl (by rfl) ?_
  refine wp_enter (f := 61) (args := #[.int .i64 (plcI ts x1), .int .i64 (plcI ts y1)]) (by go_simp) (compareB w104 (plcI ts x1) (plcI ts y1)) ?_
  rintro e w105 ⟨rfl, hX⟩
  have hB_s1_w105 := below_step hB_s1_w104 hX
  have hB_w102_w105 := below_step hB_w102_w104 hX
  have hB_w103_w105 := below_step hB_w103_w104 hX
  have hB_w104_w105 := below_step hB_w104_w104 hX
  have hB_w105_w105 := Below.refl w105.heap.size w105
  have hSsw105 := Cells.below hB_s1_w105 hSss1
  clear hX
  refine ⟨_, rfl, fun _ _ => hSsw105, ?_⟩
  try simp only [Act.put, rgA, rgB, rgC, rgD, rgE, rgF]
  refine wpAnyT_one (i := 18) (by kernel_rfl) rfl (by rfl) ?_
  refine wp_enter (f := 61) (args := #[.int .i64 x2, .int .i64 y2]) (by go_simp) (compareB w105 x2 y2) ?_
  rintro e w106 ⟨rfl, hX⟩
  have hB_s1_w106 := below_step hB_s1_w105 hX
  have hB_w102_w106 := below_step hB_w102_w105 hX
  have hB_w103_w106 := below_step hB_w103_w105 hX
  have hB_w104_w106 := below_step hB_w104_w105 hX
  have hB_w105_w106 := below_step hB_w105_w105 hX
  have hB_w106_w106 := Below.refl w106.heap.size w106
  have hSsw106 := Cells.below hB_s1_w106 hSss1
  clear hX
  refine ⟨_, rfl, fun _ _ => hSsw106, ?_⟩
  try simp only [Act.put, rgA, rgB, rgC, rgD, rgE, rgF]
  refine wpAnyT_one (i := 19) (by kernel_rfl) rfl (by rfl) ?_
  obtain ⟨b20, hb20⟩ : ∃ b, (w106).heap.size = b := ⟨_, rfl⟩
  refine wp_newrow (v := .slice (some ⟨b20, 0, none⟩) 3 3) (cs := #[.int .i64 (cmpI x3 y3), .int .i64 (cmpI (plcI ts x1) (plcI ts y1)), .int .i64 (cmpI x2 y2)]) (te := 3) (by rw [← hb20]; go_simp) ?_
  intro w107 hX hN20
  rw [hb20] at hN20
  have hB_s1_w107 := below_step hB_s1_w106 hX
  have hB_w102_w107 := below_step hB_w102_w106 hX
  have hB_w103_w107 := below_step hB_w103_w106 hX
  have hB_w104_w107 := below_step hB_w104_w106 hX
  have hB_w105_w107 := below_step hB_w105_w106 hX
  have hB_w106_w107 := below_step hB_w106_w106 hX
  have hB_w107_w107 := Below.refl w107.heap.size w107
  have hSsw107 := Cells.below hB_s1_w107 hSss1
  clear hX
  refine ⟨fun _ _ => hSsw107, ?_⟩
  try simp only [Act.put, rgA, rgB, rgC, rgD, rgE, rgF]
  refine wpAnyT_one (i := 20) (by kernel_rfl) rfl (by rfl) ?_
  have hq20 : (w107).heap[b20]? = some (.cells #[.int .i64 (cmpI x3 y3), .int .i64 (cmpI (plcI ts x1) (plcI ts y1)), .int .i64 (cmpI x2 y2)] 3 (0, 0)) := by first | exact hN20 | exact ((hB_w107_w107).block _ (blk_lt hN20)).trans hN20
  refine wp_enter (f := 60) (args := #[.slice (some ⟨b20, 0, none⟩) 3 3]) (by go_simp) (orB w107 b20 3 _ _ _ (blk_cell hq20 0) (blk_cell hq20 1) (blk_cell hq20 2)) ?_
  rintro e w108 ⟨rfl, hX⟩
  have hB_s1_w108 := below_step hB_s1_w107 hX
  have hB_w102_w108 := below_step hB_w102_w107 hX
  have hB_w103_w108 := below_step hB_w103_w107 hX
  have hB_w104_w108 := below_step hB_w104_w107 hX
  have hB_w105_w108 := below_step hB_w105_w107 hX
  have hB_w106_w108 := below_step hB_w106_w107 hX
  have hB_w107_w108 := below_step hB_w107_w107 hX
  have hB_w108_w108 := Below.refl w108.heap.size w108
  have hSsw108 := Cells.below hB_s1_w108 hSss1
  clear hX
  refine ⟨_, rfl, fun _ _ => hSsw108, ?_⟩
  try simp only [Act.put, rgA, rgB, rgC, rgD, rgE, rgF]
  refine wpAnyT_pure (i := 21) (v := ?_) rfl (by kernel_rfl) (by kernel_rfl) (by kernel_rfl) (fun _ _ _ h => h) (by rfl) ?_ ?_
  rotate_left
  · intro w; go_simp; try with_reducible rfl
  simp only [Act.put, rgA, rgB, rgC, rgD, rgE, rgF]
  refine wpAnyT_done (by kernel_rfl) ?_ _
  have hbP : Below w1.heap.size w1 w108 := hB_0_s1.trans ((hB_s1_w108).mono (hB_0_s1).size)
  go_wp2_with fail
  go_ret
  exact ⟨rfl, below_step HB1.out hbP⟩
end Go.Proofs.YtdcjocldggmdbaaGreat

/- Program independent: maps keyed by any type of keys, with any elements, of whose readings the datum tells the value: look-up, length, store, delete. -/
namespace Go.Proofs.YtdcjocldggmdbaaGreat
open Go.RowKit Go

/-- What keys are. -/
structure KeyS (P : Program) (k : TypeId) (κ : Type) where
  K : Maps.Keyed P k
  v : κ → Value
  ok : κ → Prop
  l : κ → Lit
  hl : ∀ x, ok x → keyOf P k (v x) = some (l x)
  inj : ∀ x y, ok x → ok y → l x = l y → x = y
/-- What elements are: z is the zero value's. -/
structure ElS (P : Program) (e : TypeId) (α : Type) where
  R : Value → Option (DataW Unit × List MemPlace)
  v : α → Value
  d : α → DataW Unit
  gd : α → Prop
  z : α
  hR : ∀ a, gd a → R (v a) = some (d a, [])
  hz : gd z
  inv : ∀ u a ps, R u = some (d a, ps) → u = v a
  zero : ∀ w, (zeroValue e).run P w = .ok (v z) w

section
variable {P : Program} {k e : TypeId} {κ α : Type}
def MapG (Ks : KeyS P k κ) (Es : ElS P e α) (w : World) (b m : Nat) (f : κ → Option α) : Prop :=
  ∃ D : DataW Unit, w.ownsMap P k Es.R b m D ∧ Maps.size D = m ∧ ∀ x : κ, Ks.ok x → Maps.has D (Ks.l x) = (f x).isSome ∧ D.atKey (Ks.l x) (Es.d Es.z) = Es.d ((f x).getD Es.z)
variable {Ks : KeyS P k κ} {Es : ElS P e α} {w : World} {b m : Nat} {f : κ → Option α} {t : TypeId}
theorem owns_exact {R : Value → Option (DataW Unit × List MemPlace)} {n : Nat} {D : DataW Unit} (h : w.ownsMap P k R b n D) : w.ownsMap P k R b (Maps.size D) D := by
  obtain ⟨es, clock, hb, F, hs, rfl⟩ := h
  exact ⟨es, clock, hb, F, by simp [Maps.size, length_sorted], rfl⟩
theorem MapG.look2 (h : MapG Ks Es w b m f) (ht : P.underlying t = some (.map k e)) (x : κ) (hx : Ks.ok x) :
    Sem.run P (Instr.lookup t (.map (some b)) (Ks.v x) true) w = .ok (.tuple #[Es.v ((f x).getD Es.z), .bool (f x).isSome]) w := by
  obtain ⟨D, hD, hm, hf⟩ := h
  obtain ⟨v, ps, hrun, hv⟩ := hD.look_ok Ks.K ht (Es.zero w) (Es.hR _ Es.hz) (Ks.hl x hx)
  rw [(hf x hx).2] at hv
  rw [hrun, (hf x hx).1, Es.inv _ _ _ hv]
theorem MapG.look1 (h : MapG Ks Es w b m f) (ht : P.underlying t = some (.map k e)) (x : κ) (hx : Ks.ok x) :
    Sem.run P (Instr.lookup t (.map (some b)) (Ks.v x) false) w = .ok (Es.v ((f x).getD Es.z)) w := by
  obtain ⟨D, hD, hm, hf⟩ := h
  obtain ⟨v, ps, hrun, hv⟩ := hD.lookup Ks.K ht (Es.zero w) (Es.hR _ Es.hz) (Ks.hl x hx)
  rw [(hf x hx).2] at hv
  rw [hrun, Es.inv _ _ _ hv]
theorem MapG.len (h : MapG Ks Es w b m f) (ht : P.underlying t = some (.map k e)) (ty : TypeId) : Sem.run P (Builtin.len_ #[t] ty #[.map (some b)]) w = .ok (.int .i64 m) w := by
  obtain ⟨D, hD, hm, hf⟩ := h
  rw [← hm]
  exact hD.len ht ty
theorem MapG.made (w : World) : MapG Ks Es (w.alloc (.map #[] 0)) w.heap.size 0 (fun _ => none) :=
  ⟨.map [], World.ownsMap_made w P _ _, rfl, fun x _ => ⟨rfl, rfl⟩⟩
theorem MapG.keep {w' : World} (h : MapG Ks Es w b m f) (hw : w'.heap[b]? = w.heap[b]?) : MapG Ks Es w' b m f := by
  obtain ⟨D, ⟨es, clock, hb, r⟩, hm, hf⟩ := h
  exact ⟨D, ⟨es, clock, hw.trans hb, r⟩, hm, hf⟩
theorem MapG.lt (h : MapG Ks Es w b m f) : b < w.heap.size := by
  obtain ⟨D, hD, _⟩ := h; exact hD.lt
theorem MapG.below {w' : World} (h : MapG Ks Es w b m f) (hB : Below w.heap.size w w') : MapG Ks Es w' b m f := h.keep (hB.block b h.lt)
theorem MapG.gr {F : Nat → Prop} {w' : World} (h : MapG Ks Es w b m f) (hg : Gr F w w') (hF : ¬ F b) : MapG Ks Es w' b m f := h.keep (hg.block b h.lt hF)
theorem MapG.congr (h : MapG Ks Es w b m f) {g : κ → Option α} (e : ∀ x, Ks.ok x → g x = f x) : MapG Ks Es w b m g := by
  obtain ⟨D, hD, hm, hf⟩ := h
  exact ⟨D, hD, hm, fun x hx => by rw [e x hx]; exact hf x hx⟩
theorem MapG.store [DecidableEq κ] (h : MapG Ks Es w b m f) (ht : P.underlying t = some (.map k e)) (hn : m < maxLen) (y : κ) (hy : Ks.ok y) (a : α) (ha : Es.gd a) :
    ∃ w', Sem.run P (Instr.mapUpdate t (.map (some b)) (Ks.v y) (Es.v a)) w = .ok () w' ∧ MapG Ks Es w' b (if (f y).isSome then m else m + 1) (fun x => if x = y then some a else f x) ∧ w.mapTurned w' b := by
  obtain ⟨D, hD, hm, hf⟩ := h
  obtain ⟨w', hrun, h1, h2⟩ := hD.store Ks.K ht hn (Ks.hl y hy) (Es.hR a ha)
  have hsz := Maps.size_put (k := Ks.l y) (hD.tidy Ks.K) (Es.d a)
  rw [(hf y hy).1, hm] at hsz
  refine ⟨w', hrun, ⟨_, by rw [← hsz]; exact owns_exact h1, hsz, fun x hx => ?_⟩, h2⟩
  by_cases e : x = y
  · subst e
    simp only [if_true]
    rw [Maps.atKey_put_same hD.isMap (Ks.K.key (Ks.hl x hx)), Maps.has_put_same hD.isMap (Ks.K.key (Ks.hl x hx))]
    exact ⟨rfl, rfl⟩
  · simp only [if_neg e]
    have hne : Ks.l x ≠ Ks.l y := fun h => e (Ks.inj x y hx hy h)
    rw [Maps.atKey_put_other hne, Maps.has_put_other hne]
    exact hf x hx
theorem MapG.drop [DecidableEq κ] (h : MapG Ks Es w b m f) (ht : P.underlying t = some (.map k e)) (y : κ) (hy : Ks.ok y) (ty : TypeId) :
    ∃ w', Sem.run P (Builtin.delete_ #[t, k] ty #[.map (some b), Ks.v y]) w = .ok (.tuple #[]) w' ∧ MapG Ks Es w' b (if (f y).isSome then m - 1 else m) (fun x => if x = y then none else f x) ∧ w.mapTurned w' b := by
  obtain ⟨D, hD, hm, hf⟩ := h
  obtain ⟨w', hrun, h1, h2⟩ := hD.drop Ks.K ht (Ks.hl y hy) ty
  have hsz := Maps.size_del (k := Ks.l y) (hD.tidy Ks.K)
  rw [(hf y hy).1, hm] at hsz
  have hsz' : Maps.size (D.del (Ks.l y)) = if (f y).isSome = true then m - 1 else m := by
    split at hsz <;> rename_i hc
    · rw [if_pos hc]; omega
    · rw [if_neg hc]; omega
  refine ⟨w', hrun, ⟨_, by rw [← hsz']; exact owns_exact h1, hsz', fun x hx => ?_⟩, h2⟩
  by_cases e : x = y
  · subst e
    simp only [if_true]
    rw [Maps.atKey_del_same, Maps.has_del_same]
    exact ⟨rfl, rfl⟩
  · simp only [if_neg e]
    have hne : Ks.l x ≠ Ks.l y := fun h => e (Ks.inj x y hx hy h)
    rw [Maps.atKey_del_other hne, Maps.has_del_other hne]
    exact hf x hx
theorem Gr.of_turned {w' : World} {b : Nat} (h : w.mapTurned w' b) : Gr (fun x => x = b) w w' := (Gr.of_grown h.grown).mono (fun x hx => .inl (by simpa using hx.symm))
end

/-! ### elements -/
section
variable {P : Program}
noncomputable def boolEl {e : TypeId} (he : P.underlying e = some .bool) (hz : ∀ w, (zeroValue e).run P w = .ok (.bool false) w) : ElS P e Bool where
  R := plainElem P e
  v := .bool
  d := fun x => .lit (.bool x)
  gd := fun _ => True
  z := false
  hR := fun a _ => plainElem_bool he a
  hz := trivial
  inv := fun u a ps h => by
    unfold plainElem at h
    rw [he] at h
    cases u <;> simp at h
    rw [h.1]
  zero := hz
end
end Go.Proofs.YtdcjocldggmdbaaGreat

/- Layer 53: keys as keys of maps; who signed. -/
set_option linter.unusedSimpArgs false
set_option maxRecDepth 50000
namespace Go.Proofs.YtdcjocldggmdbaaGreat
open Go.RowKit Go

theorem laidOut53 : laidOutB Tryz.prog = true := by kernel_rfl
theorem rowK : (48 : TypeId) < Tryz.prog.types.size := of_decide_eq_true (by kernel_rfl)
theorem wideK : (match Tryz.prog.underlying 48 with | some (.array _ _) | some (.struct _) => true | _ => false) = true := by kernel_rfl
theorem lawK : WideMaps.KeyLaw Tryz.prog 48 := deep_law_laid laidOut53 (m := 2) (by omega) rowK (by kernel_rfl) wideK
theorem tiledK : Tryz.prog.tiled 2 48 = true := by kernel_rfl
theorem Ky.lit (x : Ky) (h : x.ok) : ∃ l, keyOf Tryz.prog 48 x.v = some l := by
  obtain ⟨c, k, w⟩ := x
  obtain ⟨h1, h2, h3⟩ := h
  have hkt : Tryz.prog.keyType 48 = true := by kernel_rfl
  have hco : Tryz.prog.cellsOf 48 = 3 := by kernel_rfl
  have hc9 : Tryz.prog.cellsOf 9 = 1 := by kernel_rfl
  have hc3 : Tryz.prog.cellsOf 3 = 1 := by kernel_rfl
  have hfm : (Ky.v ⟨c, k, w⟩).formed Tryz.prog 48 = true := by simp [Ky.v, Value.formed, Tryz.underlying48, hco]
  obtain ⟨n, hn⟩ : ∃ n, Tryz.prog.types.size = n + 1 := ⟨Tryz.prog.types.size - 1, by have : 0 < Tryz.prog.types.size := of_decide_eq_true (by kernel_rfl); omega⟩
  refine ⟨.string (keyBytes [.string c.data.toList, .int .i64 k, .int .i64 w]), ?_⟩
  unfold keyOf
  simp only [Tryz.underlying48, hkt, hfm, Bool.and_self, if_true, hn]
  simp only [Ky.v, Value.cells, Program.keyLits, Tryz.underlying48, Tryz.underlying9, Tryz.underlying3, hco, hc9, hc3]
  simp at h1 h2 h3
  simp [Program.keyLits, Tryz.underlying9, Tryz.underlying3, hc9, hc3, h1, h2, h3]
noncomputable def Ky.l (x : Ky) : Lit := (keyOf Tryz.prog 48 x.v).getD (.bool false)
theorem Ky.l_eq (x : Ky) (h : x.ok) : keyOf Tryz.prog 48 x.v = some x.l := by
  obtain ⟨l, hl⟩ := x.lit h
  rw [Ky.l, hl]; rfl
theorem Ky.v_inj {x y : Ky} (h : x.v = y.v) : x = y := by
  obtain ⟨a, b, c⟩ := x
  obtain ⟨a', b', c'⟩ := y
  simp only [Ky.v, Value.agg.injEq] at h
  simpa using h
noncomputable def keyK : KeyS Tryz.prog 48 Ky where
  K := Maps.Keyed.of_law lawK
  v := Ky.v
  ok := Ky.ok
  l := Ky.l
  hl := Ky.l_eq
  inj := fun x y hx hy h => by
    have h1 := x.l_eq hx
    rw [h] at h1
    exact Ky.v_inj (keyOf_inj_deep tiledK wideK h1 (y.l_eq hy))
/-- Strings as elements. -/
noncomputable def strE : ElS Tryz.prog 9 ByteArray where
  R := plainElem Tryz.prog 9
  v := .string
  d := fun s => .lit (.string s.data.toList)
  gd := fun s => s.size ≤ maxLen
  z := ⟨#[]⟩
  hR := fun a h => plainElem_string Tryz.underlying9 h
  hz := by decide
  inv := fun u a ps h => by
    unfold plainElem at h
    rw [Tryz.underlying9] at h
    cases u <;> simp at h
    rename_i s
    rw [show s = a from ByteArray.ext h.2.1]
  zero := fun _ => by kernel_rfl
/-- The map of what is signed. -/
def MapS (w : World) (b m : Nat) (f : Ky → Option ByteArray) : Prop := MapG keyK strE w b m f
theorem key_eql (w : World) (x y : Ky) : Sem.run Tryz.prog (binOp .eql 48 x.v y.v) w = .ok (.bool (decide (x = y))) w := by
  obtain ⟨c, k, u⟩ := x
  obtain ⟨d, m, v⟩ := y
  have u3 := Tryz.underlying3
  have u9 := Tryz.underlying9
  have hS : Tryz.prog.underlying 48 = some (.struct (Tryz.prog.fieldsOf 48)) := by kernel_rfl
  have hp : Tryz.prog.stoodInHeld 48 = false := by kernel_rfl
  unfold Ky.v
  rw [run_eql_struct, show (10000 : Nat) = 9999 + 1 from rfl, run_equalIn_agg w 9999 48 _ _ hS hp]
  simp only [Program.fieldsOf, Tryz.underlying48]
  go_simp
  have hcl : c.toList = d.toList ↔ c = d := by
    have h := strB c d
    rw [Bool.eq_iff_iff] at h
    simpa using h
  by_cases h1 : c = d <;> by_cases h2 : k = m <;> by_cases h3 : u = v <;> simp [hcl, h1, h2, h3]
end Go.Proofs.YtdcjocldggmdbaaGreat

/- A store into a map, in a drawn region. -/
namespace Go.Proofs.YtdcjocldggmdbaaGreat
open Go.RowKit Go
theorem wp_mapset1 {P : Program} {o : Oper} {a : Act} {w w' : World} {K : Act → World → Prop} {Q : Exit → Act → World → Prop} (t : TypeId) (x y z : Operand) (ho : o.op = .mapUpdate t x y z) {m k v : Value}
    (hx : a.eval x = m) (hy : a.eval y = k) (hz : a.eval z = v) (hrun : (Instr.mapUpdate t m k v).run P w = .ok () w') (h : K (a.put o.dst undef) w') : o.wp P a w K Q := by
  unfold Oper.wp execOp
  simp only [ho, hx, hy, hz, Sem.run_bind, Sem.run_pure, Result.andThen_ok, hrun]
  exact h
theorem wp_store1 {P : Program} {o : Oper} {a : Act} {w w' : World} {K : Act → World → Prop} {Q : Exit → Act → World → Prop} (ty : TypeId) (x y : Operand) (ho : o.op = .store ty x y) (p : Addr) (v : Value)
    (hx : a.eval x = .pointer (some p)) (hy : a.eval y = v) (hrun : (storeVar ty p v).run P w = .ok () w') (h : K (a.put o.dst undef) w') : o.wp P a w K Q := by
  unfold Oper.wp execOp
  simp only [ho, hx, hy, Instr.storeAt, Instr.sureAddr, Sem.run_bind, Sem.run_pure, Result.andThen_ok, hrun]
  exact h
theorem below_setRow {n p : Nat} {w W : World} (h : Below n w W) (hp : n ≤ p) (cs : Array Value) : Below n w (W.setRow p cs) :=
  ⟨h.os, h.tape, h.output, by simpa using h.size, fun k hk => (setRow_other W p k _ (by omega)).trans (h.block k hk)⟩
theorem gr_setRow (w : World) (p : Nat) (cs : Array Value) : Gr (fun b => b = p) w (w.setRow p cs) := ⟨rfl, rfl, rfl, by simp, fun k hk hf => setRow_other _ _ _ _ hf⟩
end Go.Proofs.YtdcjocldggmdbaaGreat

/- Layer 53: what is signed, in memory; compact lists of keys. -/
set_option linter.unusedSimpArgs false
namespace Go.Proofs.YtdcjocldggmdbaaGreat
open Go.RowKit Go

theorem keyT_sz : keyT.sz = 3 := rfl
theorem key_at {S : Nat → Prop} {w : World} {a : Option Addr} {len cap : Nat} {l : List Ky} (h : Rd (.sl keyT) S w [.slice a len cap] (l.map Ky.d)) (i : Nat) (hi : i < l.length) :
    ∃ b off, a = some ⟨b, off, none⟩ ∧ S b ∧ w.cell? ⟨b, off + i * 3, none⟩ = some (.string l[i].task) ∧ w.cell? ⟨b, off + i * 3 + 1, none⟩ = some (.int .i64 l[i].ent) ∧ w.cell? ⟨b, off + i * 3 + 2, none⟩ = some (.int .i64 l[i].per) ∧ l[i].ok := by
  obtain ⟨hl, -, -, vs, hr, hor⟩ := h.sl_flat
  obtain ⟨c, hc, hcc, hrd⟩ := hr.at_ i (by rw [List.length_map]; exact hi)
  rw [List.getElem_map] at hrd
  rcases hor with h0 | ⟨b, off, rfl, hb, hcell⟩
  · rw [List.length_map] at hl; omega
  · generalize l[i] = s at hrd ⊢
    obtain ⟨nm, e, p⟩ := s
    obtain ⟨c1, r1, rfl, ⟨rfl, h1⟩, c2, r2, rfl, ⟨rfl, h2⟩, c3, r3, rfl, ⟨rfl, h3⟩, rfl⟩ := hrd
    refine ⟨b, off, rfl, hb, ?_, ?_, ?_, ⟨h1, h2, h3⟩⟩
    · rw [show off + i * 3 = off + (i * keyT.sz + 0) by rw [keyT_sz]; omega]; exact hcell _ _ (hcc 0 _ rfl)
    · rw [show off + i * 3 + 1 = off + (i * keyT.sz + 1) by rw [keyT_sz]; omega]; exact hcell _ _ (hcc 1 _ rfl)
    · rw [show off + i * 3 + 2 = off + (i * keyT.sz + 2) by rw [keyT_sz]; omega]; exact hcell _ _ (hcc 2 _ rfl)
set_option maxRecDepth 20000 in
set_option maxHeartbeats 1000000 in
theorem compact53 {S : Nat → Prop} (w : World) (a : Option Addr) (len cap : Nat) (l : List Ky) (hx : Rd (.sl keyT) S w [.slice a len cap] (l.map Ky.d)) (hS : ∀ b, S b → b < w.heap.size) (hne : ∀ j (hj : j + 1 < l.length), l[j + 1] ≠ l[j]) :
    Calls Tryz.prog 54 #[.slice a len cap] w fun e w' => e = .returned (.slice a len cap) ∧ Below w.heap.size w w' := by
  obtain ⟨hl, hlc, hm, -⟩ := hx.sl_flat
  rw [List.length_map] at hl
  have HX := Lib.hid hx
  have HL := Lib.hid hl
  have HS := Lib.hid hS
  have HNE := Lib.hid hne
  have hgd : Tryz.prog.eqGuardType Tryz.prog.depth 48 = false := by kernel_rfl
  clear hx hl hS hne
  go_enter Tryz.func54, Tryz.ntmps54
  by_cases h2 : (len : Int) < 2
  · go_wp2_with fail
    go_ret
    exact ⟨rfl, Below.refl _ _⟩
  have h2' : ¬ len < 2 := by omega
  go_wp2_with fail
  go_loopw [3] (fun i wr => ∃ (q : Nat), 1 ≤ q ∧ q ≤ len ∧ i = .int .i64 q ∧ Below w.heap.size w wr) (fun i _ => len + 1 - (intOf i).toNat)
  case atStart => exact ⟨1, by omega, by omega, rfl, Below.refl _ _⟩
  case round =>
    obtain ⟨q, hq1, hk, rfl, hB⟩ := hrel
    have HB := Lib.hid hB
    by_cases hlt : q < len
    · have hkI : ((q : Nat) : Int) < (len : Int) := by omega
      obtain ⟨j, hj⟩ : ∃ j, q = j + 1 := ⟨q - 1, by omega⟩
      have HQ := Lib.hid hj
      have hjI : ((j : Nat) : Int) < (len : Int) := by omega
      have hql : q < l.length := by rw [HL.out]; exact hlt
      have hjl : j < l.length := by omega
      obtain ⟨b, o, rfl, -, m0, m1, m2, -⟩ := key_at (HX.out.below hB HS.out) q hql
      obtain ⟨b', o', hb', -, p0, p1, p2, -⟩ := key_at (HX.out.below hB HS.out) j hjl
      simp only [Option.some.injEq, Addr.mk.injEq, and_true] at hb'
      obtain ⟨rfl, rfl⟩ := hb'
      have hn : l[q] ≠ l[j] := by
        have := HNE.out j (by omega)
        subst hj
        exact this
      have HLT := Lib.hid hlt
      generalize l[q] = x at m0 m1 m2 hn
      generalize l[j] = y at p0 p1 p2 hn
      obtain ⟨x1, x2, x3⟩ := x
      obtain ⟨y1, y2, y3⟩ := y
      simp only at m0 m1 m2 p0 p1 p2
      have heq : ∀ W, Sem.run Tryz.prog (binOp .eql 48 (.agg #[.string x1, .int .i64 x2, .int .i64 x3]) (.agg #[.string y1, .int .i64 y2, .int .i64 y3])) W = .ok (.bool false) W := fun W => by
        have := key_eql W ⟨x1, x2, x3⟩ ⟨y1, y2, y3⟩
        rw [decide_eq_false hn] at this
        exact this
      have hC0 : Cells [(⟨b, o + q * 3, none⟩, .string x1), (⟨b, o + q * 3 + 1, none⟩, .int .i64 x2), (⟨b, o + q * 3 + 2, none⟩, .int .i64 x3), (⟨b, o + j * 3, none⟩, .string y1), (⟨b, o + j * 3 + 1, none⟩, .int .i64 y2), (⟨b, o + j * 3 + 2, none⟩, .int .i64 y3)] wr := ⟨m0, m1, m2, p0, p1, p2, trivial⟩
      clear m0 m1 m2 p0 p1 p2 hn hB hlt hj hql hjl
      go_wp2_with fail
      refine wp_region_T (Cells [(⟨b, o + q * 3, none⟩, .string x1), (⟨b, o + q * 3 + 1, none⟩, .int .i64 x2), (⟨b, o + q * 3 + 2, none⟩, .int .i64 x3), (⟨b, o + j * 3, none⟩, .string y1), (⟨b, o + j * 3 + 1, none⟩, .int .i64 y2), (⟨b, o + j * 3 + 2, none⟩, .int .i64 y3)]) (fun _ => false) (by kernel_rfl) ?_
      have hSss1 := Cells.drew hC0
      have hB_0_s1 : Below wr.heap.size wr wr.drew := below_drew _
      generalize wr.drew = s1 at hSss1 hB_0_s1 ⊢
      have hB_s1_s1 := Below.refl s1.heap.size s1
      refine wpAnyT_pure (i := 0) (v := ?_) rfl (by kernel_rfl) (by kernel_rfl) (by kernel_rfl) (fun _ _ _ h => h) (by rfl) ?_ ?_
      rotate_left
      · intro w; go_simp; try with_reducible rfl
      simp only [Act.put, rgA, rgB, rgC, rgD, rgE, rgF]
      refine wpAnyT_pure (i := 1) (v := ?_) rfl (by kernel_rfl) (by kernel_rfl) (by kernel_rfl) (fun _ _ _ h => h) (by rfl) ?_ ?_
      rotate_left
      · intro w; go_simp; try with_reducible rfl
      simp only [Act.put, rgA, rgB, rgC, rgD, rgE, rgF]
      refine wpAnyT_pure (i := 2) (v := ?_) rfl (by kernel_rfl) (by kernel_rfl) (by kernel_rfl) (fun _ _ _ h => h) (by rfl) ?_ ?_
      rotate_left
      · intro w; go_simp; try with_reducible rfl
      simp only [Act.put, rgA, rgB, rgC, rgD, rgE, rgF]
      refine wpAnyT_pure (i := 4) (v := ?_) rfl (by kernel_rfl) (by kernel_rfl) (by kernel_rfl) (fun _ _ _ h => h) (by rfl) ?_ ?_
      rotate_left
      · intro w; go_simp; try with_reducible rfl
      simp only [Act.put, rgA, rgB, rgC, rgD, rgE, rgF]
      refine wpAnyT_pure (i := 5) (v := ?_) rfl (by kernel_rfl) (by kernel_rfl) (by kernel_rfl) (fun _ _ _ h => h) (by rfl) ?_ ?_
      rotate_left
      · intro w; go_simp; try with_reducible rfl
      simp only [Act.put, rgA, rgB, rgC, rgD, rgE, rgF]
      refine wpAnyT_loadW (i := 3) (v := ?_) rfl (by kernel_rfl) (by kernel_rfl) (by kernel_rfl) (by kernel_rfl) (by kernel_rfl) (fun _ _ _ h => h) (Or.inl ⟨by rfl, ?_⟩) hSss1 ?_
      rotate_left
      · intro w hSw; obtain ⟨e0, e1, e2, e3, e4, e5, -⟩ := hSw; go_simp; try with_reducible rfl
      simp only [Act.put, rgA, rgB, rgC, rgD, rgE, rgF]
      refine wpAnyT_one (i := 6) (by kernel_rfl) rfl (by rfl) ?_
      refine wp_value (v := .int .i64 (j : Nat)) (w' := s1) (by have hq := HQ.out; clear HQ; go_simp; rw [IntKind.wrap_i64] <;> omega) ?_
      refine ⟨fun _ h => h, ?_⟩
      try simp only [Act.put, rgA, rgB, rgC, rgD, rgE, rgF]
      refine wpAnyT_pure (i := 7) (v := ?_) rfl (by kernel_rfl) (by kernel_rfl) (by kernel_rfl) (fun _ _ _ h => h) (by rfl) ?_ ?_
      rotate_left
      · intro w; go_simp; try with_reducible rfl
      simp only [Act.put, rgA, rgB, rgC, rgD, rgE, rgF]
      refine wpAnyT_loadW (i := 8) (v := ?_) rfl (by kernel_rfl) (by kernel_rfl) (by kernel_rfl) (by kernel_rfl) (by kernel_rfl) (fun _ _ _ h => h) (Or.inl ⟨by rfl, ?_⟩) hSss1 ?_
      rotate_left
      · intro w hSw; obtain ⟨e0, e1, e2, e3, e4, e5, -⟩ := hSw; go_simp; try with_reducible rfl
      simp only [Act.put, rgA, rgB, rgC, rgD, rgE, rgF]
      refine wpAnyT_pure (i := 9) (v := ?_) rfl (by kernel_rfl) (by kernel_rfl) (by kernel_rfl) (fun _ _ _ h => h) (by rfl) ?_ ?_
      rotate_left
      · intro w; go_simp; try with_reducible rfl
      simp only [Act.put, rgA, rgB, rgC, rgD, rgE, rgF]
      refine wpAnyT_done (by kernel_rfl) ?_ _
      have HBP := Lib.hid (below_step HB.out (hB_0_s1.trans ((hB_s1_s1).mono (hB_0_s1).size)))
      go_wp2_with fail
      go_roundw
      case rel => exact ⟨q + 1, by omega, HLT.out, by go_num, HBP.out⟩
      case measure => simp [intOf]; try omega
    · obtain rfl : len = q := by omega
      clear hB
      go_wp2_with fail
      go_ret
      exact ⟨rfl, HB.out⟩
/-- A workflow in memory. -/
structure WfIn (S : Nat → Prop) (w : World) (p : Nat) (ts : List Tk) (ne np m n : Nat) (f : Ky → Option ByteArray) : Prop where
  wf : WfT S w p ts ne np m
  mp : MapS w m n f
  mS : ∀ b, S b → b ≠ m
  pm : p ≠ m
theorem WfIn.below {S : Nat → Prop} {w w' : World} {p : Nat} {ts : List Tk} {ne np m n : Nat} {f : Ky → Option ByteArray} (h : WfIn S w p ts ne np m n f) (hB : Below w.heap.size w w') : WfIn S w' p ts ne np m n f :=
  ⟨h.wf.below hB, h.mp.below hB, h.mS, h.pm⟩
set_option maxRecDepth 20000 in
set_option maxHeartbeats 1000000 in
theorem notSigned {S : Nat → Prop} (w : World) (p : Nat) (ts : List Tk) (ne np m n : Nat) (f : Ky → Option ByteArray) (h : WfIn S w p ts ne np m n f) (k : Ky) (hk : k.ok) (cb : Nat) (hcb : w.heap[cb]? = some (.cells #[.pointer (some ⟨p, 0, none⟩)] 32 (0, 0))) :
    Calls Tryz.prog 56 #[k.v, .pointer (some ⟨cb, 0, none⟩)] w fun e w' => e = .returned (.bool (f k).isNone) ∧ Below w.heap.size w w' := by
  obtain ⟨k1, k2, k3⟩ := k
  have hB : Below w.heap.size w (w.alloc (.cells #[.string k1, .int .i64 k2, .int .i64 k3] 48)) := (Below.refl _ w).alloc (Nat.le_refl _) _
  have hkb := heap_alloc_new w (.cells #[.string k1, .int .i64 k2, .int .i64 k3] 48)
  have hcb' := (hB.block _ (blk_lt hcb)).trans hcb
  have h' := h.below hB
  obtain ⟨a, len, cap, xs, h1, -, -⟩ := h'.wf.row
  have H := Lib.hid h'
  have HB := Lib.hid hB
  have HK := Lib.hid hk
  have hC0 : Cells [(⟨cb, 0, none⟩, .pointer (some ⟨p, 0, none⟩)), (⟨p, 3, none⟩, .map (some m)), (⟨w.heap.size, 0, none⟩, .string k1), (⟨w.heap.size, 1, none⟩, .int .i64 k2), (⟨w.heap.size, 2, none⟩, .int .i64 k3)] (w.alloc (.cells #[.string k1, .int .i64 k2, .int .i64 k3] 48)) := ⟨blk_cell hcb' 0, blk_cell h1 3, blk_cell hkb 0, blk_cell hkb 1, blk_cell hkb 2, trivial⟩
  clear h h' hB hkb hcb hcb' h1 hk
  unfold Ky.v
  simp only
  go_enter Tryz.func56, Tryz.ntmps56
  go_wp2_with fail
  generalize w.alloc (.cells #[.string k1, .int .i64 k2, .int .i64 k3] 48) = w1 at *
  refine wp_region_T (Cells [(⟨cb, 0, none⟩, .pointer (some ⟨p, 0, none⟩)), (⟨p, 3, none⟩, .map (some m)), (⟨w.heap.size, 0, none⟩, .string k1), (⟨w.heap.size, 1, none⟩, .int .i64 k2), (⟨w.heap.size, 2, none⟩, .int .i64 k3)]) (fun _ => false) (by kernel_rfl) ?_
  have hSss2 := Cells.drew hC0
  have hB_0_s2 : Below w1.heap.size w1 w1.drew := below_drew _
  generalize w1.drew = s2 at hSss2 hB_0_s2 ⊢
  have hB_s2_s2 := Below.refl s2.heap.size s2
  refine wpAnyT_loadW (i := 0) (v := ?_) rfl (by kernel_rfl) (by kernel_rfl) (by kernel_rfl) (by kernel_rfl) (by kernel_rfl) (fun _ _ _ h => h) (Or.inl ⟨by rfl, ?_⟩) hSss2 ?_
  rotate_left
  · intro w hSw; obtain ⟨e0, e1, e2, e3, e4, -⟩ := hSw; go_simp; try with_reducible rfl
  simp only [Act.put, rgA, rgB, rgC, rgD, rgE, rgF]
  refine wpAnyT_pure (i := 1) (v := ?_) rfl (by kernel_rfl) (by kernel_rfl) (by kernel_rfl) (fun _ _ _ h => h) (by rfl) ?_ ?_
  rotate_left
  · intro w; go_simp; try with_reducible rfl
  simp only [Act.put, rgA, rgB, rgC, rgD, rgE, rgF]
  refine wpAnyT_pure (i := 2) (v := ?_) rfl (by kernel_rfl) (by kernel_rfl) (by kernel_rfl) (fun _ _ _ h => h) (by rfl) ?_ ?_
  rotate_left
  · intro w; go_simp; try with_reducible rfl
  simp only [Act.put, rgA, rgB, rgC, rgD, rgE, rgF]
  refine wpAnyT_loadW (i := 3) (v := ?_) rfl (by kernel_rfl) (by kernel_rfl) (by kernel_rfl) (by kernel_rfl) (by kernel_rfl) (fun _ _ _ h => h) (Or.inl ⟨by rfl, ?_⟩) hSss2 ?_
  rotate_left
  · intro w hSw; obtain ⟨e0, e1, e2, e3, e4, -⟩ := hSw; go_simp; try with_reducible rfl
  simp only [Act.put, rgA, rgB, rgC, rgD, rgE, rgF]
  refine wpAnyT_loadW (i := 4) (v := ?_) rfl (by kernel_rfl) (by kernel_rfl) (by kernel_rfl) (by kernel_rfl) (by kernel_rfl) (fun _ _ _ h => h) (Or.inl ⟨by rfl, ?_⟩) hSss2 ?_
  rotate_left
  · intro w hSw; obtain ⟨e0, e1, e2, e3, e4, -⟩ := hSw; go_simp; try with_reducible rfl
  simp only [Act.put, rgA, rgB, rgC, rgD, rgE, rgF]
  refine wpAnyT_one (i := 5) (by kernel_rfl) rfl (by rfl) ?_
  have hlk := MapG.look2 ((H.out.below (hB_0_s2.trans ((hB_s2_s2).mono (hB_0_s2).size))).mp) Tryz.underlying90 ⟨k1, k2, k3⟩ HK.out
  change Sem.run Tryz.prog (Instr.lookup 90 (.map (some m)) (.agg #[.string k1, .int .i64 k2, .int .i64 k3]) true) s2 = _ at hlk
  refine wp_value (v := .tuple #[.string ((f ⟨k1, k2, k3⟩).getD ⟨#[]⟩), .bool (f ⟨k1, k2, k3⟩).isSome]) (w' := s2) (by go_simp; rfl) ?_
  clear hlk
  refine ⟨fun _ h => h, ?_⟩
  try simp only [Act.put, rgA, rgB, rgC, rgD, rgE, rgF]
  refine wpAnyT_pure (i := 6) (v := ?_) rfl (by kernel_rfl) (by kernel_rfl) (by kernel_rfl) (fun _ _ _ h => h) (by rfl) ?_ ?_
  rotate_left
  · intro w; go_simp; try with_reducible rfl
  simp only [Act.put, rgA, rgB, rgC, rgD, rgE, rgF]
  refine wpAnyT_pure (i := 7) (v := ?_) rfl (by kernel_rfl) (by kernel_rfl) (by kernel_rfl) (fun _ _ _ h => h) (by rfl) ?_ ?_
  rotate_left
  · intro w; go_simp; try with_reducible rfl
  simp only [Act.put, rgA, rgB, rgC, rgD, rgE, rgF]
  refine wpAnyT_pure (i := 8) (v := ?_) rfl (by kernel_rfl) (by kernel_rfl) (by kernel_rfl) (fun _ _ _ h => h) (by rfl) ?_ ?_
  rotate_left
  · intro w; go_simp; try with_reducible rfl
  simp only [Act.put, rgA, rgB, rgC, rgD, rgE, rgF]
  refine wpAnyT_pure (i := 9) (v := ?_) rfl (by kernel_rfl) (by kernel_rfl) (by kernel_rfl) (fun _ _ _ h => h) (by rfl) ?_ ?_
  rotate_left
  · intro w; go_simp; try with_reducible rfl
  simp only [Act.put, rgA, rgB, rgC, rgD, rgE, rgF]
  refine wpAnyT_pure (i := 10) (v := ?_) rfl (by kernel_rfl) (by kernel_rfl) (by kernel_rfl) (fun _ _ _ h => h) (by rfl) ?_ ?_
  rotate_left
  · intro w; go_simp; try with_reducible rfl
  simp only [Act.put, rgA, rgB, rgC, rgD, rgE, rgF]
  refine wpAnyT_done (by kernel_rfl) ?_ _
  have hbP : Below w1.heap.size w1 s2 := hB_0_s2.trans ((hB_s2_s2).mono (hB_0_s2).size)
  go_wp2_with fail
  go_ret
  exact ⟨by first | rfl | simp, below_step HB.out hbP⟩
end Go.Proofs.YtdcjocldggmdbaaGreat

/- Layer 53: whether a key of a list is not signed. -/
set_option linter.unusedSimpArgs false
namespace Go.Proofs.YtdcjocldggmdbaaGreat
open Go.RowKit Go

set_option maxRecDepth 20000 in
set_option maxHeartbeats 1000000 in
theorem anyIndex {S T : Nat → Prop} (w : World) (p : Nat) (ts : List Tk) (ne np m n : Nat) (f : Ky → Option ByteArray) (h : WfIn S w p ts ne np m n f) (a : Option Addr) (len cap : Nat) (l : List Ky) (hx : Rd (.sl keyT) T w [.slice a len cap] (l.map Ky.d)) (hT : ∀ b, T b → b < w.heap.size) (cb : Nat) (hcb : w.heap[cb]? = some (.cells #[.pointer (some ⟨p, 0, none⟩)] 32 (0, 0))) :
    Calls Tryz.prog 67 #[.slice a len cap, .func (.func 56) #[] #[.pointer (some ⟨cb, 0, none⟩)]] w fun e w' => (∃ r : Int, e = .returned (.int .i64 r) ∧ decide (0 ≤ r) = l.any fun k => (f k).isNone) ∧ Below w.heap.size w w' := by
  obtain ⟨hl, hlc, hm, -⟩ := hx.sl_flat
  rw [List.length_map] at hl
  have HX := Lib.hid hx
  have HL := Lib.hid hl
  have HT := Lib.hid hT
  have HCB := Lib.hid hcb
  have H := Lib.hid h
  clear hx hl hT hcb h
  go_enter Tryz.func67, Tryz.ntmps67
  go_wp2_with fail
  go_loopw [5, 8] (fun _ i wr => ∃ (k : Nat), k ≤ len ∧ i = .int .i64 k ∧ ((l.take k).any fun k => (f k).isNone) = false ∧ Below w.heap.size w wr) (fun _ i _ => len - (intOf i).toNat)
  case atStart => exact ⟨0, Nat.zero_le _, rfl, rfl, Below.refl _ _⟩
  case round =>
    obtain ⟨k, hk, rfl, hany, hB⟩ := hrel
    have HB := Lib.hid hB
    by_cases hlt : k < len
    · have hkx : k < l.length := by rw [HL.out]; exact hlt
      obtain ⟨b, o, rfl, -, m0, m1, m2, hok⟩ := key_at (HX.out.below hB HT.out) k hkx
      have hstep : ((l.take (k + 1)).any fun k => (f k).isNone) = (f l[k]).isNone := by
        rw [List.take_succ_eq_append_getElem hkx, List.any_append, hany]
        simp
      have hsome : (f l[k]).isNone = true → (l.any fun k => (f k).isNone) = true := fun h => List.any_eq_true.2 ⟨l[k], List.getElem_mem hkx, h⟩
      have HST := Lib.hid hstep
      have HSO := Lib.hid hsome
      have hkI : (k : Int) < (len : Int) := by omega
      have hcw := (HB.out.block _ (blk_lt HCB.out)).trans HCB.out
      have HCL := Lib.hid (notSigned wr p ts ne np m n f (H.out.below HB.out) l[k] hok cb hcw)
      have HLT := Lib.hid hlt
      clear hstep hsome hany hB hlt hcw
      generalize l[k] = q at m0 m1 m2 hok HST HSO HCL
      obtain ⟨bd, hbd⟩ : ∃ bd, (f q).isNone = bd := ⟨_, rfl⟩
      rw [hbd] at HST HSO HCL
      clear hbd
      obtain ⟨q1, q2, q3⟩ := q
      unfold Ky.v at HCL
      simp only at m0 m1 m2 HCL
      cases bd
      · go_wp2_with fail
        refine (HCL.out).mono ?_
        rintro e w1 ⟨rfl, hw⟩
        have HW := Lib.hid hw
        clear hw
        go_wp2_with fail
        go_roundw
        case rel => exact ⟨k + 1, HLT.out, by go_num, HST.out, below_step HB.out HW.out⟩
        case measure => simp [intOf]; try omega
      · go_wp2_with fail
        refine (HCL.out).mono ?_
        rintro e w1 ⟨rfl, hw⟩
        have HW := Lib.hid hw
        clear hw
        go_wp2_with fail
        go_ret
        refine ⟨⟨(k : Int), ?_, ?_⟩, ?_⟩
        · first | rfl | simp
        · rw [HSO.out (by first | rfl | trivial)]; exact decide_eq_true (by omega)
        · exact below_step HB.out HW.out
    · obtain rfl : k = len := by omega
      rw [List.take_of_length_le (by rw [HL.out]; exact Nat.le_refl _)] at hany
      have HN := Lib.hid hany
      clear hany hB
      go_wp2_with fail
      go_ret
      refine ⟨⟨-1, ?_, ?_⟩, ?_⟩
      · first | rfl | simp
      · rw [HN.out]; rfl
      · exact HB.out
set_option maxHeartbeats 1000000 in
theorem anyNot {S T : Nat → Prop} (w : World) (p : Nat) (ts : List Tk) (ne np m n : Nat) (f : Ky → Option ByteArray) (h : WfIn S w p ts ne np m n f) (a : Option Addr) (len cap : Nat) (l : List Ky) (hx : Rd (.sl keyT) T w [.slice a len cap] (l.map Ky.d)) (hT : ∀ b, T b → b < w.heap.size) (cb : Nat) (hcb : w.heap[cb]? = some (.cells #[.pointer (some ⟨p, 0, none⟩)] 32 (0, 0))) :
    Calls Tryz.prog 55 #[.slice a len cap, .func (.func 56) #[] #[.pointer (some ⟨cb, 0, none⟩)]] w fun e w' => e = .returned (.bool (l.any fun k => (f k).isNone)) ∧ Below w.heap.size w w' := by
  have HX := Lib.hid (anyIndex w p ts ne np m n f h a len cap l hx hT cb hcb)
  clear hx hcb h
  go_enter Tryz.func55, Tryz.ntmps55
  go_wp2_with fail
  refine (HX.out).mono ?_
  rintro e w1 ⟨⟨r, rfl, hr⟩, hw⟩
  go_wp2
  go_ret
  exact ⟨by rw [← hr]; rfl, hw⟩
end Go.Proofs.YtdcjocldggmdbaaGreat

/- Layer 53: the sort of few keys (by insertion; what is asked is that it leaves a permutation). -/
set_option linter.unusedSimpArgs false
namespace Go.Proofs.YtdcjocldggmdbaaGreat
open Go.RowKit Go

/-- Keys in a row. -/
def KRow (w : World) (g : Nat) (l : List Ky) : Prop := ∃ cs : Array Value, w.heap[g]? = some (.cells cs 48 (0, 0)) ∧ ∀ i (hi : i < l.length), cs[i * 3]? = some (.string l[i].task) ∧ cs[i * 3 + 1]? = some (.int .i64 l[i].ent) ∧ cs[i * 3 + 2]? = some (.int .i64 l[i].per)
theorem KRow.lt {w : World} {g : Nat} {l : List Ky} (h : KRow w g l) : g < w.heap.size := by obtain ⟨cs, h1, -⟩ := h; exact blk_lt h1
theorem KRow.below {w w' : World} {g : Nat} {l : List Ky} (h : KRow w g l) (hB : Below w.heap.size w w') : KRow w' g l := by
  obtain ⟨cs, h1, h2⟩ := h
  exact ⟨cs, (hB.block _ (blk_lt h1)).trans h1, h2⟩
theorem KRow.cell {w : World} {g : Nat} {l : List Ky} (h : KRow w g l) (i : Nat) (hi : i < l.length) : w.cell? ⟨g, i * 3, none⟩ = some (.string l[i].task) ∧ w.cell? ⟨g, i * 3 + 1, none⟩ = some (.int .i64 l[i].ent) ∧ w.cell? ⟨g, i * 3 + 2, none⟩ = some (.int .i64 l[i].per) := by
  obtain ⟨cs, h1, h2⟩ := h
  obtain ⟨a, b, c⟩ := h2 i hi
  exact ⟨(blk_cell h1 _).trans a, (blk_cell h1 _).trans b, (blk_cell h1 _).trans c⟩
theorem KRow.rd {w : World} {g : Nat} {l : List Ky} (h : KRow w g l) (hok : ∀ k ∈ l, k.ok) (cap : Nat) (hc : l.length ≤ cap) (hm : cap ≤ 9223372036854775807) : Rd (.sl keyT) (fun b => b = g) w [.slice (some ⟨g, 0, none⟩) l.length cap] (l.map Ky.d) := by
  refine ⟨_, _, cap, rfl, List.length_map _, hc, hm, .inr ⟨g, 0, rfl, rfl, fun i hi => ?_⟩⟩
  have hi' : i < l.length := by rw [List.length_map] at hi; exact hi
  obtain ⟨a, b, c⟩ := h.cell i hi'
  refine ⟨[.string l[i].task, .int .i64 l[i].ent, .int .i64 l[i].per], rfl, fun j u hu => ?_, ?_⟩
  · rw [show 0 + i * keyT.sz + j = i * 3 + j by rw [keyT_sz]; omega]
    match j, hu with
    | 0, hu => rw [Nat.add_zero, a]; simpa using hu
    | 1, hu => rw [b]; simpa using hu
    | 2, hu => rw [c]; simpa using hu
    | j + 3, hu => simp at hu
  · show Rd keyT _ _ _ (List.map Ky.d l)[i]
    rw [List.getElem_map]
    exact key_rd (hok _ (List.getElem_mem hi'))
def kvs (k : Ky) : List Value := [.string k.task, .int .i64 k.ent, .int .i64 k.per]
theorem gr_setCells (b : Nat) : ∀ (vs : List Value) (o : Nat) (w : World), Gr (fun x => x = b) w (w.setCells b o vs)
  | [], _, w => Gr.refl _ w
  | v :: r, o, w => (show Gr (fun x => x = b) w (w.setCell ⟨b, o, none⟩ v) from (Gr.refl (fun x => x = b) w).setCell (.inl rfl) v).trans (gr_setCells b r (o + 1) _) (fun _ h => .inl h)
/-- A key is written. -/
theorem KRow.set {w : World} {g : Nat} {l : List Ky} (h : KRow w g l) (P : Program) (j : Nat) (hj : j < l.length) (k : Ky) :
    Sem.run P (storeCells ⟨g, j * 3, none⟩ (kvs k)) w = .ok () (w.setCells g (j * 3) (kvs k)) ∧ KRow (w.setCells g (j * 3) (kvs k)) g (l.set j k) := by
  obtain ⟨cs, h1, h2⟩ := h
  obtain ⟨a0, a1, a2⟩ := h2 j hj
  constructor
  · have := run_storeCells_cells (P := P) g (j * 3) (kvs k) 0 w (fun c hc => ?_) (fun c hc => ?_) (fun v hv => ?_)
    · simpa using this
    · have hc : c < 3 := hc
      rw [Nat.add_zero, blk_cell h1]
      match c, hc with
      | 0, _ => rw [Nat.add_zero, a0]; rfl
      | 1, _ => rw [a1]; rfl
      | 2, _ => rw [a2]; rfl
    · exact blk_frozen h1 _
    · simp [kvs] at hv
      rcases hv with rfl | rfl | rfl <;> rfl
  · have e0 := blk_set (i := j * 3) h1 (.string k.task)
    have e1 := blk_set (i := j * 3 + 1) e0 (.int .i64 k.ent)
    have e2 := blk_set (i := j * 3 + 1 + 1) e1 (.int .i64 k.per)
    refine ⟨_, e2, fun i hi => ?_⟩
    rw [List.length_set] at hi
    obtain ⟨b0, b1, b2⟩ := h2 i hi
    have l0 := (Array.getElem?_eq_some_iff.1 a0).1
    have l1 := (Array.getElem?_eq_some_iff.1 a1).1
    have l2 := (Array.getElem?_eq_some_iff.1 a2).1
    simp only [Array.getElem?_setIfInBounds, Array.size_setIfInBounds]
    by_cases e : i = j
    · subst e
      rw [List.getElem_set_self]
      refine ⟨?_, ?_, ?_⟩
      · rw [if_neg (by omega), if_neg (by omega), if_pos rfl, if_pos l0]
      · rw [if_neg (by omega), if_pos rfl, if_pos l1]
      · rw [if_pos (by omega), if_pos (by omega)]
    · rw [List.getElem_set_ne (fun e' => e e'.symm)]
      refine ⟨?_, ?_, ?_⟩
      · rw [if_neg (by omega), if_neg (by omega), if_neg (by omega)]; exact b0
      · rw [if_neg (by omega), if_neg (by omega), if_neg (by omega)]; exact b1
      · rw [if_neg (by omega), if_neg (by omega), if_neg (by omega)]; exact b2
theorem wp_storeK {P : Program} {o : Oper} {a : Act} {w w' : World} {K : Act → World → Prop} {Q : Exit → Act → World → Prop} (ty : TypeId) (x y : Operand) (ho : o.op = .store ty x y) (p : Addr) (v : Value)
    (hx : a.eval x = .pointer (some p)) (hy : a.eval y = v) (hsz : (Go.sizeOf ty).run P w = .ok v.cells.size w) (hrun : (storeCells p v.cells.toList).run P w = .ok () w') (h : K (a.put o.dst undef) w') : o.wp P a w K Q := by
  have hst : (storeVar ty p v).run P w = .ok () w' := by
    unfold storeVar
    simp only [Sem.run_bind, hsz, Result.andThen_ok]
    rw [if_neg (by simp)]
    exact hrun
  unfold Oper.wp execOp
  simp only [ho, hx, hy, Instr.storeAt, Instr.sureAddr, Sem.run_bind, Sem.run_pure, Result.andThen_ok, hst]
  exact h
end Go.Proofs.YtdcjocldggmdbaaGreat

/- Layer 53: the sort of few keys. -/
set_option linter.unusedSimpArgs false
namespace Go.Proofs.YtdcjocldggmdbaaGreat
open Go.RowKit Go

def cmpV (p : Nat) : Value := .func (.func 44) #[.pointer (some ⟨p, 0, none⟩)] #[]
theorem sizeK (w : World) : (Go.sizeOf 48).run Tryz.prog w = .ok 3 w := by kernel_rfl
set_option maxRecDepth 20000 in
set_option maxHeartbeats 1000000 in
theorem insert0 (w : World) (a : Option Addr) (cap : Nat) (fv : Value) :
    Calls Tryz.prog 82 #[.slice a 0 cap, .int .i64 0, .int .i64 0, fv] w fun e w' => e = .returned (.tuple #[]) ∧ w' = w := by
  go_enter Tryz.func82, Tryz.ntmps82
  go_wp2_with fail
  refine wp_loop_rounds 1 ?_
  repeat any_goals (rw [rounds_succ]; go_wp2)
  refine bodyPost_end (results_none rfl _ _ _) rfl ?_
  exact ⟨rfl, rfl⟩
def LenP (w : World) (e : Ending) (w' : World) : Prop := ∃ r, e = .returned (.int .i64 r) ∧ w' = w
set_option maxRecDepth 100000 in
set_option maxHeartbeats 1000000 in
theorem len64 (w : World) (n : Nat) (hn : n ≤ 12) : Calls Tryz.prog 78 #[.int .u64 n] w (LenP w) := by
  have h1 : ¬ (4294967296 : Int) ≤ (n : Int) := by omega
  have h2 : ¬ (65536 : Int) ≤ (n : Int) := by omega
  have h3 : ¬ (256 : Int) ≤ (n : Int) := by omega
  go_enter Tryz.func78, Tryz.ntmps78
  match n, hn with
  | 0, _ => go_wp2; go_ret; exact ⟨_, rfl, rfl⟩
  | 1, _ => go_wp2; go_ret; exact ⟨_, rfl, rfl⟩
  | 2, _ => go_wp2; go_ret; exact ⟨_, rfl, rfl⟩
  | 3, _ => go_wp2; go_ret; exact ⟨_, rfl, rfl⟩
  | 4, _ => go_wp2; go_ret; exact ⟨_, rfl, rfl⟩
  | 5, _ => go_wp2; go_ret; exact ⟨_, rfl, rfl⟩
  | 6, _ => go_wp2; go_ret; exact ⟨_, rfl, rfl⟩
  | 7, _ => go_wp2; go_ret; exact ⟨_, rfl, rfl⟩
  | 8, _ => go_wp2; go_ret; exact ⟨_, rfl, rfl⟩
  | 9, _ => go_wp2; go_ret; exact ⟨_, rfl, rfl⟩
  | 10, _ => go_wp2; go_ret; exact ⟨_, rfl, rfl⟩
  | 11, _ => go_wp2; go_ret; exact ⟨_, rfl, rfl⟩
  | 12, _ => go_wp2; go_ret; exact ⟨_, rfl, rfl⟩
  | n + 13, h => omega
theorem len53 (w : World) (n : Nat) (hn : n ≤ 12) : Calls Tryz.prog 59 #[.int .u64 n] w (LenP w) := by
  have H := Lib.hid (len64 w n hn)
  go_enter Tryz.func59, Tryz.ntmps59
  go_wp2_with fail
  refine H.out.mono ?_
  rintro e w1 ⟨r, rfl, rfl⟩
  go_wp2_with fail
  go_ret
  exact ⟨_, rfl, rfl⟩
set_option maxRecDepth 20000 in
set_option maxHeartbeats 1000000 in
theorem pdq53 (w : World) (a : Option Addr) (cap n : Nat) (hn : n ≤ 12) (r : Int) (fv : Value) (Q : Ending → World → Prop) (hI : Calls Tryz.prog 82 #[.slice a n cap, .int .i64 0, .int .i64 n, fv] w fun e w' => e = .returned (.tuple #[]) ∧ Q e w') :
    Calls Tryz.prog 64 #[.slice a n cap, .int .i64 0, .int .i64 n, .int .i64 r, fv] w Q := by
  have H := Lib.hid hI
  have hnI : (n : Int) ≤ 12 := by omega
  have hw : IntKind.i64.wrap (n : Int) = (n : Int) := by rw [IntKind.wrap_i64] <;> omega
  clear hI
  go_enter Tryz.func64, Tryz.ntmps64
  go_wp2_with fail
  refine wp_loop_rounds 1 ?_
  repeat any_goals (rw [rounds_succ]; go_wp2_with fail)
  refine H.out.mono ?_
  rintro e w1 ⟨rfl, hq⟩
  go_wp2_with fail
  refine bodyPost_ret (results_none rfl _ _ _) rfl ?_
  exact hq
set_option maxHeartbeats 1000000 in
theorem sort53 (w : World) (a : Option Addr) (cap n : Nat) (hn : n ≤ 12) (fv : Value) (Q : Ending → World → Prop) (hI : Calls Tryz.prog 82 #[.slice a n cap, .int .i64 0, .int .i64 n, fv] w fun e w' => e = .returned (.tuple #[]) ∧ Q e w') :
    Calls Tryz.prog 48 #[.slice a n cap, fv] w Q := by
  have H := Lib.hid fun r => pdq53 w a cap n hn r fv (fun e w' => e = .returned (.tuple #[]) ∧ Q e w') (hI.mono fun _ _ h => ⟨h.1, h⟩)
  have hw : IntKind.u64.wrap (n : Int) = (n : Int) := by
    have : (n : Int) < 18446744073709551616 := by omega
    have : (0 : Int) ≤ n := by omega
    simp [IntKind.wrap, IntKind.bits, IntKind.signed]
    omega
  clear hI
  go_enter Tryz.func48, Tryz.ntmps48
  go_wp2_with fail
  refine (len53 w n hn).mono ?_
  rintro e w1 ⟨r, rfl, rfl⟩
  go_wp2_with fail
  refine (H.out r).mono ?_
  rintro e w1 ⟨rfl, hq⟩
  go_wp2_with fail
  refine bodyPost_end (results_none rfl _ _ _) rfl ?_
  exact hq
end Go.Proofs.YtdcjocldggmdbaaGreat
