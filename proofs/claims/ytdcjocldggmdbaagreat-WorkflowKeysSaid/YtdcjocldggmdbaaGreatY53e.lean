/- Layer 53: the comparison of keys, told so that the count of draws does not go down (the kit's sort asks for that). -/
import Derived.Test.YtdcjocldggmdbaaGreatX53i
import Derived.Lib.QuietBelow
import Derived.Test.YtdcjocldggmdbaaGreatW53z
import Derived.Shelf.SlSortCmp.NoneTotal
import Derived.Shelf.SlGeneric
import Derived.Ground.SlsfProg
import Derived.Test.YtdcjocldggmdbaaGreatW53i
import Derived.Maps.RangeWalk
set_option linter.unusedSimpArgs false
set_option maxRecDepth 50000
namespace Go.Proofs.YtdcjocldggmdbaaGreat.Dr
open Go.RowKit Go
/-- Nothing old has turned, and the count of draws has not gone down. -/
structure Below (B : Nat) (w w' : World) : Prop where
  b : Go.RowKit.Below B w w'
  d : w.drawn ≤ w'.drawn
theorem Below.refl (B : Nat) (w : World) : Below B w w := ⟨Go.RowKit.Below.refl B w, Nat.le_refl _⟩
theorem Below.size {B : Nat} {w w' : World} (h : Below B w w') : w.heap.size ≤ w'.heap.size := h.b.size
theorem Below.block {B : Nat} {w w' : World} (h : Below B w w') : ∀ k, k < B → w'.heap[k]? = w.heap[k]? := h.b.block
theorem Below.trans {B : Nat} {a b c : World} (h : Below B a b) (k : Below B b c) : Below B a c := ⟨h.b.trans k.b, Nat.le_trans h.d k.d⟩
theorem Below.mono {B B' : Nat} {w w' : World} (h : Below B w w') (hB : B' ≤ B) : Below B' w w' := ⟨h.b.mono hB, h.d⟩
theorem Below.alloc {B : Nat} {a w : World} (h : Below B a w) (hB : B ≤ w.heap.size) (o : Obj) : Below B a (w.alloc o) := ⟨h.b.alloc hB o, h.d⟩
theorem below_step {w0 w w' : World} (h : Below w0.heap.size w0 w) (h' : Below w.heap.size w w') : Below w0.heap.size w0 w' := h.trans (h'.mono h.size)
theorem below_drew (w : World) : Below w.heap.size w w.drew := ⟨(Go.RowKit.Below.refl _ _).drew, Nat.le_succ _⟩
theorem Cells.below {w w' : World} (hB : Below w.heap.size w w') {l : List (Addr × Value)} (h : Cells l w) : Cells l w' := Go.Proofs.YtdcjocldggmdbaaGreat.Cells.below hB.b h
theorem wp_newrow {P : Program} {o : Oper} {a : Act} {w : World} {K : Act → World → Prop} {Q : Exit → Act → World → Prop} {v : Value} {cs : Array Value} {te : TypeId} (he : (execOp a.eval o).run P w = .ok (.value v) (w.alloc (.cells cs te))) (h : ∀ w2, Below w.heap.size w w2 → w2.heap[w.heap.size]? = some (.cells cs te (0, 0)) → K (a.put o.dst v) w2) : o.wp P a w K Q :=
  wp_value he (h _ ((Below.refl _ w).alloc (Nat.le_refl _) _) (heap_alloc_new w _))
theorem compareB (w : World) (a b : Int) : Calls Tryz.prog 61 #[.int .i64 a, .int .i64 b] w fun e w' => e = .returned (.int .i64 (cmpI a b)) ∧ Below w.heap.size w w' :=
  (compareI_sum w a b).mono fun _ _ ⟨h1, h2⟩ => ⟨h1, by rw [h2]; exact Below.refl _ _⟩
theorem orB (w : World) (g : Nat) (cap : Nat) (a b c : Int) (h0 : w.cell? ⟨g, 0, none⟩ = some (.int .i64 a)) (h1 : w.cell? ⟨g, 1, none⟩ = some (.int .i64 b)) (h2 : w.cell? ⟨g, 2, none⟩ = some (.int .i64 c)) :
    Calls Tryz.prog 60 #[.slice (some ⟨g, 0, none⟩) 3 cap] w fun e w' => e = .returned (.int .i64 (orI a b c)) ∧ Below w.heap.size w w' :=
  (or_sum w g cap a b c h0 h1 h2).mono fun _ _ ⟨h1, h2⟩ => ⟨h1, by rw [h2]; exact Below.refl _ _⟩
theorem taskSame (w : World) (nm n : ByteArray) (na : Option Addr) (nl nc : Nat) (g f : Bool) (cb : Nat) (hb : w.heap[cb]? = some (.cells #[.string n] 9 (0, 0))) :
    Calls Tryz.prog 66 #[.agg #[.string nm, .slice na nl nc, .bool g, .bool f], .pointer (some ⟨cb, 0, none⟩)] w fun e w' => e = .returned (.bool (decide (nm = n))) ∧ Below w.heap.size w w' := by
  have hB : Below w.heap.size w (w.alloc (.cells #[.string nm, .slice na nl nc, .bool g, .bool f] 68)) := (Below.refl _ w).alloc (Nat.le_refl _) _
  have hb' := (hB.block _ (blk_lt hb)).trans hb
  have k0 := blk_cell hb' 0
  simp at k0
  clear hb hb'
  rw [← strB]
  go_enter Tryz.func66, Tryz.ntmps66
  go_wp2
  go_ret
  exact ⟨rfl, hB⟩
set_option maxRecDepth 20000 in
set_option maxHeartbeats 1000000 in
theorem placeIndex {S : Nat → Prop} (w : World) (a : Option Addr) (len cap : Nat) (xs : List taskT.den) (hx : Rd (.sl taskT) S w [.slice a len cap] xs) (hS : ∀ b, S b → b < w.heap.size) (cb : Nat) (n : ByteArray) (hcb : w.heap[cb]? = some (.cells #[.string n] 9 (0, 0))) :
    Calls Tryz.prog 65 #[.slice a len cap, .func (.func 66) #[] #[.pointer (some ⟨cb, 0, none⟩)]] w fun e w' => e = .returned (.int .i64 (plcI (xs.map tk) n)) ∧ Below w.heap.size w w' := by
  obtain ⟨hl, hlc, hm, -⟩ := hx.sl_flat
  have HX := Lib.hid hx
  have HL := Lib.hid hl
  have HS := Lib.hid hS
  have HCB := Lib.hid hcb
  clear hx hl hS hcb
  go_enter Tryz.func65, Tryz.ntmps65
  go_wp2_with fail
  go_loopw [5, 8] (fun _ i wr => ∃ (k : Nat), k ≤ len ∧ i = .int .i64 k ∧ (∀ j (hj : j < xs.length), j < k → (tk xs[j]).name ≠ n) ∧ Below w.heap.size w wr) (fun _ i _ => len - (intOf i).toNat)
  case atStart => exact ⟨0, Nat.zero_le _, rfl, fun j _ hj => absurd hj (by omega), Below.refl _ _⟩
  case round =>
    obtain ⟨k, hk, rfl, hno, hB⟩ := hrel
    have HNO := Lib.hid hno
    have HB := Lib.hid hB
    clear hno
    by_cases hlt : k < len
    · have hkx : k < xs.length := by rw [HL.out]; exact hlt
      obtain ⟨b, o, na, nl, nc, rfl, -, m0, m1, m2, m3, -, -⟩ := task_at (HX.out.below hB.b HS.out) k hkx
      have hkI : (k : Int) < (len : Int) := by omega
      have hcw := (HB.out.block _ (blk_lt HCB.out)).trans HCB.out
      obtain ⟨t, ht⟩ : ∃ t, tk xs[k] = t := ⟨_, rfl⟩
      rw [ht] at m0 m2 m3
      obtain ⟨bd, hbd⟩ : ∃ bd, decide (t.name = n) = bd := ⟨_, rfl⟩
      have HNN := Lib.hid (show bd = false → ∀ j (hj : j < xs.length), j < k + 1 → (tk xs[j]).name ≠ n from fun h j hj hjk => by
        by_cases e : j = k
        · subst e; rw [ht]; exact of_decide_eq_false (hbd.trans h)
        · exact HNO.out j hj (by omega))
      have HYY := Lib.hid (show bd = true → plcI (xs.map tk) n = k from fun h => by
        have hkm : k < (xs.map tk).length := by rw [List.length_map]; exact hkx
        have e : plc (xs.map tk) n = k := plc_hit hkm (by rw [List.getElem_map, ht]; exact of_decide_eq_true (hbd.trans h)) fun j hj => by rw [List.getElem_map]; exact HNO.out j (by omega) hj
        unfold plcI
        rw [e, if_pos hkm])
      obtain ⟨nm, nd, g, f⟩ := t
      simp only at m0 m1 m2 m3 hbd
      have HCL := Lib.hid (taskSame wr nm n na nl nc g f cb hcw)
      rw [hbd] at HCL
      have HLT := Lib.hid hlt
      clear hcw hB hbd ht
      cases bd
      · go_wp2_with (go_at_call 66; refine (HCL.out).mono ?_; rintro e w1 ⟨rfl, hw⟩; have HW := Lib.hid hw; clear hw)
        go_roundw
        case rel => exact ⟨k + 1, HLT.out, by go_num, HNN.out (by first | rfl | trivial), below_step HB.out HW.out⟩
        case measure => simp [intOf]; try omega
      · go_wp2_with (go_at_call 66; refine (HCL.out).mono ?_; rintro e w1 ⟨rfl, hw⟩; have HW := Lib.hid hw; clear hw)
        go_ret
        rw [HYY.out (by first | rfl | trivial)]
        exact ⟨rfl, below_step HB.out HW.out⟩
    · obtain rfl : len = k := by omega
      have HN := Lib.hid (show plcI (xs.map tk) n = -1 from by
        have e : plc (xs.map tk) n = (xs.map tk).length := plc_miss fun j hj => by
          rw [List.length_map] at hj
          rw [List.getElem_map]; exact HNO.out j hj (by rw [← HL.out]; exact hj)
        unfold plcI
        rw [e, if_neg (Nat.lt_irrefl _)])
      clear hB
      go_wp2_with fail
      go_ret
      rw [HN.out]
      exact ⟨rfl, HB.out⟩
set_option maxRecDepth 20000 in
theorem place53 {S : Nat → Prop} (w : World) (p : Nat) (ts : List Tk) (ne np m : Nat) (h : WfT S w p ts ne np m) (n : ByteArray) :
    Calls Tryz.prog 52 #[.pointer (some ⟨p, 0, none⟩), .string n] w fun e w' => e = .returned (.int .i64 (plcI ts n)) ∧ Below w.heap.size w w' := by
  have hB : Below w.heap.size w (w.alloc (.cells #[.string n] 9)) := (Below.refl _ w).alloc (Nat.le_refl _) _
  have hcb := heap_alloc_new w (.cells #[.string n] 9)
  have h' := h.below hB.b
  obtain ⟨a, len, cap, xs, h1, h2, h3⟩ := h'.row
  have y0 := blk_cell h1 0
  simp at y0
  have HI := Lib.hid (placeIndex _ a len cap xs h2 h'.hS w.heap.size n hcb)
  rw [h3] at HI
  have HB := Lib.hid hB
  clear h h' hcb h1 h2 h3 hB
  go_enter Tryz.func52, Tryz.ntmps52
  go_wp2_with fail
  refine (HI.out).mono ?_
  rintro e w1 ⟨rfl, hw⟩
  have HW := Lib.hid (below_step HB.out hw)
  clear hw
  go_wp2_with fail
  go_ret
  exact ⟨rfl, HW.out⟩
set_option maxRecDepth 20000 in
set_option maxHeartbeats 1000000 in
theorem compare53 {S : Nat → Prop} (w : World) (p : Nat) (ts : List Tk) (ne np m : Nat) (h : WfT S w p ts ne np m) (x y : Ky) :
    Calls Tryz.prog 44 #[.pointer (some ⟨p, 0, none⟩), x.v, y.v] w fun e w' => e = .returned (.int .i64 (orI (cmpI x.per y.per) (cmpI (plcI ts x.task) (plcI ts y.task)) (cmpI x.ent y.ent))) ∧ Below w.heap.size w w' := by
  obtain ⟨x1, x2, x3⟩ := x
  obtain ⟨y1, y2, y3⟩ := y
  unfold Ky.v
  simp only
  have hh2 := heap_alloc2_old w (.cells #[.string x1, .int .i64 x2, .int .i64 x3] 48) (.cells #[.string y1, .int .i64 y2, .int .i64 y3] 48)
  have hr2 := heap_alloc2_new w (.cells #[.string x1, .int .i64 x2, .int .i64 x3] 48) (.cells #[.string y1, .int .i64 y2, .int .i64 y3] 48)
  have hB1 : Below w.heap.size w ((w.alloc (.cells #[.string x1, .int .i64 x2, .int .i64 x3] 48)).alloc (.cells #[.string y1, .int .i64 y2, .int .i64 y3] 48)) := ((Below.refl _ w).alloc (Nat.le_refl _) _).alloc (by simp) _
  have HB1 := Lib.hid hB1
  have HW := Lib.hid (h.below hB1.b)
  have hC0 : Cells [(⟨w.heap.size, 0, none⟩, .string x1), (⟨w.heap.size, 1, none⟩, .int .i64 x2), (⟨w.heap.size, 2, none⟩, .int .i64 x3), (⟨w.heap.size + 1, 0, none⟩, .string y1), (⟨w.heap.size + 1, 1, none⟩, .int .i64 y2), (⟨w.heap.size + 1, 2, none⟩, .int .i64 y3)] ((w.alloc (.cells #[.string x1, .int .i64 x2, .int .i64 x3] 48)).alloc (.cells #[.string y1, .int .i64 y2, .int .i64 y3] 48)) := ⟨blk_cell hh2 0, blk_cell hh2 1, blk_cell hh2 2, blk_cell hr2 0, blk_cell hr2 1, blk_cell hr2 2, trivial⟩
  clear h hh2 hr2 hB1
  go_enter Tryz.func44, Tryz.ntmps44
  go_wp2_with fail
  generalize (w.alloc (.cells #[.string x1, .int .i64 x2, .int .i64 x3] 48)).alloc (.cells #[.string y1, .int .i64 y2, .int .i64 y3] 48) = w1 at *
  refine wp_region_T (Cells [(⟨w.heap.size, 0, none⟩, .string x1), (⟨w.heap.size, 1, none⟩, .int .i64 x2), (⟨w.heap.size, 2, none⟩, .int .i64 x3), (⟨w.heap.size + 1, 0, none⟩, .string y1), (⟨w.heap.size + 1, 1, none⟩, .int .i64 y2), (⟨w.heap.size + 1, 2, none⟩, .int .i64 y3)]) (fun _ => false) (by kernel_rfl) ?_
  have hSss1 := Cells.drew hC0
  have hB_0_s1 : Below w1.heap.size w1 w1.drew := below_drew _
  generalize w1.drew = s1 at hSss1 hB_0_s1 ⊢
  have hB_s1_s1 := Below.refl s1.heap.size s1
  refine wpAnyT_pure (i := 0) (v := ?_) rfl (by kernel_rfl) (by kernel_rfl) (by kernel_rfl) (fun _ _ _ h => h) (by rfl) ?_ ?_
  rotate_left
  · intro w; go_simp; try with_reducible rfl
  simp only [Act.put, rgA, rgB, rgC, rgD, rgE, rgF]
  refine wpAnyT_pure (i := 2) (v := ?_) rfl (by kernel_rfl) (by kernel_rfl) (by kernel_rfl) (fun _ _ _ h => h) (by rfl) ?_ ?_
  rotate_left
  · intro w; go_simp; try with_reducible rfl
  simp only [Act.put, rgA, rgB, rgC, rgD, rgE, rgF]
  refine wpAnyT_pure (i := 5) (v := ?_) rfl (by kernel_rfl) (by kernel_rfl) (by kernel_rfl) (fun _ _ _ h => h) (by rfl) ?_ ?_
  rotate_left
  · intro w; go_simp; try with_reducible rfl
  simp only [Act.put, rgA, rgB, rgC, rgD, rgE, rgF]
  refine wpAnyT_pure (i := 6) (v := ?_) rfl (by kernel_rfl) (by kernel_rfl) (by kernel_rfl) (fun _ _ _ h => h) (by rfl) ?_ ?_
  rotate_left
  · intro w; go_simp; try with_reducible rfl
  simp only [Act.put, rgA, rgB, rgC, rgD, rgE, rgF]
  refine wpAnyT_pure (i := 9) (v := ?_) rfl (by kernel_rfl) (by kernel_rfl) (by kernel_rfl) (fun _ _ _ h => h) (by rfl) ?_ ?_
  rotate_left
  · intro w; go_simp; try with_reducible rfl
  simp only [Act.put, rgA, rgB, rgC, rgD, rgE, rgF]
  refine wpAnyT_pure (i := 10) (v := ?_) rfl (by kernel_rfl) (by kernel_rfl) (by kernel_rfl) (fun _ _ _ h => h) (by rfl) ?_ ?_
  rotate_left
  · intro w; go_simp; try with_reducible rfl
  simp only [Act.put, rgA, rgB, rgC, rgD, rgE, rgF]
  refine wpAnyT_pure (i := 14) (v := ?_) rfl (by kernel_rfl) (by kernel_rfl) (by kernel_rfl) (fun _ _ _ h => h) (by rfl) ?_ ?_
  rotate_left
  · intro w; go_simp; try with_reducible rfl
  simp only [Act.put, rgA, rgB, rgC, rgD, rgE, rgF]
  refine wpAnyT_pure (i := 16) (v := ?_) rfl (by kernel_rfl) (by kernel_rfl) (by kernel_rfl) (fun _ _ _ h => h) (by rfl) ?_ ?_
  rotate_left
  · intro w; go_simp; try with_reducible rfl
  simp only [Act.put, rgA, rgB, rgC, rgD, rgE, rgF]
  refine wpAnyT_loadW (i := 1) (v := ?_) rfl (by kernel_rfl) (by kernel_rfl) (by kernel_rfl) (by kernel_rfl) (by kernel_rfl) (fun _ _ _ h => h) (Or.inl ⟨by rfl, ?_⟩) hSss1 ?_
  rotate_left
  · intro w hSw; obtain ⟨e0, e1, e2, e3, e4, e5, -⟩ := hSw; go_simp; try with_reducible rfl
  simp only [Act.put, rgA, rgB, rgC, rgD, rgE, rgF]
  refine wpAnyT_loadW (i := 3) (v := ?_) rfl (by kernel_rfl) (by kernel_rfl) (by kernel_rfl) (by kernel_rfl) (by kernel_rfl) (fun _ _ _ h => h) (Or.inl ⟨by rfl, ?_⟩) hSss1 ?_
  rotate_left
  · intro w hSw; obtain ⟨e0, e1, e2, e3, e4, e5, -⟩ := hSw; go_simp; try with_reducible rfl
  simp only [Act.put, rgA, rgB, rgC, rgD, rgE, rgF]
  refine wpAnyT_loadW (i := 7) (v := ?_) rfl (by kernel_rfl) (by kernel_rfl) (by kernel_rfl) (by kernel_rfl) (by kernel_rfl) (fun _ _ _ h => h) (Or.inl ⟨by rfl, ?_⟩) hSss1 ?_
  rotate_left
  · intro w hSw; obtain ⟨e0, e1, e2, e3, e4, e5, -⟩ := hSw; go_simp; try with_reducible rfl
  simp only [Act.put, rgA, rgB, rgC, rgD, rgE, rgF]
  refine wpAnyT_loadW (i := 11) (v := ?_) rfl (by kernel_rfl) (by kernel_rfl) (by kernel_rfl) (by kernel_rfl) (by kernel_rfl) (fun _ _ _ h => h) (Or.inl ⟨by rfl, ?_⟩) hSss1 ?_
  rotate_left
  · intro w hSw; obtain ⟨e0, e1, e2, e3, e4, e5, -⟩ := hSw; go_simp; try with_reducible rfl
  simp only [Act.put, rgA, rgB, rgC, rgD, rgE, rgF]
  refine wpAnyT_loadW (i := 15) (v := ?_) rfl (by kernel_rfl) (by kernel_rfl) (by kernel_rfl) (by kernel_rfl) (by kernel_rfl) (fun _ _ _ h => h) (Or.inl ⟨by rfl, ?_⟩) hSss1 ?_
  rotate_left
  · intro w hSw; obtain ⟨e0, e1, e2, e3, e4, e5, -⟩ := hSw; go_simp; try with_reducible rfl
  simp only [Act.put, rgA, rgB, rgC, rgD, rgE, rgF]
  refine wpAnyT_loadW (i := 17) (v := ?_) rfl (by kernel_rfl) (by kernel_rfl) (by kernel_rfl) (by kernel_rfl) (by kernel_rfl) (fun _ _ _ h => h) (Or.inl ⟨by rfl, ?_⟩) hSss1 ?_
  rotate_left
  · intro w hSw; obtain ⟨e0, e1, e2, e3, e4, e5, -⟩ := hSw; go_simp; try with_reducible rfl
  simp only [Act.put, rgA, rgB, rgC, rgD, rgE, rgF]
  refine wpAnyT_one (i := 4) (by kernel_rfl) rfl (by rfl) ?_
  refine wp_enter (f := 61) (args := #[.int .i64 x3, .int .i64 y3]) (by go_simp) (compareB s1 x3 y3) ?_
  rintro e w102 ⟨rfl, hX⟩
  have hB_s1_w102 := below_step hB_s1_s1 hX
  have hB_w102_w102 := Below.refl w102.heap.size w102
  have hSsw102 := Cells.below hB_s1_w102 hSss1
  clear hX
  refine ⟨_, rfl, fun _ _ => hSsw102, ?_⟩
  try simp only [Act.put, rgA, rgB, rgC, rgD, rgE, rgF]
  refine wpAnyT_one (i := 8) (by kernel_rfl) rfl (by rfl) ?_
  refine wp_enter (f := 52) (args := #[.pointer (some ⟨p, 0, none⟩), .string x1]) (by go_simp) (place53 w102 p ts ne np m (HW.out.below (hB_0_s1.trans ((hB_s1_w102).mono (hB_0_s1).size)).b) x1) ?_
  rintro e w103 ⟨rfl, hX⟩
  have hB_s1_w103 := below_step hB_s1_w102 hX
  have hB_w102_w103 := below_step hB_w102_w102 hX
  have hB_w103_w103 := Below.refl w103.heap.size w103
  have hSsw103 := Cells.below hB_s1_w103 hSss1
  clear hX
  refine ⟨_, rfl, fun _ _ => hSsw103, ?_⟩
  try simp only [Act.put, rgA, rgB, rgC, rgD, rgE, rgF]
  refine wpAnyT_one (i := 12) (by kernel_rfl) rfl (by rfl) ?_
  refine wp_enter (f := 52) (args := #[.pointer (some ⟨p, 0, none⟩), .string y1]) (by go_simp) (place53 w103 p ts ne np m (HW.out.below (hB_0_s1.trans ((hB_s1_w103).mono (hB_0_s1).size)).b) y1) ?_
  rintro e w104 ⟨rfl, hX⟩
  have hB_s1_w104 := below_step hB_s1_w103 hX
  have hB_w102_w104 := below_step hB_w102_w103 hX
  have hB_w103_w104 := below_step hB_w103_w103 hX
  have hB_w104_w104 := Below.refl w104.heap.size w104
  have hSsw104 := Cells.below hB_s1_w104 hSss1
  clear hX
  refine ⟨_, rfl, fun _ _ => hSsw104, ?_⟩
  try simp only [Act.put, rgA, rgB, rgC, rgD, rgE, rgF]
  refine wpAnyT_one (i := 13) (by kernel_rfl) rfl (by rfl) ?_
  refine wp_enter (f := 61) (args := #[.int .i64 (plcI ts x1), .int .i64 (plcI ts y1)]) (by go_simp) (compareB w104 (plcI ts x1) (plcI ts y1)) ?_
  rintro e w105 ⟨rfl, hX⟩
  have hB_s1_w105 := below_step hB_s1_w104 hX
  have hB_w102_w105 := below_step hB_w102_w104 hX
  have hB_w103_w105 := below_step hB_w103_w104 hX
  have hB_w104_w105 := below_step hB_w104_w104 hX
  have hB_w105_w105 := Below.refl w105.heap.size w105
  have hSsw105 := Cells.below hB_s1_w105 hSss1
  clear hX
  refine ⟨_, rfl, fun _ _ => hSsw105, ?_⟩
  try simp only [Act.put, rgA, rgB, rgC, rgD, rgE, rgF]
  refine wpAnyT_one (i := 18) (by kernel_rfl) rfl (by rfl) ?_
  refine wp_enter (f := 61) (args := #[.int .i64 x2, .int .i64 y2]) (by go_simp) (compareB w105 x2 y2) ?_
  rintro e w106 ⟨rfl, hX⟩
  have hB_s1_w106 := below_step hB_s1_w105 hX
  have hB_w102_w106 := below_step hB_w102_w105 hX
  have hB_w103_w106 := below_step hB_w103_w105 hX
  have hB_w104_w106 := below_step hB_w104_w105 hX
  have hB_w105_w106 := below_step hB_w105_w105 hX
  have hB_w106_w106 := Below.refl w106.heap.size w106
  have hSsw106 := Cells.below hB_s1_w106 hSss1
  clear hX
  refine ⟨_, rfl, fun _ _ => hSsw106, ?_⟩
  try simp only [Act.put, rgA, rgB, rgC, rgD, rgE, rgF]
  refine wpAnyT_one (i := 19) (by kernel_rfl) rfl (by rfl) ?_
  obtain ⟨b20, hb20⟩ : ∃ b, (w106).heap.size = b := ⟨_, rfl⟩
  refine wp_newrow (v := .slice (some ⟨b20, 0, none⟩) 3 3) (cs := #[.int .i64 (cmpI x3 y3), .int .i64 (cmpI (plcI ts x1) (plcI ts y1)), .int .i64 (cmpI x2 y2)]) (te := 3) (by rw [← hb20]; go_simp) ?_
  intro w107 hX hN20
  rw [hb20] at hN20
  have hB_s1_w107 := below_step hB_s1_w106 hX
  have hB_w102_w107 := below_step hB_w102_w106 hX
  have hB_w103_w107 := below_step hB_w103_w106 hX
  have hB_w104_w107 := below_step hB_w104_w106 hX
  have hB_w105_w107 := below_step hB_w105_w106 hX
  have hB_w106_w107 := below_step hB_w106_w106 hX
  have hB_w107_w107 := Below.refl w107.heap.size w107
  have hSsw107 := Cells.below hB_s1_w107 hSss1
  clear hX
  refine ⟨fun _ _ => hSsw107, ?_⟩
  try simp only [Act.put, rgA, rgB, rgC, rgD, rgE, rgF]
  refine wpAnyT_one (i := 20) (by kernel_rfl) rfl (by rfl) ?_
  have hq20 : (w107).heap[b20]? = some (.cells #[.int .i64 (cmpI x3 y3), .int .i64 (cmpI (plcI ts x1) (plcI ts y1)), .int .i64 (cmpI x2 y2)] 3 (0, 0)) := by first | exact hN20 | exact ((hB_w107_w107).block _ (blk_lt hN20)).trans hN20
  refine wp_enter (f := 60) (args := #[.slice (some ⟨b20, 0, none⟩) 3 3]) (by go_simp) (orB w107 b20 3 _ _ _ (blk_cell hq20 0) (blk_cell hq20 1) (blk_cell hq20 2)) ?_
  rintro e w108 ⟨rfl, hX⟩
  have hB_s1_w108 := below_step hB_s1_w107 hX
  have hB_w102_w108 := below_step hB_w102_w107 hX
  have hB_w103_w108 := below_step hB_w103_w107 hX
  have hB_w104_w108 := below_step hB_w104_w107 hX
  have hB_w105_w108 := below_step hB_w105_w107 hX
  have hB_w106_w108 := below_step hB_w106_w107 hX
  have hB_w107_w108 := below_step hB_w107_w107 hX
  have hB_w108_w108 := Below.refl w108.heap.size w108
  have hSsw108 := Cells.below hB_s1_w108 hSss1
  clear hX
  refine ⟨_, rfl, fun _ _ => hSsw108, ?_⟩
  try simp only [Act.put, rgA, rgB, rgC, rgD, rgE, rgF]
  refine wpAnyT_pure (i := 21) (v := ?_) rfl (by kernel_rfl) (by kernel_rfl) (by kernel_rfl) (fun _ _ _ h => h) (by rfl) ?_ ?_
  rotate_left
  · intro w; go_simp; try with_reducible rfl
  simp only [Act.put, rgA, rgB, rgC, rgD, rgE, rgF]
  refine wpAnyT_done (by kernel_rfl) ?_ _
  have hbP : Below w1.heap.size w1 w108 := hB_0_s1.trans ((hB_s1_w108).mono (hB_0_s1).size)
  go_wp2_with fail
  go_ret
  exact ⟨rfl, below_step HB1.out hbP⟩
end Go.Proofs.YtdcjocldggmdbaaGreat.Dr

/- Layer 53, plain: keys of a workflow, their order, their prerequisites; what is signed, as a list in order. -/
set_option linter.unusedSimpArgs false
namespace Go.Proofs.YtdcjocldggmdbaaGreat
open Go.RowKit Go

/-! ### keys of the workflow -/
theorem kv_iff {ts : List Tk} {ne np : Int} {k : Ky} : checkI ts ne np k = 0 ↔ plc ts k.task < ts.length ∧ (if (tkAt ts k.task).grp then k.ent = -1 else 0 ≤ k.ent ∧ k.ent < ne) ∧ 0 ≤ k.per ∧ k.per < np := by
  unfold checkI
  by_cases h : plc ts k.task < ts.length
  · rw [if_pos h]
    by_cases h2 : (if (tkAt ts k.task).grp then k.ent = -1 else 0 ≤ k.ent ∧ k.ent < ne) ∧ 0 ≤ k.per ∧ k.per < np
    · rw [if_pos h2]; exact ⟨fun _ => ⟨h, h2⟩, fun _ => rfl⟩
    · rw [if_neg h2]; exact ⟨fun e => absurd e (by decide), fun e => absurd e.2 h2⟩
  · rw [if_neg h]
    exact ⟨fun e => absurd e (by decide), fun e => absurd e.1 h⟩
theorem plcI_in {ts : List Tk} {n : ByteArray} (h : plc ts n < ts.length) : plcI ts n = (plc ts n : Nat) := by unfold plcI; rw [if_pos h]
theorem plc_inj {ts : List Tk} {a b : ByteArray} (ha : plc ts a < ts.length) (h : plc ts a = plc ts b) : a = b := by
  have h1 := plc_name ha
  have h2 := plc_name (ts := ts) (n := b) (by omega)
  rw [← h1, ← h2]
  congr 2
theorem kv_total {ts : List Tk} {x y : Ky} (hx : plc ts x.task < ts.length) (hy : plc ts y.task < ts.length) (h1 : ltK ts x y = false) (h2 : ltK ts y x = false) : x = y := by
  rw [ltK_not, plcI_in hx, plcI_in hy] at h1
  rw [ltK_not, plcI_in hx, plcI_in hy] at h2
  have e1 : plc ts x.task = plc ts y.task := by omega
  have e2 := plc_inj hx e1
  obtain ⟨a, b, c⟩ := x
  obtain ⟨a', b', c'⟩ := y
  simp only at *
  subst e2
  obtain rfl : b = b' := by omega
  obtain rfl : c = c' := by omega
  rfl
theorem ltK_irr (ts : List Tk) (x : Ky) : ltK ts x x = false := (swoK ts).irrefl x
theorem ltK_asym {ts : List Tk} {x y : Ky} (h : ltK ts x y = true) : ltK ts y x = false := by
  cases h2 : ltK ts y x with
  | false => rfl
  | true =>
    have := (swoK ts).trans _ _ _ h h2
    rw [ltK_irr] at this
    cases this
/-- Few needs. -/
def FewN (ts : List Tk) : Prop := ∀ t ∈ ts, t.needs.length ≤ 8
structure Wk (ts : List Tk) (ne np : Nat) : Prop where
  v : RVal ts
  f : FewN ts
  ne : ne ≤ 100
  np : np ≤ 1000
theorem Wk.at_ {ts : List Tk} {ne np : Nat} (h : Wk ts ne np) {n : ByteArray} (hn : plc ts n < ts.length) : tkAt ts n ∈ ts ∧ (tkAt ts n).name = n ∧ nameB n = true ∧ (∀ x ∈ (tkAt ts n).needs, plc ts x < plc ts n) ∧ (tkAt ts n).needs.Nodup := by
  rw [tkAt_get hn]
  have h1 := plc_name hn
  obtain ⟨a, b, c⟩ := h.v.2.2 _ hn hn
  refine ⟨List.getElem_mem _, h1, by rw [← h1]; exact a, fun x hx => ?_, ?_⟩
  · obtain ⟨i, hi, rfl⟩ := List.getElem_of_mem hx
    exact (c i hi hi).1
  · rw [List.Nodup, List.pairwise_iff_getElem]
    intro i j hi hj hij
    exact (c j hj hj).2 i hij
theorem name_size {n : ByteArray} (h : nameB n = true) : n.size ≤ 16 := by
  unfold nameB at h
  rw [Bool.and_eq_true] at h
  exact of_decide_eq_true h.2
theorem kv_ok {ts : List Tk} {ne np : Nat} (h : Wk ts ne np) {k : Ky} (hk : checkI ts ne np k = 0) : k.ok := by
  obtain ⟨h1, h2, h3, h4⟩ := kv_iff.1 hk
  have hn := name_size (h.at_ h1).2.2.1
  have hne := h.ne
  have hnp := h.np
  refine ⟨Nat.le_trans hn (by decide), ?_, ?_⟩
  · simp [Lit.wf, IntKind.min, IntKind.max, IntKind.signed, IntKind.bits]
    split at h2 <;> omega
  · simp [Lit.wf, IntKind.min, IntKind.max, IntKind.signed, IntKind.bits]
    omega
theorem keysL_mem {ne : Nat} {t : Tk} {per : Int} {n : Ky} (h : n ∈ keysL ne t per) : n.task = t.name ∧ n.per = per ∧ (if t.grp then n.ent = -1 else 0 ≤ n.ent ∧ n.ent < (ne : Int)) := by
  unfold keysL at h
  split at h
  · rename_i hg
    rw [List.mem_singleton] at h
    subst h
    exact ⟨rfl, rfl, by simp [hg]⟩
  · rename_i hg
    obtain ⟨e, he, rfl⟩ := List.mem_map.1 h
    rw [List.mem_range] at he
    refine ⟨rfl, rfl, ?_⟩
    simp only [hg, Bool.false_eq_true, if_false]
    omega
theorem mem_keysL {ne : Nat} {t : Tk} {per : Int} {n : Ky} (h1 : n.task = t.name) (h2 : n.per = per) (h3 : if t.grp then n.ent = -1 else 0 ≤ n.ent ∧ n.ent < (ne : Int)) : n ∈ keysL ne t per := by
  obtain ⟨a, b, c⟩ := n
  simp only at h1 h2 h3
  subst h1 h2
  unfold keysL
  split
  · rename_i hg
    rw [if_pos hg] at h3
    subst h3
    simp
  · rename_i hg
    rw [if_neg hg] at h3
    exact List.mem_map.2 ⟨b.toNat, by rw [List.mem_range]; omega, by rw [Ky.mk.injEq]; exact ⟨rfl, by omega, rfl⟩⟩
theorem keysL_nodup (ne : Nat) (t : Tk) (per : Int) : (keysL ne t per).Nodup := by
  unfold keysL
  split
  · simp
  · rw [List.Nodup, List.pairwise_map]
    refine List.Pairwise.imp ?_ (List.nodup_range (n := ne))
    intro a b hab he
    rw [Ky.mk.injEq] at he
    omega
theorem needOf_mem {ts : List Tk} {ne np : Nat} (h : Wk ts ne np) {k n : Ky} {nm : ByteArray} (hk : checkI ts ne np k = 0) (hnm : nm ∈ (tkAt ts k.task).needs) (hn : n ∈ needOf ts ne (tkAt ts k.task) k nm) : n.task = nm ∧ n.per = k.per ∧ checkI ts ne np n = 0 := by
  obtain ⟨h1, h2, h3, h4⟩ := kv_iff.1 hk
  have hlt := (h.at_ h1).2.2.2.1 nm hnm
  have hpl : plc ts nm < ts.length := by omega
  have hname := (h.at_ hpl).2.1
  unfold needOf at hn
  split at hn
  · obtain ⟨a, b, c⟩ := keysL_mem hn
    rw [hname] at a
    refine ⟨a, b, kv_iff.2 ?_⟩
    rw [a, b]
    exact ⟨hpl, c, h3, h4⟩
  · rename_i hg
    rw [List.mem_singleton] at hn
    subst hn
    refine ⟨rfl, rfl, kv_iff.2 ⟨hpl, ?_, h3, h4⟩⟩
    simp only [Bool.or_eq_true, not_or, Bool.not_eq_true] at hg
    simp only [hg.2, Bool.false_eq_true, if_false] at h2
    simp only [hg.1, Bool.false_eq_true, if_false]
    exact h2
theorem raw_cases {ts : List Tk} {ne : Nat} {k n : Ky} (hn : n ∈ rawNeeds ts ne k) : (∃ nm ∈ (tkAt ts k.task).needs, n ∈ needOf ts ne (tkAt ts k.task) k nm) ∨ ((tkAt ts k.task).aft = true ∧ 0 < k.per ∧ n = ⟨k.task, k.ent, k.per - 1⟩) := by
  unfold rawNeeds at hn
  rcases List.mem_append.1 hn with h | h
  · exact .inl (List.mem_flatMap.1 h)
  · split at h
    · rename_i hc
      rw [Bool.and_eq_true, decide_eq_true_eq] at hc
      exact .inr ⟨hc.1, hc.2, List.mem_singleton.1 h⟩
    · cases h
/-- Prerequisites are keys of the workflow, and come before. -/
theorem raw_kv {ts : List Tk} {ne np : Nat} (h : Wk ts ne np) {k n : Ky} (hk : checkI ts ne np k = 0) (hn : n ∈ rawNeeds ts ne k) : checkI ts ne np n = 0 ∧ ltK ts n k = true := by
  obtain ⟨h1, h2, h3, h4⟩ := kv_iff.1 hk
  rcases raw_cases hn with ⟨nm, hnm, hx⟩ | ⟨ha, hp, rfl⟩
  · obtain ⟨a, b, c⟩ := needOf_mem h hk hnm hx
    have hlt := (h.at_ h1).2.2.2.1 nm hnm
    refine ⟨c, ?_⟩
    rw [ltK_iff, a, b, plcI_in (by omega), plcI_in h1]
    omega
  · refine ⟨kv_iff.2 ⟨h1, h2, by simp only; omega, by simp only; omega⟩, ?_⟩
    rw [ltK_iff]
    simp only
    omega
theorem raw_nodup {ts : List Tk} {ne np : Nat} (h : Wk ts ne np) {k : Ky} (hk : checkI ts ne np k = 0) : (rawNeeds ts ne k).Nodup := by
  obtain ⟨h1, h2, h3, h4⟩ := kv_iff.1 hk
  unfold rawNeeds
  rw [List.nodup_append]
  refine ⟨?_, by split <;> simp, ?_⟩
  · rw [List.Nodup, List.pairwise_flatMap]
    refine ⟨fun nm hnm => ?_, ?_⟩
    · unfold needOf
      split
      · exact keysL_nodup _ _ _
      · simp
    · refine List.Pairwise.imp_of_mem ?_ (h.at_ h1).2.2.2.2
      intro a b ha hb hab x hx y hy e
      have e1 := (needOf_mem h hk ha hx).1
      have e2 := (needOf_mem h hk hb hy).1
      rw [e] at e1
      exact hab (e1.symm.trans e2)
  · intro a ha b hb e
    obtain ⟨nm, hnm, hx⟩ := List.mem_flatMap.1 ha
    have e1 := (needOf_mem h hk hnm hx).2.1
    split at hb
    · rw [List.mem_singleton] at hb
      subst hb
      rw [e] at e1
      simp only at e1
      omega
    · cases hb
theorem needOf_len (ts : List Tk) (ne : Nat) (t : Tk) (k : Ky) (nm : ByteArray) : (needOf ts ne t k nm).length ≤ ne + 1 := by
  unfold needOf keysL
  split
  · split <;> simp
  · simp
theorem raw_len {ts : List Tk} {ne np : Nat} (h : Wk ts ne np) {k : Ky} (hk : checkI ts ne np k = 0) : (rawNeeds ts ne k).length ≤ 1000 := by
  have h1 := (kv_iff.1 hk).1
  have h8 := h.f _ (h.at_ h1).1
  have hne := h.ne
  have : ∀ l : List ByteArray, (l.flatMap (needOf ts ne (tkAt ts k.task) k)).length ≤ l.length * (ne + 1) := by
    intro l
    induction l with
    | nil => simp
    | cons x l ih =>
      rw [List.flatMap_cons, List.length_append, List.length_cons, Nat.succ_mul]
      have := needOf_len ts ne (tkAt ts k.task) k x
      omega
  have h2 := this (tkAt ts k.task).needs
  have h3 : (tkAt ts k.task).needs.length * (ne + 1) ≤ 8 * 101 := Nat.mul_le_mul h8 (by omega)
  unfold rawNeeds
  rw [List.length_append]
  have h5 : ∀ c : Bool, (if c = true then [(⟨k.task, k.ent, k.per - 1⟩ : Ky)] else []).length ≤ 1 := by intro c; cases c <;> simp
  have h6 := h5 ((tkAt ts k.task).aft && decide (0 < k.per))
  omega
theorem Wk.need {ts : List Tk} {ne np : Nat} (h : Wk ts ne np) {k : Ky} (hk : checkI ts ne np k = 0) : NeedOk ts ne k where
  hk := (kv_iff.1 hk).1
  ok := kv_ok h hk
  nd := fun n hn => by have := (h.at_ (kv_iff.1 hk).1).2.2.2.1 n hn; have := (kv_iff.1 hk).1; omega
  len := raw_len h hk
  nodup := raw_nodup h hk

/-! ### sorted lists of keys of the workflow are told by their members -/
theorem asc_eq {ts : List Tk} {a b : List Ky} (ha : Asc ts a) (hb : Asc ts b) (hna : ∀ x ∈ a, plc ts x.task < ts.length) (hp : a.Perm b) : a = b :=
  hp.eq_of_pairwise (fun x y hx hy h1 h2 => (kv_total (hna x hx) (hna y (hp.mem_iff.2 hy)) (by
    first
    | exact h2
    | exact h1) (by
    first
    | exact h1
    | exact h2))) ha hb
end Go.Proofs.YtdcjocldggmdbaaGreat

/- Layer 53, plain: what is signed, as a list in order of the keys; what a reopening takes back. -/
set_option linter.unusedSimpArgs false
namespace Go.Proofs.YtdcjocldggmdbaaGreat
open Go.RowKit Go

abbrev Sg := Ky × ByteArray
def lkS (sg : List Sg) (k : Ky) : Option ByteArray := (sg.find? fun s => decide (s.1 = k)).map Prod.snd
def keysS (sg : List Sg) : List Ky := sg.map Prod.fst
structure SgOk (ts : List Tk) (ne np : Nat) (sg : List Sg) : Prop where
  asc : sg.Pairwise fun a b => ltK ts a.1 b.1 = true
  kv : ∀ s ∈ sg, checkI ts ne np s.1 = 0
  sz : ∀ s ∈ sg, s.2.size ≤ maxLen
theorem SgOk.nil (ts : List Tk) (ne np : Nat) : SgOk ts ne np [] := ⟨.nil, fun _ h => (List.not_mem_nil h).elim, fun _ h => (List.not_mem_nil h).elim⟩
theorem lk_cons (s : Sg) (sg : List Sg) (k : Ky) : lkS (s :: sg) k = if s.1 = k then some s.2 else lkS sg k := by
  unfold lkS
  rw [List.find?_cons]
  by_cases h : s.1 = k
  · simp [h]
  · simp [h]
theorem lk_isSome {sg : List Sg} {k : Ky} : (lkS sg k).isSome = true ↔ k ∈ keysS sg := by
  induction sg with
  | nil => simp [lkS, keysS]
  | cons s sg ih =>
    rw [lk_cons]
    show _ ↔ k ∈ s.1 :: keysS sg
    rw [List.mem_cons, ← ih]
    by_cases h : s.1 = k
    · simp [h]
    · rw [if_neg h]
      constructor
      · exact .inr
      · rintro (h' | h')
        · exact absurd h'.symm h
        · exact h'
theorem lk_none {sg : List Sg} {k : Ky} : lkS sg k = none ↔ k ∉ keysS sg := by
  rw [← lk_isSome]
  cases lkS sg k <;> simp
theorem asc_ne {ts : List Tk} {sg : List Sg} (h : sg.Pairwise fun a b => ltK ts a.1 b.1 = true) : sg.Pairwise fun a b => a.1 ≠ b.1 :=
  h.imp fun {a b} hl e => by rw [e, ltK_irr] at hl; cases hl
theorem keys_asc {ts : List Tk} {ne np : Nat} {sg : List Sg} (h : SgOk ts ne np sg) : (keysS sg).Pairwise fun a b => ltK ts a b = true := by
  unfold keysS
  rw [List.pairwise_map]
  exact h.asc
theorem keys_nodup {ts : List Tk} {ne np : Nat} {sg : List Sg} (h : SgOk ts ne np sg) : (keysS sg).Nodup := (keys_asc h).imp fun {a b} hl e => by rw [e, ltK_irr] at hl; cases hl
theorem keys_kv {ts : List Tk} {ne np : Nat} {sg : List Sg} (h : SgOk ts ne np sg) {k : Ky} (hk : k ∈ keysS sg) : checkI ts ne np k = 0 := by
  obtain ⟨s, hs, rfl⟩ := List.mem_map.1 hk
  exact h.kv s hs

/-! ### a further signature -/
def insS (ts : List Tk) (sg : List Sg) (k : Ky) (who : ByteArray) : List Sg := sg.takeWhile (fun s => ltK ts s.1 k) ++ (k, who) :: sg.dropWhile (fun s => ltK ts s.1 k)
theorem lk_app (a b : List Sg) (k : Ky) : lkS (a ++ b) k = if (lkS a k).isSome then lkS a k else lkS b k := by
  induction a with
  | nil => simp [lkS]
  | cons s a ih =>
    rw [List.cons_append, lk_cons, lk_cons, ih]
    by_cases h : s.1 = k
    · simp [h]
    · simp [h]
theorem keys_split (ts : List Tk) (sg : List Sg) (k : Ky) : sg.takeWhile (fun s => ltK ts s.1 k) ++ sg.dropWhile (fun s => ltK ts s.1 k) = sg := List.takeWhile_append_dropWhile
theorem lk_ins {ts : List Tk} {sg : List Sg} {k : Ky} {who : ByteArray} (h : lkS sg k = none) : lkS (insS ts sg k who) = signF (lkS sg) k who := by
  funext x
  unfold insS signF
  rw [lk_app, lk_cons]
  have hs := lk_app (sg.takeWhile (fun s => ltK ts s.1 k)) (sg.dropWhile (fun s => ltK ts s.1 k)) x
  rw [keys_split] at hs
  by_cases e : x = k
  · subst e
    rw [h] at hs
    have hn : lkS (sg.takeWhile (fun s => ltK ts s.1 x)) x = none := by
      cases h1 : lkS (sg.takeWhile (fun s => ltK ts s.1 x)) x with
      | none => rfl
      | some v => rw [h1] at hs; simp at hs
    rw [hn]
    simp
  · have e' : ¬ k = x := fun h => e h.symm
    simp only [if_neg e, if_neg e']
    rw [hs]
theorem drop_ge {ts : List Tk} {ne np : Nat} {sg : List Sg} (h : SgOk ts ne np sg) (k : Ky) : ∀ s ∈ sg.dropWhile (fun s => ltK ts s.1 k), ltK ts s.1 k = false := by
  have ha := h.asc
  clear h
  induction sg with
  | nil => intro s hs; cases hs
  | cons a sg ih =>
    intro s hs
    rw [List.dropWhile_cons] at hs
    split at hs
    · exact ih (List.pairwise_cons.1 ha).2 s hs
    · rename_i hc
      have hc' : ltK ts a.1 k = false := by simpa using hc
      rcases List.mem_cons.1 hs with rfl | hs
      · exact hc'
      · cases h2 : ltK ts s.1 k with
        | false => rfl
        | true =>
          have := (swoK ts).trans _ _ _ ((List.pairwise_cons.1 ha).1 s hs) h2
          rw [hc'] at this
          cases this
theorem mem_ins {ts : List Tk} {sg : List Sg} {k : Ky} {who : ByteArray} {s : Sg} : s ∈ insS ts sg k who ↔ s = (k, who) ∨ s ∈ sg := by
  unfold insS
  rw [List.mem_append, List.mem_cons]
  have : s ∈ sg ↔ s ∈ sg.takeWhile (fun s => ltK ts s.1 k) ∨ s ∈ sg.dropWhile (fun s => ltK ts s.1 k) := by rw [← List.mem_append, keys_split]
  rw [this]
  constructor
  · rintro (h | h | h)
    · exact .inr (.inl h)
    · exact .inl h
    · exact .inr (.inr h)
  · rintro (h | h | h)
    · exact .inr (.inl h)
    · exact .inl h
    · exact .inr (.inr h)
theorem keys_ins {ts : List Tk} {sg : List Sg} {k x : Ky} {who : ByteArray} : x ∈ keysS (insS ts sg k who) ↔ x = k ∨ x ∈ keysS sg := by
  unfold keysS
  rw [List.mem_map, List.mem_map]
  constructor
  · rintro ⟨s, hs, rfl⟩
    rcases mem_ins.1 hs with rfl | hs
    · exact .inl rfl
    · exact .inr ⟨s, hs, rfl⟩
  · rintro (rfl | ⟨s, hs, rfl⟩)
    · exact ⟨_, mem_ins.2 (.inl rfl), rfl⟩
    · exact ⟨s, mem_ins.2 (.inr hs), rfl⟩
theorem SgOk.ins {ts : List Tk} {ne np : Nat} {sg : List Sg} (h : SgOk ts ne np sg) {k : Ky} {who : ByteArray} (hk : checkI ts ne np k = 0) (hn : lkS sg k = none) (hw : who.size ≤ maxLen) : SgOk ts ne np (insS ts sg k who) where
  asc := by
    have hs := h.asc
    rw [← keys_split ts sg k] at hs
    obtain ⟨h1, h2, h3⟩ := List.pairwise_append.1 hs
    have hlt : ∀ s ∈ sg.takeWhile (fun s => ltK ts s.1 k), ltK ts s.1 k = true := fun s hs => by
      have := List.all_takeWhile (p := fun s : Sg => ltK ts s.1 k) (l := sg)
      rw [List.all_eq_true] at this
      exact this s hs
    have hgt : ∀ s ∈ sg.dropWhile (fun s => ltK ts s.1 k), ltK ts k s.1 = true := fun s hs => by
      have h4 := drop_ge h k s hs
      have hm : s ∈ sg := by rw [← keys_split ts sg k]; exact List.mem_append_right _ hs
      cases h5 : ltK ts k s.1 with
      | true => rfl
      | false =>
        have e := kv_total (kv_iff.1 (h.kv s hm)).1 (kv_iff.1 hk).1 h4 h5
        exact absurd (List.mem_map.2 ⟨s, hm, e⟩) (lk_none.1 hn)
    unfold insS
    refine List.pairwise_append.2 ⟨h1, List.pairwise_cons.2 ⟨hgt, h2⟩, fun a ha b hb => ?_⟩
    rcases List.mem_cons.1 hb with rfl | hb
    · exact hlt a ha
    · exact h3 a ha b hb
  kv := fun s hs => by
    rcases mem_ins.1 hs with rfl | hs
    · exact hk
    · exact h.kv s hs
  sz := fun s hs => by
    rcases mem_ins.1 hs with rfl | hs
    · exact hw
    · exact h.sz s hs
theorem ins_len (ts : List Tk) (sg : List Sg) (k : Ky) (who : ByteArray) : (insS ts sg k who).length = sg.length + 1 := by
  have h1 := congrArg List.length (keys_split ts sg k)
  rw [List.length_append] at h1
  unfold insS
  rw [List.length_append, List.length_cons]
  exact congrArg (· + 1) h1

/-! ### what a reopening takes back -/
theorem SgOk.filter {ts : List Tk} {ne np : Nat} {sg : List Sg} (h : SgOk ts ne np sg) (p : Sg → Bool) : SgOk ts ne np (sg.filter p) :=
  ⟨h.asc.filter p, fun s hs => h.kv s (List.mem_filter.1 hs).1, fun s hs => h.sz s (List.mem_filter.1 hs).1⟩
theorem lk_filter {sg : List Sg} (p : Ky → Bool) (k : Ky) : lkS (sg.filter fun s => p s.1) k = if p k then lkS sg k else none := by
  induction sg with
  | nil => simp [lkS]
  | cons s sg ih =>
    rw [List.filter_cons]
    by_cases hp : p s.1 = true
    · rw [if_pos hp, lk_cons, lk_cons, ih]
      by_cases e : s.1 = k
      · subst e; simp [hp]
      · simp [e]
    · rw [if_neg hp, lk_cons, ih]
      by_cases e : s.1 = k
      · subst e; simp [hp]
      · simp [e]
inductive Rch (ts : List Tk) (ne : Nat) (sg : List Sg) (k : Ky) : Ky → Prop
  | base : k ∈ keysS sg → Rch ts ne sg k k
  | step {x y : Ky} : Rch ts ne sg k x → y ∈ keysS sg → x ∈ rawNeeds ts ne y → Rch ts ne sg k y
theorem Rch.mem {ts : List Tk} {ne : Nat} {sg : List Sg} {k x : Ky} (h : Rch ts ne sg k x) : x ∈ keysS sg := by
  cases h <;> assumption
def goneStep (ts : List Tk) (ne : Nat) (k : Ky) (gone : List Ky) (s : Sg) : List Ky := if (decide (s.1 = k) || (rawNeeds ts ne s.1).any (fun n => decide (n ∈ gone))) = true then gone ++ [s.1] else gone
def goneOf (ts : List Tk) (ne : Nat) (k : Ky) (sg : List Sg) : List Ky := sg.foldl (goneStep ts ne k) []
theorem gone_snoc (ts : List Tk) (ne : Nat) (k : Ky) (sg : List Sg) (s : Sg) : goneOf ts ne k (sg ++ [s]) = goneStep ts ne k (goneOf ts ne k sg) s := by
  unfold goneOf
  rw [List.foldl_append]
  rfl
theorem snocInd {α : Type} {P : List α → Prop} (h0 : P []) (h1 : ∀ l a, P l → P (l ++ [a])) (l : List α) : P l := by
  rw [← List.reverse_reverse l]
  induction l.reverse with
  | nil => exact h0
  | cons a t ih => rw [List.reverse_cons]; exact h1 _ _ ih
theorem gone_sub (ts : List Tk) (ne : Nat) (k : Ky) (sg : List Sg) : (goneOf ts ne k sg).Sublist (keysS sg) := by
  induction sg using snocInd with
  | h0 => exact List.Sublist.slnil
  | h1 sg s ih =>
    rw [gone_snoc]
    unfold goneStep keysS at *
    rw [List.map_append]
    split
    · exact ih.append (List.Sublist.refl _)
    · exact ih.trans (List.sublist_append_left _ _)
theorem gone_pre {ts : List Tk} {ne np : Nat} (hw : Wk ts ne np) {sg : List Sg} (h : SgOk ts ne np sg) (k : Ky) : ∀ (a b : List Sg), a ++ b = sg → ∀ x, x ∈ goneOf ts ne k a ↔ (x ∈ keysS a ∧ Rch ts ne sg k x) := by
  intro a
  induction a using snocInd with
  | h0 => intro b _ x; simp [goneOf, keysS]
  | h1 a s ih =>
    intro b hab x
    rw [List.append_assoc] at hab
    have ih := ih ([s] ++ b) hab
    rw [gone_snoc]
    unfold goneStep
    have hs : s ∈ sg := by rw [← hab]; simp
    have hsk : s.1 ∈ keysS sg := List.mem_map.2 ⟨s, hs, rfl⟩
    have hiff : (decide (s.1 = k) || (rawNeeds ts ne s.1).any (fun n => decide (n ∈ goneOf ts ne k a))) = true ↔ Rch ts ne sg k s.1 := by
      rw [Bool.or_eq_true, decide_eq_true_eq, List.any_eq_true]
      constructor
      · rintro (e | ⟨n, hn, hg⟩)
        · rw [e]; exact .base (e ▸ hsk)
        · exact .step ((ih n).1 (of_decide_eq_true hg)).2 hsk hn
      · intro hr
        generalize hx : s.1 = y at hr
        cases hr with
        | base => exact .inl rfl
        | @step n _ h1 h2 h3 =>
          refine .inr ⟨n, h3, decide_eq_true ((ih n).2 ⟨?_, h1⟩)⟩
          subst hx
          have hlt := (raw_kv hw (h.kv s hs) h3).2
          have hnk := h1.mem
          obtain ⟨t, ht, rfl⟩ := List.mem_map.1 hnk
          rw [← hab] at ht
          rcases List.mem_append.1 ht with ht | ht
          · exact List.mem_map.2 ⟨t, ht, rfl⟩
          · exfalso
            have hasc := h.asc
            rw [← hab] at hasc
            have h5 := (List.pairwise_append.1 hasc).2.1
            rcases List.mem_cons.1 ht with rfl | ht
            · rw [ltK_irr] at hlt; cases hlt
            · have := (List.pairwise_cons.1 h5).1 t ht
              rw [ltK_asym this] at hlt
              cases hlt
    have hkx : x ∈ keysS (a ++ [s]) ↔ x ∈ keysS a ∨ x = s.1 := by unfold keysS; simp
    rw [hkx]
    split
    · rename_i hc
      rw [List.mem_append, ih x, List.mem_singleton]
      have := hiff.1 hc
      constructor
      · rintro (⟨h1, h2⟩ | rfl)
        · exact ⟨.inl h1, h2⟩
        · exact ⟨.inr rfl, this⟩
      · rintro ⟨h1 | rfl, h2⟩
        · exact .inl ⟨h1, h2⟩
        · exact .inr rfl
    · rename_i hc
      rw [ih x]
      constructor
      · rintro ⟨h1, h2⟩
        exact ⟨.inl h1, h2⟩
      · rintro ⟨h1 | rfl, h2⟩
        · exact ⟨h1, h2⟩
        · exact absurd (hiff.2 h2) hc
theorem gone_iff {ts : List Tk} {ne np : Nat} (hw : Wk ts ne np) {sg : List Sg} (h : SgOk ts ne np sg) (k x : Ky) : x ∈ goneOf ts ne k sg ↔ Rch ts ne sg k x := by
  rw [gone_pre hw h k sg [] (by simp) x]
  exact ⟨fun h => h.2, fun h => ⟨h.mem, h⟩⟩
def leftOf (ts : List Tk) (ne : Nat) (k : Ky) (sg : List Sg) : List Sg := sg.filter fun s => !decide (s.1 ∈ goneOf ts ne k sg)
theorem lk_left (ts : List Tk) (ne : Nat) (k : Ky) (sg : List Sg) (x : Ky) : lkS (leftOf ts ne k sg) x = if x ∈ goneOf ts ne k sg then none else lkS sg x := by
  unfold leftOf
  rw [lk_filter (fun x => !decide (x ∈ goneOf ts ne k sg)) x]
  by_cases h : x ∈ goneOf ts ne k sg <;> simp [h]
theorem gone_asc {ts : List Tk} {ne np : Nat} {sg : List Sg} (h : SgOk ts ne np sg) (k : Ky) : (goneOf ts ne k sg).Pairwise fun a b => ltK ts a b = true := (keys_asc h).sublist (gone_sub ts ne k sg)
/-- What has been taken back, by whatever order, once it is closed. -/
theorem gone_eq {ts : List Tk} {ne np : Nat} (hw : Wk ts ne np) {sg : List Sg} (h : SgOk ts ne np sg) {k : Ky} {out : List Ky} (hn : out.Nodup) (ha : Asc ts out) (hm : ∀ x, x ∈ out ↔ Rch ts ne sg k x) : out = goneOf ts ne k sg := by
  have hg := gone_asc h k
  have hp : out.Perm (goneOf ts ne k sg) := (List.perm_ext_iff_of_nodup hn (hg.imp fun {a b} hl e => by rw [e, ltK_irr] at hl; cases hl)).2 fun x => (hm x).trans (gone_iff hw h k x).symm
  exact asc_eq ha (hg.imp fun {a b} e => ltK_asym e) (fun x hx => (kv_iff.1 (keys_kv h ((hm x).1 hx).mem)).1) hp
end Go.Proofs.YtdcjocldggmdbaaGreat

/- Layer 53: the sort of signatures (by the kit's sort). -/
set_option linter.unusedSimpArgs false
set_option maxRecDepth 50000
namespace Go.Proofs.YtdcjocldggmdbaaGreat
section
open Go.Shelf Go.RowKit Go.Lib Go.Sort
end
open Go.RowKit Go

instance : Inhabited Sg := ⟨(⟨⟨#[]⟩, 0, 0⟩, ⟨#[]⟩)⟩
def sgd (s : Sg) : sgT.den := (s.1.d, s.2, ())
theorem gr_of_belowN {B : Nat} {w w' : World} (h : Below B w w') : Gr (fun b => B ≤ b) w w' := ⟨h.os, h.tape, h.output, h.size, fun k _ hf => h.block k (Nat.lt_of_not_le hf)⟩
end Go.Proofs.YtdcjocldggmdbaaGreat

/- Program independent: loops over maps keyed by any type of keys (MapG): the start, the step. -/
namespace Go.Proofs.YtdcjocldggmdbaaGreat
open Go.RowKit Go

section
variable {P : Program} {k e : TypeId} {κ α : Type}
/-- A loop over a map: 'left' tells which keys are still to come. -/
def RgG (Ks : KeyS P k κ) (Es : ElS P e α) (w : World) (b r m : Nat) (f : κ → Option α) (left : κ → Bool) (cnt : Nat) : Prop :=
  ∃ (D : DataW Unit) (L : Lit → Bool), w.ranges P k Es.R b r m D L cnt ∧ Maps.size D = m ∧ (∀ x : κ, Ks.ok x → Maps.has D (Ks.l x) = (f x).isSome ∧ D.atKey (Ks.l x) (Es.d Es.z) = Es.d ((f x).getD Es.z)) ∧ ∀ x, Ks.ok x → L (Ks.l x) = left x
variable {Ks : KeyS P k κ} {Es : ElS P e α} {w : World} {b r m : Nat} {f : κ → Option α} {left : κ → Bool} {cnt : Nat}
theorem RgG.left_eq (h : RgG Ks Es w b r m f left cnt) : w.rangeLeft b r = cnt := by
  obtain ⟨D, L, h, -⟩ := h
  exact h.left_eq
theorem RgG.ne (h : RgG Ks Es w b r m f left cnt) : r ≠ b := by
  obtain ⟨D, L, h, -⟩ := h
  exact h.ne
theorem RgG.lt (h : RgG Ks Es w b r m f left cnt) : r < w.heap.size := by
  obtain ⟨D, L, h, -⟩ := h
  exact h.lt
theorem RgG.map (h : RgG Ks Es w b r m f left cnt) : MapG Ks Es w b m f := by
  obtain ⟨D, L, h, h0, h1, h2⟩ := h
  exact ⟨D, h.owns, h0, h1⟩
theorem RgG.kept {w' : World} {row : Option Nat} (h : RgG Ks Es w b r m f left cnt) (hg : w.grownBy w' row) (hb' : some b ≠ row) (hr' : some r ≠ row) : RgG Ks Es w' b r m f left cnt := by
  obtain ⟨D, L, h, h0, h1, h2⟩ := h
  exact ⟨D, L, h.kept hg hb' hr', h0, h1, h2⟩
theorem RgG.gr {F : Nat → Prop} {w' : World} (h : RgG Ks Es w b r m f left cnt) (hg : Gr F w w') (hb : ¬ F b) (hr : ¬ F r) : RgG Ks Es w' b r m f left cnt := by
  obtain ⟨D, L, ⟨es, clock, since, seen, c0, hb0, F0, hs, rfl, hr0, hold, hc, h1, h2, h3⟩, h0, h4, h5⟩ := h
  have hbl : b < w.heap.size := blk_lt hb0
  have hrl : r < w.heap.size := blk_lt hr0
  exact ⟨_, L, ⟨es, clock, since, seen, c0, (hg.block b hbl hb).trans hb0, F0, hs, rfl, (hg.block r hrl hr).trans hr0, hold, hc, h1, h2, h3⟩, h0, h4, h5⟩
theorem RgG.below {w' : World} (h : RgG Ks Es w b r m f left cnt) (hB : Below w.heap.size w w') : RgG Ks Es w' b r m f left cnt :=
  h.gr (Gr.of_below (F := fun _ => False) hB) (fun h => h) (fun h => h)
theorem RgG.congr (h : RgG Ks Es w b r m f left cnt) {left' : κ → Bool} (e : ∀ x, Ks.ok x → left' x = left x) : RgG Ks Es w b r m f left' cnt := by
  obtain ⟨D, L, h, h0, h1, h2⟩ := h
  exact ⟨D, L, h, h0, h1, fun x hx => (h2 x hx).trans (e x hx).symm⟩

variable {ops : Array Oper} {rest : List Oper} {o : Oper} {a : Act} {Q : Exit → Act → World → Prop} {t : TypeId}
/-- 'range m'. -/
theorem wpList_rangeG (hg : o.guard = none) (m0 : Operand) (hop : o.op = Op.range t m0) (ht : P.underlying t = some (.map k e)) (hm : a.eval m0 = .map (some b)) (h : MapG Ks Es w b m f)
    (hK : ∀ w', RgG Ks Es w' b w.heap.size m f (fun x => (f x).isSome) m → w.grownBy w' none → w'.heap.size = w.heap.size + 1 → wpList P ops Q rest (a.put o.dst (.pointer (some ⟨w.heap.size, 0, none⟩))) w') :
    wpList P ops Q (o :: rest) a w := by
  obtain ⟨D, hD, hsz, hf⟩ := h
  refine wpList_range_own w hg m0 t hop k e Ks.K ht Es.R b m D hm hD ?_
  intro w' h1 h2 h3
  rw [hsz] at h1
  exact hK w' ⟨D, _, h1, hsz, hf, fun x hx => (hf x hx).1⟩ h2 h3
theorem ranges_hasG {R : Value → Option (DataW Unit × List MemPlace)} {n : Nat} {D : DataW Unit} {L : Lit → Bool} (K : Maps.Keyed P k) (h : w.ranges P k R b r n D L cnt) (kl : Lit) (hl : L kl = true) : Maps.has D kl = true := by
  obtain ⟨es, clock, since, seen, c0, hb, F, hs, rfl, hr, hold, hc, h1, h2, h3⟩ := h
  obtain ⟨x, hx, rfl⟩ := h2 kl hl
  obtain ⟨y, hy⟩ := F.reads x hx
  exact List.any_eq_true.2 ⟨WideElems.rg P k R x, mem_sorted.2 (List.mem_map.2 ⟨x, hx, rfl⟩), WideAt.sameKey_self (by rw [WideElems.rg_of hy]; exact K.key (WideElems.rd_key hy))⟩
/-- The step. -/
theorem wpList_nextG [DecidableEq κ] (hg : o.guard = none) (it : Operand) (hop : o.op = Op.next it false) (hit : a.eval it = .pointer (some ⟨r, 0, none⟩)) (h : RgG Ks Es w b r m f left cnt)
    (hinv : ∀ key kl, keyOf P k key = some kl → ∃ x, Ks.ok x ∧ key = Ks.v x ∧ kl = Ks.l x) (hvi : ∀ x y, Ks.v x = Ks.v y → x = y) (hev : ∀ u y, Es.R u = some y → ∃ c, u = Es.v c)
    (hDone : (∀ x, Ks.ok x → left x = false) → wpList P ops Q rest (a.put o.dst (.tuple #[.bool false])) w)
    (hMore : ∀ (x : κ) (c : α) (w' : World) (cnt' : Nat), Ks.ok x → f x = some c → left x = true → RgG Ks Es w' b r m f (fun z => left z && !decide (z = x)) cnt' → cnt' < cnt →
      w.grownBy w' (some r) → w'.heap.size = w.heap.size → Sem.run P (Instr.entry (.pointer (some ⟨r, 0, none⟩))) w' = .ok (.tuple #[Ks.v x, Es.v c]) w' → wpList P ops Q rest (a.put o.dst (.tuple #[.bool true, Ks.v x, Es.v c])) w') :
    wpList P ops Q (o :: rest) a w := by
  obtain ⟨D, L, h, h0, hf, hl⟩ := h
  refine wpList_next_ranges w hg it hop k Ks.K Es.R Ks.v Es.v (fun key kl hk => by obtain ⟨x, -, rfl, -⟩ := hinv key kl hk; exact ⟨x, rfl⟩) hev b r m D L cnt hit h (fun _ hn => hDone fun x hx => by rw [← hl x hx]; exact hn _) ?_
  intro x c kl y w' cnt' hkey hL hR hat hrg hlt hgr hsz hen
  obtain ⟨x', hok, hv, rfl⟩ := hinv _ _ hkey
  obtain rfl := hvi _ _ hv
  have hh := ranges_hasG Ks.K h _ hL
  have hfx := hf x hok
  rw [hh] at hfx
  obtain ⟨d, hd⟩ := Option.isSome_iff_exists.1 hfx.1.symm
  have hy : y.1 = Es.d d := by rw [← hat (Es.d Es.z), hfx.2, hd]; rfl
  have hvd : Es.v c = Es.v d := Es.inv _ d y.2 (by rw [hR, ← hy])
  rw [hvd] at hen ⊢
  refine hMore x d w' cnt' hok hd (by rw [← hl x hok]; exact hL) ⟨D, _, hrg, h0, hf, fun z hz => ?_⟩ hlt hgr hsz hen
  rw [hl z hz]
  by_cases e : z = x
  · subst e
    rw [WideAt.sameKey_self (Ks.K.key (Ks.hl z hz))]
    simp
  · rw [Maps.sameKey_ne (fun h' => e (Ks.inj z x hz hok h'))]
    simp [e]
end
end Go.Proofs.YtdcjocldggmdbaaGreat

/- Layer 53: Signatures. -/
set_option linter.unusedSimpArgs false
set_option maxRecDepth 50000
namespace Go.Proofs.YtdcjocldggmdbaaGreat
open Go.RowKit Go

theorem keyOf_inv53 (key : Value) (kl : Lit) (h : keyOf Tryz.prog 48 key = some kl) : ∃ x, keyK.ok x ∧ key = keyK.v x ∧ kl = keyK.l x := keyOf_key h
theorem strE_v (u : Value) (y : DataW Unit × List MemPlace) (h : strE.R u = some y) : ∃ c, u = strE.v c := by
  unfold strE at h
  simp only at h
  unfold plainElem at h
  rw [Tryz.underlying9] at h
  cases u <;> simp at h
  exact ⟨_, rfl⟩
end Go.Proofs.YtdcjocldggmdbaaGreat
