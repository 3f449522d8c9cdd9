/- Layer 53: the comparison of keys, told so that the count of draws does not go down (the kit's sort asks for that). -/
import Derived.Test.YtdcjocldggmdbaaX53i
import Derived.Lib.QuietBelow
set_option linter.unusedSimpArgs false
set_option maxRecDepth 50000
namespace Go.Proofs.Ytdcjocldggmdbaa.Dr
open Go.RowKit Go
/-- Nothing old has turned, and the count of draws has not gone down. -/
structure Below (B : Nat) (w w' : World) : Prop where
  b : Go.RowKit.Below B w w'
  d : w.drawn ≤ w'.drawn
theorem Below.refl (B : Nat) (w : World) : Below B w w := ⟨Go.RowKit.Below.refl B w, Nat.le_refl _⟩
theorem Below.size {B : Nat} {w w' : World} (h : Below B w w') : w.heap.size ≤ w'.heap.size := h.b.size
theorem Below.block {B : Nat} {w w' : World} (h : Below B w w') : ∀ k, k < B → w'.heap[k]? = w.heap[k]? := h.b.block
theorem Below.trans {B : Nat} {a b c : World} (h : Below B a b) (k : Below B b c) : Below B a c := ⟨h.b.trans k.b, Nat.le_trans h.d k.d⟩
theorem Below.mono {B B' : Nat} {w w' : World} (h : Below B w w') (hB : B' ≤ B) : Below B' w w' := ⟨h.b.mono hB, h.d⟩
theorem Below.alloc {B : Nat} {a w : World} (h : Below B a w) (hB : B ≤ w.heap.size) (o : Obj) : Below B a (w.alloc o) := ⟨h.b.alloc hB o, h.d⟩
theorem below_step {w0 w w' : World} (h : Below w0.heap.size w0 w) (h' : Below w.heap.size w w') : Below w0.heap.size w0 w' := h.trans (h'.mono h.size)
theorem below_drew (w : World) : Below w.heap.size w w.drew := ⟨(Go.RowKit.Below.refl _ _).drew, Nat.le_succ _⟩
theorem Cells.below {w w' : World} (hB : Below w.heap.size w w') {l : List (Addr × Value)} (h : Cells l w) : Cells l w' := Go.Proofs.Ytdcjocldggmdbaa.Cells.below hB.b h
theorem wp_newrow {P : Program} {o : Oper} {a : Act} {w : World} {K : Act → World → Prop} {Q : Exit → Act → World → Prop} {v : Value} {cs : Array Value} {te : TypeId} (he : (execOp a.eval o).run P w = .ok (.value v) (w.alloc (.cells cs te))) (h : ∀ w2, Below w.heap.size w w2 → w2.heap[w.heap.size]? = some (.cells cs te (0, 0)) → K (a.put o.dst v) w2) : o.wp P a w K Q :=
  wp_value he (h _ ((Below.refl _ w).alloc (Nat.le_refl _) _) (heap_alloc_new w _))
theorem Below.grow {w w' : World} (h : Below w.heap.size w w') : ∃ q os, w' = Sort.grow (w.drewN q) os := by
  obtain ⟨p, hp⟩ := regrown_of_below h.b
  have hd : w.drawn ≤ p.d := by have := h.d; rw [hp] at this; exact this
  refine ⟨p.d - w.drawn, p.os, ?_⟩
  rw [hp]
  unfold redrawn World.drewN
  rw [Nat.add_sub_cancel' hd]
theorem compareB (w : World) (a b : Int) : Calls Try.prog 61 #[.int .i64 a, .int .i64 b] w fun e w' => e = .returned (.int .i64 (cmpI a b)) ∧ Below w.heap.size w w' :=
  (compareI_sum w a b).mono fun _ _ ⟨h1, h2⟩ => ⟨h1, by rw [h2]; exact Below.refl _ _⟩
theorem orB (w : World) (g : Nat) (cap : Nat) (a b c : Int) (h0 : w.cell? ⟨g, 0, none⟩ = some (.int .i64 a)) (h1 : w.cell? ⟨g, 1, none⟩ = some (.int .i64 b)) (h2 : w.cell? ⟨g, 2, none⟩ = some (.int .i64 c)) :
    Calls Try.prog 60 #[.slice (some ⟨g, 0, none⟩) 3 cap] w fun e w' => e = .returned (.int .i64 (orI a b c)) ∧ Below w.heap.size w w' :=
  (or_sum w g cap a b c h0 h1 h2).mono fun _ _ ⟨h1, h2⟩ => ⟨h1, by rw [h2]; exact Below.refl _ _⟩
theorem taskSame (w : World) (nm n : ByteArray) (na : Option Addr) (nl nc : Nat) (g f : Bool) (cb : Nat) (hb : w.heap[cb]? = some (.cells #[.string n] 9 (0, 0))) :
    Calls Try.prog 69 #[.agg #[.string nm, .slice na nl nc, .bool g, .bool f], .pointer (some ⟨cb, 0, none⟩)] w fun e w' => e = .returned (.bool (decide (nm = n))) ∧ Below w.heap.size w w' := by
  have hB : Below w.heap.size w (w.alloc (.cells #[.string nm, .slice na nl nc, .bool g, .bool f] 38)) := (Below.refl _ w).alloc (Nat.le_refl _) _
  have hb' := (hB.block _ (blk_lt hb)).trans hb
  have k0 := blk_cell hb' 0
  simp at k0
  clear hb hb'
  rw [← strB]
  go_enter Try.func69, Try.ntmps69
  go_wp2
  go_ret
  exact ⟨rfl, hB⟩
set_option maxRecDepth 20000 in
set_option maxHeartbeats 1000000 in
theorem placeIndex {S : Nat → Prop} (w : World) (a : Option Addr) (len cap : Nat) (xs : List taskT.den) (hx : Rd (.sl taskT) S w [.slice a len cap] xs) (hS : ∀ b, S b → b < w.heap.size) (cb : Nat) (n : ByteArray) (hcb : w.heap[cb]? = some (.cells #[.string n] 9 (0, 0))) :
    Calls Try.prog 68 #[.slice a len cap, .func (.func 69) #[] #[.pointer (some ⟨cb, 0, none⟩)]] w fun e w' => e = .returned (.int .i64 (plcI (xs.map tk) n)) ∧ Below w.heap.size w w' := by
  obtain ⟨hl, hlc, hm, -⟩ := hx.sl_flat
  have HX := Lib.hid hx
  have HL := Lib.hid hl
  have HS := Lib.hid hS
  have HCB := Lib.hid hcb
  clear hx hl hS hcb
  go_enter Try.func68, Try.ntmps68
  go_wp2_with fail
  go_loopw [5, 8] (fun _ i wr => ∃ (k : Nat), k ≤ len ∧ i = .int .i64 k ∧ (∀ j (hj : j < xs.length), j < k → (tk xs[j]).name ≠ n) ∧ Below w.heap.size w wr) (fun _ i _ => len - (intOf i).toNat)
  case atStart => exact ⟨0, Nat.zero_le _, rfl, fun j _ hj => absurd hj (by omega), Below.refl _ _⟩
  case round =>
    obtain ⟨k, hk, rfl, hno, hB⟩ := hrel
    have HNO := Lib.hid hno
    have HB := Lib.hid hB
    clear hno
    by_cases hlt : k < len
    · have hkx : k < xs.length := by rw [HL.out]; exact hlt
      obtain ⟨b, o, na, nl, nc, rfl, -, m0, m1, m2, m3, -, -⟩ := task_at (HX.out.below hB.b HS.out) k hkx
      have hkI : (k : Int) < (len : Int) := by omega
      have hcw := (HB.out.block _ (blk_lt HCB.out)).trans HCB.out
      obtain ⟨t, ht⟩ : ∃ t, tk xs[k] = t := ⟨_, rfl⟩
      rw [ht] at m0 m2 m3
      obtain ⟨bd, hbd⟩ : ∃ bd, decide (t.name = n) = bd := ⟨_, rfl⟩
      have HNN := Lib.hid (show bd = false → ∀ j (hj : j < xs.length), j < k + 1 → (tk xs[j]).name ≠ n from fun h j hj hjk => by
        by_cases e : j = k
        · subst e; rw [ht]; exact of_decide_eq_false (hbd.trans h)
        · exact HNO.out j hj (by omega))
      have HYY := Lib.hid (show bd = true → plcI (xs.map tk) n = k from fun h => by
        have hkm : k < (xs.map tk).length := by rw [List.length_map]; exact hkx
        have e : plc (xs.map tk) n = k := plc_hit hkm (by rw [List.getElem_map, ht]; exact of_decide_eq_true (hbd.trans h)) fun j hj => by rw [List.getElem_map]; exact HNO.out j (by omega) hj
        unfold plcI
        rw [e, if_pos hkm])
      obtain ⟨nm, nd, g, f⟩ := t
      simp only at m0 m1 m2 m3 hbd
      have HCL := Lib.hid (taskSame wr nm n na nl nc g f cb hcw)
      rw [hbd] at HCL
      have HLT := Lib.hid hlt
      clear hcw hB hbd ht
      cases bd
      · go_wp2_with (go_at_call 69; refine (HCL.out).mono ?_; rintro e w1 ⟨rfl, hw⟩; have HW := Lib.hid hw; clear hw)
        go_roundw
        case rel => exact ⟨k + 1, HLT.out, by go_num, HNN.out (by first | rfl | trivial), below_step HB.out HW.out⟩
        case measure => simp [intOf]; try omega
      · go_wp2_with (go_at_call 69; refine (HCL.out).mono ?_; rintro e w1 ⟨rfl, hw⟩; have HW := Lib.hid hw; clear hw)
        go_ret
        rw [HYY.out (by first | rfl | trivial)]
        exact ⟨rfl, below_step HB.out HW.out⟩
    · obtain rfl : len = k := by omega
      have HN := Lib.hid (show plcI (xs.map tk) n = -1 from by
        have e : plc (xs.map tk) n = (xs.map tk).length := plc_miss fun j hj => by
          rw [List.length_map] at hj
          rw [List.getElem_map]; exact HNO.out j hj (by rw [← HL.out]; exact hj)
        unfold plcI
        rw [e, if_neg (Nat.lt_irrefl _)])
      clear hB
      go_wp2_with fail
      go_ret
      rw [HN.out]
      exact ⟨rfl, HB.out⟩
set_option maxRecDepth 20000 in
theorem place53 {S : Nat → Prop} (w : World) (p : Nat) (ts : List Tk) (ne np m : Nat) (h : WfT S w p ts ne np m) (n : ByteArray) :
    Calls Try.prog 54 #[.pointer (some ⟨p, 0, none⟩), .string n] w fun e w' => e = .returned (.int .i64 (plcI ts n)) ∧ Below w.heap.size w w' := by
  have hB : Below w.heap.size w (w.alloc (.cells #[.string n] 9)) := (Below.refl _ w).alloc (Nat.le_refl _) _
  have hcb := heap_alloc_new w (.cells #[.string n] 9)
  have h' := h.below hB.b
  obtain ⟨a, len, cap, xs, h1, h2, h3⟩ := h'.row
  have y0 := blk_cell h1 0
  simp at y0
  have HI := Lib.hid (placeIndex _ a len cap xs h2 h'.hS w.heap.size n hcb)
  rw [h3] at HI
  have HB := Lib.hid hB
  clear h h' hcb h1 h2 h3 hB
  go_enter Try.func54, Try.ntmps54
  go_wp2_with fail
  refine (HI.out).mono ?_
  rintro e w1 ⟨rfl, hw⟩
  have HW := Lib.hid (below_step HB.out hw)
  clear hw
  go_wp2_with fail
  go_ret
  exact ⟨rfl, HW.out⟩
set_option maxRecDepth 20000 in
set_option maxHeartbeats 1000000 in
theorem compare53 {S : Nat → Prop} (w : World) (p : Nat) (ts : List Tk) (ne np m : Nat) (h : WfT S w p ts ne np m) (x y : Ky) :
    Calls Try.prog 40 #[.pointer (some ⟨p, 0, none⟩), x.v, y.v] w fun e w' => e = .returned (.int .i64 (orI (cmpI x.per y.per) (cmpI (plcI ts x.task) (plcI ts y.task)) (cmpI x.ent y.ent))) ∧ Below w.heap.size w w' := by
  obtain ⟨x1, x2, x3⟩ := x
  obtain ⟨y1, y2, y3⟩ := y
  unfold Ky.v
  simp only
  have hh2 := heap_alloc2_old w (.cells #[.string x1, .int .i64 x2, .int .i64 x3] 53) (.cells #[.string y1, .int .i64 y2, .int .i64 y3] 53)
  have hr2 := heap_alloc2_new w (.cells #[.string x1, .int .i64 x2, .int .i64 x3] 53) (.cells #[.string y1, .int .i64 y2, .int .i64 y3] 53)
  have hB1 : Below w.heap.size w ((w.alloc (.cells #[.string x1, .int .i64 x2, .int .i64 x3] 53)).alloc (.cells #[.string y1, .int .i64 y2, .int .i64 y3] 53)) := ((Below.refl _ w).alloc (Nat.le_refl _) _).alloc (by simp) _
  have HB1 := Lib.hid hB1
  have HW := Lib.hid (h.below hB1.b)
  have hC0 : Cells [(⟨w.heap.size, 0, none⟩, .string x1), (⟨w.heap.size, 1, none⟩, .int .i64 x2), (⟨w.heap.size, 2, none⟩, .int .i64 x3), (⟨w.heap.size + 1, 0, none⟩, .string y1), (⟨w.heap.size + 1, 1, none⟩, .int .i64 y2), (⟨w.heap.size + 1, 2, none⟩, .int .i64 y3)] ((w.alloc (.cells #[.string x1, .int .i64 x2, .int .i64 x3] 53)).alloc (.cells #[.string y1, .int .i64 y2, .int .i64 y3] 53)) := ⟨blk_cell hh2 0, blk_cell hh2 1, blk_cell hh2 2, blk_cell hr2 0, blk_cell hr2 1, blk_cell hr2 2, trivial⟩
  clear h hh2 hr2 hB1
  go_enter Try.func40, Try.ntmps40
  go_wp2_with fail
  generalize (w.alloc (.cells #[.string x1, .int .i64 x2, .int .i64 x3] 53)).alloc (.cells #[.string y1, .int .i64 y2, .int .i64 y3] 53) = w1 at *
  refine wp_region_T (Cells [(⟨w.heap.size, 0, none⟩, .string x1), (⟨w.heap.size, 1, none⟩, .int .i64 x2), (⟨w.heap.size, 2, none⟩, .int .i64 x3), (⟨w.heap.size + 1, 0, none⟩, .string y1), (⟨w.heap.size + 1, 1, none⟩, .int .i64 y2), (⟨w.heap.size + 1, 2, none⟩, .int .i64 y3)]) (fun _ => false) (by kernel_rfl) ?_
  have hSss1 := Cells.drew hC0
  have hB_0_s1 : Below w1.heap.size w1 w1.drew := below_drew _
  generalize w1.drew = s1 at hSss1 hB_0_s1 ⊢
  have hB_s1_s1 := Below.refl s1.heap.size s1
  refine wpAnyT_pure (i := 0) (v := ?_) rfl (by kernel_rfl) (by kernel_rfl) (by kernel_rfl) (fun _ _ _ h => h) (by rfl) ?_ ?_
  rotate_left
  · intro w; go_simp; try with_reducible rfl
  simp only [Act.put, List.setIfInBounds_toArray, List.set_cons_zero, List.set_cons_succ, List.getElem_toArray, List.getElem_cons_succ, List.getElem_cons_zero]
  refine wpAnyT_pure (i := 2) (v := ?_) rfl (by kernel_rfl) (by kernel_rfl) (by kernel_rfl) (fun _ _ _ h => h) (by rfl) ?_ ?_
  rotate_left
  · intro w; go_simp; try with_reducible rfl
  simp only [Act.put, List.setIfInBounds_toArray, List.set_cons_zero, List.set_cons_succ, List.getElem_toArray, List.getElem_cons_succ, List.getElem_cons_zero]
  refine wpAnyT_pure (i := 5) (v := ?_) rfl (by kernel_rfl) (by kernel_rfl) (by kernel_rfl) (fun _ _ _ h => h) (by rfl) ?_ ?_
  rotate_left
  · intro w; go_simp; try with_reducible rfl
  simp only [Act.put, List.setIfInBounds_toArray, List.set_cons_zero, List.set_cons_succ, List.getElem_toArray, List.getElem_cons_succ, List.getElem_cons_zero]
  refine wpAnyT_pure (i := 6) (v := ?_) rfl (by kernel_rfl) (by kernel_rfl) (by kernel_rfl) (fun _ _ _ h => h) (by rfl) ?_ ?_
  rotate_left
  · intro w; go_simp; try with_reducible rfl
  simp only [Act.put, List.setIfInBounds_toArray, List.set_cons_zero, List.set_cons_succ, List.getElem_toArray, List.getElem_cons_succ, List.getElem_cons_zero]
  refine wpAnyT_pure (i := 9) (v := ?_) rfl (by kernel_rfl) (by kernel_rfl) (by kernel_rfl) (fun _ _ _ h => h) (by rfl) ?_ ?_
  rotate_left
  · intro w; go_simp; try with_reducible rfl
  simp only [Act.put, List.setIfInBounds_toArray, List.set_cons_zero, List.set_cons_succ, List.getElem_toArray, List.getElem_cons_succ, List.getElem_cons_zero]
  refine wpAnyT_pure (i := 10) (v := ?_) rfl (by kernel_rfl) (by kernel_rfl) (by kernel_rfl) (fun _ _ _ h => h) (by rfl) ?_ ?_
  rotate_left
  · intro w; go_simp; try with_reducible rfl
  simp only [Act.put, List.setIfInBounds_toArray, List.set_cons_zero, List.set_cons_succ, List.getElem_toArray, List.getElem_cons_succ, List.getElem_cons_zero]
  refine wpAnyT_pure (i := 14) (v := ?_) rfl (by kernel_rfl) (by kernel_rfl) (by kernel_rfl) (fun _ _ _ h => h) (by rfl) ?_ ?_
  rotate_left
  · intro w; go_simp; try with_reducible rfl
  simp only [Act.put, List.setIfInBounds_toArray, List.set_cons_zero, List.set_cons_succ, List.getElem_toArray, List.getElem_cons_succ, List.getElem_cons_zero]
  refine wpAnyT_pure (i := 16) (v := ?_) rfl (by kernel_rfl) (by kernel_rfl) (by kernel_rfl) (fun _ _ _ h => h) (by rfl) ?_ ?_
  rotate_left
  · intro w; go_simp; try with_reducible rfl
  simp only [Act.put, List.setIfInBounds_toArray, List.set_cons_zero, List.set_cons_succ, List.getElem_toArray, List.getElem_cons_succ, List.getElem_cons_zero]
  refine wpAnyT_loadW (i := 1) (v := ?_) rfl (by kernel_rfl) (by kernel_rfl) (by kernel_rfl) (by kernel_rfl) (by kernel_rfl) (fun _ _ _ h => h) (Or.inl ⟨by rfl, ?_⟩) hSss1 ?_
  rotate_left
  · intro w hSw; obtain ⟨e0, e1, e2, e3, e4, e5, -⟩ := hSw; go_simp; try with_reducible rfl
  simp only [Act.put, List.setIfInBounds_toArray, List.set_cons_zero, List.set_cons_succ, List.getElem_toArray, List.getElem_cons_succ, List.getElem_cons_zero]
  refine wpAnyT_loadW (i := 3) (v := ?_) rfl (by kernel_rfl) (by kernel_rfl) (by kernel_rfl) (by kernel_rfl) (by kernel_rfl) (fun _ _ _ h => h) (Or.inl ⟨by rfl, ?_⟩) hSss1 ?_
  rotate_left
  · intro w hSw; obtain ⟨e0, e1, e2, e3, e4, e5, -⟩ := hSw; go_simp; try with_reducible rfl
  simp only [Act.put, List.setIfInBounds_toArray, List.set_cons_zero, List.set_cons_succ, List.getElem_toArray, List.getElem_cons_succ, List.getElem_cons_zero]
  refine wpAnyT_loadW (i := 7) (v := ?_) rfl (by kernel_rfl) (by kernel_rfl) (by kernel_rfl) (by kernel_rfl) (by kernel_rfl) (fun _ _ _ h => h) (Or.inl ⟨by rfl, ?_⟩) hSss1 ?_
  rotate_left
  · intro w hSw; obtain ⟨e0, e1, e2, e3, e4, e5, -⟩ := hSw; go_simp; try with_reducible rfl
  simp only [Act.put, List.setIfInBounds_toArray, List.set_cons_zero, List.set_cons_succ, List.getElem_toArray, List.getElem_cons_succ, List.getElem_cons_zero]
  refine wpAnyT_loadW (i := 11) (v := ?_) rfl (by kernel_rfl) (by kernel_rfl) (by kernel_rfl) (by kernel_rfl) (by kernel_rfl) (fun _ _ _ h => h) (Or.inl ⟨by rfl, ?_⟩) hSss1 ?_
  rotate_left
  · intro w hSw; obtain ⟨e0, e1, e2, e3, e4, e5, -⟩ := hSw; go_simp; try with_reducible rfl
  simp only [Act.put, List.setIfInBounds_toArray, List.set_cons_zero, List.set_cons_succ, List.getElem_toArray, List.getElem_cons_succ, List.getElem_cons_zero]
  refine wpAnyT_loadW (i := 15) (v := ?_) rfl (by kernel_rfl) (by kernel_rfl) (by kernel_rfl) (by kernel_rfl) (by kernel_rfl) (fun _ _ _ h => h) (Or.inl ⟨by rfl, ?_⟩) hSss1 ?_
  rotate_left
  · intro w hSw; obtain ⟨e0, e1, e2, e3, e4, e5, -⟩ := hSw; go_simp; try with_reducible rfl
  simp only [Act.put, List.setIfInBounds_toArray, List.set_cons_zero, List.set_cons_succ, List.getElem_toArray, List.getElem_cons_succ, List.getElem_cons_zero]
  refine wpAnyT_loadW (i := 17) (v := ?_) rfl (by kernel_rfl) (by kernel_rfl) (by kernel_rfl) (by kernel_rfl) (by kernel_rfl) (fun _ _ _ h => h) (Or.inl ⟨by rfl, ?_⟩) hSss1 ?_
  rotate_left
  · intro w hSw; obtain ⟨e0, e1, e2, e3, e4, e5, -⟩ := hSw; go_simp; try with_reducible rfl
  simp only [Act.put, List.setIfInBounds_toArray, List.set_cons_zero, List.set_cons_succ, List.getElem_toArray, List.getElem_cons_succ, List.getElem_cons_zero]
  refine wpAnyT_one (i := 4) (by kernel_rfl) rfl (by rfl) ?_
  refine wp_enter (f := 61) (args := #[.int .i64 x3, .int .i64 y3]) (by go_simp) (compareB s1 x3 y3) ?_
  rintro e w102 ⟨rfl, hX⟩
  have hB_s1_w102 := below_step hB_s1_s1 hX
  have hB_w102_w102 := Below.refl w102.heap.size w102
  have hSsw102 := Cells.below hB_s1_w102 hSss1
  clear hX
  refine ⟨_, rfl, fun _ _ => hSsw102, ?_⟩
  try simp only [Act.put, List.setIfInBounds_toArray, List.set_cons_zero, List.set_cons_succ, List.getElem_toArray, List.getElem_cons_succ, List.getElem_cons_zero]
  refine wpAnyT_one (i := 8) (by kernel_rfl) rfl (by rfl) ?_
  refine wp_enter (f := 54) (args := #[.pointer (some ⟨p, 0, none⟩), .string x1]) (by go_simp) (place53 w102 p ts ne np m (HW.out.below (hB_0_s1.trans ((hB_s1_w102).mono (hB_0_s1).size)).b) x1) ?_
  rintro e w103 ⟨rfl, hX⟩
  have hB_s1_w103 := below_step hB_s1_w102 hX
  have hB_w102_w103 := below_step hB_w102_w102 hX
  have hB_w103_w103 := Below.refl w103.heap.size w103
  have hSsw103 := Cells.below hB_s1_w103 hSss1
  clear hX
  refine ⟨_, rfl, fun _ _ => hSsw103, ?_⟩
  try simp only [Act.put, List.setIfInBounds_toArray, List.set_cons_zero, List.set_cons_succ, List.getElem_toArray, List.getElem_cons_succ, List.getElem_cons_zero]
  refine wpAnyT_one (i := 12) (by kernel_rfl) rfl (by rfl) ?_
  refine wp_enter (f := 54) (args := #[.pointer (some ⟨p, 0, none⟩), .string y1]) (by go_simp) (place53 w103 p ts ne np m (HW.out.below (hB_0_s1.trans ((hB_s1_w103).mono (hB_0_s1).size)).b) y1) ?_
  rintro e w104 ⟨rfl, hX⟩
  have hB_s1_w104 := below_step hB_s1_w103 hX
  have hB_w102_w104 := below_step hB_w102_w103 hX
  have hB_w103_w104 := below_step hB_w103_w103 hX
  have hB_w104_w104 := Below.refl w104.heap.size w104
  have hSsw104 := Cells.below hB_s1_w104 hSss1
  clear hX
  refine ⟨_, rfl, fun _ _ => hSsw104, ?_⟩
  try simp only [Act.put, List.setIfInBounds_toArray, List.set_cons_zero, List.set_cons_succ, List.getElem_toArray, List.getElem_cons_succ, List.getElem_cons_zero]
  refine wpAnyT_one (i := 13) (by kernel_rfl) rfl (by rfl) ?_
  refine wp_enter (f := 61) (args := #[.int .i64 (plcI ts x1), .int .i64 (plcI ts y1)]) (by go_simp) (compareB w104 (plcI ts x1) (plcI ts y1)) ?_
  rintro e w105 ⟨rfl, hX⟩
  have hB_s1_w105 := below_step hB_s1_w104 hX
  have hB_w102_w105 := below_step hB_w102_w104 hX
  have hB_w103_w105 := below_step hB_w103_w104 hX
  have hB_w104_w105 := below_step hB_w104_w104 hX
  have hB_w105_w105 := Below.refl w105.heap.size w105
  have hSsw105 := Cells.below hB_s1_w105 hSss1
  clear hX
  refine ⟨_, rfl, fun _ _ => hSsw105, ?_⟩
  try simp only [Act.put, List.setIfInBounds_toArray, List.set_cons_zero, List.set_cons_succ, List.getElem_toArray, List.getElem_cons_succ, List.getElem_cons_zero]
  refine wpAnyT_one (i := 18) (by kernel_rfl) rfl (by rfl) ?_
  refine wp_enter (f := 61) (args := #[.int .i64 x2, .int .i64 y2]) (by go_simp) (compareB w105 x2 y2) ?_
  rintro e w106 ⟨rfl, hX⟩
  have hB_s1_w106 := below_step hB_s1_w105 hX
  have hB_w102_w106 := below_step hB_w102_w105 hX
  have hB_w103_w106 := below_step hB_w103_w105 hX
  have hB_w104_w106 := below_step hB_w104_w105 hX
  have hB_w105_w106 := below_step hB_w105_w105 hX
  have hB_w106_w106 := Below.refl w106.heap.size w106
  have hSsw106 := Cells.below hB_s1_w106 hSss1
  clear hX
  refine ⟨_, rfl, fun _ _ => hSsw106, ?_⟩
  try simp only [Act.put, List.setIfInBounds_toArray, List.set_cons_zero, List.set_cons_succ, List.getElem_toArray, List.getElem_cons_succ, List.getElem_cons_zero]
  refine wpAnyT_one (i := 19) (by kernel_rfl) rfl (by rfl) ?_
  obtain ⟨b20, hb20⟩ : ∃ b, (w106).heap.size = b := ⟨_, rfl⟩
  refine wp_newrow (v := .slice (some ⟨b20, 0, none⟩) 3 3) (cs := #[.int .i64 (cmpI x3 y3), .int .i64 (cmpI (plcI ts x1) (plcI ts y1)), .int .i64 (cmpI x2 y2)]) (te := 3) (by rw [← hb20]; go_simp) ?_
  intro w107 hX hN20
  rw [hb20] at hN20
  have hB_s1_w107 := below_step hB_s1_w106 hX
  have hB_w102_w107 := below_step hB_w102_w106 hX
  have hB_w103_w107 := below_step hB_w103_w106 hX
  have hB_w104_w107 := below_step hB_w104_w106 hX
  have hB_w105_w107 := below_step hB_w105_w106 hX
  have hB_w106_w107 := below_step hB_w106_w106 hX
  have hB_w107_w107 := Below.refl w107.heap.size w107
  have hSsw107 := Cells.below hB_s1_w107 hSss1
  clear hX
  refine ⟨fun _ _ => hSsw107, ?_⟩
  try simp only [Act.put, List.setIfInBounds_toArray, List.set_cons_zero, List.set_cons_succ, List.getElem_toArray, List.getElem_cons_succ, List.getElem_cons_zero]
  refine wpAnyT_one (i := 20) (by kernel_rfl) rfl (by rfl) ?_
  have hq20 : (w107).heap[b20]? = some (.cells #[.int .i64 (cmpI x3 y3), .int .i64 (cmpI (plcI ts x1) (plcI ts y1)), .int .i64 (cmpI x2 y2)] 3 (0, 0)) := by first | exact hN20 | exact ((hB_w107_w107).block _ (blk_lt hN20)).trans hN20
  refine wp_enter (f := 60) (args := #[.slice (some ⟨b20, 0, none⟩) 3 3]) (by go_simp) (orB w107 b20 3 _ _ _ (blk_cell hq20 0) (blk_cell hq20 1) (blk_cell hq20 2)) ?_
  rintro e w108 ⟨rfl, hX⟩
  have hB_s1_w108 := below_step hB_s1_w107 hX
  have hB_w102_w108 := below_step hB_w102_w107 hX
  have hB_w103_w108 := below_step hB_w103_w107 hX
  have hB_w104_w108 := below_step hB_w104_w107 hX
  have hB_w105_w108 := below_step hB_w105_w107 hX
  have hB_w106_w108 := below_step hB_w106_w107 hX
  have hB_w107_w108 := below_step hB_w107_w107 hX
  have hB_w108_w108 := Below.refl w108.heap.size w108
  have hSsw108 := Cells.below hB_s1_w108 hSss1
  clear hX
  refine ⟨_, rfl, fun _ _ => hSsw108, ?_⟩
  try simp only [Act.put, List.setIfInBounds_toArray, List.set_cons_zero, List.set_cons_succ, List.getElem_toArray, List.getElem_cons_succ, List.getElem_cons_zero]
  refine wpAnyT_pure (i := 21) (v := ?_) rfl (by kernel_rfl) (by kernel_rfl) (by kernel_rfl) (fun _ _ _ h => h) (by rfl) ?_ ?_
  rotate_left
  · intro w; go_simp; try with_reducible rfl
  simp only [Act.put, List.setIfInBounds_toArray, List.set_cons_zero, List.set_cons_succ, List.getElem_toArray, List.getElem_cons_succ, List.getElem_cons_zero]
  refine wpAnyT_done (by kernel_rfl) ?_ _
  have hbP : Below w1.heap.size w1 w108 := hB_0_s1.trans ((hB_s1_w108).mono (hB_0_s1).size)
  go_wp2_with fail
  go_ret
  exact ⟨rfl, below_step HB1.out hbP⟩
end Go.Proofs.Ytdcjocldggmdbaa.Dr
