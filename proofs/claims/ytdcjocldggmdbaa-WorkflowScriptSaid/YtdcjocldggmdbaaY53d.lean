/- Layer 53: the comparison of keys, told so that the count of draws does not go down (the kit's sort asks for that). -/
import Derived.Test.YtdcjocldggmdbaaX53i
import Derived.Lib.QuietBelow
import Derived.Test.YtdcjocldggmdbaaW53z
import Derived.Shelf.SlSortCmp.NoneTotal
import Derived.Shelf.SlGeneric
import Derived.Ground.SlsfProg
set_option linter.unusedSimpArgs false
set_option maxRecDepth 50000
namespace Go.Proofs.Ytdcjocldggmdbaa.Dr
open Go.RowKit Go
/-- Nothing old has turned, and the count of draws has not gone down. -/
structure Below (B : Nat) (w w' : World) : Prop where
  b : Go.RowKit.Below B w w'
  d : w.drawn ≤ w'.drawn
theorem Below.refl (B : Nat) (w : World) : Below B w w := ⟨Go.RowKit.Below.refl B w, Nat.le_refl _⟩
theorem Below.size {B : Nat} {w w' : World} (h : Below B w w') : w.heap.size ≤ w'.heap.size := h.b.size
theorem Below.block {B : Nat} {w w' : World} (h : Below B w w') : ∀ k, k < B → w'.heap[k]? = w.heap[k]? := h.b.block
theorem Below.trans {B : Nat} {a b c : World} (h : Below B a b) (k : Below B b c) : Below B a c := ⟨h.b.trans k.b, Nat.le_trans h.d k.d⟩
theorem Below.mono {B B' : Nat} {w w' : World} (h : Below B w w') (hB : B' ≤ B) : Below B' w w' := ⟨h.b.mono hB, h.d⟩
theorem Below.alloc {B : Nat} {a w : World} (h : Below B a w) (hB : B ≤ w.heap.size) (o : Obj) : Below B a (w.alloc o) := ⟨h.b.alloc hB o, h.d⟩
theorem below_step {w0 w w' : World} (h : Below w0.heap.size w0 w) (h' : Below w.heap.size w w') : Below w0.heap.size w0 w' := h.trans (h'.mono h.size)
theorem below_drew (w : World) : Below w.heap.size w w.drew := ⟨(Go.RowKit.Below.refl _ _).drew, Nat.le_succ _⟩
theorem Cells.below {w w' : World} (hB : Below w.heap.size w w') {l : List (Addr × Value)} (h : Cells l w) : Cells l w' := Go.Proofs.Ytdcjocldggmdbaa.Cells.below hB.b h
theorem wp_newrow {P : Program} {o : Oper} {a : Act} {w : World} {K : Act → World → Prop} {Q : Exit → Act → World → Prop} {v : Value} {cs : Array Value} {te : TypeId} (he : (execOp a.eval o).run P w = .ok (.value v) (w.alloc (.cells cs te))) (h : ∀ w2, Below w.heap.size w w2 → w2.heap[w.heap.size]? = some (.cells cs te (0, 0)) → K (a.put o.dst v) w2) : o.wp P a w K Q :=
  wp_value he (h _ ((Below.refl _ w).alloc (Nat.le_refl _) _) (heap_alloc_new w _))
theorem Below.grow {w w' : World} (h : Below w.heap.size w w') : ∃ q os, w' = Sort.grow (w.drewN q) os := by
  obtain ⟨p, hp⟩ := regrown_of_below h.b
  have hd : w.drawn ≤ p.d := by have := h.d; rw [hp] at this; exact this
  refine ⟨p.d - w.drawn, p.os, ?_⟩
  rw [hp]
  unfold redrawn World.drewN
  rw [Nat.add_sub_cancel' hd]
theorem compareB (w : World) (a b : Int) : Calls Try.prog 61 #[.int .i64 a, .int .i64 b] w fun e w' => e = .returned (.int .i64 (cmpI a b)) ∧ Below w.heap.size w w' :=
  (compareI_sum w a b).mono fun _ _ ⟨h1, h2⟩ => ⟨h1, by rw [h2]; exact Below.refl _ _⟩
theorem orB (w : World) (g : Nat) (cap : Nat) (a b c : Int) (h0 : w.cell? ⟨g, 0, none⟩ = some (.int .i64 a)) (h1 : w.cell? ⟨g, 1, none⟩ = some (.int .i64 b)) (h2 : w.cell? ⟨g, 2, none⟩ = some (.int .i64 c)) :
    Calls Try.prog 60 #[.slice (some ⟨g, 0, none⟩) 3 cap] w fun e w' => e = .returned (.int .i64 (orI a b c)) ∧ Below w.heap.size w w' :=
  (or_sum w g cap a b c h0 h1 h2).mono fun _ _ ⟨h1, h2⟩ => ⟨h1, by rw [h2]; exact Below.refl _ _⟩
theorem taskSame (w : World) (nm n : ByteArray) (na : Option Addr) (nl nc : Nat) (g f : Bool) (cb : Nat) (hb : w.heap[cb]? = some (.cells #[.string n] 9 (0, 0))) :
    Calls Try.prog 69 #[.agg #[.string nm, .slice na nl nc, .bool g, .bool f], .pointer (some ⟨cb, 0, none⟩)] w fun e w' => e = .returned (.bool (decide (nm = n))) ∧ Below w.heap.size w w' := by
  have hB : Below w.heap.size w (w.alloc (.cells #[.string nm, .slice na nl nc, .bool g, .bool f] 38)) := (Below.refl _ w).alloc (Nat.le_refl _) _
  have hb' := (hB.block _ (blk_lt hb)).trans hb
  have k0 := blk_cell hb' 0
  simp at k0
  clear hb hb'
  rw [← strB]
  go_enter Try.func69, Try.ntmps69
  go_wp2
  go_ret
  exact ⟨rfl, hB⟩
set_option maxRecDepth 20000 in
set_option maxHeartbeats 1000000 in
theorem placeIndex {S : Nat → Prop} (w : World) (a : Option Addr) (len cap : Nat) (xs : List taskT.den) (hx : Rd (.sl taskT) S w [.slice a len cap] xs) (hS : ∀ b, S b → b < w.heap.size) (cb : Nat) (n : ByteArray) (hcb : w.heap[cb]? = some (.cells #[.string n] 9 (0, 0))) :
    Calls Try.prog 68 #[.slice a len cap, .func (.func 69) #[] #[.pointer (some ⟨cb, 0, none⟩)]] w fun e w' => e = .returned (.int .i64 (plcI (xs.map tk) n)) ∧ Below w.heap.size w w' := by
  obtain ⟨hl, hlc, hm, -⟩ := hx.sl_flat
  have HX := Lib.hid hx
  have HL := Lib.hid hl
  have HS := Lib.hid hS
  have HCB := Lib.hid hcb
  clear hx hl hS hcb
  go_enter Try.func68, Try.ntmps68
  go_wp2_with fail
  go_loopw [5, 8] (fun _ i wr => ∃ (k : Nat), k ≤ len ∧ i = .int .i64 k ∧ (∀ j (hj : j < xs.length), j < k → (tk xs[j]).name ≠ n) ∧ Below w.heap.size w wr) (fun _ i _ => len - (intOf i).toNat)
  case atStart => exact ⟨0, Nat.zero_le _, rfl, fun j _ hj => absurd hj (by omega), Below.refl _ _⟩
  case round =>
    obtain ⟨k, hk, rfl, hno, hB⟩ := hrel
    have HNO := Lib.hid hno
    have HB := Lib.hid hB
    clear hno
    by_cases hlt : k < len
    · have hkx : k < xs.length := by rw [HL.out]; exact hlt
      obtain ⟨b, o, na, nl, nc, rfl, -, m0, m1, m2, m3, -, -⟩ := task_at (HX.out.below hB.b HS.out) k hkx
      have hkI : (k : Int) < (len : Int) := by omega
      have hcw := (HB.out.block _ (blk_lt HCB.out)).trans HCB.out
      obtain ⟨t, ht⟩ : ∃ t, tk xs[k] = t := ⟨_, rfl⟩
      rw [ht] at m0 m2 m3
      obtain ⟨bd, hbd⟩ : ∃ bd, decide (t.name = n) = bd := ⟨_, rfl⟩
      have HNN := Lib.hid (show bd = false → ∀ j (hj : j < xs.length), j < k + 1 → (tk xs[j]).name ≠ n from fun h j hj hjk => by
        by_cases e : j = k
        · subst e; rw [ht]; exact of_decide_eq_false (hbd.trans h)
        · exact HNO.out j hj (by omega))
      have HYY := Lib.hid (show bd = true → plcI (xs.map tk) n = k from fun h => by
        have hkm : k < (xs.map tk).length := by rw [List.length_map]; exact hkx
        have e : plc (xs.map tk) n = k := plc_hit hkm (by rw [List.getElem_map, ht]; exact of_decide_eq_true (hbd.trans h)) fun j hj => by rw [List.getElem_map]; exact HNO.out j (by omega) hj
        unfold plcI
        rw [e, if_pos hkm])
      obtain ⟨nm, nd, g, f⟩ := t
      simp only at m0 m1 m2 m3 hbd
      have HCL := Lib.hid (taskSame wr nm n na nl nc g f cb hcw)
      rw [hbd] at HCL
      have HLT := Lib.hid hlt
      clear hcw hB hbd ht
      cases bd
      · go_wp2_with (go_at_call 69; refine (HCL.out).mono ?_; rintro e w1 ⟨rfl, hw⟩; have HW := Lib.hid hw; clear hw)
        go_roundw
        case rel => exact ⟨k + 1, HLT.out, by go_num, HNN.out (by first | rfl | trivial), below_step HB.out HW.out⟩
        case measure => simp [intOf]; try omega
      · go_wp2_with (go_at_call 69; refine (HCL.out).mono ?_; rintro e w1 ⟨rfl, hw⟩; have HW := Lib.hid hw; clear hw)
        go_ret
        rw [HYY.out (by first | rfl | trivial)]
        exact ⟨rfl, below_step HB.out HW.out⟩
    · obtain rfl : len = k := by omega
      have HN := Lib.hid (show plcI (xs.map tk) n = -1 from by
        have e : plc (xs.map tk) n = (xs.map tk).length := plc_miss fun j hj => by
          rw [List.length_map] at hj
          rw [List.getElem_map]; exact HNO.out j hj (by rw [← HL.out]; exact hj)
        unfold plcI
        rw [e, if_neg (Nat.lt_irrefl _)])
      clear hB
      go_wp2_with fail
      go_ret
      rw [HN.out]
      exact ⟨rfl, HB.out⟩
set_option maxRecDepth 20000 in
theorem place53 {S : Nat → Prop} (w : World) (p : Nat) (ts : List Tk) (ne np m : Nat) (h : WfT S w p ts ne np m) (n : ByteArray) :
    Calls Try.prog 54 #[.pointer (some ⟨p, 0, none⟩), .string n] w fun e w' => e = .returned (.int .i64 (plcI ts n)) ∧ Below w.heap.size w w' := by
  have hB : Below w.heap.size w (w.alloc (.cells #[.string n] 9)) := (Below.refl _ w).alloc (Nat.le_refl _) _
  have hcb := heap_alloc_new w (.cells #[.string n] 9)
  have h' := h.below hB.b
  obtain ⟨a, len, cap, xs, h1, h2, h3⟩ := h'.row
  have y0 := blk_cell h1 0
  simp at y0
  have HI := Lib.hid (placeIndex _ a len cap xs h2 h'.hS w.heap.size n hcb)
  rw [h3] at HI
  have HB := Lib.hid hB
  clear h h' hcb h1 h2 h3 hB
  go_enter Try.func54, Try.ntmps54
  go_wp2_with fail
  refine (HI.out).mono ?_
  rintro e w1 ⟨rfl, hw⟩
  have HW := Lib.hid (below_step HB.out hw)
  clear hw
  go_wp2_with fail
  go_ret
  exact ⟨rfl, HW.out⟩
set_option maxRecDepth 20000 in
set_option maxHeartbeats 1000000 in
theorem compare53 {S : Nat → Prop} (w : World) (p : Nat) (ts : List Tk) (ne np m : Nat) (h : WfT S w p ts ne np m) (x y : Ky) :
    Calls Try.prog 40 #[.pointer (some ⟨p, 0, none⟩), x.v, y.v] w fun e w' => e = .returned (.int .i64 (orI (cmpI x.per y.per) (cmpI (plcI ts x.task) (plcI ts y.task)) (cmpI x.ent y.ent))) ∧ Below w.heap.size w w' := by
  obtain ⟨x1, x2, x3⟩ := x
  obtain ⟨y1, y2, y3⟩ := y
  unfold Ky.v
  simp only
  have hh2 := heap_alloc2_old w (.cells #[.string x1, .int .i64 x2, .int .i64 x3] 53) (.cells #[.string y1, .int .i64 y2, .int .i64 y3] 53)
  have hr2 := heap_alloc2_new w (.cells #[.string x1, .int .i64 x2, .int .i64 x3] 53) (.cells #[.string y1, .int .i64 y2, .int .i64 y3] 53)
  have hB1 : Below w.heap.size w ((w.alloc (.cells #[.string x1, .int .i64 x2, .int .i64 x3] 53)).alloc (.cells #[.string y1, .int .i64 y2, .int .i64 y3] 53)) := ((Below.refl _ w).alloc (Nat.le_refl _) _).alloc (by simp) _
  have HB1 := Lib.hid hB1
  have HW := Lib.hid (h.below hB1.b)
  have hC0 : Cells [(⟨w.heap.size, 0, none⟩, .string x1), (⟨w.heap.size, 1, none⟩, .int .i64 x2), (⟨w.heap.size, 2, none⟩, .int .i64 x3), (⟨w.heap.size + 1, 0, none⟩, .string y1), (⟨w.heap.size + 1, 1, none⟩, .int .i64 y2), (⟨w.heap.size + 1, 2, none⟩, .int .i64 y3)] ((w.alloc (.cells #[.string x1, .int .i64 x2, .int .i64 x3] 53)).alloc (.cells #[.string y1, .int .i64 y2, .int .i64 y3] 53)) := ⟨blk_cell hh2 0, blk_cell hh2 1, blk_cell hh2 2, blk_cell hr2 0, blk_cell hr2 1, blk_cell hr2 2, trivial⟩
  clear h hh2 hr2 hB1
  go_enter Try.func40, Try.ntmps40
  go_wp2_with fail
  generalize (w.alloc (.cells #[.string x1, .int .i64 x2, .int .i64 x3] 53)).alloc (.cells #[.string y1, .int .i64 y2, .int .i64 y3] 53) = w1 at *
  refine wp_region_T (Cells [(⟨w.heap.size, 0, none⟩, .string x1), (⟨w.heap.size, 1, none⟩, .int .i64 x2), (⟨w.heap.size, 2, none⟩, .int .i64 x3), (⟨w.heap.size + 1, 0, none⟩, .string y1), (⟨w.heap.size + 1, 1, none⟩, .int .i64 y2), (⟨w.heap.size + 1, 2, none⟩, .int .i64 y3)]) (fun _ => false) (by kernel_rfl) ?_
  have hSss1 := Cells.drew hC0
  have hB_0_s1 : Below w1.heap.size w1 w1.drew := below_drew _
  generalize w1.drew = s1 at hSss1 hB_0_s1 ⊢
  have hB_s1_s1 := Below.refl s1.heap.size s1
  refine wpAnyT_pure (i := 0) (v := ?_) rfl (by kernel_rfl) (by kernel_rfl) (by kernel_rfl) (fun _ _ _ h => h) (by rfl) ?_ ?_
  rotate_left
  · intro w; go_simp; try with_reducible rfl
  simp only [Act.put, rgA, rgB, rgC, rgD, rgE, rgF]
  refine wpAnyT_pure (i := 2) (v := ?_) rfl (by kernel_rfl) (by kernel_rfl) (by kernel_rfl) (fun _ _ _ h => h) (by rfl) ?_ ?_
  rotate_left
  · intro w; go_simp; try with_reducible rfl
  simp only [Act.put, rgA, rgB, rgC, rgD, rgE, rgF]
  refine wpAnyT_pure (i := 5) (v := ?_) rfl (by kernel_rfl) (by kernel_rfl) (by kernel_rfl) (fun _ _ _ h => h) (by rfl) ?_ ?_
  rotate_left
  · intro w; go_simp; try with_reducible rfl
  simp only [Act.put, rgA, rgB, rgC, rgD, rgE, rgF]
  refine wpAnyT_pure (i := 6) (v := ?_) rfl (by kernel_rfl) (by kernel_rfl) (by kernel_rfl) (fun _ _ _ h => h) (by rfl) ?_ ?_
  rotate_left
  · intro w; go_simp; try with_reducible rfl
  simp only [Act.put, rgA, rgB, rgC, rgD, rgE, rgF]
  refine wpAnyT_pure (i := 9) (v := ?_) rfl (by kernel_rfl) (by kernel_rfl) (by kernel_rfl) (fun _ _ _ h => h) (by rfl) ?_ ?_
  rotate_left
  · intro w; go_simp; try with_reducible rfl
  simp only [Act.put, rgA, rgB, rgC, rgD, rgE, rgF]
  refine wpAnyT_pure (i := 10) (v := ?_) rfl (by kernel_rfl) (by kernel_rfl) (by kernel_rfl) (fun _ _ _ h => h) (by rfl) ?_ ?_
  rotate_left
  · intro w; go_simp; try with_reducible rfl
  simp only [Act.put, rgA, rgB, rgC, rgD, rgE, rgF]
  refine wpAnyT_pure (i := 14) (v := ?_) rfl (by kernel_rfl) (by kernel_rfl) (by kernel_rfl) (fun _ _ _ h => h) (by rfl) ?_ ?_
  rotate_left
  · intro w; go_simp; try with_reducible rfl
  simp only [Act.put, rgA, rgB, rgC, rgD, rgE, rgF]
  refine wpAnyT_pure (i := 16) (v := ?_) rfl (by kernel_rfl) (by kernel_rfl) (by kernel_rfl) (fun _ _ _ h => h) (by rfl) ?_ ?_
  rotate_left
  · intro w; go_simp; try with_reducible rfl
  simp only [Act.put, rgA, rgB, rgC, rgD, rgE, rgF]
  refine wpAnyT_loadW (i := 1) (v := ?_) rfl (by kernel_rfl) (by kernel_rfl) (by kernel_rfl) (by kernel_rfl) (by kernel_rfl) (fun _ _ _ h => h) (Or.inl ⟨by rfl, ?_⟩) hSss1 ?_
  rotate_left
  · intro w hSw; obtain ⟨e0, e1, e2, e3, e4, e5, -⟩ := hSw; go_simp; try with_reducible rfl
  simp only [Act.put, rgA, rgB, rgC, rgD, rgE, rgF]
  refine wpAnyT_loadW (i := 3) (v := ?_) rfl (by kernel_rfl) (by kernel_rfl) (by kernel_rfl) (by kernel_rfl) (by kernel_rfl) (fun _ _ _ h => h) (Or.inl ⟨by rfl, ?_⟩) hSss1 ?_
  rotate_left
  · intro w hSw; obtain ⟨e0, e1, e2, e3, e4, e5, -⟩ := hSw; go_simp; try with_reducible rfl
  simp only [Act.put, rgA, rgB, rgC, rgD, rgE, rgF]
  refine wpAnyT_loadW (i := 7) (v := ?_) rfl (by kernel_rfl) (by kernel_rfl) (by kernel_rfl) (by kernel_rfl) (by kernel_rfl) (fun _ _ _ h => h) (Or.inl ⟨by rfl, ?_⟩) hSss1 ?_
  rotate_left
  · intro w hSw; obtain ⟨e0, e1, e2, e3, e4, e5, -⟩ := hSw; go_simp; try with_reducible rfl
  simp only [Act.put, rgA, rgB, rgC, rgD, rgE, rgF]
  refine wpAnyT_loadW (i := 11) (v := ?_) rfl (by kernel_rfl) (by kernel_rfl) (by kernel_rfl) (by kernel_rfl) (by kernel_rfl) (fun _ _ _ h => h) (Or.inl ⟨by rfl, ?_⟩) hSss1 ?_
  rotate_left
  · intro w hSw; obtain ⟨e0, e1, e2, e3, e4, e5, -⟩ := hSw; go_simp; try with_reducible rfl
  simp only [Act.put, rgA, rgB, rgC, rgD, rgE, rgF]
  refine wpAnyT_loadW (i := 15) (v := ?_) rfl (by kernel_rfl) (by kernel_rfl) (by kernel_rfl) (by kernel_rfl) (by kernel_rfl) (fun _ _ _ h => h) (Or.inl ⟨by rfl, ?_⟩) hSss1 ?_
  rotate_left
  · intro w hSw; obtain ⟨e0, e1, e2, e3, e4, e5, -⟩ := hSw; go_simp; try with_reducible rfl
  simp only [Act.put, rgA, rgB, rgC, rgD, rgE, rgF]
  refine wpAnyT_loadW (i := 17) (v := ?_) rfl (by kernel_rfl) (by kernel_rfl) (by kernel_rfl) (by kernel_rfl) (by kernel_rfl) (fun _ _ _ h => h) (Or.inl ⟨by rfl, ?_⟩) hSss1 ?_
  rotate_left
  · intro w hSw; obtain ⟨e0, e1, e2, e3, e4, e5, -⟩ := hSw; go_simp; try with_reducible rfl
  simp only [Act.put, rgA, rgB, rgC, rgD, rgE, rgF]
  refine wpAnyT_one (i := 4) (by kernel_rfl) rfl (by rfl) ?_
  refine wp_enter (f := 61) (args := #[.int .i64 x3, .int .i64 y3]) (by go_simp) (compareB s1 x3 y3) ?_
  rintro e w102 ⟨rfl, hX⟩
  have hB_s1_w102 := below_step hB_s1_s1 hX
  have hB_w102_w102 := Below.refl w102.heap.size w102
  have hSsw102 := Cells.below hB_s1_w102 hSss1
  clear hX
  refine ⟨_, rfl, fun _ _ => hSsw102, ?_⟩
  try simp only [Act.put, rgA, rgB, rgC, rgD, rgE, rgF]
  refine wpAnyT_one (i := 8) (by kernel_rfl) rfl (by rfl) ?_
  refine wp_enter (f := 54) (args := #[.pointer (some ⟨p, 0, none⟩), .string x1]) (by go_simp) (place53 w102 p ts ne np m (HW.out.below (hB_0_s1.trans ((hB_s1_w102).mono (hB_0_s1).size)).b) x1) ?_
  rintro e w103 ⟨rfl, hX⟩
  have hB_s1_w103 := below_step hB_s1_w102 hX
  have hB_w102_w103 := below_step hB_w102_w102 hX
  have hB_w103_w103 := Below.refl w103.heap.size w103
  have hSsw103 := Cells.below hB_s1_w103 hSss1
  clear hX
  refine ⟨_, rfl, fun _ _ => hSsw103, ?_⟩
  try simp only [Act.put, rgA, rgB, rgC, rgD, rgE, rgF]
  refine wpAnyT_one (i := 12) (by kernel_rfl) rfl (by rfl) ?_
  refine wp_enter (f := 54) (args := #[.pointer (some ⟨p, 0, none⟩), .string y1]) (by go_simp) (place53 w103 p ts ne np m (HW.out.below (hB_0_s1.trans ((hB_s1_w103).mono (hB_0_s1).size)).b) y1) ?_
  rintro e w104 ⟨rfl, hX⟩
  have hB_s1_w104 := below_step hB_s1_w103 hX
  have hB_w102_w104 := below_step hB_w102_w103 hX
  have hB_w103_w104 := below_step hB_w103_w103 hX
  have hB_w104_w104 := Below.refl w104.heap.size w104
  have hSsw104 := Cells.below hB_s1_w104 hSss1
  clear hX
  refine ⟨_, rfl, fun _ _ => hSsw104, ?_⟩
  try simp only [Act.put, rgA, rgB, rgC, rgD, rgE, rgF]
  refine wpAnyT_one (i := 13) (by kernel_rfl) rfl (by rfl) ?_
  refine wp_enter (f := 61) (args := #[.int .i64 (plcI ts x1), .int .i64 (plcI ts y1)]) (by go_simp) (compareB w104 (plcI ts x1) (plcI ts y1)) ?_
  rintro e w105 ⟨rfl, hX⟩
  have hB_s1_w105 := below_step hB_s1_w104 hX
  have hB_w102_w105 := below_step hB_w102_w104 hX
  have hB_w103_w105 := below_step hB_w103_w104 hX
  have hB_w104_w105 := below_step hB_w104_w104 hX
  have hB_w105_w105 := Below.refl w105.heap.size w105
  have hSsw105 := Cells.below hB_s1_w105 hSss1
  clear hX
  refine ⟨_, rfl, fun _ _ => hSsw105, ?_⟩
  try simp only [Act.put, rgA, rgB, rgC, rgD, rgE, rgF]
  refine wpAnyT_one (i := 18) (by kernel_rfl) rfl (by rfl) ?_
  refine wp_enter (f := 61) (args := #[.int .i64 x2, .int .i64 y2]) (by go_simp) (compareB w105 x2 y2) ?_
  rintro e w106 ⟨rfl, hX⟩
  have hB_s1_w106 := below_step hB_s1_w105 hX
  have hB_w102_w106 := below_step hB_w102_w105 hX
  have hB_w103_w106 := below_step hB_w103_w105 hX
  have hB_w104_w106 := below_step hB_w104_w105 hX
  have hB_w105_w106 := below_step hB_w105_w105 hX
  have hB_w106_w106 := Below.refl w106.heap.size w106
  have hSsw106 := Cells.below hB_s1_w106 hSss1
  clear hX
  refine ⟨_, rfl, fun _ _ => hSsw106, ?_⟩
  try simp only [Act.put, rgA, rgB, rgC, rgD, rgE, rgF]
  refine wpAnyT_one (i := 19) (by kernel_rfl) rfl (by rfl) ?_
  obtain ⟨b20, hb20⟩ : ∃ b, (w106).heap.size = b := ⟨_, rfl⟩
  refine wp_newrow (v := .slice (some ⟨b20, 0, none⟩) 3 3) (cs := #[.int .i64 (cmpI x3 y3), .int .i64 (cmpI (plcI ts x1) (plcI ts y1)), .int .i64 (cmpI x2 y2)]) (te := 3) (by rw [← hb20]; go_simp) ?_
  intro w107 hX hN20
  rw [hb20] at hN20
  have hB_s1_w107 := below_step hB_s1_w106 hX
  have hB_w102_w107 := below_step hB_w102_w106 hX
  have hB_w103_w107 := below_step hB_w103_w106 hX
  have hB_w104_w107 := below_step hB_w104_w106 hX
  have hB_w105_w107 := below_step hB_w105_w106 hX
  have hB_w106_w107 := below_step hB_w106_w106 hX
  have hB_w107_w107 := Below.refl w107.heap.size w107
  have hSsw107 := Cells.below hB_s1_w107 hSss1
  clear hX
  refine ⟨fun _ _ => hSsw107, ?_⟩
  try simp only [Act.put, rgA, rgB, rgC, rgD, rgE, rgF]
  refine wpAnyT_one (i := 20) (by kernel_rfl) rfl (by rfl) ?_
  have hq20 : (w107).heap[b20]? = some (.cells #[.int .i64 (cmpI x3 y3), .int .i64 (cmpI (plcI ts x1) (plcI ts y1)), .int .i64 (cmpI x2 y2)] 3 (0, 0)) := by first | exact hN20 | exact ((hB_w107_w107).block _ (blk_lt hN20)).trans hN20
  refine wp_enter (f := 60) (args := #[.slice (some ⟨b20, 0, none⟩) 3 3]) (by go_simp) (orB w107 b20 3 _ _ _ (blk_cell hq20 0) (blk_cell hq20 1) (blk_cell hq20 2)) ?_
  rintro e w108 ⟨rfl, hX⟩
  have hB_s1_w108 := below_step hB_s1_w107 hX
  have hB_w102_w108 := below_step hB_w102_w107 hX
  have hB_w103_w108 := below_step hB_w103_w107 hX
  have hB_w104_w108 := below_step hB_w104_w107 hX
  have hB_w105_w108 := below_step hB_w105_w107 hX
  have hB_w106_w108 := below_step hB_w106_w107 hX
  have hB_w107_w108 := below_step hB_w107_w107 hX
  have hB_w108_w108 := Below.refl w108.heap.size w108
  have hSsw108 := Cells.below hB_s1_w108 hSss1
  clear hX
  refine ⟨_, rfl, fun _ _ => hSsw108, ?_⟩
  try simp only [Act.put, rgA, rgB, rgC, rgD, rgE, rgF]
  refine wpAnyT_pure (i := 21) (v := ?_) rfl (by kernel_rfl) (by kernel_rfl) (by kernel_rfl) (fun _ _ _ h => h) (by rfl) ?_ ?_
  rotate_left
  · intro w; go_simp; try with_reducible rfl
  simp only [Act.put, rgA, rgB, rgC, rgD, rgE, rgF]
  refine wpAnyT_done (by kernel_rfl) ?_ _
  have hbP : Below w1.heap.size w1 w108 := hB_0_s1.trans ((hB_s1_w108).mono (hB_0_s1).size)
  go_wp2_with fail
  go_ret
  exact ⟨rfl, below_step HB1.out hbP⟩
end Go.Proofs.Ytdcjocldggmdbaa.Dr

/- Layer 53, plain: keys of a workflow, their order, their prerequisites; what is signed, as a list in order. -/
set_option linter.unusedSimpArgs false
namespace Go.Proofs.Ytdcjocldggmdbaa
open Go.RowKit Go

/-! ### keys of the workflow -/
theorem kv_iff {ts : List Tk} {ne np : Int} {k : Ky} : checkI ts ne np k = 0 ↔ plc ts k.task < ts.length ∧ (if (tkAt ts k.task).grp then k.ent = -1 else 0 ≤ k.ent ∧ k.ent < ne) ∧ 0 ≤ k.per ∧ k.per < np := by
  unfold checkI
  by_cases h : plc ts k.task < ts.length
  · rw [if_pos h]
    by_cases h2 : (if (tkAt ts k.task).grp then k.ent = -1 else 0 ≤ k.ent ∧ k.ent < ne) ∧ 0 ≤ k.per ∧ k.per < np
    · rw [if_pos h2]; exact ⟨fun _ => ⟨h, h2⟩, fun _ => rfl⟩
    · rw [if_neg h2]; exact ⟨fun e => absurd e (by decide), fun e => absurd e.2 h2⟩
  · rw [if_neg h]
    exact ⟨fun e => absurd e (by decide), fun e => absurd e.1 h⟩
theorem plcI_in {ts : List Tk} {n : ByteArray} (h : plc ts n < ts.length) : plcI ts n = (plc ts n : Nat) := by unfold plcI; rw [if_pos h]
theorem plc_inj {ts : List Tk} {a b : ByteArray} (ha : plc ts a < ts.length) (h : plc ts a = plc ts b) : a = b := by
  have h1 := plc_name ha
  have h2 := plc_name (ts := ts) (n := b) (by omega)
  rw [← h1, ← h2]
  congr 2
theorem kv_total {ts : List Tk} {x y : Ky} (hx : plc ts x.task < ts.length) (hy : plc ts y.task < ts.length) (h1 : ltK ts x y = false) (h2 : ltK ts y x = false) : x = y := by
  rw [ltK_not, plcI_in hx, plcI_in hy] at h1
  rw [ltK_not, plcI_in hx, plcI_in hy] at h2
  have e1 : plc ts x.task = plc ts y.task := by omega
  have e2 := plc_inj hx e1
  obtain ⟨a, b, c⟩ := x
  obtain ⟨a', b', c'⟩ := y
  simp only at *
  subst e2
  obtain rfl : b = b' := by omega
  obtain rfl : c = c' := by omega
  rfl
theorem ltK_irr (ts : List Tk) (x : Ky) : ltK ts x x = false := (swoK ts).irrefl x
theorem ltK_asym {ts : List Tk} {x y : Ky} (h : ltK ts x y = true) : ltK ts y x = false := by
  cases h2 : ltK ts y x with
  | false => rfl
  | true =>
    have := (swoK ts).trans _ _ _ h h2
    rw [ltK_irr] at this
    cases this
/-- Few needs. -/
def FewN (ts : List Tk) : Prop := ∀ t ∈ ts, t.needs.length ≤ 8
structure Wk (ts : List Tk) (ne np : Nat) : Prop where
  v : RVal ts
  f : FewN ts
  ne : ne ≤ 100
  np : np ≤ 1000
theorem Wk.at_ {ts : List Tk} {ne np : Nat} (h : Wk ts ne np) {n : ByteArray} (hn : plc ts n < ts.length) : tkAt ts n ∈ ts ∧ (tkAt ts n).name = n ∧ nameB n = true ∧ (∀ x ∈ (tkAt ts n).needs, plc ts x < plc ts n) ∧ (tkAt ts n).needs.Nodup := by
  rw [tkAt_get hn]
  have h1 := plc_name hn
  obtain ⟨a, b, c⟩ := h.v.2.2 _ hn hn
  refine ⟨List.getElem_mem _, h1, by rw [← h1]; exact a, fun x hx => ?_, ?_⟩
  · obtain ⟨i, hi, rfl⟩ := List.getElem_of_mem hx
    exact (c i hi hi).1
  · rw [List.Nodup, List.pairwise_iff_getElem]
    intro i j hi hj hij
    exact (c j hj hj).2 i hij
theorem name_size {n : ByteArray} (h : nameB n = true) : n.size ≤ 16 := by
  unfold nameB at h
  rw [Bool.and_eq_true] at h
  exact of_decide_eq_true h.2
theorem kv_ok {ts : List Tk} {ne np : Nat} (h : Wk ts ne np) {k : Ky} (hk : checkI ts ne np k = 0) : k.ok := by
  obtain ⟨h1, h2, h3, h4⟩ := kv_iff.1 hk
  have hn := name_size (h.at_ h1).2.2.1
  have hne := h.ne
  have hnp := h.np
  refine ⟨Nat.le_trans hn (by decide), ?_, ?_⟩
  · simp [Lit.wf, IntKind.min, IntKind.max, IntKind.signed, IntKind.bits]
    split at h2 <;> omega
  · simp [Lit.wf, IntKind.min, IntKind.max, IntKind.signed, IntKind.bits]
    omega
theorem keysL_mem {ne : Nat} {t : Tk} {per : Int} {n : Ky} (h : n ∈ keysL ne t per) : n.task = t.name ∧ n.per = per ∧ (if t.grp then n.ent = -1 else 0 ≤ n.ent ∧ n.ent < (ne : Int)) := by
  unfold keysL at h
  split at h
  · rename_i hg
    rw [List.mem_singleton] at h
    subst h
    exact ⟨rfl, rfl, by simp [hg]⟩
  · rename_i hg
    obtain ⟨e, he, rfl⟩ := List.mem_map.1 h
    rw [List.mem_range] at he
    refine ⟨rfl, rfl, ?_⟩
    simp only [hg, Bool.false_eq_true, if_false]
    omega
theorem keysL_nodup (ne : Nat) (t : Tk) (per : Int) : (keysL ne t per).Nodup := by
  unfold keysL
  split
  · simp
  · rw [List.Nodup, List.pairwise_map]
    refine List.Pairwise.imp ?_ (List.nodup_range (n := ne))
    intro a b hab he
    rw [Ky.mk.injEq] at he
    omega
theorem needOf_mem {ts : List Tk} {ne np : Nat} (h : Wk ts ne np) {k n : Ky} {nm : ByteArray} (hk : checkI ts ne np k = 0) (hnm : nm ∈ (tkAt ts k.task).needs) (hn : n ∈ needOf ts ne (tkAt ts k.task) k nm) : n.task = nm ∧ n.per = k.per ∧ checkI ts ne np n = 0 := by
  obtain ⟨h1, h2, h3, h4⟩ := kv_iff.1 hk
  have hlt := (h.at_ h1).2.2.2.1 nm hnm
  have hpl : plc ts nm < ts.length := by omega
  have hname := (h.at_ hpl).2.1
  unfold needOf at hn
  split at hn
  · obtain ⟨a, b, c⟩ := keysL_mem hn
    rw [hname] at a
    refine ⟨a, b, kv_iff.2 ?_⟩
    rw [a, b]
    exact ⟨hpl, c, h3, h4⟩
  · rename_i hg
    rw [List.mem_singleton] at hn
    subst hn
    refine ⟨rfl, rfl, kv_iff.2 ⟨hpl, ?_, h3, h4⟩⟩
    simp only [Bool.or_eq_true, not_or, Bool.not_eq_true] at hg
    simp only [hg.2, Bool.false_eq_true, if_false] at h2
    simp only [hg.1, Bool.false_eq_true, if_false]
    exact h2
theorem raw_cases {ts : List Tk} {ne : Nat} {k n : Ky} (hn : n ∈ rawNeeds ts ne k) : (∃ nm ∈ (tkAt ts k.task).needs, n ∈ needOf ts ne (tkAt ts k.task) k nm) ∨ ((tkAt ts k.task).aft = true ∧ 0 < k.per ∧ n = ⟨k.task, k.ent, k.per - 1⟩) := by
  unfold rawNeeds at hn
  rcases List.mem_append.1 hn with h | h
  · exact .inl (List.mem_flatMap.1 h)
  · split at h
    · rename_i hc
      rw [Bool.and_eq_true, decide_eq_true_eq] at hc
      exact .inr ⟨hc.1, hc.2, List.mem_singleton.1 h⟩
    · cases h
/-- Prerequisites are keys of the workflow, and come before. -/
theorem raw_kv {ts : List Tk} {ne np : Nat} (h : Wk ts ne np) {k n : Ky} (hk : checkI ts ne np k = 0) (hn : n ∈ rawNeeds ts ne k) : checkI ts ne np n = 0 ∧ ltK ts n k = true := by
  obtain ⟨h1, h2, h3, h4⟩ := kv_iff.1 hk
  rcases raw_cases hn with ⟨nm, hnm, hx⟩ | ⟨ha, hp, rfl⟩
  · obtain ⟨a, b, c⟩ := needOf_mem h hk hnm hx
    have hlt := (h.at_ h1).2.2.2.1 nm hnm
    refine ⟨c, ?_⟩
    rw [ltK_iff, a, b, plcI_in (by omega), plcI_in h1]
    omega
  · refine ⟨kv_iff.2 ⟨h1, h2, by simp only; omega, by simp only; omega⟩, ?_⟩
    rw [ltK_iff]
    simp only
    omega
theorem raw_nodup {ts : List Tk} {ne np : Nat} (h : Wk ts ne np) {k : Ky} (hk : checkI ts ne np k = 0) : (rawNeeds ts ne k).Nodup := by
  obtain ⟨h1, h2, h3, h4⟩ := kv_iff.1 hk
  unfold rawNeeds
  rw [List.nodup_append]
  refine ⟨?_, by split <;> simp, ?_⟩
  · rw [List.Nodup, List.pairwise_flatMap]
    refine ⟨fun nm hnm => ?_, ?_⟩
    · unfold needOf
      split
      · exact keysL_nodup _ _ _
      · simp
    · refine List.Pairwise.imp_of_mem ?_ (h.at_ h1).2.2.2.2
      intro a b ha hb hab x hx y hy e
      have e1 := (needOf_mem h hk ha hx).1
      have e2 := (needOf_mem h hk hb hy).1
      rw [e] at e1
      exact hab (e1.symm.trans e2)
  · intro a ha b hb e
    obtain ⟨nm, hnm, hx⟩ := List.mem_flatMap.1 ha
    have e1 := (needOf_mem h hk hnm hx).2.1
    split at hb
    · rw [List.mem_singleton] at hb
      subst hb
      rw [e] at e1
      simp only at e1
      omega
    · cases hb
theorem needOf_len (ts : List Tk) (ne : Nat) (t : Tk) (k : Ky) (nm : ByteArray) : (needOf ts ne t k nm).length ≤ ne + 1 := by
  unfold needOf keysL
  split
  · split <;> simp
  · simp
theorem raw_len {ts : List Tk} {ne np : Nat} (h : Wk ts ne np) {k : Ky} (hk : checkI ts ne np k = 0) : (rawNeeds ts ne k).length ≤ 1000 := by
  have h1 := (kv_iff.1 hk).1
  have h8 := h.f _ (h.at_ h1).1
  have hne := h.ne
  have : ∀ l : List ByteArray, (l.flatMap (needOf ts ne (tkAt ts k.task) k)).length ≤ l.length * (ne + 1) := by
    intro l
    induction l with
    | nil => simp
    | cons x l ih =>
      rw [List.flatMap_cons, List.length_append, List.length_cons, Nat.succ_mul]
      have := needOf_len ts ne (tkAt ts k.task) k x
      omega
  have h2 := this (tkAt ts k.task).needs
  have h3 : (tkAt ts k.task).needs.length * (ne + 1) ≤ 8 * 101 := Nat.mul_le_mul h8 (by omega)
  unfold rawNeeds
  rw [List.length_append]
  have h5 : ∀ c : Bool, (if c = true then [(⟨k.task, k.ent, k.per - 1⟩ : Ky)] else []).length ≤ 1 := by intro c; cases c <;> simp
  have h6 := h5 ((tkAt ts k.task).aft && decide (0 < k.per))
  omega
theorem Wk.need {ts : List Tk} {ne np : Nat} (h : Wk ts ne np) {k : Ky} (hk : checkI ts ne np k = 0) : NeedOk ts ne k where
  hk := (kv_iff.1 hk).1
  ok := kv_ok h hk
  nd := fun n hn => by have := (h.at_ (kv_iff.1 hk).1).2.2.2.1 n hn; have := (kv_iff.1 hk).1; omega
  len := raw_len h hk
  nodup := raw_nodup h hk

/-! ### sorted lists of keys of the workflow are told by their members -/
theorem asc_eq {ts : List Tk} {a b : List Ky} (ha : Asc ts a) (hb : Asc ts b) (hna : ∀ x ∈ a, plc ts x.task < ts.length) (hp : a.Perm b) : a = b :=
  hp.eq_of_pairwise (fun x y hx hy h1 h2 => (kv_total (hna x hx) (hna y (hp.mem_iff.2 hy)) (by
    first
    | exact h2
    | exact h1) (by
    first
    | exact h1
    | exact h2))) ha hb
end Go.Proofs.Ytdcjocldggmdbaa

/- Layer 53, plain: what is signed, as a list in order of the keys; what a reopening takes back. -/
set_option linter.unusedSimpArgs false
namespace Go.Proofs.Ytdcjocldggmdbaa
open Go.RowKit Go

abbrev Sg := Ky × ByteArray
def lkS (sg : List Sg) (k : Ky) : Option ByteArray := (sg.find? fun s => decide (s.1 = k)).map Prod.snd
def keysS (sg : List Sg) : List Ky := sg.map Prod.fst
structure SgOk (ts : List Tk) (ne np : Nat) (sg : List Sg) : Prop where
  asc : sg.Pairwise fun a b => ltK ts a.1 b.1 = true
  kv : ∀ s ∈ sg, checkI ts ne np s.1 = 0
  sz : ∀ s ∈ sg, s.2.size ≤ maxLen
theorem SgOk.nil (ts : List Tk) (ne np : Nat) : SgOk ts ne np [] := ⟨.nil, fun _ h => (List.not_mem_nil h).elim, fun _ h => (List.not_mem_nil h).elim⟩
theorem lk_cons (s : Sg) (sg : List Sg) (k : Ky) : lkS (s :: sg) k = if s.1 = k then some s.2 else lkS sg k := by
  unfold lkS
  rw [List.find?_cons]
  by_cases h : s.1 = k
  · simp [h]
  · simp [h]
theorem lk_isSome {sg : List Sg} {k : Ky} : (lkS sg k).isSome = true ↔ k ∈ keysS sg := by
  induction sg with
  | nil => simp [lkS, keysS]
  | cons s sg ih =>
    rw [lk_cons]
    show _ ↔ k ∈ s.1 :: keysS sg
    rw [List.mem_cons, ← ih]
    by_cases h : s.1 = k
    · simp [h]
    · rw [if_neg h]
      constructor
      · exact .inr
      · rintro (h' | h')
        · exact absurd h'.symm h
        · exact h'
theorem lk_none {sg : List Sg} {k : Ky} : lkS sg k = none ↔ k ∉ keysS sg := by
  rw [← lk_isSome]
  cases lkS sg k <;> simp
theorem lk_mem {sg : List Sg} {k : Ky} {v : ByteArray} (h : lkS sg k = some v) : (k, v) ∈ sg := by
  unfold lkS at h
  rw [Option.map_eq_some_iff] at h
  obtain ⟨s, hs, rfl⟩ := h
  have h1 := List.find?_some hs
  have h2 := List.mem_of_find?_eq_some hs
  obtain rfl : s.1 = k := of_decide_eq_true h1
  exact h2
theorem asc_ne {ts : List Tk} {sg : List Sg} (h : sg.Pairwise fun a b => ltK ts a.1 b.1 = true) : sg.Pairwise fun a b => a.1 ≠ b.1 :=
  h.imp fun {a b} hl e => by rw [e, ltK_irr] at hl; cases hl
theorem mem_lk {ts : List Tk} {sg : List Sg} (h : sg.Pairwise fun a b => ltK ts a.1 b.1 = true) {k : Ky} {v : ByteArray} (hm : (k, v) ∈ sg) : lkS sg k = some v := by
  induction sg with
  | nil => cases hm
  | cons s sg ih =>
    rw [lk_cons]
    rcases List.mem_cons.1 hm with e | hm
    · rw [← e]; simp
    · have := (List.pairwise_cons.1 (asc_ne h)).1 _ hm
      rw [if_neg this]
      exact ih (List.pairwise_cons.1 h).2 hm
theorem same_key {ts : List Tk} {sg : List Sg} (h : sg.Pairwise fun a b => ltK ts a.1 b.1 = true) {x y : Sg} (hx : x ∈ sg) (hy : y ∈ sg) (e : x.1 = y.1) : x = y := by
  obtain ⟨a, b⟩ := x
  obtain ⟨a', b'⟩ := y
  simp only at e
  subst e
  have h1 := mem_lk h hx
  rw [mem_lk h hy] at h1
  cases h1
  rfl
/-- A list of signatures in order is told by its members. -/
theorem sg_eq {ts : List Tk} {ne np : Nat} {l sg : List Sg} (h : SgOk ts ne np sg) (hp : l.Perm sg) (hl : l.Pairwise fun a b => ltK ts b.1 a.1 = false) : l = sg := by
  have hx : ∀ (x y : Sg), x ∈ l → y ∈ sg → ltK ts y.1 x.1 = false → ltK ts x.1 y.1 = false → x = y := by
    intro x y hx hy h1 h2
    have hx' := hp.mem_iff.1 hx
    have e1 := (kv_iff.1 (h.kv x hx')).1
    have e2 := (kv_iff.1 (h.kv y hy)).1
    have e : x.1 = y.1 := kv_total e1 e2 h2 h1
    exact same_key h.asc hx' hy e
  have hs : sg.Pairwise fun a b => ltK ts b.1 a.1 = false := h.asc.imp fun {a b} e => ltK_asym e
  exact hp.eq_of_pairwise hx hl hs
theorem keys_asc {ts : List Tk} {ne np : Nat} {sg : List Sg} (h : SgOk ts ne np sg) : (keysS sg).Pairwise fun a b => ltK ts a b = true := by
  unfold keysS
  rw [List.pairwise_map]
  exact h.asc
theorem keys_nodup {ts : List Tk} {ne np : Nat} {sg : List Sg} (h : SgOk ts ne np sg) : (keysS sg).Nodup := (keys_asc h).imp fun {a b} hl e => by rw [e, ltK_irr] at hl; cases hl
theorem keys_kv {ts : List Tk} {ne np : Nat} {sg : List Sg} (h : SgOk ts ne np sg) {k : Ky} (hk : k ∈ keysS sg) : checkI ts ne np k = 0 := by
  obtain ⟨s, hs, rfl⟩ := List.mem_map.1 hk
  exact h.kv s hs

/-! ### a further signature -/
def insS (ts : List Tk) (sg : List Sg) (k : Ky) (who : ByteArray) : List Sg := sg.takeWhile (fun s => ltK ts s.1 k) ++ (k, who) :: sg.dropWhile (fun s => ltK ts s.1 k)
theorem lk_app (a b : List Sg) (k : Ky) : lkS (a ++ b) k = if (lkS a k).isSome then lkS a k else lkS b k := by
  induction a with
  | nil => simp [lkS]
  | cons s a ih =>
    rw [List.cons_append, lk_cons, lk_cons, ih]
    by_cases h : s.1 = k
    · simp [h]
    · simp [h]
theorem keys_split (ts : List Tk) (sg : List Sg) (k : Ky) : sg.takeWhile (fun s => ltK ts s.1 k) ++ sg.dropWhile (fun s => ltK ts s.1 k) = sg := List.takeWhile_append_dropWhile
theorem lk_ins {ts : List Tk} {sg : List Sg} {k : Ky} {who : ByteArray} (h : lkS sg k = none) : lkS (insS ts sg k who) = signF (lkS sg) k who := by
  funext x
  unfold insS signF
  rw [lk_app, lk_cons]
  have hs := lk_app (sg.takeWhile (fun s => ltK ts s.1 k)) (sg.dropWhile (fun s => ltK ts s.1 k)) x
  rw [keys_split] at hs
  by_cases e : x = k
  · subst e
    rw [h] at hs
    have hn : lkS (sg.takeWhile (fun s => ltK ts s.1 x)) x = none := by
      cases h1 : lkS (sg.takeWhile (fun s => ltK ts s.1 x)) x with
      | none => rfl
      | some v => rw [h1] at hs; simp at hs
    rw [hn]
    simp
  · have e' : ¬ k = x := fun h => e h.symm
    simp only [if_neg e, if_neg e']
    rw [hs]
theorem drop_ge {ts : List Tk} {ne np : Nat} {sg : List Sg} (h : SgOk ts ne np sg) (k : Ky) : ∀ s ∈ sg.dropWhile (fun s => ltK ts s.1 k), ltK ts s.1 k = false := by
  have ha := h.asc
  clear h
  induction sg with
  | nil => intro s hs; cases hs
  | cons a sg ih =>
    intro s hs
    rw [List.dropWhile_cons] at hs
    split at hs
    · exact ih (List.pairwise_cons.1 ha).2 s hs
    · rename_i hc
      have hc' : ltK ts a.1 k = false := by simpa using hc
      rcases List.mem_cons.1 hs with rfl | hs
      · exact hc'
      · cases h2 : ltK ts s.1 k with
        | false => rfl
        | true =>
          have := (swoK ts).trans _ _ _ ((List.pairwise_cons.1 ha).1 s hs) h2
          rw [hc'] at this
          cases this
theorem mem_ins {ts : List Tk} {sg : List Sg} {k : Ky} {who : ByteArray} {s : Sg} : s ∈ insS ts sg k who ↔ s = (k, who) ∨ s ∈ sg := by
  unfold insS
  rw [List.mem_append, List.mem_cons]
  have : s ∈ sg ↔ s ∈ sg.takeWhile (fun s => ltK ts s.1 k) ∨ s ∈ sg.dropWhile (fun s => ltK ts s.1 k) := by rw [← List.mem_append, keys_split]
  rw [this]
  constructor
  · rintro (h | h | h)
    · exact .inr (.inl h)
    · exact .inl h
    · exact .inr (.inr h)
  · rintro (h | h | h)
    · exact .inr (.inl h)
    · exact .inl h
    · exact .inr (.inr h)
theorem keys_ins {ts : List Tk} {sg : List Sg} {k x : Ky} {who : ByteArray} : x ∈ keysS (insS ts sg k who) ↔ x = k ∨ x ∈ keysS sg := by
  unfold keysS
  rw [List.mem_map, List.mem_map]
  constructor
  · rintro ⟨s, hs, rfl⟩
    rcases mem_ins.1 hs with rfl | hs
    · exact .inl rfl
    · exact .inr ⟨s, hs, rfl⟩
  · rintro (rfl | ⟨s, hs, rfl⟩)
    · exact ⟨_, mem_ins.2 (.inl rfl), rfl⟩
    · exact ⟨s, mem_ins.2 (.inr hs), rfl⟩
theorem SgOk.ins {ts : List Tk} {ne np : Nat} {sg : List Sg} (h : SgOk ts ne np sg) {k : Ky} {who : ByteArray} (hk : checkI ts ne np k = 0) (hn : lkS sg k = none) (hw : who.size ≤ maxLen) : SgOk ts ne np (insS ts sg k who) where
  asc := by
    have hs := h.asc
    rw [← keys_split ts sg k] at hs
    obtain ⟨h1, h2, h3⟩ := List.pairwise_append.1 hs
    have hlt : ∀ s ∈ sg.takeWhile (fun s => ltK ts s.1 k), ltK ts s.1 k = true := fun s hs => by
      have := List.all_takeWhile (p := fun s : Sg => ltK ts s.1 k) (l := sg)
      rw [List.all_eq_true] at this
      exact this s hs
    have hgt : ∀ s ∈ sg.dropWhile (fun s => ltK ts s.1 k), ltK ts k s.1 = true := fun s hs => by
      have h4 := drop_ge h k s hs
      have hm : s ∈ sg := by rw [← keys_split ts sg k]; exact List.mem_append_right _ hs
      cases h5 : ltK ts k s.1 with
      | true => rfl
      | false =>
        have e := kv_total (kv_iff.1 (h.kv s hm)).1 (kv_iff.1 hk).1 h4 h5
        exact absurd (List.mem_map.2 ⟨s, hm, e⟩) (lk_none.1 hn)
    unfold insS
    refine List.pairwise_append.2 ⟨h1, List.pairwise_cons.2 ⟨hgt, h2⟩, fun a ha b hb => ?_⟩
    rcases List.mem_cons.1 hb with rfl | hb
    · exact hlt a ha
    · exact h3 a ha b hb
  kv := fun s hs => by
    rcases mem_ins.1 hs with rfl | hs
    · exact hk
    · exact h.kv s hs
  sz := fun s hs => by
    rcases mem_ins.1 hs with rfl | hs
    · exact hw
    · exact h.sz s hs
theorem ins_len (ts : List Tk) (sg : List Sg) (k : Ky) (who : ByteArray) : (insS ts sg k who).length = sg.length + 1 := by
  have h1 := congrArg List.length (keys_split ts sg k)
  rw [List.length_append] at h1
  unfold insS
  rw [List.length_append, List.length_cons]
  exact congrArg (· + 1) h1

/-! ### what a reopening takes back -/
theorem SgOk.filter {ts : List Tk} {ne np : Nat} {sg : List Sg} (h : SgOk ts ne np sg) (p : Sg → Bool) : SgOk ts ne np (sg.filter p) :=
  ⟨h.asc.filter p, fun s hs => h.kv s (List.mem_filter.1 hs).1, fun s hs => h.sz s (List.mem_filter.1 hs).1⟩
theorem lk_filter {sg : List Sg} (p : Ky → Bool) (k : Ky) : lkS (sg.filter fun s => p s.1) k = if p k then lkS sg k else none := by
  induction sg with
  | nil => simp [lkS]
  | cons s sg ih =>
    rw [List.filter_cons]
    by_cases hp : p s.1 = true
    · rw [if_pos hp, lk_cons, lk_cons, ih]
      by_cases e : s.1 = k
      · subst e; simp [hp]
      · simp [e]
    · rw [if_neg hp, lk_cons, ih]
      by_cases e : s.1 = k
      · subst e; simp [hp]
      · simp [e]
inductive Rch (ts : List Tk) (ne : Nat) (sg : List Sg) (k : Ky) : Ky → Prop
  | base : k ∈ keysS sg → Rch ts ne sg k k
  | step {x y : Ky} : Rch ts ne sg k x → y ∈ keysS sg → x ∈ rawNeeds ts ne y → Rch ts ne sg k y
theorem Rch.mem {ts : List Tk} {ne : Nat} {sg : List Sg} {k x : Ky} (h : Rch ts ne sg k x) : x ∈ keysS sg := by
  cases h <;> assumption
def goneStep (ts : List Tk) (ne : Nat) (k : Ky) (gone : List Ky) (s : Sg) : List Ky := if (decide (s.1 = k) || (rawNeeds ts ne s.1).any (fun n => decide (n ∈ gone))) = true then gone ++ [s.1] else gone
def goneOf (ts : List Tk) (ne : Nat) (k : Ky) (sg : List Sg) : List Ky := sg.foldl (goneStep ts ne k) []
theorem gone_snoc (ts : List Tk) (ne : Nat) (k : Ky) (sg : List Sg) (s : Sg) : goneOf ts ne k (sg ++ [s]) = goneStep ts ne k (goneOf ts ne k sg) s := by
  unfold goneOf
  rw [List.foldl_append]
  rfl
theorem snocInd {α : Type} {P : List α → Prop} (h0 : P []) (h1 : ∀ l a, P l → P (l ++ [a])) (l : List α) : P l := by
  rw [← List.reverse_reverse l]
  induction l.reverse with
  | nil => exact h0
  | cons a t ih => rw [List.reverse_cons]; exact h1 _ _ ih
theorem gone_sub (ts : List Tk) (ne : Nat) (k : Ky) (sg : List Sg) : (goneOf ts ne k sg).Sublist (keysS sg) := by
  induction sg using snocInd with
  | h0 => exact List.Sublist.slnil
  | h1 sg s ih =>
    rw [gone_snoc]
    unfold goneStep keysS at *
    rw [List.map_append]
    split
    · exact ih.append (List.Sublist.refl _)
    · exact ih.trans (List.sublist_append_left _ _)
theorem gone_pre {ts : List Tk} {ne np : Nat} (hw : Wk ts ne np) {sg : List Sg} (h : SgOk ts ne np sg) (k : Ky) : ∀ (a b : List Sg), a ++ b = sg → ∀ x, x ∈ goneOf ts ne k a ↔ (x ∈ keysS a ∧ Rch ts ne sg k x) := by
  intro a
  induction a using snocInd with
  | h0 => intro b _ x; simp [goneOf, keysS]
  | h1 a s ih =>
    intro b hab x
    rw [List.append_assoc] at hab
    have ih := ih ([s] ++ b) hab
    rw [gone_snoc]
    unfold goneStep
    have hs : s ∈ sg := by rw [← hab]; simp
    have hsk : s.1 ∈ keysS sg := List.mem_map.2 ⟨s, hs, rfl⟩
    have hiff : (decide (s.1 = k) || (rawNeeds ts ne s.1).any (fun n => decide (n ∈ goneOf ts ne k a))) = true ↔ Rch ts ne sg k s.1 := by
      rw [Bool.or_eq_true, decide_eq_true_eq, List.any_eq_true]
      constructor
      · rintro (e | ⟨n, hn, hg⟩)
        · rw [e]; exact .base (e ▸ hsk)
        · exact .step ((ih n).1 (of_decide_eq_true hg)).2 hsk hn
      · intro hr
        generalize hx : s.1 = y at hr
        cases hr with
        | base => exact .inl rfl
        | @step n _ h1 h2 h3 =>
          refine .inr ⟨n, h3, decide_eq_true ((ih n).2 ⟨?_, h1⟩)⟩
          subst hx
          have hlt := (raw_kv hw (h.kv s hs) h3).2
          have hnk := h1.mem
          obtain ⟨t, ht, rfl⟩ := List.mem_map.1 hnk
          rw [← hab] at ht
          rcases List.mem_append.1 ht with ht | ht
          · exact List.mem_map.2 ⟨t, ht, rfl⟩
          · exfalso
            have hasc := h.asc
            rw [← hab] at hasc
            have h5 := (List.pairwise_append.1 hasc).2.1
            rcases List.mem_cons.1 ht with rfl | ht
            · rw [ltK_irr] at hlt; cases hlt
            · have := (List.pairwise_cons.1 h5).1 t ht
              rw [ltK_asym this] at hlt
              cases hlt
    have hkx : x ∈ keysS (a ++ [s]) ↔ x ∈ keysS a ∨ x = s.1 := by unfold keysS; simp
    rw [hkx]
    split
    · rename_i hc
      rw [List.mem_append, ih x, List.mem_singleton]
      have := hiff.1 hc
      constructor
      · rintro (⟨h1, h2⟩ | rfl)
        · exact ⟨.inl h1, h2⟩
        · exact ⟨.inr rfl, this⟩
      · rintro ⟨h1 | rfl, h2⟩
        · exact .inl ⟨h1, h2⟩
        · exact .inr rfl
    · rename_i hc
      rw [ih x]
      constructor
      · rintro ⟨h1, h2⟩
        exact ⟨.inl h1, h2⟩
      · rintro ⟨h1 | rfl, h2⟩
        · exact ⟨h1, h2⟩
        · exact absurd (hiff.2 h2) hc
theorem gone_iff {ts : List Tk} {ne np : Nat} (hw : Wk ts ne np) {sg : List Sg} (h : SgOk ts ne np sg) (k x : Ky) : x ∈ goneOf ts ne k sg ↔ Rch ts ne sg k x := by
  rw [gone_pre hw h k sg [] (by simp) x]
  exact ⟨fun h => h.2, fun h => ⟨h.mem, h⟩⟩
def leftOf (ts : List Tk) (ne : Nat) (k : Ky) (sg : List Sg) : List Sg := sg.filter fun s => !decide (s.1 ∈ goneOf ts ne k sg)
theorem lk_left (ts : List Tk) (ne : Nat) (k : Ky) (sg : List Sg) (x : Ky) : lkS (leftOf ts ne k sg) x = if x ∈ goneOf ts ne k sg then none else lkS sg x := by
  unfold leftOf
  rw [lk_filter (fun x => !decide (x ∈ goneOf ts ne k sg)) x]
  by_cases h : x ∈ goneOf ts ne k sg <;> simp [h]
theorem gone_asc {ts : List Tk} {ne np : Nat} {sg : List Sg} (h : SgOk ts ne np sg) (k : Ky) : (goneOf ts ne k sg).Pairwise fun a b => ltK ts a b = true := (keys_asc h).sublist (gone_sub ts ne k sg)
/-- What has been taken back, by whatever order, once it is closed. -/
theorem gone_eq {ts : List Tk} {ne np : Nat} (hw : Wk ts ne np) {sg : List Sg} (h : SgOk ts ne np sg) {k : Ky} {out : List Ky} (hn : out.Nodup) (ha : Asc ts out) (hm : ∀ x, x ∈ out ↔ Rch ts ne sg k x) : out = goneOf ts ne k sg := by
  have hg := gone_asc h k
  have hp : out.Perm (goneOf ts ne k sg) := (List.perm_ext_iff_of_nodup hn (hg.imp fun {a b} hl e => by rw [e, ltK_irr] at hl; cases hl)).2 fun x => (hm x).trans (gone_iff hw h k x).symm
  exact asc_eq ha (hg.imp fun {a b} e => ltK_asym e) (fun x hx => (kv_iff.1 (keys_kv h ((hm x).1 hx).mem)).1) hp
end Go.Proofs.Ytdcjocldggmdbaa

/- Layer 53: the sort of signatures (by the kit's sort). -/
set_option linter.unusedSimpArgs false
set_option maxRecDepth 50000
namespace Go.Proofs.Ytdcjocldggmdbaa
section
open Go.Shelf Go.RowKit Go.Lib Go.Sort
def sortSg_ren : Go.Shelf.Ren := ⟨fun | 6 => 47 | 15 => 59 | 14 => 65 | 28 => 78 | 29 => 79 | 20 => 82 | 21 => 83 | 22 => 84 | 23 => 85 | 24 => 86 | 25 => 87 | 26 => 88 | 27 => 89 | 46 => 98 | 47 => 94 | 48 => 95 | 49 => 99 | 50 => 100 | 57 => 107 | n => n, fun | 22 => 65 | 24 => 70 | 25 => 106 | 3 => 3 | 39 => 119 | 0 => 0 | 53 => 139 | 55 => 141 | 4 => 4 | 46 => 132 | 45 => 131 | 50 => 136 | 5 => 5 | 9 => 9 | 66 => 150 | 70 => 154 | 76 => 161 | 77 => 162 | n => n, fun | n => n⟩
theorem sortSg : Go.Proofs.SlLaysF0.n6 Try.prog sortSg_ren := {
  mixed := by kernel_rfl
  f6 := ⟨Try.f47.name, by decide, Try.func47.trans (congrArg some (by kernel_rfl))⟩
  f14 := ⟨Try.f65.name, by decide, Try.func65.trans (congrArg some (by kernel_rfl))⟩
  f15 := Try.func59.trans (congrArg some (by kernel_rfl))
  f20 := ⟨Try.f82.name, by decide, Try.func82.trans (congrArg some (by kernel_rfl))⟩
  f21 := ⟨Try.f83.name, by decide, Try.func83.trans (congrArg some (by kernel_rfl))⟩
  f22 := ⟨Try.f84.name, by decide, Try.func84.trans (congrArg some (by kernel_rfl))⟩
  f23 := ⟨Try.f85.name, by decide, Try.func85.trans (congrArg some (by kernel_rfl))⟩
  f24 := ⟨Try.f86.name, by decide, Try.func86.trans (congrArg some (by kernel_rfl))⟩
  f25 := ⟨Try.f87.name, by decide, Try.func87.trans (congrArg some (by kernel_rfl))⟩
  f26 := ⟨Try.f88.name, by decide, Try.func88.trans (congrArg some (by kernel_rfl))⟩
  f27 := ⟨Try.f89.name, by decide, Try.func89.trans (congrArg some (by kernel_rfl))⟩
  f28 := Try.func78.trans (congrArg some (by kernel_rfl))
  f29 := Try.func79.trans (congrArg some (by kernel_rfl))
  f46 := ⟨Try.f98.name, by decide, Try.func98.trans (congrArg some (by kernel_rfl))⟩
  f47 := Try.func94.trans (congrArg some (by kernel_rfl))
  f48 := Try.func95.trans (congrArg some (by kernel_rfl))
  f49 := ⟨Try.f99.name, by decide, Try.func99.trans (congrArg some (by kernel_rfl))⟩
  f50 := ⟨Try.f100.name, by decide, Try.func100.trans (congrArg some (by kernel_rfl))⟩
  f57 := ⟨Try.f107.name, by decide, Try.func107.trans (congrArg some (by kernel_rfl))⟩
  t0 := Try.underlying0
  a0 := Try.isAgg0
  z0 := Try.sizeOf0
  v0 := Try.zeroValue0
  t3 := Try.underlying3
  a3 := Try.isAgg3
  z3 := Try.sizeOf3
  v3 := Try.zeroValue3
  t4 := Try.underlying4
  a4 := Try.isAgg4
  z4 := Try.sizeOf4
  v4 := Try.zeroValue4
  t5 := Try.underlying5
  a5 := Try.isAgg5
  z5 := Try.sizeOf5
  v5 := Try.zeroValue5
  t9 := Try.underlying9
  a9 := Try.isAgg9
  z9 := Try.sizeOf9
  v9 := Try.zeroValue9
  t22 := Try.underlying65
  a22 := Try.isAgg65
  z22 := Try.sizeOf65
  v22 := Try.zeroValue65
  t25 := Try.underlying106
  a25 := Try.isAgg106
  z25 := Try.sizeOf106
  v25 := Try.zeroValue106
  t39 := Try.underlying119
  a39 := Try.isAgg119
  z39 := Try.sizeOf119
  v39 := Try.zeroValue119
  t45 := Try.underlying131
  a45 := Try.isAgg131
  z45 := Try.sizeOf131
  v45 := Try.zeroValue131
  t46 := Try.underlying132
  a46 := Try.isAgg132
  z46 := Try.sizeOf132
  v46 := Try.zeroValue132
  t50 := Try.underlying136
  a50 := Try.isAgg136
  z50 := Try.sizeOf136
  v50 := Try.zeroValue136
  t53 := Try.underlying139
  a53 := Try.isAgg139
  z53 := Try.sizeOf139
  v53 := Try.zeroValue139
  t55 := Try.underlying141
  a55 := Try.isAgg141
  z55 := Try.sizeOf141
  v55 := Try.zeroValue141
  t66 := Try.underlying150
  a66 := Try.isAgg150
  z66 := Try.sizeOf150
  v66 := Try.zeroValue150
  t70 := Try.underlying154
  a70 := Try.isAgg154
  z70 := Try.sizeOf154
  v70 := Try.zeroValue154
  t76 := Try.underlying161
  a76 := Try.isAgg161
  z76 := Try.sizeOf161
  v76 := Try.zeroValue161
  t77 := Try.underlying162
  a77 := Try.isAgg162
  z77 := Try.sizeOf162
  v77 := Try.zeroValue162 }

end
open Go.RowKit Go

instance : Inhabited Sg := ⟨(⟨⟨#[]⟩, 0, 0⟩, ⟨#[]⟩)⟩
def encSg (s : Sg) : List Value := [.string s.1.task, .int .i64 s.1.ent, .int .i64 s.1.per, .string s.2]
def sgd (s : Sg) : sgT.den := (s.1.d, s.2, ())
def cfSg (ts : List Tk) (x y : Sg) : Int := cfK ts x.1 y.1
theorem swoSg (ts : List Tk) : Sort.SWO (ltOf (cfSg ts)) where
  irrefl x := (swoK ts).irrefl x.1
  trans x y z := (swoK ts).trans x.1 y.1 z.1
  ntrans x y z := (swoK ts).ntrans x.1 y.1 z.1
set_option maxHeartbeats 1000000 in
/-- The comparison of two signatures. -/
theorem sgLess {S : Nat → Prop} (w : World) (p : Nat) (ts : List Tk) (ne np m : Nat) (h : WfT S w p ts ne np m) (cb : Nat) (hcb : w.heap[cb]? = some (.cells #[.pointer (some ⟨p, 0, none⟩)] 27 (0, 0))) (x y : Sg) :
    Calls Try.prog 48 #[.agg (encSg x).toArray, .agg (encSg y).toArray, .pointer (some ⟨cb, 0, none⟩)] w fun e w' => e = .returned (.int .i64 (cfSg ts x y)) ∧ Dr.Below w.heap.size w w' := by
  obtain ⟨⟨x1, x2, x3⟩, x4⟩ := x
  obtain ⟨⟨y1, y2, y3⟩, y4⟩ := y
  have hB : Dr.Below w.heap.size w ((w.alloc (.cells #[.string x1, .int .i64 x2, .int .i64 x3, .string x4] 70)).alloc (.cells #[.string y1, .int .i64 y2, .int .i64 y3, .string y4] 70)) := ((Dr.Below.refl _ w).alloc (Nat.le_refl _) _).alloc (by simp) _
  have HC := Lib.hid (Dr.compare53 _ p ts ne np m (h.below hB.b) ⟨x1, x2, x3⟩ ⟨y1, y2, y3⟩)
  have k0 := blk_cell ((hB.block _ (blk_lt hcb)).trans hcb) 0
  simp at k0
  have HB := Lib.hid hB
  have HK := Lib.hid (show cfSg ts ((⟨x1, x2, x3⟩ : Ky), x4) ((⟨y1, y2, y3⟩ : Ky), y4) = orI (cmpI x3 y3) (cmpI (plcI ts x1) (plcI ts y1)) (cmpI x2 y2) from rfl)
  unfold Ky.v at HC
  simp only at HC
  clear hB h hcb
  rw [HK.out]
  show Calls Try.prog 48 #[.agg #[.string x1, .int .i64 x2, .int .i64 x3, .string x4], .agg #[.string y1, .int .i64 y2, .int .i64 y3, .string y4], .pointer (some ⟨cb, 0, none⟩)] w _
  go_enter Try.func48, Try.ntmps48
  go_wp2_with fail
  have hX := HC.out
  refine Calls.mono hX ?_
  clear hX
  rintro e w1 ⟨rfl, hw⟩
  have HW := Lib.hid (Dr.below_step HB.out hw)
  clear hw HC
  go_wp2_with fail
  go_ret
  exact ⟨rfl, HW.out⟩
open Go.Sort in
theorem holdsSg {base : Nat} {w : World} {g len cap : Nat} {ss : List Sg} (h : Owns sgT 70 base (fun _ => False) w (.slice (some ⟨g, 0, none⟩) len cap) (ss.map sgd)) :
    g < w.heap.size ∧ base ≤ g ∧ len = ss.length ∧ HoldsK encSg 4 w g 0 ss.toArray ∧ ∀ s ∈ ss, s.1.ok ∧ s.2.size ≤ maxLen := by
  obtain ⟨vs, ho, hr, -⟩ := id h
  have hgg := h.own g rfl
  have hlen : len = ss.length := by
    obtain ⟨a, l, c, he, hl, -⟩ := h.slice
    simp only [Value.slice.injEq] at he
    obtain ⟨-, rfl, rfl⟩ := he
    simpa using hl
  refine ⟨hgg.2, hgg.1, hlen, fun j hj => ?_, fun s hs => ?_⟩
  · rw [size_flatK] at hj
    have hj3 : j < ss.length * 4 := by simpa using hj
    rw [get_flatK _ _ _ _ hj]
    have hi : j / 4 < ss.length := by omega
    refine ⟨?_, ?_⟩
    · obtain ⟨c, hc, hcc, hrd⟩ := hr.at_ (j / 4) (by simpa using hi)
      have hv := ho.cells (g := g) rfl j
      rw [Addr.add_none] at hv
      rw [Nat.zero_add] at hv ⊢
      refine hv _ ?_
      have hx : (ss.toArray)[j / 4]! = ss[j / 4] := by simp [hi]
      rw [hx]
      rw [List.getElem_map] at hrd
      generalize ss[j / 4] = q at hrd ⊢
      obtain ⟨⟨x, y, z⟩, u⟩ := q
      obtain ⟨c1, r1, rfl, ⟨d1, s1, rfl, ⟨rfl, h1⟩, d2, s2, rfl, ⟨rfl, h2⟩, d3, s3, rfl, ⟨rfl, h3⟩, rfl⟩, c2, r2, rfl, ⟨rfl, h4⟩, rfl⟩ := hrd
      have hm : j = j / 4 * sgT.sz + j % 4 := by rw [show sgT.sz = 4 from rfl]; omega
      have h3 : j % 4 < 4 := Nat.mod_lt _ (by omega)
      generalize hr3 : j % 4 = r at *
      rw [hm]
      refine hcc r _ ?_
      match r, h3 with
      | 0, _ => rfl
      | 1, _ => rfl
      | 2, _ => rfl
      | 3, _ => rfl
    · rcases ho.2 with ⟨he, _⟩ | ⟨g', cap', cur, he, -, hgb, -⟩
      · cases he
      · simp only [Value.slice.injEq, Option.some.injEq, Addr.mk.injEq, true_and] at he
        obtain ⟨⟨rfl, -⟩, -⟩ := he
        simp [World.frozen?, hgb]
  · obtain ⟨i, hi, rfl⟩ := List.getElem_of_mem hs
    obtain ⟨c, hc, hcc, hrd⟩ := hr.at_ i (by simpa using hi)
    rw [List.getElem_map] at hrd
    generalize ss[i] = q at hrd ⊢
    obtain ⟨⟨x, y, z⟩, u⟩ := q
    obtain ⟨c1, r1, rfl, ⟨d1, s1, rfl, ⟨rfl, h1⟩, d2, s2, rfl, ⟨rfl, h2⟩, d3, s3, rfl, ⟨rfl, h3⟩, rfl⟩, c2, r2, rfl, ⟨rfl, h4⟩, rfl⟩ := hrd
    exact ⟨⟨h1, h2, h3⟩, h4⟩
open Go.Sort in
theorem rd_holdsSg {w : World} {g cap : Nat} {ys : List Sg} (h : HoldsK encSg 4 w g 0 ys.toArray) (hok : ∀ s ∈ ys, s.1.ok ∧ s.2.size ≤ maxLen) (hc : ys.length ≤ cap) (hm : cap ≤ 9223372036854775807) :
    Rd (.sl sgT) (fun b => b = g) w [.slice (some ⟨g, 0, none⟩) ys.length cap] (ys.map sgd) := by
  refine ⟨_, _, cap, rfl, List.length_map _, hc, hm, .inr ⟨g, 0, rfl, rfl, fun i hi => ?_⟩⟩
  have hi' : i < ys.length := by rw [List.length_map] at hi; exact hi
  have a := (h.cell (i := i) (c := 0) (by simpa using hi') (by omega)).1
  have b := (h.cell (i := i) (c := 1) (by simpa using hi') (by omega)).1
  have c := (h.cell (i := i) (c := 2) (by simpa using hi') (by omega)).1
  have d := (h.cell (i := i) (c := 3) (by simpa using hi') (by omega)).1
  simp [hi', encSg] at a b c d
  have ho := hok _ (List.getElem_mem hi')
  refine ⟨encSg ys[i], rfl, fun j u hu => ?_, ?_⟩
  · rw [show 0 + i * sgT.sz + j = i * 4 + j by rw [show sgT.sz = 4 from rfl]; omega]
    match j, hu with
    | 0, hu => rw [Nat.add_zero, a]; simpa [encSg] using hu
    | 1, hu => rw [b]; simpa [encSg] using hu
    | 2, hu => rw [c]; simpa [encSg] using hu
    | 3, hu => rw [d]; simpa [encSg] using hu
    | j + 4, hu => simp [encSg] at hu
  · show Rd sgT _ _ _ (List.map sgd ys)[i]
    rw [List.getElem_map]
    exact sg_rd ho.1 ho.2
theorem isAggSg (w : World) : Sem.run Try.prog (isAgg 70) w = .ok true w := by kernel_rfl
theorem sizeSg (w : World) : Sem.run Try.prog (Go.sizeOf 70) w = .ok 4 w := by kernel_rfl
open Go.Sort in
theorem below_sortWd {α : Type} [Inhabited α] (enc : α → List Value) (k : Nat) (w : World) (blk off n : Nat) (d : Array α) (os : Array Obj) (B : Nat) (hB : B ≤ blk) (hw : B ≤ w.heap.size) : Below B w (sortWorldK enc k w blk off n d os) := by
  refine ⟨rfl, rfl, rfl, ?_, fun i hi => ?_⟩
  · exact size_sortWorldK_c enc k w blk off n d os
  · show (w.heap.modify blk _ ++ os)[i]? = _
    rw [Array.getElem?_append_left (by rw [Array.size_modify]; omega), Array.getElem?_modify]
    rw [if_neg (by omega)]
theorem gr_of_belowN {B : Nat} {w w' : World} (h : Below B w w') : Gr (fun b => B ≤ b) w w' := ⟨h.os, h.tape, h.output, h.size, fun k _ hf => h.block k (Nat.lt_of_not_le hf)⟩
/-- What the sort of signatures leaves. -/
def SortSgP (ts : List Tk) (base : Nat) (w : World) (v : Value) (l : List Sg) (e : Ending) (w' : World) : Prop :=
  e = .returned (.tuple #[]) ∧ ∃ l' : List Sg, l'.Perm l ∧ l'.Pairwise (fun x y => ltK ts y.1 x.1 = false) ∧ Rd (.sl sgT) (fun b => b < w'.heap.size) w' [v] (l'.map sgd) ∧ Below base w w'
open Go.Sort in
theorem sortSgs {S : Nat → Prop} {base : Nat} (w : World) (p : Nat) (ts : List Tk) (ne np m : Nat) (hW : WfT S w p ts ne np m) (cb : Nat) (hcb : w.heap[cb]? = some (.cells #[.pointer (some ⟨p, 0, none⟩)] 27 (0, 0))) (v : Value) (l : List Sg) (hO : Owns sgT 70 base (fun _ => False) w v (l.map sgd)) (hn : l.length ≤ 1000000) (hp : p < base) (hS : ∀ b, S b → b < base) (hcbb : cb < base) (hb : base ≤ w.heap.size) :
    Calls Try.prog 47 #[v, .func (.func 48) #[] #[.pointer (some ⟨cb, 0, none⟩)]] w (SortSgP ts base w v l) := by
  rcases hO.len with ⟨rfl, h0⟩ | ⟨g, cap, rfl, hbg, hgw, hlc, hcm⟩
  · have hs0 : l = [] := by simpa using h0
    subst hs0
    refine (AnyF.slices_SortFunc_none (P := Try.prog) sortSg none 0 (.func (.func 48) #[] #[.pointer (some ⟨cb, 0, none⟩)]) w).mono ?_
    rintro e w' ⟨he, rfl⟩
    exact ⟨he, [], List.Perm.refl _, List.Pairwise.nil, ⟨none, 0, 0, rfl, rfl, Nat.le_refl _, by decide, .inl rfl⟩, Below.refl _ _⟩
  · rw [List.length_map] at hlc
    obtain ⟨h1, h2, h3, h4, h5⟩ := holdsSg hO
    rw [h3]
    have eg : ∀ args w, (callFunc 48 args).run Try.prog w = .ok (.enter 48 args) w := enters_of Try.func48 (by kernel_rfl) rfl
    have hcmp : CmpLays Try.prog 48 #[.pointer (some ⟨cb, 0, none⟩)] encSg 4 (cfSg ts) g 0 l.toArray.size w := by
      intro m' os dk _ x y
      have hbl := below_sortWd encSg 4 w g 0 m' dk os base hbg hb
      have hg := gr_of_belowN hbl
      refine (sgLess _ p ts ne np m (hW.gr hg (by omega) (fun b hb' => by have := hS b hb'; omega)) cb ((hbl.block _ hcbb).trans hcb) x y).mono ?_
      rintro e w' ⟨he, hd⟩
      exact ⟨he, hd.grow⟩
    refine (AnyQ.slices_SortFunc sortSg 4 isAggSg sizeSg encSg (fun _ => rfl) (fun x v hv => by simp [encSg] at hv; rcases hv with rfl | rfl | rfl | rfl <;> rfl) (cfSg ts) (swoSg ts) 48 #[.pointer (some ⟨cb, 0, none⟩)] g 0 cap l.toArray w eg hcmp h4 h1 (by simp; omega)).mono ?_
    rintro e w' ⟨he, d', n', os, hP, hSo, rfl⟩
    have hsz : d'.size = l.length := hP.1.trans (by simp)
    have hperm : d'.toList.Perm l := by
      have := hP.2.2
      rw [show d'.extract 0 l.toArray.size = d' from by rw [show l.toArray.size = d'.size from by simp [hsz]]; exact Array.extract_size, show l.toArray.extract 0 l.toArray.size = l.toArray from Array.extract_size] at this
      exact this
    refine ⟨he, d'.toList, hperm, ?_, ?_, below_sortWd _ _ _ _ _ _ _ _ _ hbg hb⟩
    · rw [List.pairwise_iff_getElem]
      intro i j hi hj hij
      have hi' : i < d'.size := by simpa using hi
      have hj' : j < d'.size := by simpa using hj
      have := hSo i j (Nat.zero_le _) hij (by simp; omega)
      rw [getElem!_pos d' i hi', getElem!_pos d' j hj'] at this
      simp only [Array.getElem_toList]
      exact this
    · have hk := holdsK_sortWorldK_c encSg 4 w g 0 l.toArray d' n' os h4 h1 (by simp [hsz])
      have hszw := size_sortWorldK_c encSg 4 w g 0 n' d' os
      have hr := rd_holdsSg (w := sortWorldK encSg 4 w g 0 n' d' os) (g := g) (cap := cap) (ys := d'.toList) (by simpa using hk) (fun s hs => h5 s (hperm.mem_iff.1 hs)) (by simp [hsz]; omega) hcm
      have e2 : d'.toList.length = l.length := by simp [hsz]
      rw [e2] at hr
      exact hr.keep (fun _ _ => rfl) (fun b e => by rw [e]; omega)
end Go.Proofs.Ytdcjocldggmdbaa
