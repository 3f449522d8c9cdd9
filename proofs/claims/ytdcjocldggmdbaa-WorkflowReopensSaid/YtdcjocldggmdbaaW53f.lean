/- Layer 53: what is signed, in memory; compact lists of keys. -/
import Derived.Test.YtdcjocldggmdbaaW53e
import Derived.Test.YtdcjocldggmdbaaRegW
set_option linter.unusedSimpArgs false
namespace Go.Proofs.Ytdcjocldggmdbaa
open Go.RowKit Go

theorem keyT_sz : keyT.sz = 3 := rfl
theorem key_at {S : Nat → Prop} {w : World} {a : Option Addr} {len cap : Nat} {l : List Ky} (h : Rd (.sl keyT) S w [.slice a len cap] (l.map Ky.d)) (i : Nat) (hi : i < l.length) :
    ∃ b off, a = some ⟨b, off, none⟩ ∧ S b ∧ w.cell? ⟨b, off + i * 3, none⟩ = some (.string l[i].task) ∧ w.cell? ⟨b, off + i * 3 + 1, none⟩ = some (.int .i64 l[i].ent) ∧ w.cell? ⟨b, off + i * 3 + 2, none⟩ = some (.int .i64 l[i].per) ∧ l[i].ok := by
  obtain ⟨hl, -, -, vs, hr, hor⟩ := h.sl_flat
  obtain ⟨c, hc, hcc, hrd⟩ := hr.at_ i (by rw [List.length_map]; exact hi)
  rw [List.getElem_map] at hrd
  rcases hor with h0 | ⟨b, off, rfl, hb, hcell⟩
  · rw [List.length_map] at hl; omega
  · generalize l[i] = s at hrd ⊢
    obtain ⟨nm, e, p⟩ := s
    obtain ⟨c1, r1, rfl, ⟨rfl, h1⟩, c2, r2, rfl, ⟨rfl, h2⟩, c3, r3, rfl, ⟨rfl, h3⟩, rfl⟩ := hrd
    refine ⟨b, off, rfl, hb, ?_, ?_, ?_, ⟨h1, h2, h3⟩⟩
    · rw [show off + i * 3 = off + (i * keyT.sz + 0) by rw [keyT_sz]; omega]; exact hcell _ _ (hcc 0 _ rfl)
    · rw [show off + i * 3 + 1 = off + (i * keyT.sz + 1) by rw [keyT_sz]; omega]; exact hcell _ _ (hcc 1 _ rfl)
    · rw [show off + i * 3 + 2 = off + (i * keyT.sz + 2) by rw [keyT_sz]; omega]; exact hcell _ _ (hcc 2 _ rfl)
set_option maxRecDepth 20000 in
set_option maxHeartbeats 1000000 in
theorem compact53 {S : Nat → Prop} (w : World) (a : Option Addr) (len cap : Nat) (l : List Ky) (hx : Rd (.sl keyT) S w [.slice a len cap] (l.map Ky.d)) (hS : ∀ b, S b → b < w.heap.size) (hne : ∀ j (hj : j + 1 < l.length), l[j + 1] ≠ l[j]) :
    Calls Try.prog 57 #[.slice a len cap] w fun e w' => e = .returned (.slice a len cap) ∧ Below w.heap.size w w' := by
  obtain ⟨hl, hlc, hm, -⟩ := hx.sl_flat
  rw [List.length_map] at hl
  have HX := Lib.hid hx
  have HL := Lib.hid hl
  have HS := Lib.hid hS
  have HNE := Lib.hid hne
  have hgd : Try.prog.eqGuardType Try.prog.depth 53 = false := by kernel_rfl
  clear hx hl hS hne
  go_enter Try.func57, Try.ntmps57
  by_cases h2 : (len : Int) < 2
  · go_wp2_with fail
    go_ret
    exact ⟨rfl, Below.refl _ _⟩
  have h2' : ¬ len < 2 := by omega
  go_wp2_with fail
  go_loopw [3] (fun i wr => ∃ (q : Nat), 1 ≤ q ∧ q ≤ len ∧ i = .int .i64 q ∧ Below w.heap.size w wr) (fun i _ => len + 1 - (intOf i).toNat)
  case atStart => exact ⟨1, by omega, by omega, rfl, Below.refl _ _⟩
  case round =>
    obtain ⟨q, hq1, hk, rfl, hB⟩ := hrel
    have HB := Lib.hid hB
    by_cases hlt : q < len
    · have hkI : ((q : Nat) : Int) < (len : Int) := by omega
      obtain ⟨j, hj⟩ : ∃ j, q = j + 1 := ⟨q - 1, by omega⟩
      have HQ := Lib.hid hj
      have hjI : ((j : Nat) : Int) < (len : Int) := by omega
      have hql : q < l.length := by rw [HL.out]; exact hlt
      have hjl : j < l.length := by omega
      obtain ⟨b, o, rfl, -, m0, m1, m2, -⟩ := key_at (HX.out.below hB HS.out) q hql
      obtain ⟨b', o', hb', -, p0, p1, p2, -⟩ := key_at (HX.out.below hB HS.out) j hjl
      simp only [Option.some.injEq, Addr.mk.injEq, and_true] at hb'
      obtain ⟨rfl, rfl⟩ := hb'
      have hn : l[q] ≠ l[j] := by
        have := HNE.out j (by omega)
        subst hj
        exact this
      have HLT := Lib.hid hlt
      generalize l[q] = x at m0 m1 m2 hn
      generalize l[j] = y at p0 p1 p2 hn
      obtain ⟨x1, x2, x3⟩ := x
      obtain ⟨y1, y2, y3⟩ := y
      simp only at m0 m1 m2 p0 p1 p2
      have heq : ∀ W, Sem.run Try.prog (binOp .eql 53 (.agg #[.string x1, .int .i64 x2, .int .i64 x3]) (.agg #[.string y1, .int .i64 y2, .int .i64 y3])) W = .ok (.bool false) W := fun W => by
        have := key_eql W ⟨x1, x2, x3⟩ ⟨y1, y2, y3⟩
        rw [decide_eq_false hn] at this
        exact this
      have hC0 : Cells [(⟨b, o + q * 3, none⟩, .string x1), (⟨b, o + q * 3 + 1, none⟩, .int .i64 x2), (⟨b, o + q * 3 + 2, none⟩, .int .i64 x3), (⟨b, o + j * 3, none⟩, .string y1), (⟨b, o + j * 3 + 1, none⟩, .int .i64 y2), (⟨b, o + j * 3 + 2, none⟩, .int .i64 y3)] wr := ⟨m0, m1, m2, p0, p1, p2, trivial⟩
      clear m0 m1 m2 p0 p1 p2 hn hB hlt hj hql hjl
      go_wp2_with fail
      refine wp_region_T (Cells [(⟨b, o + q * 3, none⟩, .string x1), (⟨b, o + q * 3 + 1, none⟩, .int .i64 x2), (⟨b, o + q * 3 + 2, none⟩, .int .i64 x3), (⟨b, o + j * 3, none⟩, .string y1), (⟨b, o + j * 3 + 1, none⟩, .int .i64 y2), (⟨b, o + j * 3 + 2, none⟩, .int .i64 y3)]) (fun _ => false) (by kernel_rfl) ?_
      have hSss1 := Cells.drew hC0
      have hB_0_s1 : Below wr.heap.size wr wr.drew := below_drew _
      generalize wr.drew = s1 at hSss1 hB_0_s1 ⊢
      have hB_s1_s1 := Below.refl s1.heap.size s1
      refine wpAnyT_pure (i := 0) (v := ?_) rfl (by kernel_rfl) (by kernel_rfl) (by kernel_rfl) (fun _ _ _ h => h) (by rfl) ?_ ?_
      rotate_left
      · intro w; go_simp; try with_reducible rfl
      simp only [Act.put, List.setIfInBounds_toArray, List.set_cons_zero, List.set_cons_succ, List.getElem_toArray, List.getElem_cons_succ, List.getElem_cons_zero]
      refine wpAnyT_pure (i := 1) (v := ?_) rfl (by kernel_rfl) (by kernel_rfl) (by kernel_rfl) (fun _ _ _ h => h) (by rfl) ?_ ?_
      rotate_left
      · intro w; go_simp; try with_reducible rfl
      simp only [Act.put, List.setIfInBounds_toArray, List.set_cons_zero, List.set_cons_succ, List.getElem_toArray, List.getElem_cons_succ, List.getElem_cons_zero]
      refine wpAnyT_pure (i := 2) (v := ?_) rfl (by kernel_rfl) (by kernel_rfl) (by kernel_rfl) (fun _ _ _ h => h) (by rfl) ?_ ?_
      rotate_left
      · intro w; go_simp; try with_reducible rfl
      simp only [Act.put, List.setIfInBounds_toArray, List.set_cons_zero, List.set_cons_succ, List.getElem_toArray, List.getElem_cons_succ, List.getElem_cons_zero]
      refine wpAnyT_pure (i := 4) (v := ?_) rfl (by kernel_rfl) (by kernel_rfl) (by kernel_rfl) (fun _ _ _ h => h) (by rfl) ?_ ?_
      rotate_left
      · intro w; go_simp; try with_reducible rfl
      simp only [Act.put, List.setIfInBounds_toArray, List.set_cons_zero, List.set_cons_succ, List.getElem_toArray, List.getElem_cons_succ, List.getElem_cons_zero]
      refine wpAnyT_pure (i := 5) (v := ?_) rfl (by kernel_rfl) (by kernel_rfl) (by kernel_rfl) (fun _ _ _ h => h) (by rfl) ?_ ?_
      rotate_left
      · intro w; go_simp; try with_reducible rfl
      simp only [Act.put, List.setIfInBounds_toArray, List.set_cons_zero, List.set_cons_succ, List.getElem_toArray, List.getElem_cons_succ, List.getElem_cons_zero]
      refine wpAnyT_loadW (i := 3) (v := ?_) rfl (by kernel_rfl) (by kernel_rfl) (by kernel_rfl) (by kernel_rfl) (by kernel_rfl) (fun _ _ _ h => h) (Or.inl ⟨by rfl, ?_⟩) hSss1 ?_
      rotate_left
      · intro w hSw; obtain ⟨e0, e1, e2, e3, e4, e5, -⟩ := hSw; go_simp; try with_reducible rfl
      simp only [Act.put, List.setIfInBounds_toArray, List.set_cons_zero, List.set_cons_succ, List.getElem_toArray, List.getElem_cons_succ, List.getElem_cons_zero]
      refine wpAnyT_one (i := 6) (by kernel_rfl) rfl (by rfl) ?_
      refine wp_value (v := .int .i64 (j : Nat)) (w' := s1) (by have hq := HQ.out; clear HQ; go_simp; rw [IntKind.wrap_i64] <;> omega) ?_
      refine ⟨fun _ h => h, ?_⟩
      try simp only [Act.put, List.setIfInBounds_toArray, List.set_cons_zero, List.set_cons_succ, List.getElem_toArray, List.getElem_cons_succ, List.getElem_cons_zero]
      refine wpAnyT_pure (i := 7) (v := ?_) rfl (by kernel_rfl) (by kernel_rfl) (by kernel_rfl) (fun _ _ _ h => h) (by rfl) ?_ ?_
      rotate_left
      · intro w; go_simp; try with_reducible rfl
      simp only [Act.put, List.setIfInBounds_toArray, List.set_cons_zero, List.set_cons_succ, List.getElem_toArray, List.getElem_cons_succ, List.getElem_cons_zero]
      refine wpAnyT_loadW (i := 8) (v := ?_) rfl (by kernel_rfl) (by kernel_rfl) (by kernel_rfl) (by kernel_rfl) (by kernel_rfl) (fun _ _ _ h => h) (Or.inl ⟨by rfl, ?_⟩) hSss1 ?_
      rotate_left
      · intro w hSw; obtain ⟨e0, e1, e2, e3, e4, e5, -⟩ := hSw; go_simp; try with_reducible rfl
      simp only [Act.put, List.setIfInBounds_toArray, List.set_cons_zero, List.set_cons_succ, List.getElem_toArray, List.getElem_cons_succ, List.getElem_cons_zero]
      refine wpAnyT_pure (i := 9) (v := ?_) rfl (by kernel_rfl) (by kernel_rfl) (by kernel_rfl) (fun _ _ _ h => h) (by rfl) ?_ ?_
      rotate_left
      · intro w; go_simp; try with_reducible rfl
      simp only [Act.put, List.setIfInBounds_toArray, List.set_cons_zero, List.set_cons_succ, List.getElem_toArray, List.getElem_cons_succ, List.getElem_cons_zero]
      refine wpAnyT_done (by kernel_rfl) ?_ _
      have HBP := Lib.hid (below_step HB.out (hB_0_s1.trans ((hB_s1_s1).mono (hB_0_s1).size)))
      go_wp2_with fail
      go_roundw
      case rel => exact ⟨q + 1, by omega, HLT.out, by go_num, HBP.out⟩
      case measure => simp [intOf]; try omega
    · obtain rfl : len = q := by omega
      clear hB
      go_wp2_with fail
      go_ret
      exact ⟨rfl, HB.out⟩
/-- A workflow in memory. -/
structure WfIn (S : Nat → Prop) (w : World) (p : Nat) (ts : List Tk) (ne np m n : Nat) (f : Ky → Option ByteArray) : Prop where
  wf : WfT S w p ts ne np m
  mp : MapS w m n f
  mS : ∀ b, S b → b ≠ m
  pm : p ≠ m
theorem WfIn.below {S : Nat → Prop} {w w' : World} {p : Nat} {ts : List Tk} {ne np m n : Nat} {f : Ky → Option ByteArray} (h : WfIn S w p ts ne np m n f) (hB : Below w.heap.size w w') : WfIn S w' p ts ne np m n f :=
  ⟨h.wf.below hB, h.mp.below hB, h.mS, h.pm⟩
set_option maxRecDepth 20000 in
set_option maxHeartbeats 1000000 in
theorem notSigned {S : Nat → Prop} (w : World) (p : Nat) (ts : List Tk) (ne np m n : Nat) (f : Ky → Option ByteArray) (h : WfIn S w p ts ne np m n f) (k : Ky) (hk : k.ok) (cb : Nat) (hcb : w.heap[cb]? = some (.cells #[.pointer (some ⟨p, 0, none⟩)] 27 (0, 0))) :
    Calls Try.prog 64 #[k.v, .pointer (some ⟨cb, 0, none⟩)] w fun e w' => e = .returned (.bool (f k).isNone) ∧ Below w.heap.size w w' := by
  obtain ⟨k1, k2, k3⟩ := k
  have hB : Below w.heap.size w (w.alloc (.cells #[.string k1, .int .i64 k2, .int .i64 k3] 53)) := (Below.refl _ w).alloc (Nat.le_refl _) _
  have hkb := heap_alloc_new w (.cells #[.string k1, .int .i64 k2, .int .i64 k3] 53)
  have hcb' := (hB.block _ (blk_lt hcb)).trans hcb
  have h' := h.below hB
  obtain ⟨a, len, cap, xs, h1, -, -⟩ := h'.wf.row
  have H := Lib.hid h'
  have HB := Lib.hid hB
  have HK := Lib.hid hk
  have hC0 : Cells [(⟨cb, 0, none⟩, .pointer (some ⟨p, 0, none⟩)), (⟨p, 3, none⟩, .map (some m)), (⟨w.heap.size, 0, none⟩, .string k1), (⟨w.heap.size, 1, none⟩, .int .i64 k2), (⟨w.heap.size, 2, none⟩, .int .i64 k3)] (w.alloc (.cells #[.string k1, .int .i64 k2, .int .i64 k3] 53)) := ⟨blk_cell hcb' 0, blk_cell h1 3, blk_cell hkb 0, blk_cell hkb 1, blk_cell hkb 2, trivial⟩
  clear h h' hB hkb hcb hcb' h1 hk
  unfold Ky.v
  simp only
  go_enter Try.func64, Try.ntmps64
  go_wp2_with fail
  generalize w.alloc (.cells #[.string k1, .int .i64 k2, .int .i64 k3] 53) = w1 at *
  refine wp_region_T (Cells [(⟨cb, 0, none⟩, .pointer (some ⟨p, 0, none⟩)), (⟨p, 3, none⟩, .map (some m)), (⟨w.heap.size, 0, none⟩, .string k1), (⟨w.heap.size, 1, none⟩, .int .i64 k2), (⟨w.heap.size, 2, none⟩, .int .i64 k3)]) (fun _ => false) (by kernel_rfl) ?_
  have hSss2 := Cells.drew hC0
  have hB_0_s2 : Below w1.heap.size w1 w1.drew := below_drew _
  generalize w1.drew = s2 at hSss2 hB_0_s2 ⊢
  have hB_s2_s2 := Below.refl s2.heap.size s2
  refine wpAnyT_loadW (i := 0) (v := ?_) rfl (by kernel_rfl) (by kernel_rfl) (by kernel_rfl) (by kernel_rfl) (by kernel_rfl) (fun _ _ _ h => h) (Or.inl ⟨by rfl, ?_⟩) hSss2 ?_
  rotate_left
  · intro w hSw; obtain ⟨e0, e1, e2, e3, e4, -⟩ := hSw; go_simp; try with_reducible rfl
  simp only [Act.put, List.setIfInBounds_toArray, List.set_cons_zero, List.set_cons_succ, List.getElem_toArray, List.getElem_cons_succ, List.getElem_cons_zero]
  refine wpAnyT_pure (i := 1) (v := ?_) rfl (by kernel_rfl) (by kernel_rfl) (by kernel_rfl) (fun _ _ _ h => h) (by rfl) ?_ ?_
  rotate_left
  · intro w; go_simp; try with_reducible rfl
  simp only [Act.put, List.setIfInBounds_toArray, List.set_cons_zero, List.set_cons_succ, List.getElem_toArray, List.getElem_cons_succ, List.getElem_cons_zero]
  refine wpAnyT_pure (i := 2) (v := ?_) rfl (by kernel_rfl) (by kernel_rfl) (by kernel_rfl) (fun _ _ _ h => h) (by rfl) ?_ ?_
  rotate_left
  · intro w; go_simp; try with_reducible rfl
  simp only [Act.put, List.setIfInBounds_toArray, List.set_cons_zero, List.set_cons_succ, List.getElem_toArray, List.getElem_cons_succ, List.getElem_cons_zero]
  refine wpAnyT_loadW (i := 3) (v := ?_) rfl (by kernel_rfl) (by kernel_rfl) (by kernel_rfl) (by kernel_rfl) (by kernel_rfl) (fun _ _ _ h => h) (Or.inl ⟨by rfl, ?_⟩) hSss2 ?_
  rotate_left
  · intro w hSw; obtain ⟨e0, e1, e2, e3, e4, -⟩ := hSw; go_simp; try with_reducible rfl
  simp only [Act.put, List.setIfInBounds_toArray, List.set_cons_zero, List.set_cons_succ, List.getElem_toArray, List.getElem_cons_succ, List.getElem_cons_zero]
  refine wpAnyT_loadW (i := 4) (v := ?_) rfl (by kernel_rfl) (by kernel_rfl) (by kernel_rfl) (by kernel_rfl) (by kernel_rfl) (fun _ _ _ h => h) (Or.inl ⟨by rfl, ?_⟩) hSss2 ?_
  rotate_left
  · intro w hSw; obtain ⟨e0, e1, e2, e3, e4, -⟩ := hSw; go_simp; try with_reducible rfl
  simp only [Act.put, List.setIfInBounds_toArray, List.set_cons_zero, List.set_cons_succ, List.getElem_toArray, List.getElem_cons_succ, List.getElem_cons_zero]
  refine wpAnyT_one (i := 5) (by kernel_rfl) rfl (by rfl) ?_
  have hlk := MapG.look2 ((H.out.below (hB_0_s2.trans ((hB_s2_s2).mono (hB_0_s2).size))).mp) Try.underlying91 ⟨k1, k2, k3⟩ HK.out
  change Sem.run Try.prog (Instr.lookup 91 (.map (some m)) (.agg #[.string k1, .int .i64 k2, .int .i64 k3]) true) s2 = _ at hlk
  refine wp_value (v := .tuple #[.string ((f ⟨k1, k2, k3⟩).getD ⟨#[]⟩), .bool (f ⟨k1, k2, k3⟩).isSome]) (w' := s2) (by go_simp; rfl) ?_
  clear hlk
  refine ⟨fun _ h => h, ?_⟩
  try simp only [Act.put, List.setIfInBounds_toArray, List.set_cons_zero, List.set_cons_succ, List.getElem_toArray, List.getElem_cons_succ, List.getElem_cons_zero]
  refine wpAnyT_pure (i := 6) (v := ?_) rfl (by kernel_rfl) (by kernel_rfl) (by kernel_rfl) (fun _ _ _ h => h) (by rfl) ?_ ?_
  rotate_left
  · intro w; go_simp; try with_reducible rfl
  simp only [Act.put, List.setIfInBounds_toArray, List.set_cons_zero, List.set_cons_succ, List.getElem_toArray, List.getElem_cons_succ, List.getElem_cons_zero]
  refine wpAnyT_pure (i := 7) (v := ?_) rfl (by kernel_rfl) (by kernel_rfl) (by kernel_rfl) (fun _ _ _ h => h) (by rfl) ?_ ?_
  rotate_left
  · intro w; go_simp; try with_reducible rfl
  simp only [Act.put, List.setIfInBounds_toArray, List.set_cons_zero, List.set_cons_succ, List.getElem_toArray, List.getElem_cons_succ, List.getElem_cons_zero]
  refine wpAnyT_pure (i := 8) (v := ?_) rfl (by kernel_rfl) (by kernel_rfl) (by kernel_rfl) (fun _ _ _ h => h) (by rfl) ?_ ?_
  rotate_left
  · intro w; go_simp; try with_reducible rfl
  simp only [Act.put, List.setIfInBounds_toArray, List.set_cons_zero, List.set_cons_succ, List.getElem_toArray, List.getElem_cons_succ, List.getElem_cons_zero]
  refine wpAnyT_pure (i := 9) (v := ?_) rfl (by kernel_rfl) (by kernel_rfl) (by kernel_rfl) (fun _ _ _ h => h) (by rfl) ?_ ?_
  rotate_left
  · intro w; go_simp; try with_reducible rfl
  simp only [Act.put, List.setIfInBounds_toArray, List.set_cons_zero, List.set_cons_succ, List.getElem_toArray, List.getElem_cons_succ, List.getElem_cons_zero]
  refine wpAnyT_pure (i := 10) (v := ?_) rfl (by kernel_rfl) (by kernel_rfl) (by kernel_rfl) (fun _ _ _ h => h) (by rfl) ?_ ?_
  rotate_left
  · intro w; go_simp; try with_reducible rfl
  simp only [Act.put, List.setIfInBounds_toArray, List.set_cons_zero, List.set_cons_succ, List.getElem_toArray, List.getElem_cons_succ, List.getElem_cons_zero]
  refine wpAnyT_done (by kernel_rfl) ?_ _
  have hbP : Below w1.heap.size w1 s2 := hB_0_s2.trans ((hB_s2_s2).mono (hB_0_s2).size)
  go_wp2_with fail
  go_ret
  exact ⟨by first | rfl | simp, below_step HB.out hbP⟩
end Go.Proofs.Ytdcjocldggmdbaa
