/- Layer 53: the sort of few keys. -/
import Derived.Test.YtdcjocldggmdbaaW53h
set_option linter.unusedSimpArgs false
namespace Go.Proofs.Ytdcjocldggmdbaa
open Go.RowKit Go

def cmpV (p : Nat) : Value := .func (.func 40) #[.pointer (some ⟨p, 0, none⟩)] #[]
theorem sizeK (w : World) : (Go.sizeOf 53).run Try.prog w = .ok 3 w := by kernel_rfl
set_option maxRecDepth 20000 in
set_option maxHeartbeats 2000000 in
theorem insert53 {S : Nat → Prop} (w : World) (p : Nat) (ts : List Tk) (ne np m : Nat) (hW : WfT S w p ts ne np m) (g cap : Nat) (l : List Ky) (hK : KRow w g l) (hn : l.length ≤ 1000) (hgp : p ≠ g) (hgS : ∀ b, S b → b ≠ g) :
    Calls Try.prog 70 #[.slice (some ⟨g, 0, none⟩) l.length cap, .int .i64 0, .int .i64 l.length, cmpV p] w fun e w' => e = .returned (.tuple #[]) ∧ ∃ l' : List Ky, l'.Perm l ∧ KRow w' g l' ∧ Gr (fun b => b = g) w w' := by
  obtain ⟨n, hl⟩ : ∃ n, l.length = n := ⟨_, rfl⟩
  have HW := Lib.hid hW
  have HK := Lib.hid hK
  have HL := Lib.hid hl
  have HGS := Lib.hid hgS
  have HWg := Lib.hid (show ∀ W, Gr (fun b => b = g) w W → WfT S W p ts ne np m from fun W hG => hW.gr hG hgp hgS)
  rw [hl] at hn ⊢
  clear hW hK hl hgS
  unfold cmpV
  go_enter Try.func70, Try.ntmps70
  go_wp2_with fail
  go_loopw [8, 9] (fun i _ wr => ∃ (k : Nat) (l' : List Ky), 1 ≤ k ∧ k ≤ n + 1 ∧ i = .int .i64 k ∧ l'.Perm l ∧ KRow wr g l' ∧ Gr (fun b => b = g) w wr) (fun i _ _ => n + 1 - (intOf i).toNat)
  case atStart => exact ⟨1, l, by omega, by omega, rfl, List.Perm.refl _, HK.out, Gr.refl _ _⟩
  case round =>
    obtain ⟨k, l1, hk1, hk2, rfl, hp1, hr1, hg1⟩ := hrel
    have HP1 := Lib.hid hp1
    have HR1 := Lib.hid hr1
    have HG1 := Lib.hid hg1
    clear hp1 hr1 hg1
    by_cases hlt : k < n
    · have hkI : (k : Int) < (n : Int) := by omega
      have HLT := Lib.hid hlt
      clear hlt
      go_wp2_with fail
      go_loopw [9] (fun j wj => ∃ (q : Nat) (l' : List Ky), q ≤ k ∧ j = .int .i64 q ∧ l'.Perm l ∧ KRow wj g l' ∧ Gr (fun b => b = g) w wj) (fun j _ => (intOf j).toNat)
      case atStart => exact ⟨k, l1, Nat.le_refl _, rfl, HP1.out, HR1.out, HG1.out⟩
      case round =>
        obtain ⟨q, l2, hq, rfl, hp2, hr2, hg2⟩ := hrel
        have HP2 := Lib.hid hp2
        have HR2 := Lib.hid hr2
        have HG2 := Lib.hid hg2
        have hln : l2.length = n := by rw [hp2.length_eq, HL.out]
        have HLN := Lib.hid hln
        clear hp2 hg2 hln
        cases q with
        | zero =>
          have hC0 : Cells [] wr := trivial
          go_wp2_with fail
          refine wp_region_T (Cells []) (fun _ => false) (by kernel_rfl) ?_
          have hSss1 := Cells.drew hC0
          have hB_0_s1 : Below wr.heap.size wr wr.drew := below_drew _
          generalize wr.drew = s1 at hSss1 hB_0_s1 ⊢
          have hB_s1_s1 := Below.refl s1.heap.size s1
          refine wpAnyT_pure (i := 0) (v := ?_) rfl (by kernel_rfl) (by kernel_rfl) (by kernel_rfl) (fun _ _ _ h => h) (by rfl) ?_ ?_
          rotate_left
          · intro w; go_simp; try with_reducible rfl
          simp only [Act.put, List.setIfInBounds_toArray, List.set_cons_zero, List.set_cons_succ, List.getElem_toArray, List.getElem_cons_succ, List.getElem_cons_zero]
          refine wpAnyT_pure (i := 1) (v := ?_) rfl (by kernel_rfl) (by kernel_rfl) (by kernel_rfl) (fun _ _ _ h => h) (by rfl) ?_ ?_
          rotate_left
          · intro w; go_simp; try with_reducible rfl
          simp only [Act.put, List.setIfInBounds_toArray, List.set_cons_zero, List.set_cons_succ, List.getElem_toArray, List.getElem_cons_succ, List.getElem_cons_zero]
          refine wpAnyT_pure (i := 2) (v := ?_) rfl (by kernel_rfl) (by kernel_rfl) (by kernel_rfl) (fun _ _ _ h => h) (by rfl) ?_ ?_
          rotate_left
          · intro w; go_simp; try with_reducible rfl
          simp only [Act.put, List.setIfInBounds_toArray, List.set_cons_zero, List.set_cons_succ, List.getElem_toArray, List.getElem_cons_succ, List.getElem_cons_zero]
          refine wpAnyT_pure (i := 3) (v := ?_) rfl (by kernel_rfl) (by kernel_rfl) (by kernel_rfl) (fun _ _ _ h => h) (by rfl) ?_ ?_
          rotate_left
          · intro w; go_simp; try with_reducible rfl
          simp only [Act.put, List.setIfInBounds_toArray, List.set_cons_zero, List.set_cons_succ, List.getElem_toArray, List.getElem_cons_succ, List.getElem_cons_zero]
          refine wpAnyT_skip (i := 4) rfl (by kernel_rfl) (by kernel_rfl) (by kernel_rfl) (fun _ _ _ h => h) (by rfl) ?_
          simp only [Act.put, List.setIfInBounds_toArray, List.set_cons_zero, List.set_cons_succ, List.getElem_toArray, List.getElem_cons_succ, List.getElem_cons_zero]
          refine wpAnyT_skip (i := 5) rfl (by kernel_rfl) (by kernel_rfl) (by kernel_rfl) (fun _ _ _ h => h) (by rfl) ?_
          simp only [Act.put, List.setIfInBounds_toArray, List.set_cons_zero, List.set_cons_succ, List.getElem_toArray, List.getElem_cons_succ, List.getElem_cons_zero]
          refine wpAnyT_skip (i := 6) rfl (by kernel_rfl) (by kernel_rfl) (by kernel_rfl) (fun _ _ _ h => h) (by rfl) ?_
          simp only [Act.put, List.setIfInBounds_toArray, List.set_cons_zero, List.set_cons_succ, List.getElem_toArray, List.getElem_cons_succ, List.getElem_cons_zero]
          refine wpAnyT_skip (i := 7) rfl (by kernel_rfl) (by kernel_rfl) (by kernel_rfl) (fun _ _ _ h => h) (by rfl) ?_
          simp only [Act.put, List.setIfInBounds_toArray, List.set_cons_zero, List.set_cons_succ, List.getElem_toArray, List.getElem_cons_succ, List.getElem_cons_zero]
          refine wpAnyT_skip (i := 8) rfl (by kernel_rfl) (by kernel_rfl) (by kernel_rfl) (fun _ _ _ h => h) (by rfl) ?_
          simp only [Act.put, List.setIfInBounds_toArray, List.set_cons_zero, List.set_cons_succ, List.getElem_toArray, List.getElem_cons_succ, List.getElem_cons_zero]
          refine wpAnyT_skip (i := 9) rfl (by kernel_rfl) (by kernel_rfl) (by kernel_rfl) (fun _ _ _ h => h) (by rfl) ?_
          simp only [Act.put, List.setIfInBounds_toArray, List.set_cons_zero, List.set_cons_succ, List.getElem_toArray, List.getElem_cons_succ, List.getElem_cons_zero]
          refine wpAnyT_skip (i := 10) rfl (by kernel_rfl) (by kernel_rfl) (by kernel_rfl) (fun _ _ _ h => h) (by rfl) ?_
          simp only [Act.put, List.setIfInBounds_toArray, List.set_cons_zero, List.set_cons_succ, List.getElem_toArray, List.getElem_cons_succ, List.getElem_cons_zero]
          refine wpAnyT_skip (i := 11) rfl (by kernel_rfl) (by kernel_rfl) (by kernel_rfl) (fun _ _ _ h => h) (by rfl) ?_
          simp only [Act.put, List.setIfInBounds_toArray, List.set_cons_zero, List.set_cons_succ, List.getElem_toArray, List.getElem_cons_succ, List.getElem_cons_zero]
          refine wpAnyT_skip (i := 12) rfl (by kernel_rfl) (by kernel_rfl) (by kernel_rfl) (fun _ _ _ h => h) (by rfl) ?_
          simp only [Act.put, List.setIfInBounds_toArray, List.set_cons_zero, List.set_cons_succ, List.getElem_toArray, List.getElem_cons_succ, List.getElem_cons_zero]
          refine wpAnyT_skip (i := 13) rfl (by kernel_rfl) (by kernel_rfl) (by kernel_rfl) (fun _ _ _ h => h) (by rfl) ?_
          simp only [Act.put, List.setIfInBounds_toArray, List.set_cons_zero, List.set_cons_succ, List.getElem_toArray, List.getElem_cons_succ, List.getElem_cons_zero]
          refine wpAnyT_skip (i := 14) rfl (by kernel_rfl) (by kernel_rfl) (by kernel_rfl) (fun _ _ _ h => h) (by rfl) ?_
          simp only [Act.put, List.setIfInBounds_toArray, List.set_cons_zero, List.set_cons_succ, List.getElem_toArray, List.getElem_cons_succ, List.getElem_cons_zero]
          refine wpAnyT_skip (i := 15) rfl (by kernel_rfl) (by kernel_rfl) (by kernel_rfl) (fun _ _ _ h => h) (by rfl) ?_
          simp only [Act.put, List.setIfInBounds_toArray, List.set_cons_zero, List.set_cons_succ, List.getElem_toArray, List.getElem_cons_succ, List.getElem_cons_zero]
          refine wpAnyT_pure (i := 16) (v := ?_) rfl (by kernel_rfl) (by kernel_rfl) (by kernel_rfl) (fun _ _ _ h => h) (by rfl) ?_ ?_
          rotate_left
          · intro w; go_simp; try with_reducible rfl
          simp only [Act.put, List.setIfInBounds_toArray, List.set_cons_zero, List.set_cons_succ, List.getElem_toArray, List.getElem_cons_succ, List.getElem_cons_zero]
          refine wpAnyT_done (by kernel_rfl) ?_ _
          have hbP : Below wr.heap.size wr s1 := hB_0_s1.trans ((hB_s1_s1).mono (hB_0_s1).size)
          have hr3 := HR2.out.below hbP
          have hg3 := HG2.out.step hbP
          have HR3 := Lib.hid hr3
          have HG3 := Lib.hid hg3
          clear hr3 hg3 hr2
          go_wp2_with fail
          go_roundw
          case rel => exact ⟨k + 1, l2, by omega, by have := HLT.out; omega, by go_num, HP2.out, HR3.out, HG3.out⟩
          case measure => simp [intOf]; have := HLT.out; omega
        | succ r =>
          obtain ⟨q, hqq⟩ : ∃ q, q = r + 1 := ⟨_, rfl⟩
          have HQ := Lib.hid hqq
          rw [show ((r + 1 : Nat) : Int) = (q : Int) by omega]
          have hqI : (0 : Int) < (q : Int) := by omega
          have hq2 : q < l2.length := by rw [HLN.out]; have := HLT.out; omega
          have hr2' : r < l2.length := by omega
          have hqn : (q : Int) < (n : Int) := by rw [HLN.out] at hq2; omega
          have hrn : (r : Int) < (n : Int) := by omega
          obtain ⟨m0, m1, m2⟩ := hr2.cell q hq2
          obtain ⟨p0, p1, p2⟩ := hr2.cell r hr2'
          have HSW := Lib.hid (swap_perm l2 q r hq2 hr2')
          have HQ2 := Lib.hid hq2
          generalize l2[q]'hq2 = x at m0 m1 m2 HSW
          generalize l2[r]'hr2' = y at p0 p1 p2 HSW
          obtain ⟨c, hc⟩ : ∃ c, orI (cmpI x.per y.per) (cmpI (plcI ts x.task) (plcI ts y.task)) (cmpI x.ent y.ent) = c := ⟨_, rfl⟩
          have HCC := Lib.hid (fun W (h : Gr (fun b => b = g) w W) => compare53 W p ts ne np m (HWg.out W h) x y)
          simp only [hc] at HCC
          clear hc hqq hq2 hr2'
          obtain ⟨x1, x2, x3⟩ := x
          obtain ⟨y1, y2, y3⟩ := y
          unfold Ky.v at HCC
          simp only at m0 m1 m2 p0 p1 p2 HCC
          have hC0 : Cells [(⟨g, q * 3, none⟩, .string x1), (⟨g, q * 3 + 1, none⟩, .int .i64 x2), (⟨g, q * 3 + 2, none⟩, .int .i64 x3), (⟨g, r * 3, none⟩, .string y1), (⟨g, r * 3 + 1, none⟩, .int .i64 y2), (⟨g, r * 3 + 2, none⟩, .int .i64 y3)] wr := ⟨m0, m1, m2, p0, p1, p2, trivial⟩
          clear m0 m1 m2 p0 p1 p2 hr2
          obtain ⟨eb, heb⟩ : ∃ eb, decide (c < 0) = eb := ⟨_, rfl⟩
          have HEB := Lib.hid heb
          clear heb
          go_wp2_with fail
          refine wp_region_T (Cells [(⟨g, q * 3, none⟩, .string x1), (⟨g, q * 3 + 1, none⟩, .int .i64 x2), (⟨g, q * 3 + 2, none⟩, .int .i64 x3), (⟨g, r * 3, none⟩, .string y1), (⟨g, r * 3 + 1, none⟩, .int .i64 y2), (⟨g, r * 3 + 2, none⟩, .int .i64 y3)]) (fun _ => false) (by kernel_rfl) ?_
          have hSss2 := Cells.drew hC0
          have hB_0_s2 : Below wr.heap.size wr wr.drew := below_drew _
          generalize wr.drew = s2 at hSss2 hB_0_s2 ⊢
          have hB_s2_s2 := Below.refl s2.heap.size s2
          refine wpAnyT_pure (i := 0) (v := ?_) rfl (by kernel_rfl) (by kernel_rfl) (by kernel_rfl) (fun _ _ _ h => h) (by rfl) ?_ ?_
          rotate_left
          · intro w; go_simp; try with_reducible rfl
          simp only [Act.put, List.setIfInBounds_toArray, List.set_cons_zero, List.set_cons_succ, List.getElem_toArray, List.getElem_cons_succ, List.getElem_cons_zero]
          refine wpAnyT_pure (i := 1) (v := ?_) rfl (by kernel_rfl) (by kernel_rfl) (by kernel_rfl) (fun _ _ _ h => h) (by rfl) ?_ ?_
          rotate_left
          · intro w; go_simp; try with_reducible rfl
          simp only [Act.put, List.setIfInBounds_toArray, List.set_cons_zero, List.set_cons_succ, List.getElem_toArray, List.getElem_cons_succ, List.getElem_cons_zero]
          refine wpAnyT_one (i := 2) (by kernel_rfl) rfl (by rfl) ?_
          refine wp_value (v := .bool true) (w' := s2) (by go_simp <;> omega) ?_
          refine ⟨fun _ h => h, ?_⟩
          try simp only [Act.put, List.setIfInBounds_toArray, List.set_cons_zero, List.set_cons_succ, List.getElem_toArray, List.getElem_cons_succ, List.getElem_cons_zero]
          refine wpAnyT_pure (i := 3) (v := ?_) rfl (by kernel_rfl) (by kernel_rfl) (by kernel_rfl) (fun _ _ _ h => h) (by rfl) ?_ ?_
          rotate_left
          · intro w; go_simp; try with_reducible rfl
          simp only [Act.put, List.setIfInBounds_toArray, List.set_cons_zero, List.set_cons_succ, List.getElem_toArray, List.getElem_cons_succ, List.getElem_cons_zero]
          refine wpAnyT_pure (i := 4) (v := ?_) rfl (by kernel_rfl) (by kernel_rfl) (by kernel_rfl) (fun _ _ _ h => h) (by rfl) ?_ ?_
          rotate_left
          · intro w; go_simp; try with_reducible rfl
          simp only [Act.put, List.setIfInBounds_toArray, List.set_cons_zero, List.set_cons_succ, List.getElem_toArray, List.getElem_cons_succ, List.getElem_cons_zero]
          refine wpAnyT_pure (i := 5) (v := ?_) rfl (by kernel_rfl) (by kernel_rfl) (by kernel_rfl) (fun _ _ _ h => h) (by rfl) ?_ ?_
          rotate_left
          · intro w; go_simp; try with_reducible rfl
          simp only [Act.put, List.setIfInBounds_toArray, List.set_cons_zero, List.set_cons_succ, List.getElem_toArray, List.getElem_cons_succ, List.getElem_cons_zero]
          refine wpAnyT_pure (i := 6) (v := ?_) rfl (by kernel_rfl) (by kernel_rfl) (by kernel_rfl) (fun _ _ _ h => h) (by rfl) ?_ ?_
          rotate_left
          · intro w; go_simp; try with_reducible rfl
          simp only [Act.put, List.setIfInBounds_toArray, List.set_cons_zero, List.set_cons_succ, List.getElem_toArray, List.getElem_cons_succ, List.getElem_cons_zero]
          refine wpAnyT_pure (i := 7) (v := ?_) rfl (by kernel_rfl) (by kernel_rfl) (by kernel_rfl) (fun _ _ _ h => h) (by rfl) ?_ ?_
          rotate_left
          · intro w; go_simp; try with_reducible rfl
          simp only [Act.put, List.setIfInBounds_toArray, List.set_cons_zero, List.set_cons_succ, List.getElem_toArray, List.getElem_cons_succ, List.getElem_cons_zero]
          refine wpAnyT_pure (i := 9) (v := ?_) rfl (by kernel_rfl) (by kernel_rfl) (by kernel_rfl) (fun _ _ _ h => h) (by rfl) ?_ ?_
          rotate_left
          · intro w; go_simp; try with_reducible rfl
          simp only [Act.put, List.setIfInBounds_toArray, List.set_cons_zero, List.set_cons_succ, List.getElem_toArray, List.getElem_cons_succ, List.getElem_cons_zero]
          refine wpAnyT_pure (i := 10) (v := ?_) rfl (by kernel_rfl) (by kernel_rfl) (by kernel_rfl) (fun _ _ _ h => h) (by rfl) ?_ ?_
          rotate_left
          · intro w; go_simp; try with_reducible rfl
          simp only [Act.put, List.setIfInBounds_toArray, List.set_cons_zero, List.set_cons_succ, List.getElem_toArray, List.getElem_cons_succ, List.getElem_cons_zero]
          refine wpAnyT_loadW (i := 8) (v := ?_) rfl (by kernel_rfl) (by kernel_rfl) (by kernel_rfl) (by kernel_rfl) (by kernel_rfl) (fun _ _ _ h => h) (Or.inl ⟨by rfl, ?_⟩) hSss2 ?_
          rotate_left
          · intro w hSw; obtain ⟨e0, e1, e2, e3, e4, e5, -⟩ := hSw; go_simp; try with_reducible rfl
          simp only [Act.put, List.setIfInBounds_toArray, List.set_cons_zero, List.set_cons_succ, List.getElem_toArray, List.getElem_cons_succ, List.getElem_cons_zero]
          refine wpAnyT_one (i := 11) (by kernel_rfl) rfl (by rfl) ?_
          refine wp_value (v := .int .i64 (r : Nat)) (w' := s2) (by have hq := HQ.out; clear HQ; go_simp; rw [IntKind.wrap_i64] <;> omega) ?_
          refine ⟨fun _ h => h, ?_⟩
          try simp only [Act.put, List.setIfInBounds_toArray, List.set_cons_zero, List.set_cons_succ, List.getElem_toArray, List.getElem_cons_succ, List.getElem_cons_zero]
          refine wpAnyT_pure (i := 12) (v := ?_) rfl (by kernel_rfl) (by kernel_rfl) (by kernel_rfl) (fun _ _ _ h => h) (by rfl) ?_ ?_
          rotate_left
          · intro w; go_simp; try with_reducible rfl
          simp only [Act.put, List.setIfInBounds_toArray, List.set_cons_zero, List.set_cons_succ, List.getElem_toArray, List.getElem_cons_succ, List.getElem_cons_zero]
          refine wpAnyT_loadW (i := 13) (v := ?_) rfl (by kernel_rfl) (by kernel_rfl) (by kernel_rfl) (by kernel_rfl) (by kernel_rfl) (fun _ _ _ h => h) (Or.inl ⟨by rfl, ?_⟩) hSss2 ?_
          rotate_left
          · intro w hSw; obtain ⟨e0, e1, e2, e3, e4, e5, -⟩ := hSw; go_simp; try with_reducible rfl
          simp only [Act.put, List.setIfInBounds_toArray, List.set_cons_zero, List.set_cons_succ, List.getElem_toArray, List.getElem_cons_succ, List.getElem_cons_zero]
          refine wpAnyT_one (i := 14) (by kernel_rfl) rfl (by rfl) ?_
          refine wp_enter (f := 40) (args := #[.pointer (some ⟨p, 0, none⟩), .agg #[.string x1, .int .i64 x2, .int .i64 x3], .agg #[.string y1, .int .i64 y2, .int .i64 y3]]) (by go_simp) (HCC.out s2 (HG2.out.step (hB_0_s2.trans ((hB_s2_s2).mono (hB_0_s2).size)))) ?_
          rintro e w103 ⟨rfl, hX⟩
          have hB_s2_w103 := below_step hB_s2_s2 hX
          have hB_w103_w103 := Below.refl w103.heap.size w103
          have hSsw103 := Cells.below hB_s2_w103 hSss2
          clear hX
          refine ⟨_, rfl, fun _ _ => hSsw103, ?_⟩
          try simp only [Act.put, List.setIfInBounds_toArray, List.set_cons_zero, List.set_cons_succ, List.getElem_toArray, List.getElem_cons_succ, List.getElem_cons_zero]
          refine wpAnyT_one (i := 15) (by kernel_rfl) rfl (by rfl) ?_
          refine wp_value (v := .bool eb) (w' := w103) (by have hq := HEB.out; clear HEB; go_simp <;> exact hq) ?_
          refine ⟨fun _ h => h, ?_⟩
          try simp only [Act.put, List.setIfInBounds_toArray, List.set_cons_zero, List.set_cons_succ, List.getElem_toArray, List.getElem_cons_succ, List.getElem_cons_zero]
          refine wpAnyT_pure (i := 16) (v := ?_) rfl (by kernel_rfl) (by kernel_rfl) (by kernel_rfl) (fun _ _ _ h => h) (by rfl) ?_ ?_
          rotate_left
          · intro w; go_simp; try with_reducible rfl
          simp only [Act.put, List.setIfInBounds_toArray, List.set_cons_zero, List.set_cons_succ, List.getElem_toArray, List.getElem_cons_succ, List.getElem_cons_zero]
          refine wpAnyT_done (by kernel_rfl) ?_ _
          have hbP : Below wr.heap.size wr w103 := hB_0_s2.trans ((hB_s2_w103).mono (hB_0_s2).size)
          obtain ⟨w3, rfl⟩ : ∃ x, x = w103 := ⟨_, rfl⟩
          have HR3 := Lib.hid (HR2.out.below hbP)
          have HG3 := Lib.hid (HG2.out.step hbP)
          have hC3 := Cells.below hbP hC0
          cases eb
          · go_wp2_with fail
            go_roundw
            case rel => exact ⟨k + 1, l2, by omega, by have := HLT.out; omega, by go_num, HP2.out, HR3.out, HG3.out⟩
            case measure => simp [intOf]; have := HLT.out; omega
          · go_wp2_with fail
            refine wp_region_T (Cells [(⟨g, q * 3, none⟩, .string x1), (⟨g, q * 3 + 1, none⟩, .int .i64 x2), (⟨g, q * 3 + 2, none⟩, .int .i64 x3), (⟨g, r * 3, none⟩, .string y1), (⟨g, r * 3 + 1, none⟩, .int .i64 y2), (⟨g, r * 3 + 2, none⟩, .int .i64 y3)]) (fun i => i == 15 || i == 17) (by kernel_rfl) ?_
            have hSss4 := Cells.drew hC3
            have hB_0_s4 : Below w3.heap.size w3 w3.drew := below_drew _
            generalize w3.drew = s4 at hSss4 hB_0_s4 ⊢
            have hB_s4_s4 := Below.refl s4.heap.size s4
            refine wpAnyT_pure (i := 0) (v := ?_) rfl (by kernel_rfl) (by kernel_rfl) (by kernel_rfl) (fun _ _ _ h => h) (by rfl) ?_ ?_
            rotate_left
            · intro w; go_simp; try with_reducible rfl
            simp only [Act.put, List.setIfInBounds_toArray, List.set_cons_zero, List.set_cons_succ, List.getElem_toArray, List.getElem_cons_succ, List.getElem_cons_zero]
            refine wpAnyT_pure (i := 1) (v := ?_) rfl (by kernel_rfl) (by kernel_rfl) (by kernel_rfl) (fun _ _ _ h => h) (by rfl) ?_ ?_
            rotate_left
            · intro w; go_simp; try with_reducible rfl
            simp only [Act.put, List.setIfInBounds_toArray, List.set_cons_zero, List.set_cons_succ, List.getElem_toArray, List.getElem_cons_succ, List.getElem_cons_zero]
            refine wpAnyT_pure (i := 2) (v := ?_) rfl (by kernel_rfl) (by kernel_rfl) (by kernel_rfl) (fun _ _ _ h => h) (by rfl) ?_ ?_
            rotate_left
            · intro w; go_simp; try with_reducible rfl
            simp only [Act.put, List.setIfInBounds_toArray, List.set_cons_zero, List.set_cons_succ, List.getElem_toArray, List.getElem_cons_succ, List.getElem_cons_zero]
            refine wpAnyT_pure (i := 3) (v := ?_) rfl (by kernel_rfl) (by kernel_rfl) (by kernel_rfl) (fun _ _ _ h => h) (by rfl) ?_ ?_
            rotate_left
            · intro w; go_simp; try with_reducible rfl
            simp only [Act.put, List.setIfInBounds_toArray, List.set_cons_zero, List.set_cons_succ, List.getElem_toArray, List.getElem_cons_succ, List.getElem_cons_zero]
            refine wpAnyT_pure (i := 5) (v := ?_) rfl (by kernel_rfl) (by kernel_rfl) (by kernel_rfl) (fun _ _ _ h => h) (by rfl) ?_ ?_
            rotate_left
            · intro w; go_simp; try with_reducible rfl
            simp only [Act.put, List.setIfInBounds_toArray, List.set_cons_zero, List.set_cons_succ, List.getElem_toArray, List.getElem_cons_succ, List.getElem_cons_zero]
            refine wpAnyT_pure (i := 6) (v := ?_) rfl (by kernel_rfl) (by kernel_rfl) (by kernel_rfl) (fun _ _ _ h => h) (by rfl) ?_ ?_
            rotate_left
            · intro w; go_simp; try with_reducible rfl
            simp only [Act.put, List.setIfInBounds_toArray, List.set_cons_zero, List.set_cons_succ, List.getElem_toArray, List.getElem_cons_succ, List.getElem_cons_zero]
            refine wpAnyT_pure (i := 10) (v := ?_) rfl (by kernel_rfl) (by kernel_rfl) (by kernel_rfl) (fun _ _ _ h => h) (by rfl) ?_ ?_
            rotate_left
            · intro w; go_simp; try with_reducible rfl
            simp only [Act.put, List.setIfInBounds_toArray, List.set_cons_zero, List.set_cons_succ, List.getElem_toArray, List.getElem_cons_succ, List.getElem_cons_zero]
            refine wpAnyT_pure (i := 11) (v := ?_) rfl (by kernel_rfl) (by kernel_rfl) (by kernel_rfl) (fun _ _ _ h => h) (by rfl) ?_ ?_
            rotate_left
            · intro w; go_simp; try with_reducible rfl
            simp only [Act.put, List.setIfInBounds_toArray, List.set_cons_zero, List.set_cons_succ, List.getElem_toArray, List.getElem_cons_succ, List.getElem_cons_zero]
            refine wpAnyT_pure (i := 12) (v := ?_) rfl (by kernel_rfl) (by kernel_rfl) (by kernel_rfl) (fun _ _ _ h => h) (by rfl) ?_ ?_
            rotate_left
            · intro w; go_simp; try with_reducible rfl
            simp only [Act.put, List.setIfInBounds_toArray, List.set_cons_zero, List.set_cons_succ, List.getElem_toArray, List.getElem_cons_succ, List.getElem_cons_zero]
            refine wpAnyT_loadW (i := 13) (v := ?_) rfl (by kernel_rfl) (by kernel_rfl) (by kernel_rfl) (by kernel_rfl) (by kernel_rfl) (fun _ _ _ h => h) (Or.inl ⟨by rfl, ?_⟩) hSss4 ?_
            rotate_left
            · intro w hSw; obtain ⟨e0, e1, e2, e3, e4, e5, -⟩ := hSw; go_simp; try with_reducible rfl
            simp only [Act.put, List.setIfInBounds_toArray, List.set_cons_zero, List.set_cons_succ, List.getElem_toArray, List.getElem_cons_succ, List.getElem_cons_zero]
            refine wpAnyT_two (i := 4) (k := 7) (by kernel_rfl) rfl rfl (by rfl) (by rfl) ?_ ?_
            · skip
              refine wp_value (v := .int .i64 (r : Nat)) (w' := s4) (by have hq := HQ.out; clear HQ; go_simp; rw [IntKind.wrap_i64] <;> omega) ?_
              refine ⟨fun _ h => h, ?_⟩
              try simp only [Act.put, List.setIfInBounds_toArray, List.set_cons_zero, List.set_cons_succ, List.getElem_toArray, List.getElem_cons_succ, List.getElem_cons_zero]
              refine wpAnyT_one (i := 7) (by kernel_rfl) rfl (by rfl) ?_
              refine wp_value (v := .int .i64 (r : Nat)) (w' := s4) (by have hq := HQ.out; clear HQ; go_simp; rw [IntKind.wrap_i64] <;> omega) ?_
              refine ⟨fun _ h => h, ?_⟩
              try simp only [Act.put, List.setIfInBounds_toArray, List.set_cons_zero, List.set_cons_succ, List.getElem_toArray, List.getElem_cons_succ, List.getElem_cons_zero]
              refine wpAnyT_pure (i := 8) (v := ?_) rfl (by kernel_rfl) (by kernel_rfl) (by kernel_rfl) (fun _ _ _ h => h) (by rfl) ?_ ?_
              rotate_left
              · intro w; go_simp; try with_reducible rfl
              simp only [Act.put, List.setIfInBounds_toArray, List.set_cons_zero, List.set_cons_succ, List.getElem_toArray, List.getElem_cons_succ, List.getElem_cons_zero]
              refine wpAnyT_loadW (i := 9) (v := ?_) rfl (by kernel_rfl) (by kernel_rfl) (by kernel_rfl) (by kernel_rfl) (by kernel_rfl) (fun _ _ _ h => h) (Or.inl ⟨by rfl, ?_⟩) hSss4 ?_
              rotate_left
              · intro w hSw; obtain ⟨e0, e1, e2, e3, e4, e5, -⟩ := hSw; go_simp; try with_reducible rfl
              simp only [Act.put, List.setIfInBounds_toArray, List.set_cons_zero, List.set_cons_succ, List.getElem_toArray, List.getElem_cons_succ, List.getElem_cons_zero]
              refine wpAnyT_pure (i := 14) (v := ?_) rfl (by kernel_rfl) (by kernel_rfl) (by kernel_rfl) (fun _ _ _ h => h) (by rfl) ?_ ?_
              rotate_left
              · intro w; go_simp; try with_reducible rfl
              simp only [Act.put, List.setIfInBounds_toArray, List.set_cons_zero, List.set_cons_succ, List.getElem_toArray, List.getElem_cons_succ, List.getElem_cons_zero]
              refine wpAnyT_one (i := 15) (by kernel_rfl) rfl (by rfl) ?_
              have hb15 : Below w3.heap.size w3 s4 := hB_0_s4.trans ((hB_s4_s4).mono (hB_0_s4).size)
              have hk15 := HR3.out.below hb15
              obtain ⟨hs15, hn15⟩ := hk15.set Try.prog q HQ2.out ⟨y1, y2, y3⟩
              have hg15 := (HG3.out.step hb15).trans (gr_setCells g (kvs ⟨y1, y2, y3⟩) (q * 3) s4) (fun _ h => .inl h)
              refine wp_storeK (w' := (s4).setCells g (q * 3) (kvs ⟨y1, y2, y3⟩)) 53 (.tmp 51) (.tmp 46) rfl ⟨g, q * 3, none⟩ (.agg #[.string y1, .int .i64 y2, .int .i64 y3]) (by kernel_rfl) (by kernel_rfl) (sizeK _) hs15 ?_
              generalize (s4).setCells g (q * 3) (kvs ⟨y1, y2, y3⟩) = w105 at hn15 hg15 ⊢
              clear hs15 hk15
              refine ⟨fun h => absurd h (by decide), ?_⟩
              try simp only [Act.put, List.setIfInBounds_toArray, List.set_cons_zero, List.set_cons_succ, List.getElem_toArray, List.getElem_cons_succ, List.getElem_cons_zero]
              refine wpAnyT_pure (i := 16) (v := ?_) rfl (by kernel_rfl) (by kernel_rfl) (by kernel_rfl) (fun _ _ _ h => h) (by rfl) ?_ ?_
              rotate_left
              · intro w; go_simp; try with_reducible rfl
              simp only [Act.put, List.setIfInBounds_toArray, List.set_cons_zero, List.set_cons_succ, List.getElem_toArray, List.getElem_cons_succ, List.getElem_cons_zero]
              refine wpAnyT_one (i := 17) (by kernel_rfl) rfl (by rfl) ?_
              obtain ⟨hs17, hn17⟩ := hn15.set Try.prog r (by rw [List.length_set]; have := HQ2.out; have := HQ.out; omega) ⟨x1, x2, x3⟩
              have hg17 := hg15.trans (gr_setCells g (kvs ⟨x1, x2, x3⟩) (r * 3) w105) (fun _ h => .inl h)
              refine wp_storeK (w' := (w105).setCells g (r * 3) (kvs ⟨x1, x2, x3⟩)) 53 (.tmp 52) (.tmp 50) rfl ⟨g, r * 3, none⟩ (.agg #[.string x1, .int .i64 x2, .int .i64 x3]) (by kernel_rfl) (by kernel_rfl) (sizeK _) hs17 ?_
              generalize (w105).setCells g (r * 3) (kvs ⟨x1, x2, x3⟩) = w106 at hn17 hg17 ⊢
              clear hs17 hn15 hg15
              refine ⟨fun h => absurd h (by decide), ?_⟩
              try simp only [Act.put, List.setIfInBounds_toArray, List.set_cons_zero, List.set_cons_succ, List.getElem_toArray, List.getElem_cons_succ, List.getElem_cons_zero]
              refine wpAnyT_done (by kernel_rfl) ?_ _
              obtain ⟨w4, rfl⟩ : ∃ x, x = w106 := ⟨_, rfl⟩
              have HR4 := Lib.hid hn17
              have HG4 := Lib.hid hg17
              clear hn17 hg17
              have hw : IntKind.i64.wrap ((q : Int) - 1) = (r : Int) := by have := HQ.out; rw [IntKind.wrap_i64] <;> omega
              go_wp2_with fail
              go_roundw
              case rel => exact ⟨r, _, by have := HQ.out; omega, by go_num, HSW.out.trans HP2.out, HR4.out, HG4.out⟩
              case measure => have := HQ.out; simp [intOf]; try omega
            · skip
              refine wp_value (v := .int .i64 (r : Nat)) (w' := s4) (by have hq := HQ.out; clear HQ; go_simp; rw [IntKind.wrap_i64] <;> omega) ?_
              refine ⟨fun _ h => h, ?_⟩
              try simp only [Act.put, List.setIfInBounds_toArray, List.set_cons_zero, List.set_cons_succ, List.getElem_toArray, List.getElem_cons_succ, List.getElem_cons_zero]
              refine wpAnyT_pure (i := 8) (v := ?_) rfl (by kernel_rfl) (by kernel_rfl) (by kernel_rfl) (fun _ _ _ h => h) (by rfl) ?_ ?_
              rotate_left
              · intro w; go_simp; try with_reducible rfl
              simp only [Act.put, List.setIfInBounds_toArray, List.set_cons_zero, List.set_cons_succ, List.getElem_toArray, List.getElem_cons_succ, List.getElem_cons_zero]
              refine wpAnyT_loadW (i := 9) (v := ?_) rfl (by kernel_rfl) (by kernel_rfl) (by kernel_rfl) (by kernel_rfl) (by kernel_rfl) (fun _ _ _ h => h) (Or.inl ⟨by rfl, ?_⟩) hSss4 ?_
              rotate_left
              · intro w hSw; obtain ⟨e0, e1, e2, e3, e4, e5, -⟩ := hSw; go_simp; try with_reducible rfl
              simp only [Act.put, List.setIfInBounds_toArray, List.set_cons_zero, List.set_cons_succ, List.getElem_toArray, List.getElem_cons_succ, List.getElem_cons_zero]
              refine wpAnyT_pure (i := 14) (v := ?_) rfl (by kernel_rfl) (by kernel_rfl) (by kernel_rfl) (fun _ _ _ h => h) (by rfl) ?_ ?_
              rotate_left
              · intro w; go_simp; try with_reducible rfl
              simp only [Act.put, List.setIfInBounds_toArray, List.set_cons_zero, List.set_cons_succ, List.getElem_toArray, List.getElem_cons_succ, List.getElem_cons_zero]
              refine wpAnyT_two (i := 4) (k := 15) (by kernel_rfl) rfl rfl (by rfl) (by rfl) ?_ ?_
              · skip
                refine wp_value (v := .int .i64 (r : Nat)) (w' := s4) (by have hq := HQ.out; clear HQ; go_simp; rw [IntKind.wrap_i64] <;> omega) ?_
                refine ⟨fun _ h => h, ?_⟩
                try simp only [Act.put, List.setIfInBounds_toArray, List.set_cons_zero, List.set_cons_succ, List.getElem_toArray, List.getElem_cons_succ, List.getElem_cons_zero]
                refine wpAnyT_one (i := 15) (by kernel_rfl) rfl (by rfl) ?_
                have hb15 : Below w3.heap.size w3 s4 := hB_0_s4.trans ((hB_s4_s4).mono (hB_0_s4).size)
                have hk15 := HR3.out.below hb15
                obtain ⟨hs15, hn15⟩ := hk15.set Try.prog q HQ2.out ⟨y1, y2, y3⟩
                have hg15 := (HG3.out.step hb15).trans (gr_setCells g (kvs ⟨y1, y2, y3⟩) (q * 3) s4) (fun _ h => .inl h)
                refine wp_storeK (w' := (s4).setCells g (q * 3) (kvs ⟨y1, y2, y3⟩)) 53 (.tmp 51) (.tmp 46) rfl ⟨g, q * 3, none⟩ (.agg #[.string y1, .int .i64 y2, .int .i64 y3]) (by kernel_rfl) (by kernel_rfl) (sizeK _) hs15 ?_
                generalize (s4).setCells g (q * 3) (kvs ⟨y1, y2, y3⟩) = w107 at hn15 hg15 ⊢
                clear hs15 hk15
                refine ⟨fun h => absurd h (by decide), ?_⟩
                try simp only [Act.put, List.setIfInBounds_toArray, List.set_cons_zero, List.set_cons_succ, List.getElem_toArray, List.getElem_cons_succ, List.getElem_cons_zero]
                refine wpAnyT_pure (i := 16) (v := ?_) rfl (by kernel_rfl) (by kernel_rfl) (by kernel_rfl) (fun _ _ _ h => h) (by rfl) ?_ ?_
                rotate_left
                · intro w; go_simp; try with_reducible rfl
                simp only [Act.put, List.setIfInBounds_toArray, List.set_cons_zero, List.set_cons_succ, List.getElem_toArray, List.getElem_cons_succ, List.getElem_cons_zero]
                refine wpAnyT_one (i := 17) (by kernel_rfl) rfl (by rfl) ?_
                obtain ⟨hs17, hn17⟩ := hn15.set Try.prog r (by rw [List.length_set]; have := HQ2.out; have := HQ.out; omega) ⟨x1, x2, x3⟩
                have hg17 := hg15.trans (gr_setCells g (kvs ⟨x1, x2, x3⟩) (r * 3) w107) (fun _ h => .inl h)
                refine wp_storeK (w' := (w107).setCells g (r * 3) (kvs ⟨x1, x2, x3⟩)) 53 (.tmp 52) (.tmp 50) rfl ⟨g, r * 3, none⟩ (.agg #[.string x1, .int .i64 x2, .int .i64 x3]) (by kernel_rfl) (by kernel_rfl) (sizeK _) hs17 ?_
                generalize (w107).setCells g (r * 3) (kvs ⟨x1, x2, x3⟩) = w108 at hn17 hg17 ⊢
                clear hs17 hn15 hg15
                refine ⟨fun h => absurd h (by decide), ?_⟩
                try simp only [Act.put, List.setIfInBounds_toArray, List.set_cons_zero, List.set_cons_succ, List.getElem_toArray, List.getElem_cons_succ, List.getElem_cons_zero]
                refine wpAnyT_done (by kernel_rfl) ?_ _
                obtain ⟨w4, rfl⟩ : ∃ x, x = w108 := ⟨_, rfl⟩
                have HR4 := Lib.hid hn17
                have HG4 := Lib.hid hg17
                clear hn17 hg17
                have hw : IntKind.i64.wrap ((q : Int) - 1) = (r : Int) := by have := HQ.out; rw [IntKind.wrap_i64] <;> omega
                go_wp2_with fail
                go_roundw
                case rel => exact ⟨r, _, by have := HQ.out; omega, by go_num, HSW.out.trans HP2.out, HR4.out, HG4.out⟩
                case measure => have := HQ.out; simp [intOf]; try omega
              · skip
                have hb15 : Below w3.heap.size w3 s4 := hB_0_s4.trans ((hB_s4_s4).mono (hB_0_s4).size)
                have hk15 := HR3.out.below hb15
                obtain ⟨hs15, hn15⟩ := hk15.set Try.prog q HQ2.out ⟨y1, y2, y3⟩
                have hg15 := (HG3.out.step hb15).trans (gr_setCells g (kvs ⟨y1, y2, y3⟩) (q * 3) s4) (fun _ h => .inl h)
                refine wp_storeK (w' := (s4).setCells g (q * 3) (kvs ⟨y1, y2, y3⟩)) 53 (.tmp 51) (.tmp 46) rfl ⟨g, q * 3, none⟩ (.agg #[.string y1, .int .i64 y2, .int .i64 y3]) (by kernel_rfl) (by kernel_rfl) (sizeK _) hs15 ?_
                generalize (s4).setCells g (q * 3) (kvs ⟨y1, y2, y3⟩) = w109 at hn15 hg15 ⊢
                clear hs15 hk15
                refine ⟨fun h => absurd h (by decide), ?_⟩
                try simp only [Act.put, List.setIfInBounds_toArray, List.set_cons_zero, List.set_cons_succ, List.getElem_toArray, List.getElem_cons_succ, List.getElem_cons_zero]
                refine wpAnyT_one (i := 4) (by kernel_rfl) rfl (by rfl) ?_
                refine wp_value (v := .int .i64 (r : Nat)) (w' := w109) (by have hq := HQ.out; clear HQ; go_simp; rw [IntKind.wrap_i64] <;> omega) ?_
                refine ⟨fun _ h => h, ?_⟩
                try simp only [Act.put, List.setIfInBounds_toArray, List.set_cons_zero, List.set_cons_succ, List.getElem_toArray, List.getElem_cons_succ, List.getElem_cons_zero]
                refine wpAnyT_pure (i := 16) (v := ?_) rfl (by kernel_rfl) (by kernel_rfl) (by kernel_rfl) (fun _ _ _ h => h) (by rfl) ?_ ?_
                rotate_left
                · intro w; go_simp; try with_reducible rfl
                simp only [Act.put, List.setIfInBounds_toArray, List.set_cons_zero, List.set_cons_succ, List.getElem_toArray, List.getElem_cons_succ, List.getElem_cons_zero]
                refine wpAnyT_one (i := 17) (by kernel_rfl) rfl (by rfl) ?_
                obtain ⟨hs17, hn17⟩ := hn15.set Try.prog r (by rw [List.length_set]; have := HQ2.out; have := HQ.out; omega) ⟨x1, x2, x3⟩
                have hg17 := hg15.trans (gr_setCells g (kvs ⟨x1, x2, x3⟩) (r * 3) w109) (fun _ h => .inl h)
                refine wp_storeK (w' := (w109).setCells g (r * 3) (kvs ⟨x1, x2, x3⟩)) 53 (.tmp 52) (.tmp 50) rfl ⟨g, r * 3, none⟩ (.agg #[.string x1, .int .i64 x2, .int .i64 x3]) (by kernel_rfl) (by kernel_rfl) (sizeK _) hs17 ?_
                generalize (w109).setCells g (r * 3) (kvs ⟨x1, x2, x3⟩) = w110 at hn17 hg17 ⊢
                clear hs17 hn15 hg15
                refine ⟨fun h => absurd h (by decide), ?_⟩
                try simp only [Act.put, List.setIfInBounds_toArray, List.set_cons_zero, List.set_cons_succ, List.getElem_toArray, List.getElem_cons_succ, List.getElem_cons_zero]
                refine wpAnyT_done (by kernel_rfl) ?_ _
                obtain ⟨w4, rfl⟩ : ∃ x, x = w110 := ⟨_, rfl⟩
                have HR4 := Lib.hid hn17
                have HG4 := Lib.hid hg17
                clear hn17 hg17
                have hw : IntKind.i64.wrap ((q : Int) - 1) = (r : Int) := by have := HQ.out; rw [IntKind.wrap_i64] <;> omega
                go_wp2_with fail
                go_roundw
                case rel => exact ⟨r, _, by have := HQ.out; omega, by go_num, HSW.out.trans HP2.out, HR4.out, HG4.out⟩
                case measure => have := HQ.out; simp [intOf]; try omega
    · have hkn : ¬ (k : Int) < (n : Int) := by omega
      go_wp2_with fail
      refine bodyPost_end (results_none rfl _ _ _) rfl ?_
      exact ⟨rfl, l1, HP1.out, HR1.out, HG1.out⟩
set_option maxRecDepth 20000 in
set_option maxHeartbeats 1000000 in
theorem insert0 (w : World) (a : Option Addr) (cap : Nat) (fv : Value) :
    Calls Try.prog 70 #[.slice a 0 cap, .int .i64 0, .int .i64 0, fv] w fun e w' => e = .returned (.tuple #[]) ∧ w' = w := by
  go_enter Try.func70, Try.ntmps70
  go_wp2_with fail
  refine wp_loop_rounds 1 ?_
  repeat any_goals (rw [rounds_succ]; go_wp2)
  refine bodyPost_end (results_none rfl _ _ _) rfl ?_
  exact ⟨rfl, rfl⟩
def LenP (w : World) (e : Ending) (w' : World) : Prop := ∃ r, e = .returned (.int .i64 r) ∧ w' = w
set_option maxRecDepth 100000 in
set_option maxHeartbeats 1000000 in
theorem len64 (w : World) (n : Nat) (hn : n ≤ 12) : Calls Try.prog 79 #[.int .u64 n] w (LenP w) := by
  have h1 : ¬ (4294967296 : Int) ≤ (n : Int) := by omega
  have h2 : ¬ (65536 : Int) ≤ (n : Int) := by omega
  have h3 : ¬ (256 : Int) ≤ (n : Int) := by omega
  go_enter Try.func79, Try.ntmps79
  match n, hn with
  | 0, _ => go_wp2; go_ret; exact ⟨_, rfl, rfl⟩
  | 1, _ => go_wp2; go_ret; exact ⟨_, rfl, rfl⟩
  | 2, _ => go_wp2; go_ret; exact ⟨_, rfl, rfl⟩
  | 3, _ => go_wp2; go_ret; exact ⟨_, rfl, rfl⟩
  | 4, _ => go_wp2; go_ret; exact ⟨_, rfl, rfl⟩
  | 5, _ => go_wp2; go_ret; exact ⟨_, rfl, rfl⟩
  | 6, _ => go_wp2; go_ret; exact ⟨_, rfl, rfl⟩
  | 7, _ => go_wp2; go_ret; exact ⟨_, rfl, rfl⟩
  | 8, _ => go_wp2; go_ret; exact ⟨_, rfl, rfl⟩
  | 9, _ => go_wp2; go_ret; exact ⟨_, rfl, rfl⟩
  | 10, _ => go_wp2; go_ret; exact ⟨_, rfl, rfl⟩
  | 11, _ => go_wp2; go_ret; exact ⟨_, rfl, rfl⟩
  | 12, _ => go_wp2; go_ret; exact ⟨_, rfl, rfl⟩
  | n + 13, h => omega
theorem len53 (w : World) (n : Nat) (hn : n ≤ 12) : Calls Try.prog 59 #[.int .u64 n] w (LenP w) := by
  have H := Lib.hid (len64 w n hn)
  go_enter Try.func59, Try.ntmps59
  go_wp2_with fail
  refine H.out.mono ?_
  rintro e w1 ⟨r, rfl, rfl⟩
  go_wp2_with fail
  go_ret
  exact ⟨_, rfl, rfl⟩
/-- What a sort leaves. -/
def SortP (w : World) (g : Nat) (l : List Ky) (e : Ending) (w' : World) : Prop := e = .returned (.tuple #[]) ∧ ∃ l' : List Ky, l'.Perm l ∧ KRow w' g l' ∧ Gr (fun b => b = g) w w'
set_option maxRecDepth 20000 in
set_option maxHeartbeats 1000000 in
theorem pdq53 (w : World) (a : Option Addr) (cap n : Nat) (hn : n ≤ 12) (r : Int) (fv : Value) (Q : Ending → World → Prop) (hI : Calls Try.prog 70 #[.slice a n cap, .int .i64 0, .int .i64 n, fv] w fun e w' => e = .returned (.tuple #[]) ∧ Q e w') :
    Calls Try.prog 58 #[.slice a n cap, .int .i64 0, .int .i64 n, .int .i64 r, fv] w Q := by
  have H := Lib.hid hI
  have hnI : (n : Int) ≤ 12 := by omega
  have hw : IntKind.i64.wrap (n : Int) = (n : Int) := by rw [IntKind.wrap_i64] <;> omega
  clear hI
  go_enter Try.func58, Try.ntmps58
  go_wp2_with fail
  refine wp_loop_rounds 1 ?_
  repeat any_goals (rw [rounds_succ]; go_wp2_with fail)
  refine H.out.mono ?_
  rintro e w1 ⟨rfl, hq⟩
  go_wp2_with fail
  refine bodyPost_ret (results_none rfl _ _ _) rfl ?_
  exact hq
set_option maxHeartbeats 1000000 in
theorem sort53 (w : World) (a : Option Addr) (cap n : Nat) (hn : n ≤ 12) (fv : Value) (Q : Ending → World → Prop) (hI : Calls Try.prog 70 #[.slice a n cap, .int .i64 0, .int .i64 n, fv] w fun e w' => e = .returned (.tuple #[]) ∧ Q e w') :
    Calls Try.prog 39 #[.slice a n cap, fv] w Q := by
  have H := Lib.hid fun r => pdq53 w a cap n hn r fv (fun e w' => e = .returned (.tuple #[]) ∧ Q e w') (hI.mono fun _ _ h => ⟨h.1, h⟩)
  have hw : IntKind.u64.wrap (n : Int) = (n : Int) := by
    have : (n : Int) < 18446744073709551616 := by omega
    have : (0 : Int) ≤ n := by omega
    simp [IntKind.wrap, IntKind.bits, IntKind.signed]
    omega
  clear hI
  go_enter Try.func39, Try.ntmps39
  go_wp2_with fail
  refine (len53 w n hn).mono ?_
  rintro e w1 ⟨r, rfl, rfl⟩
  go_wp2_with fail
  refine (H.out r).mono ?_
  rintro e w1 ⟨rfl, hq⟩
  go_wp2_with fail
  refine bodyPost_end (results_none rfl _ _ _) rfl ?_
  exact hq
end Go.Proofs.Ytdcjocldggmdbaa
