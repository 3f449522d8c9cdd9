/- Layer 47: the reference's Sorted, Same, Reads, Readers, Cells. -/
import Derived.Test.YtoimbhdjhhmonaaD47w
import Derived.Test.YtoimbhdjhhmonaaD47m
import Derived.Test.YtoimbhdjhhmonaaD47h
set_option linter.unusedSimpArgs false
set_option maxRecDepth 50000
namespace Go.Proofs.Ytoimbhdjhhmonaa
open Go.RowKit Go

theorem SlC.nil (base : Nat) (w : World) : SlC base w (.slice none 0 0) [] := .inl ⟨rfl, rfl⟩
theorem SlC.ok {base : Nat} {w : World} {v : Value} {l : List C4} (h : SlC base w v l) : ∀ x ∈ l, x.ok := by
  rcases h with ⟨rfl, rfl⟩ | ⟨g, cap, rfl, -, -, -, -, h5⟩
  · exact fun x hx => by cases hx
  · exact h5
set_option maxHeartbeats 1000000 in
theorem rsorted47 {S : Nat → Prop} (w : World) (a : Option Addr) (cap : Nat) (l : List C4) (hx : Rd (.sl cellT) S w [.slice a l.length cap] (l.map C4.d)) (hS : ∀ b, S b → b < w.heap.size) (hl : l.length ≤ 100000) :
    Calls Try.prog 15 #[.slice a l.length cap] w (ReadsP w (srtC l)) := by
  have HX := Lib.hid hx
  have HS := Lib.hid hS
  have HTF := Lib.hid (List.take_length (l := l))
  have HLL := Lib.hid (fun k => show (srtC (l.take k)).length ≤ 100000 from by
    have h1 := srtC_len (l.take k)
    have h2 := List.length_take_le' k l
    omega)
  have HST := Lib.hid (fun k (hk : k < l.length) => show srtC (l.take (k + 1)) = insC (srtC (l.take k)) l[k] from by rw [List.take_succ_eq_append_getElem hk]; exact srtC_snoc _ _)
  clear hx hS
  go_enter Try.func15, Try.ntmps15
  go_wp2_with fail
  go_loopw [3, 4] (fun ov i wr => ∃ (k : Nat) (oa : Option Addr) (oc : Nat), k ≤ l.length ∧ i = .int .i64 k ∧ ov = .slice oa (srtC (l.take k)).length oc ∧ SlC w.heap.size wr (.slice oa (srtC (l.take k)).length oc) (srtC (l.take k)) ∧ Below w.heap.size w wr) (fun _ i _ => l.length - (intOf i).toNat)
  case atStart => exact ⟨0, none, 0, Nat.zero_le _, rfl, rfl, SlC.nil _ _, Below.refl _ _⟩
  obtain ⟨k, oa, oc, hk, rfl, rfl, hO, hBr⟩ := hrel
  have HO := Lib.hid hO
  have HB := Lib.hid hBr
  clear hO
  by_cases hlt : k < l.length
  · have hkI : (k : Int) < (l.length : Int) := by omega
    obtain ⟨b, o, rfl, -, m0, m1, m2, m3, hyo⟩ := cell_at (HX.out.below hBr HS.out) k hlt
    have hST := HST.out k hlt
    generalize l[k] = y at m0 m1 m2 m3 hyo hST
    obtain ⟨so, hso⟩ : ∃ so, srtC (l.take k) = so := ⟨_, rfl⟩
    have HSS := Lib.hid (hso ▸ srt_srtC (l.take k))
    have HSL := Lib.hid (hso ▸ HLL.out k)
    rw [hso] at HO hST ⊢
    have HST2 := Lib.hid hST
    have HPU := Lib.hid (rput47 wr oa oc so HO.out.rd (fun b h => h.2) HSS.out HO.out.ok HSL.out y hyo)
    obtain ⟨y1, y2, y3, y4⟩ := y
    unfold C4.v at HPU
    simp only at m0 m1 m2 m3 HPU
    have HLT := Lib.hid hlt
    clear hlt hBr hST hso hyo
    go_wp2_with fail
    refine HPU.out.mono ?_
    rintro e w2 ⟨v, rfl, hS2, hB2⟩
    obtain ⟨va, vc, rfl⟩ := hS2.form
    have HS2 := Lib.hid (hS2.mono HB.out.size)
    have HB2 := Lib.hid (below_step HB.out hB2)
    clear hS2 hB2 m0 m1 m2 m3
    go_wp2_with fail
    go_roundw
    case rel => exact ⟨k + 1, va, vc, HLT.out, by go_num, by rw [HST2.out], by rw [HST2.out]; exact HS2.out, HB2.out⟩
    case measure => simp [intOf]; try omega
  · obtain rfl : k = l.length := by omega
    rw [HTF.out] at HO ⊢
    clear hBr
    go_wp2_with fail
    go_ret
    exact ⟨_, rfl, HO.out, HB.out⟩
set_option maxHeartbeats 1000000 in
theorem rsame47 {S T : Nat → Prop} (w : World) (a : Option Addr) (cap : Nat) (a' : Option Addr) (cap' : Nat) (l : List C4) (hx : Rd (.sl cellT) S w [.slice a l.length cap] (l.map C4.d)) (hy : Rd (.sl cellT) T w [.slice a' l.length cap'] (l.map C4.d)) (hS : ∀ b, S b → b < w.heap.size) (hT : ∀ b, T b → b < w.heap.size) :
    Calls Try.prog 33 #[.slice a l.length cap, .slice a' l.length cap'] w fun e w' => e = .returned (.bool true) ∧ Below w.heap.size w w' := by
  have hlm : l.length ≤ 9223372036854775807 := Nat.le_trans ((rd_len hx) ▸ hx.sl_flat.2.1) hx.sl_flat.2.2.1
  have HX := Lib.hid hx
  have HY := Lib.hid hy
  have HS := Lib.hid hS
  have HT := Lib.hid hT
  clear hx hy hS hT
  go_enter Try.func33, Try.ntmps33
  go_wp2_with fail
  go_loopw [5] (fun i wr => ∃ (q : Nat), q ≤ l.length ∧ i = .int .i64 q ∧ Below w.heap.size w wr) (fun i _ => l.length - (intOf i).toNat)
  case atStart => exact ⟨0, Nat.zero_le _, rfl, Below.refl _ _⟩
  obtain ⟨k, hk, rfl, hB⟩ := hrel
  have HB := Lib.hid hB
  by_cases hlt : k < l.length
  · have hkI : (k : Int) < (l.length : Int) := by omega
    obtain ⟨b, o, rfl, -, m0, m1, m2, m3, -⟩ := cell_at (HX.out.below hB HS.out) k hlt
    obtain ⟨b', o', rfl, -, n0, n1, n2, n3, -⟩ := cell_at (HY.out.below hB HT.out) k hlt
    generalize l[k] = y at m0 m1 m2 m3 n0 n1 n2 n3
    have hneq := fun W => cell_neq W y y
    simp only [decide_true, Bool.not_true] at hneq
    obtain ⟨y1, y2, y3, y4⟩ := y
    unfold C4.v at hneq
    simp only at m0 m1 m2 m3 n0 n1 n2 n3 hneq
    have HLT := Lib.hid hlt
    have hC0 : Cells [(⟨b, o + k * 4, none⟩, .int .i64 y1), (⟨b, o + k * 4 + 1, none⟩, .int .i64 y2), (⟨b, o + k * 4 + 2, none⟩, .int .i64 y3), (⟨b, o + k * 4 + 3, none⟩, .int .i64 y4), (⟨b', o' + k * 4, none⟩, .int .i64 y1), (⟨b', o' + k * 4 + 1, none⟩, .int .i64 y2), (⟨b', o' + k * 4 + 2, none⟩, .int .i64 y3), (⟨b', o' + k * 4 + 3, none⟩, .int .i64 y4)] wr := ⟨m0, m1, m2, m3, n0, n1, n2, n3, trivial⟩
    clear m0 m1 m2 m3 n0 n1 n2 n3 hB hlt
    go_wp2_with fail
    refine wp_region_T (Cells [(⟨b, o + k * 4, none⟩, .int .i64 y1), (⟨b, o + k * 4 + 1, none⟩, .int .i64 y2), (⟨b, o + k * 4 + 2, none⟩, .int .i64 y3), (⟨b, o + k * 4 + 3, none⟩, .int .i64 y4), (⟨b', o' + k * 4, none⟩, .int .i64 y1), (⟨b', o' + k * 4 + 1, none⟩, .int .i64 y2), (⟨b', o' + k * 4 + 2, none⟩, .int .i64 y3), (⟨b', o' + k * 4 + 3, none⟩, .int .i64 y4)]) (fun _ => false) (by kernel_rfl) ?_
    have hSss1 := Cells.drew hC0
    have hB_0_s1 : Below wr.heap.size wr wr.drew := below_drew _
    generalize wr.drew = s1 at hSss1 hB_0_s1 ⊢
    have hB_s1_s1 := Below.refl s1.heap.size s1
    refine wpAnyT_pure (i := 0) (v := ?_) rfl (by kernel_rfl) (by kernel_rfl) (by kernel_rfl) (fun _ _ _ h => h) (by rfl) ?_ ?_
    rotate_left
    · intro w; go_simp; try with_reducible rfl
    simp only [Act.put, rgA, rgB, rgC, rgD, rgE, rgF]
    refine wpAnyT_pure (i := 1) (v := ?_) rfl (by kernel_rfl) (by kernel_rfl) (by kernel_rfl) (fun _ _ _ h => h) (by rfl) ?_ ?_
    rotate_left
    · intro w; go_simp; try with_reducible rfl
    simp only [Act.put, rgA, rgB, rgC, rgD, rgE, rgF]
    refine wpAnyT_pure (i := 2) (v := ?_) rfl (by kernel_rfl) (by kernel_rfl) (by kernel_rfl) (fun _ _ _ h => h) (by rfl) ?_ ?_
    rotate_left
    · intro w; go_simp; try with_reducible rfl
    simp only [Act.put, rgA, rgB, rgC, rgD, rgE, rgF]
    refine wpAnyT_pure (i := 4) (v := ?_) rfl (by kernel_rfl) (by kernel_rfl) (by kernel_rfl) (fun _ _ _ h => h) (by rfl) ?_ ?_
    rotate_left
    · intro w; go_simp; try with_reducible rfl
    simp only [Act.put, rgA, rgB, rgC, rgD, rgE, rgF]
    refine wpAnyT_pure (i := 5) (v := ?_) rfl (by kernel_rfl) (by kernel_rfl) (by kernel_rfl) (fun _ _ _ h => h) (by rfl) ?_ ?_
    rotate_left
    · intro w; go_simp; try with_reducible rfl
    simp only [Act.put, rgA, rgB, rgC, rgD, rgE, rgF]
    refine wpAnyT_pure (i := 6) (v := ?_) rfl (by kernel_rfl) (by kernel_rfl) (by kernel_rfl) (fun _ _ _ h => h) (by rfl) ?_ ?_
    rotate_left
    · intro w; go_simp; try with_reducible rfl
    simp only [Act.put, rgA, rgB, rgC, rgD, rgE, rgF]
    refine wpAnyT_loadW (i := 3) (v := ?_) rfl (by kernel_rfl) (by kernel_rfl) (by kernel_rfl) (by kernel_rfl) (by kernel_rfl) (fun _ _ _ h => h) (Or.inl ⟨by rfl, ?_⟩) hSss1 ?_
    rotate_left
    · intro w hSw; obtain ⟨e0, e1, e2, e3, e4, e5, e6, e7, -⟩ := hSw; go_simp; try with_reducible rfl
    simp only [Act.put, rgA, rgB, rgC, rgD, rgE, rgF]
    refine wpAnyT_loadW (i := 7) (v := ?_) rfl (by kernel_rfl) (by kernel_rfl) (by kernel_rfl) (by kernel_rfl) (by kernel_rfl) (fun _ _ _ h => h) (Or.inl ⟨by rfl, ?_⟩) hSss1 ?_
    rotate_left
    · intro w hSw; obtain ⟨e0, e1, e2, e3, e4, e5, e6, e7, -⟩ := hSw; go_simp; try with_reducible rfl
    simp only [Act.put, rgA, rgB, rgC, rgD, rgE, rgF]
    refine wpAnyT_pure (i := 8) (v := ?_) rfl (by kernel_rfl) (by kernel_rfl) (by kernel_rfl) (fun _ _ _ h => h) (by rfl) ?_ ?_
    rotate_left
    · intro w; go_simp; try with_reducible rfl
    simp only [Act.put, rgA, rgB, rgC, rgD, rgE, rgF]
    refine wpAnyT_done (by kernel_rfl) ?_ _
    have HBP := Lib.hid (HB.out.trans ((hB_0_s1.trans ((hB_s1_s1).mono (hB_0_s1).size)).mono HB.out.size))
    go_wp2_with fail
    go_roundw
    case rel => exact ⟨k + 1, HLT.out, by go_num, HBP.out⟩
    case measure => simp [intOf]; try omega
  · obtain rfl : k = l.length := by omega
    clear hB
    go_wp2_with fail
    go_ret
    exact ⟨rfl, HB.out⟩
theorem same47 {S T : Nat → Prop} (w : World) (a : Option Addr) (cap : Nat) (a' : Option Addr) (cap' : Nat) (l : List C4) (hx : Rd (.sl cellT) S w [.slice a l.length cap] (l.map C4.d)) (hy : Rd (.sl cellT) T w [.slice a' l.length cap'] (l.map C4.d)) (hS : ∀ b, S b → b < w.heap.size) (hT : ∀ b, T b → b < w.heap.size) :
    Calls Try.prog 12 #[.slice a l.length cap, .slice a' l.length cap'] w fun e w' => e = .returned (.bool true) ∧ Below w.heap.size w w' := by
  have HR := Lib.hid (rsame47 w a cap a' cap' l hx hy hS hT)
  clear hx hy hS hT
  go_enter Try.func12, Try.ntmps12
  go_wp2_with fail
  refine HR.out.mono ?_
  rintro e w2 ⟨rfl, hB2⟩
  have HB2 := Lib.hid hB2
  clear hB2
  go_wp2_with fail
  go_ret
  exact ⟨rfl, HB2.out⟩
theorem flat_len {m : Nat} {G : List En4} (h : ∀ e ∈ G, e.2.length ≤ m) : (G.flatMap (fun e => e.1 :: e.2)).length ≤ G.length * (m + 1) := by
  induction G with
  | nil => simp
  | cons a l ih =>
    rw [List.flatMap_cons, List.length_append, List.length_cons, List.length_cons]
    have h1 := h a List.mem_cons_self
    have h2 := ih (fun e he => h e (List.mem_cons_of_mem _ he))
    rw [Nat.add_mul]
    omega
end Go.Proofs.Ytoimbhdjhhmonaa

/- Layer 47: the reference's Valid. -/
set_option linter.unusedSimpArgs false
set_option maxRecDepth 50000
namespace Go.Proofs.Ytoimbhdjhhmonaa
open Go.RowKit Go

set_option maxHeartbeats 4000000 in
theorem rvalid47 (w : World) (c : C4) : Calls Try.prog 54 #[c.v] w fun e w' => e = .returned (.bool (validC c)) ∧ Below w.heap.size w w' := by
  obtain ⟨s, en, ot, pe⟩ := c
  have hB := (Below.refl w.heap.size w).alloc (Nat.le_refl _) (.cells #[.int .i64 s, .int .i64 en, .int .i64 ot, .int .i64 pe] 38)
  have HK := Lib.hid (heap_alloc_new w (.cells #[.int .i64 s, .int .i64 en, .int .i64 ot, .int .i64 pe] 38))
  have HB := Lib.hid hB
  clear hB
  have HU := Lib.hid (fun W => ruses47 W s)
  unfold validC C4.v
  simp only
  generalize useE s = ue at HU ⊢
  generalize useO s = uo at HU ⊢
  generalize useP s = up at HU ⊢
  go_enter Try.func54, Try.ntmps54
  go_wp2_with fail
  generalize World.alloc _ _ = w1 at *
  have y0 := blk_cell HK.out 0
  have y1 := blk_cell HK.out 1
  have y2 := blk_cell HK.out 2
  have y3 := blk_cell HK.out 3
  simp at y0 y1 y2 y3
  have hX := HU.out w1
  refine Calls.mono hX ?_
  clear hX
  rintro e w2 ⟨rfl, hw2⟩
  rw [hw2]
  clear hw2 w2 HU HK
  by_cases h1 : s < 1
  · skip
    go_wp2_with fail
    all_goals go_ret
    all_goals exact ⟨ret_bool (by first | (simp [knownB, inB]; done) | (simp [knownB, inB]; omega) | (simp [knownB, inB, *]; done) | (simp [knownB, inB, *]; omega)), HB.out⟩
  by_cases h2 : 22 < s
  · skip
    go_wp2_with fail
    all_goals go_ret
    all_goals exact ⟨ret_bool (by first | (simp [knownB, inB]; done) | (simp [knownB, inB]; omega) | (simp [knownB, inB, *]; done) | (simp [knownB, inB, *]; omega)), HB.out⟩
  cases ue
  · by_cases h3 : en = -1
    · subst h3
      cases uo
      · by_cases h4 : ot = -1
        · subst h4
          cases up
          · by_cases h7 : pe = -1
            · subst h7
              go_wp2_with fail
              all_goals go_ret
              all_goals exact ⟨ret_bool (by first | (simp [knownB, inB]; done) | (simp [knownB, inB]; omega) | (simp [knownB, inB, *]; done) | (simp [knownB, inB, *]; omega)), HB.out⟩
            · skip
              go_wp2_with fail
              all_goals go_ret
              all_goals exact ⟨ret_bool (by first | (simp [knownB, inB]; done) | (simp [knownB, inB]; omega) | (simp [knownB, inB, *]; done) | (simp [knownB, inB, *]; omega)), HB.out⟩
          · by_cases h7 : pe < 0
            · skip
              go_wp2_with fail
              all_goals go_ret
              all_goals exact ⟨ret_bool (by first | (simp [knownB, inB]; done) | (simp [knownB, inB]; omega) | (simp [knownB, inB, *]; done) | (simp [knownB, inB, *]; omega)), HB.out⟩
            by_cases h8 : 120 ≤ pe
            · skip
              go_wp2_with fail
              all_goals go_ret
              all_goals exact ⟨ret_bool (by first | (simp [knownB, inB]; done) | (simp [knownB, inB]; omega) | (simp [knownB, inB, *]; done) | (simp [knownB, inB, *]; omega)), HB.out⟩
            go_wp2_with fail
            all_goals go_ret
            all_goals exact ⟨ret_bool (by first | (simp [knownB, inB]; done) | (simp [knownB, inB]; omega) | (simp [knownB, inB, *]; done) | (simp [knownB, inB, *]; omega)), HB.out⟩
        · skip
          go_wp2_with fail
          all_goals go_ret
          all_goals exact ⟨ret_bool (by first | (simp [knownB, inB]; done) | (simp [knownB, inB]; omega) | (simp [knownB, inB, *]; done) | (simp [knownB, inB, *]; omega)), HB.out⟩
      · by_cases h4 : ot < 0
        · skip
          go_wp2_with fail
          all_goals go_ret
          all_goals exact ⟨ret_bool (by first | (simp [knownB, inB]; done) | (simp [knownB, inB]; omega) | (simp [knownB, inB, *]; done) | (simp [knownB, inB, *]; omega)), HB.out⟩
        by_cases h5 : 12 ≤ ot
        · skip
          go_wp2_with fail
          all_goals go_ret
          all_goals exact ⟨ret_bool (by first | (simp [knownB, inB]; done) | (simp [knownB, inB]; omega) | (simp [knownB, inB, *]; done) | (simp [knownB, inB, *]; omega)), HB.out⟩
        have hne : (ot == -1) = false := by simp; omega
        cases up
        · by_cases h7 : pe = -1
          · subst h7
            go_wp2_with fail
            all_goals go_ret
            all_goals exact ⟨ret_bool (by first | (simp [knownB, inB]; done) | (simp [knownB, inB]; omega) | (simp [knownB, inB, *]; done) | (simp [knownB, inB, *]; omega)), HB.out⟩
          · skip
            go_wp2_with fail
            all_goals go_ret
            all_goals exact ⟨ret_bool (by first | (simp [knownB, inB]; done) | (simp [knownB, inB]; omega) | (simp [knownB, inB, *]; done) | (simp [knownB, inB, *]; omega)), HB.out⟩
        · by_cases h7 : pe < 0
          · skip
            go_wp2_with fail
            all_goals go_ret
            all_goals exact ⟨ret_bool (by first | (simp [knownB, inB]; done) | (simp [knownB, inB]; omega) | (simp [knownB, inB, *]; done) | (simp [knownB, inB, *]; omega)), HB.out⟩
          by_cases h8 : 120 ≤ pe
          · skip
            go_wp2_with fail
            all_goals go_ret
            all_goals exact ⟨ret_bool (by first | (simp [knownB, inB]; done) | (simp [knownB, inB]; omega) | (simp [knownB, inB, *]; done) | (simp [knownB, inB, *]; omega)), HB.out⟩
          go_wp2_with fail
          all_goals go_ret
          all_goals exact ⟨ret_bool (by first | (simp [knownB, inB]; done) | (simp [knownB, inB]; omega) | (simp [knownB, inB, *]; done) | (simp [knownB, inB, *]; omega)), HB.out⟩
    · skip
      go_wp2_with fail
      all_goals go_ret
      all_goals exact ⟨ret_bool (by first | (simp [knownB, inB]; done) | (simp [knownB, inB]; omega) | (simp [knownB, inB, *]; done) | (simp [knownB, inB, *]; omega)), HB.out⟩
  · by_cases h3 : en < 0
    · skip
      go_wp2_with fail
      all_goals go_ret
      all_goals exact ⟨ret_bool (by first | (simp [knownB, inB]; done) | (simp [knownB, inB]; omega) | (simp [knownB, inB, *]; done) | (simp [knownB, inB, *]; omega)), HB.out⟩
    by_cases h3' : 12 ≤ en
    · skip
      go_wp2_with fail
      all_goals go_ret
      all_goals exact ⟨ret_bool (by first | (simp [knownB, inB]; done) | (simp [knownB, inB]; omega) | (simp [knownB, inB, *]; done) | (simp [knownB, inB, *]; omega)), HB.out⟩
    cases uo
    · by_cases h4 : ot = -1
      · subst h4
        cases up
        · by_cases h7 : pe = -1
          · subst h7
            go_wp2_with fail
            all_goals go_ret
            all_goals exact ⟨ret_bool (by first | (simp [knownB, inB]; done) | (simp [knownB, inB]; omega) | (simp [knownB, inB, *]; done) | (simp [knownB, inB, *]; omega)), HB.out⟩
          · skip
            go_wp2_with fail
            all_goals go_ret
            all_goals exact ⟨ret_bool (by first | (simp [knownB, inB]; done) | (simp [knownB, inB]; omega) | (simp [knownB, inB, *]; done) | (simp [knownB, inB, *]; omega)), HB.out⟩
        · by_cases h7 : pe < 0
          · skip
            go_wp2_with fail
            all_goals go_ret
            all_goals exact ⟨ret_bool (by first | (simp [knownB, inB]; done) | (simp [knownB, inB]; omega) | (simp [knownB, inB, *]; done) | (simp [knownB, inB, *]; omega)), HB.out⟩
          by_cases h8 : 120 ≤ pe
          · skip
            go_wp2_with fail
            all_goals go_ret
            all_goals exact ⟨ret_bool (by first | (simp [knownB, inB]; done) | (simp [knownB, inB]; omega) | (simp [knownB, inB, *]; done) | (simp [knownB, inB, *]; omega)), HB.out⟩
          go_wp2_with fail
          all_goals go_ret
          all_goals exact ⟨ret_bool (by first | (simp [knownB, inB]; done) | (simp [knownB, inB]; omega) | (simp [knownB, inB, *]; done) | (simp [knownB, inB, *]; omega)), HB.out⟩
      · skip
        go_wp2_with fail
        all_goals go_ret
        all_goals exact ⟨ret_bool (by first | (simp [knownB, inB]; done) | (simp [knownB, inB]; omega) | (simp [knownB, inB, *]; done) | (simp [knownB, inB, *]; omega)), HB.out⟩
    · by_cases h4 : ot < 0
      · skip
        go_wp2_with fail
        all_goals go_ret
        all_goals exact ⟨ret_bool (by first | (simp [knownB, inB]; done) | (simp [knownB, inB]; omega) | (simp [knownB, inB, *]; done) | (simp [knownB, inB, *]; omega)), HB.out⟩
      by_cases h5 : 12 ≤ ot
      · skip
        go_wp2_with fail
        all_goals go_ret
        all_goals exact ⟨ret_bool (by first | (simp [knownB, inB]; done) | (simp [knownB, inB]; omega) | (simp [knownB, inB, *]; done) | (simp [knownB, inB, *]; omega)), HB.out⟩
      by_cases h6 : ot = en
      · subst h6
        go_wp2_with fail
        all_goals go_ret
        all_goals exact ⟨ret_bool (by first | (simp [knownB, inB]; done) | (simp [knownB, inB]; omega) | (simp [knownB, inB, *]; done) | (simp [knownB, inB, *]; omega)), HB.out⟩
      have h6' : ¬ en = ot := fun e => h6 e.symm
      have hne : (ot == en) = false := by simp; omega
      cases up
      · by_cases h7 : pe = -1
        · subst h7
          go_wp2_with fail
          all_goals go_ret
          all_goals exact ⟨ret_bool (by first | (simp [knownB, inB]; done) | (simp [knownB, inB]; omega) | (simp [knownB, inB, *]; done) | (simp [knownB, inB, *]; omega)), HB.out⟩
        · skip
          go_wp2_with fail
          all_goals go_ret
          all_goals exact ⟨ret_bool (by first | (simp [knownB, inB]; done) | (simp [knownB, inB]; omega) | (simp [knownB, inB, *]; done) | (simp [knownB, inB, *]; omega)), HB.out⟩
      · by_cases h7 : pe < 0
        · skip
          go_wp2_with fail
          all_goals go_ret
          all_goals exact ⟨ret_bool (by first | (simp [knownB, inB]; done) | (simp [knownB, inB]; omega) | (simp [knownB, inB, *]; done) | (simp [knownB, inB, *]; omega)), HB.out⟩
        by_cases h8 : 120 ≤ pe
        · skip
          go_wp2_with fail
          all_goals go_ret
          all_goals exact ⟨ret_bool (by first | (simp [knownB, inB]; done) | (simp [knownB, inB]; omega) | (simp [knownB, inB, *]; done) | (simp [knownB, inB, *]; omega)), HB.out⟩
        go_wp2_with fail
        all_goals go_ret
        all_goals exact ⟨ret_bool (by first | (simp [knownB, inB]; done) | (simp [knownB, inB]; omega) | (simp [knownB, inB, *]; done) | (simp [knownB, inB, *]; omega)), HB.out⟩
end Go.Proofs.Ytoimbhdjhhmonaa

/- Layer 47: the reference's Set. -/
set_option linter.unusedSimpArgs false
set_option maxRecDepth 50000
namespace Go.Proofs.Ytoimbhdjhhmonaa
open Go.RowKit Go

def vcode (c : C4) (l : List C4) : Int := if (!validC c || l.any (fun d => !validC d)) = true then 1 else 0
def nextG (G : List En4) (c : C4) (l : List C4) : List En4 := if vcode c l = 0 then setG G c l else G
def RSetP (S : Nat → Prop) (w : World) (G : List En4) (c : C4) (l : List C4) (e : Ending) (w' : World) : Prop :=
  ∃ (a : Option Addr) (cap : Nat), e = .returned (.tuple #[.slice a (nextG G c l).length cap, .int .i64 (vcode c l)]) ∧ Below w.heap.size w w' ∧ Rd (.sl entT) (fun b => S b ∨ (w.heap.size ≤ b ∧ b < w'.heap.size)) w' [.slice a (nextG G c l).length cap] ((nextG G c l).map entD)
theorem rd_okC {S : Nat → Prop} {w : World} {a : Option Addr} {len cap : Nat} {l : List C4} (h : Rd (.sl cellT) S w [.slice a len cap] (l.map C4.d)) : ∀ x ∈ l, x.ok := by
  intro x hx
  obtain ⟨i, hi, rfl⟩ := List.mem_iff_getElem.1 hx
  obtain ⟨_, _, _, _, _, _, _, _, h⟩ := cell_at h i hi
  exact h
set_option maxHeartbeats 2000000 in
theorem rset47 {S T : Nat → Prop} (w : World) (a : Option Addr) (cap : Nat) (G : List En4) (hx : Rd (.sl entT) S w [.slice a G.length cap] (G.map entD)) (hS : ∀ b, S b → b < w.heap.size) (hlen : G.length ≤ 1000) (c : C4) (hc : c.ok)
    (la : Option Addr) (lcap : Nat) (l : List C4) (hy : Rd (.sl cellT) T w [.slice la l.length lcap] (l.map C4.d)) (hT : ∀ b, T b → b < w.heap.size) (hll : l.length ≤ 100) :
    Calls Try.prog 32 #[.slice a G.length cap, c.v, .slice la l.length lcap] w (RSetP S w G c l) := by
  have HC := Lib.hid hc
  have HLEN := Lib.hid hlen
  have HLLN := Lib.hid hll
  have HDL := Lib.hid (delG_len G c)
  have hlm : l.length ≤ 9223372036854775807 := by omega
  have hgm : G.length ≤ 9223372036854775807 := by omega
  obtain ⟨c1, c2, c3, c4⟩ := c
  have hB := (Below.refl w.heap.size w).alloc (Nat.le_refl _) (.cells #[.int .i64 c1, .int .i64 c2, .int .i64 c3, .int .i64 c4] 38)
  have hkb := heap_alloc_new w (.cells #[.int .i64 c1, .int .i64 c2, .int .i64 c3, .int .i64 c4] 38)
  have HB := Lib.hid hB
  have HKB := Lib.hid hkb
  unfold C4.v
  simp only
  have HX := Lib.hid (hx.below hB hS)
  have HS := Lib.hid (fun b hb => Nat.lt_of_lt_of_le (hS b hb) hB.size)
  have HY := Lib.hid (hy.below hB hT)
  have HT := Lib.hid (fun b hb => Nat.lt_of_lt_of_le (hT b hb) hB.size)
  clear hB hkb hx hS hy hT hc
  go_enter Try.func32, Try.ntmps32
  go_wp2_with fail
  generalize hw1 : World.alloc _ _ = w1 at *
  clear hw1
  obtain ⟨gb, hgb⟩ : ∃ x, w.heap.size = x := ⟨_, rfl⟩
  have HGB := Lib.hid hgb
  rw [hgb] at HKB
  clear hgb
  rw [HGB.out]
  go_loopw [8] (fun i wr => ∃ (k : Nat), k ≤ l.length ∧ i = .int .i64 k ∧ (l.take k).any (fun d => !validC d) = false ∧ Below w1.heap.size w1 wr) (fun i _ => l.length - (intOf i).toNat)
  case atStart => exact ⟨0, Nat.zero_le _, rfl, rfl, Below.refl _ _⟩
  obtain ⟨k, hk, rfl, hany, hBr⟩ := hrel
  have HNA := Lib.hid hany
  have HBR := Lib.hid hBr
  clear hany
  by_cases hlt : k < l.length
  · have hkI : (k : Int) < (l.length : Int) := by omega
    obtain ⟨b, o, rfl, -, m0, m1, m2, m3, -⟩ := cell_at (HY.out.below hBr HT.out) k hlt
    have HST := Lib.hid (show (l.take (k + 1)).any (fun c => !validC c) = !validC l[k] from by
      rw [List.take_succ_eq_append_getElem hlt, List.any_append, HNA.out]
      simp)
    have HSO := Lib.hid (show (!validC l[k]) = true → (!validC (⟨c1, c2, c3, c4⟩ : C4) || l.any (fun c => !validC c)) = true from fun h => by
      rw [Bool.or_eq_true]
      exact .inr (List.any_eq_true.2 ⟨l[k], List.getElem_mem hlt, h⟩))
    generalize l[k] = q at m0 m1 m2 m3 HST HSO
    have HCL := Lib.hid (rvalid47 wr q)
    obtain ⟨bd, hbd⟩ : ∃ bd, validC q = bd := ⟨_, rfl⟩
    rw [hbd] at HST HSO HCL
    obtain ⟨q1, q2, q3, q4⟩ := q
    unfold C4.v at HCL
    simp only at m0 m1 m2 m3 HCL
    have HLT := Lib.hid hlt
    clear hbd hBr hlt
    go_wp2_with fail
    refine HCL.out.mono ?_
    rintro e w2 ⟨rfl, hB2⟩
    have HB2 := Lib.hid (HBR.out.trans (hB2.mono HBR.out.size))
    clear hB2 m0 m1 m2 m3
    cases bd
    · skip
      have HVC := Lib.hid (show vcode ⟨c1, c2, c3, c4⟩ l = 1 from by unfold vcode; rw [if_pos (HSO.out rfl)])
      go_wp2_with fail
      refine bodyPost_ret (results_tmp2 rfl _ _ _) rfl ?_
      have HNX := Lib.hid (show nextG G ⟨c1, c2, c3, c4⟩ l = G from by unfold nextG; rw [HVC.out]; rfl)
      unfold RSetP
      rw [HVC.out, HNX.out]
      exact ⟨a, cap, rfl, HB.out.trans (HB2.out.mono HB.out.size), (HX.out.below HB2.out HS.out).keep (fun _ _ => rfl) (fun _ h => .inl h)⟩
    · go_wp2_with fail
      go_roundw
      case rel => exact ⟨k + 1, HLT.out, by go_num, HST.out, HB2.out⟩
      case measure => simp [intOf]; try omega
  obtain rfl : k = l.length := by omega
  rw [List.take_length] at HNA
  have hk4 := (hBr.block _ (blk_lt HKB.out)).trans HKB.out
  have HK4 := Lib.hid hk4
  have n0 := blk_cell hk4 0
  have n1 := blk_cell hk4 1
  have n2 := blk_cell hk4 2
  have n3 := blk_cell hk4 3
  simp only [List.getElem?_toArray, List.getElem?_cons_zero, List.getElem?_cons_succ] at n0 n1 n2 n3
  clear hBr hk4
  have HCV := Lib.hid (rvalid47 wr ⟨c1, c2, c3, c4⟩)
  obtain ⟨bd, hbd⟩ : ∃ bd, validC (⟨c1, c2, c3, c4⟩ : C4) = bd := ⟨_, rfl⟩
  rw [hbd] at HCV
  have HBD := Lib.hid hbd
  unfold C4.v at HCV
  simp only at HCV
  clear hbd
  go_wp2_with fail
  refine HCV.out.mono ?_
  rintro e w2 ⟨rfl, hB2⟩
  have HB2 := Lib.hid (HBR.out.trans (hB2.mono HBR.out.size))
  have HK2 := Lib.hid ((hB2.block _ (blk_lt HK4.out)).trans HK4.out)
  clear hB2 n0 n1 n2 n3
  cases bd
  · skip
    have HVC := Lib.hid (show vcode ⟨c1, c2, c3, c4⟩ l = 1 from by unfold vcode; rw [if_pos ((by rw [HBD.out]; rfl))])
    go_wp2_with fail
    refine bodyPost_ret (results_tmp2 rfl _ _ _) rfl ?_
    have HNX := Lib.hid (show nextG G ⟨c1, c2, c3, c4⟩ l = G from by unfold nextG; rw [HVC.out]; rfl)
    unfold RSetP
    rw [HVC.out, HNX.out]
    exact ⟨a, cap, rfl, HB.out.trans (HB2.out.mono HB.out.size), (HX.out.below HB2.out HS.out).keep (fun _ _ => rfl) (fun _ h => .inl h)⟩
  have HVC := Lib.hid (show vcode ⟨c1, c2, c3, c4⟩ l = 0 from by unfold vcode; rw [HBD.out, HNA.out]; rfl)
  have hq1 : ¬ ((200 : Int) < (l.length : Int)) := by omega
  have hq2 : ¬ ((5000 : Int) ≤ (G.length : Int)) := by omega
  have n0 := blk_cell HK2.out 0
  have n1 := blk_cell HK2.out 1
  have n2 := blk_cell HK2.out 2
  have n3 := blk_cell HK2.out 3
  simp only [List.getElem?_toArray, List.getElem?_cons_zero, List.getElem?_cons_succ] at n0 n1 n2 n3
  have HX2 := Lib.hid (HX.out.below HB2.out HS.out)
  have HS2 := Lib.hid (fun b hb => Nat.lt_of_lt_of_le (HS.out b hb) HB2.out.size)
  have HRM := Lib.hid (rremove47 w2 a cap G HX2.out HS2.out (by have := HLEN.out; omega) ⟨c1, c2, c3, c4⟩)
  unfold C4.v at HRM
  simp only at HRM
  go_wp2_with fail
  refine HRM.out.mono ?_
  rintro e w3 ⟨da, dc, he, hB3, hR3⟩
  obtain ⟨rcode, hrc⟩ : ∃ x : Int, (if (lkG G ⟨c1, c2, c3, c4⟩).isSome = true then (0 : Int) else 8) = x := ⟨_, rfl⟩
  rw [hrc] at he
  subst he
  clear hrc
  have HB3 := Lib.hid (HB2.out.trans (hB3.mono HB2.out.size))
  have HK3 := Lib.hid ((hB3.block _ (blk_lt HK2.out)).trans HK2.out)
  obtain ⟨S3, hS3⟩ : ∃ S3 : Nat → Prop, S3 = fun b => S b ∨ (w2.heap.size ≤ b ∧ b < w3.heap.size) := ⟨_, rfl⟩
  rw [← hS3] at hR3
  have HR3 := Lib.hid hR3
  have HS3 := Lib.hid (show ∀ b, S3 b → b < w3.heap.size from fun b hb => by
    rw [hS3] at hb
    rcases hb with hb | hb
    · exact Nat.lt_of_lt_of_le (HS2.out b hb) hB3.size
    · exact hb.2)
  have HSU := Lib.hid (show ∀ b, S3 b → S b ∨ (w.heap.size ≤ b ∧ b < w3.heap.size) from fun b hb => by
    rw [hS3] at hb
    rcases hb with hb | hb
    · exact .inl hb
    · exact .inr ⟨by have h1 := HB.out.size; have h2 := HB2.out.size; omega, hb.2⟩)
  clear hB3 hR3 hS3 n0 n1 n2 n3
  obtain ⟨dl, hdl⟩ : ∃ x, delG G ⟨c1, c2, c3, c4⟩ = x := ⟨_, rfl⟩
  rw [hdl] at HR3 HDL ⊢
  have HDE := Lib.hid hdl
  have HY3 := Lib.hid (HY.out.below HB3.out HT.out)
  have HT3 := Lib.hid (fun b hb => Nat.lt_of_lt_of_le (HT.out b hb) HB3.out.size)
  clear hdl hq1 hq2
  go_wp2_with fail
  have hC0 : Cells [(⟨gb, 0, none⟩, .int .i64 c1), (⟨gb, 1, none⟩, .int .i64 c2), (⟨gb, 2, none⟩, .int .i64 c3), (⟨gb, 3, none⟩, .int .i64 c4)] w3 := ⟨blk_cell HK3.out 0, blk_cell HK3.out 1, blk_cell HK3.out 2, blk_cell HK3.out 3, trivial⟩
  refine wp_region_T (Cells [(⟨gb, 0, none⟩, .int .i64 c1), (⟨gb, 1, none⟩, .int .i64 c2), (⟨gb, 2, none⟩, .int .i64 c3), (⟨gb, 3, none⟩, .int .i64 c4)]) (fun _ => false) (by kernel_rfl) ?_
  have hSss1 := Cells.drew hC0
  have hB_0_s1 : Below w3.heap.size w3 w3.drew := below_drew _
  generalize w3.drew = s1 at hSss1 hB_0_s1 ⊢
  have hB_s1_s1 := Below.refl s1.heap.size s1
  refine wpAnyT_pure (i := 1) (v := ?_) rfl (by kernel_rfl) (by kernel_rfl) (by kernel_rfl) (fun _ _ _ h => h) (by rfl) ?_ ?_
  rotate_left
  · intro w; go_simp; try with_reducible rfl
  simp only [Act.put, rgA, rgB, rgC, rgD, rgE, rgF]
  refine wpAnyT_pure (i := 4) (v := ?_) rfl (by kernel_rfl) (by kernel_rfl) (by kernel_rfl) (fun _ _ _ h => h) (by rfl) ?_ ?_
  rotate_left
  · intro w; go_simp; try with_reducible rfl
  simp only [Act.put, rgA, rgB, rgC, rgD, rgE, rgF]
  refine wpAnyT_loadW (i := 3) (v := ?_) rfl (by kernel_rfl) (by kernel_rfl) (by kernel_rfl) (by kernel_rfl) (by kernel_rfl) (fun _ _ _ h => h) (Or.inl ⟨by rfl, ?_⟩) hSss1 ?_
  rotate_left
  · intro w hSw; obtain ⟨e0, e1, e2, e3, -⟩ := hSw; go_simp; try with_reducible rfl
  simp only [Act.put, rgA, rgB, rgC, rgD, rgE, rgF]
  refine wpAnyT_one (i := 0) (by kernel_rfl) rfl (by rfl) ?_
  obtain ⟨b0, hb0⟩ : ∃ b, s1.heap.size = b := ⟨_, rfl⟩
  have hge0 : s1.heap.size ≤ b0 := hb0 ▸ (hB_s1_s1).size
  refine wp_newrow (v := .slice (some ⟨b0, 0, none⟩) 0 0) (cs := #[]) (te := 65) (by rw [← hb0]; go_simp) ?_
  intro w102 hX hN0
  rw [hb0] at hN0
  have hB_s1_w102 := below_step hB_s1_s1 hX
  have hB_w102_w102 := Below.refl w102.heap.size w102
  have hSsw102 := Cells.below hB_s1_w102 hSss1
  clear hX
  refine ⟨fun _ _ => hSsw102, ?_⟩
  try simp only [Act.put, rgA, rgB, rgC, rgD, rgE, rgF]
  refine wpAnyT_one (i := 2) (by kernel_rfl) rfl (by rfl) ?_
  have hq0 := ((hB_w102_w102).block _ (blk_lt hN0)).trans hN0
  have hbP : Below w3.heap.size w3 w102 := hB_0_s1.trans ((hB_s1_w102).mono hB_0_s1.size)
  refine wp_appLit (.tmp 49) (.tmp 50) 28 rfl (e := entT) (te := 65) info_ent Try.underlying28 rfl (by decide) (S := S3) (base := s1.heap.size) (b := b0) (by kernel_rfl) hq0 hge0 (sv := .slice da dl.length dc) (by kernel_rfl) (ys := dl.map entD) (HR3.out.below hbP HS3.out) (fun x hx => ⟨by have h1 := HS3.out x hx; have h2 := hB_0_s1.size; omega, Nat.lt_of_lt_of_le (HS3.out x hx) hbP.size⟩) (by have h1 := HDL.out; have h2 := HLEN.out; rw [List.length_map]; omega) (by have h1 := HDL.out; have h2 := HLEN.out; rw [List.length_map]; omega) ?_
  intro ca2 cl2 cc2 w103 O2 hX
  have HO2 := Lib.hid O2
  clear O2 hbP
  have hB_s1_w103 := below_step hB_s1_w102 hX
  have hB_w102_w103 := below_step hB_w102_w102 hX
  have hB_w103_w103 := Below.refl w103.heap.size w103
  have hSsw103 := Cells.below hB_s1_w103 hSss1
  clear hX
  refine ⟨fun _ _ => hSsw103, ?_⟩
  try simp only [Act.put, rgA, rgB, rgC, rgD, rgE, rgF]
  refine wpAnyT_one (i := 5) (by kernel_rfl) rfl (by rfl) ?_
  have hbP : Below w3.heap.size w3 w103 := hB_0_s1.trans ((hB_s1_w103).mono hB_0_s1.size)
  obtain ⟨n5, hn5⟩ : ∃ n, w103.heap.size = n := ⟨_, rfl⟩
  have HN5 := Lib.hid hn5
  have HS25 := Lib.hid (show w103.heap.size ≤ n5 from hn5 ▸ (hB_w103_w103).size)
  have HLO5 := Lib.hid (show w3.heap.size ≤ n5 from hn5 ▸ hbP.size)
  refine wp_enter (f := 15) (args := #[.slice la l.length lcap]) (by go_simp) (rsorted47 w103 la lcap l (HY3.out.below hbP HT3.out) (fun b hb => Nat.lt_of_lt_of_le (HT3.out b hb) hbP.size) (by have := HLLN.out; omega)) ?_
  rintro e w104 ⟨v5, rfl, hS5, hX⟩
  obtain ⟨va5, vc5, rfl⟩ := hS5.form
  rw [hn5] at hS5
  have HS5 := Lib.hid hS5
  obtain ⟨n5', hn5'⟩ : ∃ n, w104.heap.size = n := ⟨_, rfl⟩
  have HN5' := Lib.hid hn5'
  clear hS5 hn5 hn5' hbP
  have hB_s1_w104 := below_step hB_s1_w103 hX
  have hB_w102_w104 := below_step hB_w102_w103 hX
  have hB_w103_w104 := below_step hB_w103_w103 hX
  have hB_w104_w104 := Below.refl w104.heap.size w104
  have hSsw104 := Cells.below hB_s1_w104 hSss1
  clear hX
  refine ⟨_, rfl, fun _ _ => hSsw104, ?_⟩
  try simp only [Act.put, rgA, rgB, rgC, rgD, rgE, rgF]
  refine wpAnyT_pure (i := 6) (v := ?_) rfl (by kernel_rfl) (by kernel_rfl) (by kernel_rfl) (fun _ _ _ h => h) (by rfl) ?_ ?_
  rotate_left
  · intro w; go_simp; try with_reducible rfl
  simp only [Act.put, rgA, rgB, rgC, rgD, rgE, rgF]
  refine wpAnyT_one (i := 7) (by kernel_rfl) rfl (by rfl) ?_
  obtain ⟨b7, hb7⟩ : ∃ b, w104.heap.size = b := ⟨_, rfl⟩
  refine wp_newrow (v := .slice (some ⟨b7, 0, none⟩) 1 1) (cs := #[.int .i64 c1, .int .i64 c2, .int .i64 c3, .int .i64 c4, .slice va5 (srtC l).length vc5]) (te := 65) (by rw [← hb7]; go_simp) ?_
  intro w105 hX hN7
  rw [hb7] at hN7
  have hB_s1_w105 := below_step hB_s1_w104 hX
  have hB_w102_w105 := below_step hB_w102_w104 hX
  have hB_w103_w105 := below_step hB_w103_w104 hX
  have hB_w104_w105 := below_step hB_w104_w104 hX
  have hB_w105_w105 := Below.refl w105.heap.size w105
  have hSsw105 := Cells.below hB_s1_w105 hSss1
  clear hX
  refine ⟨fun _ _ => hSsw105, ?_⟩
  try simp only [Act.put, rgA, rgB, rgC, rgD, rgE, rgF]
  refine wpAnyT_one (i := 8) (by kernel_rfl) rfl (by rfl) ?_
  have hq7 := ((hB_w105_w105).block _ (blk_lt hN7)).trans hN7
  have hO2 := HO2.out.below hB_w103_w105
  have hs5 := (hB_w104_w105).size
  rw [HN5'.out] at hs5
  have HS8 := Lib.hid (show ∀ b, (S3 b ∨ (n5 ≤ b ∧ b < n5')) → (Value.slice ca2 cl2 cc2).ownBlock ≠ some b ∧ b < w105.heap.size from fun b hb => by
    rcases hb with hb | hb
    · exact ⟨(hO2.bound b hb).1, (hO2.bound b hb).2⟩
    · refine ⟨fun e => ?_, by omega⟩
      have h1 := (HO2.out.own b e).2
      have h2 := HS25.out
      omega)
  have hO8 := hO2.mono (S' := fun b => S3 b ∨ (n5 ≤ b ∧ b < n5')) (fun _ h => .inl h) HS8.out
  have hr5 := (HS5.out.rd.below hB_w104_w105 (fun b hb => hb.2)).keep (S' := fun b => S3 b ∨ (n5 ≤ b ∧ b < n5')) (fun _ _ => rfl) (fun b hb => .inr ⟨hb.1, by rw [← HN5'.out]; exact hb.2⟩)
  have hrl := ent_rd (e := ((⟨c1, c2, c3, c4⟩ : C4), srtC l)) HC.out hr5
  refine wp_app (.tmp 51) (.tmp 56) 28 rfl (e := entT) (te := 65) info_ent Try.underlying28 rfl (by decide) (base := s1.heap.size) (S := fun b => S3 b ∨ (n5 ≤ b ∧ b < n5')) (v := .slice ca2 cl2 cc2) (xs := dl.map entD) (by kernel_rfl) hO8 (hB_s1_w105).size (sv := .slice (some ⟨b7, 0, none⟩) 1 1) (by kernel_rfl) (ys := [entD (⟨c1, c2, c3, c4⟩, srtC l)]) (Src.of_cells (news := [.int .i64 c1, .int .i64 c2, .int .i64 c3, .int .i64 c4, .slice va5 (srtC l).length vc5]) (fun j u hu => by rw [Nat.zero_add, blk_cell hq7]; simpa using hu)) (RdL.one (e := entT) hrl) (by have h1 := HDL.out; have h2 := HLEN.out; rw [List.length_map]; simp only [List.length_singleton]; omega) (by have h1 := HDL.out; have h2 := HLEN.out; rw [List.length_map]; simp only [List.length_singleton]; omega) ?_
  intro ca8 cl8 cc8 w106 O8 g8 ob8
  have hX : Below s1.heap.size s1 w106 := (hB_s1_w105).grown g8 (hB_s1_w105).size (fun c hc => (hO8.own c hc).1)
  have HO8 := Lib.hid (O8.base (hB_0_s1).size)
  have HN8 := Lib.hid (show n5' ≤ w106.heap.size from Nat.le_trans hs5 g8.size)
  clear O8 g8 ob8 hq7 hO2 hO8 hrl hr5 hs5 HS8
  have hB_s1_w106 := hX
  have hB_w106_w106 := Below.refl w106.heap.size w106
  have hSsw106 := Cells.below hB_s1_w106 hSss1
  clear hX
  refine ⟨fun _ _ => hSsw106, ?_⟩
  try simp only [Act.put, rgA, rgB, rgC, rgD, rgE, rgF]
  refine wpAnyT_pure (i := 9) (v := ?_) rfl (by kernel_rfl) (by kernel_rfl) (by kernel_rfl) (fun _ _ _ h => h) (by rfl) ?_ ?_
  rotate_left
  · intro w; go_simp; try with_reducible rfl
  simp only [Act.put, rgA, rgB, rgC, rgD, rgE, rgF]
  refine wpAnyT_pure (i := 10) (v := ?_) rfl (by kernel_rfl) (by kernel_rfl) (by kernel_rfl) (fun _ _ _ h => h) (by rfl) ?_ ?_
  rotate_left
  · intro w; go_simp; try with_reducible rfl
  simp only [Act.put, rgA, rgB, rgC, rgD, rgE, rgF]
  refine wpAnyT_done (by kernel_rfl) ?_ _
  have HBP := Lib.hid (HB3.out.trans ((hB_0_s1.trans ((hB_s1_w106).mono (hB_0_s1).size)).mono HB3.out.size))
  obtain ⟨w8, rfl⟩ : ∃ x, x = w106 := ⟨_, rfl⟩
  clear hC0
  go_wp2_with fail
  refine bodyPost_ret (results_tmp2 rfl _ _ _) rfl ?_
  have HNX := Lib.hid (show nextG G ⟨c1, c2, c3, c4⟩ l = dl ++ [((⟨c1, c2, c3, c4⟩ : C4), srtC l)] from by unfold nextG setG; rw [HVC.out, HDE.out]; rfl)
  unfold RSetP
  rw [HVC.out, HNX.out]
  have hrd := HO8.out.rd (fun b => S b ∨ (w.heap.size ≤ b ∧ b < w8.heap.size)) (fun b hb => by
    have h1 := HB.out.size
    have h2 := HB3.out.size
    have h3 := HLO5.out
    have h4 := HN8.out
    have h5 := HO8.out.bound b hb
    rcases hb with hb | hb
    · rcases HSU.out b hb with h | h
      · exact .inl h
      · exact .inr ⟨h.1, h5.2⟩
    · exact .inr ⟨by omega, h5.2⟩) (fun b e => .inr ⟨by
    have h1 := HB.out.size
    have h2 := HB3.out.size
    have h3 := (HO8.out.own b e).1
    omega, (HO8.out.own b e).2⟩)
  rw [show dl.map entD ++ [entD ((⟨c1, c2, c3, c4⟩ : C4), srtC l)] = (dl ++ [((⟨c1, c2, c3, c4⟩ : C4), srtC l)]).map entD from by simp] at hrd
  obtain rfl := rd_len hrd
  exact ⟨_, _, rfl, HB.out.trans (HBP.out.mono HB.out.size), hrd⟩
end Go.Proofs.Ytoimbhdjhhmonaa

/- Layer 47, plain: what is affected, by passes over the entries. -/
namespace Go.Proofs.Ytoimbhdjhhmonaa
open Go.RowKit Go

def AffI (G : List En4) (l os : List C4) : Prop := Srt os ∧ ∀ x ∈ os, x ∈ G.map (·.1) ∧ ∃ c ∈ l, Rch (rsOf (lkG G)) c x
def AffC1 (l os : List C4) (e : En4) : Prop := (∃ r ∈ e.2, r ∈ l ∨ r ∈ os) → e.1 ∈ os
theorem AffI.nil (G : List En4) (l : List C4) : AffI G l [] := ⟨.nil, fun _ h => by cases h⟩
theorem AffI.len {m : Nat} {G : List En4} (hG : GI m G) {l os : List C4} (h : AffI G l os) : os.length ≤ G.length := by
  have hp : os.Perm ((G.map (·.1)).filter (fun x => decide (x ∈ os))) := (List.perm_ext_iff_of_nodup h.1.nodup (hG.nd.sublist List.filter_sublist)).2 fun x => by
    rw [List.mem_filter]
    exact ⟨fun hx => ⟨(h.2 x hx).1, decide_eq_true hx⟩, fun hx => of_decide_eq_true hx.2⟩
  rw [hp.length_eq]
  refine Nat.le_trans (List.length_filter_le _ _) ?_
  rw [List.length_map]
  exact Nat.le_refl _
theorem AffI.put {m : Nat} {G : List En4} (hG : GI m G) {l os : List C4} (h : AffI G l os) {e : En4} (he : e ∈ G) (hr : ∃ r ∈ e.2, r ∈ l ∨ r ∈ os) : AffI G l (insC os e.1) := by
  refine ⟨h.1.ins _, fun x hx => ?_⟩
  rw [mem_insC] at hx
  rcases hx with rfl | hx
  · refine ⟨List.mem_map.2 ⟨e, he, rfl⟩, ?_⟩
    obtain ⟨r, hr1, hr2⟩ := hr
    have h1 : rsOf (lkG G) r e.1 = true := (rsOf_lkG hG _ _).2 ⟨e, he, rfl, hr1⟩
    rcases hr2 with h2 | h2
    · exact ⟨r, h2, .one h1⟩
    · obtain ⟨c, hc, hrc⟩ := (h.2 r h2).2
      exact ⟨c, hc, .step hrc h1⟩
  · exact h.2 x hx
theorem insC_len_new {os : List C4} {c : C4} (h : c ∉ os) : (insC os c).length = os.length + 1 := by
  unfold insC
  rw [if_neg h]
  have h := congrArg List.length (List.takeWhile_append_dropWhile (p := fun x => decide (ltC x c)) (l := os))
  rw [List.length_append] at h
  rw [List.length_append, List.length_cons]
  omega
theorem AffI.fin {m : Nat} {G : List En4} (hG : GI m G) {l os : List C4} (h : AffI G l os) (hc : ∀ e ∈ G, AffC1 l os e) (x : C4) : x ∈ os ↔ ∃ c ∈ l, Rch (rsOf (lkG G)) c x := by
  refine ⟨fun hx => (h.2 x hx).2, fun hx => ?_⟩
  obtain ⟨c, hcl, hr⟩ := hx
  induction hr with
  | one h1 =>
    obtain ⟨e, he, rfl, hd⟩ := (rsOf_lkG hG _ _).1 h1
    exact hc e he ⟨c, hd, .inl hcl⟩
  | step _ h1 ih =>
    obtain ⟨e, he, rfl, hd⟩ := (rsOf_lkG hG _ _).1 h1
    exact hc e he ⟨_, hd, .inr ih⟩
/-- Within a pass that began with os0. -/
structure AffM (G : List En4) (l os0 os : List C4) (g : Bool) (k : Nat) : Prop where
  inv : AffI G l os
  le : os0.length ≤ os.length
  no : g = false → os = os0 ∧ ∀ j (hj : j < G.length), j < k → AffC1 l os0 G[j]
  yes : g = true → os0.length < os.length
theorem AffM.start {G : List En4} {l os0 : List C4} (h : AffI G l os0) : AffM G l os0 os0 false 0 := ⟨h, Nat.le_refl _, fun _ => ⟨rfl, fun _ _ h => absurd h (Nat.not_lt_zero _)⟩, fun h => by cases h⟩
theorem AffM.skip {G : List En4} {l os0 os : List C4} {g : Bool} {k : Nat} (h : AffM G l os0 os g k) (hk : k < G.length) (hc : AffC1 l os G[k]) : AffM G l os0 os g (k + 1) :=
  ⟨h.inv, h.le, fun hg => ⟨(h.no hg).1, fun j hj hjk => by
    by_cases e : j = k
    · subst e; rw [← (h.no hg).1]; exact hc
    · exact (h.no hg).2 j hj (by omega)⟩, h.yes⟩
theorem AffM.put {m : Nat} {G : List En4} (hG : GI m G) {l os0 os : List C4} {g : Bool} {k : Nat} (h : AffM G l os0 os g k) (hk : k < G.length) (hn : G[k].1 ∉ os) (hr : ∃ r ∈ G[k].2, r ∈ l ∨ r ∈ os) : AffM G l os0 (insC os G[k].1) true (k + 1) := by
  have h1 := insC_len_new hn
  have h2 := h.le
  exact ⟨h.inv.put hG (List.getElem_mem hk) hr, by omega, (fun h => by cases h), fun _ => by omega⟩
end Go.Proofs.Ytoimbhdjhhmonaa

/- Layer 47: the reference's Affected. -/
set_option linter.unusedSimpArgs false
set_option maxRecDepth 50000
namespace Go.Proofs.Ytoimbhdjhhmonaa
open Go.RowKit Go

end Go.Proofs.Ytoimbhdjhhmonaa

/- Layer 47: cell.Of. -/
set_option linter.unusedSimpArgs false
set_option maxRecDepth 50000
namespace Go.Proofs.Ytoimbhdjhhmonaa
open Go.RowKit Go

theorem results_cell_tmp1 {P : Program} {fn : Func} {p : Tmp} {ty : TypeId} (h : fn.results = #[.cell p ty]) (tmps : Array Value) (w : World) (g : Nat) (te : TypeId) (cs : Array Value) (fr : Nat × Nat) (d : TypeDesc)
    (hp : tmps.getD p undef = .pointer (some ⟨g, 0, none⟩)) (hg : w.heap[g]? = some (.cells cs te fr))
    (hu : P.underlying ty = some d) (hd : (match d with | .struct _ | .array _ _ => true | _ => false) = true) (hi : (P.info? ty).map (·.size) = some cs.size) :
    (results fn tmps).run P w = .ok (.agg cs) w := by
  have hp' : tmps[p]?.getD undef = .pointer (some ⟨g, 0, none⟩) := by simpa using hp
  simp [results, h, hp', asAddr, run_loadVar_row w g te ty cs fr d hg hu hd hi]
def ofC (s e o p : Int) : C4 := ⟨s, if (knownB s && useE s) = true then e else -1, if (knownB s && useO s) = true then o else -1, if (knownB s && useP s) = true then p else -1⟩
set_option maxHeartbeats 1000000 in
theorem of47 (w : World) (s e o p : Int) (huo : (knownB s && useO s) = false) : Calls Try.prog 30 #[.int .i64 s, .int .i64 e, .int .i64 o, .int .i64 p] w fun r w' => r = .returned (ofC s e o p).v ∧ Below w.heap.size w w' := by
  obtain ⟨ue, hue⟩ : ∃ x, (knownB s && useE s) = x := ⟨_, rfl⟩
  obtain ⟨up, hup⟩ : ∃ x, (knownB s && useP s) = x := ⟨_, rfl⟩
  have HOF := Lib.hid (show ofC s e o p = ⟨s, if ue = true then e else -1, -1, if up = true then p else -1⟩ from by unfold ofC; rw [hue, huo, hup]; rfl)
  have hz := heap_alloc2_old w (.cells #[.int .i64 0, .int .i64 0, .int .i64 0, .int .i64 0] 38) (.cells #[.int .i64 s, .int .i64 (-1), .int .i64 (-1), .int .i64 (-1)] 38)
  have hr := heap_alloc2_new w (.cells #[.int .i64 0, .int .i64 0, .int .i64 0, .int .i64 0] 38) (.cells #[.int .i64 s, .int .i64 (-1), .int .i64 (-1), .int .i64 (-1)] 38)
  have hB := ((Below.refl w.heap.size w).alloc (Nat.le_refl _) (.cells #[.int .i64 0, .int .i64 0, .int .i64 0, .int .i64 0] 38)).alloc (by simp) (.cells #[.int .i64 s, .int .i64 (-1), .int .i64 (-1), .int .i64 (-1)] 38)
  have HU := Lib.hid (uses47 ((w.alloc (.cells #[.int .i64 0, .int .i64 0, .int .i64 0, .int .i64 0] 38)).alloc (.cells #[.int .i64 s, .int .i64 (-1), .int .i64 (-1), .int .i64 (-1)] 38)) s)
  rw [hue, huo, hup] at HU
  have HZ := Lib.hid hz
  have HR := Lib.hid hr
  have HB := Lib.hid hB
  clear hue huo hup hz hr hB
  go_enter Try.func30, Try.ntmps30
  go_wp2_with fail
  generalize World.alloc _ _ = w1 at *
  obtain ⟨g, hg⟩ : ∃ x, w.heap.size = x := ⟨_, rfl⟩
  have HGE := Lib.hid hg
  rw [hg] at HZ HR
  rw [hg]
  clear hg
  refine HU.out.mono ?_
  rintro r w2 ⟨rfl, hB2⟩
  have HZ := Lib.hid ((hB2.block _ (blk_lt HZ.out)).trans HZ.out)
  have HR := Lib.hid ((hB2.block _ (blk_lt HR.out)).trans HR.out)
  have HB := Lib.hid (below_step HB.out hB2)
  clear hB2
  cases ue
  · cases up
    · skip
      have n0 := blk_cell HR.out 0
      have n1 := blk_cell HR.out 1
      have n2 := blk_cell HR.out 2
      have n3 := blk_cell HR.out 3
      simp only [List.getElem?_toArray, List.getElem?_cons_zero, List.getElem?_cons_succ] at n0 n1 n2 n3
      have HSET := Lib.hid (setRow_heap _ _ _ #[.int .i64 s, .int .i64 (-1), .int .i64 (-1), .int .i64 (-1)] _ _ HZ.out)
      have HBS := Lib.hid (below_setRow HB.out (by have := HGE.out; omega) #[.int .i64 s, .int .i64 (-1), .int .i64 (-1), .int .i64 (-1)] (p := g))
      go_wp2_with (refine wpList_store_row rfl _ _ _ rfl g #[.int .i64 s, .int .i64 (-1), .int .i64 (-1), .int .i64 (-1)] rfl rfl 38 _ HZ.out (by kernel_rfl) (by rfl) (by simp [Value.oneCell']) ?_)
      refine bodyPost_ret (results_cell_tmp1 rfl _ _ g 38 _ (0, 0) _ rfl HSET.out Try.underlying38 rfl (by kernel_rfl)) rfl ?_
      exact ⟨by rw [HOF.out]; rfl, HBS.out⟩
    · skip
      have f0 := blk_cell HR.out 3
      have f1 := blk_frozen HR.out 3
      simp only [List.getElem?_toArray, List.getElem?_cons_zero, List.getElem?_cons_succ] at f0
      go_upto_region 9 with fail
      clear f0 f1
      have HR' := Lib.hid (show _ = some (Obj.cells #[.int .i64 s, .int .i64 (-1), .int .i64 (-1), .int .i64 p] 38 (0, 0)) from (blk_set (i := 3) HR.out (.int .i64 p)).trans (by rfl))
      have HG' := Lib.hid ((Gr.refl (fun b => b = g + 1) w2).setCell (p := ⟨g + 1, 3, none⟩) (.inl rfl) (.int .i64 p))
      generalize World.setCell w2 ⟨g + 1, 3, none⟩ (.int .i64 p) = w2' at HR' HG' ⊢
      have HZ := Lib.hid (blk_gr HG'.out HZ.out (by omega))
      have HB := Lib.hid (HB.out.trans (HG'.out.below (n := w.heap.size) (fun b e => by have := HGE.out; omega) HB.out.size))
      clear HG'
      have n0 := blk_cell HR'.out 0
      have n1 := blk_cell HR'.out 1
      have n2 := blk_cell HR'.out 2
      have n3 := blk_cell HR'.out 3
      simp only [List.getElem?_toArray, List.getElem?_cons_zero, List.getElem?_cons_succ] at n0 n1 n2 n3
      have HSET := Lib.hid (setRow_heap _ _ _ #[.int .i64 s, .int .i64 (-1), .int .i64 (-1), .int .i64 p] _ _ HZ.out)
      have HBS := Lib.hid (below_setRow HB.out (by have := HGE.out; omega) #[.int .i64 s, .int .i64 (-1), .int .i64 (-1), .int .i64 p] (p := g))
      go_wp2_with (refine wpList_store_row rfl _ _ _ rfl g #[.int .i64 s, .int .i64 (-1), .int .i64 (-1), .int .i64 p] rfl rfl 38 _ HZ.out (by kernel_rfl) (by rfl) (by simp [Value.oneCell']) ?_)
      refine bodyPost_ret (results_cell_tmp1 rfl _ _ g 38 _ (0, 0) _ rfl HSET.out Try.underlying38 rfl (by kernel_rfl)) rfl ?_
      exact ⟨by rw [HOF.out]; rfl, HBS.out⟩
  · cases up
    · skip
      have f0 := blk_cell HR.out 1
      have f1 := blk_frozen HR.out 1
      simp only [List.getElem?_toArray, List.getElem?_cons_zero, List.getElem?_cons_succ] at f0
      go_upto_region 5 with fail
      clear f0 f1
      have HR' := Lib.hid (show _ = some (Obj.cells #[.int .i64 s, .int .i64 e, .int .i64 (-1), .int .i64 (-1)] 38 (0, 0)) from (blk_set (i := 1) HR.out (.int .i64 e)).trans (by rfl))
      have HG' := Lib.hid ((Gr.refl (fun b => b = g + 1) w2).setCell (p := ⟨g + 1, 1, none⟩) (.inl rfl) (.int .i64 e))
      generalize World.setCell w2 ⟨g + 1, 1, none⟩ (.int .i64 e) = w2' at HR' HG' ⊢
      have HZ := Lib.hid (blk_gr HG'.out HZ.out (by omega))
      have HB := Lib.hid (HB.out.trans (HG'.out.below (n := w.heap.size) (fun b e => by have := HGE.out; omega) HB.out.size))
      clear HG'
      have n0 := blk_cell HR'.out 0
      have n1 := blk_cell HR'.out 1
      have n2 := blk_cell HR'.out 2
      have n3 := blk_cell HR'.out 3
      simp only [List.getElem?_toArray, List.getElem?_cons_zero, List.getElem?_cons_succ] at n0 n1 n2 n3
      have HSET := Lib.hid (setRow_heap _ _ _ #[.int .i64 s, .int .i64 e, .int .i64 (-1), .int .i64 (-1)] _ _ HZ.out)
      have HBS := Lib.hid (below_setRow HB.out (by have := HGE.out; omega) #[.int .i64 s, .int .i64 e, .int .i64 (-1), .int .i64 (-1)] (p := g))
      go_wp2_with (refine wpList_store_row rfl _ _ _ rfl g #[.int .i64 s, .int .i64 e, .int .i64 (-1), .int .i64 (-1)] rfl rfl 38 _ HZ.out (by kernel_rfl) (by rfl) (by simp [Value.oneCell']) ?_)
      refine bodyPost_ret (results_cell_tmp1 rfl _ _ g 38 _ (0, 0) _ rfl HSET.out Try.underlying38 rfl (by kernel_rfl)) rfl ?_
      exact ⟨by rw [HOF.out]; rfl, HBS.out⟩
    · skip
      have f0 := blk_cell HR.out 1
      have f1 := blk_frozen HR.out 1
      simp only [List.getElem?_toArray, List.getElem?_cons_zero, List.getElem?_cons_succ] at f0
      go_upto_region 5 with fail
      clear f0 f1
      have HR' := Lib.hid (show _ = some (Obj.cells #[.int .i64 s, .int .i64 e, .int .i64 (-1), .int .i64 (-1)] 38 (0, 0)) from (blk_set (i := 1) HR.out (.int .i64 e)).trans (by rfl))
      have HG' := Lib.hid ((Gr.refl (fun b => b = g + 1) w2).setCell (p := ⟨g + 1, 1, none⟩) (.inl rfl) (.int .i64 e))
      generalize World.setCell w2 ⟨g + 1, 1, none⟩ (.int .i64 e) = w2' at HR' HG' ⊢
      have HZ := Lib.hid (blk_gr HG'.out HZ.out (by omega))
      have HB := Lib.hid (HB.out.trans (HG'.out.below (n := w.heap.size) (fun b e => by have := HGE.out; omega) HB.out.size))
      clear HG'
      have f0 := blk_cell HR'.out 3
      have f1 := blk_frozen HR'.out 3
      simp only [List.getElem?_toArray, List.getElem?_cons_zero, List.getElem?_cons_succ] at f0
      go_upto_region 9 with fail
      clear f0 f1
      have HR'' := Lib.hid (show _ = some (Obj.cells #[.int .i64 s, .int .i64 e, .int .i64 (-1), .int .i64 p] 38 (0, 0)) from (blk_set (i := 3) HR'.out (.int .i64 p)).trans (by rfl))
      have HG' := Lib.hid ((Gr.refl (fun b => b = g + 1) w2').setCell (p := ⟨g + 1, 3, none⟩) (.inl rfl) (.int .i64 p))
      generalize World.setCell w2' ⟨g + 1, 3, none⟩ (.int .i64 p) = w2'' at HR'' HG' ⊢
      have HZ := Lib.hid (blk_gr HG'.out HZ.out (by omega))
      have HB := Lib.hid (HB.out.trans (HG'.out.below (n := w.heap.size) (fun b e => by have := HGE.out; omega) HB.out.size))
      clear HG'
      have n0 := blk_cell HR''.out 0
      have n1 := blk_cell HR''.out 1
      have n2 := blk_cell HR''.out 2
      have n3 := blk_cell HR''.out 3
      simp only [List.getElem?_toArray, List.getElem?_cons_zero, List.getElem?_cons_succ] at n0 n1 n2 n3
      have HSET := Lib.hid (setRow_heap _ _ _ #[.int .i64 s, .int .i64 e, .int .i64 (-1), .int .i64 p] _ _ HZ.out)
      have HBS := Lib.hid (below_setRow HB.out (by have := HGE.out; omega) #[.int .i64 s, .int .i64 e, .int .i64 (-1), .int .i64 p] (p := g))
      go_wp2_with (refine wpList_store_row rfl _ _ _ rfl g #[.int .i64 s, .int .i64 e, .int .i64 (-1), .int .i64 p] rfl rfl 38 _ HZ.out (by kernel_rfl) (by rfl) (by simp [Value.oneCell']) ?_)
      refine bodyPost_ret (results_cell_tmp1 rfl _ _ g 38 _ (0, 0) _ rfl HSET.out Try.underlying38 rfl (by kernel_rfl)) rfl ?_
      exact ⟨by rw [HOF.out]; rfl, HBS.out⟩
end Go.Proofs.Ytoimbhdjhhmonaa
