/- Layer 47: Order. -/
import Derived.Test.YtoimbhdjhhmonaaP47h
import Derived.Test.YtoimbhdjhhmonaaMapH
set_option linter.unusedSimpArgs false
set_option linter.unusedVariables false
set_option maxRecDepth 50000
namespace Go.Proofs.Ytoimbhdjhhmonaa
open Go.RowKit Go Go.Shelf

noncomputable def intE : ElS Try.prog 3 Int := intEl Try.underlying3 (fun _ => by kernel_rfl)
theorem SlO.gr {base : Nat} {G : Nat → Prop} {w w' : World} {v : Value} {l : List C4} (h : SlO base w v l) (hg : Gr G w w') (hv : ∀ b, v.ownBlock = some b → ¬ G b) : SlO base w' v l :=
  OwnsO.keep h (fun b hb => by
    rcases hb with hb | hb
    · exact hb.elim
    · exact hg.block b (OwnsO.own h b hb).2 (hv b hb)) (fun _ h => h) (fun _ h => h.elim)
theorem SlO.rd {base : Nat} {w : World} {v : Value} {l : List C4} (h : SlO base w v l) : Rd (.sl cellT) (fun b => v.ownBlock = some b) w [v] (l.map C4.d) := by
  obtain ⟨g, off, cap, cur, rfl, h1, h2, h3, h4, h5, h6, h7⟩ := h.open_
  refine ⟨_, _, cap, rfl, List.length_map _, h1, h2, .inr ⟨g, off, rfl, rfl, fun i hi => ?_⟩⟩
  have hi' : i < l.length := by rw [List.length_map] at hi; exact hi
  refine ⟨encC l[i], rfl, fun j u hu => ?_, ?_⟩
  · have hj : j < 4 := (List.getElem?_eq_some_iff.1 hu).1
    rw [cell_of_row w g _ cur _ _ h4, Nat.add_assoc]
    refine h6 _ u ?_
    rw [show i * cellT.sz = i * 4 from rfl, flatE_split l i, List.getElem?_append_right (by rw [flatE_len, List.length_take]; omega), flatE_len, List.length_take, Nat.min_eq_left (by omega), List.drop_eq_getElem_cons hi', flatE_cons, List.getElem?_append_left (by rw [encC_len]; omega)]
    rw [show i * 4 + j - i * 4 = j from by omega]
    exact hu
  · show Rd cellT _ _ _ (List.map C4.d l)[i]
    rw [List.getElem_map]
    exact cell_rd (h7 _ (List.getElem_mem hi'))
/-- The head cut off. -/
theorem SlO.tail {base : Nat} {w : World} {g off cap : Nat} {l : List C4} {c : C4} (h : SlO base w (.slice (some ⟨g, off, none⟩) (l.length + 1) cap) (c :: l)) (a' : Option Addr) (ha : a' = if cap = 1 then some ⟨g, off, none⟩ else some ⟨g, off + 4, none⟩) : SlO base w (.slice a' l.length (cap - 1)) l := by
  obtain ⟨g', off', cap', cur, he, h1, h2, h3, h4, h5, h6, h7⟩ := h.open_
  simp only [Value.slice.injEq, Option.some.injEq, Addr.mk.injEq, and_true] at he
  obtain ⟨⟨rfl, rfl⟩, -, rfl⟩ := he
  rw [List.length_cons] at h1
  by_cases hc : cap = 1
  · rw [if_pos hc] at ha
    subst ha
    have hl : l = [] := List.eq_nil_of_length_eq_zero (by omega)
    subst hl
    exact SlO.made (by simp) (by omega) h3 h4 (by omega) (fun j u hu => by simp [flatE] at hu) (fun _ h => by cases h)
  · rw [if_neg hc] at ha
    subst ha
    refine SlO.made (by omega) (by omega) h3 h4 (by omega) (fun j u hu => ?_) (fun x hx => h7 x (List.mem_cons_of_mem _ hx))
    rw [Nat.add_assoc]
    refine h6 _ u ?_
    rw [flatE_cons, List.getElem?_append_right (by rw [encC_len]; omega), encC_len, show 4 + j - 4 = j from by omega]
    exact hu
/-- Cells in a slice of one's own, or in the nil slice. -/
def SlN (base : Nat) (w : World) (v : Value) (l : List C4) : Prop := (v = .slice none 0 0 ∧ l = []) ∨ SlO base w v l
theorem SlN.of_owns {base : Nat} {w : World} {v : Value} {l : List C4} (h : Owns cellT 38 base (fun _ => False) w v (l.map C4.d)) : SlN base w v l := by
  by_cases hv : v = .slice none 0 0
  · rcases h.len with ⟨-, h0⟩ | ⟨g, cap, e, -⟩
    · exact .inl ⟨hv, by simpa using h0⟩
    · rw [hv] at e; cases e
  · exact .inr (OwnsO.of h hv)
theorem SlN.own {base : Nat} {w : World} {v : Value} {l : List C4} (h : SlN base w v l) : ∀ g, v.ownBlock = some g → base ≤ g ∧ g < w.heap.size := by
  rcases h with ⟨rfl, -⟩ | h
  · intro g hg; cases hg
  · exact OwnsO.own h
theorem SlN.gr {base : Nat} {G : Nat → Prop} {w w' : World} {v : Value} {l : List C4} (h : SlN base w v l) (hg : Gr G w w') (hv : ∀ b, v.ownBlock = some b → ¬ G b) : SlN base w' v l := by
  rcases h with h | h
  · exact .inl h
  · exact .inr (h.gr hg hv)
theorem SlN.form {base : Nat} {w : World} {v : Value} {l : List C4} (h : SlN base w v l) : ∃ a cap, v = .slice a l.length cap := by
  rcases h with ⟨rfl, rfl⟩ | h
  · exact ⟨_, _, rfl⟩
  · obtain ⟨g, off, cap, cur, rfl, -⟩ := h.open_
    exact ⟨_, _, rfl⟩
def slLen : Value → Nat
  | .slice _ l _ => l
  | _ => 0
/-- What Order leaves. -/
def OrderP (w : World) (all : List C4) (rd : C4 → List C4) (e : Ending) (w' : World) : Prop :=
  Below w.heap.size w w' ∧ (((finO all rd).length < all.length ∧ e = .returned (.tuple #[.slice none 0 0, .int .i64 7])) ∨
    (all.length ≤ (finO all rd).length ∧ ∃ v, e = .returned (.tuple #[v, .int .i64 0]) ∧ SlC w.heap.size w' v (finO all rd)))
set_option maxHeartbeats 4000000 in
theorem order47 {F : Nat → Nat} (w : World) {p mr ms n K : Nat} {rd : C4 → Option (List C4)} (h : DepI F w p mr ms n K rd) (hK : n + K ≤ 100000) {all : List C4} (hA : AllG rd all) :
    Calls Try.prog 23 #[.pointer (some ⟨p, 0, none⟩)] w (OrderP w all (rdL rd)) := by
  have hmm := fun w => @run_makeMap Try.prog w
  have HI := Lib.hid h
  have HA := Lib.hid hA
  have HCL := Lib.hid (cells47 w h (by omega))
  clear h hA
  go_enter Try.func23, Try.ntmps23
  go_wp2_with (go_at_call 16; refine HCL.out.mono ?_; rintro e w1 ⟨v, ys, rfl, h2, h3, h4, h5, h6, h7⟩; obtain ⟨oa, oc, rfl⟩ := h6.form; have hya : ys = all := h2.ext HA.out.srt (fun x => ⟨fun hx => (HA.out.mem x (h3 x hx)).2 ((h4 x (h3 x hx)).1 hx), fun hx => (h4 x (HA.out.ok x hx)).2 ((HA.out.mem x (HA.out.ok x hx)).1 hx)⟩); have HY := Lib.hid hya; rw [hya] at h5 h6; have HX := Lib.hid h6; have HB1 := Lib.hid h7; rw [show ys.length = all.length from congrArg List.length hya]; clear h2 h3 h4 h6 h7 hya)
  have HM2 := Lib.hid (show MapG cellK intE (w1.alloc (.map #[] 0)) w1.heap.size 0 (fun x => if x ∈ all.take 0 then some (((rdL rd x).length : Nat) : Int) else none) from (MapG.made w1).congr (fun x _ => by simp))
  have HB2 := Lib.hid (show Below w1.heap.size w1 (w1.alloc (.map #[] 0)) from (Below.refl _ w1).alloc (Nat.le_refl _) _)
  have hsz2 : (w1.alloc (.map #[] 0)).heap.size = w1.heap.size + 1 := by simp
  have HSZ2 := Lib.hid hsz2
  have HAL := Lib.hid (show all.length ≤ 100000 from Nat.le_trans h5 hK)
  have hall := HAL.out
  clear hsz2 HCL h5
  generalize w1.alloc (.map #[] 0) = w2 at *
  have HI1 := Lib.hid (HI.out.below HB1.out)
  have HF0 := Lib.hid (show ∀ b, w1.heap.size ≤ b → F b = 0 from fun b hb => by
    obtain ⟨k, sl, ib, hD, -⟩ := HI1.out
    by_cases e : F b = 0
    · exact e
    · have := hD.dom _ e; omega)
  go_loopw [6, 21] (fun rv iv wr => ∃ (k m : Nat), k ≤ all.length ∧ iv = .int .i64 k ∧ m ≤ k ∧ MapG cellK intE wr w1.heap.size m (fun x => if x ∈ all.take k then some (((rdL rd x).length : Nat) : Int) else none) ∧ Owns cellT 38 (w1.heap.size + 1) (fun _ => False) wr rv (((all.take k).filter (okO (rdL rd) [])).map C4.d) ∧ Below w1.heap.size w1 wr ∧ w1.heap.size + 1 ≤ wr.heap.size) (fun _ iv _ => all.length - (intOf iv).toNat)
  case atStart => exact ⟨0, 0, Nat.zero_le _, rfl, Nat.le_refl _, HM2.out, Owns.nil _ _ _ _, HB2.out, by rw [HSZ2.out]; exact Nat.le_refl _⟩
  case round =>
    obtain ⟨k, m, hk, rfl, hmk, hM, hO, hB, hsw⟩ := hrel
    have HM := Lib.hid hM
    have HO := Lib.hid hO
    have HB := Lib.hid hB
    have HSW := Lib.hid hsw
    obtain ⟨ra, rl, rc, rfl, -⟩ := hO.slice
    clear hM hO hB hsw
    by_cases hlt : k < all.length
    · have hkI : (k : Int) < (all.length : Int) := by omega
      obtain ⟨b, o, hoa, -, m0, m1, m2, m3, hqok⟩ := cell_at (HX.out.rd.below HB.out (fun b hb => hb.2)) k hlt
      subst hoa
      have HTK := Lib.hid (show all.take (k + 1) = all.take k ++ [all[k]] from List.take_succ_eq_append_getElem hlt)
      have HQA := Lib.hid (show all[k] ∈ all from List.getElem_mem hlt)
      have HQN := Lib.hid (show all[k] ∉ all.take k from fun hm => by
        obtain ⟨j, hj, e⟩ := List.getElem_of_mem hm
        rw [List.length_take] at hj
        rw [List.getElem_take] at e
        exact List.pairwise_iff_getElem.1 HA.out.srt.nodup j k (by omega) hlt (by omega) e)
      have HQ := Lib.hid hqok
      clear hqok
      generalize all[k] = q at m0 m1 m2 m3 HTK HQ HQA HQN
      obtain ⟨q1, q2, q3, q4⟩ := q
      simp only at m0 m1 m2 m3
      have hBa := (Below.refl wr.heap.size wr).alloc (Nat.le_refl _) (.cells #[.int .i64 q1, .int .i64 q2, .int .i64 q3, .int .i64 q4] 38)
      have hqb := heap_alloc_new wr (.cells #[.int .i64 q1, .int .i64 q2, .int .i64 q3, .int .i64 q4] 38)
      have HBa := Lib.hid hBa
      have HQB := Lib.hid hqb
      clear hBa hqb
      go_upto_region 9 with fail
      clear m0 m1 m2 m3
      generalize World.alloc _ _ = wa at *
      have HBA1 := Lib.hid (HB.out.trans (HBa.out.mono (by have := HSW.out; omega)))
      have HIA := Lib.hid (HI1.out.below HBA1.out)
      obtain ⟨kk, sl, ib, hD, hne⟩ := HIA.out
      have HD := Lib.hid hD
      obtain ⟨sa, sc, hsl, -, hl200⟩ := hD.rdR ⟨q1, q2, q3, q4⟩
      obtain ⟨L, hL⟩ : ∃ L, ((rd ⟨q1, q2, q3, q4⟩).getD []).length = L := ⟨_, rfl⟩
      rw [hL] at hsl hl200
      have HLL := Lib.hid (show (rdL rd ⟨q1, q2, q3, q4⟩).length = L from hL)
      clear hL
      have HSL := Lib.hid hsl
      have HL2 := Lib.hid hl200
      have k0 := blk_cell HQB.out 0
      have k1 := blk_cell HQB.out 1
      have k2 := blk_cell HQB.out 2
      have k3 := blk_cell HQB.out 3
      simp only [List.getElem?_toArray, List.getElem?_cons_zero, List.getElem?_cons_succ] at k0 k1 k2 k3
      have hC0 : Cells [(⟨p, 0, none⟩, .map (some mr)), (⟨wr.heap.size, 0, none⟩, .int .i64 q1), (⟨wr.heap.size, 1, none⟩, .int .i64 q2), (⟨wr.heap.size, 2, none⟩, .int .i64 q3), (⟨wr.heap.size, 3, none⟩, .int .i64 q4)] wa := ⟨blk_cell hD.row 0, k0, k1, k2, k3, trivial⟩
      clear hD hne hsl hl200 k0 k1 k2 k3
      refine wp_region_T (Cells [(⟨p, 0, none⟩, .map (some mr)), (⟨wr.heap.size, 0, none⟩, .int .i64 q1), (⟨wr.heap.size, 1, none⟩, .int .i64 q2), (⟨wr.heap.size, 2, none⟩, .int .i64 q3), (⟨wr.heap.size, 3, none⟩, .int .i64 q4)]) (fun i => i == 9) (by kernel_rfl) ?_
      have hSss1 := Cells.drew hC0
      have hB_0_s1 : Below wa.heap.size wa wa.drew := below_drew _
      generalize wa.drew = s1 at hSss1 hB_0_s1 ⊢
      have hB_s1_s1 := Below.refl s1.heap.size s1
      refine wpAnyT_pure (i := 0) (v := ?_) rfl (by kernel_rfl) (by kernel_rfl) (by kernel_rfl) (fun _ _ _ h => h) (by rfl) ?_ ?_
      rotate_left
      · intro w; go_simp; try with_reducible rfl
      simp only [Act.put, rgA, rgB, rgC, rgD, rgE, rgF]
      refine wpAnyT_pure (i := 2) (v := ?_) rfl (by kernel_rfl) (by kernel_rfl) (by kernel_rfl) (fun _ _ _ h => h) (by rfl) ?_ ?_
      rotate_left
      · intro w; go_simp; try with_reducible rfl
      simp only [Act.put, rgA, rgB, rgC, rgD, rgE, rgF]
      refine wpAnyT_pure (i := 3) (v := ?_) rfl (by kernel_rfl) (by kernel_rfl) (by kernel_rfl) (fun _ _ _ h => h) (by rfl) ?_ ?_
      rotate_left
      · intro w; go_simp; try with_reducible rfl
      simp only [Act.put, rgA, rgB, rgC, rgD, rgE, rgF]
      refine wpAnyT_pure (i := 4) (v := ?_) rfl (by kernel_rfl) (by kernel_rfl) (by kernel_rfl) (fun _ _ _ h => h) (by rfl) ?_ ?_
      rotate_left
      · intro w; go_simp; try with_reducible rfl
      simp only [Act.put, rgA, rgB, rgC, rgD, rgE, rgF]
      refine wpAnyT_loadW (i := 1) (v := ?_) rfl (by kernel_rfl) (by kernel_rfl) (by kernel_rfl) (by kernel_rfl) (by kernel_rfl) (fun _ _ _ h => h) (Or.inl ⟨by rfl, ?_⟩) hSss1 ?_
      rotate_left
      · intro w hSw; obtain ⟨e0, e1, e2, e3, e4, -⟩ := hSw; go_simp; try with_reducible rfl
      simp only [Act.put, rgA, rgB, rgC, rgD, rgE, rgF]
      refine wpAnyT_loadW (i := 5) (v := ?_) rfl (by kernel_rfl) (by kernel_rfl) (by kernel_rfl) (by kernel_rfl) (by kernel_rfl) (fun _ _ _ h => h) (Or.inl ⟨by rfl, ?_⟩) hSss1 ?_
      rotate_left
      · intro w hSw; obtain ⟨e0, e1, e2, e3, e4, -⟩ := hSw; go_simp; try with_reducible rfl
      simp only [Act.put, rgA, rgB, rgC, rgD, rgE, rgF]
      refine wpAnyT_loadW (i := 6) (v := ?_) rfl (by kernel_rfl) (by kernel_rfl) (by kernel_rfl) (by kernel_rfl) (by kernel_rfl) (fun _ _ _ h => h) (Or.inl ⟨by rfl, ?_⟩) hSss1 ?_
      rotate_left
      · intro w hSw; obtain ⟨e0, e1, e2, e3, e4, -⟩ := hSw; go_simp; try with_reducible rfl
      simp only [Act.put, rgA, rgB, rgC, rgD, rgE, rgF]
      refine wpAnyT_one (i := 7) (by kernel_rfl) rfl (by rfl) ?_
      have hlk := (HD.out.below (hB_0_s1.trans ((hB_s1_s1).mono (hB_0_s1).size))).lookR ⟨q1, q2, q3, q4⟩ HQ.out
      rw [HSL.out] at hlk
      change Sem.run Try.prog (Instr.lookup 59 (.map (some mr)) (.agg #[.int .i64 q1, .int .i64 q2, .int .i64 q3, .int .i64 q4]) false) s1 = _ at hlk
      refine wp_value (v := .slice sa L sc) (w' := s1) (by go_simp) ?_
      clear hlk
      refine ⟨fun _ h => h, ?_⟩
      try simp only [Act.put, rgA, rgB, rgC, rgD, rgE, rgF]
      refine wpAnyT_pure (i := 8) (v := ?_) rfl (by kernel_rfl) (by kernel_rfl) (by kernel_rfl) (fun _ _ _ h => h) (by rfl) ?_ ?_
      rotate_left
      · intro w; go_simp; try with_reducible rfl
      simp only [Act.put, rgA, rgB, rgC, rgD, rgE, rgF]
      refine wpAnyT_one (i := 9) (by kernel_rfl) rfl (by rfl) ?_
      have hbP : Below wa.heap.size wa s1 := hB_0_s1.trans ((hB_s1_s1).mono (hB_0_s1).size)
      obtain ⟨w102, hrun, hMn, hT⟩ := ((HM.out.below HBa.out).below hbP).store Try.underlying68 (by have := HAL.out; simp [maxLen]; omega) ⟨q1, q2, q3, q4⟩ HQ.out (L : Int) (by have := HL2.out; exact wf_i64 (by omega) (by omega))
      change Sem.run Try.prog (Instr.mapUpdate 68 (.map (some w1.heap.size)) (.agg #[.int .i64 q1, .int .i64 q2, .int .i64 q3, .int .i64 q4]) (.int .i64 (L : Int))) s1 = _ at hrun
      refine wp_mapset1 68 (.tmp 25) (.tmp 26) (.tmp 33) rfl (by kernel_rfl) (by kernel_rfl) (by kernel_rfl) hrun ?_
      have hG9 : Gr (fun x => x = w1.heap.size) wa w102 := (Gr.of_below hbP : Gr (fun x => x = w1.heap.size) wa s1).trans (Gr.of_turned hT) (fun _ h => .inl h)
      have HM9 := Lib.hid (hMn.congr (g := fun x => if x ∈ all.take (k + 1) then some (((rdL rd x).length : Nat) : Int) else none) (fun x _ => by
        rw [HTK.out]
        by_cases e : x = ⟨q1, q2, q3, q4⟩
        · subst e; simp [HLL.out]
        · simp [e]))
      have HG9 := Lib.hid hG9
      clear hrun hMn hT hG9 hbP
      refine ⟨fun h => absurd h (by decide), ?_⟩
      try simp only [Act.put, rgA, rgB, rgC, rgD, rgE, rgF]
      refine wpAnyT_done (by kernel_rfl) ?_ _
      obtain ⟨w9, rfl⟩ : ∃ x, x = w102 := ⟨_, rfl⟩
      clear hC0
      have hne9 : wr.heap.size ≠ w1.heap.size := by have := HSW.out; omega
      have hq9 := blk_gr HG9.out HQB.out hne9
      have HQ9 := Lib.hid hq9
      have HB9 := Lib.hid (HBA1.out.trans (HG9.out.below (n := w1.heap.size) (fun b e => by omega) HBA1.out.size))
      have HO9 := Lib.hid (((HO.out.below HBa.out).gr HG9.out (fun _ h => h.elim) (fun b hb => by have := (HO.out.own b hb).1; omega)))
      have HS9 := Lib.hid (show w1.heap.size + 1 ≤ w9.heap.size from by have := HSW.out; have := HBa.out.size; have := HG9.out.size; omega)
      have HMK := Lib.hid (show (if (if (⟨q1, q2, q3, q4⟩ : C4) ∈ all.take k then some (((rdL rd ⟨q1, q2, q3, q4⟩).length : Nat) : Int) else none).isSome = true then m else m + 1) ≤ k + 1 from by
        have hif : ∀ (c : Prop) [Decidable c], (if c then m else m + 1) ≤ k + 1 := fun c _ => by split <;> omega
        exact hif _)
      have hlk : Sem.run Try.prog (Instr.lookup 68 (.map (some w1.heap.size)) (.agg #[.int .i64 q1, .int .i64 q2, .int .i64 q3, .int .i64 q4]) false) w9 = .ok (.int .i64 (L : Int)) w9 := by
        have := HM9.out.look1 Try.underlying68 ⟨q1, q2, q3, q4⟩ HQ.out
        refine Eq.trans this ?_
        have hin : (⟨q1, q2, q3, q4⟩ : C4) ∈ all.take (k + 1) := by rw [HTK.out]; simp
        simp only [hin, if_true, HLL.out]
        rfl
      have HFI := Lib.hid (show (all.take (k + 1)).filter (okO (rdL rd) []) = (all.take k).filter (okO (rdL rd) []) ++ (if decide (L = 0) then [⟨q1, q2, q3, q4⟩] else []) from by
        rw [HTK.out, List.filter_append]
        congr 1
        rw [List.filter_cons, okO_nil, HLL.out]
        rfl)
      have k0 := blk_cell hq9 0
      have k1 := blk_cell hq9 1
      have k2 := blk_cell hq9 2
      have k3 := blk_cell hq9 3
      simp only [List.getElem?_toArray, List.getElem?_cons_zero, List.getElem?_cons_succ] at k0 k1 k2 k3
      clear hq9 hne9
      have HPN := Lib.hid (show ((all.take k).filter (okO (rdL rd) [])).length ≤ 100000 from Nat.le_trans (List.length_filter_le _ _) (by rw [List.length_take]; have := HAL.out; omega))
      have HKL := Lib.hid hlt
      by_cases hL0 : L = 0
      · subst hL0
        have HFJ := Lib.hid (show (all.take (k + 1)).filter (okO (rdL rd) []) = (all.take k).filter (okO (rdL rd) []) ++ [⟨q1, q2, q3, q4⟩] from HFI.out)
        go_wp2_with (at_builtin; have hq := HO9; clear hq; go_must (refine wpList_app _ rfl _ _ 23 rfl (e := cellT) (te := 38) info_cell Try.underlying23 rfl (by decide) (base := w1.heap.size + 1) (S := fun _ => False) (v := .slice ra rl rc) (xs := ((all.take k).filter (okO (rdL rd) [])).map C4.d) rfl (HO9.out.alloc _) (by have := HS9.out; simp only [World.size_alloc]; omega) rfl (ys := [C4.d ⟨q1, q2, q3, q4⟩]) (Src.new _ [_, _, _, _] _ _ _) (RdL.one (e := cellT) (cell_rd HQ.out)) (by have := HPN.out; rw [List.length_map]; simp only [List.length_singleton] at *; omega) (by have := HPN.out; rw [List.length_map]; simp only [List.length_singleton] at *; omega) ?_; intro v' w10 O9 g9 _ ob9; have HG10 := Lib.hid (((Gr.refl (fun b => Value.ownBlock (.slice ra rl rc) = some b) w9).alloc (.cells #[.int .i64 q1, .int .i64 q2, .int .i64 q3, .int .i64 q4] 38)).grown g9 (fun c hc => .inl hc)); rw [map_snoc_d, ← HFJ.out] at O9; have HO10 := Lib.hid O9; clear O9 g9 ob9; skip))
        have HB10 := Lib.hid (HB9.out.trans (HG10.out.below (n := w1.heap.size) (fun b e => by have := (HO9.out.own b e).1; omega) (by have := HS9.out; omega)))
        go_roundw
        case rel => exact ⟨k + 1, _, HKL.out, by go_num, HMK.out, HM9.out.gr HG10.out (fun e => by have := (HO9.out.own _ e).1; omega), HO10.out, HB10.out, by have := HS9.out; have := HG10.out.size; omega⟩
        case measure => simp [intOf]; omega
      · have hL0I : ¬ (L : Int) = 0 := by omega
        have HFJ := Lib.hid (show (all.take (k + 1)).filter (okO (rdL rd) []) = (all.take k).filter (okO (rdL rd) []) from by rw [HFI.out]; simp [hL0])
        go_wp2_with fail
        go_roundw
        case rel => exact ⟨k + 1, _, HKL.out, by go_num, HMK.out, HM9.out, by rw [HFJ.out]; exact HO9.out, HB9.out, HS9.out⟩
        case measure => simp [intOf]; omega
    · obtain rfl : k = all.length := by omega
      have HM0 := Lib.hid (HM.out.congr (g := fun x => if x ∈ all then some ((opnO (rdL rd) [] x : Nat) : Int) else none) (fun x _ => by rw [List.take_length, opnO_nil]))
      have HR0 := Lib.hid (SlN.of_owns (l := rdyO all (rdL rd) []) (by rw [rdyO_nil]; have := HO.out; rw [List.take_length] at this; exact this))
      clear HM HO hlt
      go_wp2_with fail
      go_loopw [6, 7] (fun rv ov wz => ∃ (out : List C4) (m : Nat), OrdI all (rdL rd) out ∧ m ≤ all.length ∧ MapG cellK intE wz w1.heap.size m (fun x => if x ∈ all then some ((opnO (rdL rd) out x : Nat) : Int) else none) ∧ SlN (w1.heap.size + 1) wz rv (rdyO all (rdL rd) out) ∧ Owns cellT 38 (w1.heap.size + 1) (fun _ => False) wz ov (out.map C4.d) ∧ (∀ b, rv.ownBlock = some b → ov.ownBlock ≠ some b) ∧ Below w1.heap.size w1 wz ∧ w1.heap.size + 1 ≤ wz.heap.size) (fun _ ov _ => all.length - slLen ov)
      case atStart => exact ⟨[], m, OrdI.nil _ _, hmk, HM0.out, HR0.out, Owns.nil _ _ _ _, (fun b _ h => by cases h), HB.out, HSW.out⟩
      case round =>
        obtain ⟨out, m2, hI, hm2, hM, hR, hO, hne, hB, hsw⟩ := hrel
        have HOI := Lib.hid hI
        have HMz := Lib.hid hM
        have HR := Lib.hid hR
        have HO := Lib.hid hO
        have HNE := Lib.hid hne
        have HBz := Lib.hid hB
        have HSZ := Lib.hid hsw
        obtain ⟨ua, ul, uc, rfl, hul, -⟩ := hO.slice
        obtain ⟨va, vc, rfl⟩ := hR.form
        have HUL := Lib.hid (show out.length = ul from by rw [List.length_map] at hul; exact hul.symm)
        have HOL := Lib.hid hI.len
        clear hI hM hR hO hne hB hsw hul HR0 HM0
        cases hrd : rdyO all (rdL rd) out with
        | nil =>
          have HF := Lib.hid (HOI.out.stop hrd)
          clear hrd
          by_cases hfl : ul < all.length
          · have hflI : (ul : Int) < (all.length : Int) := by omega
            go_wp2_with fail
            refine bodyPost_ret (results_tmp2 rfl _ _ _) rfl ?_
            exact ⟨below_step HB1.out HBz.out, .inl ⟨by rw [HF.out, HUL.out]; exact hfl, rfl⟩⟩
          · have hflI : ¬ (ul : Int) < (all.length : Int) := by omega
            go_wp2_with fail
            refine bodyPost_ret (results_tmp2 rfl _ _ _) rfl ?_
            exact ⟨below_step HB1.out HBz.out, .inr ⟨by rw [HF.out, HUL.out]; omega, _, rfl, by rw [HF.out]; exact (SlC.of_owns HO.out).mono (by have := HB1.out.size; omega)⟩⟩
        | cons c t =>
          obtain ⟨hIs, hol, hca, hcok⟩ := HOI.out.step hrd
          have HIS := Lib.hid hIs
          have HCA := Lib.hid hca
          have HCOK := Lib.hid hcok
          have HRD := Lib.hid hrd
          rw [HUL.out] at hol
          have hR := HR.out
          rw [hrd] at hR
          rw [List.length_cons] at hR ⊢
          have hRO := hR.resolve_left (fun h => by cases h.2)
          have HRO := Lib.hid hRO
          obtain ⟨g, off, cap, cur, he, -⟩ := hRO.open_
          have he1 : va = some ⟨g, off, none⟩ := by injection he
          subst he1
          obtain ⟨b0, o0, hoa, -, m0, m1, m2, m3, hqok⟩ := cell_at hRO.rd 0 (by simp)
          obtain ⟨rfl, rfl⟩ : g = b0 ∧ off = o0 := by injection hoa with h; injection h with h1 h2; exact ⟨h1, h2⟩
          simp only [Nat.zero_mul, Nat.add_zero, List.getElem_cons_zero] at m0 m1 m2 m3 hqok
          have HC := Lib.hid hqok
          have HNG := Lib.hid (show (Value.slice ua ul uc).ownBlock ≠ some g from HNE.out g rfl)
          have HGB := Lib.hid (show w1.heap.size + 1 ≤ g ∧ g < wr.heap.size from OwnsO.own hRO g rfl)
          have HRDL := Lib.hid (show t.length + 1 ≤ all.length from by
            have : (rdyO all (rdL rd) out).length ≤ all.length := List.length_filter_le _ _
            rw [hrd] at this
            exact this)
          clear hR hRO HR HNE he hoa hqok hIs hca hcok hrd
          obtain ⟨c1, c2, c3, c4⟩ := c
          simp only at m0 m1 m2 m3
          have hBa := (Below.refl wr.heap.size wr).alloc (Nat.le_refl _) (.cells #[.int .i64 c1, .int .i64 c2, .int .i64 c3, .int .i64 c4] 38)
          have hqb := heap_alloc_new wr (.cells #[.int .i64 c1, .int .i64 c2, .int .i64 c3, .int .i64 c4] 38)
          have HBa := Lib.hid hBa
          have HCB := Lib.hid hqb
          clear hBa hqb
          go_upto_region 15 with fail
          clear m0 m1 m2 m3
          generalize World.alloc _ _ = wa at *
          go_cut [6] (fun s6 wx => ∃ a' : Option Addr, s6 = .slice a' t.length (vc - 1) ∧ a' = (if vc = 1 then some ⟨g, off, none⟩ else some ⟨g, off + 4, none⟩) ∧ wx = wa)
          case first =>
            by_cases hv1 : vc = 1
            · go_wp2_with fail
              go_meet
              exact ⟨_, by rw [hv1], by rw [if_pos hv1], rfl⟩
            · go_wp2_with fail
              go_meet
              exact ⟨_, rfl, by rw [if_neg hv1], rfl⟩
          obtain ⟨a', rfl, ha', hwx⟩ := hcut
          subst hwx
          have HRT := Lib.hid ((SlO.tail (HRO.out.gr (Gr.of_below (F := fun _ => False) HBa.out) (fun _ _ h => h)) a' ha'))
          have HGA := Lib.hid (show (Value.slice a' t.length (vc - 1)).ownBlock = some g from by rw [ha']; split <;> rfl)
          have HOa := Lib.hid (HO.out.below HBa.out)
          have HUB := Lib.hid (HO.out.own)
          have HSC := Lib.hid (show w1.heap.size + 1 ≤ wc.heap.size from by have := HSZ.out; have := HBa.out.size; omega)
          have HULL := Lib.hid (show out.length ≤ 100000 from Nat.le_trans HOL.out HAL.out)
          clear ha' HRO HO
          have k0 := blk_cell HCB.out 0
          have k1 := blk_cell HCB.out 1
          have k2 := blk_cell HCB.out 2
          have k3 := blk_cell HCB.out 3
          simp only [List.getElem?_toArray, List.getElem?_cons_zero, List.getElem?_cons_succ] at k0 k1 k2 k3
          go_upto_region 17 with (at_builtin; have hq := HOa; clear hq; go_must (refine wpList_app _ rfl _ _ 23 rfl (e := cellT) (te := 38) info_cell Try.underlying23 rfl (by decide) (base := w1.heap.size + 1) (S := fun _ => False) (v := .slice ua ul uc) (xs := out.map C4.d) rfl (HOa.out.alloc _) (by have := HSC.out; simp only [World.size_alloc]; omega) rfl (ys := [C4.d ⟨c1, c2, c3, c4⟩]) (Src.new _ [_, _, _, _] _ _ _) (RdL.one (e := cellT) (cell_rd HC.out)) (by have := HULL.out; rw [List.length_map]; simp only [List.length_singleton] at *; omega) (by have := HULL.out; rw [List.length_map]; simp only [List.length_singleton] at *; omega) ?_; intro v' w10 O9 g9 _ ob9; have HOB := Lib.hid ob9; have HG10 := Lib.hid (((Gr.refl (fun b => Value.ownBlock (.slice ua ul uc) = some b) wc).alloc (.cells #[.int .i64 c1, .int .i64 c2, .int .i64 c3, .int .i64 c4] 38)).grown g9 (fun c hc => .inl hc)); rw [map_snoc_d] at O9; obtain ⟨xa, xl, xc, rfl, hxl, -⟩ := O9.slice; have HXL := Lib.hid hxl; have HO10 := Lib.hid O9; clear O9 g9 ob9 hxl HOa; skip))
          have HNX := Lib.hid (show (Value.slice xa xl xc).ownBlock ≠ some g from fun e => by
            rcases HOB.out with h | h
            · exact HNG.out (h.symm.trans e)
            · rw [e] at h
              have h1 := Option.some.inj h
              rw [World.size_alloc] at h1
              have := HGB.out.2
              have := HBa.out.size
              omega)
          have HOW := Lib.hid (show ∀ b, (Value.slice ua ul uc).ownBlock = some b → w1.heap.size + 1 ≤ b ∧ b < wr.heap.size from HUB.out)
          have HR10 := Lib.hid (HRT.out.gr HG10.out (fun b hb hb2 => by rw [HGA.out] at hb; have := Option.some.inj hb; exact HNG.out (by rw [hb2, this])))
          have HM10 := Lib.hid ((HMz.out.below HBa.out).gr HG10.out (fun hb => by have := (HOW.out _ hb).1; omega))
          have HC10 := Lib.hid (blk_gr HG10.out HCB.out (fun hb => by have := (HOW.out _ hb).2; omega))
          have HB10 := Lib.hid (HBz.out.trans ((HG10.out.below (n := w1.heap.size) (fun b hb => by have := (HOW.out b hb).1; omega) (by have := HSC.out; omega)).trans (Below.refl _ _) |> fun h => (HBa.out.mono (by have := HSZ.out; omega)).trans h))
          have HS10 := Lib.hid (show wc.heap.size ≤ w10.heap.size ∧ w1.heap.size + 1 ≤ w10.heap.size ∧ g < w10.heap.size from by
            have := HG10.out.size
            have := HSC.out
            have := HGB.out.2
            have := HBa.out.size
            omega)
          clear k0 k1 k2 k3 HOB HRT HCB
          obtain ⟨kk, sl, ib, hD, -⟩ := (HI1.out.below HB10.out)
          have HD := Lib.hid hD
          have k0 := blk_cell HC10.out 0
          have k1 := blk_cell HC10.out 1
          have k2 := blk_cell HC10.out 2
          have k3 := blk_cell HC10.out 3
          simp only [List.getElem?_toArray, List.getElem?_cons_zero, List.getElem?_cons_succ] at k0 k1 k2 k3
          have hC0 : Cells [(⟨p, 1, none⟩, .map (some ms)), (⟨wr.heap.size, 0, none⟩, .int .i64 c1), (⟨wr.heap.size, 1, none⟩, .int .i64 c2), (⟨wr.heap.size, 2, none⟩, .int .i64 c3), (⟨wr.heap.size, 3, none⟩, .int .i64 c4)] w10 := ⟨blk_cell hD.row 1, k0, k1, k2, k3, trivial⟩
          obtain ⟨iq, hiq⟩ : ∃ iq, ib ⟨c1, c2, c3, c4⟩ = iq := ⟨_, rfl⟩
          have HIB := Lib.hid hiq
          clear hD k0 k1 k2 k3 hiq
          cases iq with
          | none =>
            have HNO := Lib.hid (show ∀ x, rsOf rd ⟨c1, c2, c3, c4⟩ x = false from fun x => by
              cases hx : rsOf rd ⟨c1, c2, c3, c4⟩ x with
              | false => rfl
              | true =>
                have h1 := (HD.out.okr _ _ hx).1
                rw [HIB.out] at h1
                cases h1)
            refine wp_region_T (Cells [(⟨p, 1, none⟩, .map (some ms)), (⟨wr.heap.size, 0, none⟩, .int .i64 c1), (⟨wr.heap.size, 1, none⟩, .int .i64 c2), (⟨wr.heap.size, 2, none⟩, .int .i64 c3), (⟨wr.heap.size, 3, none⟩, .int .i64 c4)]) (fun i => i == 6) (by kernel_rfl) ?_
            have hSss3 := Cells.drew hC0
            have hB_0_s3 : Below w10.heap.size w10 w10.drew := below_drew _
            generalize w10.drew = s3 at hSss3 hB_0_s3 ⊢
            have hB_s3_s3 := Below.refl s3.heap.size s3
            refine wpAnyT_pure (i := 0) (v := ?_) rfl (by kernel_rfl) (by kernel_rfl) (by kernel_rfl) (fun _ _ _ h => h) (by rfl) ?_ ?_
            rotate_left
            · intro w; go_simp; try with_reducible rfl
            simp only [Act.put, rgA, rgB, rgC, rgD, rgE, rgF]
            refine wpAnyT_pure (i := 1) (v := ?_) rfl (by kernel_rfl) (by kernel_rfl) (by kernel_rfl) (fun _ _ _ h => h) (by rfl) ?_ ?_
            rotate_left
            · intro w; go_simp; try with_reducible rfl
            simp only [Act.put, rgA, rgB, rgC, rgD, rgE, rgF]
            refine wpAnyT_pure (i := 2) (v := ?_) rfl (by kernel_rfl) (by kernel_rfl) (by kernel_rfl) (fun _ _ _ h => h) (by rfl) ?_ ?_
            rotate_left
            · intro w; go_simp; try with_reducible rfl
            simp only [Act.put, rgA, rgB, rgC, rgD, rgE, rgF]
            refine wpAnyT_loadW (i := 3) (v := ?_) rfl (by kernel_rfl) (by kernel_rfl) (by kernel_rfl) (by kernel_rfl) (by kernel_rfl) (fun _ _ _ h => h) (Or.inl ⟨by rfl, ?_⟩) hSss3 ?_
            rotate_left
            · intro w hSw; obtain ⟨e0, e1, e2, e3, e4, -⟩ := hSw; go_simp; try with_reducible rfl
            simp only [Act.put, rgA, rgB, rgC, rgD, rgE, rgF]
            refine wpAnyT_loadW (i := 4) (v := ?_) rfl (by kernel_rfl) (by kernel_rfl) (by kernel_rfl) (by kernel_rfl) (by kernel_rfl) (fun _ _ _ h => h) (Or.inl ⟨by rfl, ?_⟩) hSss3 ?_
            rotate_left
            · intro w hSw; obtain ⟨e0, e1, e2, e3, e4, -⟩ := hSw; go_simp; try with_reducible rfl
            simp only [Act.put, rgA, rgB, rgC, rgD, rgE, rgF]
            refine wpAnyT_one (i := 5) (by kernel_rfl) rfl (by rfl) ?_
            have hlk := (HD.out.below (hB_0_s3.trans ((hB_s3_s3).mono (hB_0_s3).size))).lookS ⟨c1, c2, c3, c4⟩ HC.out
            rw [HIB.out] at hlk
            change Sem.run Try.prog (Instr.lookup 60 (.map (some ms)) (.agg #[.int .i64 c1, .int .i64 c2, .int .i64 c3, .int .i64 c4]) false) s3 = _ at hlk
            refine wp_value (v := .map none) (w' := s3) (by go_simp) ?_
            clear hlk
            refine ⟨fun _ h => h, ?_⟩
            try simp only [Act.put, rgA, rgB, rgC, rgD, rgE, rgF]
            refine wpAnyT_one (i := 6) (by kernel_rfl) rfl (by rfl) ?_
            have hbP : Below w10.heap.size w10 s3 := hB_0_s3.trans ((hB_s3_s3).mono (hB_0_s3).size)
            obtain ⟨r0, hr0⟩ : ∃ r0, s3.heap.size = r0 := ⟨_, rfl⟩
            refine wp_rangeN (.tmp 60) rfl Try.underlying57 (by kernel_rfl) hr0 ?_
            intro w104 hN1 hnx
            have hbN : Below w10.heap.size w10 w104 := hbP.trans (hN1.mono hbP.size)
            clear hN1 hbP hr0
            refine ⟨fun h => absurd h (by decide), ?_⟩
            try simp only [Act.put, rgA, rgB, rgC, rgD, rgE, rgF]
            refine wpAnyT_done (by kernel_rfl) ?_ _
            obtain ⟨w11, rfl⟩ : ∃ x, x = w104 := ⟨_, rfl⟩
            have HBN := Lib.hid hbN
            clear hbN hC0
            go_wp2_with fail
            go_loopw [6] (fun s6 wq => s6 = .slice a' t.length (vc - 1) ∧ wq = w11) (fun _ _ => 0)
            case atStart => exact ⟨rfl, rfl⟩
            case round =>
              obtain ⟨rfl, rfl⟩ := hrel
              go_wp2_with fail
              refine ⟨⟨out ++ [⟨c1, c2, c3, c4⟩], m2, HIS.out, hm2, (HM10.out.below HBN.out).congr (fun x _ => ?_), .inr ?_, HO10.out.gr (Gr.of_below (F := fun _ => False) HBN.out) (fun _ h => h.elim) (fun _ _ h => h), fun b hb => ?_, HB10.out.trans (HBN.out.mono (by have := HS10.out; omega)), by have := HS10.out; have := HBN.out.size; omega⟩, ?_⟩
              · have hn : (⟨c1, c2, c3, c4⟩ : C4) ∉ rdL rd x := fun hc => by have := (rsOf_rdL rd _ _).2 hc; rw [HNO.out x] at this; cases this
                rw [opnO_other hn]
              · have e : rdyO all (rdL rd) (out ++ [⟨c1, c2, c3, c4⟩]) = t := by
                  rw [← parJ_all (done := fun _ => false) HA.out.srt (fun x _ hc => by have := (rsOf_rdL rd _ _).2 hc; rw [HNO.out x] at this; cases this), parJ_nil (fun _ _ => rfl) HA.out.srt HRD.out]
                rw [e]
                exact HR10.out.gr (Gr.of_below (F := fun _ => False) HBN.out) (fun _ _ h => h)
              · rw [HGA.out] at hb
                rw [← hb]
                exact HNX.out
              · have := HXL.out
                rw [List.length_map, List.length_append, List.length_singleton] at this
                have := HUL.out
                simp only [slLen]
                omega
          | some bq =>
            obtain ⟨hF4, cn, hcn, hbm⟩ := HD.out.inn _ _ HIB.out
            have HBM := Lib.hid hbm
            have HBQ := Lib.hid (show bq < w1.heap.size from by
              by_cases e : bq < w1.heap.size
              · exact e
              · have := HF0.out bq (by omega); rw [this] at hF4; cases hF4)
            clear hbm hcn hF4
            refine wp_region_T (Cells [(⟨p, 1, none⟩, .map (some ms)), (⟨wr.heap.size, 0, none⟩, .int .i64 c1), (⟨wr.heap.size, 1, none⟩, .int .i64 c2), (⟨wr.heap.size, 2, none⟩, .int .i64 c3), (⟨wr.heap.size, 3, none⟩, .int .i64 c4)]) (fun i => i == 6) (by kernel_rfl) ?_
            have hSss5 := Cells.drew hC0
            have hB_0_s5 : Below w10.heap.size w10 w10.drew := below_drew _
            generalize w10.drew = s5 at hSss5 hB_0_s5 ⊢
            have hB_s5_s5 := Below.refl s5.heap.size s5
            refine wpAnyT_pure (i := 0) (v := ?_) rfl (by kernel_rfl) (by kernel_rfl) (by kernel_rfl) (fun _ _ _ h => h) (by rfl) ?_ ?_
            rotate_left
            · intro w; go_simp; try with_reducible rfl
            simp only [Act.put, rgA, rgB, rgC, rgD, rgE, rgF]
            refine wpAnyT_pure (i := 1) (v := ?_) rfl (by kernel_rfl) (by kernel_rfl) (by kernel_rfl) (fun _ _ _ h => h) (by rfl) ?_ ?_
            rotate_left
            · intro w; go_simp; try with_reducible rfl
            simp only [Act.put, rgA, rgB, rgC, rgD, rgE, rgF]
            refine wpAnyT_pure (i := 2) (v := ?_) rfl (by kernel_rfl) (by kernel_rfl) (by kernel_rfl) (fun _ _ _ h => h) (by rfl) ?_ ?_
            rotate_left
            · intro w; go_simp; try with_reducible rfl
            simp only [Act.put, rgA, rgB, rgC, rgD, rgE, rgF]
            refine wpAnyT_loadW (i := 3) (v := ?_) rfl (by kernel_rfl) (by kernel_rfl) (by kernel_rfl) (by kernel_rfl) (by kernel_rfl) (fun _ _ _ h => h) (Or.inl ⟨by rfl, ?_⟩) hSss5 ?_
            rotate_left
            · intro w hSw; obtain ⟨e0, e1, e2, e3, e4, -⟩ := hSw; go_simp; try with_reducible rfl
            simp only [Act.put, rgA, rgB, rgC, rgD, rgE, rgF]
            refine wpAnyT_loadW (i := 4) (v := ?_) rfl (by kernel_rfl) (by kernel_rfl) (by kernel_rfl) (by kernel_rfl) (by kernel_rfl) (fun _ _ _ h => h) (Or.inl ⟨by rfl, ?_⟩) hSss5 ?_
            rotate_left
            · intro w hSw; obtain ⟨e0, e1, e2, e3, e4, -⟩ := hSw; go_simp; try with_reducible rfl
            simp only [Act.put, rgA, rgB, rgC, rgD, rgE, rgF]
            refine wpAnyT_one (i := 5) (by kernel_rfl) rfl (by rfl) ?_
            have hlk := (HD.out.below (hB_0_s5.trans ((hB_s5_s5).mono (hB_0_s5).size))).lookS ⟨c1, c2, c3, c4⟩ HC.out
            rw [HIB.out] at hlk
            change Sem.run Try.prog (Instr.lookup 60 (.map (some ms)) (.agg #[.int .i64 c1, .int .i64 c2, .int .i64 c3, .int .i64 c4]) false) s5 = _ at hlk
            refine wp_value (v := .map (some bq)) (w' := s5) (by go_simp) ?_
            clear hlk
            refine ⟨fun _ h => h, ?_⟩
            try simp only [Act.put, rgA, rgB, rgC, rgD, rgE, rgF]
            refine wpAnyT_one (i := 6) (by kernel_rfl) rfl (by rfl) ?_
            have hbP : Below w10.heap.size w10 s5 := hB_0_s5.trans ((hB_s5_s5).mono (hB_0_s5).size)
            obtain ⟨r0, hr0⟩ : ∃ r0, s5.heap.size = r0 := ⟨_, rfl⟩
            have hwr0 : w10.heap.size ≤ r0 := hr0 ▸ hbP.size
            refine wp_rangeG2 (Ks := cellK) (Es := boolE) (.tmp 60) rfl Try.underlying57 (by kernel_rfl) (HBM.out.below hbP) hr0 ?_
            intro w106 hrg0 hg0 hs0
            have hbN : Below w10.heap.size w10 w106 := hbP.grown hg0 hbP.size (fun c hc => by cases hc)
            have hr0N : r0 < w106.heap.size := by rw [hs0]; omega
            clear hg0 hbP hr0 hs0
            refine ⟨fun h => absurd h (by decide), ?_⟩
            try simp only [Act.put, rgA, rgB, rgC, rgD, rgE, rgF]
            refine wpAnyT_done (by kernel_rfl) ?_ _
            obtain ⟨w11, rfl⟩ : ∃ x, x = w106 := ⟨_, rfl⟩
            have HRG := Lib.hid hrg0
            have HBN := Lib.hid hbN
            have HW0 := Lib.hid hwr0
            have HR0N := Lib.hid hr0N
            clear hrg0 hbN hC0 hwr0 hr0N
            have HXR := Lib.hid (show (Value.slice xa xl xc).ownBlock ≠ some r0 from fun e => by have := (HO10.out.own _ e).2; have := HW0.out; omega)
            have HRR := Lib.hid (show r0 ≠ w1.heap.size ∧ w1.heap.size + 1 ≤ r0 from by have := HW0.out; have := HS10.out; omega)
            have HXO := Lib.hid (HO10.out.own)
            have HN0 := Lib.hid (show ∀ x, (rsOf rd ⟨c1, c2, c3, c4⟩ x && !(setF (rsOf rd ⟨c1, c2, c3, c4⟩) x).isSome) = false from fun x => by rw [setF_isSome]; cases rsOf rd ⟨c1, c2, c3, c4⟩ x <;> rfl)
            go_wp2_with fail
            go_loopw [6] (fun s6 wq => ∃ (left : C4 → Bool) (cnt m3 : Nat), RgG cellK boolE wq bq r0 cn (setF (rsOf rd ⟨c1, c2, c3, c4⟩)) left cnt ∧ m3 ≤ all.length ∧ MapG cellK intE wq w1.heap.size m3 (opnJ all (rdL rd) out ⟨c1, c2, c3, c4⟩ (fun x => rsOf rd ⟨c1, c2, c3, c4⟩ x && !left x)) ∧ SlO (w1.heap.size + 1) wq s6 (parJ all (rdL rd) out ⟨c1, c2, c3, c4⟩ (fun x => rsOf rd ⟨c1, c2, c3, c4⟩ x && !left x)) ∧ s6.ownBlock ≠ some r0 ∧ (∀ b, s6.ownBlock = some b → (Value.slice xa xl xc).ownBlock ≠ some b) ∧ Owns cellT 38 (w1.heap.size + 1) (fun _ => False) wq (.slice xa xl xc) ((out ++ [(⟨c1, c2, c3, c4⟩ : C4)]).map C4.d) ∧ Below w1.heap.size w1 wq ∧ r0 < wq.heap.size) (fun _ wq => wq.rangeLeft bq r0)
            case atStart =>
              refine ⟨_, _, m2, HRG.out, hm2, (HM10.out.below HBN.out).congr (fun x _ => by rw [opnJ_nil (fun x _ => HN0.out x)]), ?_, fun e => ?_, fun b hb => ?_, HO10.out.gr (Gr.of_below (F := fun _ => False) HBN.out) (fun _ h => h.elim) (fun _ _ h => h), HB10.out.trans (HBN.out.mono (by have := HS10.out; omega)), HR0N.out⟩
              · rw [parJ_nil (fun x _ => HN0.out x) HA.out.srt HRD.out]
                exact HR10.out.gr (Gr.of_below (F := fun _ => False) HBN.out) (fun _ _ h => h)
              · rw [HGA.out] at e
                have := Option.some.inj e
                have := HW0.out
                have := HS10.out
                omega
              · rw [HGA.out] at hb
                rw [← hb]
                exact HNX.out
            case round =>
              obtain ⟨left, cnt, m3, hrg, hm3, hMj, hSj, hnr, hnx, hOj, hBj, hrz⟩ := hrel
              have HRGr := Lib.hid hrg
              have HMj := Lib.hid hMj
              have HSj := Lib.hid hSj
              have HNR := Lib.hid hnr
              have HNXj := Lib.hid hnx
              have HOj := Lib.hid hOj
              have HBj := Lib.hid hBj
              have HRZ := Lib.hid hrz
              obtain ⟨ya, yo, yc, ycur, hye, -⟩ := hSj.open_
              subst hye
              clear hrg hMj hSj hnr hnx hOj hBj hrz HRG
              go_wp2_with (first | (at_next; go_must (refine wpList_nextS rfl _ rfl rfl HRGr.out ?_ ?_)) | go_in)
              · intro hl0
                have HALL := Lib.hid (show ∀ x ∈ all, (rsOf rd ⟨c1, c2, c3, c4⟩ x && !left x) = rsOf rd ⟨c1, c2, c3, c4⟩ x from fun x hx => by rw [hl0 x (HA.out.ok x hx)]; simp)
                clear hl0
                have HLEN := Lib.hid (show (parJ all (rdL rd) out ⟨c1, c2, c3, c4⟩ (fun x => rsOf rd ⟨c1, c2, c3, c4⟩ x && !left x)) = rdyO all (rdL rd) (out ++ [⟨c1, c2, c3, c4⟩]) from parJ_all HA.out.srt (fun x hx hc => by rw [HALL.out x hx]; exact (rsOf_rdL rd _ _).2 hc))
                go_wp2_with fail
                refine ⟨⟨out ++ [⟨c1, c2, c3, c4⟩], m3, HIS.out, hm3, HMj.out.congr (fun x _ => ?_), .inr (by rw [← HLEN.out]; exact HSj.out), HOj.out, HNXj.out, HBj.out, by have := HRR.out; have := HRZ.out; omega⟩, ?_⟩
                · rw [opnJ_all (fun x hx hc => by rw [HALL.out x hx]; exact (rsOf_rdL rd _ _).2 hc)]
                · have := HXL.out
                  rw [List.length_map, List.length_append, List.length_singleton] at this
                  have := HUL.out
                  simp only [slLen]
                  omega
              · intro x wx cnt2 hok hfx hlx hrg2 hlt2 hg2 hs2 hen
                obtain ⟨x1, x2, x3, x4⟩ := x
                unfold C4.v at hen ⊢
                simp only at hen ⊢
                have hGx : Gr (fun b => some r0 = some b) wr wx := Gr.of_grown hg2
                have hrc := (rsOf_rdL rd _ _).1 hfx
                obtain ⟨hxno, hxnc, hxoc⟩ := HOI.out.reader HCOK.out hrc
                have HXA := Lib.hid (HA.out.reader hfx).2
                have HXD := Lib.hid (show (rsOf rd ⟨c1, c2, c3, c4⟩ ⟨x1, x2, x3, x4⟩ && !left ⟨x1, x2, x3, x4⟩) = false from by rw [hlx]; simp)
                have HFR := Lib.hid (HOI.out.fresh (done := fun x => rsOf rd ⟨c1, c2, c3, c4⟩ x && !left x) HCOK.out hrc HXD.out)
                have HZE := Lib.hid (opnO_zero (rd := rdL rd) hxoc)
                have HON := Lib.hid (opnO_step (HA.out.srd _).nodup (okO_iff.1 HCOK.out).1 hrc)
                have HX := Lib.hid hok
                have HLT2 := Lib.hid hlt2
                have HDS := Lib.hid (show ∀ z ∈ all, (rsOf rd ⟨c1, c2, c3, c4⟩ z && !(left z && !decide (z = ⟨x1, x2, x3, x4⟩))) = ((rsOf rd ⟨c1, c2, c3, c4⟩ z && !left z) || decide (z = ⟨x1, x2, x3, x4⟩)) from fun z _ => by
                  by_cases e : z = ⟨x1, x2, x3, x4⟩
                  · subst e; simp [hfx]
                  · simp [e])
                have hMx := HMj.out.gr hGx (fun e => HRR.out.1 (Option.some.inj e))
                have hSx := HSj.out.gr hGx (fun b hb e => HNR.out (by rw [hb]; exact congrArg some (Option.some.inj e).symm))
                have hOx := HOj.out.gr hGx (fun _ h => h.elim) (fun b hb e => HXR.out (by rw [hb]; exact congrArg some (Option.some.inj e).symm))
                have hBx := HBj.out.trans (hGx.below (n := w1.heap.size) (fun b e => by have := Option.some.inj e; have := HRR.out.2; omega) (by have := HRZ.out; have := HRR.out.2; omega))
                have hrzx : r0 < wx.heap.size := Nat.lt_of_lt_of_le HRZ.out hGx.size
                have hBa := (Below.refl wx.heap.size wx).alloc (Nat.le_refl _) (.cells #[.int .i64 x1, .int .i64 x2, .int .i64 x3, .int .i64 x4] 38)
                have hqb := heap_alloc_new wx (.cells #[.int .i64 x1, .int .i64 x2, .int .i64 x3, .int .i64 x4] 38)
                have HMa := Lib.hid (hMx.below hBa)
                have HSa := Lib.hid (hSx.gr (Gr.of_below (F := fun _ => False) hBa) (fun _ _ h => h))
                have HOa := Lib.hid (hOx.gr (Gr.of_below (F := fun _ => False) hBa) (fun _ h => h.elim) (fun _ _ h => h))
                have HRa := Lib.hid (hrg2.below hBa)
                have HBa2 := Lib.hid (hBx.trans (hBa.mono (by have := HRR.out.2; omega)))
                have HQB := Lib.hid hqb
                have HYS := Lib.hid (show (Value.slice (some ⟨ya, yo, none⟩) (parJ all (rdL rd) out ⟨c1, c2, c3, c4⟩ (fun x => rsOf rd ⟨c1, c2, c3, c4⟩ x && !left x)).length yc).ownBlock = some ya ∧ ya < wx.heap.size from ⟨rfl, (OwnsO.own hSx ya rfl).2⟩)
                have HRZa := Lib.hid hrzx
                have k0 := blk_cell hqb 0
                have k1 := blk_cell hqb 1
                have k2 := blk_cell hqb 2
                have k3 := blk_cell hqb 3
                simp only [List.getElem?_toArray, List.getElem?_cons_zero, List.getElem?_cons_succ] at k0 k1 k2 k3
                have hC0 : Cells [(⟨wx.heap.size, 0, none⟩, .int .i64 x1), (⟨wx.heap.size, 1, none⟩, .int .i64 x2), (⟨wx.heap.size, 2, none⟩, .int .i64 x3), (⟨wx.heap.size, 3, none⟩, .int .i64 x4)] (wx.alloc (.cells #[.int .i64 x1, .int .i64 x2, .int .i64 x3, .int .i64 x4] 38)) := ⟨k0, k1, k2, k3, trivial⟩
                have HSZa := Lib.hid (show wx.heap.size < (wx.alloc (.cells #[.int .i64 x1, .int .i64 x2, .int .i64 x3, .int .i64 x4] 38)).heap.size from by simp)
                clear hGx hrc hxno hxnc hxoc hok hlt2 hMx hSx hOx hBx hrzx hBa hqb hrg2 hg2 hs2 hfx hlx k0 k1 k2 k3
                go_upto_region 20 with fail
                generalize World.alloc _ _ = wa at *
                obtain ⟨N0, hN0⟩ : ∃ N0, opnO (rdL rd) (out ++ [⟨c1, c2, c3, c4⟩]) ⟨x1, x2, x3, x4⟩ = N0 := ⟨_, rfl⟩
                have HNZ := Lib.hid hN0
                have HNL := Lib.hid (show N0 ≤ 200 from by
                  rw [← hN0]
                  unfold opnO
                  refine Nat.le_trans (List.countP_le_length) ?_
                  obtain ⟨-, -, -, -, h200⟩ := HD.out.rdR ⟨x1, x2, x3, x4⟩
                  exact h200)
                have HOP := Lib.hid (show opnJ all (rdL rd) out ⟨c1, c2, c3, c4⟩ (fun x => rsOf rd ⟨c1, c2, c3, c4⟩ x && !left x) ⟨x1, x2, x3, x4⟩ = some ((N0 : Int) + 1) from by
                  unfold opnJ
                  simp only [HXA.out, if_true, HXD.out, HON.out, hN0]
                  simp)
                clear hN0
                go_cut [] (fun wq => MapG cellK intE wq w1.heap.size m3 (opnJ all (rdL rd) out ⟨c1, c2, c3, c4⟩ (fun z => rsOf rd ⟨c1, c2, c3, c4⟩ z && !(left z && !decide (z = ⟨x1, x2, x3, x4⟩)))) ∧ Gr (fun x => x = w1.heap.size) wa wq)
                case first =>
                  refine wp_region_T (Cells [(⟨wx.heap.size, 0, none⟩, .int .i64 x1), (⟨wx.heap.size, 1, none⟩, .int .i64 x2), (⟨wx.heap.size, 2, none⟩, .int .i64 x3), (⟨wx.heap.size, 3, none⟩, .int .i64 x4)]) (fun i => i == 6) (by kernel_rfl) ?_
                  have hSss7 := Cells.drew hC0
                  have hB_0_s7 : Below wa.heap.size wa wa.drew := below_drew _
                  generalize wa.drew = s7 at hSss7 hB_0_s7 ⊢
                  have hB_s7_s7 := Below.refl s7.heap.size s7
                  refine wpAnyT_pure (i := 0) (v := ?_) rfl (by kernel_rfl) (by kernel_rfl) (by kernel_rfl) (fun _ _ _ h => h) (by rfl) ?_ ?_
                  rotate_left
                  · intro w; go_simp; try with_reducible rfl
                  simp only [Act.put, rgA, rgB, rgC, rgD, rgE, rgF]
                  refine wpAnyT_loadW (i := 1) (v := ?_) rfl (by kernel_rfl) (by kernel_rfl) (by kernel_rfl) (by kernel_rfl) (by kernel_rfl) (fun _ _ _ h => h) (Or.inl ⟨by rfl, ?_⟩) hSss7 ?_
                  rotate_left
                  · intro w hSw; obtain ⟨e0, e1, e2, e3, -⟩ := hSw; go_simp; try with_reducible rfl
                  simp only [Act.put, rgA, rgB, rgC, rgD, rgE, rgF]
                  refine wpAnyT_two (i := 2) (k := 4) (by kernel_rfl) rfl rfl (by rfl) (by rfl) ?_ ?_
                  · skip
                    have hlk := (HMa.out.below (hB_0_s7.trans ((hB_s7_s7).mono (hB_0_s7).size))).look1 Try.underlying68 ⟨x1, x2, x3, x4⟩ HX.out
                    rw [HOP.out] at hlk
                    change Sem.run Try.prog (Instr.lookup 68 (.map (some w1.heap.size)) (.agg #[.int .i64 x1, .int .i64 x2, .int .i64 x3, .int .i64 x4]) false) s7 = .ok (.int .i64 ((N0 : Int) + 1)) s7 at hlk
                    refine wp_value (v := .int .i64 ((N0 : Int) + 1)) (w' := s7) (by go_simp) ?_
                    clear hlk
                    refine ⟨fun _ h => h, ?_⟩
                    try simp only [Act.put, rgA, rgB, rgC, rgD, rgE, rgF]
                    refine wpAnyT_pure (i := 3) (v := (.int .i64 (N0 : Int))) rfl (by kernel_rfl) (by kernel_rfl) (by kernel_rfl) (fun _ _ _ h => h) (by rfl) ?_ ?_
                    · intro w; have hq := HNL.out; go_simp <;> first | omega | (rw [IntKind.wrap_i64] <;> omega)
                    simp only [Act.put, rgA, rgB, rgC, rgD, rgE, rgF]
                    refine wpAnyT_one (i := 4) (by kernel_rfl) rfl (by rfl) ?_
                    obtain ⟨v0, st, hme, hes⟩ := (HMa.out.below (hB_0_s7.trans ((hB_s7_s7).mono (hB_0_s7).size))).entry lawC (by have := HAL.out; simp [maxLen]; omega) Try.underlying68 ⟨x1, x2, x3, x4⟩ HX.out (by rw [HOP.out]; rfl)
                    change Sem.run Try.prog (Instr.mapEntry 68 (.map (some w1.heap.size)) (.agg #[.int .i64 x1, .int .i64 x2, .int .i64 x3, .int .i64 x4])) s7 = _ at hme
                    refine wp_value (v := .tuple #[v0, goInt st]) (w' := s7) (by go_simp) ?_
                    clear hme
                    have HES := Lib.hid hes
                    clear hes
                    refine ⟨fun _ h => h, ?_⟩
                    try simp only [Act.put, rgA, rgB, rgC, rgD, rgE, rgF]
                    refine wpAnyT_pure (i := 5) (v := ?_) rfl (by kernel_rfl) (by kernel_rfl) (by kernel_rfl) (fun _ _ _ h => h) (by rfl) ?_ ?_
                    rotate_left
                    · intro w; go_simp; try with_reducible rfl
                    simp only [Act.put, rgA, rgB, rgC, rgD, rgE, rgF]
                    refine wpAnyT_one (i := 6) (by kernel_rfl) rfl (by rfl) ?_
                    obtain ⟨w108, hrun, hMn, hGn⟩ := HES.out s7 (N0 : Int) (by have := HNL.out; exact wf_i64 (by omega) (by omega)) rfl
                    change Sem.run Try.prog (Instr.entryStore 68 (.map (some w1.heap.size)) (goInt st) (.int .i64 (N0 : Int))) s7 = _ at hrun
                    refine wp_entryset1 68 (.tmp 66) (.tmp 71) (.tmp 69) rfl (by kernel_rfl) (by kernel_rfl) (by kernel_rfl) hrun ?_
                    have hG20 : Gr (fun x => x = w1.heap.size) wa w108 := (Gr.of_below (hB_0_s7.trans ((hB_s7_s7).mono (hB_0_s7).size)) : Gr (fun x => x = w1.heap.size) wa s7).trans hGn (fun _ h => .inl h)
                    have HM20 := Lib.hid (hMn.congr (g := opnJ all (rdL rd) out ⟨c1, c2, c3, c4⟩ (fun z => rsOf rd ⟨c1, c2, c3, c4⟩ z && !(left z && !decide (z = ⟨x1, x2, x3, x4⟩)))) (fun z _ => by rw [opnJ_step HXA.out HDS.out, HNZ.out]))
                    have HG20 := Lib.hid hG20
                    clear hrun hMn hGn hG20
                    refine ⟨fun h => absurd h (by decide), ?_⟩
                    try simp only [Act.put, rgA, rgB, rgC, rgD, rgE, rgF]
                    refine wpAnyT_done (by kernel_rfl) ?_ _
                    go_wp2_with fail
                    go_meet
                    case rel => exact ⟨HM20.out, HG20.out⟩
                  · skip
                    obtain ⟨v0, st, hme, hes⟩ := (HMa.out.below (hB_0_s7.trans ((hB_s7_s7).mono (hB_0_s7).size))).entry lawC (by have := HAL.out; simp [maxLen]; omega) Try.underlying68 ⟨x1, x2, x3, x4⟩ HX.out (by rw [HOP.out]; rfl)
                    change Sem.run Try.prog (Instr.mapEntry 68 (.map (some w1.heap.size)) (.agg #[.int .i64 x1, .int .i64 x2, .int .i64 x3, .int .i64 x4])) s7 = _ at hme
                    refine wp_value (v := .tuple #[v0, goInt st]) (w' := s7) (by go_simp) ?_
                    clear hme
                    have HES := Lib.hid hes
                    clear hes
                    refine ⟨fun _ h => h, ?_⟩
                    try simp only [Act.put, rgA, rgB, rgC, rgD, rgE, rgF]
                    refine wpAnyT_pure (i := 5) (v := ?_) rfl (by kernel_rfl) (by kernel_rfl) (by kernel_rfl) (fun _ _ _ h => h) (by rfl) ?_ ?_
                    rotate_left
                    · intro w; go_simp; try with_reducible rfl
                    simp only [Act.put, rgA, rgB, rgC, rgD, rgE, rgF]
                    refine wpAnyT_one (i := 2) (by kernel_rfl) rfl (by rfl) ?_
                    have hlk := (HMa.out.below (hB_0_s7.trans ((hB_s7_s7).mono (hB_0_s7).size))).look1 Try.underlying68 ⟨x1, x2, x3, x4⟩ HX.out
                    rw [HOP.out] at hlk
                    change Sem.run Try.prog (Instr.lookup 68 (.map (some w1.heap.size)) (.agg #[.int .i64 x1, .int .i64 x2, .int .i64 x3, .int .i64 x4]) false) s7 = .ok (.int .i64 ((N0 : Int) + 1)) s7 at hlk
                    refine wp_value (v := .int .i64 ((N0 : Int) + 1)) (w' := s7) (by go_simp) ?_
                    clear hlk
                    refine ⟨fun _ h => h, ?_⟩
                    try simp only [Act.put, rgA, rgB, rgC, rgD, rgE, rgF]
                    refine wpAnyT_pure (i := 3) (v := (.int .i64 (N0 : Int))) rfl (by kernel_rfl) (by kernel_rfl) (by kernel_rfl) (fun _ _ _ h => h) (by rfl) ?_ ?_
                    · intro w; have hq := HNL.out; go_simp <;> first | omega | (rw [IntKind.wrap_i64] <;> omega)
                    simp only [Act.put, rgA, rgB, rgC, rgD, rgE, rgF]
                    refine wpAnyT_one (i := 6) (by kernel_rfl) rfl (by rfl) ?_
                    obtain ⟨w109, hrun, hMn, hGn⟩ := HES.out s7 (N0 : Int) (by have := HNL.out; exact wf_i64 (by omega) (by omega)) rfl
                    change Sem.run Try.prog (Instr.entryStore 68 (.map (some w1.heap.size)) (goInt st) (.int .i64 (N0 : Int))) s7 = _ at hrun
                    refine wp_entryset1 68 (.tmp 66) (.tmp 71) (.tmp 69) rfl (by kernel_rfl) (by kernel_rfl) (by kernel_rfl) hrun ?_
                    have hG20 : Gr (fun x => x = w1.heap.size) wa w109 := (Gr.of_below (hB_0_s7.trans ((hB_s7_s7).mono (hB_0_s7).size)) : Gr (fun x => x = w1.heap.size) wa s7).trans hGn (fun _ h => .inl h)
                    have HM20 := Lib.hid (hMn.congr (g := opnJ all (rdL rd) out ⟨c1, c2, c3, c4⟩ (fun z => rsOf rd ⟨c1, c2, c3, c4⟩ z && !(left z && !decide (z = ⟨x1, x2, x3, x4⟩)))) (fun z _ => by rw [opnJ_step HXA.out HDS.out, HNZ.out]))
                    have HG20 := Lib.hid hG20
                    clear hrun hMn hGn hG20
                    refine ⟨fun h => absurd h (by decide), ?_⟩
                    try simp only [Act.put, rgA, rgB, rgC, rgD, rgE, rgF]
                    refine wpAnyT_done (by kernel_rfl) ?_ _
                    go_wp2_with fail
                    go_meet
                    case rel => exact ⟨HM20.out, HG20.out⟩
                obtain ⟨hM20, hG20⟩ := hcut
                have HMc := Lib.hid hM20
                have hyam : ya ≠ w1.heap.size := fun e => by have := (OwnsO.own HSa.out ya rfl).1; omega
                have HSc := Lib.hid (HSa.out.gr hG20 (fun b hb e => hyam (by rw [HYS.out.1] at hb; rw [Option.some.inj hb]; exact e)))
                have HOc := Lib.hid (HOa.out.gr hG20 (fun _ h => h.elim) (fun b hb e => by have := (HXO.out b hb).1; omega))
                have HRc := Lib.hid (HRa.out.gr hG20 (fun e => by have := HBQ.out; omega) (fun e => HRR.out.1 e))
                have HQc := Lib.hid (blk_gr hG20 HQB.out (by have := HRR.out.2; have := HRZa.out; omega))
                have HBc := Lib.hid (HBa2.out.trans (hG20.below (n := w1.heap.size) (fun b e => by omega) HBa2.out.size))
                have HSZc := Lib.hid (show wx.heap.size < wc.heap.size from Nat.lt_of_lt_of_le HSZa.out hG20.size)
                have hlk : Sem.run Try.prog (Instr.lookup 68 (.map (some w1.heap.size)) (.agg #[.int .i64 x1, .int .i64 x2, .int .i64 x3, .int .i64 x4]) false) wc = .ok (.int .i64 (N0 : Int)) wc := by
                  have := HMc.out.look1 Try.underlying68 ⟨x1, x2, x3, x4⟩ HX.out
                  refine Eq.trans this ?_
                  have e : opnJ all (rdL rd) out ⟨c1, c2, c3, c4⟩ (fun z => rsOf rd ⟨c1, c2, c3, c4⟩ z && !(left z && !decide (z = ⟨x1, x2, x3, x4⟩))) ⟨x1, x2, x3, x4⟩ = some (N0 : Int) := by
                    rw [opnJ_step HXA.out HDS.out, if_pos rfl, HNZ.out]
                  rw [e]
                  rfl
                have k0 := blk_cell HQc.out 0
                have k1 := blk_cell HQc.out 1
                have k2 := blk_cell HQc.out 2
                have k3 := blk_cell HQc.out 3
                simp only [List.getElem?_toArray, List.getElem?_cons_zero, List.getElem?_cons_succ] at k0 k1 k2 k3
                have HPS := Lib.hid (parJ_step (done := fun z => rsOf rd ⟨c1, c2, c3, c4⟩ z && !left z) (done' := fun z => rsOf rd ⟨c1, c2, c3, c4⟩ z && !(left z && !decide (z = ⟨x1, x2, x3, x4⟩))) (rd := rdL rd) (out := out) (c := ⟨c1, c2, c3, c4⟩) HA.out.srt HXA.out HDS.out)
                have HYN := Lib.hid (show (Value.slice xa xl xc).ownBlock ≠ some ya from HNXj.out ya rfl)
                have HYR := Lib.hid (show ya ≠ r0 from fun e => HNR.out (by rw [e]; rfl))
                clear hM20 hG20 hyam
                by_cases hz : N0 = 0
                · have HOK := Lib.hid (show okO (rdL rd) (out ++ [⟨c1, c2, c3, c4⟩]) ⟨x1, x2, x3, x4⟩ = true from HZE.out.1 (by rw [HNZ.out, hz]))
                  obtain ⟨pj, hpj⟩ : ∃ pj, parJ all (rdL rd) out ⟨c1, c2, c3, c4⟩ (fun z => rsOf rd ⟨c1, c2, c3, c4⟩ z && !left z) = pj := ⟨_, rfl⟩
                  have HPJS := Lib.hid (show Srt pj from hpj ▸ srt_filter HA.out.srt _)
                  have HPJL := Lib.hid (show pj.length ≤ 100000 from by rw [← hpj]; exact Nat.le_trans parJ_len HAL.out)
                  rw [hpj] at HSc HFR HPS HYS HSa ⊢
                  clear hpj
                  have hbs := bsearch47 wc (some ⟨ya, yo, none⟩) yc pj HSc.out.rd (fun b hb => (OwnsO.own HSc.out b hb).2) HPJS.out (by have := HPJL.out; omega) ⟨x1, x2, x3, x4⟩
                  unfold C4.v at hbs
                  simp only at hbs
                  have HBS := Lib.hid hbs
                  clear hbs
                  subst hz
                  go_wp2_with fail
                  refine HBS.out.mono ?_
                  rintro e w22 ⟨ix, bb, rfl, hix, h1, h2, hB22⟩
                  have HIX := Lib.hid hix
                  have H1 := Lib.hid h1
                  have H2 := Lib.hid h2
                  have HB22 := Lib.hid hB22
                  have HS22 := Lib.hid ((HSc.out.gr (Gr.of_below (F := fun _ => False) hB22) (fun _ _ h => h)).gr (Gr.of_below (F := fun _ => False) ((Below.refl w22.heap.size w22).alloc (Nat.le_refl _) (.cells #[.int .i64 x1, .int .i64 x2, .int .i64 x3, .int .i64 x4] 38))) (fun _ _ h => h))
                  have hin := insert47 (base := w1.heap.size + 1) (w22.alloc (.cells #[.int .i64 x1, .int .i64 x2, .int .i64 x3, .int .i64 x4] 38)) HS22.out (by have := HRR.out.2; have := HRZa.out; have := HSZc.out; have := hB22.size; simp only [World.size_alloc]; omega) (by have := HPJL.out; omega) hix HX.out (vb := w22.heap.size) (heap_alloc_new w22 _) (fun e => by rw [HYS.out.1] at e; have := Option.some.inj e; have := HYS.out.2; have := HSZc.out; have := hB22.size; omega)
                  have HIN := Lib.hid hin
                  have HQ22 := Lib.hid ((hB22.block _ (blk_lt HQc.out)).trans HQc.out)
                  clear hix h1 h2 hB22 hin k0 k1 k2 k3
                  have k0 := blk_cell HQ22.out 0
                  have k1 := blk_cell HQ22.out 1
                  have k2 := blk_cell HQ22.out 2
                  have k3 := blk_cell HQ22.out 3
                  simp only [List.getElem?_toArray, List.getElem?_cons_zero, List.getElem?_cons_succ] at k0 k1 k2 k3
                  go_wp2_with fail
                  refine HIN.out.mono ?_
                  rintro e w23 ⟨vn, rfl, hSn, hGn, hobn⟩
                  have hins := ins_at HPJS.out HFR.out H1.out H2.out
                  obtain ⟨ql, hql⟩ : ∃ ql, List.take ix pj ++ (⟨x1, x2, x3, x4⟩ : C4) :: List.drop ix pj = ql := ⟨_, rfl⟩
                  rw [hql] at hSn hins
                  have HINS := Lib.hid hins
                  clear hql hins
                  obtain ⟨zb, zo, zc, zcur, rfl, -⟩ := hSn.open_
                  have HSn := Lib.hid hSn
                  have HGal := Lib.hid ((Below.refl w22.heap.size w22).alloc (Nat.le_refl _) (.cells #[.int .i64 x1, .int .i64 x2, .int .i64 x3, .int .i64 x4] 38))
                  have HGn := Lib.hid (show Gr (fun b => b = ya) wc w23 from ((Gr.of_below HB22.out : Gr (fun b => b = ya) wc w22).step HGal.out).trans (hGn.mono (fun b e => .inl (by rw [HYS.out.1] at e; exact (Option.some.inj e).symm))) (fun _ h => .inl h))
                  have HZB := Lib.hid (show zb = ya ∨ wc.heap.size ≤ zb from by
                    rcases hobn with h | ⟨b, h, hb⟩
                    · exact .inl (Option.some.inj h)
                    · refine .inr ?_
                      have e : zb = b := Option.some.inj h
                      have := HB22.out.size
                      simp only [World.size_alloc] at hb
                      omega)
                  clear hSn hGn hobn k0 k1 k2 k3
                  go_wp2_with fail
                  go_roundw
                  case rel =>
                    have hyam : w1.heap.size + 1 ≤ ya := (OwnsO.own HSc.out ya rfl).1
                    refine ⟨_, cnt2, m3, HRc.out.gr HGn.out (fun e => by have := HBQ.out; omega) (fun e => HYR.out e.symm), hm3, HMc.out.gr HGn.out (fun e => by omega), ?_, fun e => ?_, fun b hb => ?_, HOc.out.gr HGn.out (fun _ h => h.elim) (fun b hb e => HYN.out (by rw [hb, e])), HBc.out.trans (HGn.out.below (n := w1.heap.size) (fun b e => by omega) (by have := HRR.out.2; have := HRZa.out; have := HSZc.out; omega)), by have := HRZa.out; have := HSZc.out; have := HGn.out.size; omega⟩
                    · have e := HPS.out
                      rw [if_pos HOK.out, ← HINS.out] at e
                      rw [e]
                      exact HSn.out
                    · have e2 : zb = r0 := Option.some.inj e
                      rcases HZB.out with h | h
                      · exact HYR.out (by rw [← h, e2])
                      · have := HRZa.out; have := HSZc.out; omega
                    · have e2 : zb = b := Option.some.inj hb
                      subst e2
                      rcases HZB.out with h | h
                      · rw [h]; exact HYN.out
                      · intro e3
                        have := (HXO.out _ e3).2
                        have := HW0.out
                        have := HRZa.out
                        have := HSZc.out
                        omega
                  case measure =>
                    have hyam : w1.heap.size + 1 ≤ ya := (OwnsO.own HSc.out ya rfl).1
                    rw [(HRc.out.gr HGn.out (fun e => by have := HBQ.out; omega) (fun e => HYR.out e.symm)).left_eq, HRGr.out.left_eq]; exact HLT2.out
                · have hzI : ¬ (N0 : Int) = 0 := by omega
                  have HNOK := Lib.hid (show ¬ okO (rdL rd) (out ++ [⟨c1, c2, c3, c4⟩]) ⟨x1, x2, x3, x4⟩ = true from fun h => hz (by rw [← HNZ.out]; exact HZE.out.2 h))
                  go_wp2_with fail
                  go_roundw
                  case rel =>
                    refine ⟨_, cnt2, m3, HRc.out, hm3, HMc.out, ?_, HNR.out, HNXj.out, HOc.out, HBc.out, by have := HRZa.out; have := HSZc.out; omega⟩
                    have e := HPS.out
                    rw [if_neg HNOK.out] at e
                    rw [e]
                    exact HSc.out
                  case measure => rw [HRc.out.left_eq, HRGr.out.left_eq]; exact HLT2.out
end Go.Proofs.Ytoimbhdjhhmonaa
