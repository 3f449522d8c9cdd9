/- Layer 28: Propose. -/
import Derived.Test.YtpobckedeffjmaaM28m
import Derived.Laws.MakeOwn
import Derived.Test.YtpobckedeffjmaaRead
set_option linter.unusedSimpArgs false
set_option maxRecDepth 50000
namespace Go.Proofs.Ytpobckedeffjmaa
open Go.RowKit Go

def st0 (l r : List O3) : FS := ⟨List.replicate l.length false, List.replicate r.length false, []⟩
def st1 (l r : List O3) (tol : Int) : FS := oneAt l r tol (st0 l r) l.length
def st2 (l r : List O3) (tol : Int) : FS := manyAt false l r tol (st1 l r tol) l.length
def swapS (s : FS) : FS := ⟨s.ur, s.ul, s.out⟩
def st3 (l r : List O3) (tol : Int) : FS := swapS (manyAt true r l tol (swapS (st2 l r tol)) r.length)
def propM (l r : List O3) (tol : Int) : List P2 × Int :=
  if linesB l r = false then ([], 1) else if tol < 0 ∨ 1000000000000 < tol then ([], 2) else ((st3 l r tol).out, 0)
theorem info_bool : (Try.prog.info? 4).map (fun i => (i.zero, i.size, i.bytes)) = some (some (.bool false), 1, 1) := by kernel_rfl
theorem make_bools (w : World) (n : Nat) (hn : n ≤ 1000000) : (Instr.makeSlice 76 (.int .i64 (n : Int)) (.int .i64 (n : Int))).run Try.prog w = .ok (.slice (some ⟨w.heap.size, 0, none⟩) n n) (w.alloc (.cells (bRow (List.replicate n false)) 4)) := by
  obtain ⟨i, hi, hz0, hz1, hz2⟩ := info_parts info_bool
  have h := run_make (P := Try.prog) (w := w) 76 4 i (.bool false) Try.underlying76 hi hz0 .i64 .i64 n n (by omega) (Int.le_refl _) (by rw [hz2]; omega) (by omega)
  rw [h, hz1]
  congr 3
  · rw [Nat.mul_one, Int.toNat_natCast]
    apply Array.toList_inj.1
    rw [show (Value.bool false).cells = #[.bool false] from rfl, toList_madeCells_one]
    simp [bRow]
theorem linesB_true {l r : List O3} (h : linesB l r = true) : (∀ x ∈ l, amtB x.n = true) ∧ (∀ x ∈ r, amtB x.n = true) ∧ l.length ≤ 60 ∧ r.length ≤ 60 := by
  unfold linesB at h
  simp only [Bool.and_eq_true, decide_eq_true_eq, List.all_eq_true, List.mem_append] at h
  obtain ⟨⟨h1, h2⟩, h3, h4⟩ := h
  exact ⟨fun x hx => h4 x (.inl hx), fun x hx => h4 x (.inr hx), h1, h2⟩
set_option maxHeartbeats 4000000 in
theorem propose28 {S : Nat → Prop} (w : World) (al : Option Addr) (cl : Nat) (l : List O3) (ar : Option Addr) (cr : Nat) (r : List O3) (tol : Int)
    (h1 : Rd (.sl openT) S w [.slice al l.length cl] (l.map O3.d)) (h2 : Rd (.sl openT) S w [.slice ar r.length cr] (r.map O3.d)) (hS : ∀ b, S b → b < w.heap.size) :
    Calls Try.prog 10 #[.slice al l.length cl, .slice ar r.length cr, .int .i64 tol] w fun e w' => ∃ v, e = .returned (.tuple #[v, .int .i64 (propM l r tol).2]) ∧ Rd (.sl pairT) (fun b => w.heap.size ≤ b ∧ b < w'.heap.size) w' [v] ((propM l r tol).1.map pairD) ∧ Below w.heap.size w w' := by
  have H1 := Lib.hid h1
  have H2 := Lib.hid h2
  have HS := Lib.hid hS
  have HL := Lib.hid (lines28 w al cl l ar cr r h1 h2 hS)
  obtain ⟨lb, hlb⟩ : ∃ x, linesB l r = x := ⟨_, rfl⟩
  rw [hlb] at HL
  have HLB := Lib.hid hlb
  clear h1 h2 hS hlb
  go_enter Try.func10, Try.ntmps10
  go_wp2_with fail
  refine HL.out.mono ?_
  rintro e w1 ⟨rfl, hB1⟩
  cases lb with
  | false =>
    go_wp2_with fail
    go_ret2
    refine ⟨.slice none 0 0, by rw [show (propM l r tol).2 = 1 from by unfold propM; rw [HLB.out, if_pos rfl]]; rfl, ?_, hB1⟩
    rw [show (propM l r tol).1 = [] from by unfold propM; rw [HLB.out, if_pos rfl]]
    exact (Owns.nil pairT 0 0 w1).rd _ (fun _ h => h.elim) (fun _ h => by cases h)
  | true =>
    by_cases ht0 : tol < 0
    case pos =>
      go_wp2_with fail
      go_ret2
      refine ⟨.slice none 0 0, by rw [show (propM l r tol).2 = 2 from by unfold propM; rw [HLB.out, if_neg (by decide), if_pos (Or.inl ht0)]]; rfl, ?_, hB1⟩
      rw [show (propM l r tol).1 = [] from by unfold propM; rw [HLB.out, if_neg (by decide), if_pos (Or.inl ht0)]]
      exact (Owns.nil pairT 0 0 w1).rd _ (fun _ h => h.elim) (fun _ h => by cases h)
    by_cases ht1 : 1000000000000 < tol
    case pos =>
      go_wp2_with fail
      go_ret2
      refine ⟨.slice none 0 0, by rw [show (propM l r tol).2 = 2 from by unfold propM; rw [HLB.out, if_neg (by decide), if_pos (Or.inr ht1)]]; rfl, ?_, hB1⟩
      rw [show (propM l r tol).1 = [] from by unfold propM; rw [HLB.out, if_neg (by decide), if_pos (Or.inr ht1)]]
      exact (Owns.nil pairT 0 0 w1).rd _ (fun _ h => h.elim) (fun _ h => by cases h)
    have HPM := Lib.hid (show propM l r tol = ((st3 l r tol).out, 0) from by unfold propM; rw [HLB.out, if_neg (by decide), if_neg (by rintro (h | h) <;> contradiction)])
    obtain ⟨ham1, ham2, hll, hrl⟩ := linesB_true HLB.out
    have HAM := Lib.hid (And.intro ham1 ham2)
    have HB1 := Lib.hid hB1
    clear ham1 ham2 hB1
    have hC0 : Cells [] w1 := trivial
    go_wp2_with fail
    refine wp_cut [21, 22, 23, 24, 25, 26, 27, 28, 29, 30, 31, 32, 33, 8] (fun vs w' => ∃ v21 v22 v23 v24 v25 v26 v27 v28 v29 v30 v31 v32 v33 bf b3 b8, vs = [v21, v22, v23, v24, v25, v26, v27, v28, v29, v30, v31, v32, v33, .pointer (some ⟨bf, 0, none⟩)] ∧ Fin6 w.heap.size bf b3 b8 al cl l ar cr r tol w' (st0 l r) ∧ Below w.heap.size w w') ?_ ?_
    · skip
      refine wp_region_T (Cells []) (fun _ => false) (by kernel_rfl) ?_
      have hSss1 := Cells.drew hC0
      have hB_0_s1 : Below w1.heap.size w1 w1.drew := below_drew _
      generalize w1.drew = s1 at hSss1 hB_0_s1 ⊢
      have hB_s1_s1 := Below.refl s1.heap.size s1
      refine wpAnyT_pure (i := 0) (v := ?_) rfl (by kernel_rfl) (by kernel_rfl) (by kernel_rfl) (fun _ _ _ h => h) (by rfl) ?_ ?_
      rotate_left
      · intro w; go_simp; try with_reducible rfl
      simp only [Act.put, rgA, rgB, rgC, rgD, rgE, rgF]
      refine wpAnyT_pure (i := 1) (v := ?_) rfl (by kernel_rfl) (by kernel_rfl) (by kernel_rfl) (fun _ _ _ h => h) (by rfl) ?_ ?_
      rotate_left
      · intro w; go_simp; try with_reducible rfl
      simp only [Act.put, rgA, rgB, rgC, rgD, rgE, rgF]
      refine wpAnyT_pure (i := 2) (v := ?_) rfl (by kernel_rfl) (by kernel_rfl) (by kernel_rfl) (fun _ _ _ h => h) (by rfl) ?_ ?_
      rotate_left
      · intro w; go_simp; try with_reducible rfl
      simp only [Act.put, rgA, rgB, rgC, rgD, rgE, rgF]
      refine wpAnyT_pure (i := 5) (v := ?_) rfl (by kernel_rfl) (by kernel_rfl) (by kernel_rfl) (fun _ _ _ h => h) (by rfl) ?_ ?_
      rotate_left
      · intro w; go_simp; try with_reducible rfl
      simp only [Act.put, rgA, rgB, rgC, rgD, rgE, rgF]
      refine wpAnyT_pure (i := 6) (v := ?_) rfl (by kernel_rfl) (by kernel_rfl) (by kernel_rfl) (fun _ _ _ h => h) (by rfl) ?_ ?_
      rotate_left
      · intro w; go_simp; try with_reducible rfl
      simp only [Act.put, rgA, rgB, rgC, rgD, rgE, rgF]
      refine wpAnyT_pure (i := 7) (v := ?_) rfl (by kernel_rfl) (by kernel_rfl) (by kernel_rfl) (fun _ _ _ h => h) (by rfl) ?_ ?_
      rotate_left
      · intro w; go_simp; try with_reducible rfl
      simp only [Act.put, rgA, rgB, rgC, rgD, rgE, rgF]
      refine wpAnyT_pure (i := 10) (v := ?_) rfl (by kernel_rfl) (by kernel_rfl) (by kernel_rfl) (fun _ _ _ h => h) (by rfl) ?_ ?_
      rotate_left
      · intro w; go_simp; try with_reducible rfl
      simp only [Act.put, rgA, rgB, rgC, rgD, rgE, rgF]
      refine wpAnyT_two (i := 3) (k := 8) (by kernel_rfl) rfl rfl (by rfl) (by rfl) ?_ ?_
      · skip
        obtain ⟨b3, hb3⟩ : ∃ b, s1.heap.size = b := ⟨_, rfl⟩
        have hge3 : w1.heap.size ≤ b3 := hb3 ▸ Nat.le_trans (hB_0_s1).size (hB_s1_s1).size
        have hmk := make_bools s1 l.length (by omega)
        refine wp_newrow (v := .slice (some ⟨b3, 0, none⟩) l.length l.length) (cs := bRow (List.replicate l.length false)) (te := 4) (by rw [← hb3]; go_simp) ?_
        clear hmk
        intro w102 hX hN3
        rw [hb3] at hN3
        have hB_s1_w102 := below_step hB_s1_s1 hX
        have hB_w102_w102 := Below.refl w102.heap.size w102
        have hSsw102 := Cells.below hB_s1_w102 hSss1
        clear hX
        refine ⟨fun _ _ => hSsw102, ?_⟩
        try simp only [Act.put, rgA, rgB, rgC, rgD, rgE, rgF]
        refine wpAnyT_pure (i := 4) (v := ?_) rfl (by kernel_rfl) (by kernel_rfl) (by kernel_rfl) (fun _ _ _ h => h) (by rfl) ?_ ?_
        rotate_left
        · intro w; go_simp; try with_reducible rfl
        simp only [Act.put, rgA, rgB, rgC, rgD, rgE, rgF]
        refine wpAnyT_one (i := 8) (by kernel_rfl) rfl (by rfl) ?_
        obtain ⟨b8, hb8⟩ : ∃ b, w102.heap.size = b := ⟨_, rfl⟩
        have hge8 : w1.heap.size ≤ b8 := hb8 ▸ Nat.le_trans (hB_0_s1).size (hB_s1_w102).size
        have hmk := make_bools w102 r.length (by omega)
        refine wp_newrow (v := .slice (some ⟨b8, 0, none⟩) r.length r.length) (cs := bRow (List.replicate r.length false)) (te := 4) (by rw [← hb8]; go_simp) ?_
        clear hmk
        intro w103 hX hN8
        rw [hb8] at hN8
        have hB_s1_w103 := below_step hB_s1_w102 hX
        have hB_w102_w103 := below_step hB_w102_w102 hX
        have hB_w103_w103 := Below.refl w103.heap.size w103
        have hSsw103 := Cells.below hB_s1_w103 hSss1
        clear hX
        refine ⟨fun _ _ => hSsw103, ?_⟩
        try simp only [Act.put, rgA, rgB, rgC, rgD, rgE, rgF]
        refine wpAnyT_pure (i := 9) (v := ?_) rfl (by kernel_rfl) (by kernel_rfl) (by kernel_rfl) (fun _ _ _ h => h) (by rfl) ?_ ?_
        rotate_left
        · intro w; go_simp; try with_reducible rfl
        simp only [Act.put, rgA, rgB, rgC, rgD, rgE, rgF]
        refine wpAnyT_pure (i := 11) (v := ?_) rfl (by kernel_rfl) (by kernel_rfl) (by kernel_rfl) (fun _ _ _ h => h) (by rfl) ?_ ?_
        rotate_left
        · intro w; go_simp; try with_reducible rfl
        simp only [Act.put, rgA, rgB, rgC, rgD, rgE, rgF]
        refine wpAnyT_one (i := 12) (by kernel_rfl) rfl (by rfl) ?_
        obtain ⟨bf, hbf⟩ : ∃ b, w103.heap.size = b := ⟨_, rfl⟩
        have hgef : w1.heap.size ≤ bf := hbf ▸ Nat.le_trans (hB_0_s1).size (hB_s1_w103).size
        refine wp_newrow (v := .pointer (some ⟨bf, 0, none⟩)) (cs := #[.slice al l.length cl, .slice (some ⟨b3, 0, none⟩) l.length l.length, .slice ar r.length cr, .slice (some ⟨b8, 0, none⟩) r.length r.length, .int .i64 tol, .slice none 0 0]) (te := 80) (by rw [← hbf]; go_simp) ?_
        intro w104 hX hNf
        rw [hbf] at hNf
        have hB_s1_w104 := below_step hB_s1_w103 hX
        have hB_w102_w104 := below_step hB_w102_w103 hX
        have hB_w103_w104 := below_step hB_w103_w103 hX
        have hB_w104_w104 := Below.refl w104.heap.size w104
        have hSsw104 := Cells.below hB_s1_w104 hSss1
        clear hX
        refine ⟨fun _ _ => hSsw104, ?_⟩
        try simp only [Act.put, rgA, rgB, rgC, rgD, rgE, rgF]
        refine wpAnyT_pure (i := 13) (v := ?_) rfl (by kernel_rfl) (by kernel_rfl) (by kernel_rfl) (fun _ _ _ h => h) (by rfl) ?_ ?_
        rotate_left
        · intro w; go_simp; try with_reducible rfl
        simp only [Act.put, rgA, rgB, rgC, rgD, rgE, rgF]
        refine wpAnyT_done (by kernel_rfl) ?_ _
        have hq3 := ((hB_w102_w104).block _ (blk_lt hN3)).trans hN3
        have hq8 := ((hB_w103_w104).block _ (blk_lt hN8)).trans hN8
        have h38 : b3 ≠ b8 := by have := blk_lt hN3; have := blk_lt hN8; omega
        have hbP : Below w.heap.size w w104 := below_step HB1.out ((hB_0_s1).trans ((hB_s1_w104).mono (hB_0_s1).size))
        have h1s := HB1.out.size
        have hF : Fin6 w.heap.size bf b3 b8 al cl l ar cr r tol w104 (st0 l r) := by
          refine ⟨⟨.slice none 0 0, hNf, ⟨fun _ => False, Owns.nil _ _ _ _, fun _ h => h.elim⟩, fun b h => by cases h⟩, hq3, hq8, by simp [st0], by simp [st0], ⟨?_, by omega, by omega, ?_, ?_, h38⟩, ?_, ?_, hbP.size, ⟨HAM.out.1, HAM.out.2, hll, hrl, by omega, by omega⟩⟩
          · omega
          · intro e; subst e; rw [hq3] at hNf; simp at hNf
          · intro e; subst e; rw [hq8] at hNf; simp at hNf
          · exact (H1.out.below hbP HS.out).keep (fun _ _ => rfl) HS.out
          · exact (H2.out.below hbP HS.out).keep (fun _ _ => rfl) HS.out
        have HF := Lib.hid hF
        have HBP := Lib.hid hbP
        clear hF hbP
        refine cut_leaf ?_ ?_
        focus kernel_rfl
        exact ⟨_, _, _, _, _, _, _, _, _, _, _, _, _, bf, b3, b8, rfl, HF.out, HBP.out⟩
      · skip
        obtain ⟨b8, hb8⟩ : ∃ b, s1.heap.size = b := ⟨_, rfl⟩
        have hge8 : w1.heap.size ≤ b8 := hb8 ▸ Nat.le_trans (hB_0_s1).size (hB_s1_s1).size
        have hmk := make_bools s1 r.length (by omega)
        refine wp_newrow (v := .slice (some ⟨b8, 0, none⟩) r.length r.length) (cs := bRow (List.replicate r.length false)) (te := 4) (by rw [← hb8]; go_simp) ?_
        clear hmk
        intro w105 hX hN8
        rw [hb8] at hN8
        have hB_s1_w105 := below_step hB_s1_s1 hX
        have hB_w105_w105 := Below.refl w105.heap.size w105
        have hSsw105 := Cells.below hB_s1_w105 hSss1
        clear hX
        refine ⟨fun _ _ => hSsw105, ?_⟩
        try simp only [Act.put, rgA, rgB, rgC, rgD, rgE, rgF]
        refine wpAnyT_pure (i := 9) (v := ?_) rfl (by kernel_rfl) (by kernel_rfl) (by kernel_rfl) (fun _ _ _ h => h) (by rfl) ?_ ?_
        rotate_left
        · intro w; go_simp; try with_reducible rfl
        simp only [Act.put, rgA, rgB, rgC, rgD, rgE, rgF]
        refine wpAnyT_one (i := 3) (by kernel_rfl) rfl (by rfl) ?_
        obtain ⟨b3, hb3⟩ : ∃ b, w105.heap.size = b := ⟨_, rfl⟩
        have hge3 : w1.heap.size ≤ b3 := hb3 ▸ Nat.le_trans (hB_0_s1).size (hB_s1_w105).size
        have hmk := make_bools w105 l.length (by omega)
        refine wp_newrow (v := .slice (some ⟨b3, 0, none⟩) l.length l.length) (cs := bRow (List.replicate l.length false)) (te := 4) (by rw [← hb3]; go_simp) ?_
        clear hmk
        intro w106 hX hN3
        rw [hb3] at hN3
        have hB_s1_w106 := below_step hB_s1_w105 hX
        have hB_w105_w106 := below_step hB_w105_w105 hX
        have hB_w106_w106 := Below.refl w106.heap.size w106
        have hSsw106 := Cells.below hB_s1_w106 hSss1
        clear hX
        refine ⟨fun _ _ => hSsw106, ?_⟩
        try simp only [Act.put, rgA, rgB, rgC, rgD, rgE, rgF]
        refine wpAnyT_pure (i := 4) (v := ?_) rfl (by kernel_rfl) (by kernel_rfl) (by kernel_rfl) (fun _ _ _ h => h) (by rfl) ?_ ?_
        rotate_left
        · intro w; go_simp; try with_reducible rfl
        simp only [Act.put, rgA, rgB, rgC, rgD, rgE, rgF]
        refine wpAnyT_pure (i := 11) (v := ?_) rfl (by kernel_rfl) (by kernel_rfl) (by kernel_rfl) (fun _ _ _ h => h) (by rfl) ?_ ?_
        rotate_left
        · intro w; go_simp; try with_reducible rfl
        simp only [Act.put, rgA, rgB, rgC, rgD, rgE, rgF]
        refine wpAnyT_one (i := 12) (by kernel_rfl) rfl (by rfl) ?_
        obtain ⟨bf, hbf⟩ : ∃ b, w106.heap.size = b := ⟨_, rfl⟩
        have hgef : w1.heap.size ≤ bf := hbf ▸ Nat.le_trans (hB_0_s1).size (hB_s1_w106).size
        refine wp_newrow (v := .pointer (some ⟨bf, 0, none⟩)) (cs := #[.slice al l.length cl, .slice (some ⟨b3, 0, none⟩) l.length l.length, .slice ar r.length cr, .slice (some ⟨b8, 0, none⟩) r.length r.length, .int .i64 tol, .slice none 0 0]) (te := 80) (by rw [← hbf]; go_simp) ?_
        intro w107 hX hNf
        rw [hbf] at hNf
        have hB_s1_w107 := below_step hB_s1_w106 hX
        have hB_w105_w107 := below_step hB_w105_w106 hX
        have hB_w106_w107 := below_step hB_w106_w106 hX
        have hB_w107_w107 := Below.refl w107.heap.size w107
        have hSsw107 := Cells.below hB_s1_w107 hSss1
        clear hX
        refine ⟨fun _ _ => hSsw107, ?_⟩
        try simp only [Act.put, rgA, rgB, rgC, rgD, rgE, rgF]
        refine wpAnyT_pure (i := 13) (v := ?_) rfl (by kernel_rfl) (by kernel_rfl) (by kernel_rfl) (fun _ _ _ h => h) (by rfl) ?_ ?_
        rotate_left
        · intro w; go_simp; try with_reducible rfl
        simp only [Act.put, rgA, rgB, rgC, rgD, rgE, rgF]
        refine wpAnyT_done (by kernel_rfl) ?_ _
        have hq3 := ((hB_w106_w107).block _ (blk_lt hN3)).trans hN3
        have hq8 := ((hB_w105_w107).block _ (blk_lt hN8)).trans hN8
        have h38 : b3 ≠ b8 := by have := blk_lt hN3; have := blk_lt hN8; omega
        have hbP : Below w.heap.size w w107 := below_step HB1.out ((hB_0_s1).trans ((hB_s1_w107).mono (hB_0_s1).size))
        have h1s := HB1.out.size
        have hF : Fin6 w.heap.size bf b3 b8 al cl l ar cr r tol w107 (st0 l r) := by
          refine ⟨⟨.slice none 0 0, hNf, ⟨fun _ => False, Owns.nil _ _ _ _, fun _ h => h.elim⟩, fun b h => by cases h⟩, hq3, hq8, by simp [st0], by simp [st0], ⟨?_, by omega, by omega, ?_, ?_, h38⟩, ?_, ?_, hbP.size, ⟨HAM.out.1, HAM.out.2, hll, hrl, by omega, by omega⟩⟩
          · omega
          · intro e; subst e; rw [hq3] at hNf; simp at hNf
          · intro e; subst e; rw [hq8] at hNf; simp at hNf
          · exact (H1.out.below hbP HS.out).keep (fun _ _ => rfl) HS.out
          · exact (H2.out.below hbP HS.out).keep (fun _ _ => rfl) HS.out
        have HF := Lib.hid hF
        have HBP := Lib.hid hbP
        clear hF hbP
        refine cut_leaf ?_ ?_
        focus kernel_rfl
        exact ⟨_, _, _, _, _, _, _, _, _, _, _, _, _, bf, b3, b8, rfl, HF.out, HBP.out⟩
    rintro vs wP ⟨v21, v22, v23, v24, v25, v26, v27, v28, v29, v30, v31, v32, v33, bf, b3, b8, rfl, hF, hbP⟩
    simp only [puts, Act.put, List.setIfInBounds_toArray, List.set_cons_zero, List.set_cons_succ]
    have HF := Lib.hid hF
    have HBP := Lib.hid hbP
    clear hF hbP hC0
    go_wp2_with (go_at_call 26; refine (one28 wP HF.out (by simp [st0])).mono ?_; rintro e w2 ⟨rfl, hF1, hB2⟩; have HF1 := Lib.hid hF1; have HB2 := Lib.hid hB2; clear hF1 hB2)
    have ho1 : (st1 l r tol).out.length ≤ 60 := by have := oneAt_len l r tol (st0 l r) l.length; simp only [st0, List.length_nil] at this; unfold st1; simp only [st0]; omega
    have ho2 : (st2 l r tol).out.length ≤ 120 := by have := manyAt_len false l r tol (st1 l r tol) l.length; unfold st2; omega
    have hC0 : Cells [] w2 := trivial
    refine wp_region_T (Cells []) (fun i => i == 7) (by kernel_rfl) ?_
    have hSss8 := Cells.drew hC0
    have hB_0_s8 : Below w2.heap.size w2 w2.drew := below_drew _
    generalize w2.drew = s8 at hSss8 hB_0_s8 ⊢
    have hB_s8_s8 := Below.refl s8.heap.size s8
    refine wpAnyT_pure (i := 0) (v := ?_) rfl (by kernel_rfl) (by kernel_rfl) (by kernel_rfl) (fun _ _ _ h => h) (by rfl) ?_ ?_
    rotate_left
    · intro w; go_simp; try with_reducible rfl
    simp only [Act.put, rgA, rgB, rgC, rgD, rgE, rgF]
    refine wpAnyT_pure (i := 1) (v := ?_) rfl (by kernel_rfl) (by kernel_rfl) (by kernel_rfl) (fun _ _ _ h => h) (by rfl) ?_ ?_
    rotate_left
    · intro w; go_simp; try with_reducible rfl
    simp only [Act.put, rgA, rgB, rgC, rgD, rgE, rgF]
    refine wpAnyT_pure (i := 2) (v := ?_) rfl (by kernel_rfl) (by kernel_rfl) (by kernel_rfl) (fun _ _ _ h => h) (by rfl) ?_ ?_
    rotate_left
    · intro w; go_simp; try with_reducible rfl
    simp only [Act.put, rgA, rgB, rgC, rgD, rgE, rgF]
    refine wpAnyT_pure (i := 3) (v := ?_) rfl (by kernel_rfl) (by kernel_rfl) (by kernel_rfl) (fun _ _ _ h => h) (by rfl) ?_ ?_
    rotate_left
    · intro w; go_simp; try with_reducible rfl
    simp only [Act.put, rgA, rgB, rgC, rgD, rgE, rgF]
    refine wpAnyT_pure (i := 4) (v := ?_) rfl (by kernel_rfl) (by kernel_rfl) (by kernel_rfl) (fun _ _ _ h => h) (by rfl) ?_ ?_
    rotate_left
    · intro w; go_simp; try with_reducible rfl
    simp only [Act.put, rgA, rgB, rgC, rgD, rgE, rgF]
    refine wpAnyT_pure (i := 5) (v := ?_) rfl (by kernel_rfl) (by kernel_rfl) (by kernel_rfl) (fun _ _ _ h => h) (by rfl) ?_ ?_
    rotate_left
    · intro w; go_simp; try with_reducible rfl
    simp only [Act.put, rgA, rgB, rgC, rgD, rgE, rgF]
    refine wpAnyT_pure (i := 6) (v := ?_) rfl (by kernel_rfl) (by kernel_rfl) (by kernel_rfl) (fun _ _ _ h => h) (by rfl) ?_ ?_
    rotate_left
    · intro w; go_simp; try with_reducible rfl
    simp only [Act.put, rgA, rgB, rgC, rgD, rgE, rgF]
    refine wpAnyT_one (i := 7) (by kernel_rfl) rfl (by rfl) ?_
    refine wp_enter (f := 27) (args := #[.pointer (some ⟨bf, 0, none⟩), .pointer (some ⟨bf, 0, none⟩), .pointer (some ⟨bf, 2, none⟩), .func (.func 28) #[] #[]]) (by go_simp) (many28 (sw := false) s8 (show FinV false w.heap.size bf b3 b8 al cl l ar cr r tol s8 (st1 l r tol) from HF1.out.below hB_0_s8) (by omega) (enters_of Try.func28 (by kernel_rfl) rfl) pairC_F) ?_
    rintro e w109 ⟨rfl, hF2, hB3⟩
    have HF2 := Lib.hid (show Fin6 w.heap.size bf b3 b8 al cl l ar cr r tol w109 (st2 l r tol) from hF2)
    have HB3 := Lib.hid (show Below w.heap.size w2 w109 from ((hB_0_s8).mono HF1.out.lt).trans hB3)
    clear hF2 hB3
    refine ⟨_, rfl, fun h => absurd h (by decide), ?_⟩
    try simp only [Act.put, rgA, rgB, rgC, rgD, rgE, rgF]
    refine wpAnyT_done (by kernel_rfl) ?_ _
    obtain ⟨w3, rfl⟩ : ∃ q, q = w109 := ⟨_, rfl⟩
    go_wp2_with fail
    have hC1 : Cells [] w3 := trivial
    refine wp_region_T (Cells []) (fun i => i == 7) (by kernel_rfl) ?_
    have hSss10 := Cells.drew hC1
    have hB_0_s10 : Below w3.heap.size w3 w3.drew := below_drew _
    generalize w3.drew = s10 at hSss10 hB_0_s10 ⊢
    have hB_s10_s10 := Below.refl s10.heap.size s10
    refine wpAnyT_pure (i := 0) (v := ?_) rfl (by kernel_rfl) (by kernel_rfl) (by kernel_rfl) (fun _ _ _ h => h) (by rfl) ?_ ?_
    rotate_left
    · intro w; go_simp; try with_reducible rfl
    simp only [Act.put, rgA, rgB, rgC, rgD, rgE, rgF]
    refine wpAnyT_pure (i := 1) (v := ?_) rfl (by kernel_rfl) (by kernel_rfl) (by kernel_rfl) (fun _ _ _ h => h) (by rfl) ?_ ?_
    rotate_left
    · intro w; go_simp; try with_reducible rfl
    simp only [Act.put, rgA, rgB, rgC, rgD, rgE, rgF]
    refine wpAnyT_pure (i := 2) (v := ?_) rfl (by kernel_rfl) (by kernel_rfl) (by kernel_rfl) (fun _ _ _ h => h) (by rfl) ?_ ?_
    rotate_left
    · intro w; go_simp; try with_reducible rfl
    simp only [Act.put, rgA, rgB, rgC, rgD, rgE, rgF]
    refine wpAnyT_pure (i := 3) (v := ?_) rfl (by kernel_rfl) (by kernel_rfl) (by kernel_rfl) (fun _ _ _ h => h) (by rfl) ?_ ?_
    rotate_left
    · intro w; go_simp; try with_reducible rfl
    simp only [Act.put, rgA, rgB, rgC, rgD, rgE, rgF]
    refine wpAnyT_pure (i := 4) (v := ?_) rfl (by kernel_rfl) (by kernel_rfl) (by kernel_rfl) (fun _ _ _ h => h) (by rfl) ?_ ?_
    rotate_left
    · intro w; go_simp; try with_reducible rfl
    simp only [Act.put, rgA, rgB, rgC, rgD, rgE, rgF]
    refine wpAnyT_pure (i := 5) (v := ?_) rfl (by kernel_rfl) (by kernel_rfl) (by kernel_rfl) (fun _ _ _ h => h) (by rfl) ?_ ?_
    rotate_left
    · intro w; go_simp; try with_reducible rfl
    simp only [Act.put, rgA, rgB, rgC, rgD, rgE, rgF]
    refine wpAnyT_pure (i := 6) (v := ?_) rfl (by kernel_rfl) (by kernel_rfl) (by kernel_rfl) (fun _ _ _ h => h) (by rfl) ?_ ?_
    rotate_left
    · intro w; go_simp; try with_reducible rfl
    simp only [Act.put, rgA, rgB, rgC, rgD, rgE, rgF]
    refine wpAnyT_one (i := 7) (by kernel_rfl) rfl (by rfl) ?_
    refine wp_enter (f := 27) (args := #[.pointer (some ⟨bf, 0, none⟩), .pointer (some ⟨bf, 2, none⟩), .pointer (some ⟨bf, 0, none⟩), .func (.func 29) #[] #[]]) (by go_simp) (many28 (sw := true) s10 (show FinV true w.heap.size bf b8 b3 ar cr r al cl l tol s10 (swapS (st2 l r tol)) from HF2.out.below hB_0_s10) (by simp only [swapS]; omega) (enters_of Try.func29 (by kernel_rfl) rfl) pairC_T) ?_
    rintro e w111 ⟨rfl, hF2, hB3⟩
    have HF3 := Lib.hid (show Fin6 w.heap.size bf b3 b8 al cl l ar cr r tol w111 (st3 l r tol) from hF2)
    have HB4 := Lib.hid (show Below w.heap.size w3 w111 from ((hB_0_s10).mono HF2.out.lt).trans hB3)
    clear hF2 hB3
    refine ⟨_, rfl, fun h => absurd h (by decide), ?_⟩
    try simp only [Act.put, rgA, rgB, rgC, rgD, rgE, rgF]
    refine wpAnyT_done (by kernel_rfl) ?_ _
    obtain ⟨w4, rfl⟩ : ∃ q, q = w111 := ⟨_, rfl⟩
    obtain ⟨oa, ol, oc, SO, q5, hO, hSO, hvO⟩ := HF3.out.outs
    have HO := Lib.hid hO
    have HSO := Lib.hid hSO
    clear hO hSO hvO
    go_wp2_with fail
    go_ret2
    refine ⟨.slice oa ol oc, by rw [HPM.out]; rfl, ?_, HBP.out.trans ((HB2.out.trans HB3.out).trans HB4.out)⟩
    rw [HPM.out]
    exact HO.out.rd _ (fun b hb => ⟨(HSO.out b hb).1.1, (HO.out.bound b hb).2⟩) (fun b hb => HO.out.own b hb)
end Go.Proofs.Ytpobckedeffjmaa

/- Layer 28: the law's open, to, awake. -/
set_option linter.unusedSimpArgs false
set_option maxRecDepth 50000
namespace Go.Proofs.Ytpobckedeffjmaa
open Go.RowKit Go

theorem int_at {S : Nat → Prop} {w : World} {a : Option Addr} {len cap : Nat} {l : List Int} (h : Rd (.sl (.int .i64)) S w [.slice a len cap] l) (i : Nat) (hi : i < l.length) :
    ∃ b off x, a = some ⟨b, off, none⟩ ∧ S b ∧ w.cell? ⟨b, off + i, none⟩ = some (.int .i64 x) ∧ (Lit.int .i64 x).wf = true ∧ l[i]?.getD 0 = x := by
  obtain ⟨hl, -, -, vs, hr, hor⟩ := h.sl_flat
  obtain ⟨c, hc, hcc, hrd⟩ := hr.at_ i hi
  have hl' : List.length l = len := hl
  rcases hor with h0 | ⟨b, off, rfl, hb, hcell⟩
  · omega
  · obtain ⟨rfl, hw⟩ := hrd
    refine ⟨b, off, l[i], rfl, hb, ?_, hw, by simp [hi]⟩
    have := hcell _ _ (hcc 0 _ rfl)
    simpa [Ty.sz] using this
theorem pair_at {S : Nat → Prop} {w : World} {a : Option Addr} {len cap : Nat} {l : List P2} (h : Rd (.sl pairT) S w [.slice a len cap] (l.map pairD)) (i : Nat) (hi : i < l.length) :
    ∃ b off a1 c1 a2 c2, a = some ⟨b, off, none⟩ ∧ S b ∧ w.cell? ⟨b, off + i * 2, none⟩ = some (.slice a1 l[i].1.length c1) ∧ w.cell? ⟨b, off + i * 2 + 1, none⟩ = some (.slice a2 l[i].2.length c2) ∧
      Rd (.sl refT) S w [.slice a1 l[i].1.length c1] (l[i].1.map R2.d) ∧ Rd (.sl refT) S w [.slice a2 l[i].2.length c2] (l[i].2.map R2.d) := by
  obtain ⟨hl, -, -, vs, hr, hor⟩ := h.sl_flat
  obtain ⟨c, hc, hcc, hrd⟩ := hr.at_ i (by rw [List.length_map]; exact hi)
  rw [List.getElem_map] at hrd
  rcases hor with h0 | ⟨b, off, rfl, hb, hcell⟩
  · rw [List.length_map] at hl; omega
  · generalize l[i] = s at hrd ⊢
    obtain ⟨s1, s2⟩ := s
    obtain ⟨d1, r1, rfl, h1, d2, r2, rfl, h2, rfl⟩ := hrd
    obtain ⟨a1, n1, c1, rfl, hn1, -⟩ := id h1
    obtain ⟨a2, n2, c2, rfl, hn2, -⟩ := id h2
    have e1 : n1 = s1.length := rd_len h1
    have e2 : n2 = s2.length := rd_len h2
    subst e1 e2
    refine ⟨b, off, a1, c1, a2, c2, rfl, hb, ?_, ?_, h1, h2⟩
    · rw [show off + i * 2 = off + (i * pairT.sz + 0) from rfl]; exact hcell _ _ (hcc 0 _ rfl)
    · rw [show off + i * 2 + 1 = off + (i * pairT.sz + 1) from rfl]; exact hcell _ _ (hcc 1 _ rfl)
/-- The law's open lines. -/
def openM (e : Int) (ns : List Int) (k : Nat) : List O3 := (List.range k).map fun i : Nat => ⟨⟨e, (i : Int)⟩, ns[i]?.getD 0⟩
theorem openM_succ (e : Int) (ns : List Int) (k : Nat) : openM e ns (k + 1) = openM e ns k ++ [⟨⟨e, (k : Int)⟩, ns[k]?.getD 0⟩] := by
  unfold openM; rw [List.range_succ, List.map_append]; rfl
theorem openM_len (e : Int) (ns : List Int) (k : Nat) : (openM e ns k).length = k := by simp [openM]
set_option maxHeartbeats 2000000 in
theorem open28 {S : Nat → Prop} (w : World) (e0 : Int) (he : (Lit.int .i64 e0).wf = true) (a : Option Addr) (c : Nat) (ns : List Int) (hn : ns.length ≤ 1000) (h : Rd (.sl (.int .i64)) S w [.slice a ns.length c] ns) (hS : ∀ b, S b → b < w.heap.size) :
    Calls Try.prog 24 #[.int .i64 e0, .slice a ns.length c] w fun e w' => ∃ v, e = .returned v ∧ Owns openT 48 w.heap.size (fun _ => False) w' v ((openM e0 ns ns.length).map O3.d) ∧ Below w.heap.size w w' := by
  have H := Lib.hid h
  have HS := Lib.hid hS
  clear h hS
  go_enter Try.func24, Try.ntmps24
  go_wp2_with fail
  go_loopw [5, 10] (fun v iv wr => ∃ (k : Nat) (av : Option Addr) (lv cv : Nat), k ≤ ns.length ∧ iv = .int .i64 (k : Int) ∧ v = .slice av lv cv ∧ Owns openT 48 w.heap.size (fun _ => False) wr (.slice av lv cv) ((openM e0 ns k).map O3.d) ∧ Below w.heap.size w wr) (fun _ iv _ => ns.length - (intOf iv).toNat)
  case atStart => exact ⟨0, none, 0, 0, Nat.zero_le _, rfl, rfl, Owns.nil _ _ _ _, Below.refl _ _⟩
  case round =>
    obtain ⟨k, av, lv, cv, hk, rfl, rfl, hO, hB⟩ := hrel
    have HO := Lib.hid hO
    have HB := Lib.hid hB
    by_cases hkl : k < ns.length
    · have hkI : (k : Int) < (ns.length : Int) := by omega
      obtain ⟨b, off, x, rfl, -, m0, hw, hx⟩ := int_at (H.out.below hB HS.out) k hkl
      have HNK := Lib.hid hx
      have HKL := Lib.hid hkl
      have HOK := Lib.hid (show O3.ok ⟨⟨e0, (k : Int)⟩, x⟩ from ⟨⟨he, (wf_i64 (by omega) (by omega) : (Lit.int .i64 (k : Int)).wf = true)⟩, hw⟩)
      clear hO hB hkl hk hx hw
      go_wp2_with (at_builtin; go_must (refine wpList_app _ rfl _ _ 28 rfl (e := openT) (te := 48) info_open Try.underlying28 rfl (by decide) (v := .slice av lv cv) rfl (Owns.alloc HO.out _) (by have := HB.out.size; simp only [World.size_alloc]; omega) rfl (ys := [O3.d ⟨⟨e0, (k : Int)⟩, x⟩]) (Src.new _ [_, _, _] _ _ _) (RdL.one (e := openT) (open_rd (o := ⟨⟨e0, (k : Int)⟩, x⟩) HOK.out)) (by simp only [List.length_map, openM_len, List.length_cons, List.length_nil]; omega) (by simp only [List.length_map, openM_len, List.length_cons, List.length_nil]; omega) ?_); intro v' w1 O1 g1 _ hob; obtain ⟨av', lv', cv', rfl, -⟩ := O1.slice; have HO1 := Lib.hid O1; have HG1 := Lib.hid g1; clear O1 g1 hob)
      go_roundw
      case rel =>
        refine ⟨k + 1, av', lv', cv', HKL.out, by go_num, rfl, ?_, (HB.out.alloc HB.out.size _).grown HG1.out (by have := HB.out.size; simp only [World.size_alloc]; omega) (fun c hc => (HO.out.own c hc).1)⟩
        rw [openM_succ, List.map_append, HNK.out]
        exact HO1.out
      case measure => have := HKL.out; simp [intOf]; try omega
    · obtain rfl : k = ns.length := by omega
      have hkI : ¬ ((ns.length : Nat) : Int) < (ns.length : Int) := by omega
      clear hO hB hkl hk
      go_wp2_with fail
      go_ret
      exact ⟨_, rfl, HO.out, HB.out⟩
/-- The example. -/
def exL : List O3 := openM 1 [100, 70] 2
def exR : List O3 := openM 2 [-40, -101, -30] 3
theorem ex_prop : propM exL exR 1 = ([([⟨1, 0⟩], [⟨2, 1⟩]), ([⟨1, 1⟩], [⟨2, 0⟩, ⟨2, 2⟩])], 0) := by decide +kernel
set_option maxHeartbeats 2000000 in
theorem awake28 (w : World) : Calls Try.prog 9 #[] w fun e w' => e = .returned (.bool true) ∧ Below w.heap.size w w' := by
  go_enter Try.func9, Try.ntmps9
  have hB1 := (Below.refl w.heap.size w).alloc (Nat.le_refl _) (.cells #[.int .i64 100, .int .i64 70] 3)
  have hr1 : Rd (.sl (.int .i64)) (fun b => b = w.heap.size) (w.alloc (.cells #[.int .i64 100, .int .i64 70] 3)) [.slice (some ⟨w.heap.size, 0, none⟩) 2 2] [100, 70] := by
    refine Rd.sl_of_flat (vs := [.int .i64 100, .int .i64 70]) rfl (Nat.le_refl _) (by omega) (RdL.ints .i64 _ _ [100, 70] (fun x hx => by simp at hx; rcases hx with rfl | rfl <;> decide)) (.inr ⟨_, 0, rfl, rfl, fun j u hu => ?_⟩)
    rw [Nat.zero_add, blk_cell (heap_alloc_new w _)]; simpa using hu
  have HO1 := Lib.hid (open28 _ 1 (by decide) (some ⟨w.heap.size, 0, none⟩) 2 [100, 70] (by decide) hr1 (fun b hb => by rw [hb]; simp))
  have HB1 := Lib.hid hB1
  clear hB1 hr1
  go_wp2_with fail
  refine HO1.out.mono ?_
  rintro e w1 ⟨v1, rfl, hO1, hB1⟩
  obtain ⟨a1, n1, c1, rfl, hn1, -⟩ := hO1.slice
  have HR1 := Lib.hid hO1
  have HW1 := Lib.hid (below_step HB1.out hB1)
  have hB2 := (Below.refl w1.heap.size w1).alloc (Nat.le_refl _) (.cells #[.int .i64 (-40), .int .i64 (-101), .int .i64 (-30)] 3)
  have hr2 : Rd (.sl (.int .i64)) (fun b => b = w1.heap.size) (w1.alloc (.cells #[.int .i64 (-40), .int .i64 (-101), .int .i64 (-30)] 3)) [.slice (some ⟨w1.heap.size, 0, none⟩) 3 3] [-40, -101, -30] := by
    refine Rd.sl_of_flat (vs := [.int .i64 (-40), .int .i64 (-101), .int .i64 (-30)]) rfl (Nat.le_refl _) (by omega) (RdL.ints .i64 _ _ [-40, -101, -30] (fun x hx => by simp at hx; rcases hx with rfl | rfl | rfl <;> decide)) (.inr ⟨_, 0, rfl, rfl, fun j u hu => ?_⟩)
    rw [Nat.zero_add, blk_cell (heap_alloc_new w1 _)]; simpa using hu
  have HO2 := Lib.hid (open28 _ 2 (by decide) (some ⟨w1.heap.size, 0, none⟩) 3 [-40, -101, -30] (by decide) hr2 (fun b hb => by rw [hb]; simp))
  have HB2 := Lib.hid hB2
  clear hB2 hr2 hB1 hO1
  go_wp2_with fail
  refine HO2.out.mono ?_
  rintro e w2 ⟨v2, rfl, hO2, hB2⟩
  obtain ⟨a2, n2, c2, rfl, hn2, -⟩ := hO2.slice
  have hb12 := below_step HB2.out hB2
  have hR1 := (HR1.out.below hb12).rd (fun b => b < w2.heap.size) (fun _ h => h.elim) (fun b hb => by have := (HR1.out.own b hb).2; have := hb12.size; omega)
  have hR2 := hO2.rd (fun b => b < w2.heap.size) (fun _ h => h.elim) (fun b hb => (hO2.own b hb).2)
  have hn1 : n1 = exL.length := by rw [hn1]; simp [exL, openM]
  have hn2 : n2 = exR.length := by rw [hn2]; simp [exR, openM]
  subst hn1 hn2
  have HP := Lib.hid (propose28 w2 a1 c1 exL a2 c2 exR 1 hR1 hR2 (fun b hb => hb))
  have HW2 := Lib.hid (below_step HW1.out hb12)
  clear hR1 hR2 hO2 hB2 hb12
  go_wp2_with fail
  refine HP.out.mono ?_
  rw [ex_prop]
  rintro e w3 ⟨v3, rfl, hR3, hB3⟩
  have HW3 := Lib.hid (below_step HW2.out hB3)
  obtain ⟨a3, n3, c3, hv3, -⟩ := id hR3
  simp only [List.cons.injEq, and_true] at hv3
  subst hv3
  have hn3 := rd_len hR3
  obtain ⟨b, off, a4, c4, a5, c5, rfl, -, m0, m1, h4, h5⟩ := pair_at hR3 1 (by decide)
  obtain ⟨b5, off5, rfl, -, k0, k1, -⟩ := ref_at h5 1 (by decide)
  simp only [List.getElem_cons_succ, List.getElem_cons_zero, List.length_cons, List.length_nil, Nat.zero_add, Nat.reduceAdd, Nat.reduceMul, Nat.one_mul] at hn3 m0 m1 k0 k1
  subst hn3
  clear hR3 h4 h5 hB3
  go_wp2_with fail
  go_ret
  exact ⟨rfl, HW3.out⟩
end Go.Proofs.Ytpobckedeffjmaa

/- Layer 28: the law's to, from. -/
set_option linter.unusedSimpArgs false
set_option maxRecDepth 50000
namespace Go.Proofs.Ytpobckedeffjmaa
open Go.RowKit Go

end Go.Proofs.Ytpobckedeffjmaa

/- Layer 28, plain: what has been used. -/
set_option linter.unusedSimpArgs false
namespace Go.Proofs.Ytpobckedeffjmaa
open Go.RowKit Go

/-- What is used stays so. -/
def Mono (a b : FS) : Prop := (∀ i, uat a.ul i = true → uat b.ul i = true) ∧ ∀ i, uat a.ur i = true → uat b.ur i = true
theorem Mono.refl (a : FS) : Mono a a := ⟨fun _ h => h, fun _ h => h⟩
theorem Mono.trans {a b c : FS} (h : Mono a b) (k : Mono b c) : Mono a c := ⟨fun i e => k.1 i (h.1 i e), fun i e => k.2 i (h.2 i e)⟩
end Go.Proofs.Ytpobckedeffjmaa

/- Layer 28: the reference's In. -/
set_option linter.unusedSimpArgs false
set_option maxRecDepth 50000
namespace Go.Proofs.Ytpobckedeffjmaa
open Go.RowKit Go

theorem ref_eql (w : World) (x y : R2) : Sem.run Try.prog (binOp .eql 41 x.v y.v) w = .ok (.bool (decide (x = y))) w := by
  obtain ⟨c, k⟩ := x
  obtain ⟨d, m⟩ := y
  have u3 := Try.underlying3
  have hS : Try.prog.underlying 41 = some (.struct (Try.prog.fieldsOf 41)) := by kernel_rfl
  have hp : Try.prog.stoodInHeld 41 = false := by kernel_rfl
  unfold R2.v
  rw [run_eql_struct, show (10000 : Nat) = 9999 + 1 from rfl, run_equalIn_agg w 9999 41 _ _ hS hp]
  simp only [Program.fieldsOf, Try.underlying41]
  go_simp
  by_cases h1 : c = d <;> by_cases h2 : k = m <;> simp [h1, h2]
set_option maxHeartbeats 2000000 in
theorem in28 {S : Nat → Prop} (w : World) (a : Option Addr) (c : Nat) (l : List R2) (x : R2) (h : Rd (.sl refT) S w [.slice a l.length c] (l.map R2.d)) (hS : ∀ b, S b → b < w.heap.size) :
    Calls Try.prog 16 #[.slice a l.length c, x.v] w fun e w' => e = .returned (.bool (decide (x ∈ l))) ∧ Below w.heap.size w w' := by
  obtain ⟨xe, xl⟩ := x
  have H := Lib.hid h
  have HS := Lib.hid hS
  unfold R2.v
  simp only
  have hlm : l.length ≤ 9223372036854775807 := Nat.le_trans ((rd_len h) ▸ h.sl_flat.2.1) h.sl_flat.2.2.1
  obtain ⟨rb, hrb⟩ : ∃ q, decide ((⟨xe, xl⟩ : R2) ∈ l) = q := ⟨_, rfl⟩
  rw [hrb]
  have HRB := Lib.hid hrb
  clear h hS hrb
  go_enter Try.func16, Try.ntmps16
  have hqx := heap_alloc_new w (.cells #[.int .i64 xe, .int .i64 xl] 41)
  have HBX := Lib.hid ((Below.refl w.heap.size w).alloc (Nat.le_refl _) (.cells #[.int .i64 xe, .int .i64 xl] 41))
  have HQX := Lib.hid hqx
  clear hqx
  go_wp2_with fail
  generalize World.alloc w (.cells #[.int .i64 xe, .int .i64 xl] 41) = w0 at *
  obtain ⟨bx, hbx⟩ : ∃ b, w.heap.size = b := ⟨_, rfl⟩
  rw [hbx] at HQX
  simp only [hbx]
  go_loopw [5] (fun iv wr => ∃ (k : Nat), k ≤ l.length ∧ iv = .int .i64 (k : Int) ∧ (∀ y ∈ l.take k, y ≠ ⟨xe, xl⟩) ∧ Below w0.heap.size w0 wr) (fun iv _ => l.length - (intOf iv).toNat)
  case atStart => exact ⟨0, Nat.zero_le _, rfl, fun y hy => by simp at hy, Below.refl _ _⟩
  case round =>
    obtain ⟨k, hk, rfl, hne, hB⟩ := hrel
    have HB := Lib.hid hB
    have HNE := Lib.hid hne
    have HBW := Lib.hid (show Below w.heap.size w wr from below_step HBX.out hB)
    by_cases hkl : k < l.length
    · have hkI : (k : Int) < (l.length : Int) := by omega
      obtain ⟨b, off, rfl, -, m0, m1, -⟩ := ref_at (H.out.below HBW.out HS.out) k hkl
      have hqx := (hB.block _ (blk_lt HQX.out)).trans HQX.out
      have HTK := Lib.hid (List.take_succ_eq_append_getElem hkl)
      have HIN := Lib.hid (List.getElem_mem hkl)
      have HKL := Lib.hid hkl
      generalize l[k] = y at m0 m1 HTK HIN
      obtain ⟨ye, yl⟩ := y
      simp only at m0 m1
      obtain ⟨eb, heb⟩ : ∃ q, decide ((⟨ye, yl⟩ : R2) = ⟨xe, xl⟩) = q := ⟨_, rfl⟩
      have hev := fun w => ref_eql w ⟨ye, yl⟩ ⟨xe, xl⟩
      unfold R2.v at hev
      rw [heb] at hev
      simp only at hev
      have HEB := Lib.hid heb
      have hC0 : Cells [(⟨b, off + k * 2, none⟩, .int .i64 ye), (⟨b, off + k * 2 + 1, none⟩, .int .i64 yl), (⟨bx, 0, none⟩, .int .i64 xe), (⟨bx, 1, none⟩, .int .i64 xl)] wr := ⟨m0, m1, blk_cell hqx 0, blk_cell hqx 1, trivial⟩
      clear hB hne hkl hk hqx m0 m1 heb
      go_wp2_with fail
      refine wp_region_T (Cells [(⟨b, off + k * 2, none⟩, .int .i64 ye), (⟨b, off + k * 2 + 1, none⟩, .int .i64 yl), (⟨bx, 0, none⟩, .int .i64 xe), (⟨bx, 1, none⟩, .int .i64 xl)]) (fun _ => false) (by kernel_rfl) ?_
      have hSss1 := Cells.drew hC0
      have hB_0_s1 : Below wr.heap.size wr wr.drew := below_drew _
      generalize wr.drew = s1 at hSss1 hB_0_s1 ⊢
      have hB_s1_s1 := Below.refl s1.heap.size s1
      refine wpAnyT_pure (i := 0) (v := ?_) rfl (by kernel_rfl) (by kernel_rfl) (by kernel_rfl) (fun _ _ _ h => h) (by rfl) ?_ ?_
      rotate_left
      · intro w; go_simp; try with_reducible rfl
      simp only [Act.put, rgA, rgB, rgC, rgD, rgE, rgF]
      refine wpAnyT_pure (i := 1) (v := ?_) rfl (by kernel_rfl) (by kernel_rfl) (by kernel_rfl) (fun _ _ _ h => h) (by rfl) ?_ ?_
      rotate_left
      · intro w; go_simp; try with_reducible rfl
      simp only [Act.put, rgA, rgB, rgC, rgD, rgE, rgF]
      refine wpAnyT_pure (i := 2) (v := ?_) rfl (by kernel_rfl) (by kernel_rfl) (by kernel_rfl) (fun _ _ _ h => h) (by rfl) ?_ ?_
      rotate_left
      · intro w; go_simp; try with_reducible rfl
      simp only [Act.put, rgA, rgB, rgC, rgD, rgE, rgF]
      refine wpAnyT_loadW (i := 3) (v := ?_) rfl (by kernel_rfl) (by kernel_rfl) (by kernel_rfl) (by kernel_rfl) (by kernel_rfl) (fun _ _ _ h => h) (Or.inl ⟨by rfl, ?_⟩) hSss1 ?_
      rotate_left
      · intro w hSw; obtain ⟨e0, e1, e2, e3, -⟩ := hSw; go_simp; try with_reducible rfl
      simp only [Act.put, rgA, rgB, rgC, rgD, rgE, rgF]
      refine wpAnyT_loadW (i := 4) (v := ?_) rfl (by kernel_rfl) (by kernel_rfl) (by kernel_rfl) (by kernel_rfl) (by kernel_rfl) (fun _ _ _ h => h) (Or.inl ⟨by rfl, ?_⟩) hSss1 ?_
      rotate_left
      · intro w hSw; obtain ⟨e0, e1, e2, e3, -⟩ := hSw; go_simp; try with_reducible rfl
      simp only [Act.put, rgA, rgB, rgC, rgD, rgE, rgF]
      refine wpAnyT_pure (i := 5) (v := ?_) rfl (by kernel_rfl) (by kernel_rfl) (by kernel_rfl) (fun _ _ _ h => h) (by rfl) ?_ ?_
      rotate_left
      · intro w; go_simp; try with_reducible rfl
      simp only [Act.put, rgA, rgB, rgC, rgD, rgE, rgF]
      refine wpAnyT_done (by kernel_rfl) ?_ _
      obtain ⟨wE, rfl⟩ : ∃ q, q = s1 := ⟨_, rfl⟩
      have HBE := Lib.hid (below_step (w0 := wr) (Below.refl _ wr) hB_0_s1)
      cases eb with
      | true =>
        have HT := Lib.hid (show rb = true from by
          rw [← HRB.out]
          have e := of_decide_eq_true HEB.out
          rw [← e]; exact decide_eq_true HIN.out)
        go_wp2_with fail
        go_ret
        exact ⟨by rw [HT.out]; rfl, below_step HBW.out HBE.out⟩
      | false =>
        go_wp2_with fail
        go_roundw
        case rel =>
          refine ⟨k + 1, HKL.out, by go_num, ?_, below_step HB.out HBE.out⟩
          intro z hz
          rw [HTK.out] at hz
          rcases List.mem_append.1 hz with hz | hz
          · exact HNE.out z hz
          · rw [List.mem_singleton.1 hz]; exact of_decide_eq_false HEB.out
        case measure => have := HKL.out; simp [intOf]; try omega
    · obtain rfl : k = l.length := by omega
      have hkI : ¬ ((l.length : Nat) : Int) < (l.length : Int) := by omega
      have HT := Lib.hid (show rb = false from by
        rw [← HRB.out]
        refine decide_eq_false (fun hm => ?_)
        exact hne _ (by rw [List.take_length]; exact hm) rfl)
      clear hB hne hkl hk
      go_wp2_with fail
      go_ret
      exact ⟨by rw [HT.out]; rfl, by have h := HBW.out; rw [hbx] at h; exact h⟩
end Go.Proofs.Ytpobckedeffjmaa

/- Layer 28: books, entries, matches: as data and in memory. -/
set_option linter.unusedSimpArgs false
set_option maxRecDepth 50000
namespace Go.Proofs.Ytpobckedeffjmaa
open Go.RowKit Go

abbrev lineT : Ty := .pr (.int .i64) (.pr (.int .i64) (.pr (.int .i64) .un))
abbrev entryT : Ty := .pr (.int .i64) (.pr (.int .i64) (.pr (.int .i64) (.pr (.int .i64) (.pr (.int .i64) (.pr .str (.pr (.sl lineT) .un))))))
abbrev matchT : Ty := .pr (.int .i64) (.pr (.sl refT) (.pr (.sl refT) (.pr (.int .i64) .un)))
abbrev accountT : Ty := .pr (.int .i64) (.pr (.int .i64) (.pr (.int .i64) (.pr (.int .i64) .un)))
abbrev entityT : Ty := .pr .str (.pr .str (.pr (.sl accountT) (.pr (.sl lineT) (.pr .bool .un))))
abbrev rolesT : Ty := .pr (.int .i64) (.pr (.int .i64) (.pr (.int .i64) (.pr (.int .i64) (.pr (.int .i64) (.pr (.int .i64) (.pr (.int .i64) (.pr (.int .i64) (.pr (.int .i64) (.pr (.int .i64) (.pr (.int .i64) (.pr (.int .i64) (.pr (.int .i64) (.pr (.int .i64) (.pr (.int .i64) .un))))))))))))))
abbrev groupT : Ty := .pr .str (.pr lineT (.pr (.sl accountT) (.pr rolesT (.pr (.sl entityT) .un))))
abbrev rateT : Ty := .pr .str (.pr (.int .i64) (.pr (.int .i64) (.pr (.int .i64) .un)))
abbrev stockT : Ty := .pr (.int .i64) (.pr (.int .i64) (.pr (.int .i64) (.pr (.int .i64) (.pr (.int .i64) .un))))
abbrev booksT : Ty := .pr groupT (.pr (.sl entryT) (.pr (.sl rateT) (.pr (.sl accountT) (.pr (.sl matchT) (.pr (.sl stockT) (.pr .str .un))))))
/-- A line. -/
structure L3 where
  ac : Int
  am : Int
  pa : Int
instance : Inhabited L3 := ⟨⟨0, 0, 0⟩⟩
def L3.d (x : L3) : lineT.den := (x.ac, x.am, x.pa, ())
def L3.ok (x : L3) : Prop := (Lit.int .i64 x.ac).wf = true ∧ (Lit.int .i64 x.am).wf = true ∧ (Lit.int .i64 x.pa).wf = true
def l3 (x : lineT.den) : L3 := ⟨x.1, x.2.1, x.2.2.1⟩
theorem d_l3 (x : lineT.den) : (l3 x).d = x := by obtain ⟨a, b, c, ⟨⟩⟩ := x; rfl
theorem map_d_l3 (l : List lineT.den) : (l.map l3).map L3.d = l := by
  rw [List.map_map]
  exact (List.map_congr_left (fun x _ => d_l3 x)).trans (List.map_id _)
/-- An entry. -/
structure En where
  id : Int
  en : Int
  dt : Int
  kd : Int
  of' : Int
  tx : ByteArray
  ln : List L3
def En.d (x : En) : entryT.den := (x.id, x.en, x.dt, x.kd, x.of', x.tx, x.ln.map L3.d, ())
def en7 (x : entryT.den) : En := ⟨x.1, x.2.1, x.2.2.1, x.2.2.2.1, x.2.2.2.2.1, x.2.2.2.2.2.1, List.map l3 x.2.2.2.2.2.2.1⟩
theorem d_en7 (x : entryT.den) : (en7 x).d = x := by
  obtain ⟨a, b, c, d, e, f, g, ⟨⟩⟩ := x
  show (a, b, c, d, e, f, (List.map l3 g).map L3.d, ()) = _
  rw [map_d_l3]
theorem map_d_en7 (l : List entryT.den) : (l.map en7).map En.d = l := by
  rw [List.map_map]
  exact (List.map_congr_left (fun x _ => d_en7 x)).trans (List.map_id _)
/-- A match. -/
structure M4 where
  id : Int
  l : List R2
  r : List R2
  st : Int
def M4.d (x : M4) : matchT.den := (x.id, x.l.map R2.d, x.r.map R2.d, x.st, ())
def m4 (x : matchT.den) : M4 := ⟨x.1, List.map r2 x.2.1, List.map r2 x.2.2.1, x.2.2.2.1⟩
theorem d_m4 (x : matchT.den) : (m4 x).d = x := by
  obtain ⟨a, b, c, d, ⟨⟩⟩ := x
  show (a, (List.map r2 b).map R2.d, (List.map r2 c).map R2.d, d, ()) = _
  rw [map_d_r2, map_d_r2]
theorem map_d_m4 (l : List matchT.den) : (l.map m4).map M4.d = l := by
  rw [List.map_map]
  exact (List.map_congr_left (fun x _ => d_m4 x)).trans (List.map_id _)
theorem line_at {S : Nat → Prop} {w : World} {a : Option Addr} {len cap : Nat} {l : List L3} (h : Rd (.sl lineT) S w [.slice a len cap] (l.map L3.d)) (i : Nat) (hi : i < l.length) :
    ∃ b off, a = some ⟨b, off, none⟩ ∧ S b ∧ w.cell? ⟨b, off + i * 3, none⟩ = some (.int .i64 l[i].ac) ∧ w.cell? ⟨b, off + i * 3 + 1, none⟩ = some (.int .i64 l[i].am) ∧ w.cell? ⟨b, off + i * 3 + 2, none⟩ = some (.int .i64 l[i].pa) ∧ l[i].ok := by
  obtain ⟨hl, -, -, vs, hr, hor⟩ := h.sl_flat
  obtain ⟨c, hc, hcc, hrd⟩ := hr.at_ i (by rw [List.length_map]; exact hi)
  rw [List.getElem_map] at hrd
  rcases hor with h0 | ⟨b, off, rfl, hb, hcell⟩
  · rw [List.length_map] at hl; omega
  · generalize l[i] = s at hrd ⊢
    obtain ⟨s1, s2, s3⟩ := s
    obtain ⟨d1, r1, rfl, ⟨rfl, h1⟩, d2, r2, rfl, ⟨rfl, h2⟩, d3, r3, rfl, ⟨rfl, h3⟩, rfl⟩ := hrd
    refine ⟨b, off, rfl, hb, ?_, ?_, ?_, ⟨h1, h2, h3⟩⟩
    · rw [show off + i * 3 = off + (i * lineT.sz + 0) from rfl]; exact hcell _ _ (hcc 0 _ rfl)
    · rw [show off + i * 3 + 1 = off + (i * lineT.sz + 1) from rfl]; exact hcell _ _ (hcc 1 _ rfl)
    · rw [show off + i * 3 + 2 = off + (i * lineT.sz + 2) from rfl]; exact hcell _ _ (hcc 2 _ rfl)
theorem entry_at {S : Nat → Prop} {w : World} {a : Option Addr} {len cap : Nat} {l : List En} (h : Rd (.sl entryT) S w [.slice a len cap] (l.map En.d)) (i : Nat) (hi : i < l.length) :
    ∃ b off la lc, a = some ⟨b, off, none⟩ ∧ S b ∧ (w.cell? ⟨b, off + i * 7, none⟩ = some (.int .i64 l[i].id) ∧ w.cell? ⟨b, off + i * 7 + 1, none⟩ = some (.int .i64 l[i].en) ∧ w.cell? ⟨b, off + i * 7 + 2, none⟩ = some (.int .i64 l[i].dt) ∧ w.cell? ⟨b, off + i * 7 + 3, none⟩ = some (.int .i64 l[i].kd) ∧ w.cell? ⟨b, off + i * 7 + 4, none⟩ = some (.int .i64 l[i].of') ∧
      w.cell? ⟨b, off + i * 7 + 5, none⟩ = some (.string l[i].tx) ∧ w.cell? ⟨b, off + i * 7 + 6, none⟩ = some (.slice la l[i].ln.length lc)) ∧ Rd (.sl lineT) S w [.slice la l[i].ln.length lc] (l[i].ln.map L3.d) := by
  obtain ⟨hl, -, -, vs, hr, hor⟩ := h.sl_flat
  obtain ⟨c, hc, hcc, hrd⟩ := hr.at_ i (by rw [List.length_map]; exact hi)
  rw [List.getElem_map] at hrd
  rcases hor with h0 | ⟨b, off, rfl, hb, hcell⟩
  · rw [List.length_map] at hl; omega
  · generalize l[i] = s at hrd ⊢
    obtain ⟨s1, s2, s3, s4, s5, s6, s7⟩ := s
    obtain ⟨d1, r1, rfl, ⟨rfl, h1⟩, d2, r2, rfl, ⟨rfl, h2⟩, d3, r3, rfl, ⟨rfl, h3⟩, d4, r4, rfl, ⟨rfl, h4⟩, d5, r5, rfl, ⟨rfl, h5⟩, d6, r6, rfl, ⟨rfl, h6⟩, d7, r7, rfl, h7, rfl⟩ := hrd
    obtain ⟨a7, n7, c7, rfl, hn7, -⟩ := id h7
    have e7 : n7 = s7.length := rd_len h7
    subst e7
    refine ⟨b, off, a7, c7, rfl, hb, ⟨?_, ?_, ?_, ?_, ?_, ?_, ?_⟩, h7⟩
    · rw [show off + i * 7 = off + (i * entryT.sz + 0) from rfl]; exact hcell _ _ (hcc 0 _ rfl)
    · rw [show off + i * 7 + 1 = off + (i * entryT.sz + 1) from rfl]; exact hcell _ _ (hcc 1 _ rfl)
    · rw [show off + i * 7 + 2 = off + (i * entryT.sz + 2) from rfl]; exact hcell _ _ (hcc 2 _ rfl)
    · rw [show off + i * 7 + 3 = off + (i * entryT.sz + 3) from rfl]; exact hcell _ _ (hcc 3 _ rfl)
    · rw [show off + i * 7 + 4 = off + (i * entryT.sz + 4) from rfl]; exact hcell _ _ (hcc 4 _ rfl)
    · rw [show off + i * 7 + 5 = off + (i * entryT.sz + 5) from rfl]; exact hcell _ _ (hcc 5 _ rfl)
    · rw [show off + i * 7 + 6 = off + (i * entryT.sz + 6) from rfl]; exact hcell _ _ (hcc 6 _ rfl)
theorem match_at {S : Nat → Prop} {w : World} {a : Option Addr} {len cap : Nat} {l : List M4} (h : Rd (.sl matchT) S w [.slice a len cap] (l.map M4.d)) (i : Nat) (hi : i < l.length) :
    ∃ b off la lc ra rc, a = some ⟨b, off, none⟩ ∧ S b ∧ (w.cell? ⟨b, off + i * 4, none⟩ = some (.int .i64 l[i].id) ∧ w.cell? ⟨b, off + i * 4 + 1, none⟩ = some (.slice la l[i].l.length lc) ∧ w.cell? ⟨b, off + i * 4 + 2, none⟩ = some (.slice ra l[i].r.length rc) ∧ w.cell? ⟨b, off + i * 4 + 3, none⟩ = some (.int .i64 l[i].st)) ∧
      Rd (.sl refT) S w [.slice la l[i].l.length lc] (l[i].l.map R2.d) ∧ Rd (.sl refT) S w [.slice ra l[i].r.length rc] (l[i].r.map R2.d) ∧ (Lit.int .i64 l[i].id).wf = true ∧ (Lit.int .i64 l[i].st).wf = true := by
  obtain ⟨hl, -, -, vs, hr, hor⟩ := h.sl_flat
  obtain ⟨c, hc, hcc, hrd⟩ := hr.at_ i (by rw [List.length_map]; exact hi)
  rw [List.getElem_map] at hrd
  rcases hor with h0 | ⟨b, off, rfl, hb, hcell⟩
  · rw [List.length_map] at hl; omega
  · generalize l[i] = s at hrd ⊢
    obtain ⟨s1, s2, s3, s4⟩ := s
    obtain ⟨d1, r1, rfl, ⟨rfl, h1⟩, d2, r2, rfl, h2, d3, r3, rfl, h3, d4, r4, rfl, ⟨rfl, h4⟩, rfl⟩ := hrd
    obtain ⟨a2, n2, c2, rfl, hn2, -⟩ := id h2
    have e2 : n2 = s2.length := rd_len h2
    subst e2
    obtain ⟨a3, n3, c3, rfl, hn3, -⟩ := id h3
    have e3 : n3 = s3.length := rd_len h3
    subst e3
    refine ⟨b, off, a2, c2, a3, c3, rfl, hb, ⟨?_, ?_, ?_, ?_⟩, h2, h3, h1, h4⟩
    · rw [show off + i * 4 = off + (i * matchT.sz + 0) from rfl]; exact hcell _ _ (hcc 0 _ rfl)
    · rw [show off + i * 4 + 1 = off + (i * matchT.sz + 1) from rfl]; exact hcell _ _ (hcc 1 _ rfl)
    · rw [show off + i * 4 + 2 = off + (i * matchT.sz + 2) from rfl]; exact hcell _ _ (hcc 2 _ rfl)
    · rw [show off + i * 4 + 3 = off + (i * matchT.sz + 3) from rfl]; exact hcell _ _ (hcc 3 _ rfl)
/-- Books as a value. -/
structure Bk (S : Nat → Prop) (w : World) (bs : Array Value) (es : List En) (ms : List M4) : Prop where
  sz : bs.size = 27
  e : ∃ a c, bs[21]? = some (.slice a es.length c) ∧ Rd (.sl entryT) S w [.slice a es.length c] (es.map En.d)
  m : ∃ a c, bs[24]? = some (.slice a ms.length c) ∧ Rd (.sl matchT) S w [.slice a ms.length c] (ms.map M4.d)
theorem Bk.below {S : Nat → Prop} {w w' : World} {n : Nat} {bs : Array Value} {es : List En} {ms : List M4} (h : Bk S w bs es ms) (hB : Below n w w') (hS : ∀ b, S b → b < n) : Bk S w' bs es ms := by
  obtain ⟨h0, ⟨a, c, h1, h2⟩, b, d, h3, h4⟩ := h
  exact ⟨h0, ⟨a, c, h1, h2.below hB hS⟩, b, d, h3, h4.below hB hS⟩
theorem rd_books {S : Nat → Prop} {w : World} {cs : List Value} {x : booksT.den} (h : Rd booksT S w cs x) : ∃ bs : Array Value, cs.toArray = bs ∧ Bk S w bs (List.map en7 x.2.1) (List.map m4 x.2.2.2.2.1) := by
  refine ⟨_, rfl, ?_⟩
  have hlen : cs.length = 27 := h.len
  obtain ⟨cg, c1, rfl, hg, ce, c2, rfl, he, cr, c3, rfl, hr, ch, c4, rfl, hh, cm, c5, rfl, hm, -⟩ := h
  have hgl : cg.length = 21 := hg.len
  obtain ⟨ea, el, ec, rfl, hel, -⟩ := id he
  obtain ⟨ra, rl, rc, rfl, -⟩ := id hr
  obtain ⟨ha, hl, hc, rfl, -⟩ := id hh
  obtain ⟨ma, ml, mc, rfl, hml, -⟩ := id hm
  refine ⟨by simpa using hlen, ⟨ea, ec, ?_, ?_⟩, ma, mc, ?_, ?_⟩
  · rw [List.getElem?_toArray, List.getElem?_append_right (by omega), hgl, List.length_map, hel]; rfl
  · rw [map_d_en7, List.length_map, hel]; exact he
  · rw [List.getElem?_toArray, List.getElem?_append_right (by omega), hgl, List.length_map, hml]; rfl
  · rw [map_d_m4, List.length_map, hml]; exact hm
/-! ### Plain -/
def findM (es : List En) (r : R2) : Option (Int × Int) :=
  match es.find? (fun e => decide (e.id = r.e)) with
  | none => none
  | some e => if r.l < 0 ∨ (e.ln.length : Int) ≤ r.l then none else some (e.en, (e.ln[r.l.toNat]?.getD default).pa)
/-- What Find returns. -/
def FindP (o : Option (Int × Int)) (e : Ending) : Prop :=
  ∃ (i0 en dt kd of' : Int) (tx : ByteArray) (la : Option Addr) (ll lc : Nat) (ac am pa : Int) (ok : Bool), e = .returned (.tuple #[.agg #[.int .i64 i0, .int .i64 en, .int .i64 dt, .int .i64 kd, .int .i64 of', .string tx, .slice la ll lc], .agg #[.int .i64 ac, .int .i64 am, .int .i64 pa], .bool ok]) ∧
    match o with
    | none => ok = false
    | some (x, y) => ok = true ∧ en = x ∧ pa = y
end Go.Proofs.Ytpobckedeffjmaa
