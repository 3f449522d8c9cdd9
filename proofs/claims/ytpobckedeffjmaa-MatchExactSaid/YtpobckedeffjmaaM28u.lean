/- Layer 28: Propose. -/
import Derived.Test.YtpobckedeffjmaaM28m
import Derived.Laws.MakeOwn
set_option linter.unusedSimpArgs false
set_option maxRecDepth 50000
namespace Go.Proofs.Ytpobckedeffjmaa
open Go.RowKit Go

def st0 (l r : List O3) : FS := ⟨List.replicate l.length false, List.replicate r.length false, []⟩
def st1 (l r : List O3) (tol : Int) : FS := oneAt l r tol (st0 l r) l.length
def st2 (l r : List O3) (tol : Int) : FS := manyAt false l r tol (st1 l r tol) l.length
def swapS (s : FS) : FS := ⟨s.ur, s.ul, s.out⟩
def st3 (l r : List O3) (tol : Int) : FS := swapS (manyAt true r l tol (swapS (st2 l r tol)) r.length)
def propM (l r : List O3) (tol : Int) : List P2 × Int :=
  if linesB l r = false then ([], 1) else if tol < 0 ∨ 1000000000000 < tol then ([], 2) else ((st3 l r tol).out, 0)
theorem info_bool : (Try.prog.info? 4).map (fun i => (i.zero, i.size, i.bytes)) = some (some (.bool false), 1, 1) := by kernel_rfl
theorem make_bools (w : World) (n : Nat) (hn : n ≤ 1000000) : (Instr.makeSlice 76 (.int .i64 (n : Int)) (.int .i64 (n : Int))).run Try.prog w = .ok (.slice (some ⟨w.heap.size, 0, none⟩) n n) (w.alloc (.cells (bRow (List.replicate n false)) 4)) := by
  obtain ⟨i, hi, hz0, hz1, hz2⟩ := info_parts info_bool
  have h := run_make (P := Try.prog) (w := w) 76 4 i (.bool false) Try.underlying76 hi hz0 .i64 .i64 n n (by omega) (Int.le_refl _) (by rw [hz2]; omega) (by omega)
  rw [h, hz1]
  congr 3
  · rw [Nat.mul_one, Int.toNat_natCast]
    apply Array.toList_inj.1
    rw [show (Value.bool false).cells = #[.bool false] from rfl, toList_madeCells_one]
    simp [bRow]
theorem linesB_true {l r : List O3} (h : linesB l r = true) : (∀ x ∈ l, amtB x.n = true) ∧ (∀ x ∈ r, amtB x.n = true) ∧ l.length ≤ 60 ∧ r.length ≤ 60 := by
  unfold linesB at h
  simp only [Bool.and_eq_true, decide_eq_true_eq, List.all_eq_true, List.mem_append] at h
  obtain ⟨⟨h1, h2⟩, h3, h4⟩ := h
  exact ⟨fun x hx => h4 x (.inl hx), fun x hx => h4 x (.inr hx), h1, h2⟩
set_option maxHeartbeats 4000000 in
theorem propose28 {S : Nat → Prop} (w : World) (al : Option Addr) (cl : Nat) (l : List O3) (ar : Option Addr) (cr : Nat) (r : List O3) (tol : Int)
    (h1 : Rd (.sl openT) S w [.slice al l.length cl] (l.map O3.d)) (h2 : Rd (.sl openT) S w [.slice ar r.length cr] (r.map O3.d)) (hS : ∀ b, S b → b < w.heap.size) :
    Calls Try.prog 10 #[.slice al l.length cl, .slice ar r.length cr, .int .i64 tol] w fun e w' => ∃ v, e = .returned (.tuple #[v, .int .i64 (propM l r tol).2]) ∧ Rd (.sl pairT) (fun b => w.heap.size ≤ b ∧ b < w'.heap.size) w' [v] ((propM l r tol).1.map pairD) ∧ Below w.heap.size w w' := by
  have H1 := Lib.hid h1
  have H2 := Lib.hid h2
  have HS := Lib.hid hS
  have HL := Lib.hid (lines28 w al cl l ar cr r h1 h2 hS)
  obtain ⟨lb, hlb⟩ : ∃ x, linesB l r = x := ⟨_, rfl⟩
  rw [hlb] at HL
  have HLB := Lib.hid hlb
  clear h1 h2 hS hlb
  go_enter Try.func10, Try.ntmps10
  go_wp2_with fail
  refine HL.out.mono ?_
  rintro e w1 ⟨rfl, hB1⟩
  cases lb with
  | false =>
    go_wp2_with fail
    go_ret2
    refine ⟨.slice none 0 0, by rw [show (propM l r tol).2 = 1 from by unfold propM; rw [HLB.out, if_pos rfl]]; rfl, ?_, hB1⟩
    rw [show (propM l r tol).1 = [] from by unfold propM; rw [HLB.out, if_pos rfl]]
    exact (Owns.nil pairT 0 0 w1).rd _ (fun _ h => h.elim) (fun _ h => by cases h)
  | true =>
    by_cases ht0 : tol < 0
    case pos =>
      go_wp2_with fail
      go_ret2
      refine ⟨.slice none 0 0, by rw [show (propM l r tol).2 = 2 from by unfold propM; rw [HLB.out, if_neg (by decide), if_pos (Or.inl ht0)]]; rfl, ?_, hB1⟩
      rw [show (propM l r tol).1 = [] from by unfold propM; rw [HLB.out, if_neg (by decide), if_pos (Or.inl ht0)]]
      exact (Owns.nil pairT 0 0 w1).rd _ (fun _ h => h.elim) (fun _ h => by cases h)
    by_cases ht1 : 1000000000000 < tol
    case pos =>
      go_wp2_with fail
      go_ret2
      refine ⟨.slice none 0 0, by rw [show (propM l r tol).2 = 2 from by unfold propM; rw [HLB.out, if_neg (by decide), if_pos (Or.inr ht1)]]; rfl, ?_, hB1⟩
      rw [show (propM l r tol).1 = [] from by unfold propM; rw [HLB.out, if_neg (by decide), if_pos (Or.inr ht1)]]
      exact (Owns.nil pairT 0 0 w1).rd _ (fun _ h => h.elim) (fun _ h => by cases h)
    have HPM := Lib.hid (show propM l r tol = ((st3 l r tol).out, 0) from by unfold propM; rw [HLB.out, if_neg (by decide), if_neg (by rintro (h | h) <;> contradiction)])
    obtain ⟨ham1, ham2, hll, hrl⟩ := linesB_true HLB.out
    have HAM := Lib.hid (And.intro ham1 ham2)
    have HB1 := Lib.hid hB1
    clear ham1 ham2 hB1
    have hC0 : Cells [] w1 := trivial
    go_wp2_with fail
    refine wp_cut [21, 22, 23, 24, 25, 26, 27, 28, 29, 30, 31, 32, 33, 8] (fun vs w' => ∃ v21 v22 v23 v24 v25 v26 v27 v28 v29 v30 v31 v32 v33 bf b3 b8, vs = [v21, v22, v23, v24, v25, v26, v27, v28, v29, v30, v31, v32, v33, .pointer (some ⟨bf, 0, none⟩)] ∧ Fin6 w.heap.size bf b3 b8 al cl l ar cr r tol w' (st0 l r) ∧ Below w.heap.size w w') ?_ ?_
    · skip
      refine wp_region_T (Cells []) (fun _ => false) (by kernel_rfl) ?_
      have hSss1 := Cells.drew hC0
      have hB_0_s1 : Below w1.heap.size w1 w1.drew := below_drew _
      generalize w1.drew = s1 at hSss1 hB_0_s1 ⊢
      have hB_s1_s1 := Below.refl s1.heap.size s1
      refine wpAnyT_pure (i := 0) (v := ?_) rfl (by kernel_rfl) (by kernel_rfl) (by kernel_rfl) (fun _ _ _ h => h) (by rfl) ?_ ?_
      rotate_left
      · intro w; go_simp; try with_reducible rfl
      simp only [Act.put, rgA, rgB, rgC, rgD, rgE, rgF]
      refine wpAnyT_pure (i := 1) (v := ?_) rfl (by kernel_rfl) (by kernel_rfl) (by kernel_rfl) (fun _ _ _ h => h) (by rfl) ?_ ?_
      rotate_left
      · intro w; go_simp; try with_reducible rfl
      simp only [Act.put, rgA, rgB, rgC, rgD, rgE, rgF]
      refine wpAnyT_pure (i := 2) (v := ?_) rfl (by kernel_rfl) (by kernel_rfl) (by kernel_rfl) (fun _ _ _ h => h) (by rfl) ?_ ?_
      rotate_left
      · intro w; go_simp; try with_reducible rfl
      simp only [Act.put, rgA, rgB, rgC, rgD, rgE, rgF]
      refine wpAnyT_pure (i := 5) (v := ?_) rfl (by kernel_rfl) (by kernel_rfl) (by kernel_rfl) (fun _ _ _ h => h) (by rfl) ?_ ?_
      rotate_left
      · intro w; go_simp; try with_reducible rfl
      simp only [Act.put, rgA, rgB, rgC, rgD, rgE, rgF]
      refine wpAnyT_pure (i := 6) (v := ?_) rfl (by kernel_rfl) (by kernel_rfl) (by kernel_rfl) (fun _ _ _ h => h) (by rfl) ?_ ?_
      rotate_left
      · intro w; go_simp; try with_reducible rfl
      simp only [Act.put, rgA, rgB, rgC, rgD, rgE, rgF]
      refine wpAnyT_pure (i := 7) (v := ?_) rfl (by kernel_rfl) (by kernel_rfl) (by kernel_rfl) (fun _ _ _ h => h) (by rfl) ?_ ?_
      rotate_left
      · intro w; go_simp; try with_reducible rfl
      simp only [Act.put, rgA, rgB, rgC, rgD, rgE, rgF]
      refine wpAnyT_pure (i := 10) (v := ?_) rfl (by kernel_rfl) (by kernel_rfl) (by kernel_rfl) (fun _ _ _ h => h) (by rfl) ?_ ?_
      rotate_left
      · intro w; go_simp; try with_reducible rfl
      simp only [Act.put, rgA, rgB, rgC, rgD, rgE, rgF]
      refine wpAnyT_two (i := 3) (k := 8) (by kernel_rfl) rfl rfl (by rfl) (by rfl) ?_ ?_
      · skip
        obtain ⟨b3, hb3⟩ : ∃ b, s1.heap.size = b := ⟨_, rfl⟩
        have hge3 : w1.heap.size ≤ b3 := hb3 ▸ Nat.le_trans (hB_0_s1).size (hB_s1_s1).size
        have hmk := make_bools s1 l.length (by omega)
        refine wp_newrow (v := .slice (some ⟨b3, 0, none⟩) l.length l.length) (cs := bRow (List.replicate l.length false)) (te := 4) (by rw [← hb3]; go_simp) ?_
        clear hmk
        intro w102 hX hN3
        rw [hb3] at hN3
        have hB_s1_w102 := below_step hB_s1_s1 hX
        have hB_w102_w102 := Below.refl w102.heap.size w102
        have hSsw102 := Cells.below hB_s1_w102 hSss1
        clear hX
        refine ⟨fun _ _ => hSsw102, ?_⟩
        try simp only [Act.put, rgA, rgB, rgC, rgD, rgE, rgF]
        refine wpAnyT_pure (i := 4) (v := ?_) rfl (by kernel_rfl) (by kernel_rfl) (by kernel_rfl) (fun _ _ _ h => h) (by rfl) ?_ ?_
        rotate_left
        · intro w; go_simp; try with_reducible rfl
        simp only [Act.put, rgA, rgB, rgC, rgD, rgE, rgF]
        refine wpAnyT_one (i := 8) (by kernel_rfl) rfl (by rfl) ?_
        obtain ⟨b8, hb8⟩ : ∃ b, w102.heap.size = b := ⟨_, rfl⟩
        have hge8 : w1.heap.size ≤ b8 := hb8 ▸ Nat.le_trans (hB_0_s1).size (hB_s1_w102).size
        have hmk := make_bools w102 r.length (by omega)
        refine wp_newrow (v := .slice (some ⟨b8, 0, none⟩) r.length r.length) (cs := bRow (List.replicate r.length false)) (te := 4) (by rw [← hb8]; go_simp) ?_
        clear hmk
        intro w103 hX hN8
        rw [hb8] at hN8
        have hB_s1_w103 := below_step hB_s1_w102 hX
        have hB_w102_w103 := below_step hB_w102_w102 hX
        have hB_w103_w103 := Below.refl w103.heap.size w103
        have hSsw103 := Cells.below hB_s1_w103 hSss1
        clear hX
        refine ⟨fun _ _ => hSsw103, ?_⟩
        try simp only [Act.put, rgA, rgB, rgC, rgD, rgE, rgF]
        refine wpAnyT_pure (i := 9) (v := ?_) rfl (by kernel_rfl) (by kernel_rfl) (by kernel_rfl) (fun _ _ _ h => h) (by rfl) ?_ ?_
        rotate_left
        · intro w; go_simp; try with_reducible rfl
        simp only [Act.put, rgA, rgB, rgC, rgD, rgE, rgF]
        refine wpAnyT_pure (i := 11) (v := ?_) rfl (by kernel_rfl) (by kernel_rfl) (by kernel_rfl) (fun _ _ _ h => h) (by rfl) ?_ ?_
        rotate_left
        · intro w; go_simp; try with_reducible rfl
        simp only [Act.put, rgA, rgB, rgC, rgD, rgE, rgF]
        refine wpAnyT_one (i := 12) (by kernel_rfl) rfl (by rfl) ?_
        obtain ⟨bf, hbf⟩ : ∃ b, w103.heap.size = b := ⟨_, rfl⟩
        have hgef : w1.heap.size ≤ bf := hbf ▸ Nat.le_trans (hB_0_s1).size (hB_s1_w103).size
        refine wp_newrow (v := .pointer (some ⟨bf, 0, none⟩)) (cs := #[.slice al l.length cl, .slice (some ⟨b3, 0, none⟩) l.length l.length, .slice ar r.length cr, .slice (some ⟨b8, 0, none⟩) r.length r.length, .int .i64 tol, .slice none 0 0]) (te := 80) (by rw [← hbf]; go_simp) ?_
        intro w104 hX hNf
        rw [hbf] at hNf
        have hB_s1_w104 := below_step hB_s1_w103 hX
        have hB_w102_w104 := below_step hB_w102_w103 hX
        have hB_w103_w104 := below_step hB_w103_w103 hX
        have hB_w104_w104 := Below.refl w104.heap.size w104
        have hSsw104 := Cells.below hB_s1_w104 hSss1
        clear hX
        refine ⟨fun _ _ => hSsw104, ?_⟩
        try simp only [Act.put, rgA, rgB, rgC, rgD, rgE, rgF]
        refine wpAnyT_pure (i := 13) (v := ?_) rfl (by kernel_rfl) (by kernel_rfl) (by kernel_rfl) (fun _ _ _ h => h) (by rfl) ?_ ?_
        rotate_left
        · intro w; go_simp; try with_reducible rfl
        simp only [Act.put, rgA, rgB, rgC, rgD, rgE, rgF]
        refine wpAnyT_done (by kernel_rfl) ?_ _
        have hq3 := ((hB_w102_w104).block _ (blk_lt hN3)).trans hN3
        have hq8 := ((hB_w103_w104).block _ (blk_lt hN8)).trans hN8
        have h38 : b3 ≠ b8 := by have := blk_lt hN3; have := blk_lt hN8; omega
        have hbP : Below w.heap.size w w104 := below_step HB1.out ((hB_0_s1).trans ((hB_s1_w104).mono (hB_0_s1).size))
        have h1s := HB1.out.size
        have hF : Fin6 w.heap.size bf b3 b8 al cl l ar cr r tol w104 (st0 l r) := by
          refine ⟨⟨.slice none 0 0, hNf, ⟨fun _ => False, Owns.nil _ _ _ _, fun _ h => h.elim⟩, fun b h => by cases h⟩, hq3, hq8, by simp [st0], by simp [st0], ⟨?_, by omega, by omega, ?_, ?_, h38⟩, ?_, ?_, hbP.size, ⟨HAM.out.1, HAM.out.2, hll, hrl, by omega, by omega⟩⟩
          · omega
          · intro e; subst e; rw [hq3] at hNf; simp at hNf
          · intro e; subst e; rw [hq8] at hNf; simp at hNf
          · exact (H1.out.below hbP HS.out).keep (fun _ _ => rfl) HS.out
          · exact (H2.out.below hbP HS.out).keep (fun _ _ => rfl) HS.out
        have HF := Lib.hid hF
        have HBP := Lib.hid hbP
        clear hF hbP
        refine cut_leaf ?_ ?_
        focus kernel_rfl
        exact ⟨_, _, _, _, _, _, _, _, _, _, _, _, _, bf, b3, b8, rfl, HF.out, HBP.out⟩
      · skip
        obtain ⟨b8, hb8⟩ : ∃ b, s1.heap.size = b := ⟨_, rfl⟩
        have hge8 : w1.heap.size ≤ b8 := hb8 ▸ Nat.le_trans (hB_0_s1).size (hB_s1_s1).size
        have hmk := make_bools s1 r.length (by omega)
        refine wp_newrow (v := .slice (some ⟨b8, 0, none⟩) r.length r.length) (cs := bRow (List.replicate r.length false)) (te := 4) (by rw [← hb8]; go_simp) ?_
        clear hmk
        intro w105 hX hN8
        rw [hb8] at hN8
        have hB_s1_w105 := below_step hB_s1_s1 hX
        have hB_w105_w105 := Below.refl w105.heap.size w105
        have hSsw105 := Cells.below hB_s1_w105 hSss1
        clear hX
        refine ⟨fun _ _ => hSsw105, ?_⟩
        try simp only [Act.put, rgA, rgB, rgC, rgD, rgE, rgF]
        refine wpAnyT_pure (i := 9) (v := ?_) rfl (by kernel_rfl) (by kernel_rfl) (by kernel_rfl) (fun _ _ _ h => h) (by rfl) ?_ ?_
        rotate_left
        · intro w; go_simp; try with_reducible rfl
        simp only [Act.put, rgA, rgB, rgC, rgD, rgE, rgF]
        refine wpAnyT_one (i := 3) (by kernel_rfl) rfl (by rfl) ?_
        obtain ⟨b3, hb3⟩ : ∃ b, w105.heap.size = b := ⟨_, rfl⟩
        have hge3 : w1.heap.size ≤ b3 := hb3 ▸ Nat.le_trans (hB_0_s1).size (hB_s1_w105).size
        have hmk := make_bools w105 l.length (by omega)
        refine wp_newrow (v := .slice (some ⟨b3, 0, none⟩) l.length l.length) (cs := bRow (List.replicate l.length false)) (te := 4) (by rw [← hb3]; go_simp) ?_
        clear hmk
        intro w106 hX hN3
        rw [hb3] at hN3
        have hB_s1_w106 := below_step hB_s1_w105 hX
        have hB_w105_w106 := below_step hB_w105_w105 hX
        have hB_w106_w106 := Below.refl w106.heap.size w106
        have hSsw106 := Cells.below hB_s1_w106 hSss1
        clear hX
        refine ⟨fun _ _ => hSsw106, ?_⟩
        try simp only [Act.put, rgA, rgB, rgC, rgD, rgE, rgF]
        refine wpAnyT_pure (i := 4) (v := ?_) rfl (by kernel_rfl) (by kernel_rfl) (by kernel_rfl) (fun _ _ _ h => h) (by rfl) ?_ ?_
        rotate_left
        · intro w; go_simp; try with_reducible rfl
        simp only [Act.put, rgA, rgB, rgC, rgD, rgE, rgF]
        refine wpAnyT_pure (i := 11) (v := ?_) rfl (by kernel_rfl) (by kernel_rfl) (by kernel_rfl) (fun _ _ _ h => h) (by rfl) ?_ ?_
        rotate_left
        · intro w; go_simp; try with_reducible rfl
        simp only [Act.put, rgA, rgB, rgC, rgD, rgE, rgF]
        refine wpAnyT_one (i := 12) (by kernel_rfl) rfl (by rfl) ?_
        obtain ⟨bf, hbf⟩ : ∃ b, w106.heap.size = b := ⟨_, rfl⟩
        have hgef : w1.heap.size ≤ bf := hbf ▸ Nat.le_trans (hB_0_s1).size (hB_s1_w106).size
        refine wp_newrow (v := .pointer (some ⟨bf, 0, none⟩)) (cs := #[.slice al l.length cl, .slice (some ⟨b3, 0, none⟩) l.length l.length, .slice ar r.length cr, .slice (some ⟨b8, 0, none⟩) r.length r.length, .int .i64 tol, .slice none 0 0]) (te := 80) (by rw [← hbf]; go_simp) ?_
        intro w107 hX hNf
        rw [hbf] at hNf
        have hB_s1_w107 := below_step hB_s1_w106 hX
        have hB_w105_w107 := below_step hB_w105_w106 hX
        have hB_w106_w107 := below_step hB_w106_w106 hX
        have hB_w107_w107 := Below.refl w107.heap.size w107
        have hSsw107 := Cells.below hB_s1_w107 hSss1
        clear hX
        refine ⟨fun _ _ => hSsw107, ?_⟩
        try simp only [Act.put, rgA, rgB, rgC, rgD, rgE, rgF]
        refine wpAnyT_pure (i := 13) (v := ?_) rfl (by kernel_rfl) (by kernel_rfl) (by kernel_rfl) (fun _ _ _ h => h) (by rfl) ?_ ?_
        rotate_left
        · intro w; go_simp; try with_reducible rfl
        simp only [Act.put, rgA, rgB, rgC, rgD, rgE, rgF]
        refine wpAnyT_done (by kernel_rfl) ?_ _
        have hq3 := ((hB_w106_w107).block _ (blk_lt hN3)).trans hN3
        have hq8 := ((hB_w105_w107).block _ (blk_lt hN8)).trans hN8
        have h38 : b3 ≠ b8 := by have := blk_lt hN3; have := blk_lt hN8; omega
        have hbP : Below w.heap.size w w107 := below_step HB1.out ((hB_0_s1).trans ((hB_s1_w107).mono (hB_0_s1).size))
        have h1s := HB1.out.size
        have hF : Fin6 w.heap.size bf b3 b8 al cl l ar cr r tol w107 (st0 l r) := by
          refine ⟨⟨.slice none 0 0, hNf, ⟨fun _ => False, Owns.nil _ _ _ _, fun _ h => h.elim⟩, fun b h => by cases h⟩, hq3, hq8, by simp [st0], by simp [st0], ⟨?_, by omega, by omega, ?_, ?_, h38⟩, ?_, ?_, hbP.size, ⟨HAM.out.1, HAM.out.2, hll, hrl, by omega, by omega⟩⟩
          · omega
          · intro e; subst e; rw [hq3] at hNf; simp at hNf
          · intro e; subst e; rw [hq8] at hNf; simp at hNf
          · exact (H1.out.below hbP HS.out).keep (fun _ _ => rfl) HS.out
          · exact (H2.out.below hbP HS.out).keep (fun _ _ => rfl) HS.out
        have HF := Lib.hid hF
        have HBP := Lib.hid hbP
        clear hF hbP
        refine cut_leaf ?_ ?_
        focus kernel_rfl
        exact ⟨_, _, _, _, _, _, _, _, _, _, _, _, _, bf, b3, b8, rfl, HF.out, HBP.out⟩
    rintro vs wP ⟨v21, v22, v23, v24, v25, v26, v27, v28, v29, v30, v31, v32, v33, bf, b3, b8, rfl, hF, hbP⟩
    simp only [puts, Act.put, List.setIfInBounds_toArray, List.set_cons_zero, List.set_cons_succ]
    have HF := Lib.hid hF
    have HBP := Lib.hid hbP
    clear hF hbP hC0
    go_wp2_with (go_at_call 26; refine (one28 wP HF.out (by simp [st0])).mono ?_; rintro e w2 ⟨rfl, hF1, hB2⟩; have HF1 := Lib.hid hF1; have HB2 := Lib.hid hB2; clear hF1 hB2)
    have ho1 : (st1 l r tol).out.length ≤ 60 := by have := oneAt_len l r tol (st0 l r) l.length; simp only [st0, List.length_nil] at this; unfold st1; simp only [st0]; omega
    have ho2 : (st2 l r tol).out.length ≤ 120 := by have := manyAt_len false l r tol (st1 l r tol) l.length; unfold st2; omega
    have hC0 : Cells [] w2 := trivial
    refine wp_region_T (Cells []) (fun i => i == 7) (by kernel_rfl) ?_
    have hSss8 := Cells.drew hC0
    have hB_0_s8 : Below w2.heap.size w2 w2.drew := below_drew _
    generalize w2.drew = s8 at hSss8 hB_0_s8 ⊢
    have hB_s8_s8 := Below.refl s8.heap.size s8
    refine wpAnyT_pure (i := 0) (v := ?_) rfl (by kernel_rfl) (by kernel_rfl) (by kernel_rfl) (fun _ _ _ h => h) (by rfl) ?_ ?_
    rotate_left
    · intro w; go_simp; try with_reducible rfl
    simp only [Act.put, rgA, rgB, rgC, rgD, rgE, rgF]
    refine wpAnyT_pure (i := 1) (v := ?_) rfl (by kernel_rfl) (by kernel_rfl) (by kernel_rfl) (fun _ _ _ h => h) (by rfl) ?_ ?_
    rotate_left
    · intro w; go_simp; try with_reducible rfl
    simp only [Act.put, rgA, rgB, rgC, rgD, rgE, rgF]
    refine wpAnyT_pure (i := 2) (v := ?_) rfl (by kernel_rfl) (by kernel_rfl) (by kernel_rfl) (fun _ _ _ h => h) (by rfl) ?_ ?_
    rotate_left
    · intro w; go_simp; try with_reducible rfl
    simp only [Act.put, rgA, rgB, rgC, rgD, rgE, rgF]
    refine wpAnyT_pure (i := 3) (v := ?_) rfl (by kernel_rfl) (by kernel_rfl) (by kernel_rfl) (fun _ _ _ h => h) (by rfl) ?_ ?_
    rotate_left
    · intro w; go_simp; try with_reducible rfl
    simp only [Act.put, rgA, rgB, rgC, rgD, rgE, rgF]
    refine wpAnyT_pure (i := 4) (v := ?_) rfl (by kernel_rfl) (by kernel_rfl) (by kernel_rfl) (fun _ _ _ h => h) (by rfl) ?_ ?_
    rotate_left
    · intro w; go_simp; try with_reducible rfl
    simp only [Act.put, rgA, rgB, rgC, rgD, rgE, rgF]
    refine wpAnyT_pure (i := 5) (v := ?_) rfl (by kernel_rfl) (by kernel_rfl) (by kernel_rfl) (fun _ _ _ h => h) (by rfl) ?_ ?_
    rotate_left
    · intro w; go_simp; try with_reducible rfl
    simp only [Act.put, rgA, rgB, rgC, rgD, rgE, rgF]
    refine wpAnyT_pure (i := 6) (v := ?_) rfl (by kernel_rfl) (by kernel_rfl) (by kernel_rfl) (fun _ _ _ h => h) (by rfl) ?_ ?_
    rotate_left
    · intro w; go_simp; try with_reducible rfl
    simp only [Act.put, rgA, rgB, rgC, rgD, rgE, rgF]
    refine wpAnyT_one (i := 7) (by kernel_rfl) rfl (by rfl) ?_
    refine wp_enter (f := 27) (args := #[.pointer (some ⟨bf, 0, none⟩), .pointer (some ⟨bf, 0, none⟩), .pointer (some ⟨bf, 2, none⟩), .func (.func 28) #[] #[]]) (by go_simp) (many28 (sw := false) s8 (show FinV false w.heap.size bf b3 b8 al cl l ar cr r tol s8 (st1 l r tol) from HF1.out.below hB_0_s8) (by omega) (enters_of Try.func28 (by kernel_rfl) rfl) pairC_F) ?_
    rintro e w109 ⟨rfl, hF2, hB3⟩
    have HF2 := Lib.hid (show Fin6 w.heap.size bf b3 b8 al cl l ar cr r tol w109 (st2 l r tol) from hF2)
    have HB3 := Lib.hid (show Below w.heap.size w2 w109 from ((hB_0_s8).mono HF1.out.lt).trans hB3)
    clear hF2 hB3
    refine ⟨_, rfl, fun h => absurd h (by decide), ?_⟩
    try simp only [Act.put, rgA, rgB, rgC, rgD, rgE, rgF]
    refine wpAnyT_done (by kernel_rfl) ?_ _
    obtain ⟨w3, rfl⟩ : ∃ q, q = w109 := ⟨_, rfl⟩
    go_wp2_with fail
    have hC1 : Cells [] w3 := trivial
    refine wp_region_T (Cells []) (fun i => i == 7) (by kernel_rfl) ?_
    have hSss10 := Cells.drew hC1
    have hB_0_s10 : Below w3.heap.size w3 w3.drew := below_drew _
    generalize w3.drew = s10 at hSss10 hB_0_s10 ⊢
    have hB_s10_s10 := Below.refl s10.heap.size s10
    refine wpAnyT_pure (i := 0) (v := ?_) rfl (by kernel_rfl) (by kernel_rfl) (by kernel_rfl) (fun _ _ _ h => h) (by rfl) ?_ ?_
    rotate_left
    · intro w; go_simp; try with_reducible rfl
    simp only [Act.put, rgA, rgB, rgC, rgD, rgE, rgF]
    refine wpAnyT_pure (i := 1) (v := ?_) rfl (by kernel_rfl) (by kernel_rfl) (by kernel_rfl) (fun _ _ _ h => h) (by rfl) ?_ ?_
    rotate_left
    · intro w; go_simp; try with_reducible rfl
    simp only [Act.put, rgA, rgB, rgC, rgD, rgE, rgF]
    refine wpAnyT_pure (i := 2) (v := ?_) rfl (by kernel_rfl) (by kernel_rfl) (by kernel_rfl) (fun _ _ _ h => h) (by rfl) ?_ ?_
    rotate_left
    · intro w; go_simp; try with_reducible rfl
    simp only [Act.put, rgA, rgB, rgC, rgD, rgE, rgF]
    refine wpAnyT_pure (i := 3) (v := ?_) rfl (by kernel_rfl) (by kernel_rfl) (by kernel_rfl) (fun _ _ _ h => h) (by rfl) ?_ ?_
    rotate_left
    · intro w; go_simp; try with_reducible rfl
    simp only [Act.put, rgA, rgB, rgC, rgD, rgE, rgF]
    refine wpAnyT_pure (i := 4) (v := ?_) rfl (by kernel_rfl) (by kernel_rfl) (by kernel_rfl) (fun _ _ _ h => h) (by rfl) ?_ ?_
    rotate_left
    · intro w; go_simp; try with_reducible rfl
    simp only [Act.put, rgA, rgB, rgC, rgD, rgE, rgF]
    refine wpAnyT_pure (i := 5) (v := ?_) rfl (by kernel_rfl) (by kernel_rfl) (by kernel_rfl) (fun _ _ _ h => h) (by rfl) ?_ ?_
    rotate_left
    · intro w; go_simp; try with_reducible rfl
    simp only [Act.put, rgA, rgB, rgC, rgD, rgE, rgF]
    refine wpAnyT_pure (i := 6) (v := ?_) rfl (by kernel_rfl) (by kernel_rfl) (by kernel_rfl) (fun _ _ _ h => h) (by rfl) ?_ ?_
    rotate_left
    · intro w; go_simp; try with_reducible rfl
    simp only [Act.put, rgA, rgB, rgC, rgD, rgE, rgF]
    refine wpAnyT_one (i := 7) (by kernel_rfl) rfl (by rfl) ?_
    refine wp_enter (f := 27) (args := #[.pointer (some ⟨bf, 0, none⟩), .pointer (some ⟨bf, 2, none⟩), .pointer (some ⟨bf, 0, none⟩), .func (.func 29) #[] #[]]) (by go_simp) (many28 (sw := true) s10 (show FinV true w.heap.size bf b8 b3 ar cr r al cl l tol s10 (swapS (st2 l r tol)) from HF2.out.below hB_0_s10) (by simp only [swapS]; omega) (enters_of Try.func29 (by kernel_rfl) rfl) pairC_T) ?_
    rintro e w111 ⟨rfl, hF2, hB3⟩
    have HF3 := Lib.hid (show Fin6 w.heap.size bf b3 b8 al cl l ar cr r tol w111 (st3 l r tol) from hF2)
    have HB4 := Lib.hid (show Below w.heap.size w3 w111 from ((hB_0_s10).mono HF2.out.lt).trans hB3)
    clear hF2 hB3
    refine ⟨_, rfl, fun h => absurd h (by decide), ?_⟩
    try simp only [Act.put, rgA, rgB, rgC, rgD, rgE, rgF]
    refine wpAnyT_done (by kernel_rfl) ?_ _
    obtain ⟨w4, rfl⟩ : ∃ q, q = w111 := ⟨_, rfl⟩
    obtain ⟨oa, ol, oc, SO, q5, hO, hSO, hvO⟩ := HF3.out.outs
    have HO := Lib.hid hO
    have HSO := Lib.hid hSO
    clear hO hSO hvO
    go_wp2_with fail
    go_ret2
    refine ⟨.slice oa ol oc, by rw [HPM.out]; rfl, ?_, HBP.out.trans ((HB2.out.trans HB3.out).trans HB4.out)⟩
    rw [HPM.out]
    exact HO.out.rd _ (fun b hb => ⟨(HSO.out b hb).1.1, (HO.out.bound b hb).2⟩) (fun b hb => HO.out.own b hb)
end Go.Proofs.Ytpobckedeffjmaa

/- Layer 28: the law's open, to, awake. -/
set_option linter.unusedSimpArgs false
set_option maxRecDepth 50000
namespace Go.Proofs.Ytpobckedeffjmaa
open Go.RowKit Go

theorem int_at {S : Nat → Prop} {w : World} {a : Option Addr} {len cap : Nat} {l : List Int} (h : Rd (.sl (.int .i64)) S w [.slice a len cap] l) (i : Nat) (hi : i < l.length) :
    ∃ b off x, a = some ⟨b, off, none⟩ ∧ S b ∧ w.cell? ⟨b, off + i, none⟩ = some (.int .i64 x) ∧ (Lit.int .i64 x).wf = true ∧ l[i]?.getD 0 = x := by
  obtain ⟨hl, -, -, vs, hr, hor⟩ := h.sl_flat
  obtain ⟨c, hc, hcc, hrd⟩ := hr.at_ i hi
  have hl' : List.length l = len := hl
  rcases hor with h0 | ⟨b, off, rfl, hb, hcell⟩
  · omega
  · obtain ⟨rfl, hw⟩ := hrd
    refine ⟨b, off, l[i], rfl, hb, ?_, hw, by simp [hi]⟩
    have := hcell _ _ (hcc 0 _ rfl)
    simpa [Ty.sz] using this
theorem pair_at {S : Nat → Prop} {w : World} {a : Option Addr} {len cap : Nat} {l : List P2} (h : Rd (.sl pairT) S w [.slice a len cap] (l.map pairD)) (i : Nat) (hi : i < l.length) :
    ∃ b off a1 c1 a2 c2, a = some ⟨b, off, none⟩ ∧ S b ∧ w.cell? ⟨b, off + i * 2, none⟩ = some (.slice a1 l[i].1.length c1) ∧ w.cell? ⟨b, off + i * 2 + 1, none⟩ = some (.slice a2 l[i].2.length c2) ∧
      Rd (.sl refT) S w [.slice a1 l[i].1.length c1] (l[i].1.map R2.d) ∧ Rd (.sl refT) S w [.slice a2 l[i].2.length c2] (l[i].2.map R2.d) := by
  obtain ⟨hl, -, -, vs, hr, hor⟩ := h.sl_flat
  obtain ⟨c, hc, hcc, hrd⟩ := hr.at_ i (by rw [List.length_map]; exact hi)
  rw [List.getElem_map] at hrd
  rcases hor with h0 | ⟨b, off, rfl, hb, hcell⟩
  · rw [List.length_map] at hl; omega
  · generalize l[i] = s at hrd ⊢
    obtain ⟨s1, s2⟩ := s
    obtain ⟨d1, r1, rfl, h1, d2, r2, rfl, h2, rfl⟩ := hrd
    obtain ⟨a1, n1, c1, rfl, hn1, -⟩ := id h1
    obtain ⟨a2, n2, c2, rfl, hn2, -⟩ := id h2
    have e1 : n1 = s1.length := rd_len h1
    have e2 : n2 = s2.length := rd_len h2
    subst e1 e2
    refine ⟨b, off, a1, c1, a2, c2, rfl, hb, ?_, ?_, h1, h2⟩
    · rw [show off + i * 2 = off + (i * pairT.sz + 0) from rfl]; exact hcell _ _ (hcc 0 _ rfl)
    · rw [show off + i * 2 + 1 = off + (i * pairT.sz + 1) from rfl]; exact hcell _ _ (hcc 1 _ rfl)
/-- The law's open lines. -/
def openM (e : Int) (ns : List Int) (k : Nat) : List O3 := (List.range k).map fun i : Nat => ⟨⟨e, (i : Int)⟩, ns[i]?.getD 0⟩
theorem openM_succ (e : Int) (ns : List Int) (k : Nat) : openM e ns (k + 1) = openM e ns k ++ [⟨⟨e, (k : Int)⟩, ns[k]?.getD 0⟩] := by
  unfold openM; rw [List.range_succ, List.map_append]; rfl
theorem openM_len (e : Int) (ns : List Int) (k : Nat) : (openM e ns k).length = k := by simp [openM]
set_option maxHeartbeats 2000000 in
theorem open28 {S : Nat → Prop} (w : World) (e0 : Int) (he : (Lit.int .i64 e0).wf = true) (a : Option Addr) (c : Nat) (ns : List Int) (hn : ns.length ≤ 1000) (h : Rd (.sl (.int .i64)) S w [.slice a ns.length c] ns) (hS : ∀ b, S b → b < w.heap.size) :
    Calls Try.prog 24 #[.int .i64 e0, .slice a ns.length c] w fun e w' => ∃ v, e = .returned v ∧ Owns openT 48 w.heap.size (fun _ => False) w' v ((openM e0 ns ns.length).map O3.d) ∧ Below w.heap.size w w' := by
  have H := Lib.hid h
  have HS := Lib.hid hS
  clear h hS
  go_enter Try.func24, Try.ntmps24
  go_wp2_with fail
  go_loopw [5, 10] (fun v iv wr => ∃ (k : Nat) (av : Option Addr) (lv cv : Nat), k ≤ ns.length ∧ iv = .int .i64 (k : Int) ∧ v = .slice av lv cv ∧ Owns openT 48 w.heap.size (fun _ => False) wr (.slice av lv cv) ((openM e0 ns k).map O3.d) ∧ Below w.heap.size w wr) (fun _ iv _ => ns.length - (intOf iv).toNat)
  case atStart => exact ⟨0, none, 0, 0, Nat.zero_le _, rfl, rfl, Owns.nil _ _ _ _, Below.refl _ _⟩
  case round =>
    obtain ⟨k, av, lv, cv, hk, rfl, rfl, hO, hB⟩ := hrel
    have HO := Lib.hid hO
    have HB := Lib.hid hB
    by_cases hkl : k < ns.length
    · have hkI : (k : Int) < (ns.length : Int) := by omega
      obtain ⟨b, off, x, rfl, -, m0, hw, hx⟩ := int_at (H.out.below hB HS.out) k hkl
      have HNK := Lib.hid hx
      have HKL := Lib.hid hkl
      have HOK := Lib.hid (show O3.ok ⟨⟨e0, (k : Int)⟩, x⟩ from ⟨⟨he, (wf_i64 (by omega) (by omega) : (Lit.int .i64 (k : Int)).wf = true)⟩, hw⟩)
      clear hO hB hkl hk hx hw
      go_wp2_with (at_builtin; go_must (refine wpList_app _ rfl _ _ 28 rfl (e := openT) (te := 48) info_open Try.underlying28 rfl (by decide) (v := .slice av lv cv) rfl (Owns.alloc HO.out _) (by have := HB.out.size; simp only [World.size_alloc]; omega) rfl (ys := [O3.d ⟨⟨e0, (k : Int)⟩, x⟩]) (Src.new _ [_, _, _] _ _ _) (RdL.one (e := openT) (open_rd (o := ⟨⟨e0, (k : Int)⟩, x⟩) HOK.out)) (by simp only [List.length_map, openM_len, List.length_cons, List.length_nil]; omega) (by simp only [List.length_map, openM_len, List.length_cons, List.length_nil]; omega) ?_); intro v' w1 O1 g1 _ hob; obtain ⟨av', lv', cv', rfl, -⟩ := O1.slice; have HO1 := Lib.hid O1; have HG1 := Lib.hid g1; clear O1 g1 hob)
      go_roundw
      case rel =>
        refine ⟨k + 1, av', lv', cv', HKL.out, by go_num, rfl, ?_, (HB.out.alloc HB.out.size _).grown HG1.out (by have := HB.out.size; simp only [World.size_alloc]; omega) (fun c hc => (HO.out.own c hc).1)⟩
        rw [openM_succ, List.map_append, HNK.out]
        exact HO1.out
      case measure => have := HKL.out; simp [intOf]; try omega
    · obtain rfl : k = ns.length := by omega
      have hkI : ¬ ((ns.length : Nat) : Int) < (ns.length : Int) := by omega
      clear hO hB hkl hk
      go_wp2_with fail
      go_ret
      exact ⟨_, rfl, HO.out, HB.out⟩
/-- The example. -/
def exL : List O3 := openM 1 [100, 70] 2
def exR : List O3 := openM 2 [-40, -101, -30] 3
theorem ex_prop : propM exL exR 1 = ([([⟨1, 0⟩], [⟨2, 1⟩]), ([⟨1, 1⟩], [⟨2, 0⟩, ⟨2, 2⟩])], 0) := by decide +kernel
set_option maxHeartbeats 2000000 in
theorem awake28 (w : World) : Calls Try.prog 9 #[] w fun e w' => e = .returned (.bool true) ∧ Below w.heap.size w w' := by
  go_enter Try.func9, Try.ntmps9
  have hB1 := (Below.refl w.heap.size w).alloc (Nat.le_refl _) (.cells #[.int .i64 100, .int .i64 70] 3)
  have hr1 : Rd (.sl (.int .i64)) (fun b => b = w.heap.size) (w.alloc (.cells #[.int .i64 100, .int .i64 70] 3)) [.slice (some ⟨w.heap.size, 0, none⟩) 2 2] [100, 70] := by
    refine Rd.sl_of_flat (vs := [.int .i64 100, .int .i64 70]) rfl (Nat.le_refl _) (by omega) (RdL.ints .i64 _ _ [100, 70] (fun x hx => by simp at hx; rcases hx with rfl | rfl <;> decide)) (.inr ⟨_, 0, rfl, rfl, fun j u hu => ?_⟩)
    rw [Nat.zero_add, blk_cell (heap_alloc_new w _)]; simpa using hu
  have HO1 := Lib.hid (open28 _ 1 (by decide) (some ⟨w.heap.size, 0, none⟩) 2 [100, 70] (by decide) hr1 (fun b hb => by rw [hb]; simp))
  have HB1 := Lib.hid hB1
  clear hB1 hr1
  go_wp2_with fail
  refine HO1.out.mono ?_
  rintro e w1 ⟨v1, rfl, hO1, hB1⟩
  obtain ⟨a1, n1, c1, rfl, hn1, -⟩ := hO1.slice
  have HR1 := Lib.hid hO1
  have HW1 := Lib.hid (below_step HB1.out hB1)
  have hB2 := (Below.refl w1.heap.size w1).alloc (Nat.le_refl _) (.cells #[.int .i64 (-40), .int .i64 (-101), .int .i64 (-30)] 3)
  have hr2 : Rd (.sl (.int .i64)) (fun b => b = w1.heap.size) (w1.alloc (.cells #[.int .i64 (-40), .int .i64 (-101), .int .i64 (-30)] 3)) [.slice (some ⟨w1.heap.size, 0, none⟩) 3 3] [-40, -101, -30] := by
    refine Rd.sl_of_flat (vs := [.int .i64 (-40), .int .i64 (-101), .int .i64 (-30)]) rfl (Nat.le_refl _) (by omega) (RdL.ints .i64 _ _ [-40, -101, -30] (fun x hx => by simp at hx; rcases hx with rfl | rfl | rfl <;> decide)) (.inr ⟨_, 0, rfl, rfl, fun j u hu => ?_⟩)
    rw [Nat.zero_add, blk_cell (heap_alloc_new w1 _)]; simpa using hu
  have HO2 := Lib.hid (open28 _ 2 (by decide) (some ⟨w1.heap.size, 0, none⟩) 3 [-40, -101, -30] (by decide) hr2 (fun b hb => by rw [hb]; simp))
  have HB2 := Lib.hid hB2
  clear hB2 hr2 hB1 hO1
  go_wp2_with fail
  refine HO2.out.mono ?_
  rintro e w2 ⟨v2, rfl, hO2, hB2⟩
  obtain ⟨a2, n2, c2, rfl, hn2, -⟩ := hO2.slice
  have hb12 := below_step HB2.out hB2
  have hR1 := (HR1.out.below hb12).rd (fun b => b < w2.heap.size) (fun _ h => h.elim) (fun b hb => by have := (HR1.out.own b hb).2; have := hb12.size; omega)
  have hR2 := hO2.rd (fun b => b < w2.heap.size) (fun _ h => h.elim) (fun b hb => (hO2.own b hb).2)
  have hn1 : n1 = exL.length := by rw [hn1]; simp [exL, openM]
  have hn2 : n2 = exR.length := by rw [hn2]; simp [exR, openM]
  subst hn1 hn2
  have HP := Lib.hid (propose28 w2 a1 c1 exL a2 c2 exR 1 hR1 hR2 (fun b hb => hb))
  have HW2 := Lib.hid (below_step HW1.out hb12)
  clear hR1 hR2 hO2 hB2 hb12
  go_wp2_with fail
  refine HP.out.mono ?_
  rw [ex_prop]
  rintro e w3 ⟨v3, rfl, hR3, hB3⟩
  have HW3 := Lib.hid (below_step HW2.out hB3)
  obtain ⟨a3, n3, c3, hv3, -⟩ := id hR3
  simp only [List.cons.injEq, and_true] at hv3
  subst hv3
  have hn3 := rd_len hR3
  obtain ⟨b, off, a4, c4, a5, c5, rfl, -, m0, m1, h4, h5⟩ := pair_at hR3 1 (by decide)
  obtain ⟨b5, off5, rfl, -, k0, k1, -⟩ := ref_at h5 1 (by decide)
  simp only [List.getElem_cons_succ, List.getElem_cons_zero, List.length_cons, List.length_nil, Nat.zero_add, Nat.reduceAdd, Nat.reduceMul, Nat.one_mul] at hn3 m0 m1 k0 k1
  subst hn3
  clear hR3 h4 h5 hB3
  go_wp2_with fail
  go_ret
  exact ⟨rfl, HW3.out⟩
end Go.Proofs.Ytpobckedeffjmaa

/- Layer 28: the law's to, from. -/
set_option linter.unusedSimpArgs false
set_option maxRecDepth 50000
namespace Go.Proofs.Ytpobckedeffjmaa
open Go.RowKit Go

end Go.Proofs.Ytpobckedeffjmaa

/- Layer 28, plain: what has been used. -/
set_option linter.unusedSimpArgs false
namespace Go.Proofs.Ytpobckedeffjmaa
open Go.RowKit Go

theorem uat_set {u : List Bool} {k j : Nat} (hk : k < u.length) : uat (u.set k true) j = (uat u j || decide (j = k)) := by
  unfold uat
  rw [List.getElem?_set]
  by_cases h : k = j
  · subst h; simp [hk]
  · rw [if_neg h]
    have : ¬ j = k := fun e => h e.symm
    simp [this]
/-- What is used stays so. -/
def Mono (a b : FS) : Prop := (∀ i, uat a.ul i = true → uat b.ul i = true) ∧ ∀ i, uat a.ur i = true → uat b.ur i = true
theorem Mono.refl (a : FS) : Mono a a := ⟨fun _ h => h, fun _ h => h⟩
theorem Mono.trans {a b c : FS} (h : Mono a b) (k : Mono b c) : Mono a c := ⟨fun i e => k.1 i (h.1 i e), fun i e => k.2 i (h.2 i e)⟩
theorem bestM_none {x : Int} {r : List O3} {ur : List Bool} {tol : Int} : ∀ {n : Nat}, bestM x r ur tol n = none → ∀ k, k < n → fitB x r ur tol k = false
  | 0, _, k, hk => by omega
  | n + 1, h, k, hk => by
    unfold bestM at h
    split at h
    · split at h
      · cases h
      · split at h <;> cases h
    · rename_i hf
      by_cases e : k = n
      · subst e; simpa using hf
      · exact bestM_none h k (by omega)
end Go.Proofs.Ytpobckedeffjmaa

/- Layer 28: the reference's In. -/
set_option linter.unusedSimpArgs false
set_option maxRecDepth 50000
namespace Go.Proofs.Ytpobckedeffjmaa
open Go.RowKit Go

end Go.Proofs.Ytpobckedeffjmaa

/- Layer 28, plain: the proposals fit. -/
set_option linter.unusedSimpArgs false
namespace Go.Proofs.Ytpobckedeffjmaa
open Go.RowKit Go

theorem lat_mem {l : List O3} {i : Nat} (hi : i < l.length) : lat l i ∈ l := by rw [← lat_get hi]; exact List.getElem_mem hi
theorem bestM_fit {x : Int} {r : List O3} {ur : List Bool} {tol : Int} : ∀ {n k : Nat}, bestM x r ur tol n = some k → fitB x r ur tol k = true
  | 0, _, h => by cases h
  | n + 1, k, h => by
    unfold bestM at h
    split at h
    · rename_i hf
      split at h
      · cases h; exact hf
      · rename_i i hi
        split at h
        · cases h; exact hf
        · cases h; exact bestM_fit hi
    · exact bestM_fit h
/-! ### Several -/
end Go.Proofs.Ytpobckedeffjmaa

/- Layer 28, plain: lines and their negatives are all paired. -/
set_option linter.unusedSimpArgs false
namespace Go.Proofs.Ytpobckedeffjmaa
open Go.RowKit Go

/-- The amounts of what is not used. -/
def restR (r : List O3) (ur : List Bool) : List Int := ((List.range r.length).filter fun k => !uat ur k).map fun k => (lat r k).n
def restL (l : List O3) (i : Nat) : List Int := (List.range' i (l.length - i)).map fun j => -(lat l j).n
theorem filter_split {L : List Nat} (hL : L.Nodup) {p : Nat → Bool} {k : Nat} (hk : k ∈ L) (hp : p k = true) : (L.filter p).Perm (k :: L.filter fun x => p x && !decide (x = k)) := by
  refine (List.perm_ext_iff_of_nodup (hL.sublist List.filter_sublist) (List.nodup_cons.2 ⟨by simp, hL.sublist List.filter_sublist⟩)).2 fun x => ?_
  simp only [List.mem_filter, List.mem_cons, Bool.and_eq_true, Bool.not_eq_true', decide_eq_false_iff_not]
  constructor
  · rintro ⟨h1, h2⟩
    by_cases e : x = k
    · exact .inl e
    · exact .inr ⟨h1, h2, e⟩
  · rintro (rfl | ⟨h1, h2, -⟩)
    · exact ⟨hk, hp⟩
    · exact ⟨h1, h2⟩
theorem restR_set {r : List O3} {ur : List Bool} {k : Nat} (hl : ur.length = r.length) (hk : k < r.length) (hu : uat ur k = false) : (restR r ur).Perm ((lat r k).n :: restR r (ur.set k true)) := by
  unfold restR
  have h := filter_split (L := List.range r.length) List.nodup_range (p := fun j => !uat ur j) (k := k) (List.mem_range.2 hk) (by simp [hu])
  have h2 := h.map fun k => (lat r k).n
  refine h2.trans ?_
  rw [List.map_cons]
  have e : (List.range r.length).filter (fun x => (fun j => !uat ur j) x && !decide (x = k)) = (List.range r.length).filter fun x => !uat (ur.set k true) x := by
    refine List.filter_congr fun x _ => ?_
    rw [uat_set (by omega), Bool.not_or]
  rw [e]
theorem restL_succ {l : List O3} {i : Nat} (hi : i < l.length) : restL l i = -(lat l i).n :: restL l (i + 1) := by
  unfold restL
  rw [show l.length - i = (l.length - (i + 1)) + 1 from by omega, List.range'_succ, List.map_cons]
structure EI (l r : List O3) (i : Nat) (st : FS) : Prop where
  ll : st.ul.length = l.length
  lr : st.ur.length = r.length
  pm : (restR r st.ur).Perm (restL l i)
  us : ∀ j, j < i → uat st.ul j = true
  ln : st.out.length = i
  on : ∀ p ∈ st.out, p.1.length = 1 ∧ p.2.length = 1
theorem oneStep_EI {l r : List O3} {st : FS} {i : Nat} (hz : ∀ x ∈ l, x.n ≠ 0) (h : EI l r i st) (hi : i < l.length) : EI l r (i + 1) (oneStep l r 0 st i) := by
  have hp := h.pm
  rw [restL_succ hi] at hp
  have hm : -(lat l i).n ∈ restR r st.ur := hp.mem_iff.2 (by simp)
  obtain ⟨k0, hk0, hn0⟩ := List.mem_map.1 hm
  obtain ⟨hk1, hk2⟩ := List.mem_filter.1 hk0
  have hk1 := List.mem_range.1 hk1
  have hx := hz _ (lat_mem hi)
  unfold oneStep
  split
  · rename_i hb
    have := bestM_none hb k0 hk1
    unfold fitB at this
    rw [hn0] at this
    simp only [Bool.not_eq_true'] at hk2
    rw [hk2] at this
    unfold oppB szI at this
    by_cases h1 : (lat l i).n < 0 <;> by_cases h2 : -(lat l i).n < 0 <;> simp [h1, h2] at this <;> omega
  · rename_i k hb
    have hf := bestM_fit hb
    have hk := bestM_lt hb
    unfold fitB at hf
    simp only [Bool.and_eq_true, Bool.not_eq_true', decide_eq_false_iff_not] at hf
    obtain ⟨⟨hu, -⟩, hs⟩ := hf
    have hn : (lat r k).n = -(lat l i).n := by unfold szI at hs; omega
    refine ⟨by simp [h.ll], by simp [h.lr], ?_, ?_, by simp [h.ln], ?_⟩
    · have h2 := (restR_set h.lr hk hu).symm.trans hp
      rw [hn] at h2
      exact (List.perm_cons _).1 h2
    · intro j hj
      show uat (st.ul.set i true) j = true
      rw [uat_set (by rw [h.ll]; exact hi)]
      by_cases e : j = i
      · rw [decide_eq_true e, Bool.or_true]
      · rw [h.us j (by omega), Bool.true_or]
    · intro p hp
      rcases List.mem_append.1 hp with hp | hp
      · exact h.on p hp
      · rw [List.mem_singleton.1 hp]; exact ⟨rfl, rfl⟩
theorem oneAt_EI {l r : List O3} {st : FS} (hz : ∀ x ∈ l, x.n ≠ 0) (h : EI l r 0 st) : ∀ i, i ≤ l.length → EI l r i (oneAt l r 0 st i)
  | 0, _ => h
  | i + 1, hi => by rw [oneAt_succ]; exact oneStep_EI hz (oneAt_EI hz h i (by omega)) (by omega)
theorem manyAt_used {sw : Bool} {l r : List O3} {tol : Int} {st : FS} (h : ∀ j, j < l.length → uat st.ul j = true) : ∀ i, i ≤ l.length → manyAt sw l r tol st i = st
  | 0, _ => rfl
  | i + 1, hi => by
    rw [manyAt_succ, manyAt_used h i (by omega)]
    unfold manyStep
    rw [if_pos (h i (by omega))]
theorem exact_law {l r : List O3} (hlen : r.length = l.length) (hz : ∀ x ∈ l, x.n ≠ 0) (hp : (r.map (·.n)).Perm (l.map fun x => -x.n)) : (st3 l r 0).out.length = l.length ∧ ∀ p ∈ (st3 l r 0).out, p.1.length = 1 ∧ p.2.length = 1 := by
  have hu : ∀ k, k < r.length → uat (st0 l r).ur k = false := fun k hk => by simp [uat, st0, hk]
  have e1 : ∀ (l : List O3), (List.range l.length).map (fun k => (lat l k).n) = l.map (·.n) := fun l => by
    refine List.ext_getElem (by simp) fun i h1 h2 => ?_
    simp at h1
    simp [lat_get h1]
  have e2 : (List.range' 0 (l.length - 0)).map (fun j => -(lat l j).n) = l.map fun x => -x.n := by
    refine List.ext_getElem (by simp) fun i h1 h2 => ?_
    simp at h1
    simp [lat_get h1]
  have h0 : EI l r 0 (st0 l r) := by
    refine ⟨by simp [st0], by simp [st0], ?_, fun j hj => absurd hj (by omega), rfl, fun p hp => by simp [st0] at hp⟩
    unfold restR restL
    rw [List.filter_eq_self.2 (fun k hk => by rw [hu k (List.mem_range.1 hk)]; rfl), e1, e2]
    exact hp
  have h1 : EI l r l.length (st1 l r 0) := oneAt_EI hz h0 _ (Nat.le_refl _)
  have h2 : st2 l r 0 = st1 l r 0 := manyAt_used (fun j hj => h1.us j hj) _ (Nat.le_refl _)
  have hr : ∀ j, j < r.length → uat (st1 l r 0).ur j = true := by
    intro j hj
    have hq := h1.pm
    unfold restL at hq
    rw [Nat.sub_self, List.range'_zero, List.map_nil] at hq
    have hq := hq.eq_nil
    unfold restR at hq
    rw [List.map_eq_nil_iff, List.filter_eq_nil_iff] at hq
    have := hq j (List.mem_range.2 hj)
    simpa using this
  have h3 : st3 l r 0 = st1 l r 0 := by
    unfold st3
    rw [h2, manyAt_used (st := swapS (st1 l r 0)) (fun j hj => hr j hj) _ (Nat.le_refl _)]
    rfl
  rw [h3]
  exact ⟨h1.ln, h1.on⟩
/-! ### The law's lines -/
def mxL (az : List Int) (k : Nat) : List O3 := (List.range k).map fun i : Nat => ⟨⟨1, (i : Int)⟩, az[i]?.getD 0⟩
def mxR (az : List Int) (b : Nat) (k : Nat) : List O3 := (List.range k).map fun i : Nat => ⟨⟨2, (i : Int)⟩, -(az[(i + b) % az.length]?.getD 0)⟩
theorem mxL_succ (az : List Int) (k : Nat) : mxL az (k + 1) = mxL az k ++ [⟨⟨1, (k : Int)⟩, az[k]?.getD 0⟩] := by unfold mxL; rw [List.range_succ, List.map_append]; rfl
theorem mxR_succ (az : List Int) (b k : Nat) : mxR az b (k + 1) = mxR az b k ++ [⟨⟨2, (k : Int)⟩, -(az[(k + b) % az.length]?.getD 0)⟩] := by unfold mxR; rw [List.range_succ, List.map_append]; rfl
theorem mxL_len (az : List Int) (k : Nat) : (mxL az k).length = k := by simp [mxL]
theorem mxR_len (az : List Int) (b k : Nat) : (mxR az b k).length = k := by simp [mxR]
theorem rot_perm (az : List Int) (b : Nat) : ((List.range az.length).map fun i => az[(i + b) % az.length]?.getD 0).Perm az := by
  by_cases h0 : az.length = 0
  · rw [List.length_eq_zero_iff] at h0; subst h0; exact .refl _
  have hc : b % az.length < az.length := Nat.mod_lt _ (by omega)
  have e : (List.range az.length).map (fun i => az[(i + b) % az.length]?.getD 0) = az.drop (b % az.length) ++ az.take (b % az.length) := by
    refine List.ext_getElem (by simp; omega) fun i h1 h2 => ?_
    simp at h1
    rw [List.getElem_map, List.getElem_range, List.getElem_append]
    have hm : (i + b) % az.length = if i + b % az.length < az.length then i + b % az.length else i + b % az.length - az.length := by
      rw [← Nat.add_mod_mod]
      split
      · rename_i h; exact Nat.mod_eq_of_lt h
      · rename_i h
        rw [Nat.mod_eq_sub_mod (by omega), Nat.mod_eq_of_lt (by omega)]
    rw [hm]
    generalize b % az.length = c at *
    split <;> rename_i hi
    · rw [dif_pos (by rw [List.length_drop]; omega), List.getElem_drop, List.getElem?_eq_getElem (by omega), Option.getD_some]
      congr 1
      omega
    · rw [dif_neg (by rw [List.length_drop]; omega), List.getElem_take, List.getElem?_eq_getElem (by omega), Option.getD_some]
      congr 1
      rw [List.length_drop]
      omega
  rw [e]
  exact List.perm_append_comm.trans (by rw [List.take_append_drop])
theorem ex_perm (az : List Int) (b : Nat) : ((mxR az b az.length).map (·.n)).Perm ((mxL az az.length).map fun x => -x.n) := by
  have h := (rot_perm az b).map fun x : Int => -x
  have e1 : (mxR az b az.length).map (·.n) = ((List.range az.length).map fun i => az[(i + b) % az.length]?.getD 0).map fun x : Int => -x := by
    unfold mxR; simp
  have e2 : (mxL az az.length).map (fun x => -x.n) = az.map fun x : Int => -x := by
    refine List.ext_getElem (by simp [mxL]) fun i h1 h2 => ?_
    simp [mxL] at h1
    simp [mxL, h1]
  rw [e1, e2]
  exact h
theorem mx_lines {az : List Int} {b : Nat} (h40 : az.length ≤ 40) (hz : ∀ x ∈ az, amtB x = true) : linesB (mxL az az.length) (mxR az b az.length) = true := by
  unfold linesB
  have hd : ((mxL az az.length ++ mxR az b az.length).map (·.r)).Nodup := by
    rw [List.map_append]
    unfold mxL mxR
    simp only [List.map_map]
    have k1 : ((List.range az.length).map ((fun x : O3 => x.r) ∘ fun i : Nat => (⟨⟨1, (i : Int)⟩, az[i]?.getD 0⟩ : O3))).Nodup :=
      List.pairwise_map.2 (List.nodup_range.imp fun {a b} h e => h (Int.ofNat.inj (congrArg R2.l e)))
    have k2 : ((List.range az.length).map ((fun x : O3 => x.r) ∘ fun i : Nat => (⟨⟨2, (i : Int)⟩, -(az[(i + b) % az.length]?.getD 0)⟩ : O3))).Nodup :=
      List.pairwise_map.2 (List.nodup_range.imp fun {a b} h e => h (Int.ofNat.inj (congrArg R2.l e)))
    refine List.nodup_append.2 ⟨k1, k2, ?_⟩
    intro x hx y hy e
    obtain ⟨i, -, rfl⟩ := List.mem_map.1 hx
    obtain ⟨j, -, rfl⟩ := List.mem_map.1 hy
    have : (1 : Int) = 2 := congrArg R2.e e
    omega
  rw [mxL_len, mxR_len, decide_eq_true (by omega), decide_eq_true hd, List.all_eq_true.2 (fun x hx => ?_)]
  · rfl
  · rcases List.mem_append.1 hx with hx | hx
    · obtain ⟨i, hi, rfl⟩ := List.mem_map.1 hx
      have hi := List.mem_range.1 hi
      simp only [List.getElem?_eq_getElem hi, Option.getD_some]
      exact hz _ (List.getElem_mem hi)
    · obtain ⟨i, hi, rfl⟩ := List.mem_map.1 hx
      have hi := List.mem_range.1 hi
      have hq : (i + b) % az.length < az.length := Nat.mod_lt _ (by omega)
      simp only [List.getElem?_eq_getElem hq, Option.getD_some]
      have := amt_bounds (hz _ (List.getElem_mem hq))
      generalize az[(i + b) % az.length] = v at this
      unfold amtB
      rw [decide_eq_false (by omega), decide_eq_false (by omega), decide_eq_false (by omega)]; rfl
theorem mx_law {az : List Int} {b : Nat} (hz : ∀ x ∈ az, amtB x = true) : (st3 (mxL az az.length) (mxR az b az.length) 0).out.length = az.length ∧ ∀ p ∈ (st3 (mxL az az.length) (mxR az b az.length) 0).out, p.1.length = 1 ∧ p.2.length = 1 := by
  have h := exact_law (l := mxL az az.length) (r := mxR az b az.length) (by rw [mxL_len, mxR_len]) (fun x hx => by
    obtain ⟨i, hi, rfl⟩ := List.mem_map.1 hx
    have hi := List.mem_range.1 hi
    simp only [List.getElem?_eq_getElem hi, Option.getD_some]
    exact (amt_bounds (hz _ (List.getElem_mem hi))).1) (ex_perm az b)
  rw [mxL_len] at h
  exact h
end Go.Proofs.Ytpobckedeffjmaa
