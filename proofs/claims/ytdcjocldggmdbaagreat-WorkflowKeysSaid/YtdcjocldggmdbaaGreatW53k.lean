/- Layer 53: the prerequisites of a key. -/
import Derived.Test.YtdcjocldggmdbaaGreatS53n
set_option linter.unusedSimpArgs false
namespace Go.Proofs.YtdcjocldggmdbaaGreat
open Go.RowKit Go

theorem owns_krow {base : Nat} {w : World} {v : Value} {l : List Ky} (h : Owns keyT 48 base (fun _ => False) w v (l.map Ky.d)) :
    (v = .slice none 0 0 ∧ l = []) ∨ ∃ g cap, v = .slice (some ⟨g, 0, none⟩) l.length cap ∧ base ≤ g ∧ l.length ≤ cap ∧ cap ≤ 9223372036854775807 ∧ KRow w g l := by
  obtain ⟨vs, ⟨hl, hor⟩, hr, -⟩ := id h
  rw [List.length_map] at hl hor
  rcases hor with ⟨rfl, h0⟩ | ⟨g, cap, cur, rfl, hb, hg, hc, hm, hs, ht⟩
  · exact .inl ⟨rfl, List.eq_nil_of_length_eq_zero h0⟩
  · refine .inr ⟨g, cap, rfl, hb, hc, by simpa [maxLen] using hm, cur, hg, fun i hi => ?_⟩
    obtain ⟨b, off, hb', -, m0, m1, m2, -⟩ := key_at (l := l) (h.rd (fun _ => True) (fun _ h => h.elim) (fun _ _ => trivial)) i hi
    simp only [Option.some.injEq, Addr.mk.injEq, and_true] at hb'
    obtain ⟨rfl, rfl⟩ := hb'
    rw [blk_cell hg, Nat.zero_add] at m0 m1 m2
    exact ⟨m0, m1, m2⟩
theorem owns_ok {base : Nat} {w : World} {v : Value} {l : List Ky} (h : Owns keyT 48 base (fun _ => False) w v (l.map Ky.d)) : ∀ k ∈ l, k.ok := by
  intro k hk
  obtain ⟨a, len, cap, rfl, -⟩ := h.slice
  obtain ⟨i, hi, rfl⟩ := List.getElem_of_mem hk
  obtain ⟨_, _, _, _, _, _, _, hok⟩ := key_at (l := l) (h.rd (fun _ => True) (fun _ h => h.elim) (fun _ _ => trivial)) i hi
  exact hok
theorem wf_pred {n : Int} (h : (Lit.int .i64 n).wf = true) (hp : 0 < n) : (Lit.int .i64 (n - 1)).wf = true := by
  simp [Lit.wf, IntKind.min, IntKind.max, IntKind.signed, IntKind.bits] at h ⊢
  omega
structure NeedOk (ts : List Tk) (ne : Nat) (k : Ky) : Prop where
  hk : plc ts k.task < ts.length
  ok : k.ok
  nd : ∀ n ∈ (tkAt ts k.task).needs, plc ts n < ts.length
  len : (rawNeeds ts ne k).length ≤ 1000
  nodup : (rawNeeds ts ne k).Nodup
theorem adj_of_nodup {l : List Ky} (h : l.Nodup) : ∀ j (hj : j + 1 < l.length), l[j + 1] ≠ l[j] := fun j hj e => by
  have := List.pairwise_iff_getElem.1 h j (j + 1) (by omega) hj (by omega)
  exact this e.symm
theorem sortKeys53 {S : Nat → Prop} {base : Nat} (w : World) (p : Nat) (ts : List Tk) (ne np m : Nat) (hW : WfT S w p ts ne np m) (v : Value) (l : List Ky) (hO : Owns keyT 48 base (fun _ => False) w v (l.map Ky.d)) (hn : l.length ≤ 1000) (hok : ∀ k ∈ l, k.ok) (hp : p < base) (hS : ∀ b, S b → b < base) (hb : base ≤ w.heap.size) :
    Calls Tryz.prog 48 #[v, cmpV p] w fun e w' => e = .returned (.tuple #[]) ∧ ∃ l' : List Ky, l'.Perm l ∧ Asc ts l' ∧ Rd (.sl keyT) (fun b => b < w'.heap.size) w' [v] (l'.map Ky.d) ∧ Below base w w' := by
  rcases owns_krow hO with ⟨rfl, rfl⟩ | ⟨g, cap, rfl, hg, hc, hm, hK⟩
  · refine sort53 w none 0 0 (by omega) (cmpV p) _ ((insert0 w none 0 (cmpV p)).mono ?_)
    rintro e w' ⟨rfl, rfl⟩
    exact ⟨rfl, rfl, [], List.Perm.refl _, List.Pairwise.nil, ⟨none, 0, 0, rfl, rfl, Nat.le_refl _, by decide, .inl rfl⟩, Below.refl _ _⟩
  · refine (sortK w p ts ne np m hW g cap l hK (by omega) (by omega) (fun b hb e => by have := hS b hb; omega)).mono ?_
    rintro e w' ⟨rfl, l', h1, ha, h2, h3⟩
    refine ⟨rfl, l', h1, ha, ?_, h3.below (fun b e => by rw [e]; exact hg) hb⟩
    have hr := h2.rd (fun k hk => hok k (h1.mem_iff.1 hk)) cap (by rw [h1.length_eq]; exact hc) hm
    rw [h1.length_eq] at hr
    exact hr.keep (fun _ _ => rfl) (fun b e => by rw [e]; exact h2.lt)
/-- What needs leaves. -/
def NeedP (ts : List Tk) (ne : Nat) (k : Ky) (w : World) (e : Ending) (w' : World) : Prop :=
  ∃ (a : Option Addr) (len cap : Nat) (l : List Ky), e = .returned (.slice a len cap) ∧ l.Perm (rawNeeds ts ne k) ∧ Rd (.sl keyT) (fun b => b < w'.heap.size) w' [.slice a len cap] (l.map Ky.d) ∧ (∀ x ∈ l, x.ok) ∧ Below w.heap.size w w' ∧ Asc ts l
set_option maxRecDepth 20000 in
set_option maxHeartbeats 4000000 in
theorem needs53 {S : Nat → Prop} (w : World) (p : Nat) (ts : List Tk) (ne np m : Nat) (h : WfT S w p ts ne np m) (hne : ne ≤ 1000) (k : Ky) (hN : NeedOk ts ne k) :
    Calls Tryz.prog 33 #[.pointer (some ⟨p, 0, none⟩), k.v] w (NeedP ts ne k w) := by
  obtain ⟨kt, ke, kp⟩ := k
  have hB : Below w.heap.size w (w.alloc (.cells #[.string kt, .int .i64 ke, .int .i64 kp] 48)) := (Below.refl _ w).alloc (Nat.le_refl _) _
  have hcb := heap_alloc_new w (.cells #[.string kt, .int .i64 ke, .int .i64 kp] 48)
  have h' := h.below hB
  obtain ⟨b, off, na, nl, nc, len, cap, hrow, hSb, hlen, m0, m1, m2, m3, hnd, hnm⟩ := h'.task hN.hk
  have hlen : plc ts kt < len := hlen
  have hT1 : plcI ts kt = plc ts kt := plcI_pos hN.hk
  have HW := Lib.hid h'
  have HN := Lib.hid hN
  have HB := Lib.hid hB
  have HCB := Lib.hid hcb
  have HND := Lib.hid hnd
  have HPI := Lib.hid hT1
  have hlI : ((plc ts kt : Nat) : Int) < (len : Int) := by omega
  have hC0 : Cells [(⟨p, 0, none⟩, .slice (some ⟨b, off, none⟩) len cap), (⟨w.heap.size, 0, none⟩, .string kt), (⟨b, off + plc ts kt * 4, none⟩, .string (tkAt ts kt).name), (⟨b, off + plc ts kt * 4 + 1, none⟩, .slice na nl nc), (⟨b, off + plc ts kt * 4 + 2, none⟩, .bool (tkAt ts kt).grp), (⟨b, off + plc ts kt * 4 + 3, none⟩, .bool (tkAt ts kt).aft)] (w.alloc (.cells #[.string kt, .int .i64 ke, .int .i64 kp] 48)) := ⟨blk_cell hrow 0, blk_cell hcb 0, m0, m1, m2, m3, trivial⟩
  clear h h' hN hB hcb hrow m0 m1 m2 m3 hT1 hlen hnd
  have HNM := Lib.hid hnm
  clear hnm
  unfold Ky.v
  simp only
  go_enter Tryz.func33, Tryz.ntmps33
  go_wp2_with fail
  generalize w.alloc (.cells #[.string kt, .int .i64 ke, .int .i64 kp] 48) = w1 at *
  obtain ⟨own, hown⟩ : ∃ t, tkAt ts kt = t := ⟨_, rfl⟩
  rw [hown] at hC0 HND HNM
  have HOWN := Lib.hid hown
  clear hown
  obtain ⟨onm, ond, og, oa⟩ := own
  simp only at hC0 HND HNM
  obtain ⟨pl, hpl⟩ : ∃ n, plc ts kt = n := ⟨_, rfl⟩
  rw [hpl] at hC0 HPI hlI
  clear hpl
  refine wp_cut [10, 11, 12, 13, 14, 15, 16, 17, 18, 19, 5] (fun vs w' => ∃ v10 v11 v12 v13 v14 v15 v16 v17 v18 v19 b5, vs = [v10, v11, v12, v13, v14, v15, v16, v17, v18, v19, .pointer (some ⟨b5, 0, none⟩)] ∧ Below w1.heap.size w1 w' ∧ w'.heap[b5]? = some (.cells #[.string onm, .slice na nl nc, .bool og, .bool oa] 68 (0, 0))) ?_ ?_
  · skip
    refine wp_region_T (Cells [(⟨p, 0, none⟩, .slice (some ⟨b, off, none⟩) len cap), (⟨w.heap.size, 0, none⟩, .string kt), (⟨b, off + pl * 4, none⟩, .string onm), (⟨b, off + pl * 4 + 1, none⟩, .slice na nl nc), (⟨b, off + pl * 4 + 2, none⟩, .bool og), (⟨b, off + pl * 4 + 3, none⟩, .bool oa)]) (fun i => i == 11) (by kernel_rfl) ?_
    have hSss1 := Cells.drew hC0
    have hB_0_s1 : Below w1.heap.size w1 w1.drew := below_drew _
    generalize w1.drew = s1 at hSss1 hB_0_s1 ⊢
    have hB_s1_s1 := Below.refl s1.heap.size s1
    refine wpAnyT_pure (i := 0) (v := ?_) rfl (by kernel_rfl) (by kernel_rfl) (by kernel_rfl) (fun _ _ _ h => h) (by rfl) ?_ ?_
    rotate_left
    · intro w; go_simp; try with_reducible rfl
    simp only [Act.put, rgA, rgB, rgC, rgD, rgE, rgF]
    refine wpAnyT_pure (i := 1) (v := ?_) rfl (by kernel_rfl) (by kernel_rfl) (by kernel_rfl) (fun _ _ _ h => h) (by rfl) ?_ ?_
    rotate_left
    · intro w; go_simp; try with_reducible rfl
    simp only [Act.put, rgA, rgB, rgC, rgD, rgE, rgF]
    refine wpAnyT_pure (i := 2) (v := ?_) rfl (by kernel_rfl) (by kernel_rfl) (by kernel_rfl) (fun _ _ _ h => h) (by rfl) ?_ ?_
    rotate_left
    · intro w; go_simp; try with_reducible rfl
    simp only [Act.put, rgA, rgB, rgC, rgD, rgE, rgF]
    refine wpAnyT_pure (i := 4) (v := ?_) rfl (by kernel_rfl) (by kernel_rfl) (by kernel_rfl) (fun _ _ _ h => h) (by rfl) ?_ ?_
    rotate_left
    · intro w; go_simp; try with_reducible rfl
    simp only [Act.put, rgA, rgB, rgC, rgD, rgE, rgF]
    refine wpAnyT_pure (i := 5) (v := ?_) rfl (by kernel_rfl) (by kernel_rfl) (by kernel_rfl) (fun _ _ _ h => h) (by rfl) ?_ ?_
    rotate_left
    · intro w; go_simp; try with_reducible rfl
    simp only [Act.put, rgA, rgB, rgC, rgD, rgE, rgF]
    refine wpAnyT_loadW (i := 3) (v := ?_) rfl (by kernel_rfl) (by kernel_rfl) (by kernel_rfl) (by kernel_rfl) (by kernel_rfl) (fun _ _ _ h => h) (Or.inl ⟨by rfl, ?_⟩) hSss1 ?_
    rotate_left
    · intro w hSw; obtain ⟨e0, e1, e2, e3, e4, e5, -⟩ := hSw; go_simp; try with_reducible rfl
    simp only [Act.put, rgA, rgB, rgC, rgD, rgE, rgF]
    refine wpAnyT_loadW (i := 6) (v := ?_) rfl (by kernel_rfl) (by kernel_rfl) (by kernel_rfl) (by kernel_rfl) (by kernel_rfl) (fun _ _ _ h => h) (Or.inl ⟨by rfl, ?_⟩) hSss1 ?_
    rotate_left
    · intro w hSw; obtain ⟨e0, e1, e2, e3, e4, e5, -⟩ := hSw; go_simp; try with_reducible rfl
    simp only [Act.put, rgA, rgB, rgC, rgD, rgE, rgF]
    refine wpAnyT_two (i := 7) (k := 10) (by kernel_rfl) rfl rfl (by rfl) (by rfl) ?_ ?_
    · skip
      refine wp_enter (f := 52) (args := #[.pointer (some ⟨p, 0, none⟩), .string kt]) (by go_simp) (place53 s1 p ts ne np m (HW.out.below (hB_0_s1.trans ((hB_s1_s1).mono (hB_0_s1).size))) kt) ?_
      rw [HPI.out]
      rintro e w102 ⟨rfl, hX⟩
      try replace r6 := (hX.block _ (blk_lt r6)).trans r6
      have hB_s1_w102 := below_step hB_s1_s1 hX
      have hB_w102_w102 := Below.refl w102.heap.size w102
      have hSsw102 := Cells.below hB_s1_w102 hSss1
      clear hX
      refine ⟨_, rfl, fun _ _ => hSsw102, ?_⟩
      try simp only [Act.put, rgA, rgB, rgC, rgD, rgE, rgF]
      refine wpAnyT_pure (i := 8) (v := ?_) rfl (by kernel_rfl) (by kernel_rfl) (by kernel_rfl) (fun _ _ _ h => h) (by rfl) ?_ ?_
      rotate_left
      · intro w; go_simp; try with_reducible rfl
      simp only [Act.put, rgA, rgB, rgC, rgD, rgE, rgF]
      refine wpAnyT_loadW (i := 9) (v := ?_) rfl (by kernel_rfl) (by kernel_rfl) (by kernel_rfl) (by kernel_rfl) (by kernel_rfl) (fun _ _ _ h => h) (Or.inl ⟨by rfl, ?_⟩) hSsw102 ?_
      rotate_left
      · intro w hSw; obtain ⟨e0, e1, e2, e3, e4, e5, -⟩ := hSw; go_simp; try with_reducible rfl
      simp only [Act.put, rgA, rgB, rgC, rgD, rgE, rgF]
      refine wpAnyT_one (i := 10) (by kernel_rfl) rfl (by rfl) ?_
      obtain ⟨b6, hb6⟩ : ∃ b, (w102).heap.size = b := ⟨_, rfl⟩
      have hge6 : (s1).heap.size ≤ b6 := hb6 ▸ (hB_s1_w102).size
      refine wp_newrow (v := .pointer (some ⟨b6, 0, none⟩)) (cs := #[.string ⟨#[]⟩, .slice none 0 0, .bool false, .bool false]) (te := 68) (by rw [← hb6]; go_simp) ?_
      intro w103 hX r6
      rw [hb6] at r6
      have hB_s1_w103 := below_step hB_s1_w102 hX
      have hB_w102_w103 := below_step hB_w102_w102 hX
      have hB_w103_w103 := Below.refl w103.heap.size w103
      have hSsw103 := Cells.below hB_s1_w103 hSss1
      clear hX
      refine ⟨fun _ _ => hSsw103, ?_⟩
      try simp only [Act.put, rgA, rgB, rgC, rgD, rgE, rgF]
      refine wpAnyT_one (i := 11) (by kernel_rfl) rfl (by rfl) ?_
      have hr7 : (w103).heap[b6]? = some (.cells #[.string ⟨#[]⟩, .slice none 0 0, .bool false, .bool false] 68 (0, 0)) := by first | exact r6 | exact ((hB_w103_w103).block _ (blk_lt r6)).trans r6
      refine wp_store_row 68 (.tmp 5) (.tmp 19) rfl b6 #[.string onm, .slice na nl nc, .bool og, .bool oa] (by kernel_rfl) (by kernel_rfl) 68 _ hr7 (by kernel_rfl) (by rfl) (by simp [Value.oneCell']) ?_
      have hblk := setRow_heap (w103) b6 _ #[.string onm, .slice na nl nc, .bool og, .bool oa] _ _ hr7
      have hX := below_setRow (hB_s1_w103) hge6 #[.string onm, .slice na nl nc, .bool og, .bool oa]
      generalize (w103).setRow b6 #[.string onm, .slice na nl nc, .bool og, .bool oa] = w104 at hblk hX ⊢
      refine ⟨fun h => absurd h (by decide), ?_⟩
      try simp only [Act.put, rgA, rgB, rgC, rgD, rgE, rgF]
      refine wpAnyT_done (by kernel_rfl) ?_ _
      refine cut_leaf ?_ ?_
      focus kernel_rfl
      exact ⟨_, _, _, _, _, _, _, _, _, _, b6, rfl, hB_0_s1.trans (hX.mono hB_0_s1.size), hblk⟩
    · skip
      obtain ⟨b6, hb6⟩ : ∃ b, (s1).heap.size = b := ⟨_, rfl⟩
      have hge6 : (s1).heap.size ≤ b6 := hb6 ▸ (hB_s1_s1).size
      refine wp_newrow (v := .pointer (some ⟨b6, 0, none⟩)) (cs := #[.string ⟨#[]⟩, .slice none 0 0, .bool false, .bool false]) (te := 68) (by rw [← hb6]; go_simp) ?_
      intro w105 hX r6
      rw [hb6] at r6
      have hB_s1_w105 := below_step hB_s1_s1 hX
      have hB_w105_w105 := Below.refl w105.heap.size w105
      have hSsw105 := Cells.below hB_s1_w105 hSss1
      clear hX
      refine ⟨fun _ _ => hSsw105, ?_⟩
      try simp only [Act.put, rgA, rgB, rgC, rgD, rgE, rgF]
      refine wpAnyT_one (i := 7) (by kernel_rfl) rfl (by rfl) ?_
      refine wp_enter (f := 52) (args := #[.pointer (some ⟨p, 0, none⟩), .string kt]) (by go_simp) (place53 w105 p ts ne np m (HW.out.below (hB_0_s1.trans ((hB_s1_w105).mono (hB_0_s1).size))) kt) ?_
      rw [HPI.out]
      rintro e w106 ⟨rfl, hX⟩
      try replace r6 := (hX.block _ (blk_lt r6)).trans r6
      have hB_s1_w106 := below_step hB_s1_w105 hX
      have hB_w105_w106 := below_step hB_w105_w105 hX
      have hB_w106_w106 := Below.refl w106.heap.size w106
      have hSsw106 := Cells.below hB_s1_w106 hSss1
      clear hX
      refine ⟨_, rfl, fun _ _ => hSsw106, ?_⟩
      try simp only [Act.put, rgA, rgB, rgC, rgD, rgE, rgF]
      refine wpAnyT_pure (i := 8) (v := ?_) rfl (by kernel_rfl) (by kernel_rfl) (by kernel_rfl) (fun _ _ _ h => h) (by rfl) ?_ ?_
      rotate_left
      · intro w; go_simp; try with_reducible rfl
      simp only [Act.put, rgA, rgB, rgC, rgD, rgE, rgF]
      refine wpAnyT_loadW (i := 9) (v := ?_) rfl (by kernel_rfl) (by kernel_rfl) (by kernel_rfl) (by kernel_rfl) (by kernel_rfl) (fun _ _ _ h => h) (Or.inl ⟨by rfl, ?_⟩) hSsw106 ?_
      rotate_left
      · intro w hSw; obtain ⟨e0, e1, e2, e3, e4, e5, -⟩ := hSw; go_simp; try with_reducible rfl
      simp only [Act.put, rgA, rgB, rgC, rgD, rgE, rgF]
      refine wpAnyT_one (i := 11) (by kernel_rfl) rfl (by rfl) ?_
      have hr7 : (w106).heap[b6]? = some (.cells #[.string ⟨#[]⟩, .slice none 0 0, .bool false, .bool false] 68 (0, 0)) := by first | exact r6 | exact ((hB_w105_w106).block _ (blk_lt r6)).trans r6
      refine wp_store_row 68 (.tmp 5) (.tmp 19) rfl b6 #[.string onm, .slice na nl nc, .bool og, .bool oa] (by kernel_rfl) (by kernel_rfl) 68 _ hr7 (by kernel_rfl) (by rfl) (by simp [Value.oneCell']) ?_
      have hblk := setRow_heap (w106) b6 _ #[.string onm, .slice na nl nc, .bool og, .bool oa] _ _ hr7
      have hX := below_setRow (hB_s1_w106) hge6 #[.string onm, .slice na nl nc, .bool og, .bool oa]
      generalize (w106).setRow b6 #[.string onm, .slice na nl nc, .bool og, .bool oa] = w107 at hblk hX ⊢
      refine ⟨fun h => absurd h (by decide), ?_⟩
      try simp only [Act.put, rgA, rgB, rgC, rgD, rgE, rgF]
      refine wpAnyT_done (by kernel_rfl) ?_ _
      refine cut_leaf ?_ ?_
      focus kernel_rfl
      exact ⟨_, _, _, _, _, _, _, _, _, _, b6, rfl, hB_0_s1.trans (hX.mono hB_0_s1.size), hblk⟩
  rintro vs w2 ⟨v10, v11, v12, v13, v14, v15, v16, v17, v18, v19, b5, rfl, hB2, hr5⟩
  simp only [puts, Act.put, List.setIfInBounds_toArray, List.set_cons_zero, List.set_cons_succ]
  obtain ⟨hnl, hnlc, hncm, -⟩ := HND.out.sl_flat
  have HNL := Lib.hid (show ond.length = nl from hnl)
  have HR5 := Lib.hid hr5
  have HW2 := Lib.hid (HW.out.below hB2)
  have HCB2 := Lib.hid ((hB2.block _ (blk_lt HCB.out)).trans HCB.out)
  have HND2 := Lib.hid (HND.out.below hB2 HW.out.hS)
  have HBW := Lib.hid (below_step HB.out hB2)
  have HACC := Lib.hid (show ∀ j, j < ond.length → ((ond.take j).flatMap (needOf ts ne (tkAt ts kt) ⟨kt, ke, kp⟩)).length + (needOf ts ne (tkAt ts kt) ⟨kt, ke, kp⟩ (ond[j]?.getD ByteArray.empty)).length ≤ 1000 from fun j hj => by
    have h1 := HN.out.len
    unfold rawNeeds at h1
    rw [List.length_append] at h1
    have h2 : (tkAt ts kt).needs = ond := by rw [HOWN.out]
    have h3 : ond.flatMap (needOf ts ne (tkAt ts kt) ⟨kt, ke, kp⟩) = (ond.take j).flatMap (needOf ts ne (tkAt ts kt) ⟨kt, ke, kp⟩) ++ (needOf ts ne (tkAt ts kt) ⟨kt, ke, kp⟩ ond[j] ++ (ond.drop (j + 1)).flatMap (needOf ts ne (tkAt ts kt) ⟨kt, ke, kp⟩)) := by
      conv => lhs; rw [← List.take_append_drop j ond]
      rw [List.flatMap_append, List.drop_eq_getElem_cons hj, List.flatMap_cons]
    rw [h2, h3, List.length_append, List.length_append] at h1
    rw [List.getElem?_eq_getElem hj]
    simp only [Option.getD_some]
    omega)
  have hps : p < w2.heap.size := by obtain ⟨_, _, _, _, h1, -⟩ := HW2.out.row; exact blk_lt h1
  have HPS := Lib.hid hps
  have x1 := blk_cell hr5 1
  simp at x1
  clear hB2 hr5 hnl hps hC0
  go_wp2_with fail
  go_loopw [6, 8, 9, 23] (fun v _ _ i wr => ∃ j : Nat, j ≤ nl ∧ i = .int .i64 j ∧ Owns keyT 48 w2.heap.size (fun _ => False) wr v (((ond.take j).flatMap (needOf ts ne (tkAt ts kt) ⟨kt, ke, kp⟩)).map Ky.d) ∧ Below w2.heap.size w2 wr) (fun _ _ _ i _ => nl - (intOf i).toNat)
  case atStart => exact ⟨0, Nat.zero_le _, rfl, Owns.nil _ _ _ _, Below.refl _ _⟩
  case round =>
    obtain ⟨j, hj, rfl, hO, hBr⟩ := hrel
    obtain ⟨va, vl, vc, rfl, -⟩ := hO.slice
    have HO := Lib.hid hO
    have HBr := Lib.hid hBr
    have HWr := Lib.hid (HW2.out.below hBr)
    have HR5r := Lib.hid ((hBr.block _ (blk_lt HR5.out)).trans HR5.out)
    have HCBr := Lib.hid ((hBr.block _ (blk_lt HCB2.out)).trans HCB2.out)
    clear hO hBr
    by_cases hlt : j < nl
    · have hjx : j < ond.length := by rw [HNL.out]; exact hlt
      have hjI : (j : Int) < (nl : Int) := by omega
      obtain ⟨-, -, -, hat⟩ := (HND2.out.below HBr.out HW2.out.hS).sl1 rfl
      obtain ⟨nb, noff, nv, rfl, hSn, n0, hnv, hnsz⟩ := hat j hjx
      obtain rfl : nv = .string ond[j] := by simpa using hnv
      clear hnv
      have hacc := HACC.out j hjx
      rw [List.getElem?_eq_getElem hjx] at hacc
      simp only [Option.getD_some] at hacc
      have hpn := HN.out.nd ond[j] (by rw [HOWN.out]; exact List.getElem_mem hjx)
      have hsucc : (ond.take (j + 1)).flatMap (needOf ts ne (tkAt ts kt) ⟨kt, ke, kp⟩) = (ond.take j).flatMap (needOf ts ne (tkAt ts kt) ⟨kt, ke, kp⟩) ++ needOf ts ne (tkAt ts kt) ⟨kt, ke, kp⟩ ond[j] := by
        rw [List.take_succ_eq_append_getElem hjx, List.flatMap_append, List.flatMap_cons, List.flatMap_nil, List.append_nil]
      have HSU := Lib.hid hsucc
      have HAC := Lib.hid hacc
      have HLT := Lib.hid hlt
      have HNS := Lib.hid hnsz
      generalize ond[j] = s at n0 hpn HSU HAC HNS
      clear hsucc hacc hlt hat hnsz hjx
      obtain ⟨b', off', sa, sl, sc, len', cap', hrow, -, hlen', m0, m1, m2, m3, -, hnm⟩ := HWr.out.task hpn
      have HPI2 := Lib.hid (plcI_pos hpn)
      obtain ⟨t, ht⟩ : ∃ t, tkAt ts s = t := ⟨_, rfl⟩
      rw [ht] at m0 m2 m3 hnm
      have HTK := Lib.hid ht
      have HNM2 := Lib.hid hnm
      obtain ⟨tnm, tnd, tg, ta⟩ := t
      simp only at m0 m2 m3 HNM2
      obtain ⟨pl2, hpl2⟩ : ∃ n, plc ts s = n := ⟨_, rfl⟩
      rw [hpl2] at HPI2 hlen' m0 m1 m2 m3
      have hlI2 : ((pl2 : Nat) : Int) < (len' : Int) := by omega
      have hC1 : Cells [(⟨p, 0, none⟩, .slice (some ⟨b', off', none⟩) len' cap'), (⟨b', off' + pl2 * 4, none⟩, .string tnm), (⟨b', off' + pl2 * 4 + 1, none⟩, .slice sa sl sc), (⟨b', off' + pl2 * 4 + 2, none⟩, .bool tg), (⟨b', off' + pl2 * 4 + 3, none⟩, .bool ta)] wr := ⟨blk_cell hrow 0, m0, m1, m2, m3, trivial⟩
      clear hrow hlen' m0 m1 m2 m3 hnm ht hpl2 hpn
      go_wp2_with fail
      clear n0
      refine wp_cut [27, 28, 29, 30, 31, 32, 33, 34, 35, 9] (fun vs w' => ∃ v10 v11 v12 v13 v14 v15 v16 v17 v18 b9, vs = [v10, v11, v12, v13, v14, v15, v16, v17, v18, .pointer (some ⟨b9, 0, none⟩)] ∧ Below wr.heap.size wr w' ∧ w'.heap[b9]? = some (.cells #[.string tnm, .slice sa sl sc, .bool tg, .bool ta] 68 (0, 0))) ?_ ?_
      · skip
        refine wp_region_T (Cells [(⟨p, 0, none⟩, .slice (some ⟨b', off', none⟩) len' cap'), (⟨b', off' + pl2 * 4, none⟩, .string tnm), (⟨b', off' + pl2 * 4 + 1, none⟩, .slice sa sl sc), (⟨b', off' + pl2 * 4 + 2, none⟩, .bool tg), (⟨b', off' + pl2 * 4 + 3, none⟩, .bool ta)]) (fun i => i == 10) (by kernel_rfl) ?_
        have hSss8 := Cells.drew hC1
        have hB_0_s8 : Below wr.heap.size wr wr.drew := below_drew _
        generalize wr.drew = s8 at hSss8 hB_0_s8 ⊢
        have hB_s8_s8 := Below.refl s8.heap.size s8
        refine wpAnyT_pure (i := 0) (v := ?_) rfl (by kernel_rfl) (by kernel_rfl) (by kernel_rfl) (fun _ _ _ h => h) (by rfl) ?_ ?_
        rotate_left
        · intro w; go_simp; try with_reducible rfl
        simp only [Act.put, rgA, rgB, rgC, rgD, rgE, rgF]
        refine wpAnyT_pure (i := 1) (v := ?_) rfl (by kernel_rfl) (by kernel_rfl) (by kernel_rfl) (fun _ _ _ h => h) (by rfl) ?_ ?_
        rotate_left
        · intro w; go_simp; try with_reducible rfl
        simp only [Act.put, rgA, rgB, rgC, rgD, rgE, rgF]
        refine wpAnyT_pure (i := 2) (v := ?_) rfl (by kernel_rfl) (by kernel_rfl) (by kernel_rfl) (fun _ _ _ h => h) (by rfl) ?_ ?_
        rotate_left
        · intro w; go_simp; try with_reducible rfl
        simp only [Act.put, rgA, rgB, rgC, rgD, rgE, rgF]
        refine wpAnyT_pure (i := 4) (v := ?_) rfl (by kernel_rfl) (by kernel_rfl) (by kernel_rfl) (fun _ _ _ h => h) (by rfl) ?_ ?_
        rotate_left
        · intro w; go_simp; try with_reducible rfl
        simp only [Act.put, rgA, rgB, rgC, rgD, rgE, rgF]
        refine wpAnyT_pure (i := 5) (v := ?_) rfl (by kernel_rfl) (by kernel_rfl) (by kernel_rfl) (fun _ _ _ h => h) (by rfl) ?_ ?_
        rotate_left
        · intro w; go_simp; try with_reducible rfl
        simp only [Act.put, rgA, rgB, rgC, rgD, rgE, rgF]
        refine wpAnyT_loadW (i := 3) (v := ?_) rfl (by kernel_rfl) (by kernel_rfl) (by kernel_rfl) (by kernel_rfl) (by kernel_rfl) (fun _ _ _ h => h) (Or.inl ⟨by rfl, ?_⟩) hSss8 ?_
        rotate_left
        · intro w hSw; obtain ⟨e0, e1, e2, e3, e4, -⟩ := hSw; go_simp; try with_reducible rfl
        simp only [Act.put, rgA, rgB, rgC, rgD, rgE, rgF]
        refine wpAnyT_two (i := 6) (k := 9) (by kernel_rfl) rfl rfl (by rfl) (by rfl) ?_ ?_
        · skip
          refine wp_enter (f := 52) (args := #[.pointer (some ⟨p, 0, none⟩), .string s]) (by go_simp) (place53 s8 p ts ne np m (HWr.out.below (hB_0_s8.trans ((hB_s8_s8).mono (hB_0_s8).size))) s) ?_
          rw [HPI2.out]
          rintro e w109 ⟨rfl, hX⟩
          try replace r6 := (hX.block _ (blk_lt r6)).trans r6
          have hB_s8_w109 := below_step hB_s8_s8 hX
          have hB_w109_w109 := Below.refl w109.heap.size w109
          have hSsw109 := Cells.below hB_s8_w109 hSss8
          clear hX
          refine ⟨_, rfl, fun _ _ => hSsw109, ?_⟩
          try simp only [Act.put, rgA, rgB, rgC, rgD, rgE, rgF]
          refine wpAnyT_pure (i := 7) (v := ?_) rfl (by kernel_rfl) (by kernel_rfl) (by kernel_rfl) (fun _ _ _ h => h) (by rfl) ?_ ?_
          rotate_left
          · intro w; go_simp; try with_reducible rfl
          simp only [Act.put, rgA, rgB, rgC, rgD, rgE, rgF]
          refine wpAnyT_loadW (i := 8) (v := ?_) rfl (by kernel_rfl) (by kernel_rfl) (by kernel_rfl) (by kernel_rfl) (by kernel_rfl) (fun _ _ _ h => h) (Or.inl ⟨by rfl, ?_⟩) hSsw109 ?_
          rotate_left
          · intro w hSw; obtain ⟨e0, e1, e2, e3, e4, -⟩ := hSw; go_simp; try with_reducible rfl
          simp only [Act.put, rgA, rgB, rgC, rgD, rgE, rgF]
          refine wpAnyT_one (i := 9) (by kernel_rfl) rfl (by rfl) ?_
          obtain ⟨b6, hb6⟩ : ∃ b, (w109).heap.size = b := ⟨_, rfl⟩
          have hge6 : (s8).heap.size ≤ b6 := hb6 ▸ (hB_s8_w109).size
          refine wp_newrow (v := .pointer (some ⟨b6, 0, none⟩)) (cs := #[.string ⟨#[]⟩, .slice none 0 0, .bool false, .bool false]) (te := 68) (by rw [← hb6]; go_simp) ?_
          intro w110 hX r6
          rw [hb6] at r6
          have hB_s8_w110 := below_step hB_s8_w109 hX
          have hB_w109_w110 := below_step hB_w109_w109 hX
          have hB_w110_w110 := Below.refl w110.heap.size w110
          have hSsw110 := Cells.below hB_s8_w110 hSss8
          clear hX
          refine ⟨fun _ _ => hSsw110, ?_⟩
          try simp only [Act.put, rgA, rgB, rgC, rgD, rgE, rgF]
          refine wpAnyT_one (i := 10) (by kernel_rfl) rfl (by rfl) ?_
          have hr7 : (w110).heap[b6]? = some (.cells #[.string ⟨#[]⟩, .slice none 0 0, .bool false, .bool false] 68 (0, 0)) := by first | exact r6 | exact ((hB_w110_w110).block _ (blk_lt r6)).trans r6
          refine wp_store_row 68 (.tmp 9) (.tmp 35) rfl b6 #[.string tnm, .slice sa sl sc, .bool tg, .bool ta] (by kernel_rfl) (by kernel_rfl) 68 _ hr7 (by kernel_rfl) (by rfl) (by simp [Value.oneCell']) ?_
          have hblk := setRow_heap (w110) b6 _ #[.string tnm, .slice sa sl sc, .bool tg, .bool ta] _ _ hr7
          have hX := below_setRow (hB_s8_w110) hge6 #[.string tnm, .slice sa sl sc, .bool tg, .bool ta]
          generalize (w110).setRow b6 #[.string tnm, .slice sa sl sc, .bool tg, .bool ta] = w111 at hblk hX ⊢
          refine ⟨fun h => absurd h (by decide), ?_⟩
          try simp only [Act.put, rgA, rgB, rgC, rgD, rgE, rgF]
          refine wpAnyT_done (by kernel_rfl) ?_ _
          refine cut_leaf ?_ ?_
          focus kernel_rfl
          exact ⟨_, _, _, _, _, _, _, _, _, b6, rfl, hB_0_s8.trans (hX.mono hB_0_s8.size), hblk⟩
        · skip
          obtain ⟨b6, hb6⟩ : ∃ b, (s8).heap.size = b := ⟨_, rfl⟩
          have hge6 : (s8).heap.size ≤ b6 := hb6 ▸ (hB_s8_s8).size
          refine wp_newrow (v := .pointer (some ⟨b6, 0, none⟩)) (cs := #[.string ⟨#[]⟩, .slice none 0 0, .bool false, .bool false]) (te := 68) (by rw [← hb6]; go_simp) ?_
          intro w112 hX r6
          rw [hb6] at r6
          have hB_s8_w112 := below_step hB_s8_s8 hX
          have hB_w112_w112 := Below.refl w112.heap.size w112
          have hSsw112 := Cells.below hB_s8_w112 hSss8
          clear hX
          refine ⟨fun _ _ => hSsw112, ?_⟩
          try simp only [Act.put, rgA, rgB, rgC, rgD, rgE, rgF]
          refine wpAnyT_one (i := 6) (by kernel_rfl) rfl (by rfl) ?_
          refine wp_enter (f := 52) (args := #[.pointer (some ⟨p, 0, none⟩), .string s]) (by go_simp) (place53 w112 p ts ne np m (HWr.out.below (hB_0_s8.trans ((hB_s8_w112).mono (hB_0_s8).size))) s) ?_
          rw [HPI2.out]
          rintro e w113 ⟨rfl, hX⟩
          try replace r6 := (hX.block _ (blk_lt r6)).trans r6
          have hB_s8_w113 := below_step hB_s8_w112 hX
          have hB_w112_w113 := below_step hB_w112_w112 hX
          have hB_w113_w113 := Below.refl w113.heap.size w113
          have hSsw113 := Cells.below hB_s8_w113 hSss8
          clear hX
          refine ⟨_, rfl, fun _ _ => hSsw113, ?_⟩
          try simp only [Act.put, rgA, rgB, rgC, rgD, rgE, rgF]
          refine wpAnyT_pure (i := 7) (v := ?_) rfl (by kernel_rfl) (by kernel_rfl) (by kernel_rfl) (fun _ _ _ h => h) (by rfl) ?_ ?_
          rotate_left
          · intro w; go_simp; try with_reducible rfl
          simp only [Act.put, rgA, rgB, rgC, rgD, rgE, rgF]
          refine wpAnyT_loadW (i := 8) (v := ?_) rfl (by kernel_rfl) (by kernel_rfl) (by kernel_rfl) (by kernel_rfl) (by kernel_rfl) (fun _ _ _ h => h) (Or.inl ⟨by rfl, ?_⟩) hSsw113 ?_
          rotate_left
          · intro w hSw; obtain ⟨e0, e1, e2, e3, e4, -⟩ := hSw; go_simp; try with_reducible rfl
          simp only [Act.put, rgA, rgB, rgC, rgD, rgE, rgF]
          refine wpAnyT_one (i := 10) (by kernel_rfl) rfl (by rfl) ?_
          have hr7 : (w113).heap[b6]? = some (.cells #[.string ⟨#[]⟩, .slice none 0 0, .bool false, .bool false] 68 (0, 0)) := by first | exact r6 | exact ((hB_w112_w113).block _ (blk_lt r6)).trans r6
          refine wp_store_row 68 (.tmp 9) (.tmp 35) rfl b6 #[.string tnm, .slice sa sl sc, .bool tg, .bool ta] (by kernel_rfl) (by kernel_rfl) 68 _ hr7 (by kernel_rfl) (by rfl) (by simp [Value.oneCell']) ?_
          have hblk := setRow_heap (w113) b6 _ #[.string tnm, .slice sa sl sc, .bool tg, .bool ta] _ _ hr7
          have hX := below_setRow (hB_s8_w113) hge6 #[.string tnm, .slice sa sl sc, .bool tg, .bool ta]
          generalize (w113).setRow b6 #[.string tnm, .slice sa sl sc, .bool tg, .bool ta] = w114 at hblk hX ⊢
          refine ⟨fun h => absurd h (by decide), ?_⟩
          try simp only [Act.put, rgA, rgB, rgC, rgD, rgE, rgF]
          refine wpAnyT_done (by kernel_rfl) ?_ _
          refine cut_leaf ?_ ?_
          focus kernel_rfl
          exact ⟨_, _, _, _, _, _, _, _, _, b6, rfl, hB_0_s8.trans (hX.mono hB_0_s8.size), hblk⟩
      rintro vs w4 ⟨u10, u11, u12, u13, u14, u15, u16, u17, u18, b9, rfl, hB4, hr9⟩
      simp only [puts, Act.put, List.setIfInBounds_toArray, List.set_cons_zero, List.set_cons_succ]
      have HB4 := Lib.hid (below_step HBr.out hB4)
      have HW4 := Lib.hid (HWr.out.below hB4)
      have HO4 := Lib.hid (HO.out.below hB4)
      have hr5 := (hB4.block _ (blk_lt HR5r.out)).trans HR5r.out
      have hcb4 := (hB4.block _ (blk_lt HCBr.out)).trans HCBr.out
      have x2 := blk_cell hr5 2
      have y0 := blk_cell hr9 0
      have y1 := blk_cell hr9 1
      have y2 := blk_cell hr9 2
      have y3 := blk_cell hr9 3
      have k1 := blk_cell hcb4 1
      have k2 := blk_cell hcb4 2
      simp at x2 y0 y1 y2 y3 k1 k2
      clear hB4 hr9 hr5 hcb4 hC1
      cases tg
      · cases og
        · have hnew : needOf ts ne (tkAt ts kt) ⟨kt, ke, kp⟩ s = [⟨s, ke, kp⟩] := by
            unfold needOf
            rw [HTK.out, HOWN.out]
            rfl
          rw [hnew] at HSU HAC
          clear hnew
          have HKO := Lib.hid (show Ky.ok ⟨s, ke, kp⟩ from ⟨HNS.out, HN.out.ok.2⟩)
          go_wp2_with (at_builtin; go_must (refine wpList_app _ rfl _ _ 46 rfl (e := keyT) (te := 48) info_key Tryz.underlying46 rfl (by decide) (base := w2.heap.size) (S := fun _ => False) (v := .slice va vl vc) (xs := ((ond.take j).flatMap (needOf ts ne (tkAt ts kt) ⟨kt, ke, kp⟩)).map Ky.d) rfl (HO4.out.alloc _) (by have := HB4.out.size; simp only [World.size_alloc]; omega) rfl (ys := [Ky.d ⟨s, ke, kp⟩]) (Src.new _ [_, _, _] _ _ _) (RdL.one (e := keyT) (key_rd HKO.out)) (by have := HAC.out; rw [List.length_map]; simp only [List.length_singleton] at *; omega) (by have := HAC.out; rw [List.length_map]; simp only [List.length_singleton] at *; omega) ?_; intro v' w6 O6 g6 _ ob6; have HO6 := Lib.hid O6; have HG6 := Lib.hid g6; clear O6 g6 ob6))
          go_roundw
          case rel => exact ⟨j + 1, HLT.out, by go_num, by rw [HSU.out, List.map_append]; exact HO6.out, (HB4.out.alloc HB4.out.size _).grown HG6.out (by have := HB4.out.size; simp only [World.size_alloc]; omega) (fun c hc => (HO4.out.own c hc).1)⟩
          case measure => simp [intOf]; try omega
        · skip
          have hnew : needOf ts ne (tkAt ts kt) ⟨kt, ke, kp⟩ s = keysL ne ⟨tnm, tnd, false, ta⟩ kp := by
            unfold needOf
            rw [HTK.out, HOWN.out]
            rfl
          rw [hnew] at HSU HAC
          clear hnew
          go_wp2_with fail
          refine (keys53 w4 p ts ne np m HW4.out hne ⟨tnm, tnd, false, ta⟩ sa sl sc HNM2.out kp HN.out.ok.2.2).mono ?_
          rintro e w5 ⟨kv, rfl, hO5, hB5⟩
          obtain ⟨ka, kl, kc, rfl, -⟩ := hO5.slice
          obtain ⟨news, hs5, hr5⟩ := (hO5.rd (fun b => b < w5.heap.size) (fun _ h => h.elim) (fun b hb => (hO5.own b hb).2)).src
          have HSRC := Lib.hid hs5
          have HRDL := Lib.hid (hr5.flat keyT_flat (S' := fun _ => False) (w' := w5))
          have HO5 := Lib.hid (HO4.out.below hB5)
          have HB5 := Lib.hid (below_step HB4.out hB5)
          clear hO5 hs5 hr5 hB5 x2 y0 y1 y2 y3 k1 k2
          go_wp2_with (at_builtin; go_must (refine wpList_app _ rfl _ _ 46 rfl (e := keyT) (te := 48) info_key Tryz.underlying46 rfl (by decide) (base := w2.heap.size) (S := fun _ => False) (v := .slice va vl vc) (xs := ((ond.take j).flatMap (needOf ts ne (tkAt ts kt) ⟨kt, ke, kp⟩)).map Ky.d) rfl HO5.out HB5.out.size rfl (ys := (keysL ne ⟨tnm, tnd, false, ta⟩ kp).map Ky.d) HSRC.out HRDL.out (by have := HAC.out; rw [List.length_map, List.length_map]; omega) (by have := HAC.out; rw [List.length_map, List.length_map]; omega) ?_; intro v' w6 O6 g6 _ ob6; have HO6 := Lib.hid O6; have HG6 := Lib.hid g6; clear O6 g6 ob6))
          go_roundw
          case rel => exact ⟨j + 1, HLT.out, by go_num, by rw [HSU.out, List.map_append]; exact HO6.out, HB5.out.grown HG6.out HB5.out.size (fun c hc => (HO5.out.own c hc).1)⟩
          case measure => simp [intOf]; try omega
      · skip
        have hnew : needOf ts ne (tkAt ts kt) ⟨kt, ke, kp⟩ s = keysL ne ⟨tnm, tnd, true, ta⟩ kp := by
          unfold needOf
          rw [HTK.out, HOWN.out]
          rfl
        rw [hnew] at HSU HAC
        clear hnew
        go_wp2_with fail
        refine (keys53 w4 p ts ne np m HW4.out hne ⟨tnm, tnd, true, ta⟩ sa sl sc HNM2.out kp HN.out.ok.2.2).mono ?_
        rintro e w5 ⟨kv, rfl, hO5, hB5⟩
        obtain ⟨ka, kl, kc, rfl, -⟩ := hO5.slice
        obtain ⟨news, hs5, hr5⟩ := (hO5.rd (fun b => b < w5.heap.size) (fun _ h => h.elim) (fun b hb => (hO5.own b hb).2)).src
        have HSRC := Lib.hid hs5
        have HRDL := Lib.hid (hr5.flat keyT_flat (S' := fun _ => False) (w' := w5))
        have HO5 := Lib.hid (HO4.out.below hB5)
        have HB5 := Lib.hid (below_step HB4.out hB5)
        clear hO5 hs5 hr5 hB5 x2 y0 y1 y2 y3 k1 k2
        go_wp2_with (at_builtin; go_must (refine wpList_app _ rfl _ _ 46 rfl (e := keyT) (te := 48) info_key Tryz.underlying46 rfl (by decide) (base := w2.heap.size) (S := fun _ => False) (v := .slice va vl vc) (xs := ((ond.take j).flatMap (needOf ts ne (tkAt ts kt) ⟨kt, ke, kp⟩)).map Ky.d) rfl HO5.out HB5.out.size rfl (ys := (keysL ne ⟨tnm, tnd, true, ta⟩ kp).map Ky.d) HSRC.out HRDL.out (by have := HAC.out; rw [List.length_map, List.length_map]; omega) (by have := HAC.out; rw [List.length_map, List.length_map]; omega) ?_; intro v' w6 O6 g6 _ ob6; have HO6 := Lib.hid O6; have HG6 := Lib.hid g6; clear O6 g6 ob6))
        go_roundw
        case rel => exact ⟨j + 1, HLT.out, by go_num, by rw [HSU.out, List.map_append]; exact HO6.out, HB5.out.grown HG6.out HB5.out.size (fun c hc => (HO5.out.own c hc).1)⟩
        case measure => simp [intOf]; try omega
    · obtain rfl : nl = j := by omega
      have hall : ond.take nl = ond := List.take_of_length_le (by rw [HNL.out]; exact Nat.le_refl _)
      rw [hall] at HO
      clear hall hlt
      have x3 := blk_cell HR5r.out 3
      have k0 := blk_cell HCBr.out 0
      have k1 := blk_cell HCBr.out 1
      have k2 := blk_cell HCBr.out 2
      simp at x3 k0 k1 k2
      have HRAW := Lib.hid (show rawNeeds ts ne ⟨kt, ke, kp⟩ = ond.flatMap (needOf ts ne (tkAt ts kt) ⟨kt, ke, kp⟩) ++ (if oa && decide (0 < kp) then [⟨kt, ke, kp - 1⟩] else []) from by
        unfold rawNeeds
        simp only [HOWN.out])
      cases oa
      · simp only [Bool.false_and, Bool.false_eq_true, if_false, List.append_nil] at HRAW
        go_wp2_with fail
        clear x3 k0 k1 k2
        have hl12 := HN.out.len
        have hnd := HN.out.nodup
        rw [HRAW.out] at hl12 hnd
        have hS := sortKeys53 wr p ts ne np m (HW2.out.below HBr.out) (.slice va vl vc) _ HO.out hl12 (owns_ok HO.out) HPS.out HW2.out.hS HBr.out.size
        unfold cmpV at hS
        have HSO := Lib.hid hS
        have HNDD := Lib.hid hnd
        clear hS hl12 hnd
        go_wp2_with fail
        refine HSO.out.mono ?_
        rintro e w7 ⟨rfl, l', hp', ha', hr', hB'⟩
        have HPE := Lib.hid hp'
        have HAS := Lib.hid ha'
        have HRE := Lib.hid hr'
        have HB7 := Lib.hid (HBr.out.trans hB')
        clear hp' ha' hr' hB'
        go_wp2_with fail
        refine (compact53 w7 va vl vc l' HRE.out (fun _ h => h) (adj_of_nodup (HPE.out.nodup_iff.2 HNDD.out))).mono ?_
        rintro e w8 ⟨rfl, hB8⟩
        have HB8 := Lib.hid hB8
        clear hB8
        go_wp2_with fail
        go_ret
        exact ⟨_, _, _, l', rfl, by rw [HRAW.out]; exact HPE.out, HRE.out.alloc HB8.out, fun x hx => owns_ok HO.out x (HPE.out.mem_iff.1 hx), below_step HBW.out (HB7.out.trans (HB8.out.mono HB7.out.size)), HAS.out⟩
      · by_cases hkp : 0 < kp
        · simp only [Bool.true_and, decide_eq_true hkp, if_true] at HRAW
          have hwp : IntKind.i64.wrap (kp - 1) = kp - 1 := by
            have h1 := wf_pred HN.out.ok.2.2 hkp
            simp [Lit.wf, IntKind.min, IntKind.max, IntKind.signed, IntKind.bits] at h1
            rw [IntKind.wrap_i64] <;> omega
          have HKO := Lib.hid (show Ky.ok ⟨kt, ke, kp - 1⟩ from ⟨HN.out.ok.1, HN.out.ok.2.1, wf_pred HN.out.ok.2.2 hkp⟩)
          have HMAP := Lib.hid (show (ond.flatMap (needOf ts ne (tkAt ts kt) ⟨kt, ke, kp⟩) ++ [(⟨kt, ke, kp - 1⟩ : Ky)]).map Ky.d = (ond.flatMap (needOf ts ne (tkAt ts kt) ⟨kt, ke, kp⟩)).map Ky.d ++ [Ky.d ⟨kt, ke, kp - 1⟩] from by rw [List.map_append]; rfl)
          have HL12 := Lib.hid (show (ond.flatMap (needOf ts ne (tkAt ts kt) ⟨kt, ke, kp⟩)).length + 1 ≤ 1000 from by have h := HN.out.len; rw [HRAW.out, List.length_append] at h; exact h)
          go_wp2_with (at_builtin; go_must (refine wpList_app _ rfl _ _ 46 rfl (e := keyT) (te := 48) info_key Tryz.underlying46 rfl (by decide) (base := w2.heap.size) (S := fun _ => False) (v := .slice va vl vc) (xs := (ond.flatMap (needOf ts ne (tkAt ts kt) ⟨kt, ke, kp⟩)).map Ky.d) rfl (HO.out.alloc _) (by have := HBr.out.size; simp only [World.size_alloc]; omega) rfl (ys := [Ky.d ⟨kt, ke, kp - 1⟩]) (Src.new _ [_, _, _] _ _ _) (RdL.one (e := keyT) (key_rd HKO.out)) (by have := HL12.out; rw [List.length_map]; simp only [List.length_singleton] at *; omega) (by have := HL12.out; rw [List.length_map]; simp only [List.length_singleton] at *; omega) ?_; intro v' w6 O6 g6 _ ob6; have HG6 := Lib.hid ((HBr.out.alloc HBr.out.size _).grown g6 (by have := HBr.out.size; simp only [World.size_alloc]; omega) (fun c hc => (HO.out.own c hc).1)); rw [← HMAP.out] at O6; obtain ⟨da, dl, dc, rfl, -⟩ := O6.slice; have HO6 := Lib.hid O6; clear O6 g6 ob6))
          clear x3 k0 k1 k2
          have hl12 := HN.out.len
          have hnd := HN.out.nodup
          rw [HRAW.out] at hl12 hnd
          have hS := sortKeys53 w6 p ts ne np m (HW2.out.below HG6.out) (.slice da dl dc) _ HO6.out hl12 (owns_ok HO6.out) HPS.out HW2.out.hS HG6.out.size
          unfold cmpV at hS
          have HSO := Lib.hid hS
          have HNDD := Lib.hid hnd
          clear hS hl12 hnd
          go_wp2_with fail
          refine HSO.out.mono ?_
          rintro e w7 ⟨rfl, l', hp', ha', hr', hB'⟩
          have HPE := Lib.hid hp'
          have HAS := Lib.hid ha'
          have HRE := Lib.hid hr'
          have HB7 := Lib.hid (HG6.out.trans hB')
          clear hp' ha' hr' hB'
          go_wp2_with fail
          refine (compact53 w7 da dl dc l' HRE.out (fun _ h => h) (adj_of_nodup (HPE.out.nodup_iff.2 HNDD.out))).mono ?_
          rintro e w8 ⟨rfl, hB8⟩
          have HB8 := Lib.hid hB8
          clear hB8
          go_wp2_with fail
          go_ret
          exact ⟨_, _, _, l', rfl, by rw [HRAW.out]; exact HPE.out, HRE.out.alloc HB8.out, fun x hx => owns_ok HO6.out x (HPE.out.mem_iff.1 hx), below_step HBW.out (HB7.out.trans (HB8.out.mono HB7.out.size)), HAS.out⟩
        · simp only [Bool.true_and, decide_eq_false hkp, Bool.false_eq_true, if_false, List.append_nil] at HRAW
          go_wp2_with fail
          clear x3 k0 k1 k2
          have hl12 := HN.out.len
          have hnd := HN.out.nodup
          rw [HRAW.out] at hl12 hnd
          have hS := sortKeys53 wr p ts ne np m (HW2.out.below HBr.out) (.slice va vl vc) _ HO.out hl12 (owns_ok HO.out) HPS.out HW2.out.hS HBr.out.size
          unfold cmpV at hS
          have HSO := Lib.hid hS
          have HNDD := Lib.hid hnd
          clear hS hl12 hnd
          go_wp2_with fail
          refine HSO.out.mono ?_
          rintro e w7 ⟨rfl, l', hp', ha', hr', hB'⟩
          have HPE := Lib.hid hp'
          have HAS := Lib.hid ha'
          have HRE := Lib.hid hr'
          have HB7 := Lib.hid (HBr.out.trans hB')
          clear hp' ha' hr' hB'
          go_wp2_with fail
          refine (compact53 w7 va vl vc l' HRE.out (fun _ h => h) (adj_of_nodup (HPE.out.nodup_iff.2 HNDD.out))).mono ?_
          rintro e w8 ⟨rfl, hB8⟩
          have HB8 := Lib.hid hB8
          clear hB8
          go_wp2_with fail
          go_ret
          exact ⟨_, _, _, l', rfl, by rw [HRAW.out]; exact HPE.out, HRE.out.alloc HB8.out, fun x hx => owns_ok HO.out x (HPE.out.mem_iff.1 hx), below_step HBW.out (HB7.out.trans (HB8.out.mono HB7.out.size)), HAS.out⟩
end Go.Proofs.YtdcjocldggmdbaaGreat

/- Layer 53: open, Sign, Signed. -/
set_option linter.unusedSimpArgs false
namespace Go.Proofs.YtdcjocldggmdbaaGreat
open Go.RowKit Go

/-- All prerequisites are signed. -/
def readyB (ts : List Tk) (ne : Nat) (f : Ky → Option ByteArray) (k : Ky) : Bool := (rawNeeds ts ne k).all fun n => (f n).isSome
theorem any_ready {ts : List Tk} {ne : Nat} {f : Ky → Option ByteArray} {k : Ky} {l : List Ky} (h : l.Perm (rawNeeds ts ne k)) : (!(l.any fun n => (f n).isNone)) = readyB ts ne f k := by
  unfold readyB
  rw [Bool.eq_iff_iff]
  simp only [Bool.not_eq_true', List.any_eq_false, List.all_eq_true]
  constructor
  · intro h1 x hx
    have := h1 x (h.mem_iff.2 hx)
    cases hf : f x with
    | none => rw [hf] at this; exact absurd rfl this
    | some _ => rfl
  · intro h1 x hx
    have := h1 x (h.mem_iff.1 hx)
    cases hf : f x with
    | none => rw [hf] at this; cases this
    | some _ => simp
set_option maxRecDepth 20000 in
set_option maxHeartbeats 1000000 in
theorem open53 {S : Nat → Prop} (w : World) (p : Nat) (ts : List Tk) (ne np m n : Nat) (f : Ky → Option ByteArray) (h : WfIn S w p ts ne np m n f) (hne : ne ≤ 1000) (k : Ky) (hN : NeedOk ts ne k) :
    Calls Tryz.prog 36 #[.pointer (some ⟨p, 0, none⟩), k.v] w fun e w' => e = .returned (.bool ((f k).isNone && readyB ts ne f k)) ∧ Below w.heap.size w w' := by
  have hok := hN.ok
  have HNE := Lib.hid fun W (hB : Below w.heap.size w W) => needs53 W p ts ne np m (h.wf.below hB) hne k hN
  obtain ⟨fk, hfk⟩ : ∃ o, f k = o := ⟨_, rfl⟩
  have HRD := Lib.hid fun (l : List Ky) (hl : l.Perm (rawNeeds ts ne k)) => any_ready (f := f) hl
  unfold NeedP at HNE
  rw [hfk]
  have HFK := Lib.hid hfk
  generalize readyB ts ne f k = rb at HRD ⊢
  generalize rawNeeds ts ne k = raw at HNE HRD
  obtain ⟨k1, k2, k3⟩ := k
  unfold Ky.v at *
  simp only at HNE
  have hh2 := heap_alloc2_old w (.cells #[.pointer (some ⟨p, 0, none⟩)] 32) (.cells #[.string k1, .int .i64 k2, .int .i64 k3] 48)
  have hr2 := heap_alloc2_new w (.cells #[.pointer (some ⟨p, 0, none⟩)] 32) (.cells #[.string k1, .int .i64 k2, .int .i64 k3] 48)
  have hB1 : Below w.heap.size w ((w.alloc (.cells #[.pointer (some ⟨p, 0, none⟩)] 32)).alloc (.cells #[.string k1, .int .i64 k2, .int .i64 k3] 48)) := ((Below.refl _ w).alloc (Nat.le_refl _) _).alloc (by simp) _
  have h' := h.below hB1
  obtain ⟨a, len, cap, xs, h1, -, -⟩ := h'.wf.row
  have H := Lib.hid h'
  have HB1 := Lib.hid hB1
  have HK := Lib.hid hok
  have HP := Lib.hid hh2
  have HKB := Lib.hid hr2
  have hC0 : Cells [(⟨w.heap.size, 0, none⟩, .pointer (some ⟨p, 0, none⟩)), (⟨p, 3, none⟩, .map (some m)), (⟨w.heap.size + 1, 0, none⟩, .string k1), (⟨w.heap.size + 1, 1, none⟩, .int .i64 k2), (⟨w.heap.size + 1, 2, none⟩, .int .i64 k3)] ((w.alloc (.cells #[.pointer (some ⟨p, 0, none⟩)] 32)).alloc (.cells #[.string k1, .int .i64 k2, .int .i64 k3] 48)) := ⟨blk_cell hh2 0, blk_cell h1 3, blk_cell hr2 0, blk_cell hr2 1, blk_cell hr2 2, trivial⟩
  clear h h' hB1 hh2 hr2 h1 hok hfk hN
  go_enter Tryz.func36, Tryz.ntmps36
  go_wp2_with fail
  generalize (w.alloc (.cells #[.pointer (some ⟨p, 0, none⟩)] 32)).alloc (.cells #[.string k1, .int .i64 k2, .int .i64 k3] 48) = w1 at *
  refine wp_region_T (Cells [(⟨w.heap.size, 0, none⟩, .pointer (some ⟨p, 0, none⟩)), (⟨p, 3, none⟩, .map (some m)), (⟨w.heap.size + 1, 0, none⟩, .string k1), (⟨w.heap.size + 1, 1, none⟩, .int .i64 k2), (⟨w.heap.size + 1, 2, none⟩, .int .i64 k3)]) (fun _ => false) (by kernel_rfl) ?_
  have hSss1 := Cells.drew hC0
  have hB_0_s1 : Below w1.heap.size w1 w1.drew := below_drew _
  generalize w1.drew = s1 at hSss1 hB_0_s1 ⊢
  have hB_s1_s1 := Below.refl s1.heap.size s1
  refine wpAnyT_loadW (i := 0) (v := ?_) rfl (by kernel_rfl) (by kernel_rfl) (by kernel_rfl) (by kernel_rfl) (by kernel_rfl) (fun _ _ _ h => h) (Or.inl ⟨by rfl, ?_⟩) hSss1 ?_
  rotate_left
  · intro w hSw; obtain ⟨e0, e1, e2, e3, e4, -⟩ := hSw; go_simp; try with_reducible rfl
  simp only [Act.put, rgA, rgB, rgC, rgD, rgE, rgF]
  refine wpAnyT_pure (i := 1) (v := ?_) rfl (by kernel_rfl) (by kernel_rfl) (by kernel_rfl) (fun _ _ _ h => h) (by rfl) ?_ ?_
  rotate_left
  · intro w; go_simp; try with_reducible rfl
  simp only [Act.put, rgA, rgB, rgC, rgD, rgE, rgF]
  refine wpAnyT_pure (i := 2) (v := ?_) rfl (by kernel_rfl) (by kernel_rfl) (by kernel_rfl) (fun _ _ _ h => h) (by rfl) ?_ ?_
  rotate_left
  · intro w; go_simp; try with_reducible rfl
  simp only [Act.put, rgA, rgB, rgC, rgD, rgE, rgF]
  refine wpAnyT_loadW (i := 3) (v := ?_) rfl (by kernel_rfl) (by kernel_rfl) (by kernel_rfl) (by kernel_rfl) (by kernel_rfl) (fun _ _ _ h => h) (Or.inl ⟨by rfl, ?_⟩) hSss1 ?_
  rotate_left
  · intro w hSw; obtain ⟨e0, e1, e2, e3, e4, -⟩ := hSw; go_simp; try with_reducible rfl
  simp only [Act.put, rgA, rgB, rgC, rgD, rgE, rgF]
  refine wpAnyT_loadW (i := 4) (v := ?_) rfl (by kernel_rfl) (by kernel_rfl) (by kernel_rfl) (by kernel_rfl) (by kernel_rfl) (fun _ _ _ h => h) (Or.inl ⟨by rfl, ?_⟩) hSss1 ?_
  rotate_left
  · intro w hSw; obtain ⟨e0, e1, e2, e3, e4, -⟩ := hSw; go_simp; try with_reducible rfl
  simp only [Act.put, rgA, rgB, rgC, rgD, rgE, rgF]
  refine wpAnyT_one (i := 5) (by kernel_rfl) rfl (by rfl) ?_
  have hlk := MapG.look2 ((H.out.below (hB_0_s1.trans ((hB_s1_s1).mono (hB_0_s1).size))).mp) Tryz.underlying90 ⟨k1, k2, k3⟩ HK.out
  rw [HFK.out] at hlk
  change Sem.run Tryz.prog (Instr.lookup 90 (.map (some m)) (.agg #[.string k1, .int .i64 k2, .int .i64 k3]) true) s1 = _ at hlk
  refine wp_value (v := .tuple #[.string (fk.getD ⟨#[]⟩), .bool fk.isSome]) (w' := s1) (by go_simp; rfl) ?_
  clear hlk
  refine ⟨fun _ h => h, ?_⟩
  try simp only [Act.put, rgA, rgB, rgC, rgD, rgE, rgF]
  refine wpAnyT_pure (i := 6) (v := ?_) rfl (by kernel_rfl) (by kernel_rfl) (by kernel_rfl) (fun _ _ _ h => h) (by rfl) ?_ ?_
  rotate_left
  · intro w; go_simp; try with_reducible rfl
  simp only [Act.put, rgA, rgB, rgC, rgD, rgE, rgF]
  refine wpAnyT_pure (i := 7) (v := ?_) rfl (by kernel_rfl) (by kernel_rfl) (by kernel_rfl) (fun _ _ _ h => h) (by rfl) ?_ ?_
  rotate_left
  · intro w; go_simp; try with_reducible rfl
  simp only [Act.put, rgA, rgB, rgC, rgD, rgE, rgF]
  refine wpAnyT_pure (i := 8) (v := ?_) rfl (by kernel_rfl) (by kernel_rfl) (by kernel_rfl) (fun _ _ _ h => h) (by rfl) ?_ ?_
  rotate_left
  · intro w; go_simp; try with_reducible rfl
  simp only [Act.put, rgA, rgB, rgC, rgD, rgE, rgF]
  refine wpAnyT_pure (i := 9) (v := ?_) rfl (by kernel_rfl) (by kernel_rfl) (by kernel_rfl) (fun _ _ _ h => h) (by rfl) ?_ ?_
  rotate_left
  · intro w; go_simp; try with_reducible rfl
  simp only [Act.put, rgA, rgB, rgC, rgD, rgE, rgF]
  refine wpAnyT_pure (i := 10) (v := ?_) rfl (by kernel_rfl) (by kernel_rfl) (by kernel_rfl) (fun _ _ _ h => h) (by rfl) ?_ ?_
  rotate_left
  · intro w; go_simp; try with_reducible rfl
  simp only [Act.put, rgA, rgB, rgC, rgD, rgE, rgF]
  refine wpAnyT_done (by kernel_rfl) ?_ _
  have hbP : Below w1.heap.size w1 s1 := hB_0_s1.trans ((hB_s1_s1).mono (hB_0_s1).size)
  obtain ⟨w2, rfl⟩ : ∃ x, x = s1 := ⟨_, rfl⟩
  have HB2 := Lib.hid (below_step HB1.out hbP)
  have H2 := Lib.hid (H.out.below hbP)
  have HP2 := Lib.hid ((hbP.block _ (blk_lt HP.out)).trans HP.out)
  have HKB2 := Lib.hid ((hbP.block _ (blk_lt HKB.out)).trans HKB.out)
  clear hbP
  cases fk with
  | some v =>
    go_wp2_with fail
    go_ret
    exact ⟨rfl, HB2.out⟩
  | none =>
    have x0 := blk_cell HP2.out 0
    have k0 := blk_cell HKB2.out 0
    have k1' := blk_cell HKB2.out 1
    have k2' := blk_cell HKB2.out 2
    simp at x0 k0 k1' k2'
    go_wp2_with fail
    refine (HNE.out w2 HB2.out).mono ?_
    rintro e w3 ⟨a, len, cap, l, rfl, hp, hr, hok, hB3, -⟩
    have HPE := Lib.hid hp
    have HC := Lib.hid (anyNot w3 p ts ne np m n f (H2.out.below hB3) a len cap l hr (fun _ h => h) w.heap.size ((hB3.block _ (blk_lt HP2.out)).trans HP2.out))
    have HB3 := Lib.hid (below_step HB2.out hB3)
    clear hp hr hok hB3 x0 k0 k1' k2'
    go_wp2_with fail
    refine HC.out.mono ?_
    rintro e w4 ⟨rfl, hB4⟩
    have HB4 := Lib.hid (below_step HB3.out hB4)
    clear hB4
    go_wp2_with fail
    go_ret
    refine ⟨?_, HB4.out⟩
    rw [← HRD.out l HPE.out]
    rfl
end Go.Proofs.YtdcjocldggmdbaaGreat
