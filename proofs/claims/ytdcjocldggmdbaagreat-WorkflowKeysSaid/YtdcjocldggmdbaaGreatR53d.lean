/- Layer 53: the reference's needed. -/
import Derived.Test.YtdcjocldggmdbaaGreatR53c
set_option linter.unusedSimpArgs false
set_option maxRecDepth 50000
namespace Go.Proofs.YtdcjocldggmdbaaGreat
open Go.RowKit Go

theorem RfW.task {S : Nat → Prop} {w : World} {ts : List Tk} {sg : List Sg} {sa : Option Addr} {sl sc : Nat} {ga : Option Addr} {gl gc : Nat} {xs : List taskT.den} (h : RfW S w ts sg sa sl sc ga gl gc xs) {n : ByteArray} (hn : plc ts n < ts.length) :
    ∃ b off na nl nc, sa = some ⟨b, off, none⟩ ∧ plc ts n < sl ∧ w.cell? ⟨b, off + plc ts n * 4, none⟩ = some (.string (tkAt ts n).name) ∧ w.cell? ⟨b, off + plc ts n * 4 + 1, none⟩ = some (.slice na nl nc) ∧ w.cell? ⟨b, off + plc ts n * 4 + 2, none⟩ = some (.bool (tkAt ts n).grp) ∧ w.cell? ⟨b, off + plc ts n * 4 + 3, none⟩ = some (.bool (tkAt ts n).aft) ∧ Rd (.sl .str) S w [.slice na nl nc] (tkAt ts n).needs ∧ (tkAt ts n).name.size ≤ maxLen := by
  have hq : plc ts n < xs.length := by rw [← List.length_map (f := tk), h.ht]; exact hn
  have hat : tkAt ts n = tk (xs[plc ts n]'hq) := by
    rw [tkAt_get hn]
    simp only [← h.ht, List.getElem_map]
  obtain ⟨b, o, na, nl, nc, rfl, -, m0, m1, m2, m3, hr, hz⟩ := task_at h.rt (plc ts n) hq
  rw [← hat] at m0 m2 m3 hr hz
  refine ⟨b, o, na, nl, nc, rfl, ?_, m0, m1, m2, m3, hr, hz⟩
  rw [← h.rt.sl_flat.1]
  exact hq
theorem filter_range (q : Nat) : ∀ n : Nat, (List.range n).filter (fun e => decide (((e : Nat) : Int) = (q : Int))) = if q < n then [q] else []
  | 0 => by simp
  | n + 1 => by
    rw [List.range_succ, List.filter_append, filter_range q n]
    by_cases h : q < n
    · rw [if_pos h, if_pos (by omega), List.filter_cons, if_neg (by simp; omega)]
      rfl
    · by_cases h2 : q = n
      · subst h2
        rw [if_neg h, if_pos (by omega), List.filter_cons, if_pos (by simp)]
        rfl
      · rw [if_neg h, if_neg (by omega), List.filter_cons, if_neg (by simp; omega)]
        rfl
theorem ent_need {ts : List Tk} {ne : Nat} {t own : Tk} {k : Ky} {s : ByteArray} (ht : tkAt ts s = t) (hn : t.name = s) (h : own.grp = false → t.grp = false → 0 ≤ k.ent ∧ k.ent < (ne : Int)) :
    ((entL ne t.grp).filter fun e => t.grp || own.grp || decide (e = k.ent)).map (fun e => (⟨t.name, e, k.per⟩ : Ky)) = needOf ts ne own k s := by
  unfold needOf
  rw [ht]
  obtain ⟨tn, tnd, tg, ta⟩ := t
  obtain ⟨on, ond, og, oa⟩ := own
  obtain ⟨kt, ke, kp⟩ := k
  simp only at hn h ⊢
  unfold entL keysL
  cases tg
  · cases og
    · obtain ⟨h1, h2⟩ := h rfl rfl
      obtain ⟨q, rfl⟩ : ∃ q : Nat, ke = (q : Int) := ⟨ke.toNat, by omega⟩
      simp only [Bool.false_eq_true, if_false, Bool.or_self, Bool.false_or]
      rw [List.filter_map]
      have e : ((fun e => decide (e = (q : Int))) ∘ fun e : Nat => (e : Int)) = fun e => decide (((e : Nat) : Int) = (q : Int)) := rfl
      rw [e, filter_range, if_pos (by omega), hn]
      rfl
    · simp only [Bool.false_eq_true, if_false, Bool.false_or, Bool.true_or, Bool.or_true, if_true]
      rw [List.filter_eq_self.2 (fun _ _ => rfl), List.map_map]
      rfl
  · simp only [if_true, Bool.true_or]
    rfl
theorem info_rkey : (Tryz.prog.info? 27).map (fun i => (i.zero, i.size, i.bytes)) = some (some (.agg #[.string ⟨#[]⟩, .int .i64 0, .int .i64 0]), keyT.sz, 32) := by kernel_rfl
/-- What needed leaves. -/
def RNeedP (ts : List Tk) (ne : Nat) (k : Ky) (w : World) (e : Ending) (w' : World) : Prop :=
  ∃ (a : Option Addr) (len cap : Nat), e = .returned (.slice a len cap) ∧ Rd (.sl keyT) (fun b => b < w'.heap.size) w' [.slice a len cap] ((rawNeeds ts ne k).map Ky.d) ∧ Below w.heap.size w w'
set_option maxRecDepth 20000 in
set_option maxHeartbeats 4000000 in
theorem rneeded53 {S : Nat → Prop} (w : World) (ne np : Nat) (ts : List Tk) (sg : List Sg) (sa : Option Addr) (sl sc : Nat) (ga : Option Addr) (gl gc : Nat) (xs : List taskT.den) (h : RfW S w ts sg sa sl sc ga gl gc xs) (hw : Wk ts ne np) (hn1000 : ne ≤ 1000) (k : Ky) (hkv : checkI ts ne np k = 0) :
    Calls Tryz.prog 27 #[rwV ne np sa sl sc ga gl gc, k.v] w (RNeedP ts ne k w) := by
  have hN := hw.need hkv
  have hent : (tkAt ts k.task).grp = false → 0 ≤ k.ent ∧ k.ent < (ne : Int) := fun e => by
    have := (kv_iff.1 hkv).2.1
    rw [if_neg (by rw [e]; simp)] at this
    exact this
  have hnmx : ∀ n ∈ (tkAt ts k.task).needs, (tkAt ts n).name = n := fun n hn => (hw.at_ (hN.nd n hn)).2.1
  obtain ⟨kt, ke, kp⟩ := k
  have hp := heap_alloc_new w (rwO ne np sa sl sc ga gl gc)
  have hB := (Below.refl w.heap.size w).alloc (Nat.le_refl _) (rwO ne np sa sl sc ga gl gc)
  have hk := heap_alloc_new (w.alloc (rwO ne np sa sl sc ga gl gc)) (.cells #[.string kt, .int .i64 ke, .int .i64 kp] 27)
  have hBk := (Below.refl (w.alloc (rwO ne np sa sl sc ga gl gc)).heap.size (w.alloc (rwO ne np sa sl sc ga gl gc))).alloc (Nat.le_refl _) (.cells #[.string kt, .int .i64 ke, .int .i64 kp] 27)
  replace hp := (hBk.block _ (blk_lt hp)).trans hp
  rw [World.size_alloc] at hk
  have HW := Lib.hid (h.below (below_step hB hBk))
  have HB := Lib.hid (below_step hB hBk)
  have HP := Lib.hid hp
  have HCB := Lib.hid hk
  obtain ⟨b, off, na, nl, nc, rfl, hlen, m0, m1, m2, m3, hnd, hnm⟩ := HW.out.task hN.hk
  have hlen : plc ts kt < sl := hlen
  have hT1 : plcI ts kt = plc ts kt := plcI_pos hN.hk
  have HN := Lib.hid hN
  have HND := Lib.hid hnd
  have HPI := Lib.hid hT1
  have HENT := Lib.hid (show (tkAt ts kt).grp = false → 0 ≤ ke ∧ ke < (ne : Int) from hent)
  have HNX := Lib.hid (show ∀ n ∈ (tkAt ts kt).needs, (tkAt ts n).name = n from hnmx)
  have hlI : ((plc ts kt : Nat) : Int) < (sl : Int) := by omega
  have hC0 : Cells [(⟨w.heap.size, 2, none⟩, .slice (some ⟨b, off, none⟩) sl sc), (⟨w.heap.size + 1, 0, none⟩, .string kt), (⟨b, off + plc ts kt * 4, none⟩, .string (tkAt ts kt).name), (⟨b, off + plc ts kt * 4 + 1, none⟩, .slice na nl nc), (⟨b, off + plc ts kt * 4 + 2, none⟩, .bool (tkAt ts kt).grp), (⟨b, off + plc ts kt * 4 + 3, none⟩, .bool (tkAt ts kt).aft)] ((w.alloc (rwO ne np (some ⟨b, off, none⟩) sl sc ga gl gc)).alloc (.cells #[.string kt, .int .i64 ke, .int .i64 kp] 27)) := ⟨blk_cell HP.out 2, blk_cell HCB.out 0, m0, m1, m2, m3, trivial⟩
  clear h hN hB hBk hp hk m0 m1 m2 m3 hT1 hlen hnd hent hnmx hkv
  have HNM := Lib.hid hnm
  clear hnm
  unfold Ky.v
  simp only
  go_enter Tryz.func27, Tryz.ntmps27
  go_wp2_with fail
  obtain ⟨w1, hw1⟩ : ∃ x, x = ((w.alloc (rwO ne np (some ⟨b, off, none⟩) sl sc ga gl gc)).alloc (.cells #[.string kt, .int .i64 ke, .int .i64 kp] 27)) := ⟨_, rfl⟩
  rw [← hw1] at HW HB HP HCB HND hC0 ⊢
  clear hw1
  obtain ⟨own, hown⟩ : ∃ t, tkAt ts kt = t := ⟨_, rfl⟩
  rw [hown] at hC0 HND HNM HENT HNX
  have HOWN := Lib.hid hown
  clear hown
  obtain ⟨onm, ond, og, oa⟩ := own
  simp only at hC0 HND HNM HENT HNX
  obtain ⟨pl, hpl⟩ : ∃ n, plc ts kt = n := ⟨_, rfl⟩
  rw [hpl] at hC0 HPI hlI
  clear hpl
  have HC1 := Lib.hid (fun W (hB : Below w1.heap.size w1 W) => rplace53 W _ sl sc xs (HW.out.below hB).rt kt)
  rw [HW.out.ht, HPI.out] at HC1
  refine wp_cut [11, 12, 13, 14, 15, 16, 17, 18, 19, 5] (fun vs w' => ∃ v10 v11 v12 v13 v14 v15 v16 v17 v18 b5, vs = [v10, v11, v12, v13, v14, v15, v16, v17, v18, .pointer (some ⟨b5, 0, none⟩)] ∧ Below w1.heap.size w1 w' ∧ w'.heap[b5]? = some (.cells #[.string onm, .slice na nl nc, .bool og, .bool oa] 104 (0, 0))) ?_ ?_
  · skip
    refine wp_region_T (Cells [(⟨w.heap.size, 2, none⟩, .slice (some ⟨b, off, none⟩) sl sc), (⟨w.heap.size + 1, 0, none⟩, .string kt), (⟨b, off + pl * 4, none⟩, .string onm), (⟨b, off + pl * 4 + 1, none⟩, .slice na nl nc), (⟨b, off + pl * 4 + 2, none⟩, .bool og), (⟨b, off + pl * 4 + 3, none⟩, .bool oa)]) (fun i => i == 10) (by kernel_rfl) ?_
    have hSss1 := Cells.drew hC0
    have hB_0_s1 : Below w1.heap.size w1 w1.drew := below_drew _
    generalize w1.drew = s1 at hSss1 hB_0_s1 ⊢
    have hB_s1_s1 := Below.refl s1.heap.size s1
    refine wpAnyT_pure (i := 0) (v := ?_) rfl (by kernel_rfl) (by kernel_rfl) (by kernel_rfl) (fun _ _ _ h => h) (by rfl) ?_ ?_
    rotate_left
    · intro w; go_simp; try with_reducible rfl
    simp only [Act.put, rgA, rgB, rgC, rgD, rgE, rgF]
    refine wpAnyT_pure (i := 2) (v := ?_) rfl (by kernel_rfl) (by kernel_rfl) (by kernel_rfl) (fun _ _ _ h => h) (by rfl) ?_ ?_
    rotate_left
    · intro w; go_simp; try with_reducible rfl
    simp only [Act.put, rgA, rgB, rgC, rgD, rgE, rgF]
    refine wpAnyT_pure (i := 4) (v := ?_) rfl (by kernel_rfl) (by kernel_rfl) (by kernel_rfl) (fun _ _ _ h => h) (by rfl) ?_ ?_
    rotate_left
    · intro w; go_simp; try with_reducible rfl
    simp only [Act.put, rgA, rgB, rgC, rgD, rgE, rgF]
    refine wpAnyT_loadW (i := 1) (v := ?_) rfl (by kernel_rfl) (by kernel_rfl) (by kernel_rfl) (by kernel_rfl) (by kernel_rfl) (fun _ _ _ h => h) (Or.inl ⟨by rfl, ?_⟩) hSss1 ?_
    rotate_left
    · intro w hSw; obtain ⟨e0, e1, e2, e3, e4, e5, -⟩ := hSw; go_simp; try with_reducible rfl
    simp only [Act.put, rgA, rgB, rgC, rgD, rgE, rgF]
    refine wpAnyT_loadW (i := 3) (v := ?_) rfl (by kernel_rfl) (by kernel_rfl) (by kernel_rfl) (by kernel_rfl) (by kernel_rfl) (fun _ _ _ h => h) (Or.inl ⟨by rfl, ?_⟩) hSss1 ?_
    rotate_left
    · intro w hSw; obtain ⟨e0, e1, e2, e3, e4, e5, -⟩ := hSw; go_simp; try with_reducible rfl
    simp only [Act.put, rgA, rgB, rgC, rgD, rgE, rgF]
    refine wpAnyT_loadW (i := 5) (v := ?_) rfl (by kernel_rfl) (by kernel_rfl) (by kernel_rfl) (by kernel_rfl) (by kernel_rfl) (fun _ _ _ h => h) (Or.inl ⟨by rfl, ?_⟩) hSss1 ?_
    rotate_left
    · intro w hSw; obtain ⟨e0, e1, e2, e3, e4, e5, -⟩ := hSw; go_simp; try with_reducible rfl
    simp only [Act.put, rgA, rgB, rgC, rgD, rgE, rgF]
    refine wpAnyT_two (i := 6) (k := 9) (by kernel_rfl) rfl rfl (by rfl) (by rfl) ?_ ?_
    · skip
      refine wp_enter (f := 49) (args := #[.slice (some ⟨b, off, none⟩) sl sc, .string kt]) (by go_simp) (HC1.out s1 (hB_0_s1.trans ((hB_s1_s1).mono (hB_0_s1).size))) ?_
      rintro e w5 ⟨rfl, hw5⟩
      rw [hw5]
      clear hw5 w5
      refine ⟨_, rfl, fun _ h => h, ?_⟩
      try simp only [Act.put, rgA, rgB, rgC, rgD, rgE, rgF]
      refine wpAnyT_pure (i := 7) (v := ?_) rfl (by kernel_rfl) (by kernel_rfl) (by kernel_rfl) (fun _ _ _ h => h) (by rfl) ?_ ?_
      rotate_left
      · intro w; go_simp; try with_reducible rfl
      simp only [Act.put, rgA, rgB, rgC, rgD, rgE, rgF]
      refine wpAnyT_loadW (i := 8) (v := ?_) rfl (by kernel_rfl) (by kernel_rfl) (by kernel_rfl) (by kernel_rfl) (by kernel_rfl) (fun _ _ _ h => h) (Or.inl ⟨by rfl, ?_⟩) hSss1 ?_
      rotate_left
      · intro w hSw; obtain ⟨e0, e1, e2, e3, e4, e5, -⟩ := hSw; go_simp; try with_reducible rfl
      simp only [Act.put, rgA, rgB, rgC, rgD, rgE, rgF]
      refine wpAnyT_one (i := 9) (by kernel_rfl) rfl (by rfl) ?_
      obtain ⟨b6, hb6⟩ : ∃ b, (s1).heap.size = b := ⟨_, rfl⟩
      have hge6 : (s1).heap.size ≤ b6 := hb6 ▸ (hB_s1_s1).size
      refine wp_newrow (v := .pointer (some ⟨b6, 0, none⟩)) (cs := #[.string ⟨#[]⟩, .slice none 0 0, .bool false, .bool false]) (te := 104) (by rw [← hb6]; go_simp) ?_
      intro w102 hX r6
      rw [hb6] at r6
      have hB_s1_w102 := below_step hB_s1_s1 hX
      have hB_w102_w102 := Below.refl w102.heap.size w102
      have hSsw102 := Cells.below hB_s1_w102 hSss1
      clear hX
      refine ⟨fun _ _ => hSsw102, ?_⟩
      try simp only [Act.put, rgA, rgB, rgC, rgD, rgE, rgF]
      refine wpAnyT_one (i := 10) (by kernel_rfl) rfl (by rfl) ?_
      have hr7 : (w102).heap[b6]? = some (.cells #[.string ⟨#[]⟩, .slice none 0 0, .bool false, .bool false] 104 (0, 0)) := by first | exact r6 | exact ((hB_w102_w102).block _ (blk_lt r6)).trans r6
      refine wp_store_row 104 (.tmp 5) (.tmp 19) rfl b6 #[.string onm, .slice na nl nc, .bool og, .bool oa] (by kernel_rfl) (by kernel_rfl) 104 _ hr7 (by kernel_rfl) (by rfl) (by simp [Value.oneCell']) ?_
      have hblk := setRow_heap (w102) b6 _ #[.string onm, .slice na nl nc, .bool og, .bool oa] _ _ hr7
      have hX := below_setRow (hB_s1_w102) hge6 #[.string onm, .slice na nl nc, .bool og, .bool oa]
      generalize (w102).setRow b6 #[.string onm, .slice na nl nc, .bool og, .bool oa] = w103 at hblk hX ⊢
      refine ⟨fun h => absurd h (by decide), ?_⟩
      try simp only [Act.put, rgA, rgB, rgC, rgD, rgE, rgF]
      refine wpAnyT_done (by kernel_rfl) ?_ _
      refine cut_leaf ?_ ?_
      focus kernel_rfl
      exact ⟨_, _, _, _, _, _, _, _, _, b6, rfl, hB_0_s1.trans (hX.mono hB_0_s1.size), hblk⟩
    · skip
      obtain ⟨b6, hb6⟩ : ∃ b, (s1).heap.size = b := ⟨_, rfl⟩
      have hge6 : (s1).heap.size ≤ b6 := hb6 ▸ (hB_s1_s1).size
      refine wp_newrow (v := .pointer (some ⟨b6, 0, none⟩)) (cs := #[.string ⟨#[]⟩, .slice none 0 0, .bool false, .bool false]) (te := 104) (by rw [← hb6]; go_simp) ?_
      intro w104 hX r6
      rw [hb6] at r6
      have hB_s1_w104 := below_step hB_s1_s1 hX
      have hB_w104_w104 := Below.refl w104.heap.size w104
      have hSsw104 := Cells.below hB_s1_w104 hSss1
      clear hX
      refine ⟨fun _ _ => hSsw104, ?_⟩
      try simp only [Act.put, rgA, rgB, rgC, rgD, rgE, rgF]
      refine wpAnyT_one (i := 6) (by kernel_rfl) rfl (by rfl) ?_
      refine wp_enter (f := 49) (args := #[.slice (some ⟨b, off, none⟩) sl sc, .string kt]) (by go_simp) (HC1.out w104 (hB_0_s1.trans ((hB_s1_w104).mono (hB_0_s1).size))) ?_
      rintro e w5 ⟨rfl, hw5⟩
      rw [hw5]
      clear hw5 w5
      refine ⟨_, rfl, fun _ h => h, ?_⟩
      try simp only [Act.put, rgA, rgB, rgC, rgD, rgE, rgF]
      refine wpAnyT_pure (i := 7) (v := ?_) rfl (by kernel_rfl) (by kernel_rfl) (by kernel_rfl) (fun _ _ _ h => h) (by rfl) ?_ ?_
      rotate_left
      · intro w; go_simp; try with_reducible rfl
      simp only [Act.put, rgA, rgB, rgC, rgD, rgE, rgF]
      refine wpAnyT_loadW (i := 8) (v := ?_) rfl (by kernel_rfl) (by kernel_rfl) (by kernel_rfl) (by kernel_rfl) (by kernel_rfl) (fun _ _ _ h => h) (Or.inl ⟨by rfl, ?_⟩) hSsw104 ?_
      rotate_left
      · intro w hSw; obtain ⟨e0, e1, e2, e3, e4, e5, -⟩ := hSw; go_simp; try with_reducible rfl
      simp only [Act.put, rgA, rgB, rgC, rgD, rgE, rgF]
      refine wpAnyT_one (i := 10) (by kernel_rfl) rfl (by rfl) ?_
      have hr7 : (w104).heap[b6]? = some (.cells #[.string ⟨#[]⟩, .slice none 0 0, .bool false, .bool false] 104 (0, 0)) := by first | exact r6 | exact ((hB_w104_w104).block _ (blk_lt r6)).trans r6
      refine wp_store_row 104 (.tmp 5) (.tmp 19) rfl b6 #[.string onm, .slice na nl nc, .bool og, .bool oa] (by kernel_rfl) (by kernel_rfl) 104 _ hr7 (by kernel_rfl) (by rfl) (by simp [Value.oneCell']) ?_
      have hblk := setRow_heap (w104) b6 _ #[.string onm, .slice na nl nc, .bool og, .bool oa] _ _ hr7
      have hX := below_setRow (hB_s1_w104) hge6 #[.string onm, .slice na nl nc, .bool og, .bool oa]
      generalize (w104).setRow b6 #[.string onm, .slice na nl nc, .bool og, .bool oa] = w105 at hblk hX ⊢
      refine ⟨fun h => absurd h (by decide), ?_⟩
      try simp only [Act.put, rgA, rgB, rgC, rgD, rgE, rgF]
      refine wpAnyT_done (by kernel_rfl) ?_ _
      refine cut_leaf ?_ ?_
      focus kernel_rfl
      exact ⟨_, _, _, _, _, _, _, _, _, b6, rfl, hB_0_s1.trans (hX.mono hB_0_s1.size), hblk⟩
  rintro vs w2 ⟨v10, v11, v12, v13, v14, v15, v16, v17, v18, b5, rfl, hB2, hr5⟩
  simp only [puts, Act.put, List.setIfInBounds_toArray, List.set_cons_zero, List.set_cons_succ]
  obtain ⟨hnl, hnlc, hncm, -⟩ := HND.out.sl_flat
  have HNL := Lib.hid (show ond.length = nl from hnl)
  have HR5 := Lib.hid hr5
  have HW2 := Lib.hid (HW.out.below hB2)
  have HP2 := Lib.hid ((hB2.block _ (blk_lt HP.out)).trans HP.out)
  have HCB2 := Lib.hid ((hB2.block _ (blk_lt HCB.out)).trans HCB.out)
  have HND2 := Lib.hid (HND.out.below hB2 HW.out.hS)
  have HBW := Lib.hid (below_step HB.out hB2)
  have x1 := blk_cell hr5 1
  simp at x1
  clear hB2 hr5 hnl hC0
  have HACC := Lib.hid (show ∀ j, j < ond.length → ((ond.take j).flatMap (needOf ts ne (tkAt ts kt) ⟨kt, ke, kp⟩)).length + (needOf ts ne (tkAt ts kt) ⟨kt, ke, kp⟩ (ond[j]?.getD ByteArray.empty)).length ≤ 1000 from fun j hj => by
    have h1 := HN.out.len
    unfold rawNeeds at h1
    rw [List.length_append] at h1
    have h2 : (tkAt ts kt).needs = ond := by rw [HOWN.out]
    have h3 : ond.flatMap (needOf ts ne (tkAt ts kt) ⟨kt, ke, kp⟩) = (ond.take j).flatMap (needOf ts ne (tkAt ts kt) ⟨kt, ke, kp⟩) ++ (needOf ts ne (tkAt ts kt) ⟨kt, ke, kp⟩ ond[j] ++ (ond.drop (j + 1)).flatMap (needOf ts ne (tkAt ts kt) ⟨kt, ke, kp⟩)) := by
      conv => lhs; rw [← List.take_append_drop j ond]
      rw [List.flatMap_append, List.drop_eq_getElem_cons hj, List.flatMap_cons]
    rw [h2, h3, List.length_append, List.length_append] at h1
    rw [List.getElem?_eq_getElem hj]
    simp only [Option.getD_some]
    omega)
  go_wp2_with fail
  go_loopw [6, 7] (fun v i wr => ∃ j : Nat, j ≤ nl ∧ i = .int .i64 j ∧ Owns keyT 27 w2.heap.size (fun _ => False) wr v (((ond.take j).flatMap (needOf ts ne (tkAt ts kt) ⟨kt, ke, kp⟩)).map Ky.d) ∧ Below w2.heap.size w2 wr) (fun _ i _ => nl - (intOf i).toNat)
  case atStart => exact ⟨0, Nat.zero_le _, rfl, Owns.nil _ _ _ _, Below.refl _ _⟩
  obtain ⟨j, hj, rfl, hO, hBr⟩ := hrel
  obtain ⟨va, vl, vc, rfl, -⟩ := hO.slice
  have HO := Lib.hid hO
  have HBr := Lib.hid hBr
  have HWr := Lib.hid (HW2.out.below hBr)
  have hr5r := (hBr.block _ (blk_lt HR5.out)).trans HR5.out
  have HR5r := Lib.hid hr5r
  have HPr := Lib.hid ((hBr.block _ (blk_lt HP2.out)).trans HP2.out)
  have HCBr := Lib.hid ((hBr.block _ (blk_lt HCB2.out)).trans HCB2.out)
  have x1 := blk_cell hr5r 1
  simp at x1
  clear hO hBr hr5r
  by_cases hlt : j < nl
  · have hjx : j < ond.length := by rw [HNL.out]; exact hlt
    have hjI : (j : Int) < (nl : Int) := by omega
    obtain ⟨-, -, -, hat⟩ := (HND2.out.below HBr.out HW2.out.hS).sl1 rfl
    obtain ⟨nb, noff, nv, rfl, hSn, n0, hnv, hnsz⟩ := hat j hjx
    obtain rfl : nv = .string ond[j] := by simpa using hnv
    clear hnv
    have hacc := HACC.out j hjx
    rw [List.getElem?_eq_getElem hjx] at hacc
    simp only [Option.getD_some] at hacc
    have hmem : ond[j] ∈ (tkAt ts kt).needs := by rw [HOWN.out]; exact List.getElem_mem hjx
    have hpn := HN.out.nd ond[j] hmem
    have hsnm := HNX.out ond[j] (List.getElem_mem hjx)
    have hsucc : (ond.take (j + 1)).flatMap (needOf ts ne (tkAt ts kt) ⟨kt, ke, kp⟩) = (ond.take j).flatMap (needOf ts ne (tkAt ts kt) ⟨kt, ke, kp⟩) ++ needOf ts ne (tkAt ts kt) ⟨kt, ke, kp⟩ ond[j] := by
      rw [List.take_succ_eq_append_getElem hjx, List.flatMap_append, List.flatMap_cons, List.flatMap_nil, List.append_nil]
    have HSU := Lib.hid hsucc
    have HAC := Lib.hid hacc
    have HLT := Lib.hid hlt
    have HNS := Lib.hid hnsz
    generalize ond[j] = s at n0 hpn HSU HAC HNS hsnm hmem
    clear hsucc hacc hlt hat hnsz hjx hmem
    obtain ⟨b', off', ta', tl', tc', hsa, hlen', m0, m1, m2, m3, -, hnm⟩ := HWr.out.task hpn
    cases hsa
    have HPI2 := Lib.hid (plcI_pos hpn)
    obtain ⟨t, ht⟩ : ∃ t, tkAt ts s = t := ⟨_, rfl⟩
    rw [ht] at m0 m2 m3 hnm hsnm
    have HTK := Lib.hid ht
    have HEN := Lib.hid (ent_need (ne := ne) (own := ⟨onm, ond, og, oa⟩) (k := ⟨kt, ke, kp⟩) ht hsnm (fun h _ => HENT.out h))
    have HNM2 := Lib.hid hnm
    obtain ⟨tnm, tnd, tg, ta⟩ := t
    simp only at m0 m1 m2 m3 HNM2 HEN
    obtain ⟨pl2, hpl2⟩ : ∃ n, plc ts s = n := ⟨_, rfl⟩
    rw [hpl2] at HPI2 hlen' m0 m1 m2 m3
    have hlI2 : ((pl2 : Nat) : Int) < (sl : Int) := by omega
    have HC2 := Lib.hid (fun W (hB : Below wr.heap.size wr W) => rplace53 W _ sl sc xs (HWr.out.below hB).rt s)
    rw [HWr.out.ht, HPI2.out] at HC2
    have hC1 : Cells [(⟨w.heap.size, 2, none⟩, .slice (some ⟨b, off, none⟩) sl sc), (⟨b5, 1, none⟩, .slice (some ⟨nb, noff, none⟩) nl nc), (⟨nb, noff + j, none⟩, .string s), (⟨b, off + pl2 * 4, none⟩, .string tnm), (⟨b, off + pl2 * 4 + 1, none⟩, .slice ta' tl' tc'), (⟨b, off + pl2 * 4 + 2, none⟩, .bool tg), (⟨b, off + pl2 * 4 + 3, none⟩, .bool ta)] wr := ⟨blk_cell HPr.out 2, x1, n0, m0, m1, m2, m3, trivial⟩
    clear hlen' m0 m1 m2 m3 hnm ht hpl2 hpn n0 hsnm
    clear x1
    have x1 := blk_cell HR5r.out 1
    simp at x1
    go_wp2_with fail
    clear x1
    refine wp_cut [27, 28, 29, 30, 31, 32, 33, 34, 35, 36, 37, 38, 8] (fun vs w' => ∃ v10 v11 v12 v13 v14 v15 v16 v17 v18 v19 v20 v21 b9, vs = [v10, v11, v12, v13, v14, v15, v16, v17, v18, v19, v20, v21, .pointer (some ⟨b9, 0, none⟩)] ∧ Below wr.heap.size wr w' ∧ w'.heap[b9]? = some (.cells #[.string tnm, .slice ta' tl' tc', .bool tg, .bool ta] 104 (0, 0)) ∧ wr.heap.size ≤ b9) ?_ ?_
    · skip
      refine wp_region_T (Cells [(⟨w.heap.size, 2, none⟩, .slice (some ⟨b, off, none⟩) sl sc), (⟨b5, 1, none⟩, .slice (some ⟨nb, noff, none⟩) nl nc), (⟨nb, noff + j, none⟩, .string s), (⟨b, off + pl2 * 4, none⟩, .string tnm), (⟨b, off + pl2 * 4 + 1, none⟩, .slice ta' tl' tc'), (⟨b, off + pl2 * 4 + 2, none⟩, .bool tg), (⟨b, off + pl2 * 4 + 3, none⟩, .bool ta)]) (fun i => i == 13) (by kernel_rfl) ?_
      have hSss6 := Cells.drew hC1
      have hB_0_s6 : Below wr.heap.size wr wr.drew := below_drew _
      generalize wr.drew = s6 at hSss6 hB_0_s6 ⊢
      have hB_s6_s6 := Below.refl s6.heap.size s6
      refine wpAnyT_pure (i := 0) (v := ?_) rfl (by kernel_rfl) (by kernel_rfl) (by kernel_rfl) (fun _ _ _ h => h) (by rfl) ?_ ?_
      rotate_left
      · intro w; go_simp; try with_reducible rfl
      simp only [Act.put, rgA, rgB, rgC, rgD, rgE, rgF]
      refine wpAnyT_pure (i := 2) (v := ?_) rfl (by kernel_rfl) (by kernel_rfl) (by kernel_rfl) (fun _ _ _ h => h) (by rfl) ?_ ?_
      rotate_left
      · intro w; go_simp; try with_reducible rfl
      simp only [Act.put, rgA, rgB, rgC, rgD, rgE, rgF]
      refine wpAnyT_pure (i := 4) (v := ?_) rfl (by kernel_rfl) (by kernel_rfl) (by kernel_rfl) (fun _ _ _ h => h) (by rfl) ?_ ?_
      rotate_left
      · intro w; go_simp; try with_reducible rfl
      simp only [Act.put, rgA, rgB, rgC, rgD, rgE, rgF]
      refine wpAnyT_pure (i := 6) (v := ?_) rfl (by kernel_rfl) (by kernel_rfl) (by kernel_rfl) (fun _ _ _ h => h) (by rfl) ?_ ?_
      rotate_left
      · intro w; go_simp; try with_reducible rfl
      simp only [Act.put, rgA, rgB, rgC, rgD, rgE, rgF]
      refine wpAnyT_loadW (i := 1) (v := ?_) rfl (by kernel_rfl) (by kernel_rfl) (by kernel_rfl) (by kernel_rfl) (by kernel_rfl) (fun _ _ _ h => h) (Or.inl ⟨by rfl, ?_⟩) hSss6 ?_
      rotate_left
      · intro w hSw; obtain ⟨e0, e1, e2, e3, e4, e5, e6, -⟩ := hSw; go_simp; try with_reducible rfl
      simp only [Act.put, rgA, rgB, rgC, rgD, rgE, rgF]
      refine wpAnyT_loadW (i := 3) (v := ?_) rfl (by kernel_rfl) (by kernel_rfl) (by kernel_rfl) (by kernel_rfl) (by kernel_rfl) (fun _ _ _ h => h) (Or.inl ⟨by rfl, ?_⟩) hSss6 ?_
      rotate_left
      · intro w hSw; obtain ⟨e0, e1, e2, e3, e4, e5, e6, -⟩ := hSw; go_simp; try with_reducible rfl
      simp only [Act.put, rgA, rgB, rgC, rgD, rgE, rgF]
      refine wpAnyT_loadW (i := 5) (v := ?_) rfl (by kernel_rfl) (by kernel_rfl) (by kernel_rfl) (by kernel_rfl) (by kernel_rfl) (fun _ _ _ h => h) (Or.inl ⟨by rfl, ?_⟩) hSss6 ?_
      rotate_left
      · intro w hSw; obtain ⟨e0, e1, e2, e3, e4, e5, e6, -⟩ := hSw; go_simp; try with_reducible rfl
      simp only [Act.put, rgA, rgB, rgC, rgD, rgE, rgF]
      refine wpAnyT_pure (i := 7) (v := ?_) rfl (by kernel_rfl) (by kernel_rfl) (by kernel_rfl) (fun _ _ _ h => h) (by rfl) ?_ ?_
      rotate_left
      · intro w; go_simp; try with_reducible rfl
      simp only [Act.put, rgA, rgB, rgC, rgD, rgE, rgF]
      refine wpAnyT_loadW (i := 8) (v := ?_) rfl (by kernel_rfl) (by kernel_rfl) (by kernel_rfl) (by kernel_rfl) (by kernel_rfl) (fun _ _ _ h => h) (Or.inl ⟨by rfl, ?_⟩) hSss6 ?_
      rotate_left
      · intro w hSw; obtain ⟨e0, e1, e2, e3, e4, e5, e6, -⟩ := hSw; go_simp; try with_reducible rfl
      simp only [Act.put, rgA, rgB, rgC, rgD, rgE, rgF]
      refine wpAnyT_two (i := 9) (k := 12) (by kernel_rfl) rfl rfl (by rfl) (by rfl) ?_ ?_
      · skip
        refine wp_enter (f := 49) (args := #[.slice (some ⟨b, off, none⟩) sl sc, .string s]) (by go_simp) (HC2.out s6 (hB_0_s6.trans ((hB_s6_s6).mono (hB_0_s6).size))) ?_
        rintro e w5 ⟨rfl, hw5⟩
        rw [hw5]
        clear hw5 w5
        refine ⟨_, rfl, fun _ h => h, ?_⟩
        try simp only [Act.put, rgA, rgB, rgC, rgD, rgE, rgF]
        refine wpAnyT_pure (i := 10) (v := ?_) rfl (by kernel_rfl) (by kernel_rfl) (by kernel_rfl) (fun _ _ _ h => h) (by rfl) ?_ ?_
        rotate_left
        · intro w; go_simp; try with_reducible rfl
        simp only [Act.put, rgA, rgB, rgC, rgD, rgE, rgF]
        refine wpAnyT_loadW (i := 11) (v := ?_) rfl (by kernel_rfl) (by kernel_rfl) (by kernel_rfl) (by kernel_rfl) (by kernel_rfl) (fun _ _ _ h => h) (Or.inl ⟨by rfl, ?_⟩) hSss6 ?_
        rotate_left
        · intro w hSw; obtain ⟨e0, e1, e2, e3, e4, e5, e6, -⟩ := hSw; go_simp; try with_reducible rfl
        simp only [Act.put, rgA, rgB, rgC, rgD, rgE, rgF]
        refine wpAnyT_one (i := 12) (by kernel_rfl) rfl (by rfl) ?_
        obtain ⟨b6, hb6⟩ : ∃ b, (s6).heap.size = b := ⟨_, rfl⟩
        have hge6 : (s6).heap.size ≤ b6 := hb6 ▸ (hB_s6_s6).size
        refine wp_newrow (v := .pointer (some ⟨b6, 0, none⟩)) (cs := #[.string ⟨#[]⟩, .slice none 0 0, .bool false, .bool false]) (te := 104) (by rw [← hb6]; go_simp) ?_
        intro w107 hX r6
        rw [hb6] at r6
        have hB_s6_w107 := below_step hB_s6_s6 hX
        have hB_w107_w107 := Below.refl w107.heap.size w107
        have hSsw107 := Cells.below hB_s6_w107 hSss6
        clear hX
        refine ⟨fun _ _ => hSsw107, ?_⟩
        try simp only [Act.put, rgA, rgB, rgC, rgD, rgE, rgF]
        refine wpAnyT_one (i := 13) (by kernel_rfl) rfl (by rfl) ?_
        have hr7 : (w107).heap[b6]? = some (.cells #[.string ⟨#[]⟩, .slice none 0 0, .bool false, .bool false] 104 (0, 0)) := by first | exact r6 | exact ((hB_w107_w107).block _ (blk_lt r6)).trans r6
        refine wp_store_row 104 (.tmp 8) (.tmp 38) rfl b6 #[.string tnm, .slice ta' tl' tc', .bool tg, .bool ta] (by kernel_rfl) (by kernel_rfl) 104 _ hr7 (by kernel_rfl) (by rfl) (by simp [Value.oneCell']) ?_
        have hblk := setRow_heap (w107) b6 _ #[.string tnm, .slice ta' tl' tc', .bool tg, .bool ta] _ _ hr7
        have hX := below_setRow (hB_s6_w107) hge6 #[.string tnm, .slice ta' tl' tc', .bool tg, .bool ta]
        generalize (w107).setRow b6 #[.string tnm, .slice ta' tl' tc', .bool tg, .bool ta] = w108 at hblk hX ⊢
        refine ⟨fun h => absurd h (by decide), ?_⟩
        try simp only [Act.put, rgA, rgB, rgC, rgD, rgE, rgF]
        refine wpAnyT_done (by kernel_rfl) ?_ _
        refine cut_leaf ?_ ?_
        focus kernel_rfl
        exact ⟨_, _, _, _, _, _, _, _, _, _, _, _, b6, rfl, hB_0_s6.trans (hX.mono hB_0_s6.size), hblk, Nat.le_trans hB_0_s6.size hge6⟩
      · skip
        obtain ⟨b6, hb6⟩ : ∃ b, (s6).heap.size = b := ⟨_, rfl⟩
        have hge6 : (s6).heap.size ≤ b6 := hb6 ▸ (hB_s6_s6).size
        refine wp_newrow (v := .pointer (some ⟨b6, 0, none⟩)) (cs := #[.string ⟨#[]⟩, .slice none 0 0, .bool false, .bool false]) (te := 104) (by rw [← hb6]; go_simp) ?_
        intro w109 hX r6
        rw [hb6] at r6
        have hB_s6_w109 := below_step hB_s6_s6 hX
        have hB_w109_w109 := Below.refl w109.heap.size w109
        have hSsw109 := Cells.below hB_s6_w109 hSss6
        clear hX
        refine ⟨fun _ _ => hSsw109, ?_⟩
        try simp only [Act.put, rgA, rgB, rgC, rgD, rgE, rgF]
        refine wpAnyT_one (i := 9) (by kernel_rfl) rfl (by rfl) ?_
        refine wp_enter (f := 49) (args := #[.slice (some ⟨b, off, none⟩) sl sc, .string s]) (by go_simp) (HC2.out w109 (hB_0_s6.trans ((hB_s6_w109).mono (hB_0_s6).size))) ?_
        rintro e w5 ⟨rfl, hw5⟩
        rw [hw5]
        clear hw5 w5
        refine ⟨_, rfl, fun _ h => h, ?_⟩
        try simp only [Act.put, rgA, rgB, rgC, rgD, rgE, rgF]
        refine wpAnyT_pure (i := 10) (v := ?_) rfl (by kernel_rfl) (by kernel_rfl) (by kernel_rfl) (fun _ _ _ h => h) (by rfl) ?_ ?_
        rotate_left
        · intro w; go_simp; try with_reducible rfl
        simp only [Act.put, rgA, rgB, rgC, rgD, rgE, rgF]
        refine wpAnyT_loadW (i := 11) (v := ?_) rfl (by kernel_rfl) (by kernel_rfl) (by kernel_rfl) (by kernel_rfl) (by kernel_rfl) (fun _ _ _ h => h) (Or.inl ⟨by rfl, ?_⟩) hSsw109 ?_
        rotate_left
        · intro w hSw; obtain ⟨e0, e1, e2, e3, e4, e5, e6, -⟩ := hSw; go_simp; try with_reducible rfl
        simp only [Act.put, rgA, rgB, rgC, rgD, rgE, rgF]
        refine wpAnyT_one (i := 13) (by kernel_rfl) rfl (by rfl) ?_
        have hr7 : (w109).heap[b6]? = some (.cells #[.string ⟨#[]⟩, .slice none 0 0, .bool false, .bool false] 104 (0, 0)) := by first | exact r6 | exact ((hB_w109_w109).block _ (blk_lt r6)).trans r6
        refine wp_store_row 104 (.tmp 8) (.tmp 38) rfl b6 #[.string tnm, .slice ta' tl' tc', .bool tg, .bool ta] (by kernel_rfl) (by kernel_rfl) 104 _ hr7 (by kernel_rfl) (by rfl) (by simp [Value.oneCell']) ?_
        have hblk := setRow_heap (w109) b6 _ #[.string tnm, .slice ta' tl' tc', .bool tg, .bool ta] _ _ hr7
        have hX := below_setRow (hB_s6_w109) hge6 #[.string tnm, .slice ta' tl' tc', .bool tg, .bool ta]
        generalize (w109).setRow b6 #[.string tnm, .slice ta' tl' tc', .bool tg, .bool ta] = w110 at hblk hX ⊢
        refine ⟨fun h => absurd h (by decide), ?_⟩
        try simp only [Act.put, rgA, rgB, rgC, rgD, rgE, rgF]
        refine wpAnyT_done (by kernel_rfl) ?_ _
        refine cut_leaf ?_ ?_
        focus kernel_rfl
        exact ⟨_, _, _, _, _, _, _, _, _, _, _, _, b6, rfl, hB_0_s6.trans (hX.mono hB_0_s6.size), hblk, Nat.le_trans hB_0_s6.size hge6⟩
    rintro vs w4 ⟨u10, u11, u12, u13, u14, u15, u16, u17, u18, u19, u20, u21, b9, rfl, hB4, hr9, hge9⟩
    have HGE9 := Lib.hid hge9
    clear hge9
    simp only [puts, Act.put, List.setIfInBounds_toArray, List.set_cons_zero, List.set_cons_succ]
    have HB4 := Lib.hid (below_step HBr.out hB4)
    have HW4 := Lib.hid (HWr.out.below hB4)
    have HO4 := Lib.hid (HO.out.below hB4)
    have HR54 := Lib.hid ((hB4.block _ (blk_lt HR5r.out)).trans HR5r.out)
    have HP4 := Lib.hid ((hB4.block _ (blk_lt HPr.out)).trans HPr.out)
    have HCB4 := Lib.hid ((hB4.block _ (blk_lt HCBr.out)).trans HCBr.out)
    have HR9 := Lib.hid hr9
    have p0 := blk_cell HP4.out 0
    have p1 := blk_cell HP4.out 1
    have p2 := blk_cell HP4.out 2
    have p3 := blk_cell HP4.out 3
    have y0 := blk_cell hr9 0
    have y1 := blk_cell hr9 1
    have y2 := blk_cell hr9 2
    have y3 := blk_cell hr9 3
    simp at p0 p1 p2 p3 y0 y1 y2 y3
    have HEC := Lib.hid (rents53 w4 ne np hn1000 (some ⟨b, off, none⟩) sl sc ga gl gc tnm ta' tl' tc' tg ta)
    have HOB := Lib.hid (fun ob h => (HO.out.own ob h).2)
    have HSZ4 := Lib.hid hB4.size
    clear hB4 hr9 hC1 HO HPr HCBr HR5r HWr HC2
    go_wp2_with fail
    have hX := HEC.out
    refine Calls.mono hX ?_
    clear hX
    rintro e w5 ⟨la, ll, lc, rfl, hr5, hb5⟩
    have HL5 := Lib.hid hr5
    have HLL := Lib.hid (show (entL ne tg).length = ll from hr5.sl_flat.1)
    have HLM := Lib.hid (show ll ≤ 1000 from by
      rw [← HLL.out]
      unfold entL
      split
      · simp
      · rw [List.length_map, List.length_range]; exact hn1000)
    have HB5 := Lib.hid (HB4.out.trans (hb5.mono HB4.out.size))
    have HO5 := Lib.hid (HO4.out.below hb5)
    have HR95 := Lib.hid ((hb5.block _ (blk_lt HR9.out)).trans HR9.out)
    have HR55 := Lib.hid ((hb5.block _ (blk_lt HR54.out)).trans HR54.out)
    have HCB5 := Lib.hid ((hb5.block _ (blk_lt HCB4.out)).trans HCB4.out)
    have HSZ5 := Lib.hid hb5.size
    have HL95 := Lib.hid (blk_lt HR95.out)
    clear hr5 hb5 p0 p1 p2 p3 y0 y1 y2 y3 HEC HO4 HR9 HR54 HCB4 HP4
    obtain ⟨w3, hw3⟩ : ∃ x, x = wr := ⟨_, rfl⟩
    rw [← hw3] at HOB HSZ4 HGE9
    clear hw3
    obtain ⟨l0, hl0⟩ : ∃ x, x = (ond.take j).flatMap (needOf ts ne (tkAt ts kt) ⟨kt, ke, kp⟩) := ⟨_, rfl⟩
    rw [← hl0] at HO5 HSU HAC
    clear hl0
    have HEN2 := Lib.hid (show ((entL ne tg).filter fun e => tg || og || decide (e = ke)).map (fun e => (⟨tnm, e, kp⟩ : Ky)) = needOf ts ne (tkAt ts kt) ⟨kt, ke, kp⟩ s from by rw [HOWN.out]; exact HEN.out)
    rw [← HEN2.out] at HSU HAC
    have HEK := Lib.hid (show ∀ q (hq : q < (entL ne tg).length), (Lit.int .i64 ((entL ne tg)[q])).wf = true from fun q hq => by
      obtain ⟨-, -, -, vs, hr, -⟩ := HL5.out.sl_flat
      obtain ⟨c, -, -, h⟩ := hr.at_ q hq
      exact h.2)
    generalize entL ne tg = el at HL5 HLL HSU HAC HEK
    clear HEN HEN2
    go_wp2_with fail
    go_loopw [6, 10] (fun v iv wr => ∃ q : Nat, q ≤ ll ∧ iv = .int .i64 q ∧ Owns keyT 27 w2.heap.size (fun _ => False) wr v ((l0 ++ ((el.take q).filter fun e => tg || og || decide (e = ke)).map (fun e => (⟨tnm, e, kp⟩ : Ky))).map Ky.d) ∧ Below w2.heap.size w2 wr ∧ w5.heap.size ≤ wr.heap.size ∧ (∀ ob, v.ownBlock = some ob → ob < w3.heap.size ∨ w5.heap.size ≤ ob) ∧ ∀ b, w3.heap.size ≤ b → b < w5.heap.size → wr.heap[b]? = w5.heap[b]?) (fun _ iv _ => ll - (intOf iv).toNat)
    case atStart => exact ⟨0, Nat.zero_le _, rfl, by simpa using HO5.out, HB5.out, Nat.le_refl _, fun ob h => .inl (HOB.out ob h), fun _ _ _ => rfl⟩
    obtain ⟨q, hq, rfl, hO, hBr, hsz, hob, hfr⟩ := hrel
    obtain ⟨oa', ol', oc', rfl, -⟩ := hO.slice
    have HO := Lib.hid hO
    have HBr := Lib.hid hBr
    have HSZ := Lib.hid hsz
    have HOBq := Lib.hid hob
    have HFR := Lib.hid hfr
    clear hO hBr hsz hob hfr
    by_cases hlq : q < ll
    · have hllm := HLM.out
      have hqI : (q : Int) < (ll : Int) := by omega
      have hqx : q < el.length := by rw [HLL.out]; exact hlq
      have HLTQ := Lib.hid hlq
      have HWFE := Lib.hid (HEK.out q hqx)
      have HTQ := Lib.hid (show (el.take (q + 1)).filter (fun e => tg || og || decide (e = ke)) = (el.take q).filter (fun e => tg || og || decide (e = ke)) ++ (if (tg || og || decide (el[q] = ke)) = true then [el[q]] else []) from by
        rw [List.take_succ_eq_append_getElem hqx, List.filter_append, List.filter_cons]
        rfl)
      obtain ⟨-, -, -, hat⟩ := HL5.out.sl1 rfl
      obtain ⟨lb, lo, lv, rfl, hlb, n0, hlv, -⟩ := hat q hqx
      obtain rfl : lv = .int .i64 el[q] := by simpa using hlv
      replace n0 : wr.cell? ⟨lb, lo + q, none⟩ = some (.int .i64 el[q]) := (World.cell?_of_block (w := w5) (HFR.out lb (Nat.le_trans HSZ4.out hlb.1) hlb.2)).trans n0
      obtain ⟨en, hen⟩ : ∃ en, en = el[q] := ⟨_, rfl⟩
      rw [← hen] at HWFE HTQ
      replace n0 : wr.cell? ⟨lb, lo + q, none⟩ = some (.int .i64 en) := by rw [hen]; exact n0
      clear hen
      have h9 := (HFR.out b9 HGE9.out HL95.out).trans HR95.out
      have h5 := (HBr.out.block _ (blk_lt HR5.out)).trans HR5.out
      have hk := (HBr.out.block _ (blk_lt HCB2.out)).trans HCB2.out
      have hC2 : Cells [(⟨b9, 0, none⟩, .string tnm), (⟨b9, 2, none⟩, .bool tg), (⟨b5, 2, none⟩, .bool og), (⟨lb, lo + q, none⟩, .int .i64 en), (⟨w.heap.size + 1, 1, none⟩, .int .i64 ke), (⟨w.heap.size + 1, 2, none⟩, .int .i64 kp)] wr := ⟨blk_cell h9 0, blk_cell h9 2, blk_cell h5 2, n0, blk_cell hk 1, blk_cell hk 2, trivial⟩
      have HKO := Lib.hid (show Ky.ok ⟨tnm, en, kp⟩ from ⟨HNM2.out, HWFE.out, HN.out.ok.2.2⟩)
      clear hat hlb n0 h9 h5 hk hlq hlv hqx
      go_wp2_with fail
      cases tg
      · cases og
        · by_cases he : en = ke
          · have HTN := Lib.hid (show (l0 ++ ((el.take (q + 1)).filter fun e => false || false || decide (e = ke)).map (fun e => (⟨tnm, e, kp⟩ : Ky))).map Ky.d = (l0 ++ ((el.take q).filter fun e => false || false || decide (e = ke)).map (fun e => (⟨tnm, e, kp⟩ : Ky))).map Ky.d ++ [Ky.d ⟨tnm, en, kp⟩] from by
              rw [HTQ.out, if_pos (by simp [he])]
              simp)
            have HACQ := Lib.hid (show (l0 ++ ((el.take q).filter fun e => false || false || decide (e = ke)).map (fun e => (⟨tnm, e, kp⟩ : Ky))).length + 1 ≤ 1000 from by
              have h1 := HAC.out
              have h2 := ((List.take_sublist (q + 1) el).filter (fun e => false || false || decide (e = ke))).length_le
              rw [HTQ.out, if_pos (by simp [he])] at h2
              simp only [List.length_append, List.length_map, List.length_singleton] at h1 h2 ⊢
              omega)
            have HEQ := Lib.hid he
            clear he
            refine wp_region_T (Cells [(⟨b9, 0, none⟩, .string tnm), (⟨b9, 2, none⟩, .bool false), (⟨b5, 2, none⟩, .bool false), (⟨lb, lo + q, none⟩, .int .i64 en), (⟨w.heap.size + 1, 1, none⟩, .int .i64 ke), (⟨w.heap.size + 1, 2, none⟩, .int .i64 kp)]) (fun _ => false) (by kernel_rfl) ?_
            have hSss11 := Cells.drew hC2
            have hB_0_s11 : Below wr.heap.size wr wr.drew := below_drew _
            generalize wr.drew = s11 at hSss11 hB_0_s11 ⊢
            have hB_s11_s11 := Below.refl s11.heap.size s11
            refine wpAnyT_pure (i := 0) (v := ?_) rfl (by kernel_rfl) (by kernel_rfl) (by kernel_rfl) (fun _ _ _ h => h) (by rfl) ?_ ?_
            rotate_left
            · intro w; go_simp; try with_reducible rfl
            simp only [Act.put, rgA, rgB, rgC, rgD, rgE, rgF]
            refine wpAnyT_loadW (i := 1) (v := ?_) rfl (by kernel_rfl) (by kernel_rfl) (by kernel_rfl) (by kernel_rfl) (by kernel_rfl) (fun _ _ _ h => h) (Or.inl ⟨by rfl, ?_⟩) hSss11 ?_
            rotate_left
            · intro w hSw; obtain ⟨e0, e1, e2, e3, e4, e5, -⟩ := hSw; go_simp; try with_reducible rfl
            simp only [Act.put, rgA, rgB, rgC, rgD, rgE, rgF]
            refine wpAnyT_pure (i := 2) (v := ?_) rfl (by kernel_rfl) (by kernel_rfl) (by kernel_rfl) (fun _ _ _ h => h) (by rfl) ?_ ?_
            rotate_left
            · intro w; go_simp; try with_reducible rfl
            simp only [Act.put, rgA, rgB, rgC, rgD, rgE, rgF]
            refine wpAnyT_pure (i := 3) (v := ?_) rfl (by kernel_rfl) (by kernel_rfl) (by kernel_rfl) (fun _ _ _ h => h) (by rfl) ?_ ?_
            rotate_left
            · intro w; go_simp; try with_reducible rfl
            simp only [Act.put, rgA, rgB, rgC, rgD, rgE, rgF]
            refine wpAnyT_loadW (i := 4) (v := ?_) rfl (by kernel_rfl) (by kernel_rfl) (by kernel_rfl) (by kernel_rfl) (by kernel_rfl) (fun _ _ _ h => h) (Or.inl ⟨by rfl, ?_⟩) hSss11 ?_
            rotate_left
            · intro w hSw; obtain ⟨e0, e1, e2, e3, e4, e5, -⟩ := hSw; go_simp; try with_reducible rfl
            simp only [Act.put, rgA, rgB, rgC, rgD, rgE, rgF]
            refine wpAnyT_pure (i := 5) (v := ?_) rfl (by kernel_rfl) (by kernel_rfl) (by kernel_rfl) (fun _ _ _ h => h) (by rfl) ?_ ?_
            rotate_left
            · intro w; go_simp; try with_reducible rfl
            simp only [Act.put, rgA, rgB, rgC, rgD, rgE, rgF]
            refine wpAnyT_pure (i := 6) (v := ?_) rfl (by kernel_rfl) (by kernel_rfl) (by kernel_rfl) (fun _ _ _ h => h) (by rfl) ?_ ?_
            rotate_left
            · intro w; go_simp; try with_reducible rfl
            simp only [Act.put, rgA, rgB, rgC, rgD, rgE, rgF]
            refine wpAnyT_pure (i := 7) (v := ?_) rfl (by kernel_rfl) (by kernel_rfl) (by kernel_rfl) (fun _ _ _ h => h) (by rfl) ?_ ?_
            rotate_left
            · intro w; go_simp; try with_reducible rfl
            simp only [Act.put, rgA, rgB, rgC, rgD, rgE, rgF]
            refine wpAnyT_pure (i := 8) (v := ?_) rfl (by kernel_rfl) (by kernel_rfl) (by kernel_rfl) (fun _ _ _ h => h) (by rfl) ?_ ?_
            rotate_left
            · intro w; go_simp; try with_reducible rfl
            simp only [Act.put, rgA, rgB, rgC, rgD, rgE, rgF]
            refine wpAnyT_pure (i := 9) (v := ?_) rfl (by kernel_rfl) (by kernel_rfl) (by kernel_rfl) (fun _ _ _ h => h) (by rfl) ?_ ?_
            rotate_left
            · intro w; go_simp; try with_reducible rfl
            simp only [Act.put, rgA, rgB, rgC, rgD, rgE, rgF]
            refine wpAnyT_pure (i := 11) (v := ?_) rfl (by kernel_rfl) (by kernel_rfl) (by kernel_rfl) (fun _ _ _ h => h) (by rfl) ?_ ?_
            rotate_left
            · intro w; go_simp; try with_reducible rfl
            simp only [Act.put, rgA, rgB, rgC, rgD, rgE, rgF]
            refine wpAnyT_loadW (i := 10) (v := ?_) rfl (by kernel_rfl) (by kernel_rfl) (by kernel_rfl) (by kernel_rfl) (by kernel_rfl) (fun _ _ _ h => h) (Or.inl ⟨by rfl, ?_⟩) hSss11 ?_
            rotate_left
            · intro w hSw; obtain ⟨e0, e1, e2, e3, e4, e5, -⟩ := hSw; go_simp; try with_reducible rfl
            simp only [Act.put, rgA, rgB, rgC, rgD, rgE, rgF]
            refine wpAnyT_loadW (i := 12) (v := ?_) rfl (by kernel_rfl) (by kernel_rfl) (by kernel_rfl) (by kernel_rfl) (by kernel_rfl) (fun _ _ _ h => h) (Or.inl ⟨by rfl, ?_⟩) hSss11 ?_
            rotate_left
            · intro w hSw; obtain ⟨e0, e1, e2, e3, e4, e5, -⟩ := hSw; go_simp; try with_reducible rfl
            simp only [Act.put, rgA, rgB, rgC, rgD, rgE, rgF]
            refine wpAnyT_pure (i := 13) (v := (.bool true)) rfl (by kernel_rfl) (by kernel_rfl) (by kernel_rfl) (fun _ _ _ h => h) (by rfl) ?_ ?_
            · intro w; have hq := HEQ.out; clear HEQ; go_simp <;> simp [hq]
            simp only [Act.put, rgA, rgB, rgC, rgD, rgE, rgF]
            refine wpAnyT_pure (i := 14) (v := ?_) rfl (by kernel_rfl) (by kernel_rfl) (by kernel_rfl) (fun _ _ _ h => h) (by rfl) ?_ ?_
            rotate_left
            · intro w; go_simp; try with_reducible rfl
            simp only [Act.put, rgA, rgB, rgC, rgD, rgE, rgF]
            refine wpAnyT_done (by kernel_rfl) ?_ _
            have HBP := Lib.hid (hB_0_s11.trans ((hB_s11_s11).mono hB_0_s11.size))
            have hC3 := Cells.below HBP.out hC2
            obtain ⟨w6, rfl⟩ : ∃ x, x = s11 := ⟨_, rfl⟩
            go_wp2_with fail
            refine wp_region_T (Cells [(⟨b9, 0, none⟩, .string tnm), (⟨b9, 2, none⟩, .bool false), (⟨b5, 2, none⟩, .bool false), (⟨lb, lo + q, none⟩, .int .i64 en), (⟨w.heap.size + 1, 1, none⟩, .int .i64 ke), (⟨w.heap.size + 1, 2, none⟩, .int .i64 kp)]) (fun i => i == 11) (by kernel_rfl) ?_
            have hSss12 := Cells.drew hC3
            have hB_0_s12 : Below w6.heap.size w6 w6.drew := below_drew _
            generalize w6.drew = s12 at hSss12 hB_0_s12 ⊢
            have hB_s12_s12 := Below.refl s12.heap.size s12
            refine wpAnyT_pure (i := 0) (v := ?_) rfl (by kernel_rfl) (by kernel_rfl) (by kernel_rfl) (fun _ _ _ h => h) (by rfl) ?_ ?_
            rotate_left
            · intro w; go_simp; try with_reducible rfl
            simp only [Act.put, rgA, rgB, rgC, rgD, rgE, rgF]
            refine wpAnyT_pure (i := 1) (v := ?_) rfl (by kernel_rfl) (by kernel_rfl) (by kernel_rfl) (fun _ _ _ h => h) (by rfl) ?_ ?_
            rotate_left
            · intro w; go_simp; try with_reducible rfl
            simp only [Act.put, rgA, rgB, rgC, rgD, rgE, rgF]
            refine wpAnyT_pure (i := 3) (v := ?_) rfl (by kernel_rfl) (by kernel_rfl) (by kernel_rfl) (fun _ _ _ h => h) (by rfl) ?_ ?_
            rotate_left
            · intro w; go_simp; try with_reducible rfl
            simp only [Act.put, rgA, rgB, rgC, rgD, rgE, rgF]
            refine wpAnyT_pure (i := 4) (v := ?_) rfl (by kernel_rfl) (by kernel_rfl) (by kernel_rfl) (fun _ _ _ h => h) (by rfl) ?_ ?_
            rotate_left
            · intro w; go_simp; try with_reducible rfl
            simp only [Act.put, rgA, rgB, rgC, rgD, rgE, rgF]
            refine wpAnyT_pure (i := 5) (v := ?_) rfl (by kernel_rfl) (by kernel_rfl) (by kernel_rfl) (fun _ _ _ h => h) (by rfl) ?_ ?_
            rotate_left
            · intro w; go_simp; try with_reducible rfl
            simp only [Act.put, rgA, rgB, rgC, rgD, rgE, rgF]
            refine wpAnyT_pure (i := 7) (v := ?_) rfl (by kernel_rfl) (by kernel_rfl) (by kernel_rfl) (fun _ _ _ h => h) (by rfl) ?_ ?_
            rotate_left
            · intro w; go_simp; try with_reducible rfl
            simp only [Act.put, rgA, rgB, rgC, rgD, rgE, rgF]
            refine wpAnyT_loadW (i := 2) (v := ?_) rfl (by kernel_rfl) (by kernel_rfl) (by kernel_rfl) (by kernel_rfl) (by kernel_rfl) (fun _ _ _ h => h) (Or.inl ⟨by rfl, ?_⟩) hSss12 ?_
            rotate_left
            · intro w hSw; obtain ⟨e0, e1, e2, e3, e4, e5, -⟩ := hSw; go_simp; try with_reducible rfl
            simp only [Act.put, rgA, rgB, rgC, rgD, rgE, rgF]
            refine wpAnyT_loadW (i := 6) (v := ?_) rfl (by kernel_rfl) (by kernel_rfl) (by kernel_rfl) (by kernel_rfl) (by kernel_rfl) (fun _ _ _ h => h) (Or.inl ⟨by rfl, ?_⟩) hSss12 ?_
            rotate_left
            · intro w hSw; obtain ⟨e0, e1, e2, e3, e4, e5, -⟩ := hSw; go_simp; try with_reducible rfl
            simp only [Act.put, rgA, rgB, rgC, rgD, rgE, rgF]
            refine wpAnyT_loadW (i := 8) (v := ?_) rfl (by kernel_rfl) (by kernel_rfl) (by kernel_rfl) (by kernel_rfl) (by kernel_rfl) (fun _ _ _ h => h) (Or.inl ⟨by rfl, ?_⟩) hSss12 ?_
            rotate_left
            · intro w hSw; obtain ⟨e0, e1, e2, e3, e4, e5, -⟩ := hSw; go_simp; try with_reducible rfl
            simp only [Act.put, rgA, rgB, rgC, rgD, rgE, rgF]
            refine wpAnyT_pure (i := 9) (v := ?_) rfl (by kernel_rfl) (by kernel_rfl) (by kernel_rfl) (fun _ _ _ h => h) (by rfl) ?_ ?_
            rotate_left
            · intro w; go_simp; try with_reducible rfl
            simp only [Act.put, rgA, rgB, rgC, rgD, rgE, rgF]
            refine wpAnyT_one (i := 10) (by kernel_rfl) rfl (by rfl) ?_
            obtain ⟨b10, hb10⟩ : ∃ b, s12.heap.size = b := ⟨_, rfl⟩
            refine wp_newrow (v := .slice (some ⟨b10, 0, none⟩) 1 1) (cs := #[.string tnm, .int .i64 en, .int .i64 kp]) (te := 27) (by rw [← hb10]; go_simp) ?_
            intro w113 hX hN10
            rw [hb10] at hN10
            have hB_s12_w113 := below_step hB_s12_s12 hX
            have hB_w113_w113 := Below.refl w113.heap.size w113
            have hSsw113 := Cells.below hB_s12_w113 hSss12
            clear hX
            refine ⟨fun _ _ => hSsw113, ?_⟩
            try simp only [Act.put, rgA, rgB, rgC, rgD, rgE, rgF]
            refine wpAnyT_one (i := 11) (by kernel_rfl) rfl (by rfl) ?_
            have hbP : Below w6.heap.size w6 w113 := hB_0_s12.trans ((hB_s12_w113).mono (hB_0_s12).size)
            have hBr : Below wr.heap.size wr w113 := HBP.out.trans (hbP.mono HBP.out.size)
            refine wp_app (.tmp 63) (.tmp 73) 39 rfl (e := keyT) (te := 27) info_rkey Tryz.underlying39 rfl (by decide) (base := w2.heap.size) (S := fun _ => False) (v := .slice oa' ol' oc') (xs := (l0 ++ ((el.take q).filter fun e => false || false || decide (e = ke)).map (fun e => (⟨tnm, e, kp⟩ : Ky))).map Ky.d) (by kernel_rfl) (HO.out.below hBr) (Nat.le_trans HBr.out.size hBr.size) (sv := .slice (some ⟨b10, 0, none⟩) 1 1) (by kernel_rfl) (ys := [Ky.d ⟨tnm, en, kp⟩]) (Src.of_cells (news := [.string tnm, .int .i64 en, .int .i64 kp]) (fun j u hu => by rw [Nat.zero_add, blk_cell hN10]; simpa using hu)) (RdL.one (e := keyT) (key_rd HKO.out)) (by have h1 := HACQ.out; rw [List.length_map]; simp only [List.length_singleton]; omega) (by have h1 := HACQ.out; rw [List.length_map]; simp only [List.length_singleton]; omega) ?_
            intro ca9 cl9 cc9 w114 O9 g9 ob9
            rw [← HTN.out] at O9
            have HO9 := Lib.hid O9
            have HB9 := Lib.hid (show Below w2.heap.size w2 w114 from (HBr.out.trans (hBr.mono HBr.out.size)).grown g9 (Nat.le_trans HBr.out.size hBr.size) (fun c hc => (HO.out.own c hc).1))
            have HSZ9 := Lib.hid (show w5.heap.size ≤ w114.heap.size from Nat.le_trans HSZ.out (Nat.le_trans hBr.size g9.size))
            have HOB9 := Lib.hid (show ∀ ob, (Value.slice ca9 cl9 cc9).ownBlock = some ob → ob < w3.heap.size ∨ w5.heap.size ≤ ob from fun ob h => by
              rcases ob9 with e | e
              · exact HOBq.out ob (e ▸ h)
              · rw [e] at h
                cases h
                exact .inr (Nat.le_trans HSZ.out hBr.size))
            have HFR9 := Lib.hid (show ∀ b, w3.heap.size ≤ b → b < w5.heap.size → w114.heap[b]? = w5.heap[b]? from fun b h1 h2 => by
              have h3 := Nat.lt_of_lt_of_le h2 HSZ.out
              refine ((g9.block b (Nat.lt_of_lt_of_le h3 hBr.size) (fun e => ?_)).trans (hBr.block b h3)).trans (HFR.out b h1 h2)
              rcases HOBq.out b e.symm with h | h <;> omega)
            clear O9 g9 ob9 hbP hBr
            refine ⟨fun h => absurd h (by decide), ?_⟩
            try simp only [Act.put, rgA, rgB, rgC, rgD, rgE, rgF]
            refine wpAnyT_pure (i := 12) (v := ?_) rfl (by kernel_rfl) (by kernel_rfl) (by kernel_rfl) (fun _ _ _ h => h) (by rfl) ?_ ?_
            rotate_left
            · intro w; go_simp; try with_reducible rfl
            simp only [Act.put, rgA, rgB, rgC, rgD, rgE, rgF]
            refine wpAnyT_done (by kernel_rfl) ?_ _
            obtain ⟨w9, rfl⟩ : ∃ x, x = w114 := ⟨_, rfl⟩
            go_wp2_with fail
            go_roundw
            case rel => exact ⟨q + 1, HLTQ.out, by go_num, HO9.out, HB9.out, HSZ9.out, HOB9.out, HFR9.out⟩
            case measure => simp [intOf]; try omega
          · have HTN := Lib.hid (show (l0 ++ ((el.take (q + 1)).filter fun e => false || false || decide (e = ke)).map (fun e => (⟨tnm, e, kp⟩ : Ky))).map Ky.d = (l0 ++ ((el.take q).filter fun e => false || false || decide (e = ke)).map (fun e => (⟨tnm, e, kp⟩ : Ky))).map Ky.d from by
              rw [HTQ.out, if_neg (by simp [he])]
              simp)
            have HEQ := Lib.hid he
            clear he
            refine wp_region_T (Cells [(⟨b9, 0, none⟩, .string tnm), (⟨b9, 2, none⟩, .bool false), (⟨b5, 2, none⟩, .bool false), (⟨lb, lo + q, none⟩, .int .i64 en), (⟨w.heap.size + 1, 1, none⟩, .int .i64 ke), (⟨w.heap.size + 1, 2, none⟩, .int .i64 kp)]) (fun _ => false) (by kernel_rfl) ?_
            have hSss15 := Cells.drew hC2
            have hB_0_s15 : Below wr.heap.size wr wr.drew := below_drew _
            generalize wr.drew = s15 at hSss15 hB_0_s15 ⊢
            have hB_s15_s15 := Below.refl s15.heap.size s15
            refine wpAnyT_pure (i := 0) (v := ?_) rfl (by kernel_rfl) (by kernel_rfl) (by kernel_rfl) (fun _ _ _ h => h) (by rfl) ?_ ?_
            rotate_left
            · intro w; go_simp; try with_reducible rfl
            simp only [Act.put, rgA, rgB, rgC, rgD, rgE, rgF]
            refine wpAnyT_loadW (i := 1) (v := ?_) rfl (by kernel_rfl) (by kernel_rfl) (by kernel_rfl) (by kernel_rfl) (by kernel_rfl) (fun _ _ _ h => h) (Or.inl ⟨by rfl, ?_⟩) hSss15 ?_
            rotate_left
            · intro w hSw; obtain ⟨e0, e1, e2, e3, e4, e5, -⟩ := hSw; go_simp; try with_reducible rfl
            simp only [Act.put, rgA, rgB, rgC, rgD, rgE, rgF]
            refine wpAnyT_pure (i := 2) (v := ?_) rfl (by kernel_rfl) (by kernel_rfl) (by kernel_rfl) (fun _ _ _ h => h) (by rfl) ?_ ?_
            rotate_left
            · intro w; go_simp; try with_reducible rfl
            simp only [Act.put, rgA, rgB, rgC, rgD, rgE, rgF]
            refine wpAnyT_pure (i := 3) (v := ?_) rfl (by kernel_rfl) (by kernel_rfl) (by kernel_rfl) (fun _ _ _ h => h) (by rfl) ?_ ?_
            rotate_left
            · intro w; go_simp; try with_reducible rfl
            simp only [Act.put, rgA, rgB, rgC, rgD, rgE, rgF]
            refine wpAnyT_loadW (i := 4) (v := ?_) rfl (by kernel_rfl) (by kernel_rfl) (by kernel_rfl) (by kernel_rfl) (by kernel_rfl) (fun _ _ _ h => h) (Or.inl ⟨by rfl, ?_⟩) hSss15 ?_
            rotate_left
            · intro w hSw; obtain ⟨e0, e1, e2, e3, e4, e5, -⟩ := hSw; go_simp; try with_reducible rfl
            simp only [Act.put, rgA, rgB, rgC, rgD, rgE, rgF]
            refine wpAnyT_pure (i := 5) (v := ?_) rfl (by kernel_rfl) (by kernel_rfl) (by kernel_rfl) (fun _ _ _ h => h) (by rfl) ?_ ?_
            rotate_left
            · intro w; go_simp; try with_reducible rfl
            simp only [Act.put, rgA, rgB, rgC, rgD, rgE, rgF]
            refine wpAnyT_pure (i := 6) (v := ?_) rfl (by kernel_rfl) (by kernel_rfl) (by kernel_rfl) (fun _ _ _ h => h) (by rfl) ?_ ?_
            rotate_left
            · intro w; go_simp; try with_reducible rfl
            simp only [Act.put, rgA, rgB, rgC, rgD, rgE, rgF]
            refine wpAnyT_pure (i := 7) (v := ?_) rfl (by kernel_rfl) (by kernel_rfl) (by kernel_rfl) (fun _ _ _ h => h) (by rfl) ?_ ?_
            rotate_left
            · intro w; go_simp; try with_reducible rfl
            simp only [Act.put, rgA, rgB, rgC, rgD, rgE, rgF]
            refine wpAnyT_pure (i := 8) (v := ?_) rfl (by kernel_rfl) (by kernel_rfl) (by kernel_rfl) (fun _ _ _ h => h) (by rfl) ?_ ?_
            rotate_left
            · intro w; go_simp; try with_reducible rfl
            simp only [Act.put, rgA, rgB, rgC, rgD, rgE, rgF]
            refine wpAnyT_pure (i := 9) (v := ?_) rfl (by kernel_rfl) (by kernel_rfl) (by kernel_rfl) (fun _ _ _ h => h) (by rfl) ?_ ?_
            rotate_left
            · intro w; go_simp; try with_reducible rfl
            simp only [Act.put, rgA, rgB, rgC, rgD, rgE, rgF]
            refine wpAnyT_pure (i := 11) (v := ?_) rfl (by kernel_rfl) (by kernel_rfl) (by kernel_rfl) (fun _ _ _ h => h) (by rfl) ?_ ?_
            rotate_left
            · intro w; go_simp; try with_reducible rfl
            simp only [Act.put, rgA, rgB, rgC, rgD, rgE, rgF]
            refine wpAnyT_loadW (i := 10) (v := ?_) rfl (by kernel_rfl) (by kernel_rfl) (by kernel_rfl) (by kernel_rfl) (by kernel_rfl) (fun _ _ _ h => h) (Or.inl ⟨by rfl, ?_⟩) hSss15 ?_
            rotate_left
            · intro w hSw; obtain ⟨e0, e1, e2, e3, e4, e5, -⟩ := hSw; go_simp; try with_reducible rfl
            simp only [Act.put, rgA, rgB, rgC, rgD, rgE, rgF]
            refine wpAnyT_loadW (i := 12) (v := ?_) rfl (by kernel_rfl) (by kernel_rfl) (by kernel_rfl) (by kernel_rfl) (by kernel_rfl) (fun _ _ _ h => h) (Or.inl ⟨by rfl, ?_⟩) hSss15 ?_
            rotate_left
            · intro w hSw; obtain ⟨e0, e1, e2, e3, e4, e5, -⟩ := hSw; go_simp; try with_reducible rfl
            simp only [Act.put, rgA, rgB, rgC, rgD, rgE, rgF]
            refine wpAnyT_pure (i := 13) (v := (.bool false)) rfl (by kernel_rfl) (by kernel_rfl) (by kernel_rfl) (fun _ _ _ h => h) (by rfl) ?_ ?_
            · intro w; have hq := HEQ.out; clear HEQ; go_simp <;> simp [hq]
            simp only [Act.put, rgA, rgB, rgC, rgD, rgE, rgF]
            refine wpAnyT_pure (i := 14) (v := ?_) rfl (by kernel_rfl) (by kernel_rfl) (by kernel_rfl) (fun _ _ _ h => h) (by rfl) ?_ ?_
            rotate_left
            · intro w; go_simp; try with_reducible rfl
            simp only [Act.put, rgA, rgB, rgC, rgD, rgE, rgF]
            refine wpAnyT_done (by kernel_rfl) ?_ _
            have HBP := Lib.hid (hB_0_s15.trans ((hB_s15_s15).mono hB_0_s15.size))
            have hC3 := Cells.below HBP.out hC2
            obtain ⟨w6, rfl⟩ : ∃ x, x = s15 := ⟨_, rfl⟩
            go_wp2_with fail
            go_roundw
            case rel => exact ⟨q + 1, HLTQ.out, by go_num, by rw [HTN.out]; exact HO.out.below HBP.out, HBr.out.trans (HBP.out.mono HBr.out.size), Nat.le_trans HSZ.out HBP.out.size, fun ob h => HOBq.out ob h, fun b h1 h2 => (HBP.out.block b (Nat.lt_of_lt_of_le h2 HSZ.out)).trans (HFR.out b h1 h2)⟩
            case measure => simp [intOf]; try omega
        · skip
          have HTN := Lib.hid (show (l0 ++ ((el.take (q + 1)).filter fun e => false || true || decide (e = ke)).map (fun e => (⟨tnm, e, kp⟩ : Ky))).map Ky.d = (l0 ++ ((el.take q).filter fun e => false || true || decide (e = ke)).map (fun e => (⟨tnm, e, kp⟩ : Ky))).map Ky.d ++ [Ky.d ⟨tnm, en, kp⟩] from by
            rw [HTQ.out, if_pos (by simp)]
            simp)
          have HACQ := Lib.hid (show (l0 ++ ((el.take q).filter fun e => false || true || decide (e = ke)).map (fun e => (⟨tnm, e, kp⟩ : Ky))).length + 1 ≤ 1000 from by
            have h1 := HAC.out
            have h2 := ((List.take_sublist (q + 1) el).filter (fun e => false || true || decide (e = ke))).length_le
            rw [HTQ.out, if_pos (by simp)] at h2
            simp only [List.length_append, List.length_map, List.length_singleton] at h1 h2 ⊢
            omega)
          refine wp_region_T (Cells [(⟨b9, 0, none⟩, .string tnm), (⟨b9, 2, none⟩, .bool false), (⟨b5, 2, none⟩, .bool true), (⟨lb, lo + q, none⟩, .int .i64 en), (⟨w.heap.size + 1, 1, none⟩, .int .i64 ke), (⟨w.heap.size + 1, 2, none⟩, .int .i64 kp)]) (fun _ => false) (by kernel_rfl) ?_
          have hSss16 := Cells.drew hC2
          have hB_0_s16 : Below wr.heap.size wr wr.drew := below_drew _
          generalize wr.drew = s16 at hSss16 hB_0_s16 ⊢
          have hB_s16_s16 := Below.refl s16.heap.size s16
          refine wpAnyT_pure (i := 0) (v := ?_) rfl (by kernel_rfl) (by kernel_rfl) (by kernel_rfl) (fun _ _ _ h => h) (by rfl) ?_ ?_
          rotate_left
          · intro w; go_simp; try with_reducible rfl
          simp only [Act.put, rgA, rgB, rgC, rgD, rgE, rgF]
          refine wpAnyT_loadW (i := 1) (v := ?_) rfl (by kernel_rfl) (by kernel_rfl) (by kernel_rfl) (by kernel_rfl) (by kernel_rfl) (fun _ _ _ h => h) (Or.inl ⟨by rfl, ?_⟩) hSss16 ?_
          rotate_left
          · intro w hSw; obtain ⟨e0, e1, e2, e3, e4, e5, -⟩ := hSw; go_simp; try with_reducible rfl
          simp only [Act.put, rgA, rgB, rgC, rgD, rgE, rgF]
          refine wpAnyT_pure (i := 2) (v := ?_) rfl (by kernel_rfl) (by kernel_rfl) (by kernel_rfl) (fun _ _ _ h => h) (by rfl) ?_ ?_
          rotate_left
          · intro w; go_simp; try with_reducible rfl
          simp only [Act.put, rgA, rgB, rgC, rgD, rgE, rgF]
          refine wpAnyT_pure (i := 3) (v := ?_) rfl (by kernel_rfl) (by kernel_rfl) (by kernel_rfl) (fun _ _ _ h => h) (by rfl) ?_ ?_
          rotate_left
          · intro w; go_simp; try with_reducible rfl
          simp only [Act.put, rgA, rgB, rgC, rgD, rgE, rgF]
          refine wpAnyT_loadW (i := 4) (v := ?_) rfl (by kernel_rfl) (by kernel_rfl) (by kernel_rfl) (by kernel_rfl) (by kernel_rfl) (fun _ _ _ h => h) (Or.inl ⟨by rfl, ?_⟩) hSss16 ?_
          rotate_left
          · intro w hSw; obtain ⟨e0, e1, e2, e3, e4, e5, -⟩ := hSw; go_simp; try with_reducible rfl
          simp only [Act.put, rgA, rgB, rgC, rgD, rgE, rgF]
          refine wpAnyT_pure (i := 5) (v := ?_) rfl (by kernel_rfl) (by kernel_rfl) (by kernel_rfl) (fun _ _ _ h => h) (by rfl) ?_ ?_
          rotate_left
          · intro w; go_simp; try with_reducible rfl
          simp only [Act.put, rgA, rgB, rgC, rgD, rgE, rgF]
          refine wpAnyT_pure (i := 6) (v := ?_) rfl (by kernel_rfl) (by kernel_rfl) (by kernel_rfl) (fun _ _ _ h => h) (by rfl) ?_ ?_
          rotate_left
          · intro w; go_simp; try with_reducible rfl
          simp only [Act.put, rgA, rgB, rgC, rgD, rgE, rgF]
          refine wpAnyT_skip (i := 7) rfl (by kernel_rfl) (by kernel_rfl) (by kernel_rfl) (fun _ _ _ h => h) (by rfl) ?_
          simp only [Act.put, rgA, rgB, rgC, rgD, rgE, rgF]
          refine wpAnyT_skip (i := 8) rfl (by kernel_rfl) (by kernel_rfl) (by kernel_rfl) (fun _ _ _ h => h) (by rfl) ?_
          simp only [Act.put, rgA, rgB, rgC, rgD, rgE, rgF]
          refine wpAnyT_skip (i := 9) rfl (by kernel_rfl) (by kernel_rfl) (by kernel_rfl) (fun _ _ _ h => h) (by rfl) ?_
          simp only [Act.put, rgA, rgB, rgC, rgD, rgE, rgF]
          refine wpAnyT_skip (i := 10) rfl (by kernel_rfl) (by kernel_rfl) (by kernel_rfl) (fun _ _ _ h => h) (by rfl) ?_
          simp only [Act.put, rgA, rgB, rgC, rgD, rgE, rgF]
          refine wpAnyT_skip (i := 11) rfl (by kernel_rfl) (by kernel_rfl) (by kernel_rfl) (fun _ _ _ h => h) (by rfl) ?_
          simp only [Act.put, rgA, rgB, rgC, rgD, rgE, rgF]
          refine wpAnyT_skip (i := 12) rfl (by kernel_rfl) (by kernel_rfl) (by kernel_rfl) (fun _ _ _ h => h) (by rfl) ?_
          simp only [Act.put, rgA, rgB, rgC, rgD, rgE, rgF]
          refine wpAnyT_skip (i := 13) rfl (by kernel_rfl) (by kernel_rfl) (by kernel_rfl) (fun _ _ _ h => h) (by rfl) ?_
          simp only [Act.put, rgA, rgB, rgC, rgD, rgE, rgF]
          refine wpAnyT_pure (i := 14) (v := ?_) rfl (by kernel_rfl) (by kernel_rfl) (by kernel_rfl) (fun _ _ _ h => h) (by rfl) ?_ ?_
          rotate_left
          · intro w; go_simp; try with_reducible rfl
          simp only [Act.put, rgA, rgB, rgC, rgD, rgE, rgF]
          refine wpAnyT_done (by kernel_rfl) ?_ _
          have HBP := Lib.hid (hB_0_s16.trans ((hB_s16_s16).mono hB_0_s16.size))
          have hC3 := Cells.below HBP.out hC2
          obtain ⟨w6, rfl⟩ : ∃ x, x = s16 := ⟨_, rfl⟩
          go_wp2_with fail
          refine wp_region_T (Cells [(⟨b9, 0, none⟩, .string tnm), (⟨b9, 2, none⟩, .bool false), (⟨b5, 2, none⟩, .bool true), (⟨lb, lo + q, none⟩, .int .i64 en), (⟨w.heap.size + 1, 1, none⟩, .int .i64 ke), (⟨w.heap.size + 1, 2, none⟩, .int .i64 kp)]) (fun i => i == 11) (by kernel_rfl) ?_
          have hSss17 := Cells.drew hC3
          have hB_0_s17 : Below w6.heap.size w6 w6.drew := below_drew _
          generalize w6.drew = s17 at hSss17 hB_0_s17 ⊢
          have hB_s17_s17 := Below.refl s17.heap.size s17
          refine wpAnyT_pure (i := 0) (v := ?_) rfl (by kernel_rfl) (by kernel_rfl) (by kernel_rfl) (fun _ _ _ h => h) (by rfl) ?_ ?_
          rotate_left
          · intro w; go_simp; try with_reducible rfl
          simp only [Act.put, rgA, rgB, rgC, rgD, rgE, rgF]
          refine wpAnyT_pure (i := 1) (v := ?_) rfl (by kernel_rfl) (by kernel_rfl) (by kernel_rfl) (fun _ _ _ h => h) (by rfl) ?_ ?_
          rotate_left
          · intro w; go_simp; try with_reducible rfl
          simp only [Act.put, rgA, rgB, rgC, rgD, rgE, rgF]
          refine wpAnyT_pure (i := 3) (v := ?_) rfl (by kernel_rfl) (by kernel_rfl) (by kernel_rfl) (fun _ _ _ h => h) (by rfl) ?_ ?_
          rotate_left
          · intro w; go_simp; try with_reducible rfl
          simp only [Act.put, rgA, rgB, rgC, rgD, rgE, rgF]
          refine wpAnyT_pure (i := 4) (v := ?_) rfl (by kernel_rfl) (by kernel_rfl) (by kernel_rfl) (fun _ _ _ h => h) (by rfl) ?_ ?_
          rotate_left
          · intro w; go_simp; try with_reducible rfl
          simp only [Act.put, rgA, rgB, rgC, rgD, rgE, rgF]
          refine wpAnyT_pure (i := 5) (v := ?_) rfl (by kernel_rfl) (by kernel_rfl) (by kernel_rfl) (fun _ _ _ h => h) (by rfl) ?_ ?_
          rotate_left
          · intro w; go_simp; try with_reducible rfl
          simp only [Act.put, rgA, rgB, rgC, rgD, rgE, rgF]
          refine wpAnyT_pure (i := 7) (v := ?_) rfl (by kernel_rfl) (by kernel_rfl) (by kernel_rfl) (fun _ _ _ h => h) (by rfl) ?_ ?_
          rotate_left
          · intro w; go_simp; try with_reducible rfl
          simp only [Act.put, rgA, rgB, rgC, rgD, rgE, rgF]
          refine wpAnyT_loadW (i := 2) (v := ?_) rfl (by kernel_rfl) (by kernel_rfl) (by kernel_rfl) (by kernel_rfl) (by kernel_rfl) (fun _ _ _ h => h) (Or.inl ⟨by rfl, ?_⟩) hSss17 ?_
          rotate_left
          · intro w hSw; obtain ⟨e0, e1, e2, e3, e4, e5, -⟩ := hSw; go_simp; try with_reducible rfl
          simp only [Act.put, rgA, rgB, rgC, rgD, rgE, rgF]
          refine wpAnyT_loadW (i := 6) (v := ?_) rfl (by kernel_rfl) (by kernel_rfl) (by kernel_rfl) (by kernel_rfl) (by kernel_rfl) (fun _ _ _ h => h) (Or.inl ⟨by rfl, ?_⟩) hSss17 ?_
          rotate_left
          · intro w hSw; obtain ⟨e0, e1, e2, e3, e4, e5, -⟩ := hSw; go_simp; try with_reducible rfl
          simp only [Act.put, rgA, rgB, rgC, rgD, rgE, rgF]
          refine wpAnyT_loadW (i := 8) (v := ?_) rfl (by kernel_rfl) (by kernel_rfl) (by kernel_rfl) (by kernel_rfl) (by kernel_rfl) (fun _ _ _ h => h) (Or.inl ⟨by rfl, ?_⟩) hSss17 ?_
          rotate_left
          · intro w hSw; obtain ⟨e0, e1, e2, e3, e4, e5, -⟩ := hSw; go_simp; try with_reducible rfl
          simp only [Act.put, rgA, rgB, rgC, rgD, rgE, rgF]
          refine wpAnyT_pure (i := 9) (v := ?_) rfl (by kernel_rfl) (by kernel_rfl) (by kernel_rfl) (fun _ _ _ h => h) (by rfl) ?_ ?_
          rotate_left
          · intro w; go_simp; try with_reducible rfl
          simp only [Act.put, rgA, rgB, rgC, rgD, rgE, rgF]
          refine wpAnyT_one (i := 10) (by kernel_rfl) rfl (by rfl) ?_
          obtain ⟨b10, hb10⟩ : ∃ b, s17.heap.size = b := ⟨_, rfl⟩
          refine wp_newrow (v := .slice (some ⟨b10, 0, none⟩) 1 1) (cs := #[.string tnm, .int .i64 en, .int .i64 kp]) (te := 27) (by rw [← hb10]; go_simp) ?_
          intro w118 hX hN10
          rw [hb10] at hN10
          have hB_s17_w118 := below_step hB_s17_s17 hX
          have hB_w118_w118 := Below.refl w118.heap.size w118
          have hSsw118 := Cells.below hB_s17_w118 hSss17
          clear hX
          refine ⟨fun _ _ => hSsw118, ?_⟩
          try simp only [Act.put, rgA, rgB, rgC, rgD, rgE, rgF]
          refine wpAnyT_one (i := 11) (by kernel_rfl) rfl (by rfl) ?_
          have hbP : Below w6.heap.size w6 w118 := hB_0_s17.trans ((hB_s17_w118).mono (hB_0_s17).size)
          have hBr : Below wr.heap.size wr w118 := HBP.out.trans (hbP.mono HBP.out.size)
          refine wp_app (.tmp 63) (.tmp 73) 39 rfl (e := keyT) (te := 27) info_rkey Tryz.underlying39 rfl (by decide) (base := w2.heap.size) (S := fun _ => False) (v := .slice oa' ol' oc') (xs := (l0 ++ ((el.take q).filter fun e => false || true || decide (e = ke)).map (fun e => (⟨tnm, e, kp⟩ : Ky))).map Ky.d) (by kernel_rfl) (HO.out.below hBr) (Nat.le_trans HBr.out.size hBr.size) (sv := .slice (some ⟨b10, 0, none⟩) 1 1) (by kernel_rfl) (ys := [Ky.d ⟨tnm, en, kp⟩]) (Src.of_cells (news := [.string tnm, .int .i64 en, .int .i64 kp]) (fun j u hu => by rw [Nat.zero_add, blk_cell hN10]; simpa using hu)) (RdL.one (e := keyT) (key_rd HKO.out)) (by have h1 := HACQ.out; rw [List.length_map]; simp only [List.length_singleton]; omega) (by have h1 := HACQ.out; rw [List.length_map]; simp only [List.length_singleton]; omega) ?_
          intro ca9 cl9 cc9 w119 O9 g9 ob9
          rw [← HTN.out] at O9
          have HO9 := Lib.hid O9
          have HB9 := Lib.hid (show Below w2.heap.size w2 w119 from (HBr.out.trans (hBr.mono HBr.out.size)).grown g9 (Nat.le_trans HBr.out.size hBr.size) (fun c hc => (HO.out.own c hc).1))
          have HSZ9 := Lib.hid (show w5.heap.size ≤ w119.heap.size from Nat.le_trans HSZ.out (Nat.le_trans hBr.size g9.size))
          have HOB9 := Lib.hid (show ∀ ob, (Value.slice ca9 cl9 cc9).ownBlock = some ob → ob < w3.heap.size ∨ w5.heap.size ≤ ob from fun ob h => by
            rcases ob9 with e | e
            · exact HOBq.out ob (e ▸ h)
            · rw [e] at h
              cases h
              exact .inr (Nat.le_trans HSZ.out hBr.size))
          have HFR9 := Lib.hid (show ∀ b, w3.heap.size ≤ b → b < w5.heap.size → w119.heap[b]? = w5.heap[b]? from fun b h1 h2 => by
            have h3 := Nat.lt_of_lt_of_le h2 HSZ.out
            refine ((g9.block b (Nat.lt_of_lt_of_le h3 hBr.size) (fun e => ?_)).trans (hBr.block b h3)).trans (HFR.out b h1 h2)
            rcases HOBq.out b e.symm with h | h <;> omega)
          clear O9 g9 ob9 hbP hBr
          refine ⟨fun h => absurd h (by decide), ?_⟩
          try simp only [Act.put, rgA, rgB, rgC, rgD, rgE, rgF]
          refine wpAnyT_pure (i := 12) (v := ?_) rfl (by kernel_rfl) (by kernel_rfl) (by kernel_rfl) (fun _ _ _ h => h) (by rfl) ?_ ?_
          rotate_left
          · intro w; go_simp; try with_reducible rfl
          simp only [Act.put, rgA, rgB, rgC, rgD, rgE, rgF]
          refine wpAnyT_done (by kernel_rfl) ?_ _
          obtain ⟨w9, rfl⟩ : ∃ x, x = w119 := ⟨_, rfl⟩
          go_wp2_with fail
          go_roundw
          case rel => exact ⟨q + 1, HLTQ.out, by go_num, HO9.out, HB9.out, HSZ9.out, HOB9.out, HFR9.out⟩
          case measure => simp [intOf]; try omega
      · skip
        have HTN := Lib.hid (show (l0 ++ ((el.take (q + 1)).filter fun e => true || og || decide (e = ke)).map (fun e => (⟨tnm, e, kp⟩ : Ky))).map Ky.d = (l0 ++ ((el.take q).filter fun e => true || og || decide (e = ke)).map (fun e => (⟨tnm, e, kp⟩ : Ky))).map Ky.d ++ [Ky.d ⟨tnm, en, kp⟩] from by
          rw [HTQ.out, if_pos (by simp)]
          simp)
        have HACQ := Lib.hid (show (l0 ++ ((el.take q).filter fun e => true || og || decide (e = ke)).map (fun e => (⟨tnm, e, kp⟩ : Ky))).length + 1 ≤ 1000 from by
          have h1 := HAC.out
          have h2 := ((List.take_sublist (q + 1) el).filter (fun e => true || og || decide (e = ke))).length_le
          rw [HTQ.out, if_pos (by simp)] at h2
          simp only [List.length_append, List.length_map, List.length_singleton] at h1 h2 ⊢
          omega)
        refine wp_region_T (Cells [(⟨b9, 0, none⟩, .string tnm), (⟨b9, 2, none⟩, .bool true), (⟨b5, 2, none⟩, .bool og), (⟨lb, lo + q, none⟩, .int .i64 en), (⟨w.heap.size + 1, 1, none⟩, .int .i64 ke), (⟨w.heap.size + 1, 2, none⟩, .int .i64 kp)]) (fun _ => false) (by kernel_rfl) ?_
        have hSss20 := Cells.drew hC2
        have hB_0_s20 : Below wr.heap.size wr wr.drew := below_drew _
        generalize wr.drew = s20 at hSss20 hB_0_s20 ⊢
        have hB_s20_s20 := Below.refl s20.heap.size s20
        refine wpAnyT_pure (i := 0) (v := ?_) rfl (by kernel_rfl) (by kernel_rfl) (by kernel_rfl) (fun _ _ _ h => h) (by rfl) ?_ ?_
        rotate_left
        · intro w; go_simp; try with_reducible rfl
        simp only [Act.put, rgA, rgB, rgC, rgD, rgE, rgF]
        refine wpAnyT_loadW (i := 1) (v := ?_) rfl (by kernel_rfl) (by kernel_rfl) (by kernel_rfl) (by kernel_rfl) (by kernel_rfl) (fun _ _ _ h => h) (Or.inl ⟨by rfl, ?_⟩) hSss20 ?_
        rotate_left
        · intro w hSw; obtain ⟨e0, e1, e2, e3, e4, e5, -⟩ := hSw; go_simp; try with_reducible rfl
        simp only [Act.put, rgA, rgB, rgC, rgD, rgE, rgF]
        refine wpAnyT_pure (i := 2) (v := ?_) rfl (by kernel_rfl) (by kernel_rfl) (by kernel_rfl) (fun _ _ _ h => h) (by rfl) ?_ ?_
        rotate_left
        · intro w; go_simp; try with_reducible rfl
        simp only [Act.put, rgA, rgB, rgC, rgD, rgE, rgF]
        refine wpAnyT_skip (i := 3) rfl (by kernel_rfl) (by kernel_rfl) (by kernel_rfl) (fun _ _ _ h => h) (by rfl) ?_
        simp only [Act.put, rgA, rgB, rgC, rgD, rgE, rgF]
        refine wpAnyT_skip (i := 4) rfl (by kernel_rfl) (by kernel_rfl) (by kernel_rfl) (fun _ _ _ h => h) (by rfl) ?_
        simp only [Act.put, rgA, rgB, rgC, rgD, rgE, rgF]
        refine wpAnyT_pure (i := 5) (v := ?_) rfl (by kernel_rfl) (by kernel_rfl) (by kernel_rfl) (fun _ _ _ h => h) (by rfl) ?_ ?_
        rotate_left
        · intro w; go_simp; try with_reducible rfl
        simp only [Act.put, rgA, rgB, rgC, rgD, rgE, rgF]
        refine wpAnyT_pure (i := 6) (v := ?_) rfl (by kernel_rfl) (by kernel_rfl) (by kernel_rfl) (fun _ _ _ h => h) (by rfl) ?_ ?_
        rotate_left
        · intro w; go_simp; try with_reducible rfl
        simp only [Act.put, rgA, rgB, rgC, rgD, rgE, rgF]
        refine wpAnyT_skip (i := 7) rfl (by kernel_rfl) (by kernel_rfl) (by kernel_rfl) (fun _ _ _ h => h) (by rfl) ?_
        simp only [Act.put, rgA, rgB, rgC, rgD, rgE, rgF]
        refine wpAnyT_skip (i := 8) rfl (by kernel_rfl) (by kernel_rfl) (by kernel_rfl) (fun _ _ _ h => h) (by rfl) ?_
        simp only [Act.put, rgA, rgB, rgC, rgD, rgE, rgF]
        refine wpAnyT_skip (i := 9) rfl (by kernel_rfl) (by kernel_rfl) (by kernel_rfl) (fun _ _ _ h => h) (by rfl) ?_
        simp only [Act.put, rgA, rgB, rgC, rgD, rgE, rgF]
        refine wpAnyT_skip (i := 10) rfl (by kernel_rfl) (by kernel_rfl) (by kernel_rfl) (fun _ _ _ h => h) (by rfl) ?_
        simp only [Act.put, rgA, rgB, rgC, rgD, rgE, rgF]
        refine wpAnyT_skip (i := 11) rfl (by kernel_rfl) (by kernel_rfl) (by kernel_rfl) (fun _ _ _ h => h) (by rfl) ?_
        simp only [Act.put, rgA, rgB, rgC, rgD, rgE, rgF]
        refine wpAnyT_skip (i := 12) rfl (by kernel_rfl) (by kernel_rfl) (by kernel_rfl) (fun _ _ _ h => h) (by rfl) ?_
        simp only [Act.put, rgA, rgB, rgC, rgD, rgE, rgF]
        refine wpAnyT_skip (i := 13) rfl (by kernel_rfl) (by kernel_rfl) (by kernel_rfl) (fun _ _ _ h => h) (by rfl) ?_
        simp only [Act.put, rgA, rgB, rgC, rgD, rgE, rgF]
        refine wpAnyT_pure (i := 14) (v := ?_) rfl (by kernel_rfl) (by kernel_rfl) (by kernel_rfl) (fun _ _ _ h => h) (by rfl) ?_ ?_
        rotate_left
        · intro w; go_simp; try with_reducible rfl
        simp only [Act.put, rgA, rgB, rgC, rgD, rgE, rgF]
        refine wpAnyT_done (by kernel_rfl) ?_ _
        have HBP := Lib.hid (hB_0_s20.trans ((hB_s20_s20).mono hB_0_s20.size))
        have hC3 := Cells.below HBP.out hC2
        obtain ⟨w6, rfl⟩ : ∃ x, x = s20 := ⟨_, rfl⟩
        go_wp2_with fail
        refine wp_region_T (Cells [(⟨b9, 0, none⟩, .string tnm), (⟨b9, 2, none⟩, .bool true), (⟨b5, 2, none⟩, .bool og), (⟨lb, lo + q, none⟩, .int .i64 en), (⟨w.heap.size + 1, 1, none⟩, .int .i64 ke), (⟨w.heap.size + 1, 2, none⟩, .int .i64 kp)]) (fun i => i == 11) (by kernel_rfl) ?_
        have hSss21 := Cells.drew hC3
        have hB_0_s21 : Below w6.heap.size w6 w6.drew := below_drew _
        generalize w6.drew = s21 at hSss21 hB_0_s21 ⊢
        have hB_s21_s21 := Below.refl s21.heap.size s21
        refine wpAnyT_pure (i := 0) (v := ?_) rfl (by kernel_rfl) (by kernel_rfl) (by kernel_rfl) (fun _ _ _ h => h) (by rfl) ?_ ?_
        rotate_left
        · intro w; go_simp; try with_reducible rfl
        simp only [Act.put, rgA, rgB, rgC, rgD, rgE, rgF]
        refine wpAnyT_pure (i := 1) (v := ?_) rfl (by kernel_rfl) (by kernel_rfl) (by kernel_rfl) (fun _ _ _ h => h) (by rfl) ?_ ?_
        rotate_left
        · intro w; go_simp; try with_reducible rfl
        simp only [Act.put, rgA, rgB, rgC, rgD, rgE, rgF]
        refine wpAnyT_pure (i := 3) (v := ?_) rfl (by kernel_rfl) (by kernel_rfl) (by kernel_rfl) (fun _ _ _ h => h) (by rfl) ?_ ?_
        rotate_left
        · intro w; go_simp; try with_reducible rfl
        simp only [Act.put, rgA, rgB, rgC, rgD, rgE, rgF]
        refine wpAnyT_pure (i := 4) (v := ?_) rfl (by kernel_rfl) (by kernel_rfl) (by kernel_rfl) (fun _ _ _ h => h) (by rfl) ?_ ?_
        rotate_left
        · intro w; go_simp; try with_reducible rfl
        simp only [Act.put, rgA, rgB, rgC, rgD, rgE, rgF]
        refine wpAnyT_pure (i := 5) (v := ?_) rfl (by kernel_rfl) (by kernel_rfl) (by kernel_rfl) (fun _ _ _ h => h) (by rfl) ?_ ?_
        rotate_left
        · intro w; go_simp; try with_reducible rfl
        simp only [Act.put, rgA, rgB, rgC, rgD, rgE, rgF]
        refine wpAnyT_pure (i := 7) (v := ?_) rfl (by kernel_rfl) (by kernel_rfl) (by kernel_rfl) (fun _ _ _ h => h) (by rfl) ?_ ?_
        rotate_left
        · intro w; go_simp; try with_reducible rfl
        simp only [Act.put, rgA, rgB, rgC, rgD, rgE, rgF]
        refine wpAnyT_loadW (i := 2) (v := ?_) rfl (by kernel_rfl) (by kernel_rfl) (by kernel_rfl) (by kernel_rfl) (by kernel_rfl) (fun _ _ _ h => h) (Or.inl ⟨by rfl, ?_⟩) hSss21 ?_
        rotate_left
        · intro w hSw; obtain ⟨e0, e1, e2, e3, e4, e5, -⟩ := hSw; go_simp; try with_reducible rfl
        simp only [Act.put, rgA, rgB, rgC, rgD, rgE, rgF]
        refine wpAnyT_loadW (i := 6) (v := ?_) rfl (by kernel_rfl) (by kernel_rfl) (by kernel_rfl) (by kernel_rfl) (by kernel_rfl) (fun _ _ _ h => h) (Or.inl ⟨by rfl, ?_⟩) hSss21 ?_
        rotate_left
        · intro w hSw; obtain ⟨e0, e1, e2, e3, e4, e5, -⟩ := hSw; go_simp; try with_reducible rfl
        simp only [Act.put, rgA, rgB, rgC, rgD, rgE, rgF]
        refine wpAnyT_loadW (i := 8) (v := ?_) rfl (by kernel_rfl) (by kernel_rfl) (by kernel_rfl) (by kernel_rfl) (by kernel_rfl) (fun _ _ _ h => h) (Or.inl ⟨by rfl, ?_⟩) hSss21 ?_
        rotate_left
        · intro w hSw; obtain ⟨e0, e1, e2, e3, e4, e5, -⟩ := hSw; go_simp; try with_reducible rfl
        simp only [Act.put, rgA, rgB, rgC, rgD, rgE, rgF]
        refine wpAnyT_pure (i := 9) (v := ?_) rfl (by kernel_rfl) (by kernel_rfl) (by kernel_rfl) (fun _ _ _ h => h) (by rfl) ?_ ?_
        rotate_left
        · intro w; go_simp; try with_reducible rfl
        simp only [Act.put, rgA, rgB, rgC, rgD, rgE, rgF]
        refine wpAnyT_one (i := 10) (by kernel_rfl) rfl (by rfl) ?_
        obtain ⟨b10, hb10⟩ : ∃ b, s21.heap.size = b := ⟨_, rfl⟩
        refine wp_newrow (v := .slice (some ⟨b10, 0, none⟩) 1 1) (cs := #[.string tnm, .int .i64 en, .int .i64 kp]) (te := 27) (by rw [← hb10]; go_simp) ?_
        intro w122 hX hN10
        rw [hb10] at hN10
        have hB_s21_w122 := below_step hB_s21_s21 hX
        have hB_w122_w122 := Below.refl w122.heap.size w122
        have hSsw122 := Cells.below hB_s21_w122 hSss21
        clear hX
        refine ⟨fun _ _ => hSsw122, ?_⟩
        try simp only [Act.put, rgA, rgB, rgC, rgD, rgE, rgF]
        refine wpAnyT_one (i := 11) (by kernel_rfl) rfl (by rfl) ?_
        have hbP : Below w6.heap.size w6 w122 := hB_0_s21.trans ((hB_s21_w122).mono (hB_0_s21).size)
        have hBr : Below wr.heap.size wr w122 := HBP.out.trans (hbP.mono HBP.out.size)
        refine wp_app (.tmp 63) (.tmp 73) 39 rfl (e := keyT) (te := 27) info_rkey Tryz.underlying39 rfl (by decide) (base := w2.heap.size) (S := fun _ => False) (v := .slice oa' ol' oc') (xs := (l0 ++ ((el.take q).filter fun e => true || og || decide (e = ke)).map (fun e => (⟨tnm, e, kp⟩ : Ky))).map Ky.d) (by kernel_rfl) (HO.out.below hBr) (Nat.le_trans HBr.out.size hBr.size) (sv := .slice (some ⟨b10, 0, none⟩) 1 1) (by kernel_rfl) (ys := [Ky.d ⟨tnm, en, kp⟩]) (Src.of_cells (news := [.string tnm, .int .i64 en, .int .i64 kp]) (fun j u hu => by rw [Nat.zero_add, blk_cell hN10]; simpa using hu)) (RdL.one (e := keyT) (key_rd HKO.out)) (by have h1 := HACQ.out; rw [List.length_map]; simp only [List.length_singleton]; omega) (by have h1 := HACQ.out; rw [List.length_map]; simp only [List.length_singleton]; omega) ?_
        intro ca9 cl9 cc9 w123 O9 g9 ob9
        rw [← HTN.out] at O9
        have HO9 := Lib.hid O9
        have HB9 := Lib.hid (show Below w2.heap.size w2 w123 from (HBr.out.trans (hBr.mono HBr.out.size)).grown g9 (Nat.le_trans HBr.out.size hBr.size) (fun c hc => (HO.out.own c hc).1))
        have HSZ9 := Lib.hid (show w5.heap.size ≤ w123.heap.size from Nat.le_trans HSZ.out (Nat.le_trans hBr.size g9.size))
        have HOB9 := Lib.hid (show ∀ ob, (Value.slice ca9 cl9 cc9).ownBlock = some ob → ob < w3.heap.size ∨ w5.heap.size ≤ ob from fun ob h => by
          rcases ob9 with e | e
          · exact HOBq.out ob (e ▸ h)
          · rw [e] at h
            cases h
            exact .inr (Nat.le_trans HSZ.out hBr.size))
        have HFR9 := Lib.hid (show ∀ b, w3.heap.size ≤ b → b < w5.heap.size → w123.heap[b]? = w5.heap[b]? from fun b h1 h2 => by
          have h3 := Nat.lt_of_lt_of_le h2 HSZ.out
          refine ((g9.block b (Nat.lt_of_lt_of_le h3 hBr.size) (fun e => ?_)).trans (hBr.block b h3)).trans (HFR.out b h1 h2)
          rcases HOBq.out b e.symm with h | h <;> omega)
        clear O9 g9 ob9 hbP hBr
        refine ⟨fun h => absurd h (by decide), ?_⟩
        try simp only [Act.put, rgA, rgB, rgC, rgD, rgE, rgF]
        refine wpAnyT_pure (i := 12) (v := ?_) rfl (by kernel_rfl) (by kernel_rfl) (by kernel_rfl) (fun _ _ _ h => h) (by rfl) ?_ ?_
        rotate_left
        · intro w; go_simp; try with_reducible rfl
        simp only [Act.put, rgA, rgB, rgC, rgD, rgE, rgF]
        refine wpAnyT_done (by kernel_rfl) ?_ _
        obtain ⟨w9, rfl⟩ : ∃ x, x = w123 := ⟨_, rfl⟩
        go_wp2_with fail
        go_roundw
        case rel => exact ⟨q + 1, HLTQ.out, by go_num, HO9.out, HB9.out, HSZ9.out, HOB9.out, HFR9.out⟩
        case measure => simp [intOf]; try omega
    · obtain rfl : ll = q := by omega
      have hall : el.take ll = el := List.take_of_length_le (by rw [HLL.out]; exact Nat.le_refl _)
      rw [hall] at HO
      clear hall hlq
      go_wp2_with fail
      go_roundw
      case rel => exact ⟨j + 1, HLT.out, by go_num, by rw [HSU.out]; exact HO.out, HBr.out⟩
      case measure => simp [intOf]; try omega
  · obtain rfl : nl = j := by omega
    have hall : ond.take nl = ond := List.take_of_length_le (by rw [HNL.out]; exact Nat.le_refl _)
    rw [hall] at HO
    clear hall hlt
    have x3 := blk_cell HR5r.out 3
    have k0 := blk_cell HCBr.out 0
    have k1 := blk_cell HCBr.out 1
    have k2 := blk_cell HCBr.out 2
    simp at x3 k0 k1 k2
    have HRAW := Lib.hid (show rawNeeds ts ne ⟨kt, ke, kp⟩ = ond.flatMap (needOf ts ne (tkAt ts kt) ⟨kt, ke, kp⟩) ++ (if oa && decide (0 < kp) then [⟨kt, ke, kp - 1⟩] else []) from by
      unfold rawNeeds
      simp only [HOWN.out])
    cases oa
    · simp only [Bool.false_and, Bool.false_eq_true, if_false, List.append_nil] at HRAW
      go_wp2_with fail
      clear x3 k0 k1 k2
      have HRD := Lib.hid (rdOwn HO.out)
      rw [← HRAW.out] at HRD
      go_wp2_with fail
      go_ret
      exact ⟨_, _, _, rfl, HRD.out, below_step HBW.out HBr.out⟩
    · by_cases hkp : 0 < kp
      · simp only [Bool.true_and, decide_eq_true hkp, if_true] at HRAW
        have hwp : IntKind.i64.wrap (kp - 1) = kp - 1 := by
          have h1 := wf_pred HN.out.ok.2.2 hkp
          simp [Lit.wf, IntKind.min, IntKind.max, IntKind.signed, IntKind.bits] at h1
          rw [IntKind.wrap_i64] <;> omega
        have HKO := Lib.hid (show Ky.ok ⟨kt, ke, kp - 1⟩ from ⟨HN.out.ok.1, HN.out.ok.2.1, wf_pred HN.out.ok.2.2 hkp⟩)
        have HMAP := Lib.hid (show (ond.flatMap (needOf ts ne (tkAt ts kt) ⟨kt, ke, kp⟩) ++ [(⟨kt, ke, kp - 1⟩ : Ky)]).map Ky.d = (ond.flatMap (needOf ts ne (tkAt ts kt) ⟨kt, ke, kp⟩)).map Ky.d ++ [Ky.d ⟨kt, ke, kp - 1⟩] from by rw [List.map_append]; rfl)
        have HL12 := Lib.hid (show (ond.flatMap (needOf ts ne (tkAt ts kt) ⟨kt, ke, kp⟩)).length + 1 ≤ 1000 from by have h := HN.out.len; rw [HRAW.out, List.length_append] at h; exact h)
        go_wp2_with (at_builtin; go_must (refine wpList_app _ rfl _ _ 39 rfl (e := keyT) (te := 27) info_rkey Tryz.underlying39 rfl (by decide) (base := w2.heap.size) (S := fun _ => False) (v := .slice va vl vc) (xs := (ond.flatMap (needOf ts ne (tkAt ts kt) ⟨kt, ke, kp⟩)).map Ky.d) rfl (HO.out.alloc _) (by have := HBr.out.size; simp only [World.size_alloc]; omega) rfl (ys := [Ky.d ⟨kt, ke, kp - 1⟩]) (Src.new _ [_, _, _] _ _ _) (RdL.one (e := keyT) (key_rd HKO.out)) (by have := HL12.out; rw [List.length_map]; simp only [List.length_singleton] at *; omega) (by have := HL12.out; rw [List.length_map]; simp only [List.length_singleton] at *; omega) ?_; intro v' w6 O6 g6 _ ob6; have HG6 := Lib.hid ((HBr.out.alloc HBr.out.size _).grown g6 (by have := HBr.out.size; simp only [World.size_alloc]; omega) (fun c hc => (HO.out.own c hc).1)); rw [← HMAP.out] at O6; obtain ⟨da, dl, dc, rfl, -⟩ := O6.slice; have HO6 := Lib.hid O6; clear O6 g6 ob6))
        clear x3 k0 k1 k2
        have HRD := Lib.hid (rdOwn HO6.out)
        rw [← HRAW.out] at HRD
        go_wp2_with fail
        go_ret
        exact ⟨_, _, _, rfl, HRD.out, below_step HBW.out HG6.out⟩
      · simp only [Bool.true_and, decide_eq_false hkp, Bool.false_eq_true, if_false, List.append_nil] at HRAW
        go_wp2_with fail
        clear x3 k0 k1 k2
        have HRD := Lib.hid (rdOwn HO.out)
        rw [← HRAW.out] at HRD
        go_wp2_with fail
        go_ret
        exact ⟨_, _, _, rfl, HRD.out, below_step HBW.out HBr.out⟩
end Go.Proofs.YtdcjocldggmdbaaGreat
