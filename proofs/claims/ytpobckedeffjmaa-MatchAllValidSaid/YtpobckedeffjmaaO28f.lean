/- Layer 28: the reference's side. -/
import Derived.Test.YtpobckedeffjmaaO28e
set_option linter.unusedSimpArgs false
set_option maxRecDepth 50000
namespace Go.Proofs.Ytpobckedeffjmaa
open Go.RowKit Go

/-- What stands behind Find in a round of 'side'. -/
structure SF (fi : Option (Int × Int)) (wr w' : World) (bE bL : Nat) (ok : Bool) (en pa : Int) : Prop where
  m : match fi with
    | none => ok = false
    | some (u, v) => ok = true ∧ en = u ∧ pa = v
  e : w'.cell? ⟨bE, 1, none⟩ = some (.int .i64 en)
  l : w'.cell? ⟨bL, 2, none⟩ = some (.int .i64 pa)
  b : Below wr.heap.size wr w'
theorem sideP_none {es : List En} {l : List R2} (h : entS es l = none ∨ ¬ l.Nodup) : sideP es l = none := by
  unfold sideP entP
  split
  · split
    · rcases h with h | h
      · exact h
      · contradiction
    · rfl
  · rfl
set_option maxHeartbeats 8000000 in
theorem side28 {S S2 : Nat → Prop} (w : World) (bs : Array Value) (es : List En) (ms : List M4) (h : Bk S w bs es ms) (hS : ∀ b, S b → b < w.heap.size) (h40 : es.length ≤ 40) (h8 : ∀ e ∈ es, e.ln.length ≤ 8)
    (a : Option Addr) (c : Nat) (l : List R2) (hl : Rd (.sl refT) S2 w [.slice a l.length c] (l.map R2.d)) (hS2 : ∀ b, S2 b → b < w.heap.size) :
    Calls Try.prog 38 #[.agg bs, .slice a l.length c] w fun e w' => EntP (sideP es l) e ∧ Below w.heap.size w w' := by
  have H := Lib.hid h
  have HS := Lib.hid hS
  have H8 := Lib.hid h8
  have HL := Lib.hid hl
  have HS2 := Lib.hid hS2
  have HSZ := Lib.hid h.sz
  have hlm : l.length ≤ 9223372036854775807 := Nat.le_trans ((rd_len hl) ▸ hl.sl_flat.2.1) hl.sl_flat.2.2.1
  have HCAP := Lib.hid (show l.length ≤ c from hl.sl_flat.2.1)
  obtain ⟨fo, hfo⟩ : ∃ q, sideP es l = q := ⟨_, rfl⟩
  rw [hfo]
  have HFO := Lib.hid hfo
  have hrow0 := heap_alloc_new w (.cells bs 65)
  have HBX := Lib.hid ((Below.refl w.heap.size w).alloc (Nat.le_refl _) (.cells bs 65))
  have HR0 := Lib.hid hrow0
  clear h hS h8 hl hS2 hfo hrow0
  go_enter Try.func38, Try.ntmps38
  go_wp2_with fail
  generalize World.alloc w (.cells bs 65) = w0 at *
  obtain ⟨n, hn⟩ : ∃ q, w.heap.size = q := ⟨_, rfl⟩
  rw [hn] at HR0
  have HN := Lib.hid hn
  simp only [hn]
  clear hn
  go_loopw [7, 8, 9] (fun v1 v2 iv wr => ∃ (i : Nat) (x y : Int), i ≤ l.length ∧ iv = .int .i64 (i : Int) ∧ v1 = .int .i64 x ∧ v2 = .int .i64 y ∧ entS es (l.take i) = some (x, y) ∧ (l.take i).Nodup ∧ Below w.heap.size w wr ∧ wr.heap[n]? = some (.cells bs 65 (0, 0))) (fun _ _ iv _ => l.length - (intOf iv).toNat)
  case atStart => exact ⟨0, 0, 0, Nat.zero_le _, rfl, rfl, rfl, rfl, by simp, HBX.out, HR0.out⟩
  case round =>
    obtain ⟨i, x, y, hi, rfl, rfl, rfl, hst, hnd, hBW, hrw⟩ := hrel
    have HST := Lib.hid hst
    have HND := Lib.hid hnd
    have HBW := Lib.hid hBW
    by_cases hil : i < l.length
    · have hiI : (i : Int) < (l.length : Int) := by omega
      obtain ⟨b, off, rfl, -, m0, m1, hok⟩ := ref_at (HL.out.below hBW HS2.out) i hil
      have HTN := Lib.hid (List.take_succ_eq_append_getElem hil)
      have HTK := Lib.hid (show entS es (l.take (i + 1)) = match findM es l[i] with | none => none | some q => if i = 0 ∨ q = (x, y) then some q else none from by
        rw [List.take_succ_eq_append_getElem hil, entS_snoc, hst]
        simp only
        cases findM es l[i] with
        | none => rfl
        | some q =>
          simp only
          have : (l.take i = []) ↔ i = 0 := by
            rw [List.take_eq_nil_iff]
            constructor
            · rintro (h | h)
              · exact h
              · rw [h] at hil; simp at hil
            · exact .inl
          simp only [this])
      have HIL := Lib.hid hil
      generalize l[i] = r at m0 m1 hok HTK HTN
      obtain ⟨re, rl⟩ := r
      simp only at m0 m1
      have HOK := Lib.hid hok
      have HM01 := Lib.hid (And.intro m0 m1)
      have HROW := Lib.hid (show wr.heap[n]? = some (.cells bs 65 (0, 0)) from hrw)
      have hC0 : CellsR n bs [(⟨b, off + i * 2, none⟩, .int .i64 re), (⟨b, off + i * 2 + 1, none⟩, .int .i64 rl)] wr := ⟨⟨m0, m1, trivial⟩, HROW.out⟩
      obtain ⟨fi, hfi⟩ : ∃ q, findM es ⟨re, rl⟩ = q := ⟨_, rfl⟩
      rw [hfi] at HTK
      have HFI := Lib.hid hfi
      clear hok hst hil hi hfi hnd hBW m0 m1 hrw
      go_wp2_with fail
      refine wp_cut [19, 20, 21, 22, 23, 24, 25, 26, 27, 28, 10, 11, 12] (fun vs w' => ∃ v19 v20 v21 v22 v23 v24 v25 v26 v27 v28 bE bL ok en pa, vs = [v19, v20, v21, v22, v23, v24, v25, v26, v27, v28, .pointer (some ⟨bE, 0, none⟩), .pointer (some ⟨bL, 0, none⟩), .bool ok] ∧ SF fi wr w' bE bL ok en pa) ?_ ?_
      · skip
        refine wp_region_T (CellsR n bs [(⟨b, off + i * 2, none⟩, .int .i64 re), (⟨b, off + i * 2 + 1, none⟩, .int .i64 rl)]) (fun i => i == 12 || i == 13) (by kernel_rfl) ?_
        have hSss1 := CellsR.drew hC0
        have hB_0_s1 : Below wr.heap.size wr wr.drew := below_drew _
        generalize wr.drew = s1 at hSss1 hB_0_s1 ⊢
        have hB_s1_s1 := Below.refl s1.heap.size s1
        refine wpAnyT_pure (i := 1) (v := ?_) rfl (by kernel_rfl) (by kernel_rfl) (by kernel_rfl) (fun _ _ _ h => h) (by rfl) ?_ ?_
        rotate_left
        · intro w; go_simp; try with_reducible rfl
        simp only [Act.put, rgA, rgB, rgC, rgD, rgE, rgF]
        refine wpAnyT_pure (i := 2) (v := ?_) rfl (by kernel_rfl) (by kernel_rfl) (by kernel_rfl) (fun _ _ _ h => h) (by rfl) ?_ ?_
        rotate_left
        · intro w; go_simp; try with_reducible rfl
        simp only [Act.put, rgA, rgB, rgC, rgD, rgE, rgF]
        refine wpAnyT_pure (i := 3) (v := ?_) rfl (by kernel_rfl) (by kernel_rfl) (by kernel_rfl) (fun _ _ _ h => h) (by rfl) ?_ ?_
        rotate_left
        · intro w; go_simp; try with_reducible rfl
        simp only [Act.put, rgA, rgB, rgC, rgD, rgE, rgF]
        refine wpAnyT_loadW (i := 4) (v := ?_) rfl (by kernel_rfl) (by kernel_rfl) (by kernel_rfl) (by kernel_rfl) (by kernel_rfl) (fun _ _ _ h => h) (Or.inl ⟨by rfl, ?_⟩) hSss1 ?_
        rotate_left
        · intro w hSw; obtain ⟨⟨e0, e1, -⟩, hrw⟩ := hSw; go_simp; try with_reducible rfl
        simp only [Act.put, rgA, rgB, rgC, rgD, rgE, rgF]
        refine wpAnyT_loadW (i := 0) (v := (.agg bs)) rfl (by kernel_rfl) (by kernel_rfl) (by kernel_rfl) (by kernel_rfl) (by kernel_rfl) (fun _ _ _ h => h) (Or.inl ⟨by rfl, ?_⟩) hSss1 ?_
        · intro w hSw; exact exec_load_row 65 (.tmp 2) rfl n (by kernel_rfl) 65 bs (0, 0) _ hSw.2 Try.underlying65 rfl (by rw [HSZ.out]; kernel_rfl)
        simp only [Act.put, rgA, rgB, rgC, rgD, rgE, rgF]
        refine wpAnyT_three (i := 5) (k := 10) (m := 11) (by kernel_rfl) rfl rfl rfl (by rfl) (by rfl) (by rfl) ?_ ?_ ?_
        · skip
          have hbP := below_step HBW.out (hB_0_s1.trans ((hB_s1_s1).mono hB_0_s1.size))
          refine wp_enter (f := 48) (args := #[.agg bs, .agg #[.int .i64 re, .int .i64 rl]]) (by go_simp) (rfind28 (S := S) s1 bs es ms (H.out.below hbP HS.out) (fun b hb => Nat.lt_of_lt_of_le (HS.out b hb) hbP.size) h40 H8.out ⟨re, rl⟩ HOK.out) ?_
          rw [HFI.out]
          rintro e w102 ⟨⟨i0, en, dt, kd, of', tx, la, ll, lc, ac, am, pa, ok, rfl, hm⟩, hX⟩
          have HM := Lib.hid hm
          clear hbP hm
          have hB_s1_w102 := below_step hB_s1_s1 hX
          have hB_w102_w102 := Below.refl w102.heap.size w102
          have hSsw102 := CellsR.below hB_s1_w102 hSss1
          clear hX
          refine ⟨_, rfl, fun _ _ => hSsw102, ?_⟩
          try simp only [Act.put, rgA, rgB, rgC, rgD, rgE, rgF]
          refine wpAnyT_pure (i := 6) (v := ?_) rfl (by kernel_rfl) (by kernel_rfl) (by kernel_rfl) (fun _ _ _ h => h) (by rfl) ?_ ?_
          rotate_left
          · intro w; go_simp; try with_reducible rfl
          simp only [Act.put, rgA, rgB, rgC, rgD, rgE, rgF]
          refine wpAnyT_pure (i := 7) (v := ?_) rfl (by kernel_rfl) (by kernel_rfl) (by kernel_rfl) (fun _ _ _ h => h) (by rfl) ?_ ?_
          rotate_left
          · intro w; go_simp; try with_reducible rfl
          simp only [Act.put, rgA, rgB, rgC, rgD, rgE, rgF]
          refine wpAnyT_pure (i := 8) (v := ?_) rfl (by kernel_rfl) (by kernel_rfl) (by kernel_rfl) (fun _ _ _ h => h) (by rfl) ?_ ?_
          rotate_left
          · intro w; go_simp; try with_reducible rfl
          simp only [Act.put, rgA, rgB, rgC, rgD, rgE, rgF]
          refine wpAnyT_pure (i := 9) (v := ?_) rfl (by kernel_rfl) (by kernel_rfl) (by kernel_rfl) (fun _ _ _ h => h) (by rfl) ?_ ?_
          rotate_left
          · intro w; go_simp; try with_reducible rfl
          simp only [Act.put, rgA, rgB, rgC, rgD, rgE, rgF]
          refine wpAnyT_two (i := 10) (k := 11) (by kernel_rfl) rfl rfl (by rfl) (by rfl) ?_ ?_
          · skip
            obtain ⟨b10, hb10⟩ : ∃ b, w102.heap.size = b := ⟨_, rfl⟩
            have hge10 : wr.heap.size ≤ b10 := hb10 ▸ Nat.le_trans (hB_0_s1).size (hB_s1_w102).size
            refine wp_newrow (v := .pointer (some ⟨b10, 0, none⟩)) (cs := en0) (te := 93) (by rw [← hb10]; go_simp) ?_
            intro w103 hX hN10
            rw [hb10] at hN10
            have hB_s1_w103 := below_step hB_s1_w102 hX
            have hB_w102_w103 := below_step hB_w102_w102 hX
            have hB_w103_w103 := Below.refl w103.heap.size w103
            have hSsw103 := CellsR.below hB_s1_w103 hSss1
            clear hX
            refine ⟨fun _ _ => hSsw103, ?_⟩
            try simp only [Act.put, rgA, rgB, rgC, rgD, rgE, rgF]
            refine wpAnyT_one (i := 11) (by kernel_rfl) rfl (by rfl) ?_
            obtain ⟨b11, hb11⟩ : ∃ b, w103.heap.size = b := ⟨_, rfl⟩
            have hge11 : wr.heap.size ≤ b11 := hb11 ▸ Nat.le_trans (hB_0_s1).size (hB_s1_w103).size
            refine wp_newrow (v := .pointer (some ⟨b11, 0, none⟩)) (cs := ln0) (te := 110) (by rw [← hb11]; go_simp) ?_
            intro w104 hX hN11
            rw [hb11] at hN11
            have hB_s1_w104 := below_step hB_s1_w103 hX
            have hB_w102_w104 := below_step hB_w102_w103 hX
            have hB_w103_w104 := below_step hB_w103_w103 hX
            have hB_w104_w104 := Below.refl w104.heap.size w104
            have hSsw104 := CellsR.below hB_s1_w104 hSss1
            clear hX
            refine ⟨fun _ _ => hSsw104, ?_⟩
            try simp only [Act.put, rgA, rgB, rgC, rgD, rgE, rgF]
            refine wpAnyT_one (i := 12) (by kernel_rfl) rfl (by rfl) ?_
            have hq10 := ((hB_w103_w104).block _ (blk_lt hN10)).trans hN10
            have hq11 := ((hB_w104_w104).block _ (blk_lt hN11)).trans hN11
            have hne : b10 ≠ b11 := fun e => by subst e; rw [hq10] at hq11; simp at hq11
            have hbP : Below wr.heap.size wr w104 := hB_0_s1.trans ((hB_s1_w104).mono hB_0_s1.size)
            have hr11 := (setRow_other w104 b10 b11 #[.int .i64 i0, .int .i64 en, .int .i64 dt, .int .i64 kd, .int .i64 of', .string tx, .slice la ll lc] (fun e => hne e.symm)).trans hq11
            have hr10 := setRow_heap w104 b10 _ #[.int .i64 i0, .int .i64 en, .int .i64 dt, .int .i64 kd, .int .i64 of', .string tx, .slice la ll lc] _ _ hq10
            have hbN := below_setRow hbP hge10 #[.int .i64 i0, .int .i64 en, .int .i64 dt, .int .i64 kd, .int .i64 of', .string tx, .slice la ll lc]
            refine wp_store_row 93 (.tmp 10) (.tmp 26) rfl b10 #[.int .i64 i0, .int .i64 en, .int .i64 dt, .int .i64 kd, .int .i64 of', .string tx, .slice la ll lc] (by kernel_rfl) (by kernel_rfl) 93 _ hq10 (by kernel_rfl) (by rfl) (by kernel_rfl) ?_
            generalize (w104).setRow b10 #[.int .i64 i0, .int .i64 en, .int .i64 dt, .int .i64 kd, .int .i64 of', .string tx, .slice la ll lc] = w105 at hr11 hr10 hbN ⊢
            clear hq10 hq11 hbP
            refine ⟨fun h => absurd h (by decide), ?_⟩
            try simp only [Act.put, rgA, rgB, rgC, rgD, rgE, rgF]
            refine wpAnyT_one (i := 13) (by kernel_rfl) rfl (by rfl) ?_
            have hs11 := setRow_heap w105 b11 _ #[.int .i64 ac, .int .i64 am, .int .i64 pa] _ _ hr11
            have hs10 := (setRow_other w105 b11 b10 #[.int .i64 ac, .int .i64 am, .int .i64 pa] hne).trans hr10
            have hbM := below_setRow hbN hge11 #[.int .i64 ac, .int .i64 am, .int .i64 pa]
            refine wp_store_row 110 (.tmp 11) (.tmp 27) rfl b11 #[.int .i64 ac, .int .i64 am, .int .i64 pa] (by kernel_rfl) (by kernel_rfl) 110 _ hr11 (by kernel_rfl) (by rfl) (by kernel_rfl) ?_
            generalize (w105).setRow b11 #[.int .i64 ac, .int .i64 am, .int .i64 pa] = w106 at hs11 hs10 hbM ⊢
            clear hr11 hr10 hbN
            refine ⟨fun h => absurd h (by decide), ?_⟩
            try simp only [Act.put, rgA, rgB, rgC, rgD, rgE, rgF]
            refine wpAnyT_pure (i := 14) (v := ?_) rfl (by kernel_rfl) (by kernel_rfl) (by kernel_rfl) (fun _ _ _ h => h) (by rfl) ?_ ?_
            rotate_left
            · intro w; go_simp; try with_reducible rfl
            simp only [Act.put, rgA, rgB, rgC, rgD, rgE, rgF]
            refine wpAnyT_done (by kernel_rfl) ?_ _
            have HSF := Lib.hid (show SF fi wr w106 b10 b11 ok en pa from ⟨HM.out, blk_cell hs10 1, blk_cell hs11 2, hbM⟩)
            clear hs10 hs11 hbM hne
            refine cut_leaf ?_ ?_
            focus kernel_rfl
            exact ⟨_, _, _, _, _, _, _, _, _, _, b10, b11, ok, en, pa, rfl, HSF.out⟩
          · skip
            obtain ⟨b11, hb11⟩ : ∃ b, w102.heap.size = b := ⟨_, rfl⟩
            have hge11 : wr.heap.size ≤ b11 := hb11 ▸ Nat.le_trans (hB_0_s1).size (hB_s1_w102).size
            refine wp_newrow (v := .pointer (some ⟨b11, 0, none⟩)) (cs := ln0) (te := 110) (by rw [← hb11]; go_simp) ?_
            intro w107 hX hN11
            rw [hb11] at hN11
            have hB_s1_w107 := below_step hB_s1_w102 hX
            have hB_w102_w107 := below_step hB_w102_w102 hX
            have hB_w107_w107 := Below.refl w107.heap.size w107
            have hSsw107 := CellsR.below hB_s1_w107 hSss1
            clear hX
            refine ⟨fun _ _ => hSsw107, ?_⟩
            try simp only [Act.put, rgA, rgB, rgC, rgD, rgE, rgF]
            refine wpAnyT_one (i := 10) (by kernel_rfl) rfl (by rfl) ?_
            obtain ⟨b10, hb10⟩ : ∃ b, w107.heap.size = b := ⟨_, rfl⟩
            have hge10 : wr.heap.size ≤ b10 := hb10 ▸ Nat.le_trans (hB_0_s1).size (hB_s1_w107).size
            refine wp_newrow (v := .pointer (some ⟨b10, 0, none⟩)) (cs := en0) (te := 93) (by rw [← hb10]; go_simp) ?_
            intro w108 hX hN10
            rw [hb10] at hN10
            have hB_s1_w108 := below_step hB_s1_w107 hX
            have hB_w102_w108 := below_step hB_w102_w107 hX
            have hB_w107_w108 := below_step hB_w107_w107 hX
            have hB_w108_w108 := Below.refl w108.heap.size w108
            have hSsw108 := CellsR.below hB_s1_w108 hSss1
            clear hX
            refine ⟨fun _ _ => hSsw108, ?_⟩
            try simp only [Act.put, rgA, rgB, rgC, rgD, rgE, rgF]
            refine wpAnyT_one (i := 12) (by kernel_rfl) rfl (by rfl) ?_
            have hq10 := ((hB_w108_w108).block _ (blk_lt hN10)).trans hN10
            have hq11 := ((hB_w107_w108).block _ (blk_lt hN11)).trans hN11
            have hne : b10 ≠ b11 := fun e => by subst e; rw [hq10] at hq11; simp at hq11
            have hbP : Below wr.heap.size wr w108 := hB_0_s1.trans ((hB_s1_w108).mono hB_0_s1.size)
            have hr11 := (setRow_other w108 b10 b11 #[.int .i64 i0, .int .i64 en, .int .i64 dt, .int .i64 kd, .int .i64 of', .string tx, .slice la ll lc] (fun e => hne e.symm)).trans hq11
            have hr10 := setRow_heap w108 b10 _ #[.int .i64 i0, .int .i64 en, .int .i64 dt, .int .i64 kd, .int .i64 of', .string tx, .slice la ll lc] _ _ hq10
            have hbN := below_setRow hbP hge10 #[.int .i64 i0, .int .i64 en, .int .i64 dt, .int .i64 kd, .int .i64 of', .string tx, .slice la ll lc]
            refine wp_store_row 93 (.tmp 10) (.tmp 26) rfl b10 #[.int .i64 i0, .int .i64 en, .int .i64 dt, .int .i64 kd, .int .i64 of', .string tx, .slice la ll lc] (by kernel_rfl) (by kernel_rfl) 93 _ hq10 (by kernel_rfl) (by rfl) (by kernel_rfl) ?_
            generalize (w108).setRow b10 #[.int .i64 i0, .int .i64 en, .int .i64 dt, .int .i64 kd, .int .i64 of', .string tx, .slice la ll lc] = w109 at hr11 hr10 hbN ⊢
            clear hq10 hq11 hbP
            refine ⟨fun h => absurd h (by decide), ?_⟩
            try simp only [Act.put, rgA, rgB, rgC, rgD, rgE, rgF]
            refine wpAnyT_one (i := 13) (by kernel_rfl) rfl (by rfl) ?_
            have hs11 := setRow_heap w109 b11 _ #[.int .i64 ac, .int .i64 am, .int .i64 pa] _ _ hr11
            have hs10 := (setRow_other w109 b11 b10 #[.int .i64 ac, .int .i64 am, .int .i64 pa] hne).trans hr10
            have hbM := below_setRow hbN hge11 #[.int .i64 ac, .int .i64 am, .int .i64 pa]
            refine wp_store_row 110 (.tmp 11) (.tmp 27) rfl b11 #[.int .i64 ac, .int .i64 am, .int .i64 pa] (by kernel_rfl) (by kernel_rfl) 110 _ hr11 (by kernel_rfl) (by rfl) (by kernel_rfl) ?_
            generalize (w109).setRow b11 #[.int .i64 ac, .int .i64 am, .int .i64 pa] = w110 at hs11 hs10 hbM ⊢
            clear hr11 hr10 hbN
            refine ⟨fun h => absurd h (by decide), ?_⟩
            try simp only [Act.put, rgA, rgB, rgC, rgD, rgE, rgF]
            refine wpAnyT_pure (i := 14) (v := ?_) rfl (by kernel_rfl) (by kernel_rfl) (by kernel_rfl) (fun _ _ _ h => h) (by rfl) ?_ ?_
            rotate_left
            · intro w; go_simp; try with_reducible rfl
            simp only [Act.put, rgA, rgB, rgC, rgD, rgE, rgF]
            refine wpAnyT_done (by kernel_rfl) ?_ _
            have HSF := Lib.hid (show SF fi wr w110 b10 b11 ok en pa from ⟨HM.out, blk_cell hs10 1, blk_cell hs11 2, hbM⟩)
            clear hs10 hs11 hbM hne
            refine cut_leaf ?_ ?_
            focus kernel_rfl
            exact ⟨_, _, _, _, _, _, _, _, _, _, b10, b11, ok, en, pa, rfl, HSF.out⟩
        · skip
          obtain ⟨b10, hb10⟩ : ∃ b, s1.heap.size = b := ⟨_, rfl⟩
          have hge10 : wr.heap.size ≤ b10 := hb10 ▸ Nat.le_trans (hB_0_s1).size (hB_s1_s1).size
          refine wp_newrow (v := .pointer (some ⟨b10, 0, none⟩)) (cs := en0) (te := 93) (by rw [← hb10]; go_simp) ?_
          intro w111 hX hN10
          rw [hb10] at hN10
          have hB_s1_w111 := below_step hB_s1_s1 hX
          have hB_w111_w111 := Below.refl w111.heap.size w111
          have hSsw111 := CellsR.below hB_s1_w111 hSss1
          clear hX
          refine ⟨fun _ _ => hSsw111, ?_⟩
          try simp only [Act.put, rgA, rgB, rgC, rgD, rgE, rgF]
          refine wpAnyT_two (i := 5) (k := 11) (by kernel_rfl) rfl rfl (by rfl) (by rfl) ?_ ?_
          · skip
            have hbP := below_step HBW.out (hB_0_s1.trans ((hB_s1_w111).mono hB_0_s1.size))
            refine wp_enter (f := 48) (args := #[.agg bs, .agg #[.int .i64 re, .int .i64 rl]]) (by go_simp) (rfind28 (S := S) w111 bs es ms (H.out.below hbP HS.out) (fun b hb => Nat.lt_of_lt_of_le (HS.out b hb) hbP.size) h40 H8.out ⟨re, rl⟩ HOK.out) ?_
            rw [HFI.out]
            rintro e w112 ⟨⟨i0, en, dt, kd, of', tx, la, ll, lc, ac, am, pa, ok, rfl, hm⟩, hX⟩
            have HM := Lib.hid hm
            clear hbP hm
            have hB_s1_w112 := below_step hB_s1_w111 hX
            have hB_w111_w112 := below_step hB_w111_w111 hX
            have hB_w112_w112 := Below.refl w112.heap.size w112
            have hSsw112 := CellsR.below hB_s1_w112 hSss1
            clear hX
            refine ⟨_, rfl, fun _ _ => hSsw112, ?_⟩
            try simp only [Act.put, rgA, rgB, rgC, rgD, rgE, rgF]
            refine wpAnyT_pure (i := 6) (v := ?_) rfl (by kernel_rfl) (by kernel_rfl) (by kernel_rfl) (fun _ _ _ h => h) (by rfl) ?_ ?_
            rotate_left
            · intro w; go_simp; try with_reducible rfl
            simp only [Act.put, rgA, rgB, rgC, rgD, rgE, rgF]
            refine wpAnyT_pure (i := 7) (v := ?_) rfl (by kernel_rfl) (by kernel_rfl) (by kernel_rfl) (fun _ _ _ h => h) (by rfl) ?_ ?_
            rotate_left
            · intro w; go_simp; try with_reducible rfl
            simp only [Act.put, rgA, rgB, rgC, rgD, rgE, rgF]
            refine wpAnyT_pure (i := 8) (v := ?_) rfl (by kernel_rfl) (by kernel_rfl) (by kernel_rfl) (fun _ _ _ h => h) (by rfl) ?_ ?_
            rotate_left
            · intro w; go_simp; try with_reducible rfl
            simp only [Act.put, rgA, rgB, rgC, rgD, rgE, rgF]
            refine wpAnyT_pure (i := 9) (v := ?_) rfl (by kernel_rfl) (by kernel_rfl) (by kernel_rfl) (fun _ _ _ h => h) (by rfl) ?_ ?_
            rotate_left
            · intro w; go_simp; try with_reducible rfl
            simp only [Act.put, rgA, rgB, rgC, rgD, rgE, rgF]
            refine wpAnyT_one (i := 11) (by kernel_rfl) rfl (by rfl) ?_
            obtain ⟨b11, hb11⟩ : ∃ b, w112.heap.size = b := ⟨_, rfl⟩
            have hge11 : wr.heap.size ≤ b11 := hb11 ▸ Nat.le_trans (hB_0_s1).size (hB_s1_w112).size
            refine wp_newrow (v := .pointer (some ⟨b11, 0, none⟩)) (cs := ln0) (te := 110) (by rw [← hb11]; go_simp) ?_
            intro w113 hX hN11
            rw [hb11] at hN11
            have hB_s1_w113 := below_step hB_s1_w112 hX
            have hB_w111_w113 := below_step hB_w111_w112 hX
            have hB_w112_w113 := below_step hB_w112_w112 hX
            have hB_w113_w113 := Below.refl w113.heap.size w113
            have hSsw113 := CellsR.below hB_s1_w113 hSss1
            clear hX
            refine ⟨fun _ _ => hSsw113, ?_⟩
            try simp only [Act.put, rgA, rgB, rgC, rgD, rgE, rgF]
            refine wpAnyT_one (i := 12) (by kernel_rfl) rfl (by rfl) ?_
            have hq10 := ((hB_w111_w113).block _ (blk_lt hN10)).trans hN10
            have hq11 := ((hB_w113_w113).block _ (blk_lt hN11)).trans hN11
            have hne : b10 ≠ b11 := fun e => by subst e; rw [hq10] at hq11; simp at hq11
            have hbP : Below wr.heap.size wr w113 := hB_0_s1.trans ((hB_s1_w113).mono hB_0_s1.size)
            have hr11 := (setRow_other w113 b10 b11 #[.int .i64 i0, .int .i64 en, .int .i64 dt, .int .i64 kd, .int .i64 of', .string tx, .slice la ll lc] (fun e => hne e.symm)).trans hq11
            have hr10 := setRow_heap w113 b10 _ #[.int .i64 i0, .int .i64 en, .int .i64 dt, .int .i64 kd, .int .i64 of', .string tx, .slice la ll lc] _ _ hq10
            have hbN := below_setRow hbP hge10 #[.int .i64 i0, .int .i64 en, .int .i64 dt, .int .i64 kd, .int .i64 of', .string tx, .slice la ll lc]
            refine wp_store_row 93 (.tmp 10) (.tmp 26) rfl b10 #[.int .i64 i0, .int .i64 en, .int .i64 dt, .int .i64 kd, .int .i64 of', .string tx, .slice la ll lc] (by kernel_rfl) (by kernel_rfl) 93 _ hq10 (by kernel_rfl) (by rfl) (by kernel_rfl) ?_
            generalize (w113).setRow b10 #[.int .i64 i0, .int .i64 en, .int .i64 dt, .int .i64 kd, .int .i64 of', .string tx, .slice la ll lc] = w114 at hr11 hr10 hbN ⊢
            clear hq10 hq11 hbP
            refine ⟨fun h => absurd h (by decide), ?_⟩
            try simp only [Act.put, rgA, rgB, rgC, rgD, rgE, rgF]
            refine wpAnyT_one (i := 13) (by kernel_rfl) rfl (by rfl) ?_
            have hs11 := setRow_heap w114 b11 _ #[.int .i64 ac, .int .i64 am, .int .i64 pa] _ _ hr11
            have hs10 := (setRow_other w114 b11 b10 #[.int .i64 ac, .int .i64 am, .int .i64 pa] hne).trans hr10
            have hbM := below_setRow hbN hge11 #[.int .i64 ac, .int .i64 am, .int .i64 pa]
            refine wp_store_row 110 (.tmp 11) (.tmp 27) rfl b11 #[.int .i64 ac, .int .i64 am, .int .i64 pa] (by kernel_rfl) (by kernel_rfl) 110 _ hr11 (by kernel_rfl) (by rfl) (by kernel_rfl) ?_
            generalize (w114).setRow b11 #[.int .i64 ac, .int .i64 am, .int .i64 pa] = w115 at hs11 hs10 hbM ⊢
            clear hr11 hr10 hbN
            refine ⟨fun h => absurd h (by decide), ?_⟩
            try simp only [Act.put, rgA, rgB, rgC, rgD, rgE, rgF]
            refine wpAnyT_pure (i := 14) (v := ?_) rfl (by kernel_rfl) (by kernel_rfl) (by kernel_rfl) (fun _ _ _ h => h) (by rfl) ?_ ?_
            rotate_left
            · intro w; go_simp; try with_reducible rfl
            simp only [Act.put, rgA, rgB, rgC, rgD, rgE, rgF]
            refine wpAnyT_done (by kernel_rfl) ?_ _
            have HSF := Lib.hid (show SF fi wr w115 b10 b11 ok en pa from ⟨HM.out, blk_cell hs10 1, blk_cell hs11 2, hbM⟩)
            clear hs10 hs11 hbM hne
            refine cut_leaf ?_ ?_
            focus kernel_rfl
            exact ⟨_, _, _, _, _, _, _, _, _, _, b10, b11, ok, en, pa, rfl, HSF.out⟩
          · skip
            obtain ⟨b11, hb11⟩ : ∃ b, w111.heap.size = b := ⟨_, rfl⟩
            have hge11 : wr.heap.size ≤ b11 := hb11 ▸ Nat.le_trans (hB_0_s1).size (hB_s1_w111).size
            refine wp_newrow (v := .pointer (some ⟨b11, 0, none⟩)) (cs := ln0) (te := 110) (by rw [← hb11]; go_simp) ?_
            intro w116 hX hN11
            rw [hb11] at hN11
            have hB_s1_w116 := below_step hB_s1_w111 hX
            have hB_w111_w116 := below_step hB_w111_w111 hX
            have hB_w116_w116 := Below.refl w116.heap.size w116
            have hSsw116 := CellsR.below hB_s1_w116 hSss1
            clear hX
            refine ⟨fun _ _ => hSsw116, ?_⟩
            try simp only [Act.put, rgA, rgB, rgC, rgD, rgE, rgF]
            refine wpAnyT_one (i := 5) (by kernel_rfl) rfl (by rfl) ?_
            have hbP := below_step HBW.out (hB_0_s1.trans ((hB_s1_w116).mono hB_0_s1.size))
            refine wp_enter (f := 48) (args := #[.agg bs, .agg #[.int .i64 re, .int .i64 rl]]) (by go_simp) (rfind28 (S := S) w116 bs es ms (H.out.below hbP HS.out) (fun b hb => Nat.lt_of_lt_of_le (HS.out b hb) hbP.size) h40 H8.out ⟨re, rl⟩ HOK.out) ?_
            rw [HFI.out]
            rintro e w117 ⟨⟨i0, en, dt, kd, of', tx, la, ll, lc, ac, am, pa, ok, rfl, hm⟩, hX⟩
            have HM := Lib.hid hm
            clear hbP hm
            have hB_s1_w117 := below_step hB_s1_w116 hX
            have hB_w111_w117 := below_step hB_w111_w116 hX
            have hB_w116_w117 := below_step hB_w116_w116 hX
            have hB_w117_w117 := Below.refl w117.heap.size w117
            have hSsw117 := CellsR.below hB_s1_w117 hSss1
            clear hX
            refine ⟨_, rfl, fun _ _ => hSsw117, ?_⟩
            try simp only [Act.put, rgA, rgB, rgC, rgD, rgE, rgF]
            refine wpAnyT_pure (i := 6) (v := ?_) rfl (by kernel_rfl) (by kernel_rfl) (by kernel_rfl) (fun _ _ _ h => h) (by rfl) ?_ ?_
            rotate_left
            · intro w; go_simp; try with_reducible rfl
            simp only [Act.put, rgA, rgB, rgC, rgD, rgE, rgF]
            refine wpAnyT_pure (i := 7) (v := ?_) rfl (by kernel_rfl) (by kernel_rfl) (by kernel_rfl) (fun _ _ _ h => h) (by rfl) ?_ ?_
            rotate_left
            · intro w; go_simp; try with_reducible rfl
            simp only [Act.put, rgA, rgB, rgC, rgD, rgE, rgF]
            refine wpAnyT_pure (i := 8) (v := ?_) rfl (by kernel_rfl) (by kernel_rfl) (by kernel_rfl) (fun _ _ _ h => h) (by rfl) ?_ ?_
            rotate_left
            · intro w; go_simp; try with_reducible rfl
            simp only [Act.put, rgA, rgB, rgC, rgD, rgE, rgF]
            refine wpAnyT_pure (i := 9) (v := ?_) rfl (by kernel_rfl) (by kernel_rfl) (by kernel_rfl) (fun _ _ _ h => h) (by rfl) ?_ ?_
            rotate_left
            · intro w; go_simp; try with_reducible rfl
            simp only [Act.put, rgA, rgB, rgC, rgD, rgE, rgF]
            refine wpAnyT_one (i := 12) (by kernel_rfl) rfl (by rfl) ?_
            have hq10 := ((hB_w111_w117).block _ (blk_lt hN10)).trans hN10
            have hq11 := ((hB_w116_w117).block _ (blk_lt hN11)).trans hN11
            have hne : b10 ≠ b11 := fun e => by subst e; rw [hq10] at hq11; simp at hq11
            have hbP : Below wr.heap.size wr w117 := hB_0_s1.trans ((hB_s1_w117).mono hB_0_s1.size)
            have hr11 := (setRow_other w117 b10 b11 #[.int .i64 i0, .int .i64 en, .int .i64 dt, .int .i64 kd, .int .i64 of', .string tx, .slice la ll lc] (fun e => hne e.symm)).trans hq11
            have hr10 := setRow_heap w117 b10 _ #[.int .i64 i0, .int .i64 en, .int .i64 dt, .int .i64 kd, .int .i64 of', .string tx, .slice la ll lc] _ _ hq10
            have hbN := below_setRow hbP hge10 #[.int .i64 i0, .int .i64 en, .int .i64 dt, .int .i64 kd, .int .i64 of', .string tx, .slice la ll lc]
            refine wp_store_row 93 (.tmp 10) (.tmp 26) rfl b10 #[.int .i64 i0, .int .i64 en, .int .i64 dt, .int .i64 kd, .int .i64 of', .string tx, .slice la ll lc] (by kernel_rfl) (by kernel_rfl) 93 _ hq10 (by kernel_rfl) (by rfl) (by kernel_rfl) ?_
            generalize (w117).setRow b10 #[.int .i64 i0, .int .i64 en, .int .i64 dt, .int .i64 kd, .int .i64 of', .string tx, .slice la ll lc] = w118 at hr11 hr10 hbN ⊢
            clear hq10 hq11 hbP
            refine ⟨fun h => absurd h (by decide), ?_⟩
            try simp only [Act.put, rgA, rgB, rgC, rgD, rgE, rgF]
            refine wpAnyT_one (i := 13) (by kernel_rfl) rfl (by rfl) ?_
            have hs11 := setRow_heap w118 b11 _ #[.int .i64 ac, .int .i64 am, .int .i64 pa] _ _ hr11
            have hs10 := (setRow_other w118 b11 b10 #[.int .i64 ac, .int .i64 am, .int .i64 pa] hne).trans hr10
            have hbM := below_setRow hbN hge11 #[.int .i64 ac, .int .i64 am, .int .i64 pa]
            refine wp_store_row 110 (.tmp 11) (.tmp 27) rfl b11 #[.int .i64 ac, .int .i64 am, .int .i64 pa] (by kernel_rfl) (by kernel_rfl) 110 _ hr11 (by kernel_rfl) (by rfl) (by kernel_rfl) ?_
            generalize (w118).setRow b11 #[.int .i64 ac, .int .i64 am, .int .i64 pa] = w119 at hs11 hs10 hbM ⊢
            clear hr11 hr10 hbN
            refine ⟨fun h => absurd h (by decide), ?_⟩
            try simp only [Act.put, rgA, rgB, rgC, rgD, rgE, rgF]
            refine wpAnyT_pure (i := 14) (v := ?_) rfl (by kernel_rfl) (by kernel_rfl) (by kernel_rfl) (fun _ _ _ h => h) (by rfl) ?_ ?_
            rotate_left
            · intro w; go_simp; try with_reducible rfl
            simp only [Act.put, rgA, rgB, rgC, rgD, rgE, rgF]
            refine wpAnyT_done (by kernel_rfl) ?_ _
            have HSF := Lib.hid (show SF fi wr w119 b10 b11 ok en pa from ⟨HM.out, blk_cell hs10 1, blk_cell hs11 2, hbM⟩)
            clear hs10 hs11 hbM hne
            refine cut_leaf ?_ ?_
            focus kernel_rfl
            exact ⟨_, _, _, _, _, _, _, _, _, _, b10, b11, ok, en, pa, rfl, HSF.out⟩
        · skip
          obtain ⟨b11, hb11⟩ : ∃ b, s1.heap.size = b := ⟨_, rfl⟩
          have hge11 : wr.heap.size ≤ b11 := hb11 ▸ Nat.le_trans (hB_0_s1).size (hB_s1_s1).size
          refine wp_newrow (v := .pointer (some ⟨b11, 0, none⟩)) (cs := ln0) (te := 110) (by rw [← hb11]; go_simp) ?_
          intro w120 hX hN11
          rw [hb11] at hN11
          have hB_s1_w120 := below_step hB_s1_s1 hX
          have hB_w120_w120 := Below.refl w120.heap.size w120
          have hSsw120 := CellsR.below hB_s1_w120 hSss1
          clear hX
          refine ⟨fun _ _ => hSsw120, ?_⟩
          try simp only [Act.put, rgA, rgB, rgC, rgD, rgE, rgF]
          refine wpAnyT_two (i := 5) (k := 10) (by kernel_rfl) rfl rfl (by rfl) (by rfl) ?_ ?_
          · skip
            have hbP := below_step HBW.out (hB_0_s1.trans ((hB_s1_w120).mono hB_0_s1.size))
            refine wp_enter (f := 48) (args := #[.agg bs, .agg #[.int .i64 re, .int .i64 rl]]) (by go_simp) (rfind28 (S := S) w120 bs es ms (H.out.below hbP HS.out) (fun b hb => Nat.lt_of_lt_of_le (HS.out b hb) hbP.size) h40 H8.out ⟨re, rl⟩ HOK.out) ?_
            rw [HFI.out]
            rintro e w121 ⟨⟨i0, en, dt, kd, of', tx, la, ll, lc, ac, am, pa, ok, rfl, hm⟩, hX⟩
            have HM := Lib.hid hm
            clear hbP hm
            have hB_s1_w121 := below_step hB_s1_w120 hX
            have hB_w120_w121 := below_step hB_w120_w120 hX
            have hB_w121_w121 := Below.refl w121.heap.size w121
            have hSsw121 := CellsR.below hB_s1_w121 hSss1
            clear hX
            refine ⟨_, rfl, fun _ _ => hSsw121, ?_⟩
            try simp only [Act.put, rgA, rgB, rgC, rgD, rgE, rgF]
            refine wpAnyT_pure (i := 6) (v := ?_) rfl (by kernel_rfl) (by kernel_rfl) (by kernel_rfl) (fun _ _ _ h => h) (by rfl) ?_ ?_
            rotate_left
            · intro w; go_simp; try with_reducible rfl
            simp only [Act.put, rgA, rgB, rgC, rgD, rgE, rgF]
            refine wpAnyT_pure (i := 7) (v := ?_) rfl (by kernel_rfl) (by kernel_rfl) (by kernel_rfl) (fun _ _ _ h => h) (by rfl) ?_ ?_
            rotate_left
            · intro w; go_simp; try with_reducible rfl
            simp only [Act.put, rgA, rgB, rgC, rgD, rgE, rgF]
            refine wpAnyT_pure (i := 8) (v := ?_) rfl (by kernel_rfl) (by kernel_rfl) (by kernel_rfl) (fun _ _ _ h => h) (by rfl) ?_ ?_
            rotate_left
            · intro w; go_simp; try with_reducible rfl
            simp only [Act.put, rgA, rgB, rgC, rgD, rgE, rgF]
            refine wpAnyT_pure (i := 9) (v := ?_) rfl (by kernel_rfl) (by kernel_rfl) (by kernel_rfl) (fun _ _ _ h => h) (by rfl) ?_ ?_
            rotate_left
            · intro w; go_simp; try with_reducible rfl
            simp only [Act.put, rgA, rgB, rgC, rgD, rgE, rgF]
            refine wpAnyT_one (i := 10) (by kernel_rfl) rfl (by rfl) ?_
            obtain ⟨b10, hb10⟩ : ∃ b, w121.heap.size = b := ⟨_, rfl⟩
            have hge10 : wr.heap.size ≤ b10 := hb10 ▸ Nat.le_trans (hB_0_s1).size (hB_s1_w121).size
            refine wp_newrow (v := .pointer (some ⟨b10, 0, none⟩)) (cs := en0) (te := 93) (by rw [← hb10]; go_simp) ?_
            intro w122 hX hN10
            rw [hb10] at hN10
            have hB_s1_w122 := below_step hB_s1_w121 hX
            have hB_w120_w122 := below_step hB_w120_w121 hX
            have hB_w121_w122 := below_step hB_w121_w121 hX
            have hB_w122_w122 := Below.refl w122.heap.size w122
            have hSsw122 := CellsR.below hB_s1_w122 hSss1
            clear hX
            refine ⟨fun _ _ => hSsw122, ?_⟩
            try simp only [Act.put, rgA, rgB, rgC, rgD, rgE, rgF]
            refine wpAnyT_one (i := 12) (by kernel_rfl) rfl (by rfl) ?_
            have hq10 := ((hB_w122_w122).block _ (blk_lt hN10)).trans hN10
            have hq11 := ((hB_w120_w122).block _ (blk_lt hN11)).trans hN11
            have hne : b10 ≠ b11 := fun e => by subst e; rw [hq10] at hq11; simp at hq11
            have hbP : Below wr.heap.size wr w122 := hB_0_s1.trans ((hB_s1_w122).mono hB_0_s1.size)
            have hr11 := (setRow_other w122 b10 b11 #[.int .i64 i0, .int .i64 en, .int .i64 dt, .int .i64 kd, .int .i64 of', .string tx, .slice la ll lc] (fun e => hne e.symm)).trans hq11
            have hr10 := setRow_heap w122 b10 _ #[.int .i64 i0, .int .i64 en, .int .i64 dt, .int .i64 kd, .int .i64 of', .string tx, .slice la ll lc] _ _ hq10
            have hbN := below_setRow hbP hge10 #[.int .i64 i0, .int .i64 en, .int .i64 dt, .int .i64 kd, .int .i64 of', .string tx, .slice la ll lc]
            refine wp_store_row 93 (.tmp 10) (.tmp 26) rfl b10 #[.int .i64 i0, .int .i64 en, .int .i64 dt, .int .i64 kd, .int .i64 of', .string tx, .slice la ll lc] (by kernel_rfl) (by kernel_rfl) 93 _ hq10 (by kernel_rfl) (by rfl) (by kernel_rfl) ?_
            generalize (w122).setRow b10 #[.int .i64 i0, .int .i64 en, .int .i64 dt, .int .i64 kd, .int .i64 of', .string tx, .slice la ll lc] = w123 at hr11 hr10 hbN ⊢
            clear hq10 hq11 hbP
            refine ⟨fun h => absurd h (by decide), ?_⟩
            try simp only [Act.put, rgA, rgB, rgC, rgD, rgE, rgF]
            refine wpAnyT_one (i := 13) (by kernel_rfl) rfl (by rfl) ?_
            have hs11 := setRow_heap w123 b11 _ #[.int .i64 ac, .int .i64 am, .int .i64 pa] _ _ hr11
            have hs10 := (setRow_other w123 b11 b10 #[.int .i64 ac, .int .i64 am, .int .i64 pa] hne).trans hr10
            have hbM := below_setRow hbN hge11 #[.int .i64 ac, .int .i64 am, .int .i64 pa]
            refine wp_store_row 110 (.tmp 11) (.tmp 27) rfl b11 #[.int .i64 ac, .int .i64 am, .int .i64 pa] (by kernel_rfl) (by kernel_rfl) 110 _ hr11 (by kernel_rfl) (by rfl) (by kernel_rfl) ?_
            generalize (w123).setRow b11 #[.int .i64 ac, .int .i64 am, .int .i64 pa] = w124 at hs11 hs10 hbM ⊢
            clear hr11 hr10 hbN
            refine ⟨fun h => absurd h (by decide), ?_⟩
            try simp only [Act.put, rgA, rgB, rgC, rgD, rgE, rgF]
            refine wpAnyT_pure (i := 14) (v := ?_) rfl (by kernel_rfl) (by kernel_rfl) (by kernel_rfl) (fun _ _ _ h => h) (by rfl) ?_ ?_
            rotate_left
            · intro w; go_simp; try with_reducible rfl
            simp only [Act.put, rgA, rgB, rgC, rgD, rgE, rgF]
            refine wpAnyT_done (by kernel_rfl) ?_ _
            have HSF := Lib.hid (show SF fi wr w124 b10 b11 ok en pa from ⟨HM.out, blk_cell hs10 1, blk_cell hs11 2, hbM⟩)
            clear hs10 hs11 hbM hne
            refine cut_leaf ?_ ?_
            focus kernel_rfl
            exact ⟨_, _, _, _, _, _, _, _, _, _, b10, b11, ok, en, pa, rfl, HSF.out⟩
          · skip
            obtain ⟨b10, hb10⟩ : ∃ b, w120.heap.size = b := ⟨_, rfl⟩
            have hge10 : wr.heap.size ≤ b10 := hb10 ▸ Nat.le_trans (hB_0_s1).size (hB_s1_w120).size
            refine wp_newrow (v := .pointer (some ⟨b10, 0, none⟩)) (cs := en0) (te := 93) (by rw [← hb10]; go_simp) ?_
            intro w125 hX hN10
            rw [hb10] at hN10
            have hB_s1_w125 := below_step hB_s1_w120 hX
            have hB_w120_w125 := below_step hB_w120_w120 hX
            have hB_w125_w125 := Below.refl w125.heap.size w125
            have hSsw125 := CellsR.below hB_s1_w125 hSss1
            clear hX
            refine ⟨fun _ _ => hSsw125, ?_⟩
            try simp only [Act.put, rgA, rgB, rgC, rgD, rgE, rgF]
            refine wpAnyT_one (i := 5) (by kernel_rfl) rfl (by rfl) ?_
            have hbP := below_step HBW.out (hB_0_s1.trans ((hB_s1_w125).mono hB_0_s1.size))
            refine wp_enter (f := 48) (args := #[.agg bs, .agg #[.int .i64 re, .int .i64 rl]]) (by go_simp) (rfind28 (S := S) w125 bs es ms (H.out.below hbP HS.out) (fun b hb => Nat.lt_of_lt_of_le (HS.out b hb) hbP.size) h40 H8.out ⟨re, rl⟩ HOK.out) ?_
            rw [HFI.out]
            rintro e w126 ⟨⟨i0, en, dt, kd, of', tx, la, ll, lc, ac, am, pa, ok, rfl, hm⟩, hX⟩
            have HM := Lib.hid hm
            clear hbP hm
            have hB_s1_w126 := below_step hB_s1_w125 hX
            have hB_w120_w126 := below_step hB_w120_w125 hX
            have hB_w125_w126 := below_step hB_w125_w125 hX
            have hB_w126_w126 := Below.refl w126.heap.size w126
            have hSsw126 := CellsR.below hB_s1_w126 hSss1
            clear hX
            refine ⟨_, rfl, fun _ _ => hSsw126, ?_⟩
            try simp only [Act.put, rgA, rgB, rgC, rgD, rgE, rgF]
            refine wpAnyT_pure (i := 6) (v := ?_) rfl (by kernel_rfl) (by kernel_rfl) (by kernel_rfl) (fun _ _ _ h => h) (by rfl) ?_ ?_
            rotate_left
            · intro w; go_simp; try with_reducible rfl
            simp only [Act.put, rgA, rgB, rgC, rgD, rgE, rgF]
            refine wpAnyT_pure (i := 7) (v := ?_) rfl (by kernel_rfl) (by kernel_rfl) (by kernel_rfl) (fun _ _ _ h => h) (by rfl) ?_ ?_
            rotate_left
            · intro w; go_simp; try with_reducible rfl
            simp only [Act.put, rgA, rgB, rgC, rgD, rgE, rgF]
            refine wpAnyT_pure (i := 8) (v := ?_) rfl (by kernel_rfl) (by kernel_rfl) (by kernel_rfl) (fun _ _ _ h => h) (by rfl) ?_ ?_
            rotate_left
            · intro w; go_simp; try with_reducible rfl
            simp only [Act.put, rgA, rgB, rgC, rgD, rgE, rgF]
            refine wpAnyT_pure (i := 9) (v := ?_) rfl (by kernel_rfl) (by kernel_rfl) (by kernel_rfl) (fun _ _ _ h => h) (by rfl) ?_ ?_
            rotate_left
            · intro w; go_simp; try with_reducible rfl
            simp only [Act.put, rgA, rgB, rgC, rgD, rgE, rgF]
            refine wpAnyT_one (i := 12) (by kernel_rfl) rfl (by rfl) ?_
            have hq10 := ((hB_w125_w126).block _ (blk_lt hN10)).trans hN10
            have hq11 := ((hB_w120_w126).block _ (blk_lt hN11)).trans hN11
            have hne : b10 ≠ b11 := fun e => by subst e; rw [hq10] at hq11; simp at hq11
            have hbP : Below wr.heap.size wr w126 := hB_0_s1.trans ((hB_s1_w126).mono hB_0_s1.size)
            have hr11 := (setRow_other w126 b10 b11 #[.int .i64 i0, .int .i64 en, .int .i64 dt, .int .i64 kd, .int .i64 of', .string tx, .slice la ll lc] (fun e => hne e.symm)).trans hq11
            have hr10 := setRow_heap w126 b10 _ #[.int .i64 i0, .int .i64 en, .int .i64 dt, .int .i64 kd, .int .i64 of', .string tx, .slice la ll lc] _ _ hq10
            have hbN := below_setRow hbP hge10 #[.int .i64 i0, .int .i64 en, .int .i64 dt, .int .i64 kd, .int .i64 of', .string tx, .slice la ll lc]
            refine wp_store_row 93 (.tmp 10) (.tmp 26) rfl b10 #[.int .i64 i0, .int .i64 en, .int .i64 dt, .int .i64 kd, .int .i64 of', .string tx, .slice la ll lc] (by kernel_rfl) (by kernel_rfl) 93 _ hq10 (by kernel_rfl) (by rfl) (by kernel_rfl) ?_
            generalize (w126).setRow b10 #[.int .i64 i0, .int .i64 en, .int .i64 dt, .int .i64 kd, .int .i64 of', .string tx, .slice la ll lc] = w127 at hr11 hr10 hbN ⊢
            clear hq10 hq11 hbP
            refine ⟨fun h => absurd h (by decide), ?_⟩
            try simp only [Act.put, rgA, rgB, rgC, rgD, rgE, rgF]
            refine wpAnyT_one (i := 13) (by kernel_rfl) rfl (by rfl) ?_
            have hs11 := setRow_heap w127 b11 _ #[.int .i64 ac, .int .i64 am, .int .i64 pa] _ _ hr11
            have hs10 := (setRow_other w127 b11 b10 #[.int .i64 ac, .int .i64 am, .int .i64 pa] hne).trans hr10
            have hbM := below_setRow hbN hge11 #[.int .i64 ac, .int .i64 am, .int .i64 pa]
            refine wp_store_row 110 (.tmp 11) (.tmp 27) rfl b11 #[.int .i64 ac, .int .i64 am, .int .i64 pa] (by kernel_rfl) (by kernel_rfl) 110 _ hr11 (by kernel_rfl) (by rfl) (by kernel_rfl) ?_
            generalize (w127).setRow b11 #[.int .i64 ac, .int .i64 am, .int .i64 pa] = w128 at hs11 hs10 hbM ⊢
            clear hr11 hr10 hbN
            refine ⟨fun h => absurd h (by decide), ?_⟩
            try simp only [Act.put, rgA, rgB, rgC, rgD, rgE, rgF]
            refine wpAnyT_pure (i := 14) (v := ?_) rfl (by kernel_rfl) (by kernel_rfl) (by kernel_rfl) (fun _ _ _ h => h) (by rfl) ?_ ?_
            rotate_left
            · intro w; go_simp; try with_reducible rfl
            simp only [Act.put, rgA, rgB, rgC, rgD, rgE, rgF]
            refine wpAnyT_done (by kernel_rfl) ?_ _
            have HSF := Lib.hid (show SF fi wr w128 b10 b11 ok en pa from ⟨HM.out, blk_cell hs10 1, blk_cell hs11 2, hbM⟩)
            clear hs10 hs11 hbM hne
            refine cut_leaf ?_ ?_
            focus kernel_rfl
            exact ⟨_, _, _, _, _, _, _, _, _, _, b10, b11, ok, en, pa, rfl, HSF.out⟩
      rintro vs wF ⟨v19, v20, v21, v22, v23, v24, v25, v26, v27, v28, bE, bL, ok, en, pa, rfl, hSF⟩
      simp only [puts, Act.put, List.setIfInBounds_toArray, List.set_cons_zero, List.set_cons_succ]
      have HM := Lib.hid hSF.m
      have HRWF := Lib.hid ((hSF.b.block _ (blk_lt HROW.out)).trans HROW.out)
      have HBF := Lib.hid (below_step HBW.out hSF.b)
      have HRF := Lib.hid (And.intro (cell_below HM01.out.1 hSF.b) (cell_below HM01.out.2 hSF.b))
      have hCF : Cells [(⟨bE, 1, none⟩, .int .i64 en), (⟨bL, 2, none⟩, .int .i64 pa)] wF := ⟨hSF.e, hSF.l, trivial⟩
      clear hSF hC0
      go_wp2_with fail
      rcases fi with _ | ⟨u, v⟩
      · obtain rfl : ok = false := HM.out
        have HNO := Lib.hid (show fo = none from by rw [← HFO.out]; exact sideP_none (.inl (entS_take (i := i + 1) HTK.out)))
        refine wp_region_T (Cells [(⟨bE, 1, none⟩, .int .i64 en), (⟨bL, 2, none⟩, .int .i64 pa)]) (fun _ => false) (by kernel_rfl) ?_
        have hSss29 := Cells.drew hCF
        have hB_0_s29 : Below wF.heap.size wF wF.drew := below_drew _
        generalize wF.drew = s29 at hSss29 hB_0_s29 ⊢
        have hB_s29_s29 := Below.refl s29.heap.size s29
        refine wpAnyT_pure (i := 0) (v := ?_) rfl (by kernel_rfl) (by kernel_rfl) (by kernel_rfl) (fun _ _ _ h => h) (by rfl) ?_ ?_
        rotate_left
        · intro w; go_simp; try with_reducible rfl
        simp only [Act.put, rgA, rgB, rgC, rgD, rgE, rgF]
        refine wpAnyT_pure (i := 1) (v := ?_) rfl (by kernel_rfl) (by kernel_rfl) (by kernel_rfl) (fun _ _ _ h => h) (by rfl) ?_ ?_
        rotate_left
        · intro w; go_simp; try with_reducible rfl
        simp only [Act.put, rgA, rgB, rgC, rgD, rgE, rgF]
        refine wpAnyT_pure (i := 2) (v := ?_) rfl (by kernel_rfl) (by kernel_rfl) (by kernel_rfl) (fun _ _ _ h => h) (by rfl) ?_ ?_
        rotate_left
        · intro w; go_simp; try with_reducible rfl
        simp only [Act.put, rgA, rgB, rgC, rgD, rgE, rgF]
        refine wpAnyT_skip (i := 3) rfl (by kernel_rfl) (by kernel_rfl) (by kernel_rfl) (fun _ _ _ h => h) (by rfl) ?_
        simp only [Act.put, rgA, rgB, rgC, rgD, rgE, rgF]
        refine wpAnyT_skip (i := 4) rfl (by kernel_rfl) (by kernel_rfl) (by kernel_rfl) (fun _ _ _ h => h) (by rfl) ?_
        simp only [Act.put, rgA, rgB, rgC, rgD, rgE, rgF]
        refine wpAnyT_skip (i := 5) rfl (by kernel_rfl) (by kernel_rfl) (by kernel_rfl) (fun _ _ _ h => h) (by rfl) ?_
        simp only [Act.put, rgA, rgB, rgC, rgD, rgE, rgF]
        refine wpAnyT_skip (i := 6) rfl (by kernel_rfl) (by kernel_rfl) (by kernel_rfl) (fun _ _ _ h => h) (by rfl) ?_
        simp only [Act.put, rgA, rgB, rgC, rgD, rgE, rgF]
        refine wpAnyT_skip (i := 7) rfl (by kernel_rfl) (by kernel_rfl) (by kernel_rfl) (fun _ _ _ h => h) (by rfl) ?_
        simp only [Act.put, rgA, rgB, rgC, rgD, rgE, rgF]
        refine wpAnyT_skip (i := 8) rfl (by kernel_rfl) (by kernel_rfl) (by kernel_rfl) (fun _ _ _ h => h) (by rfl) ?_
        simp only [Act.put, rgA, rgB, rgC, rgD, rgE, rgF]
        refine wpAnyT_skip (i := 9) rfl (by kernel_rfl) (by kernel_rfl) (by kernel_rfl) (fun _ _ _ h => h) (by rfl) ?_
        simp only [Act.put, rgA, rgB, rgC, rgD, rgE, rgF]
        refine wpAnyT_skip (i := 10) rfl (by kernel_rfl) (by kernel_rfl) (by kernel_rfl) (fun _ _ _ h => h) (by rfl) ?_
        simp only [Act.put, rgA, rgB, rgC, rgD, rgE, rgF]
        refine wpAnyT_skip (i := 11) rfl (by kernel_rfl) (by kernel_rfl) (by kernel_rfl) (fun _ _ _ h => h) (by rfl) ?_
        simp only [Act.put, rgA, rgB, rgC, rgD, rgE, rgF]
        refine wpAnyT_skip (i := 12) rfl (by kernel_rfl) (by kernel_rfl) (by kernel_rfl) (fun _ _ _ h => h) (by rfl) ?_
        simp only [Act.put, rgA, rgB, rgC, rgD, rgE, rgF]
        refine wpAnyT_skip (i := 13) rfl (by kernel_rfl) (by kernel_rfl) (by kernel_rfl) (fun _ _ _ h => h) (by rfl) ?_
        simp only [Act.put, rgA, rgB, rgC, rgD, rgE, rgF]
        refine wpAnyT_skip (i := 14) rfl (by kernel_rfl) (by kernel_rfl) (by kernel_rfl) (fun _ _ _ h => h) (by rfl) ?_
        simp only [Act.put, rgA, rgB, rgC, rgD, rgE, rgF]
        refine wpAnyT_skip (i := 15) rfl (by kernel_rfl) (by kernel_rfl) (by kernel_rfl) (fun _ _ _ h => h) (by rfl) ?_
        simp only [Act.put, rgA, rgB, rgC, rgD, rgE, rgF]
        refine wpAnyT_skip (i := 16) rfl (by kernel_rfl) (by kernel_rfl) (by kernel_rfl) (fun _ _ _ h => h) (by rfl) ?_
        simp only [Act.put, rgA, rgB, rgC, rgD, rgE, rgF]
        refine wpAnyT_pure (i := 17) (v := ?_) rfl (by kernel_rfl) (by kernel_rfl) (by kernel_rfl) (fun _ _ _ h => h) (by rfl) ?_ ?_
        rotate_left
        · intro w; go_simp; try with_reducible rfl
        simp only [Act.put, rgA, rgB, rgC, rgD, rgE, rgF]
        refine wpAnyT_pure (i := 18) (v := ?_) rfl (by kernel_rfl) (by kernel_rfl) (by kernel_rfl) (fun _ _ _ h => h) (by rfl) ?_ ?_
        rotate_left
        · intro w; go_simp; try with_reducible rfl
        simp only [Act.put, rgA, rgB, rgC, rgD, rgE, rgF]
        refine wpAnyT_skip (i := 19) rfl (by kernel_rfl) (by kernel_rfl) (by kernel_rfl) (fun _ _ _ h => h) (by rfl) ?_
        simp only [Act.put, rgA, rgB, rgC, rgD, rgE, rgF]
        refine wpAnyT_skip (i := 20) rfl (by kernel_rfl) (by kernel_rfl) (by kernel_rfl) (fun _ _ _ h => h) (by rfl) ?_
        simp only [Act.put, rgA, rgB, rgC, rgD, rgE, rgF]
        refine wpAnyT_skip (i := 21) rfl (by kernel_rfl) (by kernel_rfl) (by kernel_rfl) (fun _ _ _ h => h) (by rfl) ?_
        simp only [Act.put, rgA, rgB, rgC, rgD, rgE, rgF]
        refine wpAnyT_skip (i := 22) rfl (by kernel_rfl) (by kernel_rfl) (by kernel_rfl) (fun _ _ _ h => h) (by rfl) ?_
        simp only [Act.put, rgA, rgB, rgC, rgD, rgE, rgF]
        refine wpAnyT_skip (i := 23) rfl (by kernel_rfl) (by kernel_rfl) (by kernel_rfl) (fun _ _ _ h => h) (by rfl) ?_
        simp only [Act.put, rgA, rgB, rgC, rgD, rgE, rgF]
        refine wpAnyT_skip (i := 24) rfl (by kernel_rfl) (by kernel_rfl) (by kernel_rfl) (fun _ _ _ h => h) (by rfl) ?_
        simp only [Act.put, rgA, rgB, rgC, rgD, rgE, rgF]
        refine wpAnyT_skip (i := 25) rfl (by kernel_rfl) (by kernel_rfl) (by kernel_rfl) (fun _ _ _ h => h) (by rfl) ?_
        simp only [Act.put, rgA, rgB, rgC, rgD, rgE, rgF]
        refine wpAnyT_skip (i := 26) rfl (by kernel_rfl) (by kernel_rfl) (by kernel_rfl) (fun _ _ _ h => h) (by rfl) ?_
        simp only [Act.put, rgA, rgB, rgC, rgD, rgE, rgF]
        refine wpAnyT_pure (i := 27) (v := ?_) rfl (by kernel_rfl) (by kernel_rfl) (by kernel_rfl) (fun _ _ _ h => h) (by rfl) ?_ ?_
        rotate_left
        · intro w; go_simp; try with_reducible rfl
        simp only [Act.put, rgA, rgB, rgC, rgD, rgE, rgF]
        refine wpAnyT_done (by kernel_rfl) ?_ _
        have HBG := Lib.hid (below_step HBF.out hB_0_s29)
        obtain ⟨wG, rfl⟩ : ∃ q, q = s29 := ⟨_, rfl⟩
        go_wp2_with fail
        go_ret3
        exact ⟨EntP.no HNO.out, HBG.out⟩
      have hmm : ok = true ∧ en = u ∧ pa = v := HM.out
      obtain ⟨rfl, rfl, rfl⟩ := hmm
      simp only at HTK
      by_cases hi0 : i = 0
      · have HT2 := Lib.hid (show entS es (l.take (i + 1)) = some (en, pa) from by rw [HTK.out, if_pos (.inl hi0)])
        have hi0I : ¬ (0 : Int) < (i : Int) := by omega
        clear hi0
        obtain ⟨ib, hib⟩ : ∃ q, decide ((⟨re, rl⟩ : R2) ∈ l.take i) = q := ⟨_, rfl⟩
        have HIB := Lib.hid hib
        have htk : (l.take i).length = i := by rw [List.length_take]; have := HIL.out; omega
        have HTKL := Lib.hid htk
        have hCG : Cells [(⟨bE, 1, none⟩, .int .i64 en), (⟨bL, 2, none⟩, .int .i64 pa), (⟨b, off + i * 2, none⟩, .int .i64 re), (⟨b, off + i * 2 + 1, none⟩, .int .i64 rl)] wF := ⟨hCF.1, hCF.2.1, HRF.out.1, HRF.out.2, trivial⟩
        have hicap : i ≤ c := by have h1 := HCAP.out; have := HIL.out; omega
        have hill : i ≤ l.length := by have := HIL.out; omega
        clear hib htk
        refine wp_region_T (Cells [(⟨bE, 1, none⟩, .int .i64 en), (⟨bL, 2, none⟩, .int .i64 pa), (⟨b, off + i * 2, none⟩, .int .i64 re), (⟨b, off + i * 2 + 1, none⟩, .int .i64 rl)]) (fun _ => false) (by kernel_rfl) ?_
        have hSss30 := Cells.drew hCG
        have hB_0_s30 : Below wF.heap.size wF wF.drew := below_drew _
        generalize wF.drew = s30 at hSss30 hB_0_s30 ⊢
        have hB_s30_s30 := Below.refl s30.heap.size s30
        refine wpAnyT_pure (i := 0) (v := ?_) rfl (by kernel_rfl) (by kernel_rfl) (by kernel_rfl) (fun _ _ _ h => h) (by rfl) ?_ ?_
        rotate_left
        · intro w; go_simp; try with_reducible rfl
        simp only [Act.put, rgA, rgB, rgC, rgD, rgE, rgF]
        refine wpAnyT_pure (i := 1) (v := ?_) rfl (by kernel_rfl) (by kernel_rfl) (by kernel_rfl) (fun _ _ _ h => h) (by rfl) ?_ ?_
        rotate_left
        · intro w; go_simp; try with_reducible rfl
        simp only [Act.put, rgA, rgB, rgC, rgD, rgE, rgF]
        refine wpAnyT_pure (i := 2) (v := ?_) rfl (by kernel_rfl) (by kernel_rfl) (by kernel_rfl) (fun _ _ _ h => h) (by rfl) ?_ ?_
        rotate_left
        · intro w; go_simp; try with_reducible rfl
        simp only [Act.put, rgA, rgB, rgC, rgD, rgE, rgF]
        refine wpAnyT_pure (i := 3) (v := ?_) rfl (by kernel_rfl) (by kernel_rfl) (by kernel_rfl) (fun _ _ _ h => h) (by rfl) ?_ ?_
        rotate_left
        · intro w; go_simp; try with_reducible rfl
        simp only [Act.put, rgA, rgB, rgC, rgD, rgE, rgF]
        refine wpAnyT_pure (i := 4) (v := (.bool false)) rfl (by kernel_rfl) (by kernel_rfl) (by kernel_rfl) (fun _ _ _ h => h) (by rfl) ?_ ?_
        · intro w; go_simp; try (first | omega | (simp; omega))
        simp only [Act.put, rgA, rgB, rgC, rgD, rgE, rgF]
        refine wpAnyT_pure (i := 5) (v := ?_) rfl (by kernel_rfl) (by kernel_rfl) (by kernel_rfl) (fun _ _ _ h => h) (by rfl) ?_ ?_
        rotate_left
        · intro w; go_simp; try with_reducible rfl
        simp only [Act.put, rgA, rgB, rgC, rgD, rgE, rgF]
        refine wpAnyT_skip (i := 6) rfl (by kernel_rfl) (by kernel_rfl) (by kernel_rfl) (fun _ _ _ h => h) (by rfl) ?_
        simp only [Act.put, rgA, rgB, rgC, rgD, rgE, rgF]
        refine wpAnyT_skip (i := 7) rfl (by kernel_rfl) (by kernel_rfl) (by kernel_rfl) (fun _ _ _ h => h) (by rfl) ?_
        simp only [Act.put, rgA, rgB, rgC, rgD, rgE, rgF]
        refine wpAnyT_skip (i := 8) rfl (by kernel_rfl) (by kernel_rfl) (by kernel_rfl) (fun _ _ _ h => h) (by rfl) ?_
        simp only [Act.put, rgA, rgB, rgC, rgD, rgE, rgF]
        refine wpAnyT_skip (i := 9) rfl (by kernel_rfl) (by kernel_rfl) (by kernel_rfl) (fun _ _ _ h => h) (by rfl) ?_
        simp only [Act.put, rgA, rgB, rgC, rgD, rgE, rgF]
        refine wpAnyT_skip (i := 10) rfl (by kernel_rfl) (by kernel_rfl) (by kernel_rfl) (fun _ _ _ h => h) (by rfl) ?_
        simp only [Act.put, rgA, rgB, rgC, rgD, rgE, rgF]
        refine wpAnyT_skip (i := 11) rfl (by kernel_rfl) (by kernel_rfl) (by kernel_rfl) (fun _ _ _ h => h) (by rfl) ?_
        simp only [Act.put, rgA, rgB, rgC, rgD, rgE, rgF]
        refine wpAnyT_skip (i := 12) rfl (by kernel_rfl) (by kernel_rfl) (by kernel_rfl) (fun _ _ _ h => h) (by rfl) ?_
        simp only [Act.put, rgA, rgB, rgC, rgD, rgE, rgF]
        refine wpAnyT_skip (i := 13) rfl (by kernel_rfl) (by kernel_rfl) (by kernel_rfl) (fun _ _ _ h => h) (by rfl) ?_
        simp only [Act.put, rgA, rgB, rgC, rgD, rgE, rgF]
        refine wpAnyT_skip (i := 14) rfl (by kernel_rfl) (by kernel_rfl) (by kernel_rfl) (fun _ _ _ h => h) (by rfl) ?_
        simp only [Act.put, rgA, rgB, rgC, rgD, rgE, rgF]
        refine wpAnyT_skip (i := 15) rfl (by kernel_rfl) (by kernel_rfl) (by kernel_rfl) (fun _ _ _ h => h) (by rfl) ?_
        simp only [Act.put, rgA, rgB, rgC, rgD, rgE, rgF]
        refine wpAnyT_pure (i := 16) (v := ?_) rfl (by kernel_rfl) (by kernel_rfl) (by kernel_rfl) (fun _ _ _ h => h) (by rfl) ?_ ?_
        rotate_left
        · intro w; go_simp; try with_reducible rfl
        simp only [Act.put, rgA, rgB, rgC, rgD, rgE, rgF]
        refine wpAnyT_pure (i := 17) (v := ?_) rfl (by kernel_rfl) (by kernel_rfl) (by kernel_rfl) (fun _ _ _ h => h) (by rfl) ?_ ?_
        rotate_left
        · intro w; go_simp; try with_reducible rfl
        simp only [Act.put, rgA, rgB, rgC, rgD, rgE, rgF]
        refine wpAnyT_pure (i := 18) (v := ?_) rfl (by kernel_rfl) (by kernel_rfl) (by kernel_rfl) (fun _ _ _ h => h) (by rfl) ?_ ?_
        rotate_left
        · intro w; go_simp; try with_reducible rfl
        simp only [Act.put, rgA, rgB, rgC, rgD, rgE, rgF]
        refine wpAnyT_pure (i := 19) (v := ?_) rfl (by kernel_rfl) (by kernel_rfl) (by kernel_rfl) (fun _ _ _ h => h) (by rfl) ?_ ?_
        rotate_left
        · intro w; go_simp; try with_reducible rfl
        simp only [Act.put, rgA, rgB, rgC, rgD, rgE, rgF]
        refine wpAnyT_pure (i := 20) (v := ?_) rfl (by kernel_rfl) (by kernel_rfl) (by kernel_rfl) (fun _ _ _ h => h) (by rfl) ?_ ?_
        rotate_left
        · intro w; go_simp; try with_reducible rfl
        simp only [Act.put, rgA, rgB, rgC, rgD, rgE, rgF]
        refine wpAnyT_pure (i := 21) (v := ?_) rfl (by kernel_rfl) (by kernel_rfl) (by kernel_rfl) (fun _ _ _ h => h) (by rfl) ?_ ?_
        rotate_left
        · intro w; go_simp; try with_reducible rfl
        simp only [Act.put, rgA, rgB, rgC, rgD, rgE, rgF]
        refine wpAnyT_pure (i := 22) (v := ?_) rfl (by kernel_rfl) (by kernel_rfl) (by kernel_rfl) (fun _ _ _ h => h) (by rfl) ?_ ?_
        rotate_left
        · intro w; go_simp; try with_reducible rfl
        simp only [Act.put, rgA, rgB, rgC, rgD, rgE, rgF]
        refine wpAnyT_pure (i := 23) (v := ?_) rfl (by kernel_rfl) (by kernel_rfl) (by kernel_rfl) (fun _ _ _ h => h) (by rfl) ?_ ?_
        rotate_left
        · intro w; go_simp; try with_reducible rfl
        simp only [Act.put, rgA, rgB, rgC, rgD, rgE, rgF]
        refine wpAnyT_pure (i := 24) (v := ?_) rfl (by kernel_rfl) (by kernel_rfl) (by kernel_rfl) (fun _ _ _ h => h) (by rfl) ?_ ?_
        rotate_left
        · intro w; go_simp; try with_reducible rfl
        simp only [Act.put, rgA, rgB, rgC, rgD, rgE, rgF]
        refine wpAnyT_loadW (i := 25) (v := ?_) rfl (by kernel_rfl) (by kernel_rfl) (by kernel_rfl) (by kernel_rfl) (by kernel_rfl) (fun _ _ _ h => h) (Or.inl ⟨by rfl, ?_⟩) hSss30 ?_
        rotate_left
        · intro w hSw; obtain ⟨e0, e1, e2, e3, -⟩ := hSw; go_simp; try with_reducible rfl
        simp only [Act.put, rgA, rgB, rgC, rgD, rgE, rgF]
        refine wpAnyT_one (i := 26) (by kernel_rfl) rfl (by rfl) ?_
        have hbP := below_step HBF.out (hB_0_s30.trans ((hB_s30_s30).mono hB_0_s30.size))
        have hrd := (HL.out.below hbP HS2.out).take i hill
        rw [← List.map_take] at hrd
        have hin := in28 (S := S2) s30 (some ⟨b, off, none⟩) c (l.take i) ⟨re, rl⟩ (by rw [HTKL.out]; exact hrd) (fun b hb => Nat.lt_of_lt_of_le (HS2.out b hb) hbP.size)
        rw [HTKL.out] at hin
        refine wp_enter (f := 16) (args := #[.slice (some ⟨b, off, none⟩) i c, .agg #[.int .i64 re, .int .i64 rl]]) (by go_simp) hin ?_
        rw [HIB.out]
        rintro e w131 ⟨rfl, hX⟩
        clear hbP hrd hin
        have hB_s30_w131 := below_step hB_s30_s30 hX
        have hB_w131_w131 := Below.refl w131.heap.size w131
        have hSsw131 := Cells.below hB_s30_w131 hSss30
        clear hX
        refine ⟨_, rfl, fun _ _ => hSsw131, ?_⟩
        try simp only [Act.put, rgA, rgB, rgC, rgD, rgE, rgF]
        refine wpAnyT_pure (i := 27) (v := ?_) rfl (by kernel_rfl) (by kernel_rfl) (by kernel_rfl) (fun _ _ _ h => h) (by rfl) ?_ ?_
        rotate_left
        · intro w; go_simp; try with_reducible rfl
        simp only [Act.put, rgA, rgB, rgC, rgD, rgE, rgF]
        refine wpAnyT_done (by kernel_rfl) ?_ _
        have HBG := Lib.hid (below_step HBF.out (hB_0_s30.trans ((hB_s30_w131).mono hB_0_s30.size)))
        have HRWG := Lib.hid (((hB_0_s30.trans ((hB_s30_w131).mono hB_0_s30.size)).block _ (blk_lt HRWF.out)).trans HRWF.out)
        have g1 := (hSsw131).1
        have g2 := (hSsw131).2.1
        obtain ⟨wG, rfl⟩ : ∃ q, q = w131 := ⟨_, rfl⟩
        cases ib with
        | true =>
          have HNO := Lib.hid (show fo = none from by
            rw [← HFO.out]
            refine sideP_none (.inr fun hnd => ?_)
            have h2 : (l.take (i + 1)).Nodup := hnd.sublist (List.take_sublist _ _)
            rw [HTN.out, nodup_snoc] at h2
            exact h2.2 (of_decide_eq_true HIB.out))
          go_wp2_with fail
          go_ret3
          exact ⟨EntP.no HNO.out, HBG.out⟩
        | false =>
          go_wp2_with fail
          have hCH : Cells [(⟨bE, 1, none⟩, .int .i64 en), (⟨bL, 2, none⟩, .int .i64 pa)] wG := ⟨g1, g2, trivial⟩
          clear g1 g2
          refine wp_region_T (Cells [(⟨bE, 1, none⟩, .int .i64 en), (⟨bL, 2, none⟩, .int .i64 pa)]) (fun _ => false) (by kernel_rfl) ?_
          have hSss32 := Cells.drew hCH
          have hB_0_s32 : Below wG.heap.size wG wG.drew := below_drew _
          generalize wG.drew = s32 at hSss32 hB_0_s32 ⊢
          have hB_s32_s32 := Below.refl s32.heap.size s32
          refine wpAnyT_pure (i := 0) (v := ?_) rfl (by kernel_rfl) (by kernel_rfl) (by kernel_rfl) (fun _ _ _ h => h) (by rfl) ?_ ?_
          rotate_left
          · intro w; go_simp; try with_reducible rfl
          simp only [Act.put, rgA, rgB, rgC, rgD, rgE, rgF]
          refine wpAnyT_pure (i := 2) (v := ?_) rfl (by kernel_rfl) (by kernel_rfl) (by kernel_rfl) (fun _ _ _ h => h) (by rfl) ?_ ?_
          rotate_left
          · intro w; go_simp; try with_reducible rfl
          simp only [Act.put, rgA, rgB, rgC, rgD, rgE, rgF]
          refine wpAnyT_loadW (i := 1) (v := ?_) rfl (by kernel_rfl) (by kernel_rfl) (by kernel_rfl) (by kernel_rfl) (by kernel_rfl) (fun _ _ _ h => h) (Or.inl ⟨by rfl, ?_⟩) hSss32 ?_
          rotate_left
          · intro w hSw; obtain ⟨e0, e1, -⟩ := hSw; go_simp; try with_reducible rfl
          simp only [Act.put, rgA, rgB, rgC, rgD, rgE, rgF]
          refine wpAnyT_pure (i := 4) (v := ?_) rfl (by kernel_rfl) (by kernel_rfl) (by kernel_rfl) (fun _ _ _ h => h) (by rfl) ?_ ?_
          rotate_left
          · intro w; go_simp; try with_reducible rfl
          simp only [Act.put, rgA, rgB, rgC, rgD, rgE, rgF]
          refine wpAnyT_loadW (i := 3) (v := ?_) rfl (by kernel_rfl) (by kernel_rfl) (by kernel_rfl) (by kernel_rfl) (by kernel_rfl) (fun _ _ _ h => h) (Or.inl ⟨by rfl, ?_⟩) hSss32 ?_
          rotate_left
          · intro w hSw; obtain ⟨e0, e1, -⟩ := hSw; go_simp; try with_reducible rfl
          simp only [Act.put, rgA, rgB, rgC, rgD, rgE, rgF]
          refine wpAnyT_pure (i := 5) (v := ?_) rfl (by kernel_rfl) (by kernel_rfl) (by kernel_rfl) (fun _ _ _ h => h) (by rfl) ?_ ?_
          rotate_left
          · intro w; go_simp; try with_reducible rfl
          simp only [Act.put, rgA, rgB, rgC, rgD, rgE, rgF]
          refine wpAnyT_done (by kernel_rfl) ?_ _
          have HBH := Lib.hid (below_step HBG.out hB_0_s32)
          have HRWH := Lib.hid ((hB_0_s32.block _ (blk_lt HRWG.out)).trans HRWG.out)
          obtain ⟨wH, rfl⟩ : ∃ q, q = s32 := ⟨_, rfl⟩
          go_wp2_with fail
          go_roundw
          case rel =>
            refine ⟨i + 1, en, pa, HIL.out, by go_num, rfl, rfl, HT2.out, ?_, HBH.out, HRWH.out⟩
            rw [HTN.out, nodup_snoc]
            exact ⟨HND.out, of_decide_eq_false HIB.out⟩
          case measure => have := HIL.out; simp [intOf]; try omega
      have hi0I : (0 : Int) < (i : Int) := by omega
      by_cases hex : en = x
      case neg =>
        have hexb : (en == x) = false := by simpa using hex
        have hexn : (en != x) = true := by simpa using hex
        have HNO := Lib.hid (show fo = none from by rw [← HFO.out]; exact sideP_none (.inl (entS_take (i := i + 1) (by rw [HTK.out, if_neg (by rintro (h | h); (exact hi0 h); (simp only [Prod.mk.injEq] at h; exact hex h.1))]))))
        refine wp_region_T (Cells [(⟨bE, 1, none⟩, .int .i64 en), (⟨bL, 2, none⟩, .int .i64 pa)]) (fun _ => false) (by kernel_rfl) ?_
        have hSss33 := Cells.drew hCF
        have hB_0_s33 : Below wF.heap.size wF wF.drew := below_drew _
        generalize wF.drew = s33 at hSss33 hB_0_s33 ⊢
        have hB_s33_s33 := Below.refl s33.heap.size s33
        refine wpAnyT_pure (i := 0) (v := ?_) rfl (by kernel_rfl) (by kernel_rfl) (by kernel_rfl) (fun _ _ _ h => h) (by rfl) ?_ ?_
        rotate_left
        · intro w; go_simp; try with_reducible rfl
        simp only [Act.put, rgA, rgB, rgC, rgD, rgE, rgF]
        refine wpAnyT_pure (i := 1) (v := ?_) rfl (by kernel_rfl) (by kernel_rfl) (by kernel_rfl) (fun _ _ _ h => h) (by rfl) ?_ ?_
        rotate_left
        · intro w; go_simp; try with_reducible rfl
        simp only [Act.put, rgA, rgB, rgC, rgD, rgE, rgF]
        refine wpAnyT_pure (i := 2) (v := ?_) rfl (by kernel_rfl) (by kernel_rfl) (by kernel_rfl) (fun _ _ _ h => h) (by rfl) ?_ ?_
        rotate_left
        · intro w; go_simp; try with_reducible rfl
        simp only [Act.put, rgA, rgB, rgC, rgD, rgE, rgF]
        refine wpAnyT_pure (i := 3) (v := ?_) rfl (by kernel_rfl) (by kernel_rfl) (by kernel_rfl) (fun _ _ _ h => h) (by rfl) ?_ ?_
        rotate_left
        · intro w; go_simp; try with_reducible rfl
        simp only [Act.put, rgA, rgB, rgC, rgD, rgE, rgF]
        refine wpAnyT_pure (i := 4) (v := (.bool true)) rfl (by kernel_rfl) (by kernel_rfl) (by kernel_rfl) (fun _ _ _ h => h) (by rfl) ?_ ?_
        · intro w; go_simp; try (first | omega | (simp; omega))
        simp only [Act.put, rgA, rgB, rgC, rgD, rgE, rgF]
        refine wpAnyT_pure (i := 5) (v := ?_) rfl (by kernel_rfl) (by kernel_rfl) (by kernel_rfl) (fun _ _ _ h => h) (by rfl) ?_ ?_
        rotate_left
        · intro w; go_simp; try with_reducible rfl
        simp only [Act.put, rgA, rgB, rgC, rgD, rgE, rgF]
        refine wpAnyT_pure (i := 6) (v := ?_) rfl (by kernel_rfl) (by kernel_rfl) (by kernel_rfl) (fun _ _ _ h => h) (by rfl) ?_ ?_
        rotate_left
        · intro w; go_simp; try with_reducible rfl
        simp only [Act.put, rgA, rgB, rgC, rgD, rgE, rgF]
        refine wpAnyT_pure (i := 8) (v := ?_) rfl (by kernel_rfl) (by kernel_rfl) (by kernel_rfl) (fun _ _ _ h => h) (by rfl) ?_ ?_
        rotate_left
        · intro w; go_simp; try with_reducible rfl
        simp only [Act.put, rgA, rgB, rgC, rgD, rgE, rgF]
        refine wpAnyT_loadW (i := 7) (v := ?_) rfl (by kernel_rfl) (by kernel_rfl) (by kernel_rfl) (by kernel_rfl) (by kernel_rfl) (fun _ _ _ h => h) (Or.inl ⟨by rfl, ?_⟩) hSss33 ?_
        rotate_left
        · intro w hSw; obtain ⟨e0, e1, -⟩ := hSw; go_simp; try with_reducible rfl
        simp only [Act.put, rgA, rgB, rgC, rgD, rgE, rgF]
        refine wpAnyT_pure (i := 9) (v := ?_) rfl (by kernel_rfl) (by kernel_rfl) (by kernel_rfl) (fun _ _ _ h => h) (by rfl) ?_ ?_
        rotate_left
        · intro w; go_simp; try with_reducible rfl
        simp only [Act.put, rgA, rgB, rgC, rgD, rgE, rgF]
        refine wpAnyT_pure (i := 10) (v := ?_) rfl (by kernel_rfl) (by kernel_rfl) (by kernel_rfl) (fun _ _ _ h => h) (by rfl) ?_ ?_
        rotate_left
        · intro w; go_simp; try with_reducible rfl
        simp only [Act.put, rgA, rgB, rgC, rgD, rgE, rgF]
        refine wpAnyT_skip (i := 11) rfl (by kernel_rfl) (by kernel_rfl) (by kernel_rfl) (fun _ _ _ h => h) (by rfl) ?_
        simp only [Act.put, rgA, rgB, rgC, rgD, rgE, rgF]
        refine wpAnyT_skip (i := 12) rfl (by kernel_rfl) (by kernel_rfl) (by kernel_rfl) (fun _ _ _ h => h) (by rfl) ?_
        simp only [Act.put, rgA, rgB, rgC, rgD, rgE, rgF]
        refine wpAnyT_skip (i := 13) rfl (by kernel_rfl) (by kernel_rfl) (by kernel_rfl) (fun _ _ _ h => h) (by rfl) ?_
        simp only [Act.put, rgA, rgB, rgC, rgD, rgE, rgF]
        refine wpAnyT_skip (i := 14) rfl (by kernel_rfl) (by kernel_rfl) (by kernel_rfl) (fun _ _ _ h => h) (by rfl) ?_
        simp only [Act.put, rgA, rgB, rgC, rgD, rgE, rgF]
        refine wpAnyT_pure (i := 15) (v := ?_) rfl (by kernel_rfl) (by kernel_rfl) (by kernel_rfl) (fun _ _ _ h => h) (by rfl) ?_ ?_
        rotate_left
        · intro w; go_simp; try with_reducible rfl
        simp only [Act.put, rgA, rgB, rgC, rgD, rgE, rgF]
        refine wpAnyT_pure (i := 16) (v := ?_) rfl (by kernel_rfl) (by kernel_rfl) (by kernel_rfl) (fun _ _ _ h => h) (by rfl) ?_ ?_
        rotate_left
        · intro w; go_simp; try with_reducible rfl
        simp only [Act.put, rgA, rgB, rgC, rgD, rgE, rgF]
        refine wpAnyT_pure (i := 17) (v := ?_) rfl (by kernel_rfl) (by kernel_rfl) (by kernel_rfl) (fun _ _ _ h => h) (by rfl) ?_ ?_
        rotate_left
        · intro w; go_simp; try with_reducible rfl
        simp only [Act.put, rgA, rgB, rgC, rgD, rgE, rgF]
        refine wpAnyT_pure (i := 18) (v := ?_) rfl (by kernel_rfl) (by kernel_rfl) (by kernel_rfl) (fun _ _ _ h => h) (by rfl) ?_ ?_
        rotate_left
        · intro w; go_simp; try with_reducible rfl
        simp only [Act.put, rgA, rgB, rgC, rgD, rgE, rgF]
        refine wpAnyT_skip (i := 19) rfl (by kernel_rfl) (by kernel_rfl) (by kernel_rfl) (fun _ _ _ h => h) (by rfl) ?_
        simp only [Act.put, rgA, rgB, rgC, rgD, rgE, rgF]
        refine wpAnyT_skip (i := 20) rfl (by kernel_rfl) (by kernel_rfl) (by kernel_rfl) (fun _ _ _ h => h) (by rfl) ?_
        simp only [Act.put, rgA, rgB, rgC, rgD, rgE, rgF]
        refine wpAnyT_skip (i := 21) rfl (by kernel_rfl) (by kernel_rfl) (by kernel_rfl) (fun _ _ _ h => h) (by rfl) ?_
        simp only [Act.put, rgA, rgB, rgC, rgD, rgE, rgF]
        refine wpAnyT_skip (i := 22) rfl (by kernel_rfl) (by kernel_rfl) (by kernel_rfl) (fun _ _ _ h => h) (by rfl) ?_
        simp only [Act.put, rgA, rgB, rgC, rgD, rgE, rgF]
        refine wpAnyT_skip (i := 23) rfl (by kernel_rfl) (by kernel_rfl) (by kernel_rfl) (fun _ _ _ h => h) (by rfl) ?_
        simp only [Act.put, rgA, rgB, rgC, rgD, rgE, rgF]
        refine wpAnyT_skip (i := 24) rfl (by kernel_rfl) (by kernel_rfl) (by kernel_rfl) (fun _ _ _ h => h) (by rfl) ?_
        simp only [Act.put, rgA, rgB, rgC, rgD, rgE, rgF]
        refine wpAnyT_skip (i := 25) rfl (by kernel_rfl) (by kernel_rfl) (by kernel_rfl) (fun _ _ _ h => h) (by rfl) ?_
        simp only [Act.put, rgA, rgB, rgC, rgD, rgE, rgF]
        refine wpAnyT_skip (i := 26) rfl (by kernel_rfl) (by kernel_rfl) (by kernel_rfl) (fun _ _ _ h => h) (by rfl) ?_
        simp only [Act.put, rgA, rgB, rgC, rgD, rgE, rgF]
        refine wpAnyT_pure (i := 27) (v := ?_) rfl (by kernel_rfl) (by kernel_rfl) (by kernel_rfl) (fun _ _ _ h => h) (by rfl) ?_ ?_
        rotate_left
        · intro w; go_simp; try with_reducible rfl
        simp only [Act.put, rgA, rgB, rgC, rgD, rgE, rgF]
        refine wpAnyT_done (by kernel_rfl) ?_ _
        have HBG := Lib.hid (below_step HBF.out hB_0_s33)
        obtain ⟨wG, rfl⟩ : ∃ q, q = s33 := ⟨_, rfl⟩
        go_wp2_with fail
        go_ret3
        exact ⟨EntP.no HNO.out, HBG.out⟩
      by_cases hpy : pa = y
      case neg =>
        have hexb : (en == x) = true := by simpa using hex
        have hpyb : (pa == y) = false := by simpa using hpy
        have hexn : (en != x) = false := by simpa using hex
        have hpyn : (pa != y) = true := by simpa using hpy
        have HNO := Lib.hid (show fo = none from by rw [← HFO.out]; exact sideP_none (.inl (entS_take (i := i + 1) (by rw [HTK.out, if_neg (by rintro (h | h); (exact hi0 h); (simp only [Prod.mk.injEq] at h; exact hpy h.2))]))))
        clear hex
        refine wp_region_T (Cells [(⟨bE, 1, none⟩, .int .i64 en), (⟨bL, 2, none⟩, .int .i64 pa)]) (fun _ => false) (by kernel_rfl) ?_
        have hSss34 := Cells.drew hCF
        have hB_0_s34 : Below wF.heap.size wF wF.drew := below_drew _
        generalize wF.drew = s34 at hSss34 hB_0_s34 ⊢
        have hB_s34_s34 := Below.refl s34.heap.size s34
        refine wpAnyT_pure (i := 0) (v := ?_) rfl (by kernel_rfl) (by kernel_rfl) (by kernel_rfl) (fun _ _ _ h => h) (by rfl) ?_ ?_
        rotate_left
        · intro w; go_simp; try with_reducible rfl
        simp only [Act.put, rgA, rgB, rgC, rgD, rgE, rgF]
        refine wpAnyT_pure (i := 1) (v := ?_) rfl (by kernel_rfl) (by kernel_rfl) (by kernel_rfl) (fun _ _ _ h => h) (by rfl) ?_ ?_
        rotate_left
        · intro w; go_simp; try with_reducible rfl
        simp only [Act.put, rgA, rgB, rgC, rgD, rgE, rgF]
        refine wpAnyT_pure (i := 2) (v := ?_) rfl (by kernel_rfl) (by kernel_rfl) (by kernel_rfl) (fun _ _ _ h => h) (by rfl) ?_ ?_
        rotate_left
        · intro w; go_simp; try with_reducible rfl
        simp only [Act.put, rgA, rgB, rgC, rgD, rgE, rgF]
        refine wpAnyT_pure (i := 3) (v := ?_) rfl (by kernel_rfl) (by kernel_rfl) (by kernel_rfl) (fun _ _ _ h => h) (by rfl) ?_ ?_
        rotate_left
        · intro w; go_simp; try with_reducible rfl
        simp only [Act.put, rgA, rgB, rgC, rgD, rgE, rgF]
        refine wpAnyT_pure (i := 4) (v := (.bool true)) rfl (by kernel_rfl) (by kernel_rfl) (by kernel_rfl) (fun _ _ _ h => h) (by rfl) ?_ ?_
        · intro w; go_simp; try (first | omega | (simp; omega))
        simp only [Act.put, rgA, rgB, rgC, rgD, rgE, rgF]
        refine wpAnyT_pure (i := 5) (v := ?_) rfl (by kernel_rfl) (by kernel_rfl) (by kernel_rfl) (fun _ _ _ h => h) (by rfl) ?_ ?_
        rotate_left
        · intro w; go_simp; try with_reducible rfl
        simp only [Act.put, rgA, rgB, rgC, rgD, rgE, rgF]
        refine wpAnyT_pure (i := 6) (v := ?_) rfl (by kernel_rfl) (by kernel_rfl) (by kernel_rfl) (fun _ _ _ h => h) (by rfl) ?_ ?_
        rotate_left
        · intro w; go_simp; try with_reducible rfl
        simp only [Act.put, rgA, rgB, rgC, rgD, rgE, rgF]
        refine wpAnyT_pure (i := 8) (v := ?_) rfl (by kernel_rfl) (by kernel_rfl) (by kernel_rfl) (fun _ _ _ h => h) (by rfl) ?_ ?_
        rotate_left
        · intro w; go_simp; try with_reducible rfl
        simp only [Act.put, rgA, rgB, rgC, rgD, rgE, rgF]
        refine wpAnyT_loadW (i := 7) (v := ?_) rfl (by kernel_rfl) (by kernel_rfl) (by kernel_rfl) (by kernel_rfl) (by kernel_rfl) (fun _ _ _ h => h) (Or.inl ⟨by rfl, ?_⟩) hSss34 ?_
        rotate_left
        · intro w hSw; obtain ⟨e0, e1, -⟩ := hSw; go_simp; try with_reducible rfl
        simp only [Act.put, rgA, rgB, rgC, rgD, rgE, rgF]
        refine wpAnyT_pure (i := 9) (v := ?_) rfl (by kernel_rfl) (by kernel_rfl) (by kernel_rfl) (fun _ _ _ h => h) (by rfl) ?_ ?_
        rotate_left
        · intro w; go_simp; try with_reducible rfl
        simp only [Act.put, rgA, rgB, rgC, rgD, rgE, rgF]
        refine wpAnyT_pure (i := 10) (v := ?_) rfl (by kernel_rfl) (by kernel_rfl) (by kernel_rfl) (fun _ _ _ h => h) (by rfl) ?_ ?_
        rotate_left
        · intro w; go_simp; try with_reducible rfl
        simp only [Act.put, rgA, rgB, rgC, rgD, rgE, rgF]
        refine wpAnyT_pure (i := 11) (v := ?_) rfl (by kernel_rfl) (by kernel_rfl) (by kernel_rfl) (fun _ _ _ h => h) (by rfl) ?_ ?_
        rotate_left
        · intro w; go_simp; try with_reducible rfl
        simp only [Act.put, rgA, rgB, rgC, rgD, rgE, rgF]
        refine wpAnyT_pure (i := 13) (v := ?_) rfl (by kernel_rfl) (by kernel_rfl) (by kernel_rfl) (fun _ _ _ h => h) (by rfl) ?_ ?_
        rotate_left
        · intro w; go_simp; try with_reducible rfl
        simp only [Act.put, rgA, rgB, rgC, rgD, rgE, rgF]
        refine wpAnyT_loadW (i := 12) (v := ?_) rfl (by kernel_rfl) (by kernel_rfl) (by kernel_rfl) (by kernel_rfl) (by kernel_rfl) (fun _ _ _ h => h) (Or.inl ⟨by rfl, ?_⟩) hSss34 ?_
        rotate_left
        · intro w hSw; obtain ⟨e0, e1, -⟩ := hSw; go_simp; try with_reducible rfl
        simp only [Act.put, rgA, rgB, rgC, rgD, rgE, rgF]
        refine wpAnyT_pure (i := 14) (v := ?_) rfl (by kernel_rfl) (by kernel_rfl) (by kernel_rfl) (fun _ _ _ h => h) (by rfl) ?_ ?_
        rotate_left
        · intro w; go_simp; try with_reducible rfl
        simp only [Act.put, rgA, rgB, rgC, rgD, rgE, rgF]
        refine wpAnyT_pure (i := 15) (v := ?_) rfl (by kernel_rfl) (by kernel_rfl) (by kernel_rfl) (fun _ _ _ h => h) (by rfl) ?_ ?_
        rotate_left
        · intro w; go_simp; try with_reducible rfl
        simp only [Act.put, rgA, rgB, rgC, rgD, rgE, rgF]
        refine wpAnyT_pure (i := 16) (v := ?_) rfl (by kernel_rfl) (by kernel_rfl) (by kernel_rfl) (fun _ _ _ h => h) (by rfl) ?_ ?_
        rotate_left
        · intro w; go_simp; try with_reducible rfl
        simp only [Act.put, rgA, rgB, rgC, rgD, rgE, rgF]
        refine wpAnyT_pure (i := 17) (v := ?_) rfl (by kernel_rfl) (by kernel_rfl) (by kernel_rfl) (fun _ _ _ h => h) (by rfl) ?_ ?_
        rotate_left
        · intro w; go_simp; try with_reducible rfl
        simp only [Act.put, rgA, rgB, rgC, rgD, rgE, rgF]
        refine wpAnyT_pure (i := 18) (v := ?_) rfl (by kernel_rfl) (by kernel_rfl) (by kernel_rfl) (fun _ _ _ h => h) (by rfl) ?_ ?_
        rotate_left
        · intro w; go_simp; try with_reducible rfl
        simp only [Act.put, rgA, rgB, rgC, rgD, rgE, rgF]
        refine wpAnyT_skip (i := 19) rfl (by kernel_rfl) (by kernel_rfl) (by kernel_rfl) (fun _ _ _ h => h) (by rfl) ?_
        simp only [Act.put, rgA, rgB, rgC, rgD, rgE, rgF]
        refine wpAnyT_skip (i := 20) rfl (by kernel_rfl) (by kernel_rfl) (by kernel_rfl) (fun _ _ _ h => h) (by rfl) ?_
        simp only [Act.put, rgA, rgB, rgC, rgD, rgE, rgF]
        refine wpAnyT_skip (i := 21) rfl (by kernel_rfl) (by kernel_rfl) (by kernel_rfl) (fun _ _ _ h => h) (by rfl) ?_
        simp only [Act.put, rgA, rgB, rgC, rgD, rgE, rgF]
        refine wpAnyT_skip (i := 22) rfl (by kernel_rfl) (by kernel_rfl) (by kernel_rfl) (fun _ _ _ h => h) (by rfl) ?_
        simp only [Act.put, rgA, rgB, rgC, rgD, rgE, rgF]
        refine wpAnyT_skip (i := 23) rfl (by kernel_rfl) (by kernel_rfl) (by kernel_rfl) (fun _ _ _ h => h) (by rfl) ?_
        simp only [Act.put, rgA, rgB, rgC, rgD, rgE, rgF]
        refine wpAnyT_skip (i := 24) rfl (by kernel_rfl) (by kernel_rfl) (by kernel_rfl) (fun _ _ _ h => h) (by rfl) ?_
        simp only [Act.put, rgA, rgB, rgC, rgD, rgE, rgF]
        refine wpAnyT_skip (i := 25) rfl (by kernel_rfl) (by kernel_rfl) (by kernel_rfl) (fun _ _ _ h => h) (by rfl) ?_
        simp only [Act.put, rgA, rgB, rgC, rgD, rgE, rgF]
        refine wpAnyT_skip (i := 26) rfl (by kernel_rfl) (by kernel_rfl) (by kernel_rfl) (fun _ _ _ h => h) (by rfl) ?_
        simp only [Act.put, rgA, rgB, rgC, rgD, rgE, rgF]
        refine wpAnyT_pure (i := 27) (v := ?_) rfl (by kernel_rfl) (by kernel_rfl) (by kernel_rfl) (fun _ _ _ h => h) (by rfl) ?_ ?_
        rotate_left
        · intro w; go_simp; try with_reducible rfl
        simp only [Act.put, rgA, rgB, rgC, rgD, rgE, rgF]
        refine wpAnyT_done (by kernel_rfl) ?_ _
        have HBG := Lib.hid (below_step HBF.out hB_0_s34)
        obtain ⟨wG, rfl⟩ : ∃ q, q = s34 := ⟨_, rfl⟩
        go_wp2_with fail
        go_ret3
        exact ⟨EntP.no HNO.out, HBG.out⟩
      have hexb : (en == x) = true := by simpa using hex
      have hpyb : (pa == y) = true := by simpa using hpy
      have hexn : (en != x) = false := by simpa using hex
      have hpyn : (pa != y) = false := by simpa using hpy
      have HT2 := Lib.hid (show entS es (l.take (i + 1)) = some (en, pa) from by rw [HTK.out, if_pos (.inr (by rw [hex, hpy]))])
      clear hex hpy hi0
      obtain ⟨ib, hib⟩ : ∃ q, decide ((⟨re, rl⟩ : R2) ∈ l.take i) = q := ⟨_, rfl⟩
      have HIB := Lib.hid hib
      have htk : (l.take i).length = i := by rw [List.length_take]; have := HIL.out; omega
      have HTKL := Lib.hid htk
      have hCG : Cells [(⟨bE, 1, none⟩, .int .i64 en), (⟨bL, 2, none⟩, .int .i64 pa), (⟨b, off + i * 2, none⟩, .int .i64 re), (⟨b, off + i * 2 + 1, none⟩, .int .i64 rl)] wF := ⟨hCF.1, hCF.2.1, HRF.out.1, HRF.out.2, trivial⟩
      have hicap : i ≤ c := by have h1 := HCAP.out; have := HIL.out; omega
      have hill : i ≤ l.length := by have := HIL.out; omega
      clear hib htk
      refine wp_region_T (Cells [(⟨bE, 1, none⟩, .int .i64 en), (⟨bL, 2, none⟩, .int .i64 pa), (⟨b, off + i * 2, none⟩, .int .i64 re), (⟨b, off + i * 2 + 1, none⟩, .int .i64 rl)]) (fun _ => false) (by kernel_rfl) ?_
      have hSss35 := Cells.drew hCG
      have hB_0_s35 : Below wF.heap.size wF wF.drew := below_drew _
      generalize wF.drew = s35 at hSss35 hB_0_s35 ⊢
      have hB_s35_s35 := Below.refl s35.heap.size s35
      refine wpAnyT_pure (i := 0) (v := ?_) rfl (by kernel_rfl) (by kernel_rfl) (by kernel_rfl) (fun _ _ _ h => h) (by rfl) ?_ ?_
      rotate_left
      · intro w; go_simp; try with_reducible rfl
      simp only [Act.put, rgA, rgB, rgC, rgD, rgE, rgF]
      refine wpAnyT_pure (i := 1) (v := ?_) rfl (by kernel_rfl) (by kernel_rfl) (by kernel_rfl) (fun _ _ _ h => h) (by rfl) ?_ ?_
      rotate_left
      · intro w; go_simp; try with_reducible rfl
      simp only [Act.put, rgA, rgB, rgC, rgD, rgE, rgF]
      refine wpAnyT_pure (i := 2) (v := ?_) rfl (by kernel_rfl) (by kernel_rfl) (by kernel_rfl) (fun _ _ _ h => h) (by rfl) ?_ ?_
      rotate_left
      · intro w; go_simp; try with_reducible rfl
      simp only [Act.put, rgA, rgB, rgC, rgD, rgE, rgF]
      refine wpAnyT_pure (i := 3) (v := ?_) rfl (by kernel_rfl) (by kernel_rfl) (by kernel_rfl) (fun _ _ _ h => h) (by rfl) ?_ ?_
      rotate_left
      · intro w; go_simp; try with_reducible rfl
      simp only [Act.put, rgA, rgB, rgC, rgD, rgE, rgF]
      refine wpAnyT_pure (i := 4) (v := (.bool true)) rfl (by kernel_rfl) (by kernel_rfl) (by kernel_rfl) (fun _ _ _ h => h) (by rfl) ?_ ?_
      · intro w; go_simp; try (first | omega | (simp; omega))
      simp only [Act.put, rgA, rgB, rgC, rgD, rgE, rgF]
      refine wpAnyT_pure (i := 5) (v := ?_) rfl (by kernel_rfl) (by kernel_rfl) (by kernel_rfl) (fun _ _ _ h => h) (by rfl) ?_ ?_
      rotate_left
      · intro w; go_simp; try with_reducible rfl
      simp only [Act.put, rgA, rgB, rgC, rgD, rgE, rgF]
      refine wpAnyT_pure (i := 6) (v := ?_) rfl (by kernel_rfl) (by kernel_rfl) (by kernel_rfl) (fun _ _ _ h => h) (by rfl) ?_ ?_
      rotate_left
      · intro w; go_simp; try with_reducible rfl
      simp only [Act.put, rgA, rgB, rgC, rgD, rgE, rgF]
      refine wpAnyT_pure (i := 8) (v := ?_) rfl (by kernel_rfl) (by kernel_rfl) (by kernel_rfl) (fun _ _ _ h => h) (by rfl) ?_ ?_
      rotate_left
      · intro w; go_simp; try with_reducible rfl
      simp only [Act.put, rgA, rgB, rgC, rgD, rgE, rgF]
      refine wpAnyT_loadW (i := 7) (v := ?_) rfl (by kernel_rfl) (by kernel_rfl) (by kernel_rfl) (by kernel_rfl) (by kernel_rfl) (fun _ _ _ h => h) (Or.inl ⟨by rfl, ?_⟩) hSss35 ?_
      rotate_left
      · intro w hSw; obtain ⟨e0, e1, e2, e3, -⟩ := hSw; go_simp; try with_reducible rfl
      simp only [Act.put, rgA, rgB, rgC, rgD, rgE, rgF]
      refine wpAnyT_pure (i := 9) (v := ?_) rfl (by kernel_rfl) (by kernel_rfl) (by kernel_rfl) (fun _ _ _ h => h) (by rfl) ?_ ?_
      rotate_left
      · intro w; go_simp; try with_reducible rfl
      simp only [Act.put, rgA, rgB, rgC, rgD, rgE, rgF]
      refine wpAnyT_pure (i := 10) (v := ?_) rfl (by kernel_rfl) (by kernel_rfl) (by kernel_rfl) (fun _ _ _ h => h) (by rfl) ?_ ?_
      rotate_left
      · intro w; go_simp; try with_reducible rfl
      simp only [Act.put, rgA, rgB, rgC, rgD, rgE, rgF]
      refine wpAnyT_pure (i := 11) (v := ?_) rfl (by kernel_rfl) (by kernel_rfl) (by kernel_rfl) (fun _ _ _ h => h) (by rfl) ?_ ?_
      rotate_left
      · intro w; go_simp; try with_reducible rfl
      simp only [Act.put, rgA, rgB, rgC, rgD, rgE, rgF]
      refine wpAnyT_pure (i := 13) (v := ?_) rfl (by kernel_rfl) (by kernel_rfl) (by kernel_rfl) (fun _ _ _ h => h) (by rfl) ?_ ?_
      rotate_left
      · intro w; go_simp; try with_reducible rfl
      simp only [Act.put, rgA, rgB, rgC, rgD, rgE, rgF]
      refine wpAnyT_loadW (i := 12) (v := ?_) rfl (by kernel_rfl) (by kernel_rfl) (by kernel_rfl) (by kernel_rfl) (by kernel_rfl) (fun _ _ _ h => h) (Or.inl ⟨by rfl, ?_⟩) hSss35 ?_
      rotate_left
      · intro w hSw; obtain ⟨e0, e1, e2, e3, -⟩ := hSw; go_simp; try with_reducible rfl
      simp only [Act.put, rgA, rgB, rgC, rgD, rgE, rgF]
      refine wpAnyT_pure (i := 14) (v := ?_) rfl (by kernel_rfl) (by kernel_rfl) (by kernel_rfl) (fun _ _ _ h => h) (by rfl) ?_ ?_
      rotate_left
      · intro w; go_simp; try with_reducible rfl
      simp only [Act.put, rgA, rgB, rgC, rgD, rgE, rgF]
      refine wpAnyT_pure (i := 15) (v := ?_) rfl (by kernel_rfl) (by kernel_rfl) (by kernel_rfl) (fun _ _ _ h => h) (by rfl) ?_ ?_
      rotate_left
      · intro w; go_simp; try with_reducible rfl
      simp only [Act.put, rgA, rgB, rgC, rgD, rgE, rgF]
      refine wpAnyT_pure (i := 16) (v := ?_) rfl (by kernel_rfl) (by kernel_rfl) (by kernel_rfl) (fun _ _ _ h => h) (by rfl) ?_ ?_
      rotate_left
      · intro w; go_simp; try with_reducible rfl
      simp only [Act.put, rgA, rgB, rgC, rgD, rgE, rgF]
      refine wpAnyT_pure (i := 17) (v := ?_) rfl (by kernel_rfl) (by kernel_rfl) (by kernel_rfl) (fun _ _ _ h => h) (by rfl) ?_ ?_
      rotate_left
      · intro w; go_simp; try with_reducible rfl
      simp only [Act.put, rgA, rgB, rgC, rgD, rgE, rgF]
      refine wpAnyT_pure (i := 18) (v := ?_) rfl (by kernel_rfl) (by kernel_rfl) (by kernel_rfl) (fun _ _ _ h => h) (by rfl) ?_ ?_
      rotate_left
      · intro w; go_simp; try with_reducible rfl
      simp only [Act.put, rgA, rgB, rgC, rgD, rgE, rgF]
      refine wpAnyT_pure (i := 19) (v := ?_) rfl (by kernel_rfl) (by kernel_rfl) (by kernel_rfl) (fun _ _ _ h => h) (by rfl) ?_ ?_
      rotate_left
      · intro w; go_simp; try with_reducible rfl
      simp only [Act.put, rgA, rgB, rgC, rgD, rgE, rgF]
      refine wpAnyT_pure (i := 20) (v := ?_) rfl (by kernel_rfl) (by kernel_rfl) (by kernel_rfl) (fun _ _ _ h => h) (by rfl) ?_ ?_
      rotate_left
      · intro w; go_simp; try with_reducible rfl
      simp only [Act.put, rgA, rgB, rgC, rgD, rgE, rgF]
      refine wpAnyT_pure (i := 21) (v := ?_) rfl (by kernel_rfl) (by kernel_rfl) (by kernel_rfl) (fun _ _ _ h => h) (by rfl) ?_ ?_
      rotate_left
      · intro w; go_simp; try with_reducible rfl
      simp only [Act.put, rgA, rgB, rgC, rgD, rgE, rgF]
      refine wpAnyT_pure (i := 22) (v := ?_) rfl (by kernel_rfl) (by kernel_rfl) (by kernel_rfl) (fun _ _ _ h => h) (by rfl) ?_ ?_
      rotate_left
      · intro w; go_simp; try with_reducible rfl
      simp only [Act.put, rgA, rgB, rgC, rgD, rgE, rgF]
      refine wpAnyT_pure (i := 23) (v := ?_) rfl (by kernel_rfl) (by kernel_rfl) (by kernel_rfl) (fun _ _ _ h => h) (by rfl) ?_ ?_
      rotate_left
      · intro w; go_simp; try with_reducible rfl
      simp only [Act.put, rgA, rgB, rgC, rgD, rgE, rgF]
      refine wpAnyT_pure (i := 24) (v := ?_) rfl (by kernel_rfl) (by kernel_rfl) (by kernel_rfl) (fun _ _ _ h => h) (by rfl) ?_ ?_
      rotate_left
      · intro w; go_simp; try with_reducible rfl
      simp only [Act.put, rgA, rgB, rgC, rgD, rgE, rgF]
      refine wpAnyT_loadW (i := 25) (v := ?_) rfl (by kernel_rfl) (by kernel_rfl) (by kernel_rfl) (by kernel_rfl) (by kernel_rfl) (fun _ _ _ h => h) (Or.inl ⟨by rfl, ?_⟩) hSss35 ?_
      rotate_left
      · intro w hSw; obtain ⟨e0, e1, e2, e3, -⟩ := hSw; go_simp; try with_reducible rfl
      simp only [Act.put, rgA, rgB, rgC, rgD, rgE, rgF]
      refine wpAnyT_one (i := 26) (by kernel_rfl) rfl (by rfl) ?_
      have hbP := below_step HBF.out (hB_0_s35.trans ((hB_s35_s35).mono hB_0_s35.size))
      have hrd := (HL.out.below hbP HS2.out).take i hill
      rw [← List.map_take] at hrd
      have hin := in28 (S := S2) s35 (some ⟨b, off, none⟩) c (l.take i) ⟨re, rl⟩ (by rw [HTKL.out]; exact hrd) (fun b hb => Nat.lt_of_lt_of_le (HS2.out b hb) hbP.size)
      rw [HTKL.out] at hin
      refine wp_enter (f := 16) (args := #[.slice (some ⟨b, off, none⟩) i c, .agg #[.int .i64 re, .int .i64 rl]]) (by go_simp) hin ?_
      rw [HIB.out]
      rintro e w136 ⟨rfl, hX⟩
      clear hbP hrd hin
      have hB_s35_w136 := below_step hB_s35_s35 hX
      have hB_w136_w136 := Below.refl w136.heap.size w136
      have hSsw136 := Cells.below hB_s35_w136 hSss35
      clear hX
      refine ⟨_, rfl, fun _ _ => hSsw136, ?_⟩
      try simp only [Act.put, rgA, rgB, rgC, rgD, rgE, rgF]
      refine wpAnyT_pure (i := 27) (v := ?_) rfl (by kernel_rfl) (by kernel_rfl) (by kernel_rfl) (fun _ _ _ h => h) (by rfl) ?_ ?_
      rotate_left
      · intro w; go_simp; try with_reducible rfl
      simp only [Act.put, rgA, rgB, rgC, rgD, rgE, rgF]
      refine wpAnyT_done (by kernel_rfl) ?_ _
      have HBG := Lib.hid (below_step HBF.out (hB_0_s35.trans ((hB_s35_w136).mono hB_0_s35.size)))
      have HRWG := Lib.hid (((hB_0_s35.trans ((hB_s35_w136).mono hB_0_s35.size)).block _ (blk_lt HRWF.out)).trans HRWF.out)
      have g1 := (hSsw136).1
      have g2 := (hSsw136).2.1
      obtain ⟨wG, rfl⟩ : ∃ q, q = w136 := ⟨_, rfl⟩
      cases ib with
      | true =>
        have HNO := Lib.hid (show fo = none from by
          rw [← HFO.out]
          refine sideP_none (.inr fun hnd => ?_)
          have h2 : (l.take (i + 1)).Nodup := hnd.sublist (List.take_sublist _ _)
          rw [HTN.out, nodup_snoc] at h2
          exact h2.2 (of_decide_eq_true HIB.out))
        go_wp2_with fail
        go_ret3
        exact ⟨EntP.no HNO.out, HBG.out⟩
      | false =>
        go_wp2_with fail
        have hCH : Cells [(⟨bE, 1, none⟩, .int .i64 en), (⟨bL, 2, none⟩, .int .i64 pa)] wG := ⟨g1, g2, trivial⟩
        clear g1 g2
        refine wp_region_T (Cells [(⟨bE, 1, none⟩, .int .i64 en), (⟨bL, 2, none⟩, .int .i64 pa)]) (fun _ => false) (by kernel_rfl) ?_
        have hSss37 := Cells.drew hCH
        have hB_0_s37 : Below wG.heap.size wG wG.drew := below_drew _
        generalize wG.drew = s37 at hSss37 hB_0_s37 ⊢
        have hB_s37_s37 := Below.refl s37.heap.size s37
        refine wpAnyT_pure (i := 0) (v := ?_) rfl (by kernel_rfl) (by kernel_rfl) (by kernel_rfl) (fun _ _ _ h => h) (by rfl) ?_ ?_
        rotate_left
        · intro w; go_simp; try with_reducible rfl
        simp only [Act.put, rgA, rgB, rgC, rgD, rgE, rgF]
        refine wpAnyT_pure (i := 2) (v := ?_) rfl (by kernel_rfl) (by kernel_rfl) (by kernel_rfl) (fun _ _ _ h => h) (by rfl) ?_ ?_
        rotate_left
        · intro w; go_simp; try with_reducible rfl
        simp only [Act.put, rgA, rgB, rgC, rgD, rgE, rgF]
        refine wpAnyT_loadW (i := 1) (v := ?_) rfl (by kernel_rfl) (by kernel_rfl) (by kernel_rfl) (by kernel_rfl) (by kernel_rfl) (fun _ _ _ h => h) (Or.inl ⟨by rfl, ?_⟩) hSss37 ?_
        rotate_left
        · intro w hSw; obtain ⟨e0, e1, -⟩ := hSw; go_simp; try with_reducible rfl
        simp only [Act.put, rgA, rgB, rgC, rgD, rgE, rgF]
        refine wpAnyT_pure (i := 4) (v := ?_) rfl (by kernel_rfl) (by kernel_rfl) (by kernel_rfl) (fun _ _ _ h => h) (by rfl) ?_ ?_
        rotate_left
        · intro w; go_simp; try with_reducible rfl
        simp only [Act.put, rgA, rgB, rgC, rgD, rgE, rgF]
        refine wpAnyT_loadW (i := 3) (v := ?_) rfl (by kernel_rfl) (by kernel_rfl) (by kernel_rfl) (by kernel_rfl) (by kernel_rfl) (fun _ _ _ h => h) (Or.inl ⟨by rfl, ?_⟩) hSss37 ?_
        rotate_left
        · intro w hSw; obtain ⟨e0, e1, -⟩ := hSw; go_simp; try with_reducible rfl
        simp only [Act.put, rgA, rgB, rgC, rgD, rgE, rgF]
        refine wpAnyT_pure (i := 5) (v := ?_) rfl (by kernel_rfl) (by kernel_rfl) (by kernel_rfl) (fun _ _ _ h => h) (by rfl) ?_ ?_
        rotate_left
        · intro w; go_simp; try with_reducible rfl
        simp only [Act.put, rgA, rgB, rgC, rgD, rgE, rgF]
        refine wpAnyT_done (by kernel_rfl) ?_ _
        have HBH := Lib.hid (below_step HBG.out hB_0_s37)
        have HRWH := Lib.hid ((hB_0_s37.block _ (blk_lt HRWG.out)).trans HRWG.out)
        obtain ⟨wH, rfl⟩ : ∃ q, q = s37 := ⟨_, rfl⟩
        go_wp2_with fail
        go_roundw
        case rel =>
          refine ⟨i + 1, en, pa, HIL.out, by go_num, rfl, rfl, HT2.out, ?_, HBH.out, HRWH.out⟩
          rw [HTN.out, nodup_snoc]
          exact ⟨HND.out, of_decide_eq_false HIB.out⟩
        case measure => have := HIL.out; simp [intOf]; try omega
    · obtain rfl : i = l.length := by omega
      have hiI : ¬ ((l.length : Nat) : Int) < (l.length : Int) := by omega
      rw [List.take_length] at hst hnd
      have HE := Lib.hid (show fo = if 1 ≤ l.length ∧ l.length ≤ 12 then some (x, y) else none from by rw [← HFO.out]; unfold sideP entP; rw [hst, if_pos hnd])
      clear hst hi hil hnd hBW hrw
      by_cases h1 : 1 ≤ l.length
      · have h1I : (1 : Int) ≤ (l.length : Int) := by omega
        by_cases h12 : l.length ≤ 12
        · have h12I : (l.length : Int) ≤ 12 := by omega
          go_wp2_with fail
          go_ret3
          refine ⟨⟨x, y, true, rfl, ?_⟩, HBW.out⟩
          rw [HE.out, if_pos ⟨h1, h12⟩]; exact ⟨rfl, rfl, rfl⟩
        · have h12I : ¬ (l.length : Int) ≤ 12 := by omega
          go_wp2_with fail
          go_ret3
          refine ⟨⟨x, y, false, by first | rfl | simp [h12], ?_⟩, HBW.out⟩
          rw [HE.out, if_neg (fun h => h12 h.2)]
      · have h1I : ¬ (1 : Int) ≤ (l.length : Int) := by omega
        go_wp2_with fail
        go_ret3
        refine ⟨⟨x, y, false, by first | rfl | simp [h1], ?_⟩, HBW.out⟩
        rw [HE.out, if_neg (fun h => h1 h.1)]
end Go.Proofs.Ytpobckedeffjmaa
