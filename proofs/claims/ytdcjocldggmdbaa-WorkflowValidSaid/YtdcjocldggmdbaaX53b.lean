/- Layer 53: own. -/
import Derived.Test.YtdcjocldggmdbaaX53a
set_option linter.unusedSimpArgs false
namespace Go.Proofs.Ytdcjocldggmdbaa
open Go.RowKit Go

theorem info_str53 : (Try.prog.info? 9).map (fun i => (i.zero, i.size, i.bytes)) = some (some (.string ⟨#[]⟩), Ty.str.sz, 16) := by kernel_rfl
theorem Owns.wider53 {e : Ty} {te : TypeId} {base : Nat} {S S' : Nat → Prop} {w : World} {v : Value} {xs : List e.den} (h : Owns e te base S w v xs) (hs : ∀ b, S b → S' b) (hb : ∀ b, S' b → v.ownBlock ≠ some b ∧ b < w.heap.size) : Owns e te base S' w v xs := by
  obtain ⟨vs, h1, h2, -⟩ := h
  exact ⟨vs, h1, h2.keep (fun _ _ => rfl) hs, hb⟩
def OwnP (w : World) (xs : List taskT.den) (e : Ending) (w' : World) : Prop := ∃ (a : Option Addr) (len cap : Nat) (S : Nat → Prop), e = .returned (.slice a len cap) ∧ Rd (.sl taskT) S w' [.slice a len cap] xs ∧ (∀ b, S b → b < w'.heap.size) ∧ Below w.heap.size w w'
set_option maxRecDepth 20000 in
set_option maxHeartbeats 4000000 in
theorem own53 {T : Nat → Prop} (w : World) (a : Option Addr) (len cap : Nat) (xs : List taskT.den) (hx : Rd (.sl taskT) T w [.slice a len cap] xs) (hT : ∀ b, T b → b < w.heap.size) (hlen : len ≤ 1000) (hns : ∀ i (hi : i < xs.length), (tk xs[i]).needs.length ≤ 1000) :
    Calls Try.prog 14 #[.slice a len cap] w (OwnP w xs) := by
  obtain ⟨hl, hlc, hcm, -⟩ := id hx.sl_flat
  have HX := Lib.hid hx
  have HT := Lib.hid hT
  have HL := Lib.hid hl
  have HNS := Lib.hid hns
  clear hx hl hT hns
  go_enter Try.func14, Try.ntmps14
  go_wp2_with fail
  go_loopw [3, 4] (fun v i wr => ∃ (k : Nat) (SS : Nat → Prop), k ≤ len ∧ i = .int .i64 k ∧ Owns taskT 38 w.heap.size SS wr v (xs.take k) ∧ Below w.heap.size w wr) (fun _ i _ => len - (intOf i).toNat)
  case atStart => exact ⟨0, fun _ => False, Nat.zero_le _, rfl, Owns.nil _ _ _ _, Below.refl _ _⟩
  case round =>
    obtain ⟨k, SS, hk, rfl, hO, hB⟩ := hrel
    obtain ⟨va, vl, vc, rfl, -⟩ := hO.slice
    have HO := Lib.hid hO
    have HB := Lib.hid hB
    clear hO hB
    by_cases hlt : k < len
    · have hkI : (k : Int) < (len : Int) := by omega
      have hkx : k < xs.length := by rw [HL.out]; exact hlt
      have HXW := Lib.hid (HX.out.below HB.out HT.out)
      have HTW := Lib.hid (show ∀ b, T b → b < wr.heap.size from fun b hb => Nat.lt_of_lt_of_le (HT.out b hb) HB.out.size)
      obtain ⟨b, o, na, nl, nc, rfl, -, m0, m1, m2, m3, hnd, hnm⟩ := task_at HXW.out k hkx
      have hsucc : xs.take (k + 1) = xs.take k ++ [Tk.d (tk xs[k])] := by rw [d_tk]; exact List.take_succ_eq_append_getElem hkx
      have hnn := HNS.out k hkx
      have HK1 := Lib.hid (show (xs.take k).length = k by rw [List.length_take]; omega)
      have HSU := Lib.hid hsucc
      have HLT := Lib.hid hlt
      generalize tk xs[k] = t at m0 m1 m2 m3 hnd hnm hnn HSU
      obtain ⟨tnm, tnd, tg, ta⟩ := t
      simp only at m0 m1 m2 m3 hnd hnm hnn
      have HNM := Lib.hid hnm
      have hnl : tnd.length = nl := hnd.sl_flat.1
      have HNL := Lib.hid hnl
      have HND := Lib.hid hnd
      have hnlb : nl ≤ 1000 := by omega
      have HC0 : Cells [(⟨b, o + k * 4, none⟩, .string tnm), (⟨b, o + k * 4 + 1, none⟩, .slice na nl nc), (⟨b, o + k * 4 + 2, none⟩, .bool tg), (⟨b, o + k * 4 + 3, none⟩, .bool ta)] wr := ⟨m0, m1, m2, m3, trivial⟩
      clear hsucc hkx hlt hnd hnm hnl hnn
      go_wp2_with fail
      refine wp_region_T (Cells [(⟨b, o + k * 4, none⟩, .string tnm), (⟨b, o + k * 4 + 1, none⟩, .slice na nl nc), (⟨b, o + k * 4 + 2, none⟩, .bool tg), (⟨b, o + k * 4 + 3, none⟩, .bool ta)]) (fun i => i == 25) (by kernel_rfl) ?_
      have hSss1 := Cells.drew HC0
      have hB_0_s1 : Below wr.heap.size wr wr.drew := below_drew _
      generalize wr.drew = s1 at hSss1 hB_0_s1 ⊢
      have hB_s1_s1 := Below.refl s1.heap.size s1
      refine wpAnyT_pure (i := 0) (v := ?_) rfl (by kernel_rfl) (by kernel_rfl) (by kernel_rfl) (fun _ _ _ h => h) (by rfl) ?_ ?_
      rotate_left
      · intro w; go_simp; try with_reducible rfl
      simp only [Act.put, List.setIfInBounds_toArray, List.set_cons_zero, List.set_cons_succ, List.getElem_toArray, List.getElem_cons_succ, List.getElem_cons_zero]
      refine wpAnyT_pure (i := 1) (v := ?_) rfl (by kernel_rfl) (by kernel_rfl) (by kernel_rfl) (fun _ _ _ h => h) (by rfl) ?_ ?_
      rotate_left
      · intro w; go_simp; try with_reducible rfl
      simp only [Act.put, List.setIfInBounds_toArray, List.set_cons_zero, List.set_cons_succ, List.getElem_toArray, List.getElem_cons_succ, List.getElem_cons_zero]
      refine wpAnyT_pure (i := 2) (v := ?_) rfl (by kernel_rfl) (by kernel_rfl) (by kernel_rfl) (fun _ _ _ h => h) (by rfl) ?_ ?_
      rotate_left
      · intro w; go_simp; try with_reducible rfl
      simp only [Act.put, List.setIfInBounds_toArray, List.set_cons_zero, List.set_cons_succ, List.getElem_toArray, List.getElem_cons_succ, List.getElem_cons_zero]
      refine wpAnyT_pure (i := 3) (v := ?_) rfl (by kernel_rfl) (by kernel_rfl) (by kernel_rfl) (fun _ _ _ h => h) (by rfl) ?_ ?_
      rotate_left
      · intro w; go_simp; try with_reducible rfl
      simp only [Act.put, List.setIfInBounds_toArray, List.set_cons_zero, List.set_cons_succ, List.getElem_toArray, List.getElem_cons_succ, List.getElem_cons_zero]
      refine wpAnyT_pure (i := 4) (v := ?_) rfl (by kernel_rfl) (by kernel_rfl) (by kernel_rfl) (fun _ _ _ h => h) (by rfl) ?_ ?_
      rotate_left
      · intro w; go_simp; try with_reducible rfl
      simp only [Act.put, List.setIfInBounds_toArray, List.set_cons_zero, List.set_cons_succ, List.getElem_toArray, List.getElem_cons_succ, List.getElem_cons_zero]
      refine wpAnyT_pure (i := 7) (v := ?_) rfl (by kernel_rfl) (by kernel_rfl) (by kernel_rfl) (fun _ _ _ h => h) (by rfl) ?_ ?_
      rotate_left
      · intro w; go_simp; try with_reducible rfl
      simp only [Act.put, List.setIfInBounds_toArray, List.set_cons_zero, List.set_cons_succ, List.getElem_toArray, List.getElem_cons_succ, List.getElem_cons_zero]
      refine wpAnyT_pure (i := 8) (v := ?_) rfl (by kernel_rfl) (by kernel_rfl) (by kernel_rfl) (fun _ _ _ h => h) (by rfl) ?_ ?_
      rotate_left
      · intro w; go_simp; try with_reducible rfl
      simp only [Act.put, List.setIfInBounds_toArray, List.set_cons_zero, List.set_cons_succ, List.getElem_toArray, List.getElem_cons_succ, List.getElem_cons_zero]
      refine wpAnyT_pure (i := 9) (v := ?_) rfl (by kernel_rfl) (by kernel_rfl) (by kernel_rfl) (fun _ _ _ h => h) (by rfl) ?_ ?_
      rotate_left
      · intro w; go_simp; try with_reducible rfl
      simp only [Act.put, List.setIfInBounds_toArray, List.set_cons_zero, List.set_cons_succ, List.getElem_toArray, List.getElem_cons_succ, List.getElem_cons_zero]
      refine wpAnyT_pure (i := 10) (v := ?_) rfl (by kernel_rfl) (by kernel_rfl) (by kernel_rfl) (fun _ _ _ h => h) (by rfl) ?_ ?_
      rotate_left
      · intro w; go_simp; try with_reducible rfl
      simp only [Act.put, List.setIfInBounds_toArray, List.set_cons_zero, List.set_cons_succ, List.getElem_toArray, List.getElem_cons_succ, List.getElem_cons_zero]
      refine wpAnyT_pure (i := 13) (v := ?_) rfl (by kernel_rfl) (by kernel_rfl) (by kernel_rfl) (fun _ _ _ h => h) (by rfl) ?_ ?_
      rotate_left
      · intro w; go_simp; try with_reducible rfl
      simp only [Act.put, List.setIfInBounds_toArray, List.set_cons_zero, List.set_cons_succ, List.getElem_toArray, List.getElem_cons_succ, List.getElem_cons_zero]
      refine wpAnyT_pure (i := 14) (v := ?_) rfl (by kernel_rfl) (by kernel_rfl) (by kernel_rfl) (fun _ _ _ h => h) (by rfl) ?_ ?_
      rotate_left
      · intro w; go_simp; try with_reducible rfl
      simp only [Act.put, List.setIfInBounds_toArray, List.set_cons_zero, List.set_cons_succ, List.getElem_toArray, List.getElem_cons_succ, List.getElem_cons_zero]
      refine wpAnyT_pure (i := 15) (v := ?_) rfl (by kernel_rfl) (by kernel_rfl) (by kernel_rfl) (fun _ _ _ h => h) (by rfl) ?_ ?_
      rotate_left
      · intro w; go_simp; try with_reducible rfl
      simp only [Act.put, List.setIfInBounds_toArray, List.set_cons_zero, List.set_cons_succ, List.getElem_toArray, List.getElem_cons_succ, List.getElem_cons_zero]
      refine wpAnyT_pure (i := 16) (v := ?_) rfl (by kernel_rfl) (by kernel_rfl) (by kernel_rfl) (fun _ _ _ h => h) (by rfl) ?_ ?_
      rotate_left
      · intro w; go_simp; try with_reducible rfl
      simp only [Act.put, List.setIfInBounds_toArray, List.set_cons_zero, List.set_cons_succ, List.getElem_toArray, List.getElem_cons_succ, List.getElem_cons_zero]
      refine wpAnyT_pure (i := 18) (v := ?_) rfl (by kernel_rfl) (by kernel_rfl) (by kernel_rfl) (fun _ _ _ h => h) (by rfl) ?_ ?_
      rotate_left
      · intro w; go_simp; try with_reducible rfl
      simp only [Act.put, List.setIfInBounds_toArray, List.set_cons_zero, List.set_cons_succ, List.getElem_toArray, List.getElem_cons_succ, List.getElem_cons_zero]
      refine wpAnyT_pure (i := 19) (v := ?_) rfl (by kernel_rfl) (by kernel_rfl) (by kernel_rfl) (fun _ _ _ h => h) (by rfl) ?_ ?_
      rotate_left
      · intro w; go_simp; try with_reducible rfl
      simp only [Act.put, List.setIfInBounds_toArray, List.set_cons_zero, List.set_cons_succ, List.getElem_toArray, List.getElem_cons_succ, List.getElem_cons_zero]
      refine wpAnyT_pure (i := 20) (v := ?_) rfl (by kernel_rfl) (by kernel_rfl) (by kernel_rfl) (fun _ _ _ h => h) (by rfl) ?_ ?_
      rotate_left
      · intro w; go_simp; try with_reducible rfl
      simp only [Act.put, List.setIfInBounds_toArray, List.set_cons_zero, List.set_cons_succ, List.getElem_toArray, List.getElem_cons_succ, List.getElem_cons_zero]
      refine wpAnyT_pure (i := 21) (v := ?_) rfl (by kernel_rfl) (by kernel_rfl) (by kernel_rfl) (fun _ _ _ h => h) (by rfl) ?_ ?_
      rotate_left
      · intro w; go_simp; try with_reducible rfl
      simp only [Act.put, List.setIfInBounds_toArray, List.set_cons_zero, List.set_cons_succ, List.getElem_toArray, List.getElem_cons_succ, List.getElem_cons_zero]
      refine wpAnyT_loadW (i := 5) (v := ?_) rfl (by kernel_rfl) (by kernel_rfl) (by kernel_rfl) (by kernel_rfl) (by kernel_rfl) (fun _ _ _ h => h) (Or.inl ⟨by rfl, ?_⟩) hSss1 ?_
      rotate_left
      · intro w hSw; obtain ⟨e0, e1, e2, e3, -⟩ := hSw; go_simp; try with_reducible rfl
      simp only [Act.put, List.setIfInBounds_toArray, List.set_cons_zero, List.set_cons_succ, List.getElem_toArray, List.getElem_cons_succ, List.getElem_cons_zero]
      refine wpAnyT_loadW (i := 11) (v := ?_) rfl (by kernel_rfl) (by kernel_rfl) (by kernel_rfl) (by kernel_rfl) (by kernel_rfl) (fun _ _ _ h => h) (Or.inl ⟨by rfl, ?_⟩) hSss1 ?_
      rotate_left
      · intro w hSw; obtain ⟨e0, e1, e2, e3, -⟩ := hSw; go_simp; try with_reducible rfl
      simp only [Act.put, List.setIfInBounds_toArray, List.set_cons_zero, List.set_cons_succ, List.getElem_toArray, List.getElem_cons_succ, List.getElem_cons_zero]
      refine wpAnyT_loadW (i := 17) (v := ?_) rfl (by kernel_rfl) (by kernel_rfl) (by kernel_rfl) (by kernel_rfl) (by kernel_rfl) (fun _ _ _ h => h) (Or.inl ⟨by rfl, ?_⟩) hSss1 ?_
      rotate_left
      · intro w hSw; obtain ⟨e0, e1, e2, e3, -⟩ := hSw; go_simp; try with_reducible rfl
      simp only [Act.put, List.setIfInBounds_toArray, List.set_cons_zero, List.set_cons_succ, List.getElem_toArray, List.getElem_cons_succ, List.getElem_cons_zero]
      refine wpAnyT_loadW (i := 22) (v := ?_) rfl (by kernel_rfl) (by kernel_rfl) (by kernel_rfl) (by kernel_rfl) (by kernel_rfl) (fun _ _ _ h => h) (Or.inl ⟨by rfl, ?_⟩) hSss1 ?_
      rotate_left
      · intro w hSw; obtain ⟨e0, e1, e2, e3, -⟩ := hSw; go_simp; try with_reducible rfl
      simp only [Act.put, List.setIfInBounds_toArray, List.set_cons_zero, List.set_cons_succ, List.getElem_toArray, List.getElem_cons_succ, List.getElem_cons_zero]
      refine wpAnyT_one (i := 6) (by kernel_rfl) rfl (by rfl) ?_
      obtain ⟨b6, hb6⟩ : ∃ b, s1.heap.size = b := ⟨_, rfl⟩
      have hge6 : s1.heap.size ≤ b6 := hb6 ▸ (hB_s1_s1).size
      refine wp_newrow (v := .slice (some ⟨b6, 0, none⟩) 0 0) (cs := #[]) (te := 9) (by rw [← hb6]; go_simp) ?_
      intro w102 hX hN6
      rw [hb6] at hN6
      have hB_s1_w102 := below_step hB_s1_s1 hX
      have hB_w102_w102 := Below.refl w102.heap.size w102
      have hSsw102 := Cells.below hB_s1_w102 hSss1
      clear hX
      refine ⟨fun _ _ => hSsw102, ?_⟩
      try simp only [Act.put, List.setIfInBounds_toArray, List.set_cons_zero, List.set_cons_succ, List.getElem_toArray, List.getElem_cons_succ, List.getElem_cons_zero]
      refine wpAnyT_one (i := 12) (by kernel_rfl) rfl (by rfl) ?_
      have hq6 := ((hB_w102_w102).block _ (blk_lt hN6)).trans hN6
      have hbP : Below wr.heap.size wr w102 := hB_0_s1.trans ((hB_s1_w102).mono hB_0_s1.size)
      refine wp_appLit (.tmp 17) (.tmp 22) 36 rfl (e := .str) (te := 9) info_str53 Try.underlying36 rfl (by decide) (S := T) (base := s1.heap.size) (b := b6) (by kernel_rfl) hq6 hge6 (sv := .slice na nl nc) (by kernel_rfl) (ys := tnd) (HND.out.below hbP HTW.out) (fun x hx => ⟨by have h1 := HTW.out x hx; have h2 := (hB_0_s1).size; omega, Nat.lt_of_lt_of_le (HTW.out x hx) hbP.size⟩) (by rw [HNL.out]; omega) (by rw [HNL.out]; omega) ?_
      intro ca12 cl12 cc12 w103 O12 hX
      have HO12 := Lib.hid (Owns.flat (e := .str) rfl O12)
      clear O12 hbP hq6
      have hB_s1_w103 := below_step hB_s1_w102 hX
      have hB_w102_w103 := below_step hB_w102_w102 hX
      have hB_w103_w103 := Below.refl w103.heap.size w103
      have hSsw103 := Cells.below hB_s1_w103 hSss1
      clear hX
      refine ⟨fun _ _ => hSsw103, ?_⟩
      try simp only [Act.put, List.setIfInBounds_toArray, List.set_cons_zero, List.set_cons_succ, List.getElem_toArray, List.getElem_cons_succ, List.getElem_cons_zero]
      refine wpAnyT_pure (i := 23) (v := ?_) rfl (by kernel_rfl) (by kernel_rfl) (by kernel_rfl) (fun _ _ _ h => h) (by rfl) ?_ ?_
      rotate_left
      · intro w; go_simp; try with_reducible rfl
      simp only [Act.put, List.setIfInBounds_toArray, List.set_cons_zero, List.set_cons_succ, List.getElem_toArray, List.getElem_cons_succ, List.getElem_cons_zero]
      refine wpAnyT_one (i := 24) (by kernel_rfl) rfl (by rfl) ?_
      obtain ⟨b24, hb24⟩ : ∃ b, w103.heap.size = b := ⟨_, rfl⟩
      refine wp_newrow (v := .slice (some ⟨b24, 0, none⟩) 1 1) (cs := #[.string tnm, .slice ca12 cl12 cc12, .bool tg, .bool ta]) (te := 38) (by rw [← hb24]; go_simp) ?_
      intro w104 hX hN24
      rw [hb24] at hN24
      have hB_s1_w104 := below_step hB_s1_w103 hX
      have hB_w102_w104 := below_step hB_w102_w103 hX
      have hB_w103_w104 := below_step hB_w103_w103 hX
      have hB_w104_w104 := Below.refl w104.heap.size w104
      have hSsw104 := Cells.below hB_s1_w104 hSss1
      clear hX
      refine ⟨fun _ _ => hSsw104, ?_⟩
      try simp only [Act.put, List.setIfInBounds_toArray, List.set_cons_zero, List.set_cons_succ, List.getElem_toArray, List.getElem_cons_succ, List.getElem_cons_zero]
      refine wpAnyT_one (i := 25) (by kernel_rfl) rfl (by rfl) ?_
      have hbP : Below wr.heap.size wr w104 := hB_0_s1.trans ((hB_s1_w104).mono (hB_0_s1).size)
      have hO12 := HO12.out.below hB_w103_w104
      have hOP := (HO.out.below hbP).wider53 (S' := fun b => SS b ∨ (Value.slice ca12 cl12 cc12).ownBlock = some b) (fun _ h => .inl h) (fun b hb => hb.elim (fun h => ⟨((HO.out.below hbP).bound b h).1, ((HO.out.below hbP).bound b h).2⟩) (fun e => ⟨fun e' => by
        have h1 := (hO12.own b e).1
        have h2 := (HO.out.own b e').2
        have h3 := (hB_0_s1).size
        omega, (hO12.own b e).2⟩))
      have HBP := Lib.hid hbP
      refine wp_app (.tmp 11) (.tmp 35) 33 rfl (e := taskT) (te := 38) info_task Try.underlying33 rfl (by decide) (base := w.heap.size) (S := fun b => SS b ∨ (Value.slice ca12 cl12 cc12).ownBlock = some b) (v := .slice va vl vc) (xs := xs.take k) (by kernel_rfl) hOP (Nat.le_trans HB.out.size hbP.size) (sv := .slice (some ⟨b24, 0, none⟩) 1 1) (by kernel_rfl) (ys := [Tk.d ⟨tnm, tnd, tg, ta⟩]) (Src.of_cells (news := [.string tnm, .slice ca12 cl12 cc12, .bool tg, .bool ta]) (fun j u hu => by rw [Nat.zero_add, blk_cell hN24]; simpa using hu)) (RdL.one (e := taskT) (task_rd (t := ⟨tnm, tnd, tg, ta⟩) HNM.out (hO12.rd _ (fun _ h => h.elim) (fun b hb => .inr hb)))) (by have h1 := HK1.out; have h2 := HLT.out; rw [h1]; simp only [List.length_singleton]; omega) (by have h1 := HK1.out; have h2 := HLT.out; rw [h1]; simp only [List.length_singleton]; omega) ?_
      intro ca9 cl9 cc9 w105 O9 g9 ob9
      have hgr9 : Below w.heap.size w w105 := (HB.out.trans (hbP.mono HB.out.size)).grown g9 (by have := HB.out.size; have := hbP.size; omega) (fun c hc => (HO.out.own c hc).1)
      refine ⟨fun h => absurd h (by decide), ?_⟩
      try simp only [Act.put, List.setIfInBounds_toArray, List.set_cons_zero, List.set_cons_succ, List.getElem_toArray, List.getElem_cons_succ, List.getElem_cons_zero]
      refine wpAnyT_pure (i := 26) (v := ?_) rfl (by kernel_rfl) (by kernel_rfl) (by kernel_rfl) (fun _ _ _ h => h) (by rfl) ?_ ?_
      rotate_left
      · intro w; go_simp; try with_reducible rfl
      simp only [Act.put, List.setIfInBounds_toArray, List.set_cons_zero, List.set_cons_succ, List.getElem_toArray, List.getElem_cons_succ, List.getElem_cons_zero]
      refine wpAnyT_done (by kernel_rfl) ?_ _
      obtain ⟨w9, rfl⟩ : ∃ x, x = w105 := ⟨_, rfl⟩
      have HO9 := Lib.hid O9
      have HB9 := Lib.hid hgr9
      have hl1 := HLT.out
      clear O9 g9 ob9 hgr9 hOP hO12 hbP
      go_wp2_with fail
      go_roundw
      case rel => exact ⟨k + 1, _, HLT.out, by go_num, by rw [HSU.out]; exact HO9.out, HB9.out⟩
      case measure => simp [intOf]; try omega
    · obtain rfl : k = len := by omega
      have hall : xs.take k = xs := List.take_of_length_le (by rw [HL.out]; exact Nat.le_refl _)
      rw [hall] at HO
      clear hlt hall
      go_wp2_with fail
      go_ret
      exact ⟨_, _, _, fun b => SS b ∨ (Value.slice va vl vc).ownBlock = some b, rfl, HO.out.rd _ (fun b hb => .inl hb) (fun b hb => .inr hb), fun b hb => hb.elim (fun h => (HO.out.bound b h).2) (fun h => (HO.out.own b h).2), HB.out⟩
end Go.Proofs.Ytdcjocldggmdbaa
