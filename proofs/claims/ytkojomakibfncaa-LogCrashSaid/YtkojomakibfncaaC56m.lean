/- Layer 56: the reference's Ends. -/
import Derived.Test.YtkojomakibfncaaP56d
import Derived.Test.YtkojomakibfncaaC56d
set_option linter.unusedSimpArgs false
namespace Go.Proofs.Ytkojomakibfncaa
open Go.RowKit Go

theorem info_int : (Try.prog.info? 3).map (fun i => (i.zero, i.size, i.bytes)) = some (some (.int .i64 0), 1, 8) := by kernel_rfl
theorem wf_i64b {x : Int} (h0 : 0 ≤ x) (h1 : x ≤ 1000000000) : (Lit.int .i64 x).wf = true := by
  simp [Lit.wf, IntKind.min, IntKind.max, IntKind.signed, IntKind.bits]
  omega
def endsI (rs : List (List Int)) : List Int := (List.range (rs.length + 1)).map fun i => (endI rs i : Int)
theorem endsI_at (rs : List (List Int)) (i : Nat) (h : i ≤ rs.length) : (endsI rs)[i]?.getD 0 = endI rs i := by
  unfold endsI
  rw [List.getElem?_map, List.getElem?_range (by omega)]; rfl
theorem endsI_len (rs : List (List Int)) : (endsI rs).length = rs.length + 1 := by simp [endsI]
theorem endI_take_lt (rs : List (List Int)) (n : Nat) (h : n < rs.length) (hb : (bytesI rs).length ≤ 1000000000) : endI rs n + 16 + rs[n].length ≤ 1000000000 := by
  have h1 := endI_mono rs (n + 1) rs.length (by omega) (Nat.le_refl _)
  rw [endI_all, endI_succ rs n h] at h1
  omega

set_option maxHeartbeats 1000000 in
theorem ends_sum {S : Nat → Prop} (w : World) (a : Option Addr) (len cap : Nat) (rs : List (List Int)) (hx : Rd (.sl rowT) S w [.slice a len cap] rs) (hS : ∀ b, S b → b < w.heap.size) (hb : (bytesI rs).length ≤ 1000000000) (hn : len ≤ 1000000) :
    Calls Try.prog 19 #[.slice a len cap] w fun e w' => ∃ v, e = .returned v ∧ Below w.heap.size w w' ∧ Owns (.int .i64) 3 w.heap.size (fun _ => False) w' v (endsI rs) := by
  obtain ⟨hl, hc, hm, -⟩ := hx.rows
  have HX := Lib.hid hx
  have HL := Lib.hid hl
  have HS := Lib.hid hS
  have HB := Lib.hid hb
  clear hx hl hS hb
  go_enter Try.func19, Try.ntmps19
  go_wp2
  have hO0 : Owns (.int .i64) 3 w.heap.size (fun _ => False) (w.alloc (.cells #[.int .i64 8] 3)) (.slice (some ⟨w.heap.size, 0, none⟩) 1 1) ((List.range 1).map fun i => (endI rs i : Int)) :=
    Owns.lit (e := .int .i64) w (vs := [.int .i64 8]) (xs := [8]) (RdL.int1 (by decide)) (Nat.le_refl _) (fun _ h => h.elim) (by simp)
  have HO0 := Lib.hid hO0
  clear hO0
  go_loopw [3, 4] (fun v i wr => ∃ (k : Nat), k ≤ len ∧ i = .int .i64 k ∧ Owns (.int .i64) 3 w.heap.size (fun _ => False) wr v ((List.range (k + 1)).map fun i => (endI rs i : Int)) ∧ Below w.heap.size w wr) (fun _ i _ => len - (intOf i).toNat)
  case atStart => exact ⟨0, Nat.zero_le _, rfl, HO0.out, (Below.refl _ _).alloc (Nat.le_refl _) _⟩
  case round =>
    obtain ⟨k, hk, rfl, hO, hB⟩ := hrel
    have hsz := hB.size
    obtain ⟨av, lv, cv, rfl, -⟩ := hO.slice
    have hlvc := (hO.rd (fun b => b < wr.heap.size) (fun _ h => h.elim) (fun b hb => (hO.own b hb).2)).ints
    obtain ⟨hlv, hlc, hlm, hat, -⟩ := hlvc
    rw [List.length_map, List.length_range] at hlv
    subst hlv
    obtain ⟨g, o, rfl, hg, hcell⟩ := hat k (by omega)
    rw [List.getElem?_map, List.getElem?_range (by omega)] at hcell
    simp only [Option.map_some, Option.getD_some] at hcell
    have HO := Lib.hid hO
    clear hO hat
    by_cases hlt : k < len
    · have hkr : k < rs.length := by rw [HL.out]; exact hlt
      obtain ⟨-, -, -, h4⟩ := (HX.out.keep (S' := S) (fun b hb => hB.block b (HS.out b hb)) (fun _ h => h)).rows
      obtain ⟨b, off, a', l', c', rfl, hb, hcx, hrow⟩ := h4 k hkr
      have hl' : List.length rs[k] = l' := hrow.ints.1
      have hbd := endI_take_lt rs k hkr HB.out
      rw [hl'] at hbd
      have hsucc := endI_succ rs k hkr
      rw [hl'] at hsucc
      have HSU := Lib.hid hsucc
      clear h4 hrow hl' hsucc
      obtain ⟨ek, hek⟩ : ∃ ek : Int, (endI rs k : Int) = ek := ⟨_, rfl⟩
      have hek0 : 0 ≤ ek ∧ ek + 16 + l' ≤ 1000000000 := by omega
      have hwe : (Lit.int .i64 (ek + 16 + l')).wf = true := wf_i64b (by omega) (by omega)
      rw [hek] at hcell
      have HEK := Lib.hid hek
      clear hek hbd
      have hw1 : IntKind.i64.wrap (ek + 16) = ek + 16 := IntWalk.i64_in _ (by omega)
      have hw2 : IntKind.i64.wrap (ek + 16 + l') = ek + 16 + l' := IntWalk.i64_in _ (by omega)
      have hkk : (k : Int) < (k : Int) + 1 := by omega
      have hkl : (k : Int) < (len : Int) := by omega
      go_wp2_with fail
      refine wp_region_T (fun w' => w'.cell? ⟨g, o + k, none⟩ = some (.int .i64 ek) ∧ w'.cell? ⟨b, off + k, none⟩ = some (.slice a' l' c')) (fun i => i == 12 || i == 13) (by kernel_rfl) ?_
      have hS0 : wr.drew.cell? ⟨g, o + k, none⟩ = some (.int .i64 ek) ∧ wr.drew.cell? ⟨b, off + k, none⟩ = some (.slice a' l' c') := ⟨hcell, hcx⟩
      refine wpAnyT_pure (i := 0) (v := ?_) rfl (by kernel_rfl) (by kernel_rfl) (by kernel_rfl) (fun _ _ _ h => h) (by rfl) ?_ ?_
      rotate_left
      · intro w; go_simp; try with_reducible rfl
      simp only [Act.put, List.setIfInBounds_toArray, List.set_cons_zero, List.set_cons_succ, List.getElem_toArray, List.getElem_cons_succ, List.getElem_cons_zero]
      refine wpAnyT_pure (i := 1) (v := ?_) rfl (by kernel_rfl) (by kernel_rfl) (by kernel_rfl) (fun _ _ _ h => h) (by rfl) ?_ ?_
      rotate_left
      · intro w; go_simp; try with_reducible rfl
      simp only [Act.put, List.setIfInBounds_toArray, List.set_cons_zero, List.set_cons_succ, List.getElem_toArray, List.getElem_cons_succ, List.getElem_cons_zero]
      refine wpAnyT_pure (i := 2) (v := ?_) rfl (by kernel_rfl) (by kernel_rfl) (by kernel_rfl) (fun _ _ _ h => h) (by rfl) ?_ ?_
      rotate_left
      · intro w; go_simp; try with_reducible rfl
      simp only [Act.put, List.setIfInBounds_toArray, List.set_cons_zero, List.set_cons_succ, List.getElem_toArray, List.getElem_cons_succ, List.getElem_cons_zero]
      refine wpAnyT_pure (i := 3) (v := ?_) rfl (by kernel_rfl) (by kernel_rfl) (by kernel_rfl) (fun _ _ _ h => h) (by rfl) ?_ ?_
      rotate_left
      · intro w; go_simp; try with_reducible rfl
      simp only [Act.put, List.setIfInBounds_toArray, List.set_cons_zero, List.set_cons_succ, List.getElem_toArray, List.getElem_cons_succ, List.getElem_cons_zero]
      refine wpAnyT_pure (i := 6) (v := ?_) rfl (by kernel_rfl) (by kernel_rfl) (by kernel_rfl) (fun _ _ _ h => h) (by rfl) ?_ ?_
      rotate_left
      · intro w; go_simp; try with_reducible rfl
      simp only [Act.put, List.setIfInBounds_toArray, List.set_cons_zero, List.set_cons_succ, List.getElem_toArray, List.getElem_cons_succ, List.getElem_cons_zero]
      refine wpAnyT_pure (i := 7) (v := ?_) rfl (by kernel_rfl) (by kernel_rfl) (by kernel_rfl) (fun _ _ _ h => h) (by rfl) ?_ ?_
      rotate_left
      · intro w; go_simp; try with_reducible rfl
      simp only [Act.put, List.setIfInBounds_toArray, List.set_cons_zero, List.set_cons_succ, List.getElem_toArray, List.getElem_cons_succ, List.getElem_cons_zero]
      refine wpAnyT_pure (i := 8) (v := ?_) rfl (by kernel_rfl) (by kernel_rfl) (by kernel_rfl) (fun _ _ _ h => h) (by rfl) ?_ ?_
      rotate_left
      · intro w; go_simp; try with_reducible rfl
      simp only [Act.put, List.setIfInBounds_toArray, List.set_cons_zero, List.set_cons_succ, List.getElem_toArray, List.getElem_cons_succ, List.getElem_cons_zero]
      refine wpAnyT_loadW (i := 4) (v := ?_) rfl (by kernel_rfl) (by kernel_rfl) (by kernel_rfl) (by kernel_rfl) (by kernel_rfl) (fun _ _ _ h => h) (Or.inl ⟨by rfl, ?_⟩) hS0 ?_
      rotate_left
      · intro w hSw; obtain ⟨e0, e1⟩ := hSw; go_simp; try with_reducible rfl
      simp only [Act.put, List.setIfInBounds_toArray, List.set_cons_zero, List.set_cons_succ, List.getElem_toArray, List.getElem_cons_succ, List.getElem_cons_zero]
      refine wpAnyT_pure (i := 5) (v := ?_) rfl (by kernel_rfl) (by kernel_rfl) (by kernel_rfl) (fun _ _ _ h => h) (by rfl) ?_ ?_
      rotate_left
      · intro w; go_simp; try with_reducible rfl
      simp only [Act.put, List.setIfInBounds_toArray, List.set_cons_zero, List.set_cons_succ, List.getElem_toArray, List.getElem_cons_succ, List.getElem_cons_zero]
      refine wpAnyT_loadW (i := 9) (v := ?_) rfl (by kernel_rfl) (by kernel_rfl) (by kernel_rfl) (by kernel_rfl) (by kernel_rfl) (fun _ _ _ h => h) (Or.inl ⟨by rfl, ?_⟩) hS0 ?_
      rotate_left
      · intro w hSw; obtain ⟨e0, e1⟩ := hSw; go_simp; try with_reducible rfl
      simp only [Act.put, List.setIfInBounds_toArray, List.set_cons_zero, List.set_cons_succ, List.getElem_toArray, List.getElem_cons_succ, List.getElem_cons_zero]
      refine wpAnyT_pure (i := 10) (v := ?_) rfl (by kernel_rfl) (by kernel_rfl) (by kernel_rfl) (fun _ _ _ h => h) (by rfl) ?_ ?_
      rotate_left
      · intro w; go_simp; try with_reducible rfl
      simp only [Act.put, List.setIfInBounds_toArray, List.set_cons_zero, List.set_cons_succ, List.getElem_toArray, List.getElem_cons_succ, List.getElem_cons_zero]
      refine wpAnyT_pure (i := 11) (v := ?_) rfl (by kernel_rfl) (by kernel_rfl) (by kernel_rfl) (fun _ _ _ h => h) (by rfl) ?_ ?_
      rotate_left
      · intro w; go_simp; try with_reducible rfl
      simp only [Act.put, List.setIfInBounds_toArray, List.set_cons_zero, List.set_cons_succ, List.getElem_toArray, List.getElem_cons_succ, List.getElem_cons_zero]
      refine wpAnyT_one (i := 12) (by kernel_rfl) rfl (by rfl) ?_
      refine wp_new1 (v := .slice (some ⟨wr.heap.size, 0, none⟩) 1 1) (u := .int .i64 (ek + 16 + l')) (te := 3) (by go_simp) ?_
      intro w2 hB2 hc2
      replace hB2 : Below wr.heap.size wr w2 := (below_drew wr).trans hB2
      replace hc2 : w2.cell? ⟨wr.heap.size, 0, none⟩ = some (.int .i64 (ek + 16 + l')) := hc2
      refine ⟨fun h => absurd h (by decide), ?_⟩
      simp only [Act.put, List.setIfInBounds_toArray, List.set_cons_zero, List.set_cons_succ, List.getElem_toArray, List.getElem_cons_succ, List.getElem_cons_zero]
      refine wpAnyT_one (i := 13) (by kernel_rfl) rfl (by rfl) ?_
      refine wp_app (.tmp 12) (.tmp 24) 40 rfl (e := .int .i64) (te := 3) info_int Try.underlying40 rfl (by decide) (base := w.heap.size) (S := fun _ => False) (v := .slice (some ⟨g, o, none⟩) (k + 1) cv) (xs := (List.range (k + 1)).map fun i => (endI rs i : Int)) (by kernel_rfl) (HO.out.below hB2) (Nat.le_trans hsz hB2.size) (sv := .slice (some ⟨wr.heap.size, 0, none⟩) 1 1) (by kernel_rfl) (ys := [ek + 16 + l']) (Src.of_cell rfl hc2) (RdL.int1 hwe) (by simp only [List.length_map, List.length_range, List.length_cons, List.length_nil]; omega) (by simp only [List.length_map, List.length_range, List.length_cons, List.length_nil]; omega) ?_
      intro ca cl cc w3 O3 g3 _
      have hB3 := (hB.trans (hB2.mono hsz)).grown g3 (Nat.le_trans hsz hB2.size) (fun b e => (HO.out.own b e).1)
      refine ⟨fun h => absurd h (by decide), ?_⟩
      simp only [Act.put, List.setIfInBounds_toArray, List.set_cons_zero, List.set_cons_succ, List.getElem_toArray, List.getElem_cons_succ, List.getElem_cons_zero]
      refine wpAnyT_pure (i := 14) (v := ?_) rfl (by kernel_rfl) (by kernel_rfl) (by kernel_rfl) (fun _ _ _ h => h) (by rfl) ?_ ?_
      rotate_left
      · intro w; go_simp; try with_reducible rfl
      simp only [Act.put, List.setIfInBounds_toArray, List.set_cons_zero, List.set_cons_succ, List.getElem_toArray, List.getElem_cons_succ, List.getElem_cons_zero]
      refine wpAnyT_done (by kernel_rfl) ?_ _
      go_wp2
      go_roundw
      case rel =>
        refine ⟨k + 1, by omega, by go_num, ?_, hB3⟩
        rw [List.range_succ, List.map_append]
        simp only [List.map_cons, List.map_nil]
        rw [HSU.out, Int.natCast_add, Int.natCast_add, HEK.out]
        exact O3
      case measure => simp [intOf]; omega
    · obtain rfl : k = len := by omega
      go_wp2
      go_ret
      refine ⟨_, rfl, hB, ?_⟩
      have := HO.out
      unfold endsI
      rw [HL.out]
      exact this
end Go.Proofs.Ytkojomakibfncaa
