/- Layer 28: MatchExact. -/
import Derived.Test.YtpobckedeffjmaaM28u
import Derived.Test.YtpobckedeffjmaaFr
set_option linter.unusedSimpArgs false
set_option maxRecDepth 50000
namespace Go.Proofs.Ytpobckedeffjmaa
open Go.RowKit Go

theorem intk_at {κ : IntKind} {S : Nat → Prop} {w : World} {a : Option Addr} {len cap : Nat} {l : List Int} (h : Rd (.sl (.int κ)) S w [.slice a len cap] l) (i : Nat) (hi : i < l.length) :
    ∃ b off x, a = some ⟨b, off, none⟩ ∧ S b ∧ w.cell? ⟨b, off + i, none⟩ = some (.int κ x) ∧ (Lit.int κ x).wf = true ∧ l[i]?.getD 0 = x := by
  obtain ⟨hl, -, -, vs, hr, hor⟩ := h.sl_flat
  obtain ⟨c, hc, hcc, hrd⟩ := hr.at_ i hi
  have hl' : List.length l = len := hl
  rcases hor with h0 | ⟨b, off, rfl, hb, hcell⟩
  · omega
  · obtain ⟨rfl, hw⟩ := hrd
    refine ⟨b, off, l[i], rfl, hb, ?_, hw, by simp [hi]⟩
    have := hcell _ _ (hcc 0 _ rfl)
    simpa [Ty.sz] using this
theorem wf_i16 {x : Int} (h : (Lit.int .i16 x).wf = true) : -32768 ≤ x ∧ x ≤ 32767 := by
  simp [Lit.wf, IntKind.min, IntKind.max, IntKind.signed, IntKind.bits] at h; omega
theorem wf_any {x : Int} (h : -9000000000000000000 ≤ x ∧ x ≤ 9000000000000000000) : (Lit.int .i64 x).wf = true := by
  simp [Lit.wf, IntKind.min, IntKind.max, IntKind.signed, IntKind.bits]; omega
theorem i16_all {S : Nat → Prop} {w : World} {a : Option Addr} {len cap : Nat} {l : List Int} (h : Rd (.sl (.int .i16)) S w [.slice a len cap] l) : ∀ x ∈ l, -32768 ≤ x ∧ x ≤ 32767 := by
  intro x hx
  obtain ⟨i, hi, rfl⟩ := List.mem_iff_getElem.1 hx
  obtain ⟨_, _, y, _, _, _, hw, hy⟩ := intk_at h i hi
  rw [List.getElem?_eq_getElem hi] at hy
  have : l[i] = y := hy
  rw [this]
  exact wf_i16 hw
set_option maxHeartbeats 4000000 in
theorem exactWalk28 (w : World) (c0 : List Value) (az : (Ty.sl (.int .i16)).den) (r0 : Rd (.sl (.int .i16)) (fun b => b < w.heap.size) w c0 az) (c1 : List Value) (n : (Ty.int .u8).den) (r1 : Rd (.int .u8) (fun b => b < w.heap.size) w c1 n) :
    Calls Try.prog 5 #[valOf (.sl (.int .i16)) c0, valOf (.int .u8) c1] w fun e w' => e = .returned (.bool true) ∧ Below w.heap.size w w' := by
  change List Int at az
  change Int at n
  have r0' := r0
  obtain ⟨a0, len0, k0, rfl, hlen0, -⟩ := r0
  obtain rfl : len0 = az.length := hlen0.symm
  obtain ⟨rfl, hn⟩ := r1
  simp only [valOf, List.headD_cons]
  have hn0 : 0 ≤ n ∧ n ≤ 255 := by simp [Lit.wf, IntKind.min, IntKind.max, IntKind.signed, IntKind.bits] at hn; omega
  obtain ⟨by_, rfl⟩ := Int.eq_ofNat_of_zero_le hn0.1
  have hlm : az.length ≤ 9223372036854775807 := Nat.le_trans (r0'.sl_flat.1 ▸ r0'.sl_flat.2.1) r0'.sl_flat.2.2.1
  have H0 := Lib.hid r0'
  clear r0' hn
  go_enter Try.func5, Try.ntmps5
  go_wp2_with fail
  refine (awake28 w).mono ?_
  rintro e w1 ⟨rfl, hB1⟩
  have HB1 := Lib.hid hB1
  clear hB1
  by_cases hl : az.length ≤ 40
  case neg =>
    have hI : (40 : Int) < (az.length : Int) := by omega
    go_wp2_with (go_at_call 9; refine (awake28 _).mono ?_; rintro e w2 ⟨rfl, hB2⟩; have HB2 := Lib.hid (below_step HB1.out hB2); clear hB2)
    go_ret
    exact ⟨rfl, HB2.out⟩
  have hlI : ¬ (40 : Int) < (az.length : Int) := by omega
  go_wp2_with fail
  go_loopw [5, 6, 23] (fun v1 v2 iv wr => ∃ (k : Nat) (av : Option Addr) (lv cv : Nat) (av2 : Option Addr) (lv2 cv2 : Nat), k ≤ az.length ∧ iv = .int .i64 (k : Int) ∧ v1 = .slice av lv cv ∧ v2 = .slice av2 lv2 cv2 ∧ (∀ y ∈ az.take k, y ≠ 0) ∧
    Owns openT 48 w1.heap.size (fun _ => False) wr (.slice av lv cv) ((mxL az k).map O3.d) ∧ Owns openT 48 w1.heap.size (fun _ => False) wr (.slice av2 lv2 cv2) ((mxR az by_ k).map O3.d) ∧ (∀ b, (Value.slice av lv cv).ownBlock = some b → (Value.slice av2 lv2 cv2).ownBlock ≠ some b) ∧ Below w1.heap.size w1 wr) (fun _ _ iv _ => az.length - (intOf iv).toNat)
  case atStart => exact ⟨0, none, 0, 0, none, 0, 0, Nat.zero_le _, rfl, rfl, rfl, fun y hy => by simp at hy, Owns.nil _ _ _ _, Owns.nil _ _ _ _, fun b h => (by cases h), Below.refl _ _⟩
  case round =>
    obtain ⟨k, av, lv, cv, av2, lv2, cv2, hk, rfl, rfl, rfl, hnz, hO, hO2, hsep, hB⟩ := hrel
    have HOL := Lib.hid hO
    have HOR := Lib.hid hO2
    have HSEP := Lib.hid hsep
    have HNZ := Lib.hid hnz
    have HB := Lib.hid hB
    by_cases hkl : k < az.length
    · have hkI : (k : Int) < (az.length : Int) := by omega
      have HBW := Lib.hid (below_step HB1.out hB)
      obtain ⟨b, off, x, rfl, hbw, m0, hw, hx⟩ := intk_at (H0.out.below HBW.out (fun b hb => hb)) k hkl
      obtain ⟨q, hq⟩ : ∃ q, (k + by_) % az.length = q := ⟨_, rfl⟩
      have hql : q < az.length := by rw [← hq]; exact Nat.mod_lt _ (by omega)
      obtain ⟨_, _, y, he, -, m1, hw1, hy⟩ := intk_at (H0.out.below HB1.out (fun b hb => hb)) q hql
      cases he
      have hrem : Int.tmod ((k : Int) + (by_ : Int)) (az.length : Int) = (q : Int) := by
        rw [← hq, show (k : Int) + (by_ : Int) = ((k + by_ : Nat) : Int) from by omega]
        exact (Int.ofNat_tmod _ _).symm
      have HX := Lib.hid hx
      have HY := Lib.hid hy
      have HQ := Lib.hid hq
      have HKL := Lib.hid hkl
      have hxb := wf_i16 hw
      have hyb := wf_i16 hw1
      have HTK := Lib.hid (show az.take (k + 1) = az.take k ++ [x] from by rw [List.take_succ_eq_append_getElem hkl, show az[k] = x from by rw [← hx, List.getElem?_eq_getElem hkl]; rfl])
      have M1 := Lib.hid m1
      have HBB := Lib.hid (show b < w.heap.size from hbw)
      clear hO hO2 hsep hnz hB hkl hk hx hy hq hw hw1 m1 hbw
      by_cases hx0 : x = 0
      case pos =>
        go_wp2_with fail
        go_ret
        exact ⟨rfl, HBW.out⟩
      have hqb : -32768 ≤ -y ∧ -y ≤ 32768 := by omega
      have HOK1 := Lib.hid (show O3.ok ⟨⟨1, (k : Int)⟩, x⟩ from ⟨⟨rfl, (wf_i64 (by have := HKL.out; omega) (by have := HKL.out; omega) : (Lit.int .i64 (k : Int)).wf = true)⟩, wf_any (x := x) (by omega)⟩)
      have HOK2 := Lib.hid (show O3.ok ⟨⟨2, (k : Int)⟩, -y⟩ from ⟨⟨rfl, (wf_i64 (by have := HKL.out; omega) (by have := HKL.out; omega) : (Lit.int .i64 (k : Int)).wf = true)⟩, wf_any (x := -y) (by omega)⟩)
      go_wp2_with (first | (have hq := HOL; at_builtin; clear HOL; go_must (refine wpList_app _ rfl _ _ 28 rfl (e := openT) (te := 48) info_open Try.underlying28 rfl (by decide) (v := .slice av lv cv) rfl (hq.out.alloc _) (by have := HB.out.size; simp only [World.size_alloc]; omega) rfl (ys := [O3.d ⟨⟨1, (k : Int)⟩, x⟩]) (Src.new _ [_, _, _] _ _ _) (RdL.one (e := openT) (open_rd (o := ⟨⟨1, (k : Int)⟩, x⟩) HOK1.out)) (by simp only [List.length_map, mxL_len, List.length_cons, List.length_nil]; omega) (by simp only [List.length_map, mxL_len, List.length_cons, List.length_nil]; omega) ?_); intro v' wA O1 g1 _ hob; obtain ⟨aL, lL, cL, rfl, -⟩ := O1.slice; have HO1 := Lib.hid O1; have HOR1 := Lib.hid ((HOR.out.alloc _).gr (Gr.of_grown g1) (fun _ h => h.elim) (fun b hb e => HSEP.out b e hb)); have HBA := Lib.hid ((HB.out.alloc HB.out.size _).grown g1 (by have := HB.out.size; simp only [World.size_alloc]; omega) (fun c hc => (hq.out.own c hc).1)); have m1 := cell_below M1.out HBA.out; have HSEPA := Lib.hid (show ∀ b, (Value.slice aL lL cL).ownBlock = some b → (Value.slice av2 lv2 cv2).ownBlock ≠ some b from fun b hb e => (by rcases hob with h | h; (rw [h] at hb; exact HSEP.out b hb e); (rw [h] at hb; cases hb; have := (HOR.out.own _ e).2; simp only [World.size_alloc] at this; omega))); clear O1 g1 hob hq) |
        (have hq := HOR1; at_builtin; clear HOR1; go_must (refine wpList_app _ rfl _ _ 28 rfl (e := openT) (te := 48) info_open Try.underlying28 rfl (by decide) (v := .slice av2 lv2 cv2) rfl (hq.out.alloc _) (by have := HBA.out.size; simp only [World.size_alloc]; omega) rfl (ys := [O3.d ⟨⟨2, (k : Int)⟩, -y⟩]) (Src.new _ [_, _, _] _ _ _) (RdL.one (e := openT) (open_rd (o := ⟨⟨2, (k : Int)⟩, -y⟩) HOK2.out)) (by simp only [List.length_map, mxR_len, List.length_cons, List.length_nil]; omega) (by simp only [List.length_map, mxR_len, List.length_cons, List.length_nil]; omega) ?_); intro v' wC O2 g2 _ hob; obtain ⟨aR, lR, cR, rfl, -⟩ := O2.slice; have HO2 := Lib.hid O2; have HO1' := Lib.hid ((HO1.out.alloc _).gr (Gr.of_grown g2) (fun _ h => h.elim) (fun b hb e => HSEPA.out b hb e)); have HBC := Lib.hid ((HBA.out.alloc HBA.out.size _).grown g2 (by have := HBA.out.size; simp only [World.size_alloc]; omega) (fun c hc => (hq.out.own c hc).1)); have HSEPC := Lib.hid (show ∀ b, (Value.slice aL lL cL).ownBlock = some b → (Value.slice aR lR cR).ownBlock ≠ some b from fun b hb e => (by rcases hob with h | h; (rw [h] at e; exact HSEPA.out b hb e); (rw [h] at e; cases e; have := (HO1.out.own _ hb).2; simp only [World.size_alloc] at this; omega))); clear O2 g2 hob hq))
      go_roundw
      case rel =>
        refine ⟨k + 1, aL, lL, cL, aR, lR, cR, HKL.out, by go_num, rfl, rfl, ?_, ?_, ?_, HSEPC.out, HBC.out⟩
        · intro z hz
          rw [HTK.out] at hz
          rcases List.mem_append.1 hz with hz | hz
          · exact HNZ.out z hz
          · rw [List.mem_singleton.1 hz]; exact hx0
        · rw [mxL_succ, List.map_append, HX.out]
          exact HO1'.out
        · rw [mxR_succ, List.map_append, HQ.out, HY.out]
          exact HO2.out
      case measure => have := HKL.out; simp [intOf]; try omega
    · obtain rfl : k = az.length := by omega
      have hkI : ¬ ((az.length : Nat) : Int) < (az.length : Int) := by omega
      rw [List.take_length] at hnz
      have hama : ∀ x ∈ az, amtB x = true := fun x hx => by
        have h1 := i16_all H0.out x hx
        have h2 := hnz x hx
        unfold amtB
        rw [decide_eq_false h2, decide_eq_false (by omega), decide_eq_false (by omega)]; rfl
      obtain ⟨wl, rfl⟩ : ∃ q, q = wr := ⟨_, rfl⟩
      have hlL : lv = (mxL az az.length).length := by obtain ⟨_, _, _, he, h, -⟩ := hO.slice; cases he; rw [h, List.length_map]
      have hlR : lv2 = (mxR az by_ az.length).length := by obtain ⟨_, _, _, he, h, -⟩ := hO2.slice; cases he; rw [h, List.length_map]
      have HLB := Lib.hid (mx_lines (b := by_) hl hama)
      have HLAW := Lib.hid (mx_law (b := by_) hama)
      have HLN := Lib.hid (mxL_len az az.length)
      have HBW := Lib.hid (below_step HB1.out hB)
      generalize mxL az az.length = l at *
      generalize mxR az by_ az.length = r at *
      subst hlL hlR
      have HPR := Lib.hid (propose28 wl av cv l av2 cv2 r 0 (hO.rd (fun b => b < wl.heap.size) (fun _ h => h.elim) (fun b hb => (hO.own b hb).2)) (hO2.rd (fun b => b < wl.heap.size) (fun _ h => h.elim) (fun b hb => (hO2.own b hb).2)) (fun b hb => hb))
      have hpm : propM l r 0 = ((st3 l r 0).out, 0) := by unfold propM; rw [HLB.out, if_neg (by decide), if_neg (by omega)]
      rw [hpm] at HPR
      simp only at HPR
      generalize (st3 l r 0).out = out at *
      clear hO hO2 hsep hnz hB hkl hk HOL HOR HSEP HNZ hama hpm HLB
      go_wp2_with fail
      refine HPR.out.mono ?_
      rintro e w4 ⟨v4, rfl, hR4, hB4⟩
      have HB4 := Lib.hid (below_step HBW.out hB4)
      obtain ⟨p4, n4, q4, hv4, -⟩ := id hR4
      simp only [List.cons.injEq, and_true] at hv4
      subst hv4
      have hn4 := rd_len hR4
      subst hn4
      have hol : (out.length : Int) = (l.length : Int) := by have h1 := HLAW.out.1; have h2 := HLN.out; omega
      have HR4 := Lib.hid hR4
      clear hR4 hB4
      go_wp2_with fail
      go_loopw [79] (fun iv wr => ∃ (k : Nat), k ≤ out.length ∧ iv = .int .i64 (k : Int) ∧ Below w4.heap.size w4 wr) (fun iv _ => out.length - (intOf iv).toNat)
      case atStart => exact ⟨0, Nat.zero_le _, rfl, Below.refl _ _⟩
      case round =>
        obtain ⟨k, hk, rfl, hB⟩ := hrel
        have HB := Lib.hid hB
        by_cases hkl : k < out.length
        · have hkI : (k : Int) < (out.length : Int) := by omega
          obtain ⟨b, off, pa1, pc1, pa2, pc2, rfl, -, m0, m1, -, -⟩ := pair_at (HR4.out.below hB (fun b hb => hb.2)) k hkl
          have h1 := HLAW.out.2 out[k] (List.getElem_mem hkl)
          have hk40 : k ≤ 40 := by have := HLAW.out.1; omega
          have HKL := Lib.hid hkl
          rw [h1.1] at m0
          rw [h1.2] at m1
          clear h1 hB hkl hk
          go_wp2_with fail
          go_roundw
          case rel => exact ⟨k + 1, HKL.out, by go_num, HB.out.alloc HB.out.size _⟩
          case measure => have := HKL.out; simp [intOf]; try omega
        · obtain rfl : k = out.length := by omega
          have hkI : ¬ ((out.length : Nat) : Int) < (out.length : Int) := by omega
          clear hB hkl hk
          go_wp2_with fail
          go_ret
          exact ⟨rfl, below_step HB4.out HB.out⟩
end Go.Proofs.Ytpobckedeffjmaa
