/- Layer 56: the reference's Bytes. -/
import Derived.Test.YtkojomakibfncaaC56o
import Derived.Test.YtkojomakibfncaaRegT
import Derived.Test.YtkojomakibfncaaP56d
set_option linter.unusedSimpArgs false
namespace Go.Proofs.Ytkojomakibfncaa
open Go.RowKit Go

/-- Bytes that are appended to: an own row from 'base' on, or a full row from 'c' on, whose mark stands behind its end, and that is never written. -/
def OwnsD (c base : Nat) (w : World) (v : Value) (xs : List Int) : Prop :=
  Owns (.int .u8) 5 base (fun _ => False) w v xs ∨
    ∃ b n, v = .slice (some ⟨b, 0, none⟩) n n ∧ c ≤ b ∧ 0 < n ∧ xs.length = n ∧ okB xs ∧ n ≤ 1000000 ∧ w.heap[b]? = some (.cells (xs.map (Value.int .u8)).toArray 5 (n, n + 1))
theorem OwnsD.toC {c base : Nat} {w : World} {v : Value} {xs : List Int} (h : OwnsD c base w v xs) (hc : c ≤ base) : OwnsC c w v xs := by
  rcases h with h | h
  · exact .inl (h.base hc)
  · exact .inr h
theorem OwnsD.slice {c base : Nat} {w : World} {v : Value} {xs : List Int} (h : OwnsD c base w v xs) : ∃ a len cap, v = .slice a len cap ∧ len = xs.length := by
  rcases h with h | ⟨b, n, rfl, hb, h0, hl, hok, hn, hh⟩
  · obtain ⟨a, len, cap, rfl, h1, -⟩ := h.slice
    exact ⟨a, len, cap, rfl, h1⟩
  · exact ⟨_, _, _, rfl, hl.symm⟩
theorem OwnsD.below {c base : Nat} {w w' : World} {v : Value} {xs : List Int} (h : OwnsD c base w v xs) (hB : Below w.heap.size w w') : OwnsD c base w' v xs := by
  rcases h with h | ⟨b, n, rfl, hb, h0, hl, hok, hn, hh⟩
  · exact .inl (h.below hB)
  · exact .inr ⟨b, n, rfl, hb, h0, hl, hok, hn, (hB.block b (Array.getElem?_eq_some_iff.1 hh).1).trans hh⟩

theorem wp_appD {o : Oper} {a : Act} {w : World} {K : Act → World → Prop} {Q : Exit → Act → World → Prop} (s x : Operand)
    (ho : o.op = .call { callee := .builtin .append, args := #[s, x], argTypes := #[22, 22] })
    {c base : Nat} {v : Value} {xs : List Int} (hv : a.eval s = v) (hO : OwnsD c base w v xs) (hbase : base ≤ w.heap.size)
    {b2 : Nat} {a2 : Option Addr} {m c2 : Nat} (hsv : a.eval x = .slice a2 m c2) {ys : List Int} (hy : Owns (.int .u8) 5 b2 (fun _ => False) w (.slice a2 m c2) ys) (h0 : 0 < ys.length) (hb : xs.length + ys.length ≤ 100000000)
    (h : ∀ ca cl cc w', Owns (.int .u8) 5 base (fun _ => False) w' (.slice ca cl cc) (xs ++ ys) → Below base w w' → K (a.put o.dst (.slice ca cl cc)) w') : o.wp Try.prog a w K Q := by
  obtain ⟨news, hsrc, hnews⟩ := src_ownB hy
  rcases hO with hO | ⟨b, n, rfl, hcb, hn0, hxl, hok, hn, hh⟩
  · refine wp_app s x 22 ho (e := .int .u8) info_u8 Try.underlying22 rfl (by decide) (base := base) hv hO hbase hsv hsrc hnews (by omega) (by omega) ?_
    intro ca cl cc w' O' g' _
    exact h ca cl cc w' O' ((Below.refl base w).grown g' hbase (fun b e => (hO.own b e).1))
  · have hx : Rd rowT (fun b => b < w.heap.size) w [.slice (some ⟨b, 0, none⟩) n n] xs := (OwnsC.rd (base := c) (.inr ⟨b, n, rfl, hcb, hn0, hxl, hok, hn, hh⟩)).keep (fun _ _ => rfl) (fun _ h => h.2)
    have hm : ys.length = m := by
      rcases hsrc with ⟨_, he, h0', _⟩ | ⟨_, _, he, _⟩
      · omega
      · simp only [Value.slice.injEq] at he; exact he.2.1.symm
    rcases hsrc with ⟨_, _, h0', _⟩ | ⟨a', c', he, hor⟩
    · omega
    · rcases hor with ⟨h0', _⟩ | ⟨ad, rfl, hn2⟩
      · omega
      · simp only [Value.slice.injEq] at he
        obtain ⟨rfl, -, rfl⟩ := he
        obtain ⟨ca, cl, cc, w', hrun, h1, h2⟩ := run_appF (P := Try.prog) w (t := 22) (ty := o.type) (e := .int .u8) info_u8 Try.underlying22 rfl (by decide) (S := fun b => b < w.heap.size) hx hn0 (fun _ h => h) (c := c2) hm hn2 (RdL.flat (e := .int .u8) rfl hnews) (by omega) (by omega) (by omega)
        unfold Oper.wp
        simp [execOp, ho, resolve, invoke, builtin, hv, hsv, hrun, Result.andThen]
        exact h ca cl cc w' ((Owns.flat (e := .int .u8) rfl h1).base hbase) (h2.mono hbase)

set_option maxRecDepth 10000 in
set_option maxHeartbeats 2000000 in
theorem refBytes_sum (w : World) (a : Option Addr) (len cap : Nat) (rs : List (List Int)) (hx : Rd (.sl rowT) (fun b => b < w.heap.size) w [.slice a len cap] rs) (hr : ∀ r ∈ rs, r.length ≤ 65536) (hn : len ≤ 1000000) (hb : (bytesI rs).length ≤ 80000000) :
    Calls Try.prog 22 #[.slice a len cap] w fun e w' => ∃ v, e = .returned v ∧ Below w.heap.size w w' ∧ OwnsC w.heap.size w' v (bytesI rs) := by
  obtain ⟨hl, hc, hm, -⟩ := hx.rows
  have hbd : ∀ k, (h : k < rs.length) → (textI ++ framesI 29793 (rs.take k)).length + (16 + rs[k].length) ≤ 80000000 := fun k h => by
    have h1 := endI_mono rs (k + 1) rs.length (by omega) (Nat.le_refl _)
    rw [endI_all, endI_succ rs k h] at h1
    have h2 : endI rs k = (textI ++ framesI 29793 (rs.take k)).length := rfl
    omega
  have HX := Lib.hid hx
  have HL := Lib.hid hl
  have HR := Lib.hid hr
  have HBD := Lib.hid hbd
  clear hx hl hr hb hbd
  have kc := fun (w : World) (C : Array Value) (n c : Nat) => Lib.run_convert_bytes_const (P := Try.prog) w 22 5 C n c Try.underlying22 Try.underlying5
  go_enter Try.func22, Try.ntmps22
  go_wp2_with fail
  have hh1 := heap_alloc_new w (.cells #[.int .u8 84, .int .u8 65, .int .u8 76, .int .u8 76, .int .u8 89, .int .u8 76, .int .u8 79, .int .u8 71] 5 (8, 9))
  have hB1 : Below w.heap.size w (w.alloc (.cells #[.int .u8 84, .int .u8 65, .int .u8 76, .int .u8 76, .int .u8 89, .int .u8 76, .int .u8 79, .int .u8 71] 5 (8, 9))) := (Below.refl _ w).alloc (Nat.le_refl _) _
  generalize w.alloc (.cells #[.int .u8 84, .int .u8 65, .int .u8 76, .int .u8 76, .int .u8 89, .int .u8 76, .int .u8 79, .int .u8 71] 5 (8, 9)) = W1 at *
  refine (refLinks_any a len cap rs W1 (by rw [HL.out]; exact hn) (HX.out.alloc hB1)).mono ?_
  rintro e w2 ⟨v2, rfl, hO2, hB2⟩
  obtain ⟨a2, l2, c2, rfl, -⟩ := hO2.slice
  have hB02 := below_step hB1 hB2
  obtain ⟨hl2, hlc2, hlm2, hat2, -⟩ := (hO2.rd (fun b => b < w2.heap.size) (fun _ h => h.elim) (fun b hb => (hO2.own b hb).2)).ints
  rw [linksI_length, HL.out] at hl2
  subst hl2
  have HAT := Lib.hid hat2
  have hh2 := (hB2.block w.heap.size (Array.getElem?_eq_some_iff.1 hh1).1).trans hh1
  have HH2 := Lib.hid hh2
  clear hO2 hat2 hh1 hh2
  go_wp2_with fail
  go_loopw [3, 5] (fun v i wr => ∃ (k : Nat), k ≤ len ∧ i = .int .i64 k ∧ OwnsD w.heap.size w2.heap.size wr v (textI ++ framesI 29793 (rs.take k)) ∧ Below w2.heap.size w2 wr) (fun _ i _ => len - (intOf i).toNat)
  case atStart => exact ⟨0, Nat.zero_le _, rfl, .inr ⟨w.heap.size, 8, rfl, Nat.le_refl _, by omega, rfl, textI_ok, by omega, HH2.out⟩, Below.refl _ _⟩
  case round =>
    clear HH2
    obtain ⟨k, hk, rfl, hO, hB⟩ := hrel
    obtain ⟨av, lv, cv, rfl, -⟩ := hO.slice
    have HO := Lib.hid hO
    clear hO
    have hsz := hB.size
    have hB0r := hB02.trans (hB.mono hB02.size)
    by_cases hlt : k < len
    · have hkr : k < rs.length := by rw [HL.out]; exact hlt
      obtain ⟨-, -, -, h4⟩ := (HX.out.below hB0r (fun _ h => h)).rows
      obtain ⟨b, off, a', l', c', rfl, hb, hcx, hrow⟩ := h4 k hkr
      have hl' : List.length rs[k] = l' := hrow.ints.1
      have hle : l' ≤ 65536 := by rw [← hl']; exact HR.out _ (List.getElem_mem hkr)
      obtain ⟨g2, o2, rfl, hg2, hcu⟩ := HAT.out k hlt
      rw [linksI_get rs k hkr] at hcu
      have hcu' : wr.cell? ⟨g2, o2 + k, none⟩ = some (.int .u64 (headI (rs.take (k + 1)))) := (hB.cell (p := ⟨g2, o2 + k, none⟩) hg2).trans hcu
      obtain ⟨hd, hhd⟩ : ∃ hd, headI (rs.take (k + 1)) = hd := ⟨_, rfl⟩
      rw [hhd] at hcu'
      have hwf := headI_wf (rs.take (k + 1))
      rw [hhd] at hwf
      have HHD := Lib.hid hwf
      have hft := framesI_take rs k hkr
      rw [hhd] at hft
      have HFT := Lib.hid hft
      have hlb := HBD.out k hkr
      rw [hl'] at hlb
      have HLB := Lib.hid hlb
      have HL' := Lib.hid hl'
      have HROW := Lib.hid hrow
      clear h4 hrow hl' hcu hhd hwf hft hlb hg2
      have hkl : (k : Int) < (len : Int) := by omega
      go_wp2_with fail
      refine wp_region_T (fun w' => w'.cell? ⟨b, off + k, none⟩ = some (.slice a' l' c') ∧ w'.cell? ⟨g2, o2 + k, none⟩ = some (.int .u64 hd)) (fun i => i == 9 || i == 10) (by kernel_rfl) ?_
      have hS0 : wr.drew.cell? ⟨b, off + k, none⟩ = some (.slice a' l' c') ∧ wr.drew.cell? ⟨g2, o2 + k, none⟩ = some (.int .u64 hd) := ⟨hcx, hcu'⟩
      refine wpAnyT_pure (i := 0) (v := ?_) rfl (by kernel_rfl) (by kernel_rfl) (by kernel_rfl) (fun _ _ _ h => h) (by rfl) ?_ ?_
      rotate_left
      · intro w; go_simp; try with_reducible rfl
      simp only [Act.put, List.setIfInBounds_toArray, List.set_cons_zero, List.set_cons_succ, List.getElem_toArray, List.getElem_cons_succ, List.getElem_cons_zero]
      refine wpAnyT_pure (i := 1) (v := ?_) rfl (by kernel_rfl) (by kernel_rfl) (by kernel_rfl) (fun _ _ _ h => h) (by rfl) ?_ ?_
      rotate_left
      · intro w; go_simp; try with_reducible rfl
      simp only [Act.put, List.setIfInBounds_toArray, List.set_cons_zero, List.set_cons_succ, List.getElem_toArray, List.getElem_cons_succ, List.getElem_cons_zero]
      refine wpAnyT_pure (i := 2) (v := ?_) rfl (by kernel_rfl) (by kernel_rfl) (by kernel_rfl) (fun _ _ _ h => h) (by rfl) ?_ ?_
      rotate_left
      · intro w; go_simp; try with_reducible rfl
      simp only [Act.put, List.setIfInBounds_toArray, List.set_cons_zero, List.set_cons_succ, List.getElem_toArray, List.getElem_cons_succ, List.getElem_cons_zero]
      refine wpAnyT_pure (i := 3) (v := ?_) rfl (by kernel_rfl) (by kernel_rfl) (by kernel_rfl) (fun _ _ _ h => h) (by rfl) ?_ ?_
      rotate_left
      · intro w; go_simp; try with_reducible rfl
      simp only [Act.put, List.setIfInBounds_toArray, List.set_cons_zero, List.set_cons_succ, List.getElem_toArray, List.getElem_cons_succ, List.getElem_cons_zero]
      refine wpAnyT_pure (i := 5) (v := ?_) rfl (by kernel_rfl) (by kernel_rfl) (by kernel_rfl) (fun _ _ _ h => h) (by rfl) ?_ ?_
      rotate_left
      · intro w; go_simp; try with_reducible rfl
      simp only [Act.put, List.setIfInBounds_toArray, List.set_cons_zero, List.set_cons_succ, List.getElem_toArray, List.getElem_cons_succ, List.getElem_cons_zero]
      refine wpAnyT_pure (i := 6) (v := ?_) rfl (by kernel_rfl) (by kernel_rfl) (by kernel_rfl) (fun _ _ _ h => h) (by rfl) ?_ ?_
      rotate_left
      · intro w; go_simp; try with_reducible rfl
      simp only [Act.put, List.setIfInBounds_toArray, List.set_cons_zero, List.set_cons_succ, List.getElem_toArray, List.getElem_cons_succ, List.getElem_cons_zero]
      refine wpAnyT_pure (i := 7) (v := ?_) rfl (by kernel_rfl) (by kernel_rfl) (by kernel_rfl) (fun _ _ _ h => h) (by rfl) ?_ ?_
      rotate_left
      · intro w; go_simp; try with_reducible rfl
      simp only [Act.put, List.setIfInBounds_toArray, List.set_cons_zero, List.set_cons_succ, List.getElem_toArray, List.getElem_cons_succ, List.getElem_cons_zero]
      refine wpAnyT_loadW (i := 4) (v := ?_) rfl (by kernel_rfl) (by kernel_rfl) (by kernel_rfl) (by kernel_rfl) (by kernel_rfl) (fun _ _ _ h => h) (Or.inl ⟨by rfl, ?_⟩) hS0 ?_
      rotate_left
      · intro w hSw; obtain ⟨e0, e1⟩ := hSw; go_simp; try with_reducible rfl
      simp only [Act.put, List.setIfInBounds_toArray, List.set_cons_zero, List.set_cons_succ, List.getElem_toArray, List.getElem_cons_succ, List.getElem_cons_zero]
      refine wpAnyT_loadW (i := 8) (v := ?_) rfl (by kernel_rfl) (by kernel_rfl) (by kernel_rfl) (by kernel_rfl) (by kernel_rfl) (fun _ _ _ h => h) (Or.inl ⟨by rfl, ?_⟩) hS0 ?_
      rotate_left
      · intro w hSw; obtain ⟨e0, e1⟩ := hSw; go_simp; try with_reducible rfl
      simp only [Act.put, List.setIfInBounds_toArray, List.set_cons_zero, List.set_cons_succ, List.getElem_toArray, List.getElem_cons_succ, List.getElem_cons_zero]
      refine wpAnyT_one (i := 9) (by kernel_rfl) rfl (by rfl) ?_
      refine wp_enter (f := 37) (args := #[.slice a' l' c', .int .u64 hd]) (by go_simp) (refFrame_sum (S := fun b => b < w.heap.size) wr.drew a' l' c' rs[k] hd HROW.out (fun b hb => Nat.lt_of_lt_of_le hb (hB0r.size)) (by omega) HHD.out) ?_
      rintro e w5 ⟨v5, rfl, hB5, hO5⟩
      replace hB5 : Below wr.heap.size wr w5 := (below_drew wr).trans hB5
      obtain ⟨a5, l5, c5, rfl, -⟩ := hO5.slice
      have HO5 := Lib.hid hO5
      clear hO5
      refine ⟨_, rfl, fun h => absurd h (by decide), ?_⟩
      simp only [Act.put, List.setIfInBounds_toArray, List.set_cons_zero, List.set_cons_succ, List.getElem_toArray, List.getElem_cons_succ, List.getElem_cons_zero]
      refine wpAnyT_one (i := 10) (by kernel_rfl) rfl (by rfl) ?_
      refine wp_appD (.tmp 16) (.tmp 25) rfl (c := w.heap.size) (base := w2.heap.size) (v := .slice av lv cv) (xs := textI ++ framesI 29793 (rs.take k)) (by kernel_rfl) (HO.out.below hB5) (Nat.le_trans hsz hB5.size) (a2 := a5) (m := l5) (c2 := c5) (by kernel_rfl) HO5.out (by rw [frameI_length]; omega) (by rw [frameI_length, HL'.out]; have := HLB.out; omega) ?_
      intro ca cl cc w6 O6 hB6
      have hB26 := (hB.trans (hB5.mono hsz)).trans hB6
      refine ⟨fun h => absurd h (by decide), ?_⟩
      simp only [Act.put, List.setIfInBounds_toArray, List.set_cons_zero, List.set_cons_succ, List.getElem_toArray, List.getElem_cons_succ, List.getElem_cons_zero]
      refine wpAnyT_pure (i := 11) (v := ?_) rfl (by kernel_rfl) (by kernel_rfl) (by kernel_rfl) (fun _ _ _ h => h) (by rfl) ?_ ?_
      rotate_left
      · intro w; go_simp; try with_reducible rfl
      simp only [Act.put, List.setIfInBounds_toArray, List.set_cons_zero, List.set_cons_succ, List.getElem_toArray, List.getElem_cons_succ, List.getElem_cons_zero]
      refine wpAnyT_done (by kernel_rfl) ?_ _
      go_wp2
      go_roundw
      case rel => exact ⟨k + 1, by omega, by go_num, .inl (by rw [HFT.out, ← List.append_assoc]; exact O6), hB26⟩
      case measure => simp [intOf]; omega
    · obtain rfl : k = len := by omega
      go_wp2
      go_ret
      refine ⟨_, rfl, hB0r, ?_⟩
      have h := HO.out.toC hB02.size
      rw [List.take_of_length_le (by rw [HL.out]; exact Nat.le_refl _)] at h
      exact h
end Go.Proofs.Ytkojomakibfncaa
