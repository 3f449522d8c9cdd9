/- Layer 56: rows that may be written: what Records returns lies in plain blocks; bytes that are turned. -/
import Derived.Test.YtkojomakibfncaaC56n
set_option linter.unusedSimpArgs false
namespace Go.Proofs.Ytkojomakibfncaa
open Go.RowKit Go

/-- A block without a mark: it may be written. -/
def Plain (w : World) (b : Nat) : Prop := ∃ cs t, w.heap[b]? = some (.cells cs t (0, 0))
theorem Plain.lt {w : World} {b : Nat} (h : Plain w b) : b < w.heap.size := by obtain ⟨cs, t, h⟩ := h; exact blk_lt h
theorem Plain.keep {w w' : World} {b : Nat} (h : Plain w b) (e : w'.heap[b]? = w.heap[b]?) : Plain w' b := by obtain ⟨cs, t, h⟩ := h; exact ⟨cs, t, e.trans h⟩
theorem Plain.frozen {w : World} {b : Nat} (h : Plain w b) (j : Nat) : w.frozen? ⟨b, j, none⟩ = false := by obtain ⟨cs, t, h⟩ := h; exact blk_frozen h j
theorem Plain.set {w : World} {b : Nat} (h : Plain w b) (g j : Nat) (u : Value) : Plain (w.setCell ⟨g, j, none⟩ u) b := by
  by_cases e : g = b
  · subst e
    obtain ⟨cs, t, h⟩ := h
    exact ⟨_, _, blk_set h u⟩
  · exact h.keep (Below.heap_setCell _ _ _ _ (fun e' => e e'.symm))
theorem Owns.plain {e : Ty} {te : TypeId} {base : Nat} {S : Nat → Prop} {w : World} {v : Value} {xs : List e.den} (h : Owns e te base S w v xs) (g : Nat) (hg : v.ownBlock = some g) : Plain w g := by
  obtain ⟨vs, ho, _, _⟩ := h
  rcases ho.2 with ⟨rfl, h0⟩ | ⟨g', cap, cur, rfl, hb, hg', _⟩
  · simp [Value.ownBlock] at hg
  · simp [Value.ownBlock] at hg
    subst hg
    exact ⟨_, _, hg'⟩

set_option maxHeartbeats 1000000 in
theorem records_sumP (F : Nat → Prop) (w : World) (p : Nat) (rs : List (List Int)) (h : LogIn F w p rs) (hr : ∀ r ∈ rs, r.length ≤ 1000000) (hn : rs.length ≤ 10000) :
    Calls Try.prog 14 #[.pointer (some ⟨p, 0, none⟩)] w fun e w' => ∃ v S', e = .returned v ∧ Below w.heap.size w w' ∧ Owns rowT 22 w.heap.size S' w' v rs ∧ ∀ b, S' b → w.heap.size ≤ b ∧ Plain w' b := by
  obtain ⟨a1, c1, a2, c2, k1, k2, f1, f2, r1, r2⟩ := h.open_
  have HLt := Lib.hid h.lt
  clear r2 k2 f1 f2 h
  obtain ⟨hl, hc, hm, -⟩ := r1.rows
  have HR := Lib.hid r1
  have Hr := Lib.hid hr
  clear hl r1 hr
  go_enter Try.func14, Try.ntmps14
  go_wp2
  go_loopw [3, 13] (fun v i wr => ∃ (k : Nat) (S' : Nat → Prop), k ≤ rs.length ∧ i = .int .i64 k ∧ Owns rowT 22 w.heap.size S' wr v (rs.take k) ∧ (∀ b, S' b → w.heap.size ≤ b ∧ Plain wr b) ∧ Below w.heap.size w wr) (fun _ i _ => rs.length - (intOf i).toNat)
  case atStart => exact ⟨0, fun _ => False, Nat.zero_le _, rfl, Owns.nil _ _ _ _, fun _ h => h.elim, Below.refl _ _⟩
  case round =>
    obtain ⟨k, S', hk, rfl, hO, hS', hB⟩ := hrel
    obtain ⟨av, lv, cv, rfl, -⟩ := hO.slice
    have HO := Lib.hid hO; clear hO
    have HS' := Lib.hid hS'; clear hS'
    by_cases hlt : k < rs.length
    · obtain ⟨-, -, -, hrows⟩ := HR.out.rows
      obtain ⟨b, off, a', len', cap', rfl, hb, hcell, hrow⟩ := hrows k hlt
      clear hrows
      have hcx : wr.cell? ⟨b, off + k, none⟩ = some (.slice a' len' cap') := (hB.cell (p := ⟨b, off + k, none⟩) (HLt.out b hb)).trans hcell
      have hsz := hB.size
      have hl' : List.length rs[k] = len' := by obtain ⟨a2, l2, c2, he, h2, -⟩ := id hrow; simp only [List.cons.injEq, Value.slice.injEq, and_true] at he; obtain ⟨rfl, rfl, rfl⟩ := he; exact h2
      have hle : len' ≤ 1000000 := by rw [← hl']; exact Hr.out _ (List.getElem_mem hlt)
      have HL := Lib.hid hl'; clear hl'
      have HX := Lib.hid (hrow.below (n := w.heap.size) hB (fun b hb => HLt.out b hb))
      have HS := Lib.hid (List.take_succ_eq_append_getElem hlt)
      have htl : (rs.take k).length ≤ 10000 := by rw [List.length_take]; omega
      have HT := Lib.hid htl
      clear hrow hcell htl
      go_wp2_with (first
        | (at_builtin; (refine wpList_copy wr rfl _ _ 22 rfl (e := .int .u8) info_u8 Try.underlying22 rfl (by decide) rfl (S := fun b => b < wr.heap.size) (sv := .slice a' len' cap') (xs := rs[k]) rfl (HX.out.keep (fun _ _ => rfl) (fun b hb => Nat.lt_of_lt_of_le (HLt.out b hb) hsz)) (fun _ h => h) HL.out (by omega) (by omega) ?_; intro g cv2 w1 O1 hg hB1 h5 h6; have hpl := (O1.flat rfl).plain g rfl; have HPL := Lib.hid hpl; clear hpl; have HO1 := Lib.hid (O1.flat rfl); clear O1; have HOk := Lib.hid (HO.out.below hB1)))
        | (at_builtin; go_must (refine wpList_app _ rfl _ _ 28 rfl (e := rowT) info_bs Try.underlying28 rfl (by decide) (base := w.heap.size) (S := fun b => S' b ∨ b = g) (v := .slice av lv cv) (xs := rs.take k) rfl ((HOk.out.alloc _).mono (fun b hb => .inl hb) (fun b hb => by
            rcases hb with hb | rfl
            · exact (HOk.out.alloc _).bound b hb
            · exact ⟨fun e => by have := (HO.out.own _ e).2; omega, by have := (HO1.out.own b rfl).2; simp only [World.size_alloc]; omega⟩)) (by have := hB1.size; simp only [World.size_alloc]; omega) rfl (ys := [rs[k]]) (Src.new _ [_] _ _ _) (RdL.one (e := rowT) ((HO1.out.alloc _).rd _ (fun _ h => h.elim) (fun b hb => .inr (by cases hb; rfl)))) (by have := HT.out; simp only [List.length_cons, List.length_nil]; omega) (by have := HT.out; simp only [List.length_cons, List.length_nil]; omega) ?_; intro v' w3 O3 g3 _ hob; have HK3 := Lib.hid (fun b (hb : b < w1.heap.size) (hne : (Value.slice av lv cv).ownBlock ≠ some b) => (g3.block b (by simp only [World.size_alloc]; omega) (fun e => hne e.symm)).trans (heap_alloc_old w1 _ hb)); have hB3 := ((hB.trans (hB1.mono hsz)).alloc (by have := hB1.size; omega) _).grown g3 (by have := hB1.size; simp only [World.size_alloc]; omega) (fun k e => (HO.out.own k e).1))))
      go_roundw
      case rel => exact ⟨k + 1, _, by omega, by go_num, by rw [HS.out]; exact O3, fun b hb => by
          rcases hb with hb | rfl
          · have hbb := HO.out.bound b hb
            exact ⟨(HS'.out b hb).1, ((HS'.out b hb).2.keep (hB1.block b hbb.2)).keep (HK3.out b (Nat.lt_of_lt_of_le hbb.2 hB1.size) hbb.1)⟩
          · exact ⟨by omega, HPL.out.keep (HK3.out b (HO1.out.own b rfl).2 (fun e => by have := (HO.out.own _ e).2; omega))⟩, hB3⟩
      case measure => simp [intOf]; omega
    · obtain rfl : k = rs.length := by omega
      go_wp2
      go_ret
      refine ⟨_, S', rfl, hB, ?_, HS'.out⟩
      have := HO.out
      rw [List.take_length] at this
      exact this


/-- Rows of bytes that may be turned: the headers stand outside R, the bytes in plain blocks of R. -/
def Mut (R : Nat → Prop) (w : World) (a : Option Addr) (len : Nat) (ls : Nat → Nat) : Prop :=
  ∀ i, i < len → ∃ g o a' c', a = some ⟨g, o, none⟩ ∧ ¬ R g ∧ g < w.heap.size ∧ w.cell? ⟨g, o + i, none⟩ = some (.slice a' (ls i) c') ∧
    ∀ k, k < ls i → ∃ b o', a' = some ⟨b, o', none⟩ ∧ R b ∧ Plain w b ∧ ∃ x, 0 ≤ x ∧ x ≤ 255 ∧ w.cell? ⟨b, o' + k, none⟩ = some (.int .u8 x)
theorem Mut.set {R : Nat → Prop} {w : World} {a : Option Addr} {len : Nat} {ls : Nat → Nat} (h : Mut R w a len ls) (b j : Nat) (hb : R b) (x : Int) (h0 : 0 ≤ x) (h1 : x ≤ 255) : Mut R (w.setCell ⟨b, j, none⟩ (.int .u8 x)) a len ls := by
  intro i hi
  obtain ⟨g, o, a', c', ha, hg, hgs, hc, hk⟩ := h i hi
  have hbg : b ≠ g := fun e => hg (e ▸ hb)
  refine ⟨g, o, a', c', ha, hg, by simpa [World.setCell] using hgs, ?_, fun k hkl => ?_⟩
  · rw [World.cell?_setCell_other (h := fun e => hbg (by simp only [Addr.mk.injEq] at e; exact e.1))]
    exact hc
  · obtain ⟨b2, o', ha', hb2, hp, y, hy0, hy1, hcy⟩ := hk k hkl
    refine ⟨b2, o', ha', hb2, hp.set _ _ _, ?_⟩
    by_cases e : (⟨b, j, none⟩ : Addr) = ⟨b2, o' + k, none⟩
    · rw [e]
      exact ⟨x, h0, h1, World.cell?_setCell_same (v := .int .u8 x) (h := hcy)⟩
    · exact ⟨y, hy0, hy1, by rw [World.cell?_setCell_other (h := e)]; exact hcy⟩
theorem Mut.below {R : Nat → Prop} {w w' : World} {a : Option Addr} {len : Nat} {ls : Nat → Nat} (h : Mut R w a len ls) (hB : Below w.heap.size w w') : Mut R w' a len ls := by
  intro i hi
  obtain ⟨g, o, a', c', ha, hg, hgs, hc, hk⟩ := h i hi
  refine ⟨g, o, a', c', ha, hg, Nat.lt_of_lt_of_le hgs hB.size, (hB.cell (p := ⟨g, o + i, none⟩) hgs).trans hc, fun k hkl => ?_⟩
  obtain ⟨b2, o', ha', hb2, hp, y, hy0, hy1, hcy⟩ := hk k hkl
  exact ⟨b2, o', ha', hb2, hp.keep (hB.block _ hp.lt), y, hy0, hy1, (hB.cell (p := ⟨b2, o' + k, none⟩) hp.lt).trans hcy⟩
theorem Mut.of {te : TypeId} {base : Nat} {S : Nat → Prop} {w : World} {a : Option Addr} {len cap : Nat} {rs : List (List Int)} (h : Owns rowT te base S w (.slice a len cap) rs) (hS : ∀ b, S b → Plain w b) : Mut S w a len (fun i => (rs[i]?.getD []).length) := by
  intro i hi
  have hl : List.length rs = len := (h.rd (fun _ => True) (fun _ _ => trivial) (fun _ _ => trivial)).rows.1
  have hg : ∃ g, a = some ⟨g, 0, none⟩ := by
    obtain ⟨vs, ho, hr, -⟩ := h
    rcases ho.2 with ⟨hv, h0⟩ | ⟨g', c', cs, hv, _⟩
    · simp only [Value.slice.injEq] at hv
      omega
    · simp only [Value.slice.injEq] at hv
      exact ⟨g', hv.1⟩
  obtain ⟨g, rfl⟩ := hg
  have hown := h.own g rfl
  have hi' : i < List.length rs := by omega
  obtain ⟨-, u, hc, hrd⟩ := h.at1 (e := rowT) rfl i hi'
  obtain ⟨a', l', c', he, h1, -⟩ := id hrd
  simp only [List.cons.injEq, and_true] at he
  subst he
  obtain ⟨hl', -, -, hat, hwf⟩ := Rd.ints hrd
  have hget : (rs[i]?.getD []).length = l' := by rw [List.getElem?_eq_getElem hi']; exact hl'
  refine ⟨g, 0, a', c', rfl, fun hSg => (h.bound g hSg).1 rfl, hown.2, ?_, fun k hk => ?_⟩
  · rw [Nat.zero_add, hc]
    show _ = some (Value.slice a' (rs[i]?.getD []).length c')
    rw [hget]
  · change k < (rs[i]?.getD []).length at hk
    rw [hget] at hk
    obtain ⟨b, o, ha, hb, hcell⟩ := hat k hk
    have hbd := okB_get (xs := rs[i]) hwf k
    exact ⟨b, o, ha, hb, hS b hb, _, hbd.1, hbd.2, hcell⟩
end Go.Proofs.Ytkojomakibfncaa
