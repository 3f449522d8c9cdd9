/- Layer 56: the reference's Open; the walk of LogOpen. -/
import Derived.Test.YtkojomakibfncaaC56j
namespace Go.Proofs.Ytkojomakibfncaa
open Go.RowKit Go

theorem begins_text (xs : List Int) : beginsB xs textI = (decide (8 ≤ xs.length) && decide (xs.take 8 = textI)) := rfl
theorem text_begins (xs : List Int) : beginsB textI xs = (decide (xs.length ≤ 8) && decide (textI.take xs.length = xs)) := rfl
def RoPost (w : World) (x0 : List (List Int) × Nat × Int) (e : Ending) (w' : World) : Prop :=
  ∃ v, e = .returned (.tuple #[v, .int .i64 x0.2.1, .int .i64 x0.2.2]) ∧ Below w.heap.size w w' ∧ Rd (.sl rowT) (fun b => b < w'.heap.size) w' [v] x0.1

/-- What the loop of the reference's Open goes by. -/
def RoRel (w : World) (ys : List Int) (x0 : List (List Int) × Nat × Int) (k : Nat) (v at_ h : Value) (wr : World) : Prop :=
  ∃ (rs : List (List Int)) (S' : Nat → Prop) (u : Nat), ys.length ≤ u + k ∧ u ≤ ys.length ∧ 8 ≤ u ∧ 16 * rs.length ≤ u ∧ at_ = .int .i64 u ∧ h = .int .u64 (headI rs) ∧ x0 = comb rs u (openG k (headI rs) (ys.drop u)) ∧
    Owns rowT 22 w.heap.size S' wr v rs ∧ Below w.heap.size w wr

def textC : Obj := .cells #[.int .u8 84, .int .u8 65, .int .u8 76, .int .u8 76, .int .u8 89, .int .u8 76, .int .u8 79, .int .u8 71] 5 (8, 9)
theorem text_rd (w : World) : Rd rowT (fun b => b < (w.alloc textC).heap.size) (w.alloc textC) [.slice (some ⟨w.heap.size, 0, none⟩) 8 8] textI :=
  (OwnsC.rd (base := 0) (.inr ⟨w.heap.size, 8, rfl, Nat.zero_le _, by omega, rfl, textI_ok, by omega, heap_alloc_new w _⟩)).keep (fun _ _ => rfl) (fun _ h => h.2)
theorem openI_bad (xs : List Int) (h : beginsB xs textI = false) : openI xs = ([], 0, if beginsB textI xs = true then 19 else 4) := by
  have ht : textI.length = 8 := rfl
  rw [begins_text] at h
  rw [text_begins]
  unfold openI
  by_cases h8 : xs.length < 8
  · rw [if_pos h8, decide_eq_true (show xs.length ≤ 8 by omega), Bool.true_and]
    by_cases e : xs = textI.take xs.length
    · rw [if_pos e, decide_eq_true e.symm]; rfl
    · rw [if_neg e, decide_eq_false (fun k => e k.symm)]; rfl
  · rw [decide_eq_true (show 8 ≤ xs.length by omega), Bool.true_and] at h
    have hf : xs.take 8 ≠ textI := of_decide_eq_false h
    rw [if_neg h8, if_pos hf]
    by_cases h9 : xs.length ≤ 8
    · rw [decide_eq_true h9, Bool.true_and, decide_eq_false]
      · rfl
      · intro k
        apply hf
        rw [List.take_of_length_le (show textI.length ≤ xs.length by rw [ht]; omega)] at k
        rw [List.take_of_length_le h9]
        exact k.symm
    · rw [decide_eq_false h9, Bool.false_and]; rfl

set_option maxHeartbeats 1000000 in
theorem refopen_bad (w : World) (a : Option Addr) (len cap : Nat) (xs : List Int) (hx : Rd rowT (fun b => b < w.heap.size) w [.slice a len cap] xs) (hf : beginsB xs textI = false) :
    Calls Try.prog 12 #[.slice a len cap] w (RoPost w (openI xs)) := by
  rw [openI_bad xs hf]
  have kc := fun (w : World) (C : Array Value) (n c : Nat) => Lib.run_convert_bytes_const (P := Try.prog) w 22 5 C n c Try.underlying22 Try.underlying5
  have HX := Lib.hid hx
  have HF := Lib.hid hf
  clear hx hf
  obtain ⟨t, ht⟩ : ∃ t, beginsB textI xs = t := ⟨_, rfl⟩
  rw [ht]
  have HT := Lib.hid ht
  clear ht
  have hb1 : Below w.heap.size w (w.alloc textC) := (Below.refl _ w).alloc (Nat.le_refl _) _
  have HB1 := Lib.hid hb1
  clear hb1
  go_enter Try.func12, Try.ntmps12
  go_wp2_with fail
  all_goals
    refine (begins_sum (w.alloc textC) a _ len cap 8 8 xs textI (HX.out.below HB1.out (fun _ h => h)) (text_rd w)).mono ?_
    rw [HF.out]
    rintro e w1 ⟨rfl, hB1⟩
    go_wp2_with fail
    all_goals
      have hb2 : Below w.heap.size w (w1.alloc textC) := (below_step HB1.out hB1).alloc (by have := (below_step HB1.out hB1).size; omega) _
      refine (begins_sum (w1.alloc textC) _ a 8 8 len cap textI xs (text_rd w1) (HX.out.below hb2 (fun _ h => h))).mono ?_
      rw [HT.out]
      rintro e w2 ⟨rfl, hB2⟩
      have hb3 := below_step hb2 hB2
      cases t
      all_goals
        go_wp2 <;> (go_ret3; exact ⟨_, rfl, hb3, ⟨none, 0, 0, rfl, rfl, Nat.le_refl _, by omega, .inl rfl⟩⟩)

set_option maxHeartbeats 2000000 in
theorem refopen_ok (w : World) (a : Option Addr) (len cap : Nat) (xs : List Int) (hx : Rd rowT (fun b => b < w.heap.size) w [.slice a len cap] xs) (hf : beginsB xs textI = true) (hmx : len ≤ 16000) :
    Calls Try.prog 12 #[.slice a len cap] w (RoPost w (openI xs)) := by
  obtain ⟨hl, hc, hm, hat, -⟩ := hx.ints
  have h8 : 8 ≤ len ∧ xs.take 8 = textI := by
    rw [begins_text, hl, Bool.and_eq_true] at hf
    exact ⟨of_decide_eq_true hf.1, of_decide_eq_true hf.2⟩
  have hE : openI xs = comb [] 8 (openG len (headI []) (xs.drop 8)) := by
    unfold openI comb
    rw [if_neg (by omega), if_neg (by rw [h8.2]; simp), hl]
    rfl
  obtain ⟨x0, hx0⟩ : ∃ x, openI xs = x := ⟨_, rfl⟩
  rw [hx0] at hE ⊢
  obtain ⟨b0, off0, rfl, -⟩ := hat 0 (by omega)
  have h8l := h8.1
  have kc := fun (w : World) (C : Array Value) (n c : Nat) => Lib.run_convert_bytes_const (P := Try.prog) w 22 5 C n c Try.underlying22 Try.underlying5
  have HX := Lib.hid hx
  have HF := Lib.hid hf
  have HE := Lib.hid hE
  have HL := Lib.hid hl
  clear hx hf hE hx0 hat h8 hl
  have hb1 : Below w.heap.size w (w.alloc textC) := (Below.refl _ w).alloc (Nat.le_refl _) _
  have HB1 := Lib.hid hb1
  clear hb1
  go_enter Try.func12, Try.ntmps12
  go_wp2_with fail
  all_goals
    refine (begins_sum (w.alloc textC) _ _ len cap 8 8 xs textI (HX.out.below HB1.out (fun _ h => h)) (text_rd w)).mono ?_
    rw [HF.out]
    rintro e w1 ⟨rfl, hB1⟩
    go_wp2_with fail
    all_goals
      have hb3 := below_step HB1.out hB1
      clear hB1 kc
      go_loopg [5, 6, 7] len (fun k v at_ h wr => RoRel w xs x0 k v at_ h wr)
      case atStart => exact ⟨[], fun _ => False, 8, by rw [HL.out]; omega, by rw [HL.out]; omega, by omega, by simp, rfl, rfl, HE.out, (Owns.nil _ _ _ _), hb3⟩
      case round =>
        clear HE
        obtain ⟨rs, S', u, hul, hul2, hu8, hru, rfl, rfl, hx0, hO, hB⟩ := hrel
        obtain ⟨av, lv, cv, rfl, -⟩ := hO.slice
        have HO := Lib.hid hO
        have HX0 := Lib.hid hx0
        rw [HL.out] at hul hul2
        clear hO hx0
        by_cases hlt : u < len
        case neg =>
          have hu : u = len := by omega
          subst hu
          have hfin : x0 = (rs, u, 0) := by rw [HX0.out, List.drop_eq_nil_of_le (by rw [HL.out]; exact Nat.le_refl _), openG_nil]; simp [comb]
          have HFIN := Lib.hid hfin
          clear hfin
          go_wp2
          go_ret3
          rw [HFIN.out]
          exact ⟨_, rfl, hB, HO.out.rd _ (fun b hb => (HO.out.bound b hb).2) (fun b hb => (HO.out.own b hb).2)⟩
        have hd := Rd.drop (HX.out.below hB (fun _ h => h)) u (by omega)
        simp only [Ty.sz, Nat.mul_one, Option.map_some, Addr.add_none] at hd
        rw [if_neg (by omega)] at hd
        have hsz := hB.size
        have hnx := refnext_sum (fun b => b < w.heap.size) wr _ (len - u) (cap - u) (headI rs) (xs.drop u) hd (fun b hb => Nat.lt_of_lt_of_le hb hsz) (by omega)
        have HD := Lib.hid hd
        have HNX := Lib.hid hnx
        have hyn : xs.drop u ≠ [] := by
          intro e
          have := congrArg List.length e
          rw [List.length_drop, HL.out] at this
          simp at this
          omega
        have HYN := Lib.hid hyn
        obtain ⟨ys, hys⟩ : ∃ ys, xs.drop u = ys := ⟨_, rfl⟩
        rw [hys] at HX0 HYN HNX HD
        have hyl : ys.length = len - u := by rw [← hys, List.length_drop, HL.out]
        have HYL := Lib.hid hyl
        have HYS := Lib.hid hys
        clear hd hnx hyn hys hyl
        cases gk with
        | zero => omega
        | succ k' =>
        have hui : (u : Int) < (len : Int) := by omega
        by_cases hck : chkP ys = 0
        case neg =>
          have hfin : x0 = (rs, u, chkP ys) := by rw [HX0.out, openG_bad _ _ _ HYN.out (by rw [HYL.out]; omega) hck]; simp [comb]
          have HFIN := Lib.hid hfin
          have HCK := Lib.hid hck
          have hne : (chkP ys != 0) = true := by simpa using hck
          clear hfin hck
          go_wp2_with (go_at_call 33; (with_reducible refine HNX.out.mono ?_); rintro e w2 hp; have hb2 := hp.1; have he := hp.2.1 HCK.out; clear hp; subst he)
          go_ret3
          rw [HFIN.out]
          exact ⟨_, rfl, below_step hB hb2, (HO.out.below hb2).rd _ (fun b hb => ((HO.out.below hb2).bound b hb).2) (fun b hb => ((HO.out.below hb2).own b hb).2)⟩
        by_cases hln : nextI (headI rs) (recP ys) = lnkP ys
        case neg =>
          have hfin : x0 = (rs, u, 5) := by rw [HX0.out, openG_sum _ _ _ HYN.out hck (fun e => hln e.symm)]; simp [comb]
          have HFIN := Lib.hid hfin
          have HCK := Lib.hid hck
          have HLN := Lib.hid hln
          clear hfin hck hln
          go_wp2_with (go_at_call 33; (with_reducible refine HNX.out.mono ?_); rintro e w2 hp; have hb2 := hp.1; have he := (hp.2.2 HCK.out).1 HLN.out; clear hp; subst he)
          go_ret3
          rw [HFIN.out]
          exact ⟨_, rfl, below_step hB hb2, (HO.out.below hb2).rd _ (fun b hb => ((HO.out.below hb2).bound b hb).2) (fun b hb => ((HO.out.below hb2).own b hb).2)⟩
        have hstep : x0 = comb (rs ++ [recP ys]) (u + (16 + sizeP ys)) (openG k' (headI (rs ++ [recP ys])) (xs.drop (u + (16 + sizeP ys)))) := by
          rw [HX0.out, openG_next _ _ _ HYN.out hck hln.symm, (chkP_len hck).2.2.2.2, headI_snoc, ← HYS.out, List.drop_drop]
          simp [comb, Nat.add_assoc]
        obtain ⟨hm1, hm2, hm3, -, hm4⟩ := chkP_len hck
        have HST := Lib.hid hstep
        have HCK := Lib.hid hck
        have HLN := Lib.hid hln
        have HM4 := Lib.hid hm4
        rw [HYL.out] at hm1 hm2
        obtain ⟨m, hmm⟩ : ∃ m, sizeP ys = m := ⟨_, rfl⟩
        rw [hmm] at hm2 hm3 HST HM4
        have HMM := Lib.hid hmm
        have hrs : rs.length ≤ 1000 := by omega
        clear hstep hck hln hm4 hmm
        go_wp2_with (first
          | (go_at_call 33; (with_reducible refine HNX.out.mono ?_); rintro e w2 hp; have hb2 := hp.1; obtain ⟨a2, c2, he, hr2⟩ := (hp.2.2 HCK.out).2 HLN.out; rw [HMM.out] at he hr2; clear hp; subst he; have HR2 := Lib.hid hr2; clear hr2; have hb2' := below_step hB hb2; have hs2 := hb2'.size)
          | (at_builtin; (refine wpList_copy w2 rfl _ _ 22 rfl (e := .int .u8) info_u8 Try.underlying22 rfl (by decide) rfl (S := fun b => b < w.heap.size) (sv := .slice a2 m c2) (xs := recP ys) rfl HR2.out (fun b hb => Nat.lt_of_lt_of_le hb hs2) HM4.out (by omega) (by omega) ?_; intro g cv2 w3 O3 hg hB3 h5 h6; have HO3 := Lib.hid (O3.flat rfl); clear O3; have HOk := Lib.hid ((HO.out.below hb2).below hB3); have hb3 := below_step hb2' hB3; have hs3 := hB3.size))
          | (at_builtin; go_must (refine wpList_app _ rfl _ _ 28 rfl (e := rowT) info_bs Try.underlying28 rfl (by decide) (base := w.heap.size) (S := fun b => S' b ∨ b = g) (v := .slice av lv cv) (xs := rs) rfl ((HOk.out.alloc _).mono (fun b hb => .inl hb) (fun b hb => by
            rcases hb with hb | rfl
            · exact (HOk.out.alloc _).bound b hb
            · exact ⟨fun e => by have := ((HO.out.below hb2).own _ e).2; omega, by have := (HO3.out.own b rfl).2; simp only [World.size_alloc]; omega⟩)) (by simp only [World.size_alloc]; omega) rfl (ys := [recP ys]) (Src.new _ [_] _ _ _) (RdL.one (e := rowT) ((HO3.out.alloc _).rd _ (fun _ h => h.elim) (fun b hb => .inr (by cases hb; rfl)))) (by simp only [List.length_cons, List.length_nil]; omega) (by simp only [List.length_cons, List.length_nil]; omega) ?_; intro v' w4 O4 g4 _ hob; have hb4 := (hb3.alloc (by omega) _).grown g4 (by simp only [World.size_alloc]; omega) (fun k e => (HO.out.own k e).1); have hs4 := hb4.size; have HO4 := Lib.hid O4; clear O4; have HR4 := Lib.hid (HR2.out.keep (S' := fun b => b < w.heap.size) (fun b hb => (hb4.block b hb).trans (hb2'.block b hb).symm) (fun _ h => h))))
          | (go_at_call 34; (with_reducible refine (refNext_any (headI rs) a2 m c2 (recP ys) w4 (fun b hb => Nat.lt_of_lt_of_le hb hs4) HR4.out).mono ?_); rintro e w5 ⟨rfl, hB5⟩))
        go_roundg k'
        case measure => omega
        case rel => exact ⟨rs ++ [recP ys], _, u + (16 + m), by rw [HL.out]; omega, by rw [HL.out]; omega, by omega, by rw [List.length_append, List.length_singleton]; omega, by go_num, by rw [headI_snoc], HST.out, HO4.out.below hB5, below_step hb4 hB5⟩
end Go.Proofs.Ytkojomakibfncaa
