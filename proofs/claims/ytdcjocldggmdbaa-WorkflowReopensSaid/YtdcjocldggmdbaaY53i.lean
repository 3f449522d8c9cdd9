/- Layer 53: the law's steps: few, play. -/
import Derived.Test.YtdcjocldggmdbaaY53h
import Derived.Test.YtdcjocldggmdbaaX53j
set_option linter.unusedSimpArgs false
set_option maxRecDepth 50000
namespace Go.Proofs.Ytdcjocldggmdbaa
open Go.RowKit Go

/-! ### plain -/
def signS (ts : List Tk) (ne np : Nat) (sg : List Sg) (k : Ky) (who : ByteArray) : List Sg := if signI ts ne np (lkS sg) k who = 0 then insS ts sg k who else sg
def reopS (ts : List Tk) (ne np : Nat) (sg : List Sg) (k : Ky) : List Sg := if reopI ts ne np sg k = 0 then leftOf ts ne k sg else sg
theorem signI_zero {ts : List Tk} {ne np : Nat} {f : Ky → Option ByteArray} {k : Ky} {who : ByteArray} (h : signI ts ne np f k who = 0) : checkI ts ne np k = 0 ∧ nameB who = true ∧ f k = none ∧ readyB ts ne f k = true := by
  unfold signI at h
  by_cases hc : checkI ts ne np k = 0
  · rw [if_pos hc] at h
    split at h
    · rename_i hn
      split at h
      · cases h
      · rename_i hs
        split at h
        · rename_i hr
          refine ⟨hc, hn, ?_, hr⟩
          cases hf : f k with
          | none => rfl
          | some v => rw [hf] at hs; simp at hs
        · cases h
    · cases h
  · rw [if_neg hc] at h
    exact absurd h hc
theorem signI_of {ts : List Tk} {ne np : Nat} {f : Ky → Option ByteArray} {k : Ky} {who : ByteArray} (h1 : checkI ts ne np k = 0) (h2 : nameB who = true) (h3 : f k = none) (h4 : readyB ts ne f k = true) : signI ts ne np f k who = 0 := by
  unfold signI
  rw [if_pos h1, if_pos h2, h3, if_neg (by simp), if_pos h4]
theorem sign_lk (ts : List Tk) (ne np : Nat) (sg : List Sg) (k : Ky) (who : ByteArray) : (if signI ts ne np (lkS sg) k who = 0 then signF (lkS sg) k who else lkS sg) = lkS (signS ts ne np sg k who) := by
  unfold signS
  split
  · rename_i h
    exact (lk_ins (signI_zero h).2.2.1).symm
  · rfl
/-- What holds of what is signed. -/
structure SgInv (ts : List Tk) (ne np : Nat) (sg : List Sg) : Prop where
  ok : SgOk ts ne np sg
  inv : InvS ts ne np (lkS sg)
theorem SgInv.nil (ts : List Tk) (ne np : Nat) : SgInv ts ne np [] := ⟨SgOk.nil ts ne np, InvS.none ts ne np⟩
theorem SgInv.sign {ts : List Tk} {ne np : Nat} {sg : List Sg} (h : SgInv ts ne np sg) {k : Ky} {who : ByteArray} (hw : who.size ≤ maxLen) : SgInv ts ne np (signS ts ne np sg k who) where
  ok := by
    unfold signS
    split
    · rename_i hs
      exact h.ok.ins (signI_zero hs).1 (signI_zero hs).2.2.1 hw
    · exact h.ok
  inv := by
    rw [← sign_lk]
    exact h.inv.sign
theorem left_some {ts : List Tk} {ne : Nat} {k : Ky} {sg : List Sg} {y : Ky} : (lkS (leftOf ts ne k sg) y).isSome = true ↔ y ∈ keysS sg ∧ y ∉ goneOf ts ne k sg := by
  rw [lk_left]
  by_cases e : y ∈ goneOf ts ne k sg
  · simp [e]
  · simp [e, lk_isSome]
theorem SgInv.left {ts : List Tk} {ne np : Nat} (hw : Wk ts ne np) {sg : List Sg} (h : SgInv ts ne np sg) (k : Ky) : SgInv ts ne np (leftOf ts ne k sg) where
  ok := h.ok.filter _
  inv := fun y hy => by
    obtain ⟨h1, h2⟩ := left_some.1 hy
    have h3 := lk_isSome.2 h1
    refine ⟨(h.inv y h3).1, ?_⟩
    unfold readyB
    rw [List.all_eq_true]
    intro n hn
    refine left_some.2 ⟨lk_isSome.1 (h.inv.need h3 hn), fun hg => h2 ?_⟩
    rw [gone_iff hw h.ok] at hg ⊢
    exact .step hg h1 hn
theorem SgInv.reop {ts : List Tk} {ne np : Nat} (hw : Wk ts ne np) {sg : List Sg} (h : SgInv ts ne np sg) (k : Ky) : SgInv ts ne np (reopS ts ne np sg k) := by
  unfold reopS
  split
  · exact h.left hw k
  · exact h
theorem sign_len (ts : List Tk) (ne np : Nat) (sg : List Sg) (k : Ky) (who : ByteArray) : (signS ts ne np sg k who).length ≤ sg.length + 1 := by
  unfold signS
  split
  · rw [ins_len]; exact Nat.le_refl _
  · omega
theorem reop_len (ts : List Tk) (ne np : Nat) (sg : List Sg) (k : Ky) : (reopS ts ne np sg k).length ≤ sg.length := by
  unfold reopS leftOf
  split
  · exact List.length_filter_le _ _
  · exact Nat.le_refl _
structure Stp where
  key : Ky
  who : ByteArray
  back : Bool
abbrev stepT : Ty := .pr keyT (.pr .str (.pr .bool .un))
def stp (x : stepT.den) : Stp := ⟨ky x.1, x.2.1, x.2.2.1⟩
def playS (ts : List Tk) (ne np : Nat) (sg : List Sg) (s : Stp) : List Sg := if s.back then reopS ts ne np sg s.key else signS ts ne np sg s.key s.who
def playL (ts : List Tk) (ne np : Nat) (l : List Stp) (sg : List Sg) : List Sg := l.foldl (playS ts ne np) sg
theorem playS_len (ts : List Tk) (ne np : Nat) (sg : List Sg) (s : Stp) : (playS ts ne np sg s).length ≤ sg.length + 1 := by
  unfold playS
  split
  · exact Nat.le_trans (reop_len ts ne np sg s.key) (Nat.le_succ _)
  · exact sign_len ts ne np sg s.key s.who
theorem playL_snoc (ts : List Tk) (ne np : Nat) (l : List Stp) (s : Stp) (sg : List Sg) : playL ts ne np (l ++ [s]) sg = playS ts ne np (playL ts ne np l sg) s := by
  unfold playL
  rw [List.foldl_append]
  rfl
theorem SgInv.playS {ts : List Tk} {ne np : Nat} (hw : Wk ts ne np) {sg : List Sg} (h : SgInv ts ne np sg) (s : Stp) (hs : s.who.size ≤ maxLen) : SgInv ts ne np (playS ts ne np sg s) := by
  unfold Go.Proofs.Ytdcjocldggmdbaa.playS
  split
  · exact h.reop hw _
  · exact h.sign hs

/-! ### memory -/
theorem stepT_sz : stepT.sz = 5 := rfl
theorem step_at {S : Nat → Prop} {w : World} {a : Option Addr} {len cap : Nat} {xs : List stepT.den} (h : Rd (.sl stepT) S w [.slice a len cap] xs) (i : Nat) (hi : i < xs.length) :
    ∃ b off, a = some ⟨b, off, none⟩ ∧ S b ∧ w.cell? ⟨b, off + i * 5, none⟩ = some (.string (stp xs[i]).key.task) ∧ w.cell? ⟨b, off + i * 5 + 1, none⟩ = some (.int .i64 (stp xs[i]).key.ent) ∧ w.cell? ⟨b, off + i * 5 + 2, none⟩ = some (.int .i64 (stp xs[i]).key.per) ∧
      w.cell? ⟨b, off + i * 5 + 3, none⟩ = some (.string (stp xs[i]).who) ∧ w.cell? ⟨b, off + i * 5 + 4, none⟩ = some (.bool (stp xs[i]).back) ∧ (stp xs[i]).key.ok ∧ (stp xs[i]).who.size ≤ maxLen := by
  obtain ⟨hl, -, -, vs, hr, hor⟩ := h.sl_flat
  obtain ⟨c, hc, hcc, hrd⟩ := hr.at_ i hi
  rcases hor with h0 | ⟨b, off, rfl, hb, hcell⟩
  · omega
  · generalize xs[i] = s at hrd ⊢
    obtain ⟨⟨nm, e, p, ⟨⟩⟩, wh, bk, ⟨⟩⟩ := s
    obtain ⟨c1, r1, rfl, ⟨d1, s1, rfl, ⟨rfl, h1⟩, d2, s2, rfl, ⟨rfl, h2⟩, d3, s3, rfl, ⟨rfl, h3⟩, rfl⟩, c2, r2, rfl, ⟨rfl, h4⟩, c3, r3, rfl, rfl, rfl⟩ := hrd
    refine ⟨b, off, rfl, hb, ?_, ?_, ?_, ?_, ?_, ⟨h1, h2, h3⟩, h4⟩
    · rw [show off + i * 5 = off + (i * stepT.sz + 0) by rw [stepT_sz]; omega]; exact hcell _ _ (hcc 0 _ rfl)
    · rw [show off + i * 5 + 1 = off + (i * stepT.sz + 1) by rw [stepT_sz]; omega]; exact hcell _ _ (hcc 1 _ rfl)
    · rw [show off + i * 5 + 2 = off + (i * stepT.sz + 2) by rw [stepT_sz]; omega]; exact hcell _ _ (hcc 2 _ rfl)
    · rw [show off + i * 5 + 3 = off + (i * stepT.sz + 3) by rw [stepT_sz]; omega]; exact hcell _ _ (hcc 3 _ rfl)
    · rw [show off + i * 5 + 4 = off + (i * stepT.sz + 4) by rw [stepT_sz]; omega]; exact hcell _ _ (hcc 4 _ rfl)
def FewQ (xs : List taskT.den) (n : Int) (m : Nat) (w : World) (e : Ending) (w' : World) : Prop := ∃ b, e = .returned (.bool b) ∧ Below w.heap.size w w' ∧ (b = true → (xs.length ≤ 8 ∧ ∀ i (hi : i < xs.length), (tk xs[i]).needs.length ≤ 8) ∧ m ≤ 40 ∧ n ≤ 13)
set_option maxRecDepth 20000 in
set_option maxHeartbeats 2000000 in
theorem fewS53 {S T : Nat → Prop} (w : World) (n : Int) (a : Option Addr) (len cap : Nat) (xs : List taskT.den) (hx : Rd (.sl taskT) S w [.slice a len cap] xs) (hS : ∀ b, S b → b < w.heap.size) (la : Option Addr) (ll lc : Nat) (ls : List stepT.den) (hls : Rd (.sl stepT) T w [.slice la ll lc] ls) (hT : ∀ b, T b → b < w.heap.size) :
    Calls Try.prog 9 #[.agg #[.int .i64 n, .slice a len cap], .slice la ll lc] w (FewQ xs n ls.length w) := by
  have hp := alloc_new' (w := w) (o := .cells #[.int .i64 n, .slice a len cap] 24) rfl
  have hB := (Below.refl w.heap.size w).alloc (Nat.le_refl _) (.cells #[.int .i64 n, .slice a len cap] 24)
  have HP := Lib.hid hp
  have HB := Lib.hid hB
  have HX := Lib.hid (hx.below hB hS)
  have HL := Lib.hid (hls.below hB hT)
  have HLL := Lib.hid (show ls.length = ll from hls.sl_flat.1)
  have hll9 : ll ≤ 9223372036854775807 := Nat.le_trans hls.sl_flat.2.1 hls.sl_flat.2.2.1
  clear hx hp hB hls hS hT
  go_enter Try.func9, Try.ntmps9
  go_wp2_with fail
  generalize w.alloc _ = w1 at HP HB HX HL ⊢
  obtain ⟨pb, hpb⟩ : ∃ q, w.heap.size = q := ⟨_, rfl⟩
  have HPB := Lib.hid hpb
  rw [hpb] at HP ⊢
  clear hpb
  go_loopw [5] (fun i wr => ∃ k : Nat, k ≤ ll ∧ i = .int .i64 k ∧ wr = w1) (fun i _ => ll - (intOf i).toNat)
  case atStart => exact ⟨0, Nat.zero_le _, rfl, rfl⟩
  obtain ⟨k, hk, rfl, rfl⟩ := hrel
  by_cases hlt : k < ll
  · have hkI : (k : Int) < (ll : Int) := by omega
    have hkx : k < ls.length := by rw [HLL.out]; exact hlt
    obtain ⟨b, o, rfl, -, m0, m1, m2, m3, m4, -, -⟩ := step_at HL.out k hkx
    have HLT := Lib.hid hlt
    generalize stp ls[k] = s at m0 m1 m2 m3 m4
    obtain ⟨⟨s1, s2, s3⟩, s4, s5⟩ := s
    simp only at m0 m1 m2 m3 m4
    clear hkx hlt
    by_cases h1 : (40 : Int) < (s4.size : Int)
    · go_wp2_with fail
      go_ret
      exact ⟨false, rfl, HB.out, fun h => by cases h⟩
    by_cases h2 : (40 : Int) < (s1.size : Int)
    · go_wp2_with fail
      go_ret
      exact ⟨false, rfl, HB.out, fun h => by cases h⟩
    go_wp2_with fail
    go_roundw
    case rel => exact ⟨k + 1, HLT.out, by have := HLT.out; go_num, by first | rfl | trivial⟩
    case measure =>
      have := HLT.out
      have hw : wrap64 ((k : Int) + 1) = (k : Int) + 1 := by rw [wrap64]; omega
      simp [intOf, hw]; try omega
  · obtain rfl : ll = k := by omega
    have x0 := blk_cell HP.out 0
    have x1 := blk_cell HP.out 1
    simp at x0 x1
    clear hlt
    go_wp2_with fail
    have hX := rfew53 wr a len cap xs HX.out
    refine Calls.mono hX ?_
    clear hX
    rintro e w2 ⟨fb, rfl, rfl, hfb⟩
    have HFB := Lib.hid hfb
    clear hfb
    cases fb
    · go_wp2_with fail
      go_ret
      exact ⟨false, rfl, HB.out, fun h => by cases h⟩
    have HF := Lib.hid (HFB.out rfl)
    by_cases h3 : (ll : Int) ≤ 40
    · go_wp2_with fail
      go_ret
      refine ⟨_, rfl, HB.out, fun h => ⟨HF.out, by rw [HLL.out]; omega, ?_⟩⟩
      exact of_decide_eq_true h
    · go_wp2_with fail
      go_ret
      exact ⟨false, rfl, HB.out, fun h => by cases h⟩
/-- What a run of steps leaves. -/
def PlayP (S : Nat → Prop) (w : World) (p : Nat) (ts : List Tk) (ne np m n : Nat) (sg : List Sg) (e : Ending) (w' : World) : Prop :=
  e = .returned (.tuple #[]) ∧ Gr (fun b => b = m) w w' ∧ ∃ n', n' ≤ n ∧ WfIn S w' p ts ne np m n' (lkS sg)
set_option maxRecDepth 20000 in
set_option maxHeartbeats 4000000 in
theorem play53 {S T : Nat → Prop} (w : World) (p : Nat) (ts : List Tk) (ne np m : Nat) (h : WfIn S w p ts ne np m 0 (fun _ => none)) (hw : Wk ts ne np) (la : Option Addr) (ll lc : Nat) (ls : List stepT.den) (hls : Rd (.sl stepT) T w [.slice la ll lc] ls) (hT : ∀ b, T b → b < w.heap.size ∧ b ≠ m) (hll : ll ≤ 500) :
    Calls Try.prog 25 #[.pointer (some ⟨p, 0, none⟩), .slice la ll lc] w (PlayP S w p ts ne np m ll (playL ts ne np (ls.map stp) [])) := by
  have HH := Lib.hid h
  have HWK := Lib.hid hw
  have HL := Lib.hid hls
  have HTT := Lib.hid hT
  have HLL := Lib.hid (show ls.length = ll from hls.sl_flat.1)
  obtain ⟨P, hP⟩ : ∃ P, P = PlayP S w p ts ne np m ll (playL ts ne np (ls.map stp) []) := ⟨_, rfl⟩
  rw [← hP]
  have HPE := Lib.hid hP
  clear h hw hls hT hP
  go_enter Try.func25, Try.ntmps25
  go_wp2_with fail
  go_loopw [4] (fun i wr => ∃ (k n' : Nat), k ≤ ll ∧ i = .int .i64 k ∧ Gr (fun b => b = m) w wr ∧ n' ≤ k ∧ WfIn S wr p ts ne np m n' (lkS (playL ts ne np ((ls.take k).map stp) [])) ∧ SgInv ts ne np (playL ts ne np ((ls.take k).map stp) []) ∧ (playL ts ne np ((ls.take k).map stp) []).length ≤ k) (fun i _ => ll - (intOf i).toNat)
  case atStart => exact ⟨0, 0, Nat.zero_le _, rfl, Gr.refl _ _, Nat.le_refl _, HH.out, SgInv.nil _ _ _, Nat.le_refl _⟩
  obtain ⟨k, n', hk, rfl, hg, hn, hwf, hsi, hlen⟩ := hrel
  have HG := Lib.hid hg
  have HWF := Lib.hid hwf
  have HSI := Lib.hid hsi
  have HN := Lib.hid hn
  have HLEN := Lib.hid hlen
  by_cases hlt : k < ll
  · have hkI : (k : Int) < (ll : Int) := by omega
    have hkx : k < ls.length := by rw [HLL.out]; exact hlt
    obtain ⟨b, o, rfl, -, m0, m1, m2, m3, m4, hok, hsz⟩ := step_at (HL.out.gr hg (fun b hb => HTT.out b hb) (fun _ h => h)) k hkx
    have HSTEP := Lib.hid (show playL ts ne np ((ls.take (k + 1)).map stp) [] = playS ts ne np (playL ts ne np ((ls.take k).map stp) []) (stp ls[k]) from by
      rw [List.take_succ_eq_append_getElem hkx, List.map_append]
      exact playL_snoc ts ne np _ _ _)
    have HLT := Lib.hid hlt
    generalize stp ls[k] = s at m0 m1 m2 m3 m4 hok hsz HSTEP
    obtain ⟨⟨q1, q2, q3⟩, q4, q5⟩ := s
    simp only at m0 m1 m2 m3 m4 hok hsz
    have HOK := Lib.hid hok
    have HSZ := Lib.hid hsz
    clear hkx hlt hg hn hwf hsi hlen hok hsz
    have hnew := HSI.out.playS HWK.out ⟨⟨q1, q2, q3⟩, q4, q5⟩ HSZ.out
    have hnl := playS_len ts ne np (playL ts ne np ((ls.take k).map stp) []) ⟨⟨q1, q2, q3⟩, q4, q5⟩
    have HNEW := Lib.hid hnew
    have HNL := Lib.hid hnl
    clear hnew hnl
    generalize playL ts ne np ((ls.take k).map stp) [] = sg at HWF HSI HLEN HSTEP HNEW HNL
    cases q5
    · have HC := Lib.hid (fun W (hB : Below wr.heap.size wr W) => sign53 W p ts ne np m n' (lkS sg) (HWF.out.below hB) (by have := HWK.out.ne; omega) (by have := HN.out; omega) ⟨q1, q2, q3⟩ HOK.out q4 HSZ.out (fun hc => HWK.out.need hc))
      unfold Ky.v at HC
      simp only at HC
      have hC0 : Cells [(⟨b, o + k * 5, none⟩, .string q1), (⟨b, o + k * 5 + 1, none⟩, .int .i64 q2), (⟨b, o + k * 5 + 2, none⟩, .int .i64 q3), (⟨b, o + k * 5 + 3, none⟩, .string q4)] wr := ⟨m0, m1, m2, m3, trivial⟩
      clear m0 m1 m2 m3
      go_wp2_with fail
      refine wp_region_T (Cells [(⟨b, o + k * 5, none⟩, .string q1), (⟨b, o + k * 5 + 1, none⟩, .int .i64 q2), (⟨b, o + k * 5 + 2, none⟩, .int .i64 q3), (⟨b, o + k * 5 + 3, none⟩, .string q4)]) (fun i => i == 11) (by kernel_rfl) ?_
      have hSss1 := Cells.drew hC0
      have hB_0_s1 : Below wr.heap.size wr wr.drew := below_drew _
      generalize wr.drew = s1 at hSss1 hB_0_s1 ⊢
      have hB_s1_s1 := Below.refl s1.heap.size s1
      refine wpAnyT_pure (i := 0) (v := ?_) rfl (by kernel_rfl) (by kernel_rfl) (by kernel_rfl) (fun _ _ _ h => h) (by rfl) ?_ ?_
      rotate_left
      · intro w; go_simp; try with_reducible rfl
      simp only [Act.put, List.setIfInBounds_toArray, List.set_cons_zero, List.set_cons_succ, List.getElem_toArray, List.getElem_cons_succ, List.getElem_cons_zero]
      refine wpAnyT_pure (i := 1) (v := ?_) rfl (by kernel_rfl) (by kernel_rfl) (by kernel_rfl) (fun _ _ _ h => h) (by rfl) ?_ ?_
      rotate_left
      · intro w; go_simp; try with_reducible rfl
      simp only [Act.put, List.setIfInBounds_toArray, List.set_cons_zero, List.set_cons_succ, List.getElem_toArray, List.getElem_cons_succ, List.getElem_cons_zero]
      refine wpAnyT_pure (i := 2) (v := ?_) rfl (by kernel_rfl) (by kernel_rfl) (by kernel_rfl) (fun _ _ _ h => h) (by rfl) ?_ ?_
      rotate_left
      · intro w; go_simp; try with_reducible rfl
      simp only [Act.put, List.setIfInBounds_toArray, List.set_cons_zero, List.set_cons_succ, List.getElem_toArray, List.getElem_cons_succ, List.getElem_cons_zero]
      refine wpAnyT_pure (i := 3) (v := ?_) rfl (by kernel_rfl) (by kernel_rfl) (by kernel_rfl) (fun _ _ _ h => h) (by rfl) ?_ ?_
      rotate_left
      · intro w; go_simp; try with_reducible rfl
      simp only [Act.put, List.setIfInBounds_toArray, List.set_cons_zero, List.set_cons_succ, List.getElem_toArray, List.getElem_cons_succ, List.getElem_cons_zero]
      refine wpAnyT_pure (i := 4) (v := ?_) rfl (by kernel_rfl) (by kernel_rfl) (by kernel_rfl) (fun _ _ _ h => h) (by rfl) ?_ ?_
      rotate_left
      · intro w; go_simp; try with_reducible rfl
      simp only [Act.put, List.setIfInBounds_toArray, List.set_cons_zero, List.set_cons_succ, List.getElem_toArray, List.getElem_cons_succ, List.getElem_cons_zero]
      refine wpAnyT_pure (i := 6) (v := ?_) rfl (by kernel_rfl) (by kernel_rfl) (by kernel_rfl) (fun _ _ _ h => h) (by rfl) ?_ ?_
      rotate_left
      · intro w; go_simp; try with_reducible rfl
      simp only [Act.put, List.setIfInBounds_toArray, List.set_cons_zero, List.set_cons_succ, List.getElem_toArray, List.getElem_cons_succ, List.getElem_cons_zero]
      refine wpAnyT_pure (i := 7) (v := ?_) rfl (by kernel_rfl) (by kernel_rfl) (by kernel_rfl) (fun _ _ _ h => h) (by rfl) ?_ ?_
      rotate_left
      · intro w; go_simp; try with_reducible rfl
      simp only [Act.put, List.setIfInBounds_toArray, List.set_cons_zero, List.set_cons_succ, List.getElem_toArray, List.getElem_cons_succ, List.getElem_cons_zero]
      refine wpAnyT_pure (i := 8) (v := ?_) rfl (by kernel_rfl) (by kernel_rfl) (by kernel_rfl) (fun _ _ _ h => h) (by rfl) ?_ ?_
      rotate_left
      · intro w; go_simp; try with_reducible rfl
      simp only [Act.put, List.setIfInBounds_toArray, List.set_cons_zero, List.set_cons_succ, List.getElem_toArray, List.getElem_cons_succ, List.getElem_cons_zero]
      refine wpAnyT_pure (i := 9) (v := ?_) rfl (by kernel_rfl) (by kernel_rfl) (by kernel_rfl) (fun _ _ _ h => h) (by rfl) ?_ ?_
      rotate_left
      · intro w; go_simp; try with_reducible rfl
      simp only [Act.put, List.setIfInBounds_toArray, List.set_cons_zero, List.set_cons_succ, List.getElem_toArray, List.getElem_cons_succ, List.getElem_cons_zero]
      refine wpAnyT_loadW (i := 5) (v := ?_) rfl (by kernel_rfl) (by kernel_rfl) (by kernel_rfl) (by kernel_rfl) (by kernel_rfl) (fun _ _ _ h => h) (Or.inl ⟨by rfl, ?_⟩) hSss1 ?_
      rotate_left
      · intro w hSw; obtain ⟨e0, e1, e2, e3, -⟩ := hSw; go_simp; try with_reducible rfl
      simp only [Act.put, List.setIfInBounds_toArray, List.set_cons_zero, List.set_cons_succ, List.getElem_toArray, List.getElem_cons_succ, List.getElem_cons_zero]
      refine wpAnyT_loadW (i := 10) (v := ?_) rfl (by kernel_rfl) (by kernel_rfl) (by kernel_rfl) (by kernel_rfl) (by kernel_rfl) (fun _ _ _ h => h) (Or.inl ⟨by rfl, ?_⟩) hSss1 ?_
      rotate_left
      · intro w hSw; obtain ⟨e0, e1, e2, e3, -⟩ := hSw; go_simp; try with_reducible rfl
      simp only [Act.put, List.setIfInBounds_toArray, List.set_cons_zero, List.set_cons_succ, List.getElem_toArray, List.getElem_cons_succ, List.getElem_cons_zero]
      refine wpAnyT_one (i := 11) (by kernel_rfl) rfl (by rfl) ?_
      have hbP : Below wr.heap.size wr s1 := hB_0_s1.trans ((hB_s1_s1).mono (hB_0_s1).size)
      refine wp_enter (f := 19) (args := #[.pointer (some ⟨p, 0, none⟩), .agg #[.string q1, .int .i64 q2, .int .i64 q3], .string q4]) (by go_simp) (HC.out s1 hbP) ?_
      rintro e w102 ⟨rfl, hg2, n2, hn2, hwf2⟩
      refine ⟨_, rfl, fun h => absurd h (by decide), ?_⟩
      try simp only [Act.put, List.setIfInBounds_toArray, List.set_cons_zero, List.set_cons_succ, List.getElem_toArray, List.getElem_cons_succ, List.getElem_cons_zero]
      refine wpAnyT_done (by kernel_rfl) ?_ _
      obtain ⟨w2, rfl⟩ : ∃ x, x = w102 := ⟨_, rfl⟩
      have HG2 := Lib.hid ((HG.out.step hbP).trans hg2 (fun _ h => .inl h))
      have HWF2 := Lib.hid (show WfIn S w2 p ts ne np m n2 (lkS (playS ts ne np sg ⟨⟨q1, q2, q3⟩, q4, false⟩)) from by
        have h := hwf2
        rw [sign_lk] at h
        exact h)
      have HN2 := Lib.hid hn2
      clear hg2 hwf2 hn2 hC0 hbP
      go_wp2_with fail
      go_roundw
      case rel => exact ⟨k + 1, n2, HLT.out, by go_num, HG2.out, by have := HN.out; have := HN2.out; omega, by rw [HSTEP.out]; exact HWF2.out, by rw [HSTEP.out]; exact HNEW.out, by rw [HSTEP.out]; have := HNL.out; have := HLEN.out; omega⟩
      case measure => have := HLT.out; simp [intOf]; try omega
    · have HC := Lib.hid (reopM wr p ts ne np m n' sg HWF.out HWK.out HSI.out.ok (by have := HLEN.out; omega) (by have := HN.out; omega) ⟨q1, q2, q3⟩ HOK.out)
      unfold Ky.v at HC
      simp only at HC
      go_wp2_with fail
      have hX := HC.out
      refine Calls.mono hX ?_
      clear hX
      rintro e w2 ⟨ra, rl, rc, rfl, -, hg2, n2, hn2, hwf2⟩
      have HG2 := Lib.hid (HG.out.trans hg2 (fun _ h => .inl h))
      have HWF2 := Lib.hid (show WfIn S w2 p ts ne np m n2 (lkS (playS ts ne np sg ⟨⟨q1, q2, q3⟩, q4, true⟩)) from hwf2)
      have HN2 := Lib.hid hn2
      clear hg2 hwf2 hn2 m0 m1 m2 m3 m4
      go_wp2_with fail
      go_roundw
      case rel => exact ⟨k + 1, n2, HLT.out, by go_num, HG2.out, by have := HN.out; have := HN2.out; omega, by rw [HSTEP.out]; exact HWF2.out, by rw [HSTEP.out]; exact HNEW.out, by rw [HSTEP.out]; have := HNL.out; have := HLEN.out; omega⟩
      case measure => have := HLT.out; simp [intOf]; try omega
  · obtain rfl : ll = k := by omega
    have hall : ls.take ll = ls := List.take_of_length_le (by rw [HLL.out]; exact Nat.le_refl _)
    rw [hall] at HWF
    clear hg hn hwf hsi hlen hall hlt
    go_wp2_with fail
    refine bodyPost_end (results_none rfl _ _ _) rfl ?_
    rw [HPE.out]
    exact ⟨rfl, HG.out, n', HN.out, HWF.out⟩
end Go.Proofs.Ytdcjocldggmdbaa
