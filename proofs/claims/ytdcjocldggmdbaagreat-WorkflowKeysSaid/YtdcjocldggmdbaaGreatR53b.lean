/- Layer 53: the law's steps: few, play. -/
import Derived.Test.YtdcjocldggmdbaaGreatX53j
import Derived.Test.YtdcjocldggmdbaaGreatColl
set_option linter.unusedSimpArgs false
set_option maxRecDepth 50000
namespace Go.Proofs.YtdcjocldggmdbaaGreat
open Go.RowKit Go

/-! ### plain -/
def signS (ts : List Tk) (ne np : Nat) (sg : List Sg) (k : Ky) (who : ByteArray) : List Sg := if signI ts ne np (lkS sg) k who = 0 then insS ts sg k who else sg
def reopS (ts : List Tk) (ne np : Nat) (sg : List Sg) (k : Ky) : List Sg := if reopI ts ne np sg k = 0 then leftOf ts ne k sg else sg
theorem signI_zero {ts : List Tk} {ne np : Nat} {f : Ky → Option ByteArray} {k : Ky} {who : ByteArray} (h : signI ts ne np f k who = 0) : checkI ts ne np k = 0 ∧ nameB who = true ∧ f k = none ∧ readyB ts ne f k = true := by
  unfold signI at h
  by_cases hc : checkI ts ne np k = 0
  · rw [if_pos hc] at h
    split at h
    · rename_i hn
      split at h
      · cases h
      · rename_i hs
        split at h
        · rename_i hr
          refine ⟨hc, hn, ?_, hr⟩
          cases hf : f k with
          | none => rfl
          | some v => rw [hf] at hs; simp at hs
        · cases h
    · cases h
  · rw [if_neg hc] at h
    exact absurd h hc
theorem signI_of {ts : List Tk} {ne np : Nat} {f : Ky → Option ByteArray} {k : Ky} {who : ByteArray} (h1 : checkI ts ne np k = 0) (h2 : nameB who = true) (h3 : f k = none) (h4 : readyB ts ne f k = true) : signI ts ne np f k who = 0 := by
  unfold signI
  rw [if_pos h1, if_pos h2, h3, if_neg (by simp), if_pos h4]
theorem sign_lk (ts : List Tk) (ne np : Nat) (sg : List Sg) (k : Ky) (who : ByteArray) : (if signI ts ne np (lkS sg) k who = 0 then signF (lkS sg) k who else lkS sg) = lkS (signS ts ne np sg k who) := by
  unfold signS
  split
  · rename_i h
    exact (lk_ins (signI_zero h).2.2.1).symm
  · rfl
/-- What holds of what is signed. -/
structure SgInv (ts : List Tk) (ne np : Nat) (sg : List Sg) : Prop where
  ok : SgOk ts ne np sg
  inv : InvS ts ne np (lkS sg)
theorem SgInv.nil (ts : List Tk) (ne np : Nat) : SgInv ts ne np [] := ⟨SgOk.nil ts ne np, InvS.none ts ne np⟩
theorem SgInv.sign {ts : List Tk} {ne np : Nat} {sg : List Sg} (h : SgInv ts ne np sg) {k : Ky} {who : ByteArray} (hw : who.size ≤ maxLen) : SgInv ts ne np (signS ts ne np sg k who) where
  ok := by
    unfold signS
    split
    · rename_i hs
      exact h.ok.ins (signI_zero hs).1 (signI_zero hs).2.2.1 hw
    · exact h.ok
  inv := by
    rw [← sign_lk]
    exact h.inv.sign
theorem left_some {ts : List Tk} {ne : Nat} {k : Ky} {sg : List Sg} {y : Ky} : (lkS (leftOf ts ne k sg) y).isSome = true ↔ y ∈ keysS sg ∧ y ∉ goneOf ts ne k sg := by
  rw [lk_left]
  by_cases e : y ∈ goneOf ts ne k sg
  · simp [e]
  · simp [e, lk_isSome]
theorem SgInv.left {ts : List Tk} {ne np : Nat} (hw : Wk ts ne np) {sg : List Sg} (h : SgInv ts ne np sg) (k : Ky) : SgInv ts ne np (leftOf ts ne k sg) where
  ok := h.ok.filter _
  inv := fun y hy => by
    obtain ⟨h1, h2⟩ := left_some.1 hy
    have h3 := lk_isSome.2 h1
    refine ⟨(h.inv y h3).1, ?_⟩
    unfold readyB
    rw [List.all_eq_true]
    intro n hn
    refine left_some.2 ⟨lk_isSome.1 (h.inv.need h3 hn), fun hg => h2 ?_⟩
    rw [gone_iff hw h.ok] at hg ⊢
    exact .step hg h1 hn
theorem SgInv.reop {ts : List Tk} {ne np : Nat} (hw : Wk ts ne np) {sg : List Sg} (h : SgInv ts ne np sg) (k : Ky) : SgInv ts ne np (reopS ts ne np sg k) := by
  unfold reopS
  split
  · exact h.left hw k
  · exact h
theorem sign_len (ts : List Tk) (ne np : Nat) (sg : List Sg) (k : Ky) (who : ByteArray) : (signS ts ne np sg k who).length ≤ sg.length + 1 := by
  unfold signS
  split
  · rw [ins_len]; exact Nat.le_refl _
  · omega
theorem reop_len (ts : List Tk) (ne np : Nat) (sg : List Sg) (k : Ky) : (reopS ts ne np sg k).length ≤ sg.length := by
  unfold reopS leftOf
  split
  · exact List.length_filter_le _ _
  · exact Nat.le_refl _
structure Stp where
  key : Ky
  who : ByteArray
  back : Bool
abbrev stepT : Ty := .pr keyT (.pr .str (.pr .bool .un))
def stp (x : stepT.den) : Stp := ⟨ky x.1, x.2.1, x.2.2.1⟩
def playS (ts : List Tk) (ne np : Nat) (sg : List Sg) (s : Stp) : List Sg := if s.back then reopS ts ne np sg s.key else signS ts ne np sg s.key s.who
def playL (ts : List Tk) (ne np : Nat) (l : List Stp) (sg : List Sg) : List Sg := l.foldl (playS ts ne np) sg
theorem playS_len (ts : List Tk) (ne np : Nat) (sg : List Sg) (s : Stp) : (playS ts ne np sg s).length ≤ sg.length + 1 := by
  unfold playS
  split
  · exact Nat.le_trans (reop_len ts ne np sg s.key) (Nat.le_succ _)
  · exact sign_len ts ne np sg s.key s.who
theorem playL_snoc (ts : List Tk) (ne np : Nat) (l : List Stp) (s : Stp) (sg : List Sg) : playL ts ne np (l ++ [s]) sg = playS ts ne np (playL ts ne np l sg) s := by
  unfold playL
  rw [List.foldl_append]
  rfl
theorem SgInv.playS {ts : List Tk} {ne np : Nat} (hw : Wk ts ne np) {sg : List Sg} (h : SgInv ts ne np sg) (s : Stp) (hs : s.who.size ≤ maxLen) : SgInv ts ne np (playS ts ne np sg s) := by
  unfold Go.Proofs.YtdcjocldggmdbaaGreat.playS
  split
  · exact h.reop hw _
  · exact h.sign hs

/-! ### memory -/
theorem stepT_sz : stepT.sz = 5 := rfl
theorem step_at {S : Nat → Prop} {w : World} {a : Option Addr} {len cap : Nat} {xs : List stepT.den} (h : Rd (.sl stepT) S w [.slice a len cap] xs) (i : Nat) (hi : i < xs.length) :
    ∃ b off, a = some ⟨b, off, none⟩ ∧ S b ∧ w.cell? ⟨b, off + i * 5, none⟩ = some (.string (stp xs[i]).key.task) ∧ w.cell? ⟨b, off + i * 5 + 1, none⟩ = some (.int .i64 (stp xs[i]).key.ent) ∧ w.cell? ⟨b, off + i * 5 + 2, none⟩ = some (.int .i64 (stp xs[i]).key.per) ∧
      w.cell? ⟨b, off + i * 5 + 3, none⟩ = some (.string (stp xs[i]).who) ∧ w.cell? ⟨b, off + i * 5 + 4, none⟩ = some (.bool (stp xs[i]).back) ∧ (stp xs[i]).key.ok ∧ (stp xs[i]).who.size ≤ maxLen := by
  obtain ⟨hl, -, -, vs, hr, hor⟩ := h.sl_flat
  obtain ⟨c, hc, hcc, hrd⟩ := hr.at_ i hi
  rcases hor with h0 | ⟨b, off, rfl, hb, hcell⟩
  · omega
  · generalize xs[i] = s at hrd ⊢
    obtain ⟨⟨nm, e, p, ⟨⟩⟩, wh, bk, ⟨⟩⟩ := s
    obtain ⟨c1, r1, rfl, ⟨d1, s1, rfl, ⟨rfl, h1⟩, d2, s2, rfl, ⟨rfl, h2⟩, d3, s3, rfl, ⟨rfl, h3⟩, rfl⟩, c2, r2, rfl, ⟨rfl, h4⟩, c3, r3, rfl, rfl, rfl⟩ := hrd
    refine ⟨b, off, rfl, hb, ?_, ?_, ?_, ?_, ?_, ⟨h1, h2, h3⟩, h4⟩
    · rw [show off + i * 5 = off + (i * stepT.sz + 0) by rw [stepT_sz]; omega]; exact hcell _ _ (hcc 0 _ rfl)
    · rw [show off + i * 5 + 1 = off + (i * stepT.sz + 1) by rw [stepT_sz]; omega]; exact hcell _ _ (hcc 1 _ rfl)
    · rw [show off + i * 5 + 2 = off + (i * stepT.sz + 2) by rw [stepT_sz]; omega]; exact hcell _ _ (hcc 2 _ rfl)
    · rw [show off + i * 5 + 3 = off + (i * stepT.sz + 3) by rw [stepT_sz]; omega]; exact hcell _ _ (hcc 3 _ rfl)
    · rw [show off + i * 5 + 4 = off + (i * stepT.sz + 4) by rw [stepT_sz]; omega]; exact hcell _ _ (hcc 4 _ rfl)
def FewQ (xs : List taskT.den) (n : Int) (m : Nat) (w : World) (e : Ending) (w' : World) : Prop := ∃ b, e = .returned (.bool b) ∧ Below w.heap.size w w' ∧ (b = true → (xs.length ≤ 8 ∧ ∀ i (hi : i < xs.length), (tk xs[i]).needs.length ≤ 8) ∧ m ≤ 40 ∧ n ≤ 13)
set_option maxRecDepth 20000 in
set_option maxHeartbeats 2000000 in
theorem fewS53 {S T : Nat → Prop} (w : World) (n : Int) (a : Option Addr) (len cap : Nat) (xs : List taskT.den) (hx : Rd (.sl taskT) S w [.slice a len cap] xs) (hS : ∀ b, S b → b < w.heap.size) (la : Option Addr) (ll lc : Nat) (ls : List stepT.den) (hls : Rd (.sl stepT) T w [.slice la ll lc] ls) (hT : ∀ b, T b → b < w.heap.size) :
    Calls Tryz.prog 5 #[.agg #[.int .i64 n, .slice a len cap], .slice la ll lc] w (FewQ xs n ls.length w) := by
  have hp := alloc_new' (w := w) (o := .cells #[.int .i64 n, .slice a len cap] 24) rfl
  have hB := (Below.refl w.heap.size w).alloc (Nat.le_refl _) (.cells #[.int .i64 n, .slice a len cap] 24)
  have HP := Lib.hid hp
  have HB := Lib.hid hB
  have HX := Lib.hid (hx.below hB hS)
  have HL := Lib.hid (hls.below hB hT)
  have HLL := Lib.hid (show ls.length = ll from hls.sl_flat.1)
  have hll9 : ll ≤ 9223372036854775807 := Nat.le_trans hls.sl_flat.2.1 hls.sl_flat.2.2.1
  clear hx hp hB hls hS hT
  go_enter Tryz.func5, Tryz.ntmps5
  go_wp2_with fail
  generalize w.alloc _ = w1 at HP HB HX HL ⊢
  obtain ⟨pb, hpb⟩ : ∃ q, w.heap.size = q := ⟨_, rfl⟩
  have HPB := Lib.hid hpb
  rw [hpb] at HP ⊢
  clear hpb
  go_loopw [5] (fun i wr => ∃ k : Nat, k ≤ ll ∧ i = .int .i64 k ∧ wr = w1) (fun i _ => ll - (intOf i).toNat)
  case atStart => exact ⟨0, Nat.zero_le _, rfl, rfl⟩
  obtain ⟨k, hk, rfl, rfl⟩ := hrel
  by_cases hlt : k < ll
  · have hkI : (k : Int) < (ll : Int) := by omega
    have hkx : k < ls.length := by rw [HLL.out]; exact hlt
    obtain ⟨b, o, rfl, -, m0, m1, m2, m3, m4, -, -⟩ := step_at HL.out k hkx
    have HLT := Lib.hid hlt
    generalize stp ls[k] = s at m0 m1 m2 m3 m4
    obtain ⟨⟨s1, s2, s3⟩, s4, s5⟩ := s
    simp only at m0 m1 m2 m3 m4
    clear hkx hlt
    by_cases h1 : (40 : Int) < (s4.size : Int)
    · go_wp2_with fail
      go_ret
      exact ⟨false, rfl, HB.out, fun h => by cases h⟩
    by_cases h2 : (40 : Int) < (s1.size : Int)
    · go_wp2_with fail
      go_ret
      exact ⟨false, rfl, HB.out, fun h => by cases h⟩
    go_wp2_with fail
    go_roundw
    case rel => exact ⟨k + 1, HLT.out, by have := HLT.out; go_num, by first | rfl | trivial⟩
    case measure =>
      have := HLT.out
      have hw : wrap64 ((k : Int) + 1) = (k : Int) + 1 := by rw [wrap64]; omega
      simp [intOf, hw]; try omega
  · obtain rfl : ll = k := by omega
    have x0 := blk_cell HP.out 0
    have x1 := blk_cell HP.out 1
    simp at x0 x1
    clear hlt
    go_wp2_with fail
    have hX := rfew53 wr a len cap xs HX.out
    refine Calls.mono hX ?_
    clear hX
    rintro e w2 ⟨fb, rfl, rfl, hfb⟩
    have HFB := Lib.hid hfb
    clear hfb
    cases fb
    · go_wp2_with fail
      go_ret
      exact ⟨false, rfl, HB.out, fun h => by cases h⟩
    have HF := Lib.hid (HFB.out rfl)
    by_cases h3 : (ll : Int) ≤ 40
    · go_wp2_with fail
      go_ret
      refine ⟨_, rfl, HB.out, fun h => ⟨HF.out, by rw [HLL.out]; omega, ?_⟩⟩
      exact of_decide_eq_true h
    · go_wp2_with fail
      go_ret
      exact ⟨false, rfl, HB.out, fun h => by cases h⟩
/-- What a run of steps leaves. -/
def PlayP (S : Nat → Prop) (w : World) (p : Nat) (ts : List Tk) (ne np m n : Nat) (sg : List Sg) (e : Ending) (w' : World) : Prop :=
  e = .returned (.tuple #[]) ∧ Gr (fun b => b = m) w w' ∧ ∃ n', n' ≤ n ∧ WfIn S w' p ts ne np m n' (lkS sg)
set_option maxRecDepth 20000 in
set_option maxHeartbeats 4000000 in
theorem play53 {S T : Nat → Prop} (w : World) (p : Nat) (ts : List Tk) (ne np m : Nat) (h : WfIn S w p ts ne np m 0 (fun _ => none)) (hw : Wk ts ne np) (la : Option Addr) (ll lc : Nat) (ls : List stepT.den) (hls : Rd (.sl stepT) T w [.slice la ll lc] ls) (hT : ∀ b, T b → b < w.heap.size ∧ b ≠ m) (hll : ll ≤ 500) :
    Calls Tryz.prog 7 #[.pointer (some ⟨p, 0, none⟩), .slice la ll lc] w (PlayP S w p ts ne np m ll (playL ts ne np (ls.map stp) [])) := by
  have HH := Lib.hid h
  have HWK := Lib.hid hw
  have HL := Lib.hid hls
  have HTT := Lib.hid hT
  have HLL := Lib.hid (show ls.length = ll from hls.sl_flat.1)
  obtain ⟨P, hP⟩ : ∃ P, P = PlayP S w p ts ne np m ll (playL ts ne np (ls.map stp) []) := ⟨_, rfl⟩
  rw [← hP]
  have HPE := Lib.hid hP
  clear h hw hls hT hP
  go_enter Tryz.func7, Tryz.ntmps7
  go_wp2_with fail
  go_loopw [4] (fun i wr => ∃ (k n' : Nat), k ≤ ll ∧ i = .int .i64 k ∧ Gr (fun b => b = m) w wr ∧ n' ≤ k ∧ WfIn S wr p ts ne np m n' (lkS (playL ts ne np ((ls.take k).map stp) [])) ∧ SgInv ts ne np (playL ts ne np ((ls.take k).map stp) []) ∧ (playL ts ne np ((ls.take k).map stp) []).length ≤ k) (fun i _ => ll - (intOf i).toNat)
  case atStart => exact ⟨0, 0, Nat.zero_le _, rfl, Gr.refl _ _, Nat.le_refl _, HH.out, SgInv.nil _ _ _, Nat.le_refl _⟩
  obtain ⟨k, n', hk, rfl, hg, hn, hwf, hsi, hlen⟩ := hrel
  have HG := Lib.hid hg
  have HWF := Lib.hid hwf
  have HSI := Lib.hid hsi
  have HN := Lib.hid hn
  have HLEN := Lib.hid hlen
  by_cases hlt : k < ll
  · have hkI : (k : Int) < (ll : Int) := by omega
    have hkx : k < ls.length := by rw [HLL.out]; exact hlt
    obtain ⟨b, o, rfl, -, m0, m1, m2, m3, m4, hok, hsz⟩ := step_at (HL.out.gr hg (fun b hb => HTT.out b hb) (fun _ h => h)) k hkx
    have HSTEP := Lib.hid (show playL ts ne np ((ls.take (k + 1)).map stp) [] = playS ts ne np (playL ts ne np ((ls.take k).map stp) []) (stp ls[k]) from by
      rw [List.take_succ_eq_append_getElem hkx, List.map_append]
      exact playL_snoc ts ne np _ _ _)
    have HLT := Lib.hid hlt
    generalize stp ls[k] = s at m0 m1 m2 m3 m4 hok hsz HSTEP
    obtain ⟨⟨q1, q2, q3⟩, q4, q5⟩ := s
    simp only at m0 m1 m2 m3 m4 hok hsz
    have HOK := Lib.hid hok
    have HSZ := Lib.hid hsz
    clear hkx hlt hg hn hwf hsi hlen hok hsz
    have hnew := HSI.out.playS HWK.out ⟨⟨q1, q2, q3⟩, q4, q5⟩ HSZ.out
    have hnl := playS_len ts ne np (playL ts ne np ((ls.take k).map stp) []) ⟨⟨q1, q2, q3⟩, q4, q5⟩
    have HNEW := Lib.hid hnew
    have HNL := Lib.hid hnl
    clear hnew hnl
    generalize playL ts ne np ((ls.take k).map stp) [] = sg at HWF HSI HLEN HSTEP HNEW HNL
    cases q5
    · have HC := Lib.hid (fun W (hB : Below wr.heap.size wr W) => sign53 W p ts ne np m n' (lkS sg) (HWF.out.below hB) (by have := HWK.out.ne; omega) (by have := HN.out; omega) ⟨q1, q2, q3⟩ HOK.out q4 HSZ.out (fun hc => HWK.out.need hc))
      unfold Ky.v at HC
      simp only at HC
      have hC0 : Cells [(⟨b, o + k * 5, none⟩, .string q1), (⟨b, o + k * 5 + 1, none⟩, .int .i64 q2), (⟨b, o + k * 5 + 2, none⟩, .int .i64 q3), (⟨b, o + k * 5 + 3, none⟩, .string q4)] wr := ⟨m0, m1, m2, m3, trivial⟩
      clear m0 m1 m2 m3
      go_wp2_with fail
      refine wp_region_T (Cells [(⟨b, o + k * 5, none⟩, .string q1), (⟨b, o + k * 5 + 1, none⟩, .int .i64 q2), (⟨b, o + k * 5 + 2, none⟩, .int .i64 q3), (⟨b, o + k * 5 + 3, none⟩, .string q4)]) (fun i => i == 11) (by kernel_rfl) ?_
      have hSss1 := Cells.drew hC0
      have hB_0_s1 : Below wr.heap.size wr wr.drew := below_drew _
      generalize wr.drew = s1 at hSss1 hB_0_s1 ⊢
      have hB_s1_s1 := Below.refl s1.heap.size s1
      refine wpAnyT_pure (i := 0) (v := ?_) rfl (by kernel_rfl) (by kernel_rfl) (by kernel_rfl) (fun _ _ _ h => h) (by rfl) ?_ ?_
      rotate_left
      · intro w; go_simp; try with_reducible rfl
      simp only [Act.put, rgA, rgB, rgC, rgD, rgE, rgF]
      refine wpAnyT_pure (i := 1) (v := ?_) rfl (by kernel_rfl) (by kernel_rfl) (by kernel_rfl) (fun _ _ _ h => h) (by rfl) ?_ ?_
      rotate_left
      · intro w; go_simp; try with_reducible rfl
      simp only [Act.put, rgA, rgB, rgC, rgD, rgE, rgF]
      refine wpAnyT_pure (i := 2) (v := ?_) rfl (by kernel_rfl) (by kernel_rfl) (by kernel_rfl) (fun _ _ _ h => h) (by rfl) ?_ ?_
      rotate_left
      · intro w; go_simp; try with_reducible rfl
      simp only [Act.put, rgA, rgB, rgC, rgD, rgE, rgF]
      refine wpAnyT_pure (i := 3) (v := ?_) rfl (by kernel_rfl) (by kernel_rfl) (by kernel_rfl) (fun _ _ _ h => h) (by rfl) ?_ ?_
      rotate_left
      · intro w; go_simp; try with_reducible rfl
      simp only [Act.put, rgA, rgB, rgC, rgD, rgE, rgF]
      refine wpAnyT_pure (i := 4) (v := ?_) rfl (by kernel_rfl) (by kernel_rfl) (by kernel_rfl) (fun _ _ _ h => h) (by rfl) ?_ ?_
      rotate_left
      · intro w; go_simp; try with_reducible rfl
      simp only [Act.put, rgA, rgB, rgC, rgD, rgE, rgF]
      refine wpAnyT_pure (i := 6) (v := ?_) rfl (by kernel_rfl) (by kernel_rfl) (by kernel_rfl) (fun _ _ _ h => h) (by rfl) ?_ ?_
      rotate_left
      · intro w; go_simp; try with_reducible rfl
      simp only [Act.put, rgA, rgB, rgC, rgD, rgE, rgF]
      refine wpAnyT_pure (i := 7) (v := ?_) rfl (by kernel_rfl) (by kernel_rfl) (by kernel_rfl) (fun _ _ _ h => h) (by rfl) ?_ ?_
      rotate_left
      · intro w; go_simp; try with_reducible rfl
      simp only [Act.put, rgA, rgB, rgC, rgD, rgE, rgF]
      refine wpAnyT_pure (i := 8) (v := ?_) rfl (by kernel_rfl) (by kernel_rfl) (by kernel_rfl) (fun _ _ _ h => h) (by rfl) ?_ ?_
      rotate_left
      · intro w; go_simp; try with_reducible rfl
      simp only [Act.put, rgA, rgB, rgC, rgD, rgE, rgF]
      refine wpAnyT_pure (i := 9) (v := ?_) rfl (by kernel_rfl) (by kernel_rfl) (by kernel_rfl) (fun _ _ _ h => h) (by rfl) ?_ ?_
      rotate_left
      · intro w; go_simp; try with_reducible rfl
      simp only [Act.put, rgA, rgB, rgC, rgD, rgE, rgF]
      refine wpAnyT_loadW (i := 5) (v := ?_) rfl (by kernel_rfl) (by kernel_rfl) (by kernel_rfl) (by kernel_rfl) (by kernel_rfl) (fun _ _ _ h => h) (Or.inl ⟨by rfl, ?_⟩) hSss1 ?_
      rotate_left
      · intro w hSw; obtain ⟨e0, e1, e2, e3, -⟩ := hSw; go_simp; try with_reducible rfl
      simp only [Act.put, rgA, rgB, rgC, rgD, rgE, rgF]
      refine wpAnyT_loadW (i := 10) (v := ?_) rfl (by kernel_rfl) (by kernel_rfl) (by kernel_rfl) (by kernel_rfl) (by kernel_rfl) (fun _ _ _ h => h) (Or.inl ⟨by rfl, ?_⟩) hSss1 ?_
      rotate_left
      · intro w hSw; obtain ⟨e0, e1, e2, e3, -⟩ := hSw; go_simp; try with_reducible rfl
      simp only [Act.put, rgA, rgB, rgC, rgD, rgE, rgF]
      refine wpAnyT_one (i := 11) (by kernel_rfl) rfl (by rfl) ?_
      have hbP : Below wr.heap.size wr s1 := hB_0_s1.trans ((hB_s1_s1).mono (hB_0_s1).size)
      refine wp_enter (f := 19) (args := #[.pointer (some ⟨p, 0, none⟩), .agg #[.string q1, .int .i64 q2, .int .i64 q3], .string q4]) (by go_simp) (HC.out s1 hbP) ?_
      rintro e w102 ⟨rfl, hg2, n2, hn2, hwf2⟩
      refine ⟨_, rfl, fun h => absurd h (by decide), ?_⟩
      try simp only [Act.put, rgA, rgB, rgC, rgD, rgE, rgF]
      refine wpAnyT_done (by kernel_rfl) ?_ _
      obtain ⟨w2, rfl⟩ : ∃ x, x = w102 := ⟨_, rfl⟩
      have HG2 := Lib.hid ((HG.out.step hbP).trans hg2 (fun _ h => .inl h))
      have HWF2 := Lib.hid (show WfIn S w2 p ts ne np m n2 (lkS (playS ts ne np sg ⟨⟨q1, q2, q3⟩, q4, false⟩)) from by
        have h := hwf2
        rw [sign_lk] at h
        exact h)
      have HN2 := Lib.hid hn2
      clear hg2 hwf2 hn2 hC0 hbP
      go_wp2_with fail
      go_roundw
      case rel => exact ⟨k + 1, n2, HLT.out, by go_num, HG2.out, by have := HN.out; have := HN2.out; omega, by rw [HSTEP.out]; exact HWF2.out, by rw [HSTEP.out]; exact HNEW.out, by rw [HSTEP.out]; have := HNL.out; have := HLEN.out; omega⟩
      case measure => have := HLT.out; simp [intOf]; try omega
    · have HC := Lib.hid (reopM wr p ts ne np m n' sg HWF.out HWK.out HSI.out.ok (by have := HLEN.out; omega) (by have := HN.out; omega) ⟨q1, q2, q3⟩ HOK.out)
      unfold Ky.v at HC
      simp only at HC
      go_wp2_with fail
      have hX := HC.out
      refine Calls.mono hX ?_
      clear hX
      rintro e w2 ⟨ra, rl, rc, rfl, -, hg2, n2, hn2, hwf2⟩
      have HG2 := Lib.hid (HG.out.trans hg2 (fun _ h => .inl h))
      have HWF2 := Lib.hid (show WfIn S w2 p ts ne np m n2 (lkS (playS ts ne np sg ⟨⟨q1, q2, q3⟩, q4, true⟩)) from hwf2)
      have HN2 := Lib.hid hn2
      clear hg2 hwf2 hn2 m0 m1 m2 m3 m4
      go_wp2_with fail
      go_roundw
      case rel => exact ⟨k + 1, n2, HLT.out, by go_num, HG2.out, by have := HN.out; have := HN2.out; omega, by rw [HSTEP.out]; exact HWF2.out, by rw [HSTEP.out]; exact HNEW.out, by rw [HSTEP.out]; have := HNL.out; have := HLEN.out; omega⟩
      case measure => have := HLT.out; simp [intOf]; try omega
  · obtain rfl : ll = k := by omega
    have hall : ls.take ll = ls := List.take_of_length_le (by rw [HLL.out]; exact Nat.le_refl _)
    rw [hall] at HWF
    clear hg hn hwf hsi hlen hall hlt
    go_wp2_with fail
    refine bodyPost_end (results_none rfl _ _ _) rfl ?_
    rw [HPE.out]
    exact ⟨rfl, HG.out, n', HN.out, HWF.out⟩
end Go.Proofs.YtdcjocldggmdbaaGreat

/- Layer 53, plain: a period can be completed. -/
set_option linter.unusedSimpArgs false
namespace Go.Proofs.YtdcjocldggmdbaaGreat
open Go.RowKit Go

end Go.Proofs.YtdcjocldggmdbaaGreat

/- The law WorkflowCompletes, walked. -/
set_option linter.unusedSimpArgs false
namespace Go.Proofs.YtdcjocldggmdbaaGreat
open Go.RowKit Go

theorem wk_of {n : Nat} {xs : List taskT.den} (h : 1 ≤ n ∧ n ≤ 12 ∧ ValidT (xs.map tk)) (hf : ∀ i (hi : i < xs.length), (tk xs[i]).needs.length ≤ 8) : Wk (xs.map tk) n 12 where
  v := (rval_iff _).2 h.2.2
  f := fun t ht => by
    obtain ⟨x, hx, rfl⟩ := List.mem_map.1 ht
    obtain ⟨i, hi, rfl⟩ := List.getElem_of_mem hx
    exact hf i hi
  ne := by omega
  np := by omega
theorem steps_ok {S : Nat → Prop} {w : World} {a : Option Addr} {len cap : Nat} {ls : List stepT.den} (h : Rd (.sl stepT) S w [.slice a len cap] ls) : ∀ s ∈ ls.map stp, s.key.ok ∧ s.who.size ≤ maxLen := by
  intro s hs
  obtain ⟨x, hx, rfl⟩ := List.mem_map.1 hs
  obtain ⟨i, hi, rfl⟩ := List.getElem_of_mem hx
  obtain ⟨b, o, -, -, -, -, -, -, -, h1, h2⟩ := step_at h i hi
  exact ⟨h1, h2⟩
theorem playL_inv {ts : List Tk} {ne np : Nat} (hw : Wk ts ne np) {l : List Stp} (hl : ∀ s ∈ l, s.who.size ≤ maxLen) {sg : List Sg} (h : SgInv ts ne np sg) : SgInv ts ne np (playL ts ne np l sg) := by
  unfold playL
  induction l generalizing sg with
  | nil => exact h
  | cons s l ih => exact ih (fun x hx => hl x (List.mem_cons_of_mem _ hx)) (h.playS hw s (hl s (by simp)))
end Go.Proofs.YtdcjocldggmdbaaGreat

/- Layer 53: further facts for the laws. -/
set_option linter.unusedSimpArgs false
namespace Go.Proofs.YtdcjocldggmdbaaGreat
open Go.RowKit Go

theorem info_step : (Tryz.prog.info? 31).map (fun i => (i.zero, i.size, i.bytes)) = some (some (.agg #[.string ⟨#[]⟩, .int .i64 0, .int .i64 0, .string ⟨#[]⟩, .bool false]), stepT.sz, 56) := by kernel_rfl
theorem step_rd {S : Nat → Prop} {w : World} {k : Ky} (h : k.ok) : RdL stepT S w [.string k.task, .int .i64 k.ent, .int .i64 k.per, .string ⟨#[]⟩, .bool false] [((k.task, k.ent, k.per, ()), ⟨#[]⟩, false, ())] :=
  RdL.one (e := stepT) ⟨[_, _, _], [_, _], rfl, ⟨[_], [_, _], rfl, ⟨rfl, h.1⟩, [_], [_], rfl, ⟨rfl, h.2.1⟩, [_], [], rfl, ⟨rfl, h.2.2⟩, rfl⟩, [_], [_], rfl, ⟨rfl, (by decide : (⟨#[]⟩ : ByteArray).size ≤ maxLen)⟩, [_], [], rfl, rfl, rfl⟩
theorem sg_at {S : Nat → Prop} {w : World} {a : Option Addr} {len cap : Nat} {l : List Sg} (h : Rd (.sl sgT) S w [.slice a len cap] (l.map sgd)) (i : Nat) (hi : i < l.length) :
    ∃ b off, a = some ⟨b, off, none⟩ ∧ S b ∧ w.cell? ⟨b, off + i * 4, none⟩ = some (.string l[i].1.task) ∧ w.cell? ⟨b, off + i * 4 + 1, none⟩ = some (.int .i64 l[i].1.ent) ∧ w.cell? ⟨b, off + i * 4 + 2, none⟩ = some (.int .i64 l[i].1.per) ∧ w.cell? ⟨b, off + i * 4 + 3, none⟩ = some (.string l[i].2) ∧ l[i].1.ok := by
  obtain ⟨hl, -, -, vs, hr, hor⟩ := h.sl_flat
  obtain ⟨c, hc, hcc, hrd⟩ := hr.at_ i (by rw [List.length_map]; exact hi)
  rw [List.getElem_map] at hrd
  rcases hor with h0 | ⟨b, off, rfl, hb, hcell⟩
  · rw [List.length_map] at hl; omega
  · generalize l[i] = s at hrd ⊢
    obtain ⟨⟨nm, e, p⟩, wh⟩ := s
    obtain ⟨c1, r1, rfl, ⟨d1, s1, rfl, ⟨rfl, h1⟩, d2, s2, rfl, ⟨rfl, h2⟩, d3, s3, rfl, ⟨rfl, h3⟩, rfl⟩, c2, r2, rfl, ⟨rfl, h4⟩, rfl⟩ := hrd
    refine ⟨b, off, rfl, hb, ?_, ?_, ?_, ?_, ⟨h1, h2, h3⟩⟩
    · rw [show off + i * 4 = off + (i * sgT.sz + 0) from rfl]; exact hcell _ _ (hcc 0 _ rfl)
    · rw [show off + i * 4 + 1 = off + (i * sgT.sz + 1) from rfl]; exact hcell _ _ (hcc 1 _ rfl)
    · rw [show off + i * 4 + 2 = off + (i * sgT.sz + 2) from rfl]; exact hcell _ _ (hcc 2 _ rfl)
    · rw [show off + i * 4 + 3 = off + (i * sgT.sz + 3) from rfl]; exact hcell _ _ (hcc 3 _ rfl)
theorem rdOwn {e : Ty} {te : TypeId} {base : Nat} {w : World} {v : Value} {xs : List e.den} (h : Owns e te base (fun _ => False) w v xs) : Rd (.sl e) (fun b => b < w.heap.size) w [v] xs := h.rd _ (fun _ h => h.elim) (fun c hc => (h.own c hc).2)
theorem rkey_eql (w : World) (x y : Ky) : Sem.run Tryz.prog (binOp .eql 27 x.v y.v) w = .ok (.bool (decide (x = y))) w := by
  obtain ⟨c, k, u⟩ := x
  obtain ⟨d, m, v⟩ := y
  have u3 := Tryz.underlying3
  have u9 := Tryz.underlying9
  have hS : Tryz.prog.underlying 27 = some (.struct (Tryz.prog.fieldsOf 27)) := by kernel_rfl
  have hp : Tryz.prog.stoodInHeld 27 = false := by kernel_rfl
  unfold Ky.v
  rw [run_eql_struct, show (10000 : Nat) = 9999 + 1 from rfl, run_equalIn_agg w 9999 27 _ _ hS hp]
  simp only [Program.fieldsOf, Tryz.underlying27]
  go_simp
  have hcl : c.toList = d.toList ↔ c = d := by
    have h := strB c d
    rw [Bool.eq_iff_iff] at h
    simpa using h
  by_cases h1 : c = d <;> by_cases h2 : k = m <;> by_cases h3 : u = v <;> simp [hcl, h1, h2, h3]
theorem playL_len (ts : List Tk) (ne np : Nat) (l : List Stp) (sg : List Sg) : (playL ts ne np l sg).length ≤ sg.length + l.length := by
  unfold playL
  induction l generalizing sg with
  | nil => simp
  | cons s l ih =>
    have h1 := ih (playS ts ne np sg s)
    have h2 := playS_len ts ne np sg s
    rw [List.foldl_cons, List.length_cons]
    omega
end Go.Proofs.YtdcjocldggmdbaaGreat

/- Layer 53: what a reopening takes back can be signed again. -/
set_option linter.unusedSimpArgs false
namespace Go.Proofs.YtdcjocldggmdbaaGreat
open Go.RowKit Go

def bAgain : ByteArray := ⟨#[97, 103, 97, 105, 110]⟩
theorem again_name : nameB bAgain = true := by decide +kernel
theorem again_sz : bAgain.size ≤ maxLen := by decide
theorem gone_nodup {ts : List Tk} {ne np : Nat} {sg : List Sg} (h : SgOk ts ne np sg) (k : Ky) : (goneOf ts ne k sg).Nodup := (gone_asc h k).imp fun {a b} hl e => by rw [e, ltK_irr] at hl; cases hl
/-- What is signed while the first i of those taken back have been signed again. -/
structure ReS (ts : List Tk) (ne np : Nat) (sg : List Sg) (k : Ky) (i : Nat) (s : List Sg) : Prop where
  inv : SgInv ts ne np s
  keys : ∀ x, x ∈ keysS s ↔ x ∈ keysS sg ∧ (x ∉ goneOf ts ne k sg ∨ x ∈ (goneOf ts ne k sg).take i)
  len : s.length = (leftOf ts ne k sg).length + i
theorem keys_left (ts : List Tk) (ne : Nat) (k : Ky) (sg : List Sg) (x : Ky) : x ∈ keysS (leftOf ts ne k sg) ↔ x ∈ keysS sg ∧ x ∉ goneOf ts ne k sg := by
  rw [← lk_isSome, left_some]
theorem ReS.start {ts : List Tk} {ne np : Nat} (hw : Wk ts ne np) {sg : List Sg} (h : SgInv ts ne np sg) (k : Ky) : ReS ts ne np sg k 0 (leftOf ts ne k sg) where
  inv := h.left hw k
  keys := fun x => by rw [keys_left]; simp
  len := rfl
theorem ReS.step {ts : List Tk} {ne np : Nat} (hw : Wk ts ne np) {sg : List Sg} (h : SgInv ts ne np sg) {k : Ky} {i : Nat} {s : List Sg} (hr : ReS ts ne np sg k i s) (hi : i < (goneOf ts ne k sg).length) :
    signI ts ne np (lkS s) ((goneOf ts ne k sg)[i]) bAgain = 0 ∧ ReS ts ne np sg k (i + 1) (signS ts ne np s ((goneOf ts ne k sg)[i]) bAgain) := by
  have hgm : (goneOf ts ne k sg)[i] ∈ goneOf ts ne k sg := List.getElem_mem hi
  have hgs := (gone_sub ts ne k sg).subset hgm
  have hkv := keys_kv h.ok hgs
  have hn : lkS s ((goneOf ts ne k sg)[i]) = none := by
    rw [lk_none, hr.keys]
    rintro ⟨-, h1 | h1⟩
    · exact h1 hgm
    · obtain ⟨j, hj, e⟩ := List.mem_take_iff_getElem.1 h1
      have hjl : j < (goneOf ts ne k sg).length := by omega
      have := (List.getElem_inj (gone_nodup h.ok k)).1 e
      omega
  have hrd : readyB ts ne (lkS s) ((goneOf ts ne k sg)[i]) = true := by
    unfold readyB
    rw [List.all_eq_true]
    intro n hnn
    have h1 := h.inv.need (lk_isSome.2 hgs) hnn
    rw [lk_isSome] at h1 ⊢
    rw [hr.keys]
    refine ⟨h1, ?_⟩
    by_cases hg : n ∈ goneOf ts ne k sg
    · right
      obtain ⟨j, hj, rfl⟩ := List.getElem_of_mem hg
      have hlt := (raw_kv hw hkv hnn).2
      have hji : j < i := by
        rcases Nat.lt_trichotomy j i with e | e | e
        · exact e
        · subst e; rw [ltK_irr] at hlt; cases hlt
        · have := List.pairwise_iff_getElem.1 (gone_asc h.ok k) i j hi hj e
          rw [ltK_asym this] at hlt
          cases hlt
      exact List.mem_take_iff_getElem.2 ⟨j, by omega, rfl⟩
    · exact .inl hg
  have h0 := signI_of hkv again_name hn hrd
  refine ⟨h0, hr.inv.sign again_sz, fun x => ?_, ?_⟩
  · unfold signS
    rw [if_pos h0, keys_ins, hr.keys, List.take_succ_eq_append_getElem hi, List.mem_append, List.mem_singleton]
    constructor
    · rintro (rfl | ⟨h1, h2⟩)
      · exact ⟨hgs, .inr (.inr rfl)⟩
      · exact ⟨h1, h2.imp id .inl⟩
    · rintro ⟨h1, h2 | h2 | h2⟩
      · exact .inr ⟨h1, .inl h2⟩
      · exact .inr ⟨h1, .inr h2⟩
      · exact .inl h2
  · unfold signS
    rw [if_pos h0, ins_len, hr.len]
    omega
theorem ReS.done {ts : List Tk} {ne np : Nat} {sg : List Sg} (h : SgInv ts ne np sg) {k : Ky} {s : List Sg} (hr : ReS ts ne np sg k (goneOf ts ne k sg).length s) : keysS s = keysS sg := by
  have hm : ∀ x, x ∈ keysS s ↔ x ∈ keysS sg := fun x => by
    rw [hr.keys, List.take_length]
    exact ⟨fun h => h.1, fun h => ⟨h, by by_cases hg : x ∈ goneOf ts ne k sg <;> simp [hg]⟩⟩
  have hp := (List.perm_ext_iff_of_nodup (keys_nodup hr.inv.ok) (keys_nodup h.ok)).2 hm
  exact asc_eq ((keys_asc hr.inv.ok).imp fun {a b} e => ltK_asym e) ((keys_asc h.ok).imp fun {a b} e => ltK_asym e) (fun x hx => (kv_iff.1 (keys_kv hr.inv.ok hx)).1) hp
/-! ### memory -/
end Go.Proofs.YtdcjocldggmdbaaGreat

/- Layer 53: the reference's has, Who, check. -/
set_option linter.unusedSimpArgs false
set_option maxRecDepth 50000
namespace Go.Proofs.YtdcjocldggmdbaaGreat
open Go.RowKit Go

/-- The reference's workflow in memory. -/
structure RfW (S : Nat → Prop) (w : World) (ts : List Tk) (sg : List Sg) (sa : Option Addr) (sl sc : Nat) (ga : Option Addr) (gl gc : Nat) (xs : List taskT.den) : Prop where
  rt : Rd (.sl taskT) S w [.slice sa sl sc] xs
  ht : xs.map tk = ts
  rs : Rd (.sl sgT) S w [.slice ga gl gc] (sg.map sgd)
  hS : ∀ b, S b → b < w.heap.size
abbrev rwV (ne np : Int) (sa : Option Addr) (sl sc : Nat) (ga : Option Addr) (gl gc : Nat) : Value := .agg #[.int .i64 ne, .int .i64 np, .slice sa sl sc, .slice ga gl gc]
abbrev rwO (ne np : Int) (sa : Option Addr) (sl sc : Nat) (ga : Option Addr) (gl gc : Nat) : Obj := .cells #[.int .i64 ne, .int .i64 np, .slice sa sl sc, .slice ga gl gc] 35
theorem RfW.below {S : Nat → Prop} {w w' : World} {ts : List Tk} {sg : List Sg} {sa : Option Addr} {sl sc : Nat} {ga : Option Addr} {gl gc : Nat} {xs : List taskT.den} (h : RfW S w ts sg sa sl sc ga gl gc xs) (hB : Below w.heap.size w w') : RfW S w' ts sg sa sl sc ga gl gc xs :=
  ⟨h.rt.below hB h.hS, h.ht, h.rs.below hB h.hS, fun b hb => Nat.lt_of_lt_of_le (h.hS b hb) hB.size⟩
set_option maxHeartbeats 1000000 in
theorem rhas53 {S : Nat → Prop} (w : World) (a : Option Addr) (len cap : Nat) (l : List Ky) (hx : Rd (.sl keyT) S w [.slice a len cap] (l.map Ky.d)) (hS : ∀ b, S b → b < w.heap.size) (k : Ky) :
    Calls Tryz.prog 28 #[.slice a len cap, k.v] w fun e w' => e = .returned (.bool (decide (k ∈ l))) ∧ Below w.heap.size w w' := by
  obtain ⟨hl, hlc, hcm, -⟩ := id hx.sl_flat
  obtain ⟨k1, k2, k3⟩ := k
  have hB1 := (Below.refl w.heap.size w).alloc (Nat.le_refl _) (.cells #[.string k1, .int .i64 k2, .int .i64 k3] 27)
  have HR1 := Lib.hid (heap_alloc_new w (.cells #[.string k1, .int .i64 k2, .int .i64 k3] 27))
  have HX := Lib.hid (hx.below hB1 hS)
  have HS := Lib.hid (fun b hb => Nat.lt_of_lt_of_le (hS b hb) hB1.size)
  have HB1 := Lib.hid hB1
  have HL := Lib.hid (show l.length = len from by simpa using hl)
  obtain ⟨mb, hmb⟩ : ∃ mb, decide ((⟨k1, k2, k3⟩ : Ky) ∈ l) = mb := ⟨_, rfl⟩
  rw [hmb]
  have HMB := Lib.hid hmb
  unfold Ky.v
  simp only
  clear hx hl hS hB1 hmb
  go_enter Tryz.func28, Tryz.ntmps28
  go_wp2_with fail
  generalize w.alloc (.cells #[.string k1, .int .i64 k2, .int .i64 k3] 27) = w1 at *
  go_loopw [5] (fun i wr => ∃ (q : Nat), q ≤ len ∧ i = .int .i64 q ∧ (∀ j (hj : j < l.length), j < q → l[j] ≠ ⟨k1, k2, k3⟩) ∧ Below w1.heap.size w1 wr) (fun i _ => len - (intOf i).toNat)
  case atStart => exact ⟨0, Nat.zero_le _, rfl, fun j _ hj => absurd hj (by omega), Below.refl _ _⟩
  obtain ⟨q, hk, rfl, hno, hB⟩ := hrel
  have HB := Lib.hid hB
  have HNO := Lib.hid hno
  clear hno
  by_cases hlt : q < len
  · have hkI : (q : Int) < (len : Int) := by omega
    have hql : q < l.length := by rw [HL.out]; exact hlt
    obtain ⟨b, o, rfl, -, m0, m1, m2, -⟩ := key_at (HX.out.below hB HS.out) q hql
    have hcb := (hB.block _ (blk_lt HR1.out)).trans HR1.out
    obtain ⟨eb, heb⟩ : ∃ eb, decide (l[q] = (⟨k1, k2, k3⟩ : Ky)) = eb := ⟨_, rfl⟩
    have HIN := Lib.hid (show eb = true → mb = true from fun h => by rw [← HMB.out]; exact decide_eq_true (by rw [← of_decide_eq_true (heb.trans h)]; exact List.getElem_mem hql))
    have HNN := Lib.hid (show eb = false → ∀ j (hj : j < l.length), j < q + 1 → l[j] ≠ ⟨k1, k2, k3⟩ from fun h j hj hjq => by
      by_cases e : j = q
      · subst e; exact fun e' => of_decide_eq_false (heb.trans h) e'
      · exact HNO.out j hj (by omega))
    generalize l[q] = y at m0 m1 m2 heb
    have heq := fun W => rkey_eql W y ⟨k1, k2, k3⟩
    rw [heb] at heq
    obtain ⟨y1, y2, y3⟩ := y
    unfold Ky.v at heq
    simp only at m0 m1 m2 heq
    have HLT := Lib.hid hlt
    have hC0 : Cells [(⟨w.heap.size, 0, none⟩, .string k1), (⟨w.heap.size, 1, none⟩, .int .i64 k2), (⟨w.heap.size, 2, none⟩, .int .i64 k3), (⟨b, o + q * 3, none⟩, .string y1), (⟨b, o + q * 3 + 1, none⟩, .int .i64 y2), (⟨b, o + q * 3 + 2, none⟩, .int .i64 y3)] wr := ⟨blk_cell hcb 0, blk_cell hcb 1, blk_cell hcb 2, m0, m1, m2, trivial⟩
    clear m0 m1 m2 hcb hB hlt heb hql
    go_wp2_with fail
    refine wp_region_T (Cells [(⟨w.heap.size, 0, none⟩, .string k1), (⟨w.heap.size, 1, none⟩, .int .i64 k2), (⟨w.heap.size, 2, none⟩, .int .i64 k3), (⟨b, o + q * 3, none⟩, .string y1), (⟨b, o + q * 3 + 1, none⟩, .int .i64 y2), (⟨b, o + q * 3 + 2, none⟩, .int .i64 y3)]) (fun _ => false) (by kernel_rfl) ?_
    have hSss1 := Cells.drew hC0
    have hB_0_s1 : Below wr.heap.size wr wr.drew := below_drew _
    generalize wr.drew = s1 at hSss1 hB_0_s1 ⊢
    have hB_s1_s1 := Below.refl s1.heap.size s1
    refine wpAnyT_pure (i := 0) (v := ?_) rfl (by kernel_rfl) (by kernel_rfl) (by kernel_rfl) (fun _ _ _ h => h) (by rfl) ?_ ?_
    rotate_left
    · intro w; go_simp; try with_reducible rfl
    simp only [Act.put, rgA, rgB, rgC, rgD, rgE, rgF]
    refine wpAnyT_pure (i := 1) (v := ?_) rfl (by kernel_rfl) (by kernel_rfl) (by kernel_rfl) (fun _ _ _ h => h) (by rfl) ?_ ?_
    rotate_left
    · intro w; go_simp; try with_reducible rfl
    simp only [Act.put, rgA, rgB, rgC, rgD, rgE, rgF]
    refine wpAnyT_pure (i := 2) (v := ?_) rfl (by kernel_rfl) (by kernel_rfl) (by kernel_rfl) (fun _ _ _ h => h) (by rfl) ?_ ?_
    rotate_left
    · intro w; go_simp; try with_reducible rfl
    simp only [Act.put, rgA, rgB, rgC, rgD, rgE, rgF]
    refine wpAnyT_loadW (i := 3) (v := ?_) rfl (by kernel_rfl) (by kernel_rfl) (by kernel_rfl) (by kernel_rfl) (by kernel_rfl) (fun _ _ _ h => h) (Or.inl ⟨by rfl, ?_⟩) hSss1 ?_
    rotate_left
    · intro w hSw; obtain ⟨e0, e1, e2, e3, e4, e5, -⟩ := hSw; go_simp; try with_reducible rfl
    simp only [Act.put, rgA, rgB, rgC, rgD, rgE, rgF]
    refine wpAnyT_loadW (i := 4) (v := ?_) rfl (by kernel_rfl) (by kernel_rfl) (by kernel_rfl) (by kernel_rfl) (by kernel_rfl) (fun _ _ _ h => h) (Or.inl ⟨by rfl, ?_⟩) hSss1 ?_
    rotate_left
    · intro w hSw; obtain ⟨e0, e1, e2, e3, e4, e5, -⟩ := hSw; go_simp; try with_reducible rfl
    simp only [Act.put, rgA, rgB, rgC, rgD, rgE, rgF]
    refine wpAnyT_pure (i := 5) (v := ?_) rfl (by kernel_rfl) (by kernel_rfl) (by kernel_rfl) (fun _ _ _ h => h) (by rfl) ?_ ?_
    rotate_left
    · intro w; go_simp; try with_reducible rfl
    simp only [Act.put, rgA, rgB, rgC, rgD, rgE, rgF]
    refine wpAnyT_done (by kernel_rfl) ?_ _
    have HBP := Lib.hid (HB.out.trans ((hB_0_s1.trans ((hB_s1_s1).mono (hB_0_s1).size)).mono HB.out.size))
    cases eb
    · go_wp2_with fail
      go_roundw
      case rel => exact ⟨q + 1, HLT.out, by go_num, HNN.out (by first | rfl | trivial), HBP.out⟩
      case measure => simp [intOf]; try omega
    · go_wp2_with fail
      go_ret
      exact ⟨by show Ending.returned (.bool true) = _; rw [HIN.out (by first | rfl | trivial)], below_step HB1.out HBP.out⟩
  · obtain rfl : len = q := by omega
    have HN := Lib.hid (show mb = false from by
      rw [← HMB.out]
      refine decide_eq_false fun h => ?_
      obtain ⟨j, hj, e⟩ := List.getElem_of_mem h
      exact HNO.out j hj (by rw [← HL.out]; exact hj) e)
    clear hB
    go_wp2_with fail
    go_ret
    exact ⟨by show Ending.returned (.bool false) = _; rw [HN.out], below_step HB1.out HB.out⟩
set_option maxHeartbeats 1000000 in
theorem rwho53 {S : Nat → Prop} (w : World) (ne np : Int) (ts : List Tk) (sg : List Sg) (sa : Option Addr) (sl sc : Nat) (ga : Option Addr) (gl gc : Nat) (xs : List taskT.den) (h : RfW S w ts sg sa sl sc ga gl gc xs) (k : Ky) :
    Calls Tryz.prog 26 #[rwV ne np sa sl sc ga gl gc, k.v] w fun e w' => e = .returned (.tuple #[.string ((lkS sg k).getD ⟨#[]⟩), .bool (lkS sg k).isSome]) ∧ Below w.heap.size w w' := by
  obtain ⟨hl, hlc, hcm, -⟩ := id h.rs.sl_flat
  obtain ⟨k1, k2, k3⟩ := k
  have hp := heap_alloc_new w (rwO ne np sa sl sc ga gl gc)
  have hB := (Below.refl w.heap.size w).alloc (Nat.le_refl _) (rwO ne np sa sl sc ga gl gc)
  have hk := heap_alloc_new (w.alloc (rwO ne np sa sl sc ga gl gc)) (.cells #[.string k1, .int .i64 k2, .int .i64 k3] 27)
  have hBk := (Below.refl (w.alloc (rwO ne np sa sl sc ga gl gc)).heap.size (w.alloc (rwO ne np sa sl sc ga gl gc))).alloc (Nat.le_refl _) (.cells #[.string k1, .int .i64 k2, .int .i64 k3] 27)
  replace hp := (hBk.block _ (blk_lt hp)).trans hp
  rw [World.size_alloc] at hk
  have HP := Lib.hid hp
  have HK := Lib.hid hk
  have HB1 := Lib.hid (below_step hB hBk)
  have HX := Lib.hid (h.below (below_step hB hBk))
  have HL := Lib.hid (show sg.length = gl from by simpa using hl)
  obtain ⟨r, hr⟩ : ∃ r, lkS sg ⟨k1, k2, k3⟩ = r := ⟨_, rfl⟩
  rw [hr]
  have HR := Lib.hid hr
  unfold Ky.v
  simp only
  clear h hl hr hp hB hk hBk
  go_enter Tryz.func26, Tryz.ntmps26
  go_wp2_with fail
  generalize World.alloc _ _ = w1 at *
  go_loopw [6] (fun i wr => ∃ (q : Nat), q ≤ gl ∧ i = .int .i64 q ∧ lkS (sg.drop q) ⟨k1, k2, k3⟩ = r ∧ Below w1.heap.size w1 wr) (fun i _ => gl - (intOf i).toNat)
  case atStart => exact ⟨0, Nat.zero_le _, rfl, HR.out, Below.refl _ _⟩
  obtain ⟨q, hk, rfl, hno, hB⟩ := hrel
  have HB := Lib.hid hB
  have HNO := Lib.hid hno
  have hpc := (hB.block _ (blk_lt HP.out)).trans HP.out
  have z3 := blk_cell hpc 3
  simp at z3
  clear hno
  by_cases hlt : q < gl
  · have hkI : (q : Int) < (gl : Int) := by omega
    have hql : q < sg.length := by rw [HL.out]; exact hlt
    obtain ⟨b, o, rfl, -, m0, m1, m2, m3, -⟩ := sg_at (HX.out.below hB).rs q hql
    have hcb := (hB.block _ (blk_lt HK.out)).trans HK.out
    have hst : lkS (sg.drop q) ⟨k1, k2, k3⟩ = if sg[q].1 = ⟨k1, k2, k3⟩ then some sg[q].2 else lkS (sg.drop (q + 1)) ⟨k1, k2, k3⟩ := by
      rw [List.drop_eq_getElem_cons hql, lk_cons]
    rw [HNO.out] at hst
    generalize sg[q] = s at m0 m1 m2 m3 hst
    obtain ⟨y, wh⟩ := s
    simp only at m0 m1 m2 m3 hst
    obtain ⟨eb, heb⟩ : ∃ eb, decide (y = (⟨k1, k2, k3⟩ : Ky)) = eb := ⟨_, rfl⟩
    have HIN := Lib.hid (show eb = true → r = some wh from fun h => by rw [hst, if_pos (of_decide_eq_true (heb.trans h))])
    have HNN := Lib.hid (show eb = false → lkS (sg.drop (q + 1)) ⟨k1, k2, k3⟩ = r from fun h => by rw [hst, if_neg (of_decide_eq_false (heb.trans h))])
    have heq := fun W => rkey_eql W y ⟨k1, k2, k3⟩
    rw [heb] at heq
    obtain ⟨y1, y2, y3⟩ := y
    unfold Ky.v at heq
    simp only at m0 m1 m2 heq
    have HLT := Lib.hid hlt
    have hC0 : Cells [(⟨w.heap.size, 3, none⟩, .slice (some ⟨b, o, none⟩) gl gc), (⟨w.heap.size + 1, 0, none⟩, .string k1), (⟨w.heap.size + 1, 1, none⟩, .int .i64 k2), (⟨w.heap.size + 1, 2, none⟩, .int .i64 k3), (⟨b, o + q * 4, none⟩, .string y1), (⟨b, o + q * 4 + 1, none⟩, .int .i64 y2), (⟨b, o + q * 4 + 2, none⟩, .int .i64 y3), (⟨b, o + q * 4 + 3, none⟩, .string wh)] wr := ⟨z3, blk_cell hcb 0, blk_cell hcb 1, blk_cell hcb 2, m0, m1, m2, m3, trivial⟩
    clear m0 m1 m2 m3 hcb hB hlt heb hql hst hpc
    go_wp2_with fail
    refine wp_region_T (Cells [(⟨w.heap.size, 3, none⟩, .slice (some ⟨b, o, none⟩) gl gc), (⟨w.heap.size + 1, 0, none⟩, .string k1), (⟨w.heap.size + 1, 1, none⟩, .int .i64 k2), (⟨w.heap.size + 1, 2, none⟩, .int .i64 k3), (⟨b, o + q * 4, none⟩, .string y1), (⟨b, o + q * 4 + 1, none⟩, .int .i64 y2), (⟨b, o + q * 4 + 2, none⟩, .int .i64 y3), (⟨b, o + q * 4 + 3, none⟩, .string wh)]) (fun _ => false) (by kernel_rfl) ?_
    have hSss2 := Cells.drew hC0
    have hB_0_s2 : Below wr.heap.size wr wr.drew := below_drew _
    generalize wr.drew = s2 at hSss2 hB_0_s2 ⊢
    have hB_s2_s2 := Below.refl s2.heap.size s2
    refine wpAnyT_pure (i := 0) (v := ?_) rfl (by kernel_rfl) (by kernel_rfl) (by kernel_rfl) (fun _ _ _ h => h) (by rfl) ?_ ?_
    rotate_left
    · intro w; go_simp; try with_reducible rfl
    simp only [Act.put, rgA, rgB, rgC, rgD, rgE, rgF]
    refine wpAnyT_pure (i := 2) (v := ?_) rfl (by kernel_rfl) (by kernel_rfl) (by kernel_rfl) (fun _ _ _ h => h) (by rfl) ?_ ?_
    rotate_left
    · intro w; go_simp; try with_reducible rfl
    simp only [Act.put, rgA, rgB, rgC, rgD, rgE, rgF]
    refine wpAnyT_loadW (i := 1) (v := ?_) rfl (by kernel_rfl) (by kernel_rfl) (by kernel_rfl) (by kernel_rfl) (by kernel_rfl) (fun _ _ _ h => h) (Or.inl ⟨by rfl, ?_⟩) hSss2 ?_
    rotate_left
    · intro w hSw; obtain ⟨e0, e1, e2, e3, e4, e5, e6, e7, -⟩ := hSw; go_simp; try with_reducible rfl
    simp only [Act.put, rgA, rgB, rgC, rgD, rgE, rgF]
    refine wpAnyT_pure (i := 3) (v := ?_) rfl (by kernel_rfl) (by kernel_rfl) (by kernel_rfl) (fun _ _ _ h => h) (by rfl) ?_ ?_
    rotate_left
    · intro w; go_simp; try with_reducible rfl
    simp only [Act.put, rgA, rgB, rgC, rgD, rgE, rgF]
    refine wpAnyT_pure (i := 4) (v := ?_) rfl (by kernel_rfl) (by kernel_rfl) (by kernel_rfl) (fun _ _ _ h => h) (by rfl) ?_ ?_
    rotate_left
    · intro w; go_simp; try with_reducible rfl
    simp only [Act.put, rgA, rgB, rgC, rgD, rgE, rgF]
    refine wpAnyT_loadW (i := 5) (v := ?_) rfl (by kernel_rfl) (by kernel_rfl) (by kernel_rfl) (by kernel_rfl) (by kernel_rfl) (fun _ _ _ h => h) (Or.inl ⟨by rfl, ?_⟩) hSss2 ?_
    rotate_left
    · intro w hSw; obtain ⟨e0, e1, e2, e3, e4, e5, e6, e7, -⟩ := hSw; go_simp; try with_reducible rfl
    simp only [Act.put, rgA, rgB, rgC, rgD, rgE, rgF]
    refine wpAnyT_loadW (i := 6) (v := ?_) rfl (by kernel_rfl) (by kernel_rfl) (by kernel_rfl) (by kernel_rfl) (by kernel_rfl) (fun _ _ _ h => h) (Or.inl ⟨by rfl, ?_⟩) hSss2 ?_
    rotate_left
    · intro w hSw; obtain ⟨e0, e1, e2, e3, e4, e5, e6, e7, -⟩ := hSw; go_simp; try with_reducible rfl
    simp only [Act.put, rgA, rgB, rgC, rgD, rgE, rgF]
    refine wpAnyT_pure (i := 7) (v := ?_) rfl (by kernel_rfl) (by kernel_rfl) (by kernel_rfl) (fun _ _ _ h => h) (by rfl) ?_ ?_
    rotate_left
    · intro w; go_simp; try with_reducible rfl
    simp only [Act.put, rgA, rgB, rgC, rgD, rgE, rgF]
    refine wpAnyT_done (by kernel_rfl) ?_ _
    have HBP := Lib.hid (HB.out.trans ((hB_0_s2.trans ((hB_s2_s2).mono (hB_0_s2).size)).mono HB.out.size))
    obtain ⟨n3, -, -, -, -, -, -, n7, -⟩ := hSss2
    replace n3 := cell_below n3 hB_s2_s2
    replace n7 := cell_below n7 hB_s2_s2
    cases eb
    · clear n3 n7
      go_wp2_with fail
      go_roundw
      case rel => exact ⟨q + 1, HLT.out, by go_num, HNN.out (by first | rfl | trivial), HBP.out⟩
      case measure => simp [intOf]; try omega
    · go_wp2_with fail
      refine bodyPost_ret (results_tmp2 rfl _ _ _) rfl ?_
      exact ⟨by rw [HIN.out (by first | rfl | trivial)]; rfl, below_step HB1.out HBP.out⟩
  · obtain rfl : gl = q := by omega
    have HN := Lib.hid (show r = none from by
      rw [← HNO.out, List.drop_of_length_le (by rw [HL.out]; exact Nat.le_refl _)]
      rfl)
    clear hB hpc
    go_wp2_with fail
    refine bodyPost_ret (results_tmp2 rfl _ _ _) rfl ?_
    exact ⟨by rw [HN.out]; rfl, below_step HB1.out HB.out⟩
set_option maxHeartbeats 1000000 in
theorem rcheck53 {S : Nat → Prop} (w : World) (ne np : Nat) (ts : List Tk) (sg : List Sg) (sa : Option Addr) (sl sc : Nat) (ga : Option Addr) (gl gc : Nat) (xs : List taskT.den) (h : RfW S w ts sg sa sl sc ga gl gc xs) (k : Ky) :
    Calls Tryz.prog 25 #[rwV ne np sa sl sc ga gl gc, k.v] w fun e w' => e = .returned (.int .i64 (checkI ts ne np k)) ∧ Below w.heap.size w w' := by
  have hl := h.rt.sl_flat.1
  have hlm : sl ≤ 9223372036854775807 := Nat.le_trans h.rt.sl_flat.2.1 h.rt.sl_flat.2.2.1
  have hts := h.ht
  obtain ⟨k1, k2, k3⟩ := k
  have hp := heap_alloc_new w (rwO ne np sa sl sc ga gl gc)
  have hB := (Below.refl w.heap.size w).alloc (Nat.le_refl _) (rwO ne np sa sl sc ga gl gc)
  have hk := heap_alloc_new (w.alloc (rwO ne np sa sl sc ga gl gc)) (.cells #[.string k1, .int .i64 k2, .int .i64 k3] 27)
  have hBk := (Below.refl (w.alloc (rwO ne np sa sl sc ga gl gc)).heap.size (w.alloc (rwO ne np sa sl sc ga gl gc))).alloc (Nat.le_refl _) (.cells #[.string k1, .int .i64 k2, .int .i64 k3] 27)
  replace hp := (hBk.block _ (blk_lt hp)).trans hp
  rw [World.size_alloc] at hk
  have HP := Lib.hid hp
  have HK := Lib.hid hk
  have HB1 := Lib.hid (below_step hB hBk)
  have HX := Lib.hid (h.below (below_step hB hBk))
  clear h hp hB hk hBk
  have HL := Lib.hid (show ts.length = sl from by rw [← hts, List.length_map]; exact hl)
  obtain ⟨r, hr⟩ : ∃ r, checkI ts ne np ⟨k1, k2, k3⟩ = r := ⟨_, rfl⟩
  rw [hr]
  have HR := Lib.hid hr
  have HTS := Lib.hid hts
  unfold Ky.v
  simp only
  clear hl hr hts
  go_enter Tryz.func25, Tryz.ntmps25
  go_wp2_with fail
  generalize World.alloc _ _ = w1 at *
  have z0 := blk_cell HP.out 0
  have z1 := blk_cell HP.out 1
  have z2 := blk_cell HP.out 2
  have y0 := blk_cell HK.out 0
  have y1 := blk_cell HK.out 1
  have y2 := blk_cell HK.out 2
  simp at z0 z1 z2 y0 y1 y2
  have HC := Lib.hid (rplace53 w1 sa sl sc xs HX.out.rt k1)
  rw [HTS.out] at HC
  go_wp2_with fail
  have hX := HC.out
  refine Calls.mono hX ?_
  clear hX
  rintro e w2 ⟨rfl, rfl⟩
  unfold checkI at HR
  by_cases hin : plc ts k1 < ts.length
  · rw [plcI_pos hin]
    have hq : plc ts k1 < xs.length := by rw [← List.length_map (f := tk), HTS.out]; exact hin
    have hat : tkAt ts k1 = tk (xs[plc ts k1]'hq) := by
      rw [tkAt_get hin]
      simp only [← HTS.out, List.getElem_map]
    obtain ⟨b, o, na, nl, nc, rfl, -, -, -, m2, -, -⟩ := task_at HX.out.rt (plc ts k1) hq
    rw [← hat] at m2
    have hqs : plc ts k1 < sl := by rw [← HL.out]; exact hin
    simp only [if_pos hin] at HR
    generalize (tkAt ts k1).grp = g at m2 HR
    generalize plc ts k1 = q at *
    clear hq hat hin
    have hbad : ∀ x : Int, (¬ ((if g = true then k2 = -1 else 0 ≤ k2 ∧ k2 < (ne : Int)) ∧ 0 ≤ k3 ∧ k3 < (np : Int))) → Ending.returned (.int .i64 2) = .returned (.int .i64 r) := fun _ hn => by rw [← HR.out, if_neg hn]
    have hgood : ((if g = true then k2 = -1 else 0 ≤ k2 ∧ k2 < (ne : Int)) ∧ 0 ≤ k3 ∧ k3 < (np : Int)) → Ending.returned (.int .i64 0) = .returned (.int .i64 r) := fun hn => by rw [← HR.out, if_pos hn]
    have HBAD := Lib.hid hbad
    have HGOOD := Lib.hid hgood
    clear hbad hgood HR
    by_cases h1 : k3 < 0
    · go_wp2_with fail
      go_ret
      exact ⟨HBAD.out 0 (fun h => by omega), HB1.out⟩
    by_cases h2 : (np : Int) ≤ k3
    · go_wp2_with fail
      go_ret
      exact ⟨HBAD.out 0 (fun h => by omega), HB1.out⟩
    cases g
    · by_cases h3 : k2 < 0
      · go_wp2_with fail
        go_ret
        exact ⟨HBAD.out 0 (fun h => by have := h.1; simp at this; omega), HB1.out⟩
      by_cases h4 : (ne : Int) ≤ k2
      · go_wp2_with fail
        go_ret
        exact ⟨HBAD.out 0 (fun h => by have := h.1; simp at this; omega), HB1.out⟩
      go_wp2_with fail
      go_ret
      exact ⟨HGOOD.out ⟨by simp; omega, by omega, by omega⟩, HB1.out⟩
    · by_cases h3 : k2 = -1
      · subst h3
        go_wp2_with fail
        go_ret
        exact ⟨HGOOD.out ⟨by simp, by omega, by omega⟩, HB1.out⟩
      · go_wp2_with fail
        go_ret
        exact ⟨HBAD.out 0 (fun h => by have := h.1; simp at this; omega), HB1.out⟩
  · rw [plcI_neg hin]
    simp only [if_neg hin] at HR
    go_wp2_with fail
    go_ret
    exact ⟨by show Ending.returned (.int .i64 8) = _; rw [← HR.out], HB1.out⟩
end Go.Proofs.YtdcjocldggmdbaaGreat

/- Layer 53: the reference's entities, before. -/
set_option linter.unusedSimpArgs false
set_option maxRecDepth 50000
namespace Go.Proofs.YtdcjocldggmdbaaGreat
open Go.RowKit Go

def entL (ne : Nat) (g : Bool) : List Int := if g then [-1] else (List.range ne).map fun e => ((e : Nat) : Int)
theorem info_int : (Tryz.prog.info? 3).map (fun i => (i.zero, i.size, i.bytes)) = some (some (.int .i64 0), (Ty.int .i64).sz, 8) := by kernel_rfl
set_option maxHeartbeats 1000000 in
theorem rents53 (w : World) (ne : Nat) (np : Int) (hne : ne ≤ 1000) (sa : Option Addr) (sl sc : Nat) (ga : Option Addr) (gl gc : Nat) (nm : ByteArray) (na : Option Addr) (nl nc : Nat) (g f : Bool) :
    Calls Tryz.prog 50 #[rwV ne np sa sl sc ga gl gc, .agg #[.string nm, .slice na nl nc, .bool g, .bool f]] w fun e w' => ∃ a l c, e = .returned (.slice a l c) ∧ Rd (.sl (.int .i64)) (fun b => w.heap.size ≤ b ∧ b < w'.heap.size) w' [.slice a l c] (entL ne g) ∧ Below w.heap.size w w' := by
  have hp := heap_alloc_new w (rwO ne np sa sl sc ga gl gc)
  have hB := (Below.refl w.heap.size w).alloc (Nat.le_refl _) (rwO ne np sa sl sc ga gl gc)
  have hk := heap_alloc_new (w.alloc (rwO ne np sa sl sc ga gl gc)) (.cells #[.string nm, .slice na nl nc, .bool g, .bool f] 104)
  have hBk := (Below.refl (w.alloc (rwO ne np sa sl sc ga gl gc)).heap.size (w.alloc (rwO ne np sa sl sc ga gl gc))).alloc (Nat.le_refl _) (.cells #[.string nm, .slice na nl nc, .bool g, .bool f] 104)
  replace hp := (hBk.block _ (blk_lt hp)).trans hp
  rw [World.size_alloc] at hk
  have HP := Lib.hid hp
  have HK := Lib.hid hk
  have HB1 := Lib.hid (below_step hB hBk)
  clear hp hB hk hBk
  go_enter Tryz.func50, Tryz.ntmps50
  cases g
  · go_wp2_with fail
    generalize World.alloc _ _ = w1 at HP HK HB1 ⊢
    go_loopw [5, 6] (fun v i wr => ∃ k : Nat, k ≤ ne ∧ i = .int .i64 k ∧ Owns (.int .i64) 3 w1.heap.size (fun _ => False) wr v ((List.range k).map fun e => ((e : Nat) : Int)) ∧ Below w1.heap.size w1 wr) (fun _ i _ => ne - (intOf i).toNat)
    case atStart => exact ⟨0, Nat.zero_le _, rfl, Owns.nil _ _ _ _, Below.refl _ _⟩
    obtain ⟨k, hk, rfl, hO, hBr⟩ := hrel
    obtain ⟨oa, ol, oc, rfl, hol, -⟩ := hO.slice
    have HO := Lib.hid hO
    have HBr := Lib.hid hBr
    have hpc := (hBr.block _ (blk_lt HP.out)).trans HP.out
    have z0 := blk_cell hpc 0
    simp at z0
    clear hO hBr hpc hol
    by_cases hlt : k < ne
    · have hkI : (k : Int) < (ne : Int) := by omega
      have HLT := Lib.hid hlt
      have HSU := Lib.hid (show ((List.range (k + 1)).map fun e => ((e : Nat) : Int)) = ((List.range k).map fun e => ((e : Nat) : Int)) ++ [((k : Nat) : Int)] from by rw [List.range_succ, List.map_append]; rfl)
      have HLN := Lib.hid (show ((List.range k).map fun e => ((e : Nat) : Int)).length = k from by rw [List.length_map, List.length_range])
      have HOK := Lib.hid (wf_small (n := (k : Nat)) (by omega) (by omega))
      clear hlt
      go_wp2_with (at_builtin; go_must (refine wpList_app _ rfl _ _ 108 rfl (e := .int .i64) (te := 3) info_int Tryz.underlying108 rfl (by decide) (base := w1.heap.size) (S := fun _ => False) (v := .slice oa ol oc) (xs := ((List.range k).map fun e => ((e : Nat) : Int))) rfl (HO.out.alloc _) (by have := HBr.out.size; simp only [World.size_alloc]; omega) rfl (ys := [((k : Nat) : Int)]) (Src.new _ [_] _ _ _) (RdL.one (e := .int .i64) ⟨rfl, HOK.out⟩) (by have := HLT.out; rw [HLN.out]; simp only [List.length_singleton]; omega) (by have := HLT.out; rw [HLN.out]; simp only [List.length_singleton]; omega) ?_; intro v' w2 O2 g2 _ ob2; have HO2 := Lib.hid O2; have HG2 := Lib.hid g2; clear O2 g2 ob2))
      have hB2 := (HBr.out.alloc HBr.out.size _).grown HG2.out (by have := HBr.out.size; simp only [World.size_alloc]; omega) (fun c hc => (HO.out.own c hc).1)
      go_roundw
      case rel => exact ⟨k + 1, HLT.out, by go_num, by rw [HSU.out]; exact HO2.out, hB2⟩
      case measure => simp [intOf]; try omega
    · obtain rfl : ne = k := by omega
      go_wp2_with fail
      go_ret
      exact ⟨_, _, _, rfl, HO.out.rd _ (fun _ h => h.elim) (fun c hc => ⟨Nat.le_trans HB1.out.size (HO.out.own c hc).1, (HO.out.own c hc).2⟩), below_step HB1.out HBr.out⟩
  · go_wp2_with fail
    obtain ⟨w1, hw1⟩ : ∃ x, x = (w.alloc (rwO ne np sa sl sc ga gl gc)).alloc (.cells #[.string nm, .slice na nl nc, .bool true, .bool f] 104) := ⟨_, rfl⟩
    have hs1 : w1.heap.size = w.heap.size + 1 + 1 := by rw [hw1, World.size_alloc, World.size_alloc]
    rw [← hs1, ← hw1]
    rw [← hw1] at HB1
    go_ret
    have hl := Owns.lit (e := .int .i64) (te := 3) (base := w1.heap.size) (S := fun _ => False) w1 (vs := [.int .i64 (-1)]) (xs := [-1]) (RdL.one (e := .int .i64) ⟨rfl, by decide⟩) (Nat.le_refl _) (fun _ h => h.elim) (by simp)
    exact ⟨_, _, _, rfl, hl.rd _ (fun _ h => h.elim) (fun c hc => ⟨Nat.le_trans HB1.out.size (hl.own c hc).1, (hl.own c hc).2⟩), below_step HB1.out ((Below.refl _ w1).alloc (Nat.le_refl _) _)⟩
theorem ltK_per {ts : List Tk} {a b : Ky} (h : a.per ≠ b.per) : ltK ts a b = decide (a.per < b.per) := by
  unfold ltK cfK orI cmpI
  rw [decide_eq_decide]
  split <;> split at * <;> omega
theorem ltK_task {ts : List Tk} {a b : Ky} (h : a.per = b.per) (ha : plc ts a.task < ts.length) (hb : plc ts b.task < ts.length) (hn : a.task ≠ b.task) : ltK ts a b = decide (plcI ts a.task < plcI ts b.task) := by
  have hne : plcI ts a.task ≠ plcI ts b.task := by
    rw [plcI_pos ha, plcI_pos hb]
    intro e
    exact hn (plc_inj ha (by omega))
  unfold ltK cfK orI cmpI
  rw [decide_eq_decide]
  simp only [h]
  split <;> split at * <;> omega
theorem ltK_ent {ts : List Tk} {a b : Ky} (h : a.per = b.per) (hn : a.task = b.task) : ltK ts a b = decide (a.ent < b.ent) := by
  unfold ltK cfK orI cmpI
  rw [decide_eq_decide]
  simp only [h, hn]
  split <;> split at * <;> omega
end Go.Proofs.YtdcjocldggmdbaaGreat
