/- Layer 53, plain: a period can be completed. -/
import Derived.Test.YtdcjocldggmdbaaY53i
import Derived.Test.YtdcjocldggmdbaaRead
import Derived.SizedLaws
set_option linter.unusedSimpArgs false
namespace Go.Proofs.Ytdcjocldggmdbaa
open Go.RowKit Go

theorem exists_min {α : Type} (g : α → Nat) : ∀ (l : List α), l ≠ [] → ∃ x ∈ l, ∀ y ∈ l, g x ≤ g y
  | [], h => absurd rfl h
  | [a], _ => ⟨a, by simp, fun y hy => by rw [List.mem_singleton] at hy; rw [hy]; exact Nat.le_refl _⟩
  | a :: b :: l, _ => by
    obtain ⟨x, hx, hm⟩ := exists_min g (b :: l) (by simp)
    by_cases h : g a ≤ g x
    · refine ⟨a, by simp, fun y hy => ?_⟩
      rcases List.mem_cons.1 hy with rfl | hy
      · exact Nat.le_refl _
      · exact Nat.le_trans h (hm y hy)
    · refine ⟨x, List.mem_cons_of_mem _ hx, fun y hy => ?_⟩
      rcases List.mem_cons.1 hy with rfl | hy
      · omega
      · exact hm y hy
theorem filter_lt {α : Type} {p q : α → Bool} : ∀ {l : List α}, (∀ x ∈ l, q x = true → p x = true) → ∀ {a : α}, a ∈ l → p a = true → q a = false → (l.filter q).length < (l.filter p).length
  | [], _, _, h, _, _ => by cases h
  | b :: l, hs, a, hm, hp, hq => by
    have hle : ∀ l' : List α, (∀ x ∈ l', q x = true → p x = true) → (l'.filter q).length ≤ (l'.filter p).length := by
      intro l' hs'
      induction l' with
      | nil => simp
      | cons c l' ih =>
        have ih := ih fun x hx => hs' x (List.mem_cons_of_mem _ hx)
        rw [List.filter_cons, List.filter_cons]
        by_cases hc : q c = true
        · rw [if_pos hc, if_pos (hs' c (by simp) hc)]; simp; exact ih
        · rw [if_neg hc]; split
          · simp; omega
          · exact ih
    rw [List.filter_cons, List.filter_cons]
    rcases List.mem_cons.1 hm with rfl | hm
    · rw [if_neg (by simp [hq]), if_pos hp]
      have := hle l fun x hx => hs x (List.mem_cons_of_mem _ hx)
      simp; omega
    · have ih := filter_lt (l := l) (fun x hx => hs x (List.mem_cons_of_mem _ hx)) hm hp hq
      by_cases hc : q b = true
      · rw [if_pos hc, if_pos (hs b (by simp) hc)]; simp; exact ih
      · rw [if_neg hc]; split
        · simp; omega
        · exact ih
def missing (ts : List Tk) (ne np : Nat) (sg : List Sg) (per : Int) : Nat := ((allP ts ne np per).filter fun k => (lkS sg k).isNone).length
theorem all_some {ts : List Tk} {ne np : Nat} {sg : List Sg} {per : Int} (h : missing ts ne np sg per = 0) {k : Ky} (hk : k ∈ allP ts ne np per) : (lkS sg k).isSome = true := by
  unfold missing at h
  have := List.eq_nil_of_length_eq_zero h
  rw [List.filter_eq_nil_iff] at this
  have := this k hk
  cases hf : lkS sg k with
  | none => rw [hf] at this; simp at this
  | some v => rfl
theorem all_pos {ts : List Tk} {ne np : Nat} (hw : Wk ts ne np) (h1 : 1 ≤ ne) {per : Int} (hin : 0 ≤ per ∧ per < (np : Int)) : 0 < (allP ts ne np per).length := by
  have hl := hw.v.1
  refine List.length_pos_of_mem (a := (⟨(ts[0]'(by omega)).name, if (ts[0]'(by omega)).grp then -1 else 0, per⟩ : Ky)) ((all_kv hw).2 ⟨kv_iff.2 ?_, rfl⟩)
  have hpl : plc ts (ts[0]'(by omega)).name = 0 := (hw.v.2.2 0 (by omega) (by omega)).2.1
  simp only
  rw [hpl]
  refine ⟨by omega, ?_, hin⟩
  rw [tkAt_get (by rw [hpl]; omega)]
  simp only [hpl]
  split
  · rfl
  · omega
theorem done_iff {ts : List Tk} {ne np : Nat} (hw : Wk ts ne np) (h1 : 1 ≤ ne) {sg : List Sg} {per : Int} (hin : 0 ≤ per ∧ per < (np : Int)) : doneA ts ne np (lkS sg) per = decide (missing ts ne np sg per = 0) := by
  have hp := all_pos hw h1 hin
  unfold doneA
  rw [decide_eq_true hp, Bool.and_true]
  by_cases h : missing ts ne np sg per = 0
  · rw [decide_eq_true h, List.all_eq_true]
    exact fun k hk => all_some h hk
  · rw [decide_eq_false h, List.all_eq_false]
    unfold missing at h
    obtain ⟨k, hk⟩ := List.exists_mem_of_length_pos (Nat.pos_of_ne_zero h)
    obtain ⟨h1, h2⟩ := List.mem_filter.1 hk
    exact ⟨k, h1, by cases hf : lkS sg k <;> simp [hf] at h2 ⊢⟩
theorem next_nil {ts : List Tk} {ne np : Nat} {sg : List Sg} {per : Int} (h : missing ts ne np sg per = 0) : nextL ts ne np (lkS sg) per = [] := by
  unfold nextL
  rw [List.filter_eq_nil_iff]
  intro k hk
  have := all_some h hk
  cases hf : lkS sg k with
  | none => rw [hf] at this; cases this
  | some v => simp
/-- While something is missing, something can be signed. -/
theorem next_some {ts : List Tk} {ne np : Nat} (hw : Wk ts ne np) {sg : List Sg} {per : Int} (h : missing ts ne np sg per ≠ 0) (hd : ∀ k, checkI ts ne np k = 0 → k.per = per - 1 → (lkS sg k).isSome = true) : nextL ts ne np (lkS sg) per ≠ [] := by
  unfold missing at h
  have hne : ((allP ts ne np per).filter fun k => (lkS sg k).isNone) ≠ [] := fun e => h (by rw [e]; rfl)
  obtain ⟨k, hk, hmin⟩ := exists_min (fun k : Ky => plc ts k.task) _ hne
  obtain ⟨h1, h2⟩ := List.mem_filter.1 hk
  obtain ⟨h3, h4⟩ := (all_kv hw).1 h1
  refine List.ne_nil_of_mem (List.mem_filter.2 ⟨h1, ?_⟩)
  rw [Bool.and_eq_true]
  refine ⟨h2, ?_⟩
  unfold readyB
  rw [List.all_eq_true]
  intro n hn
  obtain ⟨n1, n2⟩ := raw_kv hw h3 hn
  rcases raw_cases hn with ⟨nm, hnm, hx⟩ | ⟨-, -, rfl⟩
  · obtain ⟨a, b, -⟩ := needOf_mem hw h3 hnm hx
    have hlt := (hw.at_ (kv_iff.1 h3).1).2.2.2.1 nm hnm
    cases hf : lkS sg n with
    | some v => rfl
    | none =>
      have := hmin n (List.mem_filter.2 ⟨(all_kv hw).2 ⟨n1, by rw [b, h4]⟩, by rw [hf]; rfl⟩)
      rw [a] at this
      omega
  · exact hd _ n1 (by simp only; rw [h4])
theorem next_mem {ts : List Tk} {ne np : Nat} (hw : Wk ts ne np) {f : Ky → Option ByteArray} {per : Int} {k : Ky} (h : k ∈ nextL ts ne np f per) : checkI ts ne np k = 0 ∧ k.per = per ∧ f k = none ∧ readyB ts ne f k = true := by
  unfold nextL at h
  obtain ⟨h1, h2⟩ := List.mem_filter.1 h
  rw [Bool.and_eq_true] at h2
  obtain ⟨h3, h4⟩ := (all_kv hw).1 h1
  exact ⟨h3, h4, Option.isNone_iff_eq_none.1 h2.1, h2.2⟩
theorem missing_sign {ts : List Tk} {ne np : Nat} (hw : Wk ts ne np) {sg : List Sg} {per : Int} {k : Ky} {who : ByteArray} (hk : k ∈ nextL ts ne np (lkS sg) per) (hn : nameB who = true) : signI ts ne np (lkS sg) k who = 0 ∧ missing ts ne np (signS ts ne np sg k who) per < missing ts ne np sg per := by
  obtain ⟨h1, h2, h3, h4⟩ := next_mem hw hk
  have h0 := signI_of h1 hn h3 h4
  refine ⟨h0, ?_⟩
  unfold missing
  refine filter_lt (fun x _ hx => ?_) (a := k) ((all_kv hw).2 ⟨h1, h2⟩) (by rw [h3]; rfl) ?_
  · rw [← sign_lk, if_pos h0] at hx
    unfold signF at hx
    split at hx
    · cases hx
    · exact hx
  · rw [← sign_lk, if_pos h0]
    simp [signF]
theorem sign_keeps {ts : List Tk} {ne np : Nat} {sg : List Sg} {k x : Ky} {who : ByteArray} (h : (lkS sg x).isSome = true) : (lkS (signS ts ne np sg k who) x).isSome = true := by
  rw [← sign_lk]
  split
  · unfold signF
    split
    · rfl
    · exact h
  · exact h
theorem keysL_len4 (ne : Nat) (t : Tk) (per : Int) (h : 1 ≤ ne) : (keysL ne t per).length ≤ ne := by
  unfold keysL
  split
  · simpa using h
  · simp
theorem missing_le {ts : List Tk} {ne np : Nat} (h1 : 1 ≤ ne) (sg : List Sg) (per : Int) : missing ts ne np sg per ≤ ts.length * ne := by
  refine Nat.le_trans (List.length_filter_le _ _) ?_
  unfold allP
  split
  · unfold allK
    induction ts with
    | nil => simp
    | cons t ts ih =>
      rw [List.flatMap_cons, List.length_append, List.length_cons, Nat.succ_mul]
      have := keysL_len4 ne t per h1
      omega
  · simp
end Go.Proofs.Ytdcjocldggmdbaa

/- The law WorkflowCompletes, walked. -/
set_option linter.unusedSimpArgs false
namespace Go.Proofs.Ytdcjocldggmdbaa
open Go.RowKit Go

theorem bX_name : nameB bX = true := by decide +kernel
theorem bX_sz : bX.size ≤ maxLen := by decide
theorem wk_of {n : Nat} {xs : List taskT.den} (h : 1 ≤ n ∧ n ≤ 12 ∧ ValidT (xs.map tk)) (hf : ∀ i (hi : i < xs.length), (tk xs[i]).needs.length ≤ 8) : Wk (xs.map tk) n 12 where
  v := (rval_iff _).2 h.2.2
  f := fun t ht => by
    obtain ⟨x, hx, rfl⟩ := List.mem_map.1 ht
    obtain ⟨i, hi, rfl⟩ := List.getElem_of_mem hx
    exact hf i hi
  ne := by omega
  np := by omega
theorem steps_ok {S : Nat → Prop} {w : World} {a : Option Addr} {len cap : Nat} {ls : List stepT.den} (h : Rd (.sl stepT) S w [.slice a len cap] ls) : ∀ s ∈ ls.map stp, s.key.ok ∧ s.who.size ≤ maxLen := by
  intro s hs
  obtain ⟨x, hx, rfl⟩ := List.mem_map.1 hs
  obtain ⟨i, hi, rfl⟩ := List.getElem_of_mem hx
  obtain ⟨b, o, -, -, -, -, -, -, -, h1, h2⟩ := step_at h i hi
  exact ⟨h1, h2⟩
theorem playL_inv {ts : List Tk} {ne np : Nat} (hw : Wk ts ne np) {l : List Stp} (hl : ∀ s ∈ l, s.who.size ≤ maxLen) {sg : List Sg} (h : SgInv ts ne np sg) : SgInv ts ne np (playL ts ne np l sg) := by
  unfold playL
  induction l generalizing sg with
  | nil => exact h
  | cons s l ih => exact ih (fun x hx => hl x (List.mem_cons_of_mem _ hx)) (h.playS hw s (hl s (by simp)))
set_option maxRecDepth 20000 in
set_option maxHeartbeats 1000000 in
theorem completesWalk53 (w : World) (c0 : List Value) (x0 : planT.den) (r0 : Rd planT (fun b => b < w.heap.size) w c0 x0) (c1 : List Value) (x1 : (Ty.sl stepT).den) (r1 : Rd (.sl stepT) (fun b => b < w.heap.size) w c1 x1) (c2 : List Value) (x2 : (Ty.int .u8).den) (r2 : Rd (.int .u8) (fun b => b < w.heap.size) w c2 x2) :
    Calls Try.prog 6 #[valOf planT c0, valOf (.sl stepT) c1, valOf (.int .u8) c2] w fun e w' => e = .returned (.bool true) ∧ Below w.heap.size w w' := by
  obtain ⟨n, xs, ⟨⟩⟩ := x0
  obtain ⟨k1, kr1, rfl, ⟨rfl, hn⟩, k2, kr2, rfl, hx, rfl⟩ := r0
  obtain ⟨a, len, cap, rfl, hl, hlc, hcm, -⟩ := id hx
  obtain ⟨la, ll, lc, rfl, hll, -⟩ := id r1
  obtain ⟨rfl, hlast⟩ := r2
  change List taskT.den at xs
  change List stepT.den at x1
  change Int at x2
  change Calls _ _ #[.agg #[.int .i64 n, .slice a len cap], .slice la ll lc, .int .u8 x2] _ _
  have hx2 : 0 ≤ x2 ∧ x2 < 256 := by
    simp [Lit.wf, IntKind.min, IntKind.max, IntKind.signed, IntKind.bits] at hlast
    omega
  have hp := alloc_new' (w := w) (o := .cells #[.int .i64 n, .slice a len cap] 24) rfl
  have hB := (Below.refl w.heap.size w).alloc (Nat.le_refl _) (.cells #[.int .i64 n, .slice a len cap] 24)
  have HP := Lib.hid hp
  have HB := Lib.hid hB
  have HX := Lib.hid hx
  have HLS := Lib.hid r1
  have HL := Lib.hid (show xs.length = len from hl)
  have HLL := Lib.hid (show x1.length = ll from hll)
  have HX2 := Lib.hid hx2
  clear hx hl hn hp hB r1 hll hlast hx2
  go_enter Try.func6, Try.ntmps6
  go_wp2_with fail
  generalize w.alloc _ = w1 at HP HB ⊢
  obtain ⟨pb, hpb⟩ : ∃ q, w.heap.size = q := ⟨_, rfl⟩
  have HPB := Lib.hid hpb
  rw [hpb] at HP ⊢
  clear hpb
  have hX := awake53 w1
  refine Calls.mono hX ?_
  clear hX
  rintro e w2 ⟨rfl, hB2⟩
  have HP2 := Lib.hid ((hB2.block _ (blk_lt HP.out)).trans HP.out)
  have HB2 := Lib.hid (below_step HB.out hB2)
  have y0 := blk_cell HP2.out 0
  have y1 := blk_cell HP2.out 1
  simp at y0 y1
  clear hB2 HP HB
  go_wp2_with fail
  have hX := fewS53 w2 n a len cap xs (HX.out.alloc HB2.out) (fun b hb => hb) la ll lc x1 (HLS.out.alloc HB2.out) (fun b hb => hb)
  refine Calls.mono hX ?_
  clear hX
  rintro e w3 ⟨fb, rfl, hB3, hfb⟩
  have HP3 := Lib.hid ((hB3.block _ (blk_lt HP2.out)).trans HP2.out)
  have HB3 := Lib.hid (below_step HB2.out hB3)
  have HFB := Lib.hid hfb
  have y0 := blk_cell HP3.out 0
  have y1 := blk_cell HP3.out 1
  simp at y0 y1
  clear hB3 hfb HP2 HB2
  cases fb
  · go_wp2_with fail
    go_ret
    exact ⟨rfl, HB3.out⟩
  have HFW := Lib.hid (HFB.out rfl)
  clear HFB
  by_cases h4 : (4 : Int) < n
  · go_wp2_with fail
    go_ret
    exact ⟨rfl, HB3.out⟩
  have hlen8 : len ≤ 8 := by rw [← HL.out]; exact HFW.out.1.1
  have hll40 : ll ≤ 40 := by rw [← HLL.out]; exact HFW.out.2.1
  have hgn : gN n ≤ 4 := by unfold gN; omega
  go_wp2_with fail
  have hX := start53 w3 n a len cap xs (HX.out.alloc HB3.out) (fun b hb => hb) (by omega) (fun i hi => Nat.le_trans (HFW.out.1.2 i hi) (by omega))
  refine Calls.mono hX ?_
  clear hX
  rintro e w4 ⟨q, z1, z2, sa, sl, sc, rfl, hB4, hst⟩
  have HB4 := Lib.hid (below_step HB3.out hB4)
  have hBa := (Below.refl w4.heap.size w4).alloc (Nat.le_refl _) (.cells #[.int .i64 z1, .int .i64 z2, .slice sa sl sc, .slice none 0 0] 30)
  have HB5 := Lib.hid (below_step HB4.out hBa)
  have HB45 := Lib.hid hBa
  have HST := Lib.hid hst
  have HS3 := Lib.hid (show w.heap.size ≤ w3.heap.size from HB3.out.size)
  clear hst hB4 hBa y0 y1 HP3 HB3
  rcases HST.out with ⟨rfl, -⟩ | ⟨hok, -, S, p, m, rfl, hm3, hwf⟩
  · go_wp2_with fail
    go_ret
    exact ⟨rfl, HB5.out⟩
  have HWK := Lib.hid (wk_of hok HFW.out.1.2)
  have HWF := Lib.hid hwf
  have HM3 := Lib.hid hm3
  have HOK := Lib.hid hok
  have HT8 := Lib.hid (show (xs.map tk).length ≤ 8 from by rw [List.length_map]; exact HFW.out.1.1)
  clear hok hwf hm3 HST
  go_wp2_with fail
  generalize w4.alloc (.cells #[.int .i64 z1, .int .i64 z2, .slice sa sl sc, .slice none 0 0] 30) = w5 at HB5 HB45 ⊢
  have HW5 := Lib.hid (HWF.out.below HB45.out)
  have hX := play53 w5 p (xs.map tk) (gN n) 12 m HW5.out HWK.out la ll lc x1 (Rd.below HB5.out (fun _ h => h) HLS.out) (fun b hb => ⟨Nat.lt_of_lt_of_le hb HB5.out.size, by have := HS3.out; have := HM3.out; omega⟩) (by omega)
  refine Calls.mono hX ?_
  clear hX
  rintro e w6 ⟨rfl, hg6, n6, hn6, hwf6⟩
  have HMW := Lib.hid (show w.heap.size ≤ m from Nat.le_trans HS3.out HM3.out)
  have HB6 := Lib.hid (show Below w.heap.size w w6 from HB5.out.trans (hg6.below (fun b e => by rw [e]; exact HMW.out) HB5.out.size))
  have HWF6 := Lib.hid hwf6
  have HN6 := Lib.hid hn6
  have HSI := Lib.hid (show SgInv (xs.map tk) (gN n) 12 (playL (xs.map tk) (gN n) 12 (x1.map stp) []) from playL_inv HWK.out (fun s hs => (steps_ok HLS.out s hs).2) (SgInv.nil _ _ _))
  generalize playL (xs.map tk) (gN n) 12 (x1.map stp) [] = sg0 at HWF6 HSI
  generalize xs.map tk = ts at HWK HWF6 HSI HT8
  generalize gN n = ne at HWK HWF6 HSI HOK hgn
  have HNE := Lib.hid (show 1 ≤ ne from HOK.out.1)
  clear hg6 hwf6 hn6 HWF HM3 HW5 HB45 HB5 HB4 HOK HS3
  obtain ⟨L, hL⟩ : ∃ L : Nat, (L : Int) = x2 % 3 := ⟨(x2 % 3).toNat, by have := HX2.out; omega⟩
  have hL2 : L ≤ 2 := by omega
  have HLQ := Lib.hid hL
  clear hL
  go_wp2_with fail
  go_loopw [10] (fun pv wr => ∃ (per n' : Nat) (sg : List Sg), pv = .int .i64 (per : Nat) ∧ per ≤ L + 1 ∧ Below w.heap.size w wr ∧ n' ≤ 40 + 40 * per ∧ WfIn S wr p ts ne 12 m n' (lkS sg) ∧ SgInv ts ne 12 sg ∧ ∀ q : Nat, q < per → missing ts ne 12 sg q = 0) (fun pv _ => L + 2 - (intOf pv).toNat)
  case atStart => exact ⟨0, n6, sg0, rfl, Nat.zero_le _, HB6.out, by have := HN6.out; omega, HWF6.out, HSI.out, fun q h => absurd h (by omega)⟩
  obtain ⟨per, n', sg, rfl, hper, hb, hn', hwf, hsi, hmi⟩ := hrel
  have HBr := Lib.hid hb
  have HWFr := Lib.hid hwf
  have HSIr := Lib.hid hsi
  have HMI := Lib.hid hmi
  have HNr := Lib.hid hn'
  clear hb hwf hsi hmi hn' HWF6 HSI HB6 HN6
  have hx0 := HX2.out.1
  have hx1 := HX2.out.2
  have hpw : (Lit.int .i64 (per : Nat)).wf = true := wf_small (by omega) (by omega)
  have HPW := Lib.hid hpw
  have HIN := Lib.hid (show (0 : Int) ≤ (per : Nat) ∧ ((per : Nat) : Int) < ((12 : Nat) : Int) from by omega)
  clear hpw
  by_cases hle : per ≤ L
  · have hleI : (per : Int) ≤ x2 % 3 := by rw [← HLQ.out]; omega
    go_wp2_with fail
    go_loopw [11] (fun nv wr => ∃ (i n2 : Nat) (sg2 : List Sg), nv = .int .i64 (i : Nat) ∧ i + missing ts ne 12 sg2 (per : Nat) ≤ 32 ∧ Below w.heap.size w wr ∧ n2 ≤ 40 + 40 * per + i ∧ WfIn S wr p ts ne 12 m n2 (lkS sg2) ∧ SgInv ts ne 12 sg2 ∧ ∀ q : Nat, q < per → missing ts ne 12 sg2 q = 0) (fun nv _ => 34 - (intOf nv).toNat)
    case atStart => exact ⟨0, n', sg, rfl, by
      have h1 := missing_le (np := 12) (ts := ts) HNE.out sg (per : Nat)
      have h2 : ts.length * ne ≤ 8 * 4 := Nat.mul_le_mul HT8.out hgn
      omega, HBr.out, by have := HNr.out; omega, HWFr.out, HSIr.out, HMI.out⟩
    obtain ⟨i, n2, sg2, rfl, him, hb, hn2, hwf, hsi, hmi⟩ := hrel
    have HB2 := Lib.hid hb
    have HWF2 := Lib.hid hwf
    have HSI2 := Lib.hid hsi
    have HMI2 := Lib.hid hmi
    have HN2 := Lib.hid hn2
    have HIM := Lib.hid him
    have hi33 : (i : Int) ≤ 33 := by omega
    have hi3 : ((i : Int) == 33) = false := by simp; omega
    have HC := Lib.hid (doneG53 wr p ts ne 12 m n2 (lkS sg2) hwf (by omega) (by have := HT8.out; omega) (per : Nat) HPW.out)
    rw [done_iff HWK.out HNE.out HIN.out] at HC
    clear hb hwf hsi hmi hn2 him HBr HWFr HSIr HMI HNr
    go_wp2_with fail
    have hX := HC.out
    refine Calls.mono hX ?_
    clear hX
    rintro e w7 ⟨rfl, hb7⟩
    have HB7 := Lib.hid (show Below w.heap.size w w7 from HB2.out.trans (hb7.mono HB2.out.size))
    have HWF7 := Lib.hid (HWF2.out.below hb7)
    clear hb7
    by_cases hm0 : missing ts ne 12 sg2 (per : Nat) = 0
    · rw [decide_eq_true hm0]
      have HM0 := Lib.hid hm0
      have HC7 := Lib.hid (doneG53 w7 p ts ne 12 m n2 (lkS sg2) HWF7.out (by omega) (by have := HT8.out; omega) (per : Nat) HPW.out)
      rw [done_iff HWK.out HNE.out HIN.out, decide_eq_true hm0] at HC7
      clear hm0
      go_wp2_with fail
      have hX := HC7.out
      refine Calls.mono hX ?_
      clear hX
      rintro e w8 ⟨rfl, hb8⟩
      have HB8 := Lib.hid (show Below w.heap.size w w8 from HB7.out.trans (hb8.mono HB7.out.size))
      have HWF8 := Lib.hid (HWF7.out.below hb8)
      clear hb8
      have HC8 := Lib.hid (nextM w8 p ts ne 12 m n2 (lkS sg2) HWF8.out HWK.out (by have := HT8.out; omega) (per : Nat) HPW.out)
      rw [next_nil HM0.out] at HC8
      go_wp2_with fail
      have hX := HC8.out
      refine Calls.mono hX ?_
      clear hX
      rintro e w9 ⟨na, nl, nc, rfl, hr9, hb9⟩
      have hl0 : nl = 0 := by simpa using hr9.sl_flat.1.symm
      subst hl0
      have HB9 := Lib.hid (show Below w.heap.size w w9 from HB8.out.trans (hb9.mono HB8.out.size))
      have HWF9 := Lib.hid (HWF8.out.below hb9)
      have HMN := Lib.hid (show ∀ q : Nat, q < per + 1 → missing ts ne 12 sg2 q = 0 from fun q hq => by
        by_cases e : q = per
        · rw [e]; exact HM0.out
        · exact HMI2.out q (by omega))
      clear hb9 hr9
      go_wp2_with fail
      go_roundw
      case rel => exact ⟨per + 1, n2, sg2, by go_num, by omega, HB9.out, by have := HN2.out; have := HIM.out; omega, HWF9.out, HSI2.out, HMN.out⟩
      case measure => simp [intOf]; try omega
    · rw [decide_eq_false hm0]
      have HNN := Lib.hid (next_some HWK.out hm0 (fun k h1 h2 => by
        by_cases hp0 : per = 0
        · subst hp0
          have := (kv_iff.1 h1).2.2.1
          rw [h2] at this
          exact absurd this (by simp)
        · exact all_some (HMI2.out (per - 1) (by omega)) ((all_kv HWK.out).2 ⟨h1, by rw [h2]; omega⟩)))
      have HC7 := Lib.hid (nextM w7 p ts ne 12 m n2 (lkS sg2) HWF7.out HWK.out (by have := HT8.out; omega) (per : Nat) HPW.out)
      clear hm0
      go_wp2_with fail
      have hX := HC7.out
      refine Calls.mono hX ?_
      clear hX
      rintro e w8 ⟨na, nl, nc, rfl, hr8, hb8⟩
      have HB8 := Lib.hid (show Below w.heap.size w w8 from HB7.out.trans (hb8.mono HB7.out.size))
      have HWF8 := Lib.hid (HWF7.out.below hb8)
      have HR8 := Lib.hid hr8
      have hnl : (nextL ts ne 12 (lkS sg2) (per : Nat)).length = nl := by simpa using hr8.sl_flat.1
      have hpos := List.length_pos_iff.2 HNN.out
      obtain ⟨q, rfl⟩ : ∃ q, nl = q + 1 := ⟨nl - 1, by omega⟩
      have hq : q < (nextL ts ne 12 (lkS sg2) (per : Nat)).length := by omega
      have hq9 : (q : Int) < 9223372036854775807 := by have h1 := hr8.sl_flat.2.1; have h2 := hr8.sl_flat.2.2.1; omega
      have hwq : wrap64 (q : Int) = (q : Int) := by rw [wrap64]; omega
      clear hq9
      obtain ⟨b, o, rfl, -, m0, m1, m2, hkok⟩ := key_at hr8 q hq
      obtain ⟨hs0, hms⟩ := missing_sign HWK.out (List.getElem_mem hq) bX_name
      generalize (nextL ts ne 12 (lkS sg2) (per : Nat))[q]'hq = k at m0 m1 m2 hkok hs0 hms
      have HKO := Lib.hid hkok
      have HS0 := Lib.hid hs0
      have HMS := Lib.hid hms
      have HC8 := Lib.hid (sign53 w8 p ts ne 12 m n2 (lkS sg2) HWF8.out (by omega) (by have := HN2.out; omega) k HKO.out bX bX_sz (fun hc => HWK.out.need hc))
      have HSN := Lib.hid (HSI2.out.sign (k := k) bX_sz)
      have HKEEP := Lib.hid (show ∀ q : Nat, q < per → missing ts ne 12 (signS ts ne 12 sg2 k bX) q = 0 from fun q hq => by
        have h := HMI2.out q hq
        unfold missing
        rw [List.filter_eq_nil_iff.2 (fun x hx => ?_)]
        · rfl
        · have := sign_keeps (ts := ts) (ne := ne) (np := 12) (k := k) (who := bX) (all_some h hx)
          cases hf : lkS (signS ts ne 12 sg2 k bX) x with
          | none => rw [hf] at this; cases this
          | some v => simp)
      obtain ⟨k1, k2, k3⟩ := k
      unfold Ky.v at HC8
      simp only at m0 m1 m2 HC8
      have hbx : bX = ⟨#[120]⟩ := rfl
      rw [hbx] at HC8
      clear hb8 hr8 hnl hpos hkok hs0 hms hq hbx HNN
      have hq1 : ((q : Int) + 1 == 0) = false := by simp; omega
      go_wp2_with fail
      have hX := HC8.out
      refine Calls.mono hX ?_
      clear hX
      rintro e w9 ⟨rfl, hg9, n3, hn3, hwf9⟩
      have HB9 := Lib.hid (show Below w.heap.size w w9 from HB8.out.trans (hg9.below (fun b e => by rw [e]; exact HMW.out) HB8.out.size))
      have HWF9 := Lib.hid (show WfIn S w9 p ts ne 12 m n3 (lkS (signS ts ne 12 sg2 ⟨k1, k2, k3⟩ bX)) from by
        have h := hwf9
        rw [sign_lk] at h
        exact h)
      have HN3 := Lib.hid hn3
      have hs0 := HS0.out
      have hs0' : signI ts ne 12 (lkS sg2) ⟨k1, k2, k3⟩ ⟨#[120]⟩ = 0 := hs0
      rw [hs0']
      clear hg9 hwf9 hn3 m0 m1 m2 hs0 hs0'
      go_wp2_with fail
      go_roundw
      case rel => exact ⟨i + 1, n3, signS ts ne 12 sg2 ⟨k1, k2, k3⟩ bX, by go_num, by have := HIM.out; have := HMS.out; omega, HB9.out, by have := HN2.out; have := HN3.out; omega, HWF9.out, HSN.out, HKEEP.out⟩
      case measure => simp [intOf]; try omega
  · have hleI : ¬ (per : Int) ≤ x2 % 3 := by rw [← HLQ.out]; omega
    go_wp2_with fail
    go_ret
    exact ⟨rfl, HBr.out⟩
end Go.Proofs.Ytdcjocldggmdbaa

/- Layer 53: further facts for the laws. -/
set_option linter.unusedSimpArgs false
namespace Go.Proofs.Ytdcjocldggmdbaa
open Go.RowKit Go

theorem info_step : (Try.prog.info? 48).map (fun i => (i.zero, i.size, i.bytes)) = some (some (.agg #[.string ⟨#[]⟩, .int .i64 0, .int .i64 0, .string ⟨#[]⟩, .bool false]), stepT.sz, 56) := by kernel_rfl
theorem step_rd {S : Nat → Prop} {w : World} {k : Ky} (h : k.ok) : RdL stepT S w [.string k.task, .int .i64 k.ent, .int .i64 k.per, .string ⟨#[]⟩, .bool false] [((k.task, k.ent, k.per, ()), ⟨#[]⟩, false, ())] :=
  RdL.one (e := stepT) ⟨[_, _, _], [_, _], rfl, ⟨[_], [_, _], rfl, ⟨rfl, h.1⟩, [_], [_], rfl, ⟨rfl, h.2.1⟩, [_], [], rfl, ⟨rfl, h.2.2⟩, rfl⟩, [_], [_], rfl, ⟨rfl, (by decide : (⟨#[]⟩ : ByteArray).size ≤ maxLen)⟩, [_], [], rfl, rfl, rfl⟩
theorem sg_at {S : Nat → Prop} {w : World} {a : Option Addr} {len cap : Nat} {l : List Sg} (h : Rd (.sl sgT) S w [.slice a len cap] (l.map sgd)) (i : Nat) (hi : i < l.length) :
    ∃ b off, a = some ⟨b, off, none⟩ ∧ S b ∧ w.cell? ⟨b, off + i * 4, none⟩ = some (.string l[i].1.task) ∧ w.cell? ⟨b, off + i * 4 + 1, none⟩ = some (.int .i64 l[i].1.ent) ∧ w.cell? ⟨b, off + i * 4 + 2, none⟩ = some (.int .i64 l[i].1.per) ∧ w.cell? ⟨b, off + i * 4 + 3, none⟩ = some (.string l[i].2) ∧ l[i].1.ok := by
  obtain ⟨hl, -, -, vs, hr, hor⟩ := h.sl_flat
  obtain ⟨c, hc, hcc, hrd⟩ := hr.at_ i (by rw [List.length_map]; exact hi)
  rw [List.getElem_map] at hrd
  rcases hor with h0 | ⟨b, off, rfl, hb, hcell⟩
  · rw [List.length_map] at hl; omega
  · generalize l[i] = s at hrd ⊢
    obtain ⟨⟨nm, e, p⟩, wh⟩ := s
    obtain ⟨c1, r1, rfl, ⟨d1, s1, rfl, ⟨rfl, h1⟩, d2, s2, rfl, ⟨rfl, h2⟩, d3, s3, rfl, ⟨rfl, h3⟩, rfl⟩, c2, r2, rfl, ⟨rfl, h4⟩, rfl⟩ := hrd
    refine ⟨b, off, rfl, hb, ?_, ?_, ?_, ?_, ⟨h1, h2, h3⟩⟩
    · rw [show off + i * 4 = off + (i * sgT.sz + 0) from rfl]; exact hcell _ _ (hcc 0 _ rfl)
    · rw [show off + i * 4 + 1 = off + (i * sgT.sz + 1) from rfl]; exact hcell _ _ (hcc 1 _ rfl)
    · rw [show off + i * 4 + 2 = off + (i * sgT.sz + 2) from rfl]; exact hcell _ _ (hcc 2 _ rfl)
    · rw [show off + i * 4 + 3 = off + (i * sgT.sz + 3) from rfl]; exact hcell _ _ (hcc 3 _ rfl)
/-- Prerequisites of what is signed are signed. -/
theorem need_signed {ts : List Tk} {ne np : Nat} {sg : List Sg} (h : SgInv ts ne np sg) {k n : Ky} (hk : k ∈ keysS sg) {l : List Ky} (hp : l.Perm (rawNeeds ts ne k)) (hn : n ∈ l) : (lkS sg n).isSome = true :=
  h.inv.need (lk_isSome.2 hk) (hp.mem_iff.1 hn)
/-- What Next lists of a key's period is what can be signed. -/
theorem next_iff {ts : List Tk} {ne np : Nat} (hw : Wk ts ne np) {f : Ky → Option ByteArray} {k : Ky} {who : ByteArray} (hn : nameB who = true) : k ∈ nextL ts ne np f k.per ↔ signI ts ne np f k who = 0 := by
  constructor
  · intro h
    obtain ⟨h1, -, h3, h4⟩ := next_mem hw h
    exact signI_of h1 hn h3 h4
  · intro h
    obtain ⟨h1, -, h3, h4⟩ := signI_zero h
    unfold nextL
    refine List.mem_filter.2 ⟨(all_kv hw).2 ⟨h1, rfl⟩, ?_⟩
    rw [h3, h4]
    rfl
theorem rdOwn {e : Ty} {te : TypeId} {base : Nat} {w : World} {v : Value} {xs : List e.den} (h : Owns e te base (fun _ => False) w v xs) : Rd (.sl e) (fun b => b < w.heap.size) w [v] xs := h.rd _ (fun _ h => h.elim) (fun c hc => (h.own c hc).2)
theorem rkey_eql (w : World) (x y : Ky) : Sem.run Try.prog (binOp .eql 46 x.v y.v) w = .ok (.bool (decide (x = y))) w := by
  obtain ⟨c, k, u⟩ := x
  obtain ⟨d, m, v⟩ := y
  have u3 := Try.underlying3
  have u9 := Try.underlying9
  have hS : Try.prog.underlying 46 = some (.struct (Try.prog.fieldsOf 46)) := by kernel_rfl
  have hp : Try.prog.stoodInHeld 46 = false := by kernel_rfl
  unfold Ky.v
  rw [run_eql_struct, show (10000 : Nat) = 9999 + 1 from rfl, run_equalIn_agg w 9999 46 _ _ hS hp]
  simp only [Program.fieldsOf, Try.underlying46]
  go_simp
  have hcl : c.toList = d.toList ↔ c = d := by
    have h := strB c d
    rw [Bool.eq_iff_iff] at h
    simpa using h
  by_cases h1 : c = d <;> by_cases h2 : k = m <;> by_cases h3 : u = v <;> simp [hcl, h1, h2, h3]
theorem playL_len (ts : List Tk) (ne np : Nat) (l : List Stp) (sg : List Sg) : (playL ts ne np l sg).length ≤ sg.length + l.length := by
  unfold playL
  induction l generalizing sg with
  | nil => simp
  | cons s l ih =>
    have h1 := ih (playS ts ne np sg s)
    have h2 := playS_len ts ne np sg s
    rw [List.foldl_cons, List.length_cons]
    omega
end Go.Proofs.Ytdcjocldggmdbaa

/- Layer 53: what a reopening takes back can be signed again. -/
set_option linter.unusedSimpArgs false
namespace Go.Proofs.Ytdcjocldggmdbaa
open Go.RowKit Go

def bAgain : ByteArray := ⟨#[97, 103, 97, 105, 110]⟩
theorem again_name : nameB bAgain = true := by decide +kernel
theorem again_sz : bAgain.size ≤ maxLen := by decide
theorem gone_nodup {ts : List Tk} {ne np : Nat} {sg : List Sg} (h : SgOk ts ne np sg) (k : Ky) : (goneOf ts ne k sg).Nodup := (gone_asc h k).imp fun {a b} hl e => by rw [e, ltK_irr] at hl; cases hl
theorem filter_parts {α : Type} (p : α → Bool) : ∀ l : List α, (l.filter p).length + (l.filter fun x => !p x).length = l.length
  | [] => rfl
  | a :: l => by
    have ih := filter_parts p l
    rw [List.filter_cons, List.filter_cons, List.length_cons]
    cases h : p a <;> simp <;> omega
theorem left_gone_len {ts : List Tk} {ne np : Nat} {sg : List Sg} (h : SgOk ts ne np sg) (k : Ky) : (leftOf ts ne k sg).length + (goneOf ts ne k sg).length = sg.length := by
  have hp : (goneOf ts ne k sg).Perm ((keysS sg).filter fun x => decide (x ∈ goneOf ts ne k sg)) :=
    (List.perm_ext_iff_of_nodup (gone_nodup h k) ((keys_nodup h).filter _)).2 fun x => by
      rw [List.mem_filter, decide_eq_true_iff]
      exact ⟨fun hx => ⟨(gone_sub ts ne k sg).subset hx, hx⟩, fun hx => hx.2⟩
  have hl : ((keysS sg).filter fun x => decide (x ∈ goneOf ts ne k sg)).length = (sg.filter fun s => decide (s.1 ∈ goneOf ts ne k sg)).length := by
    unfold keysS
    rw [List.filter_map, List.length_map]
    rfl
  have := filter_parts (fun s : Sg => decide (s.1 ∈ goneOf ts ne k sg)) sg
  rw [hp.length_eq, hl]
  unfold leftOf
  omega
/-- What is signed while the first i of those taken back have been signed again. -/
structure ReS (ts : List Tk) (ne np : Nat) (sg : List Sg) (k : Ky) (i : Nat) (s : List Sg) : Prop where
  inv : SgInv ts ne np s
  keys : ∀ x, x ∈ keysS s ↔ x ∈ keysS sg ∧ (x ∉ goneOf ts ne k sg ∨ x ∈ (goneOf ts ne k sg).take i)
  len : s.length = (leftOf ts ne k sg).length + i
theorem keys_left (ts : List Tk) (ne : Nat) (k : Ky) (sg : List Sg) (x : Ky) : x ∈ keysS (leftOf ts ne k sg) ↔ x ∈ keysS sg ∧ x ∉ goneOf ts ne k sg := by
  rw [← lk_isSome, left_some]
theorem ReS.start {ts : List Tk} {ne np : Nat} (hw : Wk ts ne np) {sg : List Sg} (h : SgInv ts ne np sg) (k : Ky) : ReS ts ne np sg k 0 (leftOf ts ne k sg) where
  inv := h.left hw k
  keys := fun x => by rw [keys_left]; simp
  len := rfl
theorem ReS.step {ts : List Tk} {ne np : Nat} (hw : Wk ts ne np) {sg : List Sg} (h : SgInv ts ne np sg) {k : Ky} {i : Nat} {s : List Sg} (hr : ReS ts ne np sg k i s) (hi : i < (goneOf ts ne k sg).length) :
    signI ts ne np (lkS s) ((goneOf ts ne k sg)[i]) bAgain = 0 ∧ ReS ts ne np sg k (i + 1) (signS ts ne np s ((goneOf ts ne k sg)[i]) bAgain) := by
  have hgm : (goneOf ts ne k sg)[i] ∈ goneOf ts ne k sg := List.getElem_mem hi
  have hgs := (gone_sub ts ne k sg).subset hgm
  have hkv := keys_kv h.ok hgs
  have hn : lkS s ((goneOf ts ne k sg)[i]) = none := by
    rw [lk_none, hr.keys]
    rintro ⟨-, h1 | h1⟩
    · exact h1 hgm
    · obtain ⟨j, hj, e⟩ := List.mem_take_iff_getElem.1 h1
      have hjl : j < (goneOf ts ne k sg).length := by omega
      have := (List.getElem_inj (gone_nodup h.ok k)).1 e
      omega
  have hrd : readyB ts ne (lkS s) ((goneOf ts ne k sg)[i]) = true := by
    unfold readyB
    rw [List.all_eq_true]
    intro n hnn
    have h1 := h.inv.need (lk_isSome.2 hgs) hnn
    rw [lk_isSome] at h1 ⊢
    rw [hr.keys]
    refine ⟨h1, ?_⟩
    by_cases hg : n ∈ goneOf ts ne k sg
    · right
      obtain ⟨j, hj, rfl⟩ := List.getElem_of_mem hg
      have hlt := (raw_kv hw hkv hnn).2
      have hji : j < i := by
        rcases Nat.lt_trichotomy j i with e | e | e
        · exact e
        · subst e; rw [ltK_irr] at hlt; cases hlt
        · have := List.pairwise_iff_getElem.1 (gone_asc h.ok k) i j hi hj e
          rw [ltK_asym this] at hlt
          cases hlt
      exact List.mem_take_iff_getElem.2 ⟨j, by omega, rfl⟩
    · exact .inl hg
  have h0 := signI_of hkv again_name hn hrd
  refine ⟨h0, hr.inv.sign again_sz, fun x => ?_, ?_⟩
  · unfold signS
    rw [if_pos h0, keys_ins, hr.keys, List.take_succ_eq_append_getElem hi, List.mem_append, List.mem_singleton]
    constructor
    · rintro (rfl | ⟨h1, h2⟩)
      · exact ⟨hgs, .inr (.inr rfl)⟩
      · exact ⟨h1, h2.imp id .inl⟩
    · rintro ⟨h1, h2 | h2 | h2⟩
      · exact .inr ⟨h1, .inl h2⟩
      · exact .inr ⟨h1, .inr h2⟩
      · exact .inl h2
  · unfold signS
    rw [if_pos h0, ins_len, hr.len]
    omega
theorem ReS.done {ts : List Tk} {ne np : Nat} {sg : List Sg} (h : SgInv ts ne np sg) {k : Ky} {s : List Sg} (hr : ReS ts ne np sg k (goneOf ts ne k sg).length s) : keysS s = keysS sg := by
  have hm : ∀ x, x ∈ keysS s ↔ x ∈ keysS sg := fun x => by
    rw [hr.keys, List.take_length]
    exact ⟨fun h => h.1, fun h => ⟨h, by by_cases hg : x ∈ goneOf ts ne k sg <;> simp [hg]⟩⟩
  have hp := (List.perm_ext_iff_of_nodup (keys_nodup hr.inv.ok) (keys_nodup h.ok)).2 hm
  exact asc_eq ((keys_asc hr.inv.ok).imp fun {a b} e => ltK_asym e) ((keys_asc h.ok).imp fun {a b} e => ltK_asym e) (fun x hx => (kv_iff.1 (keys_kv hr.inv.ok hx)).1) hp
theorem ReS.done_at {ts : List Tk} {ne np : Nat} {sg : List Sg} (h : SgInv ts ne np sg) {k : Ky} {s : List Sg} (hr : ReS ts ne np sg k (goneOf ts ne k sg).length s) (i : Nat) (h1 : i < s.length) (h2 : i < sg.length) : (s[i]).1 = (sg[i]).1 := by
  have e := hr.done h
  unfold keysS at e
  have := congrArg (fun l => l[i]?) e
  simp only [List.getElem?_map, List.getElem?_eq_getElem h1, List.getElem?_eq_getElem h2, Option.map_some, Option.some.injEq] at this
  exact this

/-! ### memory -/
theorem WfIn.no_cell {S : Nat → Prop} {w : World} {p : Nat} {ts : List Tk} {ne np m n : Nat} {f : Ky → Option ByteArray} (h : WfIn S w p ts ne np m n f) (off : Nat) (v : Value) : w.cell? ⟨m, off, none⟩ ≠ some v := by
  obtain ⟨D, ⟨es, clock, hb, -⟩, -⟩ := h.mp
  simp [World.cell?, hb]
theorem rd_off {e : Ty} (hf : e.flat = true) (h0 : 0 < e.sz) {S : Nat → Prop} {w : World} {a : Option Addr} {len cap m : Nat} {xs : List e.den} (h : Rd (.sl e) S w [.slice a len cap] xs) (hm : ∀ off v, w.cell? ⟨m, off, none⟩ ≠ some v) :
    Rd (.sl e) (fun b => S b ∧ b ≠ m) w [.slice a len cap] xs := by
  obtain ⟨hl, h1, h2, vs, hr, hor⟩ := h.sl_flat
  refine Rd.sl_of_flat hl h1 h2 (hr.flat hf) ?_
  rcases hor with hz | ⟨b, off, rfl, hb, hc⟩
  · exact .inl hz
  · by_cases hz : len = 0
    · exact .inl hz
    · refine .inr ⟨b, off, rfl, ⟨hb, ?_⟩, hc⟩
      rintro rfl
      have hvl := hr.len
      have hpos : 0 < vs.length := by
        rw [hvl]
        exact Nat.mul_pos (by omega) h0
      exact hm _ _ (hc 0 _ (List.getElem?_eq_getElem hpos))
end Go.Proofs.Ytdcjocldggmdbaa

/- The law WorkflowReopens, walked. -/
set_option linter.unusedSimpArgs false
namespace Go.Proofs.Ytdcjocldggmdbaa
open Go.RowKit Go
theorem key_neq (w : World) (x : Ky) : Sem.run Try.prog (binOp .neq 53 x.v x.v) w = .ok (.bool false) w := by
  have h := key_eql w x x
  rw [decide_eq_true rfl] at h
  unfold Ky.v at h ⊢
  rw [run_eql_struct] at h
  rw [run_neq_struct]
  cases hr : (Op.equalIn 10000 53 (.agg #[.string x.task, .int .i64 x.ent, .int .i64 x.per]) (.agg #[.string x.task, .int .i64 x.ent, .int .i64 x.per])).run Try.prog w with
  | ok b w' =>
    rw [hr] at h
    simp only [Result.andThen] at h ⊢
    cases h
    rfl
  | _ => rw [hr] at h; simp [Result.andThen] at h
set_option maxRecDepth 20000 in
set_option maxHeartbeats 2000000 in
theorem reopensWalk53 (w : World) (c0 : List Value) (x0 : planT.den) (r0 : Rd planT (fun b => b < w.heap.size) w c0 x0) (c1 : List Value) (x1 : (Ty.sl stepT).den) (r1 : Rd (.sl stepT) (fun b => b < w.heap.size) w c1 x1) (s1 : List.length x1 * Try.prog.bytesOf 48 ≤ reachBytes) (c2 : List Value) (x2 : keyT.den) (r2 : Rd keyT (fun b => b < w.heap.size) w c2 x2) :
    Calls Try.prog 5 #[valOf planT c0, valOf (.sl stepT) c1, valOf keyT c2] w fun e w' => e = .returned (.bool true) ∧ Below w.heap.size w w' := by
  obtain ⟨n, xs, ⟨⟩⟩ := x0
  obtain ⟨k1, kr1, rfl, ⟨rfl, hn⟩, k2, kr2, rfl, hx, rfl⟩ := r0
  obtain ⟨a, len, cap, rfl, hl, hlc, hcm, -⟩ := id hx
  obtain ⟨la, ll, lc, rfl, hll, -⟩ := id r1
  obtain ⟨q1, q2, q3, ⟨⟩⟩ := x2
  obtain ⟨kc1, kr1, rfl, ⟨rfl, hk1⟩, kc2, kr2, rfl, ⟨rfl, hk2⟩, kc3, kr3, rfl, ⟨rfl, hk3⟩, rfl⟩ := r2
  change ByteArray at q1
  change Int at q2
  change Int at q3
  have HKO := Lib.hid (show (⟨q1, q2, q3⟩ : Ky).ok from ⟨hk1, hk2, hk3⟩)
  clear hk1 hk2 hk3
  change List taskT.den at xs
  change List stepT.den at x1
  change Calls _ _ #[.agg #[.int .i64 n, .slice a len cap], .slice la ll lc, .agg #[.string q1, .int .i64 q2, .int .i64 q3]] _ _
  have HLM := Lib.hid (show (ll + 2) * 56 ≤ 140737488355328 by have hll' : x1.length = ll := hll; rw [show Try.prog.bytesOf 48 = 56 by kernel_rfl] at s1; unfold reachBytes at s1; omega)
  clear s1
  have hp := alloc_new' (w := w) (o := .cells #[.int .i64 n, .slice a len cap] 24) rfl
  have hB := (Below.refl w.heap.size w).alloc (Nat.le_refl _) (.cells #[.int .i64 n, .slice a len cap] 24)
  have hk := alloc_new' (w := w.alloc (.cells #[.int .i64 n, .slice a len cap] 24)) (o := .cells #[.string q1, .int .i64 q2, .int .i64 q3] 46) rfl
  have hBk := (Below.refl (w.alloc (.cells #[.int .i64 n, .slice a len cap] 24)).heap.size (w.alloc (.cells #[.int .i64 n, .slice a len cap] 24))).alloc (Nat.le_refl _) (.cells #[.string q1, .int .i64 q2, .int .i64 q3] 46)
  replace hp := (hBk.block _ (blk_lt hp)).trans hp
  rw [World.size_alloc] at hk
  have HP := Lib.hid hp
  have HK := Lib.hid hk
  have HB := Lib.hid (below_step hB hBk)
  have HX := Lib.hid hx
  have HLS := Lib.hid r1
  have HL := Lib.hid (show xs.length = len from hl)
  have HLL := Lib.hid (show x1.length = ll from hll)
  clear hx hl hn hp hB r1 hll hk hBk
  go_enter Try.func5, Try.ntmps5
  go_wp2_with fail
  generalize World.alloc _ _ = w1 at HP HK HB ⊢
  obtain ⟨pb, hpb⟩ : ∃ q, w.heap.size = q := ⟨_, rfl⟩
  have HPB := Lib.hid hpb
  rw [hpb] at HP HK ⊢
  clear hpb
  have hX := awake53 w1
  refine Calls.mono hX ?_
  clear hX
  rintro e w2 ⟨rfl, hB2⟩
  have HP2 := Lib.hid ((hB2.block _ (blk_lt HP.out)).trans HP.out)
  have HK2 := Lib.hid ((hB2.block _ (blk_lt HK.out)).trans HK.out)
  have HB2 := Lib.hid (below_step HB.out hB2)
  clear hB2 HP HB HK
  go_wp2_with fail
  have hC0 : Cells [(⟨pb, 0, none⟩, .int .i64 n), (⟨pb, 1, none⟩, .slice a len cap), (⟨pb + 1, 0, none⟩, .string q1), (⟨pb + 1, 1, none⟩, .int .i64 q2), (⟨pb + 1, 2, none⟩, .int .i64 q3)] w2 := ⟨blk_cell HP2.out 0, blk_cell HP2.out 1, blk_cell HK2.out 0, blk_cell HK2.out 1, blk_cell HK2.out 2, trivial⟩
  refine wp_cut [24, 25, 26, 27, 28, 29, 30, 31, 32, 33] (fun vs w' => (∃ v21 v22 v23 v24 v25 v26 v27 v28 fb, vs = [v21, v22, v23, v24, v25, v26, v27, v28, .bool fb, .bool (!fb)] ∧ (fb = true → (xs.length ≤ 8 ∧ ∀ i (hi : i < xs.length), (tk xs[i]).needs.length ≤ 8) ∧ x1.length + 1 ≤ 40 ∧ n ≤ 13)) ∧ Below w2.heap.size w2 w') ?_ ?_
  · skip
    refine wp_region_T (Cells [(⟨pb, 0, none⟩, .int .i64 n), (⟨pb, 1, none⟩, .slice a len cap), (⟨pb + 1, 0, none⟩, .string q1), (⟨pb + 1, 1, none⟩, .int .i64 q2), (⟨pb + 1, 2, none⟩, .int .i64 q3)]) (fun _ => false) (by kernel_rfl) ?_
    have hSss1 := Cells.drew hC0
    have hB_0_s1 : Below w2.heap.size w2 w2.drew := below_drew _
    generalize w2.drew = s1 at hSss1 hB_0_s1 ⊢
    have hB_s1_s1 := Below.refl s1.heap.size s1
    refine wpAnyT_pure (i := 2) (v := ?_) rfl (by kernel_rfl) (by kernel_rfl) (by kernel_rfl) (fun _ _ _ h => h) (by rfl) ?_ ?_
    rotate_left
    · intro w; go_simp; try with_reducible rfl
    simp only [Act.put, List.setIfInBounds_toArray, List.set_cons_zero, List.set_cons_succ, List.getElem_toArray, List.getElem_cons_succ, List.getElem_cons_zero]
    refine wpAnyT_loadW (i := 0) (v := ?_) rfl (by kernel_rfl) (by kernel_rfl) (by kernel_rfl) (by kernel_rfl) (by kernel_rfl) (fun _ _ _ h => h) (Or.inl ⟨by rfl, ?_⟩) hSss1 ?_
    rotate_left
    · intro w hSw; obtain ⟨e0, e1, e2, e3, e4, -⟩ := hSw; go_simp; try with_reducible rfl
    simp only [Act.put, List.setIfInBounds_toArray, List.set_cons_zero, List.set_cons_succ, List.getElem_toArray, List.getElem_cons_succ, List.getElem_cons_zero]
    refine wpAnyT_loadW (i := 4) (v := ?_) rfl (by kernel_rfl) (by kernel_rfl) (by kernel_rfl) (by kernel_rfl) (by kernel_rfl) (fun _ _ _ h => h) (Or.inl ⟨by rfl, ?_⟩) hSss1 ?_
    rotate_left
    · intro w hSw; obtain ⟨e0, e1, e2, e3, e4, -⟩ := hSw; go_simp; try with_reducible rfl
    simp only [Act.put, List.setIfInBounds_toArray, List.set_cons_zero, List.set_cons_succ, List.getElem_toArray, List.getElem_cons_succ, List.getElem_cons_zero]
    refine wpAnyT_pure (i := 5) (v := ?_) rfl (by kernel_rfl) (by kernel_rfl) (by kernel_rfl) (fun _ _ _ h => h) (by rfl) ?_ ?_
    rotate_left
    · intro w; go_simp; try with_reducible rfl
    simp only [Act.put, List.setIfInBounds_toArray, List.set_cons_zero, List.set_cons_succ, List.getElem_toArray, List.getElem_cons_succ, List.getElem_cons_zero]
    refine wpAnyT_two (i := 1) (k := 6) (by kernel_rfl) rfl rfl (by rfl) (by rfl) ?_ ?_
    · skip
      obtain ⟨b1, hb1⟩ : ∃ b, s1.heap.size = b := ⟨_, rfl⟩
      have hge1 : s1.heap.size ≤ b1 := hb1 ▸ (hB_s1_s1).size
      refine wp_newrow (v := .slice (some ⟨b1, 0, none⟩) 0 0) (cs := #[]) (te := 48) (by rw [← hb1]; go_simp) ?_
      intro w102 hX hN1
      rw [hb1] at hN1
      have hB_s1_w102 := below_step hB_s1_s1 hX
      have hB_w102_w102 := Below.refl w102.heap.size w102
      have hSsw102 := Cells.below hB_s1_w102 hSss1
      clear hX
      refine ⟨fun _ _ => hSsw102, ?_⟩
      try simp only [Act.put, List.setIfInBounds_toArray, List.set_cons_zero, List.set_cons_succ, List.getElem_toArray, List.getElem_cons_succ, List.getElem_cons_zero]
      refine wpAnyT_two (i := 3) (k := 6) (by kernel_rfl) rfl rfl (by rfl) (by rfl) ?_ ?_
      · skip
        have hq1 := ((hB_w102_w102).block _ (blk_lt hN1)).trans hN1
        have hb0 : Below w.heap.size w w102 := below_step HB2.out (hB_0_s1.trans ((hB_s1_w102).mono hB_0_s1.size))
        refine wp_appLit (.tmp 25) (.tmp 26) 44 rfl (e := stepT) (te := 48) info_step Try.underlying44 rfl (by decide) (S := fun b => b < w.heap.size) (base := s1.heap.size) (b := b1) (by kernel_rfl) hq1 hge1 (sv := .slice la ll lc) (by kernel_rfl) (ys := x1) (Rd.below hb0 (fun _ h => h) HLS.out) (fun x hx => ⟨by have := hb0.size; have h1 := HB2.out.size; have h2 := (hB_0_s1).size; omega, Nat.lt_of_lt_of_le hx hb0.size⟩) (by have := HLL.out; have := HLM.out; omega) (by have := HLL.out; have := HLM.out; omega) ?_
        intro ca3 cl3 cc3 w103 O3 hX
        have HO3 := Lib.hid (Owns.flat (e := stepT) rfl O3)
        clear O3 hb0
        have hB_s1_w103 := below_step hB_s1_w102 hX
        have hB_w102_w103 := below_step hB_w102_w102 hX
        have hB_w103_w103 := Below.refl w103.heap.size w103
        have hSsw103 := Cells.below hB_s1_w103 hSss1
        clear hX
        refine ⟨fun _ _ => hSsw103, ?_⟩
        try simp only [Act.put, List.setIfInBounds_toArray, List.set_cons_zero, List.set_cons_succ, List.getElem_toArray, List.getElem_cons_succ, List.getElem_cons_zero]
        refine wpAnyT_one (i := 6) (by kernel_rfl) rfl (by rfl) ?_
        obtain ⟨b6, hb6⟩ : ∃ b, w103.heap.size = b := ⟨_, rfl⟩
        refine wp_newrow (v := .slice (some ⟨b6, 0, none⟩) 1 1) (cs := #[.string q1, .int .i64 q2, .int .i64 q3, .string ⟨#[]⟩, .bool false]) (te := 48) (by rw [← hb6]; go_simp) ?_
        intro w104 hX hN6
        rw [hb6] at hN6
        have hB_s1_w104 := below_step hB_s1_w103 hX
        have hB_w102_w104 := below_step hB_w102_w103 hX
        have hB_w103_w104 := below_step hB_w103_w103 hX
        have hB_w104_w104 := Below.refl w104.heap.size w104
        have hSsw104 := Cells.below hB_s1_w104 hSss1
        clear hX
        refine ⟨fun _ _ => hSsw104, ?_⟩
        try simp only [Act.put, List.setIfInBounds_toArray, List.set_cons_zero, List.set_cons_succ, List.getElem_toArray, List.getElem_cons_succ, List.getElem_cons_zero]
        refine wpAnyT_one (i := 7) (by kernel_rfl) rfl (by rfl) ?_
        have hq6 := ((hB_w104_w104).block _ (blk_lt hN6)).trans hN6
        refine wp_app (.tmp 27) (.tmp 30) 44 rfl (e := stepT) (te := 48) info_step Try.underlying44 rfl (by decide) (base := s1.heap.size) (S := fun _ => False) (v := .slice ca3 cl3 cc3) (xs := x1) (by kernel_rfl) (HO3.out.below hB_w103_w104) (hB_s1_w104).size (sv := .slice (some ⟨b6, 0, none⟩) 1 1) (by kernel_rfl) (ys := [((q1, q2, q3, ()), ⟨#[]⟩, false, ())]) (Src.of_cells (news := [.string q1, .int .i64 q2, .int .i64 q3, .string ⟨#[]⟩, .bool false]) (fun j u hu => by rw [Nat.zero_add, blk_cell hq6]; simpa using hu)) (step_rd HKO.out) (by have := HLL.out; have := HLM.out; simp only [List.length_cons, List.length_nil]; omega) (by have := HLL.out; have := HLM.out; simp only [List.length_cons, List.length_nil]; omega) ?_
        intro ca7 cl7 cc7 w105 O7 g7 ob7
        have hX : Below s1.heap.size s1 w105 := (hB_s1_w104).grown g7 (hB_s1_w104).size (fun c hc => (HO3.out.own c hc).1)
        have HO7 := Lib.hid O7
        clear O7 g7 ob7
        have hB_s1_w105 := hX
        have hB_w105_w105 := Below.refl w105.heap.size w105
        have hSsw105 := Cells.below hB_s1_w105 hSss1
        clear hX
        refine ⟨fun _ _ => hSsw105, ?_⟩
        try simp only [Act.put, List.setIfInBounds_toArray, List.set_cons_zero, List.set_cons_succ, List.getElem_toArray, List.getElem_cons_succ, List.getElem_cons_zero]
        refine wpAnyT_one (i := 8) (by kernel_rfl) rfl (by rfl) ?_
        have hb0 : Below w.heap.size w w105 := below_step HB2.out (hB_0_s1.trans ((hB_s1_w105).mono hB_0_s1.size))
        refine wp_enter (f := 9) (args := #[.agg #[.int .i64 n, .slice a len cap], .slice ca7 cl7 cc7]) (by go_simp) (fewS53 w105 n a len cap xs (HX.out.alloc hb0) (fun b hb => hb) ca7 cl7 cc7 _ (rdOwn HO7.out) (fun b hb => hb)) ?_
        rintro e w106 ⟨fb, rfl, hX, hfb⟩
        rw [List.length_append] at hfb
        clear hb0
        have hB_s1_w106 := below_step hB_s1_w105 hX
        have hB_w105_w106 := below_step hB_w105_w105 hX
        have hB_w106_w106 := Below.refl w106.heap.size w106
        have hSsw106 := Cells.below hB_s1_w106 hSss1
        clear hX
        refine ⟨_, rfl, fun _ _ => hSsw106, ?_⟩
        try simp only [Act.put, List.setIfInBounds_toArray, List.set_cons_zero, List.set_cons_succ, List.getElem_toArray, List.getElem_cons_succ, List.getElem_cons_zero]
        refine wpAnyT_pure (i := 9) (v := ?_) rfl (by kernel_rfl) (by kernel_rfl) (by kernel_rfl) (fun _ _ _ h => h) (by rfl) ?_ ?_
        rotate_left
        · intro w; go_simp; try with_reducible rfl
        simp only [Act.put, List.setIfInBounds_toArray, List.set_cons_zero, List.set_cons_succ, List.getElem_toArray, List.getElem_cons_succ, List.getElem_cons_zero]
        refine wpAnyT_done (by kernel_rfl) ?_ _
        refine cut_leaf ?_ ?_
        focus kernel_rfl
        exact ⟨⟨_, _, _, _, _, _, _, _, fb, rfl, hfb⟩, hB_0_s1.trans ((hB_s1_w106).mono hB_0_s1.size)⟩
      · skip
        obtain ⟨b6, hb6⟩ : ∃ b, w102.heap.size = b := ⟨_, rfl⟩
        refine wp_newrow (v := .slice (some ⟨b6, 0, none⟩) 1 1) (cs := #[.string q1, .int .i64 q2, .int .i64 q3, .string ⟨#[]⟩, .bool false]) (te := 48) (by rw [← hb6]; go_simp) ?_
        intro w107 hX hN6
        rw [hb6] at hN6
        have hB_s1_w107 := below_step hB_s1_w102 hX
        have hB_w102_w107 := below_step hB_w102_w102 hX
        have hB_w107_w107 := Below.refl w107.heap.size w107
        have hSsw107 := Cells.below hB_s1_w107 hSss1
        clear hX
        refine ⟨fun _ _ => hSsw107, ?_⟩
        try simp only [Act.put, List.setIfInBounds_toArray, List.set_cons_zero, List.set_cons_succ, List.getElem_toArray, List.getElem_cons_succ, List.getElem_cons_zero]
        refine wpAnyT_one (i := 3) (by kernel_rfl) rfl (by rfl) ?_
        have hq1 := ((hB_w102_w107).block _ (blk_lt hN1)).trans hN1
        have hb0 : Below w.heap.size w w107 := below_step HB2.out (hB_0_s1.trans ((hB_s1_w107).mono hB_0_s1.size))
        refine wp_appLit (.tmp 25) (.tmp 26) 44 rfl (e := stepT) (te := 48) info_step Try.underlying44 rfl (by decide) (S := fun b => b < w.heap.size) (base := s1.heap.size) (b := b1) (by kernel_rfl) hq1 hge1 (sv := .slice la ll lc) (by kernel_rfl) (ys := x1) (Rd.below hb0 (fun _ h => h) HLS.out) (fun x hx => ⟨by have := hb0.size; have h1 := HB2.out.size; have h2 := (hB_0_s1).size; omega, Nat.lt_of_lt_of_le hx hb0.size⟩) (by have := HLL.out; have := HLM.out; omega) (by have := HLL.out; have := HLM.out; omega) ?_
        intro ca3 cl3 cc3 w108 O3 hX
        have HO3 := Lib.hid (Owns.flat (e := stepT) rfl O3)
        clear O3 hb0
        have hB_s1_w108 := below_step hB_s1_w107 hX
        have hB_w102_w108 := below_step hB_w102_w107 hX
        have hB_w107_w108 := below_step hB_w107_w107 hX
        have hB_w108_w108 := Below.refl w108.heap.size w108
        have hSsw108 := Cells.below hB_s1_w108 hSss1
        clear hX
        refine ⟨fun _ _ => hSsw108, ?_⟩
        try simp only [Act.put, List.setIfInBounds_toArray, List.set_cons_zero, List.set_cons_succ, List.getElem_toArray, List.getElem_cons_succ, List.getElem_cons_zero]
        refine wpAnyT_one (i := 7) (by kernel_rfl) rfl (by rfl) ?_
        have hq6 := ((hB_w107_w108).block _ (blk_lt hN6)).trans hN6
        refine wp_app (.tmp 27) (.tmp 30) 44 rfl (e := stepT) (te := 48) info_step Try.underlying44 rfl (by decide) (base := s1.heap.size) (S := fun _ => False) (v := .slice ca3 cl3 cc3) (xs := x1) (by kernel_rfl) (HO3.out.below hB_w108_w108) (hB_s1_w108).size (sv := .slice (some ⟨b6, 0, none⟩) 1 1) (by kernel_rfl) (ys := [((q1, q2, q3, ()), ⟨#[]⟩, false, ())]) (Src.of_cells (news := [.string q1, .int .i64 q2, .int .i64 q3, .string ⟨#[]⟩, .bool false]) (fun j u hu => by rw [Nat.zero_add, blk_cell hq6]; simpa using hu)) (step_rd HKO.out) (by have := HLL.out; have := HLM.out; simp only [List.length_cons, List.length_nil]; omega) (by have := HLL.out; have := HLM.out; simp only [List.length_cons, List.length_nil]; omega) ?_
        intro ca7 cl7 cc7 w109 O7 g7 ob7
        have hX : Below s1.heap.size s1 w109 := (hB_s1_w108).grown g7 (hB_s1_w108).size (fun c hc => (HO3.out.own c hc).1)
        have HO7 := Lib.hid O7
        clear O7 g7 ob7
        have hB_s1_w109 := hX
        have hB_w109_w109 := Below.refl w109.heap.size w109
        have hSsw109 := Cells.below hB_s1_w109 hSss1
        clear hX
        refine ⟨fun _ _ => hSsw109, ?_⟩
        try simp only [Act.put, List.setIfInBounds_toArray, List.set_cons_zero, List.set_cons_succ, List.getElem_toArray, List.getElem_cons_succ, List.getElem_cons_zero]
        refine wpAnyT_one (i := 8) (by kernel_rfl) rfl (by rfl) ?_
        have hb0 : Below w.heap.size w w109 := below_step HB2.out (hB_0_s1.trans ((hB_s1_w109).mono hB_0_s1.size))
        refine wp_enter (f := 9) (args := #[.agg #[.int .i64 n, .slice a len cap], .slice ca7 cl7 cc7]) (by go_simp) (fewS53 w109 n a len cap xs (HX.out.alloc hb0) (fun b hb => hb) ca7 cl7 cc7 _ (rdOwn HO7.out) (fun b hb => hb)) ?_
        rintro e w110 ⟨fb, rfl, hX, hfb⟩
        rw [List.length_append] at hfb
        clear hb0
        have hB_s1_w110 := below_step hB_s1_w109 hX
        have hB_w109_w110 := below_step hB_w109_w109 hX
        have hB_w110_w110 := Below.refl w110.heap.size w110
        have hSsw110 := Cells.below hB_s1_w110 hSss1
        clear hX
        refine ⟨_, rfl, fun _ _ => hSsw110, ?_⟩
        try simp only [Act.put, List.setIfInBounds_toArray, List.set_cons_zero, List.set_cons_succ, List.getElem_toArray, List.getElem_cons_succ, List.getElem_cons_zero]
        refine wpAnyT_pure (i := 9) (v := ?_) rfl (by kernel_rfl) (by kernel_rfl) (by kernel_rfl) (fun _ _ _ h => h) (by rfl) ?_ ?_
        rotate_left
        · intro w; go_simp; try with_reducible rfl
        simp only [Act.put, List.setIfInBounds_toArray, List.set_cons_zero, List.set_cons_succ, List.getElem_toArray, List.getElem_cons_succ, List.getElem_cons_zero]
        refine wpAnyT_done (by kernel_rfl) ?_ _
        refine cut_leaf ?_ ?_
        focus kernel_rfl
        exact ⟨⟨_, _, _, _, _, _, _, _, fb, rfl, hfb⟩, hB_0_s1.trans ((hB_s1_w110).mono hB_0_s1.size)⟩
    · skip
      obtain ⟨b6, hb6⟩ : ∃ b, s1.heap.size = b := ⟨_, rfl⟩
      refine wp_newrow (v := .slice (some ⟨b6, 0, none⟩) 1 1) (cs := #[.string q1, .int .i64 q2, .int .i64 q3, .string ⟨#[]⟩, .bool false]) (te := 48) (by rw [← hb6]; go_simp) ?_
      intro w111 hX hN6
      rw [hb6] at hN6
      have hB_s1_w111 := below_step hB_s1_s1 hX
      have hB_w111_w111 := Below.refl w111.heap.size w111
      have hSsw111 := Cells.below hB_s1_w111 hSss1
      clear hX
      refine ⟨fun _ _ => hSsw111, ?_⟩
      try simp only [Act.put, List.setIfInBounds_toArray, List.set_cons_zero, List.set_cons_succ, List.getElem_toArray, List.getElem_cons_succ, List.getElem_cons_zero]
      refine wpAnyT_one (i := 1) (by kernel_rfl) rfl (by rfl) ?_
      obtain ⟨b1, hb1⟩ : ∃ b, w111.heap.size = b := ⟨_, rfl⟩
      have hge1 : s1.heap.size ≤ b1 := hb1 ▸ (hB_s1_w111).size
      refine wp_newrow (v := .slice (some ⟨b1, 0, none⟩) 0 0) (cs := #[]) (te := 48) (by rw [← hb1]; go_simp) ?_
      intro w112 hX hN1
      rw [hb1] at hN1
      have hB_s1_w112 := below_step hB_s1_w111 hX
      have hB_w111_w112 := below_step hB_w111_w111 hX
      have hB_w112_w112 := Below.refl w112.heap.size w112
      have hSsw112 := Cells.below hB_s1_w112 hSss1
      clear hX
      refine ⟨fun _ _ => hSsw112, ?_⟩
      try simp only [Act.put, List.setIfInBounds_toArray, List.set_cons_zero, List.set_cons_succ, List.getElem_toArray, List.getElem_cons_succ, List.getElem_cons_zero]
      refine wpAnyT_one (i := 3) (by kernel_rfl) rfl (by rfl) ?_
      have hq1 := ((hB_w112_w112).block _ (blk_lt hN1)).trans hN1
      have hb0 : Below w.heap.size w w112 := below_step HB2.out (hB_0_s1.trans ((hB_s1_w112).mono hB_0_s1.size))
      refine wp_appLit (.tmp 25) (.tmp 26) 44 rfl (e := stepT) (te := 48) info_step Try.underlying44 rfl (by decide) (S := fun b => b < w.heap.size) (base := s1.heap.size) (b := b1) (by kernel_rfl) hq1 hge1 (sv := .slice la ll lc) (by kernel_rfl) (ys := x1) (Rd.below hb0 (fun _ h => h) HLS.out) (fun x hx => ⟨by have := hb0.size; have h1 := HB2.out.size; have h2 := (hB_0_s1).size; omega, Nat.lt_of_lt_of_le hx hb0.size⟩) (by have := HLL.out; have := HLM.out; omega) (by have := HLL.out; have := HLM.out; omega) ?_
      intro ca3 cl3 cc3 w113 O3 hX
      have HO3 := Lib.hid (Owns.flat (e := stepT) rfl O3)
      clear O3 hb0
      have hB_s1_w113 := below_step hB_s1_w112 hX
      have hB_w111_w113 := below_step hB_w111_w112 hX
      have hB_w112_w113 := below_step hB_w112_w112 hX
      have hB_w113_w113 := Below.refl w113.heap.size w113
      have hSsw113 := Cells.below hB_s1_w113 hSss1
      clear hX
      refine ⟨fun _ _ => hSsw113, ?_⟩
      try simp only [Act.put, List.setIfInBounds_toArray, List.set_cons_zero, List.set_cons_succ, List.getElem_toArray, List.getElem_cons_succ, List.getElem_cons_zero]
      refine wpAnyT_one (i := 7) (by kernel_rfl) rfl (by rfl) ?_
      have hq6 := ((hB_w111_w113).block _ (blk_lt hN6)).trans hN6
      refine wp_app (.tmp 27) (.tmp 30) 44 rfl (e := stepT) (te := 48) info_step Try.underlying44 rfl (by decide) (base := s1.heap.size) (S := fun _ => False) (v := .slice ca3 cl3 cc3) (xs := x1) (by kernel_rfl) (HO3.out.below hB_w113_w113) (hB_s1_w113).size (sv := .slice (some ⟨b6, 0, none⟩) 1 1) (by kernel_rfl) (ys := [((q1, q2, q3, ()), ⟨#[]⟩, false, ())]) (Src.of_cells (news := [.string q1, .int .i64 q2, .int .i64 q3, .string ⟨#[]⟩, .bool false]) (fun j u hu => by rw [Nat.zero_add, blk_cell hq6]; simpa using hu)) (step_rd HKO.out) (by have := HLL.out; have := HLM.out; simp only [List.length_cons, List.length_nil]; omega) (by have := HLL.out; have := HLM.out; simp only [List.length_cons, List.length_nil]; omega) ?_
      intro ca7 cl7 cc7 w114 O7 g7 ob7
      have hX : Below s1.heap.size s1 w114 := (hB_s1_w113).grown g7 (hB_s1_w113).size (fun c hc => (HO3.out.own c hc).1)
      have HO7 := Lib.hid O7
      clear O7 g7 ob7
      have hB_s1_w114 := hX
      have hB_w114_w114 := Below.refl w114.heap.size w114
      have hSsw114 := Cells.below hB_s1_w114 hSss1
      clear hX
      refine ⟨fun _ _ => hSsw114, ?_⟩
      try simp only [Act.put, List.setIfInBounds_toArray, List.set_cons_zero, List.set_cons_succ, List.getElem_toArray, List.getElem_cons_succ, List.getElem_cons_zero]
      refine wpAnyT_one (i := 8) (by kernel_rfl) rfl (by rfl) ?_
      have hb0 : Below w.heap.size w w114 := below_step HB2.out (hB_0_s1.trans ((hB_s1_w114).mono hB_0_s1.size))
      refine wp_enter (f := 9) (args := #[.agg #[.int .i64 n, .slice a len cap], .slice ca7 cl7 cc7]) (by go_simp) (fewS53 w114 n a len cap xs (HX.out.alloc hb0) (fun b hb => hb) ca7 cl7 cc7 _ (rdOwn HO7.out) (fun b hb => hb)) ?_
      rintro e w115 ⟨fb, rfl, hX, hfb⟩
      rw [List.length_append] at hfb
      clear hb0
      have hB_s1_w115 := below_step hB_s1_w114 hX
      have hB_w114_w115 := below_step hB_w114_w114 hX
      have hB_w115_w115 := Below.refl w115.heap.size w115
      have hSsw115 := Cells.below hB_s1_w115 hSss1
      clear hX
      refine ⟨_, rfl, fun _ _ => hSsw115, ?_⟩
      try simp only [Act.put, List.setIfInBounds_toArray, List.set_cons_zero, List.set_cons_succ, List.getElem_toArray, List.getElem_cons_succ, List.getElem_cons_zero]
      refine wpAnyT_pure (i := 9) (v := ?_) rfl (by kernel_rfl) (by kernel_rfl) (by kernel_rfl) (fun _ _ _ h => h) (by rfl) ?_ ?_
      rotate_left
      · intro w; go_simp; try with_reducible rfl
      simp only [Act.put, List.setIfInBounds_toArray, List.set_cons_zero, List.set_cons_succ, List.getElem_toArray, List.getElem_cons_succ, List.getElem_cons_zero]
      refine wpAnyT_done (by kernel_rfl) ?_ _
      refine cut_leaf ?_ ?_
      focus kernel_rfl
      exact ⟨⟨_, _, _, _, _, _, _, _, fb, rfl, hfb⟩, hB_0_s1.trans ((hB_s1_w115).mono hB_0_s1.size)⟩
  rintro vs w3 ⟨⟨v21, v22, v23, v24, v25, v26, v27, v28, fb, rfl, hfb⟩, hB23⟩
  have HP3 := Lib.hid ((hB23.block _ (blk_lt HP2.out)).trans HP2.out)
  have HK3 := Lib.hid ((hB23.block _ (blk_lt HK2.out)).trans HK2.out)
  have HB3 := Lib.hid (below_step HB2.out hB23)
  have HFB := Lib.hid hfb
  clear hB23 hfb HP2 HK2 HB2 hC0
  simp only [puts, Act.put, List.setIfInBounds_toArray, List.set_cons_zero, List.set_cons_succ]
  have y0 := blk_cell HP3.out 0
  have y1 := blk_cell HP3.out 1
  simp at y0 y1
  cases fb
  · go_wp2_with fail
    go_ret
    exact ⟨rfl, HB3.out⟩
  have HFW := Lib.hid (HFB.out rfl)
  clear HFB
  have hlen8 : len ≤ 8 := by rw [← HL.out]; exact HFW.out.1.1
  have hll40 : ll ≤ 40 := by have := HFW.out.2.1; rw [← HLL.out]; omega
  have hn13 : n ≤ 13 := HFW.out.2.2
  go_wp2_with fail
  have hX := start53 w3 n a len cap xs (HX.out.alloc HB3.out) (fun b hb => hb) (by omega) (fun i hi => Nat.le_trans (HFW.out.1.2 i hi) (by omega))
  refine Calls.mono hX ?_
  clear hX
  rintro e w4 ⟨q, z1, z2, sa, sl, sc, rfl, hB4, hst⟩
  have HB4 := Lib.hid (below_step HB3.out hB4)
  have hBa := (Below.refl w4.heap.size w4).alloc (Nat.le_refl _) (.cells #[.int .i64 z1, .int .i64 z2, .slice sa sl sc, .slice none 0 0] 30)
  have HB5 := Lib.hid (below_step HB4.out hBa)
  have HB45 := Lib.hid hBa
  have HST := Lib.hid hst
  have HS3 := Lib.hid (show w.heap.size ≤ w3.heap.size from HB3.out.size)
  have HK5 := Lib.hid (((hB4.trans (hBa.mono hB4.size)).block _ (blk_lt HK3.out)).trans HK3.out)
  have HKL3 := Lib.hid (blk_lt HK3.out)
  clear hst hB4 hBa y0 y1 HP3 HB3 HK3
  rcases HST.out with ⟨rfl, -⟩ | ⟨hok, -, S, p, m, rfl, hm3, hwf⟩
  · go_wp2_with fail
    go_ret
    exact ⟨rfl, HB5.out⟩
  have HWK := Lib.hid (wk_of hok HFW.out.1.2)
  have HWF := Lib.hid hwf
  have HM3 := Lib.hid hm3
  have HOK := Lib.hid hok
  have HT8 := Lib.hid (show (xs.map tk).length ≤ 8 from by rw [List.length_map]; exact HFW.out.1.1)
  clear hok hwf hm3 HST
  go_wp2_with fail
  generalize w4.alloc (.cells #[.int .i64 z1, .int .i64 z2, .slice sa sl sc, .slice none 0 0] 30) = w5 at HB5 HB45 HK5 ⊢
  have HW5 := Lib.hid (HWF.out.below HB45.out)
  have hX := play53 w5 p (xs.map tk) (gN n) 12 m HW5.out HWK.out la ll lc x1 (Rd.below HB5.out (fun _ h => h) HLS.out) (fun b hb => ⟨Nat.lt_of_lt_of_le hb HB5.out.size, by have := HS3.out; have := HM3.out; omega⟩) (by omega)
  refine Calls.mono hX ?_
  clear hX
  rintro e w6 ⟨rfl, hg6, n6, hn6, hwf6⟩
  have HMW := Lib.hid (show w.heap.size ≤ m from Nat.le_trans HS3.out HM3.out)
  have HMK := Lib.hid (show pb + 1 ≠ m from by have := HKL3.out; have := HM3.out; omega)
  have HK6 := Lib.hid ((hg6.block _ (blk_lt HK5.out) HMK.out).trans HK5.out)
  have HB6 := Lib.hid (show Below w.heap.size w w6 from HB5.out.trans (hg6.below (fun b e => by rw [e]; exact HMW.out) HB5.out.size))
  have HWF6 := Lib.hid hwf6
  have HN6 := Lib.hid hn6
  have HSI := Lib.hid (show SgInv (xs.map tk) (gN n) 12 (playL (xs.map tk) (gN n) 12 (x1.map stp) []) from playL_inv HWK.out (fun s hs => (steps_ok HLS.out s hs).2) (SgInv.nil _ _ _))
  have HSL := Lib.hid (show (playL (xs.map tk) (gN n) 12 (x1.map stp) []).length ≤ 40 from by
    have h := playL_len (xs.map tk) (gN n) 12 (x1.map stp) []
    rw [List.length_map, List.length_nil, HLL.out] at h
    omega)
  generalize playL (xs.map tk) (gN n) 12 (x1.map stp) [] = sg at HWF6 HSI HSL
  generalize xs.map tk = ts at HWK HWF6 HSI HT8
  have hgn : gN n ≤ 12 := HOK.out.2.1
  generalize gN n = ne at HWK HWF6 HSI HOK hgn
  clear hg6 hwf6 hn6 HWF HM3 HW5 HB45 HB5 HB4 HOK HS3 HK5 HKL3
  go_wp2_with fail
  have hX := sigsK w6 p ts ne 12 m n6 sg HWF6.out HWK.out HSI.out.ok (by have := HSL.out; omega)
  refine Calls.mono hX ?_
  clear hX
  rintro e w7 ⟨ba, bl, bc, rfl, hr7, hb7⟩
  have HB7 := Lib.hid (show Below w.heap.size w w7 from HB6.out.trans (hb7.mono HB6.out.size))
  have HWF7 := Lib.hid (HWF6.out.below hb7)
  have HK7 := Lib.hid ((hb7.block _ (blk_lt HK6.out)).trans HK6.out)
  have HR7 := Lib.hid (rd_off rfl (by decide) hr7 HWF7.out.no_cell)
  have HGL := Lib.hid (show sg.length = bl from by simpa using hr7.sl_flat.1)
  have hgm : bl ≤ 40 := by rw [← HGL.out]; exact HSL.out
  have y0 := blk_cell HK7.out 0
  have y1 := blk_cell HK7.out 1
  have y2 := blk_cell HK7.out 2
  simp at y0 y1 y2
  have HC := Lib.hid (reopM w7 p ts ne 12 m n6 sg HWF7.out HWK.out HSI.out.ok (by have := HSL.out; omega) (by have := HN6.out; omega) ⟨q1, q2, q3⟩ HKO.out)
  unfold Ky.v at HC
  simp only at HC
  clear hb7 hr7 HB6 HWF6 HK6
  go_wp2_with fail
  have hX := HC.out
  refine Calls.mono hX ?_
  clear hX
  rintro e w8 ⟨oa, ol, oc, rfl, hr8, hg8, n8, hn8, hwf8⟩
  have HB8 := Lib.hid (show Below w.heap.size w w8 from HB7.out.trans (hg8.below (fun b e => by rw [e]; exact HMW.out) HB7.out.size))
  have HBF8 := Lib.hid (Rd.gr HR7.out hg8 (fun b hb => hb) (fun _ h => h))
  have HN8 := Lib.hid (show n8 ≤ 40 from by have := HN6.out; omega)
  have HSZ8 := Lib.hid hg8.size
  clear hg8 hn8 y0 y1 y2 HC HB7 HWF7 HK7 HR7
  by_cases hri : reopI ts ne 12 sg ⟨q1, q2, q3⟩ = 0
  · rw [if_pos hri] at hr8 hwf8
    rw [hri]
    have HWF8 := Lib.hid hwf8
    have HR8 := Lib.hid (rd_off rfl (by decide) hr8 hwf8.no_cell)
    have HGO := Lib.hid (show (goneOf ts ne ⟨q1, q2, q3⟩ sg).length = ol from by simpa using hr8.sl_flat.1)
    have HLG := Lib.hid (left_gone_len HSI.out.ok ⟨q1, q2, q3⟩)
    have HLI := Lib.hid (HSI.out.left HWK.out ⟨q1, q2, q3⟩)
    have HRS := Lib.hid (ReS.start HWK.out HSI.out ⟨q1, q2, q3⟩)
    have HSG := Lib.hid (sigsK w8 p ts ne 12 m n8 (leftOf ts ne ⟨q1, q2, q3⟩ sg) HWF8.out HWK.out HLI.out.ok (by have := HLG.out; have := HSL.out; omega))
    clear hri hr8 hwf8
    go_wp2_with fail
    have hX := HSG.out
    refine Calls.mono hX ?_
    clear hX
    rintro e w9 ⟨fa, fl, fc, rfl, hr9, hb9⟩
    have HB9 := Lib.hid (show Below w.heap.size w w9 from HB8.out.trans (hb9.mono HB8.out.size))
    have HWF9 := Lib.hid (HWF8.out.below hb9)
    have HBF9 := Lib.hid (HBF8.out.below hb9 (fun b hb => Nat.lt_of_lt_of_le hb.1 HSZ8.out))
    have HGN9 := Lib.hid (HR8.out.below hb9 (fun b hb => hb.1))
    have HR9 := Lib.hid hr9
    have HSZ9 := Lib.hid hb9.size
    have HFL := Lib.hid (show (leftOf ts ne ⟨q1, q2, q3⟩ sg).length = fl from by simpa using hr9.sl_flat.1)
    generalize leftOf ts ne ⟨q1, q2, q3⟩ sg = lf at HR9 HLI HRS HLG HWF9 HFL HWF8 HSG
    have hlen : (fl : Int) + (ol : Int) = (bl : Int) := by have h1 := HLG.out; have h2 := HFL.out; have h3 := HGO.out; have h4 := HGL.out; omega
    have hfl : fl ≤ 40 := by omega
    have hol : ol ≤ 40 := by omega
    have HLEN := Lib.hid hlen
    clear hb9 hr9 HB8 HWF8 HBF8 HR8 HSG
    go_wp2_with fail
    clear hlen
    go_loopw [14] (fun iv wr => ∃ i : Nat, i ≤ fl ∧ iv = .int .i64 i ∧ Below w9.heap.size w9 wr) (fun iv _ => fl - (intOf iv).toNat)
    case atStart => exact ⟨0, Nat.zero_le _, rfl, Below.refl _ _⟩
    obtain ⟨i, hi, rfl, hb⟩ := hrel
    have HBr := Lib.hid hb
    by_cases hlt : i < fl
    · have hltI : (i : Int) < (fl : Int) := by omega
      have HLT := Lib.hid hlt
      have hix : i < lf.length := by rw [HFL.out]; exact hlt
      obtain ⟨b, o, rfl, -, m0, m1, m2, -, hok⟩ := sg_at (HR9.out.below hb (fun _ h => h)) i hix
      have HMEM := Lib.hid (show (lf[i]'hix).1 ∈ keysS lf from List.mem_map.2 ⟨_, List.getElem_mem hix, rfl⟩)
      generalize (lf[i]'hix).1 = kk at m0 m1 m2 hok HMEM
      have HNE := Lib.hid (needsM wr p ts ne 12 m (HWF9.out.below hb).wf HWK.out kk hok)
      have HKV := Lib.hid (keys_kv HLI.out.ok HMEM.out)
      obtain ⟨t1, t2, t3⟩ := kk
      unfold Ky.v at HNE
      simp only at m0 m1 m2 HNE
      clear hlt hix hb hok hi
      go_wp2_with fail
      have hX := HNE.out
      refine Calls.mono hX ?_
      clear hX
      rintro e w10 ⟨na, nl, nc, nlst, rfl, hcase, hr10, hb10⟩
      have HB10 := Lib.hid (HBr.out.trans (hb10.mono HBr.out.size))
      have HR10 := Lib.hid hr10
      have hall : ∀ x ∈ nlst, (lkS lf x).isSome = true := by
        rcases hcase with ⟨-, hp, -⟩ | ⟨h, -⟩
        · exact fun x hx => need_signed HLI.out HMEM.out hp hx
        · exact absurd HKV.out h
      have HALL := Lib.hid hall
      have HNL := Lib.hid (show nlst.length = nl from by simpa using hr10.sl_flat.1)
      have HNM := Lib.hid (show nl ≤ 1000 from by
        rcases hcase with ⟨h, hp, -⟩ | ⟨h, -⟩
        · rw [← HNL.out, hp.length_eq]; exact raw_len HWK.out h
        · exact absurd HKV.out h)
      clear hcase hall hr10 hb10 m0 m1 m2 HNE
      go_wp2_with fail
      go_loopw [16] (fun jv wr => ∃ j : Nat, j ≤ nl ∧ jv = .int .i64 j ∧ Below w10.heap.size w10 wr) (fun jv _ => nl - (intOf jv).toNat)
      case atStart => exact ⟨0, Nat.zero_le _, rfl, Below.refl _ _⟩
      obtain ⟨j, hj, rfl, hb⟩ := hrel
      have HBq := Lib.hid hb
      have hnm := HNM.out
      by_cases hlt : j < nl
      · have hltJ : (j : Int) < (nl : Int) := by omega
        have HLTJ := Lib.hid hlt
        have hjx : j < nlst.length := by rw [HNL.out]; exact hlt
        obtain ⟨b2, o2, rfl, -, m0, m1, m2, hok⟩ := key_at (HR10.out.below hb (fun _ h => h)) j hjx
        have hs := HALL.out (nlst[j]'hjx) (List.getElem_mem hjx)
        generalize (nlst[j]'hjx) = nk at m0 m1 m2 hok hs
        have HSD := Lib.hid (signed53 wr p ts ne 12 m n8 (lkS lf) ((HWF9.out.below HB10.out).below hb) nk hok)
        rw [hs] at HSD
        generalize (lkS lf nk).getD ⟨#[]⟩ = sv at HSD
        obtain ⟨u1, u2, u3⟩ := nk
        unfold Ky.v at HSD
        simp only at m0 m1 m2 HSD
        clear hlt hjx hb hok hj hs
        go_wp2_with fail
        have hX := HSD.out
        refine Calls.mono hX ?_
        clear hX
        rintro e w11 ⟨rfl, hb11⟩
        have HB11 := Lib.hid (HBq.out.trans (hb11.mono HBq.out.size))
        clear hb11 m0 m1 m2 HSD
        go_wp2_with fail
        go_roundw
        case rel => exact ⟨j + 1, HLTJ.out, by go_num, HB11.out⟩
        case measure => have := HLTJ.out; simp [intOf]; try omega
      · have hltJ : ¬ (j : Int) < (nl : Int) := by omega
        have HBo := Lib.hid (HB10.out.trans (hb.mono HB10.out.size))
        clear hlt hb hj
        go_wp2_with fail
        go_roundw
        case rel => exact ⟨i + 1, HLT.out, by go_num, HBo.out⟩
        case measure => have := HLT.out; simp [intOf]; try omega
    · have hltI : ¬ (i : Int) < (fl : Int) := by omega
      obtain ⟨w10, rfl⟩ : ∃ x, x = wr := ⟨_, rfl⟩
      have HB10 := Lib.hid (show Below w.heap.size w w10 from HB9.out.trans (hb.mono HB9.out.size))
      have HWF10 := Lib.hid (HWF9.out.below hb)
      have HBF10 := Lib.hid (HBF9.out.below hb (fun b hb => Nat.lt_of_lt_of_le (Nat.lt_of_lt_of_le hb.1 HSZ8.out) HSZ9.out))
      have HGN10 := Lib.hid (HGN9.out.below hb (fun b hb => Nat.lt_of_lt_of_le hb.1 HSZ9.out))
      have HSZ10 := Lib.hid (Nat.le_trans HSZ9.out hb.size)
      clear hlt hb hi HBr HB9 HWF9 HBF9 HGN9 HR9 HSZ9
      go_wp2_with fail
      go_loopw [19] (fun iv wr => ∃ (i n' : Nat) (s : List Sg), i ≤ ol ∧ iv = .int .i64 i ∧ Gr (fun b => b = m) w10 wr ∧ n' ≤ 40 + i ∧ WfIn S wr p ts ne 12 m n' (lkS s) ∧ ReS ts ne 12 sg ⟨q1, q2, q3⟩ i s) (fun iv _ => ol - (intOf iv).toNat)
      case atStart => exact ⟨0, n8, lf, Nat.zero_le _, rfl, Gr.refl _ _, by have := HN8.out; omega, HWF10.out, HRS.out⟩
      obtain ⟨i2, n', s, hi, rfl, hg, hn', hwf, hrs⟩ := hrel
      have HGr := Lib.hid hg
      have HWFr := Lib.hid hwf
      have HRSr := Lib.hid hrs
      have HNr := Lib.hid hn'
      have HGN := Lib.hid (HGN10.out.gr hg (fun b hb => ⟨Nat.lt_of_lt_of_le hb.1 HSZ10.out, hb.2⟩) (fun _ h => h))
      by_cases hlt : i2 < ol
      · have hltI2 : (i2 : Int) < (ol : Int) := by omega
        have HLT := Lib.hid hlt
        have hix : i2 < (goneOf ts ne ⟨q1, q2, q3⟩ sg).length := by rw [HGO.out]; exact hlt
        obtain ⟨b, o, rfl, -, m0, m1, m2, hok⟩ := key_at HGN.out i2 hix
        obtain ⟨hs0, hnx⟩ := hrs.step HWK.out HSI.out hix
        generalize (goneOf ts ne ⟨q1, q2, q3⟩ sg)[i2]'hix = kk at m0 m1 m2 hok hs0 hnx
        have HC := Lib.hid (sign53 wr p ts ne 12 m n' (lkS s) hwf (by omega) (by omega) kk hok bAgain again_sz (fun hc => HWK.out.need hc))
        have HS0 := Lib.hid hs0
        have HNX := Lib.hid hnx
        obtain ⟨t1, t2, t3⟩ := kk
        unfold Ky.v at HC
        simp only at m0 m1 m2 HC
        have hbx : bAgain = ⟨#[97, 103, 97, 105, 110]⟩ := rfl
        rw [hbx] at HC
        clear hlt hix hg hok hi hwf hrs hn' hs0 hnx hbx
        go_wp2_with fail
        have hX := HC.out
        refine Calls.mono hX ?_
        clear hX
        rintro e w11 ⟨rfl, hg11, n3, hn3, hwf11⟩
        have HG11 := Lib.hid (HGr.out.trans hg11 (fun _ h => .inl h))
        have HWF11 := Lib.hid (show WfIn S w11 p ts ne 12 m n3 (lkS (signS ts ne 12 s ⟨t1, t2, t3⟩ bAgain)) from by
          have h := hwf11
          rw [sign_lk] at h
          exact h)
        have HN3 := Lib.hid hn3
        have hs0 : signI ts ne 12 (lkS s) ⟨t1, t2, t3⟩ ⟨#[97, 103, 97, 105, 110]⟩ = 0 := HS0.out
        rw [hs0]
        clear hg11 hwf11 hn3 m0 m1 m2 hs0 HC
        go_wp2_with fail
        go_roundw
        case rel => exact ⟨i2 + 1, n3, _, HLT.out, by go_num, HG11.out, by have := HN3.out; have := HNr.out; omega, HWF11.out, HNX.out⟩
        case measure => have := HLT.out; simp [intOf]; try omega
      · have hltI2 : ¬ (i2 : Int) < (ol : Int) := by omega
        obtain rfl : ol = i2 := by omega
        obtain ⟨w11, rfl⟩ : ∃ x, x = wr := ⟨_, rfl⟩
        have HB11 := Lib.hid (show Below w.heap.size w w11 from HB10.out.trans (hg.below (fun b e => by rw [e]; exact HMW.out) HB10.out.size))
        have HBF11 := Lib.hid (HBF10.out.gr hg (fun b hb => ⟨Nat.lt_of_lt_of_le (Nat.lt_of_lt_of_le hb.1 HSZ8.out) HSZ10.out, hb.2⟩) (fun _ h => h))
        have HSZ11 := Lib.hid (Nat.le_trans (Nat.le_trans HSZ8.out HSZ10.out) hg.size)
        have HSN := Lib.hid (show s.length = bl from by rw [hrs.len, ← HGL.out, ← HLG.out]; have h1 := HGO.out; have h2 := HFL.out; have h3 := HRS.out.len; omega)
        have HDN := Lib.hid (show ∀ (i : Nat) (h1 : i < s.length) (h2 : i < sg.length), (s[i]).1 = (sg[i]).1 from ReS.done_at HSI.out (by rw [HGO.out]; exact hrs))
        have HSG := Lib.hid (sigsK w11 p ts ne 12 m n' s hwf HWK.out hrs.inv.ok (by rw [HSN.out]; omega))
        clear hlt hg hi hwf hrs hn' HGr HWFr HRSr HGN
        go_wp2_with fail
        have hX := HSG.out
        refine Calls.mono hX ?_
        clear hX
        rintro e w12 ⟨aa, al, ac, rfl, hr12, hb12⟩
        have hln : s.length = al := by simpa using hr12.sl_flat.1
        obtain rfl : bl = al := by rw [← HSN.out]; exact hln
        have HB12 := Lib.hid (show Below w.heap.size w w12 from HB11.out.trans (hb12.mono HB11.out.size))
        have HBF12 := Lib.hid (HBF11.out.below hb12 (fun b hb => Nat.lt_of_lt_of_le hb.1 HSZ11.out))
        have HAF12 := Lib.hid hr12
        have HSZ12 := Lib.hid (Nat.le_trans HSZ11.out hb12.size)
        clear hb12 hr12 hln HSG HB11 HBF11
        go_wp2_with fail
        go_loopw [21] (fun iv wr => ∃ i : Nat, i ≤ bl ∧ iv = .int .i64 i ∧ Below w12.heap.size w12 wr) (fun iv _ => bl - (intOf iv).toNat)
        case atStart => exact ⟨0, Nat.zero_le _, rfl, Below.refl _ _⟩
        obtain ⟨i3, hi, rfl, hb⟩ := hrel
        have HBr := Lib.hid hb
        by_cases hlt : i3 < bl
        · have hltI3 : (i3 : Int) < (bl : Int) := by omega
          have HLT := Lib.hid hlt
          have h1 : i3 < s.length := by rw [HSN.out]; exact hlt
          have h2 : i3 < sg.length := by rw [HGL.out]; exact hlt
          obtain ⟨b1, o1, rfl, -, m0, m1, m2, -, -⟩ := sg_at (HAF12.out.below hb (fun _ h => h)) i3 h1
          obtain ⟨b2, o2, rfl, -, p0, p1, p2, -, -⟩ := sg_at (HBF12.out.below hb (fun b hb => Nat.lt_of_lt_of_le hb.1 HSZ12.out)) i3 h2
          rw [HDN.out i3 h1 h2] at m0 m1 m2
          generalize (sg[i3]'h2).1 = y at m0 m1 m2 p0 p1 p2
          have hne := fun W => key_neq W y
          obtain ⟨z1, z2, z3⟩ := y
          unfold Ky.v at hne
          simp only at m0 m1 m2 p0 p1 p2 hne
          have hC0 : Cells [(⟨b1, o1 + i3 * 4, none⟩, .string z1), (⟨b1, o1 + i3 * 4 + 1, none⟩, .int .i64 z2), (⟨b1, o1 + i3 * 4 + 2, none⟩, .int .i64 z3), (⟨b2, o2 + i3 * 4, none⟩, .string z1), (⟨b2, o2 + i3 * 4 + 1, none⟩, .int .i64 z2), (⟨b2, o2 + i3 * 4 + 2, none⟩, .int .i64 z3)] wr := ⟨m0, m1, m2, p0, p1, p2, trivial⟩
          clear m0 m1 m2 p0 p1 p2 hb hlt h1 h2 hi
          go_wp2_with fail
          refine wp_region_T (Cells [(⟨b1, o1 + i3 * 4, none⟩, .string z1), (⟨b1, o1 + i3 * 4 + 1, none⟩, .int .i64 z2), (⟨b1, o1 + i3 * 4 + 2, none⟩, .int .i64 z3), (⟨b2, o2 + i3 * 4, none⟩, .string z1), (⟨b2, o2 + i3 * 4 + 1, none⟩, .int .i64 z2), (⟨b2, o2 + i3 * 4 + 2, none⟩, .int .i64 z3)]) (fun _ => false) (by kernel_rfl) ?_
          have hSss16 := Cells.drew hC0
          have hB_0_s16 : Below wr.heap.size wr wr.drew := below_drew _
          generalize wr.drew = s16 at hSss16 hB_0_s16 ⊢
          have hB_s16_s16 := Below.refl s16.heap.size s16
          refine wpAnyT_pure (i := 0) (v := ?_) rfl (by kernel_rfl) (by kernel_rfl) (by kernel_rfl) (fun _ _ _ h => h) (by rfl) ?_ ?_
          rotate_left
          · intro w; go_simp; try with_reducible rfl
          simp only [Act.put, List.setIfInBounds_toArray, List.set_cons_zero, List.set_cons_succ, List.getElem_toArray, List.getElem_cons_succ, List.getElem_cons_zero]
          refine wpAnyT_pure (i := 1) (v := ?_) rfl (by kernel_rfl) (by kernel_rfl) (by kernel_rfl) (fun _ _ _ h => h) (by rfl) ?_ ?_
          rotate_left
          · intro w; go_simp; try with_reducible rfl
          simp only [Act.put, List.setIfInBounds_toArray, List.set_cons_zero, List.set_cons_succ, List.getElem_toArray, List.getElem_cons_succ, List.getElem_cons_zero]
          refine wpAnyT_pure (i := 2) (v := ?_) rfl (by kernel_rfl) (by kernel_rfl) (by kernel_rfl) (fun _ _ _ h => h) (by rfl) ?_ ?_
          rotate_left
          · intro w; go_simp; try with_reducible rfl
          simp only [Act.put, List.setIfInBounds_toArray, List.set_cons_zero, List.set_cons_succ, List.getElem_toArray, List.getElem_cons_succ, List.getElem_cons_zero]
          refine wpAnyT_pure (i := 3) (v := ?_) rfl (by kernel_rfl) (by kernel_rfl) (by kernel_rfl) (fun _ _ _ h => h) (by rfl) ?_ ?_
          rotate_left
          · intro w; go_simp; try with_reducible rfl
          simp only [Act.put, List.setIfInBounds_toArray, List.set_cons_zero, List.set_cons_succ, List.getElem_toArray, List.getElem_cons_succ, List.getElem_cons_zero]
          refine wpAnyT_pure (i := 5) (v := ?_) rfl (by kernel_rfl) (by kernel_rfl) (by kernel_rfl) (fun _ _ _ h => h) (by rfl) ?_ ?_
          rotate_left
          · intro w; go_simp; try with_reducible rfl
          simp only [Act.put, List.setIfInBounds_toArray, List.set_cons_zero, List.set_cons_succ, List.getElem_toArray, List.getElem_cons_succ, List.getElem_cons_zero]
          refine wpAnyT_pure (i := 6) (v := ?_) rfl (by kernel_rfl) (by kernel_rfl) (by kernel_rfl) (fun _ _ _ h => h) (by rfl) ?_ ?_
          rotate_left
          · intro w; go_simp; try with_reducible rfl
          simp only [Act.put, List.setIfInBounds_toArray, List.set_cons_zero, List.set_cons_succ, List.getElem_toArray, List.getElem_cons_succ, List.getElem_cons_zero]
          refine wpAnyT_pure (i := 7) (v := ?_) rfl (by kernel_rfl) (by kernel_rfl) (by kernel_rfl) (fun _ _ _ h => h) (by rfl) ?_ ?_
          rotate_left
          · intro w; go_simp; try with_reducible rfl
          simp only [Act.put, List.setIfInBounds_toArray, List.set_cons_zero, List.set_cons_succ, List.getElem_toArray, List.getElem_cons_succ, List.getElem_cons_zero]
          refine wpAnyT_pure (i := 8) (v := ?_) rfl (by kernel_rfl) (by kernel_rfl) (by kernel_rfl) (fun _ _ _ h => h) (by rfl) ?_ ?_
          rotate_left
          · intro w; go_simp; try with_reducible rfl
          simp only [Act.put, List.setIfInBounds_toArray, List.set_cons_zero, List.set_cons_succ, List.getElem_toArray, List.getElem_cons_succ, List.getElem_cons_zero]
          refine wpAnyT_loadW (i := 4) (v := ?_) rfl (by kernel_rfl) (by kernel_rfl) (by kernel_rfl) (by kernel_rfl) (by kernel_rfl) (fun _ _ _ h => h) (Or.inl ⟨by rfl, ?_⟩) hSss16 ?_
          rotate_left
          · intro w hSw; obtain ⟨e0, e1, e2, e3, e4, e5, -⟩ := hSw; go_simp; try with_reducible rfl
          simp only [Act.put, List.setIfInBounds_toArray, List.set_cons_zero, List.set_cons_succ, List.getElem_toArray, List.getElem_cons_succ, List.getElem_cons_zero]
          refine wpAnyT_loadW (i := 9) (v := ?_) rfl (by kernel_rfl) (by kernel_rfl) (by kernel_rfl) (by kernel_rfl) (by kernel_rfl) (fun _ _ _ h => h) (Or.inl ⟨by rfl, ?_⟩) hSss16 ?_
          rotate_left
          · intro w hSw; obtain ⟨e0, e1, e2, e3, e4, e5, -⟩ := hSw; go_simp; try with_reducible rfl
          simp only [Act.put, List.setIfInBounds_toArray, List.set_cons_zero, List.set_cons_succ, List.getElem_toArray, List.getElem_cons_succ, List.getElem_cons_zero]
          refine wpAnyT_pure (i := 10) (v := ?_) rfl (by kernel_rfl) (by kernel_rfl) (by kernel_rfl) (fun _ _ _ h => h) (by rfl) ?_ ?_
          rotate_left
          · intro w; go_simp; try with_reducible rfl
          simp only [Act.put, List.setIfInBounds_toArray, List.set_cons_zero, List.set_cons_succ, List.getElem_toArray, List.getElem_cons_succ, List.getElem_cons_zero]
          refine wpAnyT_done (by kernel_rfl) ?_ _
          have HBP := Lib.hid (HBr.out.trans ((hB_0_s16.trans ((hB_s16_s16).mono (hB_0_s16).size)).mono HBr.out.size))
          go_wp2_with fail
          go_roundw
          case rel => exact ⟨i3 + 1, HLT.out, by go_num, HBP.out⟩
          case measure => have := HLT.out; simp [intOf]; try omega
        · have hltI3 : ¬ (i3 : Int) < (bl : Int) := by omega
          have HBo := Lib.hid (show Below w.heap.size w wr from HB12.out.trans (hb.mono HB12.out.size))
          clear hlt hb hi
          go_wp2_with fail
          go_ret
          exact ⟨rfl, HBo.out⟩
  · rw [if_neg hri] at hr8 hwf8
    have HWF8 := Lib.hid hwf8
    have hl0 : ol = 0 := by simpa using hr8.sl_flat.1.symm
    subst hl0
    generalize reopI ts ne 12 sg ⟨q1, q2, q3⟩ = ri at *
    have HSG := Lib.hid (sigsK w8 p ts ne 12 m n8 sg HWF8.out HWK.out HSI.out.ok (by have := HSL.out; omega))
    clear hr8 hwf8
    go_wp2_with fail
    have hX := HSG.out
    refine Calls.mono hX ?_
    clear hX
    rintro e w9 ⟨na, nl, nc, rfl, hr9, hb9⟩
    have hln : sg.length = nl := by simpa using hr9.sl_flat.1
    obtain rfl : bl = nl := by rw [← HGL.out]; exact hln
    have HB9 := Lib.hid (show Below w.heap.size w w9 from HB8.out.trans (hb9.mono HB8.out.size))
    clear hb9 hr9 hln
    go_wp2_with fail
    go_ret
    exact ⟨by first | rfl | simp, HB9.out⟩
end Go.Proofs.Ytdcjocldggmdbaa
