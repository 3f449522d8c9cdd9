/- Layer 53, plain: a period can be completed. -/
import Derived.Test.YtdcjocldggmdbaaY53i
import Derived.Test.YtdcjocldggmdbaaRead
set_option linter.unusedSimpArgs false
namespace Go.Proofs.Ytdcjocldggmdbaa
open Go.RowKit Go

theorem exists_min {α : Type} (g : α → Nat) : ∀ (l : List α), l ≠ [] → ∃ x ∈ l, ∀ y ∈ l, g x ≤ g y
  | [], h => absurd rfl h
  | [a], _ => ⟨a, by simp, fun y hy => by rw [List.mem_singleton] at hy; rw [hy]; exact Nat.le_refl _⟩
  | a :: b :: l, _ => by
    obtain ⟨x, hx, hm⟩ := exists_min g (b :: l) (by simp)
    by_cases h : g a ≤ g x
    · refine ⟨a, by simp, fun y hy => ?_⟩
      rcases List.mem_cons.1 hy with rfl | hy
      · exact Nat.le_refl _
      · exact Nat.le_trans h (hm y hy)
    · refine ⟨x, List.mem_cons_of_mem _ hx, fun y hy => ?_⟩
      rcases List.mem_cons.1 hy with rfl | hy
      · omega
      · exact hm y hy
theorem filter_lt {α : Type} {p q : α → Bool} : ∀ {l : List α}, (∀ x ∈ l, q x = true → p x = true) → ∀ {a : α}, a ∈ l → p a = true → q a = false → (l.filter q).length < (l.filter p).length
  | [], _, _, h, _, _ => by cases h
  | b :: l, hs, a, hm, hp, hq => by
    have hle : ∀ l' : List α, (∀ x ∈ l', q x = true → p x = true) → (l'.filter q).length ≤ (l'.filter p).length := by
      intro l' hs'
      induction l' with
      | nil => simp
      | cons c l' ih =>
        have ih := ih fun x hx => hs' x (List.mem_cons_of_mem _ hx)
        rw [List.filter_cons, List.filter_cons]
        by_cases hc : q c = true
        · rw [if_pos hc, if_pos (hs' c (by simp) hc)]; simp; exact ih
        · rw [if_neg hc]; split
          · simp; omega
          · exact ih
    rw [List.filter_cons, List.filter_cons]
    rcases List.mem_cons.1 hm with rfl | hm
    · rw [if_neg (by simp [hq]), if_pos hp]
      have := hle l fun x hx => hs x (List.mem_cons_of_mem _ hx)
      simp; omega
    · have ih := filter_lt (l := l) (fun x hx => hs x (List.mem_cons_of_mem _ hx)) hm hp hq
      by_cases hc : q b = true
      · rw [if_pos hc, if_pos (hs b (by simp) hc)]; simp; exact ih
      · rw [if_neg hc]; split
        · simp; omega
        · exact ih
def missing (ts : List Tk) (ne np : Nat) (sg : List Sg) (per : Int) : Nat := ((allP ts ne np per).filter fun k => (lkS sg k).isNone).length
theorem all_some {ts : List Tk} {ne np : Nat} {sg : List Sg} {per : Int} (h : missing ts ne np sg per = 0) {k : Ky} (hk : k ∈ allP ts ne np per) : (lkS sg k).isSome = true := by
  unfold missing at h
  have := List.eq_nil_of_length_eq_zero h
  rw [List.filter_eq_nil_iff] at this
  have := this k hk
  cases hf : lkS sg k with
  | none => rw [hf] at this; simp at this
  | some v => rfl
theorem all_pos {ts : List Tk} {ne np : Nat} (hw : Wk ts ne np) (h1 : 1 ≤ ne) {per : Int} (hin : 0 ≤ per ∧ per < (np : Int)) : 0 < (allP ts ne np per).length := by
  have hl := hw.v.1
  refine List.length_pos_of_mem (a := (⟨(ts[0]'(by omega)).name, if (ts[0]'(by omega)).grp then -1 else 0, per⟩ : Ky)) ((all_kv hw).2 ⟨kv_iff.2 ?_, rfl⟩)
  have hpl : plc ts (ts[0]'(by omega)).name = 0 := (hw.v.2.2 0 (by omega) (by omega)).2.1
  simp only
  rw [hpl]
  refine ⟨by omega, ?_, hin⟩
  rw [tkAt_get (by rw [hpl]; omega)]
  simp only [hpl]
  split
  · rfl
  · omega
theorem done_iff {ts : List Tk} {ne np : Nat} (hw : Wk ts ne np) (h1 : 1 ≤ ne) {sg : List Sg} {per : Int} (hin : 0 ≤ per ∧ per < (np : Int)) : doneA ts ne np (lkS sg) per = decide (missing ts ne np sg per = 0) := by
  have hp := all_pos hw h1 hin
  unfold doneA
  rw [decide_eq_true hp, Bool.and_true]
  by_cases h : missing ts ne np sg per = 0
  · rw [decide_eq_true h, List.all_eq_true]
    exact fun k hk => all_some h hk
  · rw [decide_eq_false h, List.all_eq_false]
    unfold missing at h
    obtain ⟨k, hk⟩ := List.exists_mem_of_length_pos (Nat.pos_of_ne_zero h)
    obtain ⟨h1, h2⟩ := List.mem_filter.1 hk
    exact ⟨k, h1, by cases hf : lkS sg k <;> simp [hf] at h2 ⊢⟩
theorem next_nil {ts : List Tk} {ne np : Nat} {sg : List Sg} {per : Int} (h : missing ts ne np sg per = 0) : nextL ts ne np (lkS sg) per = [] := by
  unfold nextL
  rw [List.filter_eq_nil_iff]
  intro k hk
  have := all_some h hk
  cases hf : lkS sg k with
  | none => rw [hf] at this; cases this
  | some v => simp
/-- While something is missing, something can be signed. -/
theorem next_some {ts : List Tk} {ne np : Nat} (hw : Wk ts ne np) {sg : List Sg} {per : Int} (h : missing ts ne np sg per ≠ 0) (hd : ∀ k, checkI ts ne np k = 0 → k.per = per - 1 → (lkS sg k).isSome = true) : nextL ts ne np (lkS sg) per ≠ [] := by
  unfold missing at h
  have hne : ((allP ts ne np per).filter fun k => (lkS sg k).isNone) ≠ [] := fun e => h (by rw [e]; rfl)
  obtain ⟨k, hk, hmin⟩ := exists_min (fun k : Ky => plc ts k.task) _ hne
  obtain ⟨h1, h2⟩ := List.mem_filter.1 hk
  obtain ⟨h3, h4⟩ := (all_kv hw).1 h1
  refine List.ne_nil_of_mem (List.mem_filter.2 ⟨h1, ?_⟩)
  rw [Bool.and_eq_true]
  refine ⟨h2, ?_⟩
  unfold readyB
  rw [List.all_eq_true]
  intro n hn
  obtain ⟨n1, n2⟩ := raw_kv hw h3 hn
  rcases raw_cases hn with ⟨nm, hnm, hx⟩ | ⟨-, -, rfl⟩
  · obtain ⟨a, b, -⟩ := needOf_mem hw h3 hnm hx
    have hlt := (hw.at_ (kv_iff.1 h3).1).2.2.2.1 nm hnm
    cases hf : lkS sg n with
    | some v => rfl
    | none =>
      have := hmin n (List.mem_filter.2 ⟨(all_kv hw).2 ⟨n1, by rw [b, h4]⟩, by rw [hf]; rfl⟩)
      rw [a] at this
      omega
  · exact hd _ n1 (by simp only; rw [h4])
theorem next_mem {ts : List Tk} {ne np : Nat} (hw : Wk ts ne np) {f : Ky → Option ByteArray} {per : Int} {k : Ky} (h : k ∈ nextL ts ne np f per) : checkI ts ne np k = 0 ∧ k.per = per ∧ f k = none ∧ readyB ts ne f k = true := by
  unfold nextL at h
  obtain ⟨h1, h2⟩ := List.mem_filter.1 h
  rw [Bool.and_eq_true] at h2
  obtain ⟨h3, h4⟩ := (all_kv hw).1 h1
  exact ⟨h3, h4, Option.isNone_iff_eq_none.1 h2.1, h2.2⟩
theorem missing_sign {ts : List Tk} {ne np : Nat} (hw : Wk ts ne np) {sg : List Sg} {per : Int} {k : Ky} {who : ByteArray} (hk : k ∈ nextL ts ne np (lkS sg) per) (hn : nameB who = true) : signI ts ne np (lkS sg) k who = 0 ∧ missing ts ne np (signS ts ne np sg k who) per < missing ts ne np sg per := by
  obtain ⟨h1, h2, h3, h4⟩ := next_mem hw hk
  have h0 := signI_of h1 hn h3 h4
  refine ⟨h0, ?_⟩
  unfold missing
  refine filter_lt (fun x _ hx => ?_) (a := k) ((all_kv hw).2 ⟨h1, h2⟩) (by rw [h3]; rfl) ?_
  · rw [← sign_lk, if_pos h0] at hx
    unfold signF at hx
    split at hx
    · cases hx
    · exact hx
  · rw [← sign_lk, if_pos h0]
    simp [signF]
theorem sign_keeps {ts : List Tk} {ne np : Nat} {sg : List Sg} {k x : Ky} {who : ByteArray} (h : (lkS sg x).isSome = true) : (lkS (signS ts ne np sg k who) x).isSome = true := by
  rw [← sign_lk]
  split
  · unfold signF
    split
    · rfl
    · exact h
  · exact h
theorem keysL_len4 (ne : Nat) (t : Tk) (per : Int) (h : 1 ≤ ne) : (keysL ne t per).length ≤ ne := by
  unfold keysL
  split
  · simpa using h
  · simp
theorem missing_le {ts : List Tk} {ne np : Nat} (h1 : 1 ≤ ne) (sg : List Sg) (per : Int) : missing ts ne np sg per ≤ ts.length * ne := by
  refine Nat.le_trans (List.length_filter_le _ _) ?_
  unfold allP
  split
  · unfold allK
    induction ts with
    | nil => simp
    | cons t ts ih =>
      rw [List.flatMap_cons, List.length_append, List.length_cons, Nat.succ_mul]
      have := keysL_len4 ne t per h1
      omega
  · simp
end Go.Proofs.Ytdcjocldggmdbaa

/- The law WorkflowCompletes, walked. -/
set_option linter.unusedSimpArgs false
namespace Go.Proofs.Ytdcjocldggmdbaa
open Go.RowKit Go

theorem bX_name : nameB bX = true := by decide +kernel
theorem bX_sz : bX.size ≤ maxLen := by decide
theorem wk_of {n : Nat} {xs : List taskT.den} (h : 1 ≤ n ∧ n ≤ 12 ∧ ValidT (xs.map tk)) (hf : ∀ i (hi : i < xs.length), (tk xs[i]).needs.length ≤ 8) : Wk (xs.map tk) n 12 where
  v := (rval_iff _).2 h.2.2
  f := fun t ht => by
    obtain ⟨x, hx, rfl⟩ := List.mem_map.1 ht
    obtain ⟨i, hi, rfl⟩ := List.getElem_of_mem hx
    exact hf i hi
  ne := by omega
  np := by omega
theorem steps_ok {S : Nat → Prop} {w : World} {a : Option Addr} {len cap : Nat} {ls : List stepT.den} (h : Rd (.sl stepT) S w [.slice a len cap] ls) : ∀ s ∈ ls.map stp, s.key.ok ∧ s.who.size ≤ maxLen := by
  intro s hs
  obtain ⟨x, hx, rfl⟩ := List.mem_map.1 hs
  obtain ⟨i, hi, rfl⟩ := List.getElem_of_mem hx
  obtain ⟨b, o, -, -, -, -, -, -, -, h1, h2⟩ := step_at h i hi
  exact ⟨h1, h2⟩
theorem playL_inv {ts : List Tk} {ne np : Nat} (hw : Wk ts ne np) {l : List Stp} (hl : ∀ s ∈ l, s.who.size ≤ maxLen) {sg : List Sg} (h : SgInv ts ne np sg) : SgInv ts ne np (playL ts ne np l sg) := by
  unfold playL
  induction l generalizing sg with
  | nil => exact h
  | cons s l ih => exact ih (fun x hx => hl x (List.mem_cons_of_mem _ hx)) (h.playS hw s (hl s (by simp)))
set_option maxRecDepth 20000 in
set_option maxHeartbeats 1000000 in
theorem completesWalk53 (w : World) (c0 : List Value) (x0 : planT.den) (r0 : Rd planT (fun b => b < w.heap.size) w c0 x0) (c1 : List Value) (x1 : (Ty.sl stepT).den) (r1 : Rd (.sl stepT) (fun b => b < w.heap.size) w c1 x1) (c2 : List Value) (x2 : (Ty.int .u8).den) (r2 : Rd (.int .u8) (fun b => b < w.heap.size) w c2 x2) :
    Calls Try.prog 6 #[valOf planT c0, valOf (.sl stepT) c1, valOf (.int .u8) c2] w fun e w' => e = .returned (.bool true) ∧ Below w.heap.size w w' := by
  obtain ⟨n, xs, ⟨⟩⟩ := x0
  obtain ⟨k1, kr1, rfl, ⟨rfl, hn⟩, k2, kr2, rfl, hx, rfl⟩ := r0
  obtain ⟨a, len, cap, rfl, hl, hlc, hcm, -⟩ := id hx
  obtain ⟨la, ll, lc, rfl, hll, -⟩ := id r1
  obtain ⟨rfl, hlast⟩ := r2
  change List taskT.den at xs
  change List stepT.den at x1
  change Int at x2
  change Calls _ _ #[.agg #[.int .i64 n, .slice a len cap], .slice la ll lc, .int .u8 x2] _ _
  have hx2 : 0 ≤ x2 ∧ x2 < 256 := by
    simp [Lit.wf, IntKind.min, IntKind.max, IntKind.signed, IntKind.bits] at hlast
    omega
  have hp := alloc_new' (w := w) (o := .cells #[.int .i64 n, .slice a len cap] 24) rfl
  have hB := (Below.refl w.heap.size w).alloc (Nat.le_refl _) (.cells #[.int .i64 n, .slice a len cap] 24)
  have HP := Lib.hid hp
  have HB := Lib.hid hB
  have HX := Lib.hid hx
  have HLS := Lib.hid r1
  have HL := Lib.hid (show xs.length = len from hl)
  have HLL := Lib.hid (show x1.length = ll from hll)
  have HX2 := Lib.hid hx2
  clear hx hl hn hp hB r1 hll hlast hx2
  go_enter Try.func6, Try.ntmps6
  go_wp2_with fail
  generalize w.alloc _ = w1 at HP HB ⊢
  obtain ⟨pb, hpb⟩ : ∃ q, w.heap.size = q := ⟨_, rfl⟩
  have HPB := Lib.hid hpb
  rw [hpb] at HP ⊢
  clear hpb
  have hX := awake53 w1
  refine Calls.mono hX ?_
  clear hX
  rintro e w2 ⟨rfl, hB2⟩
  have HP2 := Lib.hid ((hB2.block _ (blk_lt HP.out)).trans HP.out)
  have HB2 := Lib.hid (below_step HB.out hB2)
  have y0 := blk_cell HP2.out 0
  have y1 := blk_cell HP2.out 1
  simp at y0 y1
  clear hB2 HP HB
  go_wp2_with fail
  have hX := fewS53 w2 n a len cap xs (HX.out.alloc HB2.out) (fun b hb => hb) la ll lc x1 (HLS.out.alloc HB2.out) (fun b hb => hb)
  refine Calls.mono hX ?_
  clear hX
  rintro e w3 ⟨fb, rfl, hB3, hfb⟩
  have HP3 := Lib.hid ((hB3.block _ (blk_lt HP2.out)).trans HP2.out)
  have HB3 := Lib.hid (below_step HB2.out hB3)
  have HFB := Lib.hid hfb
  have y0 := blk_cell HP3.out 0
  have y1 := blk_cell HP3.out 1
  simp at y0 y1
  clear hB3 hfb HP2 HB2
  cases fb
  · go_wp2_with fail
    go_ret
    exact ⟨rfl, HB3.out⟩
  have HFW := Lib.hid (HFB.out rfl)
  clear HFB
  by_cases h4 : (4 : Int) < n
  · go_wp2_with fail
    go_ret
    exact ⟨rfl, HB3.out⟩
  have hlen8 : len ≤ 8 := by rw [← HL.out]; exact HFW.out.1.1
  have hll40 : ll ≤ 40 := by rw [← HLL.out]; exact HFW.out.2.1
  have hgn : gN n ≤ 4 := by unfold gN; omega
  go_wp2_with fail
  have hX := start53 w3 n a len cap xs (HX.out.alloc HB3.out) (fun b hb => hb) (by omega) (fun i hi => Nat.le_trans (HFW.out.1.2 i hi) (by omega))
  refine Calls.mono hX ?_
  clear hX
  rintro e w4 ⟨q, z1, z2, sa, sl, sc, rfl, hB4, hst⟩
  have HB4 := Lib.hid (below_step HB3.out hB4)
  have hBa := (Below.refl w4.heap.size w4).alloc (Nat.le_refl _) (.cells #[.int .i64 z1, .int .i64 z2, .slice sa sl sc, .slice none 0 0] 30)
  have HB5 := Lib.hid (below_step HB4.out hBa)
  have HB45 := Lib.hid hBa
  have HST := Lib.hid hst
  have HS3 := Lib.hid (show w.heap.size ≤ w3.heap.size from HB3.out.size)
  clear hst hB4 hBa y0 y1 HP3 HB3
  rcases HST.out with ⟨rfl, -⟩ | ⟨hok, -, S, p, m, rfl, hm3, hwf⟩
  · go_wp2_with fail
    go_ret
    exact ⟨rfl, HB5.out⟩
  have HWK := Lib.hid (wk_of hok HFW.out.1.2)
  have HWF := Lib.hid hwf
  have HM3 := Lib.hid hm3
  have HOK := Lib.hid hok
  have HT8 := Lib.hid (show (xs.map tk).length ≤ 8 from by rw [List.length_map]; exact HFW.out.1.1)
  clear hok hwf hm3 HST
  go_wp2_with fail
  generalize w4.alloc (.cells #[.int .i64 z1, .int .i64 z2, .slice sa sl sc, .slice none 0 0] 30) = w5 at HB5 HB45 ⊢
  have HW5 := Lib.hid (HWF.out.below HB45.out)
  have hX := play53 w5 p (xs.map tk) (gN n) 12 m HW5.out HWK.out la ll lc x1 (Rd.below HB5.out (fun _ h => h) HLS.out) (fun b hb => ⟨Nat.lt_of_lt_of_le hb HB5.out.size, by have := HS3.out; have := HM3.out; omega⟩) (by omega)
  refine Calls.mono hX ?_
  clear hX
  rintro e w6 ⟨rfl, hg6, n6, hn6, hwf6⟩
  have HMW := Lib.hid (show w.heap.size ≤ m from Nat.le_trans HS3.out HM3.out)
  have HB6 := Lib.hid (show Below w.heap.size w w6 from HB5.out.trans (hg6.below (fun b e => by rw [e]; exact HMW.out) HB5.out.size))
  have HWF6 := Lib.hid hwf6
  have HN6 := Lib.hid hn6
  have HSI := Lib.hid (show SgInv (xs.map tk) (gN n) 12 (playL (xs.map tk) (gN n) 12 (x1.map stp) []) from playL_inv HWK.out (fun s hs => (steps_ok HLS.out s hs).2) (SgInv.nil _ _ _))
  generalize playL (xs.map tk) (gN n) 12 (x1.map stp) [] = sg0 at HWF6 HSI
  generalize xs.map tk = ts at HWK HWF6 HSI HT8
  generalize gN n = ne at HWK HWF6 HSI HOK hgn
  have HNE := Lib.hid (show 1 ≤ ne from HOK.out.1)
  clear hg6 hwf6 hn6 HWF HM3 HW5 HB45 HB5 HB4 HOK HS3
  obtain ⟨L, hL⟩ : ∃ L : Nat, (L : Int) = x2 % 3 := ⟨(x2 % 3).toNat, by have := HX2.out; omega⟩
  have hL2 : L ≤ 2 := by omega
  have HLQ := Lib.hid hL
  clear hL
  go_wp2_with fail
  go_loopw [10] (fun pv wr => ∃ (per n' : Nat) (sg : List Sg), pv = .int .i64 (per : Nat) ∧ per ≤ L + 1 ∧ Below w.heap.size w wr ∧ n' ≤ 40 + 40 * per ∧ WfIn S wr p ts ne 12 m n' (lkS sg) ∧ SgInv ts ne 12 sg ∧ ∀ q : Nat, q < per → missing ts ne 12 sg q = 0) (fun pv _ => L + 2 - (intOf pv).toNat)
  case atStart => exact ⟨0, n6, sg0, rfl, Nat.zero_le _, HB6.out, by have := HN6.out; omega, HWF6.out, HSI.out, fun q h => absurd h (by omega)⟩
  obtain ⟨per, n', sg, rfl, hper, hb, hn', hwf, hsi, hmi⟩ := hrel
  have HBr := Lib.hid hb
  have HWFr := Lib.hid hwf
  have HSIr := Lib.hid hsi
  have HMI := Lib.hid hmi
  have HNr := Lib.hid hn'
  clear hb hwf hsi hmi hn' HWF6 HSI HB6 HN6
  have hx0 := HX2.out.1
  have hx1 := HX2.out.2
  have hpw : (Lit.int .i64 (per : Nat)).wf = true := wf_small (by omega) (by omega)
  have HPW := Lib.hid hpw
  have HIN := Lib.hid (show (0 : Int) ≤ (per : Nat) ∧ ((per : Nat) : Int) < ((12 : Nat) : Int) from by omega)
  clear hpw
  by_cases hle : per ≤ L
  · have hleI : (per : Int) ≤ x2 % 3 := by rw [← HLQ.out]; omega
    go_wp2_with fail
    go_loopw [11] (fun nv wr => ∃ (i n2 : Nat) (sg2 : List Sg), nv = .int .i64 (i : Nat) ∧ i + missing ts ne 12 sg2 (per : Nat) ≤ 32 ∧ Below w.heap.size w wr ∧ n2 ≤ 40 + 40 * per + i ∧ WfIn S wr p ts ne 12 m n2 (lkS sg2) ∧ SgInv ts ne 12 sg2 ∧ ∀ q : Nat, q < per → missing ts ne 12 sg2 q = 0) (fun nv _ => 34 - (intOf nv).toNat)
    case atStart => exact ⟨0, n', sg, rfl, by
      have h1 := missing_le (np := 12) (ts := ts) HNE.out sg (per : Nat)
      have h2 : ts.length * ne ≤ 8 * 4 := Nat.mul_le_mul HT8.out hgn
      omega, HBr.out, by have := HNr.out; omega, HWFr.out, HSIr.out, HMI.out⟩
    obtain ⟨i, n2, sg2, rfl, him, hb, hn2, hwf, hsi, hmi⟩ := hrel
    have HB2 := Lib.hid hb
    have HWF2 := Lib.hid hwf
    have HSI2 := Lib.hid hsi
    have HMI2 := Lib.hid hmi
    have HN2 := Lib.hid hn2
    have HIM := Lib.hid him
    have hi33 : (i : Int) ≤ 33 := by omega
    have hi3 : ((i : Int) == 33) = false := by simp; omega
    have HC := Lib.hid (doneG53 wr p ts ne 12 m n2 (lkS sg2) hwf (by omega) (by have := HT8.out; omega) (per : Nat) HPW.out)
    rw [done_iff HWK.out HNE.out HIN.out] at HC
    clear hb hwf hsi hmi hn2 him HBr HWFr HSIr HMI HNr
    go_wp2_with fail
    have hX := HC.out
    refine Calls.mono hX ?_
    clear hX
    rintro e w7 ⟨rfl, hb7⟩
    have HB7 := Lib.hid (show Below w.heap.size w w7 from HB2.out.trans (hb7.mono HB2.out.size))
    have HWF7 := Lib.hid (HWF2.out.below hb7)
    clear hb7
    by_cases hm0 : missing ts ne 12 sg2 (per : Nat) = 0
    · rw [decide_eq_true hm0]
      have HM0 := Lib.hid hm0
      have HC7 := Lib.hid (doneG53 w7 p ts ne 12 m n2 (lkS sg2) HWF7.out (by omega) (by have := HT8.out; omega) (per : Nat) HPW.out)
      rw [done_iff HWK.out HNE.out HIN.out, decide_eq_true hm0] at HC7
      clear hm0
      go_wp2_with fail
      have hX := HC7.out
      refine Calls.mono hX ?_
      clear hX
      rintro e w8 ⟨rfl, hb8⟩
      have HB8 := Lib.hid (show Below w.heap.size w w8 from HB7.out.trans (hb8.mono HB7.out.size))
      have HWF8 := Lib.hid (HWF7.out.below hb8)
      clear hb8
      have HC8 := Lib.hid (nextM w8 p ts ne 12 m n2 (lkS sg2) HWF8.out HWK.out (by have := HT8.out; omega) (per : Nat) HPW.out)
      rw [next_nil HM0.out] at HC8
      go_wp2_with fail
      have hX := HC8.out
      refine Calls.mono hX ?_
      clear hX
      rintro e w9 ⟨na, nl, nc, rfl, hr9, hb9⟩
      have hl0 : nl = 0 := by simpa using hr9.sl_flat.1.symm
      subst hl0
      have HB9 := Lib.hid (show Below w.heap.size w w9 from HB8.out.trans (hb9.mono HB8.out.size))
      have HWF9 := Lib.hid (HWF8.out.below hb9)
      have HMN := Lib.hid (show ∀ q : Nat, q < per + 1 → missing ts ne 12 sg2 q = 0 from fun q hq => by
        by_cases e : q = per
        · rw [e]; exact HM0.out
        · exact HMI2.out q (by omega))
      clear hb9 hr9
      go_wp2_with fail
      go_roundw
      case rel => exact ⟨per + 1, n2, sg2, by go_num, by omega, HB9.out, by have := HN2.out; have := HIM.out; omega, HWF9.out, HSI2.out, HMN.out⟩
      case measure => simp [intOf]; try omega
    · rw [decide_eq_false hm0]
      have HNN := Lib.hid (next_some HWK.out hm0 (fun k h1 h2 => by
        by_cases hp0 : per = 0
        · subst hp0
          have := (kv_iff.1 h1).2.2.1
          rw [h2] at this
          exact absurd this (by simp)
        · exact all_some (HMI2.out (per - 1) (by omega)) ((all_kv HWK.out).2 ⟨h1, by rw [h2]; omega⟩)))
      have HC7 := Lib.hid (nextM w7 p ts ne 12 m n2 (lkS sg2) HWF7.out HWK.out (by have := HT8.out; omega) (per : Nat) HPW.out)
      clear hm0
      go_wp2_with fail
      have hX := HC7.out
      refine Calls.mono hX ?_
      clear hX
      rintro e w8 ⟨na, nl, nc, rfl, hr8, hb8⟩
      have HB8 := Lib.hid (show Below w.heap.size w w8 from HB7.out.trans (hb8.mono HB7.out.size))
      have HWF8 := Lib.hid (HWF7.out.below hb8)
      have HR8 := Lib.hid hr8
      have hnl : (nextL ts ne 12 (lkS sg2) (per : Nat)).length = nl := by simpa using hr8.sl_flat.1
      have hpos := List.length_pos_iff.2 HNN.out
      obtain ⟨q, rfl⟩ : ∃ q, nl = q + 1 := ⟨nl - 1, by omega⟩
      have hq : q < (nextL ts ne 12 (lkS sg2) (per : Nat)).length := by omega
      have hq9 : (q : Int) < 9223372036854775807 := by have h1 := hr8.sl_flat.2.1; have h2 := hr8.sl_flat.2.2.1; omega
      have hwq : wrap64 (q : Int) = (q : Int) := by rw [wrap64]; omega
      clear hq9
      obtain ⟨b, o, rfl, -, m0, m1, m2, hkok⟩ := key_at hr8 q hq
      obtain ⟨hs0, hms⟩ := missing_sign HWK.out (List.getElem_mem hq) bX_name
      generalize (nextL ts ne 12 (lkS sg2) (per : Nat))[q]'hq = k at m0 m1 m2 hkok hs0 hms
      have HKO := Lib.hid hkok
      have HS0 := Lib.hid hs0
      have HMS := Lib.hid hms
      have HC8 := Lib.hid (sign53 w8 p ts ne 12 m n2 (lkS sg2) HWF8.out (by omega) (by have := HN2.out; omega) k HKO.out bX bX_sz (fun hc => HWK.out.need hc))
      have HSN := Lib.hid (HSI2.out.sign (k := k) bX_sz)
      have HKEEP := Lib.hid (show ∀ q : Nat, q < per → missing ts ne 12 (signS ts ne 12 sg2 k bX) q = 0 from fun q hq => by
        have h := HMI2.out q hq
        unfold missing
        rw [List.filter_eq_nil_iff.2 (fun x hx => ?_)]
        · rfl
        · have := sign_keeps (ts := ts) (ne := ne) (np := 12) (k := k) (who := bX) (all_some h hx)
          cases hf : lkS (signS ts ne 12 sg2 k bX) x with
          | none => rw [hf] at this; cases this
          | some v => simp)
      obtain ⟨k1, k2, k3⟩ := k
      unfold Ky.v at HC8
      simp only at m0 m1 m2 HC8
      have hbx : bX = ⟨#[120]⟩ := rfl
      rw [hbx] at HC8
      clear hb8 hr8 hnl hpos hkok hs0 hms hq hbx HNN
      have hq1 : ((q : Int) + 1 == 0) = false := by simp; omega
      go_wp2_with fail
      have hX := HC8.out
      refine Calls.mono hX ?_
      clear hX
      rintro e w9 ⟨rfl, hg9, n3, hn3, hwf9⟩
      have HB9 := Lib.hid (show Below w.heap.size w w9 from HB8.out.trans (hg9.below (fun b e => by rw [e]; exact HMW.out) HB8.out.size))
      have HWF9 := Lib.hid (show WfIn S w9 p ts ne 12 m n3 (lkS (signS ts ne 12 sg2 ⟨k1, k2, k3⟩ bX)) from by
        have h := hwf9
        rw [sign_lk] at h
        exact h)
      have HN3 := Lib.hid hn3
      have hs0 := HS0.out
      have hs0' : signI ts ne 12 (lkS sg2) ⟨k1, k2, k3⟩ ⟨#[120]⟩ = 0 := hs0
      rw [hs0']
      clear hg9 hwf9 hn3 m0 m1 m2 hs0 hs0'
      go_wp2_with fail
      go_roundw
      case rel => exact ⟨i + 1, n3, signS ts ne 12 sg2 ⟨k1, k2, k3⟩ bX, by go_num, by have := HIM.out; have := HMS.out; omega, HB9.out, by have := HN2.out; have := HN3.out; omega, HWF9.out, HSN.out, HKEEP.out⟩
      case measure => simp [intOf]; try omega
  · have hleI : ¬ (per : Int) ≤ x2 % 3 := by rw [← HLQ.out]; omega
    go_wp2_with fail
    go_ret
    exact ⟨rfl, HBr.out⟩
end Go.Proofs.Ytdcjocldggmdbaa
