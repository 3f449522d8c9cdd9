/- Layer 28: the partner's Find. -/
import Derived.Test.YtpobckedeffjmaaO28a
import Derived.Laws.Rows
set_option linter.unusedSimpArgs false
set_option maxRecDepth 50000
namespace Go.Proofs.Ytpobckedeffjmaa
open Go.RowKit Go

theorem info_line : (Try.prog.info? 110).map (fun i => (i.zero, i.size, i.bytes)) = some (some (.agg #[.int .i64 0, .int .i64 0, .int .i64 0]), lineT.sz, 24) := by kernel_rfl
theorem find_first {α : Type} {p : α → Bool} : ∀ {l : List α} {k : Nat} (hk : k < l.length), (∀ x ∈ l.take k, p x = false) → p l[k] = true → l.find? p = some l[k]
  | [], _, hk, _, _ => by simp at hk
  | a :: l, 0, _, _, e => by
    have e : p a = true := e
    rw [List.find?_cons, e]; rfl
  | a :: l, k + 1, hk, h, e => by
    rw [List.take_succ_cons] at h
    rw [List.find?_cons, h a (by simp)]
    exact find_first (l := l) (k := k) (by simpa using hk) (fun y hy => h y (by simp [hy])) e
/-- The closure: an entry with the ID. -/
theorem findLit28 (w : World) (i0 en dt kd of' : Int) (tx : ByteArray) (lv : Value) (bx : Nat) (re : Int) (h : w.cell? ⟨bx, 0, none⟩ = some (.int .i64 re)) :
    Calls Try.prog 56 #[.agg #[.int .i64 i0, .int .i64 en, .int .i64 dt, .int .i64 kd, .int .i64 of', .string tx, lv], .pointer (some ⟨bx, 0, none⟩)] w fun e w' => e = .returned (.bool (decide (i0 = re))) ∧ Below w.heap.size w w' := by
  have hb := World.block_lt_of_cell? _ _ h
  have hB := (Below.refl w.heap.size w).alloc (Nat.le_refl _) (.cells #[.int .i64 i0, .int .i64 en, .int .i64 dt, .int .i64 kd, .int .i64 of', .string tx, lv] 93)
  have h1 := cell_below h hB
  have HB := Lib.hid hB
  obtain ⟨rb, hrb⟩ : ∃ q, decide (i0 = re) = q := ⟨_, rfl⟩
  rw [hrb]
  have HRB := Lib.hid hrb
  clear hb h hB hrb
  go_enter Try.func56, Try.ntmps56
  go_wp2_with fail
  go_ret
  refine ⟨?_, HB.out⟩
  rw [← HRB.out]
  first | rfl | (by_cases e : i0 = re <;> simp [e])
def IxP (l : List En) (re : Int) (e : Ending) : Prop := ∃ r : Int, e = .returned (.int .i64 r) ∧ ((r = -1 ∧ l.find? (fun x => decide (x.id = re)) = none) ∨ ∃ (j : Nat) (hj : j < l.length), r = (j : Int) ∧ l.find? (fun x => decide (x.id = re)) = some l[j])
def ClP (l : List L3) (n : Nat) (w' : World) (e : Ending) : Prop := ∃ v, e = .returned v ∧ Rd (.sl lineT) (fun b => n ≤ b ∧ b < w'.heap.size) w' [v] (l.map L3.d)
set_option maxHeartbeats 2000000 in
theorem indexE28 {S : Nat → Prop} (w : World) (a : Option Addr) (c : Nat) (l : List En) (hn : l.length ≤ 1000) (h : Rd (.sl entryT) S w [.slice a l.length c] (l.map En.d)) (hS : ∀ b, S b → b < w.heap.size) (bx : Nat) (re : Int) (hbx : w.cell? ⟨bx, 0, none⟩ = some (.int .i64 re)) :
    Calls Try.prog 55 #[.slice a l.length c, .func (.func 56) #[] #[.pointer (some ⟨bx, 0, none⟩)]] w fun e w' =>
      IxP l re e ∧ Below w.heap.size w w' := by
  have H := Lib.hid h
  have HS := Lib.hid hS
  have HBX := Lib.hid hbx
  clear h hS hbx
  go_enter Try.func55, Try.ntmps55
  go_wp2_with fail
  go_loopw [5, 8] (fun _ i wr => ∃ (k : Nat), k ≤ l.length ∧ i = .int .i64 k ∧ (∀ x ∈ l.take k, decide (x.id = re) = false) ∧ Below w.heap.size w wr) (fun _ i _ => l.length - (intOf i).toNat)
  case atStart => exact ⟨0, Nat.zero_le _, rfl, fun x hx => by simp at hx, Below.refl _ _⟩
  case round =>
    obtain ⟨k, hk, rfl, hno, hB⟩ := hrel
    have HB := Lib.hid hB
    by_cases hkl : k < l.length
    · obtain ⟨b, o, la, lc, rfl, -, ⟨m0, m1, m2, m3, m4, m5, m6⟩, -⟩ := entry_at (H.out.below hB HS.out) k hkl
      have HTK := Lib.hid (List.take_succ_eq_append_getElem hkl)
      have HNO := Lib.hid hno
      have HFD := Lib.hid (show decide (l[k].id = re) = true → l.find? (fun x => decide (x.id = re)) = some l[k] from fun hd => find_first hkl hno hd)
      have HKL := Lib.hid hkl
      have HLK := Lib.hid (show ∀ (j : Nat) (hj : j < l.length), j = k → l[j] = l[k] from fun j hj e => by subst e; rfl)
      have hkI : (k : Int) < (l.length : Int) := by omega
      have hcb := cell_below HBX.out hB
      clear hno hB
      generalize l[k] = q at m0 m1 m2 m3 m4 m5 m6 HTK HFD HLK
      obtain ⟨q1, q2, q3, q4, q5, q6, q7⟩ := q
      simp only at m0 m1 m2 m3 m4 m5 m6
      have HCL := Lib.hid (findLit28 wr q1 q2 q3 q4 q5 q6 (.slice la q7.length lc) bx re hcb)
      obtain ⟨bd, hbd⟩ : ∃ bd, decide (q1 = re) = bd := ⟨_, rfl⟩
      rw [hbd] at HCL
      have HBD := Lib.hid hbd
      clear hbd hcb hkl hk
      cases bd
      · go_wp2_with (go_at_call 56; refine (HCL.out).mono ?_; rintro e w1 ⟨rfl, hw⟩; have HW := Lib.hid hw; clear hw)
        go_roundw
        case rel =>
          refine ⟨k + 1, HKL.out, by go_num, fun x hx => ?_, below_step HB.out HW.out⟩
          rw [HTK.out] at hx
          rcases List.mem_append.1 hx with hx | hx
          · exact HNO.out x hx
          · rw [List.mem_singleton.1 hx]; exact HBD.out
        case measure => have := HKL.out; simp [intOf]; try omega
      · go_wp2_with (go_at_call 56; refine (HCL.out).mono ?_; rintro e w1 ⟨rfl, hw⟩; have HW := Lib.hid hw; clear hw)
        go_ret
        refine ⟨⟨(k : Int), ?_, .inr ⟨k, HKL.out, rfl, ?_⟩⟩, below_step HB.out HW.out⟩
        · first | rfl | simp
        · rw [HLK.out k HKL.out rfl]; exact HFD.out HBD.out
    · obtain rfl : k = l.length := by omega
      have hkI : ¬ ((l.length : Nat) : Int) < (l.length : Int) := by omega
      rw [List.take_length] at hno
      have HN := Lib.hid hno
      clear hno hB hkl hk
      go_wp2_with fail
      go_ret
      refine ⟨⟨-1, ?_, .inl ⟨rfl, (List.find?_eq_none (p := fun x : En => decide (x.id = re))).2 fun x hx h => by rw [HN.out x hx] at h; cases h⟩⟩, HB.out⟩
      first | rfl | simp
set_option maxHeartbeats 2000000 in
theorem cloneL28 {S : Nat → Prop} (w : World) (a : Option Addr) (c : Nat) (l : List L3) (hn : l.length ≤ 1000) (h : Rd (.sl lineT) S w [.slice a l.length c] (l.map L3.d)) (hS : ∀ b, S b → b < w.heap.size) :
    Calls Try.prog 57 #[.slice a l.length c] w fun e w' => ClP l w.heap.size w' e ∧ Below w.heap.size w w' := by
  obtain ⟨a', len', cap', he, h1, h2, h3, h4⟩ := id h
  simp only [List.cons.injEq, Value.slice.injEq, and_true] at he
  obtain ⟨rfl, rfl, rfl⟩ := he
  have hz := fun w => Lib.run_eql_slice_nil (P := Try.prog) w 91 _ a l.length c 0 0 Try.underlying91
  cases a with
  | none =>
    have h0 : l.length = 0 := by
      rcases h4 with h0 | ⟨b, off, h0, _⟩
      · exact h0
      · cases h0
    obtain rfl : l = [] := List.eq_nil_of_length_eq_zero h0
    clear h h4 h1
    simp only [Option.isNone, List.length_nil] at hz ⊢
    go_enter Try.func57, Try.ntmps57
    go_wp2
    go_ret
    exact ⟨⟨.slice none 0 0, rfl, (Owns.nil lineT 0 0 w).rd _ (fun _ h => h.elim) (fun _ h => (by cases h))⟩, Below.refl _ _⟩
  | some ad =>
    clear h4
    have H := Lib.hid h
    have H1 := Lib.hid h1
    clear h h1
    simp only [Option.isNone] at hz
    go_enter Try.func57, Try.ntmps57
    go_wp2_with (at_builtin; go_must (refine wpList_copy w rfl _ _ 91 rfl (e := lineT) info_line Try.underlying91 rfl (by decide) rfl (S := S) (sv := .slice (some ad) l.length c) (xs := l.map L3.d) rfl H.out hS (by rw [List.length_map]) (by omega) (by omega) ?_; intro g cv w1 O1 hg hB1 h5 h6; have HO1 := Lib.hid (Owns.flat (e := lineT) rfl O1); clear O1))
    go_ret
    exact ⟨⟨_, rfl, HO1.out.rd _ (fun _ h => h.elim) (fun b hb => HO1.out.own b hb)⟩, hB1⟩
/-- The zero values of what Find returns. -/
abbrev en0 : Array Value := #[.int .i64 0, .int .i64 0, .int .i64 0, .int .i64 0, .int .i64 0, .string ⟨#[]⟩, .slice none 0 0]
abbrev ln0 : Array Value := #[.int .i64 0, .int .i64 0, .int .i64 0]
/-- The boxes of Find, from block n on. -/
structure FF (n : Nat) (w W : World) (bs : Array Value) (re rl : Int) : Prop where
  r0 : W.heap[n]? = some (.cells bs 65 (0, 0))
  r1 : W.heap[n + 1]? = some (.cells #[.int .i64 re, .int .i64 rl] 41 (0, 0))
  r4 : W.heap[n + 1 + 1]? = some (.cells en0 93 (0, 0))
  r5 : W.heap[n + 1 + 1 + 1]? = some (.cells ln0 110 (0, 0))
  b : Below n w W
theorem FF.below {n : Nat} {w W W' : World} {bs : Array Value} {re rl : Int} (h : FF n w W bs re rl) (hB : Below W.heap.size W W') : FF n w W' bs re rl :=
  ⟨(hB.block _ (blk_lt h.r0)).trans h.r0, (hB.block _ (blk_lt h.r1)).trans h.r1, (hB.block _ (blk_lt h.r4)).trans h.r4, (hB.block _ (blk_lt h.r5)).trans h.r5, h.b.trans (hB.mono (Nat.le_of_lt (blk_lt h.r0)))⟩
def FW (w : World) (bs : Array Value) (re rl : Int) : World := (((w.alloc (.cells bs 65)).alloc (.cells #[.int .i64 re, .int .i64 rl] 41)).alloc (.cells en0 93)).alloc (.cells ln0 110)
theorem FW_ff (w : World) (bs : Array Value) (re rl : Int) : FF w.heap.size w (FW w bs re rl) bs re rl := by
  unfold FW
  refine ⟨?_, ?_, ?_, ?_, ?_⟩
  · exact alloc_old' (alloc_old' (alloc_old' (alloc_new' rfl)))
  · exact alloc_old' (alloc_old' (alloc_new' (by simp)))
  · exact alloc_old' (alloc_new' (by simp))
  · exact alloc_new' (by simp)
  · exact ((((Below.refl w.heap.size w).alloc (Nat.le_refl _) _).alloc (by simp) _).alloc (by simp; omega) _).alloc (by simp; omega) _
theorem find_res {fn : Func} (hr : fn.results = #[.cell 4 93, .cell 5 110, .tmp 6]) (tmps : Array Value) (W : World) (p4 p5 : Nat) (c4 c5 : Array Value) (h4 : tmps.getD 4 undef = .pointer (some ⟨p4, 0, none⟩)) (h5 : tmps.getD 5 undef = .pointer (some ⟨p5, 0, none⟩))
    (r4 : W.heap[p4]? = some (.cells c4 93 (0, 0))) (s4 : c4.size = 7) (r5 : W.heap[p5]? = some (.cells c5 110 (0, 0))) (s5 : c5.size = 3) :
    (results fn tmps).run Try.prog W = .ok (.tuple #[.agg c4, .agg c5, tmps.getD 6 undef]) W := by
  have h4' : tmps[4]?.getD undef = .pointer (some ⟨p4, 0, none⟩) := by simpa using h4
  have h5' : tmps[5]?.getD undef = .pointer (some ⟨p5, 0, none⟩) := by simpa using h5
  have e4 := run_loadVar_row (P := Try.prog) W p4 93 93 c4 (0, 0) _ r4 Try.underlying93 rfl (by rw [s4]; kernel_rfl)
  have e5 := run_loadVar_row (P := Try.prog) W p5 110 110 c5 (0, 0) _ r5 Try.underlying110 rfl (by rw [s5]; kernel_rfl)
  simp [results, hr, h4', h5', asAddr, e4, e5]
set_option maxHeartbeats 4000000 in
theorem find28 {S : Nat → Prop} (w : World) (bs : Array Value) (es : List En) (ms : List M4) (h : Bk S w bs es ms) (hS : ∀ b, S b → b < w.heap.size) (h40 : es.length ≤ 40) (h8 : ∀ e ∈ es, e.ln.length ≤ 8) (r : R2) (hr : r.ok) :
    Calls Try.prog 46 #[.agg bs, r.v] w fun e w' => FindP (findM es r) e ∧ Below w.heap.size w w' := by
  obtain ⟨re, rl⟩ := r
  unfold R2.v
  simp only
  have HS := Lib.hid hS
  have H8 := Lib.hid h8
  have HOK := Lib.hid hr
  obtain ⟨hsz, ⟨ea, ec, he, hE⟩, -⟩ := h
  obtain ⟨fo, hfo⟩ : ∃ q, findM es ⟨re, rl⟩ = q := ⟨_, rfl⟩
  rw [hfo]
  have HFO := Lib.hid hfo
  have HE := Lib.hid hE
  have HSZ := Lib.hid hsz
  have HBE := Lib.hid he
  have HFF := Lib.hid (FW_ff w bs re rl)
  clear hfo hE hsz he hS h8 hr
  go_enter Try.func46, Try.ntmps46
  go_upto_region 1 with fail
  change Code.wp _ _ _ _ (FW w bs re rl)
  generalize FW w bs re rl = w0 at *
  obtain ⟨n, hn⟩ : ∃ q, w.heap.size = q := ⟨_, rfl⟩
  rw [hn] at HFF
  have HN := Lib.hid hn
  simp only [hn]
  clear hn
  have c21 : w0.cell? ⟨n, 21, none⟩ = some (.slice ea es.length ec) := (blk_cell HFF.out.r0 21).trans HBE.out
  have hrl := HOK.out.2
  have cre : w0.cell? ⟨n + 1, 0, none⟩ = some (.int .i64 re) := blk_cell HFF.out.r1 0
  have hbS : ∀ b, S b → b < n := fun b hb => by rw [← HN.out]; exact HS.out b hb
  have HBS := Lib.hid hbS
  have hn0 : n < w0.heap.size := blk_lt HFF.out.r0
  have HIX := Lib.hid (indexE28 w0 ea ec es (by omega) (HE.out.below HFF.out.b hbS) (fun b hb => Nat.lt_trans (hbS b hb) hn0) (n + 1) re cre)
  clear cre hbS
  go_wp2_with fail
  refine HIX.out.mono ?_
  rintro e w1 ⟨⟨ri, rfl, hor⟩, hB1⟩
  have HF1 := Lib.hid (HFF.out.below hB1)
  have d21 := cell_below c21 hB1
  have d1 : w1.cell? ⟨n + 1, 1, none⟩ = some (.int .i64 rl) := blk_cell HF1.out.r1 1
  clear hB1 c21 HIX
  go_wp2_with fail
  rcases hor with ⟨rfl, hno⟩ | ⟨j, hj, rfl, hfd⟩
  · have HNF := Lib.hid (show fo = none from by rw [← HFO.out]; unfold findM; rw [show es.find? (fun e => decide (e.id = re)) = none from hno])
    have hC0 : Cells [] w1 := trivial
    clear d21 d1 hno
    refine wp_region_T (Cells []) (fun _ => false) (by kernel_rfl) ?_
    have hSss1 := Cells.drew hC0
    have hB_0_s1 : Below w1.heap.size w1 w1.drew := below_drew _
    generalize w1.drew = s1 at hSss1 hB_0_s1 ⊢
    have hB_s1_s1 := Below.refl s1.heap.size s1
    refine wpAnyT_pure (i := 0) (v := ?_) rfl (by kernel_rfl) (by kernel_rfl) (by kernel_rfl) (fun _ _ _ h => h) (by rfl) ?_ ?_
    rotate_left
    · intro w; go_simp; try with_reducible rfl
    simp only [Act.put, rgA, rgB, rgC, rgD, rgE, rgF]
    refine wpAnyT_pure (i := 1) (v := ?_) rfl (by kernel_rfl) (by kernel_rfl) (by kernel_rfl) (fun _ _ _ h => h) (by rfl) ?_ ?_
    rotate_left
    · intro w; go_simp; try with_reducible rfl
    simp only [Act.put, rgA, rgB, rgC, rgD, rgE, rgF]
    refine wpAnyT_pure (i := 2) (v := ?_) rfl (by kernel_rfl) (by kernel_rfl) (by kernel_rfl) (fun _ _ _ h => h) (by rfl) ?_ ?_
    rotate_left
    · intro w; go_simp; try with_reducible rfl
    simp only [Act.put, rgA, rgB, rgC, rgD, rgE, rgF]
    refine wpAnyT_skip (i := 3) rfl (by kernel_rfl) (by kernel_rfl) (by kernel_rfl) (fun _ _ _ h => h) (by rfl) ?_
    simp only [Act.put, rgA, rgB, rgC, rgD, rgE, rgF]
    refine wpAnyT_skip (i := 4) rfl (by kernel_rfl) (by kernel_rfl) (by kernel_rfl) (fun _ _ _ h => h) (by rfl) ?_
    simp only [Act.put, rgA, rgB, rgC, rgD, rgE, rgF]
    refine wpAnyT_skip (i := 5) rfl (by kernel_rfl) (by kernel_rfl) (by kernel_rfl) (fun _ _ _ h => h) (by rfl) ?_
    simp only [Act.put, rgA, rgB, rgC, rgD, rgE, rgF]
    refine wpAnyT_pure (i := 6) (v := ?_) rfl (by kernel_rfl) (by kernel_rfl) (by kernel_rfl) (fun _ _ _ h => h) (by rfl) ?_ ?_
    rotate_left
    · intro w; go_simp; try with_reducible rfl
    simp only [Act.put, rgA, rgB, rgC, rgD, rgE, rgF]
    refine wpAnyT_pure (i := 7) (v := ?_) rfl (by kernel_rfl) (by kernel_rfl) (by kernel_rfl) (fun _ _ _ h => h) (by rfl) ?_ ?_
    rotate_left
    · intro w; go_simp; try with_reducible rfl
    simp only [Act.put, rgA, rgB, rgC, rgD, rgE, rgF]
    refine wpAnyT_skip (i := 8) rfl (by kernel_rfl) (by kernel_rfl) (by kernel_rfl) (fun _ _ _ h => h) (by rfl) ?_
    simp only [Act.put, rgA, rgB, rgC, rgD, rgE, rgF]
    refine wpAnyT_skip (i := 9) rfl (by kernel_rfl) (by kernel_rfl) (by kernel_rfl) (fun _ _ _ h => h) (by rfl) ?_
    simp only [Act.put, rgA, rgB, rgC, rgD, rgE, rgF]
    refine wpAnyT_skip (i := 10) rfl (by kernel_rfl) (by kernel_rfl) (by kernel_rfl) (fun _ _ _ h => h) (by rfl) ?_
    simp only [Act.put, rgA, rgB, rgC, rgD, rgE, rgF]
    refine wpAnyT_skip (i := 11) rfl (by kernel_rfl) (by kernel_rfl) (by kernel_rfl) (fun _ _ _ h => h) (by rfl) ?_
    simp only [Act.put, rgA, rgB, rgC, rgD, rgE, rgF]
    refine wpAnyT_skip (i := 12) rfl (by kernel_rfl) (by kernel_rfl) (by kernel_rfl) (fun _ _ _ h => h) (by rfl) ?_
    simp only [Act.put, rgA, rgB, rgC, rgD, rgE, rgF]
    refine wpAnyT_skip (i := 13) rfl (by kernel_rfl) (by kernel_rfl) (by kernel_rfl) (fun _ _ _ h => h) (by rfl) ?_
    simp only [Act.put, rgA, rgB, rgC, rgD, rgE, rgF]
    refine wpAnyT_skip (i := 14) rfl (by kernel_rfl) (by kernel_rfl) (by kernel_rfl) (fun _ _ _ h => h) (by rfl) ?_
    simp only [Act.put, rgA, rgB, rgC, rgD, rgE, rgF]
    refine wpAnyT_skip (i := 15) rfl (by kernel_rfl) (by kernel_rfl) (by kernel_rfl) (fun _ _ _ h => h) (by rfl) ?_
    simp only [Act.put, rgA, rgB, rgC, rgD, rgE, rgF]
    refine wpAnyT_skip (i := 16) rfl (by kernel_rfl) (by kernel_rfl) (by kernel_rfl) (fun _ _ _ h => h) (by rfl) ?_
    simp only [Act.put, rgA, rgB, rgC, rgD, rgE, rgF]
    refine wpAnyT_skip (i := 17) rfl (by kernel_rfl) (by kernel_rfl) (by kernel_rfl) (fun _ _ _ h => h) (by rfl) ?_
    simp only [Act.put, rgA, rgB, rgC, rgD, rgE, rgF]
    refine wpAnyT_pure (i := 18) (v := ?_) rfl (by kernel_rfl) (by kernel_rfl) (by kernel_rfl) (fun _ _ _ h => h) (by rfl) ?_ ?_
    rotate_left
    · intro w; go_simp; try with_reducible rfl
    simp only [Act.put, rgA, rgB, rgC, rgD, rgE, rgF]
    refine wpAnyT_done (by kernel_rfl) ?_ _
    obtain ⟨w2, rfl⟩ : ∃ q, q = s1 := ⟨_, rfl⟩
    have HF2 := Lib.hid (HF1.out.below (hB_0_s1))
    have HR4 := Lib.hid HF2.out.r4
    have HR5 := Lib.hid ((setRow_other w2 (n + 1 + 1) (n + 1 + 1 + 1) en0 (by omega)).trans HF2.out.r5)
    have HE4 := Lib.hid ((setRow_other (w2.setRow (n + 1 + 1) en0) (n + 1 + 1 + 1) (n + 1 + 1) ln0 (by omega)).trans (setRow_heap w2 (n + 1 + 1) _ en0 _ _ HF2.out.r4))
    have HE5 := Lib.hid (setRow_heap (w2.setRow (n + 1 + 1) en0) (n + 1 + 1 + 1) _ ln0 _ _ HR5.out)
    have HEB := Lib.hid (below_setRow (below_setRow HF2.out.b (show n ≤ n + 1 + 1 by omega) en0) (show n ≤ n + 1 + 1 + 1 by omega) ln0)
    go_wp2_with (first | (have hq := HR4; clear HR4; refine wpList_store_row rfl _ _ _ rfl (n + 1 + 1) en0 rfl rfl 93 _ hq.out (by kernel_rfl) (by rfl) (by kernel_rfl) ?_) | (have hq := HR5; clear HR5; refine wpList_store_row rfl _ _ _ rfl (n + 1 + 1 + 1) ln0 rfl rfl 110 _ hq.out (by kernel_rfl) (by rfl) (by kernel_rfl) ?_))
    (try simp only [Exit.inBlock, Exit.then])
    refine bodyPost_ret (find_res rfl _ _ (n + 1 + 1) (n + 1 + 1 + 1) en0 ln0 rfl rfl HE4.out rfl HE5.out rfl) rfl ?_
    rw [HNF.out]
    exact ⟨⟨_, _, _, _, _, _, _, _, _, _, _, _, false, rfl, rfl⟩, by rw [HN.out]; exact HEB.out⟩
  · obtain ⟨eb, eo, la, lc, rfl, hebS, ⟨m0, m1, m2, m3, m4, m5, m6⟩, hL⟩ := entry_at (HE.out.below HF1.out.b HBS.out) j hj
    have h8j := H8.out es[j] (List.getElem_mem hj)
    generalize es[j] = q at m0 m1 m2 m3 m4 m5 m6 hL hfd h8j
    obtain ⟨q1, q2, q3, q4, q5, q6, q7⟩ := q
    simp only at m0 m1 m2 m3 m4 m5 m6 hL h8j
    have HFV := Lib.hid (show fo = if rl < 0 ∨ (q7.length : Int) ≤ rl then none else some (q2, (q7[rl.toNat]?.getD default).pa) from by rw [← HFO.out]; unfold findM; rw [show es.find? (fun e => decide (e.id = re)) = _ from hfd])
    have HM := Lib.hid (And.intro m0 (And.intro m1 (And.intro m2 (And.intro m3 (And.intro m4 (And.intro m5 m6))))))
    have HL := Lib.hid hL
    have hjI : (j : Int) < (es.length : Int) := by omega
    have hj0 : ¬ (j : Int) < 0 := by omega
    clear hfd hL m0 m1 m2 m3 m4 m5
    by_cases hr0 : rl < 0
    · have HNF := Lib.hid (show fo = none from by rw [HFV.out, if_pos (.inl hr0)])
      have hC0 : Cells [(⟨n + 1, 1, none⟩, .int .i64 rl)] w1 := ⟨d1, trivial⟩
      clear d21 d1 m6
      refine wp_region_T (Cells [(⟨n + 1, 1, none⟩, .int .i64 rl)]) (fun _ => false) (by kernel_rfl) ?_
      have hSss2 := Cells.drew hC0
      have hB_0_s2 : Below w1.heap.size w1 w1.drew := below_drew _
      generalize w1.drew = s2 at hSss2 hB_0_s2 ⊢
      have hB_s2_s2 := Below.refl s2.heap.size s2
      refine wpAnyT_pure (i := 0) (v := ?_) rfl (by kernel_rfl) (by kernel_rfl) (by kernel_rfl) (fun _ _ _ h => h) (by rfl) ?_ ?_
      rotate_left
      · intro w; go_simp; try with_reducible rfl
      simp only [Act.put, rgA, rgB, rgC, rgD, rgE, rgF]
      refine wpAnyT_pure (i := 1) (v := ?_) rfl (by kernel_rfl) (by kernel_rfl) (by kernel_rfl) (fun _ _ _ h => h) (by rfl) ?_ ?_
      rotate_left
      · intro w; go_simp; try with_reducible rfl
      simp only [Act.put, rgA, rgB, rgC, rgD, rgE, rgF]
      refine wpAnyT_pure (i := 2) (v := ?_) rfl (by kernel_rfl) (by kernel_rfl) (by kernel_rfl) (fun _ _ _ h => h) (by rfl) ?_ ?_
      rotate_left
      · intro w; go_simp; try with_reducible rfl
      simp only [Act.put, rgA, rgB, rgC, rgD, rgE, rgF]
      refine wpAnyT_pure (i := 3) (v := ?_) rfl (by kernel_rfl) (by kernel_rfl) (by kernel_rfl) (fun _ _ _ h => h) (by rfl) ?_ ?_
      rotate_left
      · intro w; go_simp; try with_reducible rfl
      simp only [Act.put, rgA, rgB, rgC, rgD, rgE, rgF]
      refine wpAnyT_loadW (i := 4) (v := ?_) rfl (by kernel_rfl) (by kernel_rfl) (by kernel_rfl) (by kernel_rfl) (by kernel_rfl) (fun _ _ _ h => h) (Or.inl ⟨by rfl, ?_⟩) hSss2 ?_
      rotate_left
      · intro w hSw; obtain ⟨e0, -⟩ := hSw; go_simp; try with_reducible rfl
      simp only [Act.put, rgA, rgB, rgC, rgD, rgE, rgF]
      refine wpAnyT_pure (i := 5) (v := ?_) rfl (by kernel_rfl) (by kernel_rfl) (by kernel_rfl) (fun _ _ _ h => h) (by rfl) ?_ ?_
      rotate_left
      · intro w; go_simp; try with_reducible rfl
      simp only [Act.put, rgA, rgB, rgC, rgD, rgE, rgF]
      refine wpAnyT_pure (i := 6) (v := ?_) rfl (by kernel_rfl) (by kernel_rfl) (by kernel_rfl) (fun _ _ _ h => h) (by rfl) ?_ ?_
      rotate_left
      · intro w; go_simp; try with_reducible rfl
      simp only [Act.put, rgA, rgB, rgC, rgD, rgE, rgF]
      refine wpAnyT_pure (i := 7) (v := ?_) rfl (by kernel_rfl) (by kernel_rfl) (by kernel_rfl) (fun _ _ _ h => h) (by rfl) ?_ ?_
      rotate_left
      · intro w; go_simp; try with_reducible rfl
      simp only [Act.put, rgA, rgB, rgC, rgD, rgE, rgF]
      refine wpAnyT_skip (i := 8) rfl (by kernel_rfl) (by kernel_rfl) (by kernel_rfl) (fun _ _ _ h => h) (by rfl) ?_
      simp only [Act.put, rgA, rgB, rgC, rgD, rgE, rgF]
      refine wpAnyT_skip (i := 9) rfl (by kernel_rfl) (by kernel_rfl) (by kernel_rfl) (fun _ _ _ h => h) (by rfl) ?_
      simp only [Act.put, rgA, rgB, rgC, rgD, rgE, rgF]
      refine wpAnyT_skip (i := 10) rfl (by kernel_rfl) (by kernel_rfl) (by kernel_rfl) (fun _ _ _ h => h) (by rfl) ?_
      simp only [Act.put, rgA, rgB, rgC, rgD, rgE, rgF]
      refine wpAnyT_skip (i := 11) rfl (by kernel_rfl) (by kernel_rfl) (by kernel_rfl) (fun _ _ _ h => h) (by rfl) ?_
      simp only [Act.put, rgA, rgB, rgC, rgD, rgE, rgF]
      refine wpAnyT_skip (i := 12) rfl (by kernel_rfl) (by kernel_rfl) (by kernel_rfl) (fun _ _ _ h => h) (by rfl) ?_
      simp only [Act.put, rgA, rgB, rgC, rgD, rgE, rgF]
      refine wpAnyT_skip (i := 13) rfl (by kernel_rfl) (by kernel_rfl) (by kernel_rfl) (fun _ _ _ h => h) (by rfl) ?_
      simp only [Act.put, rgA, rgB, rgC, rgD, rgE, rgF]
      refine wpAnyT_skip (i := 14) rfl (by kernel_rfl) (by kernel_rfl) (by kernel_rfl) (fun _ _ _ h => h) (by rfl) ?_
      simp only [Act.put, rgA, rgB, rgC, rgD, rgE, rgF]
      refine wpAnyT_skip (i := 15) rfl (by kernel_rfl) (by kernel_rfl) (by kernel_rfl) (fun _ _ _ h => h) (by rfl) ?_
      simp only [Act.put, rgA, rgB, rgC, rgD, rgE, rgF]
      refine wpAnyT_skip (i := 16) rfl (by kernel_rfl) (by kernel_rfl) (by kernel_rfl) (fun _ _ _ h => h) (by rfl) ?_
      simp only [Act.put, rgA, rgB, rgC, rgD, rgE, rgF]
      refine wpAnyT_skip (i := 17) rfl (by kernel_rfl) (by kernel_rfl) (by kernel_rfl) (fun _ _ _ h => h) (by rfl) ?_
      simp only [Act.put, rgA, rgB, rgC, rgD, rgE, rgF]
      refine wpAnyT_pure (i := 18) (v := ?_) rfl (by kernel_rfl) (by kernel_rfl) (by kernel_rfl) (fun _ _ _ h => h) (by rfl) ?_ ?_
      rotate_left
      · intro w; go_simp; try with_reducible rfl
      simp only [Act.put, rgA, rgB, rgC, rgD, rgE, rgF]
      refine wpAnyT_done (by kernel_rfl) ?_ _
      obtain ⟨w2, rfl⟩ : ∃ q, q = s2 := ⟨_, rfl⟩
      have HF2 := Lib.hid (HF1.out.below (hB_0_s2))
      have HR4 := Lib.hid HF2.out.r4
      have HR5 := Lib.hid ((setRow_other w2 (n + 1 + 1) (n + 1 + 1 + 1) en0 (by omega)).trans HF2.out.r5)
      have HE4 := Lib.hid ((setRow_other (w2.setRow (n + 1 + 1) en0) (n + 1 + 1 + 1) (n + 1 + 1) ln0 (by omega)).trans (setRow_heap w2 (n + 1 + 1) _ en0 _ _ HF2.out.r4))
      have HE5 := Lib.hid (setRow_heap (w2.setRow (n + 1 + 1) en0) (n + 1 + 1 + 1) _ ln0 _ _ HR5.out)
      have HEB := Lib.hid (below_setRow (below_setRow HF2.out.b (show n ≤ n + 1 + 1 by omega) en0) (show n ≤ n + 1 + 1 + 1 by omega) ln0)
      go_wp2_with (first | (have hq := HR4; clear HR4; refine wpList_store_row rfl _ _ _ rfl (n + 1 + 1) en0 rfl rfl 93 _ hq.out (by kernel_rfl) (by rfl) (by kernel_rfl) ?_) | (have hq := HR5; clear HR5; refine wpList_store_row rfl _ _ _ rfl (n + 1 + 1 + 1) ln0 rfl rfl 110 _ hq.out (by kernel_rfl) (by rfl) (by kernel_rfl) ?_))
      (try simp only [Exit.inBlock, Exit.then])
      refine bodyPost_ret (find_res rfl _ _ (n + 1 + 1) (n + 1 + 1 + 1) en0 ln0 rfl rfl HE4.out rfl HE5.out rfl) rfl ?_
      rw [HNF.out]
      exact ⟨⟨_, _, _, _, _, _, _, _, _, _, _, _, false, rfl, rfl⟩, by rw [HN.out]; exact HEB.out⟩
    have hC0 : Cells [(⟨n + 1, 1, none⟩, .int .i64 rl), (⟨n, 21, none⟩, .slice (some ⟨eb, eo, none⟩) es.length ec), (⟨eb, eo + j * 7 + 6, none⟩, .slice la q7.length lc)] w1 := ⟨d1, d21, m6, trivial⟩
    clear d21 d1 m6
    refine wp_region_T (Cells [(⟨n + 1, 1, none⟩, .int .i64 rl), (⟨n, 21, none⟩, .slice (some ⟨eb, eo, none⟩) es.length ec), (⟨eb, eo + j * 7 + 6, none⟩, .slice la q7.length lc)]) (fun _ => false) (by kernel_rfl) ?_
    have hSss3 := Cells.drew hC0
    have hB_0_s3 : Below w1.heap.size w1 w1.drew := below_drew _
    generalize w1.drew = s3 at hSss3 hB_0_s3 ⊢
    have hB_s3_s3 := Below.refl s3.heap.size s3
    refine wpAnyT_pure (i := 0) (v := ?_) rfl (by kernel_rfl) (by kernel_rfl) (by kernel_rfl) (fun _ _ _ h => h) (by rfl) ?_ ?_
    rotate_left
    · intro w; go_simp; try with_reducible rfl
    simp only [Act.put, rgA, rgB, rgC, rgD, rgE, rgF]
    refine wpAnyT_pure (i := 1) (v := ?_) rfl (by kernel_rfl) (by kernel_rfl) (by kernel_rfl) (fun _ _ _ h => h) (by rfl) ?_ ?_
    rotate_left
    · intro w; go_simp; try with_reducible rfl
    simp only [Act.put, rgA, rgB, rgC, rgD, rgE, rgF]
    refine wpAnyT_pure (i := 2) (v := ?_) rfl (by kernel_rfl) (by kernel_rfl) (by kernel_rfl) (fun _ _ _ h => h) (by rfl) ?_ ?_
    rotate_left
    · intro w; go_simp; try with_reducible rfl
    simp only [Act.put, rgA, rgB, rgC, rgD, rgE, rgF]
    refine wpAnyT_pure (i := 3) (v := ?_) rfl (by kernel_rfl) (by kernel_rfl) (by kernel_rfl) (fun _ _ _ h => h) (by rfl) ?_ ?_
    rotate_left
    · intro w; go_simp; try with_reducible rfl
    simp only [Act.put, rgA, rgB, rgC, rgD, rgE, rgF]
    refine wpAnyT_loadW (i := 4) (v := ?_) rfl (by kernel_rfl) (by kernel_rfl) (by kernel_rfl) (by kernel_rfl) (by kernel_rfl) (fun _ _ _ h => h) (Or.inl ⟨by rfl, ?_⟩) hSss3 ?_
    rotate_left
    · intro w hSw; obtain ⟨e0, e1, e2, -⟩ := hSw; go_simp; try with_reducible rfl
    simp only [Act.put, rgA, rgB, rgC, rgD, rgE, rgF]
    refine wpAnyT_pure (i := 5) (v := ?_) rfl (by kernel_rfl) (by kernel_rfl) (by kernel_rfl) (fun _ _ _ h => h) (by rfl) ?_ ?_
    rotate_left
    · intro w; go_simp; try with_reducible rfl
    simp only [Act.put, rgA, rgB, rgC, rgD, rgE, rgF]
    refine wpAnyT_pure (i := 6) (v := ?_) rfl (by kernel_rfl) (by kernel_rfl) (by kernel_rfl) (fun _ _ _ h => h) (by rfl) ?_ ?_
    rotate_left
    · intro w; go_simp; try with_reducible rfl
    simp only [Act.put, rgA, rgB, rgC, rgD, rgE, rgF]
    refine wpAnyT_pure (i := 7) (v := ?_) rfl (by kernel_rfl) (by kernel_rfl) (by kernel_rfl) (fun _ _ _ h => h) (by rfl) ?_ ?_
    rotate_left
    · intro w; go_simp; try with_reducible rfl
    simp only [Act.put, rgA, rgB, rgC, rgD, rgE, rgF]
    refine wpAnyT_pure (i := 8) (v := ?_) rfl (by kernel_rfl) (by kernel_rfl) (by kernel_rfl) (fun _ _ _ h => h) (by rfl) ?_ ?_
    rotate_left
    · intro w; go_simp; try with_reducible rfl
    simp only [Act.put, rgA, rgB, rgC, rgD, rgE, rgF]
    refine wpAnyT_pure (i := 10) (v := ?_) rfl (by kernel_rfl) (by kernel_rfl) (by kernel_rfl) (fun _ _ _ h => h) (by rfl) ?_ ?_
    rotate_left
    · intro w; go_simp; try with_reducible rfl
    simp only [Act.put, rgA, rgB, rgC, rgD, rgE, rgF]
    refine wpAnyT_pure (i := 12) (v := ?_) rfl (by kernel_rfl) (by kernel_rfl) (by kernel_rfl) (fun _ _ _ h => h) (by rfl) ?_ ?_
    rotate_left
    · intro w; go_simp; try with_reducible rfl
    simp only [Act.put, rgA, rgB, rgC, rgD, rgE, rgF]
    refine wpAnyT_loadW (i := 9) (v := ?_) rfl (by kernel_rfl) (by kernel_rfl) (by kernel_rfl) (by kernel_rfl) (by kernel_rfl) (fun _ _ _ h => h) (Or.inl ⟨by rfl, ?_⟩) hSss3 ?_
    rotate_left
    · intro w hSw; obtain ⟨e0, e1, e2, -⟩ := hSw; go_simp; try with_reducible rfl
    simp only [Act.put, rgA, rgB, rgC, rgD, rgE, rgF]
    refine wpAnyT_loadW (i := 11) (v := ?_) rfl (by kernel_rfl) (by kernel_rfl) (by kernel_rfl) (by kernel_rfl) (by kernel_rfl) (fun _ _ _ h => h) (Or.inl ⟨by rfl, ?_⟩) hSss3 ?_
    rotate_left
    · intro w hSw; obtain ⟨e0, e1, e2, -⟩ := hSw; go_simp; try with_reducible rfl
    simp only [Act.put, rgA, rgB, rgC, rgD, rgE, rgF]
    refine wpAnyT_pure (i := 13) (v := ?_) rfl (by kernel_rfl) (by kernel_rfl) (by kernel_rfl) (fun _ _ _ h => h) (by rfl) ?_ ?_
    rotate_left
    · intro w; go_simp; try with_reducible rfl
    simp only [Act.put, rgA, rgB, rgC, rgD, rgE, rgF]
    refine wpAnyT_pure (i := 14) (v := ?_) rfl (by kernel_rfl) (by kernel_rfl) (by kernel_rfl) (fun _ _ _ h => h) (by rfl) ?_ ?_
    rotate_left
    · intro w; go_simp; try with_reducible rfl
    simp only [Act.put, rgA, rgB, rgC, rgD, rgE, rgF]
    refine wpAnyT_loadW (i := 15) (v := ?_) rfl (by kernel_rfl) (by kernel_rfl) (by kernel_rfl) (by kernel_rfl) (by kernel_rfl) (fun _ _ _ h => h) (Or.inl ⟨by rfl, ?_⟩) hSss3 ?_
    rotate_left
    · intro w hSw; obtain ⟨e0, e1, e2, -⟩ := hSw; go_simp; try with_reducible rfl
    simp only [Act.put, rgA, rgB, rgC, rgD, rgE, rgF]
    refine wpAnyT_pure (i := 16) (v := ?_) rfl (by kernel_rfl) (by kernel_rfl) (by kernel_rfl) (fun _ _ _ h => h) (by rfl) ?_ ?_
    rotate_left
    · intro w; go_simp; try with_reducible rfl
    simp only [Act.put, rgA, rgB, rgC, rgD, rgE, rgF]
    refine wpAnyT_pure (i := 17) (v := ?_) rfl (by kernel_rfl) (by kernel_rfl) (by kernel_rfl) (fun _ _ _ h => h) (by rfl) ?_ ?_
    rotate_left
    · intro w; go_simp; try with_reducible rfl
    simp only [Act.put, rgA, rgB, rgC, rgD, rgE, rgF]
    refine wpAnyT_pure (i := 18) (v := ?_) rfl (by kernel_rfl) (by kernel_rfl) (by kernel_rfl) (fun _ _ _ h => h) (by rfl) ?_ ?_
    rotate_left
    · intro w; go_simp; try with_reducible rfl
    simp only [Act.put, rgA, rgB, rgC, rgD, rgE, rgF]
    refine wpAnyT_done (by kernel_rfl) ?_ _
    obtain ⟨w2, rfl⟩ : ∃ q, q = s3 := ⟨_, rfl⟩
    have HB2 := Lib.hid hB_0_s3
    have HF2 := Lib.hid (HF1.out.below (hB_0_s3))
    have HC2 := Lib.hid (hSss3)
    by_cases hr1 : (q7.length : Int) ≤ rl
    · have HNF := Lib.hid (show fo = none from by rw [HFV.out, if_pos (.inr hr1)])
      have HR4 := Lib.hid HF2.out.r4
      have HR5 := Lib.hid ((setRow_other w2 (n + 1 + 1) (n + 1 + 1 + 1) en0 (by omega)).trans HF2.out.r5)
      have HE4 := Lib.hid ((setRow_other (w2.setRow (n + 1 + 1) en0) (n + 1 + 1 + 1) (n + 1 + 1) ln0 (by omega)).trans (setRow_heap w2 (n + 1 + 1) _ en0 _ _ HF2.out.r4))
      have HE5 := Lib.hid (setRow_heap (w2.setRow (n + 1 + 1) en0) (n + 1 + 1 + 1) _ ln0 _ _ HR5.out)
      have HEB := Lib.hid (below_setRow (below_setRow HF2.out.b (show n ≤ n + 1 + 1 by omega) en0) (show n ≤ n + 1 + 1 + 1 by omega) ln0)
      go_wp2_with (first | (have hq := HR4; clear HR4; refine wpList_store_row rfl _ _ _ rfl (n + 1 + 1) en0 rfl rfl 93 _ hq.out (by kernel_rfl) (by rfl) (by kernel_rfl) ?_) | (have hq := HR5; clear HR5; refine wpList_store_row rfl _ _ _ rfl (n + 1 + 1 + 1) ln0 rfl rfl 110 _ hq.out (by kernel_rfl) (by rfl) (by kernel_rfl) ?_))
      (try simp only [Exit.inBlock, Exit.then])
      refine bodyPost_ret (find_res rfl _ _ (n + 1 + 1) (n + 1 + 1 + 1) en0 ln0 rfl rfl HE4.out rfl HE5.out rfl) rfl ?_
      rw [HNF.out]
      exact ⟨⟨_, _, _, _, _, _, _, _, _, _, _, _, false, rfl, rfl⟩, by rw [HN.out]; exact HEB.out⟩
    obtain ⟨k, rfl⟩ := Int.eq_ofNat_of_zero_le (show 0 ≤ rl by omega)
    have hkl : k < q7.length := by omega
    have HFS := Lib.hid (show fo = some (q2, q7[k].pa) from by rw [HFV.out, if_neg (by omega), Int.toNat_natCast, List.getElem?_eq_getElem hkl]; rfl)
    obtain ⟨g1, g21, g6, -⟩ := HC2.out
    have HMW := HM.out
    obtain ⟨e0, e1, e2, e3, e4, e5, -⟩ := HMW
    have e0 := cell_below e0 HB2.out
    have e1 := cell_below e1 HB2.out
    have e2 := cell_below e2 HB2.out
    have e3 := cell_below e3 HB2.out
    have e4 := cell_below e4 HB2.out
    have e5 := cell_below e5 HB2.out
    have hrow8 := heap_alloc_new w2 (.cells #[.int .i64 q1, .int .i64 q2, .int .i64 q3, .int .i64 q4, .int .i64 q5, .string q6, .slice la q7.length lc] 93)
    have hb8 := (Below.refl w2.heap.size w2).alloc (Nat.le_refl _) (.cells #[.int .i64 q1, .int .i64 q2, .int .i64 q3, .int .i64 q4, .int .i64 q5, .string q6, .slice la q7.length lc] 93)
    have HR8 := Lib.hid hrow8
    have HF3 := Lib.hid (HF2.out.below hb8)
    have hn2 : n + 1 + 1 + 1 < w2.heap.size := blk_lt HF2.out.r5
    have HN2 := Lib.hid hn2
    have hLb := HL.out.below (below_step HB2.out hb8) (fun b hb => Nat.lt_of_lt_of_le (HBS.out b hb) (Nat.le_of_lt (blk_lt HF1.out.r0)))
    have HCL := Lib.hid (cloneL28 (S := S) _ la lc q7 (by omega) hLb (fun b hb => Nat.lt_trans (HBS.out b hb) (blk_lt HF3.out.r0)))
    clear hrow8 hb8 hLb hn2 HM
    go_upto_region 5 with fail
    generalize World.alloc w2 (.cells #[.int .i64 q1, .int .i64 q2, .int .i64 q3, .int .i64 q4, .int .i64 q5, .string q6, .slice la q7.length lc] 93) = w3 at *
    obtain ⟨b8, hb8e⟩ : ∃ q, w2.heap.size = q := ⟨_, rfl⟩
    rw [hb8e] at HR8 HN2
    simp only [hb8e]
    clear hb8e e0 e1 e2 e3 e4 e5 g1 g21 g6
    have c86 : w3.cell? ⟨b8, 6, none⟩ = some (.slice la q7.length lc) := blk_cell HR8.out 6
    go_wp2_with fail
    refine HCL.out.mono ?_
    rintro e w4 ⟨⟨v, rfl, hR⟩, hB4⟩
    obtain ⟨va, vl, vc, hv, -⟩ := id hR
    simp only [List.cons.injEq, and_true] at hv
    subst hv
    have hvl := rd_len hR
    subst hvl
    have hr8 := (hB4.block _ (blk_lt HR8.out)).trans HR8.out
    have HF4 := Lib.hid (HF3.out.below hB4)
    have HLT8 := Lib.hid (show b8 < w3.heap.size from blk_lt HR8.out)
    have HR8' := Lib.hid hr8
    have HRL := Lib.hid hR
    have f86 := blk_frozen hr8 6
    have d86 : w4.cell? ⟨b8, 6, none⟩ = some (.slice la q7.length lc) := blk_cell hr8 6
    clear c86 hR hB4 hr8 HCL HR8
    go_wp2_with fail
    have hs8 := blk_set (i := 6) HR8'.out (.slice va q7.length vc)
    have hg8 : Gr (fun x => x = b8) w4 (w4.setCell ⟨b8, 6, none⟩ (.slice va q7.length vc)) := Gr.setCell (Gr.refl _ w4) (by exact .inl rfl) _
    have HG8 := Lib.hid hg8
    have HS8 := Lib.hid (show (w4.setCell ⟨b8, 6, none⟩ (.slice va q7.length vc)).heap[b8]? = some (.cells #[.int .i64 q1, .int .i64 q2, .int .i64 q3, .int .i64 q4, .int .i64 q5, .string q6, .slice va q7.length vc] 93 (0, 0)) from hs8)
    clear hs8 hg8 f86 d86
    generalize w4.setCell ⟨b8, 6, none⟩ (.slice va q7.length vc) = w5 at *
    have h8n := HN2.out
    have HF5 := Lib.hid (show FF n w w5 bs re (k : Int) from ⟨blk_gr HG8.out HF4.out.r0 (by omega), blk_gr HG8.out HF4.out.r1 (by omega), blk_gr HG8.out HF4.out.r4 (by omega), blk_gr HG8.out HF4.out.r5 (by omega), HF4.out.b.trans (HG8.out.below (fun b e => by omega) (Nat.le_of_lt (blk_lt HF4.out.r0)))⟩)
    have hRL5 := HRL.out.gr HG8.out (S' := fun b => w3.heap.size ≤ b ∧ b < w4.heap.size) (fun b hb => ⟨hb.2, fun e => by have := HLT8.out; have := hb.1; omega⟩) (fun _ h => h)
    obtain ⟨vb, vo, rfl, hvbS, l0, l1, l2, -⟩ := line_at hRL5 k hkl
    generalize q7[k] = ln at l0 l1 l2 HFS
    obtain ⟨ac, am, pa⟩ := ln
    simp only at l0 l1 l2 HFS
    have s8 := fun i => blk_cell HS8.out i
    have hC5 : Cells [(⟨b8, 0, none⟩, .int .i64 q1), (⟨b8, 1, none⟩, .int .i64 q2), (⟨b8, 2, none⟩, .int .i64 q3), (⟨b8, 3, none⟩, .int .i64 q4), (⟨b8, 4, none⟩, .int .i64 q5), (⟨b8, 5, none⟩, .string q6), (⟨b8, 6, none⟩, .slice (some ⟨vb, vo, none⟩) q7.length vc), (⟨n + 1, 1, none⟩, .int .i64 (k : Int)), (⟨vb, vo + k * 3, none⟩, .int .i64 ac), (⟨vb, vo + k * 3 + 1, none⟩, .int .i64 am), (⟨vb, vo + k * 3 + 2, none⟩, .int .i64 pa)] w5 :=
      ⟨s8 0, s8 1, s8 2, s8 3, s8 4, s8 5, s8 6, blk_cell HF5.out.r1 1, l0, l1, l2, trivial⟩
    have hkI : (k : Int) < (q7.length : Int) := by omega
    clear s8 l0 l1 l2 hRL5
    have hvn : n + 1 + 1 < vb := by have h1 := blk_lt HF3.out.r4; have h2 : w3.heap.size ≤ vb := hvbS.1; omega
    refine wp_region_T (Cells [(⟨b8, 0, none⟩, .int .i64 q1), (⟨b8, 1, none⟩, .int .i64 q2), (⟨b8, 2, none⟩, .int .i64 q3), (⟨b8, 3, none⟩, .int .i64 q4), (⟨b8, 4, none⟩, .int .i64 q5), (⟨b8, 5, none⟩, .string q6), (⟨b8, 6, none⟩, .slice (some ⟨vb, vo, none⟩) q7.length vc), (⟨n + 1, 1, none⟩, .int .i64 (k : Int)), (⟨vb, vo + k * 3, none⟩, .int .i64 ac), (⟨vb, vo + k * 3 + 1, none⟩, .int .i64 am), (⟨vb, vo + k * 3 + 2, none⟩, .int .i64 pa)]) (fun i => i == 8) (by kernel_rfl) ?_
    have hSss4 := Cells.drew hC5
    have hB_0_s4 : Below w5.heap.size w5 w5.drew := below_drew _
    generalize w5.drew = s4 at hSss4 hB_0_s4 ⊢
    have hB_s4_s4 := Below.refl s4.heap.size s4
    refine wpAnyT_pure (i := 1) (v := ?_) rfl (by kernel_rfl) (by kernel_rfl) (by kernel_rfl) (fun _ _ _ h => h) (by rfl) ?_ ?_
    rotate_left
    · intro w; go_simp; try with_reducible rfl
    simp only [Act.put, rgA, rgB, rgC, rgD, rgE, rgF]
    refine wpAnyT_pure (i := 3) (v := ?_) rfl (by kernel_rfl) (by kernel_rfl) (by kernel_rfl) (fun _ _ _ h => h) (by rfl) ?_ ?_
    rotate_left
    · intro w; go_simp; try with_reducible rfl
    simp only [Act.put, rgA, rgB, rgC, rgD, rgE, rgF]
    refine wpAnyT_loadW (i := 0) (v := ?_) rfl (by kernel_rfl) (by kernel_rfl) (by kernel_rfl) (by kernel_rfl) (by kernel_rfl) (fun _ _ _ h => h) (Or.inl ⟨by rfl, ?_⟩) hSss4 ?_
    rotate_left
    · intro w hSw; obtain ⟨e0, e1, e2, e3, e4, e5, e6, e7, e8, e9, e10, -⟩ := hSw; go_simp; try with_reducible rfl
    simp only [Act.put, rgA, rgB, rgC, rgD, rgE, rgF]
    refine wpAnyT_loadW (i := 2) (v := ?_) rfl (by kernel_rfl) (by kernel_rfl) (by kernel_rfl) (by kernel_rfl) (by kernel_rfl) (fun _ _ _ h => h) (Or.inl ⟨by rfl, ?_⟩) hSss4 ?_
    rotate_left
    · intro w hSw; obtain ⟨e0, e1, e2, e3, e4, e5, e6, e7, e8, e9, e10, -⟩ := hSw; go_simp; try with_reducible rfl
    simp only [Act.put, rgA, rgB, rgC, rgD, rgE, rgF]
    refine wpAnyT_loadW (i := 4) (v := ?_) rfl (by kernel_rfl) (by kernel_rfl) (by kernel_rfl) (by kernel_rfl) (by kernel_rfl) (fun _ _ _ h => h) (Or.inl ⟨by rfl, ?_⟩) hSss4 ?_
    rotate_left
    · intro w hSw; obtain ⟨e0, e1, e2, e3, e4, e5, e6, e7, e8, e9, e10, -⟩ := hSw; go_simp; try with_reducible rfl
    simp only [Act.put, rgA, rgB, rgC, rgD, rgE, rgF]
    refine wpAnyT_pure (i := 5) (v := ?_) rfl (by kernel_rfl) (by kernel_rfl) (by kernel_rfl) (fun _ _ _ h => h) (by rfl) ?_ ?_
    rotate_left
    · intro w; go_simp; try with_reducible rfl
    simp only [Act.put, rgA, rgB, rgC, rgD, rgE, rgF]
    refine wpAnyT_loadW (i := 6) (v := ?_) rfl (by kernel_rfl) (by kernel_rfl) (by kernel_rfl) (by kernel_rfl) (by kernel_rfl) (fun _ _ _ h => h) (Or.inl ⟨by rfl, ?_⟩) hSss4 ?_
    rotate_left
    · intro w hSw; obtain ⟨e0, e1, e2, e3, e4, e5, e6, e7, e8, e9, e10, -⟩ := hSw; go_simp; try with_reducible rfl
    simp only [Act.put, rgA, rgB, rgC, rgD, rgE, rgF]
    refine wpAnyT_one (i := 7) (by kernel_rfl) rfl (by rfl) ?_
    have hf6 := HF5.out.below (hB_0_s4.trans ((hB_s4_s4).mono hB_0_s4.size))
    have hR5' := (setRow_other s4 (n + 1 + 1) (n + 1 + 1 + 1) #[.int .i64 q1, .int .i64 q2, .int .i64 q3, .int .i64 q4, .int .i64 q5, .string q6, .slice (some ⟨vb, vo, none⟩) q7.length vc] (by omega)).trans hf6.r5
    have HE4' := setRow_heap s4 (n + 1 + 1) _ #[.int .i64 q1, .int .i64 q2, .int .i64 q3, .int .i64 q4, .int .i64 q5, .string q6, .slice (some ⟨vb, vo, none⟩) q7.length vc] _ _ hf6.r4
    have HEB' := below_setRow hf6.b (show n ≤ n + 1 + 1 by omega) #[.int .i64 q1, .int .i64 q2, .int .i64 q3, .int .i64 q4, .int .i64 q5, .string q6, .slice (some ⟨vb, vo, none⟩) q7.length vc]
    refine wp_store_row 93 (.tmp 4) (.tmp 43) rfl (n + 1 + 1) #[.int .i64 q1, .int .i64 q2, .int .i64 q3, .int .i64 q4, .int .i64 q5, .string q6, .slice (some ⟨vb, vo, none⟩) q7.length vc] (by kernel_rfl) (by kernel_rfl) 93 _ hf6.r4 (by kernel_rfl) (by rfl) (by kernel_rfl) ?_
    have hXS : Cells [(⟨b8, 0, none⟩, .int .i64 q1), (⟨b8, 1, none⟩, .int .i64 q2), (⟨b8, 2, none⟩, .int .i64 q3), (⟨b8, 3, none⟩, .int .i64 q4), (⟨b8, 4, none⟩, .int .i64 q5), (⟨b8, 5, none⟩, .string q6), (⟨b8, 6, none⟩, .slice (some ⟨vb, vo, none⟩) q7.length vc), (⟨n + 1, 1, none⟩, .int .i64 (k : Int)), (⟨vb, vo + k * 3, none⟩, .int .i64 ac), (⟨vb, vo + k * 3 + 1, none⟩, .int .i64 am), (⟨vb, vo + k * 3 + 2, none⟩, .int .i64 pa)] ((s4).setRow (n + 1 + 1) #[.int .i64 q1, .int .i64 q2, .int .i64 q3, .int .i64 q4, .int .i64 q5, .string q6, .slice (some ⟨vb, vo, none⟩) q7.length vc]) := by
      have hq := gr_setRow s4 (n + 1 + 1) #[.int .i64 q1, .int .i64 q2, .int .i64 q3, .int .i64 q4, .int .i64 q5, .string q6, .slice (some ⟨vb, vo, none⟩) q7.length vc]
      obtain ⟨z0, z1, z2, z3, z4, z5, z6, z7, z8, z9, z10, -⟩ := hSss4
      exact ⟨hq.cell z0 (fun e => by simp only at e; omega), hq.cell z1 (fun e => by simp only at e; omega), hq.cell z2 (fun e => by simp only at e; omega), hq.cell z3 (fun e => by simp only at e; omega), hq.cell z4 (fun e => by simp only at e; omega), hq.cell z5 (fun e => by simp only at e; omega), hq.cell z6 (fun e => by simp only at e; omega), hq.cell z7 (fun e => by simp only at e; omega), hq.cell z8 (fun e => by simp only at e; omega), hq.cell z9 (fun e => by simp only at e; omega), hq.cell z10 (fun e => by simp only at e; omega), trivial⟩
    generalize (s4).setRow (n + 1 + 1) #[.int .i64 q1, .int .i64 q2, .int .i64 q3, .int .i64 q4, .int .i64 q5, .string q6, .slice (some ⟨vb, vo, none⟩) q7.length vc] = w105 at hR5' HE4' HEB' hXS ⊢
    clear hf6
    have hSsw105 := hXS
    have hB_w105_w105 := Below.refl w105.heap.size w105
    refine ⟨fun _ _ => hSsw105, ?_⟩
    try simp only [Act.put, rgA, rgB, rgC, rgD, rgE, rgF]
    refine wpAnyT_one (i := 8) (by kernel_rfl) rfl (by rfl) ?_
    have HE5 := Lib.hid (setRow_heap w105 (n + 1 + 1 + 1) _ #[.int .i64 ac, .int .i64 am, .int .i64 pa] _ _ hR5')
    have HE4 := Lib.hid ((setRow_other w105 (n + 1 + 1 + 1) (n + 1 + 1) #[.int .i64 ac, .int .i64 am, .int .i64 pa] (by omega)).trans HE4')
    have HEB := Lib.hid (below_setRow HEB' (show n ≤ n + 1 + 1 + 1 by omega) #[.int .i64 ac, .int .i64 am, .int .i64 pa])
    refine wp_store_row 110 (.tmp 5) (.tmp 49) rfl (n + 1 + 1 + 1) #[.int .i64 ac, .int .i64 am, .int .i64 pa] (by kernel_rfl) (by kernel_rfl) 110 _ hR5' (by kernel_rfl) (by rfl) (by kernel_rfl) ?_
    generalize (w105).setRow (n + 1 + 1 + 1) #[.int .i64 ac, .int .i64 am, .int .i64 pa] = w106 at HE5 HE4 HEB ⊢
    clear hR5' HE4' HEB'
    refine ⟨fun h => absurd h (by decide), ?_⟩
    try simp only [Act.put, rgA, rgB, rgC, rgD, rgE, rgF]
    refine wpAnyT_pure (i := 9) (v := ?_) rfl (by kernel_rfl) (by kernel_rfl) (by kernel_rfl) (fun _ _ _ h => h) (by rfl) ?_ ?_
    rotate_left
    · intro w; go_simp; try with_reducible rfl
    simp only [Act.put, rgA, rgB, rgC, rgD, rgE, rgF]
    refine wpAnyT_done (by kernel_rfl) ?_ _
    obtain ⟨w6, rfl⟩ : ∃ q, q = w106 := ⟨_, rfl⟩
    go_wp2_with fail
    (try simp only [Exit.inBlock, Exit.then])
    refine bodyPost_ret (find_res rfl _ _ (n + 1 + 1) (n + 1 + 1 + 1) _ _ rfl rfl HE4.out rfl HE5.out rfl) rfl ?_
    rw [HFS.out]
    exact ⟨⟨_, _, _, _, _, _, _, _, _, _, _, _, true, rfl, rfl, rfl, rfl⟩, by rw [HN.out]; exact HEB.out⟩
end Go.Proofs.Ytpobckedeffjmaa
