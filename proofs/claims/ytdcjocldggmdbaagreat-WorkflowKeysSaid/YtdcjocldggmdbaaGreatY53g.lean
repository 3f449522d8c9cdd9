/- Layer 53: Needs, Done, Next, of any key and period. -/
import Derived.Test.YtdcjocldggmdbaaGreatY53e
set_option linter.unusedSimpArgs false
set_option maxRecDepth 50000
namespace Go.Proofs.YtdcjocldggmdbaaGreat
open Go.RowKit Go

/-- What Needs leaves. -/
def NeedsP (ts : List Tk) (ne np : Nat) (k : Ky) (w : World) (e : Ending) (w' : World) : Prop :=
  ∃ (a : Option Addr) (len cap : Nat) (l : List Ky), e = .returned (.slice a len cap) ∧ ((checkI ts ne np k = 0 ∧ l.Perm (rawNeeds ts ne k) ∧ Asc ts l) ∨ (checkI ts ne np k ≠ 0 ∧ l = [])) ∧ Rd (.sl keyT) (fun b => b < w'.heap.size) w' [.slice a len cap] (l.map Ky.d) ∧ Below w.heap.size w w'
theorem rd_nilK (w : World) : Rd (.sl keyT) (fun b => b < w.heap.size) w [.slice none 0 0] (([] : List Ky).map Ky.d) := ⟨none, 0, 0, rfl, rfl, Nat.le_refl _, by decide, .inl rfl⟩
set_option maxHeartbeats 1000000 in
theorem needsM {S : Nat → Prop} (w : World) (p : Nat) (ts : List Tk) (ne np m : Nat) (h : WfT S w p ts ne np m) (hw : Wk ts ne np) (k : Ky) (hok : k.ok) :
    Calls Tryz.prog 11 #[.pointer (some ⟨p, 0, none⟩), k.v] w (NeedsP ts ne np k w) := by
  have hne : ne ≤ 1000 := by have := hw.ne; omega
  have HCH := Lib.hid fun W (hB : Below w.heap.size w W) => check53 W p ts ne np m (h.below hB) hne k
  have HND := Lib.hid fun W (hB : Below w.heap.size w W) (hc : checkI ts ne np k = 0) => needs53 W p ts ne np m (h.below hB) hne k (hw.need hc)
  obtain ⟨k1, k2, k3⟩ := k
  have hB1 := (Below.refl w.heap.size w).alloc (Nat.le_refl _) (.cells #[.string k1, .int .i64 k2, .int .i64 k3] 48)
  have hr1 := heap_alloc_new w (.cells #[.string k1, .int .i64 k2, .int .i64 k3] 48)
  have HB1 := Lib.hid hB1
  have HR1 := Lib.hid hr1
  obtain ⟨ci, hci⟩ : ∃ c, checkI ts ne np ⟨k1, k2, k3⟩ = c := ⟨_, rfl⟩
  rw [hci] at HCH HND
  have HCI := Lib.hid hci
  unfold Ky.v at HCH HND ⊢
  simp only at HCH HND ⊢
  clear h hB1 hr1 hok hne hci
  go_enter Tryz.func11, Tryz.ntmps11
  go_wp2_with fail
  generalize w.alloc (.cells #[.string k1, .int .i64 k2, .int .i64 k3] 48) = w1 at *
  have hX := HCH.out w1 HB1.out
  refine Calls.mono hX ?_
  clear hX
  rintro e w2 ⟨rfl, hb⟩
  have HB2 := Lib.hid (below_step HB1.out hb)
  have hr2 := (hb.block _ (blk_lt HR1.out)).trans HR1.out
  have c0 := blk_cell hr2 0
  have c1 := blk_cell hr2 1
  have c2 := blk_cell hr2 2
  simp at c0 c1 c2
  clear hb hr2
  by_cases hc : ci = 0
  · subst hc
    go_wp2_with fail
    have hX := HND.out w2 HB2.out (by first | rfl | trivial)
    refine Calls.mono hX ?_
    clear hX
    rintro e w3 ⟨a, len, cap, l, rfl, hp, hr, -, hb, ha⟩
    have HP := Lib.hid hp
    have HR := Lib.hid hr
    have HA := Lib.hid ha
    have HB3 := Lib.hid (below_step HB2.out hb)
    clear hp hr ha hb
    go_wp2_with fail
    go_ret
    exact ⟨_, _, _, l, rfl, .inl ⟨HCI.out, HP.out, HA.out⟩, HR.out, HB3.out⟩
  · have hcb : (ci == 0) = false := by simp [hc]
    go_wp2_with fail
    go_ret
    exact ⟨_, _, _, [], rfl, .inr ⟨by rw [HCI.out]; exact hc, rfl⟩, rd_nilK _, HB2.out⟩
def allP (ts : List Tk) (ne np : Nat) (per : Int) : List Ky := if 0 ≤ per ∧ per < (np : Int) then allK ts ne per else []
set_option maxHeartbeats 1000000 in
theorem allG53 {S : Nat → Prop} (w : World) (p : Nat) (ts : List Tk) (ne np m : Nat) (h : WfT S w p ts ne np m) (hne : ne ≤ 1000) (hts : ts.length ≤ 1000) (per : Int) (hp : (Lit.int .i64 per).wf = true) :
    Calls Tryz.prog 35 #[.pointer (some ⟨p, 0, none⟩), .int .i64 per] w fun e w' => ∃ v, e = .returned v ∧ Owns keyT 48 w.heap.size (fun _ => False) w' v ((allP ts ne np per).map Ky.d) ∧ Below w.heap.size w w' := by
  by_cases hin : 0 ≤ per ∧ per < (np : Int)
  · have := all53 w p ts ne np m h hne hts per hp hin.1 hin.2
    unfold allP
    rw [if_pos hin]
    exact this
  · unfold allP
    rw [if_neg hin]
    obtain ⟨a, len, cap, xs, hrow, -, -⟩ := h.row
    have y2 := blk_cell hrow 2
    simp at y2
    clear h hrow hts hne hp
    by_cases h0 : per < 0
    · clear hin
      go_enter Tryz.func35, Tryz.ntmps35
      go_wp2_with fail
      go_ret
      exact ⟨_, rfl, Owns.nil _ _ _ _, Below.refl _ _⟩
    · have h1 : (np : Int) ≤ per := by omega
      clear hin
      go_enter Tryz.func35, Tryz.ntmps35
      go_wp2_with fail
      go_ret
      exact ⟨_, rfl, Owns.nil _ _ _ _, Below.refl _ _⟩
def doneA (ts : List Tk) (ne np : Nat) (f : Ky → Option ByteArray) (per : Int) : Bool := (allP ts ne np per).all (fun k => (f k).isSome) && decide (0 < (allP ts ne np per).length)
set_option maxRecDepth 20000 in
set_option maxHeartbeats 1000000 in
theorem doneG53 {S : Nat → Prop} (w : World) (p : Nat) (ts : List Tk) (ne np m n : Nat) (f : Ky → Option ByteArray) (h : WfIn S w p ts ne np m n f) (hne : ne ≤ 1000) (hts : ts.length ≤ 1000) (per : Int) (hp : (Lit.int .i64 per).wf = true) :
    Calls Tryz.prog 15 #[.pointer (some ⟨p, 0, none⟩), .int .i64 per] w fun e w' => e = .returned (.bool (doneA ts ne np f per)) ∧ Below w.heap.size w w' := by
  have HA := Lib.hid (allG53 w p ts ne np m h.wf hne hts per hp)
  have H := Lib.hid h
  unfold doneA
  generalize allP ts ne np per = l at HA ⊢
  clear h hne hts hp
  go_enter Tryz.func15, Tryz.ntmps15
  go_wp2_with fail
  refine HA.out.mono ?_
  rintro e w1 ⟨v, rfl, hO, hB1⟩
  obtain ⟨a, len, cap, rfl, hl, hlc, hcm⟩ := hO.slice
  rw [List.length_map] at hl
  have HR := Lib.hid (hO.rd (fun b => b < w1.heap.size) (fun _ h => h.elim) (fun b hb => (hO.own b hb).2))
  have HL := Lib.hid hl
  have HB1 := Lib.hid hB1
  have H1 := Lib.hid (H.out.below hB1)
  clear hO hl hB1
  go_wp2_with fail
  go_loopw [7, 8, 9, 15] (fun _ _ _ i wr => ∃ k : Nat, k ≤ len ∧ i = .int .i64 k ∧ ((l.take k).all fun k => (f k).isSome) = true ∧ Below w1.heap.size w1 wr) (fun _ _ _ i _ => len - (intOf i).toNat)
  case atStart => exact ⟨0, Nat.zero_le _, rfl, rfl, Below.refl _ _⟩
  case round =>
    obtain ⟨k, hk, rfl, hall, hB⟩ := hrel
    have HB := Lib.hid hB
    have HALL := Lib.hid hall
    clear hall
    by_cases hlt : k < len
    · have hkI : (k : Int) < (len : Int) := by omega
      have hkx : k < l.length := by rw [← HL.out]; exact hlt
      obtain ⟨b, o, rfl, -, m0, m1, m2, hok⟩ := key_at (HR.out.below hB (fun _ h => h)) k hkx
      have hstep : ((l.take (k + 1)).all fun k => (f k).isSome) = (f l[k]).isSome := by
        rw [List.take_succ_eq_append_getElem hkx, List.all_append, HALL.out]
        simp
      have HST := Lib.hid hstep
      have HNO := Lib.hid (show (f l[k]).isSome = false → (l.all fun k => (f k).isSome) = false from fun h => List.all_eq_false.2 ⟨l[k], List.getElem_mem hkx, by rw [h]; simp⟩)
      have HLT := Lib.hid hlt
      generalize l[k] = x at m0 m1 m2 hok HST HNO
      obtain ⟨fx, hfx⟩ : ∃ o, f x = o := ⟨_, rfl⟩
      rw [hfx] at HST HNO
      have HFX := Lib.hid hfx
      have HOK := Lib.hid hok
      obtain ⟨x1, x2, x3⟩ := x
      simp only at m0 m1 m2
      have hrz := heap_alloc_new wr (.cells #[.string ⟨#[]⟩, .int .i64 0, .int .i64 0] 48)
      have hBz := (Below.refl wr.heap.size wr).alloc (Nat.le_refl _) (.cells #[.string ⟨#[]⟩, .int .i64 0, .int .i64 0] 48)
      have HRZ := Lib.hid hrz
      have HROW := Lib.hid (setRow_heap _ _ _ #[.string x1, .int .i64 x2, .int .i64 x3] _ _ hrz)
      have HBS := Lib.hid (below_setRow (n := wr.heap.size) hBz (Nat.le_refl _) #[.string x1, .int .i64 x2, .int .i64 x3])
      clear hstep hlt hkx hB hfx hok hrz hBz
      go_wp2_with (refine wpList_store_row rfl _ _ _ rfl (wr.heap.size) #[.string x1, .int .i64 x2, .int .i64 x3] rfl rfl 48 _ HRZ.out (by kernel_rfl) (by rfl) (by simp [Value.oneCell']) ?_)
      have hBs := HBS.out
      have hrow := HROW.out
      generalize hw3 : World.setRow (wr.alloc _) _ _ = w3 at hBs hrow ⊢
      clear hw3 HBS HROW m0 m1 m2
      have HB3 := Lib.hid (below_step HB.out hBs)
      have h3 := H1.out.below (below_step HB.out hBs)
      obtain ⟨ta, tl, tc, txs, hw, -, -⟩ := h3.wf.row
      have H3 := Lib.hid h3
      have hC0 : Cells [(⟨p, 3, none⟩, .map (some m)), (⟨wr.heap.size, 0, none⟩, .string x1), (⟨wr.heap.size, 1, none⟩, .int .i64 x2), (⟨wr.heap.size, 2, none⟩, .int .i64 x3)] w3 := ⟨blk_cell hw 3, blk_cell hrow 0, blk_cell hrow 1, blk_cell hrow 2, trivial⟩
      clear h3 hw hBs hrow
      go_wp2_with fail
      refine wp_region_T (Cells [(⟨p, 3, none⟩, .map (some m)), (⟨wr.heap.size, 0, none⟩, .string x1), (⟨wr.heap.size, 1, none⟩, .int .i64 x2), (⟨wr.heap.size, 2, none⟩, .int .i64 x3)]) (fun _ => false) (by kernel_rfl) ?_
      have hSss1 := Cells.drew hC0
      have hB_0_s1 : Below w3.heap.size w3 w3.drew := below_drew _
      generalize w3.drew = s1 at hSss1 hB_0_s1 ⊢
      have hB_s1_s1 := Below.refl s1.heap.size s1
      refine wpAnyT_pure (i := 0) (v := ?_) rfl (by kernel_rfl) (by kernel_rfl) (by kernel_rfl) (fun _ _ _ h => h) (by rfl) ?_ ?_
      rotate_left
      · intro w; go_simp; try with_reducible rfl
      simp only [Act.put, rgA, rgB, rgC, rgD, rgE, rgF]
      refine wpAnyT_pure (i := 1) (v := ?_) rfl (by kernel_rfl) (by kernel_rfl) (by kernel_rfl) (fun _ _ _ h => h) (by rfl) ?_ ?_
      rotate_left
      · intro w; go_simp; try with_reducible rfl
      simp only [Act.put, rgA, rgB, rgC, rgD, rgE, rgF]
      refine wpAnyT_pure (i := 2) (v := ?_) rfl (by kernel_rfl) (by kernel_rfl) (by kernel_rfl) (fun _ _ _ h => h) (by rfl) ?_ ?_
      rotate_left
      · intro w; go_simp; try with_reducible rfl
      simp only [Act.put, rgA, rgB, rgC, rgD, rgE, rgF]
      refine wpAnyT_loadW (i := 3) (v := ?_) rfl (by kernel_rfl) (by kernel_rfl) (by kernel_rfl) (by kernel_rfl) (by kernel_rfl) (fun _ _ _ h => h) (Or.inl ⟨by rfl, ?_⟩) hSss1 ?_
      rotate_left
      · intro w hSw; obtain ⟨e0, e1, e2, e3, -⟩ := hSw; go_simp; try with_reducible rfl
      simp only [Act.put, rgA, rgB, rgC, rgD, rgE, rgF]
      refine wpAnyT_loadW (i := 4) (v := ?_) rfl (by kernel_rfl) (by kernel_rfl) (by kernel_rfl) (by kernel_rfl) (by kernel_rfl) (fun _ _ _ h => h) (Or.inl ⟨by rfl, ?_⟩) hSss1 ?_
      rotate_left
      · intro w hSw; obtain ⟨e0, e1, e2, e3, -⟩ := hSw; go_simp; try with_reducible rfl
      simp only [Act.put, rgA, rgB, rgC, rgD, rgE, rgF]
      refine wpAnyT_one (i := 5) (by kernel_rfl) rfl (by rfl) ?_
      have hlk := MapG.look2 ((H3.out.below (hB_0_s1.trans ((hB_s1_s1).mono (hB_0_s1).size))).mp) Tryz.underlying90 ⟨x1, x2, x3⟩ HOK.out
      rw [HFX.out] at hlk
      change Sem.run Tryz.prog (Instr.lookup 90 (.map (some m)) (.agg #[.string x1, .int .i64 x2, .int .i64 x3]) true) s1 = _ at hlk
      refine wp_value (v := .tuple #[.string (fx.getD ⟨#[]⟩), .bool fx.isSome]) (w' := s1) (by go_simp; rfl) ?_
      clear hlk
      refine ⟨fun _ h => h, ?_⟩
      try simp only [Act.put, rgA, rgB, rgC, rgD, rgE, rgF]
      refine wpAnyT_pure (i := 6) (v := ?_) rfl (by kernel_rfl) (by kernel_rfl) (by kernel_rfl) (fun _ _ _ h => h) (by rfl) ?_ ?_
      rotate_left
      · intro w; go_simp; try with_reducible rfl
      simp only [Act.put, rgA, rgB, rgC, rgD, rgE, rgF]
      refine wpAnyT_pure (i := 7) (v := ?_) rfl (by kernel_rfl) (by kernel_rfl) (by kernel_rfl) (fun _ _ _ h => h) (by rfl) ?_ ?_
      rotate_left
      · intro w; go_simp; try with_reducible rfl
      simp only [Act.put, rgA, rgB, rgC, rgD, rgE, rgF]
      refine wpAnyT_pure (i := 8) (v := ?_) rfl (by kernel_rfl) (by kernel_rfl) (by kernel_rfl) (fun _ _ _ h => h) (by rfl) ?_ ?_
      rotate_left
      · intro w; go_simp; try with_reducible rfl
      simp only [Act.put, rgA, rgB, rgC, rgD, rgE, rgF]
      refine wpAnyT_pure (i := 9) (v := ?_) rfl (by kernel_rfl) (by kernel_rfl) (by kernel_rfl) (fun _ _ _ h => h) (by rfl) ?_ ?_
      rotate_left
      · intro w; go_simp; try with_reducible rfl
      simp only [Act.put, rgA, rgB, rgC, rgD, rgE, rgF]
      refine wpAnyT_pure (i := 10) (v := ?_) rfl (by kernel_rfl) (by kernel_rfl) (by kernel_rfl) (fun _ _ _ h => h) (by rfl) ?_ ?_
      rotate_left
      · intro w; go_simp; try with_reducible rfl
      simp only [Act.put, rgA, rgB, rgC, rgD, rgE, rgF]
      refine wpAnyT_done (by kernel_rfl) ?_ _
      have HBP := Lib.hid (below_step HB3.out (hB_0_s1.trans ((hB_s1_s1).mono (hB_0_s1).size)))
      cases fx with
      | none =>
        go_wp2_with fail
        go_ret
        refine ⟨?_, below_step HB1.out HBP.out⟩
        rw [HNO.out rfl]; rfl
      | some v =>
        go_wp2_with fail
        go_roundw
        case rel => exact ⟨k + 1, HLT.out, by go_num, HST.out, HBP.out⟩
        case measure => simp [intOf]; try omega
    · obtain rfl : len = k := by omega
      have hall : l.take len = l := List.take_of_length_le (by rw [← HL.out]; exact Nat.le_refl _)
      rw [hall] at HALL
      have HLI := Lib.hid (show decide (0 < l.length) = decide ((0 : Int) < (len : Int)) from decide_eq_decide.2 (by have := HL.out; omega))
      clear hB hall hlt
      go_wp2_with fail
      go_ret
      refine ⟨?_, below_step HB1.out HB.out⟩
      rw [HALL.out, HLI.out]
      first | rfl | simp

theorem all_kv {ts : List Tk} {ne np : Nat} (hw : Wk ts ne np) {per : Int} {k : Ky} : k ∈ allP ts ne np per ↔ checkI ts ne np k = 0 ∧ k.per = per := by
  unfold allP
  split
  · rename_i hin
    unfold allK
    rw [List.mem_flatMap]
    constructor
    · rintro ⟨t, ht, hk⟩
      obtain ⟨i, hi, rfl⟩ := List.getElem_of_mem ht
      obtain ⟨a, b, c⟩ := keysL_mem hk
      have hpl : plc ts ts[i].name = i := (hw.v.2.2 i hi hi).2.1
      refine ⟨kv_iff.2 ?_, b⟩
      rw [a, hpl, b]
      refine ⟨hi, ?_, hin⟩
      rw [tkAt_get (by rw [hpl]; exact hi)]
      simp only [hpl]
      exact c
    · rintro ⟨h1, h2⟩
      obtain ⟨a, b, -⟩ := kv_iff.1 h1
      obtain ⟨c, d, -⟩ := hw.at_ a
      exact ⟨_, c, mem_keysL d.symm h2 b⟩
  · rename_i hin
    constructor
    · intro h; cases h
    · rintro ⟨h1, h2⟩
      obtain ⟨a, b, c⟩ := kv_iff.1 h1
      rw [h2] at c
      exact absurd c hin
def nextL (ts : List Tk) (ne np : Nat) (f : Ky → Option ByteArray) (per : Int) : List Ky := (allP ts ne np per).filter fun k => (f k).isNone && readyB ts ne f k
/-- A list of keys is handed back. -/
def KeysP (l : List Ky) (w : World) (e : Ending) (w' : World) : Prop :=
  ∃ (a : Option Addr) (len cap : Nat), e = .returned (.slice a len cap) ∧ Rd (.sl keyT) (fun b => b < w'.heap.size) w' [.slice a len cap] (l.map Ky.d) ∧ Below w.heap.size w w'
theorem all_len {ts : List Tk} {ne np : Nat} (per : Int) (hne : ne ≤ 1000) (hts : ts.length ≤ 1000) : (allP ts ne np per).length ≤ 1001000 := by
  unfold allP
  split
  · unfold allK
    have h1 := flat_len (ts := ts) ne per
    have h2 : ts.length * (ne + 1) ≤ 1000 * 1001 := Nat.mul_le_mul hts (by omega)
    exact Nat.le_trans h1 (Nat.le_trans h2 (by decide))
  · simp
set_option maxRecDepth 20000 in
set_option maxHeartbeats 2000000 in
theorem nextM {S : Nat → Prop} (w : World) (p : Nat) (ts : List Tk) (ne np m n : Nat) (f : Ky → Option ByteArray) (h : WfIn S w p ts ne np m n f) (hw : Wk ts ne np) (hts : ts.length ≤ 1000) (per : Int) (hp : (Lit.int .i64 per).wf = true) :
    Calls Tryz.prog 13 #[.pointer (some ⟨p, 0, none⟩), .int .i64 per] w (KeysP (nextL ts ne np f per) w) := by
  have hne : ne ≤ 1000 := by have := hw.ne; omega
  have HA := Lib.hid (allG53 w p ts ne np m h.wf hne hts per hp)
  have HOP := Lib.hid fun W (hB : Below w.heap.size w W) (k : Ky) (hk : k ∈ allP ts ne np per) => open53 W p ts ne np m n f (h.below hB) hne k (hw.need ((all_kv hw).1 hk).1)
  have HLN := Lib.hid (all_len (np := np) per hne hts)
  have H := Lib.hid h
  unfold nextL
  generalize allP ts ne np per = l at HA HOP HLN ⊢
  clear h hne hts hp hw
  go_enter Tryz.func13, Tryz.ntmps13
  go_wp2_with fail
  have hX := HA.out
  refine Calls.mono hX ?_
  clear hX
  rintro e w1 ⟨v, rfl, hO, hB1⟩
  obtain ⟨a, len, cap, rfl, hl, hlc, hcm⟩ := hO.slice
  rw [List.length_map] at hl
  have HR := Lib.hid (hO.rd (fun b => b < w1.heap.size) (fun _ h => h.elim) (fun b hb => (hO.own b hb).2))
  have HL := Lib.hid hl
  have HB1 := Lib.hid hB1
  clear hO hl hB1
  go_wp2_with fail
  go_loopw [5, 7, 12] (fun ov _ i wr => ∃ k : Nat, k ≤ len ∧ i = .int .i64 k ∧ Owns keyT 48 w1.heap.size (fun _ => False) wr ov (((l.take k).filter fun k => (f k).isNone && readyB ts ne f k).map Ky.d) ∧ Below w1.heap.size w1 wr) (fun _ _ i _ => len - (intOf i).toNat)
  case atStart => exact ⟨0, Nat.zero_le _, rfl, Owns.nil _ _ _ _, Below.refl _ _⟩
  obtain ⟨k, hk, rfl, hO, hB⟩ := hrel
  obtain ⟨oa, ol, oc, rfl, -⟩ := hO.slice
  have HO := Lib.hid hO
  have HB := Lib.hid hB
  by_cases hlt : k < len
  · have hkI : (k : Int) < (len : Int) := by omega
    have hkx : k < l.length := by rw [← HL.out]; exact hlt
    obtain ⟨b, o, rfl, -, m0, m1, m2, hok⟩ := key_at (HR.out.below hB (fun _ h => h)) k hkx
    have HST := Lib.hid (show (l.take (k + 1)).filter (fun k => (f k).isNone && readyB ts ne f k) = (l.take k).filter (fun k => (f k).isNone && readyB ts ne f k) ++ (if ((f l[k]).isNone && readyB ts ne f l[k]) = true then [l[k]] else []) from by
      rw [List.take_succ_eq_append_getElem hkx, List.filter_append, List.filter_cons, List.filter_nil])
    have HLE := Lib.hid (show ((l.take k).filter (fun k => (f k).isNone && readyB ts ne f k)).length ≤ 1001000 from Nat.le_trans (List.length_filter_le _ _) (by rw [List.length_take]; have := HLN.out; omega))
    have HOPX := Lib.hid fun W (hB : Below w.heap.size w W) => HOP.out W hB l[k] (List.getElem_mem hkx)
    have HLT := Lib.hid hlt
    generalize l[k] = x at m0 m1 m2 hok HST HOPX
    obtain ⟨ob, hob⟩ : ∃ o, ((f x).isNone && readyB ts ne f x) = o := ⟨_, rfl⟩
    rw [hob] at HST HOPX
    have HOK := Lib.hid hok
    obtain ⟨x1, x2, x3⟩ := x
    unfold Ky.v at HOPX
    simp only at m0 m1 m2 HOPX
    have hrz := heap_alloc_new wr (.cells #[.string ⟨#[]⟩, .int .i64 0, .int .i64 0] 48)
    have hBz := (Below.refl wr.heap.size wr).alloc (Nat.le_refl _) (.cells #[.string ⟨#[]⟩, .int .i64 0, .int .i64 0] 48)
    have HRZ := Lib.hid hrz
    have HROW := Lib.hid (setRow_heap _ _ _ #[.string x1, .int .i64 x2, .int .i64 x3] _ _ hrz)
    have HBS := Lib.hid (below_setRow (n := wr.heap.size) hBz (Nat.le_refl _) #[.string x1, .int .i64 x2, .int .i64 x3])
    have c0 : ((wr.alloc (.cells #[.string ⟨#[]⟩, .int .i64 0, .int .i64 0] 48)).setRow wr.heap.size #[.string x1, .int .i64 x2, .int .i64 x3]).cell? ⟨wr.heap.size, 0, none⟩ = some (.string x1) := blk_cell HROW.out 0
    have c1 : ((wr.alloc (.cells #[.string ⟨#[]⟩, .int .i64 0, .int .i64 0] 48)).setRow wr.heap.size #[.string x1, .int .i64 x2, .int .i64 x3]).cell? ⟨wr.heap.size, 1, none⟩ = some (.int .i64 x2) := blk_cell HROW.out 1
    have c2 : ((wr.alloc (.cells #[.string ⟨#[]⟩, .int .i64 0, .int .i64 0] 48)).setRow wr.heap.size #[.string x1, .int .i64 x2, .int .i64 x3]).cell? ⟨wr.heap.size, 2, none⟩ = some (.int .i64 x3) := blk_cell HROW.out 2
    clear hlt hkx hB hob hok hrz hBz hO
    go_wp2_with (refine wpList_store_row rfl _ _ _ rfl (wr.heap.size) #[.string x1, .int .i64 x2, .int .i64 x3] rfl rfl 48 _ HRZ.out (by kernel_rfl) (by rfl) (by simp [Value.oneCell']) ?_)
    have hBs := HBS.out
    have hrow := HROW.out
    clear c0 c1 c2
    generalize hw3 : World.setRow (wr.alloc _) _ _ = w3 at hBs hrow ⊢
    clear hw3 HBS HROW m0 m1 m2
    have HB3 := Lib.hid (below_step HB.out hBs)
    have HO3 := Lib.hid (HO.out.below hBs)
    have HROW := Lib.hid hrow
    clear hBs hrow
    have hX := HOPX.out w3 (below_step HB1.out HB3.out)
    refine Calls.mono hX ?_
    clear hX
    rintro e w4 ⟨rfl, hb4⟩
    have hrow4 := (hb4.block _ (blk_lt HROW.out)).trans HROW.out
    have c0 := blk_cell hrow4 0
    have c1 := blk_cell hrow4 1
    have c2 := blk_cell hrow4 2
    simp at c0 c1 c2
    have HB4 := Lib.hid (below_step HB3.out hb4)
    have HO4 := Lib.hid (HO3.out.below hb4)
    clear hb4 hrow4
    cases ob
    · go_wp2_with fail
      go_roundw
      case rel => exact ⟨k + 1, HLT.out, by go_num, by rw [HST.out]; simpa using HO4.out, HB4.out⟩
      case measure => simp [intOf]; have := HLT.out; omega
    · go_wp2_with (at_builtin; go_must (refine wpList_app _ rfl _ _ 46 rfl (e := keyT) (te := 48) info_key Tryz.underlying46 rfl (by decide) (base := w1.heap.size) (S := fun _ => False) (v := .slice oa ol oc) (xs := ((l.take k).filter (fun k => (f k).isNone && readyB ts ne f k)).map Ky.d) rfl (HO4.out.alloc _) (by have := HB4.out.size; simp only [World.size_alloc]; omega) (sv := .slice (some ⟨w4.heap.size, 0, none⟩) 1 1) rfl (ys := [Ky.d ⟨x1, x2, x3⟩]) (by simpa using Src.new w4 [.string x1, .int .i64 x2, .int .i64 x3] 48 1 1) (RdL.one (e := keyT) (key_rd HOK.out)) (by have := HLE.out; rw [List.length_map]; simp; omega) (by have := HLE.out; rw [List.length_map]; simp; omega) ?_; intro v' w9 O9 g9 _ ob9; have HO9 := Lib.hid O9; have HB9 := Lib.hid ((HB4.out.alloc HB4.out.size (.cells #[.string x1, .int .i64 x2, .int .i64 x3] 48)).grown g9 (by have := HB4.out.size; simp only [World.size_alloc]; omega) (fun c hc => (HO4.out.own c hc).1)); clear O9 g9 ob9))
      go_roundw
      case rel => exact ⟨k + 1, HLT.out, by go_num, by rw [HST.out, List.map_append]; exact HO9.out, HB9.out⟩
      case measure => simp [intOf]; have := HLT.out; omega
  · obtain rfl : len = k := by omega
    have hall : l.take len = l := List.take_of_length_le (by rw [← HL.out]; exact Nat.le_refl _)
    rw [hall] at HO
    clear hB hall hlt hO
    go_wp2_with fail
    go_ret
    exact ⟨_, _, _, rfl, HO.out.rd _ (fun _ h => h.elim) (fun b hb => (HO.out.own b hb).2), below_step HB1.out HB.out⟩
end Go.Proofs.YtdcjocldggmdbaaGreat

/- Layer 53: what a reopening has done so far (plain); Contains; a delete in a region; a row that is cut. -/
set_option linter.unusedSimpArgs false
set_option maxRecDepth 50000
namespace Go.Proofs.YtdcjocldggmdbaaGreat
open Go.RowKit Go

structure RInv (ts : List Tk) (ne : Nat) (sg : List Sg) (k : Ky) (out wk : List Ky) : Prop where
  nd : out.Nodup
  r1 : ∀ x ∈ out, Rch ts ne sg k x
  r2 : ∀ x ∈ wk, Rch ts ne sg k x
  cl : ∀ x ∈ out, ∀ y ∈ keysS sg, x ∈ rawNeeds ts ne y → y ∈ out ∨ y ∈ wk
  k0 : k ∈ out ∨ k ∈ wk
theorem RInv.start {ts : List Tk} {ne : Nat} {sg : List Sg} {k : Ky} (h : k ∈ keysS sg) : RInv ts ne sg k [] [k] where
  nd := List.nodup_nil
  r1 := fun x h => by cases h
  r2 := fun x hx => by rw [List.mem_singleton] at hx; rw [hx]; exact .base h
  cl := fun x h => by cases h
  k0 := .inr (by simp)
theorem RInv.skip {ts : List Tk} {ne : Nat} {sg : List Sg} {k : Ky} {out l : List Ky} {x : Ky} (h : RInv ts ne sg k out (l ++ [x])) (hx : x ∈ out) : RInv ts ne sg k out l where
  nd := h.nd
  r1 := h.r1
  r2 := fun y hy => h.r2 y (List.mem_append_left _ hy)
  cl := fun z hz y hy hr => by
    rcases h.cl z hz y hy hr with h1 | h1
    · exact .inl h1
    · rcases List.mem_append.1 h1 with h1 | h1
      · exact .inr h1
      · rw [List.mem_singleton] at h1
        rw [h1]; exact .inl hx
  k0 := by
    rcases h.k0 with h1 | h1
    · exact .inl h1
    · rcases List.mem_append.1 h1 with h1 | h1
      · exact .inr h1
      · rw [List.mem_singleton] at h1
        rw [h1]; exact .inl hx
theorem RInv.take {ts : List Tk} {ne : Nat} {sg : List Sg} {k : Ky} {out l pu : List Ky} {x : Ky} (h : RInv ts ne sg k out (l ++ [x])) (hx : x ∉ out) (hp : ∀ y ∈ pu, y ∈ keysS sg ∧ x ∈ rawNeeds ts ne y)
    (hq : ∀ y ∈ keysS sg, y ∉ out ++ [x] → x ∈ rawNeeds ts ne y → y ∈ pu) : RInv ts ne sg k (out ++ [x]) (l ++ pu) where
  nd := by
    rw [List.nodup_append]
    exact ⟨h.nd, by simp, fun a ha b hb e => by rw [List.mem_singleton] at hb; subst hb; subst e; exact hx ha⟩
  r1 := fun y hy => by
    rcases List.mem_append.1 hy with hy | hy
    · exact h.r1 y hy
    · rw [List.mem_singleton] at hy; rw [hy]; exact h.r2 x (by simp)
  r2 := fun y hy => by
    rcases List.mem_append.1 hy with hy | hy
    · exact h.r2 y (List.mem_append_left _ hy)
    · exact .step (h.r2 x (by simp)) (hp y hy).1 (hp y hy).2
  cl := fun z hz y hy hr => by
    by_cases hyo : y ∈ out ++ [x]
    · exact .inl hyo
    · rcases List.mem_append.1 hz with hz | hz
      · rcases h.cl z hz y hy hr with h1 | h1
        · exact .inl (List.mem_append_left _ h1)
        · rcases List.mem_append.1 h1 with h1 | h1
          · exact .inr (List.mem_append_left _ h1)
          · exact absurd (List.mem_append_right _ h1) hyo
      · rw [List.mem_singleton] at hz
        subst hz
        exact .inr (List.mem_append_right _ (hq y hy hyo hr))
  k0 := by
    rcases h.k0 with h1 | h1
    · exact .inl (List.mem_append_left _ h1)
    · rcases List.mem_append.1 h1 with h1 | h1
      · exact .inr (List.mem_append_left _ h1)
      · exact .inl (List.mem_append_right _ h1)
theorem RInv.done {ts : List Tk} {ne : Nat} {sg : List Sg} {k : Ky} {out : List Ky} (h : RInv ts ne sg k out []) (x : Ky) : x ∈ out ↔ Rch ts ne sg k x := by
  constructor
  · exact h.r1 x
  · intro hr
    induction hr with
    | base _ => exact h.k0.elim id (fun h => by cases h)
    | step _ h2 h3 ih => exact (h.cl _ ih _ h2 h3).elim id (fun h => by cases h)
theorem RInv.len {ts : List Tk} {ne : Nat} {sg : List Sg} {k : Ky} {out wk : List Ky} (h : RInv ts ne sg k out wk) : out.length ≤ sg.length := by
  have h1 : out ⊆ keysS sg := fun x hx => (h.r1 x hx).mem
  have := h.nd.length_le_of_subset h1
  unfold keysS at this
  rwa [List.length_map] at this

/-! ### Contains -/
def IndexP (l : List Ky) (k : Ky) (w : World) (e : Ending) (w' : World) : Prop := ∃ r : Int, e = .returned (.int .i64 r) ∧ (0 ≤ r ↔ k ∈ l) ∧ Below w.heap.size w w'
set_option maxRecDepth 20000 in
set_option maxHeartbeats 1000000 in
theorem indexK {S : Nat → Prop} (w : World) (a : Option Addr) (len cap : Nat) (l : List Ky) (hx : Rd (.sl keyT) S w [.slice a len cap] (l.map Ky.d)) (hS : ∀ b, S b → b < w.heap.size) (k : Ky) :
    Calls Tryz.prog 63 #[.slice a len cap, k.v] w (IndexP l k w) := by
  obtain ⟨hl, hlc, hm, -⟩ := hx.sl_flat
  rw [List.length_map] at hl
  obtain ⟨k1, k2, k3⟩ := k
  have hB1 := (Below.refl w.heap.size w).alloc (Nat.le_refl _) (.cells #[.string k1, .int .i64 k2, .int .i64 k3] 48)
  have HR1 := Lib.hid (heap_alloc_new w (.cells #[.string k1, .int .i64 k2, .int .i64 k3] 48))
  have HB1 := Lib.hid hB1
  have HX := Lib.hid hx
  have HL := Lib.hid hl
  have HS := Lib.hid hS
  have hgd : Tryz.prog.eqGuardType Tryz.prog.depth 48 = false := by kernel_rfl
  unfold Ky.v
  simp only
  clear hx hl hS hB1
  go_enter Tryz.func63, Tryz.ntmps63
  go_wp2_with fail
  generalize w.alloc (.cells #[.string k1, .int .i64 k2, .int .i64 k3] 48) = w1 at *
  go_loopw [5, 8] (fun _ i wr => ∃ (q : Nat), q ≤ len ∧ i = .int .i64 q ∧ (∀ j (hj : j < l.length), j < q → l[j] ≠ ⟨k1, k2, k3⟩) ∧ Below w1.heap.size w1 wr) (fun _ i _ => len - (intOf i).toNat)
  case atStart => exact ⟨0, Nat.zero_le _, rfl, fun j _ hj => absurd hj (by omega), Below.refl _ _⟩
  obtain ⟨q, hk, rfl, hno, hB⟩ := hrel
  have HB := Lib.hid hB
  have HNO := Lib.hid hno
  clear hno
  by_cases hlt : q < len
  · have hkI : (q : Int) < (len : Int) := by omega
    have hql : q < l.length := by rw [HL.out]; exact hlt
    obtain ⟨b, o, rfl, -, m0, m1, m2, -⟩ := key_at (HX.out.below (below_step HB1.out hB) HS.out) q hql
    have hcb := (hB.block _ (blk_lt HR1.out)).trans HR1.out
    obtain ⟨eb, heb⟩ : ∃ eb, decide ((⟨k1, k2, k3⟩ : Ky) = l[q]) = eb := ⟨_, rfl⟩
    have HIN := Lib.hid (show eb = true → (⟨k1, k2, k3⟩ : Ky) ∈ l from fun h => by rw [of_decide_eq_true (heb.trans h)]; exact List.getElem_mem hql)
    have HNN := Lib.hid (show eb = false → ∀ j (hj : j < l.length), j < q + 1 → l[j] ≠ ⟨k1, k2, k3⟩ from fun h j hj hjq => by
      by_cases e : j = q
      · subst e; exact fun e' => of_decide_eq_false (heb.trans h) e'.symm
      · exact HNO.out j hj (by omega))
    generalize l[q] = y at m0 m1 m2 heb
    obtain ⟨y1, y2, y3⟩ := y
    simp only at m0 m1 m2
    have heq : ∀ W, Sem.run Tryz.prog (binOp .eql 48 (.agg #[.string k1, .int .i64 k2, .int .i64 k3]) (.agg #[.string y1, .int .i64 y2, .int .i64 y3])) W = .ok (.bool eb) W := fun W => by
      have := key_eql W ⟨k1, k2, k3⟩ ⟨y1, y2, y3⟩
      rw [heb] at this
      exact this
    have HLT := Lib.hid hlt
    have hC0 : Cells [(⟨w.heap.size, 0, none⟩, .string k1), (⟨w.heap.size, 1, none⟩, .int .i64 k2), (⟨w.heap.size, 2, none⟩, .int .i64 k3), (⟨b, o + q * 3, none⟩, .string y1), (⟨b, o + q * 3 + 1, none⟩, .int .i64 y2), (⟨b, o + q * 3 + 2, none⟩, .int .i64 y3)] wr := ⟨blk_cell hcb 0, blk_cell hcb 1, blk_cell hcb 2, m0, m1, m2, trivial⟩
    clear m0 m1 m2 hcb hB hlt heb hql
    go_wp2_with fail
    refine wp_region_T (Cells [(⟨w.heap.size, 0, none⟩, .string k1), (⟨w.heap.size, 1, none⟩, .int .i64 k2), (⟨w.heap.size, 2, none⟩, .int .i64 k3), (⟨b, o + q * 3, none⟩, .string y1), (⟨b, o + q * 3 + 1, none⟩, .int .i64 y2), (⟨b, o + q * 3 + 2, none⟩, .int .i64 y3)]) (fun _ => false) (by kernel_rfl) ?_
    have hSss1 := Cells.drew hC0
    have hB_0_s1 : Below wr.heap.size wr wr.drew := below_drew _
    generalize wr.drew = s1 at hSss1 hB_0_s1 ⊢
    have hB_s1_s1 := Below.refl s1.heap.size s1
    refine wpAnyT_pure (i := 1) (v := ?_) rfl (by kernel_rfl) (by kernel_rfl) (by kernel_rfl) (fun _ _ _ h => h) (by rfl) ?_ ?_
    rotate_left
    · intro w; go_simp; try with_reducible rfl
    simp only [Act.put, rgA, rgB, rgC, rgD, rgE, rgF]
    refine wpAnyT_pure (i := 2) (v := ?_) rfl (by kernel_rfl) (by kernel_rfl) (by kernel_rfl) (fun _ _ _ h => h) (by rfl) ?_ ?_
    rotate_left
    · intro w; go_simp; try with_reducible rfl
    simp only [Act.put, rgA, rgB, rgC, rgD, rgE, rgF]
    refine wpAnyT_pure (i := 3) (v := ?_) rfl (by kernel_rfl) (by kernel_rfl) (by kernel_rfl) (fun _ _ _ h => h) (by rfl) ?_ ?_
    rotate_left
    · intro w; go_simp; try with_reducible rfl
    simp only [Act.put, rgA, rgB, rgC, rgD, rgE, rgF]
    refine wpAnyT_loadW (i := 0) (v := ?_) rfl (by kernel_rfl) (by kernel_rfl) (by kernel_rfl) (by kernel_rfl) (by kernel_rfl) (fun _ _ _ h => h) (Or.inl ⟨by rfl, ?_⟩) hSss1 ?_
    rotate_left
    · intro w hSw; obtain ⟨e0, e1, e2, e3, e4, e5, -⟩ := hSw; go_simp; try with_reducible rfl
    simp only [Act.put, rgA, rgB, rgC, rgD, rgE, rgF]
    refine wpAnyT_loadW (i := 4) (v := ?_) rfl (by kernel_rfl) (by kernel_rfl) (by kernel_rfl) (by kernel_rfl) (by kernel_rfl) (fun _ _ _ h => h) (Or.inl ⟨by rfl, ?_⟩) hSss1 ?_
    rotate_left
    · intro w hSw; obtain ⟨e0, e1, e2, e3, e4, e5, -⟩ := hSw; go_simp; try with_reducible rfl
    simp only [Act.put, rgA, rgB, rgC, rgD, rgE, rgF]
    refine wpAnyT_pure (i := 5) (v := ?_) rfl (by kernel_rfl) (by kernel_rfl) (by kernel_rfl) (fun _ _ _ h => h) (by rfl) ?_ ?_
    rotate_left
    · intro w; go_simp; try with_reducible rfl
    simp only [Act.put, rgA, rgB, rgC, rgD, rgE, rgF]
    refine wpAnyT_done (by kernel_rfl) ?_ _
    have HBP := Lib.hid (below_step HB.out (hB_0_s1.trans ((hB_s1_s1).mono (hB_0_s1).size)))
    cases eb
    · go_wp2_with fail
      go_roundw
      case rel => exact ⟨q + 1, HLT.out, by go_num, HNN.out (by first | rfl | trivial), HBP.out⟩
      case measure => simp [intOf]; try omega
    · go_wp2_with fail
      go_ret
      exact ⟨_, rfl, ⟨fun _ => HIN.out (by first | rfl | trivial), fun _ => by omega⟩, below_step HB1.out HBP.out⟩
  · obtain rfl : len = q := by omega
    have HN := Lib.hid (show (⟨k1, k2, k3⟩ : Ky) ∉ l from fun h => by
      obtain ⟨j, hj, e⟩ := List.getElem_of_mem h
      exact HNO.out j hj (by rw [← HL.out]; exact hj) e)
    clear hB
    go_wp2_with fail
    go_ret
    exact ⟨_, rfl, ⟨fun h => absurd h (by decide), fun h => absurd h HN.out⟩, below_step HB1.out HB.out⟩
set_option maxHeartbeats 1000000 in
theorem containsK {S : Nat → Prop} (w : World) (a : Option Addr) (len cap : Nat) (l : List Ky) (hx : Rd (.sl keyT) S w [.slice a len cap] (l.map Ky.d)) (hS : ∀ b, S b → b < w.heap.size) (k : Ky) :
    Calls Tryz.prog 47 #[.slice a len cap, k.v] w fun e w' => e = .returned (.bool (decide (k ∈ l))) ∧ Below w.heap.size w w' := by
  obtain ⟨k1, k2, k3⟩ := k
  have hB1 := (Below.refl w.heap.size w).alloc (Nat.le_refl _) (.cells #[.string k1, .int .i64 k2, .int .i64 k3] 48)
  have hr := heap_alloc_new w (.cells #[.string k1, .int .i64 k2, .int .i64 k3] 48)
  obtain ⟨mb, hmb⟩ : ∃ mb, decide ((⟨k1, k2, k3⟩ : Ky) ∈ l) = mb := ⟨_, rfl⟩
  rw [hmb]
  have HMB := Lib.hid hmb
  have HI := Lib.hid (indexK _ a len cap l (hx.below hB1 hS) (fun b hb => Nat.lt_of_lt_of_le (hS b hb) hB1.size) ⟨k1, k2, k3⟩)
  have HB1 := Lib.hid hB1
  unfold Ky.v at HI ⊢
  simp only at HI ⊢
  clear hB1 hx hS hr hmb
  go_enter Tryz.func47, Tryz.ntmps47
  go_wp2_with fail
  have hX := HI.out
  refine Calls.mono hX ?_
  clear hX
  rintro e w2 ⟨r, rfl, hr, hb⟩
  have HB2 := Lib.hid (below_step HB1.out hb)
  have HD := Lib.hid (show decide (0 ≤ r) = mb from by rw [← HMB.out]; exact decide_eq_decide.2 hr)
  clear hb hr
  go_wp2_with fail
  go_ret
  refine ⟨?_, HB2.out⟩
  show Ending.returned (.bool (decide (0 ≤ r))) = _
  rw [HD.out]
/-- 'delete(m, k)' in a region. -/
theorem wp_delete1 {P : Program} {o : Oper} {a : Act} {w w' : World} {K : Act → World → Prop} {Q : Exit → Act → World → Prop} (m x : Operand) (t k : TypeId) (ho : o.op = .call { callee := .builtin .delete, args := #[m, x], argTypes := #[t, k] }) {mv kv : Value}
    (hm : a.eval m = mv) (hx : a.eval x = kv) (hrun : (Builtin.delete_ #[t, k] o.type #[mv, kv]).run P w = .ok (.tuple #[]) w') (h : K (a.put o.dst (.tuple #[])) w') : o.wp P a w K Q := by
  unfold Oper.wp
  simp [execOp, ho, resolve, invoke, builtin, hm, hx, hrun, Result.andThen]
  exact h
theorem RdL.fst {e : Ty} {S : Nat → Prop} {w : World} : ∀ {xs ys : List e.den} {vs : List Value}, RdL e S w vs (xs ++ ys) → RdL e S w (vs.take (xs.length * e.sz)) xs
  | [], _, _, _ => by simp [RdL]
  | x :: xs, ys, vs, h => by
    obtain ⟨c, r, rfl, h1, h2⟩ := h
    refine ⟨c, r.take (xs.length * e.sz), ?_, h1, RdL.fst h2⟩
    have hc := h1.len
    rw [List.length_cons, Nat.add_mul, Nat.one_mul, Nat.add_comm, ← hc, List.take_length_add_append]
/-- A row of keys without its last one. -/
theorem owns_pop {base : Nat} {w : World} {v : Value} {l : List Ky} {x : Ky} (h : Owns keyT 48 base (fun _ => False) w v ((l ++ [x]).map Ky.d)) :
    ∃ g cap, v = .slice (some ⟨g, 0, none⟩) (l.length + 1) cap ∧ l.length + 1 ≤ cap ∧ cap ≤ 9223372036854775807 ∧ Owns keyT 48 base (fun _ => False) w (.slice (some ⟨g, 0, none⟩) l.length cap) (l.map Ky.d) ∧ x.ok ∧
      w.cell? ⟨g, l.length * 3, none⟩ = some (.string x.task) ∧ w.cell? ⟨g, l.length * 3 + 1, none⟩ = some (.int .i64 x.ent) ∧ w.cell? ⟨g, l.length * 3 + 2, none⟩ = some (.int .i64 x.per) := by
  have hok := owns_ok h x (by simp)
  rcases owns_krow h with ⟨-, h0⟩ | ⟨g, cap, rfl, hb, hc, hm, hK⟩
  · simp at h0
  · have hx := hK.cell l.length (by simp)
    simp only [List.length_append, List.length_cons, List.length_nil] at hc ⊢
    refine ⟨g, cap, rfl, hc, hm, ?_, hok, by simpa using hx.1, by simpa using hx.2.1, by simpa using hx.2.2⟩
    obtain ⟨vs, ⟨hl, hor⟩, hr, hS⟩ := h
    rw [List.length_map] at hl hor
    rcases hor with ⟨he, h0⟩ | ⟨g', cap', cur, he, hb', hg, hc', hm', hs, ht⟩
    · cases he
    · simp only [Value.slice.injEq, Option.some.injEq, Addr.mk.injEq] at he
      obtain ⟨⟨rfl, -⟩, -, rfl⟩ := he
      refine ⟨vs.take (l.length * keyT.sz), ⟨?_, .inr ⟨g, cap, cur, by rw [List.length_map], hb', hg, by rw [List.length_map]; omega, hm', hs, ?_⟩⟩, ?_, fun b hb => hb.elim⟩
      · rw [List.length_take, List.length_map, hl, List.length_append]
        rw [keyT_sz]; simp; try omega
      · rw [← ht, List.take_take, List.length_map, List.length_append]
        congr 1
        rw [keyT_sz]; simp; try omega
      · rw [List.map_append] at hr
        have := hr.fst
        rwa [List.length_map] at this
end Go.Proofs.YtdcjocldggmdbaaGreat
