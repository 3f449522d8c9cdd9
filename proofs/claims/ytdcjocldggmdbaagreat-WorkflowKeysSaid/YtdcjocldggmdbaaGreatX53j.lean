/- Layer 53: Reopen. -/
import Derived.Test.YtdcjocldggmdbaaGreatY53g
import Derived.Test.YtdcjocldggmdbaaGreatX53i
set_option linter.unusedSimpArgs false
set_option maxRecDepth 50000
namespace Go.Proofs.YtdcjocldggmdbaaGreat
open Go.RowKit Go

/-- Two rows of keys of the call's own, and what else has turned. -/
structure RSt (w wr : World) (m : Nat) (ov kv : Value) (out wk : List Ky) : Prop where
  o : Owns keyT 48 w.heap.size (fun _ => False) wr ov (out.map Ky.d)
  k : Owns keyT 48 w.heap.size (fun _ => False) wr kv (wk.map Ky.d)
  d : ∀ b, ov.ownBlock = some b → kv.ownBlock ≠ some b
  g : Gr (fun b => b = m) w wr
  mb : m < w.heap.size
theorem RSt.gr {F : Nat → Prop} {w wr w' : World} {m : Nat} {ov kv : Value} {out wk : List Ky} (h : RSt w wr m ov kv out wk) (hg : Gr F wr w') (hF : ∀ b, F b → b = m ∨ (w.heap.size ≤ b ∧ ov.ownBlock ≠ some b ∧ kv.ownBlock ≠ some b)) : RSt w w' m ov kv out wk where
  o := h.o.gr hg (fun _ h => h.elim) (fun b hb hf => by
    have h1 := (h.o.own b hb).1
    rcases hF b hf with e | ⟨-, e, -⟩
    · have := h.mb; omega
    · exact e hb)
  k := h.k.gr hg (fun _ h => h.elim) (fun b hb hf => by
    have h1 := (h.k.own b hb).1
    rcases hF b hf with e | ⟨-, -, e⟩
    · have := h.mb; omega
    · exact e hb)
  d := h.d
  g := h.g.trans hg (fun b hb => (hF b hb).imp id (fun h => h.1))
  mb := h.mb
theorem RSt.below {w wr w' : World} {m : Nat} {ov kv : Value} {out wk : List Ky} (h : RSt w wr m ov kv out wk) (hB : Below wr.heap.size wr w') : RSt w w' m ov kv out wk :=
  h.gr (Gr.of_below (F := fun _ => False) hB) (fun _ h => h.elim)
theorem RSt.grown {w wr w' : World} {m r : Nat} {ov kv : Value} {out wk : List Ky} (h : RSt w wr m ov kv out wk) (hg : wr.grownBy w' (some r)) (h1 : w.heap.size ≤ r) (h2 : ov.ownBlock ≠ some r) (h3 : kv.ownBlock ≠ some r) : RSt w w' m ov kv out wk :=
  h.gr (Gr.of_grown hg) (fun b hb => by obtain rfl := Option.some.inj hb; exact .inr ⟨h1, h2, h3⟩)
theorem RSt.pushO {w wr w' : World} {m : Nat} {ov kv v' : Value} {out wk out' : List Ky} (h : RSt w wr m ov kv out wk) (ho : Owns keyT 48 w.heap.size (fun _ => False) w' v' (out'.map Ky.d)) (hg : wr.grownBy w' ov.ownBlock) (hb : v'.ownBlock = ov.ownBlock ∨ v'.ownBlock = some wr.heap.size) : RSt w w' m v' kv out' wk where
  o := ho
  k := h.k.gr (Gr.of_grown hg) (fun _ h => h.elim) (fun b hb hf => h.d b hf hb)
  d := fun b hb' hk => by
    rcases hb with e | e
    · exact h.d b (e ▸ hb') hk
    · rw [e] at hb'
      have := (h.k.own b hk).2
      have := Option.some.inj hb'
      omega
  g := h.g.trans (Gr.of_grown hg) (fun b hb => .inr (h.o.own b hb).1)
  mb := h.mb
theorem RSt.pushK {w wr w' : World} {m : Nat} {ov kv v' : Value} {out wk wk' : List Ky} (h : RSt w wr m ov kv out wk) (ho : Owns keyT 48 w.heap.size (fun _ => False) w' v' (wk'.map Ky.d)) (hg : wr.grownBy w' kv.ownBlock) (hb : v'.ownBlock = kv.ownBlock ∨ v'.ownBlock = some wr.heap.size) : RSt w w' m ov v' out wk' where
  o := h.o.gr (Gr.of_grown hg) (fun _ h => h.elim) (fun b hb hf => h.d b hb hf)
  k := ho
  d := fun b hb' hk => by
    rcases hb with e | e
    · exact h.d b hb' (e ▸ hk)
    · rw [e] at hk
      have := (h.o.own b hb').2
      have := Option.some.inj hk
      omega
  g := h.g.trans (Gr.of_grown hg) (fun b hb => .inr (h.k.own b hb).1)
  mb := h.mb
def lenV : Value → Nat
  | .slice _ l _ => l
  | _ => 0
def fGone (sg : List Sg) (out : List Ky) : Ky → Option ByteArray := fun x => if x ∈ out then none else lkS sg x
theorem fGone_nil (sg : List Sg) : fGone sg [] = lkS sg := by funext x; simp [fGone]
theorem fGone_snoc (sg : List Sg) (out : List Ky) (x : Ky) : (fun y => if y = x then none else fGone sg out y) = fGone sg (out ++ [x]) := by
  funext y
  unfold fGone
  by_cases e : y = x
  · simp [e]
  · simp [e]
theorem fGone_some {sg : List Sg} {out : List Ky} {y : Ky} : (fGone sg out y).isSome = true ↔ y ∈ keysS sg ∧ y ∉ out := by
  unfold fGone
  by_cases e : y ∈ out
  · simp [e]
  · simp [e, lk_isSome]
/-- The error of a reopening. -/
def reopI (ts : List Tk) (ne np : Nat) (sg : List Sg) (k : Ky) : Int := if checkI ts ne np k = 0 then (if (lkS sg k).isSome then 0 else 7) else checkI ts ne np k
/-- What Reopen leaves. -/
def ReopP (S : Nat → Prop) (w : World) (p : Nat) (ts : List Tk) (ne np m n : Nat) (sg : List Sg) (k : Ky) (e : Ending) (w' : World) : Prop :=
  ∃ a l c, e = .returned (.tuple #[.slice a l c, .int .i64 (reopI ts ne np sg k)]) ∧ Rd (.sl keyT) (fun b => b < w'.heap.size) w' [.slice a l c] ((if reopI ts ne np sg k = 0 then goneOf ts ne k sg else []).map Ky.d) ∧ Gr (fun b => b = m) w w' ∧
    ∃ n', n' ≤ n ∧ WfIn S w' p ts ne np m n' (lkS (if reopI ts ne np sg k = 0 then leftOf ts ne k sg else sg))
theorem ReopP.err {S : Nat → Prop} {w w' : World} {p : Nat} {ts : List Tk} {ne np m n : Nat} {sg : List Sg} {k : Ky} (h : WfIn S w p ts ne np m n (lkS sg)) (hB : Below w.heap.size w w') (ci : Int) (hc : reopI ts ne np sg k = ci) (h0 : ci ≠ 0) : ReopP S w p ts ne np m n sg k (.returned (.tuple #[.slice none 0 0, .int .i64 ci])) w' := by
  unfold ReopP
  rw [hc, if_neg h0, if_neg h0]
  exact ⟨_, _, _, rfl, rd_nilK _, Gr.of_below hB, n, Nat.le_refl _, h.below hB⟩
theorem ReopP.ok {S : Nat → Prop} {w w' : World} {p : Nat} {ts : List Tk} {ne np m n n' : Nat} {sg : List Sg} {k : Ky} {out l' : List Ky} {a : Option Addr} {l c : Nat} (hw : Wk ts ne np) (hsg : SgOk ts ne np sg) (hc : reopI ts ne np sg k = 0) (hi : RInv ts ne sg k out []) (hp : l'.Perm out) (ha : Asc ts l')
    (hr : Rd (.sl keyT) (fun b => b < w'.heap.size) w' [.slice a l c] (l'.map Ky.d)) (hg : Gr (fun b => b = m) w w') (hn : n' ≤ n) (hW : WfT S w' p ts ne np m) (hm : MapS w' m n' (fGone sg out)) (hS : ∀ b, S b → b ≠ m) (pm : p ≠ m) : ReopP S w p ts ne np m n sg k (.returned (.tuple #[.slice a l c, .int .i64 0])) w' := by
  have he : l' = goneOf ts ne k sg := gone_eq hw hsg (hp.nodup_iff.2 hi.nd) ha fun x => by rw [hp.mem_iff]; exact hi.done x
  unfold ReopP
  rw [hc, if_pos rfl, if_pos rfl, ← he]
  refine ⟨_, _, _, rfl, hr, hg, n', hn, hW, hm.congr fun x hx => ?_, hS, pm⟩
  rw [lk_left, ← he]
  unfold fGone
  by_cases e : x ∈ out
  · rw [if_pos e, if_pos (hp.mem_iff.2 e)]
  · rw [if_neg e, if_neg (fun h => e (hp.mem_iff.1 h))]
theorem split_last (l : List Ky) (h : l ≠ []) : ∃ a x, l = a ++ [x] := ⟨l.dropLast, l.getLast h, (List.dropLast_concat_getLast h).symm⟩
set_option maxRecDepth 20000 in
set_option maxHeartbeats 8000000 in
theorem reopM {S : Nat → Prop} (w : World) (p : Nat) (ts : List Tk) (ne np m n : Nat) (sg : List Sg) (h : WfIn S w p ts ne np m n (lkS sg)) (hw : Wk ts ne np) (hsg : SgOk ts ne np sg) (hn : sg.length ≤ 1000) (hn2 : n ≤ 1000) (k : Ky) (hok : k.ok) :
    Calls Tryz.prog 24 #[.pointer (some ⟨p, 0, none⟩), k.v] w (ReopP S w p ts ne np m n sg k) := by
  have hne : ne ≤ 1000 := by have := hw.ne; omega
  have HCH := Lib.hid fun W (hB : Below w.heap.size w W) => check53 W p ts ne np m (h.wf.below hB) hne k
  obtain ⟨ci, hci⟩ : ∃ c, checkI ts ne np k = c := ⟨_, rfl⟩
  obtain ⟨fk, hfk⟩ : ∃ o, lkS sg k = o := ⟨_, rfl⟩
  have HRI := Lib.hid (show reopI ts ne np sg k = if ci = 0 then (if fk.isSome then 0 else 7) else ci from by unfold reopI; rw [hci, hfk])
  have HKS := Lib.hid (show fk.isSome = true → k ∈ keysS sg from fun h => by rw [← hfk] at h; exact lk_isSome.1 h)
  rw [hci] at HCH
  have HFK := Lib.hid hfk
  have HKO := Lib.hid hok
  have HH := Lib.hid h
  have HWK := Lib.hid hw
  have HSG := Lib.hid hsg
  have HPM := Lib.hid h.pm
  obtain ⟨wa, wl, wc0, wxs, hrow, -, -⟩ := h.wf.row
  have HPL := Lib.hid (blk_lt hrow)
  have HML := Lib.hid h.mp.lt
  obtain ⟨P, hP⟩ : ∃ P, P = ReopP S w p ts ne np m n sg k := ⟨_, rfl⟩
  rw [← hP]
  have HPE := Lib.hid hP
  obtain ⟨k1, k2, k3⟩ := k
  have hB1 := (Below.refl w.heap.size w).alloc (Nat.le_refl _) (.cells #[.string k1, .int .i64 k2, .int .i64 k3] 48)
  have hr1 := heap_alloc_new w (.cells #[.string k1, .int .i64 k2, .int .i64 k3] 48)
  have HB1 := Lib.hid hB1
  have HR1 := Lib.hid hr1
  unfold Ky.v at HCH ⊢
  simp only at HCH ⊢
  clear h hw hsg hB1 hr1 hok hne hci hfk hrow hP
  go_enter Tryz.func24, Tryz.ntmps24
  go_wp2_with fail
  generalize w.alloc (.cells #[.string k1, .int .i64 k2, .int .i64 k3] 48) = w1 at *
  have hX := HCH.out w1 HB1.out
  refine Calls.mono hX ?_
  clear hX
  rintro e w2 ⟨rfl, hb⟩
  have HB2 := Lib.hid (below_step HB1.out hb)
  have HR2 := Lib.hid ((hb.block _ (blk_lt HR1.out)).trans HR1.out)
  clear hb
  by_cases hc : ci = 0
  · subst hc
    have h2 := HH.out.below HB2.out
    obtain ⟨wa, wl, wc0, wxs, hrow, -, -⟩ := h2.wf.row
    have hC0 : Cells [(⟨p, 3, none⟩, .map (some m)), (⟨w.heap.size, 0, none⟩, .string k1), (⟨w.heap.size, 1, none⟩, .int .i64 k2), (⟨w.heap.size, 2, none⟩, .int .i64 k3)] w2 := ⟨blk_cell hrow 3, blk_cell HR2.out 0, blk_cell HR2.out 1, blk_cell HR2.out 2, trivial⟩
    have H2 := Lib.hid h2
    clear h2 hrow
    go_wp2_with fail
    refine wp_region_T (Cells [(⟨p, 3, none⟩, .map (some m)), (⟨w.heap.size, 0, none⟩, .string k1), (⟨w.heap.size, 1, none⟩, .int .i64 k2), (⟨w.heap.size, 2, none⟩, .int .i64 k3)]) (fun _ => false) (by kernel_rfl) ?_
    have hSss1 := Cells.drew hC0
    have hB_0_s1 : Below w2.heap.size w2 w2.drew := below_drew _
    generalize w2.drew = s1 at hSss1 hB_0_s1 ⊢
    have hB_s1_s1 := Below.refl s1.heap.size s1
    refine wpAnyT_pure (i := 0) (v := ?_) rfl (by kernel_rfl) (by kernel_rfl) (by kernel_rfl) (fun _ _ _ h => h) (by rfl) ?_ ?_
    rotate_left
    · intro w; go_simp; try with_reducible rfl
    simp only [Act.put, rgA, rgB, rgC, rgD, rgE, rgF]
    refine wpAnyT_pure (i := 1) (v := ?_) rfl (by kernel_rfl) (by kernel_rfl) (by kernel_rfl) (fun _ _ _ h => h) (by rfl) ?_ ?_
    rotate_left
    · intro w; go_simp; try with_reducible rfl
    simp only [Act.put, rgA, rgB, rgC, rgD, rgE, rgF]
    refine wpAnyT_pure (i := 2) (v := ?_) rfl (by kernel_rfl) (by kernel_rfl) (by kernel_rfl) (fun _ _ _ h => h) (by rfl) ?_ ?_
    rotate_left
    · intro w; go_simp; try with_reducible rfl
    simp only [Act.put, rgA, rgB, rgC, rgD, rgE, rgF]
    refine wpAnyT_loadW (i := 3) (v := ?_) rfl (by kernel_rfl) (by kernel_rfl) (by kernel_rfl) (by kernel_rfl) (by kernel_rfl) (fun _ _ _ h => h) (Or.inl ⟨by rfl, ?_⟩) hSss1 ?_
    rotate_left
    · intro w hSw; obtain ⟨e0, e1, e2, e3, -⟩ := hSw; go_simp; try with_reducible rfl
    simp only [Act.put, rgA, rgB, rgC, rgD, rgE, rgF]
    refine wpAnyT_loadW (i := 4) (v := ?_) rfl (by kernel_rfl) (by kernel_rfl) (by kernel_rfl) (by kernel_rfl) (by kernel_rfl) (fun _ _ _ h => h) (Or.inl ⟨by rfl, ?_⟩) hSss1 ?_
    rotate_left
    · intro w hSw; obtain ⟨e0, e1, e2, e3, -⟩ := hSw; go_simp; try with_reducible rfl
    simp only [Act.put, rgA, rgB, rgC, rgD, rgE, rgF]
    refine wpAnyT_one (i := 5) (by kernel_rfl) rfl (by rfl) ?_
    have hlk := MapG.look2 ((H2.out.below (hB_0_s1.trans ((hB_s1_s1).mono (hB_0_s1).size))).mp) Tryz.underlying90 ⟨k1, k2, k3⟩ HKO.out
    rw [HFK.out] at hlk
    change Sem.run Tryz.prog (Instr.lookup 90 (.map (some m)) (.agg #[.string k1, .int .i64 k2, .int .i64 k3]) true) s1 = _ at hlk
    refine wp_value (v := .tuple #[.string (fk.getD ⟨#[]⟩), .bool fk.isSome]) (w' := s1) (by go_simp; rfl) ?_
    clear hlk
    refine ⟨fun _ h => h, ?_⟩
    try simp only [Act.put, rgA, rgB, rgC, rgD, rgE, rgF]
    refine wpAnyT_pure (i := 6) (v := ?_) rfl (by kernel_rfl) (by kernel_rfl) (by kernel_rfl) (fun _ _ _ h => h) (by rfl) ?_ ?_
    rotate_left
    · intro w; go_simp; try with_reducible rfl
    simp only [Act.put, rgA, rgB, rgC, rgD, rgE, rgF]
    refine wpAnyT_pure (i := 7) (v := ?_) rfl (by kernel_rfl) (by kernel_rfl) (by kernel_rfl) (fun _ _ _ h => h) (by rfl) ?_ ?_
    rotate_left
    · intro w; go_simp; try with_reducible rfl
    simp only [Act.put, rgA, rgB, rgC, rgD, rgE, rgF]
    refine wpAnyT_pure (i := 8) (v := ?_) rfl (by kernel_rfl) (by kernel_rfl) (by kernel_rfl) (fun _ _ _ h => h) (by rfl) ?_ ?_
    rotate_left
    · intro w; go_simp; try with_reducible rfl
    simp only [Act.put, rgA, rgB, rgC, rgD, rgE, rgF]
    refine wpAnyT_pure (i := 9) (v := ?_) rfl (by kernel_rfl) (by kernel_rfl) (by kernel_rfl) (fun _ _ _ h => h) (by rfl) ?_ ?_
    rotate_left
    · intro w; go_simp; try with_reducible rfl
    simp only [Act.put, rgA, rgB, rgC, rgD, rgE, rgF]
    refine wpAnyT_pure (i := 10) (v := ?_) rfl (by kernel_rfl) (by kernel_rfl) (by kernel_rfl) (fun _ _ _ h => h) (by rfl) ?_ ?_
    rotate_left
    · intro w; go_simp; try with_reducible rfl
    simp only [Act.put, rgA, rgB, rgC, rgD, rgE, rgF]
    refine wpAnyT_done (by kernel_rfl) ?_ _
    obtain ⟨w3, rfl⟩ : ∃ x, x = s1 := ⟨_, rfl⟩
    have hbP : Below w2.heap.size w2 w3 := hB_0_s1.trans ((hB_s1_s1).mono (hB_0_s1).size)
    have HB3 := Lib.hid (below_step HB2.out hbP)
    have HR3 := Lib.hid ((hbP.block _ (blk_lt HR2.out)).trans HR2.out)
    clear hbP hC0
    cases fk with
    | none =>
      go_wp2_with fail
      rw [HPE.out]
      exact ReopP.err HH.out HB3.out 7 (by rw [HRI.out]; rfl) (by decide)
    | some v =>
      have HKM := Lib.hid (HKS.out rfl)
      have HR0 := Lib.hid (show reopI ts ne np sg ⟨k1, k2, k3⟩ = 0 from by rw [HRI.out]; rfl)
      have x0 := blk_cell HR3.out 0
      have x1 := blk_cell HR3.out 1
      have x2 := blk_cell HR3.out 2
      simp at x0 x1 x2
      have HRS := Lib.hid (show RSt w (w3.alloc (.cells #[.string k1, .int .i64 k2, .int .i64 k3] 48)) m (.slice none 0 0) (.slice (some ⟨w3.heap.size, 0, none⟩) 1 1) [] [⟨k1, k2, k3⟩] from
        ⟨Owns.nil _ _ _ _, by
          have := Owns.lit (te := 48) (base := w.heap.size) w3 (RdL.one (S := fun _ => False) (w := w3) (key_rd HKO.out)) HB3.out.size (fun _ h => h.elim) (by simp)
          exact this, fun b hb => (Option.some_ne_none b hb.symm).elim, (Gr.of_below HB3.out).alloc _, HML.out⟩)
      have HM3 := Lib.hid (show MapS (w3.alloc (.cells #[.string k1, .int .i64 k2, .int .i64 k3] 48)) m n (fGone sg []) from by
        rw [fGone_nil]
        exact ((HH.out.below HB3.out).mp).below ((Below.refl _ _).alloc (Nat.le_refl _) _))
      go_wp2_with fail
      generalize w3.alloc (.cells #[.string k1, .int .i64 k2, .int .i64 k3] 48) = w4 at *
      clear x0 x1 x2 HR3 HR2 HCH HR1 HFK
      go_loopw [9, 10] (fun ov kv wr => ∃ (out wk : List Ky) (n' : Nat), RSt w wr m ov kv out wk ∧ RInv ts ne sg ⟨k1, k2, k3⟩ out wk ∧ n' ≤ n ∧ MapS wr m n' (fGone sg out) ∧ wk.length ≤ 1 + out.length * n) (fun ov kv _ => (sg.length - lenV ov) * (n + 1) + lenV kv)
      case atStart => exact ⟨[], [⟨k1, k2, k3⟩], n, HRS.out, RInv.start HKM.out, Nat.le_refl _, HM3.out, by simp⟩
      obtain ⟨out, wk, n', hrs, hin, hn', hmp, hwl⟩ := hrel
      have HRSr := Lib.hid hrs
      have HIN := Lib.hid hin
      have HMP := Lib.hid hmp
      have HWL := Lib.hid hwl
      have HN' := Lib.hid hn'
      clear hin hmp hwl hn' HRS HM3
      by_cases hwe : wk = []
      · subst hwe
        obtain ⟨oa, ol, oc, rfl, hol, -⟩ := hrs.o.slice
        obtain ⟨ka, kl, kc, rfl, hkl, -⟩ := hrs.k.slice
        have hkl0 : kl = 0 := by simpa using hkl
        subst hkl0
        have HW4 := Lib.hid (HH.out.wf.gr hrs.g HPM.out HH.out.mS)
        have HSK := Lib.hid (sortKeys53 wr p ts ne np m HW4.out (.slice oa ol oc) out hrs.o (by have := HIN.out.len; omega) (owns_ok hrs.o) HPL.out HH.out.wf.hS hrs.g.size)
        clear hrs hol hkl
        unfold cmpV at HSK
        go_wp2_with fail
        have hX := HSK.out
        refine Calls.mono hX ?_
        clear hX
        rintro e w7 ⟨rfl, l', hp', ha', hr', hB'⟩
        have hP := ReopP.ok (S := S) (p := p) (np := np) (m := m) (n := n) HWK.out HSG.out HR0.out HIN.out hp' ha' hr' (HRSr.out.g.trans (gr_of_belowN hB') (fun b hb => .inr hb)) HN'.out (HW4.out.gr (gr_of_belowN hB') (by have := HPL.out; omega) (fun b hb => by have := HH.out.wf.hS b hb; omega)) (MapG.gr HMP.out (gr_of_belowN hB') (by have := HML.out; omega)) HH.out.mS HPM.out
        have HP := Lib.hid hP
        clear hp' ha' hr' hB' hP
        go_wp2_with fail
        rw [HPE.out]
        exact HP.out
      · obtain ⟨l, x, rfl⟩ := split_last wk hwe
        obtain ⟨oa, ol, oc, rfl, hol, -⟩ := hrs.o.slice
        obtain ⟨g, cap, rfl, hc1, hc2, hpop, hxk, m0, m1, m2⟩ := owns_pop hrs.k
        have HPOP := Lib.hid (show RSt w wr m (.slice oa ol oc) (.slice (some ⟨g, 0, none⟩) l.length cap) out l from ⟨hrs.o, hpop, fun b hb hk => hrs.d b hb hk, hrs.g, hrs.mb⟩)
        have HXR := Lib.hid (HIN.out.r2 x (by simp))
        have HXK := Lib.hid hxk
        have HOL := Lib.hid (show ol = out.length from by simpa using hol)
        obtain ⟨L, hL⟩ : ∃ L, l.length = L := ⟨_, rfl⟩
        have HLL := Lib.hid hL
        rw [hL] at hc1 m0 m1 m2 HPOP ⊢
        have hLc : (L : Int) ≤ (cap : Int) := by omega
        have hL9 : (L : Int) < 9223372036854775807 := by omega
        clear hol hpop hxk hwe hrs hL
        obtain ⟨xk, hxe⟩ : ∃ xk, xk = x := ⟨_, rfl⟩
        have HXE := Lib.hid hxe
        clear hxe
        obtain ⟨x1, x2, x3⟩ := x
        simp only at m0 m1 m2
        have hrz := heap_alloc_new wr (.cells #[.string ⟨#[]⟩, .int .i64 0, .int .i64 0] 48)
        have hBz := (Below.refl wr.heap.size wr).alloc (Nat.le_refl _) (.cells #[.string ⟨#[]⟩, .int .i64 0, .int .i64 0] 48)
        have HRZ := Lib.hid hrz
        have HROW := Lib.hid (setRow_heap _ _ _ #[.string x1, .int .i64 x2, .int .i64 x3] _ _ hrz)
        have HBS := Lib.hid (below_setRow (n := wr.heap.size) hBz (Nat.le_refl _) #[.string x1, .int .i64 x2, .int .i64 x3])
        clear hrz hBz
        go_wp2_with (refine wpList_store_row rfl _ _ _ rfl (wr.heap.size) #[.string x1, .int .i64 x2, .int .i64 x3] rfl rfl 48 _ HRZ.out (by kernel_rfl) (by rfl) (by simp [Value.oneCell']) ?_)
        have hBs := HBS.out
        have hrow := HROW.out
        generalize hw5 : World.setRow (wr.alloc _) _ _ = w5 at hBs hrow ⊢
        have h5 := HPOP.out.below hBs
        have HM5 := Lib.hid (show MapS w5 m n' (fGone sg out) from MapG.below HMP.out hBs)
        have HXL := Lib.hid (show w.heap.size ≤ wr.heap.size from HPOP.out.g.size)
        have HXO := Lib.hid (show ∀ b, (Value.slice oa ol oc).ownBlock = some b → b < wr.heap.size from fun b hb => (HPOP.out.o.own b hb).2)
        have HXG := Lib.hid (show g < wr.heap.size from (HPOP.out.k.own g rfl).2)
        have HX5 := Lib.hid (show wr.heap.size < w5.heap.size from blk_lt hrow)
        clear hw5 HBS HROW m0 m1 m2 HRZ hBs
        generalize hxb : wr.heap.size = xb at hrow HXL HXO HXG HX5 ⊢
        clear hxb
        have HROW := Lib.hid hrow
        have HW5 := Lib.hid (HH.out.wf.gr h5.g HPM.out HH.out.mS)
        obtain ⟨ta, tl, tc, txs, hwr, -, -⟩ := HW5.out.row
        have hC0 : Cells [(⟨p, 3, none⟩, .map (some m)), (⟨xb, 0, none⟩, .string x1), (⟨xb, 1, none⟩, .int .i64 x2), (⟨xb, 2, none⟩, .int .i64 x3)] w5 := ⟨blk_cell hwr 3, blk_cell hrow 0, blk_cell hrow 1, blk_cell hrow 2, trivial⟩
        have H5 := Lib.hid h5
        obtain ⟨fx, hfx⟩ : ∃ o, fGone sg out ⟨x1, x2, x3⟩ = o := ⟨_, rfl⟩
        have HFX := Lib.hid hfx
        clear h5 hwr hrow hfx
        refine wp_region_T (Cells [(⟨p, 3, none⟩, .map (some m)), (⟨xb, 0, none⟩, .string x1), (⟨xb, 1, none⟩, .int .i64 x2), (⟨xb, 2, none⟩, .int .i64 x3)]) (fun _ => false) (by kernel_rfl) ?_
        have hSss2 := Cells.drew hC0
        have hB_0_s2 : Below w5.heap.size w5 w5.drew := below_drew _
        generalize w5.drew = s2 at hSss2 hB_0_s2 ⊢
        have hB_s2_s2 := Below.refl s2.heap.size s2
        refine wpAnyT_pure (i := 0) (v := ?_) rfl (by kernel_rfl) (by kernel_rfl) (by kernel_rfl) (fun _ _ _ h => h) (by rfl) ?_ ?_
        rotate_left
        · intro w; go_simp; try with_reducible rfl
        simp only [Act.put, rgA, rgB, rgC, rgD, rgE, rgF]
        refine wpAnyT_pure (i := 1) (v := ?_) rfl (by kernel_rfl) (by kernel_rfl) (by kernel_rfl) (fun _ _ _ h => h) (by rfl) ?_ ?_
        rotate_left
        · intro w; go_simp; try with_reducible rfl
        simp only [Act.put, rgA, rgB, rgC, rgD, rgE, rgF]
        refine wpAnyT_pure (i := 2) (v := ?_) rfl (by kernel_rfl) (by kernel_rfl) (by kernel_rfl) (fun _ _ _ h => h) (by rfl) ?_ ?_
        rotate_left
        · intro w; go_simp; try with_reducible rfl
        simp only [Act.put, rgA, rgB, rgC, rgD, rgE, rgF]
        refine wpAnyT_loadW (i := 3) (v := ?_) rfl (by kernel_rfl) (by kernel_rfl) (by kernel_rfl) (by kernel_rfl) (by kernel_rfl) (fun _ _ _ h => h) (Or.inl ⟨by rfl, ?_⟩) hSss2 ?_
        rotate_left
        · intro w hSw; obtain ⟨e0, e1, e2, e3, -⟩ := hSw; go_simp; try with_reducible rfl
        simp only [Act.put, rgA, rgB, rgC, rgD, rgE, rgF]
        refine wpAnyT_loadW (i := 4) (v := ?_) rfl (by kernel_rfl) (by kernel_rfl) (by kernel_rfl) (by kernel_rfl) (by kernel_rfl) (fun _ _ _ h => h) (Or.inl ⟨by rfl, ?_⟩) hSss2 ?_
        rotate_left
        · intro w hSw; obtain ⟨e0, e1, e2, e3, -⟩ := hSw; go_simp; try with_reducible rfl
        simp only [Act.put, rgA, rgB, rgC, rgD, rgE, rgF]
        refine wpAnyT_one (i := 5) (by kernel_rfl) rfl (by rfl) ?_
        have hlk := MapG.look2 (MapG.below HM5.out (hB_0_s2.trans ((hB_s2_s2).mono (hB_0_s2).size))) Tryz.underlying90 ⟨x1, x2, x3⟩ HXK.out
        rw [HFX.out] at hlk
        change Sem.run Tryz.prog (Instr.lookup 90 (.map (some m)) (.agg #[.string x1, .int .i64 x2, .int .i64 x3]) true) s2 = _ at hlk
        refine wp_value (v := .tuple #[.string (fx.getD ⟨#[]⟩), .bool fx.isSome]) (w' := s2) (by go_simp; rfl) ?_
        clear hlk
        refine ⟨fun _ h => h, ?_⟩
        try simp only [Act.put, rgA, rgB, rgC, rgD, rgE, rgF]
        refine wpAnyT_pure (i := 6) (v := ?_) rfl (by kernel_rfl) (by kernel_rfl) (by kernel_rfl) (fun _ _ _ h => h) (by rfl) ?_ ?_
        rotate_left
        · intro w; go_simp; try with_reducible rfl
        simp only [Act.put, rgA, rgB, rgC, rgD, rgE, rgF]
        refine wpAnyT_pure (i := 7) (v := ?_) rfl (by kernel_rfl) (by kernel_rfl) (by kernel_rfl) (fun _ _ _ h => h) (by rfl) ?_ ?_
        rotate_left
        · intro w; go_simp; try with_reducible rfl
        simp only [Act.put, rgA, rgB, rgC, rgD, rgE, rgF]
        refine wpAnyT_pure (i := 8) (v := ?_) rfl (by kernel_rfl) (by kernel_rfl) (by kernel_rfl) (fun _ _ _ h => h) (by rfl) ?_ ?_
        rotate_left
        · intro w; go_simp; try with_reducible rfl
        simp only [Act.put, rgA, rgB, rgC, rgD, rgE, rgF]
        refine wpAnyT_pure (i := 9) (v := ?_) rfl (by kernel_rfl) (by kernel_rfl) (by kernel_rfl) (fun _ _ _ h => h) (by rfl) ?_ ?_
        rotate_left
        · intro w; go_simp; try with_reducible rfl
        simp only [Act.put, rgA, rgB, rgC, rgD, rgE, rgF]
        refine wpAnyT_pure (i := 10) (v := ?_) rfl (by kernel_rfl) (by kernel_rfl) (by kernel_rfl) (fun _ _ _ h => h) (by rfl) ?_ ?_
        rotate_left
        · intro w; go_simp; try with_reducible rfl
        simp only [Act.put, rgA, rgB, rgC, rgD, rgE, rgF]
        refine wpAnyT_done (by kernel_rfl) ?_ _
        obtain ⟨w6, rfl⟩ : ∃ x, x = s2 := ⟨_, rfl⟩
        have hbP : Below w5.heap.size w5 w6 := hB_0_s2.trans ((hB_s2_s2).mono (hB_0_s2).size)
        have H6 := Lib.hid (H5.out.below hbP)
        have HM6 := Lib.hid (show MapS w6 m n' (fGone sg out) from MapG.below HM5.out hbP)
        have HR6 := Lib.hid ((hbP.block _ (blk_lt HROW.out)).trans HROW.out)
        have HX6 := Lib.hid (show xb < w6.heap.size from Nat.lt_of_lt_of_le HX5.out hbP.size)
        have hC6 := Cells.below hbP hC0
        clear hbP hC0 HM5 HROW HW5 HX5 H5
        cases fx with
        | none =>
          have HSK := Lib.hid (show RInv ts ne sg ⟨k1, k2, k3⟩ out l from HIN.out.skip (by
            have h := HFX.out
            unfold fGone at h
            by_cases e : (⟨x1, x2, x3⟩ : Ky) ∈ out
            · exact e
            · rw [if_neg e] at h
              exact absurd HXR.out.mem (lk_none.1 h)))
          clear hC6
          go_wp2_with fail
          go_roundw
          case rel =>
            (repeat apply Exists.intro)
            refine ⟨?_, rfl⟩
            exact ⟨out, l, n', H6.out, HSK.out, HN'.out, HM6.out, by have h := HWL.out; rw [List.length_append] at h; simp only [List.length_cons, List.length_nil] at h; generalize out.length * n = q at h ⊢; omega⟩
          case measure => simp [lenV]; try omega
        | some v =>
          have HXI := Lib.hid (fGone_some.1 (show (fGone sg out ⟨x1, x2, x3⟩).isSome = true from by rw [HFX.out]; rfl))
          go_wp2_with fail
          refine wp_region_T (Cells [(⟨p, 3, none⟩, .map (some m)), (⟨xb, 0, none⟩, .string x1), (⟨xb, 1, none⟩, .int .i64 x2), (⟨xb, 2, none⟩, .int .i64 x3)]) (fun i => i == 5) (by kernel_rfl) ?_
          have hSss3 := Cells.drew hC6
          have hB_0_s3 : Below w6.heap.size w6 w6.drew := below_drew _
          generalize w6.drew = s3 at hSss3 hB_0_s3 ⊢
          have hB_s3_s3 := Below.refl s3.heap.size s3
          refine wpAnyT_pure (i := 0) (v := ?_) rfl (by kernel_rfl) (by kernel_rfl) (by kernel_rfl) (fun _ _ _ h => h) (by rfl) ?_ ?_
          rotate_left
          · intro w; go_simp; try with_reducible rfl
          simp only [Act.put, rgA, rgB, rgC, rgD, rgE, rgF]
          refine wpAnyT_pure (i := 1) (v := ?_) rfl (by kernel_rfl) (by kernel_rfl) (by kernel_rfl) (fun _ _ _ h => h) (by rfl) ?_ ?_
          rotate_left
          · intro w; go_simp; try with_reducible rfl
          simp only [Act.put, rgA, rgB, rgC, rgD, rgE, rgF]
          refine wpAnyT_pure (i := 2) (v := ?_) rfl (by kernel_rfl) (by kernel_rfl) (by kernel_rfl) (fun _ _ _ h => h) (by rfl) ?_ ?_
          rotate_left
          · intro w; go_simp; try with_reducible rfl
          simp only [Act.put, rgA, rgB, rgC, rgD, rgE, rgF]
          refine wpAnyT_loadW (i := 3) (v := ?_) rfl (by kernel_rfl) (by kernel_rfl) (by kernel_rfl) (by kernel_rfl) (by kernel_rfl) (fun _ _ _ h => h) (Or.inl ⟨by rfl, ?_⟩) hSss3 ?_
          rotate_left
          · intro w hSw; obtain ⟨e0, e1, e2, e3, -⟩ := hSw; go_simp; try with_reducible rfl
          simp only [Act.put, rgA, rgB, rgC, rgD, rgE, rgF]
          refine wpAnyT_loadW (i := 4) (v := ?_) rfl (by kernel_rfl) (by kernel_rfl) (by kernel_rfl) (by kernel_rfl) (by kernel_rfl) (fun _ _ _ h => h) (Or.inl ⟨by rfl, ?_⟩) hSss3 ?_
          rotate_left
          · intro w hSw; obtain ⟨e0, e1, e2, e3, -⟩ := hSw; go_simp; try with_reducible rfl
          simp only [Act.put, rgA, rgB, rgC, rgD, rgE, rgF]
          refine wpAnyT_one (i := 5) (by kernel_rfl) rfl (by rfl) ?_
          have hbP : Below w6.heap.size w6 s3 := hB_0_s3.trans ((hB_s3_s3).mono (hB_0_s3).size)
          have hd := fun ty => MapG.drop (MapG.below HM6.out hbP) Tryz.underlying90 ⟨x1, x2, x3⟩ HXK.out ty
          obtain ⟨w104, hrun, hm7, ht7⟩ := hd _
          refine wp_delete1 (.tmp 64) (.tmp 65) 90 48 rfl (mv := .map (some m)) (kv := .agg #[.string x1, .int .i64 x2, .int .i64 x3]) (by kernel_rfl) (by kernel_rfl) hrun ?_
          have h7 := (H6.out.below hbP).gr (Gr.of_turned ht7) (fun b e => .inl e)
          have hr7 := blk_gr (Gr.of_turned ht7) ((hbP.block _ (blk_lt HR6.out)).trans HR6.out) (by have := HXL.out; have := HML.out; omega)
          rw [HFX.out] at hm7
          clear hrun ht7 hd
          refine ⟨fun h => absurd h (by decide), ?_⟩
          try simp only [Act.put, rgA, rgB, rgC, rgD, rgE, rgF]
          refine wpAnyT_done (by kernel_rfl) ?_ _
          obtain ⟨w7, rfl⟩ : ∃ x, x = w104 := ⟨_, rfl⟩
          have HM7 := Lib.hid (show MapS w7 m (n' - 1) (fGone sg (out ++ [⟨x1, x2, x3⟩])) from by rw [← fGone_snoc]; exact hm7)
          have H7 := Lib.hid h7
          have HR7 := Lib.hid hr7
          have HX7 := Lib.hid (blk_lt hr7)
          have HOL7 := Lib.hid (show out.length ≤ 1000 from by have := HIN.out.len; omega)
          have x0 := blk_cell hr7 0
          have x1' := blk_cell hr7 1
          have x2' := blk_cell hr7 2
          simp at x0 x1' x2'
          clear h7 hr7 hm7 hC6 HM6 H6 HR6 HX6 HFX hbP
          go_wp2_with (first | (at_builtin; go_must (refine wpList_app _ rfl _ _ 46 rfl (e := keyT) (te := 48) info_key Tryz.underlying46 rfl (by decide) (base := w.heap.size) (S := fun _ => False) (v := .slice oa ol oc) (xs := out.map Ky.d) rfl (H7.out.o.alloc _) (by have := H7.out.g.size; simp only [World.size_alloc]; omega) (sv := .slice (some ⟨w7.heap.size, 0, none⟩) 1 1) rfl (ys := [Ky.d ⟨x1, x2, x3⟩]) (by simpa using Src.new w7 [.string x1, .int .i64 x2, .int .i64 x3] 48 1 1) (RdL.one (e := keyT) (key_rd HXK.out)) (by have := HOL7.out; rw [List.length_map]; simp; omega) (by have := HOL7.out; rw [List.length_map]; simp; omega) ?_; intro v9 w9 O9 g9 _ ob9; have H9 := Lib.hid ((H7.out.below ((Below.refl _ w7).alloc (Nat.le_refl _) (.cells #[.string x1, .int .i64 x2, .int .i64 x3] 48))).pushO (out' := out ++ [⟨x1, x2, x3⟩]) (by rw [List.map_append]; exact O9) g9 ob9); have HM9 := Lib.hid (show MapS w9 m (n' - 1) (fGone sg (out ++ [⟨x1, x2, x3⟩])) from (MapG.below HM7.out ((Below.refl _ w7).alloc (Nat.le_refl _) (.cells #[.string x1, .int .i64 x2, .int .i64 x3] 48))).gr (Gr.of_grown g9) (fun hf => by have := (H7.out.o.own m hf).1; have := HML.out; omega)); have HR9 := Lib.hid (blk_gr (Gr.of_grown g9) ((heap_alloc_old w7 (.cells #[.string x1, .int .i64 x2, .int .i64 x3] 48) HX7.out).trans HR7.out) (fun hf => by have := HXO.out xb hf; omega)); have HW9 := Lib.hid (HH.out.wf.gr H9.out.g HPM.out HH.out.mS); obtain ⟨ta, tl, tc, txs, hwr, -, -⟩ := HW9.out.row; have y3 := blk_cell hwr 3; simp at y3; clear hwr O9 g9 ob9 x0 x1' x2')) | (at_range; go_must (refine wpList_rangeG (Ks := keyK) (Es := strE) rfl _ rfl Tryz.underlying90 rfl HM9.out ?_); intro w10 hrg0 hg0 hs0))
          go_frame
          have HVL := Lib.hid (show lenV v9 = out.length + 1 from by obtain ⟨va, vl, vc, hv, hvl, -⟩ := H9.out.o.slice; rw [hv]; simp [lenV, hvl])
          have h10 := H9.out.gr (Gr.of_grown hg0) (fun b hb => by cases hb)
          have HR10 := Lib.hid (blk_gr (Gr.of_grown hg0) HR9.out (fun hb => by cases hb))
          have HV9 := Lib.hid (show v9.ownBlock ≠ some w9.heap.size from fun e => by have := (H9.out.o.own _ e).2; omega)
          have HX9 := Lib.hid (blk_lt HR9.out)
          have HSZ := Lib.hid (show w10.heap.size = w9.heap.size + 1 from hs0)
          have HRG := Lib.hid hrg0
          have HB9 := Lib.hid (show w.heap.size ≤ w9.heap.size from H9.out.g.size)
          have H10 := Lib.hid h10
          clear h10 hg0 hs0 hrg0
          have hxr : xb < w9.heap.size := HX9.out
          have hnr := HB9.out
          generalize hrb : w9.heap.size = rb at HRG HV9 HSZ hxr hnr ⊢
          clear hrb HM9 HW9 H9 HR9 HB9 HX9 HM7 H7 HR7 HX7
          obtain ⟨n7, hn7⟩ : ∃ q, q = n' - 1 := ⟨_, rfl⟩
          rw [← hn7] at HRG
          have HN7 := Lib.hid (show n7 ≤ n from by have := HN'.out; omega)
          clear hn7
          have HXS := Lib.hid (show (⟨x1, x2, x3⟩ : Ky) ∉ out from HXI.out.2)
          have A1 : (Value.slice (some ⟨g, 0, none⟩) L cap).ownBlock ≠ some xb := fun e => by
            have e' : g = xb := Option.some.inj e
            have := HXG.out
            omega
          have A2 : (Value.slice (some ⟨g, 0, none⟩) L cap).ownBlock ≠ some rb := fun e => by
            have e' : g = rb := Option.some.inj e
            have := HXG.out
            omega
          have A3 : ∀ y ∈ keysS sg, y ∉ out ++ [(⟨x1, x2, x3⟩ : Ky)] → (fGone sg (out ++ [⟨x1, x2, x3⟩]) y).isSome = false → (⟨x1, x2, x3⟩ : Ky) ∈ rawNeeds ts ne y → y ∈ ([] : List Ky) := fun y h1 h2 h3 => by
            rw [fGone_some.2 ⟨h1, h2⟩] at h3
            cases h3
          go_loopw [10] (fun kv wr => ∃ (left : Ky → Bool) (cnt : Nat) (pu : List Ky), RSt w wr m v9 kv (out ++ [⟨x1, x2, x3⟩]) (l ++ pu) ∧ RgG keyK strE wr m rb n7 (fGone sg (out ++ [⟨x1, x2, x3⟩])) left cnt ∧ kv.ownBlock ≠ some xb ∧ kv.ownBlock ≠ some rb ∧ wr.heap[xb]? = some (.cells #[.string x1, .int .i64 x2, .int .i64 x3] 48 (0, 0)) ∧ (∀ y ∈ pu, y ∈ keysS sg ∧ (⟨x1, x2, x3⟩ : Ky) ∈ rawNeeds ts ne y) ∧ (∀ y ∈ keysS sg, y ∉ out ++ [⟨x1, x2, x3⟩] → left y = false → (⟨x1, x2, x3⟩ : Ky) ∈ rawNeeds ts ne y → y ∈ pu) ∧ pu.length + cnt ≤ n7) (fun _ wr => wr.rangeLeft m rb)
          case atStart => exact ⟨_, _, [], by rw [List.append_nil]; exact H10.out, HRG.out, A1, A2, HR10.out, fun y hy => (List.not_mem_nil hy).elim, A3, by simp⟩
          obtain ⟨left, cnt, pu, hrs, hrg, hkx, hkr, hxw, hpu, hq, hcnt⟩ := hrel
          obtain ⟨ka, kl, kc, rfl, hkl, -⟩ := hrs.k.slice
          have HRS2 := Lib.hid hrs
          have HRG2 := Lib.hid hrg
          have HKX := Lib.hid hkx
          have HKR := Lib.hid hkr
          have HXW := Lib.hid hxw
          have HPU := Lib.hid hpu
          have HQ := Lib.hid hq
          have HCN := Lib.hid hcnt
          have HKL := Lib.hid (show kl = (l ++ pu).length from by simpa using hkl)
          clear hrs hrg hkx hkr hxw hpu hq hcnt HRG H10 HR10 HSZ hkl A1 A2 A3
          go_wp2_with (first | (at_next; go_must (refine wpList_nextG rfl _ rfl rfl HRG2.out keyOf_inv53 (fun x y => Ky.v_inj) strE_v ?_ ?_)) | go_in)
          · intro hl0
            have HTK := Lib.hid (HIN.out.take HXS.out HPU.out (fun y h1 h2 h3 => HQ.out y h1 h2 (hl0 y (kv_ok HWK.out (keys_kv HSG.out h1))) h3))
            have HM2 := Lib.hid HRG2.out.map
            clear hl0
            go_wp2_with fail
            go_roundw
            case rel =>
              (repeat apply Exists.intro)
              refine ⟨?_, rfl⟩
              exact ⟨out ++ [(⟨x1, x2, x3⟩ : Ky)], l ++ pu, n7, HRS2.out, HTK.out, HN7.out, HM2.out, by
                have h := HWL.out
                have h2 := HCN.out
                have h3 := HN7.out
                simp only [List.length_append, List.length_cons, List.length_nil, Nat.zero_add, Nat.add_mul, Nat.one_mul] at h ⊢
                generalize out.length * n = q at h ⊢
                omega⟩
            case measure =>
              show (sg.length - lenV v9) * (n + 1) + kl < (sg.length - ol) * (n + 1) + (L + 1)
              have h1 := HTK.out.len
              have h2 := HCN.out
              have h3 := HN7.out
              rw [List.length_append] at h1
              simp only [List.length_cons, List.length_nil] at h1
              rw [HVL.out, HOL.out, HKL.out, List.length_append, HLL.out]
              obtain ⟨a, ha⟩ : ∃ a, sg.length - out.length = a + 1 := ⟨sg.length - out.length - 1, by omega⟩
              rw [show sg.length - (out.length + 1) = a from by omega, ha, Nat.add_mul, Nat.one_mul]
              generalize a * (n + 1) = q
              omega
          · intro y c w3' cnt2 hyk hfc hlc hrg2 hlt hg2 hs2 hen
            have hyi := fGone_some.1 (show (fGone sg (out ++ [(⟨x1, x2, x3⟩ : Ky)]) y).isSome = true from by rw [hfc]; rfl)
            have HYI := Lib.hid hyi
            have HYK := Lib.hid hyk
            have HND := Lib.hid fun W (hW : WfT S W p ts ne np m) => needs53 W p ts ne np m hW (by have := HWK.out.ne; omega) y (HWK.out.need (keys_kv HSG.out hyi.1))
            have h3 := HRS2.out.grown hg2 hnr HV9.out HKR.out
            have hx3 := blk_gr (Gr.of_grown hg2) HXW.out (fun e => by have e' : rb = xb := Option.some.inj e; omega)
            have HLT := Lib.hid hlt
            have HB4 := Lib.hid ((Below.refl w3'.heap.size w3').alloc (Nat.le_refl _) (.cells #[.string y.task, .int .i64 y.ent, .int .i64 y.per] 48))
            have HRS4 := Lib.hid (h3.below HB4.out)
            have HRG4 := Lib.hid (hrg2.below HB4.out)
            have HX4 := Lib.hid ((HB4.out.block _ (blk_lt hx3)).trans hx3)
            have HY4 := Lib.hid (heap_alloc_new w3' (.cells #[.string y.task, .int .i64 y.ent, .int .i64 y.per] 48))
            have HPY := Lib.hid (show (⟨x1, x2, x3⟩ : Ky) ∈ rawNeeds ts ne y → ∀ z ∈ pu ++ [y], z ∈ keysS sg ∧ (⟨x1, x2, x3⟩ : Ky) ∈ rawNeeds ts ne z from fun hm z hz => by
              rcases List.mem_append.1 hz with hz | hz
              · exact HPU.out z hz
              · rw [List.mem_singleton] at hz; rw [hz]; exact ⟨HYI.out.1, hm⟩)
            have HQT := Lib.hid (show ∀ z ∈ keysS sg, z ∉ out ++ [(⟨x1, x2, x3⟩ : Ky)] → (left z && !decide (z = y)) = false → (⟨x1, x2, x3⟩ : Ky) ∈ rawNeeds ts ne z → z ∈ pu ++ [y] from fun z h1 h2 h3 h4 => by
              rcases Bool.and_eq_false_iff.1 h3 with h3 | h3
              · exact List.mem_append_left _ (HQ.out z h1 h2 h3 h4)
              · have : z = y := by simpa using h3
                rw [this]; simp)
            have HQF := Lib.hid (show (⟨x1, x2, x3⟩ : Ky) ∉ rawNeeds ts ne y → ∀ z ∈ keysS sg, z ∉ out ++ [(⟨x1, x2, x3⟩ : Ky)] → (left z && !decide (z = y)) = false → (⟨x1, x2, x3⟩ : Ky) ∈ rawNeeds ts ne z → z ∈ pu from fun hm z h1 h2 h3 h4 => by
              rcases Bool.and_eq_false_iff.1 h3 with h3 | h3
              · exact HQ.out z h1 h2 h3 h4
              · have : z = y := by simpa using h3
                rw [this] at h4
                exact absurd h4 hm)
            clear hyi hyk hfc hlc hrg2 hlt hg2 hs2 h3 hx3
            obtain ⟨y1, y2, y3⟩ := y
            simp only [keyK, strE] at hen ⊢
            unfold Ky.v at hen HND ⊢
            simp only at hen HND HB4 HRS4 HRG4 HX4 HY4 ⊢
            go_wp2_with fail
            obtain ⟨w4', hw4'⟩ : ∃ q, q = w3'.alloc (.cells #[.string y1, .int .i64 y2, .int .i64 y3] 48) := ⟨_, rfl⟩
            rw [← hw4'] at HRS4 HRG4 HX4 HY4 ⊢
            clear hw4' HB4
            generalize w3'.heap.size = yb at HY4 ⊢
            have HW4 := Lib.hid (HH.out.wf.gr HRS4.out.g HPM.out HH.out.mS)
            have hC0 : Cells [(⟨yb, 0, none⟩, .string y1), (⟨yb, 1, none⟩, .int .i64 y2), (⟨yb, 2, none⟩, .int .i64 y3), (⟨xb, 0, none⟩, .string x1), (⟨xb, 1, none⟩, .int .i64 x2), (⟨xb, 2, none⟩, .int .i64 x3)] w4' := ⟨blk_cell HY4.out 0, blk_cell HY4.out 1, blk_cell HY4.out 2, blk_cell HX4.out 0, blk_cell HX4.out 1, blk_cell HX4.out 2, trivial⟩
            refine wp_region_T (Cells [(⟨yb, 0, none⟩, .string y1), (⟨yb, 1, none⟩, .int .i64 y2), (⟨yb, 2, none⟩, .int .i64 y3), (⟨xb, 0, none⟩, .string x1), (⟨xb, 1, none⟩, .int .i64 x2), (⟨xb, 2, none⟩, .int .i64 x3)]) (fun _ => false) (by kernel_rfl) ?_
            have hSss5 := Cells.drew hC0
            have hB_0_s5 : Below w4'.heap.size w4' w4'.drew := below_drew _
            generalize w4'.drew = s5 at hSss5 hB_0_s5 ⊢
            have hB_s5_s5 := Below.refl s5.heap.size s5
            refine wpAnyT_pure (i := 0) (v := ?_) rfl (by kernel_rfl) (by kernel_rfl) (by kernel_rfl) (fun _ _ _ h => h) (by rfl) ?_ ?_
            rotate_left
            · intro w; go_simp; try with_reducible rfl
            simp only [Act.put, rgA, rgB, rgC, rgD, rgE, rgF]
            refine wpAnyT_loadW (i := 1) (v := ?_) rfl (by kernel_rfl) (by kernel_rfl) (by kernel_rfl) (by kernel_rfl) (by kernel_rfl) (fun _ _ _ h => h) (Or.inl ⟨by rfl, ?_⟩) hSss5 ?_
            rotate_left
            · intro w hSw; obtain ⟨e0, e1, e2, e3, e4, e5, -⟩ := hSw; go_simp; try with_reducible rfl
            simp only [Act.put, rgA, rgB, rgC, rgD, rgE, rgF]
            refine wpAnyT_loadW (i := 3) (v := ?_) rfl (by kernel_rfl) (by kernel_rfl) (by kernel_rfl) (by kernel_rfl) (by kernel_rfl) (fun _ _ _ h => h) (Or.inl ⟨by rfl, ?_⟩) hSss5 ?_
            rotate_left
            · intro w hSw; obtain ⟨e0, e1, e2, e3, e4, e5, -⟩ := hSw; go_simp; try with_reducible rfl
            simp only [Act.put, rgA, rgB, rgC, rgD, rgE, rgF]
            refine wpAnyT_one (i := 2) (by kernel_rfl) rfl (by rfl) ?_
            refine wp_enter (f := 33) (args := #[.pointer (some ⟨p, 0, none⟩), .agg #[.string y1, .int .i64 y2, .int .i64 y3]]) (by go_simp) (HND.out s5 (HW4.out.below (hB_0_s5.trans ((hB_s5_s5).mono (hB_0_s5).size)))) ?_
            rintro e w106 ⟨na, nl, nc, ns, rfl, hnp, hnr2, hno, hX, hna⟩
            have hB_s5_w106 := below_step hB_s5_s5 hX
            have hB_w106_w106 := Below.refl w106.heap.size w106
            have hSsw106 := Cells.below hB_s5_w106 hSss5
            clear hX
            refine ⟨_, rfl, fun _ _ => hSsw106, ?_⟩
            try simp only [Act.put, rgA, rgB, rgC, rgD, rgE, rgF]
            refine wpAnyT_one (i := 4) (by kernel_rfl) rfl (by rfl) ?_
            refine wp_enter (f := 47) (args := #[.slice na nl nc, .agg #[.string x1, .int .i64 x2, .int .i64 x3]]) (by go_simp) (containsK w106 na nl nc ns hnr2 (fun _ h => h) ⟨x1, x2, x3⟩) ?_
            rintro e w107 ⟨rfl, hX⟩
            have hB_s5_w107 := below_step hB_s5_w106 hX
            have hB_w106_w107 := below_step hB_w106_w106 hX
            have hB_w107_w107 := Below.refl w107.heap.size w107
            have hSsw107 := Cells.below hB_s5_w107 hSss5
            clear hX
            refine ⟨_, rfl, fun _ _ => hSsw107, ?_⟩
            try simp only [Act.put, rgA, rgB, rgC, rgD, rgE, rgF]
            refine wpAnyT_done (by kernel_rfl) ?_ _
            obtain ⟨w5', rfl⟩ : ∃ x, x = w107 := ⟨_, rfl⟩
            have hbP : Below w4'.heap.size w4' w5' := hB_0_s5.trans ((hB_s5_w107).mono (hB_0_s5).size)
            obtain ⟨mb, hmb⟩ : ∃ mb, decide ((⟨x1, x2, x3⟩ : Ky) ∈ ns) = mb := ⟨_, rfl⟩
            rw [hmb]
            have HMT := Lib.hid (show mb = true → (⟨x1, x2, x3⟩ : Ky) ∈ rawNeeds ts ne ⟨y1, y2, y3⟩ from fun h => hnp.mem_iff.1 (of_decide_eq_true (hmb.trans h)))
            have HMF := Lib.hid (show mb = false → (⟨x1, x2, x3⟩ : Ky) ∉ rawNeeds ts ne ⟨y1, y2, y3⟩ from fun h h' => of_decide_eq_false (hmb.trans h) (hnp.mem_iff.2 h'))
            have HRS5 := Lib.hid (HRS4.out.below hbP)
            have HRG5 := Lib.hid (HRG4.out.below hbP)
            have HX5 := Lib.hid ((hbP.block _ (blk_lt HX4.out)).trans HX4.out)
            have hy5 := (hbP.block _ (blk_lt HY4.out)).trans HY4.out
            have z0 := blk_cell hy5 0
            have z1 := blk_cell hy5 1
            have z2 := blk_cell hy5 2
            simp at z0 z1 z2
            clear hmb hnp hnr2 hno hna hbP hC0 HRS4 HRG4 HX4 HY4 HW4 hy5
            cases mb
            · have HQN := Lib.hid (HQF.out (HMF.out rfl))
              go_wp2_with fail
              go_roundw
              case rel => exact ⟨_, cnt2, pu, HRS5.out, HRG5.out, HKX.out, HKR.out, HX5.out, HPU.out, HQN.out, by have := HCN.out; have := HLT.out; omega⟩
              case measure => rw [HRG5.out.left_eq, HRG2.out.left_eq]; exact HLT.out
            · have HQN := Lib.hid HQT.out
              have HPN := Lib.hid (HPY.out (HMT.out rfl))
              have HLK := Lib.hid (show (l ++ pu).length ≤ 2000000 from by
                have h := HWL.out
                have h2 := HCN.out
                have h3 := HN7.out
                have h4 := HIN.out.len
                have h5 : out.length * n ≤ 1000 * 1000 := Nat.mul_le_mul (by omega) hn2
                simp only [List.length_append, List.length_cons, List.length_nil] at h ⊢
                generalize out.length * n = q at h h5
                omega)
              go_wp2_with (at_builtin; go_must (refine wpList_app _ rfl _ _ 46 rfl (e := keyT) (te := 48) info_key Tryz.underlying46 rfl (by decide) (base := w.heap.size) (S := fun _ => False) (v := .slice ka kl kc) (xs := (l ++ pu).map Ky.d) rfl (HRS5.out.k.alloc _) (by have := HRS5.out.g.size; simp only [World.size_alloc]; omega) (sv := .slice (some ⟨w5'.heap.size, 0, none⟩) 1 1) rfl (ys := [Ky.d ⟨y1, y2, y3⟩]) (by simpa using Src.new w5' [.string y1, .int .i64 y2, .int .i64 y3] 48 1 1) (RdL.one (e := keyT) (key_rd HYK.out)) (by have := HLK.out; rw [List.length_map]; simp only [List.length_cons, List.length_nil]; omega) (by have := HLK.out; rw [List.length_map]; simp only [List.length_cons, List.length_nil]; omega) ?_; intro v8 w8 O8 g8 _ ob8; have HRS8 := Lib.hid ((HRS5.out.below ((Below.refl _ w5').alloc (Nat.le_refl _) (.cells #[.string y1, .int .i64 y2, .int .i64 y3] 48))).pushK (wk' := (l ++ pu) ++ [⟨y1, y2, y3⟩]) (by rw [List.map_append]; exact O8) g8 ob8); have HRG8 := Lib.hid ((HRG5.out.below ((Below.refl _ w5').alloc (Nat.le_refl _) (.cells #[.string y1, .int .i64 y2, .int .i64 y3] 48))).kept g8 (fun e => by have h1 := (HRS5.out.k.own m e.symm).1; have := HML.out; omega) (fun e => HKR.out e.symm)); have HX8 := Lib.hid (blk_gr (Gr.of_grown g8) ((heap_alloc_old w5' (.cells #[.string y1, .int .i64 y2, .int .i64 y3] 48) (blk_lt HX5.out)).trans HX5.out) (fun e => HKX.out e)); have HO8 := Lib.hid (show v8.ownBlock ≠ some xb ∧ v8.ownBlock ≠ some rb from by rcases ob8 with e | e <;> rw [e]; (first | exact ⟨HKX.out, HKR.out⟩ | exact ⟨fun e' => by have e2 := Option.some.inj e'; have := blk_lt HX5.out; simp only [World.size_alloc] at e2; omega, fun e' => by have e2 := Option.some.inj e'; have := HRG5.out.lt; simp only [World.size_alloc] at e2; omega⟩); exact ⟨fun e' => by have e2 := Option.some.inj e'; have := blk_lt HX5.out; simp only [World.size_alloc] at e2; omega, fun e' => by have e2 := Option.some.inj e'; have := HRG5.out.lt; simp only [World.size_alloc] at e2; omega⟩); clear O8 g8 ob8 z0 z1 z2))
              go_roundw
              case rel => exact ⟨_, cnt2, pu ++ [⟨y1, y2, y3⟩], by rw [← List.append_assoc]; exact HRS8.out, HRG8.out, HO8.out.1, HO8.out.2, HX8.out, HPN.out, HQN.out, by have := HCN.out; have := HLT.out; simp only [List.length_append, List.length_cons, List.length_nil]; omega⟩
              case measure => rw [HRG8.out.left_eq, HRG2.out.left_eq]; exact HLT.out
  · go_wp2_with fail
    rw [HPE.out]
    exact ReopP.err HH.out HB2.out ci (by rw [HRI.out, if_neg hc]) hc
end Go.Proofs.YtdcjocldggmdbaaGreat

/- Layer 53: the example. -/
set_option linter.unusedSimpArgs false
namespace Go.Proofs.YtdcjocldggmdbaaGreat
open Go.RowKit Go

abbrev planT : Ty := .pr (.int .i64) (.pr (.sl taskT) .un)
def bA : ByteArray := ⟨#[97]⟩
def bB : ByteArray := ⟨#[98]⟩
def bX : ByteArray := ⟨#[120]⟩
def tsA : List Tk := [⟨bA, [], false, false⟩, ⟨bB, [bA], false, false⟩]
theorem tsA_valid : ValidT tsA := by
  unfold ValidT TaskOk NeedsOk
  decide +kernel
theorem tsA_at0 : tkAt tsA bA = ⟨bA, [], false, false⟩ := by rfl
theorem tsA_at1 : tkAt tsA bB = ⟨bB, [bA], false, false⟩ := by rfl
theorem tsA_raw0 : rawNeeds tsA 1 ⟨bA, 0, 0⟩ = [] := by simp [rawNeeds, tsA_at0]
theorem tsA_raw1 : rawNeeds tsA 1 ⟨bB, 0, 0⟩ = [⟨bA, 0, 0⟩] := by simp [rawNeeds, needOf, tsA_at0, tsA_at1]
theorem kA_ok : (⟨bA, 0, 0⟩ : Ky).ok := ⟨(by decide : bA.size ≤ maxLen), (by decide : (Lit.int .i64 0).wf = true), (by decide : (Lit.int .i64 0).wf = true)⟩
theorem kB_ok : (⟨bB, 0, 0⟩ : Ky).ok := ⟨(by decide : bB.size ≤ maxLen), (by decide : (Lit.int .i64 0).wf = true), (by decide : (Lit.int .i64 0).wf = true)⟩
theorem needA : NeedOk tsA 1 ⟨bA, 0, 0⟩ := ⟨by decide +kernel, kA_ok, by rw [tsA_at0]; simp, by rw [tsA_raw0]; simp, by rw [tsA_raw0]; exact List.nodup_nil⟩
theorem needB : NeedOk tsA 1 ⟨bB, 0, 0⟩ := ⟨by decide +kernel, kB_ok, by rw [tsA_at1]; decide +kernel, by rw [tsA_raw1]; simp, by rw [tsA_raw1]; simp⟩
theorem sgB : signI tsA 1 12 (fun _ => none) ⟨bB, 0, 0⟩ bX = 7 := by
  unfold signI readyB
  rw [tsA_raw1]
  rw [show checkI tsA ((1 : Nat) : Int) ((12 : Nat) : Int) ⟨bB, 0, 0⟩ = 0 by decide +kernel, show nameB bX = true by decide +kernel]
  rfl
theorem sgA : signI tsA 1 12 (fun _ => none) ⟨bA, 0, 0⟩ bX = 0 := by
  unfold signI readyB
  rw [tsA_raw0]
  rw [show checkI tsA ((1 : Nat) : Int) ((12 : Nat) : Int) ⟨bA, 0, 0⟩ = 0 by decide +kernel, show nameB bX = true by decide +kernel]
  rfl
theorem tsA_rd {w' : World} {b0 b1 : Nat} {t9 t38 : TypeId} (h0 : w'.heap[b0]? = some (.cells #[.string bA] t9 (0, 0)))
    (h1 : w'.heap[b1]? = some (.cells #[.string bA, .slice none 0 0, .bool false, .bool false, .string bB, .slice (some ⟨b0, 0, none⟩) 1 1, .bool false, .bool false] t38 (0, 0))) :
    Rd (.sl taskT) (fun b => b < w'.heap.size) w' [.slice (some ⟨b1, 0, none⟩) 2 2] (tsA.map Tk.d) := by
  have s0 : bA.size ≤ maxLen := by decide
  have s1 : bB.size ≤ maxLen := by decide
  have r0 : Rd (.sl .str) (fun b => b < w'.heap.size) w' [.slice (some ⟨b0, 0, none⟩) 1 1] [bA] := Rd.sl_blk h0 (blk_lt h0) rfl (by decide) (rd_strs [bA] (by simp [s0]))
  have rn : Rd (.sl .str) (fun b => b < w'.heap.size) w' [.slice none 0 0] [] := ⟨none, 0, 0, rfl, rfl, Nat.le_refl _, by decide, .inl rfl⟩
  refine Rd.sl_blk h1 (blk_lt h1) rfl (by decide) ?_
  exact (RdL.one (e := taskT) (task_rd (t := ⟨bA, [], false, false⟩) s0 rn)).append (RdL.one (e := taskT) (task_rd (t := ⟨bB, [bA], false, false⟩) s1 r0))
theorem tsA_ns : ∀ i (hi : i < (tsA.map Tk.d).length), (tk (tsA.map Tk.d)[i]).needs.length ≤ 1000000 := by
  intro i hi
  match i, hi with
  | 0, _ => exact (show (0 : Nat) ≤ 1000000 by omega)
  | 1, _ => exact (show (1 : Nat) ≤ 1000000 by omega)
  | i + 2, hi => exact absurd hi (by simp [tsA])
set_option maxRecDepth 20000 in
set_option maxHeartbeats 2000000 in
theorem awake53 (w : World) : Calls Tryz.prog 4 #[] w fun e w' => e = .returned (.bool true) ∧ Below w.heap.size w w' := by
  go_enter Tryz.func4, Tryz.ntmps4
  go_wp2_with fail
  refine (group53 w 1 12).mono ?_
  rintro e w1 ⟨ea, ec, rfl, hB1⟩
  rw [show gN 1 = 1 from rfl]
  have HB1 := Lib.hid hB1
  clear hB1
  have hBA := (Below.refl w1.heap.size w1).alloc (Nat.le_refl _) (.cells #[.string bA] 9)
  have hBB := hBA.alloc (by simp) (.cells #[.string bA, .slice none 0 0, .bool false, .bool false, .string bB, .slice (some ⟨w1.heap.size, 0, none⟩) 1 1, .bool false, .bool false] 68)
  have hrd := tsA_rd (alloc_old' (o := .cells #[.string bA, .slice none 0 0, .bool false, .bool false, .string bB, .slice (some ⟨w1.heap.size, 0, none⟩) 1 1, .bool false, .bool false] 68) (alloc_new' (w := w1) (o := .cells #[.string bA] 9) rfl)) (alloc_new' (w := w1.alloc (.cells #[.string bA] 9)) (o := .cells #[.string bA, .slice none 0 0, .bool false, .bool false, .string bB, .slice (some ⟨w1.heap.size, 0, none⟩) 1 1, .bool false, .bool false] 68) (n := w1.heap.size + 1) (by simp))
  have HRD := Lib.hid hrd
  have HB2 := Lib.hid (below_step HB1.out hBB)
  clear hBA hBB hrd
  unfold bA bB at HRD HB2
  go_wp2_with fail
  generalize hw2 : World.alloc (w1.alloc _) _ = w2 at HRD HB2 ⊢
  clear hw2
  refine (new53 w2 ⟨#[]⟩ 2026 1 12 none 0 0 (fun _ => 0) ea 1 ec (by omega) (by omega) (by omega) (by omega) (by omega) (by omega) (by omega) (by omega) (some ⟨w1.heap.size + 1, 0, none⟩) 2 2 (tsA.map Tk.d) HRD.out (fun b hb => hb) (by omega) tsA_ns).mono ?_
  rintro e w3 hnew
  rw [show (tsA.map Tk.d).map tk = tsA from rfl] at hnew
  rcases hnew with ⟨hbad, -⟩ | ⟨-, SS, p, m, rfl, hB3, hm3, hW, -, -⟩
  · exact absurd ⟨by omega, by omega, tsA_valid⟩ hbad
  have HW3 := Lib.hid hW
  have HB3 := Lib.hid (below_step HB2.out hB3)
  have hmw : w.heap.size ≤ m := Nat.le_trans HB2.out.size hm3
  clear hW hB3 HRD
  go_wp2_with fail
  refine (sign53 w3 p tsA 1 12 m 0 (fun _ => none) HW3.out (by omega) (by omega) ⟨bB, 0, 0⟩ kB_ok bX (by decide) (fun _ => needB)).mono ?_
  rintro e w4 ⟨rfl, hg4, n4, hn4, hW4⟩
  rw [sgB]
  rw [sgB, if_neg (by decide)] at hW4
  have HW4 := Lib.hid hW4
  have HB4 := Lib.hid (HB3.out.trans (hg4.below (n := w.heap.size) (fun b e => by rw [e]; exact hmw) HB3.out.size))
  clear hW4 hg4
  go_wp2_with fail
  refine (sign53 w4 p tsA 1 12 m n4 (fun _ => none) HW4.out (by omega) (by omega) ⟨bA, 0, 0⟩ kA_ok bX (by decide) (fun _ => needA)).mono ?_
  rintro e w5 ⟨rfl, hg5, n5, hn5, hW5⟩
  rw [sgA]
  rw [sgA, if_pos rfl] at hW5
  have HW5 := Lib.hid hW5
  have HB5 := Lib.hid (HB4.out.trans (hg5.below (n := w.heap.size) (fun b e => by rw [e]; exact hmw) HB4.out.size))
  clear hW5 hg5
  go_wp2_with fail
  refine (sigs53 w5 p tsA 1 12 m n5 _ HW5.out ⟨bA, 0, 0⟩ kA_ok (fun x _ hx => by
    unfold signF at hx
    by_cases e : x = ⟨bA, 0, 0⟩
    · exact e
    · rw [if_neg e] at hx; cases hx) (by unfold signF; rw [if_pos rfl]; rfl)).mono ?_
  rintro e w6 ⟨sa, sc, rfl, hB6⟩
  have HB6 := Lib.hid (below_step HB5.out hB6)
  clear hB6
  go_wp2_with fail
  go_ret
  exact ⟨rfl, HB6.out⟩
end Go.Proofs.YtdcjocldggmdbaaGreat
