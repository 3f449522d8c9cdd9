/- Layer 53: Signatures. -/
import Derived.Test.YtdcjocldggmdbaaY53d
import Derived.Test.YtdcjocldggmdbaaMapR
set_option linter.unusedSimpArgs false
set_option maxRecDepth 50000
namespace Go.Proofs.Ytdcjocldggmdbaa
open Go.RowKit Go

theorem sg_nodup {ts : List Tk} {ne np : Nat} {sg : List Sg} (h : SgOk ts ne np sg) : sg.Nodup := h.asc.imp fun {a b} hl e => by rw [e, ltK_irr] at hl; cases hl
theorem filt_step {ts : List Tk} {ne np : Nat} {sg : List Sg} (h : SgOk ts ne np sg) {c : Ky} {s : ByteArray} (hm : (c, s) ∈ sg) {left : Ky → Bool} (hl : left c = true) :
    (sg.filter (fun x => !left x.1) ++ [(c, s)]).Perm (sg.filter fun x => !(left x.1 && !decide (x.1 = c))) := by
  have hn := sg_nodup h
  refine (List.perm_ext_iff_of_nodup ?_ (hn.filter _)).2 fun x => ?_
  · rw [List.nodup_append]
    refine ⟨hn.filter _, by simp, fun a ha b hb e => ?_⟩
    rw [List.mem_singleton] at hb
    subst hb
    subst e
    have := (List.mem_filter.1 ha).2
    simp [hl] at this
  · rw [List.mem_append, List.mem_filter, List.mem_singleton, List.mem_filter]
    constructor
    · rintro (⟨h1, h2⟩ | rfl)
      · refine ⟨h1, ?_⟩
        have h3 : left x.1 = false := by simpa using h2
        simp [h3]
      · exact ⟨hm, by simp⟩
    · rintro ⟨h1, h2⟩
      by_cases e : x.1 = c
      · exact .inr (same_key h.asc h1 hm e)
      · refine .inl ⟨h1, ?_⟩
        simpa [e] using h2
theorem keyOf_inv53 (key : Value) (kl : Lit) (h : keyOf Try.prog 53 key = some kl) : ∃ x, keyK.ok x ∧ key = keyK.v x ∧ kl = keyK.l x := keyOf_key h
theorem strE_v (u : Value) (y : DataW Unit × List MemPlace) (h : strE.R u = some y) : ∃ c, u = strE.v c := by
  unfold strE at h
  simp only at h
  unfold plainElem at h
  rw [Try.underlying9] at h
  cases u <;> simp at h
  exact ⟨_, rfl⟩
/-- What Signatures leaves. -/
def SigsP (sg : List Sg) (w : World) (e : Ending) (w' : World) : Prop :=
  ∃ a l c, e = .returned (.slice a l c) ∧ Rd (.sl sgT) (fun b => b < w'.heap.size) w' [.slice a l c] (sg.map sgd) ∧ Below w.heap.size w w'
set_option maxRecDepth 20000 in
set_option maxHeartbeats 4000000 in
theorem sigsK {S : Nat → Prop} (w : World) (p : Nat) (ts : List Tk) (ne np m n : Nat) (sg : List Sg) (h : WfIn S w p ts ne np m n (lkS sg)) (hw : Wk ts ne np) (hsg : SgOk ts ne np sg) (hn : sg.length ≤ 100000) :
    Calls Try.prog 24 #[.pointer (some ⟨p, 0, none⟩)] w (SigsP sg w) := by
  have hB := (Below.refl w.heap.size w).alloc (Nat.le_refl _) (.cells #[.pointer (some ⟨p, 0, none⟩)] 27)
  have h1 := h.below hB
  obtain ⟨wa, wl, wc, wxs, hrow, -, -⟩ := h1.wf.row
  have hpl : p < w.heap.size := by obtain ⟨_, _, _, _, h0, -⟩ := h.wf.row; exact blk_lt h0
  have k3 := blk_cell hrow 3
  simp at k3
  have hbox := heap_alloc_new w (.cells #[.pointer (some ⟨p, 0, none⟩)] 27)
  have HH := Lib.hid h1
  have HBX := Lib.hid hB
  have HSO := Lib.hid hsg
  have HWK := Lib.hid hw
  have HMP := Lib.hid h1.mp
  have HBOX := Lib.hid hbox
  have HHS := Lib.hid h.wf.hS
  clear h hB h1 hrow hsg hw hbox
  go_enter Try.func24, Try.ntmps24
  go_wp2_with (at_range; go_must (refine wpList_rangeG (Ks := keyK) (Es := strE) rfl _ rfl Try.underlying91 rfl HMP.out ?_); intro w0 hrg0 hg0 hs0)
  go_frame
  generalize hw1 : w.alloc (.cells #[.pointer (some ⟨p, 0, none⟩)] 27) = w1 at *
  have hr1 : w1.heap.size = w.heap.size + 1 := by rw [← hw1]; simp
  have HR1 := Lib.hid hr1
  have hmr : m ≠ w1.heap.size := fun e => by have := HH.out.mp.lt; omega
  clear hw1
  have HB0 := Lib.hid (show Below w1.heap.size w1 w0 from (Below.refl w1.heap.size w1).grown hg0 (Nat.le_refl _) (fun c hc => by cases hc))
  have HRG := Lib.hid hrg0
  have HSZ := Lib.hid (show w0.heap.size = w1.heap.size + 1 from hs0)
  clear hrg0 hg0 hs0 hr1
  go_loopw [3] (fun ov wr => ∃ (left : Ky → Bool) (cnt : Nat) (xs : List Sg), Owns sgT 70 (w1.heap.size + 1) (fun _ => False) wr ov (xs.map sgd) ∧ RgG keyK strE wr m w1.heap.size n (lkS sg) left cnt ∧ xs.Perm (sg.filter fun x => !left x.1) ∧ Below w1.heap.size w1 wr ∧ w1.heap.size + 1 ≤ wr.heap.size) (fun _ wr => wr.rangeLeft m w1.heap.size)
  case atStart => exact ⟨_, _, [], Owns.nil _ _ _ _, HRG.out, by
    rw [show sg.filter (fun x => !(lkS sg x.1).isSome) = [] from List.filter_eq_nil_iff.2 fun x hx => by rw [lk_isSome.2 (List.mem_map.2 ⟨x, hx, rfl⟩)]; simp], HB0.out, by rw [HSZ.out]; exact Nat.le_refl _⟩
  obtain ⟨left, cnt, xs, hO, hrg, hpe, hB, hle⟩ := hrel
  obtain ⟨oa, ol, oc, rfl, hol, -⟩ := hO.slice
  have HO := Lib.hid hO
  have HRGr := Lib.hid hrg
  have HPE := Lib.hid hpe
  have HB := Lib.hid hB
  have HOL := Lib.hid hol
  have HXL := Lib.hid (show xs.length ≤ 100000 from by
    rw [hpe.length_eq]
    exact Nat.le_trans (List.length_filter_le _ _) hn)
  clear hO hrg hpe hB hol
  go_wp2_with (first | (at_next; go_must (refine wpList_nextG rfl _ rfl rfl HRGr.out keyOf_inv53 (fun x y => Ky.v_inj) strE_v ?_ ?_)) | go_in)
  · intro hl0
    have HP2 := Lib.hid (show xs.Perm sg from by
      have := HPE.out
      rwa [List.filter_eq_self.2 (fun x hx => by rw [hl0 x.1 (kv_ok HWK.out (HSO.out.kv x hx))]; rfl)] at this)
    clear hl0
    have hS := sortSgs (base := w1.heap.size + 1) wr p ts ne np m (HH.out.wf.below HB.out) w.heap.size ((HB.out.block _ (blk_lt HBOX.out)).trans HBOX.out) (.slice oa ol oc) xs HO.out (by have := HXL.out; omega) (by have := HR1.out; omega) (fun b hb => by have := HHS.out b hb; have := HR1.out; omega) (by have := HR1.out; omega) hle
    have HS := Lib.hid hS
    clear hS
    go_wp2_with fail
    have hX := HS.out
    refine Calls.mono hX ?_
    clear hX
    rintro e w3 ⟨rfl, l', hp', ha', hr', hb'⟩
    have HR' := Lib.hid hr'
    have HE := Lib.hid (show l' = sg from sg_eq HSO.out (hp'.trans HP2.out) ha')
    have HB3 := Lib.hid (show Below w.heap.size w w3 from HBX.out.trans ((HB.out.mono (by rw [HR1.out]; omega)).trans (hb'.mono (by rw [HR1.out]; omega))))
    clear hp' ha' hr' hb'
    go_wp2_with fail
    go_ret
    exact ⟨_, _, _, rfl, by rw [← HE.out]; exact HR'.out, HB3.out⟩
  · intro c s w2 cnt2 hcok hfc hlc hrg2 hlt hg2 hs2 hen
    have hmem := lk_mem hfc
    have HPN := Lib.hid (show (xs ++ [(c, s)]).Perm (sg.filter fun x => !(left x.1 && !decide (x.1 = c))) from (HPE.out.append_right _).trans (filt_step HSO.out hmem hlc))
    have hsz := HSO.out.sz _ hmem
    obtain ⟨c1, c2, c3⟩ := c
    simp only [keyK, strE] at hen ⊢
    unfold Ky.v at hen ⊢
    simp only at hen ⊢
    have hO2 : Owns sgT 70 (w1.heap.size + 1) (fun _ => False) w2 (.slice oa ol oc) (xs.map sgd) := HO.out.gr (Gr.of_grown hg2) (fun _ h => h.elim) (fun b e1 e2 => by have := (HO.out.own b e1).1; have := Option.some.inj e2; omega)
    have HO2 := Lib.hid hO2
    have HB2 := Lib.hid (HB.out.grown hg2 HB.out.size (fun c hc => by have := Option.some.inj hc; omega))
    have HRG2 := Lib.hid hrg2
    have HLT := Lib.hid hlt
    have HS2 := Lib.hid hs2
    have HOK := Lib.hid (show Ky.ok ⟨c1, c2, c3⟩ ∧ s.size ≤ maxLen from ⟨hcok, hsz⟩)
    clear hcok hfc hlc hrg2 hlt hg2 hs2 hO2 hmem hsz
    have hmlt : m < w1.heap.size := HH.out.mp.lt
    go_wp2_with (at_builtin; go_must (refine wpList_app _ rfl _ _ 65 rfl (e := sgT) (te := 70) info_sg Try.underlying65 rfl (by decide) (base := w1.heap.size + 1) (S := fun _ => False) (v := .slice oa ol oc) (xs := xs.map sgd) rfl ((HO2.out.alloc _).alloc _) (by have := HS2.out; simp only [World.size_alloc]; omega) (sv := .slice (some ⟨w2.heap.size + 1, 0, none⟩) 1 1) rfl (ys := [(Ky.d ⟨c1, c2, c3⟩, s, ())]) (by simpa using Src.new (w2.alloc (.cells #[.string c1, .int .i64 c2, .int .i64 c3] 53)) [.string c1, .int .i64 c2, .int .i64 c3, .string s] 70 1 1) (RdL.one (e := sgT) (sg_rd HOK.out.1 HOK.out.2)) (by have := HXL.out; rw [List.length_map]; simp; omega) (by have := HXL.out; rw [List.length_map]; simp; omega) ?_; intro v' w9 O9 g9 _ ob9; have HO9 := Lib.hid O9; have HB9 := Lib.hid (((HB2.out.alloc HB2.out.size (.cells #[.string c1, .int .i64 c2, .int .i64 c3] 53)).alloc (by have := HB2.out.size; simp only [World.size_alloc]; omega) (.cells #[.string c1, .int .i64 c2, .int .i64 c3, .string s] 70)).grown g9 (by have := HB2.out.size; simp only [World.size_alloc]; omega) (fun c hc => by have := (HO2.out.own c hc).1; omega)); have HRG9 := Lib.hid (((HRG2.out.kept (World.grownBy_alloc w2 (.cells #[.string c1, .int .i64 c2, .int .i64 c3] 53) none) (by simp) (by simp)).kept (World.grownBy_alloc (w2.alloc (.cells #[.string c1, .int .i64 c2, .int .i64 c3] 53)) (.cells #[.string c1, .int .i64 c2, .int .i64 c3, .string s] 70) none) (by simp) (by simp)).kept g9 (fun e => by have := (HO2.out.own m e.symm).1; omega) (fun e => by have := (HO2.out.own _ e.symm).1; omega)); have HLE9 := Lib.hid (show w1.heap.size + 1 ≤ w9.heap.size from by have h1 := g9.size; have h2 := HS2.out; simp only [World.size_alloc] at h1; omega); clear O9 g9 ob9))
    go_roundw
    case rel => exact ⟨_, cnt2, xs ++ [((⟨c1, c2, c3⟩ : Ky), s)], by rw [List.map_append]; exact HO9.out, HRG9.out, HPN.out, HB9.out, HLE9.out⟩
    case measure => rw [HRG9.out.left_eq, HRGr.out.left_eq]; exact HLT.out
end Go.Proofs.Ytdcjocldggmdbaa
