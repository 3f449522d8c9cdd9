/- Program independent: loops over maps keyed by any type of keys (MapG): the start, the step. -/
import Derived.Test.YtdcjocldggmdbaaW53i
import Derived.Maps.RangeWalk
import Derived.Test.YtdcjocldggmdbaaY53d
namespace Go.Proofs.Ytdcjocldggmdbaa
open Go.RowKit Go

section
variable {P : Program} {k e : TypeId} {κ α : Type}
/-- A loop over a map: 'left' tells which keys are still to come. -/
def RgG (Ks : KeyS P k κ) (Es : ElS P e α) (w : World) (b r m : Nat) (f : κ → Option α) (left : κ → Bool) (cnt : Nat) : Prop :=
  ∃ (D : DataW Unit) (L : Lit → Bool), w.ranges P k Es.R b r m D L cnt ∧ Maps.size D = m ∧ (∀ x : κ, Ks.ok x → Maps.has D (Ks.l x) = (f x).isSome ∧ D.atKey (Ks.l x) (Es.d Es.z) = Es.d ((f x).getD Es.z)) ∧ ∀ x, Ks.ok x → L (Ks.l x) = left x
variable {Ks : KeyS P k κ} {Es : ElS P e α} {w : World} {b r m : Nat} {f : κ → Option α} {left : κ → Bool} {cnt : Nat}
theorem RgG.left_eq (h : RgG Ks Es w b r m f left cnt) : w.rangeLeft b r = cnt := by
  obtain ⟨D, L, h, -⟩ := h
  exact h.left_eq
theorem RgG.ne (h : RgG Ks Es w b r m f left cnt) : r ≠ b := by
  obtain ⟨D, L, h, -⟩ := h
  exact h.ne
theorem RgG.lt (h : RgG Ks Es w b r m f left cnt) : r < w.heap.size := by
  obtain ⟨D, L, h, -⟩ := h
  exact h.lt
theorem RgG.map (h : RgG Ks Es w b r m f left cnt) : MapG Ks Es w b m f := by
  obtain ⟨D, L, h, h0, h1, h2⟩ := h
  exact ⟨D, h.owns, h0, h1⟩
theorem RgG.kept {w' : World} {row : Option Nat} (h : RgG Ks Es w b r m f left cnt) (hg : w.grownBy w' row) (hb' : some b ≠ row) (hr' : some r ≠ row) : RgG Ks Es w' b r m f left cnt := by
  obtain ⟨D, L, h, h0, h1, h2⟩ := h
  exact ⟨D, L, h.kept hg hb' hr', h0, h1, h2⟩
theorem RgG.gr {F : Nat → Prop} {w' : World} (h : RgG Ks Es w b r m f left cnt) (hg : Gr F w w') (hb : ¬ F b) (hr : ¬ F r) : RgG Ks Es w' b r m f left cnt := by
  obtain ⟨D, L, ⟨es, clock, since, seen, c0, hb0, F0, hs, rfl, hr0, hold, hc, h1, h2, h3⟩, h0, h4, h5⟩ := h
  have hbl : b < w.heap.size := blk_lt hb0
  have hrl : r < w.heap.size := blk_lt hr0
  exact ⟨_, L, ⟨es, clock, since, seen, c0, (hg.block b hbl hb).trans hb0, F0, hs, rfl, (hg.block r hrl hr).trans hr0, hold, hc, h1, h2, h3⟩, h0, h4, h5⟩
theorem RgG.below {w' : World} (h : RgG Ks Es w b r m f left cnt) (hB : Below w.heap.size w w') : RgG Ks Es w' b r m f left cnt :=
  h.gr (Gr.of_below (F := fun _ => False) hB) (fun h => h) (fun h => h)
theorem RgG.congr (h : RgG Ks Es w b r m f left cnt) {left' : κ → Bool} (e : ∀ x, Ks.ok x → left' x = left x) : RgG Ks Es w b r m f left' cnt := by
  obtain ⟨D, L, h, h0, h1, h2⟩ := h
  exact ⟨D, L, h, h0, h1, fun x hx => (h2 x hx).trans (e x hx).symm⟩

variable {ops : Array Oper} {rest : List Oper} {o : Oper} {a : Act} {Q : Exit → Act → World → Prop} {t : TypeId}
/-- 'range m'. -/
theorem wpList_rangeG (hg : o.guard = none) (m0 : Operand) (hop : o.op = Op.range t m0) (ht : P.underlying t = some (.map k e)) (hm : a.eval m0 = .map (some b)) (h : MapG Ks Es w b m f)
    (hK : ∀ w', RgG Ks Es w' b w.heap.size m f (fun x => (f x).isSome) m → w.grownBy w' none → w'.heap.size = w.heap.size + 1 → wpList P ops Q rest (a.put o.dst (.pointer (some ⟨w.heap.size, 0, none⟩))) w') :
    wpList P ops Q (o :: rest) a w := by
  obtain ⟨D, hD, hsz, hf⟩ := h
  refine wpList_range_own w hg m0 t hop k e Ks.K ht Es.R b m D hm hD ?_
  intro w' h1 h2 h3
  rw [hsz] at h1
  exact hK w' ⟨D, _, h1, hsz, hf, fun x hx => (hf x hx).1⟩ h2 h3
theorem ranges_hasG {R : Value → Option (DataW Unit × List MemPlace)} {n : Nat} {D : DataW Unit} {L : Lit → Bool} (K : Maps.Keyed P k) (h : w.ranges P k R b r n D L cnt) (kl : Lit) (hl : L kl = true) : Maps.has D kl = true := by
  obtain ⟨es, clock, since, seen, c0, hb, F, hs, rfl, hr, hold, hc, h1, h2, h3⟩ := h
  obtain ⟨x, hx, rfl⟩ := h2 kl hl
  obtain ⟨y, hy⟩ := F.reads x hx
  exact List.any_eq_true.2 ⟨WideElems.rg P k R x, mem_sorted.2 (List.mem_map.2 ⟨x, hx, rfl⟩), WideAt.sameKey_self (by rw [WideElems.rg_of hy]; exact K.key (WideElems.rd_key hy))⟩
/-- The step. -/
theorem wpList_nextG [DecidableEq κ] (hg : o.guard = none) (it : Operand) (hop : o.op = Op.next it false) (hit : a.eval it = .pointer (some ⟨r, 0, none⟩)) (h : RgG Ks Es w b r m f left cnt)
    (hinv : ∀ key kl, keyOf P k key = some kl → ∃ x, Ks.ok x ∧ key = Ks.v x ∧ kl = Ks.l x) (hvi : ∀ x y, Ks.v x = Ks.v y → x = y) (hev : ∀ u y, Es.R u = some y → ∃ c, u = Es.v c)
    (hDone : (∀ x, Ks.ok x → left x = false) → wpList P ops Q rest (a.put o.dst (.tuple #[.bool false])) w)
    (hMore : ∀ (x : κ) (c : α) (w' : World) (cnt' : Nat), Ks.ok x → f x = some c → left x = true → RgG Ks Es w' b r m f (fun z => left z && !decide (z = x)) cnt' → cnt' < cnt →
      w.grownBy w' (some r) → w'.heap.size = w.heap.size → Sem.run P (Instr.entry (.pointer (some ⟨r, 0, none⟩))) w' = .ok (.tuple #[Ks.v x, Es.v c]) w' → wpList P ops Q rest (a.put o.dst (.tuple #[.bool true, Ks.v x, Es.v c])) w') :
    wpList P ops Q (o :: rest) a w := by
  obtain ⟨D, L, h, h0, hf, hl⟩ := h
  refine wpList_next_ranges w hg it hop k Ks.K Es.R Ks.v Es.v (fun key kl hk => by obtain ⟨x, -, rfl, -⟩ := hinv key kl hk; exact ⟨x, rfl⟩) hev b r m D L cnt hit h (fun _ hn => hDone fun x hx => by rw [← hl x hx]; exact hn _) ?_
  intro x c kl y w' cnt' hkey hL hR hat hrg hlt hgr hsz hen
  obtain ⟨x', hok, hv, rfl⟩ := hinv _ _ hkey
  obtain rfl := hvi _ _ hv
  have hh := ranges_hasG Ks.K h _ hL
  have hfx := hf x hok
  rw [hh] at hfx
  obtain ⟨d, hd⟩ := Option.isSome_iff_exists.1 hfx.1.symm
  have hy : y.1 = Es.d d := by rw [← hat (Es.d Es.z), hfx.2, hd]; rfl
  have hvd : Es.v c = Es.v d := Es.inv _ d y.2 (by rw [hR, ← hy])
  rw [hvd] at hen ⊢
  refine hMore x d w' cnt' hok hd (by rw [← hl x hok]; exact hL) ⟨D, _, hrg, h0, hf, fun z hz => ?_⟩ hlt hgr hsz hen
  rw [hl z hz]
  by_cases e : z = x
  · subst e
    rw [WideAt.sameKey_self (Ks.K.key (Ks.hl z hz))]
    simp
  · rw [Maps.sameKey_ne (fun h' => e (Ks.inj z x hz hok h'))]
    simp [e]
end
end Go.Proofs.Ytdcjocldggmdbaa

/- Layer 53: Signatures. -/
set_option linter.unusedSimpArgs false
set_option maxRecDepth 50000
namespace Go.Proofs.Ytdcjocldggmdbaa
open Go.RowKit Go

theorem sg_nodup {ts : List Tk} {ne np : Nat} {sg : List Sg} (h : SgOk ts ne np sg) : sg.Nodup := h.asc.imp fun {a b} hl e => by rw [e, ltK_irr] at hl; cases hl
theorem filt_step {ts : List Tk} {ne np : Nat} {sg : List Sg} (h : SgOk ts ne np sg) {c : Ky} {s : ByteArray} (hm : (c, s) ∈ sg) {left : Ky → Bool} (hl : left c = true) :
    (sg.filter (fun x => !left x.1) ++ [(c, s)]).Perm (sg.filter fun x => !(left x.1 && !decide (x.1 = c))) := by
  have hn := sg_nodup h
  refine (List.perm_ext_iff_of_nodup ?_ (hn.filter _)).2 fun x => ?_
  · rw [List.nodup_append]
    refine ⟨hn.filter _, by simp, fun a ha b hb e => ?_⟩
    rw [List.mem_singleton] at hb
    subst hb
    subst e
    have := (List.mem_filter.1 ha).2
    simp [hl] at this
  · rw [List.mem_append, List.mem_filter, List.mem_singleton, List.mem_filter]
    constructor
    · rintro (⟨h1, h2⟩ | rfl)
      · refine ⟨h1, ?_⟩
        have h3 : left x.1 = false := by simpa using h2
        simp [h3]
      · exact ⟨hm, by simp⟩
    · rintro ⟨h1, h2⟩
      by_cases e : x.1 = c
      · exact .inr (same_key h.asc h1 hm e)
      · refine .inl ⟨h1, ?_⟩
        simpa [e] using h2
theorem keyOf_inv53 (key : Value) (kl : Lit) (h : keyOf Try.prog 53 key = some kl) : ∃ x, keyK.ok x ∧ key = keyK.v x ∧ kl = keyK.l x := keyOf_key h
theorem strE_v (u : Value) (y : DataW Unit × List MemPlace) (h : strE.R u = some y) : ∃ c, u = strE.v c := by
  unfold strE at h
  simp only at h
  unfold plainElem at h
  rw [Try.underlying9] at h
  cases u <;> simp at h
  exact ⟨_, rfl⟩
/-- What Signatures leaves. -/
def SigsP (sg : List Sg) (w : World) (e : Ending) (w' : World) : Prop :=
  ∃ a l c, e = .returned (.slice a l c) ∧ Rd (.sl sgT) (fun b => b < w'.heap.size) w' [.slice a l c] (sg.map sgd) ∧ Below w.heap.size w w'
set_option maxRecDepth 20000 in
set_option maxHeartbeats 4000000 in
theorem sigsK {S : Nat → Prop} (w : World) (p : Nat) (ts : List Tk) (ne np m n : Nat) (sg : List Sg) (h : WfIn S w p ts ne np m n (lkS sg)) (hw : Wk ts ne np) (hsg : SgOk ts ne np sg) (hn : sg.length ≤ 100000) :
    Calls Try.prog 24 #[.pointer (some ⟨p, 0, none⟩)] w (SigsP sg w) := by
  have hB := (Below.refl w.heap.size w).alloc (Nat.le_refl _) (.cells #[.pointer (some ⟨p, 0, none⟩)] 27)
  have h1 := h.below hB
  obtain ⟨wa, wl, wc, wxs, hrow, -, -⟩ := h1.wf.row
  have hpl : p < w.heap.size := by obtain ⟨_, _, _, _, h0, -⟩ := h.wf.row; exact blk_lt h0
  have k3 := blk_cell hrow 3
  simp at k3
  have hbox := heap_alloc_new w (.cells #[.pointer (some ⟨p, 0, none⟩)] 27)
  have HH := Lib.hid h1
  have HBX := Lib.hid hB
  have HSO := Lib.hid hsg
  have HWK := Lib.hid hw
  have HMP := Lib.hid h1.mp
  have HBOX := Lib.hid hbox
  have HHS := Lib.hid h.wf.hS
  clear h hB h1 hrow hsg hw hbox
  go_enter Try.func24, Try.ntmps24
  go_wp2_with (at_range; go_must (refine wpList_rangeG (Ks := keyK) (Es := strE) rfl _ rfl Try.underlying91 rfl HMP.out ?_); intro w0 hrg0 hg0 hs0)
  go_frame
  generalize hw1 : w.alloc (.cells #[.pointer (some ⟨p, 0, none⟩)] 27) = w1 at *
  have hr1 : w1.heap.size = w.heap.size + 1 := by rw [← hw1]; simp
  have HR1 := Lib.hid hr1
  have hmr : m ≠ w1.heap.size := fun e => by have := HH.out.mp.lt; omega
  clear hw1
  have HB0 := Lib.hid (show Below w1.heap.size w1 w0 from (Below.refl w1.heap.size w1).grown hg0 (Nat.le_refl _) (fun c hc => by cases hc))
  have HRG := Lib.hid hrg0
  have HSZ := Lib.hid (show w0.heap.size = w1.heap.size + 1 from hs0)
  clear hrg0 hg0 hs0 hr1
  go_loopw [3] (fun ov wr => ∃ (left : Ky → Bool) (cnt : Nat) (xs : List Sg), Owns sgT 70 (w1.heap.size + 1) (fun _ => False) wr ov (xs.map sgd) ∧ RgG keyK strE wr m w1.heap.size n (lkS sg) left cnt ∧ xs.Perm (sg.filter fun x => !left x.1) ∧ Below w1.heap.size w1 wr ∧ w1.heap.size + 1 ≤ wr.heap.size) (fun _ wr => wr.rangeLeft m w1.heap.size)
  case atStart => exact ⟨_, _, [], Owns.nil _ _ _ _, HRG.out, by
    rw [show sg.filter (fun x => !(lkS sg x.1).isSome) = [] from List.filter_eq_nil_iff.2 fun x hx => by rw [lk_isSome.2 (List.mem_map.2 ⟨x, hx, rfl⟩)]; simp], HB0.out, by rw [HSZ.out]; exact Nat.le_refl _⟩
  obtain ⟨left, cnt, xs, hO, hrg, hpe, hB, hle⟩ := hrel
  obtain ⟨oa, ol, oc, rfl, hol, -⟩ := hO.slice
  have HO := Lib.hid hO
  have HRGr := Lib.hid hrg
  have HPE := Lib.hid hpe
  have HB := Lib.hid hB
  have HOL := Lib.hid hol
  have HXL := Lib.hid (show xs.length ≤ 100000 from by
    rw [hpe.length_eq]
    exact Nat.le_trans (List.length_filter_le _ _) hn)
  clear hO hrg hpe hB hol
  go_wp2_with (first | (at_next; go_must (refine wpList_nextG rfl _ rfl rfl HRGr.out keyOf_inv53 (fun x y => Ky.v_inj) strE_v ?_ ?_)) | go_in)
  · intro hl0
    have HP2 := Lib.hid (show xs.Perm sg from by
      have := HPE.out
      rwa [List.filter_eq_self.2 (fun x hx => by rw [hl0 x.1 (kv_ok HWK.out (HSO.out.kv x hx))]; rfl)] at this)
    clear hl0
    have hS := sortSgs (base := w1.heap.size + 1) wr p ts ne np m (HH.out.wf.below HB.out) w.heap.size ((HB.out.block _ (blk_lt HBOX.out)).trans HBOX.out) (.slice oa ol oc) xs HO.out (by have := HXL.out; omega) (by have := HR1.out; omega) (fun b hb => by have := HHS.out b hb; have := HR1.out; omega) (by have := HR1.out; omega) hle
    have HS := Lib.hid hS
    clear hS
    go_wp2_with fail
    have hX := HS.out
    refine Calls.mono hX ?_
    clear hX
    rintro e w3 ⟨rfl, l', hp', ha', hr', hb'⟩
    have HR' := Lib.hid hr'
    have HE := Lib.hid (show l' = sg from sg_eq HSO.out (hp'.trans HP2.out) ha')
    have HB3 := Lib.hid (show Below w.heap.size w w3 from HBX.out.trans ((HB.out.mono (by rw [HR1.out]; omega)).trans (hb'.mono (by rw [HR1.out]; omega))))
    clear hp' ha' hr' hb'
    go_wp2_with fail
    go_ret
    exact ⟨_, _, _, rfl, by rw [← HE.out]; exact HR'.out, HB3.out⟩
  · intro c s w2 cnt2 hcok hfc hlc hrg2 hlt hg2 hs2 hen
    have hmem := lk_mem hfc
    have HPN := Lib.hid (show (xs ++ [(c, s)]).Perm (sg.filter fun x => !(left x.1 && !decide (x.1 = c))) from (HPE.out.append_right _).trans (filt_step HSO.out hmem hlc))
    have hsz := HSO.out.sz _ hmem
    obtain ⟨c1, c2, c3⟩ := c
    simp only [keyK, strE] at hen ⊢
    unfold Ky.v at hen ⊢
    simp only at hen ⊢
    have hO2 : Owns sgT 70 (w1.heap.size + 1) (fun _ => False) w2 (.slice oa ol oc) (xs.map sgd) := HO.out.gr (Gr.of_grown hg2) (fun _ h => h.elim) (fun b e1 e2 => by have := (HO.out.own b e1).1; have := Option.some.inj e2; omega)
    have HO2 := Lib.hid hO2
    have HB2 := Lib.hid (HB.out.grown hg2 HB.out.size (fun c hc => by have := Option.some.inj hc; omega))
    have HRG2 := Lib.hid hrg2
    have HLT := Lib.hid hlt
    have HS2 := Lib.hid hs2
    have HOK := Lib.hid (show Ky.ok ⟨c1, c2, c3⟩ ∧ s.size ≤ maxLen from ⟨hcok, hsz⟩)
    clear hcok hfc hlc hrg2 hlt hg2 hs2 hO2 hmem hsz
    have hmlt : m < w1.heap.size := HH.out.mp.lt
    go_wp2_with (at_builtin; go_must (refine wpList_app _ rfl _ _ 65 rfl (e := sgT) (te := 70) info_sg Try.underlying65 rfl (by decide) (base := w1.heap.size + 1) (S := fun _ => False) (v := .slice oa ol oc) (xs := xs.map sgd) rfl ((HO2.out.alloc _).alloc _) (by have := HS2.out; simp only [World.size_alloc]; omega) (sv := .slice (some ⟨w2.heap.size + 1, 0, none⟩) 1 1) rfl (ys := [(Ky.d ⟨c1, c2, c3⟩, s, ())]) (by simpa using Src.new (w2.alloc (.cells #[.string c1, .int .i64 c2, .int .i64 c3] 53)) [.string c1, .int .i64 c2, .int .i64 c3, .string s] 70 1 1) (RdL.one (e := sgT) (sg_rd HOK.out.1 HOK.out.2)) (by have := HXL.out; rw [List.length_map]; simp; omega) (by have := HXL.out; rw [List.length_map]; simp; omega) ?_; intro v' w9 O9 g9 _ ob9; have HO9 := Lib.hid O9; have HB9 := Lib.hid (((HB2.out.alloc HB2.out.size (.cells #[.string c1, .int .i64 c2, .int .i64 c3] 53)).alloc (by have := HB2.out.size; simp only [World.size_alloc]; omega) (.cells #[.string c1, .int .i64 c2, .int .i64 c3, .string s] 70)).grown g9 (by have := HB2.out.size; simp only [World.size_alloc]; omega) (fun c hc => by have := (HO2.out.own c hc).1; omega)); have HRG9 := Lib.hid (((HRG2.out.kept (World.grownBy_alloc w2 (.cells #[.string c1, .int .i64 c2, .int .i64 c3] 53) none) (by simp) (by simp)).kept (World.grownBy_alloc (w2.alloc (.cells #[.string c1, .int .i64 c2, .int .i64 c3] 53)) (.cells #[.string c1, .int .i64 c2, .int .i64 c3, .string s] 70) none) (by simp) (by simp)).kept g9 (fun e => by have := (HO2.out.own m e.symm).1; omega) (fun e => by have := (HO2.out.own _ e.symm).1; omega)); have HLE9 := Lib.hid (show w1.heap.size + 1 ≤ w9.heap.size from by have h1 := g9.size; have h2 := HS2.out; simp only [World.size_alloc] at h1; omega); clear O9 g9 ob9))
    go_roundw
    case rel => exact ⟨_, cnt2, xs ++ [((⟨c1, c2, c3⟩ : Ky), s)], by rw [List.map_append]; exact HO9.out, HRG9.out, HPN.out, HB9.out, HLE9.out⟩
    case measure => rw [HRG9.out.left_eq, HRGr.out.left_eq]; exact HLT.out
end Go.Proofs.Ytdcjocldggmdbaa

/- Layer 53: Needs, Done, Next, of any key and period. -/
set_option linter.unusedSimpArgs false
set_option maxRecDepth 50000
namespace Go.Proofs.Ytdcjocldggmdbaa
open Go.RowKit Go

theorem rd_nilK (w : World) : Rd (.sl keyT) (fun b => b < w.heap.size) w [.slice none 0 0] (([] : List Ky).map Ky.d) := ⟨none, 0, 0, rfl, rfl, Nat.le_refl _, by decide, .inl rfl⟩
end Go.Proofs.Ytdcjocldggmdbaa

/- Layer 53: what a reopening has done so far (plain); Contains; a delete in a region; a row that is cut. -/
set_option linter.unusedSimpArgs false
set_option maxRecDepth 50000
namespace Go.Proofs.Ytdcjocldggmdbaa
open Go.RowKit Go

structure RInv (ts : List Tk) (ne : Nat) (sg : List Sg) (k : Ky) (out wk : List Ky) : Prop where
  nd : out.Nodup
  r1 : ∀ x ∈ out, Rch ts ne sg k x
  r2 : ∀ x ∈ wk, Rch ts ne sg k x
  cl : ∀ x ∈ out, ∀ y ∈ keysS sg, x ∈ rawNeeds ts ne y → y ∈ out ∨ y ∈ wk
  k0 : k ∈ out ∨ k ∈ wk
theorem RInv.start {ts : List Tk} {ne : Nat} {sg : List Sg} {k : Ky} (h : k ∈ keysS sg) : RInv ts ne sg k [] [k] where
  nd := List.nodup_nil
  r1 := fun x h => by cases h
  r2 := fun x hx => by rw [List.mem_singleton] at hx; rw [hx]; exact .base h
  cl := fun x h => by cases h
  k0 := .inr (by simp)
theorem RInv.skip {ts : List Tk} {ne : Nat} {sg : List Sg} {k : Ky} {out l : List Ky} {x : Ky} (h : RInv ts ne sg k out (l ++ [x])) (hx : x ∈ out) : RInv ts ne sg k out l where
  nd := h.nd
  r1 := h.r1
  r2 := fun y hy => h.r2 y (List.mem_append_left _ hy)
  cl := fun z hz y hy hr => by
    rcases h.cl z hz y hy hr with h1 | h1
    · exact .inl h1
    · rcases List.mem_append.1 h1 with h1 | h1
      · exact .inr h1
      · rw [List.mem_singleton] at h1
        rw [h1]; exact .inl hx
  k0 := by
    rcases h.k0 with h1 | h1
    · exact .inl h1
    · rcases List.mem_append.1 h1 with h1 | h1
      · exact .inr h1
      · rw [List.mem_singleton] at h1
        rw [h1]; exact .inl hx
theorem RInv.take {ts : List Tk} {ne : Nat} {sg : List Sg} {k : Ky} {out l pu : List Ky} {x : Ky} (h : RInv ts ne sg k out (l ++ [x])) (hx : x ∉ out) (hp : ∀ y ∈ pu, y ∈ keysS sg ∧ x ∈ rawNeeds ts ne y)
    (hq : ∀ y ∈ keysS sg, y ∉ out ++ [x] → x ∈ rawNeeds ts ne y → y ∈ pu) : RInv ts ne sg k (out ++ [x]) (l ++ pu) where
  nd := by
    rw [List.nodup_append]
    exact ⟨h.nd, by simp, fun a ha b hb e => by rw [List.mem_singleton] at hb; subst hb; subst e; exact hx ha⟩
  r1 := fun y hy => by
    rcases List.mem_append.1 hy with hy | hy
    · exact h.r1 y hy
    · rw [List.mem_singleton] at hy; rw [hy]; exact h.r2 x (by simp)
  r2 := fun y hy => by
    rcases List.mem_append.1 hy with hy | hy
    · exact h.r2 y (List.mem_append_left _ hy)
    · exact .step (h.r2 x (by simp)) (hp y hy).1 (hp y hy).2
  cl := fun z hz y hy hr => by
    by_cases hyo : y ∈ out ++ [x]
    · exact .inl hyo
    · rcases List.mem_append.1 hz with hz | hz
      · rcases h.cl z hz y hy hr with h1 | h1
        · exact .inl (List.mem_append_left _ h1)
        · rcases List.mem_append.1 h1 with h1 | h1
          · exact .inr (List.mem_append_left _ h1)
          · exact absurd (List.mem_append_right _ h1) hyo
      · rw [List.mem_singleton] at hz
        subst hz
        exact .inr (List.mem_append_right _ (hq y hy hyo hr))
  k0 := by
    rcases h.k0 with h1 | h1
    · exact .inl (List.mem_append_left _ h1)
    · rcases List.mem_append.1 h1 with h1 | h1
      · exact .inr (List.mem_append_left _ h1)
      · exact .inl (List.mem_append_right _ h1)
theorem RInv.done {ts : List Tk} {ne : Nat} {sg : List Sg} {k : Ky} {out : List Ky} (h : RInv ts ne sg k out []) (x : Ky) : x ∈ out ↔ Rch ts ne sg k x := by
  constructor
  · exact h.r1 x
  · intro hr
    induction hr with
    | base _ => exact h.k0.elim id (fun h => by cases h)
    | step _ h2 h3 ih => exact (h.cl _ ih _ h2 h3).elim id (fun h => by cases h)
theorem RInv.len {ts : List Tk} {ne : Nat} {sg : List Sg} {k : Ky} {out wk : List Ky} (h : RInv ts ne sg k out wk) : out.length ≤ sg.length := by
  have h1 : out ⊆ keysS sg := fun x hx => (h.r1 x hx).mem
  have := h.nd.length_le_of_subset h1
  unfold keysS at this
  rwa [List.length_map] at this

/-! ### Contains -/
def IndexP (l : List Ky) (k : Ky) (w : World) (e : Ending) (w' : World) : Prop := ∃ r : Int, e = .returned (.int .i64 r) ∧ (0 ≤ r ↔ k ∈ l) ∧ Below w.heap.size w w'
set_option maxRecDepth 20000 in
set_option maxHeartbeats 1000000 in
theorem indexK {S : Nat → Prop} (w : World) (a : Option Addr) (len cap : Nat) (l : List Ky) (hx : Rd (.sl keyT) S w [.slice a len cap] (l.map Ky.d)) (hS : ∀ b, S b → b < w.heap.size) (k : Ky) :
    Calls Try.prog 55 #[.slice a len cap, k.v] w (IndexP l k w) := by
  obtain ⟨hl, hlc, hm, -⟩ := hx.sl_flat
  rw [List.length_map] at hl
  obtain ⟨k1, k2, k3⟩ := k
  have hB1 := (Below.refl w.heap.size w).alloc (Nat.le_refl _) (.cells #[.string k1, .int .i64 k2, .int .i64 k3] 53)
  have HR1 := Lib.hid (heap_alloc_new w (.cells #[.string k1, .int .i64 k2, .int .i64 k3] 53))
  have HB1 := Lib.hid hB1
  have HX := Lib.hid hx
  have HL := Lib.hid hl
  have HS := Lib.hid hS
  have hgd : Try.prog.eqGuardType Try.prog.depth 53 = false := by kernel_rfl
  unfold Ky.v
  simp only
  clear hx hl hS hB1
  go_enter Try.func55, Try.ntmps55
  go_wp2_with fail
  generalize w.alloc (.cells #[.string k1, .int .i64 k2, .int .i64 k3] 53) = w1 at *
  go_loopw [5, 8] (fun _ i wr => ∃ (q : Nat), q ≤ len ∧ i = .int .i64 q ∧ (∀ j (hj : j < l.length), j < q → l[j] ≠ ⟨k1, k2, k3⟩) ∧ Below w1.heap.size w1 wr) (fun _ i _ => len - (intOf i).toNat)
  case atStart => exact ⟨0, Nat.zero_le _, rfl, fun j _ hj => absurd hj (by omega), Below.refl _ _⟩
  obtain ⟨q, hk, rfl, hno, hB⟩ := hrel
  have HB := Lib.hid hB
  have HNO := Lib.hid hno
  clear hno
  by_cases hlt : q < len
  · have hkI : (q : Int) < (len : Int) := by omega
    have hql : q < l.length := by rw [HL.out]; exact hlt
    obtain ⟨b, o, rfl, -, m0, m1, m2, -⟩ := key_at (HX.out.below (below_step HB1.out hB) HS.out) q hql
    have hcb := (hB.block _ (blk_lt HR1.out)).trans HR1.out
    obtain ⟨eb, heb⟩ : ∃ eb, decide ((⟨k1, k2, k3⟩ : Ky) = l[q]) = eb := ⟨_, rfl⟩
    have HIN := Lib.hid (show eb = true → (⟨k1, k2, k3⟩ : Ky) ∈ l from fun h => by rw [of_decide_eq_true (heb.trans h)]; exact List.getElem_mem hql)
    have HNN := Lib.hid (show eb = false → ∀ j (hj : j < l.length), j < q + 1 → l[j] ≠ ⟨k1, k2, k3⟩ from fun h j hj hjq => by
      by_cases e : j = q
      · subst e; exact fun e' => of_decide_eq_false (heb.trans h) e'.symm
      · exact HNO.out j hj (by omega))
    generalize l[q] = y at m0 m1 m2 heb
    obtain ⟨y1, y2, y3⟩ := y
    simp only at m0 m1 m2
    have heq : ∀ W, Sem.run Try.prog (binOp .eql 53 (.agg #[.string k1, .int .i64 k2, .int .i64 k3]) (.agg #[.string y1, .int .i64 y2, .int .i64 y3])) W = .ok (.bool eb) W := fun W => by
      have := key_eql W ⟨k1, k2, k3⟩ ⟨y1, y2, y3⟩
      rw [heb] at this
      exact this
    have HLT := Lib.hid hlt
    have hC0 : Cells [(⟨w.heap.size, 0, none⟩, .string k1), (⟨w.heap.size, 1, none⟩, .int .i64 k2), (⟨w.heap.size, 2, none⟩, .int .i64 k3), (⟨b, o + q * 3, none⟩, .string y1), (⟨b, o + q * 3 + 1, none⟩, .int .i64 y2), (⟨b, o + q * 3 + 2, none⟩, .int .i64 y3)] wr := ⟨blk_cell hcb 0, blk_cell hcb 1, blk_cell hcb 2, m0, m1, m2, trivial⟩
    clear m0 m1 m2 hcb hB hlt heb hql
    go_wp2_with fail
    refine wp_region_T (Cells [(⟨w.heap.size, 0, none⟩, .string k1), (⟨w.heap.size, 1, none⟩, .int .i64 k2), (⟨w.heap.size, 2, none⟩, .int .i64 k3), (⟨b, o + q * 3, none⟩, .string y1), (⟨b, o + q * 3 + 1, none⟩, .int .i64 y2), (⟨b, o + q * 3 + 2, none⟩, .int .i64 y3)]) (fun _ => false) (by kernel_rfl) ?_
    have hSss1 := Cells.drew hC0
    have hB_0_s1 : Below wr.heap.size wr wr.drew := below_drew _
    generalize wr.drew = s1 at hSss1 hB_0_s1 ⊢
    have hB_s1_s1 := Below.refl s1.heap.size s1
    refine wpAnyT_pure (i := 1) (v := ?_) rfl (by kernel_rfl) (by kernel_rfl) (by kernel_rfl) (fun _ _ _ h => h) (by rfl) ?_ ?_
    rotate_left
    · intro w; go_simp; try with_reducible rfl
    simp only [Act.put, rgA, rgB, rgC, rgD, rgE, rgF]
    refine wpAnyT_pure (i := 2) (v := ?_) rfl (by kernel_rfl) (by kernel_rfl) (by kernel_rfl) (fun _ _ _ h => h) (by rfl) ?_ ?_
    rotate_left
    · intro w; go_simp; try with_reducible rfl
    simp only [Act.put, rgA, rgB, rgC, rgD, rgE, rgF]
    refine wpAnyT_pure (i := 3) (v := ?_) rfl (by kernel_rfl) (by kernel_rfl) (by kernel_rfl) (fun _ _ _ h => h) (by rfl) ?_ ?_
    rotate_left
    · intro w; go_simp; try with_reducible rfl
    simp only [Act.put, rgA, rgB, rgC, rgD, rgE, rgF]
    refine wpAnyT_loadW (i := 0) (v := ?_) rfl (by kernel_rfl) (by kernel_rfl) (by kernel_rfl) (by kernel_rfl) (by kernel_rfl) (fun _ _ _ h => h) (Or.inl ⟨by rfl, ?_⟩) hSss1 ?_
    rotate_left
    · intro w hSw; obtain ⟨e0, e1, e2, e3, e4, e5, -⟩ := hSw; go_simp; try with_reducible rfl
    simp only [Act.put, rgA, rgB, rgC, rgD, rgE, rgF]
    refine wpAnyT_loadW (i := 4) (v := ?_) rfl (by kernel_rfl) (by kernel_rfl) (by kernel_rfl) (by kernel_rfl) (by kernel_rfl) (fun _ _ _ h => h) (Or.inl ⟨by rfl, ?_⟩) hSss1 ?_
    rotate_left
    · intro w hSw; obtain ⟨e0, e1, e2, e3, e4, e5, -⟩ := hSw; go_simp; try with_reducible rfl
    simp only [Act.put, rgA, rgB, rgC, rgD, rgE, rgF]
    refine wpAnyT_pure (i := 5) (v := ?_) rfl (by kernel_rfl) (by kernel_rfl) (by kernel_rfl) (fun _ _ _ h => h) (by rfl) ?_ ?_
    rotate_left
    · intro w; go_simp; try with_reducible rfl
    simp only [Act.put, rgA, rgB, rgC, rgD, rgE, rgF]
    refine wpAnyT_done (by kernel_rfl) ?_ _
    have HBP := Lib.hid (below_step HB.out (hB_0_s1.trans ((hB_s1_s1).mono (hB_0_s1).size)))
    cases eb
    · go_wp2_with fail
      go_roundw
      case rel => exact ⟨q + 1, HLT.out, by go_num, HNN.out (by first | rfl | trivial), HBP.out⟩
      case measure => simp [intOf]; try omega
    · go_wp2_with fail
      go_ret
      exact ⟨_, rfl, ⟨fun _ => HIN.out (by first | rfl | trivial), fun _ => by omega⟩, below_step HB1.out HBP.out⟩
  · obtain rfl : len = q := by omega
    have HN := Lib.hid (show (⟨k1, k2, k3⟩ : Ky) ∉ l from fun h => by
      obtain ⟨j, hj, e⟩ := List.getElem_of_mem h
      exact HNO.out j hj (by rw [← HL.out]; exact hj) e)
    clear hB
    go_wp2_with fail
    go_ret
    exact ⟨_, rfl, ⟨fun h => absurd h (by decide), fun h => absurd h HN.out⟩, below_step HB1.out HB.out⟩
set_option maxHeartbeats 1000000 in
theorem containsK {S : Nat → Prop} (w : World) (a : Option Addr) (len cap : Nat) (l : List Ky) (hx : Rd (.sl keyT) S w [.slice a len cap] (l.map Ky.d)) (hS : ∀ b, S b → b < w.heap.size) (k : Ky) :
    Calls Try.prog 37 #[.slice a len cap, k.v] w fun e w' => e = .returned (.bool (decide (k ∈ l))) ∧ Below w.heap.size w w' := by
  obtain ⟨k1, k2, k3⟩ := k
  have hB1 := (Below.refl w.heap.size w).alloc (Nat.le_refl _) (.cells #[.string k1, .int .i64 k2, .int .i64 k3] 53)
  have hr := heap_alloc_new w (.cells #[.string k1, .int .i64 k2, .int .i64 k3] 53)
  obtain ⟨mb, hmb⟩ : ∃ mb, decide ((⟨k1, k2, k3⟩ : Ky) ∈ l) = mb := ⟨_, rfl⟩
  rw [hmb]
  have HMB := Lib.hid hmb
  have HI := Lib.hid (indexK _ a len cap l (hx.below hB1 hS) (fun b hb => Nat.lt_of_lt_of_le (hS b hb) hB1.size) ⟨k1, k2, k3⟩)
  have HB1 := Lib.hid hB1
  unfold Ky.v at HI ⊢
  simp only at HI ⊢
  clear hB1 hx hS hr hmb
  go_enter Try.func37, Try.ntmps37
  go_wp2_with fail
  have hX := HI.out
  refine Calls.mono hX ?_
  clear hX
  rintro e w2 ⟨r, rfl, hr, hb⟩
  have HB2 := Lib.hid (below_step HB1.out hb)
  have HD := Lib.hid (show decide (0 ≤ r) = mb from by rw [← HMB.out]; exact decide_eq_decide.2 hr)
  clear hb hr
  go_wp2_with fail
  go_ret
  refine ⟨?_, HB2.out⟩
  show Ending.returned (.bool (decide (0 ≤ r))) = _
  rw [HD.out]
/-- 'delete(m, k)' in a region. -/
theorem wp_delete1 {P : Program} {o : Oper} {a : Act} {w w' : World} {K : Act → World → Prop} {Q : Exit → Act → World → Prop} (m x : Operand) (t k : TypeId) (ho : o.op = .call { callee := .builtin .delete, args := #[m, x], argTypes := #[t, k] }) {mv kv : Value}
    (hm : a.eval m = mv) (hx : a.eval x = kv) (hrun : (Builtin.delete_ #[t, k] o.type #[mv, kv]).run P w = .ok (.tuple #[]) w') (h : K (a.put o.dst (.tuple #[])) w') : o.wp P a w K Q := by
  unfold Oper.wp
  simp [execOp, ho, resolve, invoke, builtin, hm, hx, hrun, Result.andThen]
  exact h
theorem RdL.fst {e : Ty} {S : Nat → Prop} {w : World} : ∀ {xs ys : List e.den} {vs : List Value}, RdL e S w vs (xs ++ ys) → RdL e S w (vs.take (xs.length * e.sz)) xs
  | [], _, _, _ => by simp [RdL]
  | x :: xs, ys, vs, h => by
    obtain ⟨c, r, rfl, h1, h2⟩ := h
    refine ⟨c, r.take (xs.length * e.sz), ?_, h1, RdL.fst h2⟩
    have hc := h1.len
    rw [List.length_cons, Nat.add_mul, Nat.one_mul, Nat.add_comm, ← hc, List.take_length_add_append]
/-- A row of keys without its last one. -/
theorem owns_pop {base : Nat} {w : World} {v : Value} {l : List Ky} {x : Ky} (h : Owns keyT 53 base (fun _ => False) w v ((l ++ [x]).map Ky.d)) :
    ∃ g cap, v = .slice (some ⟨g, 0, none⟩) (l.length + 1) cap ∧ l.length + 1 ≤ cap ∧ cap ≤ 9223372036854775807 ∧ Owns keyT 53 base (fun _ => False) w (.slice (some ⟨g, 0, none⟩) l.length cap) (l.map Ky.d) ∧ x.ok ∧
      w.cell? ⟨g, l.length * 3, none⟩ = some (.string x.task) ∧ w.cell? ⟨g, l.length * 3 + 1, none⟩ = some (.int .i64 x.ent) ∧ w.cell? ⟨g, l.length * 3 + 2, none⟩ = some (.int .i64 x.per) := by
  have hok := owns_ok h x (by simp)
  rcases owns_krow h with ⟨-, h0⟩ | ⟨g, cap, rfl, hb, hc, hm, hK⟩
  · simp at h0
  · have hx := hK.cell l.length (by simp)
    simp only [List.length_append, List.length_cons, List.length_nil] at hc ⊢
    refine ⟨g, cap, rfl, hc, hm, ?_, hok, by simpa using hx.1, by simpa using hx.2.1, by simpa using hx.2.2⟩
    obtain ⟨vs, ⟨hl, hor⟩, hr, hS⟩ := h
    rw [List.length_map] at hl hor
    rcases hor with ⟨he, h0⟩ | ⟨g', cap', cur, he, hb', hg, hc', hm', hs, ht⟩
    · cases he
    · simp only [Value.slice.injEq, Option.some.injEq, Addr.mk.injEq] at he
      obtain ⟨⟨rfl, -⟩, -, rfl⟩ := he
      refine ⟨vs.take (l.length * keyT.sz), ⟨?_, .inr ⟨g, cap, cur, by rw [List.length_map], hb', hg, by rw [List.length_map]; omega, hm', hs, ?_⟩⟩, ?_, fun b hb => hb.elim⟩
      · rw [List.length_take, List.length_map, hl, List.length_append]
        rw [keyT_sz]; simp; try omega
      · rw [← ht, List.take_take, List.length_map, List.length_append]
        congr 1
        rw [keyT_sz]; simp; try omega
      · rw [List.map_append] at hr
        have := hr.fst
        rwa [List.length_map] at this
end Go.Proofs.Ytdcjocldggmdbaa
