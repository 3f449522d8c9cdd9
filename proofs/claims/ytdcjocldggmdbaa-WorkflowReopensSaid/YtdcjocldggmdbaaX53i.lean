/- Layer 53: a sort of one signature. -/
import Derived.Test.YtdcjocldggmdbaaX53f
import Derived.Maps.RangeWalk
set_option linter.unusedSimpArgs false
namespace Go.Proofs.Ytdcjocldggmdbaa
open Go.RowKit Go

set_option maxRecDepth 20000 in
set_option maxHeartbeats 1000000 in
theorem insertS (w : World) (a : Option Addr) (cap : Nat) (fv : Value) :
    Calls Try.prog 82 #[.slice a 1 cap, .int .i64 0, .int .i64 1, fv] w fun e w' => e = .returned (.tuple #[]) ∧ w' = w := by
  go_enter Try.func82, Try.ntmps82
  go_wp2_with fail
  refine wp_loop_rounds 1 ?_
  repeat any_goals (rw [rounds_succ]; go_wp2)
  refine bodyPost_end (results_none rfl _ _ _) rfl ?_
  exact ⟨rfl, rfl⟩
set_option maxRecDepth 20000 in
set_option maxHeartbeats 1000000 in
theorem pdqS (w : World) (a : Option Addr) (cap : Nat) (r : Int) (fv : Value) :
    Calls Try.prog 65 #[.slice a 1 cap, .int .i64 0, .int .i64 1, .int .i64 r, fv] w fun e w' => e = .returned (.tuple #[]) ∧ w' = w := by
  go_enter Try.func65, Try.ntmps65
  go_wp2_with fail
  refine wp_loop_rounds 1 ?_
  repeat any_goals (rw [rounds_succ]; go_wp2_with fail)
  refine (insertS w a cap fv).mono ?_
  rintro e w1 ⟨rfl, rfl⟩
  go_wp2_with fail
  exact bodyPost_ret (results_none rfl _ _ _) rfl ⟨rfl, rfl⟩
set_option maxRecDepth 20000 in
set_option maxHeartbeats 1000000 in
theorem sortS (w : World) (a : Option Addr) (cap : Nat) (fv : Value) :
    Calls Try.prog 47 #[.slice a 1 cap, fv] w fun e w' => e = .returned (.tuple #[]) ∧ w' = w := by
  go_enter Try.func47, Try.ntmps47
  go_wp2_with fail
  refine (len53 w 1 (by omega)).mono ?_
  rintro e w1 ⟨r, rfl, rfl⟩
  go_wp2_with fail
  refine (pdqS w1 a cap r fv).mono ?_
  rintro e w2 ⟨rfl, rfl⟩
  go_wp2_with fail
  exact bodyPost_end (results_none rfl _ _ _) rfl ⟨rfl, rfl⟩
end Go.Proofs.Ytdcjocldggmdbaa

/- Layer 53: what reads as a key; the step of a range over what is signed. -/
set_option linter.unusedSimpArgs false
set_option maxRecDepth 50000
namespace Go.Proofs.Ytdcjocldggmdbaa
open Go.RowKit Go

theorem keyOf_key {v : Value} {kl : Lit} (h : keyOf Try.prog 53 v = some kl) : ∃ c : Ky, c.ok ∧ v = c.v ∧ kl = c.l := by
  have hkt : Try.prog.keyType 53 = true := by kernel_rfl
  have hco : Try.prog.cellsOf 53 = 3 := by kernel_rfl
  have hc3 : Try.prog.cellsOf 3 = 1 := by kernel_rfl
  have hc9 : Try.prog.cellsOf 9 = 1 := by kernel_rfl
  obtain ⟨n, hn⟩ : ∃ n, Try.prog.types.size = n + 1 := ⟨Try.prog.types.size - 1, by have : 0 < Try.prog.types.size := of_decide_eq_true (by kernel_rfl); omega⟩
  have h0 := h
  have hcell : ∀ (d : Nat) (a : Value) (ls : List Lit), Try.prog.keyLits (d + 1) 3 [a] = some ls → ∃ x : Int, a = .int .i64 x ∧ (Lit.int .i64 x).wf = true := by
    intro d a ls ha
    cases a <;> simp [Program.keyLits, Try.underlying3] at ha
    obtain ⟨⟨rfl, h2⟩, -⟩ := ha
    exact ⟨_, rfl, by simpa using h2⟩
  have hcelS : ∀ (d : Nat) (a : Value) (ls : List Lit), Try.prog.keyLits (d + 1) 9 [a] = some ls → ∃ x : ByteArray, a = .string x ∧ x.size ≤ maxLen := by
    intro d a ls ha
    cases a <;> simp [Program.keyLits, Try.underlying9] at ha
    exact ⟨_, rfl, by first | exact ha.1 | (simpa using ha.1)⟩
  unfold keyOf at h
  simp only [Try.underlying53, hkt, hn] at h
  split at h
  · rename_i hf
    have hf : v.formed Try.prog 53 = true := by simpa using hf
    obtain ⟨cs, rfl⟩ : ∃ cs, v = .agg cs := by cases v <;> first | exact ⟨_, rfl⟩ | simp [Value.formed, Try.underlying53] at hf
    simp only [Value.formed, Try.underlying53, hco, beq_iff_eq] at hf
    obtain ⟨cs⟩ := cs
    match cs, hf with
    | [a, b, c], _ =>
      simp only [Value.cells] at h
      unfold Program.keyLits at h
      simp only [Try.underlying53, hco, hc3, hc9] at h
      simp only [hc3, hc9, List.length_cons, List.length_nil, true_and, List.mapM_cons, List.mapM_nil, List.drop_zero, List.take, List.drop] at h
      have hn' : ∃ m, n = m + 1 := ⟨n - 1, by have : 1 < Try.prog.types.size := of_decide_eq_true (by kernel_rfl); omega⟩
      obtain ⟨m, rfl⟩ := hn'
      cases h1 : Try.prog.keyLits (m + 1 + 1) 9 [a] with
      | none => simp [h1] at h
      | some l1 =>
      cases h2 : Try.prog.keyLits (m + 1 + 1) 3 [b] with
      | none => simp [h1, h2] at h
      | some l2 =>
      cases h3 : Try.prog.keyLits (m + 1 + 1) 3 [c] with
      | none => simp [h1, h2, h3] at h
      | some l3 =>
      obtain ⟨a, rfl, w1⟩ := hcelS _ _ _ h1
      obtain ⟨b, rfl, w2⟩ := hcell _ _ _ h2
      obtain ⟨c, rfl, w3⟩ := hcell _ _ _ h3
      refine ⟨⟨a, b, c⟩, ⟨w1, w2, w3⟩, rfl, ?_⟩
      unfold Ky.l Ky.v
      simp only
      rw [h0]; rfl
  · cases h
theorem ranges_has53 {P : Program} {k : TypeId} {R : Value → Option (DataW Unit × List MemPlace)} {w : World} {b r n : Nat} {D : DataW Unit} {left : Lit → Bool} {cnt : Nat} (K : Maps.Keyed P k) (h : w.ranges P k R b r n D left cnt) (kl : Lit) (hl : left kl = true) : Maps.has D kl = true := by
  obtain ⟨es, clock, since, seen, c0, hb, F, hs, rfl, hr, hold, hc, h1, h2, h3⟩ := h
  obtain ⟨x, hx, rfl⟩ := h2 kl hl
  obtain ⟨y, hy⟩ := F.reads x hx
  exact List.any_eq_true.2 ⟨WideElems.rg P k R x, mem_sorted.2 (List.mem_map.2 ⟨x, hx, rfl⟩), WideAt.sameKey_self (by rw [WideElems.rg_of hy]; exact K.key (WideElems.rd_key hy))⟩
/-- The step of the loop over what is signed. -/
theorem wpList_next53 {w : World} {ops : Array Oper} {rest : List Oper} {o : Oper} {a : Act} {Q : Exit → Act → World → Prop} (hg : o.guard = none) (it : Operand) (hop : o.op = Op.next it false) {b r n : Nat} {D : DataW Unit} {left : Lit → Bool} {cnt : Nat} {f : Ky → Option ByteArray}
    (hit : a.eval it = .pointer (some ⟨r, 0, none⟩)) (h : w.ranges Try.prog 53 strE.R b r n D left cnt) (hf : ∀ x : Ky, x.ok → Maps.has D (Ky.l x) = (f x).isSome)
    (hDone : (∀ kl, left kl = false) → wpList Try.prog ops Q rest (a.put o.dst (.tuple #[.bool false])) w)
    (hMore : ∀ (c : Ky) (s : ByteArray) (w' : World) (cnt' : Nat), c.ok → s.size ≤ maxLen → (f c).isSome = true → left (Ky.l c) = true → w'.ranges Try.prog 53 strE.R b r n D (fun z => left z && !z.sameKey (Ky.l c)) cnt' → cnt' < cnt →
      w.grownBy w' (some r) → w'.heap.size = w.heap.size → Sem.run Try.prog (Instr.entry (.pointer (some ⟨r, 0, none⟩))) w' = .ok (.tuple #[c.v, .string s]) w' → wpList Try.prog ops Q rest (a.put o.dst (.tuple #[.bool true, c.v, .string s])) w') :
    wpList Try.prog ops Q (o :: rest) a w := by
  refine wpList_next_ranges w hg it hop 53 keyK.K strE.R Ky.v Value.string (fun key kl hk => by obtain ⟨c, -, rfl, -⟩ := keyOf_key hk; exact ⟨c, rfl⟩) (fun v y hy => ?_) b r n D left cnt hit h (fun _ hl => hDone hl) ?_
  · unfold strE at hy
    simp only at hy
    unfold plainElem at hy
    rw [Try.underlying9] at hy
    cases v <;> simp at hy
    exact ⟨_, rfl⟩
  · intro c s kl y w' cnt' hkey hl hR hat hrg hlt hgr hsz hen
    obtain ⟨c', hok, hcv, rfl⟩ := keyOf_key hkey
    obtain rfl := Ky.v_inj hcv
    have hh := ranges_has53 keyK.K h _ hl
    have hfc := hf c hok
    rw [hh] at hfc
    have hs : s.size ≤ maxLen := by
      have hR' : strE.R (.string s) = some y := hR
      unfold strE at hR'
      simp only at hR'
      unfold plainElem at hR'
      rw [Try.underlying9] at hR'
      by_cases hsz' : s.size ≤ maxLen
      · exact hsz'
      · simp [hsz'] at hR'
    exact hMore c s w' cnt' hok hs hfc.symm hl hrg hlt hgr hsz hen
end Go.Proofs.Ytdcjocldggmdbaa

/- Layer 53: Signatures, of one signature. -/
set_option linter.unusedSimpArgs false
set_option maxRecDepth 50000
namespace Go.Proofs.Ytdcjocldggmdbaa
open Go.RowKit Go

abbrev sgT : Ty := .pr keyT (.pr .str .un)
theorem info_sg : (Try.prog.info? 70).map (fun i => (i.zero, i.size, i.bytes)) = some (some (.agg #[.string ⟨#[]⟩, .int .i64 0, .int .i64 0, .string ⟨#[]⟩]), sgT.sz, 48) := by kernel_rfl
theorem sg_rd {S : Nat → Prop} {w : World} {k : Ky} {s : ByteArray} (h : k.ok) (hs : s.size ≤ maxLen) : Rd sgT S w [.string k.task, .int .i64 k.ent, .int .i64 k.per, .string s] (k.d, s, ()) :=
  ⟨[_, _, _], _, rfl, key_rd h, [_], _, rfl, ⟨rfl, hs⟩, rfl⟩
theorem key_same (x k : Ky) (hx : x.ok) : (Ky.l x).sameKey (Ky.l x) = true := WideAt.sameKey_self (keyK.K.key (Ky.l_eq x hx))
set_option maxRecDepth 20000 in
set_option maxHeartbeats 4000000 in
theorem sigs53 {S : Nat → Prop} (w : World) (p : Nat) (ts : List Tk) (ne np m n : Nat) (f : Ky → Option ByteArray) (h : WfIn S w p ts ne np m n f) (k0 : Ky) (hk0 : k0.ok) (hf : ∀ x : Ky, x.ok → (f x).isSome = true → x = k0) (hs : (f k0).isSome = true) :
    Calls Try.prog 24 #[.pointer (some ⟨p, 0, none⟩)] w fun e w' => ∃ a c, e = .returned (.slice a 1 c) ∧ Below w.heap.size w w' := by
  have hB := (Below.refl w.heap.size w).alloc (Nat.le_refl _) (.cells #[.pointer (some ⟨p, 0, none⟩)] 27)
  have h1 := h.below hB
  obtain ⟨wa, wl, wc, wxs, hrow, -, -⟩ := h1.wf.row
  have k3 := blk_cell hrow 3
  simp at k3
  obtain ⟨D, hown, hsz, hD0⟩ := id h1.mp
  have HH := Lib.hid h1
  have HBX := Lib.hid hB
  have HF := Lib.hid hf
  have HK0 := Lib.hid hk0
  have HOWN := Lib.hid hown
  have HD := Lib.hid (show ∀ x : Ky, x.ok → Maps.has D (Ky.l x) = (f x).isSome from fun x hx => (hD0 x hx).1)
  have HST := Lib.hid (show Maps.has D (Ky.l k0) = true from by rw [← hs]; exact (hD0 k0 hk0).1)
  clear h hB h1 hrow hown hsz hD0 hf hk0 hs
  go_enter Try.func24, Try.ntmps24
  go_wp2_with (at_range; go_must (refine wpList_range_own _ rfl _ 91 rfl 53 9 keyK.K Try.underlying91 strE.R m n D rfl HOWN.out ?_); intro w0 hrg0 hg0 hs0)
  go_frame
  have hkB : Below w.heap.size w (w.alloc (.cells #[.pointer (some ⟨p, 0, none⟩)] 27)) := HBX.out
  generalize hw1 : w.alloc (.cells #[.pointer (some ⟨p, 0, none⟩)] 27) = w1 at *
  have hr1 : w1.heap.size = w.heap.size + 1 := by rw [← hw1]; simp
  have HR1 := Lib.hid hr1
  have hmr : m ≠ w1.heap.size := fun e => by have := HH.out.mp.lt; omega
  clear hw1
  have HB0 := Lib.hid (show Below w1.heap.size w1 w0 from (Below.refl w1.heap.size w1).grown hg0 (Nat.le_refl _) (fun c hc => by cases hc))
  have HRG := Lib.hid hrg0
  have hsz0 : w0.heap.size = w1.heap.size + 1 := hs0
  have HSZ := Lib.hid hsz0
  clear hrg0 hg0 hs0 hr1 hkB hsz0
  go_loopw [3] (fun ov wr => ∃ (left : Lit → Bool) (cnt : Nat) (xs : List sgT.den), Owns sgT 70 (w1.heap.size + 1) (fun _ => False) wr ov xs ∧ wr.ranges Try.prog 53 strE.R m (w1.heap.size) n D left cnt ∧ ((left (Ky.l k0) = true ∧ xs = []) ∨ (left (Ky.l k0) = false ∧ xs.length = 1)) ∧ Below w1.heap.size w1 wr ∧ w1.heap.size + 1 ≤ wr.heap.size) (fun _ wr => wr.rangeLeft m (w1.heap.size))
  case atStart => exact ⟨Maps.has D, _, [], Owns.nil _ _ _ _, HRG.out, .inl ⟨HST.out, rfl⟩, HB0.out, by rw [HSZ.out]; exact Nat.le_refl _⟩
  case round =>
    obtain ⟨left, cnt, xs, hO, hrg, hcase, hB, hle⟩ := hrel
    obtain ⟨oa, ol, oc, rfl, hol, -⟩ := hO.slice
    have HO := Lib.hid hO
    have HRGr := Lib.hid hrg
    have HCASE := Lib.hid hcase
    have HB := Lib.hid hB
    have HOL := Lib.hid hol
    clear hO hrg hcase hB hol
    go_wp2_with (first | (at_next; go_must (refine wpList_next53 rfl _ rfl (f := f) rfl HRGr.out HD.out ?_ ?_)) | go_in)
    · intro hl0
      have hx1 : ol = 1 := by
        rcases HCASE.out with ⟨h1, -⟩ | ⟨-, h2⟩
        · rw [hl0] at h1; cases h1
        · rw [HOL.out]; exact h2
      subst hx1
      clear hl0
      go_wp2_with fail
      refine (sortS wr oa oc _).mono ?_
      rintro e w3 ⟨rfl, rfl⟩
      go_wp2_with fail
      go_ret
      exact ⟨_, _, rfl, HBX.out.trans (HB.out.mono (by rw [HR1.out]; omega))⟩
    · intro c s w2 cnt2 hcok hsok hfc hlc hrg2 hlt hg2 hs2 hen
      have hck : c = k0 := HF.out c hcok hfc
      subst hck
      obtain ⟨c1, c2, c3⟩ := c
      unfold Ky.v at hen ⊢
      simp only at hen ⊢
      have HXS := Lib.hid (show xs = [] from by
        rcases HCASE.out with ⟨-, h2⟩ | ⟨h1, -⟩
        · exact h2
        · rw [hlc] at h1; cases h1)
      have hO2 : Owns sgT 70 (w1.heap.size + 1) (fun _ => False) w2 (.slice oa ol oc) xs := HO.out.gr (Gr.of_grown hg2) (fun _ h => h.elim) (fun b e1 e2 => by have := (HO.out.own b e1).1; have := Option.some.inj e2; omega)
      have HO2 := Lib.hid hO2
      have HB2 := Lib.hid (HB.out.grown hg2 HB.out.size (fun c hc => by have := Option.some.inj hc; omega))
      have HRG2 := Lib.hid hrg2
      have HLT := Lib.hid hlt
      have HS2 := Lib.hid hs2
      have HOK := Lib.hid (And.intro hcok hsok)
      clear hcok hsok hfc hlc hrg2 hlt hg2 hs2 hO2
      have hmlt : m < w1.heap.size := HH.out.mp.lt
      go_wp2_with (at_builtin; go_must (refine wpList_app _ rfl _ _ 65 rfl (e := sgT) (te := 70) info_sg Try.underlying65 rfl (by decide) (base := w1.heap.size + 1) (S := fun _ => False) (v := .slice oa ol oc) (xs := xs) rfl ((HO2.out.alloc _).alloc _) (by have := HS2.out; simp only [World.size_alloc]; omega) (sv := .slice (some ⟨w2.heap.size + 1, 0, none⟩) 1 1) rfl (ys := [(Ky.d ⟨c1, c2, c3⟩, s, ())]) (by simpa using Src.new (w2.alloc (.cells #[.string c1, .int .i64 c2, .int .i64 c3] 53)) [.string c1, .int .i64 c2, .int .i64 c3, .string s] 70 1 1) (RdL.one (e := sgT) (sg_rd HOK.out.1 HOK.out.2)) (by rw [HXS.out]; simp) (by rw [HXS.out]; simp) ?_; intro v' w9 O9 g9 _ ob9; have HO9 := Lib.hid O9; have HB9 := Lib.hid (((HB2.out.alloc HB2.out.size (.cells #[.string c1, .int .i64 c2, .int .i64 c3] 53)).alloc (by have := HB2.out.size; simp only [World.size_alloc]; omega) (.cells #[.string c1, .int .i64 c2, .int .i64 c3, .string s] 70)).grown g9 (by have := HB2.out.size; simp only [World.size_alloc]; omega) (fun c hc => by have := (HO2.out.own c hc).1; omega)); have HRG9 := Lib.hid (((HRG2.out.kept (World.grownBy_alloc w2 (.cells #[.string c1, .int .i64 c2, .int .i64 c3] 53) none) (by simp) (by simp)).kept (World.grownBy_alloc (w2.alloc (.cells #[.string c1, .int .i64 c2, .int .i64 c3] 53)) (.cells #[.string c1, .int .i64 c2, .int .i64 c3, .string s] 70) none) (by simp) (by simp)).kept g9 (fun e => by have := (HO2.out.own m e.symm).1; omega) (fun e => by have := (HO2.out.own _ e.symm).1; omega)); have HLE9 := Lib.hid (show w1.heap.size + 1 ≤ w9.heap.size from by have h1 := g9.size; have h2 := HS2.out; simp only [World.size_alloc] at h1; omega); clear O9 g9 ob9))
      go_roundw
      case rel => exact ⟨_, cnt2, _, HO9.out, HRG9.out, .inr ⟨by simp [key_same _ ⟨c1, c2, c3⟩ HOK.out.1], by rw [HXS.out]; rfl⟩, HB9.out, HLE9.out⟩
      case measure => rw [HRG9.out.left_eq, HRGr.out.left_eq]; exact HLT.out
end Go.Proofs.Ytdcjocldggmdbaa
