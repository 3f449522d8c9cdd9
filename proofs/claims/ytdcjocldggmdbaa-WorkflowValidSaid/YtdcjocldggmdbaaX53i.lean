/- Layer 53: Signatures, of one signature. -/
import Derived.Test.YtdcjocldggmdbaaX53h
set_option linter.unusedSimpArgs false
set_option maxRecDepth 50000
namespace Go.Proofs.Ytdcjocldggmdbaa
open Go.RowKit Go

abbrev sgT : Ty := .pr keyT (.pr .str .un)
theorem info_sg : (Try.prog.info? 70).map (fun i => (i.zero, i.size, i.bytes)) = some (some (.agg #[.string ⟨#[]⟩, .int .i64 0, .int .i64 0, .string ⟨#[]⟩]), sgT.sz, 48) := by kernel_rfl
theorem sg_rd {S : Nat → Prop} {w : World} {k : Ky} {s : ByteArray} (h : k.ok) (hs : s.size ≤ maxLen) : Rd sgT S w [.string k.task, .int .i64 k.ent, .int .i64 k.per, .string s] (k.d, s, ()) :=
  ⟨[_, _, _], _, rfl, key_rd h, [_], _, rfl, ⟨rfl, hs⟩, rfl⟩
theorem key_same (x k : Ky) (hx : x.ok) : (Ky.l x).sameKey (Ky.l x) = true := WideAt.sameKey_self (keyK.K.key (Ky.l_eq x hx))
set_option maxRecDepth 20000 in
set_option maxHeartbeats 4000000 in
theorem sigs53 {S : Nat → Prop} (w : World) (p : Nat) (ts : List Tk) (ne np m n : Nat) (f : Ky → Option ByteArray) (h : WfIn S w p ts ne np m n f) (k0 : Ky) (hk0 : k0.ok) (hf : ∀ x : Ky, x.ok → (f x).isSome = true → x = k0) (hs : (f k0).isSome = true) :
    Calls Try.prog 24 #[.pointer (some ⟨p, 0, none⟩)] w fun e w' => ∃ a c, e = .returned (.slice a 1 c) ∧ Below w.heap.size w w' := by
  have hB := (Below.refl w.heap.size w).alloc (Nat.le_refl _) (.cells #[.pointer (some ⟨p, 0, none⟩)] 27)
  have h1 := h.below hB
  obtain ⟨wa, wl, wc, wxs, hrow, -, -⟩ := h1.wf.row
  have k3 := blk_cell hrow 3
  simp at k3
  obtain ⟨D, hown, hsz, hD0⟩ := id h1.mp
  have HH := Lib.hid h1
  have HBX := Lib.hid hB
  have HF := Lib.hid hf
  have HK0 := Lib.hid hk0
  have HOWN := Lib.hid hown
  have HD := Lib.hid (show ∀ x : Ky, x.ok → Maps.has D (Ky.l x) = (f x).isSome from fun x hx => (hD0 x hx).1)
  have HST := Lib.hid (show Maps.has D (Ky.l k0) = true from by rw [← hs]; exact (hD0 k0 hk0).1)
  clear h hB h1 hrow hown hsz hD0 hf hk0 hs
  go_enter Try.func24, Try.ntmps24
  go_wp2_with (at_range; go_must (refine wpList_range_own _ rfl _ 91 rfl 53 9 keyK.K Try.underlying91 strE.R m n D rfl HOWN.out ?_); intro w0 hrg0 hg0 hs0)
  go_frame
  have hkB : Below w.heap.size w (w.alloc (.cells #[.pointer (some ⟨p, 0, none⟩)] 27)) := HBX.out
  generalize hw1 : w.alloc (.cells #[.pointer (some ⟨p, 0, none⟩)] 27) = w1 at *
  have hr1 : w1.heap.size = w.heap.size + 1 := by rw [← hw1]; simp
  have HR1 := Lib.hid hr1
  have hmr : m ≠ w1.heap.size := fun e => by have := HH.out.mp.lt; omega
  clear hw1
  have HB0 := Lib.hid (show Below w1.heap.size w1 w0 from (Below.refl w1.heap.size w1).grown hg0 (Nat.le_refl _) (fun c hc => by cases hc))
  have HRG := Lib.hid hrg0
  have hsz0 : w0.heap.size = w1.heap.size + 1 := hs0
  have HSZ := Lib.hid hsz0
  clear hrg0 hg0 hs0 hr1 hkB hsz0
  go_loopw [3] (fun ov wr => ∃ (left : Lit → Bool) (cnt : Nat) (xs : List sgT.den), Owns sgT 70 (w1.heap.size + 1) (fun _ => False) wr ov xs ∧ wr.ranges Try.prog 53 strE.R m (w1.heap.size) n D left cnt ∧ ((left (Ky.l k0) = true ∧ xs = []) ∨ (left (Ky.l k0) = false ∧ xs.length = 1)) ∧ Below w1.heap.size w1 wr ∧ w1.heap.size + 1 ≤ wr.heap.size) (fun _ wr => wr.rangeLeft m (w1.heap.size))
  case atStart => exact ⟨Maps.has D, _, [], Owns.nil _ _ _ _, HRG.out, .inl ⟨HST.out, rfl⟩, HB0.out, by rw [HSZ.out]; exact Nat.le_refl _⟩
  case round =>
    obtain ⟨left, cnt, xs, hO, hrg, hcase, hB, hle⟩ := hrel
    obtain ⟨oa, ol, oc, rfl, hol, -⟩ := hO.slice
    have HO := Lib.hid hO
    have HRGr := Lib.hid hrg
    have HCASE := Lib.hid hcase
    have HB := Lib.hid hB
    have HOL := Lib.hid hol
    clear hO hrg hcase hB hol
    go_wp2_with (first | (at_next; go_must (refine wpList_next53 rfl _ rfl (f := f) rfl HRGr.out HD.out ?_ ?_)) | go_in)
    · intro hl0
      have hx1 : ol = 1 := by
        rcases HCASE.out with ⟨h1, -⟩ | ⟨-, h2⟩
        · rw [hl0] at h1; cases h1
        · rw [HOL.out]; exact h2
      subst hx1
      clear hl0
      go_wp2_with fail
      refine (sortS wr oa oc _).mono ?_
      rintro e w3 ⟨rfl, rfl⟩
      go_wp2_with fail
      go_ret
      exact ⟨_, _, rfl, HBX.out.trans (HB.out.mono (by rw [HR1.out]; omega))⟩
    · intro c s w2 cnt2 hcok hsok hfc hlc hrg2 hlt hg2 hs2 hen
      have hck : c = k0 := HF.out c hcok hfc
      subst hck
      obtain ⟨c1, c2, c3⟩ := c
      unfold Ky.v at hen ⊢
      simp only at hen ⊢
      have HXS := Lib.hid (show xs = [] from by
        rcases HCASE.out with ⟨-, h2⟩ | ⟨h1, -⟩
        · exact h2
        · rw [hlc] at h1; cases h1)
      have hO2 : Owns sgT 70 (w1.heap.size + 1) (fun _ => False) w2 (.slice oa ol oc) xs := HO.out.gr (Gr.of_grown hg2) (fun _ h => h.elim) (fun b e1 e2 => by have := (HO.out.own b e1).1; have := Option.some.inj e2; omega)
      have HO2 := Lib.hid hO2
      have HB2 := Lib.hid (HB.out.grown hg2 HB.out.size (fun c hc => by have := Option.some.inj hc; omega))
      have HRG2 := Lib.hid hrg2
      have HLT := Lib.hid hlt
      have HS2 := Lib.hid hs2
      have HOK := Lib.hid (And.intro hcok hsok)
      clear hcok hsok hfc hlc hrg2 hlt hg2 hs2 hO2
      have hmlt : m < w1.heap.size := HH.out.mp.lt
      go_wp2_with (at_builtin; go_must (refine wpList_app _ rfl _ _ 65 rfl (e := sgT) (te := 70) info_sg Try.underlying65 rfl (by decide) (base := w1.heap.size + 1) (S := fun _ => False) (v := .slice oa ol oc) (xs := xs) rfl ((HO2.out.alloc _).alloc _) (by have := HS2.out; simp only [World.size_alloc]; omega) (sv := .slice (some ⟨w2.heap.size + 1, 0, none⟩) 1 1) rfl (ys := [(Ky.d ⟨c1, c2, c3⟩, s, ())]) (by simpa using Src.new (w2.alloc (.cells #[.string c1, .int .i64 c2, .int .i64 c3] 53)) [.string c1, .int .i64 c2, .int .i64 c3, .string s] 70 1 1) (RdL.one (e := sgT) (sg_rd HOK.out.1 HOK.out.2)) (by rw [HXS.out]; simp) (by rw [HXS.out]; simp) ?_; intro v' w9 O9 g9 _ ob9; have HO9 := Lib.hid O9; have HB9 := Lib.hid (((HB2.out.alloc HB2.out.size (.cells #[.string c1, .int .i64 c2, .int .i64 c3] 53)).alloc (by have := HB2.out.size; simp only [World.size_alloc]; omega) (.cells #[.string c1, .int .i64 c2, .int .i64 c3, .string s] 70)).grown g9 (by have := HB2.out.size; simp only [World.size_alloc]; omega) (fun c hc => by have := (HO2.out.own c hc).1; omega)); have HRG9 := Lib.hid (((HRG2.out.kept (World.grownBy_alloc w2 (.cells #[.string c1, .int .i64 c2, .int .i64 c3] 53) none) (by simp) (by simp)).kept (World.grownBy_alloc (w2.alloc (.cells #[.string c1, .int .i64 c2, .int .i64 c3] 53)) (.cells #[.string c1, .int .i64 c2, .int .i64 c3, .string s] 70) none) (by simp) (by simp)).kept g9 (fun e => by have := (HO2.out.own m e.symm).1; omega) (fun e => by have := (HO2.out.own _ e.symm).1; omega)); have HLE9 := Lib.hid (show w1.heap.size + 1 ≤ w9.heap.size from by have h1 := g9.size; have h2 := HS2.out; simp only [World.size_alloc] at h1; omega); clear O9 g9 ob9))
      go_roundw
      case rel => exact ⟨_, cnt2, _, HO9.out, HRG9.out, .inr ⟨by simp [key_same _ ⟨c1, c2, c3⟩ HOK.out.1], by rw [HXS.out]; rfl⟩, HB9.out, HLE9.out⟩
      case measure => rw [HRG9.out.left_eq, HRGr.out.left_eq]; exact HLT.out
end Go.Proofs.Ytdcjocldggmdbaa
