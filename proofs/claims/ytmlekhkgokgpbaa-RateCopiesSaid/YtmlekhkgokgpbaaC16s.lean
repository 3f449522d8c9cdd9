/- Layer 16: slices.SortedFunc of a map's keys. -/
import Derived.Test.YtmlekhkgokgpbaaC16r
set_option linter.unusedSimpArgs false
namespace Go.Proofs.Ytmlekhkgokgpbaa
open Go.RowKit Go Go.Shelf

theorem keyT_sz : keyT.sz = 3 := rfl
open Go.Sort in
theorem holds16 {base : Nat} {w : World} {g len cap : Nat} {ss : List K3} (h : Owns keyT 58 base (fun _ => False) w (.slice (some ⟨g, 0, none⟩) len cap) (ss.map K3.d)) :
    g < w.heap.size ∧ base ≤ g ∧ len = ss.length ∧ HoldsK encK 3 w g 0 ss.toArray := by
  obtain ⟨vs, ho, hr, -⟩ := id h
  have hgg := h.own g rfl
  have hlen : len = ss.length := by
    obtain ⟨a, l, c, he, hl, -⟩ := h.slice
    simp only [Value.slice.injEq] at he
    obtain ⟨-, rfl, rfl⟩ := he
    simpa using hl
  refine ⟨hgg.2, hgg.1, hlen, fun j hj => ?_⟩
  rw [size_flatK] at hj
  have hj3 : j < ss.length * 3 := by simpa using hj
  rw [get_flatK _ _ _ _ hj]
  have hi : j / 3 < ss.length := by omega
  refine ⟨?_, ?_⟩
  · obtain ⟨c, hc, hcc, hrd⟩ := hr.at_ (j / 3) (by simpa using hi)
    have hv := ho.cells (g := g) rfl j
    rw [Addr.add_none] at hv
    rw [Nat.zero_add] at hv ⊢
    refine hv _ ?_
    have hx : (ss.toArray)[j / 3]! = ss[j / 3] := by simp [hi]
    rw [hx]
    rw [List.getElem_map] at hrd
    generalize ss[j / 3] = q at hrd ⊢
    obtain ⟨x, y, z⟩ := q
    obtain ⟨c1, r1, rfl, ⟨rfl, h1⟩, c2, r2, rfl, ⟨rfl, h2⟩, c3, r3, rfl, ⟨rfl, h3⟩, rfl⟩ := hrd
    have hm : j = j / 3 * keyT.sz + j % 3 := by rw [keyT_sz]; omega
    have h3 : j % 3 < 3 := Nat.mod_lt _ (by omega)
    generalize hr3 : j % 3 = r at *
    rw [hm]
    refine hcc r _ ?_
    match r, h3 with
    | 0, _ => rfl
    | 1, _ => rfl
    | 2, _ => rfl
  · rcases ho.2 with ⟨he, _⟩ | ⟨g', cap', cur, he, -, hgb, -⟩
    · cases he
    · simp only [Value.slice.injEq, Option.some.injEq, Addr.mk.injEq, true_and] at he
      obtain ⟨⟨rfl, -⟩, -⟩ := he
      simp [World.frozen?, hgb]

open Go.Sort in
theorem below_sortW {α : Type} [Inhabited α] (enc : α → List Value) (k : Nat) (w : World) (blk off n : Nat) (d : Array α) (os : Array Obj) (B : Nat) (hB : B ≤ blk) (hw : B ≤ w.heap.size) : Below B w (sortWorldK enc k w blk off n d os) := by
  refine ⟨rfl, rfl, rfl, ?_, fun i hi => ?_⟩
  · exact size_sortWorldK_c enc k w blk off n d os
  · show (w.heap.modify blk _ ++ os)[i]? = _
    rw [Array.getElem?_append_left (by rw [Array.size_modify]; omega), Array.getElem?_modify]
    rw [if_neg (by omega)]
/-- The keys of a map, sorted: what the loop of List ranges over. -/
def keysOK (D : DataW Unit) (ys : List K3) : Prop := ys.Pairwise keyLt ∧ (∀ x ∈ ys, x.ok) ∧ ∀ x : K3, x.ok → (x ∈ ys ↔ Maps.has D x.l = true)
theorem keysOK_sort (D : DataW Unit) (ss : List K3o) (h1 : ss.Nodup) (h2 : ∀ x : K3o, x ∈ ss ↔ Maps.has D x.1.l = true) :
    keysOK D ((ss.map (·.1)).mergeSort fun x y => !(ltOf befI) y x) := by
  have hle : ∀ a b : K3, (!(ltOf befI) b a) = true ↔ ¬ keyLt b a := fun a b => by
    rw [Bool.not_eq_true', ltOf_not]
  have hs : ((ss.map (·.1)).mergeSort fun x y => !(ltOf befI) y x).Pairwise fun x y => (!(ltOf befI) y x) = true := by
    refine List.pairwise_mergeSort (fun a b c h1 h2 => ?_) (fun a b => ?_) _
    · rw [hle] at *
      intro h
      rcases keyLt_total a b with h' | rfl | h'
      · exact h2 (keyLt_trans h h')
      · exact h2 h
      · exact h1 h'
    · rw [Bool.or_eq_true, hle, hle]
      by_cases h : keyLt b a
      · exact .inr fun h' => keyLt_irrefl _ (keyLt_trans h h')
      · exact .inl h
  have hp : ((ss.map (·.1)).mergeSort fun x y => !(ltOf befI) y x).Perm (ss.map (·.1)) := List.mergeSort_perm _ _
  have hnd : ((ss.map (·.1)).mergeSort fun x y => !(ltOf befI) y x).Nodup := by
    refine hp.nodup_iff.2 ?_
    exact List.pairwise_map.2 (h1.imp fun h e => h (Subtype.ext e))
  refine ⟨?_, fun x hx => ?_, fun x hx => ?_⟩
  · refine (hs.and hnd).imp fun {a b} h => ?_
    obtain ⟨h1, h2⟩ := h
    rw [hle] at h1
    rcases keyLt_total a b with h' | h' | h'
    · exact h'
    · exact absurd h' h2
    · exact absurd h' h1
  · obtain ⟨y, -, rfl⟩ := List.mem_map.1 (hp.mem_iff.1 hx)
    exact y.2
  · rw [hp.mem_iff, List.mem_map]
    constructor
    · rintro ⟨y, hy, rfl⟩
      exact (h2 y).1 hy
    · intro h
      exact ⟨⟨x, hx⟩, (h2 ⟨x, hx⟩).2 h, rfl⟩

theorem Keys16 (b : Option Nat) (w : World) :
    Calls Try.prog 38 #[.map b] w fun e w' => e = .returned (.func (.func 48) #[] #[.pointer (some ⟨w.heap.size, 0, none⟩)]) ∧ w' = w.alloc (.cells #[.map b] 52) := by
  go_enter Try.func38, Try.ntmps38
  go_wp2
  go_ret
  exact ⟨rfl, rfl⟩
set_option maxHeartbeats 400000 in
theorem Collect16 (Bm b nn : Nat) (D : DataW Unit) (w : World) (hsz : Maps.size D ≤ 1000000)
    (hm : w.cell? ⟨Bm, 0, none⟩ = some (.map (some b))) (hown : w.ownsMap Try.prog 58 (plainElem Try.prog 3) b nn D) :
    Calls Try.prog 46 #[.func (.func 48) #[] #[.pointer (some ⟨Bm, 0, none⟩)]] w fun e w' =>
      ∃ v, ∃ ss : List K3o, e = .returned v ∧ ((ss.Nodup ∧ ∀ x : K3o, x ∈ ss ↔ Maps.has D x.1.l = true) ∧ ss.length ≤ Maps.size D) ∧ Owns keyT 58 w.heap.size (fun _ => False) w' v (ss.map (fun x => x.1.d)) ∧ Below w.heap.size w w' := by
  have H := Lib.hid (AppendSeq16 Bm b nn D w hsz hm hown)
  clear hm hown
  go_enter Try.func46, Try.ntmps46
  go_wp2_with (go_at_call 54; refine H.out.mono ?_; rintro e w' ⟨v, ss, rfl, hS, hO, hB⟩)
  obtain ⟨av, lv, capv, rfl, hl, _⟩ := hO.slice
  go_ret
  exact ⟨_, ss, rfl, hS, hO, hB⟩
/-- Where the sorted keys lie. -/
def KeysAt (w : World) (B : Nat) (v : Value) (ys : List K3) : Prop :=
  ∃ a cap, v = .slice a ys.length cap ∧ ys.length ≤ cap ∧ ∀ i (hi : i < ys.length), ∃ g, a = some ⟨g, 0, none⟩ ∧ B ≤ g ∧ g < w.heap.size ∧ w.cell? ⟨g, i * 3, none⟩ = some (.string ys[i].cur) ∧ w.cell? ⟨g, i * 3 + 1, none⟩ = some (.int .i64 ys[i].kind) ∧ w.cell? ⟨g, i * 3 + 2, none⟩ = some (.int .i64 ys[i].when_)
open Go.Sort in
theorem keysAt_of (w : World) (B g cap : Nat) (ys : List K3) (hB : B ≤ g) (hg : g < w.heap.size) (hc : ys.length ≤ cap) (h : HoldsK encK 3 w g 0 ys.toArray) : KeysAt w B (.slice (some ⟨g, 0, none⟩) ys.length cap) ys := by
  refine ⟨_, _, rfl, hc, fun i hi => ⟨g, rfl, hB, hg, ?_, ?_, ?_⟩⟩
  · have := (h.cell (i := i) (c := 0) (by simpa using hi) (by omega)).1
    simpa [hi, encK] using this
  · have := (h.cell (i := i) (c := 1) (by simpa using hi) (by omega)).1
    simpa [hi, encK] using this
  · have := (h.cell (i := i) (c := 2) (by simpa using hi) (by omega)).1
    simpa [hi, encK] using this
open Go.Sort in
theorem SortFunc16 (B : Nat) (w : World) (v : Value) (ss : List K3) (hsz : ss.length ≤ 1000000) (hB : B ≤ w.heap.size) (hO : Owns keyT 58 B (fun _ => False) w v (ss.map K3.d)) :
    Calls Try.prog 47 #[v, .func (.func 39) #[] #[]] w fun e w' =>
      e = .returned (.tuple #[]) ∧ KeysAt w' B v (ss.mergeSort fun x y => !(ltOf befI) y x) ∧ Below B w w' := by
  rcases hO.len with ⟨rfl, h0⟩ | ⟨g, cap, rfl, hbg, hgw, hlc, hcm⟩
  · have hs0 : ss = [] := by simpa using h0
    subst hs0
    refine (AnyF.slices_SortFunc_none (P := Try.prog) Try.sortK16 none 0 (.func (.func 39) #[] #[]) w).mono ?_
    rintro e w' ⟨he, rfl⟩
    exact ⟨he, ⟨none, 0, by simp, by simp, fun i hi => by simp at hi⟩, Below.refl _ _⟩
  · rw [List.length_map] at hlc
    obtain ⟨h1, h2, h3, h4⟩ := holds16 hO
    rw [h3]
    refine (sortK_sum g 0 cap ss.toArray w h4 h1 (by simp; omega)).mono ?_
    rintro e w' ⟨he, n, os, rfl⟩
    have hperm : (ss.mergeSort fun x y => !(ltOf befI) y x).length = ss.length := List.length_mergeSort _
    refine ⟨he, ?_, below_sortW _ _ _ _ _ _ _ _ _ hbg (by omega)⟩
    have hk := holdsK_sortWorldK_c encK 3 w g 0 ss.toArray (ss.mergeSort fun x y => !(ltOf befI) y x).toArray n os h4 h1 (by simp)
    have hsz := size_sortWorldK_c encK 3 w g 0 n (ss.mergeSort fun x y => !(ltOf befI) y x).toArray os
    have := keysAt_of _ B g cap (ss.mergeSort fun x y => !(ltOf befI) y x) hbg (Nat.lt_of_lt_of_le h1 hsz) (by rw [hperm]; omega) hk
    rw [hperm] at this
    exact this
set_option maxRecDepth 10000 in
set_option maxHeartbeats 1000000 in
theorem SortedFunc16 (Bm b nn : Nat) (D : DataW Unit) (w : World) (hsz : Maps.size D ≤ 1000000)
    (hm : w.cell? ⟨Bm, 0, none⟩ = some (.map (some b))) (hown : w.ownsMap Try.prog 58 (plainElem Try.prog 3) b nn D) :
    Calls Try.prog 37 #[.func (.func 48) #[] #[.pointer (some ⟨Bm, 0, none⟩)], .func (.func 39) #[] #[]] w fun e w' =>
      ∃ v ys, e = .returned v ∧ (keysOK D ys ∧ ys.length ≤ Maps.size D) ∧ KeysAt w' w.heap.size v ys ∧ Below w.heap.size w w' := by
  have H := Lib.hid (Collect16 Bm b nn D w hsz hm hown)
  clear hm hown
  go_enter Try.func37, Try.ntmps37
  go_wp2_with (go_at_call 46; refine H.out.mono ?_; rintro e w1 ⟨v, ss, rfl, hS, hO, hB⟩; have HS := Lib.hid hS; have HO := Lib.hid hO; have HB := Lib.hid hB; clear hS hO; obtain ⟨av, lv, capv, rfl, hl, hcv, -⟩ := HO.out.slice; have HL := Lib.hid hl; clear hl)
  rw [show (ss.map fun x => x.1.d) = (ss.map (·.1)).map K3.d by simp] at HO
  refine (SortFunc16 w.heap.size w1 _ (ss.map (·.1)) (by rw [List.length_map]; exact Nat.le_trans HS.out.2 hsz) hB.size HO.out).mono ?_
  rintro e w2 ⟨rfl, hK, hB2⟩
  have HK := Lib.hid hK
  clear hK
  go_wp2
  go_ret
  exact ⟨_, _, rfl, ⟨keysOK_sort D ss HS.out.1.1 HS.out.1.2, by rw [List.length_mergeSort, List.length_map]; exact HS.out.2⟩, HK.out, HB.out.trans hB2⟩
end Go.Proofs.Ytmlekhkgokgpbaa
