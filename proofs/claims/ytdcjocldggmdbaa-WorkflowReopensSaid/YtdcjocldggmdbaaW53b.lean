/- Layer 53: tasks in memory; the place of a task. -/
import Derived.Test.YtdcjocldggmdbaaW53a
set_option linter.unusedSimpArgs false
namespace Go.Proofs.Ytdcjocldggmdbaa
open Go.RowKit Go

theorem taskT_sz : taskT.sz = 4 := rfl
theorem task_at {S : Nat → Prop} {w : World} {a : Option Addr} {len cap : Nat} {xs : List taskT.den} (h : Rd (.sl taskT) S w [.slice a len cap] xs) (i : Nat) (hi : i < xs.length) :
    ∃ b off na nl nc, a = some ⟨b, off, none⟩ ∧ S b ∧ w.cell? ⟨b, off + i * 4, none⟩ = some (.string (tk xs[i]).name) ∧ w.cell? ⟨b, off + i * 4 + 1, none⟩ = some (.slice na nl nc) ∧ w.cell? ⟨b, off + i * 4 + 2, none⟩ = some (.bool (tk xs[i]).grp) ∧ w.cell? ⟨b, off + i * 4 + 3, none⟩ = some (.bool (tk xs[i]).aft) ∧
      Rd (.sl .str) S w [.slice na nl nc] (tk xs[i]).needs ∧ (tk xs[i]).name.size ≤ maxLen := by
  obtain ⟨hl, -, -, vs, hr, hor⟩ := h.sl_flat
  obtain ⟨c, hc, hcc, hrd⟩ := hr.at_ i hi
  rcases hor with h0 | ⟨b, off, rfl, hb, hcell⟩
  · omega
  · generalize xs[i] = s at hrd ⊢
    obtain ⟨nm, nd, g, f, ⟨⟩⟩ := s
    obtain ⟨c1, r1, rfl, ⟨rfl, h1⟩, c2, r2, rfl, h2, c3, r3, rfl, rfl, c4, r4, rfl, rfl, rfl⟩ := hrd
    obtain ⟨na, nl, nc, rfl, h2'⟩ := id h2
    refine ⟨b, off, na, nl, nc, rfl, hb, ?_, ?_, ?_, ?_, h2, h1⟩
    · rw [show off + i * 4 = off + (i * taskT.sz + 0) by rw [taskT_sz]; omega]; exact hcell _ _ (hcc 0 _ rfl)
    · rw [show off + i * 4 + 1 = off + (i * taskT.sz + 1) by rw [taskT_sz]; omega]; exact hcell _ _ (hcc 1 _ rfl)
    · rw [show off + i * 4 + 2 = off + (i * taskT.sz + 2) by rw [taskT_sz]; omega]; exact hcell _ _ (hcc 2 _ rfl)
    · rw [show off + i * 4 + 3 = off + (i * taskT.sz + 3) by rw [taskT_sz]; omega]; exact hcell _ _ (hcc 3 _ rfl)
theorem strB (a b : ByteArray) : (a.toList == b.toList) = decide (a = b) := by
  by_cases h : a = b
  · subst h; simp
  · have : a.toList ≠ b.toList := fun e => h (by
      rw [ByteArray.toList_eq, ByteArray.toList_eq] at e
      exact ByteArray.ext (Array.toList_inj.1 e))
    simp [h, this]
theorem taskSame (w : World) (nm n : ByteArray) (na : Option Addr) (nl nc : Nat) (g f : Bool) (cb : Nat) (hb : w.heap[cb]? = some (.cells #[.string n] 9 (0, 0))) :
    Calls Try.prog 69 #[.agg #[.string nm, .slice na nl nc, .bool g, .bool f], .pointer (some ⟨cb, 0, none⟩)] w fun e w' => e = .returned (.bool (decide (nm = n))) ∧ Below w.heap.size w w' := by
  have hB : Below w.heap.size w (w.alloc (.cells #[.string nm, .slice na nl nc, .bool g, .bool f] 38)) := (Below.refl _ w).alloc (Nat.le_refl _) _
  have hb' := (hB.block _ (blk_lt hb)).trans hb
  have k0 := blk_cell hb' 0
  simp at k0
  clear hb hb'
  rw [← strB]
  go_enter Try.func69, Try.ntmps69
  go_wp2
  go_ret
  exact ⟨rfl, hB⟩
set_option maxRecDepth 20000 in
set_option maxHeartbeats 1000000 in
theorem placeIndex {S : Nat → Prop} (w : World) (a : Option Addr) (len cap : Nat) (xs : List taskT.den) (hx : Rd (.sl taskT) S w [.slice a len cap] xs) (hS : ∀ b, S b → b < w.heap.size) (cb : Nat) (n : ByteArray) (hcb : w.heap[cb]? = some (.cells #[.string n] 9 (0, 0))) :
    Calls Try.prog 68 #[.slice a len cap, .func (.func 69) #[] #[.pointer (some ⟨cb, 0, none⟩)]] w fun e w' => e = .returned (.int .i64 (plcI (xs.map tk) n)) ∧ Below w.heap.size w w' := by
  obtain ⟨hl, hlc, hm, -⟩ := hx.sl_flat
  have HX := Lib.hid hx
  have HL := Lib.hid hl
  have HS := Lib.hid hS
  have HCB := Lib.hid hcb
  clear hx hl hS hcb
  go_enter Try.func68, Try.ntmps68
  go_wp2_with fail
  go_loopw [5, 8] (fun _ i wr => ∃ (k : Nat), k ≤ len ∧ i = .int .i64 k ∧ (∀ j (hj : j < xs.length), j < k → (tk xs[j]).name ≠ n) ∧ Below w.heap.size w wr) (fun _ i _ => len - (intOf i).toNat)
  case atStart => exact ⟨0, Nat.zero_le _, rfl, fun j _ hj => absurd hj (by omega), Below.refl _ _⟩
  case round =>
    obtain ⟨k, hk, rfl, hno, hB⟩ := hrel
    have HNO := Lib.hid hno
    have HB := Lib.hid hB
    clear hno
    by_cases hlt : k < len
    · have hkx : k < xs.length := by rw [HL.out]; exact hlt
      obtain ⟨b, o, na, nl, nc, rfl, -, m0, m1, m2, m3, -, -⟩ := task_at (HX.out.below hB HS.out) k hkx
      have hkI : (k : Int) < (len : Int) := by omega
      have hcw := (HB.out.block _ (blk_lt HCB.out)).trans HCB.out
      obtain ⟨t, ht⟩ : ∃ t, tk xs[k] = t := ⟨_, rfl⟩
      rw [ht] at m0 m2 m3
      obtain ⟨bd, hbd⟩ : ∃ bd, decide (t.name = n) = bd := ⟨_, rfl⟩
      have HNN := Lib.hid (show bd = false → ∀ j (hj : j < xs.length), j < k + 1 → (tk xs[j]).name ≠ n from fun h j hj hjk => by
        by_cases e : j = k
        · subst e; rw [ht]; exact of_decide_eq_false (hbd.trans h)
        · exact HNO.out j hj (by omega))
      have HYY := Lib.hid (show bd = true → plcI (xs.map tk) n = k from fun h => by
        have hkm : k < (xs.map tk).length := by rw [List.length_map]; exact hkx
        have e : plc (xs.map tk) n = k := plc_hit hkm (by rw [List.getElem_map, ht]; exact of_decide_eq_true (hbd.trans h)) fun j hj => by rw [List.getElem_map]; exact HNO.out j (by omega) hj
        unfold plcI
        rw [e, if_pos hkm])
      obtain ⟨nm, nd, g, f⟩ := t
      simp only at m0 m1 m2 m3 hbd
      have HCL := Lib.hid (taskSame wr nm n na nl nc g f cb hcw)
      rw [hbd] at HCL
      have HLT := Lib.hid hlt
      clear hcw hB hbd ht
      cases bd
      · go_wp2_with (go_at_call 69; refine (HCL.out).mono ?_; rintro e w1 ⟨rfl, hw⟩; have HW := Lib.hid hw; clear hw)
        go_roundw
        case rel => exact ⟨k + 1, HLT.out, by go_num, HNN.out (by first | rfl | trivial), below_step HB.out HW.out⟩
        case measure => simp [intOf]; try omega
      · go_wp2_with (go_at_call 69; refine (HCL.out).mono ?_; rintro e w1 ⟨rfl, hw⟩; have HW := Lib.hid hw; clear hw)
        go_ret
        rw [HYY.out (by first | rfl | trivial)]
        exact ⟨rfl, below_step HB.out HW.out⟩
    · obtain rfl : len = k := by omega
      have HN := Lib.hid (show plcI (xs.map tk) n = -1 from by
        have e : plc (xs.map tk) n = (xs.map tk).length := plc_miss fun j hj => by
          rw [List.length_map] at hj
          rw [List.getElem_map]; exact HNO.out j hj (by rw [← HL.out]; exact hj)
        unfold plcI
        rw [e, if_neg (Nat.lt_irrefl _)])
      clear hB
      go_wp2_with fail
      go_ret
      rw [HN.out]
      exact ⟨rfl, HB.out⟩
/-- A workflow in memory, but for what is signed. -/
structure WfT (S : Nat → Prop) (w : World) (p : Nat) (ts : List Tk) (ne np m : Nat) : Prop where
  row : ∃ (a : Option Addr) (len cap : Nat) (xs : List taskT.den), w.heap[p]? = some (.cells #[.slice a len cap, .int .i64 ne, .int .i64 np, .map (some m)] 93 (0, 0)) ∧ Rd (.sl taskT) S w [.slice a len cap] xs ∧ xs.map tk = ts
  hS : ∀ b, S b → b < w.heap.size
theorem WfT.gr {S : Nat → Prop} {F : Nat → Prop} {w w' : World} {p : Nat} {ts : List Tk} {ne np m : Nat} (h : WfT S w p ts ne np m) (hG : Gr F w w') (hp : ¬ F p) (hS : ∀ b, S b → ¬ F b) : WfT S w' p ts ne np m := by
  obtain ⟨a, len, cap, xs, h1, h2, h3⟩ := h.row
  exact ⟨⟨a, len, cap, xs, blk_gr hG h1 hp, h2.gr hG (fun b hb => ⟨h.hS b hb, hS b hb⟩) (fun _ h => h), h3⟩, fun b hb => Nat.lt_of_lt_of_le (h.hS b hb) hG.size⟩
theorem WfT.below {S : Nat → Prop} {w w' : World} {p : Nat} {ts : List Tk} {ne np m : Nat} (h : WfT S w p ts ne np m) (hB : Below w.heap.size w w') : WfT S w' p ts ne np m :=
  h.gr (Gr.of_below (F := fun _ => False) hB) (fun h => h) (fun _ _ h => h)
set_option maxRecDepth 20000 in
theorem place53 {S : Nat → Prop} (w : World) (p : Nat) (ts : List Tk) (ne np m : Nat) (h : WfT S w p ts ne np m) (n : ByteArray) :
    Calls Try.prog 54 #[.pointer (some ⟨p, 0, none⟩), .string n] w fun e w' => e = .returned (.int .i64 (plcI ts n)) ∧ Below w.heap.size w w' := by
  have hB : Below w.heap.size w (w.alloc (.cells #[.string n] 9)) := (Below.refl _ w).alloc (Nat.le_refl _) _
  have hcb := heap_alloc_new w (.cells #[.string n] 9)
  have h' := h.below hB
  obtain ⟨a, len, cap, xs, h1, h2, h3⟩ := h'.row
  have y0 := blk_cell h1 0
  simp at y0
  have HI := Lib.hid (placeIndex _ a len cap xs h2 h'.hS w.heap.size n hcb)
  rw [h3] at HI
  have HB := Lib.hid hB
  clear h h' hcb h1 h2 h3 hB
  go_enter Try.func54, Try.ntmps54
  go_wp2_with fail
  refine (HI.out).mono ?_
  rintro e w1 ⟨rfl, hw⟩
  have HW := Lib.hid (below_step HB.out hw)
  clear hw
  go_wp2_with fail
  go_ret
  exact ⟨rfl, HW.out⟩
end Go.Proofs.Ytdcjocldggmdbaa
