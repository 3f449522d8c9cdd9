/- Layer 16: Find. -/
import Derived.Test.YtmlekhkgokgpbaaC16c
set_option linter.unusedSimpArgs false
namespace Go.Proofs.Ytmlekhkgokgpbaa
open Go.RowKit Go

def findX (l : List rateT.den) (key : Rt) : Option rateT.den := l.find? fun x => sameK (rt x) key
def findV (l : List rateT.den) (key : Rt) : Int × Bool := match findX l key with
  | none => (0, false)
  | some x => ((rt x).val, true)
theorem find_hit (l : List rateT.den) (key : Rt) (k : Nat) (hk : k < l.length) (h0 : findX (l.take k) key = none) (h1 : sameK (rt l[k]) key = true) : findX l key = some l[k] := by
  have e : l = l.take k ++ l[k] :: l.drop (k + 1) := by rw [List.getElem_cons_drop, List.take_append_drop]
  unfold findX at *
  conv => lhs; rw [e]
  rw [List.find?_append, h0, List.find?_cons, h1]
  rfl
theorem find_miss (l : List rateT.den) (key : Rt) (k : Nat) (hk : k < l.length) (h0 : findX (l.take k) key = none) (h1 : sameK (rt l[k]) key = false) : findX (l.take (k + 1)) key = none := by
  unfold findX at *
  rw [List.take_succ_eq_append_getElem hk, List.find?_append, h0, List.find?_cons, h1]
  rfl

set_option maxRecDepth 10000 in
set_option maxHeartbeats 1000000 in
theorem refFind_sum {S : Nat → Prop} (w : World) (a : Option Addr) (len cap : Nat) (xs : List rateT.den) (c : ByteArray) (kd wn : Int) (hx : Rd (.sl rateT) S w [.slice a len cap] xs) (hS : ∀ b, S b → b < w.heap.size) :
    Calls Try.prog 27 #[.slice a len cap, .string c, .int .i64 kd, .int .i64 wn] w fun e w' => e = .returned (.tuple #[.int .i64 (findV xs ⟨c, kd, wn, 0⟩).1, .bool (findV xs ⟨c, kd, wn, 0⟩).2]) ∧ Below w.heap.size w w' := by
  obtain ⟨hl, hc, hm, -⟩ := hx.sl_flat
  have HX := Lib.hid hx
  have HL := Lib.hid hl
  have HS := Lib.hid hS
  clear hx hl hS
  go_enter Try.func27, Try.ntmps27
  go_wp2
  go_loopw [10] (fun i wr => ∃ (k : Nat), k ≤ len ∧ i = .int .i64 k ∧ findX (xs.take k) ⟨c, kd, wn, 0⟩ = none ∧ Below w.heap.size w wr) (fun i _ => len - (intOf i).toNat)
  case atStart => exact ⟨0, Nat.zero_le _, rfl, rfl, Below.refl _ _⟩
  case round =>
    obtain ⟨k, hk, rfl, hnone, hB⟩ := hrel
    by_cases hlt : k < len
    · have hkx : k < xs.length := by rw [HL.out]; exact hlt
      obtain ⟨b, off, rfl, hb, k0, k1, k2, k3, hsz⟩ := rate_at (HX.out.keep (w' := wr) (S' := S) (fun b hb => hB.block b (HS.out b hb)) (fun _ h => h)) k hkx
      have hhit := find_hit xs ⟨c, kd, wn, 0⟩ k hkx hnone
      have hmiss := find_miss xs ⟨c, kd, wn, 0⟩ k hkx hnone
      have hbs := HS.out b hb
      generalize hr : rt xs[k] = r at k0 k1 k2 k3 hhit hmiss
      have HH := Lib.hid hhit
      have HM := Lib.hid hmiss
      have HR := Lib.hid hr
      have HB := Lib.hid hB
      have hkI : (k : Int) < (len : Int) := by omega
      obtain ⟨rc, rk, rw_, rv⟩ := r
      simp only at k0 k1 k2 k3
      clear hhit hmiss hr hnone hB
      have hsm := sameKey_sum wr ⟨rc, rk, rw_, rv⟩ ⟨c, kd, wn, 0⟩
      unfold Rt.v rateV at hsm
      simp only at hsm
      obtain ⟨sb, hsb⟩ : ∃ sb, sameK ⟨rc, rk, rw_, rv⟩ ⟨c, kd, wn, 0⟩ = sb := ⟨_, rfl⟩
      rw [hsb] at hsm
      have HSM := Lib.hid hsm
      have HSB := Lib.hid hsb
      clear hsm hsb
      cases sb
      · go_wp2_with (go_at_call 20; refine HSM.out.mono ?_; rintro e w1 ⟨rfl, hB1⟩)
        go_roundw
        case rel => exact ⟨k + 1, by omega, by go_num, HM.out HSB.out, below_step HB.out hB1⟩
        case measure => simp [intOf]; omega
      · go_wp2_with (go_at_call 20; refine HSM.out.mono ?_; rintro e w1 ⟨rfl, hB1⟩; have k3' := (hB1.cell (p := ⟨b, off + k * 4 + 3, none⟩) (Nat.lt_of_lt_of_le hbs HB.out.size)).trans k3)
        go_ret2
        have hf : findV xs ⟨c, kd, wn, 0⟩ = (rv, true) := by
          unfold findV
          rw [HH.out HSB.out]
          show ((rt xs[k]).val, true) = _
          rw [HR.out]
        rw [hf]
        refine ⟨?_, below_step HB.out hB1⟩
        rfl
    · obtain rfl : k = len := by omega
      rw [List.take_of_length_le (by rw [HL.out]; exact Nat.le_refl _)] at hnone
      have hf : findV xs ⟨c, kd, wn, 0⟩ = (0, false) := by unfold findV; rw [hnone]
      have HF := Lib.hid hf
      clear hf hnone
      go_wp2
      go_ret2
      rw [HF.out]
      refine ⟨?_, hB⟩
      rfl

/-! ### Keys as structs -/
def keyV (c : ByteArray) (k w : Int) : Value := .agg #[.string c, .int .i64 k, .int .i64 w]
theorem key_eql (w : World) (c d : ByteArray) (k m u v : Int) :
    Sem.run Try.prog (binOp .eql 58 (.agg #[.string c, .int .i64 k, .int .i64 u]) (.agg #[.string d, .int .i64 m, .int .i64 v])) w = .ok (.bool ((c.toList == d.toList) && (k == m) && (u == v))) w := by
  have u3 := Try.underlying3
  have u9 := Try.underlying9
  have hS : Try.prog.underlying 58 = some (.struct (Try.prog.fieldsOf 58)) := by kernel_rfl
  have hp : Try.prog.stoodInHeld 58 = false := by kernel_rfl
  rw [run_eql_struct, show (10000 : Nat) = 9999 + 1 from rfl, run_equalIn_agg w 9999 58 _ _ hS hp]
  simp only [Program.fieldsOf, Try.underlying58]
  go_simp
  by_cases h1 : c.toList = d.toList <;> by_cases h2 : k = m <;> by_cases h3 : u = v <;> simp [h1, h2, h3]
theorem of_sum (W : World) (r : Rt) : Calls Try.prog 36 #[r.v] W fun e w' => e = .returned (keyV r.cur r.kind r.when_) ∧ Below W.heap.size W w' := by
  obtain ⟨c, k, w, v⟩ := r
  unfold Rt.v rateV keyV
  simp only
  go_enter Try.func36, Try.ntmps36
  have hg := heap_alloc2_new W (.cells #[.string c, .int .i64 k, .int .i64 w, .int .i64 v] 35) (.cells #[.string c, .int .i64 k, .int .i64 w] 58)
  go_wp2
  refine bodyPost_ret (results_cell_row (P := Try.prog) rfl _ _ (W.heap.size + 1) 58 #[.string c, .int .i64 k, .int .i64 w] (0, 0) _ (by kernel_rfl) hg Try.underlying58 rfl (by kernel_rfl)) rfl ?_
  exact ⟨rfl, below_two W _ _⟩

set_option maxRecDepth 10000 in
set_option maxHeartbeats 1000000 in
theorem Find_sum {S : Nat → Prop} (w : World) (a : Option Addr) (len cap : Nat) (xs : List rateT.den) (c : ByteArray) (kd wn : Int) (hx : Rd (.sl rateT) S w [.slice a len cap] xs) (hS : ∀ b, S b → b < w.heap.size) :
    Calls Try.prog 26 #[.slice a len cap, .string c, .int .i64 kd, .int .i64 wn] w fun e w' => e = .returned (.tuple #[.int .i64 (findV xs ⟨c, kd, wn, 0⟩).1, .bool (findV xs ⟨c, kd, wn, 0⟩).2]) ∧ Below w.heap.size w w' := by
  obtain ⟨hl, hc, hm, -⟩ := hx.sl_flat
  have HX := Lib.hid hx
  have HL := Lib.hid hl
  have HS := Lib.hid hS
  have hgd : Try.prog.eqGuardType Try.prog.depth 58 = false := by kernel_rfl
  clear hx hl hS
  go_enter Try.func26, Try.ntmps26
  go_wp2
  go_loopw [11, 14] (fun _ i wr => ∃ (k : Nat), k ≤ len ∧ i = .int .i64 k ∧ findX (xs.take k) ⟨c, kd, wn, 0⟩ = none ∧ Below w.heap.size w wr) (fun _ i _ => len - (intOf i).toNat)
  case atStart => exact ⟨0, Nat.zero_le _, rfl, rfl, Below.refl _ _⟩
  case round =>
    obtain ⟨k, hk, rfl, hnone, hB⟩ := hrel
    by_cases hlt : k < len
    · have hkx : k < xs.length := by rw [HL.out]; exact hlt
      obtain ⟨b, off, rfl, hb, k0, k1, k2, k3, hsz⟩ := rate_at (HX.out.keep (w' := wr) (S' := S) (fun b hb => hB.block b (HS.out b hb)) (fun _ h => h)) k hkx
      have hhit := find_hit xs ⟨c, kd, wn, 0⟩ k hkx hnone
      have hmiss := find_miss xs ⟨c, kd, wn, 0⟩ k hkx hnone
      have hbs := HS.out b hb
      generalize hr : rt xs[k] = r at k0 k1 k2 k3 hhit hmiss
      have HH := Lib.hid hhit
      have HM := Lib.hid hmiss
      have HR := Lib.hid hr
      have HB := Lib.hid hB
      have hkI : (k : Int) < (len : Int) := by omega
      obtain ⟨rc, rk, rw_, rv⟩ := r
      simp only at k0 k1 k2 k3
      clear hhit hmiss hr hnone hB
      have hof := fun W => of_sum W ⟨rc, rk, rw_, rv⟩
      unfold Rt.v rateV keyV at hof
      simp only at hof
      have HOF := Lib.hid hof
      clear hof
      have hke := fun W => key_eql W rc c rk kd rw_ wn
      obtain ⟨sb, hsb⟩ : ∃ sb, sameK ⟨rc, rk, rw_, rv⟩ ⟨c, kd, wn, 0⟩ = sb := ⟨_, rfl⟩
      have hsb' : ((rc.toList == c.toList) && (rk == kd) && (rw_ == wn)) = sb := hsb
      rw [hsb'] at hke
      have HSB := Lib.hid hsb
      clear hsb hsb'
      have hh := heap_alloc_new wr (.cells #[.string rc, .int .i64 rk, .int .i64 rw_, .int .i64 rv] 35)
      have hB1 : Below wr.heap.size wr (wr.alloc (.cells #[.string rc, .int .i64 rk, .int .i64 rw_, .int .i64 rv] 35)) := (Below.refl _ wr).alloc (Nat.le_refl _) _
      cases sb
      · go_wp2_with (go_at_call 36; refine (HOF.out _).mono ?_; rintro e w1 ⟨rfl, hB2⟩; have k3' := blk_cell ((hB2.block _ (Array.getElem?_eq_some_iff.1 hh).1).trans hh) 3; have HB2 := Lib.hid (below_step hB1 hB2))
        go_roundw
        case rel => exact ⟨k + 1, by omega, by go_num, HM.out HSB.out, below_step HB.out HB2.out⟩
        case measure => simp [intOf]; omega
      · go_wp2_with (go_at_call 36; refine (HOF.out _).mono ?_; rintro e w1 ⟨rfl, hB2⟩; have k3' := blk_cell ((hB2.block _ (Array.getElem?_eq_some_iff.1 hh).1).trans hh) 3; have HB2 := Lib.hid (below_step hB1 hB2))
        go_ret2
        have hf : findV xs ⟨c, kd, wn, 0⟩ = (rv, true) := by
          unfold findV
          rw [HH.out HSB.out]
          show ((rt xs[k]).val, true) = _
          rw [HR.out]
        rw [hf]
        refine ⟨?_, below_step HB.out HB2.out⟩
        rfl
    · obtain rfl : k = len := by omega
      rw [List.take_of_length_le (by rw [HL.out]; exact Nat.le_refl _)] at hnone
      have hf : findV xs ⟨c, kd, wn, 0⟩ = (0, false) := by unfold findV; rw [hnone]
      have HF := Lib.hid hf
      clear hf hnone
      go_wp2
      go_ret2
      rw [HF.out]
      refine ⟨?_, hB⟩
      rfl
end Go.Proofs.Ytmlekhkgokgpbaa
