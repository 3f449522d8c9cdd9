/- Layer 55: the contracts of the reference's Next, Links, Head, Verify, Few, SameLinks. -/
import Derived.Test.YtkojomakibfncaaC55c
namespace Go.Proofs.Ytkojomakibfncaa
open Go.RowKit Go Go.Shelf

set_option maxHeartbeats 1000000 in
theorem refNext_any {S : Nat → Prop} (h : Int) (a : Option Addr) (len cap : Nat) (xs : List Int) (w : World) (hS : ∀ b, S b → b < w.heap.size) (hx : Rd (.sl (.int .u8)) S w [.slice a len cap] xs) :
    Calls Try.prog 34 #[.int .u64 h, .slice a len cap] w fun e w' => e = .returned (.int .u64 (nextI h xs)) ∧ Below w.heap.size w w' := by
  obtain ⟨hl, hc, hm, -⟩ := id hx.ints
  have HX := Lib.hid hx
  have HL := Lib.hid hl
  clear hx hl
  go_enter Try.func34, Try.ntmps34
  go_wp2_with fail
  refine (eight_any _ _ (by omega) (by omega)).mono ?_
  rintro e w1 ⟨v, rfl, hB, hO⟩
  obtain ⟨av, lv, cv, rfl, -⟩ := hO.slice
  have HO := Lib.hid (hO.rd (fun _ => True) (fun _ _ => trivial) (fun _ _ => trivial))
  clear hO
  go_wp2_with fail
  refine (refFrom_any _ _ _ _ _ _ HO.out).mono ?_
  rintro e w2 ⟨rfl, rfl⟩
  go_wp2_with fail
  refine (refFrom_any (S := S) _ a len cap xs _ (HX.out.below hB hS)).mono ?_
  rintro e w2 ⟨rfl, rfl⟩
  go_wp2
  go_ret
  exact ⟨ret_int (by unfold nextI; rw [HL.out]), hB⟩

set_option maxHeartbeats 1000000 in
theorem refLinks_any (a : Option Addr) (len cap : Nat) (rs : List (List Int)) (w : World) (hr : rs.length ≤ 1000000)
    (hR : Rd (.sl (.sl (.int .u8))) (fun b => b < w.heap.size) w [.slice a len cap] rs) :
    Calls Try.prog 36 #[.slice a len cap] w fun e w' =>
      ∃ v, e = .returned v ∧ Owns (.int .u64) 44 w.heap.size (fun _ => False) w' v (linksI rs) ∧ Below w.heap.size w w' := by
  obtain ⟨hl, hc, hm, -⟩ := hR.rows
  have HR := Lib.hid hR
  have HL := Lib.hid hl
  have hlen : rs.length ≤ len := by omega
  have hlen' : len ≤ rs.length := by omega
  clear hR hl
  go_enter Try.func36, Try.ntmps36
  go_wp2
  go_loopw [3, 4, 5] (fun v h i wr => ∃ k : Nat, k ≤ len ∧ i = .int .i64 k ∧ h = .int .u64 (headI (rs.take k)) ∧ Owns (.int .u64) 44 w.heap.size (fun _ => False) wr v (linksN rs k) ∧ Below w.heap.size w wr)
    (fun _ _ i _ => len - (intOf i).toNat)
  case atStart => exact ⟨0, Nat.zero_le _, rfl, rfl, Owns.nil _ _ _ _, Below.refl _ _⟩
  case round =>
    obtain ⟨k, hk, rfl, rfl, hO, hB⟩ := hrel
    obtain ⟨av, lv, cv, rfl, -⟩ := hO.slice
    by_cases hlt : k < len
    · have hkr : k < rs.length := by omega
      obtain ⟨-, -, -, hrows⟩ := HR.out.rows
      obtain ⟨b, off, a', len', cap', rfl, hb, hcell, hrow⟩ := hrows k hkr
      clear hrows
      have hcx : wr.cell? ⟨b, off + k, none⟩ = some (.slice a' len' cap') := (hB.cell (p := ⟨b, off + k, none⟩) hb).trans hcell
      have hsz := hB.size
      have HX := Lib.hid (hrow.below hB (fun _ h => h))
      have HS := Lib.hid (headI_take rs k hkr)
      clear hrow hcell
      go_wp2_with fail
      refine (refNext_any _ _ _ _ _ _ (fun b hb => Nat.lt_of_lt_of_le hb hsz) HX.out).mono ?_
      rintro e w1 ⟨rfl, hB1⟩
      have hB2 := hB.trans (hB1.mono hsz)
      have hO1 := hO.below hB1
      clear hO hB hB1
      go_wp2_with (at_builtin; go_must (refine wpList_app _ rfl _ _ 63 rfl (e := .int .u64) info_u64 Try.underlying63 rfl (by decide) (v := .slice av lv cv) rfl (Owns.alloc hO1 _) (by have := hB2.size; simp only [World.size_alloc]; omega) rfl (ys := [_]) (Src.new _ [_] _ _ _) (RdL.int1 (nextI_wf _ _ (headI_wf _))) (by simp [linksN]; omega) (by simp [linksN]; omega) ?_; intro v' w3 O3 g3 _ hob; have hB3 := (hB2.alloc hB2.size _).grown g3 (by have := hB2.size; simp only [World.size_alloc]; omega) (fun k e => (hO1.own k e).1)))
      go_roundw
      case rel => exact ⟨k + 1, by omega, by go_num, by rw [HS.out], by rw [linksN_succ, HS.out]; exact O3, hB3⟩
      case measure => simp [intOf]; omega
    · obtain rfl : k = len := by omega
      go_wp2
      go_ret
      exact ⟨_, rfl, by rw [← HL.out] at hO; exact hO, hB⟩

def fewB (rs : List (List Int)) : Bool := decide (∀ r ∈ rs, r.length ≤ 300) && decide (rs.length ≤ 20)

set_option maxHeartbeats 1000000 in
theorem few_any {S : Nat → Prop} (a : Option Addr) (len cap : Nat) (rs : List (List Int)) (w : World)
    (hR : Rd (.sl (.sl (.int .u8))) S w [.slice a len cap] rs) :
    Calls Try.prog 15 #[.slice a len cap] w fun e w' => e = .returned (.bool (fewB rs)) ∧ w = w' := by
  obtain ⟨hl, hc, hm, hrows⟩ := hR.rows
  have HL := Lib.hid hl
  have hlen : rs.length ≤ len := by omega
  have hlen' : len ≤ rs.length := by omega
  clear hR hl
  go_enter Try.func15, Try.ntmps15
  go_wp2
  go_loop [3] (fun i => ∃ k : Nat, k ≤ len ∧ i = .int .i64 k ∧ ∀ r ∈ rs.take k, r.length ≤ 300) (fun i => len - (intOf i).toNat)
  case atStart => exact ⟨0, Nat.zero_le _, rfl, by simp⟩
  case round =>
    obtain ⟨k, hk, rfl, hall⟩ := hrel
    have HA := Lib.hid hall
    clear hall
    by_cases hlt : k < len
    · have hkr : k < rs.length := by omega
      obtain ⟨b, off, a', len', cap', rfl, hb, hcell, hrow⟩ := hrows k hkr
      obtain ⟨hl', -⟩ := hrow.ints
      have HL' := Lib.hid hl'
      clear hrows hrow hl'
      by_cases hbig : 300 < len'
      · go_wp2
        go_ret
        refine ⟨ret_bool ?_, rfl⟩
        have : ¬ ∀ r ∈ rs, r.length ≤ 300 := fun h => by
          have h1 := h rs[k] (List.getElem_mem hkr)
          have h2 := HL'.out
          omega
        simp [fewB, this]
      · go_wp2
        go_round
        case rel =>
          refine ⟨k + 1, by omega, by go_num, fun r hr => ?_⟩
          rw [List.take_succ_eq_append_getElem hkr, List.mem_append] at hr
          rcases hr with hr | hr
          · exact HA.out r hr
          · simp at hr
            subst hr
            have h2 := HL'.out
            omega
        case measure => simp [intOf]; omega
    · obtain rfl : k = len := by omega
      clear hrows
      go_wp2
      go_ret
      refine ⟨ret_bool ?_, rfl⟩
      have h1 := HA.out
      rw [List.take_of_length_le hlen] at h1
      have h2 := HL.out
      rw [fewB, decide_eq_true h1, Bool.true_and]
      exact decide_eq_decide.2 (by omega)

end Go.Proofs.Ytkojomakibfncaa
