/- Layer 55: the contracts of the reference's Head, Verify, and of awake. -/
import Derived.Test.YtkojomakibfncaaC55d
namespace Go.Proofs.Ytkojomakibfncaa
open Go.RowKit Go Go.Shelf

theorem linksI_length (rs : List (List Int)) : (linksI rs).length = rs.length := by simp [linksI, linksN]
theorem linksI_get (rs : List (List Int)) (k : Nat) (h : k < rs.length) : (linksI rs)[k]?.getD 0 = headI (rs.take (k + 1)) := by
  simp [linksI, linksN, h]

set_option maxHeartbeats 1000000 in
theorem refHead_any (a : Option Addr) (len cap : Nat) (rs : List (List Int)) (w : World) (hr : rs.length ≤ 1000000)
    (hR : Rd (.sl (.sl (.int .u8))) (fun b => b < w.heap.size) w [.slice a len cap] rs) :
    Calls Try.prog 21 #[.slice a len cap] w fun e w' => e = .returned (.int .u64 (headI rs)) ∧ Below w.heap.size w w' := by
  have HR := Lib.hid hR
  clear hR
  go_enter Try.func21, Try.ntmps21
  go_wp2_with fail
  refine (refLinks_any _ _ _ _ _ hr HR.out).mono ?_
  rintro e w1 ⟨v, rfl, hO, hB⟩
  obtain ⟨av, lv, cv, rfl, hl, hlc, hcm⟩ := hO.slice
  have hl' : lv = rs.length := by rw [hl, linksI_length]
  have HO := Lib.hid (hO.rd (fun _ => True) (fun _ _ => trivial) (fun _ _ => trivial))
  have HB := Lib.hid hB
  have HL := Lib.hid hl'
  clear hO hB hl hl'
  by_cases h0 : lv = 0
  · subst h0
    go_wp2
    go_ret
    have : rs = [] := List.eq_nil_of_length_eq_zero (by rw [← HL.out])
    subst this
    exact ⟨rfl, HB.out⟩
  · obtain ⟨-, -, -, hat, -⟩ := HO.out.ints
    obtain ⟨b, off, rfl, -, hc⟩ := hat (lv - 1) (by omega)
    clear hat
    have hc' : w1.cell? ⟨b, off + (lv - 1), none⟩ = some (.int .u64 (headI rs)) := by
      rw [hc, linksI_get _ _ (by have := HL.out; omega), show lv - 1 + 1 = rs.length by have := HL.out; omega, List.take_length]
    clear hc
    obtain ⟨k, rfl⟩ : ∃ k, lv = k + 1 := ⟨lv - 1, by omega⟩
    simp only [Nat.add_sub_cancel] at hc'
    have hk : ((k + 1 : Nat) : Int) ≠ 0 := by omega
    go_wp2
    go_ret
    exact ⟨rfl, HB.out⟩

theorem matchN_at : ∀ (l m : List Int) (k : Nat), l.take k = m.take k → (l.length ≤ k ∨ m.length ≤ k ∨ k < l.length ∧ k < m.length ∧ l[k]?.getD 0 ≠ m[k]?.getD 0) → k ≤ l.length → k ≤ m.length → matchN l m = k
  | l, m, 0, _, h, _, _ => by
    rcases h with h | h | ⟨h1, h2, h3⟩
    · have : l = [] := List.eq_nil_of_length_eq_zero (by omega)
      subst this; cases m <;> rfl
    · have : m = [] := List.eq_nil_of_length_eq_zero (by omega)
      subst this; cases l <;> rfl
    · match l, m, h1, h2 with
      | a :: l, b :: m, _, _ =>
        have : a ≠ b := by simpa using h3
        simp [matchN, this]
  | [], _, k + 1, _, _, h, _ => by simp at h
  | _ :: _, [], k + 1, _, _, _, h => by simp at h
  | a :: l, b :: m, k + 1, he, h, hl, hm => by
    simp only [List.take_succ_cons, List.cons.injEq] at he
    obtain ⟨rfl, he⟩ := he
    have := matchN_at l m k he (by simpa using h) (by simpa using hl) (by simpa using hm)
    simp [matchN, this]

end Go.Proofs.Ytkojomakibfncaa
