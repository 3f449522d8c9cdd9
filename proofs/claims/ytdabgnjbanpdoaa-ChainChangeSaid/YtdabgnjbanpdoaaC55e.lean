/- Layer 55: the contracts of the reference's Head, Verify, and of awake. -/
import Derived.Test.YtdabgnjbanpdoaaC55d
namespace Go.Proofs.Ytdabgnjbanpdoaa
open Go.RowKit Go Go.Shelf

theorem linksI_length (rs : List (List Int)) : (linksI rs).length = rs.length := by simp [linksI, linksN]
theorem linksI_get (rs : List (List Int)) (k : Nat) (h : k < rs.length) : (linksI rs)[k]?.getD 0 = headI (rs.take (k + 1)) := by
  simp [linksI, linksN, h]

set_option maxHeartbeats 1000000 in
theorem refHead_any (a : Option Addr) (len cap : Nat) (rs : List (List Int)) (w : World) (hr : rs.length ≤ 1000000)
    (hR : Rd (.sl (.sl (.int .u8))) (fun b => b < w.heap.size) w [.slice a len cap] rs) :
    Calls Try.prog 21 #[.slice a len cap] w fun e w' => e = .returned (.int .u64 (headI rs)) ∧ Below w.heap.size w w' := by
  have HR := Lib.hid hR
  clear hR
  go_enter Try.func21, Try.ntmps21
  go_wp2_with fail
  refine (refLinks_any _ _ _ _ _ hr HR.out).mono ?_
  rintro e w1 ⟨v, rfl, hO, hB⟩
  obtain ⟨av, lv, cv, rfl, hl, hlc, hcm⟩ := hO.slice
  have hl' : lv = rs.length := by rw [hl, linksI_length]
  have HO := Lib.hid (hO.rd (fun _ => True) (fun _ _ => trivial) (fun _ _ => trivial))
  have HB := Lib.hid hB
  have HL := Lib.hid hl'
  clear hO hB hl hl'
  by_cases h0 : lv = 0
  · subst h0
    go_wp2
    go_ret
    have : rs = [] := List.eq_nil_of_length_eq_zero (by rw [← HL.out])
    subst this
    exact ⟨rfl, HB.out⟩
  · obtain ⟨-, -, -, hat, -⟩ := HO.out.ints
    obtain ⟨b, off, rfl, -, hc⟩ := hat (lv - 1) (by omega)
    clear hat
    have hc' : w1.cell? ⟨b, off + (lv - 1), none⟩ = some (.int .u64 (headI rs)) := by
      rw [hc, linksI_get _ _ (by have := HL.out; omega), show lv - 1 + 1 = rs.length by have := HL.out; omega, List.take_length]
    clear hc
    obtain ⟨k, rfl⟩ : ∃ k, lv = k + 1 := ⟨lv - 1, by omega⟩
    simp only [Nat.add_sub_cancel] at hc'
    have hk : ((k + 1 : Nat) : Int) ≠ 0 := by omega
    go_wp2
    go_ret
    exact ⟨rfl, HB.out⟩

theorem matchN_at : ∀ (l m : List Int) (k : Nat), l.take k = m.take k → (l.length ≤ k ∨ m.length ≤ k ∨ k < l.length ∧ k < m.length ∧ l[k]?.getD 0 ≠ m[k]?.getD 0) → k ≤ l.length → k ≤ m.length → matchN l m = k
  | l, m, 0, _, h, _, _ => by
    rcases h with h | h | ⟨h1, h2, h3⟩
    · have : l = [] := List.eq_nil_of_length_eq_zero (by omega)
      subst this; cases m <;> rfl
    · have : m = [] := List.eq_nil_of_length_eq_zero (by omega)
      subst this; cases l <;> rfl
    · match l, m, h1, h2 with
      | a :: l, b :: m, _, _ =>
        have : a ≠ b := by simpa using h3
        simp [matchN, this]
  | [], _, k + 1, _, _, h, _ => by simp at h
  | _ :: _, [], k + 1, _, _, _, h => by simp at h
  | a :: l, b :: m, k + 1, he, h, hl, hm => by
    simp only [List.take_succ_cons, List.cons.injEq] at he
    obtain ⟨rfl, he⟩ := he
    have := matchN_at l m k he (by simpa using h) (by simpa using hl) (by simpa using hm)
    simp [matchN, this]

set_option maxHeartbeats 1000000 in
theorem refVerify_any (al : Option Addr) (ll cl : Nat) (ls : List Int) (a : Option Addr) (len cap : Nat) (rs : List (List Int)) (w : World) (hr : rs.length ≤ 1000000)
    (hl : Rd (.sl (.int .u64)) (fun b => b < w.heap.size) w [.slice al ll cl] ls)
    (hR : Rd (.sl (.sl (.int .u8))) (fun b => b < w.heap.size) w [.slice a len cap] rs) :
    Calls Try.prog 12 #[.slice al ll cl, .slice a len cap] w fun e w' => e = .returned (.int .i64 (matchN ls (linksI rs))) ∧ Below w.heap.size w w' := by
  have HR := Lib.hid hR
  have HLs := Lib.hid hl
  clear hR hl
  go_enter Try.func12, Try.ntmps12
  go_wp2_with fail
  refine (refLinks_any _ _ _ _ _ hr HR.out).mono ?_
  rintro e w1 ⟨v, rfl, hO, hB⟩
  obtain ⟨av, lv, cv, rfl, hl, hlc, hcm⟩ := hO.slice
  have hl' : lv = rs.length := by rw [hl, linksI_length]
  have HO := Lib.hid (hO.rd (fun b => b < w1.heap.size) (fun _ h => h.elim) (fun b hb => (hO.own b hb).2))
  have HB := Lib.hid hB
  have HL := Lib.hid hl'
  clear hO hB hl hl'
  have HLs1 := Lib.hid (HLs.out.below HB.out (fun _ h => h))
  obtain ⟨hll, hlc2, hlm2, -, -⟩ := HLs.out.ints
  obtain ⟨hrl, hrc2, hrm2, -⟩ := HR.out.rows
  have HLL := Lib.hid hll
  have HRL := Lib.hid hrl
  have hlr : lv = len := by have := HL.out; omega
  subst hlr
  clear hll hrl HLs HR
  go_wp2
  go_loopw [6] (fun i wr => ∃ k : Nat, k ≤ ll ∧ k ≤ lv ∧ i = .int .i64 k ∧ (∃ m, wr = w1.drewN m) ∧ ls.take k = (linksI rs).take k) (fun i _ => ll - (intOf i).toNat)
  case atStart => exact ⟨0, Nat.zero_le _, Nat.zero_le _, rfl, ⟨0, rfl⟩, rfl⟩
  case round =>
    obtain ⟨k, hk, hk2, rfl, ⟨m, rfl⟩, hp⟩ := hrel
    have HP := Lib.hid hp
    clear hp
    by_cases hlt : k < ll
    · by_cases hlt2 : k < lv
      · obtain ⟨-, -, -, hat, -⟩ := HLs1.out.ints
        obtain ⟨b1, o1, rfl, -, c1⟩ := hat k hlt
        obtain ⟨-, -, -, hat2, -⟩ := HO.out.ints
        obtain ⟨b2, o2, rfl, -, c2⟩ := hat2 k hlt2
        clear hat hat2
        have Hkl : Hid (k < ls.length ∧ k < (linksI rs).length) := ⟨by have := HLL.out; omega, by have := HL.out; rw [linksI_length]; omega⟩
        by_cases heq : ls[k]?.getD 0 = (linksI rs)[k]?.getD 0
        · have heq' : (ls[k]?.getD 0 == (linksI rs)[k]?.getD 0) = true := by simp [heq]
          have HE := Lib.hid heq
          clear heq
          go_wp2
          go_quiet (fail)
          go_wp2
          go_roundw
          case rel =>
            refine ⟨k + 1, by omega, by omega, by go_num, ⟨_, rfl⟩, ?_⟩
            obtain ⟨hkl, hkr⟩ := Hkl.out
            rw [List.take_succ_eq_append_getElem hkl, List.take_succ_eq_append_getElem hkr, HP.out]
            have := HE.out
            simp [hkl, hkr] at this
            rw [this]
          case measure => simp [intOf]; omega
        · have heq' : (ls[k]?.getD 0 == (linksI rs)[k]?.getD 0) = false := by simp [heq]
          have HE := Lib.hid heq
          clear heq
          go_wp2
          go_quiet (fail)
          go_wp2
          go_ret
          refine ⟨ret_int ?_, below_drewN (below_drewN HB.out _) _⟩
          obtain ⟨hkl, hkr⟩ := Hkl.out
          rw [matchN_at ls (linksI rs) k HP.out (.inr (.inr ⟨hkl, hkr, HE.out⟩)) (by omega) (by omega)]
      · clear HLs1 HO
        go_wp2
        go_quiet (fail)
        go_wp2
        go_ret
        refine ⟨ret_int ?_, below_drewN (below_drewN HB.out _) _⟩
        rw [matchN_at ls (linksI rs) k HP.out (.inr (.inl (by rw [linksI_length]; have := HL.out; omega))) (by have := HLL.out; omega) (by rw [linksI_length]; have := HL.out; omega)]
    · clear HLs1 HO
      go_wp2
      go_quiet (fail)
      go_wp2
      go_ret
      refine ⟨ret_int ?_, below_drewN (below_drewN HB.out _) _⟩
      rw [matchN_at ls (linksI rs) k HP.out (.inl (by have := HLL.out; omega)) (by have := HLL.out; omega) (by rw [linksI_length]; have := HL.out; omega)]

set_option maxHeartbeats 1000000 in
theorem awake_any (w : World) :
    Calls Try.prog 9 #[] w fun e w' => e = .returned (.bool true) ∧ Below w.heap.size w w' := by
  go_enter Try.func9, Try.ntmps9
  go_wp2_with fail
  obtain ⟨os, hos⟩ : ∃ os : List Obj, os = [.cells #[.int .u8 97] 5, .cells #[.int .u8 98] 5, .cells #[.int .u8 99] 5, .cells #[.slice (some ⟨w.heap.size, 0, none⟩) 1 1, .slice (some ⟨w.heap.size + 1, 0, none⟩) 1 1, .slice (some ⟨w.heap.size + 2, 0, none⟩) 1 1] 31,
    .cells #[.int .u8 97] 5, .cells #[.int .u8 120] 5, .cells #[.int .u8 99] 5, .cells #[.slice (some ⟨w.heap.size + 4, 0, none⟩) 1 1, .slice (some ⟨w.heap.size + 5, 0, none⟩) 1 1, .slice (some ⟨w.heap.size + 6, 0, none⟩) 1 1] 31] := ⟨_, rfl⟩
  have hw : ((((((((w.alloc (.cells #[.int .u8 97] 5)).alloc (.cells #[.int .u8 98] 5)).alloc (.cells #[.int .u8 99] 5)).alloc (.cells #[.slice (some ⟨w.heap.size, 0, none⟩) 1 1, .slice (some ⟨w.heap.size + 1, 0, none⟩) 1 1, .slice (some ⟨w.heap.size + 1 + 1, 0, none⟩) 1 1] 31)).alloc
    (.cells #[.int .u8 97] 5)).alloc (.cells #[.int .u8 120] 5)).alloc (.cells #[.int .u8 99] 5)).alloc (.cells #[.slice (some ⟨w.heap.size + 1 + 1 + 1 + 1, 0, none⟩) 1 1, .slice (some ⟨w.heap.size + 1 + 1 + 1 + 1 + 1, 0, none⟩) 1 1, .slice (some ⟨w.heap.size + 1 + 1 + 1 + 1 + 1 + 1, 0, none⟩) 1 1] 31)) = allocs w os := by subst hos; rfl
  rw [hw]
  have hg : ∀ k (h : k < 8), (allocs w os).heap[w.heap.size + k]? = some (os[k]'(by subst hos; exact h)) := fun k h => allocs_get w os k (by subst hos; exact h)
  have hsz : (allocs w os).heap.size = w.heap.size + 8 := by rw [allocs_size]; subst hos; rfl
  have h0 : (allocs w os).heap[w.heap.size]? = some (.cells #[.int .u8 97] 5) := (hg 0 (by omega)).trans (by subst hos; rfl)
  have one : ∀ k (c : Int), (allocs w os).heap[w.heap.size + k]? = some (.cells #[.int .u8 c] 5) → k < 8 → 0 ≤ c → c ≤ 255 → Rd (.sl (.int .u8)) (fun b => b < (allocs w os).heap.size) (allocs w os) [.slice (some ⟨w.heap.size + k, 0, none⟩) 1 1] [c] := fun k c h hk c0 c1 =>
    Rd.sl_blk h (by rw [hsz]; omega) rfl (by omega) (RdL.int1 (wf_u8' c0 c1))
  have ha : Rd (.sl (.sl (.int .u8))) (fun b => b < (allocs w os).heap.size) (allocs w os) [.slice (some ⟨w.heap.size + 3, 0, none⟩) 3 3] [[97], [98], [99]] :=
    Rd.sl_blk ((hg 3 (by omega)).trans (by subst hos; rfl)) (by rw [hsz]; omega) rfl (by omega)
      ⟨_, _, rfl, one 0 97 h0 (by omega) (by omega) (by omega), _, _, rfl, one 1 98 ((hg 1 (by omega)).trans (by subst hos; rfl)) (by omega) (by omega) (by omega), _, _, rfl, one 2 99 ((hg 2 (by omega)).trans (by subst hos; rfl)) (by omega) (by omega) (by omega), rfl⟩
  have hb : Rd (.sl (.sl (.int .u8))) (fun b => b < (allocs w os).heap.size) (allocs w os) [.slice (some ⟨w.heap.size + 7, 0, none⟩) 3 3] [[97], [120], [99]] :=
    Rd.sl_blk ((hg 7 (by omega)).trans (by subst hos; rfl)) (by rw [hsz]; omega) rfl (by omega)
      ⟨_, _, rfl, one 4 97 ((hg 4 (by omega)).trans (by subst hos; rfl)) (by omega) (by omega) (by omega), _, _, rfl, one 5 120 ((hg 5 (by omega)).trans (by subst hos; rfl)) (by omega) (by omega) (by omega), _, _, rfl, one 6 99 ((hg 6 (by omega)).trans (by subst hos; rfl)) (by omega) (by omega) (by omega), rfl⟩
  have hB0 := allocs_below w os
  clear hg h0 one hos hw
  have HA := Lib.hid ha
  have HBb := Lib.hid hb
  have HSZ := Lib.hid hsz
  have HB0 := Lib.hid hB0
  clear ha hb hsz hB0
  generalize allocs w os = W at *
  refine (Links_any _ _ _ _ _ (by decide) HA.out).mono ?_
  rintro e w1 ⟨v, rfl, hO, hB⟩
  obtain ⟨av, lv, cv, rfl, hl, hlc, hcm⟩ := hO.slice
  have HO := Lib.hid (hO.rd (fun b => b < w1.heap.size) (fun _ h => h.elim) (fun b hb => (hO.own b hb).2))
  have HB := Lib.hid hB
  clear hO hB hl
  go_wp2_with fail
  refine (Verify_any _ _ _ _ _ _ _ _ _ HO.out (HBb.out.keep (fun b hb => HB.out.block b hb) (fun b hb => Nat.lt_of_lt_of_le hb HB.out.size))).mono ?_
  rintro e w2 ⟨rfl, hB2⟩
  have hv : matchN (linksI [[97], [98], [99]]) (linksI [[97], [120], [99]]) = 1 := by decide +kernel
  go_wp2_with fail
  have hB12 := HB.out.trans (hB2.mono HB.out.size)
  refine (Links_any _ _ _ _ _ (by decide) (HA.out.keep (fun b hb => hB12.block b hb) (fun b hb => Nat.lt_of_lt_of_le hb hB12.size))).mono ?_
  rintro e w3 ⟨v3, rfl, hO3, hB3⟩
  obtain ⟨a3, l3, c3, rfl, hl3, -, -⟩ := hO3.slice
  obtain rfl : l3 = 3 := hl3.trans (by rw [linksI_length]; rfl)
  clear hl3
  have HB13 := Lib.hid (hB12.trans (hB3.mono hB12.size))
  clear hB12 hB2 hB3
  go_wp2
  go_ret
  exact ⟨rfl, HB0.out.trans (HB13.out.mono (by have := HSZ.out; omega))⟩
end Go.Proofs.Ytdabgnjbanpdoaa
