/- Layer 16: a currency; a proper rate. -/
import Derived.Test.YtmlekhkgokgpbaaProg
import Derived.Test.YtmlekhkgokgpbaaColl
import Derived.Test.YtmlekhkgokgpbaaRead
import Derived.Test.YtmlekhkgokgpbaaFr
set_option linter.unusedSimpArgs false
namespace Go.Proofs.Ytmlekhkgokgpbaa
open Go.RowKit Go

def capB (c : UInt8) : Bool := decide (65 ≤ c.toNat) && decide (c.toNat ≤ 90)
def curB (s : ByteArray) : Bool := s.data.toList.all capB && decide (s.size = 3)

theorem byte_at (s : ByteArray) (k : Nat) (h : k < s.size) : s.data.toList[k]'(by simpa using h) = s[k] := rfl
theorem cur_bad (s : ByteArray) (k : Nat) (h : k < s.size) (hc : capB s[k] = false) : curB s = false := by
  unfold curB
  rw [Bool.and_eq_false_iff]
  left
  rw [List.all_eq_false]
  exact ⟨s[k], by rw [← byte_at s k h]; exact List.getElem_mem _, by rw [hc]; simp⟩
theorem cur_take (s : ByteArray) (k : Nat) (h : k < s.size) (h1 : (s.data.toList.take k).all capB = true) (hc : capB s[k] = true) : (s.data.toList.take (k + 1)).all capB = true := by
  rw [List.take_succ_eq_append_getElem (by simpa using h), List.all_append, h1, byte_at s k h]
  simp [hc]
theorem cur_all (s : ByteArray) (h : (s.data.toList.take s.size).all capB = true) : curB s = ((s.size : Int) == 3) := by
  rw [List.take_of_length_le (by show s.data.toList.length ≤ s.data.size; rw [Array.length_toList]; exact Nat.le_refl _)] at h
  unfold curB
  rw [h]
  by_cases e : s.size = 3
  · simp [e]
  · have : ¬ ((s.size : Int) = 3) := by omega
    simp [e, this]

theorem refCurrency_sum (w : World) (s : ByteArray) (hs : s.size ≤ maxLen) :
    Calls Try.prog 29 #[.string s] w fun e w' => e = .returned (.bool (curB s)) ∧ w' = w := by
  have hsz : s.size ≤ 9223372036854775807 := by simpa [maxLen] using hs
  go_enter Try.func29, Try.ntmps29
  go_wp2
  go_loopw [3] (fun i wr => ∃ (k : Nat), k ≤ s.size ∧ i = .int .i64 k ∧ (s.data.toList.take k).all capB = true ∧ wr = w) (fun i _ => s.size - (intOf i).toNat)
  case atStart => exact ⟨0, Nat.zero_le _, rfl, rfl, rfl⟩
  case round =>
    obtain ⟨k, hk, rfl, hall, rfl⟩ := hrel
    by_cases hlt : k < s.size
    · have hkI : (k : Int) < (s.size : Int) := by omega
      have hbad := cur_bad s k hlt
      have hgood := cur_take s k hlt hall
      have HB := Lib.hid hbad
      have HG := Lib.hid hgood
      clear hbad hgood
      by_cases h1 : s[k].toNat < 65
      · have h1I : decide ((s[k].toNat : Int) < 65) = true := by simp; omega
        go_wp2
        go_ret
        rw [HB.out (by unfold capB; simp; omega)]
        exact ⟨rfl, rfl⟩
      · have h1I : decide ((s[k].toNat : Int) < 65) = false := by simp; omega
        by_cases h2 : 90 < s[k].toNat
        · have h2I : decide ((90 : Int) < (s[k].toNat : Int)) = true := by simp; omega
          go_wp2
          go_ret
          rw [HB.out (by unfold capB; simp; omega)]
          exact ⟨rfl, rfl⟩
        · have h2I : decide ((90 : Int) < (s[k].toNat : Int)) = false := by simp; omega
          go_wp2_with fail
          go_roundw
          case rel => exact ⟨k + 1, by omega, by go_num, HG.out (by unfold capB; simp; omega), trivial⟩
          case measure => simp [intOf]; omega
    · obtain rfl : k = s.size := by omega
      have hcur := cur_all s hall
      go_wp2
      go_ret
      rw [hcur]
      exact ⟨rfl, rfl⟩

/-- The predicate that Currency hands to slices.ContainsFunc. -/
theorem cap_closure (w : World) (c : Int) : Calls Try.prog 42 #[.int .u8 c] w fun e w' => e = .returned (.bool (decide (c < 65) || decide (90 < c))) ∧ w' = w := by
  by_cases h : c < 65
  · go_enter Try.func42, Try.ntmps42
    go_wp2
    go_ret
    exact ⟨by simp [h], rfl⟩
  · go_enter Try.func42, Try.ntmps42
    go_wp2
    go_ret
    exact ⟨by rw [decide_eq_false (Int.not_lt.2 h)]; rfl, rfl⟩

/-- No capital letter. -/
def badI (c : Int) : Bool := decide (c < 65) || decide (90 < c)
set_option maxHeartbeats 1000000 in
theorem capIndex_sum {S : Nat → Prop} (w : World) (a : Option Addr) (len cap : Nat) (xs : List Int) (hx : Rd (.sl (.int .u8)) S w [.slice a len cap] xs) :
    Calls Try.prog 52 #[.slice a len cap, .func (.func 42) #[] #[]] w fun e w' => (∃ r : Int, e = .returned (.int .i64 r) ∧ decide (0 ≤ r) = xs.any badI) ∧ w' = w := by
  obtain ⟨hl, hc, hm, -⟩ := hx.ints
  have HX := Lib.hid hx
  have HL := Lib.hid hl
  clear hx hl
  go_enter Try.func52, Try.ntmps52
  go_wp2_with fail
  go_loopw [5, 8] (fun _ i wr => ∃ (k : Nat), k ≤ len ∧ i = .int .i64 k ∧ (xs.take k).any badI = false ∧ wr = w) (fun _ i _ => len - (intOf i).toNat)
  case atStart => exact ⟨0, Nat.zero_le _, rfl, rfl, rfl⟩
  case round =>
    obtain ⟨k, hk, rfl, hany, rfl⟩ := hrel
    by_cases hlt : k < len
    · have hkx : k < xs.length := by rw [HL.out]; exact hlt
      obtain ⟨-, -, -, hat, -⟩ := HX.out.ints
      obtain ⟨b, o, rfl, -, hcell⟩ := hat k hlt
      rw [List.getElem?_eq_getElem hkx] at hcell
      simp only [Option.getD_some] at hcell
      have hstep : (xs.take (k + 1)).any badI = badI xs[k] := by
        rw [List.take_succ_eq_append_getElem hkx, List.any_append, hany]
        simp
      have hsome : badI xs[k] = true → xs.any badI = true := fun h => List.any_eq_true.2 ⟨xs[k], List.getElem_mem hkx, h⟩
      have HST := Lib.hid hstep
      have HSO := Lib.hid hsome
      have hkI : (k : Int) < (len : Int) := by omega
      clear hat hstep hsome hany
      obtain ⟨c, hc'⟩ : ∃ c, xs[k] = c := ⟨_, rfl⟩
      rw [hc'] at hcell HST HSO
      clear hc'
      obtain ⟨bd, hbd⟩ : ∃ bd, badI c = bd := ⟨_, rfl⟩
      have HCL := Lib.hid (fun w' => cap_closure w' c)
      rw [hbd] at HST HSO
      have hbd' : (decide (c < 65) || decide (90 < c)) = bd := hbd
      cases bd
      · go_wp2_with (go_at_call 42; refine (HCL.out _).mono ?_; rw [hbd']; rintro e w1 ⟨rfl, hw⟩; subst hw)
        go_roundw
        case rel => exact ⟨k + 1, by omega, by go_num, HST.out, trivial⟩
        case measure => simp [intOf]; omega
      · go_wp2_with (go_at_call 42; refine (HCL.out _).mono ?_; rw [hbd']; rintro e w1 ⟨rfl, hw⟩; subst hw)
        go_ret
        refine ⟨⟨(k : Int), ?_, ?_⟩, ?_⟩
        · first | rfl | simp
        · rw [HSO.out (by first | rfl | trivial)]; exact decide_eq_true (by omega)
        · first | rfl | trivial
    · obtain rfl : k = len := by omega
      rw [List.take_of_length_le (by rw [HL.out]; exact Nat.le_refl _)] at hany
      have HA := Lib.hid hany
      clear hany
      go_wp2
      go_ret
      exact ⟨⟨_, rfl, by rw [HA.out]; rfl⟩, rfl⟩

theorem capContains_sum {S : Nat → Prop} (w : World) (a : Option Addr) (len cap : Nat) (xs : List Int) (hx : Rd (.sl (.int .u8)) S w [.slice a len cap] xs) :
    Calls Try.prog 41 #[.slice a len cap, .func (.func 42) #[] #[]] w fun e w' => e = .returned (.bool (xs.any badI)) ∧ w' = w := by
  have HX := Lib.hid hx
  clear hx
  go_enter Try.func41, Try.ntmps41
  go_wp2_with fail
  refine (capIndex_sum w a len cap xs HX.out).mono ?_
  rintro e w1 ⟨⟨r, rfl, hr⟩, hw⟩
  subst hw
  go_wp2
  go_ret
  exact ⟨by rw [← hr]; rfl, rfl⟩
theorem bad_cap (c : UInt8) : badI (c.toNat : Int) = !capB c := by
  unfold badI capB
  have h := c.toNat_lt
  by_cases h1 : c.toNat < 65
  · have : ¬ 65 ≤ c.toNat := by omega
    have h1' : (c.toNat : Int) < 65 := by omega
    simp [this, h1']
  · have h1' : ¬ (c.toNat : Int) < 65 := by omega
    have h1'' : 65 ≤ c.toNat := by omega
    by_cases h2 : 90 < c.toNat
    · have h2' : (90 : Int) < (c.toNat : Int) := by omega
      have : ¬ c.toNat ≤ 90 := by omega
      simp [h2', this]
    · have h2' : ¬ (90 : Int) < (c.toNat : Int) := by omega
      have : c.toNat ≤ 90 := by omega
      simp [h1', h1'', h2', this]
def bytesZ (s : ByteArray) : List Int := s.data.toList.map fun b => (b.toNat : Int)
theorem bytesZ_any (s : ByteArray) : (bytesZ s).any badI = !s.data.toList.all capB := by
  unfold bytesZ
  rw [List.any_map, List.all_eq_not_any_not, Bool.not_not]
  congr 1
  funext c
  exact bad_cap c
/-- []byte(s). -/
theorem bytes_of (w : World) (s : ByteArray) (hs : s.size ≤ maxLen) : ∃ cap W1, Sem.run Try.prog (convert 9 70 (.string s)) w = .ok (.slice (some ⟨w.heap.size, 0, none⟩) s.size cap) W1 ∧ Below w.heap.size w W1 ∧
    Rd (.sl (.int .u8)) (fun b => b = w.heap.size) W1 [.slice (some ⟨w.heap.size, 0, none⟩) s.size cap] (bytesZ s) := by
  have hcv := run_bytes_of_string (P := Try.prog) w 9 70 5 s Try.underlying9 Try.underlying70 Try.underlying5
  have hge := grownCap_ge w s.size 0 5
  have hcm := grownCap_le_maxLen w s.size 0 5 hs
  generalize grownCap w s.size 0 5 = gc at hcv hge hcm
  refine ⟨gc, _, hcv, ((Below.refl _ w).drew).alloc (Nat.le_refl _) _, ?_⟩
  have hsz : s.data.toList.length = s.size := Array.length_toList
  refine Rd.ints_mk (by rw [bytesZ, List.length_map]; exact hsz) hge (by simpa [maxLen] using hcm) rfl (fun i hi => ?_) (fun x hx => ?_)
  · have hi' : i < s.data.size := hi
    rw [Nat.zero_add, cell_of_row _ w.heap.size i _ _ _ (heap_alloc_new w.drew _), bytesRow_at s gc i hi', bytesZ, List.getElem?_map, List.getElem?_eq_getElem (by rw [hsz]; exact hi)]
    rfl
  · rw [bytesZ, List.mem_map] at hx
    obtain ⟨c, -, rfl⟩ := hx
    have := c.toNat_lt
    simp [Lit.wf, IntKind.min, IntKind.max, IntKind.signed, IntKind.bits]
    omega

set_option maxRecDepth 20000 in
set_option maxHeartbeats 1000000 in
theorem Currency_sum (w : World) (s : ByteArray) (hs : s.size ≤ maxLen) :
    Calls Try.prog 28 #[.string s] w fun e w' => e = .returned (.bool (curB s)) ∧ Below w.heap.size w w' := by
  by_cases h3 : s.size = 3
  · obtain ⟨cap, W1, hcv, hB1, hX⟩ := bytes_of w s hs
    have HC := Lib.hid (capContains_sum W1 _ _ _ _ hX)
    rw [h3] at HC hcv
    have hcur : curB s = !((bytesZ s).any badI) := by rw [bytesZ_any, Bool.not_not]; unfold curB; simp [h3]
    have HCUR := Lib.hid hcur
    have h3I : ((s.size : Int) == 3) = true := by simp; omega
    clear hX hcur
    go_enter Try.func28, Try.ntmps28
    go_wp2_with fail
    refine HC.out.mono ?_
    rintro e w1 ⟨rfl, hw⟩
    subst hw
    go_wp2
    go_ret
    exact ⟨by rw [HCUR.out]; rfl, hB1⟩
  · have h3I : ((s.size : Int) == 3) = false := by simp; omega
    go_enter Try.func28, Try.ntmps28
    go_wp2
    go_ret
    exact ⟨by unfold curB; simp [h3], Below.refl _ _⟩
end Go.Proofs.Ytmlekhkgokgpbaa
