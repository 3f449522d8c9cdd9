/- Layer 56: frame, skip. -/
import Derived.Test.YtlfloekanfhlfaaGreatC56d
namespace Go.Proofs.YtlfloekanfhlfaaGreat
open Go.RowKit Go

theorem big_q {S : Nat → Prop} (a : Option Addr) (len cap : Nat) (xs : List Int) (w : World) (h8 : len ≤ 8) (hx : Rd (.sl (.int .u8)) S w [.slice a len cap] xs) (m : Nat) :
    Calls Tryz.prog 57 #[.slice a len cap] (w.drewN m) fun e w' => e = .returned (.int .u64 (numN xs)) ∧ w' = w.drewN m :=
  (big_any a len cap xs (w.drewN m) h8 (hx.drewN m)).mono fun e w' h => ⟨h.1, h.2.symm⟩

/-- What frame hands back. -/
def FrPost (S : Nat → Prop) (w : World) (q : Nat) (a : Option Addr) (len cap : Nat) (u e0 : Int) (xs : List Int) (e : Ending) (w' : World) : Prop :=
  (xs = [] ∨ chkP xs ≠ 0 → e = .returned (.tuple #[.int .u64 0, .slice none 0 0, .bool false]) ∧ Gr (fun b => b = q) w w' ∧ w'.heap[q]? = some (.cells #[.slice a len cap, .int .i64 u, .int .i64 (if xs = [] then e0 else chkP xs)] 111 (0, 0))) ∧
      (chkP xs = 0 → ∃ a2 c2, e = .returned (.tuple #[.int .u64 (lnkP xs), .slice a2 (sizeP xs) c2, .bool true]) ∧ Below w.heap.size w w' ∧ Rd rowT S w' [.slice a2 (sizeP xs) c2] (recP xs))

theorem chk_bad {xs : List Int} (h16 : 16 ≤ xs.length) (h : sizeP xs + invP xs ≠ 4294967295 ∨ 65536 < sizeP xs) : chkP xs = 4 := by
  unfold chkP; rw [if_neg (by omega), if_pos h]
theorem chk_torn {xs : List Int} (h16 : 16 ≤ xs.length) (h : ¬(sizeP xs + invP xs ≠ 4294967295 ∨ 65536 < sizeP xs)) (h2 : xs.length - 16 < sizeP xs) : chkP xs = 19 := by
  unfold chkP; rw [if_neg (by omega), if_neg h, if_pos h2]
theorem chk_ok {xs : List Int} (h16 : 16 ≤ xs.length) (h : ¬(sizeP xs + invP xs ≠ 4294967295 ∨ 65536 < sizeP xs)) (h2 : ¬ xs.length - 16 < sizeP xs) : chkP xs = 0 := by
  unfold chkP; rw [if_neg (by omega), if_neg h, if_neg h2]
theorem xorN (a b : Nat) (ha : a < 4294967296) (hb : b < 4294967296) : (bits .xor .u64 (a : Int) (b : Int) != 4294967295) = !decide (a + b = 4294967295) := by
  rw [bits_xor_u64_nat a b (by omega) (by omega)]
  have h := xor32 a b ha hb
  by_cases e : a + b = 4294967295
  · rw [h.2 e, decide_eq_true e]; rfl
  · rw [decide_eq_false e]
    have : ¬ (a ^^^ b = 4294967295) := fun k => e (h.1 k)
    simp
    omega

set_option maxHeartbeats 1000000 in
theorem frame_sum (S : Nat → Prop) (w : World) (q : Nat) (a : Option Addr) (len cap : Nat) (u e0 : Int) (xs : List Int) (hx : Rd rowT S w [.slice a len cap] xs) (hS : ∀ b, S b → b < w.heap.size) (hlen : len ≤ 100000000)
    (hq : w.heap[q]? = some (.cells #[.slice a len cap, .int .i64 u, .int .i64 e0] 111 (0, 0))) :
    Calls Tryz.prog 32 #[.pointer (some ⟨q, 0, none⟩)] w (FrPost S w q a len cap u e0 xs) := by
  have k0 := blk_cell hq 0
  have k2 := blk_cell hq 2
  have f2 := blk_frozen hq 2
  obtain ⟨hl, hc, hm, hat, hok⟩ := hx.ints
  have HOK := Lib.hid (show okB xs from hok)
  have HX := Lib.hid hx
  have HSS := Lib.hid hS
  clear hS
  have HQ := Lib.hid hq
  have HL := Lib.hid hl
  clear hx hq hl hok
  by_cases h0 : len = 0
  · subst h0
    have hnil : xs = [] := List.eq_nil_of_length_eq_zero HL.out
    have HN := Lib.hid hnil
    clear hc hnil hat
    go_enter Tryz.func32, Tryz.ntmps32
    go_wp2
    go_ret3
    refine ⟨fun _ => ⟨rfl, Gr.refl _ _, ?_⟩, fun h => ?_⟩
    · rw [if_pos HN.out]; exact HQ.out
    · rw [HN.out] at h; cases h
  have hne : xs ≠ [] := fun h => h0 (by rw [← HL.out, h]; rfl)
  have HNE := Lib.hid hne
  clear hne
  obtain ⟨b, off, ha, -⟩ := hat 0 (by omega)
  clear hat
  subst ha
  by_cases h16 : len < 16
  · have hchk : chkP xs = 19 := by unfold chkP; rw [if_pos (by rw [HL.out]; exact h16)]
    have HCH := Lib.hid hchk
    clear hchk
    go_enter Tryz.func32, Tryz.ntmps32
    go_wp2
    go_ret3
    refine ⟨fun _ => ⟨rfl, (Gr.refl (fun b => b = q) _).setCell (p := ⟨q, 2, none⟩) (.inl rfl) _, ?_⟩, fun h => by rw [HCH.out] at h; cases h⟩
    rw [HCH.out, if_neg HNE.out]
    exact blk_set HQ.out _
  have x4 := Rd.take HX.out 4 (by omega)
  have x8 := Rd.take (Rd.drop HX.out 4 (by omega)) 4 (by omega)
  have x16 := Rd.take (Rd.drop HX.out 8 (by omega)) 8 (by omega)
  have hsz := sizeP_lt xs HOK.out
  have hiv := invP_lt xs HOK.out
  have hlk := lnkP_lt xs HOK.out
  have c4 := fun m => big_q _ _ _ _ w (by omega) x4 m
  have c8 := fun m => big_q _ _ _ _ w (by omega) x8 m
  have c16 := fun (W : World) (hW : Below w.heap.size w W) m => big_q _ _ _ _ W (by omega) (x16.below hW HSS.out) m
  simp only [Ty.sz, Nat.mul_one, Option.map_some, Addr.add_none] at c8 c16
  rw [if_neg (by omega)] at c8 c16
  have hd8 := chk_bad (xs := xs) (by rw [HL.out]; omega)
  have ht8 := chk_torn (xs := xs) (by rw [HL.out]; omega)
  have hk8 := chk_ok (xs := xs) (by rw [HL.out]; omega)
  obtain ⟨z, hz⟩ : ∃ z, sizeP xs = z := ⟨_, rfl⟩
  obtain ⟨v, hv⟩ : ∃ v, invP xs = v := ⟨_, rfl⟩
  obtain ⟨y, hy⟩ : ∃ y, lnkP xs = y := ⟨_, rfl⟩
  have c4' : ∀ m, Calls Tryz.prog 57 #[.slice (some ⟨b, off, none⟩) 4 cap] (w.drewN m) fun e w' => e = .returned (.int .u64 z) ∧ w' = w.drewN m := by rw [← hz]; exact c4
  have c8' : ∀ m, Calls Tryz.prog 57 #[.slice (some ⟨b, off + 4, none⟩) 4 (cap - 4)] (w.drewN m) fun e w' => e = .returned (.int .u64 v) ∧ w' = w.drewN m := by rw [← hv]; exact c8
  have c16' : ∀ W, Below w.heap.size w W → ∀ m, Calls Tryz.prog 57 #[.slice (some ⟨b, off + 8, none⟩) 8 (cap - 8)] (W.drewN m) fun e w' => e = .returned (.int .u64 y) ∧ w' = W.drewN m := by rw [← hy]; exact c16
  have hxor := xorN z v (by rw [← hz]; exact hsz) (by rw [← hv]; exact hiv)
  rw [hz, hv] at hd8 ht8 hk8
  rw [HL.out] at ht8 hk8
  have C4 := Lib.hid c4'
  have C8 := Lib.hid c8'
  have C16 := Lib.hid c16'
  have HD8 := Lib.hid hd8; have HT8 := Lib.hid ht8; have HK8 := Lib.hid hk8
  have HZ := Lib.hid hz; have HV := Lib.hid hv; have HY := Lib.hid hy
  rw [hy] at hlk
  have HLK := Lib.hid hlk
  clear hlk hsz hiv
  clear c4 c8 c16 c4' c8' c16' x4 x8 x16 hd8 ht8 hk8 hz hv hy
  by_cases hA : z + v ≠ 4294967295
  · have hx1 : (bits .xor .u64 (z : Int) (v : Int) != 4294967295) = true := by rw [hxor]; simpa using hA
    have HCH := Lib.hid (HD8.out (.inl hA))
    clear hxor hA
    go_enter Tryz.func32, Tryz.ntmps32
    go_wp2
    go_quiet (first | (go_at_call 57; first | (with_reducible exact Calls.quiet_of_same (C4.out _)) | (with_reducible exact Calls.quiet_of_same (C8.out _))))
    go_wp2
    all_goals
      go_ret3
      refine ⟨fun _ => ⟨rfl, ((Gr.refl (fun b => b = q) _).drewN _).setCell (p := ⟨q, 2, none⟩) (.inl rfl) _, ?_⟩, fun h => by rw [HCH.out] at h; cases h⟩
      rw [HCH.out, if_neg HNE.out]
      exact blk_set (w := w.drewN _) HQ.out _
  have hx0 : (bits .xor .u64 (z : Int) (v : Int) != 4294967295) = false := by rw [hxor]; simpa using hA
  by_cases hB : 65536 < z
  · have HCH := Lib.hid (HD8.out (.inr hB))
    clear hxor hA
    go_enter Tryz.func32, Tryz.ntmps32
    go_wp2
    go_quiet (first | (go_at_call 57; first | (with_reducible exact Calls.quiet_of_same (C4.out _)) | (with_reducible exact Calls.quiet_of_same (C8.out _))))
    go_wp2
    all_goals
      go_ret3
      refine ⟨fun _ => ⟨rfl, ((Gr.refl (fun b => b = q) _).drewN _).setCell (p := ⟨q, 2, none⟩) (.inl rfl) _, ?_⟩, fun h => by rw [HCH.out] at h; cases h⟩
      rw [HCH.out, if_neg HNE.out]
      exact blk_set (w := w.drewN _) HQ.out _
  have hAB : ¬(z + v ≠ 4294967295 ∨ 65536 < z) := by omega
  have HAB := Lib.hid hAB
  clear hAB hxor hA
  by_cases hC : len - 16 < z
  · have HCH := Lib.hid (HT8.out HAB.out hC)
    go_enter Tryz.func32, Tryz.ntmps32
    go_wp2
    go_quiet (first | (go_at_call 57; first | (with_reducible exact Calls.quiet_of_same (C4.out _)) | (with_reducible exact Calls.quiet_of_same (C8.out _))))
    go_wp2
    all_goals
      go_ret3
      refine ⟨fun _ => ⟨rfl, ((Gr.refl (fun b => b = q) _).drewN _).setCell (p := ⟨q, 2, none⟩) (.inl rfl) _, ?_⟩, fun h => by rw [HCH.out] at h; cases h⟩
      rw [HCH.out, if_neg HNE.out]
      exact blk_set (w := w.drewN _) HQ.out _
  have HCH := Lib.hid (HK8.out HAB.out hC)
  have hrec := Rd.take (Rd.drop HX.out 16 (by omega)) z (by omega)
  simp only [Ty.sz, Nat.mul_one, Option.map_some, Addr.add_none] at hrec
  have hre : ∀ A, (if cap = 16 then some (⟨b, off, none⟩ : Addr) else some ⟨b, off + 16, none⟩) = A → ∀ W, Below w.heap.size w W → Rd rowT S W [.slice A (sizeP xs) (cap - 16)] (recP xs) := by
    intro A hA W hW
    rw [hA] at hrec
    have := hrec.below hW HSS.out
    unfold recP
    rw [HZ.out]
    exact this
  have HRE := Lib.hid hre
  clear hrec hre
  have hgen : ∀ n, Below w.heap.size w (w.drewN n) ∧ (w.drewN n).cell? ⟨q, 0, none⟩ = some (.slice (some ⟨b, off, none⟩) len cap) := fun n => ⟨below_drewN (Below.refl _ _) n, k0⟩
  have HG := Lib.hid hgen
  clear hgen
  have h16z : 16 + z - 16 = z := by omega
  by_cases h16c : cap = 16
  · subst h16c
    go_enter Tryz.func32, Tryz.ntmps32
    go_wp2
    go_quiet (first | (go_at_call 57; first | (with_reducible exact Calls.quiet_of_same (C4.out _)) | (with_reducible exact Calls.quiet_of_same (C8.out _))))
    go_wp2
    obtain ⟨hB1, k0'⟩ := HG.out nq
    generalize w.drewN nq = W at hB1 k0' ⊢
    go_quiet (first | (go_at_call 57; (with_reducible exact Calls.quiet_of_same (C16.out W hB1 _))))
    go_wp2
    go_ret3
    refine ⟨fun h => ?_, fun _ => ?_⟩
    · rcases h with h | h
      · exact absurd h HNE.out
      · exact absurd HCH.out h
    · have hB2 := below_drewN hB1 nq
      refine ⟨_, _, ?_, hB2, HRE.out (some ⟨b, off, none⟩) (by simp) _ hB2⟩
      rw [HY.out, HZ.out]
      show Ending.returned (.tuple #[.int .u64 y, .slice (some ⟨b, off, none⟩) (16 + z - 16) 0, .bool true]) = _
      rw [h16z]
  go_enter Tryz.func32, Tryz.ntmps32
  go_wp2
  go_quiet (first | (go_at_call 57; first | (with_reducible exact Calls.quiet_of_same (C4.out _)) | (with_reducible exact Calls.quiet_of_same (C8.out _))))
  go_wp2
  obtain ⟨hB1, k0'⟩ := HG.out nq
  generalize w.drewN nq = W at hB1 k0' ⊢
  go_quiet (first | (go_at_call 57; (with_reducible exact Calls.quiet_of_same (C16.out W hB1 _))))
  go_wp2
  go_ret3
  refine ⟨fun h => ?_, fun _ => ?_⟩
  · rcases h with h | h
    · exact absurd h HNE.out
    · exact absurd HCH.out h
  · have hB2 := below_drewN hB1 nq
    refine ⟨_, _, ?_, hB2, HRE.out (some ⟨b, off + 16, none⟩) (if_neg h16c) _ hB2⟩
    rw [HY.out, HZ.out]
    show Ending.returned (.tuple #[.int .u64 y, .slice (some ⟨b, off + 16, none⟩) (16 + z - 16) (cap - 16), .bool true]) = _
    rw [h16z]

/-- What the slots of a loop over frames hold. -/
def FrOut (S : Nat → Prop) (w' : World) (xs : List Int) (h r ok : Value) : Prop :=
  (xs = [] ∨ chkP xs ≠ 0) ∧ h = .int .u64 0 ∧ r = .slice none 0 0 ∧ ok = .bool false ∨
    chkP xs = 0 ∧ xs ≠ [] ∧ ∃ a2 c2, h = .int .u64 (lnkP xs) ∧ r = .slice a2 (sizeP xs) c2 ∧ ok = .bool true ∧ Rd rowT S w' [.slice a2 (sizeP xs) c2] (recP xs)
theorem frame_sl (S : Nat → Prop) (w : World) (q : Nat) (a : Option Addr) (len cap : Nat) (u : Int) (xs : List Int) (hx : Rd rowT S w [.slice a len cap] xs) (hS : ∀ b, S b → b < w.heap.size) (hlen : len ≤ 100000000)
    (hq : w.heap[q]? = some (.cells #[.slice a len cap, .int .i64 u, .int .i64 0] 111 (0, 0))) :
    Calls Tryz.prog 32 #[.pointer (some ⟨q, 0, none⟩)] w fun e w' => ∃ h r ok, e = .returned (.tuple #[h, r, ok]) ∧ Gr (fun b => b = q) w w' ∧
      w'.heap[q]? = some (.cells #[.slice a len cap, .int .i64 u, .int .i64 (if xs = [] then 0 else chkP xs)] 111 (0, 0)) ∧ FrOut S w' xs h r ok := by
  refine (frame_sum S w q a len cap u 0 xs hx hS hlen hq).mono fun e w' hp => ?_
  by_cases hbad : xs = [] ∨ chkP xs ≠ 0
  · obtain ⟨he, hg, hh⟩ := hp.1 hbad
    exact ⟨_, _, _, he, hg, hh, .inl ⟨hbad, rfl, rfl, rfl⟩⟩
  · have h1 : xs ≠ [] := fun h => hbad (.inl h)
    have h2 : chkP xs = 0 := by
      by_cases h : chkP xs = 0
      · exact h
      · exact absurd (.inr h) hbad
    obtain ⟨a2, c2, he, hB, hr⟩ := hp.2 h2
    refine ⟨_, _, _, he, Gr.of_below hB, ?_, .inr ⟨h2, h1, a2, c2, rfl, rfl, rfl, hr⟩⟩
    rw [if_neg h1, h2]
    exact (hB.block q (blk_lt hq)).trans hq
end Go.Proofs.YtlfloekanfhlfaaGreat
