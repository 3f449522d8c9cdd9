/- Layer 56: Append, Records, Bytes, Truncate. -/
import Derived.Test.YtlfloekanfhlfaaGreatC56c
import Derived.Test.YtlfloekanfhlfaaGreatP56
import Derived.Lib.SlBytesConst
namespace Go.Proofs.YtlfloekanfhlfaaGreat
open Go.RowKit Go

theorem append_sum (F S : Nat → Prop) (w : World) (p : Nat) (rs : List (List Int)) (h : LogIn F w p rs) (a : Option Addr) (len cap : Nat) (xs : List Int) (hx : Rd rowT S w [.slice a len cap] xs) (hS : ∀ b, S b → b < w.heap.size ∧ ¬ F b)
    (hlen : len ≤ 65536) (hn : rs.length ≤ 1000) :
    Calls Tryz.prog 13 #[.pointer (some ⟨p, 0, none⟩), .slice a len cap] w fun e w' => e = .returned (.int .i64 0) ∧ ∃ F', LogIn F' w' p (rs ++ [xs]) ∧ (∀ b, F' b → F b ∨ w.heap.size ≤ b) ∧ Gr F w w' := by
  have H := Lib.hid h; clear h
  have HX := Lib.hid hx; clear hx
  have HS := Lib.hid hS; clear hS
  go_enter Tryz.func13, Tryz.ntmps13
  go_wp2_with (go_at_call 31; refine (add_sum F S w p rs H.out a len cap xs HX.out HS.out hlen hn).mono ?_; rintro e w1 ⟨⟨v, rfl⟩, hp⟩; have HP := Lib.hid hp; clear hp)
  go_ret
  exact ⟨rfl, HP.out⟩

theorem append_limit (w : World) (p : Nat) (a : Option Addr) (len cap : Nat) (hlen : 65536 < len) :
    Calls Tryz.prog 13 #[.pointer (some ⟨p, 0, none⟩), .slice a len cap] w fun e w' => e = .returned (.int .i64 6) ∧ w' = w := by
  go_enter Tryz.func13, Tryz.ntmps13
  go_wp2
  go_ret
  exact ⟨rfl, rfl⟩

theorem okB_row {S : Nat → Prop} {w : World} {v : Value} {rs : List (List Int)} (h : Rd (.sl rowT) S w [v] rs) : ∀ r ∈ rs, okB r := by
  obtain ⟨a, l, c, he, -⟩ := id h
  simp only [List.cons.injEq, and_true] at he
  subst he
  obtain ⟨-, -, -, h4⟩ := h.rows
  intro r hr
  obtain ⟨i, hi, rfl⟩ := List.getElem_of_mem hr
  obtain ⟨b, off, a', l', c', _, _, _, hrr⟩ := h4 i hi
  exact hrr.okB

set_option maxRecDepth 10000 in
set_option maxHeartbeats 1000000 in
theorem put4F_any (w : World) (va : Option Addr) (k : Nat) (xs : List Int) (n : Int) (h0 : 0 ≤ n) (h1 : n ≤ 18446744073709551615) (hk : 0 < k) (hl : k ≤ 10000000) (hx : Rd rowT (fun b => b < w.heap.size) w [.slice va k k] xs) :
    Calls Tryz.prog 36 #[.slice va k k, .int .u64 n, .int .i64 4] w fun e w' => ∃ v', e = .returned v' ∧ Below w.heap.size w w' ∧ Owns (.int .u8) 5 w.heap.size (fun _ => False) w' v' (xs ++ fourI n) := by
  obtain ⟨hxl, -⟩ := hx.ints
  have hle : ∀ k, k ≤ 10 → xs.length + k ≤ 20000000 := fun k hk => by omega
  have HLE := Lib.hid hle; clear hle hl hxl
  have HX := Lib.hid hx; clear hx
  go_enter Tryz.func36, Tryz.ntmps36
  go_wp2
  refine wp_loop_rounds 5 ?_
  rw [rounds_succ]
  go_wp2_with (at_builtin; go_must (refine wpList_appF _ rfl _ _ 49 rfl (e := .int .u8) info_u8 Tryz.underlying49 rfl (by decide) (S := fun b => b < w.heap.size) rfl (HX.out.below ((Below.refl _ w).alloc (Nat.le_refl _) _) (fun _ h => h)) hk (fun b hb => Nat.lt_of_lt_of_le hb (by simp)) rfl (ys := [_]) rfl (news_new w [_] _) (RdL.int1 (wf_u8' (by omega) (by omega))) (by omega) (by have := HLE.out 10 (by omega); omega) (by have := HLE.out 10 (by omega); omega) ?_; intro ca cl cc w1 O1 g1; have O := (O1.flat rfl).base (show w.heap.size ≤ _ by simp); have hB := ((Below.refl w.heap.size w).alloc (Nat.le_refl _) _).trans (g1.mono (by simp)); have hbw := hB.size; clear O1 g1))
  repeat any_goals (rw [rounds_succ]; go_wp2_with (at_builtin; go_must (refine wpList_app _ rfl _ _ 49 rfl (e := .int .u8) info_u8 Tryz.underlying49 rfl (by decide) rfl (Owns.alloc (by assumption) _) (by simp only [World.size_alloc]; omega) rfl (ys := [_]) (Src.new _ [_] _ _ _) (RdL.int1 (wf_u8' (by omega) (by omega))) (by simp only [List.length_append, List.length_cons, List.length_nil]; have := HLE.out 10 (by omega); omega) (by simp only [List.length_append, List.length_cons, List.length_nil]; have := HLE.out 10 (by omega); omega) ?_; intro v' w1 O1 g1 _ _; have hB1 := (hB.alloc hbw _).grown g1 (by simp only [World.size_alloc]; omega) (fun k e => (O.own k e).1); have hbw1 := g1.size; rw [World.size_alloc] at hbw1; replace hbw1 := Nat.le_trans hbw (Nat.le_trans (Nat.le_succ _) hbw1); clear g1 hB O hbw; have O := O1; have hB := hB1; have hbw := hbw1; clear O1 hB1 hbw1)))
  go_ret
  refine ⟨_, rfl, hB, ?_⟩
  simpa [fourI, List.append_assoc] using O

/-- A slice of bytes of the call's own: its own row, or a full row whose mark stands behind its end. -/
def OwnsC (base : Nat) (w : World) (v : Value) (xs : List Int) : Prop :=
  Owns (.int .u8) 5 base (fun _ => False) w v xs ∨
    ∃ b n, v = .slice (some ⟨b, 0, none⟩) n n ∧ base ≤ b ∧ 0 < n ∧ xs.length = n ∧ okB xs ∧ n ≤ 1000000 ∧ w.heap[b]? = some (.cells (xs.map (Value.int .u8)).toArray 5 (n, n + 1))
theorem OwnsC.rd {base : Nat} {w : World} {v : Value} {xs : List Int} (h : OwnsC base w v xs) : Rd rowT (fun b => base ≤ b ∧ b < w.heap.size) w [v] xs := by
  rcases h with h | ⟨b, n, rfl, hb, h0, hl, hok, hn, hh⟩
  · exact h.rd _ (fun _ h => h.elim) (fun b hb => h.own b hb)
  · subst hl
    exact Rd.sl_blk (e := .int .u8) hh ⟨hb, (Array.getElem?_eq_some_iff.1 hh).1⟩ rfl (by omega) (by simpa using RdL.ints .u8 _ w xs hok)
theorem OwnsC.slice {base : Nat} {w : World} {v : Value} {xs : List Int} (h : OwnsC base w v xs) : ∃ a len cap, v = .slice a len cap ∧ len = xs.length := by
  rcases h with h | ⟨b, n, rfl, hb, h0, hl, hok, hn, hh⟩
  · obtain ⟨a, l, c, h1, h2, -⟩ := h.slice
    exact ⟨a, l, c, h1, h2⟩
  · exact ⟨_, _, _, rfl, hl.symm⟩
theorem OwnsC.below {base : Nat} {w w' : World} {v : Value} {xs : List Int} (h : OwnsC base w v xs) (hB : Below w.heap.size w w') : OwnsC base w' v xs := by
  rcases h with h | ⟨b, n, rfl, hb, h0, hl, hok, hn, hh⟩
  · exact .inl (h.below hB)
  · exact .inr ⟨b, n, rfl, hb, h0, hl, hok, hn, (hB.block b (Array.getElem?_eq_some_iff.1 hh).1).trans hh⟩
/-- put at four bytes, onto either kind. -/
theorem put4C_any (B : Nat) (w : World) (v : Value) (xs : List Int) (n : Int) (h0 : 0 ≤ n) (h1 : n ≤ 18446744073709551615) (hBw : B ≤ w.heap.size) (hl : xs.length ≤ 10000000) (hO : OwnsC B w v xs) :
    Calls Tryz.prog 36 #[v, .int .u64 n, .int .i64 4] w fun e w' => ∃ v', e = .returned v' ∧ Below B w w' ∧ Owns (.int .u8) 5 B (fun _ => False) w' v' (xs ++ fourI n) := by
  rcases hO with hO | ⟨b, k, rfl, hb, hk, hkl, hok, hkn, hh⟩
  · exact put4_any B w v xs n h0 h1 hBw hl hO
  · have hx : Rd rowT (fun b => b < w.heap.size) w [.slice (some ⟨b, 0, none⟩) k k] xs := (OwnsC.rd (base := B) (.inr ⟨b, k, rfl, hb, hk, hkl, hok, hkn, hh⟩)).keep (fun _ _ => rfl) (fun _ h => h.2)
    refine (put4F_any w _ k xs n h0 h1 hk (by omega) hx).mono fun e w' hh => ?_
    obtain ⟨v', he, hB, hO⟩ := hh
    exact ⟨v', he, hB.mono hBw, hO.base hBw⟩

set_option maxRecDepth 10000 in
set_option maxHeartbeats 4000000 in
theorem bytes_sumB (F : Nat → Prop) (w : World) (p : Nat) (rs : List (List Int)) (h : LogIn F w p rs) (hr : ∀ r ∈ rs, r.length ≤ 65536) (hbd : ∀ k, (textI ++ framesI 29793 (rs.take k)).length ≤ 8000000) :
    Calls Tryz.prog 15 #[.pointer (some ⟨p, 0, none⟩)] w fun e w' => ∃ v, e = .returned v ∧ Below w.heap.size w w' ∧ OwnsC w.heap.size w' v (bytesI rs) := by
  obtain ⟨a1, c1, a2, c2, k1, k2, f1, f2, r1, r2⟩ := h.open_
  have HLt := Lib.hid h.lt
  have hpl : p < w.heap.size := h.1 p h.2.1
  clear f1 f2 h
  obtain ⟨hl, hc, hm, -⟩ := r1.rows
  have HR := Lib.hid r1
  have HU := Lib.hid r2
  have Hr := Lib.hid hr
  have HBD := Lib.hid hbd
  clear hl r1 r2 hr hbd
  have kc := fun (w : World) (C : Array Value) (n c : Nat) => Lib.run_convert_bytes_const (P := Tryz.prog) w 49 5 C n c Tryz.underlying49 Tryz.underlying5
  go_enter Tryz.func15, Tryz.ntmps15
  go_wp2
  go_loopw [3, 16] (fun v i wr => ∃ (k : Nat), k ≤ rs.length ∧ i = .int .i64 k ∧ OwnsC w.heap.size wr v (textI ++ framesI 29793 (rs.take k)) ∧ Below w.heap.size w wr) (fun _ i _ => rs.length - (intOf i).toNat)
  case atStart => exact ⟨0, Nat.zero_le _, rfl, .inr ⟨w.heap.size, 8, rfl, Nat.le_refl _, by omega, rfl, textI_ok, by omega, heap_alloc_new w _⟩, (Below.refl _ _).alloc (Nat.le_refl _) _⟩
  case round =>
    obtain ⟨k, hk, rfl, hO, hB⟩ := hrel
    obtain ⟨av, lv, cv, rfl, -⟩ := hO.slice
    have HO := Lib.hid hO; clear hO
    by_cases hlt : k < rs.length
    · obtain ⟨-, -, -, hrows⟩ := HR.out.rows
      obtain ⟨b, off, a', len', cap', rfl, hb, hcell, hrow⟩ := hrows k hlt
      clear hrows
      obtain ⟨-, -, -, hat, -⟩ := HU.out.ints
      obtain ⟨b2, off2, rfl, hb2, hc2⟩ := hat k hlt
      rw [linksI_get rs k hlt] at hc2
      clear hat
      have hcx : wr.cell? ⟨b, off + k, none⟩ = some (.slice a' len' cap') := (hB.cell (p := ⟨b, off + k, none⟩) (HLt.out b hb)).trans hcell
      have kx1 : wr.cell? ⟨p, 1, none⟩ = some (.slice (some ⟨b2, off2, none⟩) rs.length c2) := (hB.cell (p := ⟨p, 1, none⟩) hpl).trans k2
      have hsz := hB.size
      have hl' : List.length rs[k] = len' := by obtain ⟨a2, l2, c2, he, h2, -⟩ := id hrow; simp only [List.cons.injEq, Value.slice.injEq, and_true] at he; obtain ⟨rfl, rfl, rfl⟩ := he; exact h2
      have hle : len' ≤ 65536 := by rw [← hl']; exact Hr.out _ (List.getElem_mem hlt)
      have HL := Lib.hid hl'; clear hl'
      have HX := Lib.hid (hrow.below (n := w.heap.size) hB (fun b hb => HLt.out b hb))
      have HS := Lib.hid (framesI_take rs k hlt)
      have HC2 := Lib.hid hc2
      have HK2 := Lib.hid k2
      obtain ⟨hd, hhd⟩ : ∃ hd, headI (rs.take (k + 1)) = hd := ⟨_, rfl⟩
      rw [hhd] at HC2 HS
      have hdw := headI_wf (rs.take (k + 1))
      rw [hhd] at hdw
      have hd01 := wf_u64 hdw
      have hb2' := HLt.out b2 hb2
      clear hrow hcell hc2 hhd hdw k1 k2 kx1 hb2
      have hxm := xor_max len' (by omega)
      go_wp2_with (first
        | (go_at_call 36; (with_reducible refine (put4C_any w.heap.size wr _ _ (len' : Int) (by omega) (by omega) hsz (by have := HBD.out k; omega) HO.out).mono ?_); rintro e w1 ⟨v1, rfl, hB1, hO1⟩; have HO1 := Lib.hid hO1; clear hO1; have hsz1 := hB1.size))
      obtain ⟨av1, lv1, cv1, rfl, -⟩ := HO1.out.slice
      have hB1' := hB.trans hB1
      go_wp2_with (first
        | (go_at_call_of 36 (Value.slice av1 lv1 cv1); (with_reducible refine (put4_any w.heap.size w1 _ _ (18446744073709551615 - (len' : Int)) (by omega) (by omega) (Nat.le_trans hsz hsz1) (by have := HBD.out k; simp [fourI] at *; omega) HO1.out).mono ?_); rintro e w2 ⟨v2, rfl, hB2, hO2⟩; have HO2 := Lib.hid hO2; clear hO2; have hsz2 := hB2.size; have hB2' := hB1'.trans hB2; have kx2 := (hB2'.cell (p := ⟨p, 1, none⟩) hpl).trans HK2.out; have kc2 := (hB2'.cell (p := ⟨b2, off2 + k, none⟩) hb2').trans HC2.out))
      obtain ⟨av2, lv2, cv2, rfl, -⟩ := HO2.out.slice
      have hw2 : w.heap.size ≤ w2.heap.size := hB2'.size
      go_wp2_with (first
        | (go_at_call_of 36 (Value.slice av2 lv2 cv2); (with_reducible refine (put8_any w.heap.size w2 _ _ hd hd01.1 hd01.2 hw2 (by have := HBD.out k; simp [fourI] at *; omega) HO2.out).mono ?_); rintro e w3 ⟨v3, rfl, hB3, hO3⟩; clear kx2 kc2; have HO3 := Lib.hid hO3; clear hO3; have hB3' := hB2'.trans hB3; have hw3 := hB3'.size; have HX3 := Lib.hid (HX.out.keep (S' := fun b => b < w3.heap.size) (fun b hb => ((hB1.trans hB2).trans hB3).block b (HLt.out b hb)) (fun b hb => Nat.lt_of_lt_of_le (HLt.out b hb) hw3)); obtain ⟨news, hsrc, hnews⟩ := HX3.out.src; have HSR := Lib.hid hsrc; have HNW := Lib.hid (RdL.flat (e := .int .u8) (S' := fun _ => False) (w' := w3) rfl hnews); obtain ⟨av3, lv3, cv3, rfl, -⟩ := HO3.out.slice; clear hsrc hnews)
        | (at_builtin; go_must (refine wpList_app w3 rfl _ _ 49 rfl (e := .int .u8) info_u8 Tryz.underlying49 rfl (by decide) (base := w.heap.size) (v := .slice av3 lv3 cv3) rfl HO3.out hw3 (sv := .slice a' len' cap') rfl (ys := rs[k]) HSR.out HNW.out (by have := HBD.out k; have := HL.out; simp [fourI, eightI] at *; omega) (by have := HBD.out k; have := HL.out; simp [fourI, eightI] at *; omega) ?_; intro v4 w4 O4 g4 _ _; have hB4 := hB3'.grown g4 hw3 (fun k e => (HO3.out.own k e).1))))
      go_roundw
      case rel => exact ⟨k + 1, by omega, by go_num, .inl (by rw [HS.out]; have := HL.out; simp only [frameI, this, List.append_assoc] at O4 ⊢; exact O4), hB4⟩
      case measure => simp [intOf]; omega
    · obtain rfl : k = rs.length := by omega
      go_wp2
      go_ret
      refine ⟨_, rfl, hB, ?_⟩
      have := HO.out
      rw [List.take_length] at this
      exact this
theorem bytes_sum (F : Nat → Prop) (w : World) (p : Nat) (rs : List (List Int)) (h : LogIn F w p rs) (hr : ∀ r ∈ rs, r.length ≤ 65536) (hn : rs.length ≤ 100) :
    Calls Tryz.prog 15 #[.pointer (some ⟨p, 0, none⟩)] w fun e w' => ∃ v, e = .returned v ∧ Below w.heap.size w w' ∧ OwnsC w.heap.size w' v (bytesI rs) :=
  bytes_sumB F w p rs h hr fun k => by
    rw [List.length_append, framesI_length]
    have h1 := sum_le (rs.take k) 65536 (fun x hx => hr x (List.mem_of_mem_take hx))
    have h2 : (rs.take k).length ≤ 100 := by rw [List.length_take]; omega
    have h3 : (rs.take k).length * 65536 ≤ 100 * 65536 := Nat.mul_le_mul_right _ h2
    have h4 : textI.length = 8 := rfl
    omega
/-- Bytes of a log whose bytes are at most eight million. -/
theorem bytes_sumL (F : Nat → Prop) (w : World) (p : Nat) (rs : List (List Int)) (h : LogIn F w p rs) (hr : ∀ r ∈ rs, r.length ≤ 65536) (hn : (bytesI rs).length ≤ 8000000) :
    Calls Tryz.prog 15 #[.pointer (some ⟨p, 0, none⟩)] w fun e w' => ∃ v, e = .returned v ∧ Below w.heap.size w w' ∧ OwnsC w.heap.size w' v (bytesI rs) :=
  bytes_sumB F w p rs h hr fun k => by
    have h1 := congrArg List.length (framesI_append (rs.take k) (rs.drop k) 29793)
    rw [List.take_append_drop, List.length_append] at h1
    have h2 : (bytesI rs).length = textI.length + (framesI 29793 rs).length := by rw [bytesI, List.length_append]
    rw [List.length_append]
    omega
end Go.Proofs.YtlfloekanfhlfaaGreat
