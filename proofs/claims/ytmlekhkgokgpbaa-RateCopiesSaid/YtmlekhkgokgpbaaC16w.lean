/- Layer 16: Of. -/
import Derived.Test.YtmlekhkgokgpbaaP16b
set_option linter.unusedSimpArgs false
namespace Go.Proofs.Ytmlekhkgokgpbaa
open Go.RowKit Go

theorem Of_bad {S : Nat → Prop} (w : World) (g : ByteArray) (a : Option Addr) (len cap : Nat) (xs : List rateT.den) (hx : Rd (.sl rateT) S w [.slice a len cap] xs) (hS : ∀ b, S b → b < w.heap.size) (hg : g.size ≤ maxLen) (hlen : len ≤ 1000000) (hv : validB g xs = false) :
    Calls Try.prog 31 #[.string g, .slice a len cap] w fun e w' => e = .returned (.tuple #[.pointer none, .int .i64 1]) ∧ Below w.heap.size w w' := by
  have h := Valid_sum w g a len cap xs hx hS hg hlen
  rw [hv] at h
  have H := Lib.hid h
  clear hx hS h hv
  go_enter Try.func31, Try.ntmps31
  go_wp2_with (go_at_call 24; refine H.out.mono ?_; rintro e w2 ⟨rfl, hB2⟩)
  go_ret2
  exact ⟨rfl, hB2⟩
def OfPost (w : World) (g : ByteArray) (t : Tb) (e : Ending) (w' : World) : Prop :=
  ∃ p F, e = .returned (.tuple #[.pointer (some ⟨p, 0, none⟩), .int .i64 0]) ∧ TabT F w' p g t ∧ (∀ b, F b → w.heap.size ≤ b) ∧ Below w.heap.size w w'
set_option maxRecDepth 20000 in
set_option maxHeartbeats 1000000 in
theorem Of_ok {S : Nat → Prop} (w : World) (g : ByteArray) (a : Option Addr) (len cap : Nat) (xs : List rateT.den) (hx : Rd (.sl rateT) S w [.slice a len cap] xs) (hS : ∀ b, S b → b < w.heap.size) (hg : g.size ≤ maxLen) (hv : validB g xs = true) :
    Calls Try.prog 31 #[.string g, .slice a len cap] w (OfPost w g (tb0.setAll g xs)) := by
  obtain ⟨hl, hc, hcm, -⟩ := hx.sl_flat
  obtain ⟨hall, -, hcur, h1000⟩ := (validB_iff g xs).1 hv
  have h := Valid_sum w g a len cap xs hx hS hg (by omega)
  rw [hv] at h
  have H := Lib.hid h
  have HX := Lib.hid hx
  have HL := Lib.hid hl
  have HS := Lib.hid hS
  have HALL := Lib.hid hall
  have HCUR := Lib.hid hcur
  have h1000' : len ≤ 1000 := by omega
  clear hx hl hS hv h hall hcur h1000
  go_enter Try.func31, Try.ntmps31
  go_wp2_with (first | (go_at_call 24; refine H.out.mono ?_; rintro e w2 ⟨rfl, hB2⟩; have HB2 := Lib.hid hB2; clear hB2) | (go_at_call 13; refine (New_ok _ g hg HCUR.out).mono ?_; rintro e w3 ⟨p, F, rfl, hT3, hF3, hB3⟩; have HT3 := Lib.hid (show TabT F w3 p g tb0 from hT3); have HF3 := Lib.hid hF3; have HB3 := Lib.hid (below_step HB2.out hB3); have hsz2 := HB2.out.size; clear hT3 hF3 hB3))
  go_loopw [7, 9, 21] (fun e _ i wr => ∃ (k : Nat) (F' : Nat → Prop), k ≤ len ∧ e = .int .i64 0 ∧ i = .int .i64 k ∧ TabT F' wr p g (tb0.setAll g (xs.take k)) ∧ (∀ b, F' b → w.heap.size ≤ b) ∧ Below w.heap.size w wr) (fun _ _ i _ => len - (intOf i).toNat)
  case atStart => exact ⟨0, F, Nat.zero_le _, rfl, rfl, HT3.out, fun b hb => Nat.le_trans hsz2 (HF3.out b hb), HB3.out⟩
  case round =>
    obtain ⟨k, F', hk, rfl, rfl, hT, hF', hB⟩ := hrel
    have HT' := Lib.hid hT
    have HF' := Lib.hid hF'
    have HB := Lib.hid hB
    clear hT hF'
    by_cases hlt : k < len
    · have hkx : k < xs.length := by rw [HL.out]; exact hlt
      have hxr := HX.out.below hB (fun b hb => HS.out b hb)
      obtain ⟨b, off, rfl, hb, k0, k1, k2, k3, hszc⟩ := rate_at hxr k hkx
      have hok := rate_ok hxr k hkx
      have hmk := Tb.setAll_m g (xs.take k) tb0
      have hmh := Tb.setAll_hs g (xs.take k) tb0
      rw [List.length_take] at hmk hmh
      have hst : (tb0.setAll g (xs.take k)).set g (rt xs[k]) = (0, (tb0.setAll g (xs.take k)).put (rt xs[k])) := by
        refine Tb.set_proper g _ _ ?_ ?_ (HALL.out _ (List.getElem_mem hkx))
        · have : tb0.m = 0 := rfl
          omega
        · have : tb0.hs.length = 0 := rfl
          omega
      have hnext : tb0.setAll g (xs.take (k + 1)) = ((tb0.setAll g (xs.take k)).set g (rt xs[k])).2 := by
        rw [List.take_succ_eq_append_getElem hkx]
        unfold Tb.setAll
        rw [List.foldl_append]
        rfl
      have hset := fun W (hT : TabT F' W p g (tb0.setAll g (xs.take k))) => Set_any F' W p g (tb0.setAll g (xs.take k)) hT (rt xs[k]) hok.1 hok.2 (by have : tb0.m = 0 := rfl; omega)
      rw [hst] at hset hnext
      generalize hr : rt xs[k] = r at k0 k1 k2 k3 hset hok hnext
      obtain ⟨rc, rk, rw_, rv⟩ := r
      simp only at k0 k1 k2 k3
      unfold Rt.v rateV at hset
      have HSET := Lib.hid hset
      have HNX := Lib.hid hnext
      have hkI : (k : Int) < (len : Int) := by omega
      have hgs := hB.size
      clear hset hnext hr hxr hok hmk hmh hst hB
      go_wp2_with (go_at_call 16; refine (HSET.out _ (TabIn.below HT'.out ((Below.refl _ wr).alloc (Nat.le_refl _) _))).mono ?_; rintro e w1 ⟨rfl, F2, hT2, hF2, hG2⟩; have HT2 := Lib.hid hT2; have HF2 := Lib.hid hF2; have HG2 := Lib.hid ((Gr.of_below (F := F') ((Below.refl _ wr).alloc (Nat.le_refl _) _)).trans hG2 (fun _ h => .inl h)); clear hT2 hF2 hG2)
      go_roundw
      case rel =>
        refine ⟨k + 1, F2, by omega, rfl, by go_num, by rw [HNX.out]; exact HT2.out, fun b hb => ?_, HB.out.trans (HG2.out.below HF'.out hgs)⟩
        rcases HF2.out b hb with h | h
        · exact HF'.out b h
        · have : wr.heap.size + 1 ≤ b := by simpa using h
          omega
      case measure => simp [intOf]; omega
    · obtain rfl : k = len := by omega
      go_wp2
      go_ret2
      refine ⟨p, F', rfl, ?_, HF'.out, HB.out⟩
      have h := HT'.out
      rw [List.take_of_length_le (by rw [HL.out]; exact Nat.le_refl _)] at h
      exact h
end Go.Proofs.Ytmlekhkgokgpbaa
