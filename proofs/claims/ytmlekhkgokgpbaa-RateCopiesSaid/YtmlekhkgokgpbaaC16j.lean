/- Layer 16: Set, whatever it answers; History; the law's set. -/
import Derived.Test.YtmlekhkgokgpbaaC16i
set_option linter.unusedSimpArgs false
namespace Go.Proofs.Ytmlekhkgokgpbaa
open Go.RowKit Go

/-- A table as data: the number of its current rates, the value by key, the history. -/
structure Tb where
  m : Nat
  f : K3 → Option Int
  hs : List rateT.den
def Rt.d (r : Rt) : rateT.den := (r.cur, r.kind, r.when_, r.val, ())
def Tb.put (t : Tb) (r : Rt) : Tb := ⟨if (t.f r.k).isSome then t.m else t.m + 1, fun x => if same3 r.k x = true then some r.val else t.f x, t.hs ++ [r.d]⟩
def Tb.full (t : Tb) (r : Rt) : Prop := ((t.f r.k).isSome = false ∧ 1000 ≤ t.m) ∨ 5000 ≤ t.hs.length
instance (t : Tb) (r : Rt) : Decidable (t.full r) := by unfold Tb.full; infer_instance
def Tb.set (g : ByteArray) (t : Tb) (r : Rt) : Int × Tb := if properB g r.cur r.kind r.when_ r.val = false then (1, t) else if t.full r then (6, t) else (0, t.put r)
def TabT (F : Nat → Prop) (w : World) (p : Nat) (g : ByteArray) (t : Tb) : Prop := TabIn F w p g t.m t.f t.hs

theorem Set_any (F : Nat → Prop) (w : World) (p : Nat) (g : ByteArray) (t : Tb) (h : TabT F w p g t) (r : Rt) (hok : r.k.ok) (hvw : (Lit.int .i64 r.val).wf = true) (hm : t.m ≤ 100000) :
    Calls Try.prog 16 #[.pointer (some ⟨p, 0, none⟩), r.v] w fun e w' => e = .returned (.int .i64 (t.set g r).1) ∧ ∃ F', TabT F' w' p g (t.set g r).2 ∧ (∀ b, F' b → F b ∨ w.heap.size ≤ b) ∧ Gr F w w' := by
  unfold Tb.set
  by_cases hp : properB g r.cur r.kind r.when_ r.val = false
  · rw [if_pos hp]
    refine (Set_bad F w p g t.m t.f t.hs h r hok hp).mono fun e w' he => ?_
    obtain ⟨he, hB⟩ := he
    exact ⟨he, F, TabIn.below h hB, fun b hb => .inl hb, Gr.of_below hB⟩
  · rw [if_neg hp]
    have hp' : properB g r.cur r.kind r.when_ r.val = true := by
      cases hq : properB g r.cur r.kind r.when_ r.val
      · exact absurd hq hp
      · rfl
    by_cases hf : t.full r
    · rw [if_pos hf]
      refine (Set_limit F w p g t.m t.f t.hs h r hok hp' hf).mono fun e w' he => ?_
      obtain ⟨he, hB⟩ := he
      exact ⟨he, F, TabIn.below h hB, fun b hb => .inl hb, Gr.of_below hB⟩
    · rw [if_neg hf]
      refine (Set_ok F w p g t.m t.f t.hs h r hok hp' hf hm hvw).mono fun e w' he => ?_
      obtain ⟨he, F', hT, hF', hG⟩ := he
      exact ⟨he, F', hT, hF', hG⟩
theorem Tb.set_m (g : ByteArray) (t : Tb) (r : Rt) : (t.set g r).2.m ≤ t.m + 1 := by
  unfold Tb.set
  by_cases hp : properB g r.cur r.kind r.when_ r.val = false
  · rw [if_pos hp]; simp
  · rw [if_neg hp]
    by_cases hf : t.full r
    · rw [if_pos hf]; simp
    · rw [if_neg hf]
      unfold Tb.put
      simp only
      split <;> omega

set_option maxRecDepth 50000 in
theorem rclone16 {S : Nat → Prop} (w : World) (a : Option Addr) (len cap : Nat) (xs : List rateT.den) (h : Rd (.sl rateT) S w [.slice a len cap] xs) (hS : ∀ b, S b → b < w.heap.size) (hlen : len ≤ 1000000) :
    Calls Try.prog 40 #[.slice a len cap] w fun e w' => ∃ v, e = .returned v ∧ Below w.heap.size w w' ∧ Owns rateT 35 w.heap.size (fun _ => False) w' v xs := by
  obtain ⟨a', len', cap', he, h1, h2, h3, h4⟩ := id h
  simp only [List.cons.injEq, Value.slice.injEq, and_true] at he
  obtain ⟨rfl, rfl, rfl⟩ := he
  have hz := fun w => Lib.run_eql_slice_nil (P := Try.prog) w 22 _ a len cap 0 0 Try.underlying22
  cases a with
  | none =>
    have h0 : len = 0 := by
      rcases h4 with h0 | ⟨b, off, h0, _⟩
      · exact h0
      · cases h0
    subst h0
    obtain rfl : xs = [] := List.eq_nil_of_length_eq_zero h1
    clear h h4 h1
    simp only [Option.isNone] at hz
    go_enter Try.func40, Try.ntmps40
    go_wp2
    go_ret
    exact ⟨_, rfl, Below.refl _ _, Owns.nil _ _ _ _⟩
  | some ad =>
    clear h4
    have H := Lib.hid h
    have H1 := Lib.hid h1
    clear h h1
    simp only [Option.isNone] at hz
    go_enter Try.func40, Try.ntmps40
    go_wp2_with (at_builtin; go_must (refine wpList_copy w rfl _ _ 22 rfl (e := rateT) info_rate Try.underlying22 rfl (by decide) rfl (S := S) (sv := .slice (some ad) len cap) (xs := xs) rfl H.out hS H1.out (by omega) (by omega) ?_; intro g cv w1 O1 hg hB1 h5 h6; have HO1 := Lib.hid (Owns.flat (e := rateT) rfl O1); clear O1))
    go_ret
    exact ⟨_, rfl, hB1, HO1.out⟩
theorem History_sum (F : Nat → Prop) (w : World) (p : Nat) (g : ByteArray) (t : Tb) (h : TabT F w p g t) (hl : t.hs.length ≤ 100000) :
    Calls Try.prog 23 #[.pointer (some ⟨p, 0, none⟩)] w fun e w' => ∃ v, e = .returned v ∧ Below w.heap.size w w' ∧ Owns rateT 35 w.heap.size (fun _ => False) w' v t.hs := by
  obtain ⟨mb, ha, hlen, hcap, hT⟩ := Tab2.of h
  obtain ⟨-, -, k2, -, hll⟩ := hT.cells
  have HX := Lib.hid (hT.2.2.2.2.1.rd F (fun _ h => h.elim) (fun c hc => (hT.2.2.2.2.2.2.2.1 c hc).1))
  have HF := Lib.hid hT.1
  have HLL := Lib.hid hll
  clear hT hll h
  go_enter Try.func23, Try.ntmps23
  go_wp2_with fail
  refine (rclone16 w ha hlen hcap t.hs HX.out HF.out (by rw [HLL.out]; omega)).mono ?_
  rintro e w1 ⟨v, rfl, hB, hO⟩
  have HO := Lib.hid hO
  clear hO
  go_wp2
  go_ret
  exact ⟨v, rfl, hB, HO.out⟩

def Tb.setAll (g : ByteArray) (t : Tb) (xs : List rateT.den) : Tb := xs.foldl (fun t x => (t.set g (rt x)).2) t
theorem Tb.setAll_m (g : ByteArray) : ∀ (xs : List rateT.den) (t : Tb), (t.setAll g xs).m ≤ t.m + xs.length
  | [], t => Nat.le_refl _
  | x :: xs, t => by
    have h1 := Tb.setAll_m g xs (t.set g (rt x)).2
    have h2 := Tb.set_m g t (rt x)
    show (Tb.setAll g (t.set g (rt x)).2 xs).m ≤ _
    simp only [List.length_cons]
    omega
set_option maxRecDepth 20000 in
set_option maxHeartbeats 1000000 in
theorem set16_sum (F S : Nat → Prop) (w : World) (p : Nat) (g : ByteArray) (t : Tb) (h : TabT F w p g t) (a : Option Addr) (len cap : Nat) (xs : List rateT.den) (hx : Rd (.sl rateT) S w [.slice a len cap] xs) (hS : ∀ b, S b → b < w.heap.size ∧ ¬ F b) (hm : t.m + len ≤ 100000) :
    Calls Try.prog 18 #[.pointer (some ⟨p, 0, none⟩), .slice a len cap] w fun e w' => e = .returned (.tuple #[]) ∧ ∃ F', TabT F' w' p g (t.setAll g xs) ∧ (∀ b, F' b → F b ∨ w.heap.size ≤ b) ∧ Gr F w w' := by
  obtain ⟨hl, hc, hcm, -⟩ := hx.sl_flat
  have HX := Lib.hid hx
  have HL := Lib.hid hl
  have HS := Lib.hid hS
  have HT := Lib.hid h
  clear hx hl hS h
  go_enter Try.func18, Try.ntmps18
  go_wp2
  go_loopw [4] (fun i wr => ∃ (k : Nat) (F' : Nat → Prop), k ≤ len ∧ i = .int .i64 k ∧ TabT F' wr p g (t.setAll g (xs.take k)) ∧ (∀ b, F' b → F b ∨ w.heap.size ≤ b) ∧ Gr F w wr) (fun i _ => len - (intOf i).toNat)
  case atStart => exact ⟨0, F, Nat.zero_le _, rfl, HT.out, fun b hb => .inl hb, Gr.refl _ _⟩
  case round =>
    obtain ⟨k, F', hk, rfl, hT, hF', hG⟩ := hrel
    have HT' := Lib.hid hT
    have HF' := Lib.hid hF'
    have HG := Lib.hid hG
    clear hT hF'
    by_cases hlt : k < len
    · have hkx : k < xs.length := by rw [HL.out]; exact hlt
      have hxr := HX.out.gr hG HS.out (fun _ h => h)
      obtain ⟨b, off, rfl, hb, k0, k1, k2, k3, hszc⟩ := rate_at hxr k hkx
      have hok := rate_ok hxr k hkx
      have hmk := Tb.setAll_m g (xs.take k) t
      rw [List.length_take] at hmk
      have hnext : t.setAll g (xs.take (k + 1)) = ((t.setAll g (xs.take k)).set g (rt xs[k])).2 := by
        rw [List.take_succ_eq_append_getElem hkx]
        unfold Tb.setAll
        rw [List.foldl_append]
        rfl
      have hset := Set_any F' wr p g (t.setAll g (xs.take k)) HT'.out (rt xs[k]) hok.1 hok.2 (by omega)
      rw [show (rt xs[k]) = rt xs[k] from rfl] at hset
      generalize hr : rt xs[k] = r at k0 k1 k2 k3 hset hok hnext
      obtain ⟨rc, rk, rw_, rv⟩ := r
      simp only at k0 k1 k2 k3
      unfold Rt.v rateV at hset
      have HSET := Lib.hid hset
      have HNX := Lib.hid hnext
      have hkI : (k : Int) < (len : Int) := by omega
      have hgs := hG.size
      clear hset hnext hr hxr hok hmk hG
      go_wp2_with (go_at_call 16; refine HSET.out.mono ?_; rintro e w1 ⟨rfl, F2, hT2, hF2, hG2⟩; have HT2 := Lib.hid hT2; have HF2 := Lib.hid hF2; have HG2 := Lib.hid hG2; clear hT2 hF2 hG2)
      go_roundw
      case rel =>
        refine ⟨k + 1, F2, by omega, by go_num, by rw [HNX.out]; exact HT2.out, fun b hb => ?_, HG.out.trans HG2.out HF'.out⟩
        rcases HF2.out b hb with h | h
        · exact HF'.out b h
        · exact .inr (by omega)
      case measure => simp [intOf]; omega
    · obtain rfl : k = len := by omega
      go_wp2
      go_end0
      refine ⟨rfl, F', ?_, HF'.out, HG.out⟩
      have h := HT'.out
      rw [List.take_of_length_le (by rw [HL.out]; exact Nat.le_refl _)] at h
      exact h
end Go.Proofs.Ytmlekhkgokgpbaa
