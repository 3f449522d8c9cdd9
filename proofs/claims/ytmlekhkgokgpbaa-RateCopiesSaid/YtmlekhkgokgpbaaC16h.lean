/- Layer 16: a table in memory; New, Get; few. -/
import Derived.Test.YtmlekhkgokgpbaaC16f
import Derived.Test.YtmlekhkgokgpbaaRegT
set_option linter.unusedSimpArgs false
namespace Go.Proofs.Ytmlekhkgokgpbaa
open Go.RowKit Go

def fewR (g : ByteArray) (xs : List rateT.den) : Bool := (xs.all fun x => decide ((rt x).cur.size ≤ 20)) && (decide ((g.size : Int) ≤ 20) && decide ((xs.length : Int) ≤ 200))
set_option maxHeartbeats 1000000 in
theorem few16_sum {S : Nat → Prop} (w : World) (g : ByteArray) (a : Option Addr) (len cap : Nat) (xs : List rateT.den) (hx : Rd (.sl rateT) S w [.slice a len cap] xs) :
    Calls Try.prog 12 #[.string g, .slice a len cap] w fun e w' => e = .returned (.bool (fewR g xs)) ∧ w' = w := by
  obtain ⟨hl, hc, hm, -⟩ := hx.sl_flat
  have HX := Lib.hid hx
  have HL := Lib.hid hl
  clear hx hl
  go_enter Try.func12, Try.ntmps12
  go_wp2
  go_loopw [5] (fun i wr => ∃ (k : Nat), k ≤ len ∧ i = .int .i64 k ∧ ((xs.take k).all fun x => decide ((rt x).cur.size ≤ 20)) = true ∧ wr = w) (fun i _ => len - (intOf i).toNat)
  case atStart => exact ⟨0, Nat.zero_le _, rfl, rfl, rfl⟩
  case round =>
    obtain ⟨k, hk, rfl, hall, hw⟩ := hrel
    subst hw
    by_cases hlt : k < len
    · have hkx : k < xs.length := by rw [HL.out]; exact hlt
      obtain ⟨b, off, rfl, -, k0, -, -, -, -⟩ := rate_at HX.out k hkx
      have hnext : ((xs.take (k + 1)).all fun x => decide ((rt x).cur.size ≤ 20)) = decide ((rt xs[k]).cur.size ≤ 20) := by
        rw [List.take_succ_eq_append_getElem hkx, List.all_append, hall]
        simp
      have hbad : (rt xs[k]).cur.size ≤ 20 → True := fun _ => trivial
      have hfalse : ¬ (rt xs[k]).cur.size ≤ 20 → fewR g xs = false := fun h => by
        unfold fewR
        rw [Bool.and_eq_false_iff]
        left
        rw [List.all_eq_false]
        exact ⟨xs[k], List.getElem_mem hkx, by simpa using h⟩
      generalize rt xs[k] = r at k0 hnext hfalse
      obtain ⟨rc, rk, rw_, rv⟩ := r
      simp only at k0 hnext hfalse
      have HN := Lib.hid hnext
      have HF := Lib.hid hfalse
      have hkI : (k : Int) < (len : Int) := by omega
      clear hall hnext hfalse hbad
      by_cases h20 : rc.size ≤ 20
      · have hd : decide ((20 : Int) < (rc.size : Int)) = false := by simp; omega
        go_wp2_with fail
        go_roundw
        case rel => exact ⟨k + 1, by omega, by go_num, by rw [HN.out]; exact decide_eq_true h20, trivial⟩
        case measure => simp [intOf]; omega
      · have hd : decide ((20 : Int) < (rc.size : Int)) = true := by simp; omega
        go_wp2
        go_ret
        exact ⟨by rw [HF.out h20]; rfl, rfl⟩
    · obtain rfl : k = len := by omega
      rw [List.take_of_length_le (by rw [HL.out]; exact Nat.le_refl _)] at hall
      have hv : fewR g xs = (decide ((g.size : Int) ≤ 20) && decide ((k : Int) ≤ 200)) := by
        unfold fewR
        rw [hall, HL.out]
        rfl
      have HV := Lib.hid hv
      clear hall hv
      by_cases hg : (g.size : Int) ≤ 20
      · go_wp2
        all_goals
          go_ret
          exact ⟨by rw [HV.out, decide_eq_true hg]; rfl, rfl⟩
      · go_wp2
        all_goals
          go_ret
          exact ⟨by rw [HV.out, decide_eq_false (Int.not_le.2 (by omega))]; rfl, rfl⟩

/-- Block p is a table: its group, the current values by key (m of them), the history; its memory lies in F. -/
def TabIn (F : Nat → Prop) (w : World) (p : Nat) (g : ByteArray) (m : Nat) (f : K3 → Option Int) (hs : List rateT.den) : Prop :=
  (∀ b, F b → b < w.heap.size) ∧ F p ∧ ∃ b hv, w.heap[p]? = some (.cells #[.string g, .map (some b), hv] 54 (0, 0)) ∧ MapKI w b m f ∧
    Owns rateT 35 0 (fun _ => False) w hv hs ∧ F b ∧ b ≠ p ∧ ∀ c, hv.ownBlock = some c → F c ∧ c ≠ p ∧ c ≠ b
theorem TabIn.gr {F G : Nat → Prop} {w w' : World} {p : Nat} {g : ByteArray} {m : Nat} {f : K3 → Option Int} {hs : List rateT.den} (h : TabIn F w p g m f hs) (hg : Gr G w w') (hF : ∀ b, F b → ¬ G b) : TabIn F w' p g m f hs := by
  obtain ⟨h0, hp, b, hv, h1, h2, h3, h4, h5, h6⟩ := h
  exact ⟨fun b hb => Nat.lt_of_lt_of_le (h0 b hb) hg.size, hp, b, hv, blk_gr hg h1 (hF p hp), h2.keep (hg.block b (h0 b h4) (hF b h4)), h3.gr hg (fun _ h => h.elim) (fun c hc => hF c (h6 c hc).1), h4, h5, h6⟩
theorem TabIn.below {F : Nat → Prop} {w w' : World} {p : Nat} {g : ByteArray} {m : Nat} {f : K3 → Option Int} {hs : List rateT.den} (h : TabIn F w p g m f hs) (hB : Below w.heap.size w w') : TabIn F w' p g m f hs := h.gr (G := fun _ => False) (Gr.of_below hB) (fun _ _ h => h)
theorem TabIn.open_ {F : Nat → Prop} {w : World} {p : Nat} {g : ByteArray} {m : Nat} {f : K3 → Option Int} {hs : List rateT.den} (h : TabIn F w p g m f hs) :
    ∃ b hv, w.cell? ⟨p, 0, none⟩ = some (.string g) ∧ w.cell? ⟨p, 1, none⟩ = some (.map (some b)) ∧ w.cell? ⟨p, 2, none⟩ = some hv ∧ MapKI w b m f ∧ Rd (.sl rateT) F w [hv] hs := by
  obtain ⟨h0, hp, b, hv, h1, h2, h3, h4, h5, h6⟩ := h
  exact ⟨b, hv, blk_cell h1 0, blk_cell h1 1, blk_cell h1 2, h2, h3.rd _ (fun _ h => h.elim) (fun c hc => (h6 c hc).1)⟩

theorem New_bad (w : World) (g : ByteArray) (hg : g.size ≤ maxLen) (hcb : curB g = false) :
    Calls Try.prog 13 #[.string g] w fun e w' => e = .returned (.tuple #[.pointer none, .int .i64 1]) ∧ Below w.heap.size w w' := by
  go_enter Try.func13, Try.ntmps13
  go_wp2_with (go_at_call 28; refine (Currency_sum _ g hg).mono ?_; rw [hcb]; rintro e w2 ⟨rfl, hB2⟩)
  go_ret2
  exact ⟨rfl, hB2⟩
def NewPost (w : World) (g : ByteArray) (e : Ending) (w' : World) : Prop :=
  ∃ p F, e = .returned (.tuple #[.pointer (some ⟨p, 0, none⟩), .int .i64 0]) ∧ TabIn F w' p g 0 (fun _ => none) [] ∧ (∀ b, F b → w.heap.size ≤ b) ∧ Below w.heap.size w w'
set_option maxHeartbeats 1000000 in
theorem New_ok (w : World) (g : ByteArray) (hg : g.size ≤ maxLen) (hcb : curB g = true) : Calls Try.prog 13 #[.string g] w (NewPost w g) := by
  have hmm := fun w => @run_makeMap Try.prog w
  go_enter Try.func13, Try.ntmps13
  go_wp2_with (go_at_call 28; refine (Currency_sum _ g hg).mono ?_; rw [hcb]; rintro e w2 ⟨rfl, hB2⟩)
  go_ret2
  have hs2 := hB2.size
  have hM := (MapKI.made w2).below (((Below.refl _ (w2.alloc (.map #[] 0))).alloc (Nat.le_refl _) (.cells #[.string g, .map (some w2.heap.size), .slice none 0 0] 54)))
  have hh := heap_alloc_new (w2.alloc (.map #[] 0)) (.cells #[.string g, .map (some w2.heap.size), .slice none 0 0] 54)
  have hz : (w2.alloc (.map #[] 0)).heap.size = w2.heap.size + 1 := by simp
  rw [hz] at hh
  refine ⟨w2.heap.size + 1, fun b => b = w2.heap.size ∨ b = w2.heap.size + 1, rfl, ⟨fun b hb => ?_, .inr rfl, w2.heap.size, .slice none 0 0, hh, hM, Owns.nil _ _ _ _, .inl rfl, by omega, fun c hc => by simp [Value.ownBlock] at hc⟩, fun b hb => ?_, below_step hB2 (below_two w2 _ _)⟩
  · simp only [World.size_alloc]
    omega
  · omega
theorem Get_sum (F : Nat → Prop) (w : World) (p : Nat) (g : ByteArray) (m : Nat) (f : K3 → Option Int) (hs : List rateT.den) (h : TabIn F w p g m f hs) (x : K3) (hx : x.ok) :
    Calls Try.prog 19 #[.pointer (some ⟨p, 0, none⟩), .string x.cur, .int .i64 x.kind, .int .i64 x.when_] w fun e w' => e = .returned (.tuple #[.int .i64 ((f x).getD 0), .bool (f x).isSome]) ∧ w' = w := by
  obtain ⟨b, hv, k0, k1, k2, hM, -⟩ := h.open_
  have hlk := hM.look Try.underlying52 x hx
  unfold K3.v at hlk
  clear h hM k0 k2
  go_enter Try.func19, Try.ntmps19
  go_wp2
  go_ret2
  exact ⟨rfl, rfl⟩
end Go.Proofs.Ytmlekhkgokgpbaa
