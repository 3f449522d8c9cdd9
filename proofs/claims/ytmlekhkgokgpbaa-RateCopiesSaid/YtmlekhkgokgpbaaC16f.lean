/- Layer 16: Valid. -/
import Derived.Test.YtmlekhkgokgpbaaC16e
set_option linter.unusedSimpArgs false
namespace Go.Proofs.Ytmlekhkgokgpbaa
open Go.RowKit Go

def Rt.k (r : Rt) : K3 := ⟨r.cur, r.kind, r.when_⟩
theorem sameK_eq (a b : Rt) : sameK a b = same3 a.k b.k := rfl

def stepB (g : ByteArray) (xs : List rateT.den) (i : Nat) : Bool := match xs[i]? with
  | none => true
  | some x => properB g (rt x).cur (rt x).kind (rt x).when_ (rt x).val && !(xs.take i).any (fun y => sameK (rt y) (rt x))
def validB (g : ByteArray) (xs : List rateT.den) : Bool := (List.range xs.length).all (stepB g xs) && (curB g && decide ((xs.length : Int) ≤ 1000))
theorem all_step (g : ByteArray) (xs : List rateT.den) (k : Nat) (h : (List.range k).all (stepB g xs) = true) (h1 : stepB g xs k = true) : (List.range (k + 1)).all (stepB g xs) = true := by
  rw [List.range_succ, List.all_append, h]
  simp [h1]
theorem all_bad (g : ByteArray) (xs : List rateT.den) (k : Nat) (hk : k < xs.length) (h1 : stepB g xs k = false) : validB g xs = false := by
  unfold validB
  rw [Bool.and_eq_false_iff]
  left
  rw [List.all_eq_false]
  exact ⟨k, by simpa using hk, by rw [h1]; simp⟩
theorem step_at16 (g : ByteArray) (xs : List rateT.den) (k : Nat) (hk : k < xs.length) : stepB g xs k = (properB g (rt xs[k]).cur (rt xs[k]).kind (rt xs[k]).when_ (rt xs[k]).val && !(xs.take k).any (fun y => sameK (rt y) (rt xs[k]))) := by
  unfold stepB
  rw [List.getElem?_eq_getElem hk]

theorem rate_ok {S : Nat → Prop} {w : World} {a : Option Addr} {len cap : Nat} {xs : List rateT.den} (h : Rd (.sl rateT) S w [.slice a len cap] xs) (i : Nat) (hi : i < xs.length) : (rt xs[i]).k.ok ∧ (Lit.int .i64 (rt xs[i]).val).wf = true := by
  obtain ⟨hl, -, -, vs, hr, hor⟩ := h.sl_flat
  obtain ⟨c, hc, hcc, hrd⟩ := hr.at_ i hi
  generalize xs[i] = s at hrd ⊢
  obtain ⟨x, y, z, u, ⟨⟩⟩ := s
  obtain ⟨c1, r1, rfl, ⟨rfl, h1⟩, c2, r2, rfl, ⟨rfl, h2⟩, c3, r3, rfl, ⟨rfl, h3⟩, c4, r4, rfl, ⟨rfl, h4⟩, rfl⟩ := hrd
  exact ⟨⟨h1, h2, h3⟩, h4⟩

set_option maxRecDepth 10000 in
set_option maxHeartbeats 2000000 in
theorem Valid_sum {S : Nat → Prop} (w : World) (g : ByteArray) (a : Option Addr) (len cap : Nat) (xs : List rateT.den) (hx : Rd (.sl rateT) S w [.slice a len cap] xs) (hS : ∀ b, S b → b < w.heap.size) (hg : g.size ≤ maxLen) (hlen : len ≤ 1000000) :
    Calls Try.prog 24 #[.string g, .slice a len cap] w fun e w' => e = .returned (.bool (validB g xs)) ∧ Below w.heap.size w w' := by
  obtain ⟨hl, hc, hm, -⟩ := hx.sl_flat
  have HX := Lib.hid hx
  have HL := Lib.hid hl
  have HS := Lib.hid hS
  have hmm := fun w => @run_makeMap Try.prog w
  clear hx hl hS
  go_enter Try.func24, Try.ntmps24
  go_wp2
  have hM0 := MapKB.made w
  go_loopw [7, 11] (fun _ i wr => ∃ (k : Nat), k ≤ len ∧ i = .int .i64 k ∧ MapKB wr w.heap.size k (fun key => (xs.take k).any fun y => same3 (rt y).k key) ∧ (List.range k).all (stepB g xs) = true ∧ Below w.heap.size w wr) (fun _ i _ => len - (intOf i).toNat)
  case atStart => exact ⟨0, Nat.zero_le _, rfl, hM0, rfl, (Below.refl _ _).alloc (Nat.le_refl _) _⟩
  case round =>
    clear hM0
    obtain ⟨k, hk, rfl, hM, hall, hB⟩ := hrel
    have HM := Lib.hid hM
    have HA := Lib.hid hall
    have HB := Lib.hid hB
    have hsz := hB.size
    clear hM hall
    by_cases hlt : k < len
    · have hkx : k < xs.length := by rw [HL.out]; exact hlt
      have hxr := HX.out.keep (w' := wr) (S' := S) (fun b hb => hB.block b (HS.out b hb)) (fun _ h => h)
      obtain ⟨b, off, rfl, hb, k0, k1, k2, k3, hszc⟩ := rate_at hxr k hkx
      have hok := (rate_ok hxr k hkx).1
      have hst := step_at16 g xs k hkx
      have hbad := all_bad g xs k hkx
      have hgood := all_step g xs k HA.out
      have hnext : ∀ key, (if same3 (rt xs[k]).k key = true then true else (xs.take k).any fun y => same3 (rt y).k key) = (xs.take (k + 1)).any fun y => same3 (rt y).k key := fun key => by
        rw [List.take_succ_eq_append_getElem hkx, List.any_append]
        cases h : same3 (rt xs[k]).k key <;> simp [h]
      generalize hr : rt xs[k] = r at k0 k1 k2 k3 hst hok hszc hnext
      obtain ⟨rc, rk, rw_, rv⟩ := r
      simp only at k0 k1 k2 k3 hst hok hszc
      obtain ⟨pb, hpb⟩ : ∃ pb, properB g rc rk rw_ rv = pb := ⟨_, rfl⟩
      obtain ⟨db, hdb⟩ : ∃ db, ((xs.take k).any fun y => same3 (rt y).k ⟨rc, rk, rw_⟩) = db := ⟨_, rfl⟩
      have hst' : stepB g xs k = (pb && !db) := by
        rw [hst, hpb]
        congr 2
      have HST := Lib.hid hst'
      have HBAD := Lib.hid hbad
      have HGOOD := Lib.hid hgood
      have HOK := Lib.hid hok
      have HNEXT := Lib.hid hnext
      have hp := fun W => proper_sum W g rc rk rw_ rv hszc
      unfold rateV at hp
      rw [hpb] at hp
      have HP := Lib.hid hp
      have hof := fun W => of_sum W ⟨rc, rk, rw_, rv⟩
      unfold Rt.v rateV keyV at hof
      simp only at hof
      have HOF := Lib.hid hof
      have HDB := Lib.hid hdb
      have hkI : (k : Int) < (len : Int) := by omega
      have hh := heap_alloc_new wr (.cells #[.string rc, .int .i64 rk, .int .i64 rw_, .int .i64 rv] 35)
      have hB1 : Below wr.heap.size wr (wr.alloc (.cells #[.string rc, .int .i64 rk, .int .i64 rw_, .int .i64 rv] 35)) := (Below.refl _ wr).alloc (Nat.le_refl _) _
      clear hst hst' hbad hgood hok hnext hp hof hdb hr hxr hB
      cases pb
      · go_wp2_with (go_at_call 35; refine (HP.out _).mono ?_; rintro e w2 ⟨rfl, hB2⟩; have hh2 := (hB2.block _ (Array.getElem?_eq_some_iff.1 hh).1).trans hh; have c02 : w2.cell? ⟨wr.heap.size, 0, none⟩ = some (.string rc) := blk_cell hh2 0; have c12 : w2.cell? ⟨wr.heap.size, 1, none⟩ = some (.int .i64 rk) := blk_cell hh2 1; have c22 : w2.cell? ⟨wr.heap.size, 2, none⟩ = some (.int .i64 rw_) := blk_cell hh2 2; have c32 : w2.cell? ⟨wr.heap.size, 3, none⟩ = some (.int .i64 rv) := blk_cell hh2 3; have HB2 := Lib.hid (below_step hB1 hB2))
        go_ret
        exact ⟨by rw [HBAD.out (by rw [HST.out]; rfl)]; rfl, below_step HB.out HB2.out⟩
      cases db
      · go_wp2_with (first
          | (go_at_call 35; refine (HP.out _).mono ?_; rintro e w2 ⟨rfl, hB2⟩; have hh2 := (hB2.block _ (Array.getElem?_eq_some_iff.1 hh).1).trans hh; have c02 : w2.cell? ⟨wr.heap.size, 0, none⟩ = some (.string rc) := blk_cell hh2 0; have c12 : w2.cell? ⟨wr.heap.size, 1, none⟩ = some (.int .i64 rk) := blk_cell hh2 1; have c22 : w2.cell? ⟨wr.heap.size, 2, none⟩ = some (.int .i64 rw_) := blk_cell hh2 2; have c32 : w2.cell? ⟨wr.heap.size, 3, none⟩ = some (.int .i64 rv) := blk_cell hh2 3; have HB2 := Lib.hid (below_step hB1 hB2))
          | (go_at_call 36; first | (refine (HOF.out w2).mono ?_; rintro e w3 ⟨rfl, hB3⟩; have hh3 := (hB3.block _ (Array.getElem?_eq_some_iff.1 hh2).1).trans hh2; have c03 : w3.cell? ⟨wr.heap.size, 0, none⟩ = some (.string rc) := blk_cell hh3 0; have c13 : w3.cell? ⟨wr.heap.size, 1, none⟩ = some (.int .i64 rk) := blk_cell hh3 1; have c23 : w3.cell? ⟨wr.heap.size, 2, none⟩ = some (.int .i64 rw_) := blk_cell hh3 2; have c33 : w3.cell? ⟨wr.heap.size, 3, none⟩ = some (.int .i64 rv) := blk_cell hh3 3; have HB3 := Lib.hid (below_step HB2.out hB3); have hlk := (HM.out.below HB3.out).lookup Try.underlying68 ⟨rc, rk, rw_⟩ HOK.out; unfold K3.v at hlk; rw [HDB.out] at hlk) | (refine (HOF.out w3).mono ?_; rintro e w4 ⟨rfl, hB4⟩; have HB4 := Lib.hid (below_step HB3.out hB4); obtain ⟨w5, hmu, hM5, hg5⟩ := (HM.out.below HB4.out).update Try.underlying68 (by simp [maxLen]; omega) ⟨rc, rk, rw_⟩ HOK.out true; unfold K3.v at hmu; have HM5 := Lib.hid hM5; have HB5 := Lib.hid (((HB.out.trans (HB4.out.mono hsz)).grown hg5 (Nat.le_trans hsz HB4.out.size) (fun b e => by cases e; exact Nat.le_refl _))); clear hM5 hg5)))
        go_roundw
        case rel =>
          refine ⟨k + 1, by omega, by go_num, ?_, HGOOD.out (by rw [HST.out]; rfl), HB5.out⟩
          have h := HM5.out
          have e : (fun x => if same3 ⟨rc, rk, rw_⟩ x = true then true else (xs.take k).any fun y => same3 (rt y).k x) = fun key => (xs.take (k + 1)).any fun y => same3 (rt y).k key := funext fun key => HNEXT.out key
          rw [e] at h
          exact h
        case measure => simp [intOf]; omega
      · go_wp2_with (first
          | (go_at_call 35; refine (HP.out _).mono ?_; rintro e w2 ⟨rfl, hB2⟩; have hh2 := (hB2.block _ (Array.getElem?_eq_some_iff.1 hh).1).trans hh; have c02 : w2.cell? ⟨wr.heap.size, 0, none⟩ = some (.string rc) := blk_cell hh2 0; have c12 : w2.cell? ⟨wr.heap.size, 1, none⟩ = some (.int .i64 rk) := blk_cell hh2 1; have c22 : w2.cell? ⟨wr.heap.size, 2, none⟩ = some (.int .i64 rw_) := blk_cell hh2 2; have c32 : w2.cell? ⟨wr.heap.size, 3, none⟩ = some (.int .i64 rv) := blk_cell hh2 3; have HB2 := Lib.hid (below_step hB1 hB2))
          | (go_at_call 36; refine (HOF.out w2).mono ?_; rintro e w3 ⟨rfl, hB3⟩; have hh3 := (hB3.block _ (Array.getElem?_eq_some_iff.1 hh2).1).trans hh2; have c03 : w3.cell? ⟨wr.heap.size, 0, none⟩ = some (.string rc) := blk_cell hh3 0; have c13 : w3.cell? ⟨wr.heap.size, 1, none⟩ = some (.int .i64 rk) := blk_cell hh3 1; have c23 : w3.cell? ⟨wr.heap.size, 2, none⟩ = some (.int .i64 rw_) := blk_cell hh3 2; have c33 : w3.cell? ⟨wr.heap.size, 3, none⟩ = some (.int .i64 rv) := blk_cell hh3 3; have HB3 := Lib.hid (below_step HB2.out hB3); have hlk := (HM.out.below HB3.out).lookup Try.underlying68 ⟨rc, rk, rw_⟩ HOK.out; unfold K3.v at hlk; rw [HDB.out] at hlk))
        all_goals
          go_ret
          exact ⟨by rw [HBAD.out (by rw [HST.out]; rfl)]; rfl, below_step HB.out HB3.out⟩
    · obtain rfl : k = len := by omega
      have hall := HA.out
      obtain ⟨cb, hcb⟩ : ∃ cb, curB g = cb := ⟨_, rfl⟩
      have hv : validB g xs = (cb && decide ((k : Int) ≤ 1000)) := by
        unfold validB
        rw [HL.out, hall, hcb]
        rfl
      have HV := Lib.hid hv
      clear hall hv
      cases cb
      · go_wp2_with (go_at_call 28; refine (Currency_sum _ g hg).mono ?_; rw [hcb]; rintro e w2 ⟨rfl, hB2⟩)
        all_goals
          go_ret
          exact ⟨by rw [HV.out]; rfl, below_step HB.out hB2⟩
      · go_wp2_with (go_at_call 28; refine (Currency_sum _ g hg).mono ?_; rw [hcb]; rintro e w2 ⟨rfl, hB2⟩)
        all_goals
          go_ret
          exact ⟨by rw [HV.out]; rfl, below_step HB.out hB2⟩
end Go.Proofs.Ytmlekhkgokgpbaa
