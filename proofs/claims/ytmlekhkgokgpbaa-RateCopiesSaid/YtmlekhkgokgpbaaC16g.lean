/- Layer 16: the reference's Valid. -/
import Derived.Test.YtmlekhkgokgpbaaC16f
import Derived.Test.YtmlekhkgokgpbaaRegT
set_option linter.unusedSimpArgs false
namespace Go.Proofs.Ytmlekhkgokgpbaa
open Go.RowKit Go

set_option maxRecDepth 10000 in
set_option maxHeartbeats 4000000 in
theorem refValid_sum {S : Nat → Prop} (w : World) (g : ByteArray) (a : Option Addr) (len cap : Nat) (xs : List rateT.den) (hx : Rd (.sl rateT) S w [.slice a len cap] xs) (hS : ∀ b, S b → b < w.heap.size) (hg : g.size ≤ maxLen) :
    Calls Try.prog 30 #[.string g, .slice a len cap] w fun e w' => e = .returned (.bool (validB g xs)) ∧ Below w.heap.size w w' := by
  obtain ⟨hl, hc, hm, -⟩ := hx.sl_flat
  have HX := Lib.hid hx
  have HL := Lib.hid hl
  have HS := Lib.hid hS
  clear hx hl hS
  go_enter Try.func30, Try.ntmps30
  go_wp2
  go_loopw [5, 6] (fun i _ wr => ∃ (k : Nat), k ≤ len ∧ i = .int .i64 k ∧ (List.range k).all (stepB g xs) = true ∧ Below w.heap.size w wr) (fun i _ _ => len - (intOf i).toNat)
  case atStart => exact ⟨0, Nat.zero_le _, rfl, rfl, Below.refl _ _⟩
  case round =>
    obtain ⟨k, hk, rfl, hall, hB⟩ := hrel
    have HA := Lib.hid hall
    have HB := Lib.hid hB
    have hsz := hB.size
    clear hall
    by_cases hlt : k < len
    · have hkx : k < xs.length := by rw [HL.out]; exact hlt
      have hxr := HX.out.keep (w' := wr) (S' := S) (fun b hb => hB.block b (HS.out b hb)) (fun _ h => h)
      obtain ⟨b, off, rfl, hb, k0, k1, k2, k3, hszc⟩ := rate_at hxr k hkx
      have hbs := HS.out b hb
      have hst := step_at16 g xs k hkx
      have hbad := all_bad g xs k hkx
      have hgood := all_step g xs k HA.out
      generalize hr : rt xs[k] = r at k0 k1 k2 k3 hst hszc
      obtain ⟨rc, rk, rw_, rv⟩ := r
      simp only at k0 k1 k2 k3 hst hszc
      obtain ⟨pb, hpb⟩ : ∃ pb, properB g rc rk rw_ rv = pb := ⟨_, rfl⟩
      rw [hpb] at hst
      have HST := Lib.hid hst
      have HBAD := Lib.hid hbad
      have HGOOD := Lib.hid hgood
      have hp := fun W => refProper_sum W g rc rk rw_ rv hszc
      unfold rateV at hp
      rw [hpb] at hp
      have HP := Lib.hid hp
      have hkI : (k : Int) < (len : Int) := by omega
      have HR := Lib.hid hr
      clear hst hbad hgood hp hr hxr hB
      cases pb
      · go_wp2_with (go_at_call 33; refine (HP.out _).mono ?_; rintro e w1 ⟨rfl, hB1⟩)
        go_ret
        exact ⟨by rw [HBAD.out (by rw [HST.out]; rfl)]; rfl, below_step HB.out hB1⟩
      · go_wp2_with (go_at_call 33; refine (HP.out _).mono ?_; rintro e w1 ⟨rfl, hB1⟩; have HB1 := Lib.hid (below_step HB.out hB1); clear hB1)
        go_loopw [6] (fun j w2 => ∃ (q : Nat), q ≤ k ∧ j = .int .i64 q ∧ ((xs.take q).any fun y => sameK (rt y) ⟨rc, rk, rw_, rv⟩) = false ∧ Below w.heap.size w w2) (fun j _ => k - (intOf j).toNat)
        case atStart => exact ⟨0, Nat.zero_le _, rfl, rfl, HB1.out⟩
        case round =>
          obtain ⟨q, hq, rfl, hany, hB2⟩ := hrel
          have HANY := Lib.hid hany
          have HB2 := Lib.hid hB2
          by_cases hqk : q < k
          · have hqx : q < xs.length := by omega
            have hxr := HX.out.keep (w' := wr) (S' := S) (fun b hb => hB2.block b (HS.out b hb)) (fun _ h => h)
            obtain ⟨b', off', he, -, m0, m1, m2, m3, -⟩ := rate_at hxr q hqx
            obtain ⟨b'', off'', he', -, n0, n1, n2, n3, -⟩ := rate_at hxr k hkx
            simp only [Option.some.injEq, Addr.mk.injEq, and_true] at he he'
            obtain ⟨rfl, rfl⟩ := he
            obtain ⟨rfl, rfl⟩ := he'
            rw [HR.out] at n0 n1 n2 n3
            have hnext : ((xs.take (q + 1)).any fun y => sameK (rt y) ⟨rc, rk, rw_, rv⟩) = sameK (rt xs[q]) ⟨rc, rk, rw_, rv⟩ := by
              rw [List.take_succ_eq_append_getElem hqx, List.any_append, hany]
              simp
            have hhit : sameK (rt xs[q]) ⟨rc, rk, rw_, rv⟩ = true → ((xs.take k).any fun y => sameK (rt y) ⟨rc, rk, rw_, rv⟩) = true := fun h =>
              List.any_eq_true.2 ⟨xs[q], List.mem_of_getElem? (i := q) (by rw [List.getElem?_take_of_lt hqk]; exact List.getElem?_eq_getElem hqx), h⟩
            generalize hs : rt xs[q] = s at m0 m1 m2 m3 hnext hhit
            obtain ⟨sc, sk, sw, sv⟩ := s
            simp only at m0 m1 m2 m3 n0 n1 n2 n3
            obtain ⟨sb, hsb⟩ : ∃ sb, sameK ⟨sc, sk, sw, sv⟩ ⟨rc, rk, rw_, rv⟩ = sb := ⟨_, rfl⟩
            have hsm := fun W => sameKey_sum W ⟨sc, sk, sw, sv⟩ ⟨rc, rk, rw_, rv⟩
            unfold Rt.v rateV at hsm
            simp only at hsm
            rw [hsb] at hsm hnext hhit
            have HSM := Lib.hid hsm
            have HNX := Lib.hid hnext
            have HHI := Lib.hid hhit
            have hqI : (q : Int) < (k : Int) := by omega
            have hqL : (q : Int) < (len : Int) := by omega
            clear hany hB2 hxr hnext hhit hs hsb hsm
            go_wp2_with fail
            refine wp_region_T (fun w' => (w'.cell? ⟨b, off + q * 4, none⟩ = some (.string sc) ∧ w'.cell? ⟨b, off + q * 4 + 1, none⟩ = some (.int .i64 sk) ∧ w'.cell? ⟨b, off + q * 4 + 2, none⟩ = some (.int .i64 sw) ∧ w'.cell? ⟨b, off + q * 4 + 3, none⟩ = some (.int .i64 sv)) ∧ w'.cell? ⟨b, off + k * 4, none⟩ = some (.string rc) ∧ w'.cell? ⟨b, off + k * 4 + 1, none⟩ = some (.int .i64 rk) ∧ w'.cell? ⟨b, off + k * 4 + 2, none⟩ = some (.int .i64 rw_) ∧ w'.cell? ⟨b, off + k * 4 + 3, none⟩ = some (.int .i64 rv)) (fun i => i == 8) (by kernel_rfl) ?_
            have hS0 := And.intro (And.intro m0 (And.intro m1 (And.intro m2 m3))) (And.intro n0 (And.intro n1 (And.intro n2 n3)))
            refine wpAnyT_pure (i := 0) (v := ?_) rfl (by kernel_rfl) (by kernel_rfl) (by kernel_rfl) (fun _ _ _ h => h) (by rfl) ?_ ?_
            rotate_left
            · intro w; go_simp; try with_reducible rfl
            simp only [Act.put, List.setIfInBounds_toArray, List.set_cons_zero, List.set_cons_succ, List.getElem_toArray, List.getElem_cons_succ, List.getElem_cons_zero]
            refine wpAnyT_pure (i := 1) (v := ?_) rfl (by kernel_rfl) (by kernel_rfl) (by kernel_rfl) (fun _ _ _ h => h) (by rfl) ?_ ?_
            rotate_left
            · intro w; go_simp; try with_reducible rfl
            simp only [Act.put, List.setIfInBounds_toArray, List.set_cons_zero, List.set_cons_succ, List.getElem_toArray, List.getElem_cons_succ, List.getElem_cons_zero]
            refine wpAnyT_pure (i := 2) (v := ?_) rfl (by kernel_rfl) (by kernel_rfl) (by kernel_rfl) (fun _ _ _ h => h) (by rfl) ?_ ?_
            rotate_left
            · intro w; go_simp; try with_reducible rfl
            simp only [Act.put, List.setIfInBounds_toArray, List.set_cons_zero, List.set_cons_succ, List.getElem_toArray, List.getElem_cons_succ, List.getElem_cons_zero]
            refine wpAnyT_pure (i := 4) (v := ?_) rfl (by kernel_rfl) (by kernel_rfl) (by kernel_rfl) (fun _ _ _ h => h) (by rfl) ?_ ?_
            rotate_left
            · intro w; go_simp; try with_reducible rfl
            simp only [Act.put, List.setIfInBounds_toArray, List.set_cons_zero, List.set_cons_succ, List.getElem_toArray, List.getElem_cons_succ, List.getElem_cons_zero]
            refine wpAnyT_pure (i := 5) (v := ?_) rfl (by kernel_rfl) (by kernel_rfl) (by kernel_rfl) (fun _ _ _ h => h) (by rfl) ?_ ?_
            rotate_left
            · intro w; go_simp; try with_reducible rfl
            simp only [Act.put, List.setIfInBounds_toArray, List.set_cons_zero, List.set_cons_succ, List.getElem_toArray, List.getElem_cons_succ, List.getElem_cons_zero]
            refine wpAnyT_pure (i := 6) (v := ?_) rfl (by kernel_rfl) (by kernel_rfl) (by kernel_rfl) (fun _ _ _ h => h) (by rfl) ?_ ?_
            rotate_left
            · intro w; go_simp; try with_reducible rfl
            simp only [Act.put, List.setIfInBounds_toArray, List.set_cons_zero, List.set_cons_succ, List.getElem_toArray, List.getElem_cons_succ, List.getElem_cons_zero]
            refine wpAnyT_loadW (i := 3) (v := ?_) rfl (by kernel_rfl) (by kernel_rfl) (by kernel_rfl) (by kernel_rfl) (by kernel_rfl) (fun _ _ _ h => h) (Or.inl ⟨by rfl, ?_⟩) hS0 ?_
            rotate_left
            · intro w hSw; obtain ⟨⟨e0, e1, e2, e3⟩, f0, f1, f2, f3⟩ := hSw; go_simp; try with_reducible rfl
            simp only [Act.put, List.setIfInBounds_toArray, List.set_cons_zero, List.set_cons_succ, List.getElem_toArray, List.getElem_cons_succ, List.getElem_cons_zero]
            refine wpAnyT_loadW (i := 7) (v := ?_) rfl (by kernel_rfl) (by kernel_rfl) (by kernel_rfl) (by kernel_rfl) (by kernel_rfl) (fun _ _ _ h => h) (Or.inl ⟨by rfl, ?_⟩) hS0 ?_
            rotate_left
            · intro w hSw; obtain ⟨⟨e0, e1, e2, e3⟩, f0, f1, f2, f3⟩ := hSw; go_simp; try with_reducible rfl
            simp only [Act.put, List.setIfInBounds_toArray, List.set_cons_zero, List.set_cons_succ, List.getElem_toArray, List.getElem_cons_succ, List.getElem_cons_zero]
            refine wpAnyT_one (i := 8) (by kernel_rfl) rfl (by rfl) ?_
            refine wp_enter (f := 20) (args := #[.agg #[.string sc, .int .i64 sk, .int .i64 sw, .int .i64 sv], .agg #[.string rc, .int .i64 rk, .int .i64 rw_, .int .i64 rv]]) (by go_simp) (HSM.out wr.drew) ?_
            rintro e w3 ⟨rfl, hB3⟩
            replace hB3 : Below wr.heap.size wr w3 := (below_drew wr).trans hB3
            have HB3 := Lib.hid hB3
            clear hB3
            refine ⟨_, rfl, fun h => absurd h (by decide), ?_⟩
            try simp only [Act.put, List.setIfInBounds_toArray, List.set_cons_zero, List.set_cons_succ, List.getElem_toArray, List.getElem_cons_succ, List.getElem_cons_zero]
            refine wpAnyT_done (by kernel_rfl) ?_ _
            cases sb
            · go_wp2
              go_roundw
              case rel => exact ⟨q + 1, by omega, by go_num, HNX.out, below_step HB2.out HB3.out⟩
              case measure => simp [intOf]; omega
            · go_wp2
              go_ret
              exact ⟨by rw [HBAD.out (by rw [HST.out, HHI.out (by first | rfl | trivial)]; rfl)]; rfl, below_step HB2.out HB3.out⟩
          · obtain rfl : q = k := by omega
            go_wp2
            go_roundw
            case rel => exact ⟨q + 1, by omega, by go_num, HGOOD.out (by rw [HST.out, HANY.out]; rfl), HB2.out⟩
            case measure => simp [intOf]; omega
    · obtain rfl : k = len := by omega
      have hall := HA.out
      obtain ⟨cb, hcb⟩ : ∃ cb, curB g = cb := ⟨_, rfl⟩
      have hv : validB g xs = (cb && decide ((k : Int) ≤ 1000)) := by
        unfold validB
        rw [HL.out, hall, hcb]
        rfl
      have HV := Lib.hid hv
      clear hall hv
      cases cb
      · go_wp2_with (go_at_call 29; refine (refCurrency_sum _ g hg).mono ?_; rw [hcb]; rintro e w2 ⟨rfl, hw⟩; subst hw)
        all_goals
          go_ret
          exact ⟨by rw [HV.out]; rfl, HB.out⟩
      · go_wp2_with (go_at_call 29; refine (refCurrency_sum _ g hg).mono ?_; rw [hcb]; rintro e w2 ⟨rfl, hw⟩; subst hw)
        all_goals
          go_ret
          exact ⟨by rw [HV.out]; rfl, HB.out⟩
end Go.Proofs.Ytmlekhkgokgpbaa
