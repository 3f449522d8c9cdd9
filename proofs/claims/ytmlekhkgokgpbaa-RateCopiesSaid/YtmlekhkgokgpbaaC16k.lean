/- Layer 16: the reference's Same. -/
import Derived.Test.YtmlekhkgokgpbaaC16j
set_option linter.unusedSimpArgs false
namespace Go.Proofs.Ytmlekhkgokgpbaa
open Go.RowKit Go

def eqR (a b : Rt) : Bool := (a.cur.toList == b.cur.toList) && (a.kind == b.kind) && (a.when_ == b.when_) && (a.val == b.val)
theorem rate_neq (w : World) (c d : ByteArray) (k m u v x y : Int) :
    Sem.run Try.prog (binOp .neq 35 (.agg #[.string c, .int .i64 k, .int .i64 u, .int .i64 x]) (.agg #[.string d, .int .i64 m, .int .i64 v, .int .i64 y])) w = .ok (.bool (!eqR ⟨c, k, u, x⟩ ⟨d, m, v, y⟩)) w := by
  have u3 := Try.underlying3
  have u9 := Try.underlying9
  have hS : Try.prog.underlying 35 = some (.struct (Try.prog.fieldsOf 35)) := by kernel_rfl
  have hp : Try.prog.stoodInHeld 35 = false := by kernel_rfl
  unfold eqR
  rw [run_neq_struct, show (10000 : Nat) = 9999 + 1 from rfl, run_equalIn_agg w 9999 35 _ _ hS hp]
  simp only [Program.fieldsOf, Try.underlying35]
  go_simp
  by_cases h1 : c.toList = d.toList <;> by_cases h2 : k = m <;> by_cases h3 : u = v <;> by_cases h4 : x = y <;> simp [h1, h2, h3, h4]
theorem eqR_iff (a b : Rt) : eqR a b = true ↔ a = b := by
  obtain ⟨c, k, w, v⟩ := a
  obtain ⟨d, m, u, x⟩ := b
  have h := same3_iff ⟨c, k, w⟩ ⟨d, m, u⟩
  unfold same3 at h
  unfold eqR
  rw [Bool.and_eq_true, h]
  simp [and_assoc]

instance : DecidableEq Rt := fun a b => decidable_of_iff (eqR a b = true) (eqR_iff a b)
def sameL (xs ys : List rateT.den) : Bool := decide (xs.map rt = ys.map rt)
set_option maxRecDepth 20000 in
set_option maxHeartbeats 2000000 in
theorem Same16_sum {S T : Nat → Prop} (w : World) (a b : Option Addr) (la ca lb cb : Nat) (xs ys : List rateT.den) (hx : Rd (.sl rateT) S w [.slice a la ca] xs) (hy : Rd (.sl rateT) T w [.slice b lb cb] ys) (hS : ∀ b, S b → b < w.heap.size) (hT : ∀ b, T b → b < w.heap.size) :
    Calls Try.prog 21 #[.slice a la ca, .slice b lb cb] w fun e w' => e = .returned (.bool (sameL xs ys)) ∧ Below w.heap.size w w' := by
  obtain ⟨hl, hc, hm, -⟩ := hx.sl_flat
  obtain ⟨hl2, hc2, hm2, -⟩ := hy.sl_flat
  have HX := Lib.hid hx
  have HY := Lib.hid hy
  have HL := Lib.hid hl
  have HL2 := Lib.hid hl2
  have HS := Lib.hid hS
  have HT := Lib.hid hT
  have hgd : Try.prog.eqGuardType Try.prog.depth 35 = false := by kernel_rfl
  clear hx hy hl hl2 hS hT
  by_cases hlab : la = lb
  · subst hlab
    go_enter Try.func21, Try.ntmps21
    go_wp2
    go_loopw [5] (fun i wr => ∃ (k : Nat), k ≤ la ∧ i = .int .i64 k ∧ (xs.take k).map rt = (ys.take k).map rt ∧ Below w.heap.size w wr) (fun i _ => la - (intOf i).toNat)
    case atStart => exact ⟨0, Nat.zero_le _, rfl, rfl, Below.refl _ _⟩
    case round =>
      obtain ⟨k, hk, rfl, heq, hB⟩ := hrel
      by_cases hlt : k < la
      · have hkx : k < xs.length := by rw [HL.out]; exact hlt
        have hky : k < ys.length := by rw [HL2.out]; exact hlt
        obtain ⟨b1, o1, rfl, -, m0, m1, m2, m3, -⟩ := rate_at (HX.out.keep (w' := wr) (S' := S) (fun b hb => hB.block b (HS.out b hb)) (fun _ h => h)) k hkx
        obtain ⟨b2, o2, rfl, -, n0, n1, n2, n3, -⟩ := rate_at (HY.out.keep (w' := wr) (S' := T) (fun b hb => hB.block b (HT.out b hb)) (fun _ h => h)) k hky
        have hgood : eqR (rt xs[k]) (rt ys[k]) = true → (xs.take (k + 1)).map rt = (ys.take (k + 1)).map rt := fun h => by
          rw [List.take_succ_eq_append_getElem hkx, List.take_succ_eq_append_getElem hky, List.map_append, List.map_append, heq]
          simp [(eqR_iff _ _).1 h]
        have hbad : eqR (rt xs[k]) (rt ys[k]) = false → sameL xs ys = false := fun h => by
          refine decide_eq_false fun e => ?_
          have h2 := congrArg (fun l => l[k]?) e
          simp only [List.getElem?_map, List.getElem?_eq_getElem hkx, List.getElem?_eq_getElem hky, Option.map_some, Option.some.injEq] at h2
          rw [(eqR_iff _ _).2 h2] at h
          cases h
        generalize rt xs[k] = r at m0 m1 m2 m3 hgood hbad
        generalize rt ys[k] = s at n0 n1 n2 n3 hgood hbad
        obtain ⟨rc, rk, rw_, rv⟩ := r
        obtain ⟨sc, sk, sw, sv⟩ := s
        simp only at m0 m1 m2 m3 n0 n1 n2 n3
        have hne := fun W => rate_neq W rc sc rk sk rw_ sw rv sv
        obtain ⟨eb, heb⟩ : ∃ eb, eqR ⟨rc, rk, rw_, rv⟩ ⟨sc, sk, sw, sv⟩ = eb := ⟨_, rfl⟩
        rw [heb] at hne hgood hbad
        have HG := Lib.hid hgood
        have HBAD := Lib.hid hbad
        have HB := Lib.hid hB
        have hkI : (k : Int) < (la : Int) := by omega
        clear heq hgood hbad heb hB
        go_wp2_with fail
        refine wp_region_T (fun w' => (w'.cell? ⟨b1, o1 + k * 4, none⟩ = some (.string rc) ∧ w'.cell? ⟨b1, o1 + k * 4 + 1, none⟩ = some (.int .i64 rk) ∧ w'.cell? ⟨b1, o1 + k * 4 + 2, none⟩ = some (.int .i64 rw_) ∧ w'.cell? ⟨b1, o1 + k * 4 + 3, none⟩ = some (.int .i64 rv)) ∧ w'.cell? ⟨b2, o2 + k * 4, none⟩ = some (.string sc) ∧ w'.cell? ⟨b2, o2 + k * 4 + 1, none⟩ = some (.int .i64 sk) ∧ w'.cell? ⟨b2, o2 + k * 4 + 2, none⟩ = some (.int .i64 sw) ∧ w'.cell? ⟨b2, o2 + k * 4 + 3, none⟩ = some (.int .i64 sv)) (fun _ => false) (by kernel_rfl) ?_
        have hS0 := And.intro (And.intro m0 (And.intro m1 (And.intro m2 m3))) (And.intro n0 (And.intro n1 (And.intro n2 n3)))
        refine wpAnyT_pure (i := 0) (v := ?_) rfl (by kernel_rfl) (by kernel_rfl) (by kernel_rfl) (fun _ _ _ h => h) (by rfl) ?_ ?_
        rotate_left
        · intro w; go_simp; try with_reducible rfl
        simp only [Act.put, List.setIfInBounds_toArray, List.set_cons_zero, List.set_cons_succ, List.getElem_toArray, List.getElem_cons_succ, List.getElem_cons_zero]
        refine wpAnyT_pure (i := 1) (v := ?_) rfl (by kernel_rfl) (by kernel_rfl) (by kernel_rfl) (fun _ _ _ h => h) (by rfl) ?_ ?_
        rotate_left
        · intro w; go_simp; try with_reducible rfl
        simp only [Act.put, List.setIfInBounds_toArray, List.set_cons_zero, List.set_cons_succ, List.getElem_toArray, List.getElem_cons_succ, List.getElem_cons_zero]
        refine wpAnyT_pure (i := 2) (v := ?_) rfl (by kernel_rfl) (by kernel_rfl) (by kernel_rfl) (fun _ _ _ h => h) (by rfl) ?_ ?_
        rotate_left
        · intro w; go_simp; try with_reducible rfl
        simp only [Act.put, List.setIfInBounds_toArray, List.set_cons_zero, List.set_cons_succ, List.getElem_toArray, List.getElem_cons_succ, List.getElem_cons_zero]
        refine wpAnyT_pure (i := 4) (v := ?_) rfl (by kernel_rfl) (by kernel_rfl) (by kernel_rfl) (fun _ _ _ h => h) (by rfl) ?_ ?_
        rotate_left
        · intro w; go_simp; try with_reducible rfl
        simp only [Act.put, List.setIfInBounds_toArray, List.set_cons_zero, List.set_cons_succ, List.getElem_toArray, List.getElem_cons_succ, List.getElem_cons_zero]
        refine wpAnyT_pure (i := 5) (v := ?_) rfl (by kernel_rfl) (by kernel_rfl) (by kernel_rfl) (fun _ _ _ h => h) (by rfl) ?_ ?_
        rotate_left
        · intro w; go_simp; try with_reducible rfl
        simp only [Act.put, List.setIfInBounds_toArray, List.set_cons_zero, List.set_cons_succ, List.getElem_toArray, List.getElem_cons_succ, List.getElem_cons_zero]
        refine wpAnyT_pure (i := 6) (v := ?_) rfl (by kernel_rfl) (by kernel_rfl) (by kernel_rfl) (fun _ _ _ h => h) (by rfl) ?_ ?_
        rotate_left
        · intro w; go_simp; try with_reducible rfl
        simp only [Act.put, List.setIfInBounds_toArray, List.set_cons_zero, List.set_cons_succ, List.getElem_toArray, List.getElem_cons_succ, List.getElem_cons_zero]
        refine wpAnyT_loadW (i := 3) (v := ?_) rfl (by kernel_rfl) (by kernel_rfl) (by kernel_rfl) (by kernel_rfl) (by kernel_rfl) (fun _ _ _ h => h) (Or.inl ⟨by rfl, ?_⟩) hS0 ?_
        rotate_left
        · intro w hSw; obtain ⟨⟨e0, e1, e2, e3⟩, f0, f1, f2, f3⟩ := hSw; go_simp; try with_reducible rfl
        simp only [Act.put, List.setIfInBounds_toArray, List.set_cons_zero, List.set_cons_succ, List.getElem_toArray, List.getElem_cons_succ, List.getElem_cons_zero]
        refine wpAnyT_loadW (i := 7) (v := ?_) rfl (by kernel_rfl) (by kernel_rfl) (by kernel_rfl) (by kernel_rfl) (by kernel_rfl) (fun _ _ _ h => h) (Or.inl ⟨by rfl, ?_⟩) hS0 ?_
        rotate_left
        · intro w hSw; obtain ⟨⟨e0, e1, e2, e3⟩, f0, f1, f2, f3⟩ := hSw; go_simp; try with_reducible rfl
        simp only [Act.put, List.setIfInBounds_toArray, List.set_cons_zero, List.set_cons_succ, List.getElem_toArray, List.getElem_cons_succ, List.getElem_cons_zero]
        refine wpAnyT_pure (i := 8) (v := ?_) rfl (by kernel_rfl) (by kernel_rfl) (by kernel_rfl) (fun _ _ _ h => h) (by rfl) ?_ ?_
        rotate_left
        · intro w; go_simp; try with_reducible rfl
        simp only [Act.put, List.setIfInBounds_toArray, List.set_cons_zero, List.set_cons_succ, List.getElem_toArray, List.getElem_cons_succ, List.getElem_cons_zero]
        refine wpAnyT_done (by kernel_rfl) ?_ _
        cases eb
        · go_wp2
          go_ret
          exact ⟨by rw [HBAD.out (by first | rfl | trivial)]; rfl, HB.out.drew⟩
        · go_wp2
          go_roundw
          case rel => exact ⟨k + 1, by omega, by go_num, HG.out (by first | rfl | trivial), HB.out.drew⟩
          case measure => simp [intOf]; omega
      · obtain rfl : k = la := by omega
        have hv : sameL xs ys = true := by
          rw [List.take_of_length_le (by rw [HL.out]; exact Nat.le_refl _), List.take_of_length_le (by rw [HL2.out]; exact Nat.le_refl _)] at heq
          exact decide_eq_true heq
        have HV := Lib.hid hv
        clear hv heq
        go_wp2
        go_ret
        exact ⟨by rw [HV.out]; rfl, hB⟩
  · have hne : ((la : Int) != (lb : Int)) = true := by simp; omega
    have hv : sameL xs ys = false := decide_eq_false fun e => by
      have := congrArg List.length e
      rw [List.length_map, List.length_map, HL.out, HL2.out] at this
      exact hlab this
    have HV := Lib.hid hv
    clear hv
    go_enter Try.func21, Try.ntmps21
    go_wp2
    go_ret
    exact ⟨by rw [HV.out]; rfl, Below.refl _ _⟩
end Go.Proofs.Ytmlekhkgokgpbaa
