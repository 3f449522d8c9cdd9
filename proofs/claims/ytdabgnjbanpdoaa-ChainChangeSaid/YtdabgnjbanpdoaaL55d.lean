/- Layer 55: the walk of ChainChange. -/
import Derived.Test.YtdabgnjbanpdoaaC55e
import Derived.Test.YtdabgnjbanpdoaaP55
import Derived.Test.YtdabgnjbanpdoaaRead
namespace Go.Proofs.Ytdabgnjbanpdoaa
open Go.RowKit Go Go.Shelf

theorem info_bytes : (Try.prog.info? 31).map (fun i => (i.zero, i.size, i.bytes)) = some (some (.slice none 0 0), 1, 24) := by kernel_rfl

theorem linksI_at (rs : List (List Int)) (j : Nat) (h : j < rs.length) : (linksI rs)[j]?.getD 0 = headI (rs.take (j + 1)) := linksI_get rs j h

set_option maxHeartbeats 2000000 in
theorem changeWalk (w : World) (c0 : List Value) (rs : List (List Int)) (r0 : Rd (.sl (.sl (.int .u8))) (fun b => b < w.heap.size) w c0 rs) (c1 : List Value) (ats : Int × Int × Unit) (r1 : Rd (.pr (.int .u16) (.pr (.int .u16) .un)) (fun b => b < w.heap.size) w c1 ats)
    (c2 : List Value) (to : Int) (r2 : Rd (.int .u8) (fun b => b < w.heap.size) w c2 to) :
    Calls Try.prog 7 #[valOf (.sl (.sl (.int .u8))) c0, valOf (.pr (.int .u16) (.pr (.int .u16) .un)) c1, valOf (.int .u8) c2] w fun e w' => e = .returned (.bool true) ∧ Below w.heap.size w w' := by
  obtain ⟨t0, t1, ⟨⟩⟩ := ats
  obtain ⟨_, _, rfl, ⟨rfl, tw0⟩, _, _, rfl, ⟨rfl, tw1⟩, rfl⟩ := r1
  obtain ⟨rfl, tw⟩ := r2
  obtain ⟨a, len, cap, rfl, -⟩ := id r0
  simp only [valOf, List.headD_cons, List.cons_append, List.nil_append, List.append_nil] at *
  have R0 := Lib.hid r0
  obtain ⟨hl, hcc, hcm, -⟩ := r0.rows
  have HL := Lib.hid hl
  obtain ⟨ht00, ht01⟩ : 0 ≤ (t0 : Int) ∧ (t0 : Int) ≤ 65535 := bounds_u16 tw0
  obtain ⟨ht10, ht11⟩ : 0 ≤ (t1 : Int) ∧ (t1 : Int) ≤ 65535 := bounds_u16 tw1
  have HTW := Lib.hid tw
  clear r0 hl tw0 tw1 tw
  go_enter Try.func7, Try.ntmps7
  go_wp2_with fail
  have hb0 := heap_alloc_new w (.cells #[.int .u16 t0, .int .u16 t1] 40)
  have hB0 : Below w.heap.size w (w.alloc (.cells #[.int .u16 t0, .int .u16 t1] 40)) := (Below.refl _ w).alloc (Nat.le_refl _) _
  have hsz0 : w.heap.size < (w.alloc (.cells #[.int .u16 t0, .int .u16 t1] 40)).heap.size := by simp
  generalize w.alloc (.cells #[.int .u16 t0, .int .u16 t1] 40) = W0 at *
  refine (awake_any _).mono ?_
  rintro e w1 ⟨rfl, hB1⟩
  have HB1 := Lib.hid (below_step hB0 hB1)
  have R1 := Lib.hid ((R0.out.alloc hB0).alloc hB1)
  have k0 := (hB1.block _ hsz0).trans hb0
  have q0 := cell_of_row w1 w.heap.size 0 _ _ _ k0
  have q1 := cell_of_row w1 w.heap.size 1 _ _ _ k0
  simp only [List.getElem?_toArray, List.getElem?_cons_zero, List.getElem?_cons_succ] at q0 q1
  clear hB0 hB1 R0 hb0 hsz0 k0
  go_wp2_with fail
  refine (few_any _ _ _ _ _ R1.out).mono ?_
  rintro e w2 ⟨rfl, rfl⟩
  cases hf : fewB rs with
  | false =>
    clear hf
    go_wp2
    go_ret
    exact ⟨rfl, HB1.out⟩
  | true =>
    have hf2 : (∀ r ∈ rs, r.length ≤ 300) ∧ rs.length ≤ 20 := by simpa [fewB] using hf
    obtain ⟨hall, hr⟩ := hf2
    have HALL := Lib.hid hall
    clear hf hall
    have hlen : len ≤ 20 := by have := HL.out; omega
    by_cases hl0 : len = 0
    · subst hl0
      go_wp2
      go_ret
      exact ⟨rfl, HB1.out⟩
    · have hl0' : ((len : Int) == 0) = false := by simp; omega
      have hlp : (0 : Int) < (len : Int) := by omega
      obtain ⟨i, hi, hil⟩ : ∃ i : Nat, (t0 : Int) % (len : Int) = (i : Int) ∧ i < len := ⟨((t0 : Int) % (len : Int)).toNat, by rw [Int.toNat_of_nonneg (Int.emod_nonneg _ (by omega))], by have := Int.emod_lt_of_pos (t0 : Int) hlp; omega⟩
      have hir : i < rs.length := by have := HL.out; omega
      obtain ⟨-, -, -, hrows⟩ := R1.out.rows
      obtain ⟨b, off, a', len', cap', rfl, hb, hcell, hrow⟩ := hrows i hir
      obtain ⟨rc, hrc⟩ : ∃ rc, rs[i] = rc := ⟨_, rfl⟩
      rw [hrc] at hrow
      have hrc3 : rc.length ≤ 300 := HALL.out rc (by rw [← hrc]; exact List.getElem_mem hir)
      have HRC : Hid (∃ h : i < rs.length, rs[i] = rc) := ⟨hir, hrc⟩
      obtain ⟨hl', hcc', hcm', -, hwx⟩ := hrow.ints
      have HROW := Lib.hid hrow
      have HL' := Lib.hid hl'
      have HWX := Lib.hid hwx
      have HRC3 := Lib.hid hrc3
      clear hrows hrow hl' hwx hrc hir hrc3
      by_cases hl1 : len' = 0
      · subst hl1
        go_wp2
        go_ret
        exact ⟨rfl, HB1.out⟩
      · have hl1' : ((len' : Int) == 0) = false := by simp; omega
        have hlp' : (0 : Int) < (len' : Int) := by omega
        obtain ⟨k, hk, hkl⟩ : ∃ k : Nat, (t1 : Int) % (len' : Int) = (k : Int) ∧ k < len' := ⟨((t1 : Int) % (len' : Int)).toNat, by rw [Int.toNat_of_nonneg (Int.emod_nonneg _ (by omega))], by have := Int.emod_lt_of_pos (t1 : Int) hlp'; omega⟩
        go_wp2
        simp only [hi]
        go_quiet (fail)
        obtain ⟨w2, hw2⟩ : ∃ w2, w1.drewN nq = w2 := ⟨_, rfl⟩
        have hB2 : Below w1.heap.size w1 w2 := by rw [← hw2]; exact below_drewN (Below.refl _ _) _
        rw [hw2]
        have HB2 := Lib.hid (below_step HB1.out hB2)
        have R2 := Lib.hid (R1.out.alloc hB2)
        have ROW2 := Lib.hid (HROW.out.alloc hB2)
        have hcell2 := cell_below hcell hB2
        have hbs : b < w2.heap.size := Nat.lt_of_lt_of_le hb hB2.size
        clear hw2 hB2 hcell HROW R1 q0 q1 hb
        simp only [hk]
        -- other := append([][]byte{}, records...)
        have hrl : rs.length ≤ 20 := hr
        have hll : len' ≤ 300 := by have h1 := HRC3.out; have h2 := HL'.out; omega
        go_wp2_with (at_builtin; first
          | (refine wpList_copy _ rfl _ _ 23 rfl (e := .sl (.int .u8)) info_bytes Try.underlying23 rfl (by decide) rfl rfl R2.out (fun _ h => h) HL.out (by omega) (by omega) ?_; intro g cv w3 O3 hg3 hB3 hcv hcv2; have HO3 := Lib.hid O3; have HB3 := Lib.hid hB3; have hcell3 := cell_below hcell2 hB3; have hb3 := Nat.lt_of_lt_of_le hbs hB3.size; have ROW3 := Lib.hid (ROW2.out.below hB3 (fun _ h => h)); have hs23 := hB3.size; obtain ⟨hfg3, ug3, hcg3, -⟩ := Owns.at1 (e := .sl (.int .u8)) rfl O3 i HRC.out.1; have hgs3 : g < w3.heap.size := (O3.own g rfl).2; clear O3 hB3 hcell2)
          | go_must (refine wpList_copy _ rfl _ _ 31 rfl (e := .int .u8) info_u8 Try.underlying31 rfl (by decide) rfl rfl ROW3.out (fun _ h => Nat.lt_of_lt_of_le h hs23) HL'.out (by omega) (by omega) ?_; intro g2 cv' w4 O4 hg4 hB4 hcv' hcv2'; have HO4 := Lib.hid O4; have HB4 := Lib.hid hB4; have hcg4 := cell_below hcg3 hB4; have hfg4 := (hB4.frozen (p := ⟨g, i, none⟩) hgs3).trans hfg3; obtain ⟨hfk, uk, hck, -⟩ := Owns.at1 (e := .int .u8) rfl O4 k (by rw [HL'.out]; exact hkl); have hne : ¬ g = g2 := (by omega); have hne' : ¬ g2 = g := (by omega); clear O4 hB4 hcell3 hcg3 hfg3))
        obtain ⟨W6, hW6⟩ : ∃ W6, (w4.setCell ⟨g, i, none⟩ (.slice (some ⟨g2, 0, none⟩) len' cv')).setCell ⟨g2, k, none⟩ (.int .u8 to) = W6 := ⟨_, rfl⟩
        rw [hW6]
        have hB34 := HB4.out
        have hB24 : Below w2.heap.size w2 w4 := below_step HB3.out hB34
        have hg2' : w2.heap.size ≤ g2 := by omega
        have hB26 : Below w2.heap.size w2 W6 := by
          rw [← hW6]
          exact (hB24.setCell (p := ⟨g, i, none⟩) hg3 _).setCell (p := ⟨g2, k, none⟩) hg2' _
        have hsz6 : W6.heap.size = w4.heap.size := by rw [← hW6]; simp [World.setCell]
        have hgs4 : g2 < w4.heap.size := (HO4.out.own g2 rfl).2
        have hkr : k < rc.length := by rw [HL'.out]; exact hkl
        have O46 : Owns (.int .u8) 5 w3.heap.size (fun _ => False) W6 (.slice (some ⟨g2, 0, none⟩) len' cv') (rc.set k to) := by
          rw [← hW6]
          refine Owns.set1 (e := .int .u8) rfl ?_ k hkr (Rd.of_int HTW.out) (fun _ h => h) (fun _ h => h.elim)
          refine (HO4.out.flat rfl).keep (fun b hb => ?_) (by simp [World.setCell])
          rcases hb with hb | hb
          · exact hb.elim
          · cases hb
            exact Below.heap_setCell _ _ _ _ (fun e => hne e.symm)
        have O36 : Owns (.sl (.int .u8)) 31 w2.heap.size (fun b => b < w2.heap.size ∨ b = g2) W6 (.slice (some ⟨g, 0, none⟩) len cv) (rs.set i (rc.set k to)) := by
          refine Owns.set1' (e := .sl (.int .u8)) (w := w4) rfl (HO3.out.keep (w' := w4) (fun b hb => hB34.block b ?_) hB34.size) i (u := .slice (some ⟨g2, 0, none⟩) len' cv') ?_ ?_ ?_ (fun b hb => .inl hb) ?_
          · rcases hb with hb | hb
            · exact Nat.lt_of_lt_of_le hb hs23
            · exact (HO3.out.own b hb).2
          · rw [← hW6]
            exact Below.heap_setCell _ _ _ _ hne
          · intro b hb
            rw [← hW6, Below.heap_setCell _ _ _ _ (show b ≠ g2 by omega)]
            exact Below.heap_setCell _ _ _ _ (show b ≠ g by omega)
          · exact O46.rd _ (fun _ h => h.elim) (fun b hb => .inr (by cases hb; rfl))
          · rintro b (hb | rfl)
            · exact ⟨by omega, by rw [hsz6]; have := hB24.size; omega⟩
            · exact ⟨hne, by rw [hsz6]; exact hgs4⟩
        have RO := Lib.hid (O36.rd (fun b => b < W6.heap.size) (fun b hb => (O36.bound b hb).2) (fun b hb => (O36.own b hb).2))
        have R6 := Lib.hid (R2.out.alloc hB26)
        have HB6 := Lib.hid (below_step HB2.out hB26)
        have HKR := Lib.hid hkr
        have HRS : Hid ((rs.set i (rc.set k to)).length = len ∧ (rs.set i (rc.set k to)).length ≤ 20) := ⟨by rw [List.length_set]; exact HL.out, by rw [List.length_set]; exact hr⟩
        obtain ⟨rs', hrs'⟩ : ∃ rs', rs.set i (rc.set k to) = rs' := ⟨_, rfl⟩
        rw [hrs'] at RO HRS
        have HR' := Lib.hid hrs'
        clear hW6 hB34 hB24 hg2' hB26 hsz6 hgs4 hkr O46 O36 HO3 HO4 HB3 HB4 ROW3 ROW2 R2 HB2 hcg4 hfg4 hck hfk hrs'
        refine (Links_any _ _ _ _ _ (by omega) R6.out).mono ?_
        rintro e w7 ⟨v7, rfl, hO7, hB7⟩
        obtain ⟨av7, lv7, cv7, rfl, hlv7, hlc7, hcm7⟩ := hO7.slice
        obtain rfl : lv7 = len := by rw [hlv7, linksI_length]; exact HL.out
        have R7 := Lib.hid (R6.out.alloc hB7)
        have RO7 := Lib.hid (RO.out.alloc hB7)
        have HB7 := Lib.hid (below_step HB6.out hB7)
        have HA7 := Lib.hid hO7
        clear hO7 hB7 hlv7 R6 RO
        go_wp2_with fail
        refine (Links_any _ _ _ _ _ (by have := HRS.out.2; omega) RO7.out).mono ?_
        rintro e w8 ⟨v8, rfl, hO8, hB8⟩
        obtain ⟨av8, lv8, cv8, rfl, hlv8, hlc8, hcm8⟩ := hO8.slice
        obtain rfl : lv8 = lv7 := by rw [hlv8, linksI_length]; exact HRS.out.1
        have R8 := Lib.hid (R7.out.alloc hB8)
        have RO8 := Lib.hid (RO7.out.alloc hB8)
        have HB8 := Lib.hid (below_step HB7.out hB8)
        have RA := Lib.hid ((HA7.out.below hB8).rd (fun b => b < w8.heap.size) (fun _ h => h.elim) (fun b hb => ((HA7.out.below hB8).own b hb).2))
        have RB := Lib.hid (hO8.rd (fun b => b < w8.heap.size) (fun _ h => h.elim) (fun b hb => (hO8.own b hb).2))
        clear hO8 hB8 hlv8 R7 RO7 HA7
        -- records[i][k]
        obtain ⟨-, -, -, hrows8⟩ := R8.out.rows
        obtain ⟨b8, off8, a8, len8, cap8, hab, hb8, hcell8, hrow8⟩ := hrows8 i HRC.out.1
        rw [HRC.out.2] at hrow8
        obtain ⟨rfl, rfl⟩ : b = b8 ∧ off = off8 := by simp at hab; exact hab
        obtain ⟨hl8, -, -, hat8, -⟩ := hrow8.ints
        obtain rfl : len8 = len' := by rw [← hl8]; exact HL'.out
        obtain ⟨bk, ok, rfl, -, hck8⟩ := hat8 k hkl
        have hxk : rc[k]?.getD 0 = rc[k]'HKR.out := by simp [HKR.out]
        have HXK := Lib.hid hxk
        clear hab hrows8 hrow8 hat8 hl8 hxk
        by_cases heq : to = rc[k]?.getD 0
        · have heq' : (to == rc[k]?.getD 0) = true := by simp [heq]
          have hrr : rs' = rs := by
            obtain ⟨h1, h2⟩ := HRC.out
            have h3 : rc.set k to = rc := by rw [heq, HXK.out]; exact List.set_getElem_self HKR.out
            rw [← HR'.out, h3, ← h2]; exact List.set_getElem_self h1
          have hsame : decide (linksI rs = linksI rs') = true := by rw [hrr]; simp
          have HSM := Lib.hid hsame
          clear heq hrr hsame
          go_wp2_with fail
          refine (sameLinks_any _ _ _ _ _ _ _ _ _ RA.out RB.out).mono ?_
          rintro e w9 ⟨rfl, m, hm⟩
          have hB9 : Below w8.heap.size w8 w9 := by rw [hm]; exact below_drewN (Below.refl _ _) m
          have HB9 := Lib.hid (below_step HB8.out hB9)
          clear hm hB9
          have hsm := HSM.out
          go_wp2
          go_ret
          exact ⟨rfl, HB9.out⟩
        · have heq' : (to == rc[k]?.getD 0) = false := by simp [heq]
          have hlt : ∀ j, j < i → (linksI rs)[j]?.getD 0 = (linksI rs')[j]?.getD 0 := by
            intro j hj
            obtain ⟨h1, h2⟩ := HRC.out
            rw [linksI_at rs j (by omega), linksI_at rs' j (by rw [← HR'.out]; simp; omega), ← HR'.out, headI_set_lt _ _ _ _ (by omega)]
          have hge : ∀ j, i ≤ j → j < rs.length → headI (rs.take (j + 1)) ≠ headI (rs'.take (j + 1)) := by
            intro j hj hjr
            obtain ⟨h1, h2⟩ := HRC.out
            have hw : (Lit.int .u8 (rs[i][k]'(by rw [h2]; exact HKR.out))).wf = true := by
              have := HWX.out (rc[k]'HKR.out) (List.getElem_mem _)
              simpa [h2] using this
            have := headI_set_ge rs i h1 k (by rw [h2]; exact HKR.out) to hw HTW.out (by intro e; apply heq; rw [HXK.out, ← e]; simp [h2]) (j - i) (by omega)
            rw [show i + (j - i) + 1 = j + 1 by omega, h2, HR'.out] at this
            exact this
          have hge' : ∀ j, i ≤ j → j < rs.length → (linksI rs)[j]?.getD 0 ≠ (linksI rs')[j]?.getD 0 := by
            intro j hj hjr
            rw [linksI_at rs j hjr, linksI_at rs' j (by rw [← HR'.out]; simpa using hjr)]
            exact hge j hj hjr
          have hver : matchN (linksI rs) (linksI rs') = i := by
            obtain ⟨h1, h2⟩ := HRC.out
            have hl' : (linksI rs').length = rs.length := by rw [linksI_length, ← HR'.out]; simp
            refine matchN_at _ _ i ?_ (.inr (.inr ⟨by rw [linksI_length]; exact h1, by rw [hl']; exact h1, hge' i (Nat.le_refl _) h1⟩)) (by rw [linksI_length]; omega) (by rw [hl']; omega)
            apply List.ext_getElem (by simp [linksI_length, hl'])
            intro j q1 q2
            have hji : j < i := by simp at q1; omega
            have := hlt j hji
            have z1 : j < (linksI rs).length := by rw [linksI_length]; omega
            have z2 : j < (linksI rs').length := by rw [hl']; omega
            simpa [z1, z2] using this
          have hhd : headI rs ≠ headI rs' := by
            obtain ⟨h1, h2⟩ := HRC.out
            have := hge (rs.length - 1) (by omega) (by omega)
            rwa [show rs.length - 1 + 1 = rs.length by omega, List.take_length, List.take_of_length_le (by rw [← HR'.out]; simp)] at this
          have HLT := Lib.hid hlt
          have HGE := Lib.hid hge'
          have HV := Lib.hid (And.intro hver hhd)
          clear heq hlt hge hge' hver hhd
          go_wp2
          go_loopw [12] (fun jv wr => ∃ j : Nat, j ≤ lv8 ∧ jv = .int .i64 j ∧ Below w8.heap.size w8 wr) (fun jv _ => lv8 - (intOf jv).toNat)
          case atStart => exact ⟨0, Nat.zero_le _, rfl, Below.refl _ _⟩
          case round =>
            obtain ⟨j, hj, rfl, hBr⟩ := hrel
            by_cases hjl : j < lv8
            · obtain ⟨-, -, -, hat, -⟩ := (RA.out.alloc hBr).ints
              obtain ⟨b1, o1, rfl, -, c1⟩ := hat j hjl
              obtain ⟨-, -, -, hat2, -⟩ := (RB.out.alloc hBr).ints
              obtain ⟨b2, o2, rfl, -, c2⟩ := hat2 j hjl
              have HBr := Lib.hid hBr
              clear hat hat2 hBr hck8 hcell8
              by_cases hji : j < i
              · have e1 : ((linksI rs)[j]?.getD 0 == (linksI rs')[j]?.getD 0) = true := beq_iff_eq.2 (HLT.out j hji)
                have e2 : decide ((j : Int) < (i : Int)) = true := by simp; omega
                go_wp2
                go_quiet (fail)
                go_wp2
                go_roundw
                case rel => exact ⟨j + 1, by omega, by go_num, below_drewN HBr.out _⟩
                case measure => simp [intOf]; omega
              · have e1 : ((linksI rs)[j]?.getD 0 == (linksI rs')[j]?.getD 0) = false := beq_eq_false_iff_ne.2 (HGE.out j (by omega) (by have := HL.out; omega))
                have e2 : decide ((j : Int) < (i : Int)) = false := by simp; omega
                go_wp2
                go_quiet (fail)
                go_wp2
                go_roundw
                case rel => exact ⟨j + 1, by omega, by go_num, below_drewN HBr.out _⟩
                case measure => simp [intOf]; omega
            · obtain rfl : j = lv8 := by omega
              have RA9 := Lib.hid (RA.out.alloc hBr)
              have RO9 := Lib.hid (RO8.out.alloc hBr)
              have R9 := Lib.hid (R8.out.alloc hBr)
              have HB9 := Lib.hid (below_step HB8.out hBr)
              clear hBr hck8 hcell8
              go_wp2_with fail
              refine (Verify_any _ _ _ _ _ _ _ _ _ RA9.out RO9.out).mono ?_
              rintro e w10 ⟨rfl, hB10⟩
              have R10 := Lib.hid (R9.out.alloc hB10)
              have RO10 := Lib.hid (RO9.out.alloc hB10)
              have HB10 := Lib.hid (below_step HB9.out hB10)
              clear hB10
              have hv1 : ((matchN (linksI rs) (linksI rs') : Int) == (i : Int)) = true := by rw [HV.out.1]; simp
              go_wp2_with fail
              refine (Head_any _ _ _ _ _ R10.out).mono ?_
              rintro e w11 ⟨rfl, hB11⟩
              have RO11 := Lib.hid (RO10.out.alloc hB11)
              have HB11 := Lib.hid (below_step HB10.out hB11)
              clear hB11
              go_wp2_with fail
              refine (Head_any _ _ _ _ _ RO11.out).mono ?_
              rintro e w12 ⟨rfl, hB12⟩
              have HB12 := Lib.hid (below_step HB11.out hB12)
              clear hB12
              have hv2 : (headI rs != headI rs') = true := bne_iff_ne.2 HV.out.2
              go_wp2
              go_ret
              exact ⟨rfl, HB12.out⟩
end Go.Proofs.Ytdabgnjbanpdoaa
