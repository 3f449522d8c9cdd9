/- Layer 47: the law's few and build: both graphs after any steps. -/
import Derived.Test.YtoimbhdjhhmonaaE47b
import Derived.Test.YtoimbhdjhhmonaaRead
set_option linter.unusedSimpArgs false
set_option maxRecDepth 50000
namespace Go.Proofs.Ytoimbhdjhhmonaa
open Go.RowKit Go

abbrev stepT : Ty := .pr cellT (.pr (.sl cellT) (.pr .bool .un))
theorem map_d_c4 (l : List cellT.den) : (l.map c4).map C4.d = l := by
  rw [List.map_map]
  exact (List.map_congr_left (fun x _ => d_c4 x)).trans (List.map_id _)
theorem rd_cells {S : Nat → Prop} {w : World} {cs : List Value} {l : List cellT.den} (h : Rd (.sl cellT) S w cs l) : ∃ a cap, cs = [.slice a (l.map c4).length cap] ∧ Rd (.sl cellT) S w [.slice a (l.map c4).length cap] ((l.map c4).map C4.d) := by
  have h' := h
  obtain ⟨a, n, cap, rfl, hl, -⟩ := h'
  rw [map_d_c4, List.length_map, hl]
  exact ⟨a, cap, rfl, h⟩
def stL (x : stepT.den) : List C4 := x.2.1.map c4
theorem step_at {S : Nat → Prop} {w : World} {a : Option Addr} {len cap : Nat} {xs : List stepT.den} (h : Rd (.sl stepT) S w [.slice a len cap] xs) (i : Nat) (hi : i < xs.length) :
    ∃ b off ra rc, a = some ⟨b, off, none⟩ ∧ S b ∧ w.cell? ⟨b, off + i * 6, none⟩ = some (.int .i64 (c4 xs[i].1).st) ∧ w.cell? ⟨b, off + i * 6 + 1, none⟩ = some (.int .i64 (c4 xs[i].1).en) ∧ w.cell? ⟨b, off + i * 6 + 2, none⟩ = some (.int .i64 (c4 xs[i].1).ot) ∧ w.cell? ⟨b, off + i * 6 + 3, none⟩ = some (.int .i64 (c4 xs[i].1).pe) ∧
      w.cell? ⟨b, off + i * 6 + 4, none⟩ = some (.slice ra (stL xs[i]).length rc) ∧ w.cell? ⟨b, off + i * 6 + 5, none⟩ = some (.bool xs[i].2.2.1) ∧ Rd (.sl cellT) S w [.slice ra (stL xs[i]).length rc] ((stL xs[i]).map C4.d) ∧ (c4 xs[i].1).ok := by
  obtain ⟨hl, -, -, vs, hr, hor⟩ := h.sl_flat
  obtain ⟨c, hc, hcc, hrd⟩ := hr.at_ i hi
  rcases hor with h0 | ⟨b, off, rfl, hb, hcell⟩
  · omega
  · generalize xs[i] = s at hrd ⊢
    obtain ⟨⟨s1, s2, s3, s4, ⟨⟩⟩, sl, sb, ⟨⟩⟩ := s
    obtain ⟨d1, r1, rfl, hcr, d2, r2, rfl, hsl, d3, r3, rfl, rfl, rfl⟩ := hrd
    obtain ⟨x1, q1, rfl, ⟨rfl, h1⟩, x2, q2, rfl, ⟨rfl, h2⟩, x3, q3, rfl, ⟨rfl, h3⟩, x4, q4, rfl, ⟨rfl, h4⟩, rfl⟩ := hcr
    obtain ⟨ra, rc, rfl, hsl2⟩ := rd_cells hsl
    refine ⟨b, off, ra, rc, rfl, hb, ?_, ?_, ?_, ?_, ?_, ?_, hsl2, ⟨h1, h2, h3, h4⟩⟩
    · rw [show off + i * 6 = off + (i * stepT.sz + 0) from rfl]; exact hcell _ _ (hcc 0 _ rfl)
    · rw [show off + i * 6 + 1 = off + (i * stepT.sz + 1) from rfl]; exact hcell _ _ (hcc 1 _ rfl)
    · rw [show off + i * 6 + 2 = off + (i * stepT.sz + 2) from rfl]; exact hcell _ _ (hcc 2 _ rfl)
    · rw [show off + i * 6 + 3 = off + (i * stepT.sz + 3) from rfl]; exact hcell _ _ (hcc 3 _ rfl)
    · rw [show off + i * 6 + 4 = off + (i * stepT.sz + 4) from rfl]; exact hcell _ _ (hcc 4 _ rfl)
    · rw [show off + i * 6 + 5 = off + (i * stepT.sz + 5) from rfl]; exact hcell _ _ (hcc 5 _ rfl)
def fewB (xs : List stepT.den) : Bool := xs.all (fun s => decide ((stL s).length ≤ 30)) && decide (xs.length ≤ 30)
set_option maxHeartbeats 1000000 in
theorem few47 {S : Nat → Prop} (w : World) (a : Option Addr) (len cap : Nat) (xs : List stepT.den) (hx : Rd (.sl stepT) S w [.slice a len cap] xs) (hS : ∀ b, S b → b < w.heap.size) :
    Calls Try.prog 10 #[.slice a len cap] w fun e w' => e = .returned (.bool (fewB xs)) ∧ Below w.heap.size w w' := by
  have HL := Lib.hid (show xs.length = len from hx.sl_flat.1)
  have hlm : len ≤ 9223372036854775807 := Nat.le_trans hx.sl_flat.2.1 hx.sl_flat.2.2.1
  have HX := Lib.hid hx
  have HS := Lib.hid hS
  clear hx hS
  go_enter Try.func10, Try.ntmps10
  go_wp2_with fail
  go_loopw [3] (fun i wr => ∃ (k : Nat), k ≤ len ∧ i = .int .i64 k ∧ (xs.take k).all (fun s => decide ((stL s).length ≤ 30)) = true ∧ Below w.heap.size w wr) (fun i _ => len - (intOf i).toNat)
  case atStart => exact ⟨0, Nat.zero_le _, rfl, rfl, Below.refl _ _⟩
  obtain ⟨k, hk, rfl, hall, hB⟩ := hrel
  have HALL := Lib.hid hall
  have HB := Lib.hid hB
  clear hall
  by_cases hlt : k < len
  · have hkI : (k : Int) < (len : Int) := by omega
    have hkx : k < xs.length := by rw [HL.out]; exact hlt
    obtain ⟨b, o, ra, rc, rfl, -, -, -, -, -, m4, -, hrr, -⟩ := step_at (HX.out.below hB HS.out) k hkx
    have HST := Lib.hid (show (xs.take (k + 1)).all (fun s => decide ((stL s).length ≤ 30)) = decide ((stL xs[k]).length ≤ 30) from by
      rw [List.take_succ_eq_append_getElem hkx, List.all_append, HALL.out]
      simp)
    have HNO := Lib.hid (show ¬ (stL xs[k]).length ≤ 30 → fewB xs = false from fun h => by
      unfold fewB
      rw [show xs.all (fun s => decide ((stL s).length ≤ 30)) = false from by
        rw [List.all_eq_false]
        exact ⟨xs[k], List.getElem_mem hkx, by simp; omega⟩]
      rfl)
    generalize stL xs[k] = yl at m4 hrr HST HNO
    have HLT := Lib.hid hlt
    have hym : yl.length ≤ 9223372036854775807 := Nat.le_trans ((rd_len hrr) ▸ hrr.sl_flat.2.1) hrr.sl_flat.2.2.1
    clear hrr hB hkx hlt
    by_cases hy : yl.length ≤ 30
    · have hyI : ¬ ((30 : Int) < (yl.length : Int)) := by omega
      have HST2 := Lib.hid (show (xs.take (k + 1)).all (fun s => decide ((stL s).length ≤ 30)) = true from by rw [HST.out, decide_eq_true hy])
      go_wp2_with fail
      go_roundw
      case rel => exact ⟨k + 1, HLT.out, by go_num, HST2.out, HB.out⟩
      case measure => simp [intOf]; try omega
    · have hyI : (30 : Int) < (yl.length : Int) := by omega
      have HN := Lib.hid (HNO.out hy)
      go_wp2_with fail
      go_ret
      exact ⟨by rw [HN.out]; rfl, HB.out⟩
  · obtain rfl : k = len := by omega
    have hall := HALL.out
    rw [List.take_of_length_le (by rw [HL.out]; exact Nat.le_refl _)] at hall
    have HF := Lib.hid (show fewB xs = decide (k ≤ 30) from by unfold fewB; rw [hall, HL.out]; rfl)
    clear hall hB
    by_cases hy : k ≤ 30
    · have hyI : (k : Int) ≤ 30 := by omega
      have HF2 := Lib.hid (show fewB xs = true from by rw [HF.out, decide_eq_true hy])
      go_wp2_with fail
      go_ret
      exact ⟨by rw [HF2.out]; rfl, HB.out⟩
    · have hyI : ¬ (k : Int) ≤ 30 := by omega
      have HF2 := Lib.hid (show fewB xs = false from by rw [HF.out, decide_eq_false hy])
      go_wp2_with fail
      go_ret
      exact ⟨by rw [HF2.out]; rfl, HB.out⟩
/-- Both graphs. -/
structure BG (F : Nat → Nat) (w : World) (p mr ms n K m : Nat) (G : List En4) (ha : Option Addr) (hc : Nat) : Prop where
  dep : DepI F w p mr ms n K (lkG G)
  ref : Rd (.sl entT) (fun b => b < w.heap.size ∧ F b = 0) w [.slice ha G.length hc] (G.map entD)
  gi : GI m G
  nle : n ≤ m
  kle : K ≤ 400 * m
theorem BG.below {F : Nat → Nat} {w w' : World} {p mr ms n K m : Nat} {G : List En4} {ha : Option Addr} {hc : Nat} (h : BG F w p mr ms n K m G ha hc) (hB : Below w.heap.size w w') : BG F w' p mr ms n K m G ha hc :=
  ⟨h.dep.below hB, (h.ref.below hB (fun b hb => hb.1)).keep (fun _ _ => rfl) (fun b hb => ⟨Nat.lt_of_lt_of_le hb.1 hB.size, hb.2⟩), h.gi, h.nle, h.kle⟩
/-- What has turned in the graph alone leaves the rest. -/
theorem gr_below0 {F : Nat → Nat} {w0 w w' : World} (h : Below w0.heap.size w0 w) (hF : ∀ b, b < w0.heap.size → F b = 0) (hg : Gr (fun b => F b ≠ 0) w w') : Below w0.heap.size w0 w' :=
  h.trans (hg.below (fun b e => by
    by_cases hb : w0.heap.size ≤ b
    · exact hb
    · exact absurd (hF b (by omega)) e) h.size)
theorem rd_gr0 {e : Ty} {F F' : Nat → Nat} {w w' : World} {cs : List Value} {x : e.den} (h : Rd e (fun b => b < w.heap.size ∧ F b = 0) w cs x) (hg : Gr (fun b => F b ≠ 0) w w') (hF : ∀ b, b < w.heap.size → F' b = F b) : Rd e (fun b => b < w'.heap.size ∧ F' b = 0) w' cs x :=
  (h.keep (fun b hb => hg.block b hb.1 (fun e => e hb.2)) (fun b hb => ⟨Nat.lt_of_lt_of_le hb.1 hg.size, (hF b hb.1).trans hb.2⟩))
theorem setCode_vcode {r : Bool} {n : Nat} {c : C4} {l : List C4} (hl : l.length ≤ 200) (hn : n < 5000) : setCode r n c l = vcode c l := by
  unfold setCode vcode
  split
  · rfl
  · rw [if_neg]
    rintro (h | ⟨-, h⟩) <;> omega
def BuildP (w : World) (m : Nat) (e : Ending) (w' : World) : Prop :=
  ∃ (F : Nat → Nat) (p mr ms n K : Nat) (G : List En4) (ha : Option Addr) (hc : Nat), e = .returned (.tuple #[.pointer (some ⟨p, 0, none⟩), .slice ha G.length hc, .bool true]) ∧ BG F w' p mr ms n K m G ha hc ∧ (∀ b, b < w.heap.size → F b = 0) ∧ Below w.heap.size w w'
set_option maxHeartbeats 4000000 in
theorem build47 {S : Nat → Prop} (w : World) (a : Option Addr) (len cap : Nat) (xs : List stepT.den) (hx : Rd (.sl stepT) S w [.slice a len cap] xs) (hS : ∀ b, S b → b < w.heap.size) (hfew : fewB xs = true) :
    Calls Try.prog 11 #[.slice a len cap] w (BuildP w len) := by
  have HL := Lib.hid (show xs.length = len from hx.sl_flat.1)
  have hlm : len ≤ 30 := by
    unfold fewB at hfew
    rw [Bool.and_eq_true] at hfew
    have := of_decide_eq_true hfew.2
    rw [HL.out] at this
    exact this
  have HYL := Lib.hid (show ∀ k (hk : k < xs.length), (stL xs[k]).length ≤ 30 from fun k hk => by
    unfold fewB at hfew
    rw [Bool.and_eq_true, List.all_eq_true] at hfew
    exact of_decide_eq_true (hfew.1 _ (List.getElem_mem hk)))
  have HX := Lib.hid hx
  have HS := Lib.hid hS
  have HN := Lib.hid (new47 w)
  clear hx hS hfew
  go_enter Try.func11, Try.ntmps11
  go_wp2_with fail
  refine HN.out.mono ?_
  rintro e w1 ⟨p, mr, ms, F0, rfl, hB1, hI1, hF1⟩
  have HB1 := Lib.hid hB1
  have HI1 := Lib.hid hI1
  have HF1 := Lib.hid hF1
  clear hB1 hI1 hF1 HN
  go_wp2_with fail
  go_loopw [6, 7] (fun hv iv wr => ∃ (k : Nat) (F : Nat → Nat) (n K : Nat) (G : List En4) (ha : Option Addr) (hc : Nat), k ≤ len ∧ iv = .int .i64 k ∧ hv = .slice ha G.length hc ∧ BG F wr p mr ms n K k G ha hc ∧ (∀ b, b < w.heap.size → F b = 0) ∧ Below w.heap.size w wr) (fun _ iv _ => len - (intOf iv).toNat)
  case atStart => exact ⟨0, F0, 0, 0, [], none, 0, Nat.zero_le _, rfl, rfl, ⟨HI1.out, ⟨none, 0, 0, rfl, rfl, Nat.le_refl _, by decide, .inl rfl⟩, GI.nil, Nat.le_refl _, Nat.le_refl _⟩, HF1.out, HB1.out⟩
  obtain ⟨k, F, n, K, G, ha, hc, hk, rfl, rfl, hG, hF, hB⟩ := hrel
  have HG := Lib.hid hG
  have HF := Lib.hid hF
  have HB := Lib.hid hB
  clear hG hF
  by_cases hlt : k < len
  · have hkI : (k : Int) < (len : Int) := by omega
    have hkx : k < xs.length := by rw [HL.out]; exact hlt
    obtain ⟨b, o, ra, rc, rfl, hbS, m0, m1, m2, m3, m4, m5, hrr, hco⟩ := step_at HX.out k hkx
    have hYL := HYL.out k hkx
    generalize xs[k] = x at m0 m1 m2 m3 m4 m5 hrr hco hYL
    obtain ⟨l, hl⟩ : ∃ l, stL x = l := ⟨_, rfl⟩
    obtain ⟨c, hc'⟩ : ∃ c, c4 x.1 = c := ⟨_, rfl⟩
    obtain ⟨rm, hrm⟩ : ∃ c, x.2.2.1 = c := ⟨_, rfl⟩
    rw [hl] at m4 hrr hYL
    rw [hc'] at m0 m1 m2 m3 hco
    rw [hrm] at m5
    have HYLL := Lib.hid hYL
    have HRR := Lib.hid hrr
    have HCO := Lib.hid hco
    obtain ⟨c1, c2, c3, c4'⟩ := c
    simp only at m0 m1 m2 m3
    have hbl := HS.out b hbS
    have HCC := Lib.hid (show Cells [(⟨b, o + k * 6, none⟩, .int .i64 c1), (⟨b, o + k * 6 + 1, none⟩, .int .i64 c2), (⟨b, o + k * 6 + 2, none⟩, .int .i64 c3), (⟨b, o + k * 6 + 3, none⟩, .int .i64 c4'), (⟨b, o + k * 6 + 4, none⟩, .slice ra l.length rc), (⟨b, o + k * 6 + 5, none⟩, .bool rm)] w from ⟨m0, m1, m2, m3, m4, m5, trivial⟩)
    have HCL := Lib.hid (show CellsLt w.heap.size [(⟨b, o + k * 6, none⟩, .int .i64 c1), (⟨b, o + k * 6 + 1, none⟩, .int .i64 c2), (⟨b, o + k * 6 + 2, none⟩, .int .i64 c3), (⟨b, o + k * 6 + 3, none⟩, .int .i64 c4'), (⟨b, o + k * 6 + 4, none⟩, .slice ra l.length rc), (⟨b, o + k * 6 + 5, none⟩, .bool rm)] from ⟨hbl, hbl, hbl, hbl, hbl, hbl, trivial⟩)
    have HLT := Lib.hid hlt
    have HKN := Lib.hid (show k ≤ 30 from by omega)
    clear m0 m1 m2 m3 m4 m5 hl hc' hrm hbl hbS hrr hco hYL hkx hlt
    obtain ⟨z0, z1, z2, z3, z4, z5, -⟩ := Cells.belowN hB HCL.out HCC.out
    cases rm
    case true =>
      have HRM := Lib.hid (remove47 wr HG.out.dep ⟨c1, c2, c3, c4'⟩ (HG.out.dep.nodup HG.out.gi _) HCO.out)
      unfold C4.v at HRM
      simp only at HRM
      go_wp2_with fail
      refine HRM.out.mono ?_
      rintro e w2 ⟨he, h1, h2⟩
      obtain ⟨rb, hrb⟩ : ∃ x, (lkG G ⟨c1, c2, c3, c4'⟩).isSome = x := ⟨_, rfl⟩
      rw [hrb] at he h1 h2
      have HRB := Lib.hid hrb
      have hg2 : BG F w2 p mr ms (if rb = true then n - 1 else n) K (k + 1) (delG G ⟨c1, c2, c3, c4'⟩) ha hc → True := fun _ => trivial
      clear hg2 hrb z0 z1 z2 z3 z4 z5
      have HDEP2 := Lib.hid (show DepI F w2 p mr ms (if rb = true then n - 1 else n) K (lkG (delG G ⟨c1, c2, c3, c4'⟩)) ∧ Gr (fun b => F b ≠ 0) wr w2 from by
        cases rb
        · have hb := h1 rfl
          have hn : lkG G ⟨c1, c2, c3, c4'⟩ = none := by
            have := HRB.out
            cases hl : lkG G ⟨c1, c2, c3, c4'⟩ with
            | none => rfl
            | some l => rw [hl] at this; cases this
          rw [delG_none hn]
          exact ⟨HG.out.dep.below hb, Gr.of_below hb⟩
        · obtain ⟨hg, hd⟩ := h2 rfl
          refine ⟨?_, hg⟩
          have hfe : (fun x => if x = ⟨c1, c2, c3, c4'⟩ then none else lkG G x) = lkG (delG G ⟨c1, c2, c3, c4'⟩) := by
            funext x
            exact (lkG_del G _ x).symm
          rw [hfe] at hd
          exact hd)
      have HRF2 := Lib.hid (rd_gr0 HG.out.ref HDEP2.out.2 (fun _ _ => rfl))
      have HB2 := Lib.hid (gr_below0 HB.out HF.out HDEP2.out.2)
      have HRR2 := Lib.hid (rremove47 w2 ha hc G HRF2.out (fun b hb => hb.1) (by have := HG.out.gi.num; have := HKN.out; omega) ⟨c1, c2, c3, c4'⟩)
      unfold C4.v at HRR2
      simp only at HRR2
      clear h1 h2
      have HE1 := Lib.hid HRB.out
      cases rb
      · simp only [Bool.false_eq_true, if_false] at he
        subst he
        obtain ⟨z0, z1, z2, z3, z4, z5, -⟩ := Cells.belowN HB2.out HCL.out HCC.out
        go_wp2_with fail
        refine HRR2.out.mono ?_
        rintro e w3 ⟨da, dc, he, hB3, hR3⟩
        rw [HE1.out] at he
        simp only [Bool.false_eq_true, if_false] at he
        subst he
        have HB3 := Lib.hid (below_step HB2.out hB3)
        have HBG3 := Lib.hid (show BG F w3 p mr ms n K (k + 1) (delG G ⟨c1, c2, c3, c4'⟩) da dc from ⟨HDEP2.out.1.below hB3, hR3.keep (fun _ _ => rfl) (fun b hb => hb.elim (fun h => ⟨Nat.lt_of_lt_of_le h.1 hB3.size, h.2⟩) (fun h => ⟨h.2, HDEP2.out.1.dom0 h.1⟩)), (HG.out.gi.del _).mono (Nat.le_succ _), by have := HG.out.nle; omega, by have := HG.out.kle; omega⟩)
        clear hB3 hR3 z0 z1 z2 z3 z4 z5
        go_wp2_with fail
        go_roundw
        case rel => exact ⟨k + 1, F, _, _, _, da, dc, HLT.out, by go_num, rfl, HBG3.out, HF.out, HB3.out⟩
        case measure => simp [intOf]; try omega
      · simp only [if_true] at he
        subst he
        obtain ⟨z0, z1, z2, z3, z4, z5, -⟩ := Cells.belowN HB2.out HCL.out HCC.out
        go_wp2_with fail
        refine HRR2.out.mono ?_
        rintro e w3 ⟨da, dc, he, hB3, hR3⟩
        rw [HE1.out] at he
        simp only [if_true] at he
        subst he
        have HB3 := Lib.hid (below_step HB2.out hB3)
        have HBG3 := Lib.hid (show BG F w3 p mr ms (n - 1) K (k + 1) (delG G ⟨c1, c2, c3, c4'⟩) da dc from ⟨HDEP2.out.1.below hB3, hR3.keep (fun _ _ => rfl) (fun b hb => hb.elim (fun h => ⟨Nat.lt_of_lt_of_le h.1 hB3.size, h.2⟩) (fun h => ⟨h.2, HDEP2.out.1.dom0 h.1⟩)), (HG.out.gi.del _).mono (Nat.le_succ _), by have := HG.out.nle; omega, by have := HG.out.kle; omega⟩)
        clear hB3 hR3 z0 z1 z2 z3 z4 z5
        go_wp2_with fail
        go_roundw
        case rel => exact ⟨k + 1, F, _, _, _, da, dc, HLT.out, by go_num, rfl, HBG3.out, HF.out, HB3.out⟩
        case measure => simp [intOf]; try omega
    have hC0 : Cells [(⟨b, o + k * 6, none⟩, .int .i64 c1), (⟨b, o + k * 6 + 1, none⟩, .int .i64 c2), (⟨b, o + k * 6 + 2, none⟩, .int .i64 c3), (⟨b, o + k * 6 + 3, none⟩, .int .i64 c4'), (⟨b, o + k * 6 + 4, none⟩, .slice ra l.length rc)] wr := ⟨z0, z1, z2, z3, z4, trivial⟩
    obtain ⟨vc, hvc⟩ : ∃ x, vcode ⟨c1, c2, c3, c4'⟩ l = x := ⟨_, rfl⟩
    have HVC := Lib.hid hvc
    clear hvc
    go_upto_region 10 with fail
    refine wp_region_T (Cells [(⟨b, o + k * 6, none⟩, .int .i64 c1), (⟨b, o + k * 6 + 1, none⟩, .int .i64 c2), (⟨b, o + k * 6 + 2, none⟩, .int .i64 c3), (⟨b, o + k * 6 + 3, none⟩, .int .i64 c4'), (⟨b, o + k * 6 + 4, none⟩, .slice ra l.length rc)]) (fun i => i == 11) (by kernel_rfl) ?_
    have hSss1 := Cells.drew hC0
    have hB_0_s1 : Below wr.heap.size wr wr.drew := below_drew _
    generalize wr.drew = s1 at hSss1 hB_0_s1 ⊢
    have hB_s1_s1 := Below.refl s1.heap.size s1
    refine wpAnyT_pure (i := 0) (v := ?_) rfl (by kernel_rfl) (by kernel_rfl) (by kernel_rfl) (fun _ _ _ h => h) (by rfl) ?_ ?_
    rotate_left
    · intro w; go_simp; try with_reducible rfl
    simp only [Act.put, rgA, rgB, rgC, rgD, rgE, rgF]
    refine wpAnyT_pure (i := 1) (v := ?_) rfl (by kernel_rfl) (by kernel_rfl) (by kernel_rfl) (fun _ _ _ h => h) (by rfl) ?_ ?_
    rotate_left
    · intro w; go_simp; try with_reducible rfl
    simp only [Act.put, rgA, rgB, rgC, rgD, rgE, rgF]
    refine wpAnyT_pure (i := 2) (v := ?_) rfl (by kernel_rfl) (by kernel_rfl) (by kernel_rfl) (fun _ _ _ h => h) (by rfl) ?_ ?_
    rotate_left
    · intro w; go_simp; try with_reducible rfl
    simp only [Act.put, rgA, rgB, rgC, rgD, rgE, rgF]
    refine wpAnyT_pure (i := 3) (v := ?_) rfl (by kernel_rfl) (by kernel_rfl) (by kernel_rfl) (fun _ _ _ h => h) (by rfl) ?_ ?_
    rotate_left
    · intro w; go_simp; try with_reducible rfl
    simp only [Act.put, rgA, rgB, rgC, rgD, rgE, rgF]
    refine wpAnyT_pure (i := 4) (v := ?_) rfl (by kernel_rfl) (by kernel_rfl) (by kernel_rfl) (fun _ _ _ h => h) (by rfl) ?_ ?_
    rotate_left
    · intro w; go_simp; try with_reducible rfl
    simp only [Act.put, rgA, rgB, rgC, rgD, rgE, rgF]
    refine wpAnyT_pure (i := 6) (v := ?_) rfl (by kernel_rfl) (by kernel_rfl) (by kernel_rfl) (fun _ _ _ h => h) (by rfl) ?_ ?_
    rotate_left
    · intro w; go_simp; try with_reducible rfl
    simp only [Act.put, rgA, rgB, rgC, rgD, rgE, rgF]
    refine wpAnyT_pure (i := 7) (v := ?_) rfl (by kernel_rfl) (by kernel_rfl) (by kernel_rfl) (fun _ _ _ h => h) (by rfl) ?_ ?_
    rotate_left
    · intro w; go_simp; try with_reducible rfl
    simp only [Act.put, rgA, rgB, rgC, rgD, rgE, rgF]
    refine wpAnyT_pure (i := 8) (v := ?_) rfl (by kernel_rfl) (by kernel_rfl) (by kernel_rfl) (fun _ _ _ h => h) (by rfl) ?_ ?_
    rotate_left
    · intro w; go_simp; try with_reducible rfl
    simp only [Act.put, rgA, rgB, rgC, rgD, rgE, rgF]
    refine wpAnyT_pure (i := 9) (v := ?_) rfl (by kernel_rfl) (by kernel_rfl) (by kernel_rfl) (fun _ _ _ h => h) (by rfl) ?_ ?_
    rotate_left
    · intro w; go_simp; try with_reducible rfl
    simp only [Act.put, rgA, rgB, rgC, rgD, rgE, rgF]
    refine wpAnyT_loadW (i := 5) (v := ?_) rfl (by kernel_rfl) (by kernel_rfl) (by kernel_rfl) (by kernel_rfl) (by kernel_rfl) (fun _ _ _ h => h) (Or.inl ⟨by rfl, ?_⟩) hSss1 ?_
    rotate_left
    · intro w hSw; obtain ⟨e0, e1, e2, e3, e4, -⟩ := hSw; go_simp; try with_reducible rfl
    simp only [Act.put, rgA, rgB, rgC, rgD, rgE, rgF]
    refine wpAnyT_loadW (i := 10) (v := ?_) rfl (by kernel_rfl) (by kernel_rfl) (by kernel_rfl) (by kernel_rfl) (by kernel_rfl) (fun _ _ _ h => h) (Or.inl ⟨by rfl, ?_⟩) hSss1 ?_
    rotate_left
    · intro w hSw; obtain ⟨e0, e1, e2, e3, e4, -⟩ := hSw; go_simp; try with_reducible rfl
    simp only [Act.put, rgA, rgB, rgC, rgD, rgE, rgF]
    refine wpAnyT_one (i := 11) (by kernel_rfl) rfl (by rfl) ?_
    have hbP : Below wr.heap.size wr s1 := hB_0_s1.trans ((hB_s1_s1).mono hB_0_s1.size)
    have hbW := below_step HB.out hbP
    have hgp := HG.out.below hbP
    have hst := set47 s1 hgp.dep ⟨c1, c2, c3, c4'⟩ (hgp.dep.nodup hgp.gi _) HCO.out (by have := hgp.kle; have := HKN.out; omega) (by have := hgp.nle; have := HKN.out; omega) ra rc l (HRR.out.below hbW HS.out) (fun b hb => ⟨Nat.lt_of_lt_of_le (HS.out b hb) hbW.size, HF.out b (HS.out b hb)⟩)
    unfold SetP at hst
    rw [setCode_vcode (by have := HYLL.out; omega) (by have := hgp.nle; have := HKN.out; omega), HVC.out] at hst
    unfold C4.v at hst
    simp only at hst
    refine wp_enter (f := 27) (args := #[.pointer (some ⟨p, 0, none⟩), .agg #[.int .i64 c1, .int .i64 c2, .int .i64 c3, .int .i64 c4'], .slice ra l.length rc]) (by go_simp) hst ?_
    rintro e w102 ⟨rfl, h1, h2⟩
    have HZ := Lib.hid (show ∃ (F2 : Nat → Nat) (n2 K2 : Nat), DepI F2 w102 p mr ms n2 K2 (lkG (nextG G ⟨c1, c2, c3, c4'⟩ l)) ∧ Rd (.sl entT) (fun b => b < (w102).heap.size ∧ F2 b = 0) w102 [.slice ha G.length hc] (G.map entD) ∧ (∀ b, b < w.heap.size → F2 b = 0) ∧ Below w.heap.size w w102 ∧ n2 ≤ k + 1 ∧ K2 ≤ 400 * (k + 1) from by
      by_cases hv : vc = 0
      · obtain ⟨hg, F2, hF2, hd⟩ := h2 hv
        have hfe : setR (lkG G) ⟨c1, c2, c3, c4'⟩ l = lkG (nextG G ⟨c1, c2, c3, c4'⟩ l) := by
          funext x
          unfold nextG
          rw [HVC.out, if_pos hv]
          exact (lkG_set G _ l x).symm
        rw [hfe] at hd
        refine ⟨F2, _, _, hd, rd_gr0 hgp.ref hg hF2, fun b hb => (hF2 b (Nat.lt_of_lt_of_le hb hbW.size)).trans (HF.out b hb), gr_below0 hbW HF.out hg, ?_, ?_⟩
        · unfold setM
          have := hgp.nle
          split <;> omega
        · have := hgp.kle
          omega
      · have hb := h1 hv
        have hgn := hgp.below hb
        refine ⟨F, n, K, ?_, hgn.ref, HF.out, below_step hbW hb, by have := hgn.nle; omega, by have := hgn.kle; omega⟩
        unfold nextG
        rw [HVC.out, if_neg hv]
        exact hgn.dep)
    clear hbP hbW hgp hst h1 h2
    refine ⟨_, rfl, fun h => absurd h (by decide), ?_⟩
    try simp only [Act.put, rgA, rgB, rgC, rgD, rgE, rgF]
    refine wpAnyT_pure (i := 12) (v := ?_) rfl (by kernel_rfl) (by kernel_rfl) (by kernel_rfl) (fun _ _ _ h => h) (by rfl) ?_ ?_
    rotate_left
    · intro w; go_simp; try with_reducible rfl
    simp only [Act.put, rgA, rgB, rgC, rgD, rgE, rgF]
    refine wpAnyT_done (by kernel_rfl) ?_ _
    obtain ⟨w2, rfl⟩ : ∃ x, x = w102 := ⟨_, rfl⟩
    clear hC0 z0 z1 z2 z3 z4 z5 hB
    obtain ⟨F2, n2, K2, hd2, hr2, hf2, hB2, hn2, hk2⟩ := HZ.out
    have HD2 := Lib.hid hd2
    have HR2 := Lib.hid hr2
    have HF2 := Lib.hid hf2
    have HB2 := Lib.hid hB2
    have HN2 := Lib.hid (And.intro hn2 hk2)
    obtain ⟨z0, z1, z2, z3, z4, z5, -⟩ := Cells.belowN hB2 HCL.out HCC.out
    have hC1 : Cells [(⟨b, o + k * 6, none⟩, .int .i64 c1), (⟨b, o + k * 6 + 1, none⟩, .int .i64 c2), (⟨b, o + k * 6 + 2, none⟩, .int .i64 c3), (⟨b, o + k * 6 + 3, none⟩, .int .i64 c4'), (⟨b, o + k * 6 + 4, none⟩, .slice ra l.length rc)] w2 := ⟨z0, z1, z2, z3, z4, trivial⟩
    clear HZ hd2 hr2 hf2 hB2 hn2 hk2 z0 z1 z2 z3 z4 z5
    go_upto_region 11 with fail
    refine wp_region_T (Cells [(⟨b, o + k * 6, none⟩, .int .i64 c1), (⟨b, o + k * 6 + 1, none⟩, .int .i64 c2), (⟨b, o + k * 6 + 2, none⟩, .int .i64 c3), (⟨b, o + k * 6 + 3, none⟩, .int .i64 c4'), (⟨b, o + k * 6 + 4, none⟩, .slice ra l.length rc)]) (fun _ => false) (by kernel_rfl) ?_
    have hSss3 := Cells.drew hC1
    have hB_0_s3 : Below w2.heap.size w2 w2.drew := below_drew _
    generalize w2.drew = s3 at hSss3 hB_0_s3 ⊢
    have hB_s3_s3 := Below.refl s3.heap.size s3
    refine wpAnyT_pure (i := 0) (v := ?_) rfl (by kernel_rfl) (by kernel_rfl) (by kernel_rfl) (fun _ _ _ h => h) (by rfl) ?_ ?_
    rotate_left
    · intro w; go_simp; try with_reducible rfl
    simp only [Act.put, rgA, rgB, rgC, rgD, rgE, rgF]
    refine wpAnyT_pure (i := 1) (v := ?_) rfl (by kernel_rfl) (by kernel_rfl) (by kernel_rfl) (fun _ _ _ h => h) (by rfl) ?_ ?_
    rotate_left
    · intro w; go_simp; try with_reducible rfl
    simp only [Act.put, rgA, rgB, rgC, rgD, rgE, rgF]
    refine wpAnyT_pure (i := 2) (v := ?_) rfl (by kernel_rfl) (by kernel_rfl) (by kernel_rfl) (fun _ _ _ h => h) (by rfl) ?_ ?_
    rotate_left
    · intro w; go_simp; try with_reducible rfl
    simp only [Act.put, rgA, rgB, rgC, rgD, rgE, rgF]
    refine wpAnyT_pure (i := 3) (v := ?_) rfl (by kernel_rfl) (by kernel_rfl) (by kernel_rfl) (fun _ _ _ h => h) (by rfl) ?_ ?_
    rotate_left
    · intro w; go_simp; try with_reducible rfl
    simp only [Act.put, rgA, rgB, rgC, rgD, rgE, rgF]
    refine wpAnyT_pure (i := 4) (v := ?_) rfl (by kernel_rfl) (by kernel_rfl) (by kernel_rfl) (fun _ _ _ h => h) (by rfl) ?_ ?_
    rotate_left
    · intro w; go_simp; try with_reducible rfl
    simp only [Act.put, rgA, rgB, rgC, rgD, rgE, rgF]
    refine wpAnyT_pure (i := 6) (v := ?_) rfl (by kernel_rfl) (by kernel_rfl) (by kernel_rfl) (fun _ _ _ h => h) (by rfl) ?_ ?_
    rotate_left
    · intro w; go_simp; try with_reducible rfl
    simp only [Act.put, rgA, rgB, rgC, rgD, rgE, rgF]
    refine wpAnyT_pure (i := 7) (v := ?_) rfl (by kernel_rfl) (by kernel_rfl) (by kernel_rfl) (fun _ _ _ h => h) (by rfl) ?_ ?_
    rotate_left
    · intro w; go_simp; try with_reducible rfl
    simp only [Act.put, rgA, rgB, rgC, rgD, rgE, rgF]
    refine wpAnyT_pure (i := 8) (v := ?_) rfl (by kernel_rfl) (by kernel_rfl) (by kernel_rfl) (fun _ _ _ h => h) (by rfl) ?_ ?_
    rotate_left
    · intro w; go_simp; try with_reducible rfl
    simp only [Act.put, rgA, rgB, rgC, rgD, rgE, rgF]
    refine wpAnyT_pure (i := 9) (v := ?_) rfl (by kernel_rfl) (by kernel_rfl) (by kernel_rfl) (fun _ _ _ h => h) (by rfl) ?_ ?_
    rotate_left
    · intro w; go_simp; try with_reducible rfl
    simp only [Act.put, rgA, rgB, rgC, rgD, rgE, rgF]
    refine wpAnyT_loadW (i := 5) (v := ?_) rfl (by kernel_rfl) (by kernel_rfl) (by kernel_rfl) (by kernel_rfl) (by kernel_rfl) (fun _ _ _ h => h) (Or.inl ⟨by rfl, ?_⟩) hSss3 ?_
    rotate_left
    · intro w hSw; obtain ⟨e0, e1, e2, e3, e4, -⟩ := hSw; go_simp; try with_reducible rfl
    simp only [Act.put, rgA, rgB, rgC, rgD, rgE, rgF]
    refine wpAnyT_loadW (i := 10) (v := ?_) rfl (by kernel_rfl) (by kernel_rfl) (by kernel_rfl) (by kernel_rfl) (by kernel_rfl) (fun _ _ _ h => h) (Or.inl ⟨by rfl, ?_⟩) hSss3 ?_
    rotate_left
    · intro w hSw; obtain ⟨e0, e1, e2, e3, e4, -⟩ := hSw; go_simp; try with_reducible rfl
    simp only [Act.put, rgA, rgB, rgC, rgD, rgE, rgF]
    refine wpAnyT_one (i := 11) (by kernel_rfl) rfl (by rfl) ?_
    have hbP : Below w2.heap.size w2 s3 := hB_0_s3.trans ((hB_s3_s3).mono hB_0_s3.size)
    have hbW := below_step HB2.out hbP
    have hst := rset47 s3 ha hc G (HR2.out.below hbP (fun b hb => hb.1)) (fun b hb => Nat.lt_of_lt_of_le hb.1 hbP.size) (by have := HG.out.gi.num; have := HKN.out; omega) ⟨c1, c2, c3, c4'⟩ HCO.out ra rc l (HRR.out.below hbW HS.out) (fun b hb => Nat.lt_of_lt_of_le (HS.out b hb) hbW.size) (by have := HYLL.out; omega)
    unfold RSetP at hst
    rw [HVC.out] at hst
    unfold C4.v at hst
    simp only at hst
    refine wp_enter (f := 32) (args := #[.slice ha G.length hc, .agg #[.int .i64 c1, .int .i64 c2, .int .i64 c3, .int .i64 c4'], .slice ra l.length rc]) (by go_simp) hst ?_
    rintro e w104 ⟨da, dc, rfl, hX, hR3⟩
    have HB3 := Lib.hid (below_step hbW hX)
    have HBG3 := Lib.hid (show BG F2 w104 p mr ms n2 K2 (k + 1) (nextG G ⟨c1, c2, c3, c4'⟩ l) da dc from ⟨HD2.out.below (hbP.trans (hX.mono hbP.size)), hR3.keep (fun _ _ => rfl) (fun b hb => hb.elim (fun h => ⟨Nat.lt_of_lt_of_le h.1 (Nat.le_trans hbP.size hX.size), h.2⟩) (fun h => ⟨h.2, HD2.out.dom0 (Nat.le_trans hbP.size h.1)⟩)), by
      unfold nextG
      split
      · exact HG.out.gi.set HCO.out (rd_okC HRR.out) HYLL.out
      · exact HG.out.gi.mono (Nat.le_succ _), HN2.out.1, HN2.out.2⟩)
    clear hbP hbW hst hR3
    have hB_s3_w104 := below_step hB_s3_s3 hX
    have hB_w104_w104 := Below.refl w104.heap.size w104
    have hSsw104 := Cells.below hB_s3_w104 hSss3
    clear hX
    refine ⟨_, rfl, fun _ _ => hSsw104, ?_⟩
    try simp only [Act.put, rgA, rgB, rgC, rgD, rgE, rgF]
    refine wpAnyT_pure (i := 12) (v := ?_) rfl (by kernel_rfl) (by kernel_rfl) (by kernel_rfl) (fun _ _ _ h => h) (by rfl) ?_ ?_
    rotate_left
    · intro w; go_simp; try with_reducible rfl
    simp only [Act.put, rgA, rgB, rgC, rgD, rgE, rgF]
    refine wpAnyT_pure (i := 13) (v := ?_) rfl (by kernel_rfl) (by kernel_rfl) (by kernel_rfl) (fun _ _ _ h => h) (by rfl) ?_ ?_
    rotate_left
    · intro w; go_simp; try with_reducible rfl
    simp only [Act.put, rgA, rgB, rgC, rgD, rgE, rgF]
    refine wpAnyT_pure (i := 14) (v := ?_) rfl (by kernel_rfl) (by kernel_rfl) (by kernel_rfl) (fun _ _ _ h => h) (by rfl) ?_ ?_
    rotate_left
    · intro w; go_simp; try with_reducible rfl
    simp only [Act.put, rgA, rgB, rgC, rgD, rgE, rgF]
    refine wpAnyT_pure (i := 15) (v := ?_) rfl (by kernel_rfl) (by kernel_rfl) (by kernel_rfl) (fun _ _ _ h => h) (by rfl) ?_ ?_
    rotate_left
    · intro w; go_simp; try with_reducible rfl
    simp only [Act.put, rgA, rgB, rgC, rgD, rgE, rgF]
    refine wpAnyT_pure (i := 16) (v := ?_) rfl (by kernel_rfl) (by kernel_rfl) (by kernel_rfl) (fun _ _ _ h => h) (by rfl) ?_ ?_
    rotate_left
    · intro w; go_simp; try with_reducible rfl
    simp only [Act.put, rgA, rgB, rgC, rgD, rgE, rgF]
    refine wpAnyT_done (by kernel_rfl) ?_ _
    have hbz := hB_w104_w104
    have HB4 := Lib.hid (below_step HB3.out hbz)
    have HBG4 := Lib.hid (HBG3.out.below hbz)
    clear hbz
    obtain ⟨w3, rfl⟩ : ∃ x, x = w104 := ⟨_, rfl⟩
    clear hC1
    go_wp2_with fail
    go_roundw
    case rel => exact ⟨k + 1, F2, _, _, _, da, dc, HLT.out, by go_num, rfl, HBG4.out, HF2.out, HB4.out⟩
    case measure => simp [intOf]; try omega
  · obtain rfl : k = len := by omega
    clear hB
    go_wp2_with fail
    refine bodyPost_ret (results_tmp3 rfl _ _ _) rfl ?_
    exact ⟨F, p, mr, ms, n, K, G, ha, hc, rfl, HG.out, HF.out, HB.out⟩
end Go.Proofs.Ytoimbhdjhhmonaa

/- Layer 47: the calls on both graphs give the same lists; DepsAffected. -/
set_option linter.unusedSimpArgs false
set_option maxRecDepth 50000
namespace Go.Proofs.Ytoimbhdjhhmonaa
open Go.RowKit Go

open Classical in
noncomputable def affG (G : List En4) (l : List C4) : List C4 := srtC ((G.map (·.1)).filter (fun x => decide (∃ c ∈ l, Rch (rsOf (lkG G)) c x)))
theorem mem_affG {m : Nat} {G : List En4} (hG : GI m G) {l : List C4} {x : C4} : x ∈ affG G l ↔ ∃ c ∈ l, Rch (rsOf (lkG G)) c x := by
  classical
  unfold affG
  rw [mem_srtC, List.mem_filter]
  constructor
  · exact fun h => of_decide_eq_true h.2
  · intro h
    refine ⟨?_, decide_eq_true h⟩
    obtain ⟨c, -, hr⟩ := h
    have hk : ∀ d, rsOf (lkG G) d x = true → x ∈ G.map (·.1) := fun d hd => by
      obtain ⟨e, he, rfl, -⟩ := (rsOf_lkG hG _ _).1 hd
      exact List.mem_map.2 ⟨e, he, rfl⟩
    cases hr with
    | one h1 => exact hk _ h1
    | step _ h1 => exact hk _ h1
theorem srt_affG (G : List En4) (l : List C4) : Srt (affG G l) := srt_srtC _
theorem key_ok {m : Nat} {G : List En4} (hG : GI m G) {x : C4} (h : x ∈ G.map (·.1)) : x.ok := by
  obtain ⟨e, he, rfl⟩ := List.mem_map.1 h
  exact hG.okc e he
theorem affG_ok {m : Nat} {G : List En4} (hG : GI m G) {l : List C4} {x : C4} (h : x ∈ affG G l) : x.ok := by
  unfold affG at h
  rw [mem_srtC, List.mem_filter] at h
  exact key_ok hG h.1
section
variable {F : Nat → Nat} {w : World} {p mr ms n K m : Nat} {G : List En4} {ha : Option Addr} {hc : Nat}
theorem BG.cells (h : BG F w p mr ms n K m G ha hc) (hm : m ≤ 1000) : Calls Try.prog 16 #[.pointer (some ⟨p, 0, none⟩)] w (ReadsP w (cellsG G)) := by
  refine (cells47 w h.dep (by have := h.nle; have := h.kle; omega)).mono ?_
  rintro e w' ⟨v, ys, rfl, hs, ho, hx, -, hsl, hB⟩
  obtain rfl : ys = cellsG G := hs.ext (srt_srtC _) (fun x => ⟨fun hxy => (mem_cellsG h.gi).2 ((hx x (ho x hxy)).1 hxy), fun hxy => (hx x (cellsG_ok h.gi hxy)).2 ((mem_cellsG h.gi).1 hxy)⟩)
  exact ⟨v, rfl, hsl, hB⟩
theorem BG.affected {S : Nat → Prop} (h : BG F w p mr ms n K m G ha hc) (hm : m ≤ 1000) (la : Option Addr) (lcap : Nat) (l : List C4) (hy : Rd (.sl cellT) S w [.slice la l.length lcap] (l.map C4.d)) (hS : ∀ b, S b → b < w.heap.size) (hl : l.length ≤ 1000) :
    Calls Try.prog 13 #[.pointer (some ⟨p, 0, none⟩), .slice la l.length lcap] w (ReadsP w (affG G l)) := by
  refine (affected47 w h.dep (U := G.map (·.1)) (fun c d hd => ?_) (by rw [List.length_map]; have := h.gi.num; omega) la lcap l hy hS hl).mono ?_
  · obtain ⟨e, he, rfl, -⟩ := (rsOf_lkG h.gi _ _).1 hd
    exact List.mem_map.2 ⟨e, he, rfl⟩
  rintro e w' ⟨v, ys, rfl, hs, ho, hx, -, hsl, hB⟩
  obtain rfl : ys = affG G l := hs.ext (srt_affG _ _) (fun x => ⟨fun hxy => (mem_affG h.gi).2 ((hx x (ho x hxy)).1 hxy), fun hxy => (hx x (affG_ok h.gi hxy)).2 ((mem_affG h.gi).1 hxy)⟩)
  exact ⟨v, rfl, hsl, hB⟩
theorem BG.raffected {S : Nat → Prop} (h : BG F w p mr ms n K m G ha hc) (hm : m ≤ 1000) (la : Option Addr) (lcap : Nat) (l : List C4) (hy : Rd (.sl cellT) S w [.slice la l.length lcap] (l.map C4.d)) (hS : ∀ b, S b → b < w.heap.size) :
    Calls Try.prog 14 #[.slice ha G.length hc, .slice la l.length lcap] w (ReadsP w (affG G l)) := by
  refine (raffected47 w ha hc G h.ref (fun b hb => hb.1) h.gi (by have := h.gi.num; omega) la lcap l hy hS).mono ?_
  rintro e w' ⟨v, ys, rfl, hs, hx, hsl, hB⟩
  obtain rfl : ys = affG G l := hs.ext (srt_affG _ _) (fun x => by rw [hx, mem_affG h.gi])
  exact ⟨v, rfl, hsl, hB⟩
theorem BG.reads (h : BG F w p mr ms n K m G ha hc) (c : C4) (hco : c.ok) : Calls Try.prog 17 #[.pointer (some ⟨p, 0, none⟩), c.v] w (ReadsP w ((lkG G c).getD [])) := reads47 w h.dep c hco
theorem BG.same {B B' : Nat} {W : World} {va vb : Option Addr} {vc vd : Nat} {l : List C4} (h1 : SlC B W (.slice va l.length vc) l) (h2 : SlC B' W (.slice vb l.length vd) l) :
    Calls Try.prog 12 #[.slice va l.length vc, .slice vb l.length vd] W fun e w' => e = .returned (.bool true) ∧ Below W.heap.size W w' :=
  same47 W va vc vb vd l h1.rd h2.rd (fun b h => h.2) (fun b h => h.2)
end
set_option maxHeartbeats 4000000 in
theorem affectedWalk47 (w : World) (c0 : List Value) (x0 : (Ty.sl stepT).den) (r0 : Rd (.sl stepT) (fun b => b < w.heap.size) w c0 x0) (c1 : List Value) (x1 : (Ty.sl cellT).den) (r1 : Rd (.sl cellT) (fun b => b < w.heap.size) w c1 x1) :
    Calls Try.prog 3 #[valOf (Ty.sl stepT) c0, valOf (Ty.sl cellT) c1] w fun e w' => e = .returned (.bool true) ∧ Below w.heap.size w w' := by
  obtain ⟨a, len, cap, rfl, hl0, -⟩ := id r0
  have HL := Lib.hid (show x0.length = len from hl0)
  have HX := Lib.hid r0
  have HS := Lib.hid (show ∀ b, b < w.heap.size → b < w.heap.size from fun _ h => h)
  have hlm : len ≤ 9223372036854775807 := Nat.le_trans r0.sl_flat.2.1 r0.sl_flat.2.2.1
  obtain ⟨la, lcap, rfl, hy⟩ := rd_cells r1
  change Calls _ _ #[.slice a len cap, .slice la (x1.map c4).length lcap] _ _
  generalize List.map c4 x1 = l at hy ⊢
  have hlm2 : l.length ≤ 9223372036854775807 := Nat.le_trans ((rd_len hy) ▸ hy.sl_flat.2.1) hy.sl_flat.2.2.1
  have HY := Lib.hid hy
  clear hy r0 r1 hl0
  go_enter Try.func3, Try.ntmps3
  have HAW := Lib.hid (awake47 w)
  go_wp2_with fail
  refine HAW.out.mono ?_
  clear HAW
  rintro e w1 ⟨rfl, hB1⟩
  have HB1 := Lib.hid hB1
  clear hB1
  have HFW := Lib.hid (few47 w1 a len cap x0 (HX.out.below HB1.out (fun _ h => h)) (fun b hb => Nat.lt_of_lt_of_le hb HB1.out.size))
  obtain ⟨fb, hfb⟩ : ∃ x, fewB x0 = x := ⟨_, rfl⟩
  rw [hfb] at HFW
  have HFB := Lib.hid hfb
  clear hfb
  go_wp2_with fail
  refine HFW.out.mono ?_
  clear HFW
  rintro e w2 ⟨rfl, hB2⟩
  have HB2 := Lib.hid (below_step HB1.out hB2)
  clear hB2
  cases fb
  case false =>
    go_wp2_with fail
    go_ret
    exact ⟨rfl, HB2.out⟩
  by_cases h30 : l.length ≤ 30
  case neg =>
    have h30' : (30 : Int) < (l.length : Int) := by omega
    go_wp2_with fail
    go_ret
    exact ⟨rfl, HB2.out⟩
  have h30' : ¬ (30 : Int) < (l.length : Int) := by omega
  have HFB2 := Lib.hid (show fewB x0 = true from HFB.out)
  have HBU := Lib.hid (build47 w2 a len cap x0 (HX.out.below HB2.out (fun _ h => h)) (fun b hb => Nat.lt_of_lt_of_le hb HB2.out.size) HFB2.out)
  have HM := Lib.hid (show len ≤ 30 from by
    have h := HFB2.out
    unfold fewB at h
    rw [Bool.and_eq_true] at h
    have h2 := of_decide_eq_true h.2
    rw [HL.out] at h2
    exact h2)
  go_wp2_with fail
  refine HBU.out.mono ?_
  clear HBU
  rintro e w3 ⟨F, p, mr, ms, n, K, G, ha, hc, rfl, hG, hF, hB3⟩
  have HG3 := Lib.hid hG
  have HB3 := Lib.hid (below_step HB2.out hB3)
  have HL30 := Lib.hid h30
  clear hG hF hB3 h30 h30'
  have HZC := Lib.hid (HG3.out.affected (by have := HM.out; omega) la lcap l (HY.out.below HB3.out (fun _ h => h)) (fun b hb => Nat.lt_of_lt_of_le hb HB3.out.size) (by have := HL30.out; omega))
  go_wp2_with fail
  refine HZC.out.mono ?_
  clear HZC
  rintro e w4 ⟨v, rfl, hs, hb⟩
  obtain ⟨va4, vc4, rfl⟩ := hs.form
  have HS4 := Lib.hid hs
  have HW4 := Lib.hid hb
  have HB4 := Lib.hid (below_step HB3.out hb)
  clear hs hb
  have HG4 := Lib.hid (HG3.out.below HW4.out)
  have HZC := Lib.hid (HG4.out.raffected (by have := HM.out; omega) la lcap l (HY.out.below HB4.out (fun _ h => h)) (fun b hb => Nat.lt_of_lt_of_le hb HB4.out.size))
  go_wp2_with fail
  refine HZC.out.mono ?_
  clear HZC
  rintro e w5 ⟨v, rfl, hs, hb⟩
  obtain ⟨va5, vc5, rfl⟩ := hs.form
  have HS5 := Lib.hid hs
  have HW5 := Lib.hid hb
  have HB5 := Lib.hid (below_step HB4.out hb)
  clear hs hb
  have HZC := Lib.hid (BG.same (HS4.out.below HW5.out) HS5.out)
  go_wp2_with fail
  refine HZC.out.mono ?_
  rintro e w6 ⟨rfl, hB6⟩
  have HB6 := Lib.hid (below_step HB5.out hB6)
  clear hB6
  go_wp2_with fail
  go_ret
  exact ⟨rfl, HB6.out⟩
end Go.Proofs.Ytoimbhdjhhmonaa
