/- Layer 47: the law's few and build: both graphs after any steps. -/
import Derived.Test.YtoimbhdjhhmonaaE47b
import Derived.Test.YtoimbhdjhhmonaaRead
import Derived.Test.YtoimbhdjhhmonaaD47c
import Derived.Deep.DeepCutAuto
set_option linter.unusedSimpArgs false
set_option maxRecDepth 50000
namespace Go.Proofs.Ytoimbhdjhhmonaa
open Go.RowKit Go

abbrev stepT : Ty := .pr cellT (.pr (.sl cellT) (.pr .bool .un))
theorem map_d_c4 (l : List cellT.den) : (l.map c4).map C4.d = l := by
  rw [List.map_map]
  exact (List.map_congr_left (fun x _ => d_c4 x)).trans (List.map_id _)
theorem rd_cells {S : Nat → Prop} {w : World} {cs : List Value} {l : List cellT.den} (h : Rd (.sl cellT) S w cs l) : ∃ a cap, cs = [.slice a (l.map c4).length cap] ∧ Rd (.sl cellT) S w [.slice a (l.map c4).length cap] ((l.map c4).map C4.d) := by
  have h' := h
  obtain ⟨a, n, cap, rfl, hl, -⟩ := h'
  rw [map_d_c4, List.length_map, hl]
  exact ⟨a, cap, rfl, h⟩
def stL (x : stepT.den) : List C4 := x.2.1.map c4
theorem step_at {S : Nat → Prop} {w : World} {a : Option Addr} {len cap : Nat} {xs : List stepT.den} (h : Rd (.sl stepT) S w [.slice a len cap] xs) (i : Nat) (hi : i < xs.length) :
    ∃ b off ra rc, a = some ⟨b, off, none⟩ ∧ S b ∧ w.cell? ⟨b, off + i * 6, none⟩ = some (.int .i64 (c4 xs[i].1).st) ∧ w.cell? ⟨b, off + i * 6 + 1, none⟩ = some (.int .i64 (c4 xs[i].1).en) ∧ w.cell? ⟨b, off + i * 6 + 2, none⟩ = some (.int .i64 (c4 xs[i].1).ot) ∧ w.cell? ⟨b, off + i * 6 + 3, none⟩ = some (.int .i64 (c4 xs[i].1).pe) ∧
      w.cell? ⟨b, off + i * 6 + 4, none⟩ = some (.slice ra (stL xs[i]).length rc) ∧ w.cell? ⟨b, off + i * 6 + 5, none⟩ = some (.bool xs[i].2.2.1) ∧ Rd (.sl cellT) S w [.slice ra (stL xs[i]).length rc] ((stL xs[i]).map C4.d) ∧ (c4 xs[i].1).ok := by
  obtain ⟨hl, -, -, vs, hr, hor⟩ := h.sl_flat
  obtain ⟨c, hc, hcc, hrd⟩ := hr.at_ i hi
  rcases hor with h0 | ⟨b, off, rfl, hb, hcell⟩
  · omega
  · generalize xs[i] = s at hrd ⊢
    obtain ⟨⟨s1, s2, s3, s4, ⟨⟩⟩, sl, sb, ⟨⟩⟩ := s
    obtain ⟨d1, r1, rfl, hcr, d2, r2, rfl, hsl, d3, r3, rfl, rfl, rfl⟩ := hrd
    obtain ⟨x1, q1, rfl, ⟨rfl, h1⟩, x2, q2, rfl, ⟨rfl, h2⟩, x3, q3, rfl, ⟨rfl, h3⟩, x4, q4, rfl, ⟨rfl, h4⟩, rfl⟩ := hcr
    obtain ⟨ra, rc, rfl, hsl2⟩ := rd_cells hsl
    refine ⟨b, off, ra, rc, rfl, hb, ?_, ?_, ?_, ?_, ?_, ?_, hsl2, ⟨h1, h2, h3, h4⟩⟩
    · rw [show off + i * 6 = off + (i * stepT.sz + 0) from rfl]; exact hcell _ _ (hcc 0 _ rfl)
    · rw [show off + i * 6 + 1 = off + (i * stepT.sz + 1) from rfl]; exact hcell _ _ (hcc 1 _ rfl)
    · rw [show off + i * 6 + 2 = off + (i * stepT.sz + 2) from rfl]; exact hcell _ _ (hcc 2 _ rfl)
    · rw [show off + i * 6 + 3 = off + (i * stepT.sz + 3) from rfl]; exact hcell _ _ (hcc 3 _ rfl)
    · rw [show off + i * 6 + 4 = off + (i * stepT.sz + 4) from rfl]; exact hcell _ _ (hcc 4 _ rfl)
    · rw [show off + i * 6 + 5 = off + (i * stepT.sz + 5) from rfl]; exact hcell _ _ (hcc 5 _ rfl)
def fewB (xs : List stepT.den) : Bool := xs.all (fun s => decide ((stL s).length ≤ 30)) && decide (xs.length ≤ 30)
set_option maxHeartbeats 1000000 in
theorem few47 {S : Nat → Prop} (w : World) (a : Option Addr) (len cap : Nat) (xs : List stepT.den) (hx : Rd (.sl stepT) S w [.slice a len cap] xs) (hS : ∀ b, S b → b < w.heap.size) :
    Calls Try.prog 10 #[.slice a len cap] w fun e w' => e = .returned (.bool (fewB xs)) ∧ Below w.heap.size w w' := by
  have HL := Lib.hid (show xs.length = len from hx.sl_flat.1)
  have hlm : len ≤ 9223372036854775807 := Nat.le_trans hx.sl_flat.2.1 hx.sl_flat.2.2.1
  have HX := Lib.hid hx
  have HS := Lib.hid hS
  clear hx hS
  go_enter Try.func10, Try.ntmps10
  go_wp2_with fail
  go_loopw [3] (fun i wr => ∃ (k : Nat), k ≤ len ∧ i = .int .i64 k ∧ (xs.take k).all (fun s => decide ((stL s).length ≤ 30)) = true ∧ Below w.heap.size w wr) (fun i _ => len - (intOf i).toNat)
  case atStart => exact ⟨0, Nat.zero_le _, rfl, rfl, Below.refl _ _⟩
  obtain ⟨k, hk, rfl, hall, hB⟩ := hrel
  have HALL := Lib.hid hall
  have HB := Lib.hid hB
  clear hall
  by_cases hlt : k < len
  · have hkI : (k : Int) < (len : Int) := by omega
    have hkx : k < xs.length := by rw [HL.out]; exact hlt
    obtain ⟨b, o, ra, rc, rfl, -, -, -, -, -, m4, -, hrr, -⟩ := step_at (HX.out.below hB HS.out) k hkx
    have HST := Lib.hid (show (xs.take (k + 1)).all (fun s => decide ((stL s).length ≤ 30)) = decide ((stL xs[k]).length ≤ 30) from by
      rw [List.take_succ_eq_append_getElem hkx, List.all_append, HALL.out]
      simp)
    have HNO := Lib.hid (show ¬ (stL xs[k]).length ≤ 30 → fewB xs = false from fun h => by
      unfold fewB
      rw [show xs.all (fun s => decide ((stL s).length ≤ 30)) = false from by
        rw [List.all_eq_false]
        exact ⟨xs[k], List.getElem_mem hkx, by simp; omega⟩]
      rfl)
    generalize stL xs[k] = yl at m4 hrr HST HNO
    have HLT := Lib.hid hlt
    have hym : yl.length ≤ 9223372036854775807 := Nat.le_trans ((rd_len hrr) ▸ hrr.sl_flat.2.1) hrr.sl_flat.2.2.1
    clear hrr hB hkx hlt
    by_cases hy : yl.length ≤ 30
    · have hyI : ¬ ((30 : Int) < (yl.length : Int)) := by omega
      have HST2 := Lib.hid (show (xs.take (k + 1)).all (fun s => decide ((stL s).length ≤ 30)) = true from by rw [HST.out, decide_eq_true hy])
      go_wp2_with fail
      go_roundw
      case rel => exact ⟨k + 1, HLT.out, by go_num, HST2.out, HB.out⟩
      case measure => simp [intOf]; try omega
    · have hyI : (30 : Int) < (yl.length : Int) := by omega
      have HN := Lib.hid (HNO.out hy)
      go_wp2_with fail
      go_ret
      exact ⟨by rw [HN.out]; rfl, HB.out⟩
  · obtain rfl : k = len := by omega
    have hall := HALL.out
    rw [List.take_of_length_le (by rw [HL.out]; exact Nat.le_refl _)] at hall
    have HF := Lib.hid (show fewB xs = decide (k ≤ 30) from by unfold fewB; rw [hall, HL.out]; rfl)
    clear hall hB
    by_cases hy : k ≤ 30
    · have hyI : (k : Int) ≤ 30 := by omega
      have HF2 := Lib.hid (show fewB xs = true from by rw [HF.out, decide_eq_true hy])
      go_wp2_with fail
      go_ret
      exact ⟨by rw [HF2.out]; rfl, HB.out⟩
    · have hyI : ¬ (k : Int) ≤ 30 := by omega
      have HF2 := Lib.hid (show fewB xs = false from by rw [HF.out, decide_eq_false hy])
      go_wp2_with fail
      go_ret
      exact ⟨by rw [HF2.out]; rfl, HB.out⟩
/-- Both graphs. -/
structure BG (F : Nat → Nat) (w : World) (p mr ms n K m : Nat) (G : List En4) (ha : Option Addr) (hc : Nat) : Prop where
  dep : DepI F w p mr ms n K (lkG G)
  ref : Rd (.sl entT) (fun b => b < w.heap.size ∧ F b = 0) w [.slice ha G.length hc] (G.map entD)
  gi : GI m G
  nle : n ≤ m
  kle : K ≤ 400 * m
theorem BG.below {F : Nat → Nat} {w w' : World} {p mr ms n K m : Nat} {G : List En4} {ha : Option Addr} {hc : Nat} (h : BG F w p mr ms n K m G ha hc) (hB : Below w.heap.size w w') : BG F w' p mr ms n K m G ha hc :=
  ⟨h.dep.below hB, (h.ref.below hB (fun b hb => hb.1)).keep (fun _ _ => rfl) (fun b hb => ⟨Nat.lt_of_lt_of_le hb.1 hB.size, hb.2⟩), h.gi, h.nle, h.kle⟩
/-- What has turned in the graph alone leaves the rest. -/
theorem gr_below0 {F : Nat → Nat} {w0 w w' : World} (h : Below w0.heap.size w0 w) (hF : ∀ b, b < w0.heap.size → F b = 0) (hg : Gr (fun b => F b ≠ 0) w w') : Below w0.heap.size w0 w' :=
  h.trans (hg.below (fun b e => by
    by_cases hb : w0.heap.size ≤ b
    · exact hb
    · exact absurd (hF b (by omega)) e) h.size)
theorem rd_gr0 {e : Ty} {F F' : Nat → Nat} {w w' : World} {cs : List Value} {x : e.den} (h : Rd e (fun b => b < w.heap.size ∧ F b = 0) w cs x) (hg : Gr (fun b => F b ≠ 0) w w') (hF : ∀ b, b < w.heap.size → F' b = F b) : Rd e (fun b => b < w'.heap.size ∧ F' b = 0) w' cs x :=
  (h.keep (fun b hb => hg.block b hb.1 (fun e => e hb.2)) (fun b hb => ⟨Nat.lt_of_lt_of_le hb.1 hg.size, (hF b hb.1).trans hb.2⟩))
theorem setCode_vcode {r : Bool} {n : Nat} {c : C4} {l : List C4} (hl : l.length ≤ 200) (hn : n < 5000) : setCode r n c l = vcode c l := by
  unfold setCode vcode
  split
  · rfl
  · rw [if_neg]
    rintro (h | ⟨-, h⟩) <;> omega
def BuildP (w : World) (m : Nat) (e : Ending) (w' : World) : Prop :=
  ∃ (F : Nat → Nat) (p mr ms n K : Nat) (G : List En4) (ha : Option Addr) (hc : Nat), e = .returned (.tuple #[.pointer (some ⟨p, 0, none⟩), .slice ha G.length hc, .bool true]) ∧ BG F w' p mr ms n K m G ha hc ∧ (∀ b, b < w.heap.size → F b = 0) ∧ Below w.heap.size w w'
set_option maxHeartbeats 4000000 in
theorem build47 {S : Nat → Prop} (w : World) (a : Option Addr) (len cap : Nat) (xs : List stepT.den) (hx : Rd (.sl stepT) S w [.slice a len cap] xs) (hS : ∀ b, S b → b < w.heap.size) (hfew : fewB xs = true) :
    Calls Try.prog 11 #[.slice a len cap] w (BuildP w len) := by
  have HL := Lib.hid (show xs.length = len from hx.sl_flat.1)
  have hlm : len ≤ 30 := by
    unfold fewB at hfew
    rw [Bool.and_eq_true] at hfew
    have := of_decide_eq_true hfew.2
    rw [HL.out] at this
    exact this
  have HYL := Lib.hid (show ∀ k (hk : k < xs.length), (stL xs[k]).length ≤ 30 from fun k hk => by
    unfold fewB at hfew
    rw [Bool.and_eq_true, List.all_eq_true] at hfew
    exact of_decide_eq_true (hfew.1 _ (List.getElem_mem hk)))
  have HX := Lib.hid hx
  have HS := Lib.hid hS
  have HN := Lib.hid (new47 w)
  clear hx hS hfew
  go_enter Try.func11, Try.ntmps11
  go_wp2_with fail
  refine HN.out.mono ?_
  rintro e w1 ⟨p, mr, ms, F0, rfl, hB1, hI1, hF1⟩
  have HB1 := Lib.hid hB1
  have HI1 := Lib.hid hI1
  have HF1 := Lib.hid hF1
  clear hB1 hI1 hF1 HN
  go_wp2_with fail
  go_loopw [6, 7] (fun hv iv wr => ∃ (k : Nat) (F : Nat → Nat) (n K : Nat) (G : List En4) (ha : Option Addr) (hc : Nat), k ≤ len ∧ iv = .int .i64 k ∧ hv = .slice ha G.length hc ∧ BG F wr p mr ms n K k G ha hc ∧ (∀ b, b < w.heap.size → F b = 0) ∧ Below w.heap.size w wr) (fun _ iv _ => len - (intOf iv).toNat)
  case atStart => exact ⟨0, F0, 0, 0, [], none, 0, Nat.zero_le _, rfl, rfl, ⟨HI1.out, ⟨none, 0, 0, rfl, rfl, Nat.le_refl _, by decide, .inl rfl⟩, GI.nil, Nat.le_refl _, Nat.le_refl _⟩, HF1.out, HB1.out⟩
  obtain ⟨k, F, n, K, G, ha, hc, hk, rfl, rfl, hG, hF, hB⟩ := hrel
  have HG := Lib.hid hG
  have HF := Lib.hid hF
  have HB := Lib.hid hB
  clear hG hF
  by_cases hlt : k < len
  · have hkI : (k : Int) < (len : Int) := by omega
    have hkx : k < xs.length := by rw [HL.out]; exact hlt
    obtain ⟨b, o, ra, rc, rfl, hbS, m0, m1, m2, m3, m4, m5, hrr, hco⟩ := step_at HX.out k hkx
    have hYL := HYL.out k hkx
    generalize xs[k] = x at m0 m1 m2 m3 m4 m5 hrr hco hYL
    obtain ⟨l, hl⟩ : ∃ l, stL x = l := ⟨_, rfl⟩
    obtain ⟨c, hc'⟩ : ∃ c, c4 x.1 = c := ⟨_, rfl⟩
    obtain ⟨rm, hrm⟩ : ∃ c, x.2.2.1 = c := ⟨_, rfl⟩
    rw [hl] at m4 hrr hYL
    rw [hc'] at m0 m1 m2 m3 hco
    rw [hrm] at m5
    have HYLL := Lib.hid hYL
    have HRR := Lib.hid hrr
    have HCO := Lib.hid hco
    obtain ⟨c1, c2, c3, c4'⟩ := c
    simp only at m0 m1 m2 m3
    have hbl := HS.out b hbS
    have HCC := Lib.hid (show Cells [(⟨b, o + k * 6, none⟩, .int .i64 c1), (⟨b, o + k * 6 + 1, none⟩, .int .i64 c2), (⟨b, o + k * 6 + 2, none⟩, .int .i64 c3), (⟨b, o + k * 6 + 3, none⟩, .int .i64 c4'), (⟨b, o + k * 6 + 4, none⟩, .slice ra l.length rc), (⟨b, o + k * 6 + 5, none⟩, .bool rm)] w from ⟨m0, m1, m2, m3, m4, m5, trivial⟩)
    have HCL := Lib.hid (show CellsLt w.heap.size [(⟨b, o + k * 6, none⟩, .int .i64 c1), (⟨b, o + k * 6 + 1, none⟩, .int .i64 c2), (⟨b, o + k * 6 + 2, none⟩, .int .i64 c3), (⟨b, o + k * 6 + 3, none⟩, .int .i64 c4'), (⟨b, o + k * 6 + 4, none⟩, .slice ra l.length rc), (⟨b, o + k * 6 + 5, none⟩, .bool rm)] from ⟨hbl, hbl, hbl, hbl, hbl, hbl, trivial⟩)
    have HLT := Lib.hid hlt
    have HKN := Lib.hid (show k ≤ 30 from by omega)
    clear m0 m1 m2 m3 m4 m5 hl hc' hrm hbl hbS hrr hco hYL hkx hlt
    obtain ⟨z0, z1, z2, z3, z4, z5, -⟩ := Cells.belowN hB HCL.out HCC.out
    cases rm
    case true =>
      have HRM := Lib.hid (remove47 wr HG.out.dep ⟨c1, c2, c3, c4'⟩ (HG.out.dep.nodup HG.out.gi _) HCO.out)
      unfold C4.v at HRM
      simp only at HRM
      go_wp2_with fail
      refine HRM.out.mono ?_
      rintro e w2 ⟨he, h1, h2⟩
      obtain ⟨rb, hrb⟩ : ∃ x, (lkG G ⟨c1, c2, c3, c4'⟩).isSome = x := ⟨_, rfl⟩
      rw [hrb] at he h1 h2
      have HRB := Lib.hid hrb
      have hg2 : BG F w2 p mr ms (if rb = true then n - 1 else n) K (k + 1) (delG G ⟨c1, c2, c3, c4'⟩) ha hc → True := fun _ => trivial
      clear hg2 hrb z0 z1 z2 z3 z4 z5
      have HDEP2 := Lib.hid (show DepI F w2 p mr ms (if rb = true then n - 1 else n) K (lkG (delG G ⟨c1, c2, c3, c4'⟩)) ∧ Gr (fun b => F b ≠ 0) wr w2 from by
        cases rb
        · have hb := h1 rfl
          have hn : lkG G ⟨c1, c2, c3, c4'⟩ = none := by
            have := HRB.out
            cases hl : lkG G ⟨c1, c2, c3, c4'⟩ with
            | none => rfl
            | some l => rw [hl] at this; cases this
          rw [delG_none hn]
          exact ⟨HG.out.dep.below hb, Gr.of_below hb⟩
        · obtain ⟨hg, hd⟩ := h2 rfl
          refine ⟨?_, hg⟩
          have hfe : (fun x => if x = ⟨c1, c2, c3, c4'⟩ then none else lkG G x) = lkG (delG G ⟨c1, c2, c3, c4'⟩) := by
            funext x
            exact (lkG_del G _ x).symm
          rw [hfe] at hd
          exact hd)
      have HRF2 := Lib.hid (rd_gr0 HG.out.ref HDEP2.out.2 (fun _ _ => rfl))
      have HB2 := Lib.hid (gr_below0 HB.out HF.out HDEP2.out.2)
      have HRR2 := Lib.hid (rremove47 w2 ha hc G HRF2.out (fun b hb => hb.1) (by have := HG.out.gi.num; have := HKN.out; omega) ⟨c1, c2, c3, c4'⟩)
      unfold C4.v at HRR2
      simp only at HRR2
      clear h1 h2
      have HE1 := Lib.hid HRB.out
      cases rb
      · simp only [Bool.false_eq_true, if_false] at he
        subst he
        obtain ⟨z0, z1, z2, z3, z4, z5, -⟩ := Cells.belowN HB2.out HCL.out HCC.out
        go_wp2_with fail
        refine HRR2.out.mono ?_
        rintro e w3 ⟨da, dc, he, hB3, hR3⟩
        rw [HE1.out] at he
        simp only [Bool.false_eq_true, if_false] at he
        subst he
        have HB3 := Lib.hid (below_step HB2.out hB3)
        have HBG3 := Lib.hid (show BG F w3 p mr ms n K (k + 1) (delG G ⟨c1, c2, c3, c4'⟩) da dc from ⟨HDEP2.out.1.below hB3, hR3.keep (fun _ _ => rfl) (fun b hb => hb.elim (fun h => ⟨Nat.lt_of_lt_of_le h.1 hB3.size, h.2⟩) (fun h => ⟨h.2, HDEP2.out.1.dom0 h.1⟩)), (HG.out.gi.del _).mono (Nat.le_succ _), by have := HG.out.nle; omega, by have := HG.out.kle; omega⟩)
        clear hB3 hR3 z0 z1 z2 z3 z4 z5
        go_wp2_with fail
        go_roundw
        case rel => exact ⟨k + 1, F, _, _, _, da, dc, HLT.out, by go_num, rfl, HBG3.out, HF.out, HB3.out⟩
        case measure => simp [intOf]; try omega
      · simp only [if_true] at he
        subst he
        obtain ⟨z0, z1, z2, z3, z4, z5, -⟩ := Cells.belowN HB2.out HCL.out HCC.out
        go_wp2_with fail
        refine HRR2.out.mono ?_
        rintro e w3 ⟨da, dc, he, hB3, hR3⟩
        rw [HE1.out] at he
        simp only [if_true] at he
        subst he
        have HB3 := Lib.hid (below_step HB2.out hB3)
        have HBG3 := Lib.hid (show BG F w3 p mr ms (n - 1) K (k + 1) (delG G ⟨c1, c2, c3, c4'⟩) da dc from ⟨HDEP2.out.1.below hB3, hR3.keep (fun _ _ => rfl) (fun b hb => hb.elim (fun h => ⟨Nat.lt_of_lt_of_le h.1 hB3.size, h.2⟩) (fun h => ⟨h.2, HDEP2.out.1.dom0 h.1⟩)), (HG.out.gi.del _).mono (Nat.le_succ _), by have := HG.out.nle; omega, by have := HG.out.kle; omega⟩)
        clear hB3 hR3 z0 z1 z2 z3 z4 z5
        go_wp2_with fail
        go_roundw
        case rel => exact ⟨k + 1, F, _, _, _, da, dc, HLT.out, by go_num, rfl, HBG3.out, HF.out, HB3.out⟩
        case measure => simp [intOf]; try omega
    have hC0 : Cells [(⟨b, o + k * 6, none⟩, .int .i64 c1), (⟨b, o + k * 6 + 1, none⟩, .int .i64 c2), (⟨b, o + k * 6 + 2, none⟩, .int .i64 c3), (⟨b, o + k * 6 + 3, none⟩, .int .i64 c4'), (⟨b, o + k * 6 + 4, none⟩, .slice ra l.length rc)] wr := ⟨z0, z1, z2, z3, z4, trivial⟩
    obtain ⟨vc, hvc⟩ : ∃ x, vcode ⟨c1, c2, c3, c4'⟩ l = x := ⟨_, rfl⟩
    have HVC := Lib.hid hvc
    clear hvc
    go_upto_region 10 with fail
    refine wp_region_T (Cells [(⟨b, o + k * 6, none⟩, .int .i64 c1), (⟨b, o + k * 6 + 1, none⟩, .int .i64 c2), (⟨b, o + k * 6 + 2, none⟩, .int .i64 c3), (⟨b, o + k * 6 + 3, none⟩, .int .i64 c4'), (⟨b, o + k * 6 + 4, none⟩, .slice ra l.length rc)]) (fun i => i == 11) (by kernel_rfl) ?_
    have hSss1 := Cells.drew hC0
    have hB_0_s1 : Below wr.heap.size wr wr.drew := below_drew _
    generalize wr.drew = s1 at hSss1 hB_0_s1 ⊢
    have hB_s1_s1 := Below.refl s1.heap.size s1
    refine wpAnyT_pure (i := 0) (v := ?_) rfl (by kernel_rfl) (by kernel_rfl) (by kernel_rfl) (fun _ _ _ h => h) (by rfl) ?_ ?_
    rotate_left
    · intro w; go_simp; try with_reducible rfl
    simp only [Act.put, rgA, rgB, rgC, rgD, rgE, rgF]
    refine wpAnyT_pure (i := 1) (v := ?_) rfl (by kernel_rfl) (by kernel_rfl) (by kernel_rfl) (fun _ _ _ h => h) (by rfl) ?_ ?_
    rotate_left
    · intro w; go_simp; try with_reducible rfl
    simp only [Act.put, rgA, rgB, rgC, rgD, rgE, rgF]
    refine wpAnyT_pure (i := 2) (v := ?_) rfl (by kernel_rfl) (by kernel_rfl) (by kernel_rfl) (fun _ _ _ h => h) (by rfl) ?_ ?_
    rotate_left
    · intro w; go_simp; try with_reducible rfl
    simp only [Act.put, rgA, rgB, rgC, rgD, rgE, rgF]
    refine wpAnyT_pure (i := 3) (v := ?_) rfl (by kernel_rfl) (by kernel_rfl) (by kernel_rfl) (fun _ _ _ h => h) (by rfl) ?_ ?_
    rotate_left
    · intro w; go_simp; try with_reducible rfl
    simp only [Act.put, rgA, rgB, rgC, rgD, rgE, rgF]
    refine wpAnyT_pure (i := 4) (v := ?_) rfl (by kernel_rfl) (by kernel_rfl) (by kernel_rfl) (fun _ _ _ h => h) (by rfl) ?_ ?_
    rotate_left
    · intro w; go_simp; try with_reducible rfl
    simp only [Act.put, rgA, rgB, rgC, rgD, rgE, rgF]
    refine wpAnyT_pure (i := 6) (v := ?_) rfl (by kernel_rfl) (by kernel_rfl) (by kernel_rfl) (fun _ _ _ h => h) (by rfl) ?_ ?_
    rotate_left
    · intro w; go_simp; try with_reducible rfl
    simp only [Act.put, rgA, rgB, rgC, rgD, rgE, rgF]
    refine wpAnyT_pure (i := 7) (v := ?_) rfl (by kernel_rfl) (by kernel_rfl) (by kernel_rfl) (fun _ _ _ h => h) (by rfl) ?_ ?_
    rotate_left
    · intro w; go_simp; try with_reducible rfl
    simp only [Act.put, rgA, rgB, rgC, rgD, rgE, rgF]
    refine wpAnyT_pure (i := 8) (v := ?_) rfl (by kernel_rfl) (by kernel_rfl) (by kernel_rfl) (fun _ _ _ h => h) (by rfl) ?_ ?_
    rotate_left
    · intro w; go_simp; try with_reducible rfl
    simp only [Act.put, rgA, rgB, rgC, rgD, rgE, rgF]
    refine wpAnyT_pure (i := 9) (v := ?_) rfl (by kernel_rfl) (by kernel_rfl) (by kernel_rfl) (fun _ _ _ h => h) (by rfl) ?_ ?_
    rotate_left
    · intro w; go_simp; try with_reducible rfl
    simp only [Act.put, rgA, rgB, rgC, rgD, rgE, rgF]
    refine wpAnyT_loadW (i := 5) (v := ?_) rfl (by kernel_rfl) (by kernel_rfl) (by kernel_rfl) (by kernel_rfl) (by kernel_rfl) (fun _ _ _ h => h) (Or.inl ⟨by rfl, ?_⟩) hSss1 ?_
    rotate_left
    · intro w hSw; obtain ⟨e0, e1, e2, e3, e4, -⟩ := hSw; go_simp; try with_reducible rfl
    simp only [Act.put, rgA, rgB, rgC, rgD, rgE, rgF]
    refine wpAnyT_loadW (i := 10) (v := ?_) rfl (by kernel_rfl) (by kernel_rfl) (by kernel_rfl) (by kernel_rfl) (by kernel_rfl) (fun _ _ _ h => h) (Or.inl ⟨by rfl, ?_⟩) hSss1 ?_
    rotate_left
    · intro w hSw; obtain ⟨e0, e1, e2, e3, e4, -⟩ := hSw; go_simp; try with_reducible rfl
    simp only [Act.put, rgA, rgB, rgC, rgD, rgE, rgF]
    refine wpAnyT_one (i := 11) (by kernel_rfl) rfl (by rfl) ?_
    have hbP : Below wr.heap.size wr s1 := hB_0_s1.trans ((hB_s1_s1).mono hB_0_s1.size)
    have hbW := below_step HB.out hbP
    have hgp := HG.out.below hbP
    have hst := set47 s1 hgp.dep ⟨c1, c2, c3, c4'⟩ (hgp.dep.nodup hgp.gi _) HCO.out (by have := hgp.kle; have := HKN.out; omega) (by have := hgp.nle; have := HKN.out; omega) ra rc l (HRR.out.below hbW HS.out) (fun b hb => ⟨Nat.lt_of_lt_of_le (HS.out b hb) hbW.size, HF.out b (HS.out b hb)⟩)
    unfold SetP at hst
    rw [setCode_vcode (by have := HYLL.out; omega) (by have := hgp.nle; have := HKN.out; omega), HVC.out] at hst
    unfold C4.v at hst
    simp only at hst
    refine wp_enter (f := 27) (args := #[.pointer (some ⟨p, 0, none⟩), .agg #[.int .i64 c1, .int .i64 c2, .int .i64 c3, .int .i64 c4'], .slice ra l.length rc]) (by go_simp) hst ?_
    rintro e w102 ⟨rfl, h1, h2⟩
    have HZ := Lib.hid (show ∃ (F2 : Nat → Nat) (n2 K2 : Nat), DepI F2 w102 p mr ms n2 K2 (lkG (nextG G ⟨c1, c2, c3, c4'⟩ l)) ∧ Rd (.sl entT) (fun b => b < (w102).heap.size ∧ F2 b = 0) w102 [.slice ha G.length hc] (G.map entD) ∧ (∀ b, b < w.heap.size → F2 b = 0) ∧ Below w.heap.size w w102 ∧ n2 ≤ k + 1 ∧ K2 ≤ 400 * (k + 1) from by
      by_cases hv : vc = 0
      · obtain ⟨hg, F2, hF2, hd⟩ := h2 hv
        have hfe : setR (lkG G) ⟨c1, c2, c3, c4'⟩ l = lkG (nextG G ⟨c1, c2, c3, c4'⟩ l) := by
          funext x
          unfold nextG
          rw [HVC.out, if_pos hv]
          exact (lkG_set G _ l x).symm
        rw [hfe] at hd
        refine ⟨F2, _, _, hd, rd_gr0 hgp.ref hg hF2, fun b hb => (hF2 b (Nat.lt_of_lt_of_le hb hbW.size)).trans (HF.out b hb), gr_below0 hbW HF.out hg, ?_, ?_⟩
        · unfold setM
          have := hgp.nle
          split <;> omega
        · have := hgp.kle
          omega
      · have hb := h1 hv
        have hgn := hgp.below hb
        refine ⟨F, n, K, ?_, hgn.ref, HF.out, below_step hbW hb, by have := hgn.nle; omega, by have := hgn.kle; omega⟩
        unfold nextG
        rw [HVC.out, if_neg hv]
        exact hgn.dep)
    clear hbP hbW hgp hst h1 h2
    refine ⟨_, rfl, fun h => absurd h (by decide), ?_⟩
    try simp only [Act.put, rgA, rgB, rgC, rgD, rgE, rgF]
    refine wpAnyT_pure (i := 12) (v := ?_) rfl (by kernel_rfl) (by kernel_rfl) (by kernel_rfl) (fun _ _ _ h => h) (by rfl) ?_ ?_
    rotate_left
    · intro w; go_simp; try with_reducible rfl
    simp only [Act.put, rgA, rgB, rgC, rgD, rgE, rgF]
    refine wpAnyT_done (by kernel_rfl) ?_ _
    obtain ⟨w2, rfl⟩ : ∃ x, x = w102 := ⟨_, rfl⟩
    clear hC0 z0 z1 z2 z3 z4 z5 hB
    obtain ⟨F2, n2, K2, hd2, hr2, hf2, hB2, hn2, hk2⟩ := HZ.out
    have HD2 := Lib.hid hd2
    have HR2 := Lib.hid hr2
    have HF2 := Lib.hid hf2
    have HB2 := Lib.hid hB2
    have HN2 := Lib.hid (And.intro hn2 hk2)
    obtain ⟨z0, z1, z2, z3, z4, z5, -⟩ := Cells.belowN hB2 HCL.out HCC.out
    have hC1 : Cells [(⟨b, o + k * 6, none⟩, .int .i64 c1), (⟨b, o + k * 6 + 1, none⟩, .int .i64 c2), (⟨b, o + k * 6 + 2, none⟩, .int .i64 c3), (⟨b, o + k * 6 + 3, none⟩, .int .i64 c4'), (⟨b, o + k * 6 + 4, none⟩, .slice ra l.length rc)] w2 := ⟨z0, z1, z2, z3, z4, trivial⟩
    clear HZ hd2 hr2 hf2 hB2 hn2 hk2 z0 z1 z2 z3 z4 z5
    go_upto_region 11 with fail
    refine wp_region_T (Cells [(⟨b, o + k * 6, none⟩, .int .i64 c1), (⟨b, o + k * 6 + 1, none⟩, .int .i64 c2), (⟨b, o + k * 6 + 2, none⟩, .int .i64 c3), (⟨b, o + k * 6 + 3, none⟩, .int .i64 c4'), (⟨b, o + k * 6 + 4, none⟩, .slice ra l.length rc)]) (fun _ => false) (by kernel_rfl) ?_
    have hSss3 := Cells.drew hC1
    have hB_0_s3 : Below w2.heap.size w2 w2.drew := below_drew _
    generalize w2.drew = s3 at hSss3 hB_0_s3 ⊢
    have hB_s3_s3 := Below.refl s3.heap.size s3
    refine wpAnyT_pure (i := 0) (v := ?_) rfl (by kernel_rfl) (by kernel_rfl) (by kernel_rfl) (fun _ _ _ h => h) (by rfl) ?_ ?_
    rotate_left
    · intro w; go_simp; try with_reducible rfl
    simp only [Act.put, rgA, rgB, rgC, rgD, rgE, rgF]
    refine wpAnyT_pure (i := 1) (v := ?_) rfl (by kernel_rfl) (by kernel_rfl) (by kernel_rfl) (fun _ _ _ h => h) (by rfl) ?_ ?_
    rotate_left
    · intro w; go_simp; try with_reducible rfl
    simp only [Act.put, rgA, rgB, rgC, rgD, rgE, rgF]
    refine wpAnyT_pure (i := 2) (v := ?_) rfl (by kernel_rfl) (by kernel_rfl) (by kernel_rfl) (fun _ _ _ h => h) (by rfl) ?_ ?_
    rotate_left
    · intro w; go_simp; try with_reducible rfl
    simp only [Act.put, rgA, rgB, rgC, rgD, rgE, rgF]
    refine wpAnyT_pure (i := 3) (v := ?_) rfl (by kernel_rfl) (by kernel_rfl) (by kernel_rfl) (fun _ _ _ h => h) (by rfl) ?_ ?_
    rotate_left
    · intro w; go_simp; try with_reducible rfl
    simp only [Act.put, rgA, rgB, rgC, rgD, rgE, rgF]
    refine wpAnyT_pure (i := 4) (v := ?_) rfl (by kernel_rfl) (by kernel_rfl) (by kernel_rfl) (fun _ _ _ h => h) (by rfl) ?_ ?_
    rotate_left
    · intro w; go_simp; try with_reducible rfl
    simp only [Act.put, rgA, rgB, rgC, rgD, rgE, rgF]
    refine wpAnyT_pure (i := 6) (v := ?_) rfl (by kernel_rfl) (by kernel_rfl) (by kernel_rfl) (fun _ _ _ h => h) (by rfl) ?_ ?_
    rotate_left
    · intro w; go_simp; try with_reducible rfl
    simp only [Act.put, rgA, rgB, rgC, rgD, rgE, rgF]
    refine wpAnyT_pure (i := 7) (v := ?_) rfl (by kernel_rfl) (by kernel_rfl) (by kernel_rfl) (fun _ _ _ h => h) (by rfl) ?_ ?_
    rotate_left
    · intro w; go_simp; try with_reducible rfl
    simp only [Act.put, rgA, rgB, rgC, rgD, rgE, rgF]
    refine wpAnyT_pure (i := 8) (v := ?_) rfl (by kernel_rfl) (by kernel_rfl) (by kernel_rfl) (fun _ _ _ h => h) (by rfl) ?_ ?_
    rotate_left
    · intro w; go_simp; try with_reducible rfl
    simp only [Act.put, rgA, rgB, rgC, rgD, rgE, rgF]
    refine wpAnyT_pure (i := 9) (v := ?_) rfl (by kernel_rfl) (by kernel_rfl) (by kernel_rfl) (fun _ _ _ h => h) (by rfl) ?_ ?_
    rotate_left
    · intro w; go_simp; try with_reducible rfl
    simp only [Act.put, rgA, rgB, rgC, rgD, rgE, rgF]
    refine wpAnyT_loadW (i := 5) (v := ?_) rfl (by kernel_rfl) (by kernel_rfl) (by kernel_rfl) (by kernel_rfl) (by kernel_rfl) (fun _ _ _ h => h) (Or.inl ⟨by rfl, ?_⟩) hSss3 ?_
    rotate_left
    · intro w hSw; obtain ⟨e0, e1, e2, e3, e4, -⟩ := hSw; go_simp; try with_reducible rfl
    simp only [Act.put, rgA, rgB, rgC, rgD, rgE, rgF]
    refine wpAnyT_loadW (i := 10) (v := ?_) rfl (by kernel_rfl) (by kernel_rfl) (by kernel_rfl) (by kernel_rfl) (by kernel_rfl) (fun _ _ _ h => h) (Or.inl ⟨by rfl, ?_⟩) hSss3 ?_
    rotate_left
    · intro w hSw; obtain ⟨e0, e1, e2, e3, e4, -⟩ := hSw; go_simp; try with_reducible rfl
    simp only [Act.put, rgA, rgB, rgC, rgD, rgE, rgF]
    refine wpAnyT_one (i := 11) (by kernel_rfl) rfl (by rfl) ?_
    have hbP : Below w2.heap.size w2 s3 := hB_0_s3.trans ((hB_s3_s3).mono hB_0_s3.size)
    have hbW := below_step HB2.out hbP
    have hst := rset47 s3 ha hc G (HR2.out.below hbP (fun b hb => hb.1)) (fun b hb => Nat.lt_of_lt_of_le hb.1 hbP.size) (by have := HG.out.gi.num; have := HKN.out; omega) ⟨c1, c2, c3, c4'⟩ HCO.out ra rc l (HRR.out.below hbW HS.out) (fun b hb => Nat.lt_of_lt_of_le (HS.out b hb) hbW.size) (by have := HYLL.out; omega)
    unfold RSetP at hst
    rw [HVC.out] at hst
    unfold C4.v at hst
    simp only at hst
    refine wp_enter (f := 32) (args := #[.slice ha G.length hc, .agg #[.int .i64 c1, .int .i64 c2, .int .i64 c3, .int .i64 c4'], .slice ra l.length rc]) (by go_simp) hst ?_
    rintro e w104 ⟨da, dc, rfl, hX, hR3⟩
    have HB3 := Lib.hid (below_step hbW hX)
    have HBG3 := Lib.hid (show BG F2 w104 p mr ms n2 K2 (k + 1) (nextG G ⟨c1, c2, c3, c4'⟩ l) da dc from ⟨HD2.out.below (hbP.trans (hX.mono hbP.size)), hR3.keep (fun _ _ => rfl) (fun b hb => hb.elim (fun h => ⟨Nat.lt_of_lt_of_le h.1 (Nat.le_trans hbP.size hX.size), h.2⟩) (fun h => ⟨h.2, HD2.out.dom0 (Nat.le_trans hbP.size h.1)⟩)), by
      unfold nextG
      split
      · exact HG.out.gi.set HCO.out (rd_okC HRR.out) HYLL.out
      · exact HG.out.gi.mono (Nat.le_succ _), HN2.out.1, HN2.out.2⟩)
    clear hbP hbW hst hR3
    have hB_s3_w104 := below_step hB_s3_s3 hX
    have hB_w104_w104 := Below.refl w104.heap.size w104
    have hSsw104 := Cells.below hB_s3_w104 hSss3
    clear hX
    refine ⟨_, rfl, fun _ _ => hSsw104, ?_⟩
    try simp only [Act.put, rgA, rgB, rgC, rgD, rgE, rgF]
    refine wpAnyT_pure (i := 12) (v := ?_) rfl (by kernel_rfl) (by kernel_rfl) (by kernel_rfl) (fun _ _ _ h => h) (by rfl) ?_ ?_
    rotate_left
    · intro w; go_simp; try with_reducible rfl
    simp only [Act.put, rgA, rgB, rgC, rgD, rgE, rgF]
    refine wpAnyT_pure (i := 13) (v := ?_) rfl (by kernel_rfl) (by kernel_rfl) (by kernel_rfl) (fun _ _ _ h => h) (by rfl) ?_ ?_
    rotate_left
    · intro w; go_simp; try with_reducible rfl
    simp only [Act.put, rgA, rgB, rgC, rgD, rgE, rgF]
    refine wpAnyT_pure (i := 14) (v := ?_) rfl (by kernel_rfl) (by kernel_rfl) (by kernel_rfl) (fun _ _ _ h => h) (by rfl) ?_ ?_
    rotate_left
    · intro w; go_simp; try with_reducible rfl
    simp only [Act.put, rgA, rgB, rgC, rgD, rgE, rgF]
    refine wpAnyT_pure (i := 15) (v := ?_) rfl (by kernel_rfl) (by kernel_rfl) (by kernel_rfl) (fun _ _ _ h => h) (by rfl) ?_ ?_
    rotate_left
    · intro w; go_simp; try with_reducible rfl
    simp only [Act.put, rgA, rgB, rgC, rgD, rgE, rgF]
    refine wpAnyT_pure (i := 16) (v := ?_) rfl (by kernel_rfl) (by kernel_rfl) (by kernel_rfl) (fun _ _ _ h => h) (by rfl) ?_ ?_
    rotate_left
    · intro w; go_simp; try with_reducible rfl
    simp only [Act.put, rgA, rgB, rgC, rgD, rgE, rgF]
    refine wpAnyT_done (by kernel_rfl) ?_ _
    have hbz := hB_w104_w104
    have HB4 := Lib.hid (below_step HB3.out hbz)
    have HBG4 := Lib.hid (HBG3.out.below hbz)
    clear hbz
    obtain ⟨w3, rfl⟩ : ∃ x, x = w104 := ⟨_, rfl⟩
    clear hC1
    go_wp2_with fail
    go_roundw
    case rel => exact ⟨k + 1, F2, _, _, _, da, dc, HLT.out, by go_num, rfl, HBG4.out, HF2.out, HB4.out⟩
    case measure => simp [intOf]; try omega
  · obtain rfl : k = len := by omega
    clear hB
    go_wp2_with fail
    refine bodyPost_ret (results_tmp3 rfl _ _ _) rfl ?_
    exact ⟨F, p, mr, ms, n, K, G, ha, hc, rfl, HG.out, HF.out, HB.out⟩
end Go.Proofs.Ytoimbhdjhhmonaa

/- Layer 47: the calls on both graphs give the same lists; DepsAffected. -/
set_option linter.unusedSimpArgs false
set_option maxRecDepth 50000
namespace Go.Proofs.Ytoimbhdjhhmonaa
open Go.RowKit Go

theorem cellsG_len {m : Nat} {G : List En4} (hG : GI m G) : (cellsG G).length ≤ G.length * 31 := by
  unfold cellsG
  exact Nat.le_trans (srtC_len _) (flat_len (m := 30) hG.len)
section
variable {F : Nat → Nat} {w : World} {p mr ms n K m : Nat} {G : List En4} {ha : Option Addr} {hc : Nat}
theorem BG.cells (h : BG F w p mr ms n K m G ha hc) (hm : m ≤ 1000) : Calls Try.prog 16 #[.pointer (some ⟨p, 0, none⟩)] w (ReadsP w (cellsG G)) := by
  refine (cells47 w h.dep (by have := h.nle; have := h.kle; omega)).mono ?_
  rintro e w' ⟨v, ys, rfl, hs, ho, hx, -, hsl, hB⟩
  obtain rfl : ys = cellsG G := hs.ext (srt_srtC _) (fun x => ⟨fun hxy => (mem_cellsG h.gi).2 ((hx x (ho x hxy)).1 hxy), fun hxy => (hx x (cellsG_ok h.gi hxy)).2 ((mem_cellsG h.gi).1 hxy)⟩)
  exact ⟨v, rfl, hsl, hB⟩
theorem BG.reads (h : BG F w p mr ms n K m G ha hc) (c : C4) (hco : c.ok) : Calls Try.prog 17 #[.pointer (some ⟨p, 0, none⟩), c.v] w (ReadsP w ((lkG G c).getD [])) := reads47 w h.dep c hco
theorem BG.same {B B' : Nat} {W : World} {va vb : Option Addr} {vc vd : Nat} {l : List C4} (h1 : SlC B W (.slice va l.length vc) l) (h2 : SlC B' W (.slice vb l.length vd) l) :
    Calls Try.prog 12 #[.slice va l.length vc, .slice vb l.length vd] W fun e w' => e = .returned (.bool true) ∧ Below W.heap.size W w' :=
  same47 W va vc vb vd l h1.rd h2.rd (fun b h => h.2) (fun b h => h.2)
end
end Go.Proofs.Ytoimbhdjhhmonaa

/- Layer 47: the graph's cells in a slice of the caller's own, with its whole row (to append to). -/
set_option linter.unusedSimpArgs false
set_option maxRecDepth 50000
namespace Go.Proofs.Ytoimbhdjhhmonaa
open Go.RowKit Go Go.Shelf

theorem owns_of_row {base : Nat} {w : World} {g cap : Nat} {l : List C4} {cs : Array Value} (hcs : w.heap[g]? = some (.cells cs 38 (0, 0))) (hsz : cs.size = cap * 4) (hb : base ≤ g) (hlc : l.length ≤ cap) (hcm : cap ≤ 9223372036854775807)
    (hcell : ∀ i (hi : i < l.length), cs[i * 4]? = some (.int .i64 l[i].st) ∧ cs[i * 4 + 1]? = some (.int .i64 l[i].en) ∧ cs[i * 4 + 2]? = some (.int .i64 l[i].ot) ∧ cs[i * 4 + 3]? = some (.int .i64 l[i].pe)) (hok : ∀ x ∈ l, x.ok) :
    Owns cellT 38 base (fun _ => False) w (.slice (some ⟨g, 0, none⟩) l.length cap) (l.map C4.d) := by
  obtain ⟨vs, hr, hc⟩ := RdL.of_at (e := cellT) (S := fun _ => False) (w := w) (b := g) (off := 0) (xs := l.map C4.d) (fun i hi => by
    have hi' : i < l.length := by rw [List.length_map] at hi; exact hi
    obtain ⟨a, b, c, d⟩ := hcell i hi'
    refine ⟨encC l[i], rfl, fun j u hu => ?_, ?_⟩
    · rw [show 0 + i * cellT.sz + j = i * 4 + j by rw [show cellT.sz = 4 from rfl]; omega, blk_cell hcs]
      match j, hu with
      | 0, hu => rw [Nat.add_zero, a]; simpa [encC] using hu
      | 1, hu => rw [b]; simpa [encC] using hu
      | 2, hu => rw [c]; simpa [encC] using hu
      | 3, hu => rw [d]; simpa [encC] using hu
      | j + 4, hu => simp [encC] at hu
    · rw [List.getElem_map]
      exact cell_rd (hok _ (List.getElem_mem hi')))
  have hvl : vs.length = l.length * 4 := by have := hr.len; rw [List.length_map] at this; exact this
  refine ⟨vs, ⟨hr.len, .inr ⟨g, cap, cs, by rw [List.length_map], hb, hcs, by rw [List.length_map]; exact hlc, by simpa [maxLen] using hcm, hsz, ?_⟩⟩, hr, fun _ h => h.elim⟩
  rw [List.length_map]
  refine List.ext_getElem? fun j => ?_
  by_cases hj : j < l.length * 4
  · obtain ⟨u, hu⟩ : ∃ u, vs[j]? = some u := ⟨_, List.getElem?_eq_getElem (by omega)⟩
    have := hc j u hu
    rw [Nat.zero_add, blk_cell hcs] at this
    rw [hu, List.getElem?_take_of_lt (by exact hj), Array.getElem?_toList, this]
  · rw [List.getElem?_eq_none (by rw [List.length_take]; exact Nat.le_trans (Nat.min_le_left _ _) (by show l.length * 4 ≤ j; omega)), List.getElem?_eq_none (by omega)]
end Go.Proofs.Ytoimbhdjhhmonaa

/- Layer 47: slices.BinarySearchFunc at cells: how many of the cells in order precede one. -/
set_option linter.unusedSimpArgs false
set_option maxRecDepth 50000
namespace Go.Proofs.Ytoimbhdjhhmonaa
open Go.RowKit Go

def BsP (w : World) (l : List C4) (c : C4) (e : Ending) (w' : World) : Prop :=
  ∃ (i : Nat) (b : Bool), e = .returned (.tuple #[.int .i64 i, .bool b]) ∧ i ≤ l.length ∧ (∀ x ∈ l.take i, ltC x c) ∧ (∀ x ∈ l.drop i, ¬ ltC x c) ∧ Below w.heap.size w w'
set_option maxHeartbeats 2000000 in
theorem bsearch47 {S : Nat → Prop} (w : World) (a : Option Addr) (cap : Nat) (l : List C4) (hx : Rd (.sl cellT) S w [.slice a l.length cap] (l.map C4.d)) (hS : ∀ b, S b → b < w.heap.size) (hs : Srt l) (hll : l.length ≤ 1000000) (c : C4) :
    Calls Try.prog 39 #[.slice a l.length cap, c.v, .func (.func 40) #[] #[]] w (BsP w l c) := by
  have HX := Lib.hid hx
  have HS := Lib.hid hS
  have HSR := Lib.hid hs
  have HCC := Lib.hid (fun W x => Dr.compare47 W x c)
  obtain ⟨c1, c2, c3, c4⟩ := c
  have hB := (Below.refl w.heap.size w).alloc (Nat.le_refl _) (.cells #[.int .i64 c1, .int .i64 c2, .int .i64 c3, .int .i64 c4] 38)
  have hkb := heap_alloc_new w (.cells #[.int .i64 c1, .int .i64 c2, .int .i64 c3, .int .i64 c4] 38)
  have HB := Lib.hid hB
  have HKB := Lib.hid hkb
  clear hx hS hs hB hkb
  unfold C4.v
  simp only
  go_enter Try.func39, Try.ntmps39
  go_wp2_with fail
  generalize World.alloc _ _ = w1 at *
  go_loopw [9, 10] (fun lv hv wr => ∃ lo hi : Nat, lv = .int .i64 lo ∧ hv = .int .i64 hi ∧ lo ≤ hi ∧ hi ≤ l.length ∧ (∀ x ∈ l.take lo, ltC x ⟨c1, c2, c3, c4⟩) ∧ (∀ x ∈ l.drop hi, ¬ ltC x ⟨c1, c2, c3, c4⟩) ∧ Below w1.heap.size w1 wr) (fun lv hv _ => (intOf hv).toNat - (intOf lv).toNat)
  case atStart => exact ⟨0, l.length, rfl, rfl, Nat.zero_le _, Nat.le_refl _, by simp, by simp, Below.refl _ _⟩
  case round =>
    obtain ⟨lo, hi, rfl, rfl, hlh, hhn, hlow, hhigh, hB1⟩ := hrel
    have HLO := Lib.hid hlow
    have HHI := Lib.hid hhigh
    have HBr := Lib.hid hB1
    have hk := hB1.block _ (blk_lt HKB.out)
    have hkb := hk.trans HKB.out
    have HBW := Lib.hid (below_step HB.out hB1)
    clear hlow hhigh hB1 hk
    by_cases hlt : lo < hi
    · have hltI : (lo : Int) < (hi : Int) := by omega
      obtain ⟨h, hh⟩ : ∃ h, h = (lo + hi) / 2 := ⟨_, rfl⟩
      have hhI : ((lo : Int) + (hi : Int)) / 2 = (h : Nat) := by omega
      have hhn : h < l.length := by omega
      have HHH := Lib.hid hh
      clear hh
      go_upto_region 5 with fail
      have hcell := cell_at (HX.out.below HBW.out HS.out) h hhn
      obtain ⟨b, off, rfl, hb, m0, m1, m2, m3, hok⟩ := hcell
      have HT := Lib.hid (show l.take (h + 1) = l.take h ++ [l[h]] from List.take_succ_eq_append_getElem hhn)
      have HDP := Lib.hid (show l.drop h = l[h] :: l.drop (h + 1) from List.drop_eq_getElem_cons hhn)
      have k0 := blk_cell hkb 0
      have k1 := blk_cell hkb 1
      have k2 := blk_cell hkb 2
      have k3 := blk_cell hkb 3
      simp only [List.getElem?_toArray, List.getElem?_cons_zero, List.getElem?_cons_succ] at k0 k1 k2 k3
      have HSL := Lib.hid (show ∀ x ∈ l.take h, ltC x l[h] from fun x hx => by
        have h1 := HSR.out
        rw [← List.take_append_drop h l, HDP.out, Srt, List.pairwise_append] at h1
        exact h1.2.2 x hx _ List.mem_cons_self)
      have HSG := Lib.hid (show ∀ x ∈ l.drop (h + 1), ltC l[h] x from fun x hx => by
        have h1 := HSR.out
        rw [← List.take_append_drop h l, HDP.out, Srt, List.pairwise_append] at h1
        exact (List.pairwise_cons.1 h1.2.1).1 x hx)
      generalize l[h] = q at m0 m1 m2 m3 HT HDP HSL HSG
      obtain ⟨q1, q2, q3, q4⟩ := q
      simp only at m0 m1 m2 m3
      obtain ⟨eb, heb⟩ : ∃ eb, decide (ltC ⟨q1, q2, q3, q4⟩ ⟨c1, c2, c3, c4⟩) = eb := ⟨_, rfl⟩
      have hcf := cfC_lt ⟨q1, q2, q3, q4⟩ ⟨c1, c2, c3, c4⟩
      obtain ⟨cv, hcv⟩ : ∃ cv, cfC ⟨q1, q2, q3, q4⟩ ⟨c1, c2, c3, c4⟩ = cv := ⟨_, rfl⟩
      have HCQ := Lib.hid (fun W => HCC.out W ⟨q1, q2, q3, q4⟩)
      rw [hcv] at hcf HCQ
      have HCF := Lib.hid (show decide (cv < 0) = eb from by rw [← heb]; exact decide_eq_decide.2 hcf)
      have HEB := Lib.hid heb
      have hC0 : Cells [(⟨b, off + h * 4, none⟩, .int .i64 q1), (⟨b, off + h * 4 + 1, none⟩, .int .i64 q2), (⟨b, off + h * 4 + 2, none⟩, .int .i64 q3), (⟨b, off + h * 4 + 3, none⟩, .int .i64 q4), (⟨w.heap.size, 0, none⟩, .int .i64 c1), (⟨w.heap.size, 1, none⟩, .int .i64 c2), (⟨w.heap.size, 2, none⟩, .int .i64 c3), (⟨w.heap.size, 3, none⟩, .int .i64 c4)] wr := ⟨m0, m1, m2, m3, k0, k1, k2, k3, trivial⟩
      have HLT := Lib.hid (And.intro hlt hhn)
      clear m0 m1 m2 m3 k0 k1 k2 k3 heb hcf hcv hkb hok hb hlt
      refine wp_region_T (Cells [(⟨b, off + h * 4, none⟩, .int .i64 q1), (⟨b, off + h * 4 + 1, none⟩, .int .i64 q2), (⟨b, off + h * 4 + 2, none⟩, .int .i64 q3), (⟨b, off + h * 4 + 3, none⟩, .int .i64 q4), (⟨w.heap.size, 0, none⟩, .int .i64 c1), (⟨w.heap.size, 1, none⟩, .int .i64 c2), (⟨w.heap.size, 2, none⟩, .int .i64 c3), (⟨w.heap.size, 3, none⟩, .int .i64 c4)]) (fun _ => false) (by kernel_rfl) ?_
      have hSss1 := Cells.drew hC0
      have hB_0_s1 : Below wr.heap.size wr wr.drew := below_drew _
      generalize wr.drew = s1 at hSss1 hB_0_s1 ⊢
      have hB_s1_s1 := Below.refl s1.heap.size s1
      refine wpAnyT_pure (i := 0) (v := ?_) rfl (by kernel_rfl) (by kernel_rfl) (by kernel_rfl) (fun _ _ _ h => h) (by rfl) ?_ ?_
      rotate_left
      · intro w; go_simp; try with_reducible rfl
      simp only [Act.put, rgA, rgB, rgC, rgD, rgE, rgF]
      refine wpAnyT_pure (i := 1) (v := ?_) rfl (by kernel_rfl) (by kernel_rfl) (by kernel_rfl) (fun _ _ _ h => h) (by rfl) ?_ ?_
      rotate_left
      · intro w; go_simp; try with_reducible rfl
      simp only [Act.put, rgA, rgB, rgC, rgD, rgE, rgF]
      refine wpAnyT_pure (i := 2) (v := ?_) rfl (by kernel_rfl) (by kernel_rfl) (by kernel_rfl) (fun _ _ _ h => h) (by rfl) ?_ ?_
      rotate_left
      · intro w; go_simp; try with_reducible rfl
      simp only [Act.put, rgA, rgB, rgC, rgD, rgE, rgF]
      refine wpAnyT_pure (i := 3) (v := ?_) rfl (by kernel_rfl) (by kernel_rfl) (by kernel_rfl) (fun _ _ _ h => h) (by rfl) ?_ ?_
      rotate_left
      · intro w; go_simp; try with_reducible rfl
      simp only [Act.put, rgA, rgB, rgC, rgD, rgE, rgF]
      refine wpAnyT_loadW (i := 4) (v := ?_) rfl (by kernel_rfl) (by kernel_rfl) (by kernel_rfl) (by kernel_rfl) (by kernel_rfl) (fun _ _ _ h => h) (Or.inl ⟨by rfl, ?_⟩) hSss1 ?_
      rotate_left
      · intro w hSw; obtain ⟨e0, e1, e2, e3, e4, e5, e6, e7, -⟩ := hSw; go_simp; try with_reducible rfl
      simp only [Act.put, rgA, rgB, rgC, rgD, rgE, rgF]
      refine wpAnyT_loadW (i := 5) (v := ?_) rfl (by kernel_rfl) (by kernel_rfl) (by kernel_rfl) (by kernel_rfl) (by kernel_rfl) (fun _ _ _ h => h) (Or.inl ⟨by rfl, ?_⟩) hSss1 ?_
      rotate_left
      · intro w hSw; obtain ⟨e0, e1, e2, e3, e4, e5, e6, e7, -⟩ := hSw; go_simp; try with_reducible rfl
      simp only [Act.put, rgA, rgB, rgC, rgD, rgE, rgF]
      refine wpAnyT_one (i := 6) (by kernel_rfl) rfl (by rfl) ?_
      have hcq := HCQ.out s1
      unfold C4.v at hcq
      refine wp_enter (f := 40) (args := #[.agg #[.int .i64 q1, .int .i64 q2, .int .i64 q3, .int .i64 q4], .agg #[.int .i64 c1, .int .i64 c2, .int .i64 c3, .int .i64 c4]]) (by go_simp) hcq ?_
      rintro e w102 ⟨rfl, hX'⟩
      have hX := hX'.b
      clear hcq hX'
      have hB_s1_w102 := below_step hB_s1_s1 hX
      have hB_w102_w102 := Below.refl w102.heap.size w102
      have hSsw102 := Cells.below hB_s1_w102 hSss1
      clear hX
      refine ⟨_, rfl, fun _ _ => hSsw102, ?_⟩
      try simp only [Act.put, rgA, rgB, rgC, rgD, rgE, rgF]
      refine wpAnyT_pure (i := 7) (v := (.bool eb)) rfl (by kernel_rfl) (by kernel_rfl) (by kernel_rfl) (fun _ _ _ h => h) (by rfl) ?_ ?_
      · intro w; have hq := HCF.out; clear HCF; go_simp <;> exact hq
      simp only [Act.put, rgA, rgB, rgC, rgD, rgE, rgF]
      refine wpAnyT_done (by kernel_rfl) ?_ _
      have HBN := Lib.hid (below_step HBr.out (hB_0_s1.trans ((hB_s1_w102).mono (hB_0_s1).size)))
      obtain ⟨w5, rfl⟩ : ∃ x, x = w102 := ⟨_, rfl⟩
      clear hC0
      cases eb with
      | true =>
        have hlt := HLT.out
        go_wp2_with fail
        go_roundw
        case rel =>
          refine ⟨h + 1, hi, by go_num, rfl, by have := HHH.out; omega, by assumption, fun x hx => ?_, HHI.out, HBN.out⟩
          have hq : ltC ⟨q1, q2, q3, q4⟩ ⟨c1, c2, c3, c4⟩ := of_decide_eq_true HEB.out
          rw [HT.out, List.mem_append, List.mem_singleton] at hx
          rcases hx with hx | rfl
          · exact ltC_trans (HSL.out x hx) hq
          · exact hq
        case measure => have := HHH.out; simp [intOf]; omega
      | false =>
        have hlt := HLT.out
        go_wp2_with fail
        go_roundw
        case rel =>
          refine ⟨lo, h, rfl, rfl, by have := HHH.out; omega, by omega, HLO.out, fun x hx => ?_, HBN.out⟩
          have hq : ¬ ltC ⟨q1, q2, q3, q4⟩ ⟨c1, c2, c3, c4⟩ := of_decide_eq_false HEB.out
          rw [HDP.out] at hx
          rcases List.mem_cons.1 hx with rfl | hx
          · exact hq
          · exact fun hxc => hq (ltC_trans (HSG.out x hx) hxc)
        case measure => have := HHH.out; simp [intOf]; omega
    · obtain rfl : lo = hi := by omega
      by_cases hln : lo < l.length
      · have hlnI : (lo : Int) < (l.length : Int) := by omega
        go_upto_region 8 with fail
        have hcell := cell_at (HX.out.below HBW.out HS.out) lo hln
        obtain ⟨b, off, rfl, hb, m0, m1, m2, m3, hok⟩ := hcell
        have k0 := blk_cell hkb 0
        have k1 := blk_cell hkb 1
        have k2 := blk_cell hkb 2
        have k3 := blk_cell hkb 3
        simp only [List.getElem?_toArray, List.getElem?_cons_zero, List.getElem?_cons_succ] at k0 k1 k2 k3
        generalize l[lo] = q at m0 m1 m2 m3
        obtain ⟨q1, q2, q3, q4⟩ := q
        simp only at m0 m1 m2 m3
        obtain ⟨cv, hcv⟩ : ∃ cv, cfC ⟨q1, q2, q3, q4⟩ ⟨c1, c2, c3, c4⟩ = cv := ⟨_, rfl⟩
        have HCQ := Lib.hid (fun W => HCC.out W ⟨q1, q2, q3, q4⟩)
        rw [hcv] at HCQ
        have hC0 : Cells [(⟨b, off + lo * 4, none⟩, .int .i64 q1), (⟨b, off + lo * 4 + 1, none⟩, .int .i64 q2), (⟨b, off + lo * 4 + 2, none⟩, .int .i64 q3), (⟨b, off + lo * 4 + 3, none⟩, .int .i64 q4), (⟨w.heap.size, 0, none⟩, .int .i64 c1), (⟨w.heap.size, 1, none⟩, .int .i64 c2), (⟨w.heap.size, 2, none⟩, .int .i64 c3), (⟨w.heap.size, 3, none⟩, .int .i64 c4)] wr := ⟨m0, m1, m2, m3, k0, k1, k2, k3, trivial⟩
        clear m0 m1 m2 m3 k0 k1 k2 k3 hcv hkb hok hb hlt
        refine wp_region_T (Cells [(⟨b, off + lo * 4, none⟩, .int .i64 q1), (⟨b, off + lo * 4 + 1, none⟩, .int .i64 q2), (⟨b, off + lo * 4 + 2, none⟩, .int .i64 q3), (⟨b, off + lo * 4 + 3, none⟩, .int .i64 q4), (⟨w.heap.size, 0, none⟩, .int .i64 c1), (⟨w.heap.size, 1, none⟩, .int .i64 c2), (⟨w.heap.size, 2, none⟩, .int .i64 c3), (⟨w.heap.size, 3, none⟩, .int .i64 c4)]) (fun _ => false) (by kernel_rfl) ?_
        have hSss3 := Cells.drew hC0
        have hB_0_s3 : Below wr.heap.size wr wr.drew := below_drew _
        generalize wr.drew = s3 at hSss3 hB_0_s3 ⊢
        have hB_s3_s3 := Below.refl s3.heap.size s3
        refine wpAnyT_pure (i := 0) (v := ?_) rfl (by kernel_rfl) (by kernel_rfl) (by kernel_rfl) (fun _ _ _ h => h) (by rfl) ?_ ?_
        rotate_left
        · intro w; go_simp; try with_reducible rfl
        simp only [Act.put, rgA, rgB, rgC, rgD, rgE, rgF]
        refine wpAnyT_pure (i := 1) (v := ?_) rfl (by kernel_rfl) (by kernel_rfl) (by kernel_rfl) (fun _ _ _ h => h) (by rfl) ?_ ?_
        rotate_left
        · intro w; go_simp; try with_reducible rfl
        simp only [Act.put, rgA, rgB, rgC, rgD, rgE, rgF]
        refine wpAnyT_pure (i := 2) (v := ?_) rfl (by kernel_rfl) (by kernel_rfl) (by kernel_rfl) (fun _ _ _ h => h) (by rfl) ?_ ?_
        rotate_left
        · intro w; go_simp; try with_reducible rfl
        simp only [Act.put, rgA, rgB, rgC, rgD, rgE, rgF]
        refine wpAnyT_pure (i := 3) (v := ?_) rfl (by kernel_rfl) (by kernel_rfl) (by kernel_rfl) (fun _ _ _ h => h) (by rfl) ?_ ?_
        rotate_left
        · intro w; go_simp; try with_reducible rfl
        simp only [Act.put, rgA, rgB, rgC, rgD, rgE, rgF]
        refine wpAnyT_pure (i := 4) (v := ?_) rfl (by kernel_rfl) (by kernel_rfl) (by kernel_rfl) (fun _ _ _ h => h) (by rfl) ?_ ?_
        rotate_left
        · intro w; go_simp; try with_reducible rfl
        simp only [Act.put, rgA, rgB, rgC, rgD, rgE, rgF]
        refine wpAnyT_pure (i := 5) (v := ?_) rfl (by kernel_rfl) (by kernel_rfl) (by kernel_rfl) (fun _ _ _ h => h) (by rfl) ?_ ?_
        rotate_left
        · intro w; go_simp; try with_reducible rfl
        simp only [Act.put, rgA, rgB, rgC, rgD, rgE, rgF]
        refine wpAnyT_pure (i := 6) (v := ?_) rfl (by kernel_rfl) (by kernel_rfl) (by kernel_rfl) (fun _ _ _ h => h) (by rfl) ?_ ?_
        rotate_left
        · intro w; go_simp; try with_reducible rfl
        simp only [Act.put, rgA, rgB, rgC, rgD, rgE, rgF]
        refine wpAnyT_pure (i := 7) (v := ?_) rfl (by kernel_rfl) (by kernel_rfl) (by kernel_rfl) (fun _ _ _ h => h) (by rfl) ?_ ?_
        rotate_left
        · intro w; go_simp; try with_reducible rfl
        simp only [Act.put, rgA, rgB, rgC, rgD, rgE, rgF]
        refine wpAnyT_pure (i := 8) (v := ?_) rfl (by kernel_rfl) (by kernel_rfl) (by kernel_rfl) (fun _ _ _ h => h) (by rfl) ?_ ?_
        rotate_left
        · intro w; go_simp; try with_reducible rfl
        simp only [Act.put, rgA, rgB, rgC, rgD, rgE, rgF]
        refine wpAnyT_loadW (i := 9) (v := ?_) rfl (by kernel_rfl) (by kernel_rfl) (by kernel_rfl) (by kernel_rfl) (by kernel_rfl) (fun _ _ _ h => h) (Or.inl ⟨by rfl, ?_⟩) hSss3 ?_
        rotate_left
        · intro w hSw; obtain ⟨e0, e1, e2, e3, e4, e5, e6, e7, -⟩ := hSw; go_simp; try with_reducible rfl
        simp only [Act.put, rgA, rgB, rgC, rgD, rgE, rgF]
        refine wpAnyT_loadW (i := 10) (v := ?_) rfl (by kernel_rfl) (by kernel_rfl) (by kernel_rfl) (by kernel_rfl) (by kernel_rfl) (fun _ _ _ h => h) (Or.inl ⟨by rfl, ?_⟩) hSss3 ?_
        rotate_left
        · intro w hSw; obtain ⟨e0, e1, e2, e3, e4, e5, e6, e7, -⟩ := hSw; go_simp; try with_reducible rfl
        simp only [Act.put, rgA, rgB, rgC, rgD, rgE, rgF]
        refine wpAnyT_one (i := 11) (by kernel_rfl) rfl (by rfl) ?_
        have hcq := HCQ.out s3
        unfold C4.v at hcq
        refine wp_enter (f := 40) (args := #[.agg #[.int .i64 q1, .int .i64 q2, .int .i64 q3, .int .i64 q4], .agg #[.int .i64 c1, .int .i64 c2, .int .i64 c3, .int .i64 c4]]) (by go_simp) hcq ?_
        rintro e w104 ⟨rfl, hX'⟩
        have hX := hX'.b
        clear hcq hX'
        have hB_s3_w104 := below_step hB_s3_s3 hX
        have hB_w104_w104 := Below.refl w104.heap.size w104
        have hSsw104 := Cells.below hB_s3_w104 hSss3
        clear hX
        refine ⟨_, rfl, fun _ _ => hSsw104, ?_⟩
        try simp only [Act.put, rgA, rgB, rgC, rgD, rgE, rgF]
        refine wpAnyT_pure (i := 12) (v := ?_) rfl (by kernel_rfl) (by kernel_rfl) (by kernel_rfl) (fun _ _ _ h => h) (by rfl) ?_ ?_
        rotate_left
        · intro w; go_simp; try with_reducible rfl
        simp only [Act.put, rgA, rgB, rgC, rgD, rgE, rgF]
        refine wpAnyT_pure (i := 13) (v := ?_) rfl (by kernel_rfl) (by kernel_rfl) (by kernel_rfl) (fun _ _ _ h => h) (by rfl) ?_ ?_
        rotate_left
        · intro w; go_simp; try with_reducible rfl
        simp only [Act.put, rgA, rgB, rgC, rgD, rgE, rgF]
        refine wpAnyT_pure (i := 14) (v := ?_) rfl (by kernel_rfl) (by kernel_rfl) (by kernel_rfl) (fun _ _ _ h => h) (by rfl) ?_ ?_
        rotate_left
        · intro w; go_simp; try with_reducible rfl
        simp only [Act.put, rgA, rgB, rgC, rgD, rgE, rgF]
        refine wpAnyT_pure (i := 15) (v := ?_) rfl (by kernel_rfl) (by kernel_rfl) (by kernel_rfl) (fun _ _ _ h => h) (by rfl) ?_ ?_
        rotate_left
        · intro w; go_simp; try with_reducible rfl
        simp only [Act.put, rgA, rgB, rgC, rgD, rgE, rgF]
        refine wpAnyT_done (by kernel_rfl) ?_ _
        have HBN := Lib.hid (below_step HBW.out (hB_0_s3.trans ((hB_s3_w104).mono (hB_0_s3).size)))
        obtain ⟨w5, rfl⟩ : ∃ x, x = w104 := ⟨_, rfl⟩
        go_wp2_with fail
        refine bodyPost_ret (results_tmp2 rfl _ _ _) rfl ?_
        exact ⟨lo, _, rfl, by omega, HLO.out, HHI.out, HBN.out⟩
      · have hlnI : ¬ (lo : Int) < (l.length : Int) := by omega
        go_upto_region 8 with fail
        have hC0 : Cells [] wr := trivial
        refine wp_region_T (Cells []) (fun _ => false) (by kernel_rfl) ?_
        have hSss5 := Cells.drew hC0
        have hB_0_s5 : Below wr.heap.size wr wr.drew := below_drew _
        generalize wr.drew = s5 at hSss5 hB_0_s5 ⊢
        have hB_s5_s5 := Below.refl s5.heap.size s5
        refine wpAnyT_pure (i := 0) (v := ?_) rfl (by kernel_rfl) (by kernel_rfl) (by kernel_rfl) (fun _ _ _ h => h) (by rfl) ?_ ?_
        rotate_left
        · intro w; go_simp; try with_reducible rfl
        simp only [Act.put, rgA, rgB, rgC, rgD, rgE, rgF]
        refine wpAnyT_pure (i := 1) (v := ?_) rfl (by kernel_rfl) (by kernel_rfl) (by kernel_rfl) (fun _ _ _ h => h) (by rfl) ?_ ?_
        rotate_left
        · intro w; go_simp; try with_reducible rfl
        simp only [Act.put, rgA, rgB, rgC, rgD, rgE, rgF]
        refine wpAnyT_pure (i := 2) (v := ?_) rfl (by kernel_rfl) (by kernel_rfl) (by kernel_rfl) (fun _ _ _ h => h) (by rfl) ?_ ?_
        rotate_left
        · intro w; go_simp; try with_reducible rfl
        simp only [Act.put, rgA, rgB, rgC, rgD, rgE, rgF]
        refine wpAnyT_pure (i := 3) (v := ?_) rfl (by kernel_rfl) (by kernel_rfl) (by kernel_rfl) (fun _ _ _ h => h) (by rfl) ?_ ?_
        rotate_left
        · intro w; go_simp; try with_reducible rfl
        simp only [Act.put, rgA, rgB, rgC, rgD, rgE, rgF]
        refine wpAnyT_pure (i := 4) (v := ?_) rfl (by kernel_rfl) (by kernel_rfl) (by kernel_rfl) (fun _ _ _ h => h) (by rfl) ?_ ?_
        rotate_left
        · intro w; go_simp; try with_reducible rfl
        simp only [Act.put, rgA, rgB, rgC, rgD, rgE, rgF]
        refine wpAnyT_skip (i := 5) rfl (by kernel_rfl) (by kernel_rfl) (by kernel_rfl) (fun _ _ _ h => h) (by rfl) ?_
        simp only [Act.put, rgA, rgB, rgC, rgD, rgE, rgF]
        refine wpAnyT_skip (i := 6) rfl (by kernel_rfl) (by kernel_rfl) (by kernel_rfl) (fun _ _ _ h => h) (by rfl) ?_
        simp only [Act.put, rgA, rgB, rgC, rgD, rgE, rgF]
        refine wpAnyT_skip (i := 7) rfl (by kernel_rfl) (by kernel_rfl) (by kernel_rfl) (fun _ _ _ h => h) (by rfl) ?_
        simp only [Act.put, rgA, rgB, rgC, rgD, rgE, rgF]
        refine wpAnyT_skip (i := 8) rfl (by kernel_rfl) (by kernel_rfl) (by kernel_rfl) (fun _ _ _ h => h) (by rfl) ?_
        simp only [Act.put, rgA, rgB, rgC, rgD, rgE, rgF]
        refine wpAnyT_skip (i := 9) rfl (by kernel_rfl) (by kernel_rfl) (by kernel_rfl) (fun _ _ _ h => h) (by rfl) ?_
        simp only [Act.put, rgA, rgB, rgC, rgD, rgE, rgF]
        refine wpAnyT_skip (i := 10) rfl (by kernel_rfl) (by kernel_rfl) (by kernel_rfl) (fun _ _ _ h => h) (by rfl) ?_
        simp only [Act.put, rgA, rgB, rgC, rgD, rgE, rgF]
        refine wpAnyT_skip (i := 11) rfl (by kernel_rfl) (by kernel_rfl) (by kernel_rfl) (fun _ _ _ h => h) (by rfl) ?_
        simp only [Act.put, rgA, rgB, rgC, rgD, rgE, rgF]
        refine wpAnyT_skip (i := 12) rfl (by kernel_rfl) (by kernel_rfl) (by kernel_rfl) (fun _ _ _ h => h) (by rfl) ?_
        simp only [Act.put, rgA, rgB, rgC, rgD, rgE, rgF]
        refine wpAnyT_pure (i := 13) (v := ?_) rfl (by kernel_rfl) (by kernel_rfl) (by kernel_rfl) (fun _ _ _ h => h) (by rfl) ?_ ?_
        rotate_left
        · intro w; go_simp; try with_reducible rfl
        simp only [Act.put, rgA, rgB, rgC, rgD, rgE, rgF]
        refine wpAnyT_pure (i := 14) (v := ?_) rfl (by kernel_rfl) (by kernel_rfl) (by kernel_rfl) (fun _ _ _ h => h) (by rfl) ?_ ?_
        rotate_left
        · intro w; go_simp; try with_reducible rfl
        simp only [Act.put, rgA, rgB, rgC, rgD, rgE, rgF]
        refine wpAnyT_pure (i := 15) (v := ?_) rfl (by kernel_rfl) (by kernel_rfl) (by kernel_rfl) (fun _ _ _ h => h) (by rfl) ?_ ?_
        rotate_left
        · intro w; go_simp; try with_reducible rfl
        simp only [Act.put, rgA, rgB, rgC, rgD, rgE, rgF]
        refine wpAnyT_done (by kernel_rfl) ?_ _
        have HBN := Lib.hid (below_step HBW.out (hB_0_s5.trans ((hB_s5_s5).mono (hB_0_s5).size)))
        obtain ⟨w5, rfl⟩ : ∃ x, x = s5 := ⟨_, rfl⟩
        go_wp2_with fail
        refine bodyPost_ret (results_tmp2 rfl _ _ _) rfl ?_
        exact ⟨lo, _, rfl, by omega, HLO.out, HHI.out, HBN.out⟩
end Go.Proofs.Ytoimbhdjhhmonaa
