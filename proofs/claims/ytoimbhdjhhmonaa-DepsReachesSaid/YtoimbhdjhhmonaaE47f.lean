/- Layer 47: the law's few and build: both graphs after any steps. -/
import Derived.Test.YtoimbhdjhhmonaaE47b
import Derived.Test.YtoimbhdjhhmonaaRead
set_option linter.unusedSimpArgs false
set_option maxRecDepth 50000
namespace Go.Proofs.Ytoimbhdjhhmonaa
open Go.RowKit Go

abbrev stepT : Ty := .pr cellT (.pr (.sl cellT) (.pr .bool .un))
theorem map_d_c4 (l : List cellT.den) : (l.map c4).map C4.d = l := by
  rw [List.map_map]
  exact (List.map_congr_left (fun x _ => d_c4 x)).trans (List.map_id _)
theorem rd_cells {S : Nat → Prop} {w : World} {cs : List Value} {l : List cellT.den} (h : Rd (.sl cellT) S w cs l) : ∃ a cap, cs = [.slice a (l.map c4).length cap] ∧ Rd (.sl cellT) S w [.slice a (l.map c4).length cap] ((l.map c4).map C4.d) := by
  have h' := h
  obtain ⟨a, n, cap, rfl, hl, -⟩ := h'
  rw [map_d_c4, List.length_map, hl]
  exact ⟨a, cap, rfl, h⟩
def stL (x : stepT.den) : List C4 := x.2.1.map c4
theorem step_at {S : Nat → Prop} {w : World} {a : Option Addr} {len cap : Nat} {xs : List stepT.den} (h : Rd (.sl stepT) S w [.slice a len cap] xs) (i : Nat) (hi : i < xs.length) :
    ∃ b off ra rc, a = some ⟨b, off, none⟩ ∧ S b ∧ w.cell? ⟨b, off + i * 6, none⟩ = some (.int .i64 (c4 xs[i].1).st) ∧ w.cell? ⟨b, off + i * 6 + 1, none⟩ = some (.int .i64 (c4 xs[i].1).en) ∧ w.cell? ⟨b, off + i * 6 + 2, none⟩ = some (.int .i64 (c4 xs[i].1).ot) ∧ w.cell? ⟨b, off + i * 6 + 3, none⟩ = some (.int .i64 (c4 xs[i].1).pe) ∧
      w.cell? ⟨b, off + i * 6 + 4, none⟩ = some (.slice ra (stL xs[i]).length rc) ∧ w.cell? ⟨b, off + i * 6 + 5, none⟩ = some (.bool xs[i].2.2.1) ∧ Rd (.sl cellT) S w [.slice ra (stL xs[i]).length rc] ((stL xs[i]).map C4.d) ∧ (c4 xs[i].1).ok := by
  obtain ⟨hl, -, -, vs, hr, hor⟩ := h.sl_flat
  obtain ⟨c, hc, hcc, hrd⟩ := hr.at_ i hi
  rcases hor with h0 | ⟨b, off, rfl, hb, hcell⟩
  · omega
  · generalize xs[i] = s at hrd ⊢
    obtain ⟨⟨s1, s2, s3, s4, ⟨⟩⟩, sl, sb, ⟨⟩⟩ := s
    obtain ⟨d1, r1, rfl, hcr, d2, r2, rfl, hsl, d3, r3, rfl, rfl, rfl⟩ := hrd
    obtain ⟨x1, q1, rfl, ⟨rfl, h1⟩, x2, q2, rfl, ⟨rfl, h2⟩, x3, q3, rfl, ⟨rfl, h3⟩, x4, q4, rfl, ⟨rfl, h4⟩, rfl⟩ := hcr
    obtain ⟨ra, rc, rfl, hsl2⟩ := rd_cells hsl
    refine ⟨b, off, ra, rc, rfl, hb, ?_, ?_, ?_, ?_, ?_, ?_, hsl2, ⟨h1, h2, h3, h4⟩⟩
    · rw [show off + i * 6 = off + (i * stepT.sz + 0) from rfl]; exact hcell _ _ (hcc 0 _ rfl)
    · rw [show off + i * 6 + 1 = off + (i * stepT.sz + 1) from rfl]; exact hcell _ _ (hcc 1 _ rfl)
    · rw [show off + i * 6 + 2 = off + (i * stepT.sz + 2) from rfl]; exact hcell _ _ (hcc 2 _ rfl)
    · rw [show off + i * 6 + 3 = off + (i * stepT.sz + 3) from rfl]; exact hcell _ _ (hcc 3 _ rfl)
    · rw [show off + i * 6 + 4 = off + (i * stepT.sz + 4) from rfl]; exact hcell _ _ (hcc 4 _ rfl)
    · rw [show off + i * 6 + 5 = off + (i * stepT.sz + 5) from rfl]; exact hcell _ _ (hcc 5 _ rfl)
def fewB (xs : List stepT.den) : Bool := xs.all (fun s => decide ((stL s).length ≤ 30)) && decide (xs.length ≤ 30)
set_option maxHeartbeats 1000000 in
theorem few47 {S : Nat → Prop} (w : World) (a : Option Addr) (len cap : Nat) (xs : List stepT.den) (hx : Rd (.sl stepT) S w [.slice a len cap] xs) (hS : ∀ b, S b → b < w.heap.size) :
    Calls Try.prog 10 #[.slice a len cap] w fun e w' => e = .returned (.bool (fewB xs)) ∧ Below w.heap.size w w' := by
  have HL := Lib.hid (show xs.length = len from hx.sl_flat.1)
  have hlm : len ≤ 9223372036854775807 := Nat.le_trans hx.sl_flat.2.1 hx.sl_flat.2.2.1
  have HX := Lib.hid hx
  have HS := Lib.hid hS
  clear hx hS
  go_enter Try.func10, Try.ntmps10
  go_wp2_with fail
  go_loopw [3] (fun i wr => ∃ (k : Nat), k ≤ len ∧ i = .int .i64 k ∧ (xs.take k).all (fun s => decide ((stL s).length ≤ 30)) = true ∧ Below w.heap.size w wr) (fun i _ => len - (intOf i).toNat)
  case atStart => exact ⟨0, Nat.zero_le _, rfl, rfl, Below.refl _ _⟩
  obtain ⟨k, hk, rfl, hall, hB⟩ := hrel
  have HALL := Lib.hid hall
  have HB := Lib.hid hB
  clear hall
  by_cases hlt : k < len
  · have hkI : (k : Int) < (len : Int) := by omega
    have hkx : k < xs.length := by rw [HL.out]; exact hlt
    obtain ⟨b, o, ra, rc, rfl, -, -, -, -, -, m4, -, hrr, -⟩ := step_at (HX.out.below hB HS.out) k hkx
    have HST := Lib.hid (show (xs.take (k + 1)).all (fun s => decide ((stL s).length ≤ 30)) = decide ((stL xs[k]).length ≤ 30) from by
      rw [List.take_succ_eq_append_getElem hkx, List.all_append, HALL.out]
      simp)
    have HNO := Lib.hid (show ¬ (stL xs[k]).length ≤ 30 → fewB xs = false from fun h => by
      unfold fewB
      rw [show xs.all (fun s => decide ((stL s).length ≤ 30)) = false from by
        rw [List.all_eq_false]
        exact ⟨xs[k], List.getElem_mem hkx, by simp; omega⟩]
      rfl)
    generalize stL xs[k] = yl at m4 hrr HST HNO
    have HLT := Lib.hid hlt
    have hym : yl.length ≤ 9223372036854775807 := Nat.le_trans ((rd_len hrr) ▸ hrr.sl_flat.2.1) hrr.sl_flat.2.2.1
    clear hrr hB hkx hlt
    by_cases hy : yl.length ≤ 30
    · have hyI : ¬ ((30 : Int) < (yl.length : Int)) := by omega
      have HST2 := Lib.hid (show (xs.take (k + 1)).all (fun s => decide ((stL s).length ≤ 30)) = true from by rw [HST.out, decide_eq_true hy])
      go_wp2_with fail
      go_roundw
      case rel => exact ⟨k + 1, HLT.out, by go_num, HST2.out, HB.out⟩
      case measure => simp [intOf]; try omega
    · have hyI : (30 : Int) < (yl.length : Int) := by omega
      have HN := Lib.hid (HNO.out hy)
      go_wp2_with fail
      go_ret
      exact ⟨by rw [HN.out]; rfl, HB.out⟩
  · obtain rfl : k = len := by omega
    have hall := HALL.out
    rw [List.take_of_length_le (by rw [HL.out]; exact Nat.le_refl _)] at hall
    have HF := Lib.hid (show fewB xs = decide (k ≤ 30) from by unfold fewB; rw [hall, HL.out]; rfl)
    clear hall hB
    by_cases hy : k ≤ 30
    · have hyI : (k : Int) ≤ 30 := by omega
      have HF2 := Lib.hid (show fewB xs = true from by rw [HF.out, decide_eq_true hy])
      go_wp2_with fail
      go_ret
      exact ⟨by rw [HF2.out]; rfl, HB.out⟩
    · have hyI : ¬ (k : Int) ≤ 30 := by omega
      have HF2 := Lib.hid (show fewB xs = false from by rw [HF.out, decide_eq_false hy])
      go_wp2_with fail
      go_ret
      exact ⟨by rw [HF2.out]; rfl, HB.out⟩
/-- Both graphs. -/
structure BG (F : Nat → Nat) (w : World) (p mr ms n K m : Nat) (G : List En4) (ha : Option Addr) (hc : Nat) : Prop where
  dep : DepI F w p mr ms n K (lkG G)
  ref : Rd (.sl entT) (fun b => b < w.heap.size ∧ F b = 0) w [.slice ha G.length hc] (G.map entD)
  gi : GI m G
  nle : n ≤ m
  kle : K ≤ 400 * m
theorem BG.below {F : Nat → Nat} {w w' : World} {p mr ms n K m : Nat} {G : List En4} {ha : Option Addr} {hc : Nat} (h : BG F w p mr ms n K m G ha hc) (hB : Below w.heap.size w w') : BG F w' p mr ms n K m G ha hc :=
  ⟨h.dep.below hB, (h.ref.below hB (fun b hb => hb.1)).keep (fun _ _ => rfl) (fun b hb => ⟨Nat.lt_of_lt_of_le hb.1 hB.size, hb.2⟩), h.gi, h.nle, h.kle⟩
/-- What has turned in the graph alone leaves the rest. -/
theorem gr_below0 {F : Nat → Nat} {w0 w w' : World} (h : Below w0.heap.size w0 w) (hF : ∀ b, b < w0.heap.size → F b = 0) (hg : Gr (fun b => F b ≠ 0) w w') : Below w0.heap.size w0 w' :=
  h.trans (hg.below (fun b e => by
    by_cases hb : w0.heap.size ≤ b
    · exact hb
    · exact absurd (hF b (by omega)) e) h.size)
theorem rd_gr0 {e : Ty} {F F' : Nat → Nat} {w w' : World} {cs : List Value} {x : e.den} (h : Rd e (fun b => b < w.heap.size ∧ F b = 0) w cs x) (hg : Gr (fun b => F b ≠ 0) w w') (hF : ∀ b, b < w.heap.size → F' b = F b) : Rd e (fun b => b < w'.heap.size ∧ F' b = 0) w' cs x :=
  (h.keep (fun b hb => hg.block b hb.1 (fun e => e hb.2)) (fun b hb => ⟨Nat.lt_of_lt_of_le hb.1 hg.size, (hF b hb.1).trans hb.2⟩))
theorem setCode_vcode {r : Bool} {n : Nat} {c : C4} {l : List C4} (hl : l.length ≤ 200) (hn : n < 5000) : setCode r n c l = vcode c l := by
  unfold setCode vcode
  split
  · rfl
  · rw [if_neg]
    rintro (h | ⟨-, h⟩) <;> omega
def BuildP (w : World) (m : Nat) (e : Ending) (w' : World) : Prop :=
  ∃ (F : Nat → Nat) (p mr ms n K : Nat) (G : List En4) (ha : Option Addr) (hc : Nat), e = .returned (.tuple #[.pointer (some ⟨p, 0, none⟩), .slice ha G.length hc, .bool true]) ∧ BG F w' p mr ms n K m G ha hc ∧ (∀ b, b < w.heap.size → F b = 0) ∧ Below w.heap.size w w'
set_option maxHeartbeats 4000000 in
theorem build47 {S : Nat → Prop} (w : World) (a : Option Addr) (len cap : Nat) (xs : List stepT.den) (hx : Rd (.sl stepT) S w [.slice a len cap] xs) (hS : ∀ b, S b → b < w.heap.size) (hfew : fewB xs = true) :
    Calls Try.prog 11 #[.slice a len cap] w (BuildP w len) := by
  have HL := Lib.hid (show xs.length = len from hx.sl_flat.1)
  have hlm : len ≤ 30 := by
    unfold fewB at hfew
    rw [Bool.and_eq_true] at hfew
    have := of_decide_eq_true hfew.2
    rw [HL.out] at this
    exact this
  have HYL := Lib.hid (show ∀ k (hk : k < xs.length), (stL xs[k]).length ≤ 30 from fun k hk => by
    unfold fewB at hfew
    rw [Bool.and_eq_true, List.all_eq_true] at hfew
    exact of_decide_eq_true (hfew.1 _ (List.getElem_mem hk)))
  have HX := Lib.hid hx
  have HS := Lib.hid hS
  have HN := Lib.hid (new47 w)
  clear hx hS hfew
  go_enter Try.func11, Try.ntmps11
  go_wp2_with fail
  refine HN.out.mono ?_
  rintro e w1 ⟨p, mr, ms, F0, rfl, hB1, hI1, hF1⟩
  have HB1 := Lib.hid hB1
  have HI1 := Lib.hid hI1
  have HF1 := Lib.hid hF1
  clear hB1 hI1 hF1 HN
  go_wp2_with fail
  go_loopw [6, 7] (fun hv iv wr => ∃ (k : Nat) (F : Nat → Nat) (n K : Nat) (G : List En4) (ha : Option Addr) (hc : Nat), k ≤ len ∧ iv = .int .i64 k ∧ hv = .slice ha G.length hc ∧ BG F wr p mr ms n K k G ha hc ∧ (∀ b, b < w.heap.size → F b = 0) ∧ Below w.heap.size w wr) (fun _ iv _ => len - (intOf iv).toNat)
  case atStart => exact ⟨0, F0, 0, 0, [], none, 0, Nat.zero_le _, rfl, rfl, ⟨HI1.out, ⟨none, 0, 0, rfl, rfl, Nat.le_refl _, by decide, .inl rfl⟩, GI.nil, Nat.le_refl _, Nat.le_refl _⟩, HF1.out, HB1.out⟩
  obtain ⟨k, F, n, K, G, ha, hc, hk, rfl, rfl, hG, hF, hB⟩ := hrel
  have HG := Lib.hid hG
  have HF := Lib.hid hF
  have HB := Lib.hid hB
  clear hG hF
  by_cases hlt : k < len
  · have hkI : (k : Int) < (len : Int) := by omega
    have hkx : k < xs.length := by rw [HL.out]; exact hlt
    obtain ⟨b, o, ra, rc, rfl, hbS, m0, m1, m2, m3, m4, m5, hrr, hco⟩ := step_at HX.out k hkx
    have hYL := HYL.out k hkx
    generalize xs[k] = x at m0 m1 m2 m3 m4 m5 hrr hco hYL
    obtain ⟨l, hl⟩ : ∃ l, stL x = l := ⟨_, rfl⟩
    obtain ⟨c, hc'⟩ : ∃ c, c4 x.1 = c := ⟨_, rfl⟩
    obtain ⟨rm, hrm⟩ : ∃ c, x.2.2.1 = c := ⟨_, rfl⟩
    rw [hl] at m4 hrr hYL
    rw [hc'] at m0 m1 m2 m3 hco
    rw [hrm] at m5
    have HYLL := Lib.hid hYL
    have HRR := Lib.hid hrr
    have HCO := Lib.hid hco
    obtain ⟨c1, c2, c3, c4'⟩ := c
    simp only at m0 m1 m2 m3
    have hbl := HS.out b hbS
    have HCC := Lib.hid (show Cells [(⟨b, o + k * 6, none⟩, .int .i64 c1), (⟨b, o + k * 6 + 1, none⟩, .int .i64 c2), (⟨b, o + k * 6 + 2, none⟩, .int .i64 c3), (⟨b, o + k * 6 + 3, none⟩, .int .i64 c4'), (⟨b, o + k * 6 + 4, none⟩, .slice ra l.length rc), (⟨b, o + k * 6 + 5, none⟩, .bool rm)] w from ⟨m0, m1, m2, m3, m4, m5, trivial⟩)
    have HCL := Lib.hid (show CellsLt w.heap.size [(⟨b, o + k * 6, none⟩, .int .i64 c1), (⟨b, o + k * 6 + 1, none⟩, .int .i64 c2), (⟨b, o + k * 6 + 2, none⟩, .int .i64 c3), (⟨b, o + k * 6 + 3, none⟩, .int .i64 c4'), (⟨b, o + k * 6 + 4, none⟩, .slice ra l.length rc), (⟨b, o + k * 6 + 5, none⟩, .bool rm)] from ⟨hbl, hbl, hbl, hbl, hbl, hbl, trivial⟩)
    have HLT := Lib.hid hlt
    have HKN := Lib.hid (show k ≤ 30 from by omega)
    clear m0 m1 m2 m3 m4 m5 hl hc' hrm hbl hbS hrr hco hYL hkx hlt
    obtain ⟨z0, z1, z2, z3, z4, z5, -⟩ := Cells.belowN hB HCL.out HCC.out
    cases rm
    case true =>
      have HRM := Lib.hid (remove47 wr HG.out.dep ⟨c1, c2, c3, c4'⟩ (HG.out.dep.nodup HG.out.gi _) HCO.out)
      unfold C4.v at HRM
      simp only at HRM
      go_wp2_with fail
      refine HRM.out.mono ?_
      rintro e w2 ⟨he, h1, h2⟩
      obtain ⟨rb, hrb⟩ : ∃ x, (lkG G ⟨c1, c2, c3, c4'⟩).isSome = x := ⟨_, rfl⟩
      rw [hrb] at he h1 h2
      have HRB := Lib.hid hrb
      have hg2 : BG F w2 p mr ms (if rb = true then n - 1 else n) K (k + 1) (delG G ⟨c1, c2, c3, c4'⟩) ha hc → True := fun _ => trivial
      clear hg2 hrb z0 z1 z2 z3 z4 z5
      have HDEP2 := Lib.hid (show DepI F w2 p mr ms (if rb = true then n - 1 else n) K (lkG (delG G ⟨c1, c2, c3, c4'⟩)) ∧ Gr (fun b => F b ≠ 0) wr w2 from by
        cases rb
        · have hb := h1 rfl
          have hn : lkG G ⟨c1, c2, c3, c4'⟩ = none := by
            have := HRB.out
            cases hl : lkG G ⟨c1, c2, c3, c4'⟩ with
            | none => rfl
            | some l => rw [hl] at this; cases this
          rw [delG_none hn]
          exact ⟨HG.out.dep.below hb, Gr.of_below hb⟩
        · obtain ⟨hg, hd⟩ := h2 rfl
          refine ⟨?_, hg⟩
          have hfe : (fun x => if x = ⟨c1, c2, c3, c4'⟩ then none else lkG G x) = lkG (delG G ⟨c1, c2, c3, c4'⟩) := by
            funext x
            exact (lkG_del G _ x).symm
          rw [hfe] at hd
          exact hd)
      have HRF2 := Lib.hid (rd_gr0 HG.out.ref HDEP2.out.2 (fun _ _ => rfl))
      have HB2 := Lib.hid (gr_below0 HB.out HF.out HDEP2.out.2)
      have HRR2 := Lib.hid (rremove47 w2 ha hc G HRF2.out (fun b hb => hb.1) (by have := HG.out.gi.num; have := HKN.out; omega) ⟨c1, c2, c3, c4'⟩)
      unfold C4.v at HRR2
      simp only at HRR2
      clear h1 h2
      have HE1 := Lib.hid HRB.out
      cases rb
      · simp only [Bool.false_eq_true, if_false] at he
        subst he
        obtain ⟨z0, z1, z2, z3, z4, z5, -⟩ := Cells.belowN HB2.out HCL.out HCC.out
        go_wp2_with fail
        refine HRR2.out.mono ?_
        rintro e w3 ⟨da, dc, he, hB3, hR3⟩
        rw [HE1.out] at he
        simp only [Bool.false_eq_true, if_false] at he
        subst he
        have HB3 := Lib.hid (below_step HB2.out hB3)
        have HBG3 := Lib.hid (show BG F w3 p mr ms n K (k + 1) (delG G ⟨c1, c2, c3, c4'⟩) da dc from ⟨HDEP2.out.1.below hB3, hR3.keep (fun _ _ => rfl) (fun b hb => hb.elim (fun h => ⟨Nat.lt_of_lt_of_le h.1 hB3.size, h.2⟩) (fun h => ⟨h.2, HDEP2.out.1.dom0 h.1⟩)), (HG.out.gi.del _).mono (Nat.le_succ _), by have := HG.out.nle; omega, by have := HG.out.kle; omega⟩)
        clear hB3 hR3 z0 z1 z2 z3 z4 z5
        go_wp2_with fail
        go_roundw
        case rel => exact ⟨k + 1, F, _, _, _, da, dc, HLT.out, by go_num, rfl, HBG3.out, HF.out, HB3.out⟩
        case measure => simp [intOf]; try omega
      · simp only [if_true] at he
        subst he
        obtain ⟨z0, z1, z2, z3, z4, z5, -⟩ := Cells.belowN HB2.out HCL.out HCC.out
        go_wp2_with fail
        refine HRR2.out.mono ?_
        rintro e w3 ⟨da, dc, he, hB3, hR3⟩
        rw [HE1.out] at he
        simp only [if_true] at he
        subst he
        have HB3 := Lib.hid (below_step HB2.out hB3)
        have HBG3 := Lib.hid (show BG F w3 p mr ms (n - 1) K (k + 1) (delG G ⟨c1, c2, c3, c4'⟩) da dc from ⟨HDEP2.out.1.below hB3, hR3.keep (fun _ _ => rfl) (fun b hb => hb.elim (fun h => ⟨Nat.lt_of_lt_of_le h.1 hB3.size, h.2⟩) (fun h => ⟨h.2, HDEP2.out.1.dom0 h.1⟩)), (HG.out.gi.del _).mono (Nat.le_succ _), by have := HG.out.nle; omega, by have := HG.out.kle; omega⟩)
        clear hB3 hR3 z0 z1 z2 z3 z4 z5
        go_wp2_with fail
        go_roundw
        case rel => exact ⟨k + 1, F, _, _, _, da, dc, HLT.out, by go_num, rfl, HBG3.out, HF.out, HB3.out⟩
        case measure => simp [intOf]; try omega
    have hC0 : Cells [(⟨b, o + k * 6, none⟩, .int .i64 c1), (⟨b, o + k * 6 + 1, none⟩, .int .i64 c2), (⟨b, o + k * 6 + 2, none⟩, .int .i64 c3), (⟨b, o + k * 6 + 3, none⟩, .int .i64 c4'), (⟨b, o + k * 6 + 4, none⟩, .slice ra l.length rc)] wr := ⟨z0, z1, z2, z3, z4, trivial⟩
    obtain ⟨vc, hvc⟩ : ∃ x, vcode ⟨c1, c2, c3, c4'⟩ l = x := ⟨_, rfl⟩
    have HVC := Lib.hid hvc
    clear hvc
    go_upto_region 10 with fail
    refine wp_region_T (Cells [(⟨b, o + k * 6, none⟩, .int .i64 c1), (⟨b, o + k * 6 + 1, none⟩, .int .i64 c2), (⟨b, o + k * 6 + 2, none⟩, .int .i64 c3), (⟨b, o + k * 6 + 3, none⟩, .int .i64 c4'), (⟨b, o + k * 6 + 4, none⟩, .slice ra l.length rc)]) (fun i => i == 11) (by kernel_rfl) ?_
    have hSss1 := Cells.drew hC0
    have hB_0_s1 : Below wr.heap.size wr wr.drew := below_drew _
    generalize wr.drew = s1 at hSss1 hB_0_s1 ⊢
    have hB_s1_s1 := Below.refl s1.heap.size s1
    refine wpAnyT_pure (i := 0) (v := ?_) rfl (by kernel_rfl) (by kernel_rfl) (by kernel_rfl) (fun _ _ _ h => h) (by rfl) ?_ ?_
    rotate_left
    · intro w; go_simp; try with_reducible rfl
    simp only [Act.put, rgA, rgB, rgC, rgD, rgE, rgF]
    refine wpAnyT_pure (i := 1) (v := ?_) rfl (by kernel_rfl) (by kernel_rfl) (by kernel_rfl) (fun _ _ _ h => h) (by rfl) ?_ ?_
    rotate_left
    · intro w; go_simp; try with_reducible rfl
    simp only [Act.put, rgA, rgB, rgC, rgD, rgE, rgF]
    refine wpAnyT_pure (i := 2) (v := ?_) rfl (by kernel_rfl) (by kernel_rfl) (by kernel_rfl) (fun _ _ _ h => h) (by rfl) ?_ ?_
    rotate_left
    · intro w; go_simp; try with_reducible rfl
    simp only [Act.put, rgA, rgB, rgC, rgD, rgE, rgF]
    refine wpAnyT_pure (i := 3) (v := ?_) rfl (by kernel_rfl) (by kernel_rfl) (by kernel_rfl) (fun _ _ _ h => h) (by rfl) ?_ ?_
    rotate_left
    · intro w; go_simp; try with_reducible rfl
    simp only [Act.put, rgA, rgB, rgC, rgD, rgE, rgF]
    refine wpAnyT_pure (i := 4) (v := ?_) rfl (by kernel_rfl) (by kernel_rfl) (by kernel_rfl) (fun _ _ _ h => h) (by rfl) ?_ ?_
    rotate_left
    · intro w; go_simp; try with_reducible rfl
    simp only [Act.put, rgA, rgB, rgC, rgD, rgE, rgF]
    refine wpAnyT_pure (i := 6) (v := ?_) rfl (by kernel_rfl) (by kernel_rfl) (by kernel_rfl) (fun _ _ _ h => h) (by rfl) ?_ ?_
    rotate_left
    · intro w; go_simp; try with_reducible rfl
    simp only [Act.put, rgA, rgB, rgC, rgD, rgE, rgF]
    refine wpAnyT_pure (i := 7) (v := ?_) rfl (by kernel_rfl) (by kernel_rfl) (by kernel_rfl) (fun _ _ _ h => h) (by rfl) ?_ ?_
    rotate_left
    · intro w; go_simp; try with_reducible rfl
    simp only [Act.put, rgA, rgB, rgC, rgD, rgE, rgF]
    refine wpAnyT_pure (i := 8) (v := ?_) rfl (by kernel_rfl) (by kernel_rfl) (by kernel_rfl) (fun _ _ _ h => h) (by rfl) ?_ ?_
    rotate_left
    · intro w; go_simp; try with_reducible rfl
    simp only [Act.put, rgA, rgB, rgC, rgD, rgE, rgF]
    refine wpAnyT_pure (i := 9) (v := ?_) rfl (by kernel_rfl) (by kernel_rfl) (by kernel_rfl) (fun _ _ _ h => h) (by rfl) ?_ ?_
    rotate_left
    · intro w; go_simp; try with_reducible rfl
    simp only [Act.put, rgA, rgB, rgC, rgD, rgE, rgF]
    refine wpAnyT_loadW (i := 5) (v := ?_) rfl (by kernel_rfl) (by kernel_rfl) (by kernel_rfl) (by kernel_rfl) (by kernel_rfl) (fun _ _ _ h => h) (Or.inl ⟨by rfl, ?_⟩) hSss1 ?_
    rotate_left
    · intro w hSw; obtain ⟨e0, e1, e2, e3, e4, -⟩ := hSw; go_simp; try with_reducible rfl
    simp only [Act.put, rgA, rgB, rgC, rgD, rgE, rgF]
    refine wpAnyT_loadW (i := 10) (v := ?_) rfl (by kernel_rfl) (by kernel_rfl) (by kernel_rfl) (by kernel_rfl) (by kernel_rfl) (fun _ _ _ h => h) (Or.inl ⟨by rfl, ?_⟩) hSss1 ?_
    rotate_left
    · intro w hSw; obtain ⟨e0, e1, e2, e3, e4, -⟩ := hSw; go_simp; try with_reducible rfl
    simp only [Act.put, rgA, rgB, rgC, rgD, rgE, rgF]
    refine wpAnyT_one (i := 11) (by kernel_rfl) rfl (by rfl) ?_
    have hbP : Below wr.heap.size wr s1 := hB_0_s1.trans ((hB_s1_s1).mono hB_0_s1.size)
    have hbW := below_step HB.out hbP
    have hgp := HG.out.below hbP
    have hst := set47 s1 hgp.dep ⟨c1, c2, c3, c4'⟩ (hgp.dep.nodup hgp.gi _) HCO.out (by have := hgp.kle; have := HKN.out; omega) (by have := hgp.nle; have := HKN.out; omega) ra rc l (HRR.out.below hbW HS.out) (fun b hb => ⟨Nat.lt_of_lt_of_le (HS.out b hb) hbW.size, HF.out b (HS.out b hb)⟩)
    unfold SetP at hst
    rw [setCode_vcode (by have := HYLL.out; omega) (by have := hgp.nle; have := HKN.out; omega), HVC.out] at hst
    unfold C4.v at hst
    simp only at hst
    refine wp_enter (f := 27) (args := #[.pointer (some ⟨p, 0, none⟩), .agg #[.int .i64 c1, .int .i64 c2, .int .i64 c3, .int .i64 c4'], .slice ra l.length rc]) (by go_simp) hst ?_
    rintro e w102 ⟨rfl, h1, h2⟩
    have HZ := Lib.hid (show ∃ (F2 : Nat → Nat) (n2 K2 : Nat), DepI F2 w102 p mr ms n2 K2 (lkG (nextG G ⟨c1, c2, c3, c4'⟩ l)) ∧ Rd (.sl entT) (fun b => b < (w102).heap.size ∧ F2 b = 0) w102 [.slice ha G.length hc] (G.map entD) ∧ (∀ b, b < w.heap.size → F2 b = 0) ∧ Below w.heap.size w w102 ∧ n2 ≤ k + 1 ∧ K2 ≤ 400 * (k + 1) from by
      by_cases hv : vc = 0
      · obtain ⟨hg, F2, hF2, hd⟩ := h2 hv
        have hfe : setR (lkG G) ⟨c1, c2, c3, c4'⟩ l = lkG (nextG G ⟨c1, c2, c3, c4'⟩ l) := by
          funext x
          unfold nextG
          rw [HVC.out, if_pos hv]
          exact (lkG_set G _ l x).symm
        rw [hfe] at hd
        refine ⟨F2, _, _, hd, rd_gr0 hgp.ref hg hF2, fun b hb => (hF2 b (Nat.lt_of_lt_of_le hb hbW.size)).trans (HF.out b hb), gr_below0 hbW HF.out hg, ?_, ?_⟩
        · unfold setM
          have := hgp.nle
          split <;> omega
        · have := hgp.kle
          omega
      · have hb := h1 hv
        have hgn := hgp.below hb
        refine ⟨F, n, K, ?_, hgn.ref, HF.out, below_step hbW hb, by have := hgn.nle; omega, by have := hgn.kle; omega⟩
        unfold nextG
        rw [HVC.out, if_neg hv]
        exact hgn.dep)
    clear hbP hbW hgp hst h1 h2
    refine ⟨_, rfl, fun h => absurd h (by decide), ?_⟩
    try simp only [Act.put, rgA, rgB, rgC, rgD, rgE, rgF]
    refine wpAnyT_pure (i := 12) (v := ?_) rfl (by kernel_rfl) (by kernel_rfl) (by kernel_rfl) (fun _ _ _ h => h) (by rfl) ?_ ?_
    rotate_left
    · intro w; go_simp; try with_reducible rfl
    simp only [Act.put, rgA, rgB, rgC, rgD, rgE, rgF]
    refine wpAnyT_done (by kernel_rfl) ?_ _
    obtain ⟨w2, rfl⟩ : ∃ x, x = w102 := ⟨_, rfl⟩
    clear hC0 z0 z1 z2 z3 z4 z5 hB
    obtain ⟨F2, n2, K2, hd2, hr2, hf2, hB2, hn2, hk2⟩ := HZ.out
    have HD2 := Lib.hid hd2
    have HR2 := Lib.hid hr2
    have HF2 := Lib.hid hf2
    have HB2 := Lib.hid hB2
    have HN2 := Lib.hid (And.intro hn2 hk2)
    obtain ⟨z0, z1, z2, z3, z4, z5, -⟩ := Cells.belowN hB2 HCL.out HCC.out
    have hC1 : Cells [(⟨b, o + k * 6, none⟩, .int .i64 c1), (⟨b, o + k * 6 + 1, none⟩, .int .i64 c2), (⟨b, o + k * 6 + 2, none⟩, .int .i64 c3), (⟨b, o + k * 6 + 3, none⟩, .int .i64 c4'), (⟨b, o + k * 6 + 4, none⟩, .slice ra l.length rc)] w2 := ⟨z0, z1, z2, z3, z4, trivial⟩
    clear HZ hd2 hr2 hf2 hB2 hn2 hk2 z0 z1 z2 z3 z4 z5
    go_upto_region 11 with fail
    refine wp_region_T (Cells [(⟨b, o + k * 6, none⟩, .int .i64 c1), (⟨b, o + k * 6 + 1, none⟩, .int .i64 c2), (⟨b, o + k * 6 + 2, none⟩, .int .i64 c3), (⟨b, o + k * 6 + 3, none⟩, .int .i64 c4'), (⟨b, o + k * 6 + 4, none⟩, .slice ra l.length rc)]) (fun _ => false) (by kernel_rfl) ?_
    have hSss3 := Cells.drew hC1
    have hB_0_s3 : Below w2.heap.size w2 w2.drew := below_drew _
    generalize w2.drew = s3 at hSss3 hB_0_s3 ⊢
    have hB_s3_s3 := Below.refl s3.heap.size s3
    refine wpAnyT_pure (i := 0) (v := ?_) rfl (by kernel_rfl) (by kernel_rfl) (by kernel_rfl) (fun _ _ _ h => h) (by rfl) ?_ ?_
    rotate_left
    · intro w; go_simp; try with_reducible rfl
    simp only [Act.put, rgA, rgB, rgC, rgD, rgE, rgF]
    refine wpAnyT_pure (i := 1) (v := ?_) rfl (by kernel_rfl) (by kernel_rfl) (by kernel_rfl) (fun _ _ _ h => h) (by rfl) ?_ ?_
    rotate_left
    · intro w; go_simp; try with_reducible rfl
    simp only [Act.put, rgA, rgB, rgC, rgD, rgE, rgF]
    refine wpAnyT_pure (i := 2) (v := ?_) rfl (by kernel_rfl) (by kernel_rfl) (by kernel_rfl) (fun _ _ _ h => h) (by rfl) ?_ ?_
    rotate_left
    · intro w; go_simp; try with_reducible rfl
    simp only [Act.put, rgA, rgB, rgC, rgD, rgE, rgF]
    refine wpAnyT_pure (i := 3) (v := ?_) rfl (by kernel_rfl) (by kernel_rfl) (by kernel_rfl) (fun _ _ _ h => h) (by rfl) ?_ ?_
    rotate_left
    · intro w; go_simp; try with_reducible rfl
    simp only [Act.put, rgA, rgB, rgC, rgD, rgE, rgF]
    refine wpAnyT_pure (i := 4) (v := ?_) rfl (by kernel_rfl) (by kernel_rfl) (by kernel_rfl) (fun _ _ _ h => h) (by rfl) ?_ ?_
    rotate_left
    · intro w; go_simp; try with_reducible rfl
    simp only [Act.put, rgA, rgB, rgC, rgD, rgE, rgF]
    refine wpAnyT_pure (i := 6) (v := ?_) rfl (by kernel_rfl) (by kernel_rfl) (by kernel_rfl) (fun _ _ _ h => h) (by rfl) ?_ ?_
    rotate_left
    · intro w; go_simp; try with_reducible rfl
    simp only [Act.put, rgA, rgB, rgC, rgD, rgE, rgF]
    refine wpAnyT_pure (i := 7) (v := ?_) rfl (by kernel_rfl) (by kernel_rfl) (by kernel_rfl) (fun _ _ _ h => h) (by rfl) ?_ ?_
    rotate_left
    · intro w; go_simp; try with_reducible rfl
    simp only [Act.put, rgA, rgB, rgC, rgD, rgE, rgF]
    refine wpAnyT_pure (i := 8) (v := ?_) rfl (by kernel_rfl) (by kernel_rfl) (by kernel_rfl) (fun _ _ _ h => h) (by rfl) ?_ ?_
    rotate_left
    · intro w; go_simp; try with_reducible rfl
    simp only [Act.put, rgA, rgB, rgC, rgD, rgE, rgF]
    refine wpAnyT_pure (i := 9) (v := ?_) rfl (by kernel_rfl) (by kernel_rfl) (by kernel_rfl) (fun _ _ _ h => h) (by rfl) ?_ ?_
    rotate_left
    · intro w; go_simp; try with_reducible rfl
    simp only [Act.put, rgA, rgB, rgC, rgD, rgE, rgF]
    refine wpAnyT_loadW (i := 5) (v := ?_) rfl (by kernel_rfl) (by kernel_rfl) (by kernel_rfl) (by kernel_rfl) (by kernel_rfl) (fun _ _ _ h => h) (Or.inl ⟨by rfl, ?_⟩) hSss3 ?_
    rotate_left
    · intro w hSw; obtain ⟨e0, e1, e2, e3, e4, -⟩ := hSw; go_simp; try with_reducible rfl
    simp only [Act.put, rgA, rgB, rgC, rgD, rgE, rgF]
    refine wpAnyT_loadW (i := 10) (v := ?_) rfl (by kernel_rfl) (by kernel_rfl) (by kernel_rfl) (by kernel_rfl) (by kernel_rfl) (fun _ _ _ h => h) (Or.inl ⟨by rfl, ?_⟩) hSss3 ?_
    rotate_left
    · intro w hSw; obtain ⟨e0, e1, e2, e3, e4, -⟩ := hSw; go_simp; try with_reducible rfl
    simp only [Act.put, rgA, rgB, rgC, rgD, rgE, rgF]
    refine wpAnyT_one (i := 11) (by kernel_rfl) rfl (by rfl) ?_
    have hbP : Below w2.heap.size w2 s3 := hB_0_s3.trans ((hB_s3_s3).mono hB_0_s3.size)
    have hbW := below_step HB2.out hbP
    have hst := rset47 s3 ha hc G (HR2.out.below hbP (fun b hb => hb.1)) (fun b hb => Nat.lt_of_lt_of_le hb.1 hbP.size) (by have := HG.out.gi.num; have := HKN.out; omega) ⟨c1, c2, c3, c4'⟩ HCO.out ra rc l (HRR.out.below hbW HS.out) (fun b hb => Nat.lt_of_lt_of_le (HS.out b hb) hbW.size) (by have := HYLL.out; omega)
    unfold RSetP at hst
    rw [HVC.out] at hst
    unfold C4.v at hst
    simp only at hst
    refine wp_enter (f := 32) (args := #[.slice ha G.length hc, .agg #[.int .i64 c1, .int .i64 c2, .int .i64 c3, .int .i64 c4'], .slice ra l.length rc]) (by go_simp) hst ?_
    rintro e w104 ⟨da, dc, rfl, hX, hR3⟩
    have HB3 := Lib.hid (below_step hbW hX)
    have HBG3 := Lib.hid (show BG F2 w104 p mr ms n2 K2 (k + 1) (nextG G ⟨c1, c2, c3, c4'⟩ l) da dc from ⟨HD2.out.below (hbP.trans (hX.mono hbP.size)), hR3.keep (fun _ _ => rfl) (fun b hb => hb.elim (fun h => ⟨Nat.lt_of_lt_of_le h.1 (Nat.le_trans hbP.size hX.size), h.2⟩) (fun h => ⟨h.2, HD2.out.dom0 (Nat.le_trans hbP.size h.1)⟩)), by
      unfold nextG
      split
      · exact HG.out.gi.set HCO.out (rd_okC HRR.out) HYLL.out
      · exact HG.out.gi.mono (Nat.le_succ _), HN2.out.1, HN2.out.2⟩)
    clear hbP hbW hst hR3
    have hB_s3_w104 := below_step hB_s3_s3 hX
    have hB_w104_w104 := Below.refl w104.heap.size w104
    have hSsw104 := Cells.below hB_s3_w104 hSss3
    clear hX
    refine ⟨_, rfl, fun _ _ => hSsw104, ?_⟩
    try simp only [Act.put, rgA, rgB, rgC, rgD, rgE, rgF]
    refine wpAnyT_pure (i := 12) (v := ?_) rfl (by kernel_rfl) (by kernel_rfl) (by kernel_rfl) (fun _ _ _ h => h) (by rfl) ?_ ?_
    rotate_left
    · intro w; go_simp; try with_reducible rfl
    simp only [Act.put, rgA, rgB, rgC, rgD, rgE, rgF]
    refine wpAnyT_pure (i := 13) (v := ?_) rfl (by kernel_rfl) (by kernel_rfl) (by kernel_rfl) (fun _ _ _ h => h) (by rfl) ?_ ?_
    rotate_left
    · intro w; go_simp; try with_reducible rfl
    simp only [Act.put, rgA, rgB, rgC, rgD, rgE, rgF]
    refine wpAnyT_pure (i := 14) (v := ?_) rfl (by kernel_rfl) (by kernel_rfl) (by kernel_rfl) (fun _ _ _ h => h) (by rfl) ?_ ?_
    rotate_left
    · intro w; go_simp; try with_reducible rfl
    simp only [Act.put, rgA, rgB, rgC, rgD, rgE, rgF]
    refine wpAnyT_pure (i := 15) (v := ?_) rfl (by kernel_rfl) (by kernel_rfl) (by kernel_rfl) (fun _ _ _ h => h) (by rfl) ?_ ?_
    rotate_left
    · intro w; go_simp; try with_reducible rfl
    simp only [Act.put, rgA, rgB, rgC, rgD, rgE, rgF]
    refine wpAnyT_pure (i := 16) (v := ?_) rfl (by kernel_rfl) (by kernel_rfl) (by kernel_rfl) (fun _ _ _ h => h) (by rfl) ?_ ?_
    rotate_left
    · intro w; go_simp; try with_reducible rfl
    simp only [Act.put, rgA, rgB, rgC, rgD, rgE, rgF]
    refine wpAnyT_done (by kernel_rfl) ?_ _
    have hbz := hB_w104_w104
    have HB4 := Lib.hid (below_step HB3.out hbz)
    have HBG4 := Lib.hid (HBG3.out.below hbz)
    clear hbz
    obtain ⟨w3, rfl⟩ : ∃ x, x = w104 := ⟨_, rfl⟩
    clear hC1
    go_wp2_with fail
    go_roundw
    case rel => exact ⟨k + 1, F2, _, _, _, da, dc, HLT.out, by go_num, rfl, HBG4.out, HF2.out, HB4.out⟩
    case measure => simp [intOf]; try omega
  · obtain rfl : k = len := by omega
    clear hB
    go_wp2_with fail
    refine bodyPost_ret (results_tmp3 rfl _ _ _) rfl ?_
    exact ⟨F, p, mr, ms, n, K, G, ha, hc, rfl, HG.out, HF.out, HB.out⟩
end Go.Proofs.Ytoimbhdjhhmonaa

/- Layer 47: the calls on both graphs give the same lists; DepsAffected. -/
set_option linter.unusedSimpArgs false
set_option maxRecDepth 50000
namespace Go.Proofs.Ytoimbhdjhhmonaa
open Go.RowKit Go

open Classical in
noncomputable def affG (G : List En4) (l : List C4) : List C4 := srtC ((G.map (·.1)).filter (fun x => decide (∃ c ∈ l, Rch (rsOf (lkG G)) c x)))
theorem mem_affG {m : Nat} {G : List En4} (hG : GI m G) {l : List C4} {x : C4} : x ∈ affG G l ↔ ∃ c ∈ l, Rch (rsOf (lkG G)) c x := by
  classical
  unfold affG
  rw [mem_srtC, List.mem_filter]
  constructor
  · exact fun h => of_decide_eq_true h.2
  · intro h
    refine ⟨?_, decide_eq_true h⟩
    obtain ⟨c, -, hr⟩ := h
    have hk : ∀ d, rsOf (lkG G) d x = true → x ∈ G.map (·.1) := fun d hd => by
      obtain ⟨e, he, rfl, -⟩ := (rsOf_lkG hG _ _).1 hd
      exact List.mem_map.2 ⟨e, he, rfl⟩
    cases hr with
    | one h1 => exact hk _ h1
    | step _ h1 => exact hk _ h1
theorem srt_affG (G : List En4) (l : List C4) : Srt (affG G l) := srt_srtC _
theorem key_ok {m : Nat} {G : List En4} (hG : GI m G) {x : C4} (h : x ∈ G.map (·.1)) : x.ok := by
  obtain ⟨e, he, rfl⟩ := List.mem_map.1 h
  exact hG.okc e he
theorem affG_ok {m : Nat} {G : List En4} (hG : GI m G) {l : List C4} {x : C4} (h : x ∈ affG G l) : x.ok := by
  unfold affG at h
  rw [mem_srtC, List.mem_filter] at h
  exact key_ok hG h.1
theorem affG_len (G : List En4) (l : List C4) : (affG G l).length ≤ G.length := by
  unfold affG
  refine Nat.le_trans (srtC_len _) (Nat.le_trans (List.length_filter_le _ _) ?_)
  rw [List.length_map]
  exact Nat.le_refl _
theorem cellsG_len {m : Nat} {G : List En4} (hG : GI m G) : (cellsG G).length ≤ G.length * 31 := by
  unfold cellsG
  exact Nat.le_trans (srtC_len _) (flat_len (m := 30) hG.len)
section
variable {F : Nat → Nat} {w : World} {p mr ms n K m : Nat} {G : List En4} {ha : Option Addr} {hc : Nat}
theorem BG.cells (h : BG F w p mr ms n K m G ha hc) (hm : m ≤ 1000) : Calls Try.prog 16 #[.pointer (some ⟨p, 0, none⟩)] w (ReadsP w (cellsG G)) := by
  refine (cells47 w h.dep (by have := h.nle; have := h.kle; omega)).mono ?_
  rintro e w' ⟨v, ys, rfl, hs, ho, hx, -, hsl, hB⟩
  obtain rfl : ys = cellsG G := hs.ext (srt_srtC _) (fun x => ⟨fun hxy => (mem_cellsG h.gi).2 ((hx x (ho x hxy)).1 hxy), fun hxy => (hx x (cellsG_ok h.gi hxy)).2 ((mem_cellsG h.gi).1 hxy)⟩)
  exact ⟨v, rfl, hsl, hB⟩
theorem BG.affected {S : Nat → Prop} (h : BG F w p mr ms n K m G ha hc) (hm : m ≤ 1000) (la : Option Addr) (lcap : Nat) (l : List C4) (hy : Rd (.sl cellT) S w [.slice la l.length lcap] (l.map C4.d)) (hS : ∀ b, S b → b < w.heap.size) (hl : l.length ≤ 1000) :
    Calls Try.prog 13 #[.pointer (some ⟨p, 0, none⟩), .slice la l.length lcap] w (ReadsP w (affG G l)) := by
  refine (affected47 w h.dep (U := G.map (·.1)) (fun c d hd => ?_) (by rw [List.length_map]; have := h.gi.num; omega) la lcap l hy hS hl).mono ?_
  · obtain ⟨e, he, rfl, -⟩ := (rsOf_lkG h.gi _ _).1 hd
    exact List.mem_map.2 ⟨e, he, rfl⟩
  rintro e w' ⟨v, ys, rfl, hs, ho, hx, -, hsl, hB⟩
  obtain rfl : ys = affG G l := hs.ext (srt_affG _ _) (fun x => ⟨fun hxy => (mem_affG h.gi).2 ((hx x (ho x hxy)).1 hxy), fun hxy => (hx x (affG_ok h.gi hxy)).2 ((mem_affG h.gi).1 hxy)⟩)
  exact ⟨v, rfl, hsl, hB⟩
theorem BG.reads (h : BG F w p mr ms n K m G ha hc) (c : C4) (hco : c.ok) : Calls Try.prog 17 #[.pointer (some ⟨p, 0, none⟩), c.v] w (ReadsP w ((lkG G c).getD [])) := reads47 w h.dep c hco
theorem BG.same {B B' : Nat} {W : World} {va vb : Option Addr} {vc vd : Nat} {l : List C4} (h1 : SlC B W (.slice va l.length vc) l) (h2 : SlC B' W (.slice vb l.length vd) l) :
    Calls Try.prog 12 #[.slice va l.length vc, .slice vb l.length vd] W fun e w' => e = .returned (.bool true) ∧ Below W.heap.size W w' :=
  same47 W va vc vb vd l h1.rd h2.rd (fun b h => h.2) (fun b h => h.2)
end
end Go.Proofs.Ytoimbhdjhhmonaa

/- Layer 47: DepsReaches. -/
set_option linter.unusedSimpArgs false
set_option maxRecDepth 50000
namespace Go.Proofs.Ytoimbhdjhhmonaa
open Go.RowKit Go

theorem wpList_appLit {P : Program} {ops : Array Oper} {rest : List Oper} {o : Oper} {a : Act} {w : World} {Q : Exit → Act → World → Prop} (hgd : o.guard = none) (s x : Operand) (t : TypeId)
    (ho : o.op = .call { callee := .builtin .append, args := #[s, x], argTypes := #[t, t] })
    {e : Ty} {te : TypeId} {z : Value} {bytes : Nat} (hi : (P.info? te).map (fun i => (i.zero, i.size, i.bytes)) = some (some z, e.sz, bytes)) (ht : P.underlying t = some (.slice te)) (hz : z.cells.size = e.sz) (h0 : 0 < e.sz)
    {S : Nat → Prop} {b base : Nat} (hv : a.eval s = .slice (some ⟨b, 0, none⟩) 0 0) (hb : w.heap[b]? = some (.cells #[] te (0, 0))) (hbase : base ≤ b)
    {sv : Value} (hsv : a.eval x = sv) {ys : List e.den} (hr : Rd (.sl e) S w [sv] ys) (hS : ∀ x, S x → x ≠ b ∧ x < w.heap.size) (hbt : ys.length * bytes ≤ 140737488355328) (hmx : ys.length ≤ 9223372036854775807)
    (h : ∀ (ca : Option Addr) (cl cc : Nat) w', Owns e te base S w' (.slice ca cl cc) ys → Below w.heap.size w w' → wpList P ops Q rest (a.put o.dst (.slice ca cl cc)) w') :
    wpList P ops Q (o :: rest) a w := by
  refine wpList_plain hgd fun K hK => ?_
  exact wp_appLit s x t ho hi ht hz h0 hv hb hbase hsv hr hS hbt hmx (fun ca cl cc w' h1 h2 => hK _ _ (h ca cl cc w' h1 h2))
theorem affG_append {m : Nat} {G : List En4} (hG : GI m G) (a b : List C4) : srtC (affG G a ++ affG G b) = affG G (a ++ b) :=
  srtC_eq (srt_affG _ _) fun x => by
    rw [List.mem_append, mem_affG hG, mem_affG hG, mem_affG hG]
    constructor
    · rintro ⟨c, hc, hr⟩
      rcases List.mem_append.1 hc with hc | hc
      · exact .inl ⟨c, hc, hr⟩
      · exact .inr ⟨c, hc, hr⟩
    · rintro (⟨c, hc, hr⟩ | ⟨c, hc, hr⟩)
      · exact ⟨c, List.mem_append.2 (.inl hc), hr⟩
      · exact ⟨c, List.mem_append.2 (.inr hc), hr⟩
/-- A cell is affected exactly if it reads a given or an affected cell. -/
theorem affG_reads {m : Nat} {G : List En4} (hG : GI m G) (a : List C4) (x : C4) : decide (x ∈ affG G a) = ((lkG G x).getD []).any (fun r => decide (r ∈ a) || decide (r ∈ affG G a)) := by
  have hmem : ∀ r, r ∈ (lkG G x).getD [] ↔ rsOf (lkG G) r x = true := fun r => by
    unfold rsOf
    cases lkG G x <;> simp
  rw [Bool.eq_iff_iff, decide_eq_true_iff, List.any_eq_true, mem_affG hG]
  constructor
  · rintro ⟨c, hc, hr⟩
    cases hr with
    | one h1 => exact ⟨c, (hmem _).2 h1, by simp [hc]⟩
    | step h0 h1 =>
      refine ⟨_, (hmem _).2 h1, ?_⟩
      rw [Bool.or_eq_true]
      exact .inr (decide_eq_true ((mem_affG hG).2 ⟨c, hc, h0⟩))
  · rintro ⟨r, hr, h⟩
    have h1 := (hmem _).1 hr
    rw [Bool.or_eq_true] at h
    rcases h with h | h
    · exact ⟨r, of_decide_eq_true h, .one h1⟩
    · obtain ⟨c, hc, h0⟩ := (mem_affG hG).1 (of_decide_eq_true h)
      exact ⟨c, hc, .step h0 h1⟩
theorem reads_len {m : Nat} {G : List En4} (hG : GI m G) (c : C4) : ((lkG G c).getD []).length ≤ 30 := by
  cases h : lkG G c with
  | none => simp
  | some l => exact hG.len _ (lkG_mem h)
set_option maxHeartbeats 4000000 in
theorem reachesWalk47 (w : World) (c0 : List Value) (x0 : (Ty.sl stepT).den) (r0 : Rd (.sl stepT) (fun b => b < w.heap.size) w c0 x0) (c1 : List Value) (x1 : (Ty.sl cellT).den) (r1 : Rd (.sl cellT) (fun b => b < w.heap.size) w c1 x1) (c2 : List Value) (x2 : (Ty.sl cellT).den) (r2 : Rd (.sl cellT) (fun b => b < w.heap.size) w c2 x2) :
    Calls Try.prog 4 #[valOf (Ty.sl stepT) c0, valOf (Ty.sl cellT) c1, valOf (Ty.sl cellT) c2] w fun e w' => e = .returned (.bool true) ∧ Below w.heap.size w w' := by
  obtain ⟨a, len, cap, rfl, hl0, -⟩ := id r0
  have HL := Lib.hid (show x0.length = len from hl0)
  have HX := Lib.hid r0
  have HS := Lib.hid (show ∀ b, b < w.heap.size → b < w.heap.size from fun _ h => h)
  have hlm : len ≤ 9223372036854775807 := Nat.le_trans r0.sl_flat.2.1 r0.sl_flat.2.2.1
  obtain ⟨la, lc, rfl, hy⟩ := rd_cells r1
  obtain ⟨ma, mc, rfl, hz⟩ := rd_cells r2
  change Calls _ _ #[.slice a len cap, .slice la (x1.map c4).length lc, .slice ma (x2.map c4).length mc] _ _
  generalize List.map c4 x1 = l at hy ⊢
  generalize List.map c4 x2 = m at hz ⊢
  have hlm2 : l.length ≤ 9223372036854775807 := Nat.le_trans ((rd_len hy) ▸ hy.sl_flat.2.1) hy.sl_flat.2.2.1
  have hlm3 : m.length ≤ 9223372036854775807 := Nat.le_trans ((rd_len hz) ▸ hz.sl_flat.2.1) hz.sl_flat.2.2.1
  have HY := Lib.hid hy
  have HZ := Lib.hid hz
  clear hy r0 r1 r2 hl0 hz
  go_enter Try.func4, Try.ntmps4
  have HAW := Lib.hid (awake47 w)
  go_wp2_with fail
  refine HAW.out.mono ?_
  clear HAW
  rintro e w1 ⟨rfl, hB1⟩
  have HB1 := Lib.hid hB1
  clear hB1
  have HFW := Lib.hid (few47 w1 a len cap x0 (HX.out.below HB1.out (fun _ h => h)) (fun b hb => Nat.lt_of_lt_of_le hb HB1.out.size))
  obtain ⟨fb, hfb⟩ : ∃ x, fewB x0 = x := ⟨_, rfl⟩
  rw [hfb] at HFW
  have HFB := Lib.hid hfb
  clear hfb
  go_wp2_with fail
  refine HFW.out.mono ?_
  clear HFW
  rintro e w2 ⟨rfl, hB2⟩
  have HB2 := Lib.hid (below_step HB1.out hB2)
  clear hB2
  cases fb
  case false =>
    go_wp2_with fail
    go_ret
    exact ⟨rfl, HB2.out⟩
  by_cases h15 : l.length ≤ 15
  case neg =>
    have h15' : (15 : Int) < (l.length : Int) := by omega
    go_wp2_with fail
    go_ret
    exact ⟨rfl, HB2.out⟩
  have h15' : ¬ (15 : Int) < (l.length : Int) := by omega
  by_cases h16 : m.length ≤ 15
  case neg =>
    have h16' : (15 : Int) < (m.length : Int) := by omega
    go_wp2_with fail
    go_ret
    exact ⟨rfl, HB2.out⟩
  have h16' : ¬ (15 : Int) < (m.length : Int) := by omega
  have HFB2 := Lib.hid (show fewB x0 = true from HFB.out)
  have HBU := Lib.hid (build47 w2 a len cap x0 (HX.out.below HB2.out (fun _ h => h)) (fun b hb => Nat.lt_of_lt_of_le hb HB2.out.size) HFB2.out)
  have HM := Lib.hid (show len ≤ 30 from by
    have h := HFB2.out
    unfold fewB at h
    rw [Bool.and_eq_true] at h
    have h2 := of_decide_eq_true h.2
    rw [HL.out] at h2
    exact h2)
  go_wp2_with fail
  refine HBU.out.mono ?_
  clear HBU
  rintro e w3 ⟨F, p, mr, ms, n, K, G, ha, hc, rfl, hG, hF, hB3⟩
  have HG3 := Lib.hid hG
  have HGI := Lib.hid hG.gi
  have HB3 := Lib.hid (below_step HB2.out hB3)
  have HL15 := Lib.hid (And.intro h15 h16)
  have HLT := Lib.hid (show len ≤ 100 ∧ len ≤ 1000 from by have := HM.out; omega)
  have HGN := Lib.hid (show G.length ≤ 30 from Nat.le_trans hG.gi.num HM.out)
  clear hG hF hB3 h15 h15' h16 h16'
  have HZC := Lib.hid (HG3.out.affected HLT.out.2 la lc l (HY.out.below HB3.out (fun _ h => h)) (fun b hb => Nat.lt_of_lt_of_le hb HB3.out.size) (by have := HL15.out; omega))
  go_wp2_with fail
  refine HZC.out.mono ?_
  clear HZC
  rintro e w4 ⟨v, rfl, hs, hb⟩
  obtain ⟨va4, vc4, rfl⟩ := hs.form
  have HS4 := Lib.hid hs
  have HW4 := Lib.hid hb
  have HB4 := Lib.hid (below_step HB3.out hb)
  clear hs hb
  have HG4 := Lib.hid (HG3.out.below HW4.out)
  have HZC := Lib.hid (HG4.out.affected HLT.out.2 ma mc m (HZ.out.below HB4.out (fun _ h => h)) (fun b hb => Nat.lt_of_lt_of_le hb HB4.out.size) (by have := HL15.out; omega))
  go_wp2_with fail
  refine HZC.out.mono ?_
  clear HZC
  rintro e w5 ⟨v, rfl, hs, hb⟩
  obtain ⟨va5, vc5, rfl⟩ := hs.form
  have HS5 := Lib.hid hs
  have HW5 := Lib.hid hb
  have HB5 := Lib.hid (below_step HB4.out hb)
  clear hs hb
  have HG5 := Lib.hid (HG4.out.below HW5.out)
  have HS45 := Lib.hid (HS4.out.below HW5.out)
  have HR1c := Lib.hid (show Rd (.sl cellT) (fun b => b < (w5).heap.size) w5 [.slice la l.length lc] ((l).map C4.d) from (HY.out.below HB5.out (fun _ h => h)).keep (fun _ _ => rfl) (fun b hb => Nat.lt_of_lt_of_le hb HB5.out.size))
  have HR2c := Lib.hid (show Rd (.sl cellT) (fun b => b < (w5).heap.size) w5 [.slice ma m.length mc] ((m).map C4.d) from (HZ.out.below HB5.out (fun _ h => h)).keep (fun _ _ => rfl) (fun b hb => Nat.lt_of_lt_of_le hb HB5.out.size))
  have HLC := Lib.hid (show (l).length ≤ 10000 ∧ (m).length ≤ 10000 from by have := HL15.out; omega)
  go_wp2_with (first | (at_builtin; have hq := HR1c; clear hq; go_must (refine wpList_appLit rfl _ _ 23 rfl (e := cellT) (te := 38) info_cell Try.underlying23 rfl (by decide) (S := fun b => b < (w5).heap.size) (b := (w5).heap.size) (base := (w5).heap.size) rfl (heap_alloc_new _ _) (Nat.le_refl _) rfl (ys := (l).map C4.d) (HR1c.out.below ((Below.refl _ _).alloc (Nat.le_refl _) _) (fun _ h => h)) (fun x hx => ⟨Nat.ne_of_lt hx, by simp only [World.size_alloc]; omega⟩) (by have := HLC.out; rw [List.length_map]; omega) (by have := HLC.out; rw [List.length_map]; omega) ?_); intro ca cl cc wq O6 hX; have HO6 := Lib.hid (Owns.flat (e := cellT) rfl O6); have HBq := Lib.hid (((Below.refl (w5).heap.size w5).alloc (Nat.le_refl _) _).trans (hX.mono (by simp))); clear O6 hX HR1c) | (at_builtin; have hq := HO6; clear hq; obtain ⟨news, hsrc, hrl⟩ := (HR2c.out.below HBq.out (fun _ h => h)).src; go_must (refine wpList_app _ rfl _ _ 23 rfl (e := cellT) (te := 38) info_cell Try.underlying23 rfl (by decide) (base := (w5).heap.size) (S := fun _ => False) (v := .slice ca cl cc) (xs := (l).map C4.d) rfl HO6.out HBq.out.size rfl (ys := (m).map C4.d) hsrc (hrl.flat (e := cellT) rfl) (by have := HLC.out; simp only [List.length_map]; omega) (by have := HLC.out; simp only [List.length_map]; omega) ?_); intro v' wz O7 g7 _ ob7; have HBz := Lib.hid (HBq.out.grown g7 HBq.out.size (fun c hc => (HO6.out.own c hc).1)); rw [← List.map_append] at O7; obtain ⟨zl, hzz⟩ : ∃ x, x = l ++ m := ⟨_, rfl⟩; rw [← hzz] at O7; have HZzl := Lib.hid hzz; clear hzz; obtain ⟨da, dl, dc, rfl, -⟩ := O7.slice; have hsl := SlC.of_owns O7; obtain rfl := rd_len hsl.rd; have HSz := Lib.hid hsl; clear O7 g7 ob7 hsl hsrc hrl HO6))
  clear HR2c HLC
  have HB6 := Lib.hid (below_step HB5.out HBz.out)
  have HG6 := Lib.hid (HG5.out.below HBz.out)
  have HS46 := Lib.hid (HS45.out.below HBz.out)
  have HS56 := Lib.hid (HS5.out.below HBz.out)
  have HZC := Lib.hid (HG6.out.affected HLT.out.2 da dc zl HSz.out.rd (fun b h => h.2) (by have := HL15.out; rw [HZzl.out, List.length_append]; omega))
  have hX := HZC.out
  refine hX.mono ?_
  clear hX HZC HBz HSz
  rintro e w7 ⟨v, rfl, hs, hb⟩
  obtain ⟨va7, vc7, rfl⟩ := hs.form
  have HS7 := Lib.hid hs
  have HG7 := Lib.hid (HG6.out.below hb)
  have HB7 := Lib.hid (below_step HB6.out hb)
  have HS47 := Lib.hid (HS46.out.below hb)
  have HS57 := Lib.hid (HS56.out.below hb)
  clear hs hb
  have HAL := Lib.hid (And.intro (affG_len G l) (affG_len G m))
  have HR1c := Lib.hid (show Rd (.sl cellT) (fun b => b < (w7).heap.size) w7 [.slice va4 (affG G l).length vc4] ((affG G l).map C4.d) from HS47.out.rd.keep (fun _ _ => rfl) (fun b hb => hb.2))
  have HR2c := Lib.hid (show Rd (.sl cellT) (fun b => b < (w7).heap.size) w7 [.slice va5 (affG G m).length vc5] ((affG G m).map C4.d) from HS57.out.rd.keep (fun _ _ => rfl) (fun b hb => hb.2))
  have HLC := Lib.hid (show (affG G l).length ≤ 10000 ∧ (affG G m).length ≤ 10000 from by have := HAL.out; have := HGN.out; omega)
  go_wp2_with (first | (at_builtin; have hq := HR1c; clear hq; go_must (refine wpList_appLit rfl _ _ 23 rfl (e := cellT) (te := 38) info_cell Try.underlying23 rfl (by decide) (S := fun b => b < (w7).heap.size) (b := (w7).heap.size) (base := (w7).heap.size) rfl (heap_alloc_new _ _) (Nat.le_refl _) rfl (ys := (affG G l).map C4.d) (HR1c.out.below ((Below.refl _ _).alloc (Nat.le_refl _) _) (fun _ h => h)) (fun x hx => ⟨Nat.ne_of_lt hx, by simp only [World.size_alloc]; omega⟩) (by have := HLC.out; rw [List.length_map]; omega) (by have := HLC.out; rw [List.length_map]; omega) ?_); intro ca cl cc wq O6 hX; have HO6 := Lib.hid (Owns.flat (e := cellT) rfl O6); have HBq := Lib.hid (((Below.refl (w7).heap.size w7).alloc (Nat.le_refl _) _).trans (hX.mono (by simp))); clear O6 hX HR1c) | (at_builtin; have hq := HO6; clear hq; obtain ⟨news, hsrc, hrl⟩ := (HR2c.out.below HBq.out (fun _ h => h)).src; go_must (refine wpList_app _ rfl _ _ 23 rfl (e := cellT) (te := 38) info_cell Try.underlying23 rfl (by decide) (base := (w7).heap.size) (S := fun _ => False) (v := .slice ca cl cc) (xs := (affG G l).map C4.d) rfl HO6.out HBq.out.size rfl (ys := (affG G m).map C4.d) hsrc (hrl.flat (e := cellT) rfl) (by have := HLC.out; simp only [List.length_map]; omega) (by have := HLC.out; simp only [List.length_map]; omega) ?_); intro v' wz O7 g7 _ ob7; have HBz := Lib.hid (HBq.out.grown g7 HBq.out.size (fun c hc => (HO6.out.own c hc).1)); rw [← List.map_append] at O7; obtain ⟨zs, hzz⟩ : ∃ x, x = affG G l ++ affG G m := ⟨_, rfl⟩; rw [← hzz] at O7; have HZzs := Lib.hid hzz; clear hzz; obtain ⟨da, dl, dc, rfl, -⟩ := O7.slice; have hsl := SlC.of_owns O7; obtain rfl := rd_len hsl.rd; have HSz := Lib.hid hsl; clear O7 g7 ob7 hsl hsrc hrl HO6))
  clear HR2c HLC
  have HB8 := Lib.hid (below_step HB7.out HBz.out)
  have HG8 := Lib.hid (HG7.out.below HBz.out)
  have HS48 := Lib.hid (HS47.out.below HBz.out)
  have HS78 := Lib.hid (HS7.out.below HBz.out)
  have HZC := Lib.hid (rsorted47 wz da dc zs HSz.out.rd (fun b h => h.2) (by have := HAL.out; have := HGN.out; rw [HZzs.out, List.length_append]; omega))
  rw [show srtC zs = affG G zl from by rw [HZzs.out, HZzl.out]; exact affG_append HGI.out l m] at HZC
  have hX := HZC.out
  refine hX.mono ?_
  clear hX HZC HBz HSz
  rintro e w9 ⟨v, rfl, hs, hb⟩
  obtain ⟨va9, vc9, rfl⟩ := hs.form
  have HB9 := Lib.hid (below_step HB8.out hb)
  have HG9 := Lib.hid (HG8.out.below hb)
  have HS49 := Lib.hid (HS48.out.below hb)
  have HZC := Lib.hid (BG.same (HS78.out.below hb) hs)
  clear hs hb
  go_wp2_with fail
  refine HZC.out.mono ?_
  clear HZC
  rintro e w10 ⟨rfl, hb⟩
  have HB10 := Lib.hid (below_step HB9.out hb)
  have HG10 := Lib.hid (HG9.out.below hb)
  have HS4a := Lib.hid (HS49.out.below hb)
  clear hb
  have HZC := Lib.hid (HG10.out.cells HLT.out.2)
  go_wp2_with fail
  refine HZC.out.mono ?_
  clear HZC
  rintro e w11 ⟨v, rfl, hs, hb⟩
  obtain ⟨va11, vc11, rfl⟩ := hs.form
  have HS11 := Lib.hid hs
  have HW11 := Lib.hid hb
  have HB11 := Lib.hid (below_step HB10.out hb)
  clear hs hb
  have HG11 := Lib.hid (HG10.out.below HW11.out)
  have HS4b := Lib.hid (HS4a.out.below HW11.out)
  have HCLN := Lib.hid (cellsG_len HGI.out)
  have HAR := Lib.hid (fun x => affG_reads HGI.out l x)
  have HRL := Lib.hid (fun x => reads_len HGI.out x)
  have hcl : (cellsG G).length ≤ 1000 := by have := HCLN.out; have := HGN.out; omega
  go_wp2_with fail
  go_loopw [14] (fun iv wr => ∃ (k : Nat), k ≤ (cellsG G).length ∧ iv = .int .i64 k ∧ Below w11.heap.size w11 wr) (fun iv _ => (cellsG G).length - (intOf iv).toNat)
  case atStart => exact ⟨0, Nat.zero_le _, rfl, Below.refl _ _⟩
  obtain ⟨k, hk, rfl, hB⟩ := hrel
  have HBR := Lib.hid hB
  have HBW := Lib.hid (below_step HB11.out hB)
  by_cases hlt : k < (cellsG G).length
  · have hkI : (k : Int) < ((cellsG G).length : Int) := by omega
    have hCA := (HS11.out.below hB).rd
    obtain ⟨b, o, rfl, -, m0, m1, m2, m3, hco⟩ := cell_at hCA k hlt
    generalize (cellsG G)[k] = y at m0 m1 m2 m3 hco
    have HYO := Lib.hid hco
    have HKL := Lib.hid hlt
    have HZC := Lib.hid ((HG11.out.below hB).reads y hco)
    have HHX := Lib.hid (fun W (hW : Below w11.heap.size w11 W) => rhas47 W va4 vc4 (affG G l) (HS4b.out.below hW).rd (fun b h => h.2) y)
    rw [HAR.out y] at HHX
    have hrl := HRL.out y
    generalize (lkG G y).getD [] = rl at HZC HHX hrl
    obtain ⟨y1, y2, y3, y4⟩ := y
    unfold C4.v at HZC HHX
    simp only at m0 m1 m2 m3 HZC HHX
    have hCY : Cells [(⟨b, o + k * 4, none⟩, .int .i64 y1), (⟨b, o + k * 4 + 1, none⟩, .int .i64 y2), (⟨b, o + k * 4 + 2, none⟩, .int .i64 y3), (⟨b, o + k * 4 + 3, none⟩, .int .i64 y4)] wr := ⟨m0, m1, m2, m3, trivial⟩
    have HCY := Lib.hid hCY
    clear hco hlt hB hCA hCY
    go_wp2_with fail
    refine HZC.out.mono ?_
    clear HZC
    rintro e w12 ⟨v, rfl, hs, hb⟩
    obtain ⟨va12, vc12, rfl⟩ := hs.form
    have HS12 := Lib.hid hs
    have HW12 := Lib.hid hb
    have HB12 := Lib.hid (below_step HBW.out hb)
    clear hs hb
    have HB12R := Lib.hid (below_step HBR.out HW12.out)
    have HCY2 := Lib.hid (Cells.below HW12.out HCY.out)
    clear m0 m1 m2 m3
    go_wp2_with fail
    go_loopw [16, 17] (fun wv iv w13 => ∃ (q : Nat), q ≤ rl.length ∧ iv = .int .i64 q ∧ wv = .bool ((rl.take q).any (fun r => decide (r ∈ l) || decide (r ∈ affG G l))) ∧ Below w12.heap.size w12 w13) (fun _ iv _ => rl.length - (intOf iv).toNat)
    case atStart => exact ⟨0, Nat.zero_le _, rfl, rfl, Below.refl _ _⟩
    case round =>
      obtain ⟨q, hq, rfl, rfl, hB⟩ := hrel
      have HBq := Lib.hid hB
      have HBv := Lib.hid (below_step HB12R.out hB)
      have HBwq := Lib.hid (below_step HB12.out hB)
      obtain ⟨wb, hwb⟩ : ∃ x, (rl.take q).any (fun r => decide (r ∈ l) || decide (r ∈ affG G l)) = x := ⟨_, rfl⟩
      rw [hwb]
      by_cases hqt : q < rl.length
      · have hqI : (q : Int) < (rl.length : Int) := by omega
        have hST : (rl.take (q + 1)).any (fun r => decide (r ∈ l) || decide (r ∈ affG G l)) = (wb || (decide (rl[q] ∈ l) || decide (rl[q] ∈ affG G l))) := by
          rw [List.take_succ_eq_append_getElem hqt, List.any_append, hwb]
          simp
        have HST := Lib.hid hST
        have hRA := (HS12.out.below hB).rd
        obtain ⟨b2, o2, rfl, -, u0, u1, u2, u3, -⟩ := cell_at hRA q hqt
        generalize rl[q] = u at u0 u1 u2 u3 HST
        have HQT := Lib.hid hqt
        have HH1 := Lib.hid (rhas47 wr la lc l (HY.out.below HBwq.out (fun _ h => h)) (fun b hb => Nat.lt_of_lt_of_le hb HBwq.out.size) u)
        have HH2 := Lib.hid (fun W (hW : Below w11.heap.size w11 W) => rhas47 W va4 vc4 (affG G l) (HS4b.out.below hW).rd (fun b h => h.2) u)
        obtain ⟨lb, hlb⟩ : ∃ x, decide (u ∈ l) = x := ⟨_, rfl⟩
        obtain ⟨ub, hub⟩ : ∃ x, decide (u ∈ affG G l) = x := ⟨_, rfl⟩
        rw [hlb] at HH1
        rw [hub] at HH2
        rw [hlb, hub] at HST
        obtain ⟨u1', u2', u3', u4'⟩ := u
        unfold C4.v at HH1 HH2
        simp only at u0 u1 u2 u3 HH1 HH2
        have hUC : Cells [(⟨b2, o2 + q * 4, none⟩, .int .i64 u1'), (⟨b2, o2 + q * 4 + 1, none⟩, .int .i64 u2'), (⟨b2, o2 + q * 4 + 2, none⟩, .int .i64 u3'), (⟨b2, o2 + q * 4 + 3, none⟩, .int .i64 u4')] wr := ⟨u0, u1, u2, u3, trivial⟩
        have HUC := Lib.hid hUC
        clear hlb hub hST hRA hB hwb hqt hUC
        cases wb
        case true =>
          have HSX := Lib.hid HST.out
          rw [Bool.true_or] at HSX
          go_wp2_with fail
          clear u0 u1 u2 u3
          go_roundw
          case rel => exact ⟨q + 1, HQT.out, by go_num, by rw [HSX.out], HBq.out⟩
          case measure => simp [intOf]; try omega
        go_wp2_with fail
        refine HH1.out.mono ?_
        rintro e w14 ⟨rfl, hB14⟩
        have HB14 := Lib.hid (below_step HBq.out hB14)
        have HHZ := Lib.hid (HH2.out w14 (below_step HBv.out hB14))
        have HUC2 := Lib.hid (Cells.below hB14 HUC.out)
        clear hB14 u0 u1 u2 u3
        cases lb
        case true =>
          have HSX := Lib.hid HST.out
          rw [Bool.false_or, Bool.true_or] at HSX
          go_wp2_with fail
          go_roundw
          case rel => exact ⟨q + 1, HQT.out, by go_num, by rw [HSX.out], HB14.out⟩
          case measure => simp [intOf]; try omega
        have HSX := Lib.hid HST.out
        rw [Bool.false_or, Bool.false_or] at HSX
        obtain ⟨u0, u1, u2, u3, -⟩ := HUC2.out
        go_wp2_with fail
        refine HHZ.out.mono ?_
        rintro e w15 ⟨rfl, hB15⟩
        have HB15 := Lib.hid (below_step HB14.out hB15)
        clear hB15 u0 u1 u2 u3
        go_wp2_with fail
        go_roundw
        case rel => exact ⟨q + 1, HQT.out, by go_num, by rw [HSX.out], HB15.out⟩
        case measure => simp [intOf]; try omega
      · obtain rfl : q = rl.length := by omega
        rw [List.take_length] at hwb
        have HHA := Lib.hid (HHX.out wr HBv.out)
        rw [hwb] at HHA
        obtain ⟨u0, u1, u2, u3, -⟩ := Cells.below hB HCY2.out
        clear hB hwb
        go_wp2_with fail
        refine HHA.out.mono ?_
        rintro e w14 ⟨rfl, hB14⟩
        have HB14 := Lib.hid (below_step HBv.out hB14)
        clear hB14 u0 u1 u2 u3
        cases wb
        · go_wp2_with fail
          go_roundw
          case rel => exact ⟨k + 1, HKL.out, by go_num, HB14.out⟩
          case measure => simp [intOf]; try omega
        · go_wp2_with fail
          go_roundw
          case rel => exact ⟨k + 1, HKL.out, by go_num, HB14.out⟩
          case measure => simp [intOf]; try omega
  · obtain rfl : k = (cellsG G).length := by omega
    clear hB
    go_wp2_with fail
    go_ret
    exact ⟨rfl, HBW.out⟩
end Go.Proofs.Ytoimbhdjhhmonaa
