/- Layer 47: the law's few and build: both graphs after any steps. -/
import Derived.Test.YtoimbhdjhhmonaaE47b
import Derived.Test.YtoimbhdjhhmonaaRead
set_option linter.unusedSimpArgs false
set_option maxRecDepth 50000
namespace Go.Proofs.Ytoimbhdjhhmonaa
open Go.RowKit Go

abbrev stepT : Ty := .pr cellT (.pr (.sl cellT) (.pr .bool .un))
theorem map_d_c4 (l : List cellT.den) : (l.map c4).map C4.d = l := by
  rw [List.map_map]
  exact (List.map_congr_left (fun x _ => d_c4 x)).trans (List.map_id _)
theorem rd_cells {S : Nat → Prop} {w : World} {cs : List Value} {l : List cellT.den} (h : Rd (.sl cellT) S w cs l) : ∃ a cap, cs = [.slice a (l.map c4).length cap] ∧ Rd (.sl cellT) S w [.slice a (l.map c4).length cap] ((l.map c4).map C4.d) := by
  have h' := h
  obtain ⟨a, n, cap, rfl, hl, -⟩ := h'
  rw [map_d_c4, List.length_map, hl]
  exact ⟨a, cap, rfl, h⟩
def stL (x : stepT.den) : List C4 := x.2.1.map c4
theorem step_at {S : Nat → Prop} {w : World} {a : Option Addr} {len cap : Nat} {xs : List stepT.den} (h : Rd (.sl stepT) S w [.slice a len cap] xs) (i : Nat) (hi : i < xs.length) :
    ∃ b off ra rc, a = some ⟨b, off, none⟩ ∧ S b ∧ w.cell? ⟨b, off + i * 6, none⟩ = some (.int .i64 (c4 xs[i].1).st) ∧ w.cell? ⟨b, off + i * 6 + 1, none⟩ = some (.int .i64 (c4 xs[i].1).en) ∧ w.cell? ⟨b, off + i * 6 + 2, none⟩ = some (.int .i64 (c4 xs[i].1).ot) ∧ w.cell? ⟨b, off + i * 6 + 3, none⟩ = some (.int .i64 (c4 xs[i].1).pe) ∧
      w.cell? ⟨b, off + i * 6 + 4, none⟩ = some (.slice ra (stL xs[i]).length rc) ∧ w.cell? ⟨b, off + i * 6 + 5, none⟩ = some (.bool xs[i].2.2.1) ∧ Rd (.sl cellT) S w [.slice ra (stL xs[i]).length rc] ((stL xs[i]).map C4.d) ∧ (c4 xs[i].1).ok := by
  obtain ⟨hl, -, -, vs, hr, hor⟩ := h.sl_flat
  obtain ⟨c, hc, hcc, hrd⟩ := hr.at_ i hi
  rcases hor with h0 | ⟨b, off, rfl, hb, hcell⟩
  · omega
  · generalize xs[i] = s at hrd ⊢
    obtain ⟨⟨s1, s2, s3, s4, ⟨⟩⟩, sl, sb, ⟨⟩⟩ := s
    obtain ⟨d1, r1, rfl, hcr, d2, r2, rfl, hsl, d3, r3, rfl, rfl, rfl⟩ := hrd
    obtain ⟨x1, q1, rfl, ⟨rfl, h1⟩, x2, q2, rfl, ⟨rfl, h2⟩, x3, q3, rfl, ⟨rfl, h3⟩, x4, q4, rfl, ⟨rfl, h4⟩, rfl⟩ := hcr
    obtain ⟨ra, rc, rfl, hsl2⟩ := rd_cells hsl
    refine ⟨b, off, ra, rc, rfl, hb, ?_, ?_, ?_, ?_, ?_, ?_, hsl2, ⟨h1, h2, h3, h4⟩⟩
    · rw [show off + i * 6 = off + (i * stepT.sz + 0) from rfl]; exact hcell _ _ (hcc 0 _ rfl)
    · rw [show off + i * 6 + 1 = off + (i * stepT.sz + 1) from rfl]; exact hcell _ _ (hcc 1 _ rfl)
    · rw [show off + i * 6 + 2 = off + (i * stepT.sz + 2) from rfl]; exact hcell _ _ (hcc 2 _ rfl)
    · rw [show off + i * 6 + 3 = off + (i * stepT.sz + 3) from rfl]; exact hcell _ _ (hcc 3 _ rfl)
    · rw [show off + i * 6 + 4 = off + (i * stepT.sz + 4) from rfl]; exact hcell _ _ (hcc 4 _ rfl)
    · rw [show off + i * 6 + 5 = off + (i * stepT.sz + 5) from rfl]; exact hcell _ _ (hcc 5 _ rfl)
def fewB (xs : List stepT.den) : Bool := xs.all (fun s => decide ((stL s).length ≤ 30)) && decide (xs.length ≤ 30)
set_option maxHeartbeats 1000000 in
theorem few47 {S : Nat → Prop} (w : World) (a : Option Addr) (len cap : Nat) (xs : List stepT.den) (hx : Rd (.sl stepT) S w [.slice a len cap] xs) (hS : ∀ b, S b → b < w.heap.size) :
    Calls Try.prog 10 #[.slice a len cap] w fun e w' => e = .returned (.bool (fewB xs)) ∧ Below w.heap.size w w' := by
  have HL := Lib.hid (show xs.length = len from hx.sl_flat.1)
  have hlm : len ≤ 9223372036854775807 := Nat.le_trans hx.sl_flat.2.1 hx.sl_flat.2.2.1
  have HX := Lib.hid hx
  have HS := Lib.hid hS
  clear hx hS
  go_enter Try.func10, Try.ntmps10
  go_wp2_with fail
  go_loopw [3] (fun i wr => ∃ (k : Nat), k ≤ len ∧ i = .int .i64 k ∧ (xs.take k).all (fun s => decide ((stL s).length ≤ 30)) = true ∧ Below w.heap.size w wr) (fun i _ => len - (intOf i).toNat)
  case atStart => exact ⟨0, Nat.zero_le _, rfl, rfl, Below.refl _ _⟩
  obtain ⟨k, hk, rfl, hall, hB⟩ := hrel
  have HALL := Lib.hid hall
  have HB := Lib.hid hB
  clear hall
  by_cases hlt : k < len
  · have hkI : (k : Int) < (len : Int) := by omega
    have hkx : k < xs.length := by rw [HL.out]; exact hlt
    obtain ⟨b, o, ra, rc, rfl, -, -, -, -, -, m4, -, hrr, -⟩ := step_at (HX.out.below hB HS.out) k hkx
    have HST := Lib.hid (show (xs.take (k + 1)).all (fun s => decide ((stL s).length ≤ 30)) = decide ((stL xs[k]).length ≤ 30) from by
      rw [List.take_succ_eq_append_getElem hkx, List.all_append, HALL.out]
      simp)
    have HNO := Lib.hid (show ¬ (stL xs[k]).length ≤ 30 → fewB xs = false from fun h => by
      unfold fewB
      rw [show xs.all (fun s => decide ((stL s).length ≤ 30)) = false from by
        rw [List.all_eq_false]
        exact ⟨xs[k], List.getElem_mem hkx, by simp; omega⟩]
      rfl)
    generalize stL xs[k] = yl at m4 hrr HST HNO
    have HLT := Lib.hid hlt
    have hym : yl.length ≤ 9223372036854775807 := Nat.le_trans ((rd_len hrr) ▸ hrr.sl_flat.2.1) hrr.sl_flat.2.2.1
    clear hrr hB hkx hlt
    by_cases hy : yl.length ≤ 30
    · have hyI : ¬ ((30 : Int) < (yl.length : Int)) := by omega
      have HST2 := Lib.hid (show (xs.take (k + 1)).all (fun s => decide ((stL s).length ≤ 30)) = true from by rw [HST.out, decide_eq_true hy])
      go_wp2_with fail
      go_roundw
      case rel => exact ⟨k + 1, HLT.out, by go_num, HST2.out, HB.out⟩
      case measure => simp [intOf]; try omega
    · have hyI : (30 : Int) < (yl.length : Int) := by omega
      have HN := Lib.hid (HNO.out hy)
      go_wp2_with fail
      go_ret
      exact ⟨by rw [HN.out]; rfl, HB.out⟩
  · obtain rfl : k = len := by omega
    have hall := HALL.out
    rw [List.take_of_length_le (by rw [HL.out]; exact Nat.le_refl _)] at hall
    have HF := Lib.hid (show fewB xs = decide (k ≤ 30) from by unfold fewB; rw [hall, HL.out]; rfl)
    clear hall hB
    by_cases hy : k ≤ 30
    · have hyI : (k : Int) ≤ 30 := by omega
      have HF2 := Lib.hid (show fewB xs = true from by rw [HF.out, decide_eq_true hy])
      go_wp2_with fail
      go_ret
      exact ⟨by rw [HF2.out]; rfl, HB.out⟩
    · have hyI : ¬ (k : Int) ≤ 30 := by omega
      have HF2 := Lib.hid (show fewB xs = false from by rw [HF.out, decide_eq_false hy])
      go_wp2_with fail
      go_ret
      exact ⟨by rw [HF2.out]; rfl, HB.out⟩
/-- Both graphs. -/
structure BG (F : Nat → Nat) (w : World) (p mr ms n K m : Nat) (G : List En4) (ha : Option Addr) (hc : Nat) : Prop where
  dep : DepI F w p mr ms n K (lkG G)
  ref : Rd (.sl entT) (fun b => b < w.heap.size ∧ F b = 0) w [.slice ha G.length hc] (G.map entD)
  gi : GI m G
  nle : n ≤ m
  kle : K ≤ 400 * m
theorem BG.below {F : Nat → Nat} {w w' : World} {p mr ms n K m : Nat} {G : List En4} {ha : Option Addr} {hc : Nat} (h : BG F w p mr ms n K m G ha hc) (hB : Below w.heap.size w w') : BG F w' p mr ms n K m G ha hc :=
  ⟨h.dep.below hB, (h.ref.below hB (fun b hb => hb.1)).keep (fun _ _ => rfl) (fun b hb => ⟨Nat.lt_of_lt_of_le hb.1 hB.size, hb.2⟩), h.gi, h.nle, h.kle⟩
/-- What has turned in the graph alone leaves the rest. -/
theorem gr_below0 {F : Nat → Nat} {w0 w w' : World} (h : Below w0.heap.size w0 w) (hF : ∀ b, b < w0.heap.size → F b = 0) (hg : Gr (fun b => F b ≠ 0) w w') : Below w0.heap.size w0 w' :=
  h.trans (hg.below (fun b e => by
    by_cases hb : w0.heap.size ≤ b
    · exact hb
    · exact absurd (hF b (by omega)) e) h.size)
theorem rd_gr0 {e : Ty} {F F' : Nat → Nat} {w w' : World} {cs : List Value} {x : e.den} (h : Rd e (fun b => b < w.heap.size ∧ F b = 0) w cs x) (hg : Gr (fun b => F b ≠ 0) w w') (hF : ∀ b, b < w.heap.size → F' b = F b) : Rd e (fun b => b < w'.heap.size ∧ F' b = 0) w' cs x :=
  (h.keep (fun b hb => hg.block b hb.1 (fun e => e hb.2)) (fun b hb => ⟨Nat.lt_of_lt_of_le hb.1 hg.size, (hF b hb.1).trans hb.2⟩))
theorem setCode_vcode {r : Bool} {n : Nat} {c : C4} {l : List C4} (hl : l.length ≤ 200) (hn : n < 5000) : setCode r n c l = vcode c l := by
  unfold setCode vcode
  split
  · rfl
  · rw [if_neg]
    rintro (h | ⟨-, h⟩) <;> omega
def BuildP (w : World) (m : Nat) (e : Ending) (w' : World) : Prop :=
  ∃ (F : Nat → Nat) (p mr ms n K : Nat) (G : List En4) (ha : Option Addr) (hc : Nat), e = .returned (.tuple #[.pointer (some ⟨p, 0, none⟩), .slice ha G.length hc, .bool true]) ∧ BG F w' p mr ms n K m G ha hc ∧ (∀ b, b < w.heap.size → F b = 0) ∧ Below w.heap.size w w'
set_option maxHeartbeats 4000000 in
theorem build47 {S : Nat → Prop} (w : World) (a : Option Addr) (len cap : Nat) (xs : List stepT.den) (hx : Rd (.sl stepT) S w [.slice a len cap] xs) (hS : ∀ b, S b → b < w.heap.size) (hfew : fewB xs = true) :
    Calls Try.prog 11 #[.slice a len cap] w (BuildP w len) := by
  have HL := Lib.hid (show xs.length = len from hx.sl_flat.1)
  have hlm : len ≤ 30 := by
    unfold fewB at hfew
    rw [Bool.and_eq_true] at hfew
    have := of_decide_eq_true hfew.2
    rw [HL.out] at this
    exact this
  have HYL := Lib.hid (show ∀ k (hk : k < xs.length), (stL xs[k]).length ≤ 30 from fun k hk => by
    unfold fewB at hfew
    rw [Bool.and_eq_true, List.all_eq_true] at hfew
    exact of_decide_eq_true (hfew.1 _ (List.getElem_mem hk)))
  have HX := Lib.hid hx
  have HS := Lib.hid hS
  have HN := Lib.hid (new47 w)
  clear hx hS hfew
  go_enter Try.func11, Try.ntmps11
  go_wp2_with fail
  refine HN.out.mono ?_
  rintro e w1 ⟨p, mr, ms, F0, rfl, hB1, hI1, hF1⟩
  have HB1 := Lib.hid hB1
  have HI1 := Lib.hid hI1
  have HF1 := Lib.hid hF1
  clear hB1 hI1 hF1 HN
  go_wp2_with fail
  go_loopw [6, 7] (fun hv iv wr => ∃ (k : Nat) (F : Nat → Nat) (n K : Nat) (G : List En4) (ha : Option Addr) (hc : Nat), k ≤ len ∧ iv = .int .i64 k ∧ hv = .slice ha G.length hc ∧ BG F wr p mr ms n K k G ha hc ∧ (∀ b, b < w.heap.size → F b = 0) ∧ Below w.heap.size w wr) (fun _ iv _ => len - (intOf iv).toNat)
  case atStart => exact ⟨0, F0, 0, 0, [], none, 0, Nat.zero_le _, rfl, rfl, ⟨HI1.out, ⟨none, 0, 0, rfl, rfl, Nat.le_refl _, by decide, .inl rfl⟩, GI.nil, Nat.le_refl _, Nat.le_refl _⟩, HF1.out, HB1.out⟩
  obtain ⟨k, F, n, K, G, ha, hc, hk, rfl, rfl, hG, hF, hB⟩ := hrel
  have HG := Lib.hid hG
  have HF := Lib.hid hF
  have HB := Lib.hid hB
  clear hG hF
  by_cases hlt : k < len
  · have hkI : (k : Int) < (len : Int) := by omega
    have hkx : k < xs.length := by rw [HL.out]; exact hlt
    obtain ⟨b, o, ra, rc, rfl, hbS, m0, m1, m2, m3, m4, m5, hrr, hco⟩ := step_at HX.out k hkx
    have hYL := HYL.out k hkx
    generalize xs[k] = x at m0 m1 m2 m3 m4 m5 hrr hco hYL
    obtain ⟨l, hl⟩ : ∃ l, stL x = l := ⟨_, rfl⟩
    obtain ⟨c, hc'⟩ : ∃ c, c4 x.1 = c := ⟨_, rfl⟩
    obtain ⟨rm, hrm⟩ : ∃ c, x.2.2.1 = c := ⟨_, rfl⟩
    rw [hl] at m4 hrr hYL
    rw [hc'] at m0 m1 m2 m3 hco
    rw [hrm] at m5
    have HYLL := Lib.hid hYL
    have HRR := Lib.hid hrr
    have HCO := Lib.hid hco
    obtain ⟨c1, c2, c3, c4'⟩ := c
    simp only at m0 m1 m2 m3
    have hbl := HS.out b hbS
    have HCC := Lib.hid (show Cells [(⟨b, o + k * 6, none⟩, .int .i64 c1), (⟨b, o + k * 6 + 1, none⟩, .int .i64 c2), (⟨b, o + k * 6 + 2, none⟩, .int .i64 c3), (⟨b, o + k * 6 + 3, none⟩, .int .i64 c4'), (⟨b, o + k * 6 + 4, none⟩, .slice ra l.length rc), (⟨b, o + k * 6 + 5, none⟩, .bool rm)] w from ⟨m0, m1, m2, m3, m4, m5, trivial⟩)
    have HCL := Lib.hid (show CellsLt w.heap.size [(⟨b, o + k * 6, none⟩, .int .i64 c1), (⟨b, o + k * 6 + 1, none⟩, .int .i64 c2), (⟨b, o + k * 6 + 2, none⟩, .int .i64 c3), (⟨b, o + k * 6 + 3, none⟩, .int .i64 c4'), (⟨b, o + k * 6 + 4, none⟩, .slice ra l.length rc), (⟨b, o + k * 6 + 5, none⟩, .bool rm)] from ⟨hbl, hbl, hbl, hbl, hbl, hbl, trivial⟩)
    have HLT := Lib.hid hlt
    have HKN := Lib.hid (show k ≤ 30 from by omega)
    clear m0 m1 m2 m3 m4 m5 hl hc' hrm hbl hbS hrr hco hYL hkx hlt
    obtain ⟨z0, z1, z2, z3, z4, z5, -⟩ := Cells.belowN hB HCL.out HCC.out
    cases rm
    case true =>
      have HRM := Lib.hid (remove47 wr HG.out.dep ⟨c1, c2, c3, c4'⟩ (HG.out.dep.nodup HG.out.gi _) HCO.out)
      unfold C4.v at HRM
      simp only at HRM
      go_wp2_with fail
      refine HRM.out.mono ?_
      rintro e w2 ⟨he, h1, h2⟩
      obtain ⟨rb, hrb⟩ : ∃ x, (lkG G ⟨c1, c2, c3, c4'⟩).isSome = x := ⟨_, rfl⟩
      rw [hrb] at he h1 h2
      have HRB := Lib.hid hrb
      have hg2 : BG F w2 p mr ms (if rb = true then n - 1 else n) K (k + 1) (delG G ⟨c1, c2, c3, c4'⟩) ha hc → True := fun _ => trivial
      clear hg2 hrb z0 z1 z2 z3 z4 z5
      have HDEP2 := Lib.hid (show DepI F w2 p mr ms (if rb = true then n - 1 else n) K (lkG (delG G ⟨c1, c2, c3, c4'⟩)) ∧ Gr (fun b => F b ≠ 0) wr w2 from by
        cases rb
        · have hb := h1 rfl
          have hn : lkG G ⟨c1, c2, c3, c4'⟩ = none := by
            have := HRB.out
            cases hl : lkG G ⟨c1, c2, c3, c4'⟩ with
            | none => rfl
            | some l => rw [hl] at this; cases this
          rw [delG_none hn]
          exact ⟨HG.out.dep.below hb, Gr.of_below hb⟩
        · obtain ⟨hg, hd⟩ := h2 rfl
          refine ⟨?_, hg⟩
          have hfe : (fun x => if x = ⟨c1, c2, c3, c4'⟩ then none else lkG G x) = lkG (delG G ⟨c1, c2, c3, c4'⟩) := by
            funext x
            exact (lkG_del G _ x).symm
          rw [hfe] at hd
          exact hd)
      have HRF2 := Lib.hid (rd_gr0 HG.out.ref HDEP2.out.2 (fun _ _ => rfl))
      have HB2 := Lib.hid (gr_below0 HB.out HF.out HDEP2.out.2)
      have HRR2 := Lib.hid (rremove47 w2 ha hc G HRF2.out (fun b hb => hb.1) (by have := HG.out.gi.num; have := HKN.out; omega) ⟨c1, c2, c3, c4'⟩)
      unfold C4.v at HRR2
      simp only at HRR2
      clear h1 h2
      have HE1 := Lib.hid HRB.out
      cases rb
      · simp only [Bool.false_eq_true, if_false] at he
        subst he
        obtain ⟨z0, z1, z2, z3, z4, z5, -⟩ := Cells.belowN HB2.out HCL.out HCC.out
        go_wp2_with fail
        refine HRR2.out.mono ?_
        rintro e w3 ⟨da, dc, he, hB3, hR3⟩
        rw [HE1.out] at he
        simp only [Bool.false_eq_true, if_false] at he
        subst he
        have HB3 := Lib.hid (below_step HB2.out hB3)
        have HBG3 := Lib.hid (show BG F w3 p mr ms n K (k + 1) (delG G ⟨c1, c2, c3, c4'⟩) da dc from ⟨HDEP2.out.1.below hB3, hR3.keep (fun _ _ => rfl) (fun b hb => hb.elim (fun h => ⟨Nat.lt_of_lt_of_le h.1 hB3.size, h.2⟩) (fun h => ⟨h.2, HDEP2.out.1.dom0 h.1⟩)), (HG.out.gi.del _).mono (Nat.le_succ _), by have := HG.out.nle; omega, by have := HG.out.kle; omega⟩)
        clear hB3 hR3 z0 z1 z2 z3 z4 z5
        go_wp2_with fail
        go_roundw
        case rel => exact ⟨k + 1, F, _, _, _, da, dc, HLT.out, by go_num, rfl, HBG3.out, HF.out, HB3.out⟩
        case measure => simp [intOf]; try omega
      · simp only [if_true] at he
        subst he
        obtain ⟨z0, z1, z2, z3, z4, z5, -⟩ := Cells.belowN HB2.out HCL.out HCC.out
        go_wp2_with fail
        refine HRR2.out.mono ?_
        rintro e w3 ⟨da, dc, he, hB3, hR3⟩
        rw [HE1.out] at he
        simp only [if_true] at he
        subst he
        have HB3 := Lib.hid (below_step HB2.out hB3)
        have HBG3 := Lib.hid (show BG F w3 p mr ms (n - 1) K (k + 1) (delG G ⟨c1, c2, c3, c4'⟩) da dc from ⟨HDEP2.out.1.below hB3, hR3.keep (fun _ _ => rfl) (fun b hb => hb.elim (fun h => ⟨Nat.lt_of_lt_of_le h.1 hB3.size, h.2⟩) (fun h => ⟨h.2, HDEP2.out.1.dom0 h.1⟩)), (HG.out.gi.del _).mono (Nat.le_succ _), by have := HG.out.nle; omega, by have := HG.out.kle; omega⟩)
        clear hB3 hR3 z0 z1 z2 z3 z4 z5
        go_wp2_with fail
        go_roundw
        case rel => exact ⟨k + 1, F, _, _, _, da, dc, HLT.out, by go_num, rfl, HBG3.out, HF.out, HB3.out⟩
        case measure => simp [intOf]; try omega
    have hC0 : Cells [(⟨b, o + k * 6, none⟩, .int .i64 c1), (⟨b, o + k * 6 + 1, none⟩, .int .i64 c2), (⟨b, o + k * 6 + 2, none⟩, .int .i64 c3), (⟨b, o + k * 6 + 3, none⟩, .int .i64 c4'), (⟨b, o + k * 6 + 4, none⟩, .slice ra l.length rc)] wr := ⟨z0, z1, z2, z3, z4, trivial⟩
    obtain ⟨vc, hvc⟩ : ∃ x, vcode ⟨c1, c2, c3, c4'⟩ l = x := ⟨_, rfl⟩
    have HVC := Lib.hid hvc
    clear hvc
    go_upto_region 10 with fail
    refine wp_region_T (Cells [(⟨b, o + k * 6, none⟩, .int .i64 c1), (⟨b, o + k * 6 + 1, none⟩, .int .i64 c2), (⟨b, o + k * 6 + 2, none⟩, .int .i64 c3), (⟨b, o + k * 6 + 3, none⟩, .int .i64 c4'), (⟨b, o + k * 6 + 4, none⟩, .slice ra l.length rc)]) (fun i => i == 11) (by kernel_rfl) ?_
    have hSss1 := Cells.drew hC0
    have hB_0_s1 : Below wr.heap.size wr wr.drew := below_drew _
    generalize wr.drew = s1 at hSss1 hB_0_s1 ⊢
    have hB_s1_s1 := Below.refl s1.heap.size s1
    refine wpAnyT_pure (i := 0) (v := ?_) rfl (by kernel_rfl) (by kernel_rfl) (by kernel_rfl) (fun _ _ _ h => h) (by rfl) ?_ ?_
    rotate_left
    · intro w; go_simp; try with_reducible rfl
    simp only [Act.put, rgA, rgB, rgC, rgD, rgE, rgF]
    refine wpAnyT_pure (i := 1) (v := ?_) rfl (by kernel_rfl) (by kernel_rfl) (by kernel_rfl) (fun _ _ _ h => h) (by rfl) ?_ ?_
    rotate_left
    · intro w; go_simp; try with_reducible rfl
    simp only [Act.put, rgA, rgB, rgC, rgD, rgE, rgF]
    refine wpAnyT_pure (i := 2) (v := ?_) rfl (by kernel_rfl) (by kernel_rfl) (by kernel_rfl) (fun _ _ _ h => h) (by rfl) ?_ ?_
    rotate_left
    · intro w; go_simp; try with_reducible rfl
    simp only [Act.put, rgA, rgB, rgC, rgD, rgE, rgF]
    refine wpAnyT_pure (i := 3) (v := ?_) rfl (by kernel_rfl) (by kernel_rfl) (by kernel_rfl) (fun _ _ _ h => h) (by rfl) ?_ ?_
    rotate_left
    · intro w; go_simp; try with_reducible rfl
    simp only [Act.put, rgA, rgB, rgC, rgD, rgE, rgF]
    refine wpAnyT_pure (i := 4) (v := ?_) rfl (by kernel_rfl) (by kernel_rfl) (by kernel_rfl) (fun _ _ _ h => h) (by rfl) ?_ ?_
    rotate_left
    · intro w; go_simp; try with_reducible rfl
    simp only [Act.put, rgA, rgB, rgC, rgD, rgE, rgF]
    refine wpAnyT_pure (i := 6) (v := ?_) rfl (by kernel_rfl) (by kernel_rfl) (by kernel_rfl) (fun _ _ _ h => h) (by rfl) ?_ ?_
    rotate_left
    · intro w; go_simp; try with_reducible rfl
    simp only [Act.put, rgA, rgB, rgC, rgD, rgE, rgF]
    refine wpAnyT_pure (i := 7) (v := ?_) rfl (by kernel_rfl) (by kernel_rfl) (by kernel_rfl) (fun _ _ _ h => h) (by rfl) ?_ ?_
    rotate_left
    · intro w; go_simp; try with_reducible rfl
    simp only [Act.put, rgA, rgB, rgC, rgD, rgE, rgF]
    refine wpAnyT_pure (i := 8) (v := ?_) rfl (by kernel_rfl) (by kernel_rfl) (by kernel_rfl) (fun _ _ _ h => h) (by rfl) ?_ ?_
    rotate_left
    · intro w; go_simp; try with_reducible rfl
    simp only [Act.put, rgA, rgB, rgC, rgD, rgE, rgF]
    refine wpAnyT_pure (i := 9) (v := ?_) rfl (by kernel_rfl) (by kernel_rfl) (by kernel_rfl) (fun _ _ _ h => h) (by rfl) ?_ ?_
    rotate_left
    · intro w; go_simp; try with_reducible rfl
    simp only [Act.put, rgA, rgB, rgC, rgD, rgE, rgF]
    refine wpAnyT_loadW (i := 5) (v := ?_) rfl (by kernel_rfl) (by kernel_rfl) (by kernel_rfl) (by kernel_rfl) (by kernel_rfl) (fun _ _ _ h => h) (Or.inl ⟨by rfl, ?_⟩) hSss1 ?_
    rotate_left
    · intro w hSw; obtain ⟨e0, e1, e2, e3, e4, -⟩ := hSw; go_simp; try with_reducible rfl
    simp only [Act.put, rgA, rgB, rgC, rgD, rgE, rgF]
    refine wpAnyT_loadW (i := 10) (v := ?_) rfl (by kernel_rfl) (by kernel_rfl) (by kernel_rfl) (by kernel_rfl) (by kernel_rfl) (fun _ _ _ h => h) (Or.inl ⟨by rfl, ?_⟩) hSss1 ?_
    rotate_left
    · intro w hSw; obtain ⟨e0, e1, e2, e3, e4, -⟩ := hSw; go_simp; try with_reducible rfl
    simp only [Act.put, rgA, rgB, rgC, rgD, rgE, rgF]
    refine wpAnyT_one (i := 11) (by kernel_rfl) rfl (by rfl) ?_
    have hbP : Below wr.heap.size wr s1 := hB_0_s1.trans ((hB_s1_s1).mono hB_0_s1.size)
    have hbW := below_step HB.out hbP
    have hgp := HG.out.below hbP
    have hst := set47 s1 hgp.dep ⟨c1, c2, c3, c4'⟩ (hgp.dep.nodup hgp.gi _) HCO.out (by have := hgp.kle; have := HKN.out; omega) (by have := hgp.nle; have := HKN.out; omega) ra rc l (HRR.out.below hbW HS.out) (fun b hb => ⟨Nat.lt_of_lt_of_le (HS.out b hb) hbW.size, HF.out b (HS.out b hb)⟩)
    unfold SetP at hst
    rw [setCode_vcode (by have := HYLL.out; omega) (by have := hgp.nle; have := HKN.out; omega), HVC.out] at hst
    unfold C4.v at hst
    simp only at hst
    refine wp_enter (f := 27) (args := #[.pointer (some ⟨p, 0, none⟩), .agg #[.int .i64 c1, .int .i64 c2, .int .i64 c3, .int .i64 c4'], .slice ra l.length rc]) (by go_simp) hst ?_
    rintro e w102 ⟨rfl, h1, h2⟩
    have HZ := Lib.hid (show ∃ (F2 : Nat → Nat) (n2 K2 : Nat), DepI F2 w102 p mr ms n2 K2 (lkG (nextG G ⟨c1, c2, c3, c4'⟩ l)) ∧ Rd (.sl entT) (fun b => b < (w102).heap.size ∧ F2 b = 0) w102 [.slice ha G.length hc] (G.map entD) ∧ (∀ b, b < w.heap.size → F2 b = 0) ∧ Below w.heap.size w w102 ∧ n2 ≤ k + 1 ∧ K2 ≤ 400 * (k + 1) from by
      by_cases hv : vc = 0
      · obtain ⟨hg, F2, hF2, hd⟩ := h2 hv
        have hfe : setR (lkG G) ⟨c1, c2, c3, c4'⟩ l = lkG (nextG G ⟨c1, c2, c3, c4'⟩ l) := by
          funext x
          unfold nextG
          rw [HVC.out, if_pos hv]
          exact (lkG_set G _ l x).symm
        rw [hfe] at hd
        refine ⟨F2, _, _, hd, rd_gr0 hgp.ref hg hF2, fun b hb => (hF2 b (Nat.lt_of_lt_of_le hb hbW.size)).trans (HF.out b hb), gr_below0 hbW HF.out hg, ?_, ?_⟩
        · unfold setM
          have := hgp.nle
          split <;> omega
        · have := hgp.kle
          omega
      · have hb := h1 hv
        have hgn := hgp.below hb
        refine ⟨F, n, K, ?_, hgn.ref, HF.out, below_step hbW hb, by have := hgn.nle; omega, by have := hgn.kle; omega⟩
        unfold nextG
        rw [HVC.out, if_neg hv]
        exact hgn.dep)
    clear hbP hbW hgp hst h1 h2
    refine ⟨_, rfl, fun h => absurd h (by decide), ?_⟩
    try simp only [Act.put, rgA, rgB, rgC, rgD, rgE, rgF]
    refine wpAnyT_pure (i := 12) (v := ?_) rfl (by kernel_rfl) (by kernel_rfl) (by kernel_rfl) (fun _ _ _ h => h) (by rfl) ?_ ?_
    rotate_left
    · intro w; go_simp; try with_reducible rfl
    simp only [Act.put, rgA, rgB, rgC, rgD, rgE, rgF]
    refine wpAnyT_done (by kernel_rfl) ?_ _
    obtain ⟨w2, rfl⟩ : ∃ x, x = w102 := ⟨_, rfl⟩
    clear hC0 z0 z1 z2 z3 z4 z5 hB
    obtain ⟨F2, n2, K2, hd2, hr2, hf2, hB2, hn2, hk2⟩ := HZ.out
    have HD2 := Lib.hid hd2
    have HR2 := Lib.hid hr2
    have HF2 := Lib.hid hf2
    have HB2 := Lib.hid hB2
    have HN2 := Lib.hid (And.intro hn2 hk2)
    obtain ⟨z0, z1, z2, z3, z4, z5, -⟩ := Cells.belowN hB2 HCL.out HCC.out
    have hC1 : Cells [(⟨b, o + k * 6, none⟩, .int .i64 c1), (⟨b, o + k * 6 + 1, none⟩, .int .i64 c2), (⟨b, o + k * 6 + 2, none⟩, .int .i64 c3), (⟨b, o + k * 6 + 3, none⟩, .int .i64 c4'), (⟨b, o + k * 6 + 4, none⟩, .slice ra l.length rc)] w2 := ⟨z0, z1, z2, z3, z4, trivial⟩
    clear HZ hd2 hr2 hf2 hB2 hn2 hk2 z0 z1 z2 z3 z4 z5
    go_upto_region 11 with fail
    refine wp_region_T (Cells [(⟨b, o + k * 6, none⟩, .int .i64 c1), (⟨b, o + k * 6 + 1, none⟩, .int .i64 c2), (⟨b, o + k * 6 + 2, none⟩, .int .i64 c3), (⟨b, o + k * 6 + 3, none⟩, .int .i64 c4'), (⟨b, o + k * 6 + 4, none⟩, .slice ra l.length rc)]) (fun _ => false) (by kernel_rfl) ?_
    have hSss3 := Cells.drew hC1
    have hB_0_s3 : Below w2.heap.size w2 w2.drew := below_drew _
    generalize w2.drew = s3 at hSss3 hB_0_s3 ⊢
    have hB_s3_s3 := Below.refl s3.heap.size s3
    refine wpAnyT_pure (i := 0) (v := ?_) rfl (by kernel_rfl) (by kernel_rfl) (by kernel_rfl) (fun _ _ _ h => h) (by rfl) ?_ ?_
    rotate_left
    · intro w; go_simp; try with_reducible rfl
    simp only [Act.put, rgA, rgB, rgC, rgD, rgE, rgF]
    refine wpAnyT_pure (i := 1) (v := ?_) rfl (by kernel_rfl) (by kernel_rfl) (by kernel_rfl) (fun _ _ _ h => h) (by rfl) ?_ ?_
    rotate_left
    · intro w; go_simp; try with_reducible rfl
    simp only [Act.put, rgA, rgB, rgC, rgD, rgE, rgF]
    refine wpAnyT_pure (i := 2) (v := ?_) rfl (by kernel_rfl) (by kernel_rfl) (by kernel_rfl) (fun _ _ _ h => h) (by rfl) ?_ ?_
    rotate_left
    · intro w; go_simp; try with_reducible rfl
    simp only [Act.put, rgA, rgB, rgC, rgD, rgE, rgF]
    refine wpAnyT_pure (i := 3) (v := ?_) rfl (by kernel_rfl) (by kernel_rfl) (by kernel_rfl) (fun _ _ _ h => h) (by rfl) ?_ ?_
    rotate_left
    · intro w; go_simp; try with_reducible rfl
    simp only [Act.put, rgA, rgB, rgC, rgD, rgE, rgF]
    refine wpAnyT_pure (i := 4) (v := ?_) rfl (by kernel_rfl) (by kernel_rfl) (by kernel_rfl) (fun _ _ _ h => h) (by rfl) ?_ ?_
    rotate_left
    · intro w; go_simp; try with_reducible rfl
    simp only [Act.put, rgA, rgB, rgC, rgD, rgE, rgF]
    refine wpAnyT_pure (i := 6) (v := ?_) rfl (by kernel_rfl) (by kernel_rfl) (by kernel_rfl) (fun _ _ _ h => h) (by rfl) ?_ ?_
    rotate_left
    · intro w; go_simp; try with_reducible rfl
    simp only [Act.put, rgA, rgB, rgC, rgD, rgE, rgF]
    refine wpAnyT_pure (i := 7) (v := ?_) rfl (by kernel_rfl) (by kernel_rfl) (by kernel_rfl) (fun _ _ _ h => h) (by rfl) ?_ ?_
    rotate_left
    · intro w; go_simp; try with_reducible rfl
    simp only [Act.put, rgA, rgB, rgC, rgD, rgE, rgF]
    refine wpAnyT_pure (i := 8) (v := ?_) rfl (by kernel_rfl) (by kernel_rfl) (by kernel_rfl) (fun _ _ _ h => h) (by rfl) ?_ ?_
    rotate_left
    · intro w; go_simp; try with_reducible rfl
    simp only [Act.put, rgA, rgB, rgC, rgD, rgE, rgF]
    refine wpAnyT_pure (i := 9) (v := ?_) rfl (by kernel_rfl) (by kernel_rfl) (by kernel_rfl) (fun _ _ _ h => h) (by rfl) ?_ ?_
    rotate_left
    · intro w; go_simp; try with_reducible rfl
    simp only [Act.put, rgA, rgB, rgC, rgD, rgE, rgF]
    refine wpAnyT_loadW (i := 5) (v := ?_) rfl (by kernel_rfl) (by kernel_rfl) (by kernel_rfl) (by kernel_rfl) (by kernel_rfl) (fun _ _ _ h => h) (Or.inl ⟨by rfl, ?_⟩) hSss3 ?_
    rotate_left
    · intro w hSw; obtain ⟨e0, e1, e2, e3, e4, -⟩ := hSw; go_simp; try with_reducible rfl
    simp only [Act.put, rgA, rgB, rgC, rgD, rgE, rgF]
    refine wpAnyT_loadW (i := 10) (v := ?_) rfl (by kernel_rfl) (by kernel_rfl) (by kernel_rfl) (by kernel_rfl) (by kernel_rfl) (fun _ _ _ h => h) (Or.inl ⟨by rfl, ?_⟩) hSss3 ?_
    rotate_left
    · intro w hSw; obtain ⟨e0, e1, e2, e3, e4, -⟩ := hSw; go_simp; try with_reducible rfl
    simp only [Act.put, rgA, rgB, rgC, rgD, rgE, rgF]
    refine wpAnyT_one (i := 11) (by kernel_rfl) rfl (by rfl) ?_
    have hbP : Below w2.heap.size w2 s3 := hB_0_s3.trans ((hB_s3_s3).mono hB_0_s3.size)
    have hbW := below_step HB2.out hbP
    have hst := rset47 s3 ha hc G (HR2.out.below hbP (fun b hb => hb.1)) (fun b hb => Nat.lt_of_lt_of_le hb.1 hbP.size) (by have := HG.out.gi.num; have := HKN.out; omega) ⟨c1, c2, c3, c4'⟩ HCO.out ra rc l (HRR.out.below hbW HS.out) (fun b hb => Nat.lt_of_lt_of_le (HS.out b hb) hbW.size) (by have := HYLL.out; omega)
    unfold RSetP at hst
    rw [HVC.out] at hst
    unfold C4.v at hst
    simp only at hst
    refine wp_enter (f := 32) (args := #[.slice ha G.length hc, .agg #[.int .i64 c1, .int .i64 c2, .int .i64 c3, .int .i64 c4'], .slice ra l.length rc]) (by go_simp) hst ?_
    rintro e w104 ⟨da, dc, rfl, hX, hR3⟩
    have HB3 := Lib.hid (below_step hbW hX)
    have HBG3 := Lib.hid (show BG F2 w104 p mr ms n2 K2 (k + 1) (nextG G ⟨c1, c2, c3, c4'⟩ l) da dc from ⟨HD2.out.below (hbP.trans (hX.mono hbP.size)), hR3.keep (fun _ _ => rfl) (fun b hb => hb.elim (fun h => ⟨Nat.lt_of_lt_of_le h.1 (Nat.le_trans hbP.size hX.size), h.2⟩) (fun h => ⟨h.2, HD2.out.dom0 (Nat.le_trans hbP.size h.1)⟩)), by
      unfold nextG
      split
      · exact HG.out.gi.set HCO.out (rd_okC HRR.out) HYLL.out
      · exact HG.out.gi.mono (Nat.le_succ _), HN2.out.1, HN2.out.2⟩)
    clear hbP hbW hst hR3
    have hB_s3_w104 := below_step hB_s3_s3 hX
    have hB_w104_w104 := Below.refl w104.heap.size w104
    have hSsw104 := Cells.below hB_s3_w104 hSss3
    clear hX
    refine ⟨_, rfl, fun _ _ => hSsw104, ?_⟩
    try simp only [Act.put, rgA, rgB, rgC, rgD, rgE, rgF]
    refine wpAnyT_pure (i := 12) (v := ?_) rfl (by kernel_rfl) (by kernel_rfl) (by kernel_rfl) (fun _ _ _ h => h) (by rfl) ?_ ?_
    rotate_left
    · intro w; go_simp; try with_reducible rfl
    simp only [Act.put, rgA, rgB, rgC, rgD, rgE, rgF]
    refine wpAnyT_pure (i := 13) (v := ?_) rfl (by kernel_rfl) (by kernel_rfl) (by kernel_rfl) (fun _ _ _ h => h) (by rfl) ?_ ?_
    rotate_left
    · intro w; go_simp; try with_reducible rfl
    simp only [Act.put, rgA, rgB, rgC, rgD, rgE, rgF]
    refine wpAnyT_pure (i := 14) (v := ?_) rfl (by kernel_rfl) (by kernel_rfl) (by kernel_rfl) (fun _ _ _ h => h) (by rfl) ?_ ?_
    rotate_left
    · intro w; go_simp; try with_reducible rfl
    simp only [Act.put, rgA, rgB, rgC, rgD, rgE, rgF]
    refine wpAnyT_pure (i := 15) (v := ?_) rfl (by kernel_rfl) (by kernel_rfl) (by kernel_rfl) (fun _ _ _ h => h) (by rfl) ?_ ?_
    rotate_left
    · intro w; go_simp; try with_reducible rfl
    simp only [Act.put, rgA, rgB, rgC, rgD, rgE, rgF]
    refine wpAnyT_pure (i := 16) (v := ?_) rfl (by kernel_rfl) (by kernel_rfl) (by kernel_rfl) (fun _ _ _ h => h) (by rfl) ?_ ?_
    rotate_left
    · intro w; go_simp; try with_reducible rfl
    simp only [Act.put, rgA, rgB, rgC, rgD, rgE, rgF]
    refine wpAnyT_done (by kernel_rfl) ?_ _
    have hbz := hB_w104_w104
    have HB4 := Lib.hid (below_step HB3.out hbz)
    have HBG4 := Lib.hid (HBG3.out.below hbz)
    clear hbz
    obtain ⟨w3, rfl⟩ : ∃ x, x = w104 := ⟨_, rfl⟩
    clear hC1
    go_wp2_with fail
    go_roundw
    case rel => exact ⟨k + 1, F2, _, _, _, da, dc, HLT.out, by go_num, rfl, HBG4.out, HF2.out, HB4.out⟩
    case measure => simp [intOf]; try omega
  · obtain rfl : k = len := by omega
    clear hB
    go_wp2_with fail
    refine bodyPost_ret (results_tmp3 rfl _ _ _) rfl ?_
    exact ⟨F, p, mr, ms, n, K, G, ha, hc, rfl, HG.out, HF.out, HB.out⟩
end Go.Proofs.Ytoimbhdjhhmonaa

/- Layer 47: the calls on both graphs give the same lists; DepsAffected. -/
set_option linter.unusedSimpArgs false
set_option maxRecDepth 50000
namespace Go.Proofs.Ytoimbhdjhhmonaa
open Go.RowKit Go

theorem cellsG_len {m : Nat} {G : List En4} (hG : GI m G) : (cellsG G).length ≤ G.length * 31 := by
  unfold cellsG
  exact Nat.le_trans (srtC_len _) (flat_len (m := 30) hG.len)
section
variable {F : Nat → Nat} {w : World} {p mr ms n K m : Nat} {G : List En4} {ha : Option Addr} {hc : Nat}
theorem BG.cells (h : BG F w p mr ms n K m G ha hc) (hm : m ≤ 1000) : Calls Try.prog 16 #[.pointer (some ⟨p, 0, none⟩)] w (ReadsP w (cellsG G)) := by
  refine (cells47 w h.dep (by have := h.nle; have := h.kle; omega)).mono ?_
  rintro e w' ⟨v, ys, rfl, hs, ho, hx, -, hsl, hB⟩
  obtain rfl : ys = cellsG G := hs.ext (srt_srtC _) (fun x => ⟨fun hxy => (mem_cellsG h.gi).2 ((hx x (ho x hxy)).1 hxy), fun hxy => (hx x (cellsG_ok h.gi hxy)).2 ((mem_cellsG h.gi).1 hxy)⟩)
  exact ⟨v, rfl, hsl, hB⟩
theorem BG.readers (h : BG F w p mr ms n K m G ha hc) (hm : m ≤ 1000) (c : C4) (hco : c.ok) : Calls Try.prog 21 #[.pointer (some ⟨p, 0, none⟩), c.v] w (ReadsP w (rdrsG G c)) := by
  refine (readers47 w h.dep (by have := h.kle; omega) c hco).mono ?_
  rintro e w' ⟨v, ys, rfl, hs, ho, hx, -, hsl, hB⟩
  obtain rfl : ys = rdrsG G c := hs.ext (srt_srtC _) (fun x => ⟨fun hxy => (mem_rdrsG h.gi).2 ((hx x (ho x hxy)).1 hxy), fun hxy => (hx x (rdrsG_ok h.gi hxy)).2 ((mem_rdrsG h.gi).1 hxy)⟩)
  exact ⟨v, rfl, hsl, hB⟩
theorem BG.reads (h : BG F w p mr ms n K m G ha hc) (c : C4) (hco : c.ok) : Calls Try.prog 17 #[.pointer (some ⟨p, 0, none⟩), c.v] w (ReadsP w ((lkG G c).getD [])) := reads47 w h.dep c hco
end
end Go.Proofs.Ytoimbhdjhhmonaa

/- Layer 47: the graph's cells in a slice of the caller's own, with its whole row (to append to). -/
set_option linter.unusedSimpArgs false
set_option maxRecDepth 50000
namespace Go.Proofs.Ytoimbhdjhhmonaa
open Go.RowKit Go Go.Shelf

theorem owns_of_row {base : Nat} {w : World} {g cap : Nat} {l : List C4} {cs : Array Value} (hcs : w.heap[g]? = some (.cells cs 38 (0, 0))) (hsz : cs.size = cap * 4) (hb : base ≤ g) (hlc : l.length ≤ cap) (hcm : cap ≤ 9223372036854775807)
    (hcell : ∀ i (hi : i < l.length), cs[i * 4]? = some (.int .i64 l[i].st) ∧ cs[i * 4 + 1]? = some (.int .i64 l[i].en) ∧ cs[i * 4 + 2]? = some (.int .i64 l[i].ot) ∧ cs[i * 4 + 3]? = some (.int .i64 l[i].pe)) (hok : ∀ x ∈ l, x.ok) :
    Owns cellT 38 base (fun _ => False) w (.slice (some ⟨g, 0, none⟩) l.length cap) (l.map C4.d) := by
  obtain ⟨vs, hr, hc⟩ := RdL.of_at (e := cellT) (S := fun _ => False) (w := w) (b := g) (off := 0) (xs := l.map C4.d) (fun i hi => by
    have hi' : i < l.length := by rw [List.length_map] at hi; exact hi
    obtain ⟨a, b, c, d⟩ := hcell i hi'
    refine ⟨encC l[i], rfl, fun j u hu => ?_, ?_⟩
    · rw [show 0 + i * cellT.sz + j = i * 4 + j by rw [show cellT.sz = 4 from rfl]; omega, blk_cell hcs]
      match j, hu with
      | 0, hu => rw [Nat.add_zero, a]; simpa [encC] using hu
      | 1, hu => rw [b]; simpa [encC] using hu
      | 2, hu => rw [c]; simpa [encC] using hu
      | 3, hu => rw [d]; simpa [encC] using hu
      | j + 4, hu => simp [encC] at hu
    · rw [List.getElem_map]
      exact cell_rd (hok _ (List.getElem_mem hi')))
  have hvl : vs.length = l.length * 4 := by have := hr.len; rw [List.length_map] at this; exact this
  refine ⟨vs, ⟨hr.len, .inr ⟨g, cap, cs, by rw [List.length_map], hb, hcs, by rw [List.length_map]; exact hlc, by simpa [maxLen] using hcm, hsz, ?_⟩⟩, hr, fun _ h => h.elim⟩
  rw [List.length_map]
  refine List.ext_getElem? fun j => ?_
  by_cases hj : j < l.length * 4
  · obtain ⟨u, hu⟩ : ∃ u, vs[j]? = some u := ⟨_, List.getElem?_eq_getElem (by omega)⟩
    have := hc j u hu
    rw [Nat.zero_add, blk_cell hcs] at this
    rw [hu, List.getElem?_take_of_lt (by exact hj), Array.getElem?_toList, this]
  · rw [List.getElem?_eq_none (by rw [List.length_take]; exact Nat.le_trans (Nat.min_le_left _ _) (by show l.length * 4 ≤ j; omega)), List.getElem?_eq_none (by omega)]
def SortCPO (base : Nat) (w : World) (v : Value) (l : List C4) (e : Ending) (w' : World) : Prop :=
  e = .returned (.tuple #[]) ∧ ∃ l' : List C4, l'.Perm l ∧ l'.Pairwise (fun x y => ¬ ltC y x) ∧ Owns cellT 38 base (fun _ => False) w' v (l'.map C4.d) ∧ Below base w w'
open Go.Sort in
theorem sortCellsO {base : Nat} (w : World) (v : Value) (l : List C4) (hO : Owns cellT 38 base (fun _ => False) w v (l.map C4.d)) (hb : base ≤ w.heap.size) (hl : l.length ≤ 1000000) :
    Calls Try.prog 51 #[v, .func (.func 40) #[] #[]] w (SortCPO base w v l) := by
  have hSL := SlC.of_owns hO
  have hOO := hO
  rcases hO.len with ⟨rfl, h0⟩ | ⟨g, cap, rfl, hbg, hgw, hlc, hcm⟩
  · have hs0 : l = [] := by simpa using h0
    subst hs0
    refine (AnyF.slices_SortFunc_none (P := Try.prog) sortC none 0 (.func (.func 40) #[] #[]) w).mono ?_
    rintro e w' ⟨he, rfl⟩
    exact ⟨he, [], List.Perm.refl _, List.Pairwise.nil, by simpa using Owns.nil cellT 38 base _, Below.refl _ _⟩
  · rw [List.length_map] at hlc
    obtain ⟨h1, h2, h3, h4, h5⟩ := holdsC hO
    rw [h3]
    have eg : ∀ args w, (callFunc 40 args).run Try.prog w = .ok (.enter 40 args) w := enters_of Try.func40 (by kernel_rfl) rfl
    have hcmp : CmpLays Try.prog 40 #[] encC 4 cfC g 0 l.toArray.size w := by
      intro m' os dk _ x y
      refine (Dr.compare47 _ x y).mono ?_
      rintro e w' ⟨he, hd⟩
      exact ⟨he, hd.grow⟩
    refine (AnyQ.slices_SortFunc sortC 4 isAggC sizeC encC (fun _ => rfl) (fun x v hv => by simp [encC] at hv; rcases hv with rfl | rfl | rfl | rfl <;> rfl) cfC swoC 40 #[] g 0 cap l.toArray w eg hcmp h4 h1 (by simp; omega)).mono ?_
    rintro e w' ⟨he, d', n', os, hP, hSo, rfl⟩
    have hsz : d'.size = l.length := hP.1.trans (by simp)
    have hperm : d'.toList.Perm l := by
      have := hP.2.2
      rw [show d'.extract 0 l.toArray.size = d' from by rw [show l.toArray.size = d'.size from by simp [hsz]]; exact Array.extract_size, show l.toArray.extract 0 l.toArray.size = l.toArray from Array.extract_size] at this
      exact this
    refine ⟨he, d'.toList, hperm, ?_, ?_, below_sortWd _ _ _ _ _ _ _ _ _ hbg hb⟩
    · rw [List.pairwise_iff_getElem]
      intro i j hi hj hij
      have hi' : i < d'.size := by simpa using hi
      have hj' : j < d'.size := by simpa using hj
      have := hSo i j (Nat.zero_le _) hij (by simp; omega)
      rw [getElem!_pos d' i hi', getElem!_pos d' j hj'] at this
      simp only [Array.getElem_toList]
      unfold ltOf at this
      rw [decide_eq_false_iff_not, cfC_lt] at this
      exact this
    · have hk := holdsK_sortWorldK_c encC 4 w g 0 l.toArray d' n' os h4 h1 (by simp [hsz])
      have hlen : d'.toList.length = l.length := by simp [hsz]
      rcases hSL with ⟨he, -⟩ | ⟨g', cap', he, -, -, -, ⟨cs, hcs, -⟩, -⟩
      · simp at he
      · simp only [Value.slice.injEq, Option.some.injEq, Addr.mk.injEq, true_and] at he
        obtain ⟨⟨rfl, -⟩, -, -⟩ := he
        obtain ⟨vs0, hro, -, -⟩ := hOO
        rcases hro.2 with ⟨hz, -⟩ | ⟨g2, cap2, cur, he2, -, hgb, -, -, hcz, -⟩
        · cases hz
        simp only [Value.slice.injEq, Option.some.injEq, Addr.mk.injEq, true_and] at he2
        obtain ⟨⟨rfl, -⟩, -, rfl⟩ := he2
        have hblk : ∃ o', (sortWorldK encC 4 w g 0 n' d' os).heap[g]? = some o' ∧ ∃ cs', o' = .cells cs' 38 (0, 0) ∧ cs'.size = cur.size := by
          show ∃ o', (w.heap.modify g _ ++ os)[g]? = some o' ∧ _
          rw [Array.getElem?_append_left (by rw [Array.size_modify]; omega), Array.getElem?_modify, if_pos rfl, hgb]
          exact ⟨_, rfl, _, rfl, by simp [Go.Sort.putCells]⟩
        obtain ⟨_, hcs', cs', rfl, hcz'⟩ := hblk
        rw [← hlen]
        refine owns_of_row hcs' (by rw [hcz', hcz]; rfl) hbg (by rw [hlen]; omega) hcm (fun i hi => ?_) (fun s hs => h5 s (hperm.mem_iff.1 hs))
        have hi' : i < d'.size := by simpa using hi
        have a := (hk.cell (i := i) (c := 0) hi' (by omega)).1
        have b := (hk.cell (i := i) (c := 1) hi' (by omega)).1
        have c := (hk.cell (i := i) (c := 2) hi' (by omega)).1
        have d := (hk.cell (i := i) (c := 3) hi' (by omega)).1
        simp [hi', encC, blk_cell hcs'] at a b c d
        simp only [Array.getElem_toList]
        exact ⟨a, b, c, d⟩
set_option maxRecDepth 10000 in
set_option maxHeartbeats 1000000 in
theorem SortedFunc47O (Bm N : Nat) (Q : List C4o → Prop) (w : World) (hN : N ≤ 1000000)
    (hst : SeqStopsK Fence.wide (9 - 1) Try.prog 70 #[.pointer (some ⟨Bm, 0, none⟩)] (fun x : C4o => #[x.1.v]) KeepsWalks (fun ss => Q ss ∧ ss.length ≤ N) (fun _ => True) N (w.alloc (.cells #[.slice none 0 0] 23))) :
    Calls Try.prog 55 #[.func (.func 70) #[] #[.pointer (some ⟨Bm, 0, none⟩)], .func (.func 40) #[] #[]] w fun e w' =>
      ∃ v, ∃ ss : List C4o, ∃ ys : List C4, e = .returned v ∧ (Q ss ∧ ss.length ≤ N) ∧ (ys.Perm (ss.map (·.1)) ∧ ys.Pairwise fun x y => ¬ ltC y x) ∧ Owns cellT 38 w.heap.size (fun _ => False) w' v (ys.map C4.d) ∧ Below w.heap.size w w' := by
  have H := Lib.hid (Collect47 Bm N Q w hN hst)
  clear hst
  go_enter Try.func55, Try.ntmps55
  go_wp2_with (go_at_call 69; refine H.out.mono ?_; rintro e w1 ⟨v, ss, rfl, hS, hO, hB⟩; have HS := Lib.hid hS; have HO := Lib.hid hO; have HB := Lib.hid hB; clear hS hO; obtain ⟨av, lv, capv, rfl, hl, hcv, -⟩ := HO.out.slice; have HL := Lib.hid hl; clear hl)
  rw [show (ss.map fun x => x.1.d) = (ss.map (·.1)).map C4.d by simp] at HO
  refine (sortCellsO (base := w.heap.size) w1 _ (ss.map (·.1)) HO.out hB.size (by rw [List.length_map]; exact Nat.le_trans HS.out.2 hN)).mono ?_
  rintro e w2 ⟨rfl, ys, hp, hw, hK, hB2⟩
  have HK := Lib.hid hK
  have HP := Lib.hid hp
  have HW := Lib.hid hw
  clear hK hp hw
  go_wp2
  go_ret
  exact ⟨_, ss, ys, rfl, HS.out, ⟨HP.out, HW.out⟩, HK.out, HB.out.trans hB2⟩
def OrdPO (p : C4 → Bool) (m : Nat) (w : World) (e : Ending) (w' : World) : Prop :=
  ∃ v ys, e = .returned v ∧ Srt ys ∧ (∀ x ∈ ys, x.ok) ∧ (∀ x : C4, x.ok → (x ∈ ys ↔ p x = true)) ∧ ys.length ≤ m ∧ Owns cellT 38 w.heap.size (fun _ => False) w' v (ys.map C4.d) ∧ Below w.heap.size w w'
theorem ordered_core47O (b : Option Nat) (w : World) (N : Nat) (hN : N ≤ 1000000) (Q : List C4o → Prop) (p : C4 → Bool) (m : Nat)
    (hst : SeqStopsK Fence.wide (9 - 1) Try.prog 70 #[.pointer (some ⟨w.heap.size, 0, none⟩)] (fun x : C4o => #[x.1.v]) KeepsWalks (fun ss => Q ss ∧ ss.length ≤ N) (fun _ => True) N ((w.alloc (.cells #[.map b] 57)).alloc (.cells #[.slice none 0 0] 23)))
    (hQ : ∀ ss, Q ss ∧ ss.length ≤ N → ss.Nodup ∧ (∀ x : C4o, x ∈ ss ↔ p x.1 = true) ∧ ss.length ≤ m) :
    Calls Try.prog 35 #[.map b] w (OrdPO p m w) := by
  have hB0 : Below w.heap.size w (w.alloc (.cells #[.map b] 57)) := (Below.refl _ w).alloc (Nat.le_refl _) _
  have HB0 := Lib.hid hB0
  have HS := Lib.hid (SortedFunc47O w.heap.size N Q (w.alloc (.cells #[.map b] 57)) hN hst)
  have HQ := Lib.hid hQ
  clear hB0 hst hQ
  go_enter Try.func35, Try.ntmps35
  go_wp2_with fail
  refine (Keys47 _ _).mono ?_
  rintro e w1 ⟨rfl, rfl⟩
  go_wp2_with fail
  refine HS.out.mono ?_
  rintro e w2 ⟨v, ss, ys, rfl, hq, ⟨hp, hw⟩, hK, hB2⟩
  have HK := Lib.hid hK
  have HB2 := Lib.hid hB2
  have HP := Lib.hid hp
  have HW := Lib.hid hw
  have HX := Lib.hid (HQ.out ss hq)
  obtain ⟨a, lq, c, rfl, -⟩ := hK.slice
  clear hK hp hB2 hw hq
  go_wp2_with fail
  go_ret
  obtain ⟨h1, h2, h3⟩ := HX.out
  have hn : (ss.map (·.1)).Nodup := by
    unfold List.Nodup
    rw [List.pairwise_map]
    exact h1.imp fun {a b} h e => h (Subtype.ext e)
  have hm : ∀ x, x ∈ ys ↔ ∃ h : x.ok, (⟨x, h⟩ : C4o) ∈ ss := fun x => by
    rw [HP.out.mem_iff, List.mem_map]
    constructor
    · rintro ⟨y, hy, rfl⟩
      exact ⟨y.2, hy⟩
    · rintro ⟨h, hx⟩
      exact ⟨_, hx, rfl⟩
  exact ⟨_, ys, rfl, srt_of_nodup (HP.out.nodup_iff.2 hn) HW.out, fun x hx => ((hm x).1 hx).1, fun x hx => by rw [hm x]; exact ⟨fun ⟨_, h⟩ => (h2 _).1 h, fun h => ⟨hx, (h2 ⟨x, hx⟩).2 h⟩⟩, by rw [HP.out.length_eq, List.length_map]; exact h3, HK.out.base (by simp), HB0.out.trans (HB2.out.mono (by simp))⟩
set_option maxRecDepth 10000 in
theorem ordered47O (w : World) (b m : Nat) (f : C4 → Option Bool) (hM : MapG cellK boolE w b m f) (hm : m ≤ 1000000) :
    Calls Try.prog 35 #[.map (some b)] w (OrdPO (fun x => (f x).isSome) m w) := by
  obtain ⟨D, hD, hs, hf⟩ := hM
  have hBB : Below w.heap.size w ((w.alloc (.cells #[.map (some b)] 57)).alloc (.cells #[.slice none 0 0] 23)) := ((Below.refl _ w).alloc (Nat.le_refl _) _).alloc (by simp) _
  have hown : ((w.alloc (.cells #[.map (some b)] 57)).alloc (.cells #[.slice none 0 0] 23)).ownsMap Try.prog 38 (plainElem Try.prog 4) b m D := by
    have hbl := hD.lt
    obtain ⟨es, clock, hb, r⟩ := hD
    exact ⟨es, clock, (hBB.block b hbl).trans hb, r⟩
  refine ordered_core47O (some b) w m hm (fun ss => ss.Nodup ∧ ∀ x : C4o, x ∈ ss ↔ Maps.has D x.1.l = true) _ m ?_ ?_
  · rw [← hs]
    exact keys47_stops (9 - 1) (by omega) w.heap.size b m D _ (((Below.refl _ _).alloc (Nat.le_refl _) _).cell (p := ⟨w.heap.size, 0, none⟩) (by simp) |>.trans (blk_cell (heap_alloc_new w (.cells #[.map (some b)] 57)) 0)) hown
  · rintro ss ⟨⟨h1, h2⟩, h3⟩
    exact ⟨h1, fun x => by rw [h2 x, ← (hf x.1 x.2).1]; exact Iff.rfl, h3⟩
def CellsPO (w : World) (N : Nat) (rd : C4 → Option (List C4)) (e : Ending) (w' : World) : Prop :=
  ∃ v ys, e = .returned v ∧ Srt ys ∧ (∀ x ∈ ys, x.ok) ∧ (∀ x : C4, x.ok → (x ∈ ys ↔ (rd x).isSome = true ∨ ∃ y, rsOf rd x y = true)) ∧ ys.length ≤ N ∧ Owns cellT 38 w.heap.size (fun _ => False) w' v (ys.map C4.d) ∧ Below w.heap.size w w'
set_option maxRecDepth 20000 in
set_option maxHeartbeats 2000000 in
theorem cells47O {F : Nat → Nat} (w : World) {p mr ms n K : Nat} {rd : C4 → Option (List C4)} (h : DepI F w p mr ms n K rd) (hK : n + K ≤ 1000000) :
    Calls Try.prog 16 #[.pointer (some ⟨p, 0, none⟩)] w (CellsPO w (n + K) rd) := by
  obtain ⟨k, sl, ib, hD, hne⟩ := h
  have hmm := fun w => @run_makeMap Try.prog w
  have HNN := Lib.hid hK
  have HD := Lib.hid hD
  have HNE := Lib.hid hne
  have hB1 := (Below.refl w.heap.size w).alloc (Nat.le_refl _) (.map #[] 0)
  have hD1 := hD.below hB1
  have HB1 := Lib.hid hB1
  have HD1 := Lib.hid hD1
  have HLTm := Lib.hid (show mr < w.heap.size ∧ ms < w.heap.size from ⟨hD.dom _ (by rw [hD.fr]; decide), hD.dom _ (by rw [hD.fs]; decide)⟩)
  have HM1 := Lib.hid (MapG.made (Ks := cellK) (Es := boolE) w)
  have y0 := blk_cell hD1.row 0
  simp only [List.getElem?_toArray, List.getElem?_cons_zero, List.getElem?_cons_succ] at y0
  have HSZ1 := Lib.hid (show (w.alloc (.map #[] 0)).heap.size = w.heap.size + 1 from by simp)
  clear hD hne hB1 hD1 hK
  go_enter Try.func16, Try.ntmps16
  go_upto_region 4 with fail
  generalize w.alloc (.map #[] 0) = w1 at *
  go_wp2_with (at_range; go_must (refine wpList_rangeG (Ks := cellK) (Es := slE) rfl _ rfl Try.underlying59 rfl HD1.out.mapr ?_); intro w2 hrg0 hg0 hs0)
  go_frame
  have HB2 := Lib.hid (show Below w.heap.size w w2 from HB1.out.grown hg0 (HB1.out.size) (fun c hc => by cases hc))
  have HM2 := Lib.hid (show MapG cellK boolE w2 w.heap.size 0 (setF (fun x => false || ((sl x).isSome && !(sl x).isSome))) from (HM1.out.gr (Gr.of_grown hg0) (fun e => by cases e)).congr (fun x _ => setF_start (fun _ => false) sl x))
  have HRG := Lib.hid hrg0
  obtain ⟨r1, hr1⟩ : ∃ r1, w1.heap.size = r1 := ⟨_, rfl⟩
  rw [hr1] at HRG
  rw [hr1]
  have hsz1 : w.heap.size < r1 := by have := HSZ1.out; omega
  clear hrg0 hg0 hs0 y0 hr1
  go_loopw [4] (fun _ wr => ∃ (left : C4 → Bool) (cnt m0 : Nat), RgG cellK slE wr mr r1 n sl left cnt ∧ MapG cellK boolE wr w.heap.size m0 (setF (fun x => false || ((sl x).isSome && !left x))) ∧ m0 + cnt ≤ n ∧ Below w.heap.size w wr) (fun _ wr => wr.rangeLeft mr r1)
  case atStart => exact ⟨_, _, 0, HRG.out, HM2.out, by omega, HB2.out⟩
  obtain ⟨left, cnt, m0, hrg, hmr, hcn, hBr⟩ := hrel
  have HRGr := Lib.hid hrg
  have HMr := Lib.hid hmr
  have HCN := Lib.hid hcn
  have HBr := Lib.hid hBr
  clear hrg hmr hcn hBr HRG HM2 HB2
  go_wp2_with (first | (at_next; go_must (refine wpList_nextG rfl _ rfl rfl HRGr.out keyOf_inv47 (fun x y => C4.v_inj) slE_v ?_ ?_)) | go_in)
  · intro hl0
    have HMs := Lib.hid (HMr.out.congr (g := setF (fun x => (sl x).isSome)) (fun x hx => setF_eq (by
      show (sl x).isSome = (false || ((sl x).isSome && !left x))
      rw [hl0 x hx]; cases (sl x).isSome <;> rfl)))
    have HMl := Lib.hid (show m0 ≤ n from by have := HCN.out; omega)
    have HDr := Lib.hid (HD.out.below HBr.out)
    have y1 := blk_cell HDr.out.row 1
    simp only [List.getElem?_toArray, List.getElem?_cons_zero, List.getElem?_cons_succ] at y1
    have hszr : w.heap.size + 1 < wr.heap.size := by have := HRGr.out.lt; omega
    clear hl0
    go_wp2_with (at_range; go_must (refine wpList_rangeG (Ks := cellK) (Es := mapE) rfl _ rfl Try.underlying60 rfl HDr.out.maps ?_); intro w5 hrg0 hg0 hs0)
    go_frame
    have HB5 := Lib.hid (show Below w.heap.size w w5 from HBr.out.grown hg0 (HBr.out.size) (fun c hc => by cases hc))
    have HM5 := Lib.hid (show MapG cellK boolE w5 w.heap.size m0 (setF (fun x => (sl x).isSome || ((Option.map some (ib x)).isSome && !(Option.map some (ib x)).isSome))) from (HMs.out.gr (Gr.of_grown hg0) (fun e => by cases e)).congr (fun x _ => setF_start (fun x => (sl x).isSome) (fun d => Option.map some (ib d)) x))
    have HRG := Lib.hid hrg0
    obtain ⟨rb, hrb⟩ : ∃ rb, wr.heap.size = rb := ⟨_, rfl⟩
    rw [hrb] at HRG hszr
    rw [hrb]
    have HNk := Lib.hid (show n + k ≤ 1000000 from by have := HNN.out; have := HD.out.hk; omega)
    have HNN := HNk
    clear hrg0 hg0 hs0 y1 hrb HMs HMr HCN HRGr HDr
    obtain ⟨m5, hm5⟩ : ∃ m5, m0 = m5 := ⟨_, rfl⟩
    rw [hm5] at HM5 HMl
    clear hm5 HBr
    go_loopw [5] (fun _ wr => ∃ (left : C4 → Bool) (cnt m0 : Nat), RgG cellK mapE wr ms rb k (fun d => Option.map some (ib d)) left cnt ∧ MapG cellK boolE wr w.heap.size m0 (setF (fun x => (sl x).isSome || ((Option.map some (ib x)).isSome && !left x))) ∧ m0 + cnt ≤ n + k ∧ Below w.heap.size w wr) (fun _ wr => wr.rangeLeft ms rb)
    case atStart => exact ⟨_, _, m5, HRG.out, HM5.out, by have := HMl.out; omega, HB5.out⟩
    obtain ⟨left, cnt, m0, hrg, hmr, hcn, hBr⟩ := hrel
    have HRGr := Lib.hid hrg
    have HMr := Lib.hid hmr
    have HCN := Lib.hid hcn
    have HBr := Lib.hid hBr
    clear hrg hmr hcn hBr HRG HM5 HB5
    go_wp2_with (first | (at_next; go_must (refine wpList_nextG rfl _ rfl rfl HRGr.out keyOf_inv47 (fun x y => C4.v_inj) mapE_v ?_ ?_)) | go_in)
    · intro hl0
      have HMs := Lib.hid (HMr.out.congr (g := setF (fun x => (sl x).isSome || (ib x).isSome)) (fun x hx => setF_eq (by
        show ((sl x).isSome || (ib x).isSome) = ((sl x).isSome || ((Option.map some (ib x)).isSome && !left x))
        rw [hl0 x hx]; cases (sl x).isSome <;> cases ib x <;> rfl)))
      have HO := Lib.hid (ordered47O wr w.heap.size m0 _ HMs.out (by have := HCN.out; have := HNN.out; omega))
      clear hl0
      go_wp2_with fail
      refine HO.out.mono ?_
      rintro e w9 ⟨v, ys, rfl, h2, h3, h4, h5, h6, h7⟩
      obtain ⟨va, vl, vc, rfl, -⟩ := h6.slice
      have HZ := Lib.hid (And.intro h2 (And.intro h3 (And.intro h4 (And.intro h5 (And.intro h6 h7)))))
      clear h2 h3 h4 h5 h6 h7
      go_wp2_with fail
      go_ret
      obtain ⟨h2, h3, h4, h5, h6, h7⟩ := HZ.out
      refine ⟨_, ys, rfl, h2, h3, fun x hx => ?_, ?_, h6.base HBr.out.size, below_step HBr.out h7⟩
      · rw [h4 x hx]
        rw [setF_isSome, ← HD.out.som x]
        cases hs : (sl x).isSome with
        | true => simp
        | false =>
          cases hi : (ib x).isSome with
          | true => simp [HNE.out x hi]
          | false =>
            simp
            intro y
            cases hy : rsOf rd x y with
            | false => rfl
            | true =>
              have := (HD.out.okr x y hy).1
              rw [hi] at this
              cases this
      · have := HCN.out; have := HD.out.hk; omega
    · intro x c wx cnt2 hok fa hfa hfc hleft hrg2 hlt hg2 hs2 hen
      have hfx : Option.map some (ib x) = some c := by rw [hfa, ← hfc]; rfl
      clear hfa hfc
      obtain ⟨x1, x2, x3, x4⟩ := x
      simp only [cellK, slE, mapE] at hen ⊢
      unfold C4.v at hen ⊢
      simp only at hen ⊢
      have hBr2 : Below w.heap.size w wx := HBr.out.grown hg2 HBr.out.size (fun c hc => by have := Option.some.inj hc; have := hszr; omega)
      have hm2 : MapG cellK boolE wx w.heap.size m0 _ := HMr.out.gr (Gr.of_grown hg2) (fun e => by have := Option.some.inj e; have := hszr; omega)
      have hBa := (Below.refl wx.heap.size wx).alloc (Nat.le_refl _) (.cells #[.int .i64 x1, .int .i64 x2, .int .i64 x3, .int .i64 x4] 38)
      have hqb := heap_alloc_new wx (.cells #[.int .i64 x1, .int .i64 x2, .int .i64 x3, .int .i64 x4] 38)
      have hm3 := hm2.below hBa
      have hrg3 := hrg2.below hBa
      have HBr3 := Lib.hid (below_step hBr2 hBa)
      have HM3 := Lib.hid hm3
      have HRG3 := Lib.hid hrg3
      have HX := Lib.hid hok
      have HFX := Lib.hid hfx
      have HLT := Lib.hid hlt
      have k0 := blk_cell hqb 0
      have k1 := blk_cell hqb 1
      have k2 := blk_cell hqb 2
      have k3 := blk_cell hqb 3
      simp only [List.getElem?_toArray, List.getElem?_cons_zero, List.getElem?_cons_succ] at k0 k1 k2 k3
      clear hBr2 hm2 hBa hm3 hrg3 hrg2 hg2 hlt hok hfx hqb hleft hs2
      go_upto_region 11 with fail
      generalize World.alloc _ _ = wa at *
      obtain ⟨wb, hrun, hM4, hT⟩ := HM3.out.store Try.underlying57 (by have := HCN.out; have := HNN.out; simp [maxLen]; omega) ⟨x1, x2, x3, x4⟩ HX.out true trivial
      change Sem.run Try.prog (Instr.mapUpdate 57 (.map (some w.heap.size)) (.agg #[.int .i64 x1, .int .i64 x2, .int .i64 x3, .int .i64 x4]) (.bool true)) wa = _ at hrun
      have HRG4 := Lib.hid (HRG3.out.gr (Gr.of_turned hT) (fun e => by have := HLTm.out; omega) (fun e => by have := hszr; omega))
      have HB4 := Lib.hid (HBr3.out.trans ((Gr.of_turned hT).below (fun b e => by omega) (HBr3.out.size)))
      have HM4 := Lib.hid (hM4.congr (fun y _ => setF_step _ _ left ⟨x1, x2, x3, x4⟩ _ HFX.out y))
      clear hT hM4
      go_wp2_with fail
      go_roundw
      case rel =>
        refine ⟨_, cnt2, _, HRG4.out, HM4.out, ?_, HB4.out⟩
        have := HLT.out
        have := HCN.out
        split <;> omega
      case measure => rw [HRG4.out.left_eq, HRGr.out.left_eq]; exact HLT.out
  · intro x c wx cnt2 hok hfx hleft hrg2 hlt hg2 hs2 hen
    obtain ⟨x1, x2, x3, x4⟩ := x
    simp only [cellK, slE, mapE] at hen ⊢
    unfold C4.v at hen ⊢
    simp only at hen ⊢
    have hBr2 : Below w.heap.size w wx := HBr.out.grown hg2 HBr.out.size (fun c hc => by have := Option.some.inj hc; have := hsz1; omega)
    have hm2 : MapG cellK boolE wx w.heap.size m0 _ := HMr.out.gr (Gr.of_grown hg2) (fun e => by have := Option.some.inj e; have := hsz1; omega)
    have hBa := (Below.refl wx.heap.size wx).alloc (Nat.le_refl _) (.cells #[.int .i64 x1, .int .i64 x2, .int .i64 x3, .int .i64 x4] 38)
    have hqb := heap_alloc_new wx (.cells #[.int .i64 x1, .int .i64 x2, .int .i64 x3, .int .i64 x4] 38)
    have hm3 := hm2.below hBa
    have hrg3 := hrg2.below hBa
    have HBr3 := Lib.hid (below_step hBr2 hBa)
    have HM3 := Lib.hid hm3
    have HRG3 := Lib.hid hrg3
    have HX := Lib.hid hok
    have HFX := Lib.hid hfx
    have HLT := Lib.hid hlt
    have k0 := blk_cell hqb 0
    have k1 := blk_cell hqb 1
    have k2 := blk_cell hqb 2
    have k3 := blk_cell hqb 3
    simp only [List.getElem?_toArray, List.getElem?_cons_zero, List.getElem?_cons_succ] at k0 k1 k2 k3
    clear hBr2 hm2 hBa hm3 hrg3 hrg2 hg2 hlt hok hfx hqb hleft hs2
    go_upto_region 7 with fail
    generalize World.alloc _ _ = wa at *
    obtain ⟨wb, hrun, hM4, hT⟩ := HM3.out.store Try.underlying57 (by have := HCN.out; have := HNN.out; simp [maxLen]; omega) ⟨x1, x2, x3, x4⟩ HX.out true trivial
    change Sem.run Try.prog (Instr.mapUpdate 57 (.map (some w.heap.size)) (.agg #[.int .i64 x1, .int .i64 x2, .int .i64 x3, .int .i64 x4]) (.bool true)) wa = _ at hrun
    have HRG4 := Lib.hid (HRG3.out.gr (Gr.of_turned hT) (fun e => by have := HLTm.out; omega) (fun e => by have := hsz1; omega))
    have HB4 := Lib.hid (HBr3.out.trans ((Gr.of_turned hT).below (fun b e => by omega) (HBr3.out.size)))
    have HM4 := Lib.hid (hM4.congr (fun y _ => setF_step _ _ left ⟨x1, x2, x3, x4⟩ _ HFX.out y))
    clear hT hM4
    go_wp2_with fail
    go_roundw
    case rel =>
      refine ⟨_, cnt2, _, HRG4.out, HM4.out, ?_, HB4.out⟩
      have := HLT.out
      have := HCN.out
      split <;> omega
    case measure => rw [HRG4.out.left_eq, HRGr.out.left_eq]; exact HLT.out
end Go.Proofs.Ytoimbhdjhhmonaa

/- Layer 47: DepsReaches. -/
set_option linter.unusedSimpArgs false
set_option maxRecDepth 50000
namespace Go.Proofs.Ytoimbhdjhhmonaa
open Go.RowKit Go

end Go.Proofs.Ytoimbhdjhhmonaa
