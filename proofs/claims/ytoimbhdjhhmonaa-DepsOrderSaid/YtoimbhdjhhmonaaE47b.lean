/- Layer 47: the reference's Affected. -/
import Derived.Test.YtoimbhdjhhmonaaP47d
set_option linter.unusedSimpArgs false
set_option maxRecDepth 50000
namespace Go.Proofs.Ytoimbhdjhhmonaa
open Go.RowKit Go

def RAffP (w : World) (G : List En4) (l : List C4) (e : Ending) (w' : World) : Prop :=
  ∃ v ys, e = .returned v ∧ Srt ys ∧ (∀ x : C4, x ∈ ys ↔ ∃ c ∈ l, Rch (rsOf (lkG G)) c x) ∧ SlC w.heap.size w' v ys ∧ Below w.heap.size w w'
set_option maxHeartbeats 4000000 in
theorem raffected47 {S T : Nat → Prop} {m : Nat} (w : World) (a : Option Addr) (cap : Nat) (G : List En4) (hx : Rd (.sl entT) S w [.slice a G.length cap] (G.map entD)) (hS : ∀ b, S b → b < w.heap.size) (hG : GI m G) (hlen : G.length ≤ 1000)
    (la : Option Addr) (lcap : Nat) (l : List C4) (hy : Rd (.sl cellT) T w [.slice la l.length lcap] (l.map C4.d)) (hT : ∀ b, T b → b < w.heap.size) :
    Calls Try.prog 14 #[.slice a G.length cap, .slice la l.length lcap] w (RAffP w G l) := by
  have HX := Lib.hid hx
  have HS := Lib.hid hS
  have HY := Lib.hid hy
  have HT := Lib.hid hT
  have HGI := Lib.hid hG
  have hgm : G.length ≤ 1000 := hlen
  have HR30 := Lib.hid (fun k (hk : k < G.length) => hG.len _ (List.getElem_mem hk))
  clear hx hS hy hT hG hlen
  go_enter Try.func14, Try.ntmps14
  go_wp2_with fail
  go_loopw [5, 6] (fun ov gv wr => ∃ (os : List C4) (oa : Option Addr) (oc : Nat) (g : Bool), ov = .slice oa os.length oc ∧ gv = .bool g ∧ AffI G l os ∧ (g = false → ∀ e ∈ G, AffC1 l os e) ∧ SlC w.heap.size wr (.slice oa os.length oc) os ∧ Below w.heap.size w wr) (fun ov gv _ => 2 * (G.length - lenV ov) + boolN gv)
  case atStart => exact ⟨[], none, 0, true, rfl, rfl, AffI.nil _ _, (fun h => by cases h), SlC.nil _ _, Below.refl _ _⟩
  obtain ⟨os0, oa0, oc0, g0, rfl, rfl, hI0, hC0, hO0, hB0⟩ := hrel
  have HI0 := Lib.hid hI0
  have HC0 := Lib.hid hC0
  have HO0 := Lib.hid hO0
  have HB0 := Lib.hid hB0
  clear hI0 hC0 hO0 hB0
  cases g0
  case false =>
    go_wp2_with fail
    go_ret
    exact ⟨_, os0, rfl, HI0.out.1, fun x => HI0.out.fin HGI.out (HC0.out (by first | rfl | trivial)) x, HO0.out, HB0.out⟩
  go_wp2_with fail
  go_loopw [5, 6, 7] (fun ov gv iv wr => ∃ (os : List C4) (oa : Option Addr) (oc : Nat) (g : Bool) (k : Nat), k ≤ G.length ∧ iv = .int .i64 k ∧ ov = .slice oa os.length oc ∧ gv = .bool g ∧ AffM G l os0 os g k ∧ SlC w.heap.size wr (.slice oa os.length oc) os ∧ Below w.heap.size w wr) (fun _ _ iv _ => G.length - (intOf iv).toNat)
  case atStart => exact ⟨os0, oa0, oc0, false, 0, Nat.zero_le _, rfl, rfl, rfl, AffM.start HI0.out, HO0.out, HB0.out⟩
  case round =>
    obtain ⟨os, oa, oc, g, k, hk, rfl, rfl, rfl, hM, hO, hB⟩ := hrel
    have HM := Lib.hid hM
    have HO := Lib.hid hO
    have HB := Lib.hid hB
    have HOL := Lib.hid (hM.inv.len HGI.out)
    clear hM hO
    by_cases hlt : k < G.length
    · have hkI : (k : Int) < (G.length : Int) := by omega
      obtain ⟨b, o, ra, rc, rfl, hbS, m0, m1, m2, m3, m4, hrr, hyo⟩ := ent_at HX.out k hlt
      have HPUT := Lib.hid (fun h1 h2 => HM.out.put HGI.out hlt h1 h2)
      have HSKIP := Lib.hid (fun h1 => HM.out.skip hlt h1)
      have hYL := HR30.out k hlt
      generalize G[k] = y at m0 m1 m2 m3 m4 hrr hyo HPUT HSKIP hYL
      obtain ⟨y, yl⟩ := y
      simp only at m0 m1 m2 m3 m4 hrr hyo HPUT HSKIP hYL
      have HYO := Lib.hid hyo
      have HRR := Lib.hid hrr
      obtain ⟨ob, hob⟩ : ∃ x, decide (y ∈ os) = x := ⟨_, rfl⟩
      have HOB := Lib.hid hob
      have HHA := Lib.hid (hob ▸ rhas47 wr oa oc os HO.out.rd (fun b h => h.2) y)
      have HPU := Lib.hid (fun W (hW : Below wr.heap.size wr W) => rput47 W oa oc os (HO.out.below hW).rd (fun b h => h.2) HM.out.inv.1 HO.out.ok (by have := HOL.out; omega) y HYO.out)
      obtain ⟨y1, y2, y3, y4⟩ := y
      unfold C4.v at HPU HHA
      simp only at m0 m1 m2 m3 m4 HPU HHA
      have HLT := Lib.hid hlt
      have hbl := HS.out b hbS
      have HCC := Lib.hid (show Cells [(⟨b, o + k * 5, none⟩, .int .i64 y1), (⟨b, o + k * 5 + 1, none⟩, .int .i64 y2), (⟨b, o + k * 5 + 2, none⟩, .int .i64 y3), (⟨b, o + k * 5 + 3, none⟩, .int .i64 y4), (⟨b, o + k * 5 + 4, none⟩, .slice ra yl.length rc)] w from ⟨m0, m1, m2, m3, m4, trivial⟩)
      have HCL := Lib.hid (show CellsLt w.heap.size [(⟨b, o + k * 5, none⟩, .int .i64 y1), (⟨b, o + k * 5 + 1, none⟩, .int .i64 y2), (⟨b, o + k * 5 + 2, none⟩, .int .i64 y3), (⟨b, o + k * 5 + 3, none⟩, .int .i64 y4), (⟨b, o + k * 5 + 4, none⟩, .slice ra yl.length rc)] from ⟨hbl, hbl, hbl, hbl, hbl, trivial⟩)
      clear m0 m1 m2 m3 m4 hlt hrr hyo hbl hbS hob
      obtain ⟨z0, z1, z2, z3, z4, -⟩ := Cells.belowN hB HCL.out HCC.out
      clear hB
      go_wp2_with fail
      refine HHA.out.mono ?_
      rintro e w2 ⟨rfl, hB2⟩
      have HB2 := Lib.hid (below_step HB.out hB2)
      have HBR2 := Lib.hid hB2
      have HO2 := Lib.hid (HO.out.below hB2)
      clear hB2 z0 z1 z2 z3 z4
      cases ob
      case true =>
        go_wp2_with fail
        go_roundw
        case rel => exact ⟨os, oa, oc, g, k + 1, HLT.out, by go_num, rfl, rfl, HSKIP.out (fun _ => of_decide_eq_true HOB.out), HO2.out, HB2.out⟩
        case measure => simp [intOf]; try omega
      go_wp2_with fail
      go_loopw [5, 6, 8] (fun ov gv qv w3 => ∃ q : Nat, q ≤ yl.length ∧ qv = .int .i64 q ∧ ov = .slice oa os.length oc ∧ gv = .bool g ∧ (∀ r ∈ yl.take q, r ∉ l ∧ r ∉ os) ∧ Below w2.heap.size w2 w3) (fun _ _ qv _ => yl.length - (intOf qv).toNat)
      case atStart => exact ⟨0, Nat.zero_le _, rfl, rfl, rfl, (fun r hr => by simp at hr), Below.refl _ _⟩
      case round =>
        obtain ⟨q, hq, rfl, rfl, rfl, hno, hB3⟩ := hrel
        have HNO := Lib.hid hno
        have HB3 := Lib.hid hB3
        have HBW3 := Lib.hid (below_step HB2.out hB3)
        obtain ⟨z0, z1, z2, z3, z4, -⟩ := Cells.belowN HBW3.out HCL.out HCC.out
        clear hno hB3
        by_cases hqt : q < yl.length
        · have hqI : (q : Int) < (yl.length : Int) := by omega
          obtain ⟨b2, o2, rfl, hb2S, u0, u1, u2, u3, -⟩ := cell_at HRR.out q hqt
          have hb2l := HS.out b2 hb2S
          have HTK := Lib.hid (List.take_succ_eq_append_getElem hqt)
          have HIN := Lib.hid (List.getElem_mem hqt)
          generalize yl[q] = u at u0 u1 u2 u3 HTK HIN
          obtain ⟨lb, hlb⟩ : ∃ x, decide (u ∈ l) = x := ⟨_, rfl⟩
          obtain ⟨ub, hub⟩ : ∃ x, decide (u ∈ os) = x := ⟨_, rfl⟩
          have HLB := Lib.hid hlb
          have HUB := Lib.hid hub
          have HH1 := Lib.hid (hlb ▸ rhas47 wr la lcap l (HY.out.below HBW3.out HT.out) (fun b hb => Nat.lt_of_lt_of_le (HT.out b hb) HBW3.out.size) u)
          have HH2 := Lib.hid (fun W (hW : Below wr.heap.size wr W) => hub ▸ rhas47 W oa oc os ((HO2.out.below HB3.out).below hW).rd (fun b h => h.2) u)
          obtain ⟨x1, x2, x3, x4⟩ := u
          unfold C4.v at HH1 HH2
          simp only at u0 u1 u2 u3 HH1 HH2
          have HUC := Lib.hid (show Cells [(⟨b2, o2 + q * 4, none⟩, .int .i64 x1), (⟨b2, o2 + q * 4 + 1, none⟩, .int .i64 x2), (⟨b2, o2 + q * 4 + 2, none⟩, .int .i64 x3), (⟨b2, o2 + q * 4 + 3, none⟩, .int .i64 x4)] w from ⟨u0, u1, u2, u3, trivial⟩)
          have HUL := Lib.hid (show CellsLt w.heap.size [(⟨b2, o2 + q * 4, none⟩, .int .i64 x1), (⟨b2, o2 + q * 4 + 1, none⟩, .int .i64 x2), (⟨b2, o2 + q * 4 + 2, none⟩, .int .i64 x3), (⟨b2, o2 + q * 4 + 3, none⟩, .int .i64 x4)] from ⟨hb2l, hb2l, hb2l, hb2l, trivial⟩)
          have HQT := Lib.hid hqt
          clear hlb hub hqt hb2S hb2l u0 u1 u2 u3
          obtain ⟨u0, u1, u2, u3, -⟩ := Cells.belowN HBW3.out HUL.out HUC.out
          go_wp2_with fail
          refine HH1.out.mono ?_
          rintro e w4 ⟨rfl, hB4⟩
          have HB4 := Lib.hid (below_step HB3.out hB4)
          have HBW4 := Lib.hid (below_step HBW3.out hB4)
          have HH24 := Lib.hid (HH2.out w4 hB4)
          clear hB4 z0 z1 z2 z3 z4 u0 u1 u2 u3
          obtain ⟨z0, z1, z2, z3, z4, -⟩ := Cells.belowN HBW4.out HCL.out HCC.out
          obtain ⟨u0, u1, u2, u3, -⟩ := Cells.belowN HBW4.out HUL.out HUC.out
          cases lb
          case true =>
            have HPU4 := Lib.hid (HPU.out w4 (below_step HBR2.out HB4.out))
            go_wp2_with fail
            refine HPU4.out.mono ?_
            rintro e w5 ⟨v, rfl, hS5, hB5⟩
            obtain ⟨va, vc, rfl⟩ := hS5.form
            have HS5 := Lib.hid (hS5.mono HBW4.out.size)
            have HB5 := Lib.hid (below_step HBW4.out hB5)
            clear hS5 hB5 z0 z1 z2 z3 z4 u0 u1 u2 u3
            go_wp2_with fail
            go_roundw
            case rel => exact ⟨_, va, vc, true, k + 1, HLT.out, by go_num, rfl, rfl, HPUT.out (of_decide_eq_false HOB.out) ⟨_, HIN.out, .inl (of_decide_eq_true HLB.out)⟩, HS5.out, HB5.out⟩
            case measure => simp [intOf]; try omega
          go_wp2_with fail
          refine HH24.out.mono ?_
          rintro e w5 ⟨rfl, hB5⟩
          have HB5 := Lib.hid (below_step HB4.out hB5)
          have HBW5 := Lib.hid (below_step HBW4.out hB5)
          clear hB5 z0 z1 z2 z3 z4 u0 u1 u2 u3
          cases ub
          case true =>
            obtain ⟨z0, z1, z2, z3, z4, -⟩ := Cells.belowN HBW5.out HCL.out HCC.out
            have HPU5 := Lib.hid (HPU.out w5 (below_step HBR2.out HB5.out))
            go_wp2_with fail
            refine HPU5.out.mono ?_
            rintro e w6 ⟨v, rfl, hS6, hB6⟩
            obtain ⟨va, vc, rfl⟩ := hS6.form
            have HS6 := Lib.hid (hS6.mono HBW5.out.size)
            have HB6 := Lib.hid (below_step HBW5.out hB6)
            clear hS6 hB6 z0 z1 z2 z3 z4
            go_wp2_with fail
            go_roundw
            case rel => exact ⟨_, va, vc, true, k + 1, HLT.out, by go_num, rfl, rfl, HPUT.out (of_decide_eq_false HOB.out) ⟨_, HIN.out, .inr (of_decide_eq_true HUB.out)⟩, HS6.out, HB6.out⟩
            case measure => simp [intOf]; try omega
          go_wp2_with fail
          go_roundw
          case rel =>
            refine ⟨q + 1, HQT.out, by go_num, rfl, rfl, fun r hr => ?_, HB5.out⟩
            rw [HTK.out, List.mem_append, List.mem_singleton] at hr
            rcases hr with hr | rfl
            · exact HNO.out r hr
            · exact ⟨of_decide_eq_false HLB.out, of_decide_eq_false HUB.out⟩
          case measure => simp [intOf]; try omega
        · obtain rfl : q = yl.length := by omega
          have hno := HNO.out
          rw [List.take_length] at hno
          have HNO2 := Lib.hid hno
          clear hno
          go_wp2_with fail
          clear z0 z1 z2 z3 z4
          go_roundw
          case rel => exact ⟨os, oa, oc, g, k + 1, HLT.out, by go_num, rfl, rfl, HSKIP.out (fun ⟨r, hr, hor⟩ => hor.elim (fun h => absurd h (HNO2.out r hr).1) (fun h => absurd h (HNO2.out r hr).2)), HO2.out.below HB3.out, HBW3.out⟩
          case measure => simp [intOf]; try omega
    · obtain rfl : k = G.length := by omega
      have HEND := Lib.hid HM.out.end_
      have HL0 := Lib.hid (HI0.out.len HGI.out)
      clear hB
      go_wp2_with fail
      go_roundw
      case rel => exact ⟨os, oa, oc, g, rfl, rfl, HM.out.inv, HEND.out, HO.out, HB.out⟩
      case measure =>
        have h1 := HOL.out
        have h2 := HL0.out
        have h3 := HM.out.le
        have h4 := HM.out.yes
        cases g
        · simp only [lenV, boolN]; omega
        · have h5 := h4 rfl
          simp only [lenV, boolN]; omega
end Go.Proofs.Ytoimbhdjhhmonaa

/- Layer 47: cell.Of. -/
set_option linter.unusedSimpArgs false
set_option maxRecDepth 50000
namespace Go.Proofs.Ytoimbhdjhhmonaa
open Go.RowKit Go

theorem results_cell_tmp1 {P : Program} {fn : Func} {p : Tmp} {ty : TypeId} (h : fn.results = #[.cell p ty]) (tmps : Array Value) (w : World) (g : Nat) (te : TypeId) (cs : Array Value) (fr : Nat × Nat) (d : TypeDesc)
    (hp : tmps.getD p undef = .pointer (some ⟨g, 0, none⟩)) (hg : w.heap[g]? = some (.cells cs te fr))
    (hu : P.underlying ty = some d) (hd : (match d with | .struct _ | .array _ _ => true | _ => false) = true) (hi : (P.info? ty).map (·.size) = some cs.size) :
    (results fn tmps).run P w = .ok (.agg cs) w := by
  have hp' : tmps[p]?.getD undef = .pointer (some ⟨g, 0, none⟩) := by simpa using hp
  simp [results, h, hp', asAddr, run_loadVar_row w g te ty cs fr d hg hu hd hi]
def ofC (s e o p : Int) : C4 := ⟨s, if (knownB s && useE s) = true then e else -1, if (knownB s && useO s) = true then o else -1, if (knownB s && useP s) = true then p else -1⟩
set_option maxHeartbeats 1000000 in
theorem of47 (w : World) (s e o p : Int) (huo : (knownB s && useO s) = false) : Calls Try.prog 30 #[.int .i64 s, .int .i64 e, .int .i64 o, .int .i64 p] w fun r w' => r = .returned (ofC s e o p).v ∧ Below w.heap.size w w' := by
  obtain ⟨ue, hue⟩ : ∃ x, (knownB s && useE s) = x := ⟨_, rfl⟩
  obtain ⟨up, hup⟩ : ∃ x, (knownB s && useP s) = x := ⟨_, rfl⟩
  have HOF := Lib.hid (show ofC s e o p = ⟨s, if ue = true then e else -1, -1, if up = true then p else -1⟩ from by unfold ofC; rw [hue, huo, hup]; rfl)
  have hz := heap_alloc2_old w (.cells #[.int .i64 0, .int .i64 0, .int .i64 0, .int .i64 0] 38) (.cells #[.int .i64 s, .int .i64 (-1), .int .i64 (-1), .int .i64 (-1)] 38)
  have hr := heap_alloc2_new w (.cells #[.int .i64 0, .int .i64 0, .int .i64 0, .int .i64 0] 38) (.cells #[.int .i64 s, .int .i64 (-1), .int .i64 (-1), .int .i64 (-1)] 38)
  have hB := ((Below.refl w.heap.size w).alloc (Nat.le_refl _) (.cells #[.int .i64 0, .int .i64 0, .int .i64 0, .int .i64 0] 38)).alloc (by simp) (.cells #[.int .i64 s, .int .i64 (-1), .int .i64 (-1), .int .i64 (-1)] 38)
  have HU := Lib.hid (uses47 ((w.alloc (.cells #[.int .i64 0, .int .i64 0, .int .i64 0, .int .i64 0] 38)).alloc (.cells #[.int .i64 s, .int .i64 (-1), .int .i64 (-1), .int .i64 (-1)] 38)) s)
  rw [hue, huo, hup] at HU
  have HZ := Lib.hid hz
  have HR := Lib.hid hr
  have HB := Lib.hid hB
  clear hue huo hup hz hr hB
  go_enter Try.func30, Try.ntmps30
  go_wp2_with fail
  generalize World.alloc _ _ = w1 at *
  obtain ⟨g, hg⟩ : ∃ x, w.heap.size = x := ⟨_, rfl⟩
  have HGE := Lib.hid hg
  rw [hg] at HZ HR
  rw [hg]
  clear hg
  refine HU.out.mono ?_
  rintro r w2 ⟨rfl, hB2⟩
  have HZ := Lib.hid ((hB2.block _ (blk_lt HZ.out)).trans HZ.out)
  have HR := Lib.hid ((hB2.block _ (blk_lt HR.out)).trans HR.out)
  have HB := Lib.hid (below_step HB.out hB2)
  clear hB2
  cases ue
  · cases up
    · skip
      have n0 := blk_cell HR.out 0
      have n1 := blk_cell HR.out 1
      have n2 := blk_cell HR.out 2
      have n3 := blk_cell HR.out 3
      simp only [List.getElem?_toArray, List.getElem?_cons_zero, List.getElem?_cons_succ] at n0 n1 n2 n3
      have HSET := Lib.hid (setRow_heap _ _ _ #[.int .i64 s, .int .i64 (-1), .int .i64 (-1), .int .i64 (-1)] _ _ HZ.out)
      have HBS := Lib.hid (below_setRow HB.out (by have := HGE.out; omega) #[.int .i64 s, .int .i64 (-1), .int .i64 (-1), .int .i64 (-1)] (p := g))
      go_wp2_with (refine wpList_store_row rfl _ _ _ rfl g #[.int .i64 s, .int .i64 (-1), .int .i64 (-1), .int .i64 (-1)] rfl rfl 38 _ HZ.out (by kernel_rfl) (by rfl) (by simp [Value.oneCell']) ?_)
      refine bodyPost_ret (results_cell_tmp1 rfl _ _ g 38 _ (0, 0) _ rfl HSET.out Try.underlying38 rfl (by kernel_rfl)) rfl ?_
      exact ⟨by rw [HOF.out]; rfl, HBS.out⟩
    · skip
      have f0 := blk_cell HR.out 3
      have f1 := blk_frozen HR.out 3
      simp only [List.getElem?_toArray, List.getElem?_cons_zero, List.getElem?_cons_succ] at f0
      go_upto_region 9 with fail
      clear f0 f1
      have HR' := Lib.hid (show _ = some (Obj.cells #[.int .i64 s, .int .i64 (-1), .int .i64 (-1), .int .i64 p] 38 (0, 0)) from (blk_set (i := 3) HR.out (.int .i64 p)).trans (by rfl))
      have HG' := Lib.hid ((Gr.refl (fun b => b = g + 1) w2).setCell (p := ⟨g + 1, 3, none⟩) (.inl rfl) (.int .i64 p))
      generalize World.setCell w2 ⟨g + 1, 3, none⟩ (.int .i64 p) = w2' at HR' HG' ⊢
      have HZ := Lib.hid (blk_gr HG'.out HZ.out (by omega))
      have HB := Lib.hid (HB.out.trans (HG'.out.below (n := w.heap.size) (fun b e => by have := HGE.out; omega) HB.out.size))
      clear HG'
      have n0 := blk_cell HR'.out 0
      have n1 := blk_cell HR'.out 1
      have n2 := blk_cell HR'.out 2
      have n3 := blk_cell HR'.out 3
      simp only [List.getElem?_toArray, List.getElem?_cons_zero, List.getElem?_cons_succ] at n0 n1 n2 n3
      have HSET := Lib.hid (setRow_heap _ _ _ #[.int .i64 s, .int .i64 (-1), .int .i64 (-1), .int .i64 p] _ _ HZ.out)
      have HBS := Lib.hid (below_setRow HB.out (by have := HGE.out; omega) #[.int .i64 s, .int .i64 (-1), .int .i64 (-1), .int .i64 p] (p := g))
      go_wp2_with (refine wpList_store_row rfl _ _ _ rfl g #[.int .i64 s, .int .i64 (-1), .int .i64 (-1), .int .i64 p] rfl rfl 38 _ HZ.out (by kernel_rfl) (by rfl) (by simp [Value.oneCell']) ?_)
      refine bodyPost_ret (results_cell_tmp1 rfl _ _ g 38 _ (0, 0) _ rfl HSET.out Try.underlying38 rfl (by kernel_rfl)) rfl ?_
      exact ⟨by rw [HOF.out]; rfl, HBS.out⟩
  · cases up
    · skip
      have f0 := blk_cell HR.out 1
      have f1 := blk_frozen HR.out 1
      simp only [List.getElem?_toArray, List.getElem?_cons_zero, List.getElem?_cons_succ] at f0
      go_upto_region 5 with fail
      clear f0 f1
      have HR' := Lib.hid (show _ = some (Obj.cells #[.int .i64 s, .int .i64 e, .int .i64 (-1), .int .i64 (-1)] 38 (0, 0)) from (blk_set (i := 1) HR.out (.int .i64 e)).trans (by rfl))
      have HG' := Lib.hid ((Gr.refl (fun b => b = g + 1) w2).setCell (p := ⟨g + 1, 1, none⟩) (.inl rfl) (.int .i64 e))
      generalize World.setCell w2 ⟨g + 1, 1, none⟩ (.int .i64 e) = w2' at HR' HG' ⊢
      have HZ := Lib.hid (blk_gr HG'.out HZ.out (by omega))
      have HB := Lib.hid (HB.out.trans (HG'.out.below (n := w.heap.size) (fun b e => by have := HGE.out; omega) HB.out.size))
      clear HG'
      have n0 := blk_cell HR'.out 0
      have n1 := blk_cell HR'.out 1
      have n2 := blk_cell HR'.out 2
      have n3 := blk_cell HR'.out 3
      simp only [List.getElem?_toArray, List.getElem?_cons_zero, List.getElem?_cons_succ] at n0 n1 n2 n3
      have HSET := Lib.hid (setRow_heap _ _ _ #[.int .i64 s, .int .i64 e, .int .i64 (-1), .int .i64 (-1)] _ _ HZ.out)
      have HBS := Lib.hid (below_setRow HB.out (by have := HGE.out; omega) #[.int .i64 s, .int .i64 e, .int .i64 (-1), .int .i64 (-1)] (p := g))
      go_wp2_with (refine wpList_store_row rfl _ _ _ rfl g #[.int .i64 s, .int .i64 e, .int .i64 (-1), .int .i64 (-1)] rfl rfl 38 _ HZ.out (by kernel_rfl) (by rfl) (by simp [Value.oneCell']) ?_)
      refine bodyPost_ret (results_cell_tmp1 rfl _ _ g 38 _ (0, 0) _ rfl HSET.out Try.underlying38 rfl (by kernel_rfl)) rfl ?_
      exact ⟨by rw [HOF.out]; rfl, HBS.out⟩
    · skip
      have f0 := blk_cell HR.out 1
      have f1 := blk_frozen HR.out 1
      simp only [List.getElem?_toArray, List.getElem?_cons_zero, List.getElem?_cons_succ] at f0
      go_upto_region 5 with fail
      clear f0 f1
      have HR' := Lib.hid (show _ = some (Obj.cells #[.int .i64 s, .int .i64 e, .int .i64 (-1), .int .i64 (-1)] 38 (0, 0)) from (blk_set (i := 1) HR.out (.int .i64 e)).trans (by rfl))
      have HG' := Lib.hid ((Gr.refl (fun b => b = g + 1) w2).setCell (p := ⟨g + 1, 1, none⟩) (.inl rfl) (.int .i64 e))
      generalize World.setCell w2 ⟨g + 1, 1, none⟩ (.int .i64 e) = w2' at HR' HG' ⊢
      have HZ := Lib.hid (blk_gr HG'.out HZ.out (by omega))
      have HB := Lib.hid (HB.out.trans (HG'.out.below (n := w.heap.size) (fun b e => by have := HGE.out; omega) HB.out.size))
      clear HG'
      have f0 := blk_cell HR'.out 3
      have f1 := blk_frozen HR'.out 3
      simp only [List.getElem?_toArray, List.getElem?_cons_zero, List.getElem?_cons_succ] at f0
      go_upto_region 9 with fail
      clear f0 f1
      have HR'' := Lib.hid (show _ = some (Obj.cells #[.int .i64 s, .int .i64 e, .int .i64 (-1), .int .i64 p] 38 (0, 0)) from (blk_set (i := 3) HR'.out (.int .i64 p)).trans (by rfl))
      have HG' := Lib.hid ((Gr.refl (fun b => b = g + 1) w2').setCell (p := ⟨g + 1, 3, none⟩) (.inl rfl) (.int .i64 p))
      generalize World.setCell w2' ⟨g + 1, 3, none⟩ (.int .i64 p) = w2'' at HR'' HG' ⊢
      have HZ := Lib.hid (blk_gr HG'.out HZ.out (by omega))
      have HB := Lib.hid (HB.out.trans (HG'.out.below (n := w.heap.size) (fun b e => by have := HGE.out; omega) HB.out.size))
      clear HG'
      have n0 := blk_cell HR''.out 0
      have n1 := blk_cell HR''.out 1
      have n2 := blk_cell HR''.out 2
      have n3 := blk_cell HR''.out 3
      simp only [List.getElem?_toArray, List.getElem?_cons_zero, List.getElem?_cons_succ] at n0 n1 n2 n3
      have HSET := Lib.hid (setRow_heap _ _ _ #[.int .i64 s, .int .i64 e, .int .i64 (-1), .int .i64 p] _ _ HZ.out)
      have HBS := Lib.hid (below_setRow HB.out (by have := HGE.out; omega) #[.int .i64 s, .int .i64 e, .int .i64 (-1), .int .i64 p] (p := g))
      go_wp2_with (refine wpList_store_row rfl _ _ _ rfl g #[.int .i64 s, .int .i64 e, .int .i64 (-1), .int .i64 p] rfl rfl 38 _ HZ.out (by kernel_rfl) (by rfl) (by simp [Value.oneCell']) ?_)
      refine bodyPost_ret (results_cell_tmp1 rfl _ _ g 38 _ (0, 0) _ rfl HSET.out Try.underlying38 rfl (by kernel_rfl)) rfl ?_
      exact ⟨by rw [HOF.out]; rfl, HBS.out⟩
end Go.Proofs.Ytoimbhdjhhmonaa

/- Layer 47: the law's awake. -/
set_option linter.unusedSimpArgs false
set_option maxRecDepth 50000
namespace Go.Proofs.Ytoimbhdjhhmonaa
open Go.RowKit Go

abbrev cI : C4 := ⟨7, 0, -1, 1⟩
abbrev cR : C4 := ⟨2, -1, -1, -1⟩
abbrev cE : C4 := ⟨1, 0, -1, -1⟩
abbrev cT : C4 := ⟨22, -1, -1, 1⟩
abbrev exG : List En4 := [(cI, [cE, cR]), (cT, [cI])]
theorem exG1 : setR (fun _ => none) cI [cR, cE] = lkG [(cI, [cE, cR])] := by
  funext x
  have h := lkG_set [] cI [cR, cE] x
  rw [show setG [] cI [cR, cE] = [(cI, [cE, cR])] from by decide +kernel] at h
  rw [h]
  rfl
theorem exG2 : setR (lkG [(cI, [cE, cR])]) cT [cI] = lkG exG := by
  funext x
  rw [← lkG_set]
  rw [show setG [(cI, [cE, cR])] cT [cI] = exG from by decide +kernel]
theorem c4ok (a b c d : Int) (h1 : -1 ≤ a ∧ a ≤ 22) (h2 : -1 ≤ b ∧ b ≤ 22) (h3 : -1 ≤ c ∧ c ≤ 22) (h4 : -1 ≤ d ∧ d ≤ 22) : C4.ok ⟨a, b, c, d⟩ := by
  refine ⟨?_, ?_, ?_, ?_⟩ <;> simp [Lit.wf, IntKind.min, IntKind.max, IntKind.signed, IntKind.bits] <;> omega
theorem okI : C4.ok cI := c4ok _ _ _ _ (by omega) (by omega) (by omega) (by omega)
theorem okR : C4.ok cR := c4ok _ _ _ _ (by omega) (by omega) (by omega) (by omega)
theorem okE : C4.ok cE := c4ok _ _ _ _ (by omega) (by omega) (by omega) (by omega)
theorem okT : C4.ok cT := c4ok _ _ _ _ (by omega) (by omega) (by omega) (by omega)
theorem exGI : GI 2 exG := by
  refine ⟨by decide +kernel, fun e he => ?_, fun e he => ?_, fun e he x hx => ?_, fun e he => ?_, by decide⟩
  · simp at he
    rcases he with rfl | rfl
    · exact (by decide +kernel : Srt [cE, cR])
    · exact List.pairwise_singleton _ _
  · simp at he
    rcases he with rfl | rfl
    · exact okI
    · exact okT
  · simp at he
    rcases he with rfl | rfl
    · simp at hx
      rcases hx with rfl | rfl
      · exact okE
      · exact okR
    · simp at hx
      subst hx
      exact okI
  · simp at he
    rcases he with rfl | rfl <;> decide
theorem exAff (x : C4) : x ∈ [cI, cT] ↔ ∃ c ∈ [cR], Rch (rsOf (lkG exG)) c x := by
  have h1 : rsOf (lkG exG) cR cI = true := by decide +kernel
  have h2 : rsOf (lkG exG) cI cT = true := by decide +kernel
  refine AffI.fin exGI (l := [cR]) (os := [cI, cT]) ⟨by decide +kernel, fun x hx => ?_⟩ (fun e he => ?_) x
  · simp at hx
    rcases hx with rfl | rfl
    · exact ⟨by decide +kernel, cR, by simp, .one h1⟩
    · exact ⟨by decide +kernel, cR, by simp, .step (.one h1) h2⟩
  · intro _
    simp at he
    rcases he with rfl | rfl
    · simp
    · simp
theorem exCells : cellsG exG = [cE, cR, cI, cT] := by decide +kernel
theorem crow2 {w : World} {b : Nat} {x y : C4} (h : w.heap[b]? = some (.cells #[.int .i64 x.st, .int .i64 x.en, .int .i64 x.ot, .int .i64 x.pe, .int .i64 y.st, .int .i64 y.en, .int .i64 y.ot, .int .i64 y.pe] 38 (0, 0))) : CRow w b [x, y] := by
  refine ⟨_, h, fun i hi => ?_⟩
  match i, hi with
  | 0, _ => exact ⟨rfl, rfl, rfl, rfl⟩
  | 1, _ => exact ⟨rfl, rfl, rfl, rfl⟩
theorem crow1 {w : World} {b : Nat} {x : C4} (h : w.heap[b]? = some (.cells #[.int .i64 x.st, .int .i64 x.en, .int .i64 x.ot, .int .i64 x.pe] 38 (0, 0))) : CRow w b [x] := by
  refine ⟨_, h, fun i hi => ?_⟩
  match i, hi with
  | 0, _ => exact ⟨rfl, rfl, rfl, rfl⟩
theorem DepI.dom0 {F : Nat → Nat} {w : World} {p mr ms n K : Nat} {rd : C4 → Option (List C4)} (h : DepI F w p mr ms n K rd) {b : Nat} (hb : w.heap.size ≤ b) : F b = 0 := by
  obtain ⟨k, sl, ib, hD, -⟩ := h
  by_cases e : F b = 0
  · exact e
  · have := hD.dom b e; omega
theorem DepI.nodup {F : Nat → Nat} {w : World} {p mr ms n K m : Nat} {G : List En4} (_ : DepI F w p mr ms n K (lkG G)) (hG : GI m G) (c : C4) : ∀ l, lkG G c = some l → l.Nodup := fun l hl => (hG.srtL hl).nodup
set_option maxHeartbeats 4000000 in
theorem awake47 (w : World) : Calls Try.prog 9 #[] w fun e w' => e = .returned (.bool true) ∧ Below w.heap.size w w' := by
  have HOF := Lib.hid (fun W s e o p h => of47 W s e o p h)
  have HN := Lib.hid (new47 w)
  go_enter Try.func9, Try.ntmps9
  go_wp2_with fail
  refine HN.out.mono ?_
  rintro e w1 ⟨p, mr, ms, F, rfl, hB1, hI1, hF1⟩
  have HB := Lib.hid hB1
  have HI := Lib.hid hI1
  have HF := Lib.hid hF1
  clear hB1 hI1 hF1 HN
  have HC := Lib.hid (HOF.out w1 7 0 0 1 (by decide))
  rw [show ofC 7 0 0 1 = cI from by decide] at HC
  unfold C4.v at HC
  simp only at HC
  go_wp2_with fail
  refine HC.out.mono ?_
  rintro e w2 ⟨rfl, hB2⟩
  clear HC
  have HC := Lib.hid (HOF.out w2 2 0 0 0 (by decide))
  rw [show ofC 2 0 0 0 = cR from by decide] at HC
  unfold C4.v at HC
  simp only at HC
  have HB2 := Lib.hid hB2
  clear hB2
  go_wp2_with fail
  refine HC.out.mono ?_
  rintro e w3 ⟨rfl, hB3⟩
  have HB3 := Lib.hid (below_step HB2.out hB3)
  clear HC HB2 hB3
  go_upto_region 3 with fail
  have hz := heap_alloc2_old w3 (.cells #[.int .i64 7, .int .i64 0, .int .i64 (-1), .int .i64 1] 38) (.cells #[.int .i64 2, .int .i64 (-1), .int .i64 (-1), .int .i64 (-1)] 38)
  have hr := heap_alloc2_new w3 (.cells #[.int .i64 7, .int .i64 0, .int .i64 (-1), .int .i64 1] 38) (.cells #[.int .i64 2, .int .i64 (-1), .int .i64 (-1), .int .i64 (-1)] 38)
  have hb4 : Below w3.heap.size w3 ((w3.alloc (.cells #[.int .i64 7, .int .i64 0, .int .i64 (-1), .int .i64 1] 38)).alloc (.cells #[.int .i64 2, .int .i64 (-1), .int .i64 (-1), .int .i64 (-1)] 38)) := ((Below.refl w3.heap.size w3).alloc (Nat.le_refl _) _).alloc (by simp) _
  have HZ := Lib.hid hz
  have HR := Lib.hid hr
  have HB4 := Lib.hid (below_step HB3.out hb4)
  clear hz hr hb4
  generalize World.alloc _ _ = w4 at *
  obtain ⟨gb, hgb⟩ : ∃ x, w3.heap.size = x := ⟨_, rfl⟩
  have HGB := Lib.hid (show w1.heap.size ≤ gb from hgb ▸ HB3.out.size)
  rw [hgb] at HZ HR ⊢
  clear hgb HB3
  have HCE := Lib.hid (fun W => HOF.out W 1 0 0 0 (by decide))
  rw [show ofC 1 0 0 0 = cE from by decide] at HCE
  have HCT := Lib.hid (fun W => HOF.out W 22 0 0 1 (by decide))
  rw [show ofC 22 0 0 1 = cT from by decide] at HCT
  unfold C4.v at HCE HCT
  simp only at HCE HCT
  have hC0 : Cells [(⟨gb, 0, none⟩, .int .i64 7), (⟨gb, 1, none⟩, .int .i64 0), (⟨gb, 2, none⟩, .int .i64 (-1)), (⟨gb, 3, none⟩, .int .i64 1), (⟨gb + 1, 0, none⟩, .int .i64 2), (⟨gb + 1, 1, none⟩, .int .i64 (-1)), (⟨gb + 1, 2, none⟩, .int .i64 (-1)), (⟨gb + 1, 3, none⟩, .int .i64 (-1))] w4 := ⟨blk_cell HZ.out 0, blk_cell HZ.out 1, blk_cell HZ.out 2, blk_cell HZ.out 3, blk_cell HR.out 0, blk_cell HR.out 1, blk_cell HR.out 2, blk_cell HR.out 3, trivial⟩
  refine wp_region_T (Cells [(⟨gb, 0, none⟩, .int .i64 7), (⟨gb, 1, none⟩, .int .i64 0), (⟨gb, 2, none⟩, .int .i64 (-1)), (⟨gb, 3, none⟩, .int .i64 1), (⟨gb + 1, 0, none⟩, .int .i64 2), (⟨gb + 1, 1, none⟩, .int .i64 (-1)), (⟨gb + 1, 2, none⟩, .int .i64 (-1)), (⟨gb + 1, 3, none⟩, .int .i64 (-1))]) (fun i => i == 5) (by kernel_rfl) ?_
  have hSss1 := Cells.drew hC0
  have hB_0_s1 : Below w4.heap.size w4 w4.drew := below_drew _
  generalize w4.drew = s1 at hSss1 hB_0_s1 ⊢
  have hB_s1_s1 := Below.refl s1.heap.size s1
  refine wpAnyT_pure (i := 0) (v := ?_) rfl (by kernel_rfl) (by kernel_rfl) (by kernel_rfl) (fun _ _ _ h => h) (by rfl) ?_ ?_
  rotate_left
  · intro w; go_simp; try with_reducible rfl
  simp only [Act.put, rgA, rgB, rgC, rgD, rgE, rgF]
  refine wpAnyT_loadW (i := 1) (v := ?_) rfl (by kernel_rfl) (by kernel_rfl) (by kernel_rfl) (by kernel_rfl) (by kernel_rfl) (fun _ _ _ h => h) (Or.inl ⟨by rfl, ?_⟩) hSss1 ?_
  rotate_left
  · intro w hSw; obtain ⟨e0, e1, e2, e3, e4, e5, e6, e7, -⟩ := hSw; go_simp; try with_reducible rfl
  simp only [Act.put, rgA, rgB, rgC, rgD, rgE, rgF]
  refine wpAnyT_loadW (i := 2) (v := ?_) rfl (by kernel_rfl) (by kernel_rfl) (by kernel_rfl) (by kernel_rfl) (by kernel_rfl) (fun _ _ _ h => h) (Or.inl ⟨by rfl, ?_⟩) hSss1 ?_
  rotate_left
  · intro w hSw; obtain ⟨e0, e1, e2, e3, e4, e5, e6, e7, -⟩ := hSw; go_simp; try with_reducible rfl
  simp only [Act.put, rgA, rgB, rgC, rgD, rgE, rgF]
  refine wpAnyT_one (i := 3) (by kernel_rfl) rfl (by rfl) ?_
  refine wp_enter (f := 30) (args := #[.int .i64 1, .int .i64 0, .int .i64 0, .int .i64 0]) (by go_simp) (HCE.out s1) ?_
  rintro e w102 ⟨rfl, hX⟩
  have hB_s1_w102 := below_step hB_s1_s1 hX
  have hB_w102_w102 := Below.refl w102.heap.size w102
  have hSsw102 := Cells.below hB_s1_w102 hSss1
  clear hX
  refine ⟨_, rfl, fun _ _ => hSsw102, ?_⟩
  try simp only [Act.put, rgA, rgB, rgC, rgD, rgE, rgF]
  refine wpAnyT_one (i := 4) (by kernel_rfl) rfl (by rfl) ?_
  obtain ⟨b4, hb4⟩ : ∃ b, w102.heap.size = b := ⟨_, rfl⟩
  have hge4 : w4.heap.size ≤ b4 := hb4 ▸ (hB_0_s1.trans ((hB_s1_w102).mono hB_0_s1.size)).size
  refine wp_newrow (v := .slice (some ⟨b4, 0, none⟩) 2 2) (cs := #[.int .i64 2, .int .i64 (-1), .int .i64 (-1), .int .i64 (-1), .int .i64 1, .int .i64 0, .int .i64 (-1), .int .i64 (-1)]) (te := 38) (by rw [← hb4]; go_simp) ?_
  intro w103 hX hN4
  rw [hb4] at hN4
  have hB_s1_w103 := below_step hB_s1_w102 hX
  have hB_w102_w103 := below_step hB_w102_w102 hX
  have hB_w103_w103 := Below.refl w103.heap.size w103
  have hSsw103 := Cells.below hB_s1_w103 hSss1
  clear hX
  refine ⟨fun _ _ => hSsw103, ?_⟩
  try simp only [Act.put, rgA, rgB, rgC, rgD, rgE, rgF]
  refine wpAnyT_one (i := 5) (by kernel_rfl) rfl (by rfl) ?_
  have hbP : Below w4.heap.size w4 w103 := hB_0_s1.trans ((hB_s1_w103).mono hB_0_s1.size)
  have hq4 := ((hB_w103_w103).block _ (blk_lt hN4)).trans hN4
  have hbP1 := HB4.out.trans (hbP.mono HB4.out.size)
  have hip := HI.out.below hbP1
  have hst := set47 w103 hip cI (fun l h => by cases h) okI (by decide) (by decide) (some ⟨b4, 0, none⟩) 2 [cR, cE] ((crow2 (x := cR) (y := cE) hq4).rd (fun k hk => by simp at hk; rcases hk with rfl | rfl; exact okR; exact okE) 2 (by decide) (by decide)) (fun b e => ⟨by rw [e]; exact blk_lt hq4, HI.out.dom0 (by have := HB4.out.size; omega)⟩)
  have hcode : setCode ((fun _ => none : C4 → Option (List C4)) cI).isSome 0 cI [cR, cE] = 0 := by decide +kernel
  unfold SetP at hst
  rw [hcode] at hst
  unfold C4.v at hst
  simp only at hst
  refine wp_enter (f := 27) (args := #[.pointer (some ⟨p, 0, none⟩), .agg #[.int .i64 7, .int .i64 0, .int .i64 (-1), .int .i64 1], .slice (some ⟨b4, 0, none⟩) 2 2]) (by go_simp) hst ?_
  rintro e w104 ⟨rfl, -, h2⟩
  obtain ⟨hG5, F5, hF5, hI5⟩ := h2 (by first | rfl | trivial)
  rw [exG1] at hI5
  have HI5 := Lib.hid hI5
  have HF5 := Lib.hid (show ∀ b, b < w.heap.size → F5 b = 0 from fun b hb => by
    have h1 := HB.out.size
    have h2 := hbP1.size
    rw [hF5 b (by omega)]
    exact HF.out b hb)
  have HZ5 := Lib.hid (blk_gr hG5 ((hbP.block _ (blk_lt HZ.out)).trans HZ.out) (fun e => e (HI.out.dom0 HGB.out)))
  have HR5 := Lib.hid (blk_gr hG5 ((hbP.block _ (blk_lt HR.out)).trans HR.out) (fun e => e (HI.out.dom0 (by have := HGB.out; omega))))
  have HD5 := Lib.hid (show F5 gb = 0 ∧ F5 (gb + 1) = 0 from by
    have h1 := hbP.size
    have h2 := blk_lt HR.out
    exact ⟨(hF5 gb (by omega)).trans (HI.out.dom0 HGB.out), (hF5 (gb + 1) (by omega)).trans (HI.out.dom0 (by have := HGB.out; omega))⟩)
  have HB5 := Lib.hid (show Below w.heap.size w w104 from (HB.out.trans (hbP1.mono HB.out.size)).trans (hG5.below (fun b e => by
    by_cases hb : w.heap.size ≤ b
    · exact hb
    · exact absurd (HF.out b (by omega)) e) (HB.out.trans (hbP1.mono HB.out.size)).size))
  clear hbP hq4 hbP1 hip hst hcode h2 hG5 hF5 hI5
  refine ⟨_, rfl, fun h => absurd h (by decide), ?_⟩
  try simp only [Act.put, rgA, rgB, rgC, rgD, rgE, rgF]
  refine wpAnyT_pure (i := 6) (v := ?_) rfl (by kernel_rfl) (by kernel_rfl) (by kernel_rfl) (fun _ _ _ h => h) (by rfl) ?_ ?_
  rotate_left
  · intro w; go_simp; try with_reducible rfl
  simp only [Act.put, rgA, rgB, rgC, rgD, rgE, rgF]
  refine wpAnyT_done (by kernel_rfl) ?_ _
  obtain ⟨w5, rfl⟩ : ∃ x, x = w104 := ⟨_, rfl⟩
  clear hC0
  go_upto_region 4 with fail
  have hC1 : Cells [(⟨gb, 0, none⟩, .int .i64 7), (⟨gb, 1, none⟩, .int .i64 0), (⟨gb, 2, none⟩, .int .i64 (-1)), (⟨gb, 3, none⟩, .int .i64 1)] w5 := ⟨blk_cell HZ5.out 0, blk_cell HZ5.out 1, blk_cell HZ5.out 2, blk_cell HZ5.out 3, trivial⟩
  refine wp_cut [16, 17, 18, 19, 20, 5] (fun vs w6 => ∃ v16 v17 v18 v19 v20 F6, vs = [v16, v17, v18, v19, v20, .int .i64 0] ∧ DepI F6 w6 p mr ms (setM false (setM false 0)) (0 + 400 + 400) (lkG exG) ∧ (∀ b, b < w.heap.size → F6 b = 0) ∧ w6.heap[gb]? = some (.cells #[.int .i64 7, .int .i64 0, .int .i64 (-1), .int .i64 1] 38 (0, 0)) ∧ w6.heap[gb + 1]? = some (.cells #[.int .i64 2, .int .i64 (-1), .int .i64 (-1), .int .i64 (-1)] 38 (0, 0)) ∧ Below w.heap.size w w6) ?_ ?_
  · skip
    refine wp_region_T (Cells [(⟨gb, 0, none⟩, .int .i64 7), (⟨gb, 1, none⟩, .int .i64 0), (⟨gb, 2, none⟩, .int .i64 (-1)), (⟨gb, 3, none⟩, .int .i64 1)]) (fun i => i == 4) (by kernel_rfl) ?_
    have hSss5 := Cells.drew hC1
    have hB_0_s5 : Below w5.heap.size w5 w5.drew := below_drew _
    generalize w5.drew = s5 at hSss5 hB_0_s5 ⊢
    have hB_s5_s5 := Below.refl s5.heap.size s5
    refine wpAnyT_pure (i := 0) (v := ?_) rfl (by kernel_rfl) (by kernel_rfl) (by kernel_rfl) (fun _ _ _ h => h) (by rfl) ?_ ?_
    rotate_left
    · intro w; go_simp; try with_reducible rfl
    simp only [Act.put, rgA, rgB, rgC, rgD, rgE, rgF]
    refine wpAnyT_loadW (i := 2) (v := ?_) rfl (by kernel_rfl) (by kernel_rfl) (by kernel_rfl) (by kernel_rfl) (by kernel_rfl) (fun _ _ _ h => h) (Or.inl ⟨by rfl, ?_⟩) hSss5 ?_
    rotate_left
    · intro w hSw; obtain ⟨e0, e1, e2, e3, -⟩ := hSw; go_simp; try with_reducible rfl
    simp only [Act.put, rgA, rgB, rgC, rgD, rgE, rgF]
    refine wpAnyT_two (i := 1) (k := 3) (by kernel_rfl) rfl rfl (by rfl) (by rfl) ?_ ?_
    · skip
      refine wp_enter (f := 30) (args := #[.int .i64 22, .int .i64 0, .int .i64 0, .int .i64 1]) (by go_simp) (HCT.out s5) ?_
      rintro e w106 ⟨rfl, hX⟩
      have hB_s5_w106 := below_step hB_s5_s5 hX
      have hB_w106_w106 := Below.refl w106.heap.size w106
      have hSsw106 := Cells.below hB_s5_w106 hSss5
      clear hX
      refine ⟨_, rfl, fun _ _ => hSsw106, ?_⟩
      try simp only [Act.put, rgA, rgB, rgC, rgD, rgE, rgF]
      refine wpAnyT_one (i := 3) (by kernel_rfl) rfl (by rfl) ?_
      obtain ⟨b3, hb3⟩ : ∃ b, w106.heap.size = b := ⟨_, rfl⟩
      have hge3 : w5.heap.size ≤ b3 := hb3 ▸ (hB_0_s5.trans ((hB_s5_w106).mono hB_0_s5.size)).size
      refine wp_newrow (v := .slice (some ⟨b3, 0, none⟩) 1 1) (cs := #[.int .i64 7, .int .i64 0, .int .i64 (-1), .int .i64 1]) (te := 38) (by rw [← hb3]; go_simp) ?_
      intro w107 hX hN3
      rw [hb3] at hN3
      have hB_s5_w107 := below_step hB_s5_w106 hX
      have hB_w106_w107 := below_step hB_w106_w106 hX
      have hB_w107_w107 := Below.refl w107.heap.size w107
      have hSsw107 := Cells.below hB_s5_w107 hSss5
      clear hX
      refine ⟨fun _ _ => hSsw107, ?_⟩
      try simp only [Act.put, rgA, rgB, rgC, rgD, rgE, rgF]
      refine wpAnyT_one (i := 4) (by kernel_rfl) rfl (by rfl) ?_
      have hbP : Below w5.heap.size w5 w107 := hB_0_s5.trans ((hB_s5_w107).mono hB_0_s5.size)
      have hq3 := ((hB_w107_w107).block _ (blk_lt hN3)).trans hN3
      have hip := HI5.out.below hbP
      have hst := set47 w107 hip cT (fun l h => by rw [show lkG [(cI, [cE, cR])] cT = none from by decide +kernel] at h; cases h) okT (by decide) (by decide) (some ⟨b3, 0, none⟩) 1 [cI] ((crow1 (x := cI) hq3).rd (fun k hk => by simp at hk; subst hk; exact okI) 1 (by decide) (by decide)) (fun b e => ⟨by rw [e]; exact blk_lt hq3, HI5.out.dom0 (by rw [e]; exact hge3)⟩)
      have hns : (lkG [(cI, [cE, cR])] cT).isSome = false := by decide +kernel
      unfold SetP at hst
      rw [hns] at hst
      have hcode : setCode false (setM ((fun _ => none : C4 → Option (List C4)) cI).isSome 0) cT [cI] = 0 := by decide +kernel
      rw [hcode] at hst
      unfold C4.v at hst
      simp only at hst
      refine wp_enter (f := 27) (args := #[.pointer (some ⟨p, 0, none⟩), .agg #[.int .i64 22, .int .i64 (-1), .int .i64 (-1), .int .i64 1], .slice (some ⟨b3, 0, none⟩) 1 1]) (by go_simp) hst ?_
      rintro e w108 ⟨rfl, -, h2⟩
      obtain ⟨hG6, F6, hF6, hI6⟩ := h2 (by first | rfl | trivial)
      rw [exG2] at hI6
      have HI6 := Lib.hid hI6
      have HF6 := Lib.hid (show ∀ b, b < w.heap.size → F6 b = 0 from fun b hb => by
        have h1 := HB5.out.size
        have h2 := hbP.size
        rw [hF6 b (by omega)]
        exact HF5.out b hb)
      have HZ6 := Lib.hid (blk_gr hG6 ((hbP.block _ (blk_lt HZ5.out)).trans HZ5.out) (fun e => e HD5.out.1))
      have HR6 := Lib.hid (blk_gr hG6 ((hbP.block _ (blk_lt HR5.out)).trans HR5.out) (fun e => e HD5.out.2))
      have hbx := below_step HB5.out hbP
      have HB6 := Lib.hid (show Below w.heap.size w w108 from hbx.trans (hG6.below (fun b e => by
        by_cases hb : w.heap.size ≤ b
        · exact hb
        · exact absurd (HF5.out b (by omega)) e) hbx.size))
      clear hbP hq3 hip hst hcode h2 hG6 hF6 hI6 hbx hns
      refine ⟨_, rfl, fun h => absurd h (by decide), ?_⟩
      try simp only [Act.put, rgA, rgB, rgC, rgD, rgE, rgF]
      refine wpAnyT_pure (i := 5) (v := ?_) rfl (by kernel_rfl) (by kernel_rfl) (by kernel_rfl) (fun _ _ _ h => h) (by rfl) ?_ ?_
      rotate_left
      · intro w; go_simp; try with_reducible rfl
      simp only [Act.put, rgA, rgB, rgC, rgD, rgE, rgF]
      refine wpAnyT_done (by kernel_rfl) ?_ _
      refine cut_leaf ?_ ?_
      focus kernel_rfl
      exact ⟨_, _, _, _, _, F6, rfl, HI6.out, HF6.out, HZ6.out, HR6.out, HB6.out⟩
    · skip
      obtain ⟨b3, hb3⟩ : ∃ b, s5.heap.size = b := ⟨_, rfl⟩
      have hge3 : w5.heap.size ≤ b3 := hb3 ▸ (hB_0_s5.trans ((hB_s5_s5).mono hB_0_s5.size)).size
      refine wp_newrow (v := .slice (some ⟨b3, 0, none⟩) 1 1) (cs := #[.int .i64 7, .int .i64 0, .int .i64 (-1), .int .i64 1]) (te := 38) (by rw [← hb3]; go_simp) ?_
      intro w109 hX hN3
      rw [hb3] at hN3
      have hB_s5_w109 := below_step hB_s5_s5 hX
      have hB_w109_w109 := Below.refl w109.heap.size w109
      have hSsw109 := Cells.below hB_s5_w109 hSss5
      clear hX
      refine ⟨fun _ _ => hSsw109, ?_⟩
      try simp only [Act.put, rgA, rgB, rgC, rgD, rgE, rgF]
      refine wpAnyT_one (i := 1) (by kernel_rfl) rfl (by rfl) ?_
      refine wp_enter (f := 30) (args := #[.int .i64 22, .int .i64 0, .int .i64 0, .int .i64 1]) (by go_simp) (HCT.out w109) ?_
      rintro e w110 ⟨rfl, hX⟩
      have hB_s5_w110 := below_step hB_s5_w109 hX
      have hB_w109_w110 := below_step hB_w109_w109 hX
      have hB_w110_w110 := Below.refl w110.heap.size w110
      have hSsw110 := Cells.below hB_s5_w110 hSss5
      clear hX
      refine ⟨_, rfl, fun _ _ => hSsw110, ?_⟩
      try simp only [Act.put, rgA, rgB, rgC, rgD, rgE, rgF]
      refine wpAnyT_one (i := 4) (by kernel_rfl) rfl (by rfl) ?_
      have hbP : Below w5.heap.size w5 w110 := hB_0_s5.trans ((hB_s5_w110).mono hB_0_s5.size)
      have hq3 := ((hB_w109_w110).block _ (blk_lt hN3)).trans hN3
      have hip := HI5.out.below hbP
      have hst := set47 w110 hip cT (fun l h => by rw [show lkG [(cI, [cE, cR])] cT = none from by decide +kernel] at h; cases h) okT (by decide) (by decide) (some ⟨b3, 0, none⟩) 1 [cI] ((crow1 (x := cI) hq3).rd (fun k hk => by simp at hk; subst hk; exact okI) 1 (by decide) (by decide)) (fun b e => ⟨by rw [e]; exact blk_lt hq3, HI5.out.dom0 (by rw [e]; exact hge3)⟩)
      have hns : (lkG [(cI, [cE, cR])] cT).isSome = false := by decide +kernel
      unfold SetP at hst
      rw [hns] at hst
      have hcode : setCode false (setM ((fun _ => none : C4 → Option (List C4)) cI).isSome 0) cT [cI] = 0 := by decide +kernel
      rw [hcode] at hst
      unfold C4.v at hst
      simp only at hst
      refine wp_enter (f := 27) (args := #[.pointer (some ⟨p, 0, none⟩), .agg #[.int .i64 22, .int .i64 (-1), .int .i64 (-1), .int .i64 1], .slice (some ⟨b3, 0, none⟩) 1 1]) (by go_simp) hst ?_
      rintro e w111 ⟨rfl, -, h2⟩
      obtain ⟨hG6, F6, hF6, hI6⟩ := h2 (by first | rfl | trivial)
      rw [exG2] at hI6
      have HI6 := Lib.hid hI6
      have HF6 := Lib.hid (show ∀ b, b < w.heap.size → F6 b = 0 from fun b hb => by
        have h1 := HB5.out.size
        have h2 := hbP.size
        rw [hF6 b (by omega)]
        exact HF5.out b hb)
      have HZ6 := Lib.hid (blk_gr hG6 ((hbP.block _ (blk_lt HZ5.out)).trans HZ5.out) (fun e => e HD5.out.1))
      have HR6 := Lib.hid (blk_gr hG6 ((hbP.block _ (blk_lt HR5.out)).trans HR5.out) (fun e => e HD5.out.2))
      have hbx := below_step HB5.out hbP
      have HB6 := Lib.hid (show Below w.heap.size w w111 from hbx.trans (hG6.below (fun b e => by
        by_cases hb : w.heap.size ≤ b
        · exact hb
        · exact absurd (HF5.out b (by omega)) e) hbx.size))
      clear hbP hq3 hip hst hcode h2 hG6 hF6 hI6 hbx hns
      refine ⟨_, rfl, fun h => absurd h (by decide), ?_⟩
      try simp only [Act.put, rgA, rgB, rgC, rgD, rgE, rgF]
      refine wpAnyT_pure (i := 5) (v := ?_) rfl (by kernel_rfl) (by kernel_rfl) (by kernel_rfl) (fun _ _ _ h => h) (by rfl) ?_ ?_
      rotate_left
      · intro w; go_simp; try with_reducible rfl
      simp only [Act.put, rgA, rgB, rgC, rgD, rgE, rgF]
      refine wpAnyT_done (by kernel_rfl) ?_ _
      refine cut_leaf ?_ ?_
      focus kernel_rfl
      exact ⟨_, _, _, _, _, F6, rfl, HI6.out, HF6.out, HZ6.out, HR6.out, HB6.out⟩
  rintro vs w6 ⟨v16, v17, v18, v19, v20, F6, rfl, hI6, hF6, hz6, hr6, hB6⟩
  simp only [puts, Act.put, List.setIfInBounds_toArray, List.set_cons_zero, List.set_cons_succ]
  clear hC1
  have HI6 := Lib.hid hI6
  have HZ6 := Lib.hid hz6
  have HR6 := Lib.hid hr6
  have HB6 := Lib.hid hB6
  have n0 := blk_cell hr6 0
  have n1 := blk_cell hr6 1
  have n2 := blk_cell hr6 2
  have n3 := blk_cell hr6 3
  simp only [List.getElem?_toArray, List.getElem?_cons_zero, List.getElem?_cons_succ] at n0 n1 n2 n3
  have hba := (Below.refl w6.heap.size w6).alloc (Nat.le_refl _) (.cells #[.int .i64 2, .int .i64 (-1), .int .i64 (-1), .int .i64 (-1)] 38)
  have hka := heap_alloc_new w6 (.cells #[.int .i64 2, .int .i64 (-1), .int .i64 (-1), .int .i64 (-1)] 38)
  have HAF := Lib.hid (affected47 (w6.alloc (.cells #[.int .i64 2, .int .i64 (-1), .int .i64 (-1), .int .i64 (-1)] 38)) (hI6.below hba) (U := [cI, cT]) (fun c d h => by
    obtain ⟨e, he, rfl, -⟩ := (rsOf_lkG exGI _ _).1 h
    simp at he
    rcases he with rfl | rfl <;> simp) (by decide) (some ⟨w6.heap.size, 0, none⟩) 1 [cR] ((crow1 (x := cR) hka).rd (fun k hk => by simp at hk; subst hk; exact okR) 1 (by decide) (by decide)) (fun b e => by rw [e]; exact blk_lt hka) (by decide))
  have HBA := Lib.hid (below_step hB6 hba)
  have HZA := Lib.hid ((hba.block _ (blk_lt hz6)).trans hz6)
  have HIA := Lib.hid (hI6.below hba)
  clear hI6 hz6 hr6 hB6 hF6 hba hka
  go_wp2_with fail
  refine HAF.out.mono ?_
  rintro e w7 ⟨v, ys, rfl, hys, hyo, hym, -, hsl, hB7⟩
  obtain rfl : ys = [cI, cT] := hys.ext (by decide +kernel) (fun x => by
    constructor
    · intro h
      exact (exAff x).2 ((hym x (hyo x h)).1 h)
    · intro h
      have ho : x.ok := by
        simp at h
        rcases h with rfl | rfl
        · exact okI
        · exact okT
      exact (hym x ho).2 ((exAff x).1 h))
  rcases hsl with ⟨-, h⟩ | ⟨g, gc, rfl, hgb, -, -, hrow, -⟩
  · cases h
  have HROW := Lib.hid hrow
  have HB7 := Lib.hid (below_step HBA.out hB7)
  have HI7 := Lib.hid (HIA.out.below hB7)
  have HZ7 := Lib.hid ((hB7.block _ (blk_lt HZA.out)).trans HZA.out)
  have hcs := hrow.cell 0 (by decide)
  simp only [List.getElem_cons_zero, Nat.zero_mul, Nat.zero_add] at hcs
  have hC2 : Cells [(⟨gb, 0, none⟩, .int .i64 7), (⟨gb, 1, none⟩, .int .i64 0), (⟨gb, 2, none⟩, .int .i64 (-1)), (⟨gb, 3, none⟩, .int .i64 1), (⟨g, 0, none⟩, .int .i64 7), (⟨g, 1, none⟩, .int .i64 0), (⟨g, 2, none⟩, .int .i64 (-1)), (⟨g, 3, none⟩, .int .i64 1)] w7 := ⟨blk_cell HZ7.out 0, blk_cell HZ7.out 1, blk_cell HZ7.out 2, blk_cell HZ7.out 3, hcs.1, hcs.2.1, hcs.2.2.1, hcs.2.2.2, trivial⟩
  have HCL := Lib.hid (fun W (hW : Below w7.heap.size w7 W) => cells47 W (HI7.out.below hW) (by decide))
  have heql := fun W => cell_eql W cI cI
  rw [show decide (cI = cI) = true from by decide] at heql
  unfold C4.v at heql
  simp only at heql
  clear hys hyo hym hB7 hcs hrow hgb n0 n1 n2 n3
  go_upto_region 6 with fail
  refine wp_region_T (Cells [(⟨gb, 0, none⟩, .int .i64 7), (⟨gb, 1, none⟩, .int .i64 0), (⟨gb, 2, none⟩, .int .i64 (-1)), (⟨gb, 3, none⟩, .int .i64 1), (⟨g, 0, none⟩, .int .i64 7), (⟨g, 1, none⟩, .int .i64 0), (⟨g, 2, none⟩, .int .i64 (-1)), (⟨g, 3, none⟩, .int .i64 1)]) (fun _ => false) (by kernel_rfl) ?_
  have hSss12 := Cells.drew hC2
  have hB_0_s12 : Below w7.heap.size w7 w7.drew := below_drew _
  generalize w7.drew = s12 at hSss12 hB_0_s12 ⊢
  have hB_s12_s12 := Below.refl s12.heap.size s12
  refine wpAnyT_pure (i := 0) (v := ?_) rfl (by kernel_rfl) (by kernel_rfl) (by kernel_rfl) (fun _ _ _ h => h) (by rfl) ?_ ?_
  rotate_left
  · intro w; go_simp; try with_reducible rfl
  simp only [Act.put, rgA, rgB, rgC, rgD, rgE, rgF]
  refine wpAnyT_pure (i := 1) (v := ?_) rfl (by kernel_rfl) (by kernel_rfl) (by kernel_rfl) (fun _ _ _ h => h) (by rfl) ?_ ?_
  rotate_left
  · intro w; go_simp; try with_reducible rfl
  simp only [Act.put, rgA, rgB, rgC, rgD, rgE, rgF]
  refine wpAnyT_pure (i := 2) (v := ?_) rfl (by kernel_rfl) (by kernel_rfl) (by kernel_rfl) (fun _ _ _ h => h) (by rfl) ?_ ?_
  rotate_left
  · intro w; go_simp; try with_reducible rfl
  simp only [Act.put, rgA, rgB, rgC, rgD, rgE, rgF]
  refine wpAnyT_pure (i := 3) (v := ?_) rfl (by kernel_rfl) (by kernel_rfl) (by kernel_rfl) (fun _ _ _ h => h) (by rfl) ?_ ?_
  rotate_left
  · intro w; go_simp; try with_reducible rfl
  simp only [Act.put, rgA, rgB, rgC, rgD, rgE, rgF]
  refine wpAnyT_pure (i := 4) (v := ?_) rfl (by kernel_rfl) (by kernel_rfl) (by kernel_rfl) (fun _ _ _ h => h) (by rfl) ?_ ?_
  rotate_left
  · intro w; go_simp; try with_reducible rfl
  simp only [Act.put, rgA, rgB, rgC, rgD, rgE, rgF]
  refine wpAnyT_pure (i := 5) (v := ?_) rfl (by kernel_rfl) (by kernel_rfl) (by kernel_rfl) (fun _ _ _ h => h) (by rfl) ?_ ?_
  rotate_left
  · intro w; go_simp; try with_reducible rfl
  simp only [Act.put, rgA, rgB, rgC, rgD, rgE, rgF]
  refine wpAnyT_pure (i := 6) (v := ?_) rfl (by kernel_rfl) (by kernel_rfl) (by kernel_rfl) (fun _ _ _ h => h) (by rfl) ?_ ?_
  rotate_left
  · intro w; go_simp; try with_reducible rfl
  simp only [Act.put, rgA, rgB, rgC, rgD, rgE, rgF]
  refine wpAnyT_pure (i := 7) (v := ?_) rfl (by kernel_rfl) (by kernel_rfl) (by kernel_rfl) (fun _ _ _ h => h) (by rfl) ?_ ?_
  rotate_left
  · intro w; go_simp; try with_reducible rfl
  simp only [Act.put, rgA, rgB, rgC, rgD, rgE, rgF]
  refine wpAnyT_pure (i := 8) (v := ?_) rfl (by kernel_rfl) (by kernel_rfl) (by kernel_rfl) (fun _ _ _ h => h) (by rfl) ?_ ?_
  rotate_left
  · intro w; go_simp; try with_reducible rfl
  simp only [Act.put, rgA, rgB, rgC, rgD, rgE, rgF]
  refine wpAnyT_pure (i := 9) (v := ?_) rfl (by kernel_rfl) (by kernel_rfl) (by kernel_rfl) (fun _ _ _ h => h) (by rfl) ?_ ?_
  rotate_left
  · intro w; go_simp; try with_reducible rfl
  simp only [Act.put, rgA, rgB, rgC, rgD, rgE, rgF]
  refine wpAnyT_pure (i := 10) (v := ?_) rfl (by kernel_rfl) (by kernel_rfl) (by kernel_rfl) (fun _ _ _ h => h) (by rfl) ?_ ?_
  rotate_left
  · intro w; go_simp; try with_reducible rfl
  simp only [Act.put, rgA, rgB, rgC, rgD, rgE, rgF]
  refine wpAnyT_pure (i := 11) (v := ?_) rfl (by kernel_rfl) (by kernel_rfl) (by kernel_rfl) (fun _ _ _ h => h) (by rfl) ?_ ?_
  rotate_left
  · intro w; go_simp; try with_reducible rfl
  simp only [Act.put, rgA, rgB, rgC, rgD, rgE, rgF]
  refine wpAnyT_pure (i := 12) (v := ?_) rfl (by kernel_rfl) (by kernel_rfl) (by kernel_rfl) (fun _ _ _ h => h) (by rfl) ?_ ?_
  rotate_left
  · intro w; go_simp; try with_reducible rfl
  simp only [Act.put, rgA, rgB, rgC, rgD, rgE, rgF]
  refine wpAnyT_pure (i := 13) (v := ?_) rfl (by kernel_rfl) (by kernel_rfl) (by kernel_rfl) (fun _ _ _ h => h) (by rfl) ?_ ?_
  rotate_left
  · intro w; go_simp; try with_reducible rfl
  simp only [Act.put, rgA, rgB, rgC, rgD, rgE, rgF]
  refine wpAnyT_loadW (i := 14) (v := ?_) rfl (by kernel_rfl) (by kernel_rfl) (by kernel_rfl) (by kernel_rfl) (by kernel_rfl) (fun _ _ _ h => h) (Or.inl ⟨by rfl, ?_⟩) hSss12 ?_
  rotate_left
  · intro w hSw; obtain ⟨e0, e1, e2, e3, e4, e5, e6, e7, -⟩ := hSw; go_simp; try with_reducible rfl
  simp only [Act.put, rgA, rgB, rgC, rgD, rgE, rgF]
  refine wpAnyT_loadW (i := 15) (v := ?_) rfl (by kernel_rfl) (by kernel_rfl) (by kernel_rfl) (by kernel_rfl) (by kernel_rfl) (fun _ _ _ h => h) (Or.inl ⟨by rfl, ?_⟩) hSss12 ?_
  rotate_left
  · intro w hSw; obtain ⟨e0, e1, e2, e3, e4, e5, e6, e7, -⟩ := hSw; go_simp; try with_reducible rfl
  simp only [Act.put, rgA, rgB, rgC, rgD, rgE, rgF]
  refine wpAnyT_pure (i := 16) (v := ?_) rfl (by kernel_rfl) (by kernel_rfl) (by kernel_rfl) (fun _ _ _ h => h) (by rfl) ?_ ?_
  rotate_left
  · intro w; go_simp; try with_reducible rfl
  simp only [Act.put, rgA, rgB, rgC, rgD, rgE, rgF]
  refine wpAnyT_pure (i := 17) (v := ?_) rfl (by kernel_rfl) (by kernel_rfl) (by kernel_rfl) (fun _ _ _ h => h) (by rfl) ?_ ?_
  rotate_left
  · intro w; go_simp; try with_reducible rfl
  simp only [Act.put, rgA, rgB, rgC, rgD, rgE, rgF]
  refine wpAnyT_pure (i := 18) (v := ?_) rfl (by kernel_rfl) (by kernel_rfl) (by kernel_rfl) (fun _ _ _ h => h) (by rfl) ?_ ?_
  rotate_left
  · intro w; go_simp; try with_reducible rfl
  simp only [Act.put, rgA, rgB, rgC, rgD, rgE, rgF]
  refine wpAnyT_pure (i := 19) (v := ?_) rfl (by kernel_rfl) (by kernel_rfl) (by kernel_rfl) (fun _ _ _ h => h) (by rfl) ?_ ?_
  rotate_left
  · intro w; go_simp; try with_reducible rfl
  simp only [Act.put, rgA, rgB, rgC, rgD, rgE, rgF]
  refine wpAnyT_one (i := 20) (by kernel_rfl) rfl (by rfl) ?_
  have hbP : Below w7.heap.size w7 s12 := hB_0_s12.trans ((hB_s12_s12).mono hB_0_s12.size)
  refine wp_enter (f := 16) (args := #[.pointer (some ⟨p, 0, none⟩)]) (by go_simp) (HCL.out s12 hbP) ?_
  rintro e w113 ⟨v8, zs, rfl, hzs, hzo, hzm, -, hsl8, hX⟩
  obtain rfl : zs = [cE, cR, cI, cT] := exCells ▸ hzs.ext (srt_srtC _) (fun x => by
    constructor
    · intro h
      exact (mem_cellsG exGI).2 ((hzm x (hzo x h)).1 h)
    · intro h
      exact (hzm x (cellsG_ok exGI h)).2 ((mem_cellsG exGI).1 h))
  obtain ⟨va, vc, rfl⟩ := hsl8.form
  simp only [List.length_cons, List.length_nil, Nat.zero_add, Nat.reduceAdd]
  clear hzs hzo hzm hsl8 hbP
  have hB_s12_w113 := below_step hB_s12_s12 hX
  have hB_w113_w113 := Below.refl w113.heap.size w113
  have hSsw113 := Cells.below hB_s12_w113 hSss12
  clear hX
  refine ⟨_, rfl, fun _ _ => hSsw113, ?_⟩
  try simp only [Act.put, rgA, rgB, rgC, rgD, rgE, rgF]
  refine wpAnyT_pure (i := 21) (v := ?_) rfl (by kernel_rfl) (by kernel_rfl) (by kernel_rfl) (fun _ _ _ h => h) (by rfl) ?_ ?_
  rotate_left
  · intro w; go_simp; try with_reducible rfl
  simp only [Act.put, rgA, rgB, rgC, rgD, rgE, rgF]
  refine wpAnyT_pure (i := 22) (v := ?_) rfl (by kernel_rfl) (by kernel_rfl) (by kernel_rfl) (fun _ _ _ h => h) (by rfl) ?_ ?_
  rotate_left
  · intro w; go_simp; try with_reducible rfl
  simp only [Act.put, rgA, rgB, rgC, rgD, rgE, rgF]
  refine wpAnyT_pure (i := 23) (v := ?_) rfl (by kernel_rfl) (by kernel_rfl) (by kernel_rfl) (fun _ _ _ h => h) (by rfl) ?_ ?_
  rotate_left
  · intro w; go_simp; try with_reducible rfl
  simp only [Act.put, rgA, rgB, rgC, rgD, rgE, rgF]
  refine wpAnyT_pure (i := 24) (v := ?_) rfl (by kernel_rfl) (by kernel_rfl) (by kernel_rfl) (fun _ _ _ h => h) (by rfl) ?_ ?_
  rotate_left
  · intro w; go_simp; try with_reducible rfl
  simp only [Act.put, rgA, rgB, rgC, rgD, rgE, rgF]
  refine wpAnyT_done (by kernel_rfl) ?_ _
  have HBP := Lib.hid (HB7.out.trans ((hB_0_s12.trans ((hB_s12_w113).mono (hB_0_s12).size)).mono HB7.out.size))
  go_wp2_with fail
  go_ret
  exact ⟨rfl, HBP.out⟩
end Go.Proofs.Ytoimbhdjhhmonaa
