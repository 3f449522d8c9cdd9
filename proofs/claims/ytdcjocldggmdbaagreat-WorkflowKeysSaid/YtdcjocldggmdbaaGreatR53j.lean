/- Layer 53: the reference's Reopen. -/
import Derived.Test.YtdcjocldggmdbaaGreatR53f
set_option linter.unusedSimpArgs false
set_option maxRecDepth 50000
namespace Go.Proofs.YtdcjocldggmdbaaGreat
open Go.RowKit Go

theorem left_snoc {ts : List Tk} {ne : Nat} {k : Ky} {a : List Sg} {s : Sg} (h : s.1 ∉ keysS a) :
    leftOf ts ne k (a ++ [s]) = if (decide (s.1 = k) || (rawNeeds ts ne s.1).any (fun n => decide (n ∈ goneOf ts ne k a))) = true then leftOf ts ne k a else leftOf ts ne k a ++ [s] := by
  unfold leftOf
  rw [gone_snoc]
  unfold goneStep
  by_cases hc : (decide (s.1 = k) || (rawNeeds ts ne s.1).any (fun n => decide (n ∈ goneOf ts ne k a))) = true
  · simp only [if_pos hc]
    rw [List.filter_append]
    have h1 : [s].filter (fun x => !decide (x.1 ∈ goneOf ts ne k a ++ [s.1])) = [] := by simp
    rw [h1, List.append_nil]
    refine List.filter_congr fun x hx => ?_
    have hne : x.1 ≠ s.1 := fun e => h (e ▸ List.mem_map.2 ⟨x, hx, rfl⟩)
    simp [hne]
  · simp only [if_neg hc]
    rw [List.filter_append]
    have h1 : s.1 ∉ goneOf ts ne k a := fun e => h ((gone_sub ts ne k a).subset e)
    have h2 : [s].filter (fun x => !decide (x.1 ∈ goneOf ts ne k a)) = [s] := by simp [h1]
    rw [h2]
theorem gone_step2 (ts : List Tk) (ne : Nat) (k : Ky) (a : List Sg) (s : Sg) : goneOf ts ne k (a ++ [s]) = if (decide (s.1 = k) || (rawNeeds ts ne s.1).any (fun n => decide (n ∈ goneOf ts ne k a))) = true then goneOf ts ne k a ++ [s.1] else goneOf ts ne k a := by
  rw [gone_snoc]
  rfl
theorem results_cell_tmp2 {P : Program} {fn : Func} {p t u : Tmp} {ty : TypeId} (h : fn.results = #[.cell p ty, .tmp t, .tmp u]) (tmps : Array Value) (w : World) (g : Nat) (te : TypeId) (cs : Array Value) (fr : Nat × Nat) (d : TypeDesc)
    (hp : tmps.getD p undef = .pointer (some ⟨g, 0, none⟩)) (hg : w.heap[g]? = some (.cells cs te fr))
    (hu : P.underlying ty = some d) (hd : (match d with | .struct _ | .array _ _ => true | _ => false) = true) (hi : (P.info? ty).map (·.size) = some cs.size) :
    (results fn tmps).run P w = .ok (.tuple #[.agg cs, tmps.getD t undef, tmps.getD u undef]) w := by
  have hp' : tmps[p]?.getD undef = .pointer (some ⟨g, 0, none⟩) := by simpa using hp
  simp [results, h, hp', asAddr, run_loadVar_row w g te ty cs fr d hg hu hd hi]
theorem reop_keep {ts : List Tk} {ne np : Nat} {sg : List Sg} {k : Ky} {e : Int} (h : reopI ts ne np sg k = e) (he : e ≠ 0) : reopS ts ne np sg k = sg := by
  unfold reopS
  rw [if_neg (by rw [h]; exact he)]
theorem rd_nil (e : Ty) (S : Nat → Prop) (w : World) : Rd (.sl e) S w [.slice none 0 0] [] := ⟨none, 0, 0, rfl, rfl, Nat.le_refl _, by omega, .inl rfl⟩
/-- What the reference's Reopen leaves. -/
def RReopP (S : Nat → Prop) (w : World) (ne np : Nat) (ts : List Tk) (sg : List Sg) (k : Ky) (sa : Option Addr) (sl sc : Nat) (xs : List taskT.den) (e : Ending) (w' : World) : Prop :=
  ∃ (ga : Option Addr) (gl gc : Nat) (a : Option Addr) (l c : Nat), e = .returned (.tuple #[rwV ne np sa sl sc ga gl gc, .slice a l c, .int .i64 (reopI ts ne np sg k)]) ∧ Below w.heap.size w w' ∧ RfW (fun b => S b ∨ (w.heap.size ≤ b ∧ b < w'.heap.size)) w' ts (reopS ts ne np sg k) sa sl sc ga gl gc xs ∧ Rd (.sl keyT) (fun b => w.heap.size ≤ b ∧ b < w'.heap.size) w' [.slice a l c] ((if reopI ts ne np sg k = 0 then goneOf ts ne k sg else []).map Ky.d)
set_option maxHeartbeats 4000000 in
theorem rreop53 {S : Nat → Prop} (w : World) (ne np : Nat) (ts : List Tk) (sg : List Sg) (sa : Option Addr) (sl sc : Nat) (ga : Option Addr) (gl gc : Nat) (xs : List taskT.den) (h : RfW S w ts sg sa sl sc ga gl gc xs) (hw : Wk ts ne np) (hn1000 : ne ≤ 1000) (hso : SgOk ts ne np sg) (hgl : gl ≤ 1000) (k : Ky) :
    Calls Tryz.prog 8 #[rwV ne np sa sl sc ga gl gc, k.v] w (RReopP S w ne np ts sg k sa sl sc xs) := by
  obtain ⟨k1, k2, k3⟩ := k
  have HSO := Lib.hid hso
  have HW := Lib.hid hw
  have HSB := Lib.hid h.hS
  have HGL := Lib.hid (show sg.length = gl from by simpa using h.rs.sl_flat.1)
  have HGC := Lib.hid h.rs.sl_flat.2
  have hB := (Below.refl w.heap.size w).alloc (Nat.le_refl _) (rwO ne np sa sl sc ga gl gc)
  have hB := hB.alloc hB.size (.cells #[.string k1, .int .i64 k2, .int .i64 k3] 27)
  have hB := hB.alloc hB.size (.cells #[.int .i64 0, .int .i64 0, .slice none 0 0, .slice none 0 0] 35)
  have HX0 := Lib.hid h
  have HX := Lib.hid (h.below hB)
  have HB1 := Lib.hid hB
  have hp := heap_alloc_new w (rwO ne np sa sl sc ga gl gc)
  have hk := heap_alloc2_old (w.alloc (rwO ne np sa sl sc ga gl gc)) (.cells #[.string k1, .int .i64 k2, .int .i64 k3] 27) (.cells #[.int .i64 0, .int .i64 0, .slice none 0 0, .slice none 0 0] 35)
  have hk2 := heap_alloc2_new (w.alloc (rwO ne np sa sl sc ga gl gc)) (.cells #[.string k1, .int .i64 k2, .int .i64 k3] 27) (.cells #[.int .i64 0, .int .i64 0, .slice none 0 0, .slice none 0 0] 35)
  have hBp : Below (w.alloc (rwO ne np sa sl sc ga gl gc)).heap.size (w.alloc (rwO ne np sa sl sc ga gl gc)) (((w.alloc (rwO ne np sa sl sc ga gl gc)).alloc (.cells #[.string k1, .int .i64 k2, .int .i64 k3] 27)).alloc (.cells #[.int .i64 0, .int .i64 0, .slice none 0 0, .slice none 0 0] 35)) := ((Below.refl _ _).alloc (Nat.le_refl _) _).alloc (by simp) _
  have hpp := (hBp.block _ (blk_lt hp)).trans hp
  rw [World.size_alloc] at hk hk2
  have HP := Lib.hid hpp
  have HK := Lib.hid hk
  have HR := Lib.hid hk2
  unfold Ky.v
  simp only
  clear h hB hp hk hk2 hBp hpp hso hw
  go_enter Tryz.func8, Tryz.ntmps8
  go_wp2_with fail
  generalize hw1 : World.alloc (World.alloc (w.alloc _) _) _ = w1 at *
  clear hw1
  obtain ⟨gb, hgb⟩ : ∃ q, w.heap.size = q := ⟨_, rfl⟩
  have HGB := Lib.hid hgb
  rw [hgb] at HP HK HR HSB ⊢
  clear hgb
  have z0 := blk_cell HP.out 0
  have z1 := blk_cell HP.out 1
  have z2 := blk_cell HP.out 2
  have z3 := blk_cell HP.out 3
  have y0 := blk_cell HK.out 0
  have y1 := blk_cell HK.out 1
  have y2 := blk_cell HK.out 2
  simp at z0 z1 z2 z3 y0 y1 y2
  have HC := Lib.hid (rcheck53 w1 ne np ts sg sa sl sc ga gl gc xs HX.out ⟨k1, k2, k3⟩)
  unfold Ky.v at HC
  simp only at HC
  obtain ⟨ci, hci⟩ : ∃ c, checkI ts ne np ⟨k1, k2, k3⟩ = c := ⟨_, rfl⟩
  rw [hci] at HC
  have HCI := Lib.hid hci
  clear hci
  go_wp2_with fail
  have hX := HC.out
  refine Calls.mono hX ?_
  clear hX HC
  rintro e w2 ⟨rfl, hb2⟩
  have HB1 := Lib.hid (below_step HB1.out hb2)
  have HX := Lib.hid (HX.out.below hb2)
  have HP := Lib.hid ((hb2.block _ (blk_lt HP.out)).trans HP.out)
  have HK := Lib.hid ((hb2.block _ (blk_lt HK.out)).trans HK.out)
  have HR := Lib.hid ((hb2.block _ (blk_lt HR.out)).trans HR.out)
  clear hb2 z0 z1 z2 z3 y0 y1 y2
  have z0 := blk_cell HP.out 0
  have z1 := blk_cell HP.out 1
  have z2 := blk_cell HP.out 2
  have z3 := blk_cell HP.out 3
  have y0 := blk_cell HK.out 0
  have y1 := blk_cell HK.out 1
  have y2 := blk_cell HK.out 2
  simp at z0 z1 z2 z3 y0 y1 y2
  by_cases hc0 : ci = 0
  case neg =>
    have HC0 := Lib.hid hc0
    have HER := Lib.hid (show reopI ts ne np sg ⟨k1, k2, k3⟩ = ci from (by unfold reopI; rw [HCI.out, if_neg HC0.out]))
    have HKP := Lib.hid (reop_keep HER.out (HC0.out))
    have HSET := Lib.hid (setRow_heap _ _ _ #[.int .i64 ne, .int .i64 np, .slice sa sl sc, .slice ga gl gc] _ _ HR.out)
    have HGS := Lib.hid (gr_setRow w2 (gb + 1 + 1) #[.int .i64 ne, .int .i64 np, .slice sa sl sc, .slice ga gl gc])
    have HBS := Lib.hid (HGS.out.below (n := gb) (fun b e => by omega) (by have := blk_lt HR.out; omega))
    have HXS := Lib.hid (HX.out.gr HGS.out (fun b hb e => by have := HSB.out b hb; omega))
    go_wp2_with (refine wpList_store_row rfl _ _ _ rfl (gb + 1 + 1) #[.int .i64 ne, .int .i64 np, .slice sa sl sc, .slice ga gl gc] rfl rfl 35 _ HR.out (by kernel_rfl) (by rfl) (by simp [Value.oneCell']) ?_)
    refine bodyPost_ret (results_cell_tmp2 rfl _ _ (gb + 1 + 1) 35 _ (0, 0) _ rfl HSET.out Tryz.underlying35 rfl (by kernel_rfl)) rfl ?_
    refine ⟨ga, gl, gc, none, 0, 0, by rw [HER.out]; rfl, HB1.out.trans (HBS.out.mono (by rw [HGB.out]; exact Nat.le_refl _)), ?_, ?_⟩
    · rw [HKP.out]
      exact HXS.out.later
    · rw [HER.out, if_neg (HC0.out)]
      exact rd_nil _ _ _
  subst hc0
  have HC := Lib.hid (rwho53 w2 ne np ts sg sa sl sc ga gl gc xs HX.out ⟨k1, k2, k3⟩)
  unfold Ky.v at HC
  simp only at HC
  obtain ⟨sb, hsb⟩ : ∃ sb, (lkS sg ⟨k1, k2, k3⟩).isSome = sb := ⟨_, rfl⟩
  obtain ⟨sw, hsw⟩ : ∃ sw, (lkS sg ⟨k1, k2, k3⟩).getD ⟨#[]⟩ = sw := ⟨_, rfl⟩
  rw [hsb, hsw] at HC
  have HSOM := Lib.hid hsb
  clear hsb hsw
  go_wp2_with fail
  have hX := HC.out
  refine Calls.mono hX ?_
  clear hX HC
  rintro e w4 ⟨rfl, hb2⟩
  have HB1 := Lib.hid (below_step HB1.out hb2)
  have HX := Lib.hid (HX.out.below hb2)
  have HP := Lib.hid ((hb2.block _ (blk_lt HP.out)).trans HP.out)
  have HK := Lib.hid ((hb2.block _ (blk_lt HK.out)).trans HK.out)
  have HR := Lib.hid ((hb2.block _ (blk_lt HR.out)).trans HR.out)
  clear hb2 z0 z1 z2 z3 y0 y1 y2
  have z0 := blk_cell HP.out 0
  have z1 := blk_cell HP.out 1
  have z2 := blk_cell HP.out 2
  have z3 := blk_cell HP.out 3
  have y0 := blk_cell HK.out 0
  have y1 := blk_cell HK.out 1
  have y2 := blk_cell HK.out 2
  simp at z0 z1 z2 z3 y0 y1 y2
  cases sb
  case false =>
    have HER := Lib.hid (show reopI ts ne np sg ⟨k1, k2, k3⟩ = 7 from (by unfold reopI; rw [if_pos HCI.out, HSOM.out]; rfl))
    have HKP := Lib.hid (reop_keep HER.out (by decide))
    have HSET := Lib.hid (setRow_heap _ _ _ #[.int .i64 ne, .int .i64 np, .slice sa sl sc, .slice ga gl gc] _ _ HR.out)
    have HGS := Lib.hid (gr_setRow w4 (gb + 1 + 1) #[.int .i64 ne, .int .i64 np, .slice sa sl sc, .slice ga gl gc])
    have HBS := Lib.hid (HGS.out.below (n := gb) (fun b e => by omega) (by have := blk_lt HR.out; omega))
    have HXS := Lib.hid (HX.out.gr HGS.out (fun b hb e => by have := HSB.out b hb; omega))
    go_wp2_with (refine wpList_store_row rfl _ _ _ rfl (gb + 1 + 1) #[.int .i64 ne, .int .i64 np, .slice sa sl sc, .slice ga gl gc] rfl rfl 35 _ HR.out (by kernel_rfl) (by rfl) (by simp [Value.oneCell']) ?_)
    refine bodyPost_ret (results_cell_tmp2 rfl _ _ (gb + 1 + 1) 35 _ (0, 0) _ rfl HSET.out Tryz.underlying35 rfl (by kernel_rfl)) rfl ?_
    refine ⟨ga, gl, gc, none, 0, 0, by rw [HER.out]; rfl, HB1.out.trans (HBS.out.mono (by rw [HGB.out]; exact Nat.le_refl _)), ?_, ?_⟩
    · rw [HKP.out]
      exact HXS.out.later
    · rw [HER.out, if_neg (by decide)]
      exact rd_nil _ _ _
  have HER := Lib.hid (show reopI ts ne np sg ⟨k1, k2, k3⟩ = 0 from by unfold reopI; rw [if_pos HCI.out, HSOM.out]; rfl)
  have HKP := Lib.hid (show reopS ts ne np sg ⟨k1, k2, k3⟩ = leftOf ts ne ⟨k1, k2, k3⟩ sg from by unfold reopS; rw [if_pos HER.out])
  clear z0 z1 z2 z3 y0 y1 y2
  go_wp2_with fail
  go_loopw [10, 11, 12] (fun gv lv iv wr => ∃ (q : Nat), q ≤ gl ∧ iv = .int .i64 q ∧ Owns keyT 27 w4.heap.size (fun _ => False) wr gv ((goneOf ts ne ⟨k1, k2, k3⟩ (sg.take q)).map Ky.d) ∧ Owns sgT 82 w4.heap.size (fun _ => False) wr lv ((leftOf ts ne ⟨k1, k2, k3⟩ (sg.take q)).map sgd) ∧ (∀ b, gv.ownBlock = some b → lv.ownBlock ≠ some b) ∧ Below w4.heap.size w4 wr) (fun _ _ iv _ => gl - (intOf iv).toNat)
  case atStart => exact ⟨0, Nat.zero_le _, rfl, Owns.nil _ _ _ _, Owns.nil _ _ _ _, fun b hb => by simp [Value.ownBlock] at hb, Below.refl _ _⟩
  obtain ⟨q, hq, rfl, hOg, hOl, hne, hB⟩ := hrel
  obtain ⟨va, vl, vc, rfl, -⟩ := hOg.slice
  obtain ⟨la, ll, lc, rfl, -⟩ := hOl.slice
  have HOG := Lib.hid hOg
  have HOL := Lib.hid hOl
  have HNE := Lib.hid hne
  have HB := Lib.hid hB
  have HXr := Lib.hid (HX.out.below hB)
  have HPr := Lib.hid ((hB.block _ (blk_lt HP.out)).trans HP.out)
  have HKr := Lib.hid ((hB.block _ (blk_lt HK.out)).trans HK.out)
  have HRr := Lib.hid ((hB.block _ (blk_lt HR.out)).trans HR.out)
  have HBr := Lib.hid (below_step HB1.out hB)
  clear hOg hOl hne hB
  have z3 := blk_cell HPr.out 3
  simp at z3
  by_cases hlt : q < gl
  · have hqI : (q : Int) < (gl : Int) := by omega
    have hql : q < sg.length := by rw [HGL.out]; exact hlt
    obtain ⟨b, o, rfl, -, m0, m1, m2, m3, hok⟩ := sg_at HXr.out.rs q hql
    have HKV := Lib.hid (keys_kv HSO.out (List.mem_map.2 ⟨_, List.getElem_mem hql, rfl⟩))
    have hnk : sg[q].1 ∉ keysS (sg.take q) := by
      intro h
      obtain ⟨j, hj, e⟩ := List.getElem_of_mem h
      unfold keysS at hj e
      rw [List.length_map, List.length_take] at hj
      rw [List.getElem_map, List.getElem_take] at e
      exact List.pairwise_iff_getElem.1 (asc_ne HSO.out.asc) j q (by omega) hql (by omega) e
    have HTG := Lib.hid (gone_step2 ts ne ⟨k1, k2, k3⟩ (sg.take q) sg[q])
    have HTL := Lib.hid (left_snoc (ts := ts) (ne := ne) (k := ⟨k1, k2, k3⟩) hnk)
    rw [← List.take_succ_eq_append_getElem hql] at HTG HTL
    have HNM := Lib.hid (show sg[q].2.size ≤ maxLen from HSO.out.sz _ (List.getElem_mem hql))
    generalize sg[q] = s at m0 m1 m2 m3 HTG HTL HKV HNM hok
    obtain ⟨y, wh⟩ := s
    simp only at m0 m1 m2 m3 HTG HTL HKV HNM hok
    have HYO := Lib.hid hok
    obtain ⟨eb, heb⟩ : ∃ eb, decide (y = (⟨k1, k2, k3⟩ : Ky)) = eb := ⟨_, rfl⟩
    have heq := fun W => rkey_eql W y ⟨k1, k2, k3⟩
    rw [heb] at heq HTG HTL
    have HLT := Lib.hid hlt
    have HGN := Lib.hid (show (goneOf ts ne ⟨k1, k2, k3⟩ (sg.take q)).length ≤ 1000 from by
      have h1 := (gone_sub ts ne ⟨k1, k2, k3⟩ (sg.take q)).length_le
      unfold keysS at h1
      rw [List.length_map, List.length_take] at h1
      omega)
    have HLN := Lib.hid (show (leftOf ts ne ⟨k1, k2, k3⟩ (sg.take q)).length ≤ 1000 from by
      have h1 : (leftOf ts ne ⟨k1, k2, k3⟩ (sg.take q)).length ≤ (sg.take q).length := List.length_filter_le _ _
      rw [List.length_take] at h1
      omega)
    have HLM := Lib.hid (raw_len HW.out HKV.out)
    generalize goneOf ts ne ⟨k1, k2, k3⟩ (sg.take q) = gn at HOG HTG HTL HGN
    generalize leftOf ts ne ⟨k1, k2, k3⟩ (sg.take q) = lf at HOL HTL HLN
    obtain ⟨y1, y2, y3⟩ := y
    unfold Ky.v at heq
    simp only at m0 m1 m2 heq
    clear hnk hql hlt heb hok
    have hZ := heap_alloc_new wr (.cells #[.string ⟨#[]⟩, .int .i64 0, .int .i64 0, .string ⟨#[]⟩] 82)
    have hS5 := setRow_heap _ _ _ #[.string y1, .int .i64 y2, .int .i64 y3, .string wh] _ _ hZ
    have hB5 := below_setRow ((Below.refl wr.heap.size wr).alloc (Nat.le_refl _) (.cells #[.string ⟨#[]⟩, .int .i64 0, .int .i64 0, .string ⟨#[]⟩] 82)) (Nat.le_refl _) #[.string y1, .int .i64 y2, .int .i64 y3, .string wh]
    go_upto_region 13 with (refine wpList_store_row rfl _ _ _ rfl wr.heap.size #[.string y1, .int .i64 y2, .int .i64 y3, .string wh] rfl rfl 82 _ hZ (by kernel_rfl) (by rfl) (by simp [Value.oneCell']) ?_)
    generalize World.setRow _ _ _ = w5 at hS5 hB5 ⊢
    clear hZ m0 m1 m2 m3 z3
    have HB5 := Lib.hid (below_step HB.out hB5)
    have HBr5 := Lib.hid (below_step HBr.out hB5)
    have HX5 := Lib.hid (HXr.out.below hB5)
    have HP5 := Lib.hid ((hB5.block _ (blk_lt HPr.out)).trans HPr.out)
    have HK5 := Lib.hid ((hB5.block _ (blk_lt HKr.out)).trans HKr.out)
    have HR5 := Lib.hid ((hB5.block _ (blk_lt HRr.out)).trans HRr.out)
    have HOG5 := Lib.hid (HOG.out.below hB5)
    have HOL5 := Lib.hid (HOL.out.below hB5)
    obtain ⟨rb, hrb⟩ : ∃ x, wr.heap.size = x := ⟨_, rfl⟩
    rw [hrb] at hS5 ⊢
    have HS5 := Lib.hid hS5
    clear hrb hB5 hS5 HB HBr HXr HPr HKr HRr HOG HOL
    have z0 := blk_cell HP5.out 0
    have z1 := blk_cell HP5.out 1
    have z2 := blk_cell HP5.out 2
    have z3 := blk_cell HP5.out 3
    have c0 := blk_cell HS5.out 0
    have c1 := blk_cell HS5.out 1
    have c2 := blk_cell HS5.out 2
    simp at z0 z1 z2 z3 c0 c1 c2
    have HC := Lib.hid (rneeded53 w5 ne np ts sg sa sl sc (some ⟨b, o, none⟩) gl gc xs HX5.out HW.out hn1000 ⟨y1, y2, y3⟩ HKV.out)
    unfold Ky.v at HC
    simp only at HC
    go_wp2_with fail
    have hX := HC.out
    refine Calls.mono hX ?_
    clear hX HC
    rintro e w6 ⟨na, nl, nc, rfl, hrd, hb6⟩
    generalize rawNeeds ts ne ⟨y1, y2, y3⟩ = l at hrd HTG HTL HLM
    have HL6 := Lib.hid hrd
    have HLL := Lib.hid (show l.length = nl from by simpa using hrd.sl_flat.1)
    have hnl : nl ≤ 1000 := by rw [← HLL.out]; exact HLM.out
    have HB6 := Lib.hid (below_step HB5.out hb6)
    have HBr6 := Lib.hid (below_step HBr5.out hb6)
    have HS6 := Lib.hid ((hb6.block _ (blk_lt HS5.out)).trans HS5.out)
    have HK6 := Lib.hid ((hb6.block _ (blk_lt HK5.out)).trans HK5.out)
    have HOG6 := Lib.hid (HOG5.out.below hb6)
    have HOL6 := Lib.hid (HOL5.out.below hb6)
    clear hrd hb6 z0 z1 z2 z3 c0 c1 c2 HB5 HBr5 HX5 HP5 HK5 HR5 HS5 HOG5 HOL5
    have c0 := blk_cell HS6.out 0
    have c1 := blk_cell HS6.out 1
    have c2 := blk_cell HS6.out 2
    have d0 := blk_cell HK6.out 0
    have d1 := blk_cell HK6.out 1
    have d2 := blk_cell HK6.out 2
    simp at c0 c1 c2 d0 d1 d2
    go_wp2_with fail
    clear c0 c1 c2 d0 d1 d2 heq
    go_loopw [15, 16] (fun ov jv wr => ∃ j : Nat, j ≤ nl ∧ jv = .int .i64 j ∧ ov = .bool (eb || (l.take j).any (fun n => decide (n ∈ gn))) ∧ Below w6.heap.size w6 wr) (fun _ jv _ => nl - (intOf jv).toNat)
    case atStart => exact ⟨0, Nat.zero_le _, rfl, by simp, Below.refl _ _⟩
    obtain ⟨j, hj, rfl, rfl, hB⟩ := hrel
    have HB := Lib.hid hB
    obtain ⟨ob, hob⟩ : ∃ ob, (eb || (l.take j).any (fun n => decide (n ∈ gn))) = ob := ⟨_, rfl⟩
    rw [hob]
    have HOB := Lib.hid hob
    clear hob
    by_cases hlj : j < nl
    · have hjI : (j : Int) < (nl : Int) := by omega
      have hjl : j < l.length := by rw [HLL.out]; exact hlj
      obtain ⟨b', o', rfl, -, m0, m1, m2, -⟩ := key_at (HL6.out.below hB (fun _ h => h)) j hjl
      have HAS := Lib.hid (show (eb || (l.take (j + 1)).any (fun n => decide (n ∈ gn))) = (ob || decide (l[j] ∈ gn)) from by
        rw [List.take_succ_eq_append_getElem hjl, List.any_append, ← Bool.or_assoc, HOB.out]
        simp)
      have HCH := Lib.hid (rhas53 wr va vl vc gn (rdOwn (HOG6.out.below hB)) (fun _ h => h) l[j])
      obtain ⟨mb, hmb⟩ : ∃ mb, decide (l[j] ∈ gn) = mb := ⟨_, rfl⟩
      rw [hmb] at HAS HCH
      clear hmb
      generalize l[j] = x at m0 m1 m2 HCH
      obtain ⟨x1, x2, x3⟩ := x
      unfold Ky.v at HCH
      simp only at m0 m1 m2 HCH
      have HLJ := Lib.hid hlj
      clear hjl hlj hB
      cases ob
      · go_wp2_with fail
        have hX := HCH.out
        refine Calls.mono hX ?_
        clear hX
        rintro e w8 ⟨rfl, hb8⟩
        have HB8 := Lib.hid (below_step HB.out hb8)
        clear hb8 m0 m1 m2
        go_wp2_with fail
        go_roundw
        case rel => exact ⟨j + 1, HLJ.out, by go_num, by rw [HAS.out, Bool.false_or], HB8.out⟩
        case measure => simp [intOf]; try omega
      · go_wp2_with fail
        go_roundw
        case rel => exact ⟨j + 1, HLJ.out, by go_num, by rw [HAS.out, Bool.true_or], HB.out⟩
        case measure => simp [intOf]; try omega
    · obtain rfl : nl = j := by omega
      have hall : l.take nl = l := List.take_of_length_le (by rw [HLL.out]; exact Nat.le_refl _)
      rw [hall] at HOB
      rw [HOB.out] at HTG HTL
      have HB8 := Lib.hid (below_step HB6.out hB)
      have HBr8 := Lib.hid (below_step HBr6.out hB)
      have HS8 := Lib.hid ((hB.block _ (blk_lt HS6.out)).trans HS6.out)
      have HOG8 := Lib.hid (HOG6.out.below hB)
      have HOL8 := Lib.hid (HOL6.out.below hB)
      have c0 := blk_cell HS8.out 0
      have c1 := blk_cell HS8.out 1
      have c2 := blk_cell HS8.out 2
      have c3 := blk_cell HS8.out 3
      simp at c0 c1 c2 c3
      clear hall hB HB HL6 HOG6 HOL6 HS6 HK6 hlj
      cases ob
      · simp only [Bool.false_eq_true, if_false] at HTG HTL
        go_wp2_with (at_builtin; go_must (refine wpList_app _ rfl _ _ 33 rfl (e := sgT) (te := 82) info_rsg Tryz.underlying33 rfl (by decide) (base := w4.heap.size) (S := fun _ => False) (v := .slice la ll lc) (xs := lf.map sgd) rfl (HOL8.out.alloc _) (by have := HB8.out.size; simp only [World.size_alloc]; omega) rfl (ys := [sgd (⟨y1, y2, y3⟩, wh)]) (Src.new _ [_, _, _, _] _ _ _) (RdL.one (e := sgT) (sg_rd HYO.out HNM.out)) (by have := HLN.out; rw [List.length_map]; simp only [List.length_singleton] at *; omega) (by have := HLN.out; rw [List.length_map]; simp only [List.length_singleton] at *; omega) ?_; intro v' w9 O9 g9 _ ob9; have HO9 := Lib.hid O9; have HG9 := Lib.hid g9; have HOB9 := Lib.hid ob9; clear O9 g9 ob9))
        clear c0 c1 c2 c3
        go_roundw
        case rel =>
          refine ⟨q + 1, HLT.out, by go_num, ?_, ?_, ?_, ?_⟩
          · rw [HTG.out]
            exact (HOG8.out.alloc _).gr (Gr.of_grown HG9.out) (fun _ h => h.elim) (fun b e1 e2 => HNE.out b e1 e2)
          · rw [HTL.out, List.map_append]
            exact HO9.out
          · intro b hb1 hb2
            rcases HOB9.out with e | e
            · exact HNE.out b hb1 (e ▸ hb2)
            · rw [e] at hb2
              cases hb2
              have h1 := (HOG8.out.own _ hb1).2
              rw [World.size_alloc] at h1
              omega
          · exact (HB8.out.alloc HB8.out.size _).grown HG9.out (by have := HB8.out.size; simp only [World.size_alloc]; omega) (fun c hc => (HOL8.out.own c hc).1)
        case measure => simp [intOf]; try omega
      · simp only [if_true] at HTG HTL
        go_wp2_with (at_builtin; go_must (refine wpList_app _ rfl _ _ 39 rfl (e := keyT) (te := 27) info_rkey Tryz.underlying39 rfl (by decide) (base := w4.heap.size) (S := fun _ => False) (v := .slice va vl vc) (xs := gn.map Ky.d) rfl (HOG8.out.alloc _) (by have := HB8.out.size; simp only [World.size_alloc]; omega) rfl (ys := [Ky.d ⟨y1, y2, y3⟩]) (Src.new _ [_, _, _] _ _ _) (RdL.one (e := keyT) (key_rd HYO.out)) (by have := HGN.out; rw [List.length_map]; simp only [List.length_singleton] at *; omega) (by have := HGN.out; rw [List.length_map]; simp only [List.length_singleton] at *; omega) ?_; intro v' w9 O9 g9 _ ob9; have HO9 := Lib.hid O9; have HG9 := Lib.hid g9; have HOB9 := Lib.hid ob9; clear O9 g9 ob9))
        clear c0 c1 c2 c3
        go_roundw
        case rel =>
          refine ⟨q + 1, HLT.out, by go_num, ?_, ?_, ?_, ?_⟩
          · rw [HTG.out, List.map_append]
            exact HO9.out
          · rw [HTL.out]
            exact (HOL8.out.alloc _).gr (Gr.of_grown HG9.out) (fun _ h => h.elim) (fun b e1 e2 => HNE.out b e2 e1)
          · intro b hb1 hb2
            rcases HOB9.out with e | e
            · exact HNE.out b (e ▸ hb1) hb2
            · rw [e] at hb1
              cases hb1
              have h1 := (HOL8.out.own _ hb2).2
              rw [World.size_alloc] at h1
              omega
          · exact (HB8.out.alloc HB8.out.size _).grown HG9.out (by have := HB8.out.size; simp only [World.size_alloc]; omega) (fun c hc => (HOG8.out.own c hc).1)
        case measure => simp [intOf]; try omega
  · obtain rfl : gl = q := by omega
    have hall : sg.take gl = sg := List.take_of_length_le (by rw [HGL.out]; exact Nat.le_refl _)
    rw [hall] at HOG HOL
    clear hall hlt
    have hlo : gb + 1 + 1 < w4.heap.size := blk_lt HR.out
    have HOW := Lib.hid (show ∀ b, (Value.slice la ll lc).ownBlock = some b → gb + 1 + 1 < b from fun b e => Nat.lt_of_lt_of_le hlo (HOL.out.own b e).1)
    have HOV := Lib.hid (show ∀ b, (Value.slice va vl vc).ownBlock = some b → gb + 1 + 1 < b from fun b e => Nat.lt_of_lt_of_le hlo (HOG.out.own b e).1)
    have hf3 := blk_frozen HPr.out 3
    have HP7 := Lib.hid (blk_set HPr.out (i := 3) (.slice la ll lc))
    have HR7 := Lib.hid ((Below.heap_setCell wr ⟨gb, 3, none⟩ (.slice la ll lc) (gb + 1 + 1) (by simp; omega)).trans HRr.out)
    have HG7 := Lib.hid ((Gr.refl (fun b => b = gb) wr).setCell (p := ⟨gb, 3, none⟩) (.inl rfl) (.slice la ll lc))
    have HB7 := Lib.hid (HBr.out.setCell (p := ⟨gb, 3, none⟩) (by rw [HGB.out]; exact Nat.le_refl _) (.slice la ll lc))
    have HOL7 := Lib.hid (HOL.out.gr HG7.out (fun _ h => h.elim) (fun b e => by have := HOW.out b e; omega))
    have HOG7 := Lib.hid (HOG.out.gr HG7.out (fun _ h => h.elim) (fun b e => by have := HOV.out b e; omega))
    clear hlo
    go_upto_region 23 with fail
    generalize World.setCell wr ⟨gb, 3, none⟩ (.slice la ll lc) = w7 at HP7 HR7 HG7 HB7 HOL7 HOG7 ⊢
    clear z3 hf3
    have HSET := Lib.hid (setRow_heap _ _ _ #[.int .i64 ne, .int .i64 np, .slice sa sl sc, .slice la ll lc] _ _ HR7.out)
    have HGS := Lib.hid (gr_setRow w7 (gb + 1 + 1) #[.int .i64 ne, .int .i64 np, .slice sa sl sc, .slice la ll lc])
    have z0 := blk_cell HP7.out 0
    have z1 := blk_cell HP7.out 1
    have z2 := blk_cell HP7.out 2
    have z3 := blk_cell HP7.out 3
    simp at z0 z1 z2 z3
    go_wp2_with (refine wpList_store_row rfl _ _ _ rfl (gb + 1 + 1) #[.int .i64 ne, .int .i64 np, .slice sa sl sc, .slice la ll lc] rfl rfl 35 _ HR7.out (by kernel_rfl) (by rfl) (by simp [Value.oneCell']) ?_)
    refine bodyPost_ret (results_cell_tmp2 rfl _ _ (gb + 1 + 1) 35 _ (0, 0) _ rfl HSET.out Tryz.underlying35 rfl (by kernel_rfl)) rfl ?_
    have hBF : Below w.heap.size w (World.setRow w7 (gb + 1 + 1) #[.int .i64 ne, .int .i64 np, .slice sa sl sc, .slice la ll lc]) := below_setRow HB7.out (by rw [HGB.out]; omega) _
    have hOF := HOL7.out.gr HGS.out (fun _ h => h.elim) (fun b e => by have := HOW.out b e; omega)
    have hOG := HOG7.out.gr HGS.out (fun _ h => h.elim) (fun b e => by have := HOV.out b e; omega)
    refine ⟨la, ll, lc, va, vl, vc, by rw [HER.out]; rfl, hBF, ⟨(HX0.out.below hBF).rt.keep (fun _ _ => rfl) (fun _ h => .inl h), HX0.out.ht, ?_, fun b hb => hb.elim (fun h => Nat.lt_of_lt_of_le (HX0.out.hS b h) hBF.size) (fun h => h.2)⟩, ?_⟩
    · rw [HKP.out]
      exact hOF.rd _ (fun _ h => h.elim) (fun b e => .inr ⟨by have := HOW.out b e; rw [HGB.out]; omega, (hOF.own b e).2⟩)
    · rw [HER.out, if_pos rfl]
      exact hOG.rd _ (fun _ h => h.elim) (fun b e => ⟨by have := HOV.out b e; rw [HGB.out]; omega, (hOG.own b e).2⟩)
end Go.Proofs.YtdcjocldggmdbaaGreat

/- Layer 53: sameKeys, sameSigned. -/
set_option linter.unusedSimpArgs false
set_option maxRecDepth 50000
namespace Go.Proofs.YtdcjocldggmdbaaGreat
open Go.RowKit Go

theorem WfIn.map_lt {S : Nat → Prop} {w : World} {p : Nat} {ts : List Tk} {ne np m n : Nat} {f : Ky → Option ByteArray} (h : WfIn S w p ts ne np m n f) : m < w.heap.size := by
  obtain ⟨D, ⟨es, clock, hb, -⟩, -⟩ := h.mp
  exact (Array.getElem?_eq_some_iff.1 hb).1
theorem WfIn.ptr_lt {S : Nat → Prop} {w : World} {p : Nat} {ts : List Tk} {ne np m n : Nat} {f : Ky → Option ByteArray} (h : WfIn S w p ts ne np m n f) : p < w.heap.size := by
  obtain ⟨_, _, _, _, h1, -⟩ := h.wf.row
  exact blk_lt h1
theorem rkey_neq (w : World) (x : Ky) : Sem.run Tryz.prog (binOp .neq 27 x.v x.v) w = .ok (.bool false) w := by
  have h := rkey_eql w x x
  rw [decide_eq_true rfl] at h
  unfold Ky.v at h ⊢
  rw [run_eql_struct] at h
  rw [run_neq_struct]
  cases hr : (Op.equalIn 10000 27 (.agg #[.string x.task, .int .i64 x.ent, .int .i64 x.per]) (.agg #[.string x.task, .int .i64 x.ent, .int .i64 x.per])).run Tryz.prog w with
  | ok b w' =>
    rw [hr] at h
    simp only [Result.andThen] at h ⊢
    cases h
    rfl
  | _ => rw [hr] at h; simp [Result.andThen] at h
set_option maxHeartbeats 2000000 in
theorem sameKeys53 {S T : Nat → Prop} (w : World) (a : Option Addr) (len cap : Nat) (a' : Option Addr) (len' cap' : Nat) (l : List Ky) (hx : Rd (.sl keyT) S w [.slice a len cap] (l.map Ky.d)) (hy : Rd (.sl keyT) T w [.slice a' len' cap'] (l.map Ky.d)) (hS : ∀ b, S b → b < w.heap.size) (hT : ∀ b, T b → b < w.heap.size) :
    Calls Tryz.prog 10 #[.slice a len cap, .slice a' len' cap'] w fun e w' => e = .returned (.bool true) ∧ Below w.heap.size w w' := by
  have HL := Lib.hid (show l.length = len from by simpa using hx.sl_flat.1)
  have hl2 : len' = len := by rw [← HL.out]; simpa using hy.sl_flat.1.symm
  subst hl2
  have hlm : len' ≤ 9223372036854775807 := Nat.le_trans hx.sl_flat.2.1 hx.sl_flat.2.2.1
  have HX := Lib.hid hx
  have HY := Lib.hid hy
  have HS := Lib.hid hS
  have HT := Lib.hid hT
  clear hx hy hS hT
  go_enter Tryz.func10, Tryz.ntmps10
  go_wp2_with fail
  go_loopw [5] (fun i wr => ∃ (q : Nat), q ≤ len' ∧ i = .int .i64 q ∧ Below w.heap.size w wr) (fun i _ => len' - (intOf i).toNat)
  case atStart => exact ⟨0, Nat.zero_le _, rfl, Below.refl _ _⟩
  obtain ⟨q, hk, rfl, hB⟩ := hrel
  have HB := Lib.hid hB
  by_cases hlt : q < len'
  · have hkI : (q : Int) < (len' : Int) := by omega
    have hql : q < l.length := by rw [HL.out]; exact hlt
    obtain ⟨b, o, rfl, -, m0, m1, m2, -⟩ := key_at (HX.out.below hB HS.out) q hql
    obtain ⟨b', o', rfl, -, n0, n1, n2, -⟩ := key_at (HY.out.below hB HT.out) q hql
    generalize l[q] = y at m0 m1 m2 n0 n1 n2
    have hneq := fun W => rkey_neq W y
    obtain ⟨y1, y2, y3⟩ := y
    unfold Ky.v at hneq
    simp only at m0 m1 m2 n0 n1 n2 hneq
    have HLT := Lib.hid hlt
    have hC0 : Cells [(⟨b, o + q * 3, none⟩, .string y1), (⟨b, o + q * 3 + 1, none⟩, .int .i64 y2), (⟨b, o + q * 3 + 2, none⟩, .int .i64 y3), (⟨b', o' + q * 3, none⟩, .string y1), (⟨b', o' + q * 3 + 1, none⟩, .int .i64 y2), (⟨b', o' + q * 3 + 2, none⟩, .int .i64 y3)] wr := ⟨m0, m1, m2, n0, n1, n2, trivial⟩
    clear m0 m1 m2 n0 n1 n2 hB hlt hql
    go_wp2_with fail
    refine wp_region_T (Cells [(⟨b, o + q * 3, none⟩, .string y1), (⟨b, o + q * 3 + 1, none⟩, .int .i64 y2), (⟨b, o + q * 3 + 2, none⟩, .int .i64 y3), (⟨b', o' + q * 3, none⟩, .string y1), (⟨b', o' + q * 3 + 1, none⟩, .int .i64 y2), (⟨b', o' + q * 3 + 2, none⟩, .int .i64 y3)]) (fun _ => false) (by kernel_rfl) ?_
    have hSss1 := Cells.drew hC0
    have hB_0_s1 : Below wr.heap.size wr wr.drew := below_drew _
    generalize wr.drew = s1 at hSss1 hB_0_s1 ⊢
    have hB_s1_s1 := Below.refl s1.heap.size s1
    refine wpAnyT_pure (i := 0) (v := ?_) rfl (by kernel_rfl) (by kernel_rfl) (by kernel_rfl) (fun _ _ _ h => h) (by rfl) ?_ ?_
    rotate_left
    · intro w; go_simp; try with_reducible rfl
    simp only [Act.put, rgA, rgB, rgC, rgD, rgE, rgF]
    refine wpAnyT_pure (i := 1) (v := ?_) rfl (by kernel_rfl) (by kernel_rfl) (by kernel_rfl) (fun _ _ _ h => h) (by rfl) ?_ ?_
    rotate_left
    · intro w; go_simp; try with_reducible rfl
    simp only [Act.put, rgA, rgB, rgC, rgD, rgE, rgF]
    refine wpAnyT_pure (i := 2) (v := ?_) rfl (by kernel_rfl) (by kernel_rfl) (by kernel_rfl) (fun _ _ _ h => h) (by rfl) ?_ ?_
    rotate_left
    · intro w; go_simp; try with_reducible rfl
    simp only [Act.put, rgA, rgB, rgC, rgD, rgE, rgF]
    refine wpAnyT_pure (i := 4) (v := ?_) rfl (by kernel_rfl) (by kernel_rfl) (by kernel_rfl) (fun _ _ _ h => h) (by rfl) ?_ ?_
    rotate_left
    · intro w; go_simp; try with_reducible rfl
    simp only [Act.put, rgA, rgB, rgC, rgD, rgE, rgF]
    refine wpAnyT_pure (i := 5) (v := ?_) rfl (by kernel_rfl) (by kernel_rfl) (by kernel_rfl) (fun _ _ _ h => h) (by rfl) ?_ ?_
    rotate_left
    · intro w; go_simp; try with_reducible rfl
    simp only [Act.put, rgA, rgB, rgC, rgD, rgE, rgF]
    refine wpAnyT_pure (i := 6) (v := ?_) rfl (by kernel_rfl) (by kernel_rfl) (by kernel_rfl) (fun _ _ _ h => h) (by rfl) ?_ ?_
    rotate_left
    · intro w; go_simp; try with_reducible rfl
    simp only [Act.put, rgA, rgB, rgC, rgD, rgE, rgF]
    refine wpAnyT_loadW (i := 3) (v := ?_) rfl (by kernel_rfl) (by kernel_rfl) (by kernel_rfl) (by kernel_rfl) (by kernel_rfl) (fun _ _ _ h => h) (Or.inl ⟨by rfl, ?_⟩) hSss1 ?_
    rotate_left
    · intro w hSw; obtain ⟨e0, e1, e2, e3, e4, e5, -⟩ := hSw; go_simp; try with_reducible rfl
    simp only [Act.put, rgA, rgB, rgC, rgD, rgE, rgF]
    refine wpAnyT_loadW (i := 7) (v := ?_) rfl (by kernel_rfl) (by kernel_rfl) (by kernel_rfl) (by kernel_rfl) (by kernel_rfl) (fun _ _ _ h => h) (Or.inl ⟨by rfl, ?_⟩) hSss1 ?_
    rotate_left
    · intro w hSw; obtain ⟨e0, e1, e2, e3, e4, e5, -⟩ := hSw; go_simp; try with_reducible rfl
    simp only [Act.put, rgA, rgB, rgC, rgD, rgE, rgF]
    refine wpAnyT_pure (i := 8) (v := ?_) rfl (by kernel_rfl) (by kernel_rfl) (by kernel_rfl) (fun _ _ _ h => h) (by rfl) ?_ ?_
    rotate_left
    · intro w; go_simp; try with_reducible rfl
    simp only [Act.put, rgA, rgB, rgC, rgD, rgE, rgF]
    refine wpAnyT_done (by kernel_rfl) ?_ _
    have HBP := Lib.hid (HB.out.trans ((hB_0_s1.trans ((hB_s1_s1).mono (hB_0_s1).size)).mono HB.out.size))
    go_wp2_with fail
    go_roundw
    case rel => exact ⟨q + 1, HLT.out, by go_num, HBP.out⟩
    case measure => simp [intOf]; try omega
  · obtain rfl : len' = q := by omega
    clear hB
    go_wp2_with fail
    go_ret
    exact ⟨rfl, HB.out⟩
end Go.Proofs.YtdcjocldggmdbaaGreat

/- Layer 53: the reference's Keys. -/
set_option linter.unusedSimpArgs false
set_option maxRecDepth 50000
namespace Go.Proofs.YtdcjocldggmdbaaGreat
open Go.RowKit Go

theorem keysL_ent (ne : Nat) (t : Tk) (per : Int) : keysL ne t per = (entL ne t.grp).map fun e => (⟨t.name, e, per⟩ : Ky) := by
  unfold keysL entL
  split
  · rfl
  · rw [List.map_map]; rfl
/-- A list of keys is handed back, in memory of its own. -/
def RKeysP (l : List Ky) (w : World) (e : Ending) (w' : World) : Prop :=
  ∃ (a : Option Addr) (len cap : Nat), e = .returned (.slice a len cap) ∧ Rd (.sl keyT) (fun b => w.heap.size ≤ b ∧ b < w'.heap.size) w' [.slice a len cap] (l.map Ky.d) ∧ Below w.heap.size w w'
theorem flat_take_len {ts : List Tk} (ne j : Nat) (per : Int) (hts : ts.length ≤ 1000) (hne : ne ≤ 1000) : ((ts.take j).flatMap fun t => keysL ne t per).length ≤ 1001000 := by
  have h1 := flat_len (ts := ts.take j) ne per
  have h2 : (ts.take j).length ≤ 1000 := by rw [List.length_take]; omega
  have h3 : (ts.take j).length * (ne + 1) ≤ 1000 * 1001 := Nat.mul_le_mul h2 (by omega)
  omega
set_option maxHeartbeats 4000000 in
theorem rkeys53 {S : Nat → Prop} (w : World) (ne np : Nat) (ts : List Tk) (sg : List Sg) (sa : Option Addr) (sl sc : Nat) (ga : Option Addr) (gl gc : Nat) (xs : List taskT.den) (h : RfW S w ts sg sa sl sc ga gl gc xs) (hn1000 : ne ≤ 1000) (hts : ts.length ≤ 1000) (per : Int) (hp : (Lit.int .i64 per).wf = true) :
    Calls Tryz.prog 37 #[rwV ne np sa sl sc ga gl gc, .int .i64 per] w (RKeysP (allP ts ne np per) w) := by
  have hp0 := heap_alloc_new w (rwO ne np sa sl sc ga gl gc)
  have hB := (Below.refl w.heap.size w).alloc (Nat.le_refl _) (rwO ne np sa sl sc ga gl gc)
  have HP := Lib.hid hp0
  have HB := Lib.hid hB
  have HX := Lib.hid (h.below hB)
  have HPW := Lib.hid hp
  have HTS := Lib.hid hts
  have HL := Lib.hid (show ts.length = sl from by rw [← h.ht, List.length_map]; exact h.rt.sl_flat.1)
  have hslm : sl ≤ 1000 := by rw [← HL.out]; exact hts
  have HSL := Lib.hid hslm
  clear h hp0 hB hp hts hslm
  by_cases hlo : per < 0
  · have HE := Lib.hid (show allP ts ne np per = [] from by unfold allP; rw [if_neg (by omega)])
    go_enter Tryz.func37, Tryz.ntmps37
    go_wp2_with fail
    go_ret
    exact ⟨none, 0, 0, rfl, by rw [HE.out]; exact rd_nil _ _ _, HB.out⟩
  by_cases hhi : (np : Int) ≤ per
  · have HE := Lib.hid (show allP ts ne np per = [] from by unfold allP; rw [if_neg (by omega)])
    go_enter Tryz.func37, Tryz.ntmps37
    go_wp2_with fail
    go_ret
    exact ⟨none, 0, 0, rfl, by rw [HE.out]; exact rd_nil _ _ _, HB.out⟩
  have HAL := Lib.hid (show allP ts ne np per = ts.flatMap fun t => keysL ne t per from by unfold allP; rw [if_pos (by omega)]; rfl)
  go_enter Tryz.func37, Tryz.ntmps37
  go_wp2_with fail
  generalize World.alloc _ _ = w1 at *
  go_loopw [5, 6] (fun v i wr => ∃ j : Nat, j ≤ sl ∧ i = .int .i64 j ∧ Owns keyT 27 w1.heap.size (fun _ => False) wr v (((ts.take j).flatMap fun t => keysL ne t per).map Ky.d) ∧ Below w1.heap.size w1 wr) (fun _ i _ => sl - (intOf i).toNat)
  case atStart => exact ⟨0, Nat.zero_le _, rfl, Owns.nil _ _ _ _, Below.refl _ _⟩
  obtain ⟨j, hj, rfl, hO, hBr⟩ := hrel
  obtain ⟨va, vl, vc, rfl, -⟩ := hO.slice
  have HO := Lib.hid hO
  have HBr := Lib.hid hBr
  have HPr := Lib.hid ((hBr.block _ (blk_lt HP.out)).trans HP.out)
  have z2 := blk_cell HPr.out 2
  simp at z2
  clear hO hBr
  by_cases hlt : j < sl
  · have hjI : (j : Int) < (sl : Int) := by omega
    have hslm := HSL.out
    have hjx : j < xs.length := by
      have h1 := HX.out.rt.sl_flat.1
      omega
    have hjt : j < ts.length := by rw [HL.out]; exact hlt
    obtain ⟨b, off, na, nl, nc, rfl, -, m0, m1, m2, m3, -, hnm⟩ := task_at HX.out.rt j hjx
    have hat : tk xs[j] = ts[j] := by simp only [← HX.out.ht, List.getElem_map]
    rw [hat] at m0 m2 m3 hnm
    have HSU := Lib.hid (show (ts.take (j + 1)).flatMap (fun t => keysL ne t per) = (ts.take j).flatMap (fun t => keysL ne t per) ++ (entL ne ts[j].grp).map (fun e => (⟨ts[j].name, e, per⟩ : Ky)) from by
      rw [List.take_succ_eq_append_getElem hjt, List.flatMap_append, List.flatMap_cons, List.flatMap_nil, List.append_nil, keysL_ent])
    have HAC := Lib.hid (show ((ts.take j).flatMap fun t => keysL ne t per).length + ((entL ne ts[j].grp).map (fun e => (⟨ts[j].name, e, per⟩ : Ky))).length ≤ 1001000 from by
      have h := flat_take_len (ts := ts) ne (j + 1) per HTS.out hn1000
      rw [HSU.out, List.length_append] at h
      exact h)
    have HLT := Lib.hid hlt
    generalize ts[j] = t at m0 m2 m3 hnm HSU HAC
    have HNM2 := Lib.hid hnm
    obtain ⟨tnm, tnd, tg, ta⟩ := t
    simp only at m0 m2 m3 HNM2 HSU HAC
    have HM0 := Lib.hid m0
    have hC1 : Cells [(⟨w.heap.size, 0, none⟩, .int .i64 ne), (⟨w.heap.size, 1, none⟩, .int .i64 np), (⟨w.heap.size, 2, none⟩, .slice (some ⟨b, off, none⟩) sl sc), (⟨w.heap.size, 3, none⟩, .slice ga gl gc), (⟨b, off + j * 4, none⟩, .string tnm), (⟨b, off + j * 4 + 1, none⟩, .slice na nl nc), (⟨b, off + j * 4 + 2, none⟩, .bool tg), (⟨b, off + j * 4 + 3, none⟩, .bool ta)] wr := ⟨blk_cell HPr.out 0, blk_cell HPr.out 1, blk_cell HPr.out 2, blk_cell HPr.out 3, cell_below m0 HBr.out, cell_below m1 HBr.out, cell_below m2 HBr.out, cell_below m3 HBr.out, trivial⟩
    clear hjx hjt hat hlt m0 m1 m2 m3 hnm
    go_wp2_with fail
    refine wp_region_T (Cells [(⟨w.heap.size, 0, none⟩, .int .i64 ne), (⟨w.heap.size, 1, none⟩, .int .i64 np), (⟨w.heap.size, 2, none⟩, .slice (some ⟨b, off, none⟩) sl sc), (⟨w.heap.size, 3, none⟩, .slice ga gl gc), (⟨b, off + j * 4, none⟩, .string tnm), (⟨b, off + j * 4 + 1, none⟩, .slice na nl nc), (⟨b, off + j * 4 + 2, none⟩, .bool tg), (⟨b, off + j * 4 + 3, none⟩, .bool ta)]) (fun _ => false) (by kernel_rfl) ?_
    have hSss1 := Cells.drew hC1
    have hB_0_s1 : Below wr.heap.size wr wr.drew := below_drew _
    generalize wr.drew = s1 at hSss1 hB_0_s1 ⊢
    have hB_s1_s1 := Below.refl s1.heap.size s1
    refine wpAnyT_pure (i := 1) (v := ?_) rfl (by kernel_rfl) (by kernel_rfl) (by kernel_rfl) (fun _ _ _ h => h) (by rfl) ?_ ?_
    rotate_left
    · intro w; go_simp; try with_reducible rfl
    simp only [Act.put, rgA, rgB, rgC, rgD, rgE, rgF]
    refine wpAnyT_pure (i := 3) (v := ?_) rfl (by kernel_rfl) (by kernel_rfl) (by kernel_rfl) (fun _ _ _ h => h) (by rfl) ?_ ?_
    rotate_left
    · intro w; go_simp; try with_reducible rfl
    simp only [Act.put, rgA, rgB, rgC, rgD, rgE, rgF]
    refine wpAnyT_loadW (i := 0) (v := ?_) rfl (by kernel_rfl) (by kernel_rfl) (by kernel_rfl) (by kernel_rfl) (by kernel_rfl) (fun _ _ _ h => h) (Or.inl ⟨by rfl, ?_⟩) hSss1 ?_
    rotate_left
    · intro w hSw; obtain ⟨e0, e1, e2, e3, e4, e5, e6, e7, -⟩ := hSw; go_simp; try with_reducible rfl
    simp only [Act.put, rgA, rgB, rgC, rgD, rgE, rgF]
    refine wpAnyT_loadW (i := 2) (v := ?_) rfl (by kernel_rfl) (by kernel_rfl) (by kernel_rfl) (by kernel_rfl) (by kernel_rfl) (fun _ _ _ h => h) (Or.inl ⟨by rfl, ?_⟩) hSss1 ?_
    rotate_left
    · intro w hSw; obtain ⟨e0, e1, e2, e3, e4, e5, e6, e7, -⟩ := hSw; go_simp; try with_reducible rfl
    simp only [Act.put, rgA, rgB, rgC, rgD, rgE, rgF]
    refine wpAnyT_pure (i := 4) (v := ?_) rfl (by kernel_rfl) (by kernel_rfl) (by kernel_rfl) (fun _ _ _ h => h) (by rfl) ?_ ?_
    rotate_left
    · intro w; go_simp; try with_reducible rfl
    simp only [Act.put, rgA, rgB, rgC, rgD, rgE, rgF]
    refine wpAnyT_loadW (i := 5) (v := ?_) rfl (by kernel_rfl) (by kernel_rfl) (by kernel_rfl) (by kernel_rfl) (by kernel_rfl) (fun _ _ _ h => h) (Or.inl ⟨by rfl, ?_⟩) hSss1 ?_
    rotate_left
    · intro w hSw; obtain ⟨e0, e1, e2, e3, e4, e5, e6, e7, -⟩ := hSw; go_simp; try with_reducible rfl
    simp only [Act.put, rgA, rgB, rgC, rgD, rgE, rgF]
    refine wpAnyT_one (i := 6) (by kernel_rfl) rfl (by rfl) ?_
    have hbP : Below wr.heap.size wr s1 := hB_0_s1.trans ((hB_s1_s1).mono (hB_0_s1).size)
    refine wp_enter (f := 50) (args := #[rwV ne np (some ⟨b, off, none⟩) sl sc ga gl gc, .agg #[.string tnm, .slice na nl nc, .bool tg, .bool ta]]) (by go_simp) (rents53 s1 ne np hn1000 (some ⟨b, off, none⟩) sl sc ga gl gc tnm na nl nc tg ta) ?_
    rintro e w102 ⟨la, ll, lc, rfl, hrd, hX⟩
    have HL5 := Lib.hid (show Rd (.sl (.int .i64)) (fun b => wr.heap.size ≤ b ∧ b < (w102).heap.size) w102 [.slice la ll lc] (entL ne tg) from hrd.keep (fun _ _ => rfl) (fun b hb => ⟨Nat.le_trans hbP.size hb.1, hb.2⟩))
    clear hrd hbP
    have hB_s1_w102 := below_step hB_s1_s1 hX
    have hB_w102_w102 := Below.refl w102.heap.size w102
    have hSsw102 := Cells.below hB_s1_w102 hSss1
    clear hX
    refine ⟨_, rfl, fun _ _ => hSsw102, ?_⟩
    try simp only [Act.put, rgA, rgB, rgC, rgD, rgE, rgF]
    refine wpAnyT_pure (i := 7) (v := ?_) rfl (by kernel_rfl) (by kernel_rfl) (by kernel_rfl) (fun _ _ _ h => h) (by rfl) ?_ ?_
    rotate_left
    · intro w; go_simp; try with_reducible rfl
    simp only [Act.put, rgA, rgB, rgC, rgD, rgE, rgF]
    refine wpAnyT_done (by kernel_rfl) ?_ _
    have HB5 := Lib.hid (hB_0_s1.trans ((hB_s1_w102).mono (hB_0_s1).size))
    obtain ⟨w5, rfl⟩ : ∃ x, x = w102 := ⟨_, rfl⟩
    have HLL := Lib.hid (show (entL ne tg).length = ll from HL5.out.sl_flat.1)
    have hllm : ll ≤ 1000 := by
      rw [← HLL.out]
      unfold entL
      split
      · simp
      · rw [List.length_map, List.length_range]; exact hn1000
    have HLM := Lib.hid hllm
    have HBr5 := Lib.hid (HBr.out.trans (HB5.out.mono HBr.out.size))
    have HO5 := Lib.hid (HO.out.below HB5.out)
    have HOB := Lib.hid (fun ob h => (HO.out.own ob h).2)
    have HC5 := Lib.hid (Cells.below HB5.out hC1)
    have HSZ5 := Lib.hid HB5.out.size
    obtain ⟨w3, hw3⟩ : ∃ x, x = wr := ⟨_, rfl⟩
    rw [← hw3] at HOB HSZ5 HL5 HB5
    clear hw3 hC1 HO HPr HBr z2 hllm
    obtain ⟨l0, hl0⟩ : ∃ x, x = (ts.take j).flatMap (fun t => keysL ne t per) := ⟨_, rfl⟩
    rw [← hl0] at HO5 HSU HAC
    clear hl0
    have HEK := Lib.hid (show ∀ q (hq : q < (entL ne tg).length), (Lit.int .i64 ((entL ne tg)[q])).wf = true from fun q hq => by
      obtain ⟨-, -, -, vs, hr, -⟩ := HL5.out.sl_flat
      obtain ⟨c, -, -, h⟩ := hr.at_ q hq
      exact h.2)
    generalize entL ne tg = el at HL5 HLL HSU HAC HEK
    go_wp2_with fail
    go_loopw [5, 8] (fun v iv wr => ∃ q : Nat, q ≤ ll ∧ iv = .int .i64 q ∧ Owns keyT 27 w1.heap.size (fun _ => False) wr v ((l0 ++ (el.take q).map (fun e => (⟨tnm, e, per⟩ : Ky))).map Ky.d) ∧ Below w1.heap.size w1 wr ∧ w5.heap.size ≤ wr.heap.size ∧ (∀ ob, v.ownBlock = some ob → ob < w3.heap.size ∨ w5.heap.size ≤ ob) ∧ ∀ b, w3.heap.size ≤ b → b < w5.heap.size → wr.heap[b]? = w5.heap[b]?) (fun _ iv _ => ll - (intOf iv).toNat)
    case atStart => exact ⟨0, Nat.zero_le _, rfl, by simpa using HO5.out, HBr5.out, Nat.le_refl _, fun ob h => .inl (HOB.out ob h), fun _ _ _ => rfl⟩
    obtain ⟨q, hq, rfl, hO, hBr, hsz, hob, hfr⟩ := hrel
    obtain ⟨oa', ol', oc', rfl, -⟩ := hO.slice
    have HO := Lib.hid hO
    have HBr := Lib.hid hBr
    have HSZ := Lib.hid hsz
    have HOBq := Lib.hid hob
    have HFR := Lib.hid hfr
    clear hO hBr hsz hob hfr
    by_cases hlq : q < ll
    · have hllm := HLM.out
      have hqI : (q : Int) < (ll : Int) := by omega
      have hqx : q < el.length := by rw [HLL.out]; exact hlq
      have HLTQ := Lib.hid hlq
      have HWFE := Lib.hid (HEK.out q hqx)
      have HTN := Lib.hid (show (l0 ++ (el.take (q + 1)).map (fun e => (⟨tnm, e, per⟩ : Ky))).map Ky.d = (l0 ++ (el.take q).map (fun e => (⟨tnm, e, per⟩ : Ky))).map Ky.d ++ [Ky.d ⟨tnm, el[q], per⟩] from by
        rw [List.take_succ_eq_append_getElem hqx]
        simp only [List.map_append, List.map_cons, List.map_nil, List.append_assoc])
      have HACQ := Lib.hid (show (l0 ++ (el.take q).map (fun e => (⟨tnm, e, per⟩ : Ky))).length + 1 ≤ 1001000 from by
        have h1 := HAC.out
        rw [List.length_map] at h1
        rw [List.length_append, List.length_map, List.length_take]
        omega)
      obtain ⟨-, -, -, hat⟩ := HL5.out.sl1 rfl
      obtain ⟨lb, lo, lv, rfl, hlb, n0, hlv, -⟩ := hat q hqx
      obtain rfl : lv = .int .i64 el[q] := by simpa using hlv
      replace n0 : wr.cell? ⟨lb, lo + q, none⟩ = some (.int .i64 el[q]) := (World.cell?_of_block (w := w5) (HFR.out lb hlb.1 hlb.2)).trans n0
      obtain ⟨en, hen⟩ : ∃ en, en = el[q] := ⟨_, rfl⟩
      rw [← hen] at HWFE HTN
      replace n0 : wr.cell? ⟨lb, lo + q, none⟩ = some (.int .i64 en) := by rw [hen]; exact n0
      clear hen
      have hpr := (HBr.out.block _ (blk_lt HP.out)).trans HP.out
      have HKO := Lib.hid (show Ky.ok ⟨tnm, en, per⟩ from ⟨HNM2.out, HWFE.out, HPW.out⟩)
      have hC2 : Cells [(⟨w.heap.size, 2, none⟩, .slice (some ⟨b, off, none⟩) sl sc), (⟨b, off + j * 4, none⟩, .string tnm), (⟨lb, lo + q, none⟩, .int .i64 en)] wr := ⟨blk_cell hpr 2, cell_below HM0.out HBr.out, n0, trivial⟩
      clear hat hlb n0 hpr hlq hlv hqx
      go_wp2_with fail
      refine wp_region_T (Cells [(⟨w.heap.size, 2, none⟩, .slice (some ⟨b, off, none⟩) sl sc), (⟨b, off + j * 4, none⟩, .string tnm), (⟨lb, lo + q, none⟩, .int .i64 en)]) (fun i => i == 14) (by kernel_rfl) ?_
      have hSss3 := Cells.drew hC2
      have hB_0_s3 : Below wr.heap.size wr wr.drew := below_drew _
      generalize wr.drew = s3 at hSss3 hB_0_s3 ⊢
      have hB_s3_s3 := Below.refl s3.heap.size s3
      refine wpAnyT_pure (i := 0) (v := ?_) rfl (by kernel_rfl) (by kernel_rfl) (by kernel_rfl) (fun _ _ _ h => h) (by rfl) ?_ ?_
      rotate_left
      · intro w; go_simp; try with_reducible rfl
      simp only [Act.put, rgA, rgB, rgC, rgD, rgE, rgF]
      refine wpAnyT_pure (i := 1) (v := ?_) rfl (by kernel_rfl) (by kernel_rfl) (by kernel_rfl) (fun _ _ _ h => h) (by rfl) ?_ ?_
      rotate_left
      · intro w; go_simp; try with_reducible rfl
      simp only [Act.put, rgA, rgB, rgC, rgD, rgE, rgF]
      refine wpAnyT_pure (i := 3) (v := ?_) rfl (by kernel_rfl) (by kernel_rfl) (by kernel_rfl) (fun _ _ _ h => h) (by rfl) ?_ ?_
      rotate_left
      · intro w; go_simp; try with_reducible rfl
      simp only [Act.put, rgA, rgB, rgC, rgD, rgE, rgF]
      refine wpAnyT_pure (i := 7) (v := ?_) rfl (by kernel_rfl) (by kernel_rfl) (by kernel_rfl) (fun _ _ _ h => h) (by rfl) ?_ ?_
      rotate_left
      · intro w; go_simp; try with_reducible rfl
      simp only [Act.put, rgA, rgB, rgC, rgD, rgE, rgF]
      refine wpAnyT_pure (i := 8) (v := ?_) rfl (by kernel_rfl) (by kernel_rfl) (by kernel_rfl) (fun _ _ _ h => h) (by rfl) ?_ ?_
      rotate_left
      · intro w; go_simp; try with_reducible rfl
      simp only [Act.put, rgA, rgB, rgC, rgD, rgE, rgF]
      refine wpAnyT_pure (i := 9) (v := ?_) rfl (by kernel_rfl) (by kernel_rfl) (by kernel_rfl) (fun _ _ _ h => h) (by rfl) ?_ ?_
      rotate_left
      · intro w; go_simp; try with_reducible rfl
      simp only [Act.put, rgA, rgB, rgC, rgD, rgE, rgF]
      refine wpAnyT_pure (i := 11) (v := ?_) rfl (by kernel_rfl) (by kernel_rfl) (by kernel_rfl) (fun _ _ _ h => h) (by rfl) ?_ ?_
      rotate_left
      · intro w; go_simp; try with_reducible rfl
      simp only [Act.put, rgA, rgB, rgC, rgD, rgE, rgF]
      refine wpAnyT_loadW (i := 2) (v := ?_) rfl (by kernel_rfl) (by kernel_rfl) (by kernel_rfl) (by kernel_rfl) (by kernel_rfl) (fun _ _ _ h => h) (Or.inl ⟨by rfl, ?_⟩) hSss3 ?_
      rotate_left
      · intro w hSw; obtain ⟨e0, e1, e2, -⟩ := hSw; go_simp; try with_reducible rfl
      simp only [Act.put, rgA, rgB, rgC, rgD, rgE, rgF]
      refine wpAnyT_pure (i := 4) (v := ?_) rfl (by kernel_rfl) (by kernel_rfl) (by kernel_rfl) (fun _ _ _ h => h) (by rfl) ?_ ?_
      rotate_left
      · intro w; go_simp; try with_reducible rfl
      simp only [Act.put, rgA, rgB, rgC, rgD, rgE, rgF]
      refine wpAnyT_pure (i := 5) (v := ?_) rfl (by kernel_rfl) (by kernel_rfl) (by kernel_rfl) (fun _ _ _ h => h) (by rfl) ?_ ?_
      rotate_left
      · intro w; go_simp; try with_reducible rfl
      simp only [Act.put, rgA, rgB, rgC, rgD, rgE, rgF]
      refine wpAnyT_loadW (i := 6) (v := ?_) rfl (by kernel_rfl) (by kernel_rfl) (by kernel_rfl) (by kernel_rfl) (by kernel_rfl) (fun _ _ _ h => h) (Or.inl ⟨by rfl, ?_⟩) hSss3 ?_
      rotate_left
      · intro w hSw; obtain ⟨e0, e1, e2, -⟩ := hSw; go_simp; try with_reducible rfl
      simp only [Act.put, rgA, rgB, rgC, rgD, rgE, rgF]
      refine wpAnyT_loadW (i := 10) (v := ?_) rfl (by kernel_rfl) (by kernel_rfl) (by kernel_rfl) (by kernel_rfl) (by kernel_rfl) (fun _ _ _ h => h) (Or.inl ⟨by rfl, ?_⟩) hSss3 ?_
      rotate_left
      · intro w hSw; obtain ⟨e0, e1, e2, -⟩ := hSw; go_simp; try with_reducible rfl
      simp only [Act.put, rgA, rgB, rgC, rgD, rgE, rgF]
      refine wpAnyT_pure (i := 12) (v := ?_) rfl (by kernel_rfl) (by kernel_rfl) (by kernel_rfl) (fun _ _ _ h => h) (by rfl) ?_ ?_
      rotate_left
      · intro w; go_simp; try with_reducible rfl
      simp only [Act.put, rgA, rgB, rgC, rgD, rgE, rgF]
      refine wpAnyT_one (i := 13) (by kernel_rfl) rfl (by rfl) ?_
      obtain ⟨b10, hb10⟩ : ∃ b, s3.heap.size = b := ⟨_, rfl⟩
      refine wp_newrow (v := .slice (some ⟨b10, 0, none⟩) 1 1) (cs := #[.string tnm, .int .i64 en, .int .i64 per]) (te := 27) (by rw [← hb10]; go_simp) ?_
      intro w104 hX hN10
      rw [hb10] at hN10
      have hB_s3_w104 := below_step hB_s3_s3 hX
      have hB_w104_w104 := Below.refl w104.heap.size w104
      have hSsw104 := Cells.below hB_s3_w104 hSss3
      clear hX
      refine ⟨fun _ _ => hSsw104, ?_⟩
      try simp only [Act.put, rgA, rgB, rgC, rgD, rgE, rgF]
      refine wpAnyT_one (i := 14) (by kernel_rfl) rfl (by rfl) ?_
      have hBr : Below wr.heap.size wr w104 := hB_0_s3.trans ((hB_s3_w104).mono (hB_0_s3).size)
      refine wp_app (.tmp 37) (.tmp 50) 39 rfl (e := keyT) (te := 27) info_rkey Tryz.underlying39 rfl (by decide) (base := w1.heap.size) (S := fun _ => False) (v := .slice oa' ol' oc') (xs := (l0 ++ (el.take q).map (fun e => (⟨tnm, e, per⟩ : Ky))).map Ky.d) (by kernel_rfl) (HO.out.below hBr) (Nat.le_trans HBr.out.size hBr.size) (sv := .slice (some ⟨b10, 0, none⟩) 1 1) (by kernel_rfl) (ys := [Ky.d ⟨tnm, en, per⟩]) (Src.of_cells (news := [.string tnm, .int .i64 en, .int .i64 per]) (fun j u hu => by rw [Nat.zero_add, blk_cell hN10]; simpa using hu)) (RdL.one (e := keyT) (key_rd HKO.out)) (by have h1 := HACQ.out; rw [List.length_map]; simp only [List.length_singleton]; omega) (by have h1 := HACQ.out; rw [List.length_map]; simp only [List.length_singleton]; omega) ?_
      intro ca9 cl9 cc9 w105 O9 g9 ob9
      rw [← HTN.out] at O9
      have HO9 := Lib.hid O9
      have HB9 := Lib.hid (show Below w1.heap.size w1 w105 from (HBr.out.trans (hBr.mono HBr.out.size)).grown g9 (Nat.le_trans HBr.out.size hBr.size) (fun c hc => (HO.out.own c hc).1))
      have HSZ9 := Lib.hid (show w5.heap.size ≤ w105.heap.size from Nat.le_trans HSZ.out (Nat.le_trans hBr.size g9.size))
      have HOB9 := Lib.hid (show ∀ ob, (Value.slice ca9 cl9 cc9).ownBlock = some ob → ob < w3.heap.size ∨ w5.heap.size ≤ ob from fun ob h => by
        rcases ob9 with e | e
        · exact HOBq.out ob (e ▸ h)
        · rw [e] at h
          cases h
          exact .inr (Nat.le_trans HSZ.out hBr.size))
      have HFR9 := Lib.hid (show ∀ b, w3.heap.size ≤ b → b < w5.heap.size → w105.heap[b]? = w5.heap[b]? from fun b h1 h2 => by
        have h3 := Nat.lt_of_lt_of_le h2 HSZ.out
        refine ((g9.block b (Nat.lt_of_lt_of_le h3 hBr.size) (fun e => ?_)).trans (hBr.block b h3)).trans (HFR.out b h1 h2)
        rcases HOBq.out b e.symm with h | h <;> omega)
      clear O9 g9 ob9 hBr
      refine ⟨fun h => absurd h (by decide), ?_⟩
      try simp only [Act.put, rgA, rgB, rgC, rgD, rgE, rgF]
      refine wpAnyT_pure (i := 15) (v := ?_) rfl (by kernel_rfl) (by kernel_rfl) (by kernel_rfl) (fun _ _ _ h => h) (by rfl) ?_ ?_
      rotate_left
      · intro w; go_simp; try with_reducible rfl
      simp only [Act.put, rgA, rgB, rgC, rgD, rgE, rgF]
      refine wpAnyT_done (by kernel_rfl) ?_ _
      obtain ⟨w9, rfl⟩ : ∃ x, x = w105 := ⟨_, rfl⟩
      go_wp2_with fail
      go_roundw
      case rel => exact ⟨q + 1, HLTQ.out, by go_num, HO9.out, HB9.out, HSZ9.out, HOB9.out, HFR9.out⟩
      case measure => simp [intOf]; try omega
    · obtain rfl : ll = q := by omega
      have hall : el.take ll = el := List.take_of_length_le (by rw [HLL.out]; exact Nat.le_refl _)
      rw [hall] at HO
      clear hall hlq
      go_wp2_with fail
      go_roundw
      case rel => exact ⟨j + 1, HLT.out, by go_num, by rw [HSU.out]; exact HO.out, HBr.out⟩
      case measure => simp [intOf]; try omega
  · obtain rfl : sl = j := by omega
    have hall : ts.take sl = ts := List.take_of_length_le (by rw [HL.out]; exact Nat.le_refl _)
    rw [hall, ← HAL.out] at HO
    clear hall hlt
    go_wp2_with fail
    go_ret
    exact ⟨_, _, _, rfl, HO.out.rd _ (fun _ h => h.elim) (fun c hc => ⟨Nat.le_trans HB.out.size (HO.out.own c hc).1, (HO.out.own c hc).2⟩), below_step HB.out HBr.out⟩
end Go.Proofs.YtdcjocldggmdbaaGreat

/- Layer 53: the prerequisites in order (plain). -/
set_option linter.unusedSimpArgs false
namespace Go.Proofs.YtdcjocldggmdbaaGreat
open Go.RowKit Go

theorem keysL_lt (ts : List Tk) (ne : Nat) (t : Tk) (per : Int) : (keysL ne t per).Pairwise fun a b => ltK ts a b = true := by
  unfold keysL
  split
  · exact List.pairwise_singleton _ _
  · refine List.pairwise_map.2 (List.Pairwise.imp ?_ List.pairwise_lt_range)
    intro a b hab
    have h := ltK_ent (ts := ts) (a := ⟨t.name, (a : Nat), per⟩) (b := ⟨t.name, (b : Nat), per⟩) rfl rfl
    refine h.trans (decide_eq_true ?_)
    show (a : Int) < (b : Int)
    omega
theorem allK_lt {ts : List Tk} {ne np : Nat} (hw : Wk ts ne np) (per : Int) : (allK ts ne per).Pairwise fun a b => ltK ts a b = true := by
  unfold allK
  refine List.pairwise_flatMap.2 ⟨fun t _ => keysL_lt ts ne t per, ?_⟩
  rw [List.pairwise_iff_getElem]
  intro i j hi hj hij x hx y hy
  have h1 := keysL_mem hx
  have h2 := keysL_mem hy
  have p1 : plc ts ts[i].name = i := (hw.v.2.2 i hi hi).2.1
  have p2 : plc ts ts[j].name = j := (hw.v.2.2 j hj hj).2.1
  have e1 : plc ts x.task = i := by rw [h1.1]; exact p1
  have e2 : plc ts y.task = j := by rw [h2.1]; exact p2
  rw [ltK_task (by rw [h1.2.1, h2.2.1]) (by omega) (by omega) (fun e => by rw [e] at e1; omega), decide_eq_true_iff, plcI_in (by omega), plcI_in (by omega)]
  omega
theorem allP_lt {ts : List Tk} {ne np : Nat} (hw : Wk ts ne np) (per : Int) : (allP ts ne np per).Pairwise fun a b => ltK ts a b = true := by
  unfold allP
  split
  · exact allK_lt hw per
  · exact .nil
/-- The keys of two periods that are in a list, in order. -/
def ordN (ts : List Tk) (ne np : Nat) (lo : Int) (l : List Ky) (t : Nat) : List Ky := (List.range t).flatMap fun i => (allP ts ne np (lo + (i : Nat))).filter fun n => decide (n ∈ l)
theorem ordN_succ (ts : List Tk) (ne np : Nat) (lo : Int) (l : List Ky) (t : Nat) : ordN ts ne np lo l (t + 1) = ordN ts ne np lo l t ++ (allP ts ne np (lo + (t : Nat))).filter fun n => decide (n ∈ l) := by
  unfold ordN
  rw [List.range_succ, List.flatMap_append, List.flatMap_cons, List.flatMap_nil, List.append_nil]
theorem ordN_lt {ts : List Tk} {ne np : Nat} (hw : Wk ts ne np) (lo : Int) (l : List Ky) (t : Nat) : (ordN ts ne np lo l t).Pairwise fun a b => ltK ts a b = true := by
  unfold ordN
  refine List.pairwise_flatMap.2 ⟨fun i _ => (allP_lt hw _).filter _, ?_⟩
  refine List.Pairwise.imp ?_ List.pairwise_lt_range
  intro i j hij x hx y hy
  have h1 := ((all_kv hw).1 (List.mem_filter.1 hx).1).2
  have h2 := ((all_kv hw).1 (List.mem_filter.1 hy).1).2
  rw [ltK_per (by rw [h1, h2]; omega), decide_eq_true_iff, h1, h2]
  omega
theorem ordN_mem {ts : List Tk} {ne np : Nat} (hw : Wk ts ne np) {k : Ky} (hk : checkI ts ne np k = 0) (n : Ky) : n ∈ ordN ts ne np (k.per - 1) (rawNeeds ts ne k) 2 ↔ n ∈ rawNeeds ts ne k := by
  unfold ordN
  rw [List.mem_flatMap]
  constructor
  · rintro ⟨i, -, h⟩
    exact of_decide_eq_true (List.mem_filter.1 h).2
  · intro h
    have hkv := (raw_kv hw hk h).1
    rcases raw_cases h with ⟨nm, hnm, hn⟩ | ⟨-, -, e⟩
    · have hp := (needOf_mem hw hk hnm hn).2.1
      exact ⟨1, by simp, List.mem_filter.2 ⟨(all_kv hw).2 ⟨hkv, by rw [hp]; omega⟩, decide_eq_true h⟩⟩
    · exact ⟨0, by simp, List.mem_filter.2 ⟨(all_kv hw).2 ⟨hkv, by rw [e]; simp⟩, decide_eq_true h⟩⟩
/-- The sorted prerequisites are those that the reference lists in order. -/
theorem need_ord {ts : List Tk} {ne np : Nat} (hw : Wk ts ne np) {k : Ky} (hk : checkI ts ne np k = 0) {l : List Ky} (hp : l.Perm (rawNeeds ts ne k)) (ha : Asc ts l) : l = ordN ts ne np (k.per - 1) (rawNeeds ts ne k) 2 := by
  have hn : (ordN ts ne np (k.per - 1) (rawNeeds ts ne k) 2).Nodup := (ordN_lt hw _ _ _).imp fun {a b} hl e => by rw [e, ltK_irr] at hl; cases hl
  refine asc_eq ha ((ordN_lt hw _ _ _).imp fun {a b} e => ltK_asym e) (fun x hx => (kv_iff.1 (raw_kv hw hk (hp.mem_iff.1 hx)).1).1) ?_
  exact (List.perm_ext_iff_of_nodup (hp.nodup_iff.2 (raw_nodup hw hk)) hn).2 fun x => by rw [hp.mem_iff, ordN_mem hw hk]
end Go.Proofs.YtdcjocldggmdbaaGreat
