/- Layer 53: the reference's Reopen. -/
import Derived.Test.YtdcjocldggmdbaaR53f
set_option linter.unusedSimpArgs false
set_option maxRecDepth 50000
namespace Go.Proofs.Ytdcjocldggmdbaa
open Go.RowKit Go

theorem left_snoc {ts : List Tk} {ne : Nat} {k : Ky} {a : List Sg} {s : Sg} (h : s.1 ∉ keysS a) :
    leftOf ts ne k (a ++ [s]) = if (decide (s.1 = k) || (rawNeeds ts ne s.1).any (fun n => decide (n ∈ goneOf ts ne k a))) = true then leftOf ts ne k a else leftOf ts ne k a ++ [s] := by
  unfold leftOf
  rw [gone_snoc]
  unfold goneStep
  by_cases hc : (decide (s.1 = k) || (rawNeeds ts ne s.1).any (fun n => decide (n ∈ goneOf ts ne k a))) = true
  · simp only [if_pos hc]
    rw [List.filter_append]
    have h1 : [s].filter (fun x => !decide (x.1 ∈ goneOf ts ne k a ++ [s.1])) = [] := by simp
    rw [h1, List.append_nil]
    refine List.filter_congr fun x hx => ?_
    have hne : x.1 ≠ s.1 := fun e => h (e ▸ List.mem_map.2 ⟨x, hx, rfl⟩)
    simp [hne]
  · simp only [if_neg hc]
    rw [List.filter_append]
    have h1 : s.1 ∉ goneOf ts ne k a := fun e => h ((gone_sub ts ne k a).subset e)
    have h2 : [s].filter (fun x => !decide (x.1 ∈ goneOf ts ne k a)) = [s] := by simp [h1]
    rw [h2]
theorem gone_step2 (ts : List Tk) (ne : Nat) (k : Ky) (a : List Sg) (s : Sg) : goneOf ts ne k (a ++ [s]) = if (decide (s.1 = k) || (rawNeeds ts ne s.1).any (fun n => decide (n ∈ goneOf ts ne k a))) = true then goneOf ts ne k a ++ [s.1] else goneOf ts ne k a := by
  rw [gone_snoc]
  rfl
theorem results_cell_tmp2 {P : Program} {fn : Func} {p t u : Tmp} {ty : TypeId} (h : fn.results = #[.cell p ty, .tmp t, .tmp u]) (tmps : Array Value) (w : World) (g : Nat) (te : TypeId) (cs : Array Value) (fr : Nat × Nat) (d : TypeDesc)
    (hp : tmps.getD p undef = .pointer (some ⟨g, 0, none⟩)) (hg : w.heap[g]? = some (.cells cs te fr))
    (hu : P.underlying ty = some d) (hd : (match d with | .struct _ | .array _ _ => true | _ => false) = true) (hi : (P.info? ty).map (·.size) = some cs.size) :
    (results fn tmps).run P w = .ok (.tuple #[.agg cs, tmps.getD t undef, tmps.getD u undef]) w := by
  have hp' : tmps[p]?.getD undef = .pointer (some ⟨g, 0, none⟩) := by simpa using hp
  simp [results, h, hp', asAddr, run_loadVar_row w g te ty cs fr d hg hu hd hi]
theorem reop_keep {ts : List Tk} {ne np : Nat} {sg : List Sg} {k : Ky} {e : Int} (h : reopI ts ne np sg k = e) (he : e ≠ 0) : reopS ts ne np sg k = sg := by
  unfold reopS
  rw [if_neg (by rw [h]; exact he)]
theorem rd_nil (e : Ty) (S : Nat → Prop) (w : World) : Rd (.sl e) S w [.slice none 0 0] [] := ⟨none, 0, 0, rfl, rfl, Nat.le_refl _, by omega, .inl rfl⟩
/-- What the reference's Reopen leaves. -/
def RReopP (S : Nat → Prop) (w : World) (ne np : Nat) (ts : List Tk) (sg : List Sg) (k : Ky) (sa : Option Addr) (sl sc : Nat) (xs : List taskT.den) (e : Ending) (w' : World) : Prop :=
  ∃ (ga : Option Addr) (gl gc : Nat) (a : Option Addr) (l c : Nat), e = .returned (.tuple #[rwV ne np sa sl sc ga gl gc, .slice a l c, .int .i64 (reopI ts ne np sg k)]) ∧ Below w.heap.size w w' ∧ RfW (fun b => S b ∨ (w.heap.size ≤ b ∧ b < w'.heap.size)) w' ts (reopS ts ne np sg k) sa sl sc ga gl gc xs ∧ Rd (.sl keyT) (fun b => w.heap.size ≤ b ∧ b < w'.heap.size) w' [.slice a l c] ((if reopI ts ne np sg k = 0 then goneOf ts ne k sg else []).map Ky.d)
set_option maxHeartbeats 4000000 in
theorem rreop53 {S : Nat → Prop} (w : World) (ne np : Nat) (ts : List Tk) (sg : List Sg) (sa : Option Addr) (sl sc : Nat) (ga : Option Addr) (gl gc : Nat) (xs : List taskT.den) (h : RfW S w ts sg sa sl sc ga gl gc xs) (hw : Wk ts ne np) (hn1000 : ne ≤ 1000) (hso : SgOk ts ne np sg) (hgl : gl ≤ 1000) (k : Ky) :
    Calls Try.prog 17 #[rwV ne np sa sl sc ga gl gc, k.v] w (RReopP S w ne np ts sg k sa sl sc xs) := by
  obtain ⟨k1, k2, k3⟩ := k
  have HSO := Lib.hid hso
  have HW := Lib.hid hw
  have HSB := Lib.hid h.hS
  have HGL := Lib.hid (show sg.length = gl from by simpa using h.rs.sl_flat.1)
  have HGC := Lib.hid h.rs.sl_flat.2
  have hB := (Below.refl w.heap.size w).alloc (Nat.le_refl _) (rwO ne np sa sl sc ga gl gc)
  have hB := hB.alloc hB.size (.cells #[.string k1, .int .i64 k2, .int .i64 k3] 46)
  have hB := hB.alloc hB.size (.cells #[.int .i64 0, .int .i64 0, .slice none 0 0, .slice none 0 0] 30)
  have HX0 := Lib.hid h
  have HX := Lib.hid (h.below hB)
  have HB1 := Lib.hid hB
  have hp := heap_alloc_new w (rwO ne np sa sl sc ga gl gc)
  have hk := heap_alloc2_old (w.alloc (rwO ne np sa sl sc ga gl gc)) (.cells #[.string k1, .int .i64 k2, .int .i64 k3] 46) (.cells #[.int .i64 0, .int .i64 0, .slice none 0 0, .slice none 0 0] 30)
  have hk2 := heap_alloc2_new (w.alloc (rwO ne np sa sl sc ga gl gc)) (.cells #[.string k1, .int .i64 k2, .int .i64 k3] 46) (.cells #[.int .i64 0, .int .i64 0, .slice none 0 0, .slice none 0 0] 30)
  have hBp : Below (w.alloc (rwO ne np sa sl sc ga gl gc)).heap.size (w.alloc (rwO ne np sa sl sc ga gl gc)) (((w.alloc (rwO ne np sa sl sc ga gl gc)).alloc (.cells #[.string k1, .int .i64 k2, .int .i64 k3] 46)).alloc (.cells #[.int .i64 0, .int .i64 0, .slice none 0 0, .slice none 0 0] 30)) := ((Below.refl _ _).alloc (Nat.le_refl _) _).alloc (by simp) _
  have hpp := (hBp.block _ (blk_lt hp)).trans hp
  rw [World.size_alloc] at hk hk2
  have HP := Lib.hid hpp
  have HK := Lib.hid hk
  have HR := Lib.hid hk2
  unfold Ky.v
  simp only
  clear h hB hp hk hk2 hBp hpp hso hw
  go_enter Try.func17, Try.ntmps17
  go_wp2_with fail
  generalize hw1 : World.alloc (World.alloc (w.alloc _) _) _ = w1 at *
  clear hw1
  obtain ⟨gb, hgb⟩ : ∃ q, w.heap.size = q := ⟨_, rfl⟩
  have HGB := Lib.hid hgb
  rw [hgb] at HP HK HR HSB ⊢
  clear hgb
  have z0 := blk_cell HP.out 0
  have z1 := blk_cell HP.out 1
  have z2 := blk_cell HP.out 2
  have z3 := blk_cell HP.out 3
  have y0 := blk_cell HK.out 0
  have y1 := blk_cell HK.out 1
  have y2 := blk_cell HK.out 2
  simp at z0 z1 z2 z3 y0 y1 y2
  have HC := Lib.hid (rcheck53 w1 ne np ts sg sa sl sc ga gl gc xs HX.out ⟨k1, k2, k3⟩)
  unfold Ky.v at HC
  simp only at HC
  obtain ⟨ci, hci⟩ : ∃ c, checkI ts ne np ⟨k1, k2, k3⟩ = c := ⟨_, rfl⟩
  rw [hci] at HC
  have HCI := Lib.hid hci
  clear hci
  go_wp2_with fail
  have hX := HC.out
  refine Calls.mono hX ?_
  clear hX HC
  rintro e w2 ⟨rfl, hb2⟩
  have HB1 := Lib.hid (below_step HB1.out hb2)
  have HX := Lib.hid (HX.out.below hb2)
  have HP := Lib.hid ((hb2.block _ (blk_lt HP.out)).trans HP.out)
  have HK := Lib.hid ((hb2.block _ (blk_lt HK.out)).trans HK.out)
  have HR := Lib.hid ((hb2.block _ (blk_lt HR.out)).trans HR.out)
  clear hb2 z0 z1 z2 z3 y0 y1 y2
  have z0 := blk_cell HP.out 0
  have z1 := blk_cell HP.out 1
  have z2 := blk_cell HP.out 2
  have z3 := blk_cell HP.out 3
  have y0 := blk_cell HK.out 0
  have y1 := blk_cell HK.out 1
  have y2 := blk_cell HK.out 2
  simp at z0 z1 z2 z3 y0 y1 y2
  by_cases hc0 : ci = 0
  case neg =>
    have HC0 := Lib.hid hc0
    have HER := Lib.hid (show reopI ts ne np sg ⟨k1, k2, k3⟩ = ci from (by unfold reopI; rw [HCI.out, if_neg HC0.out]))
    have HKP := Lib.hid (reop_keep HER.out (HC0.out))
    have HSET := Lib.hid (setRow_heap _ _ _ #[.int .i64 ne, .int .i64 np, .slice sa sl sc, .slice ga gl gc] _ _ HR.out)
    have HGS := Lib.hid (gr_setRow w2 (gb + 1 + 1) #[.int .i64 ne, .int .i64 np, .slice sa sl sc, .slice ga gl gc])
    have HBS := Lib.hid (HGS.out.below (n := gb) (fun b e => by omega) (by have := blk_lt HR.out; omega))
    have HXS := Lib.hid (HX.out.gr HGS.out (fun b hb e => by have := HSB.out b hb; omega))
    go_wp2_with (refine wpList_store_row rfl _ _ _ rfl (gb + 1 + 1) #[.int .i64 ne, .int .i64 np, .slice sa sl sc, .slice ga gl gc] rfl rfl 30 _ HR.out (by kernel_rfl) (by rfl) (by simp [Value.oneCell']) ?_)
    refine bodyPost_ret (results_cell_tmp2 rfl _ _ (gb + 1 + 1) 30 _ (0, 0) _ rfl HSET.out Try.underlying30 rfl (by kernel_rfl)) rfl ?_
    refine ⟨ga, gl, gc, none, 0, 0, by rw [HER.out]; rfl, HB1.out.trans (HBS.out.mono (by rw [HGB.out]; exact Nat.le_refl _)), ?_, ?_⟩
    · rw [HKP.out]
      exact HXS.out.later
    · rw [HER.out, if_neg (HC0.out)]
      exact rd_nil _ _ _
  subst hc0
  have HC := Lib.hid (rwho53 w2 ne np ts sg sa sl sc ga gl gc xs HX.out ⟨k1, k2, k3⟩)
  unfold Ky.v at HC
  simp only at HC
  obtain ⟨sb, hsb⟩ : ∃ sb, (lkS sg ⟨k1, k2, k3⟩).isSome = sb := ⟨_, rfl⟩
  obtain ⟨sw, hsw⟩ : ∃ sw, (lkS sg ⟨k1, k2, k3⟩).getD ⟨#[]⟩ = sw := ⟨_, rfl⟩
  rw [hsb, hsw] at HC
  have HSOM := Lib.hid hsb
  clear hsb hsw
  go_wp2_with fail
  have hX := HC.out
  refine Calls.mono hX ?_
  clear hX HC
  rintro e w4 ⟨rfl, hb2⟩
  have HB1 := Lib.hid (below_step HB1.out hb2)
  have HX := Lib.hid (HX.out.below hb2)
  have HP := Lib.hid ((hb2.block _ (blk_lt HP.out)).trans HP.out)
  have HK := Lib.hid ((hb2.block _ (blk_lt HK.out)).trans HK.out)
  have HR := Lib.hid ((hb2.block _ (blk_lt HR.out)).trans HR.out)
  clear hb2 z0 z1 z2 z3 y0 y1 y2
  have z0 := blk_cell HP.out 0
  have z1 := blk_cell HP.out 1
  have z2 := blk_cell HP.out 2
  have z3 := blk_cell HP.out 3
  have y0 := blk_cell HK.out 0
  have y1 := blk_cell HK.out 1
  have y2 := blk_cell HK.out 2
  simp at z0 z1 z2 z3 y0 y1 y2
  cases sb
  case false =>
    have HER := Lib.hid (show reopI ts ne np sg ⟨k1, k2, k3⟩ = 7 from (by unfold reopI; rw [if_pos HCI.out, HSOM.out]; rfl))
    have HKP := Lib.hid (reop_keep HER.out (by decide))
    have HSET := Lib.hid (setRow_heap _ _ _ #[.int .i64 ne, .int .i64 np, .slice sa sl sc, .slice ga gl gc] _ _ HR.out)
    have HGS := Lib.hid (gr_setRow w4 (gb + 1 + 1) #[.int .i64 ne, .int .i64 np, .slice sa sl sc, .slice ga gl gc])
    have HBS := Lib.hid (HGS.out.below (n := gb) (fun b e => by omega) (by have := blk_lt HR.out; omega))
    have HXS := Lib.hid (HX.out.gr HGS.out (fun b hb e => by have := HSB.out b hb; omega))
    go_wp2_with (refine wpList_store_row rfl _ _ _ rfl (gb + 1 + 1) #[.int .i64 ne, .int .i64 np, .slice sa sl sc, .slice ga gl gc] rfl rfl 30 _ HR.out (by kernel_rfl) (by rfl) (by simp [Value.oneCell']) ?_)
    refine bodyPost_ret (results_cell_tmp2 rfl _ _ (gb + 1 + 1) 30 _ (0, 0) _ rfl HSET.out Try.underlying30 rfl (by kernel_rfl)) rfl ?_
    refine ⟨ga, gl, gc, none, 0, 0, by rw [HER.out]; rfl, HB1.out.trans (HBS.out.mono (by rw [HGB.out]; exact Nat.le_refl _)), ?_, ?_⟩
    · rw [HKP.out]
      exact HXS.out.later
    · rw [HER.out, if_neg (by decide)]
      exact rd_nil _ _ _
  have HER := Lib.hid (show reopI ts ne np sg ⟨k1, k2, k3⟩ = 0 from by unfold reopI; rw [if_pos HCI.out, HSOM.out]; rfl)
  have HKP := Lib.hid (show reopS ts ne np sg ⟨k1, k2, k3⟩ = leftOf ts ne ⟨k1, k2, k3⟩ sg from by unfold reopS; rw [if_pos HER.out])
  clear z0 z1 z2 z3 y0 y1 y2
  go_wp2_with fail
  go_loopw [10, 11, 12] (fun gv lv iv wr => ∃ (q : Nat), q ≤ gl ∧ iv = .int .i64 q ∧ Owns keyT 46 w4.heap.size (fun _ => False) wr gv ((goneOf ts ne ⟨k1, k2, k3⟩ (sg.take q)).map Ky.d) ∧ Owns sgT 99 w4.heap.size (fun _ => False) wr lv ((leftOf ts ne ⟨k1, k2, k3⟩ (sg.take q)).map sgd) ∧ (∀ b, gv.ownBlock = some b → lv.ownBlock ≠ some b) ∧ Below w4.heap.size w4 wr) (fun _ _ iv _ => gl - (intOf iv).toNat)
  case atStart => exact ⟨0, Nat.zero_le _, rfl, Owns.nil _ _ _ _, Owns.nil _ _ _ _, fun b hb => by simp [Value.ownBlock] at hb, Below.refl _ _⟩
  obtain ⟨q, hq, rfl, hOg, hOl, hne, hB⟩ := hrel
  obtain ⟨va, vl, vc, rfl, -⟩ := hOg.slice
  obtain ⟨la, ll, lc, rfl, -⟩ := hOl.slice
  have HOG := Lib.hid hOg
  have HOL := Lib.hid hOl
  have HNE := Lib.hid hne
  have HB := Lib.hid hB
  have HXr := Lib.hid (HX.out.below hB)
  have HPr := Lib.hid ((hB.block _ (blk_lt HP.out)).trans HP.out)
  have HKr := Lib.hid ((hB.block _ (blk_lt HK.out)).trans HK.out)
  have HRr := Lib.hid ((hB.block _ (blk_lt HR.out)).trans HR.out)
  have HBr := Lib.hid (below_step HB1.out hB)
  clear hOg hOl hne hB
  have z3 := blk_cell HPr.out 3
  simp at z3
  by_cases hlt : q < gl
  · have hqI : (q : Int) < (gl : Int) := by omega
    have hql : q < sg.length := by rw [HGL.out]; exact hlt
    obtain ⟨b, o, rfl, -, m0, m1, m2, m3, hok⟩ := sg_at HXr.out.rs q hql
    have HKV := Lib.hid (keys_kv HSO.out (List.mem_map.2 ⟨_, List.getElem_mem hql, rfl⟩))
    have hnk : sg[q].1 ∉ keysS (sg.take q) := by
      intro h
      obtain ⟨j, hj, e⟩ := List.getElem_of_mem h
      unfold keysS at hj e
      rw [List.length_map, List.length_take] at hj
      rw [List.getElem_map, List.getElem_take] at e
      exact List.pairwise_iff_getElem.1 (asc_ne HSO.out.asc) j q (by omega) hql (by omega) e
    have HTG := Lib.hid (gone_step2 ts ne ⟨k1, k2, k3⟩ (sg.take q) sg[q])
    have HTL := Lib.hid (left_snoc (ts := ts) (ne := ne) (k := ⟨k1, k2, k3⟩) hnk)
    rw [← List.take_succ_eq_append_getElem hql] at HTG HTL
    have HNM := Lib.hid (show sg[q].2.size ≤ maxLen from HSO.out.sz _ (List.getElem_mem hql))
    generalize sg[q] = s at m0 m1 m2 m3 HTG HTL HKV HNM hok
    obtain ⟨y, wh⟩ := s
    simp only at m0 m1 m2 m3 HTG HTL HKV HNM hok
    have HYO := Lib.hid hok
    obtain ⟨eb, heb⟩ : ∃ eb, decide (y = (⟨k1, k2, k3⟩ : Ky)) = eb := ⟨_, rfl⟩
    have heq := fun W => rkey_eql W y ⟨k1, k2, k3⟩
    rw [heb] at heq HTG HTL
    have HLT := Lib.hid hlt
    have HGN := Lib.hid (show (goneOf ts ne ⟨k1, k2, k3⟩ (sg.take q)).length ≤ 1000 from by
      have h1 := (gone_sub ts ne ⟨k1, k2, k3⟩ (sg.take q)).length_le
      unfold keysS at h1
      rw [List.length_map, List.length_take] at h1
      omega)
    have HLN := Lib.hid (show (leftOf ts ne ⟨k1, k2, k3⟩ (sg.take q)).length ≤ 1000 from by
      have h1 : (leftOf ts ne ⟨k1, k2, k3⟩ (sg.take q)).length ≤ (sg.take q).length := List.length_filter_le _ _
      rw [List.length_take] at h1
      omega)
    have HLM := Lib.hid (raw_len HW.out HKV.out)
    generalize goneOf ts ne ⟨k1, k2, k3⟩ (sg.take q) = gn at HOG HTG HTL HGN
    generalize leftOf ts ne ⟨k1, k2, k3⟩ (sg.take q) = lf at HOL HTL HLN
    obtain ⟨y1, y2, y3⟩ := y
    unfold Ky.v at heq
    simp only at m0 m1 m2 heq
    clear hnk hql hlt heb hok
    have hZ := heap_alloc_new wr (.cells #[.string ⟨#[]⟩, .int .i64 0, .int .i64 0, .string ⟨#[]⟩] 99)
    have hS5 := setRow_heap _ _ _ #[.string y1, .int .i64 y2, .int .i64 y3, .string wh] _ _ hZ
    have hB5 := below_setRow ((Below.refl wr.heap.size wr).alloc (Nat.le_refl _) (.cells #[.string ⟨#[]⟩, .int .i64 0, .int .i64 0, .string ⟨#[]⟩] 99)) (Nat.le_refl _) #[.string y1, .int .i64 y2, .int .i64 y3, .string wh]
    go_upto_region 13 with (refine wpList_store_row rfl _ _ _ rfl wr.heap.size #[.string y1, .int .i64 y2, .int .i64 y3, .string wh] rfl rfl 99 _ hZ (by kernel_rfl) (by rfl) (by simp [Value.oneCell']) ?_)
    generalize World.setRow _ _ _ = w5 at hS5 hB5 ⊢
    clear hZ m0 m1 m2 m3 z3
    have HB5 := Lib.hid (below_step HB.out hB5)
    have HBr5 := Lib.hid (below_step HBr.out hB5)
    have HX5 := Lib.hid (HXr.out.below hB5)
    have HP5 := Lib.hid ((hB5.block _ (blk_lt HPr.out)).trans HPr.out)
    have HK5 := Lib.hid ((hB5.block _ (blk_lt HKr.out)).trans HKr.out)
    have HR5 := Lib.hid ((hB5.block _ (blk_lt HRr.out)).trans HRr.out)
    have HOG5 := Lib.hid (HOG.out.below hB5)
    have HOL5 := Lib.hid (HOL.out.below hB5)
    obtain ⟨rb, hrb⟩ : ∃ x, wr.heap.size = x := ⟨_, rfl⟩
    rw [hrb] at hS5 ⊢
    have HS5 := Lib.hid hS5
    clear hrb hB5 hS5 HB HBr HXr HPr HKr HRr HOG HOL
    have z0 := blk_cell HP5.out 0
    have z1 := blk_cell HP5.out 1
    have z2 := blk_cell HP5.out 2
    have z3 := blk_cell HP5.out 3
    have c0 := blk_cell HS5.out 0
    have c1 := blk_cell HS5.out 1
    have c2 := blk_cell HS5.out 2
    simp at z0 z1 z2 z3 c0 c1 c2
    have HC := Lib.hid (rneeded53 w5 ne np ts sg sa sl sc (some ⟨b, o, none⟩) gl gc xs HX5.out HW.out hn1000 ⟨y1, y2, y3⟩ HKV.out)
    unfold Ky.v at HC
    simp only at HC
    go_wp2_with fail
    have hX := HC.out
    refine Calls.mono hX ?_
    clear hX HC
    rintro e w6 ⟨na, nl, nc, rfl, hrd, hb6⟩
    generalize rawNeeds ts ne ⟨y1, y2, y3⟩ = l at hrd HTG HTL HLM
    have HL6 := Lib.hid hrd
    have HLL := Lib.hid (show l.length = nl from by simpa using hrd.sl_flat.1)
    have hnl : nl ≤ 1000 := by rw [← HLL.out]; exact HLM.out
    have HB6 := Lib.hid (below_step HB5.out hb6)
    have HBr6 := Lib.hid (below_step HBr5.out hb6)
    have HS6 := Lib.hid ((hb6.block _ (blk_lt HS5.out)).trans HS5.out)
    have HK6 := Lib.hid ((hb6.block _ (blk_lt HK5.out)).trans HK5.out)
    have HOG6 := Lib.hid (HOG5.out.below hb6)
    have HOL6 := Lib.hid (HOL5.out.below hb6)
    clear hrd hb6 z0 z1 z2 z3 c0 c1 c2 HB5 HBr5 HX5 HP5 HK5 HR5 HS5 HOG5 HOL5
    have c0 := blk_cell HS6.out 0
    have c1 := blk_cell HS6.out 1
    have c2 := blk_cell HS6.out 2
    have d0 := blk_cell HK6.out 0
    have d1 := blk_cell HK6.out 1
    have d2 := blk_cell HK6.out 2
    simp at c0 c1 c2 d0 d1 d2
    go_wp2_with fail
    clear c0 c1 c2 d0 d1 d2 heq
    go_loopw [15, 16] (fun ov jv wr => ∃ j : Nat, j ≤ nl ∧ jv = .int .i64 j ∧ ov = .bool (eb || (l.take j).any (fun n => decide (n ∈ gn))) ∧ Below w6.heap.size w6 wr) (fun _ jv _ => nl - (intOf jv).toNat)
    case atStart => exact ⟨0, Nat.zero_le _, rfl, by simp, Below.refl _ _⟩
    obtain ⟨j, hj, rfl, rfl, hB⟩ := hrel
    have HB := Lib.hid hB
    obtain ⟨ob, hob⟩ : ∃ ob, (eb || (l.take j).any (fun n => decide (n ∈ gn))) = ob := ⟨_, rfl⟩
    rw [hob]
    have HOB := Lib.hid hob
    clear hob
    by_cases hlj : j < nl
    · have hjI : (j : Int) < (nl : Int) := by omega
      have hjl : j < l.length := by rw [HLL.out]; exact hlj
      obtain ⟨b', o', rfl, -, m0, m1, m2, -⟩ := key_at (HL6.out.below hB (fun _ h => h)) j hjl
      have HAS := Lib.hid (show (eb || (l.take (j + 1)).any (fun n => decide (n ∈ gn))) = (ob || decide (l[j] ∈ gn)) from by
        rw [List.take_succ_eq_append_getElem hjl, List.any_append, ← Bool.or_assoc, HOB.out]
        simp)
      have HCH := Lib.hid (rhas53 wr va vl vc gn (rdOwn (HOG6.out.below hB)) (fun _ h => h) l[j])
      obtain ⟨mb, hmb⟩ : ∃ mb, decide (l[j] ∈ gn) = mb := ⟨_, rfl⟩
      rw [hmb] at HAS HCH
      clear hmb
      generalize l[j] = x at m0 m1 m2 HCH
      obtain ⟨x1, x2, x3⟩ := x
      unfold Ky.v at HCH
      simp only at m0 m1 m2 HCH
      have HLJ := Lib.hid hlj
      clear hjl hlj hB
      cases ob
      · go_wp2_with fail
        have hX := HCH.out
        refine Calls.mono hX ?_
        clear hX
        rintro e w8 ⟨rfl, hb8⟩
        have HB8 := Lib.hid (below_step HB.out hb8)
        clear hb8 m0 m1 m2
        go_wp2_with fail
        go_roundw
        case rel => exact ⟨j + 1, HLJ.out, by go_num, by rw [HAS.out, Bool.false_or], HB8.out⟩
        case measure => simp [intOf]; try omega
      · go_wp2_with fail
        go_roundw
        case rel => exact ⟨j + 1, HLJ.out, by go_num, by rw [HAS.out, Bool.true_or], HB.out⟩
        case measure => simp [intOf]; try omega
    · obtain rfl : nl = j := by omega
      have hall : l.take nl = l := List.take_of_length_le (by rw [HLL.out]; exact Nat.le_refl _)
      rw [hall] at HOB
      rw [HOB.out] at HTG HTL
      have HB8 := Lib.hid (below_step HB6.out hB)
      have HBr8 := Lib.hid (below_step HBr6.out hB)
      have HS8 := Lib.hid ((hB.block _ (blk_lt HS6.out)).trans HS6.out)
      have HOG8 := Lib.hid (HOG6.out.below hB)
      have HOL8 := Lib.hid (HOL6.out.below hB)
      have c0 := blk_cell HS8.out 0
      have c1 := blk_cell HS8.out 1
      have c2 := blk_cell HS8.out 2
      have c3 := blk_cell HS8.out 3
      simp at c0 c1 c2 c3
      clear hall hB HB HL6 HOG6 HOL6 HS6 HK6 hlj
      cases ob
      · simp only [Bool.false_eq_true, if_false] at HTG HTL
        go_wp2_with (at_builtin; go_must (refine wpList_app _ rfl _ _ 28 rfl (e := sgT) (te := 99) info_rsg Try.underlying28 rfl (by decide) (base := w4.heap.size) (S := fun _ => False) (v := .slice la ll lc) (xs := lf.map sgd) rfl (HOL8.out.alloc _) (by have := HB8.out.size; simp only [World.size_alloc]; omega) rfl (ys := [sgd (⟨y1, y2, y3⟩, wh)]) (Src.new _ [_, _, _, _] _ _ _) (RdL.one (e := sgT) (sg_rd HYO.out HNM.out)) (by have := HLN.out; rw [List.length_map]; simp only [List.length_singleton] at *; omega) (by have := HLN.out; rw [List.length_map]; simp only [List.length_singleton] at *; omega) ?_; intro v' w9 O9 g9 _ ob9; have HO9 := Lib.hid O9; have HG9 := Lib.hid g9; have HOB9 := Lib.hid ob9; clear O9 g9 ob9))
        clear c0 c1 c2 c3
        go_roundw
        case rel =>
          refine ⟨q + 1, HLT.out, by go_num, ?_, ?_, ?_, ?_⟩
          · rw [HTG.out]
            exact (HOG8.out.alloc _).gr (Gr.of_grown HG9.out) (fun _ h => h.elim) (fun b e1 e2 => HNE.out b e1 e2)
          · rw [HTL.out, List.map_append]
            exact HO9.out
          · intro b hb1 hb2
            rcases HOB9.out with e | e
            · exact HNE.out b hb1 (e ▸ hb2)
            · rw [e] at hb2
              cases hb2
              have h1 := (HOG8.out.own _ hb1).2
              rw [World.size_alloc] at h1
              omega
          · exact (HB8.out.alloc HB8.out.size _).grown HG9.out (by have := HB8.out.size; simp only [World.size_alloc]; omega) (fun c hc => (HOL8.out.own c hc).1)
        case measure => simp [intOf]; try omega
      · simp only [if_true] at HTG HTL
        go_wp2_with (at_builtin; go_must (refine wpList_app _ rfl _ _ 54 rfl (e := keyT) (te := 46) info_rkey Try.underlying54 rfl (by decide) (base := w4.heap.size) (S := fun _ => False) (v := .slice va vl vc) (xs := gn.map Ky.d) rfl (HOG8.out.alloc _) (by have := HB8.out.size; simp only [World.size_alloc]; omega) rfl (ys := [Ky.d ⟨y1, y2, y3⟩]) (Src.new _ [_, _, _] _ _ _) (RdL.one (e := keyT) (key_rd HYO.out)) (by have := HGN.out; rw [List.length_map]; simp only [List.length_singleton] at *; omega) (by have := HGN.out; rw [List.length_map]; simp only [List.length_singleton] at *; omega) ?_; intro v' w9 O9 g9 _ ob9; have HO9 := Lib.hid O9; have HG9 := Lib.hid g9; have HOB9 := Lib.hid ob9; clear O9 g9 ob9))
        clear c0 c1 c2 c3
        go_roundw
        case rel =>
          refine ⟨q + 1, HLT.out, by go_num, ?_, ?_, ?_, ?_⟩
          · rw [HTG.out, List.map_append]
            exact HO9.out
          · rw [HTL.out]
            exact (HOL8.out.alloc _).gr (Gr.of_grown HG9.out) (fun _ h => h.elim) (fun b e1 e2 => HNE.out b e2 e1)
          · intro b hb1 hb2
            rcases HOB9.out with e | e
            · exact HNE.out b (e ▸ hb1) hb2
            · rw [e] at hb1
              cases hb1
              have h1 := (HOL8.out.own _ hb2).2
              rw [World.size_alloc] at h1
              omega
          · exact (HB8.out.alloc HB8.out.size _).grown HG9.out (by have := HB8.out.size; simp only [World.size_alloc]; omega) (fun c hc => (HOG8.out.own c hc).1)
        case measure => simp [intOf]; try omega
  · obtain rfl : gl = q := by omega
    have hall : sg.take gl = sg := List.take_of_length_le (by rw [HGL.out]; exact Nat.le_refl _)
    rw [hall] at HOG HOL
    clear hall hlt
    have hlo : gb + 1 + 1 < w4.heap.size := blk_lt HR.out
    have HOW := Lib.hid (show ∀ b, (Value.slice la ll lc).ownBlock = some b → gb + 1 + 1 < b from fun b e => Nat.lt_of_lt_of_le hlo (HOL.out.own b e).1)
    have HOV := Lib.hid (show ∀ b, (Value.slice va vl vc).ownBlock = some b → gb + 1 + 1 < b from fun b e => Nat.lt_of_lt_of_le hlo (HOG.out.own b e).1)
    have hf3 := blk_frozen HPr.out 3
    have HP7 := Lib.hid (blk_set HPr.out (i := 3) (.slice la ll lc))
    have HR7 := Lib.hid ((Below.heap_setCell wr ⟨gb, 3, none⟩ (.slice la ll lc) (gb + 1 + 1) (by simp; omega)).trans HRr.out)
    have HG7 := Lib.hid ((Gr.refl (fun b => b = gb) wr).setCell (p := ⟨gb, 3, none⟩) (.inl rfl) (.slice la ll lc))
    have HB7 := Lib.hid (HBr.out.setCell (p := ⟨gb, 3, none⟩) (by rw [HGB.out]; exact Nat.le_refl _) (.slice la ll lc))
    have HOL7 := Lib.hid (HOL.out.gr HG7.out (fun _ h => h.elim) (fun b e => by have := HOW.out b e; omega))
    have HOG7 := Lib.hid (HOG.out.gr HG7.out (fun _ h => h.elim) (fun b e => by have := HOV.out b e; omega))
    clear hlo
    go_upto_region 23 with fail
    generalize World.setCell wr ⟨gb, 3, none⟩ (.slice la ll lc) = w7 at HP7 HR7 HG7 HB7 HOL7 HOG7 ⊢
    clear z3 hf3
    have HSET := Lib.hid (setRow_heap _ _ _ #[.int .i64 ne, .int .i64 np, .slice sa sl sc, .slice la ll lc] _ _ HR7.out)
    have HGS := Lib.hid (gr_setRow w7 (gb + 1 + 1) #[.int .i64 ne, .int .i64 np, .slice sa sl sc, .slice la ll lc])
    have z0 := blk_cell HP7.out 0
    have z1 := blk_cell HP7.out 1
    have z2 := blk_cell HP7.out 2
    have z3 := blk_cell HP7.out 3
    simp at z0 z1 z2 z3
    go_wp2_with (refine wpList_store_row rfl _ _ _ rfl (gb + 1 + 1) #[.int .i64 ne, .int .i64 np, .slice sa sl sc, .slice la ll lc] rfl rfl 30 _ HR7.out (by kernel_rfl) (by rfl) (by simp [Value.oneCell']) ?_)
    refine bodyPost_ret (results_cell_tmp2 rfl _ _ (gb + 1 + 1) 30 _ (0, 0) _ rfl HSET.out Try.underlying30 rfl (by kernel_rfl)) rfl ?_
    have hBF : Below w.heap.size w (World.setRow w7 (gb + 1 + 1) #[.int .i64 ne, .int .i64 np, .slice sa sl sc, .slice la ll lc]) := below_setRow HB7.out (by rw [HGB.out]; omega) _
    have hOF := HOL7.out.gr HGS.out (fun _ h => h.elim) (fun b e => by have := HOW.out b e; omega)
    have hOG := HOG7.out.gr HGS.out (fun _ h => h.elim) (fun b e => by have := HOV.out b e; omega)
    refine ⟨la, ll, lc, va, vl, vc, by rw [HER.out]; rfl, hBF, ⟨(HX0.out.below hBF).rt.keep (fun _ _ => rfl) (fun _ h => .inl h), HX0.out.ht, ?_, fun b hb => hb.elim (fun h => Nat.lt_of_lt_of_le (HX0.out.hS b h) hBF.size) (fun h => h.2)⟩, ?_⟩
    · rw [HKP.out]
      exact hOF.rd _ (fun _ h => h.elim) (fun b e => .inr ⟨by have := HOW.out b e; rw [HGB.out]; omega, (hOF.own b e).2⟩)
    · rw [HER.out, if_pos rfl]
      exact hOG.rd _ (fun _ h => h.elim) (fun b e => ⟨by have := HOV.out b e; rw [HGB.out]; omega, (hOG.own b e).2⟩)
end Go.Proofs.Ytdcjocldggmdbaa

/- Layer 53: sameKeys, sameSigned. -/
set_option linter.unusedSimpArgs false
set_option maxRecDepth 50000
namespace Go.Proofs.Ytdcjocldggmdbaa
open Go.RowKit Go

theorem rkey_neq (w : World) (x : Ky) : Sem.run Try.prog (binOp .neq 46 x.v x.v) w = .ok (.bool false) w := by
  have h := rkey_eql w x x
  rw [decide_eq_true rfl] at h
  unfold Ky.v at h ⊢
  rw [run_eql_struct] at h
  rw [run_neq_struct]
  cases hr : (Op.equalIn 10000 46 (.agg #[.string x.task, .int .i64 x.ent, .int .i64 x.per]) (.agg #[.string x.task, .int .i64 x.ent, .int .i64 x.per])).run Try.prog w with
  | ok b w' =>
    rw [hr] at h
    simp only [Result.andThen] at h ⊢
    cases h
    rfl
  | _ => rw [hr] at h; simp [Result.andThen] at h
set_option maxHeartbeats 2000000 in
theorem sameKeys53 {S T : Nat → Prop} (w : World) (a : Option Addr) (len cap : Nat) (a' : Option Addr) (len' cap' : Nat) (l : List Ky) (hx : Rd (.sl keyT) S w [.slice a len cap] (l.map Ky.d)) (hy : Rd (.sl keyT) T w [.slice a' len' cap'] (l.map Ky.d)) (hS : ∀ b, S b → b < w.heap.size) (hT : ∀ b, T b → b < w.heap.size) :
    Calls Try.prog 18 #[.slice a len cap, .slice a' len' cap'] w fun e w' => e = .returned (.bool true) ∧ Below w.heap.size w w' := by
  have HL := Lib.hid (show l.length = len from by simpa using hx.sl_flat.1)
  have hl2 : len' = len := by rw [← HL.out]; simpa using hy.sl_flat.1.symm
  subst hl2
  have hlm : len' ≤ 9223372036854775807 := Nat.le_trans hx.sl_flat.2.1 hx.sl_flat.2.2.1
  have HX := Lib.hid hx
  have HY := Lib.hid hy
  have HS := Lib.hid hS
  have HT := Lib.hid hT
  clear hx hy hS hT
  go_enter Try.func18, Try.ntmps18
  go_wp2_with fail
  go_loopw [5] (fun i wr => ∃ (q : Nat), q ≤ len' ∧ i = .int .i64 q ∧ Below w.heap.size w wr) (fun i _ => len' - (intOf i).toNat)
  case atStart => exact ⟨0, Nat.zero_le _, rfl, Below.refl _ _⟩
  obtain ⟨q, hk, rfl, hB⟩ := hrel
  have HB := Lib.hid hB
  by_cases hlt : q < len'
  · have hkI : (q : Int) < (len' : Int) := by omega
    have hql : q < l.length := by rw [HL.out]; exact hlt
    obtain ⟨b, o, rfl, -, m0, m1, m2, -⟩ := key_at (HX.out.below hB HS.out) q hql
    obtain ⟨b', o', rfl, -, n0, n1, n2, -⟩ := key_at (HY.out.below hB HT.out) q hql
    generalize l[q] = y at m0 m1 m2 n0 n1 n2
    have hneq := fun W => rkey_neq W y
    obtain ⟨y1, y2, y3⟩ := y
    unfold Ky.v at hneq
    simp only at m0 m1 m2 n0 n1 n2 hneq
    have HLT := Lib.hid hlt
    have hC0 : Cells [(⟨b, o + q * 3, none⟩, .string y1), (⟨b, o + q * 3 + 1, none⟩, .int .i64 y2), (⟨b, o + q * 3 + 2, none⟩, .int .i64 y3), (⟨b', o' + q * 3, none⟩, .string y1), (⟨b', o' + q * 3 + 1, none⟩, .int .i64 y2), (⟨b', o' + q * 3 + 2, none⟩, .int .i64 y3)] wr := ⟨m0, m1, m2, n0, n1, n2, trivial⟩
    clear m0 m1 m2 n0 n1 n2 hB hlt hql
    go_wp2_with fail
    refine wp_region_T (Cells [(⟨b, o + q * 3, none⟩, .string y1), (⟨b, o + q * 3 + 1, none⟩, .int .i64 y2), (⟨b, o + q * 3 + 2, none⟩, .int .i64 y3), (⟨b', o' + q * 3, none⟩, .string y1), (⟨b', o' + q * 3 + 1, none⟩, .int .i64 y2), (⟨b', o' + q * 3 + 2, none⟩, .int .i64 y3)]) (fun _ => false) (by kernel_rfl) ?_
    have hSss1 := Cells.drew hC0
    have hB_0_s1 : Below wr.heap.size wr wr.drew := below_drew _
    generalize wr.drew = s1 at hSss1 hB_0_s1 ⊢
    have hB_s1_s1 := Below.refl s1.heap.size s1
    refine wpAnyT_pure (i := 0) (v := ?_) rfl (by kernel_rfl) (by kernel_rfl) (by kernel_rfl) (fun _ _ _ h => h) (by rfl) ?_ ?_
    rotate_left
    · intro w; go_simp; try with_reducible rfl
    simp only [Act.put, rgA, rgB, rgC, rgD, rgE, rgF]
    refine wpAnyT_pure (i := 1) (v := ?_) rfl (by kernel_rfl) (by kernel_rfl) (by kernel_rfl) (fun _ _ _ h => h) (by rfl) ?_ ?_
    rotate_left
    · intro w; go_simp; try with_reducible rfl
    simp only [Act.put, rgA, rgB, rgC, rgD, rgE, rgF]
    refine wpAnyT_pure (i := 2) (v := ?_) rfl (by kernel_rfl) (by kernel_rfl) (by kernel_rfl) (fun _ _ _ h => h) (by rfl) ?_ ?_
    rotate_left
    · intro w; go_simp; try with_reducible rfl
    simp only [Act.put, rgA, rgB, rgC, rgD, rgE, rgF]
    refine wpAnyT_pure (i := 4) (v := ?_) rfl (by kernel_rfl) (by kernel_rfl) (by kernel_rfl) (fun _ _ _ h => h) (by rfl) ?_ ?_
    rotate_left
    · intro w; go_simp; try with_reducible rfl
    simp only [Act.put, rgA, rgB, rgC, rgD, rgE, rgF]
    refine wpAnyT_pure (i := 5) (v := ?_) rfl (by kernel_rfl) (by kernel_rfl) (by kernel_rfl) (fun _ _ _ h => h) (by rfl) ?_ ?_
    rotate_left
    · intro w; go_simp; try with_reducible rfl
    simp only [Act.put, rgA, rgB, rgC, rgD, rgE, rgF]
    refine wpAnyT_pure (i := 6) (v := ?_) rfl (by kernel_rfl) (by kernel_rfl) (by kernel_rfl) (fun _ _ _ h => h) (by rfl) ?_ ?_
    rotate_left
    · intro w; go_simp; try with_reducible rfl
    simp only [Act.put, rgA, rgB, rgC, rgD, rgE, rgF]
    refine wpAnyT_loadW (i := 3) (v := ?_) rfl (by kernel_rfl) (by kernel_rfl) (by kernel_rfl) (by kernel_rfl) (by kernel_rfl) (fun _ _ _ h => h) (Or.inl ⟨by rfl, ?_⟩) hSss1 ?_
    rotate_left
    · intro w hSw; obtain ⟨e0, e1, e2, e3, e4, e5, -⟩ := hSw; go_simp; try with_reducible rfl
    simp only [Act.put, rgA, rgB, rgC, rgD, rgE, rgF]
    refine wpAnyT_loadW (i := 7) (v := ?_) rfl (by kernel_rfl) (by kernel_rfl) (by kernel_rfl) (by kernel_rfl) (by kernel_rfl) (fun _ _ _ h => h) (Or.inl ⟨by rfl, ?_⟩) hSss1 ?_
    rotate_left
    · intro w hSw; obtain ⟨e0, e1, e2, e3, e4, e5, -⟩ := hSw; go_simp; try with_reducible rfl
    simp only [Act.put, rgA, rgB, rgC, rgD, rgE, rgF]
    refine wpAnyT_pure (i := 8) (v := ?_) rfl (by kernel_rfl) (by kernel_rfl) (by kernel_rfl) (fun _ _ _ h => h) (by rfl) ?_ ?_
    rotate_left
    · intro w; go_simp; try with_reducible rfl
    simp only [Act.put, rgA, rgB, rgC, rgD, rgE, rgF]
    refine wpAnyT_done (by kernel_rfl) ?_ _
    have HBP := Lib.hid (HB.out.trans ((hB_0_s1.trans ((hB_s1_s1).mono (hB_0_s1).size)).mono HB.out.size))
    go_wp2_with fail
    go_roundw
    case rel => exact ⟨q + 1, HLT.out, by go_num, HBP.out⟩
    case measure => simp [intOf]; try omega
  · obtain rfl : len' = q := by omega
    clear hB
    go_wp2_with fail
    go_ret
    exact ⟨rfl, HB.out⟩
set_option maxHeartbeats 2000000 in
theorem sameSigned53 {S T : Nat → Prop} (w : World) (a : Option Addr) (len cap : Nat) (a' : Option Addr) (len' cap' : Nat) (l : List Sg) (hx : Rd (.sl sgT) S w [.slice a len cap] (l.map sgd)) (hy : Rd (.sl sgT) T w [.slice a' len' cap'] (l.map sgd)) (hS : ∀ b, S b → b < w.heap.size) (hT : ∀ b, T b → b < w.heap.size) :
    Calls Try.prog 23 #[.slice a len cap, .slice a' len' cap'] w fun e w' => e = .returned (.bool true) ∧ Below w.heap.size w w' := by
  have HL := Lib.hid (show l.length = len from by simpa using hx.sl_flat.1)
  have hl2 : len' = len := by rw [← HL.out]; simpa using hy.sl_flat.1.symm
  subst hl2
  have hlm : len' ≤ 9223372036854775807 := Nat.le_trans hx.sl_flat.2.1 hx.sl_flat.2.2.1
  have HX := Lib.hid hx
  have HY := Lib.hid hy
  have HS := Lib.hid hS
  have HT := Lib.hid hT
  clear hx hy hS hT
  go_enter Try.func23, Try.ntmps23
  go_wp2_with fail
  go_loopw [5] (fun i wr => ∃ (q : Nat), q ≤ len' ∧ i = .int .i64 q ∧ Below w.heap.size w wr) (fun i _ => len' - (intOf i).toNat)
  case atStart => exact ⟨0, Nat.zero_le _, rfl, Below.refl _ _⟩
  obtain ⟨q, hk, rfl, hB⟩ := hrel
  have HB := Lib.hid hB
  by_cases hlt : q < len'
  · have hkI : (q : Int) < (len' : Int) := by omega
    have hql : q < l.length := by rw [HL.out]; exact hlt
    obtain ⟨b, o, rfl, -, m0, m1, m2, m3, -⟩ := sg_at (HX.out.below hB HS.out) q hql
    obtain ⟨b', o', rfl, -, n0, n1, n2, n3, -⟩ := sg_at (HY.out.below hB HT.out) q hql
    generalize l[q] = s at m0 m1 m2 m3 n0 n1 n2 n3
    obtain ⟨y, wh⟩ := s
    have hneq := fun W => rkey_neq W y
    obtain ⟨y1, y2, y3⟩ := y
    unfold Ky.v at hneq
    simp only at m0 m1 m2 m3 n0 n1 n2 n3 hneq
    have HLT := Lib.hid hlt
    have hC0 : Cells [(⟨b, o + q * 4, none⟩, .string y1), (⟨b, o + q * 4 + 1, none⟩, .int .i64 y2), (⟨b, o + q * 4 + 2, none⟩, .int .i64 y3), (⟨b, o + q * 4 + 3, none⟩, .string wh), (⟨b', o' + q * 4, none⟩, .string y1), (⟨b', o' + q * 4 + 1, none⟩, .int .i64 y2), (⟨b', o' + q * 4 + 2, none⟩, .int .i64 y3), (⟨b', o' + q * 4 + 3, none⟩, .string wh)] wr := ⟨m0, m1, m2, m3, n0, n1, n2, n3, trivial⟩
    clear m0 m1 m2 m3 n0 n1 n2 n3 hB hlt hql
    go_wp2_with fail
    refine wp_region_T (Cells [(⟨b, o + q * 4, none⟩, .string y1), (⟨b, o + q * 4 + 1, none⟩, .int .i64 y2), (⟨b, o + q * 4 + 2, none⟩, .int .i64 y3), (⟨b, o + q * 4 + 3, none⟩, .string wh), (⟨b', o' + q * 4, none⟩, .string y1), (⟨b', o' + q * 4 + 1, none⟩, .int .i64 y2), (⟨b', o' + q * 4 + 2, none⟩, .int .i64 y3), (⟨b', o' + q * 4 + 3, none⟩, .string wh)]) (fun _ => false) (by kernel_rfl) ?_
    have hSss2 := Cells.drew hC0
    have hB_0_s2 : Below wr.heap.size wr wr.drew := below_drew _
    generalize wr.drew = s2 at hSss2 hB_0_s2 ⊢
    have hB_s2_s2 := Below.refl s2.heap.size s2
    refine wpAnyT_pure (i := 0) (v := ?_) rfl (by kernel_rfl) (by kernel_rfl) (by kernel_rfl) (fun _ _ _ h => h) (by rfl) ?_ ?_
    rotate_left
    · intro w; go_simp; try with_reducible rfl
    simp only [Act.put, rgA, rgB, rgC, rgD, rgE, rgF]
    refine wpAnyT_pure (i := 1) (v := ?_) rfl (by kernel_rfl) (by kernel_rfl) (by kernel_rfl) (fun _ _ _ h => h) (by rfl) ?_ ?_
    rotate_left
    · intro w; go_simp; try with_reducible rfl
    simp only [Act.put, rgA, rgB, rgC, rgD, rgE, rgF]
    refine wpAnyT_pure (i := 2) (v := ?_) rfl (by kernel_rfl) (by kernel_rfl) (by kernel_rfl) (fun _ _ _ h => h) (by rfl) ?_ ?_
    rotate_left
    · intro w; go_simp; try with_reducible rfl
    simp only [Act.put, rgA, rgB, rgC, rgD, rgE, rgF]
    refine wpAnyT_pure (i := 3) (v := ?_) rfl (by kernel_rfl) (by kernel_rfl) (by kernel_rfl) (fun _ _ _ h => h) (by rfl) ?_ ?_
    rotate_left
    · intro w; go_simp; try with_reducible rfl
    simp only [Act.put, rgA, rgB, rgC, rgD, rgE, rgF]
    refine wpAnyT_pure (i := 5) (v := ?_) rfl (by kernel_rfl) (by kernel_rfl) (by kernel_rfl) (fun _ _ _ h => h) (by rfl) ?_ ?_
    rotate_left
    · intro w; go_simp; try with_reducible rfl
    simp only [Act.put, rgA, rgB, rgC, rgD, rgE, rgF]
    refine wpAnyT_pure (i := 6) (v := ?_) rfl (by kernel_rfl) (by kernel_rfl) (by kernel_rfl) (fun _ _ _ h => h) (by rfl) ?_ ?_
    rotate_left
    · intro w; go_simp; try with_reducible rfl
    simp only [Act.put, rgA, rgB, rgC, rgD, rgE, rgF]
    refine wpAnyT_pure (i := 7) (v := ?_) rfl (by kernel_rfl) (by kernel_rfl) (by kernel_rfl) (fun _ _ _ h => h) (by rfl) ?_ ?_
    rotate_left
    · intro w; go_simp; try with_reducible rfl
    simp only [Act.put, rgA, rgB, rgC, rgD, rgE, rgF]
    refine wpAnyT_pure (i := 8) (v := ?_) rfl (by kernel_rfl) (by kernel_rfl) (by kernel_rfl) (fun _ _ _ h => h) (by rfl) ?_ ?_
    rotate_left
    · intro w; go_simp; try with_reducible rfl
    simp only [Act.put, rgA, rgB, rgC, rgD, rgE, rgF]
    refine wpAnyT_loadW (i := 4) (v := ?_) rfl (by kernel_rfl) (by kernel_rfl) (by kernel_rfl) (by kernel_rfl) (by kernel_rfl) (fun _ _ _ h => h) (Or.inl ⟨by rfl, ?_⟩) hSss2 ?_
    rotate_left
    · intro w hSw; obtain ⟨e0, e1, e2, e3, e4, e5, e6, e7, -⟩ := hSw; go_simp; try with_reducible rfl
    simp only [Act.put, rgA, rgB, rgC, rgD, rgE, rgF]
    refine wpAnyT_loadW (i := 9) (v := ?_) rfl (by kernel_rfl) (by kernel_rfl) (by kernel_rfl) (by kernel_rfl) (by kernel_rfl) (fun _ _ _ h => h) (Or.inl ⟨by rfl, ?_⟩) hSss2 ?_
    rotate_left
    · intro w hSw; obtain ⟨e0, e1, e2, e3, e4, e5, e6, e7, -⟩ := hSw; go_simp; try with_reducible rfl
    simp only [Act.put, rgA, rgB, rgC, rgD, rgE, rgF]
    refine wpAnyT_pure (i := 10) (v := ?_) rfl (by kernel_rfl) (by kernel_rfl) (by kernel_rfl) (fun _ _ _ h => h) (by rfl) ?_ ?_
    rotate_left
    · intro w; go_simp; try with_reducible rfl
    simp only [Act.put, rgA, rgB, rgC, rgD, rgE, rgF]
    refine wpAnyT_pure (i := 11) (v := ?_) rfl (by kernel_rfl) (by kernel_rfl) (by kernel_rfl) (fun _ _ _ h => h) (by rfl) ?_ ?_
    rotate_left
    · intro w; go_simp; try with_reducible rfl
    simp only [Act.put, rgA, rgB, rgC, rgD, rgE, rgF]
    refine wpAnyT_pure (i := 12) (v := ?_) rfl (by kernel_rfl) (by kernel_rfl) (by kernel_rfl) (fun _ _ _ h => h) (by rfl) ?_ ?_
    rotate_left
    · intro w; go_simp; try with_reducible rfl
    simp only [Act.put, rgA, rgB, rgC, rgD, rgE, rgF]
    refine wpAnyT_pure (i := 13) (v := ?_) rfl (by kernel_rfl) (by kernel_rfl) (by kernel_rfl) (fun _ _ _ h => h) (by rfl) ?_ ?_
    rotate_left
    · intro w; go_simp; try with_reducible rfl
    simp only [Act.put, rgA, rgB, rgC, rgD, rgE, rgF]
    refine wpAnyT_pure (i := 14) (v := ?_) rfl (by kernel_rfl) (by kernel_rfl) (by kernel_rfl) (fun _ _ _ h => h) (by rfl) ?_ ?_
    rotate_left
    · intro w; go_simp; try with_reducible rfl
    simp only [Act.put, rgA, rgB, rgC, rgD, rgE, rgF]
    refine wpAnyT_pure (i := 15) (v := ?_) rfl (by kernel_rfl) (by kernel_rfl) (by kernel_rfl) (fun _ _ _ h => h) (by rfl) ?_ ?_
    rotate_left
    · intro w; go_simp; try with_reducible rfl
    simp only [Act.put, rgA, rgB, rgC, rgD, rgE, rgF]
    refine wpAnyT_pure (i := 17) (v := ?_) rfl (by kernel_rfl) (by kernel_rfl) (by kernel_rfl) (fun _ _ _ h => h) (by rfl) ?_ ?_
    rotate_left
    · intro w; go_simp; try with_reducible rfl
    simp only [Act.put, rgA, rgB, rgC, rgD, rgE, rgF]
    refine wpAnyT_pure (i := 18) (v := ?_) rfl (by kernel_rfl) (by kernel_rfl) (by kernel_rfl) (fun _ _ _ h => h) (by rfl) ?_ ?_
    rotate_left
    · intro w; go_simp; try with_reducible rfl
    simp only [Act.put, rgA, rgB, rgC, rgD, rgE, rgF]
    refine wpAnyT_pure (i := 19) (v := ?_) rfl (by kernel_rfl) (by kernel_rfl) (by kernel_rfl) (fun _ _ _ h => h) (by rfl) ?_ ?_
    rotate_left
    · intro w; go_simp; try with_reducible rfl
    simp only [Act.put, rgA, rgB, rgC, rgD, rgE, rgF]
    refine wpAnyT_pure (i := 20) (v := ?_) rfl (by kernel_rfl) (by kernel_rfl) (by kernel_rfl) (fun _ _ _ h => h) (by rfl) ?_ ?_
    rotate_left
    · intro w; go_simp; try with_reducible rfl
    simp only [Act.put, rgA, rgB, rgC, rgD, rgE, rgF]
    refine wpAnyT_loadW (i := 16) (v := ?_) rfl (by kernel_rfl) (by kernel_rfl) (by kernel_rfl) (by kernel_rfl) (by kernel_rfl) (fun _ _ _ h => h) (Or.inl ⟨by rfl, ?_⟩) hSss2 ?_
    rotate_left
    · intro w hSw; obtain ⟨e0, e1, e2, e3, e4, e5, e6, e7, -⟩ := hSw; go_simp; try with_reducible rfl
    simp only [Act.put, rgA, rgB, rgC, rgD, rgE, rgF]
    refine wpAnyT_loadW (i := 21) (v := ?_) rfl (by kernel_rfl) (by kernel_rfl) (by kernel_rfl) (by kernel_rfl) (by kernel_rfl) (fun _ _ _ h => h) (Or.inl ⟨by rfl, ?_⟩) hSss2 ?_
    rotate_left
    · intro w hSw; obtain ⟨e0, e1, e2, e3, e4, e5, e6, e7, -⟩ := hSw; go_simp; try with_reducible rfl
    simp only [Act.put, rgA, rgB, rgC, rgD, rgE, rgF]
    refine wpAnyT_pure (i := 22) (v := (.bool false)) rfl (by kernel_rfl) (by kernel_rfl) (by kernel_rfl) (fun _ _ _ h => h) (by rfl) ?_ ?_
    · intro w; go_simp <;> simp
    simp only [Act.put, rgA, rgB, rgC, rgD, rgE, rgF]
    refine wpAnyT_pure (i := 23) (v := ?_) rfl (by kernel_rfl) (by kernel_rfl) (by kernel_rfl) (fun _ _ _ h => h) (by rfl) ?_ ?_
    rotate_left
    · intro w; go_simp; try with_reducible rfl
    simp only [Act.put, rgA, rgB, rgC, rgD, rgE, rgF]
    refine wpAnyT_done (by kernel_rfl) ?_ _
    have HBP := Lib.hid (HB.out.trans ((hB_0_s2.trans ((hB_s2_s2).mono (hB_0_s2).size)).mono HB.out.size))
    go_wp2_with fail
    go_roundw
    case rel => exact ⟨q + 1, HLT.out, by go_num, HBP.out⟩
    case measure => simp [intOf]; try omega
  · obtain rfl : len' = q := by omega
    clear hB
    go_wp2_with fail
    go_ret
    exact ⟨rfl, HB.out⟩
end Go.Proofs.Ytdcjocldggmdbaa
