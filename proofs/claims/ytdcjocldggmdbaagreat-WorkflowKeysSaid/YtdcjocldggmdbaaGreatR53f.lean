/- Layer 53: the reference's Sign. -/
import Derived.Test.YtdcjocldggmdbaaGreatR53e
set_option linter.unusedSimpArgs false
set_option maxRecDepth 50000
namespace Go.Proofs.YtdcjocldggmdbaaGreat
open Go.RowKit Go

theorem takeW_eq {α : Type} (p : α → Bool) : ∀ (l : List α) (q : Nat), (∀ j (hj : j < l.length), j < q → p l[j] = true) → (∀ (h : q < l.length), p l[q] = false) → l.takeWhile p = l.take q ∧ l.dropWhile p = l.drop q
  | [], q, _, _ => by simp
  | a :: l, 0, _, h2 => by
    have h := h2 (by simp)
    simp only [List.getElem_cons_zero] at h
    simp [h]
  | a :: l, q + 1, h1, h2 => by
    have h := h1 0 (by simp) (by omega)
    simp only [List.getElem_cons_zero] at h
    obtain ⟨i1, i2⟩ := takeW_eq p l q (fun j hj hq => (h1 (j + 1) (Nat.succ_lt_succ hj) (Nat.succ_lt_succ hq) :)) (fun hq => (h2 (Nat.succ_lt_succ hq) :))
    simp [h, i1, i2]
theorem info_rsg : (Tryz.prog.info? 82).map (fun i => (i.zero, i.size, i.bytes)) = some (some (.agg #[.string ⟨#[]⟩, .int .i64 0, .int .i64 0, .string ⟨#[]⟩]), sgT.sz, 48) := by kernel_rfl
theorem RfW.gr {S F : Nat → Prop} {w w' : World} {ts : List Tk} {sg : List Sg} {sa : Option Addr} {sl sc : Nat} {ga : Option Addr} {gl gc : Nat} {xs : List taskT.den} (h : RfW S w ts sg sa sl sc ga gl gc xs) (hg : Gr F w w') (hF : ∀ b, S b → ¬ F b) : RfW S w' ts sg sa sl sc ga gl gc xs :=
  ⟨h.rt.gr hg (fun b hb => ⟨h.hS b hb, hF b hb⟩) (fun _ h => h), h.ht, h.rs.gr hg (fun b hb => ⟨h.hS b hb, hF b hb⟩) (fun _ h => h), fun b hb => Nat.lt_of_lt_of_le (h.hS b hb) hg.size⟩
theorem sign_keep {ts : List Tk} {ne np : Nat} {sg : List Sg} {k : Ky} {who : ByteArray} {e : Int} (h : signI ts ne np (lkS sg) k who = e) (he : e ≠ 0) : signS ts ne np sg k who = sg := by
  unfold signS
  rw [if_neg (by rw [h]; exact he)]
/-- What the reference's Sign leaves. -/
def RSignP (S : Nat → Prop) (w : World) (ne np : Nat) (ts : List Tk) (sg : List Sg) (k : Ky) (who : ByteArray) (sa : Option Addr) (sl sc : Nat) (xs : List taskT.den) (e : Ending) (w' : World) : Prop :=
  ∃ (ga : Option Addr) (gl gc : Nat), e = .returned (.tuple #[rwV ne np sa sl sc ga gl gc, .int .i64 (signI ts ne np (lkS sg) k who)]) ∧ Below w.heap.size w w' ∧ RfW (fun b => S b ∨ (w.heap.size ≤ b ∧ b < w'.heap.size)) w' ts (signS ts ne np sg k who) sa sl sc ga gl gc xs
theorem RfW.later {S : Nat → Prop} {w w' : World} {ts : List Tk} {sg : List Sg} {sa : Option Addr} {sl sc : Nat} {ga : Option Addr} {gl gc : Nat} {xs : List taskT.den} (h : RfW S w' ts sg sa sl sc ga gl gc xs) : RfW (fun b => S b ∨ (w.heap.size ≤ b ∧ b < w'.heap.size)) w' ts sg sa sl sc ga gl gc xs :=
  h.mono (fun _ h => .inl h) (fun b hb => hb.elim (h.hS b) (fun h => h.2))
set_option maxHeartbeats 4000000 in
theorem rsign53 {S : Nat → Prop} (w : World) (ne np : Nat) (ts : List Tk) (sg : List Sg) (sa : Option Addr) (sl sc : Nat) (ga : Option Addr) (gl gc : Nat) (xs : List taskT.den) (h : RfW S w ts sg sa sl sc ga gl gc xs) (hw : Wk ts ne np) (hn1000 : ne ≤ 1000) (hso : SgOk ts ne np sg) (hgl : gl ≤ 1000) (k : Ky) (hko : k.ok) (who : ByteArray) (hws : who.size ≤ maxLen) :
    Calls Tryz.prog 9 #[rwV ne np sa sl sc ga gl gc, k.v, .string who] w (RSignP S w ne np ts sg k who sa sl sc xs) := by
  obtain ⟨k1, k2, k3⟩ := k
  have HSO := Lib.hid hso
  have HW := Lib.hid hw
  have HKO := Lib.hid hko
  have HWS := Lib.hid hws
  have HSB := Lib.hid h.hS
  have HGL := Lib.hid (show sg.length = gl from by simpa using h.rs.sl_flat.1)
  have HGC := Lib.hid h.rs.sl_flat.2
  have hB := (Below.refl w.heap.size w).alloc (Nat.le_refl _) (rwO ne np sa sl sc ga gl gc)
  have hB := hB.alloc hB.size (.cells #[.string k1, .int .i64 k2, .int .i64 k3] 27)
  have hB := hB.alloc hB.size (.cells #[.int .i64 0, .int .i64 0, .slice none 0 0, .slice none 0 0] 35)
  have HX0 := Lib.hid h
  have HX := Lib.hid (h.below hB)
  have HB1 := Lib.hid hB
  have hp := heap_alloc_new w (rwO ne np sa sl sc ga gl gc)
  have hk := heap_alloc2_old (w.alloc (rwO ne np sa sl sc ga gl gc)) (.cells #[.string k1, .int .i64 k2, .int .i64 k3] 27) (.cells #[.int .i64 0, .int .i64 0, .slice none 0 0, .slice none 0 0] 35)
  have hk2 := heap_alloc2_new (w.alloc (rwO ne np sa sl sc ga gl gc)) (.cells #[.string k1, .int .i64 k2, .int .i64 k3] 27) (.cells #[.int .i64 0, .int .i64 0, .slice none 0 0, .slice none 0 0] 35)
  have hBp : Below (w.alloc (rwO ne np sa sl sc ga gl gc)).heap.size (w.alloc (rwO ne np sa sl sc ga gl gc)) (((w.alloc (rwO ne np sa sl sc ga gl gc)).alloc (.cells #[.string k1, .int .i64 k2, .int .i64 k3] 27)).alloc (.cells #[.int .i64 0, .int .i64 0, .slice none 0 0, .slice none 0 0] 35)) := ((Below.refl _ _).alloc (Nat.le_refl _) _).alloc (by simp) _
  have hpp := (hBp.block _ (blk_lt hp)).trans hp
  rw [World.size_alloc] at hk hk2
  have HP := Lib.hid hpp
  have HK := Lib.hid hk
  have HR := Lib.hid hk2
  unfold Ky.v
  simp only
  clear h hB hp hk hk2 hBp hpp hso hw hko hws
  go_enter Tryz.func9, Tryz.ntmps9
  go_wp2_with fail
  generalize hw1 : World.alloc (World.alloc (w.alloc _) _) _ = w1 at *
  clear hw1
  obtain ⟨gb, hgb⟩ : ∃ q, w.heap.size = q := ⟨_, rfl⟩
  have HGB := Lib.hid hgb
  rw [hgb] at HP HK HR HSB ⊢
  clear hgb
  have z0 := blk_cell HP.out 0
  have z1 := blk_cell HP.out 1
  have z2 := blk_cell HP.out 2
  have z3 := blk_cell HP.out 3
  have y0 := blk_cell HK.out 0
  have y1 := blk_cell HK.out 1
  have y2 := blk_cell HK.out 2
  simp at z0 z1 z2 z3 y0 y1 y2
  have HC := Lib.hid (rcheck53 w1 ne np ts sg sa sl sc ga gl gc xs HX.out ⟨k1, k2, k3⟩)
  unfold Ky.v at HC
  simp only at HC
  obtain ⟨ci, hci⟩ : ∃ c, checkI ts ne np ⟨k1, k2, k3⟩ = c := ⟨_, rfl⟩
  rw [hci] at HC
  have HCI := Lib.hid hci
  clear hci
  go_wp2_with fail
  have hX := HC.out
  refine Calls.mono hX ?_
  clear hX HC
  rintro e w2 ⟨rfl, hb2⟩
  have HB1 := Lib.hid (below_step HB1.out hb2)
  have HX := Lib.hid (HX.out.below hb2)
  have HP := Lib.hid ((hb2.block _ (blk_lt HP.out)).trans HP.out)
  have HK := Lib.hid ((hb2.block _ (blk_lt HK.out)).trans HK.out)
  have HR := Lib.hid ((hb2.block _ (blk_lt HR.out)).trans HR.out)
  clear hb2 z0 z1 z2 z3 y0 y1 y2
  have z0 := blk_cell HP.out 0
  have z1 := blk_cell HP.out 1
  have z2 := blk_cell HP.out 2
  have z3 := blk_cell HP.out 3
  have y0 := blk_cell HK.out 0
  have y1 := blk_cell HK.out 1
  have y2 := blk_cell HK.out 2
  simp at z0 z1 z2 z3 y0 y1 y2
  by_cases hc0 : ci = 0
  case neg =>
    have HC0 := Lib.hid hc0
    have HER := Lib.hid (show signI ts ne np (lkS sg) ⟨k1, k2, k3⟩ who = ci from (by unfold signI; rw [HCI.out, if_neg HC0.out]))
    have HKP := Lib.hid (sign_keep HER.out (HC0.out))
    have HSET := Lib.hid (setRow_heap _ _ _ #[.int .i64 ne, .int .i64 np, .slice sa sl sc, .slice ga gl gc] _ _ HR.out)
    have HGS := Lib.hid (gr_setRow w2 (gb + 1 + 1) #[.int .i64 ne, .int .i64 np, .slice sa sl sc, .slice ga gl gc])
    have HBS := Lib.hid (HGS.out.below (n := gb) (fun b e => by omega) (by have := blk_lt HR.out; omega))
    have HXS := Lib.hid (HX.out.gr HGS.out (fun b hb e => by have := HSB.out b hb; omega))
    go_wp2_with (refine wpList_store_row rfl _ _ _ rfl (gb + 1 + 1) #[.int .i64 ne, .int .i64 np, .slice sa sl sc, .slice ga gl gc] rfl rfl 35 _ HR.out (by kernel_rfl) (by rfl) (by simp [Value.oneCell']) ?_)
    refine bodyPost_ret (results_cell_tmp rfl _ _ (gb + 1 + 1) 35 _ (0, 0) _ rfl HSET.out Tryz.underlying35 rfl (by kernel_rfl)) rfl ?_
    refine ⟨ga, gl, gc, by rw [HER.out]; rfl, HB1.out.trans (HBS.out.mono (by rw [HGB.out]; exact Nat.le_refl _)), ?_⟩
    rw [HKP.out]
    exact HXS.out.later
  subst hc0
  have HN := Lib.hid (rname53 w2 who HWS.out)
  obtain ⟨nb, hnb⟩ : ∃ b, nameB who = b := ⟨_, rfl⟩
  rw [hnb] at HN
  have HNB := Lib.hid hnb
  clear hnb
  go_wp2_with fail
  have hX := HN.out
  refine Calls.mono hX ?_
  clear hX HN
  rintro e w3 ⟨rfl, hw3⟩
  rw [hw3]
  clear hw3 w3
  cases nb
  case false =>
    have HER := Lib.hid (show signI ts ne np (lkS sg) ⟨k1, k2, k3⟩ who = 1 from (by unfold signI; rw [if_pos HCI.out, HNB.out]; rfl))
    have HKP := Lib.hid (sign_keep HER.out (by decide))
    have HSET := Lib.hid (setRow_heap _ _ _ #[.int .i64 ne, .int .i64 np, .slice sa sl sc, .slice ga gl gc] _ _ HR.out)
    have HGS := Lib.hid (gr_setRow w2 (gb + 1 + 1) #[.int .i64 ne, .int .i64 np, .slice sa sl sc, .slice ga gl gc])
    have HBS := Lib.hid (HGS.out.below (n := gb) (fun b e => by omega) (by have := blk_lt HR.out; omega))
    have HXS := Lib.hid (HX.out.gr HGS.out (fun b hb e => by have := HSB.out b hb; omega))
    go_wp2_with (refine wpList_store_row rfl _ _ _ rfl (gb + 1 + 1) #[.int .i64 ne, .int .i64 np, .slice sa sl sc, .slice ga gl gc] rfl rfl 35 _ HR.out (by kernel_rfl) (by rfl) (by simp [Value.oneCell']) ?_)
    refine bodyPost_ret (results_cell_tmp rfl _ _ (gb + 1 + 1) 35 _ (0, 0) _ rfl HSET.out Tryz.underlying35 rfl (by kernel_rfl)) rfl ?_
    refine ⟨ga, gl, gc, by rw [HER.out]; rfl, HB1.out.trans (HBS.out.mono (by rw [HGB.out]; exact Nat.le_refl _)), ?_⟩
    rw [HKP.out]
    exact HXS.out.later
  have HC := Lib.hid (rwho53 w2 ne np ts sg sa sl sc ga gl gc xs HX.out ⟨k1, k2, k3⟩)
  unfold Ky.v at HC
  simp only at HC
  obtain ⟨sb, hsb⟩ : ∃ sb, (lkS sg ⟨k1, k2, k3⟩).isSome = sb := ⟨_, rfl⟩
  obtain ⟨sw, hsw⟩ : ∃ sw, (lkS sg ⟨k1, k2, k3⟩).getD ⟨#[]⟩ = sw := ⟨_, rfl⟩
  rw [hsb, hsw] at HC
  have HSOM := Lib.hid hsb
  clear hsb hsw
  go_wp2_with fail
  have hX := HC.out
  refine Calls.mono hX ?_
  clear hX HC
  rintro e w4 ⟨rfl, hb2⟩
  have HB1 := Lib.hid (below_step HB1.out hb2)
  have HX := Lib.hid (HX.out.below hb2)
  have HP := Lib.hid ((hb2.block _ (blk_lt HP.out)).trans HP.out)
  have HK := Lib.hid ((hb2.block _ (blk_lt HK.out)).trans HK.out)
  have HR := Lib.hid ((hb2.block _ (blk_lt HR.out)).trans HR.out)
  clear hb2 z0 z1 z2 z3 y0 y1 y2
  have z0 := blk_cell HP.out 0
  have z1 := blk_cell HP.out 1
  have z2 := blk_cell HP.out 2
  have z3 := blk_cell HP.out 3
  have y0 := blk_cell HK.out 0
  have y1 := blk_cell HK.out 1
  have y2 := blk_cell HK.out 2
  simp at z0 z1 z2 z3 y0 y1 y2
  cases sb
  case true =>
    have HER := Lib.hid (show signI ts ne np (lkS sg) ⟨k1, k2, k3⟩ who = 9 from (by unfold signI; rw [if_pos HCI.out, HNB.out, HSOM.out]; rfl))
    have HKP := Lib.hid (sign_keep HER.out (by decide))
    have HSET := Lib.hid (setRow_heap _ _ _ #[.int .i64 ne, .int .i64 np, .slice sa sl sc, .slice ga gl gc] _ _ HR.out)
    have HGS := Lib.hid (gr_setRow w4 (gb + 1 + 1) #[.int .i64 ne, .int .i64 np, .slice sa sl sc, .slice ga gl gc])
    have HBS := Lib.hid (HGS.out.below (n := gb) (fun b e => by omega) (by have := blk_lt HR.out; omega))
    have HXS := Lib.hid (HX.out.gr HGS.out (fun b hb e => by have := HSB.out b hb; omega))
    go_wp2_with (refine wpList_store_row rfl _ _ _ rfl (gb + 1 + 1) #[.int .i64 ne, .int .i64 np, .slice sa sl sc, .slice ga gl gc] rfl rfl 35 _ HR.out (by kernel_rfl) (by rfl) (by simp [Value.oneCell']) ?_)
    refine bodyPost_ret (results_cell_tmp rfl _ _ (gb + 1 + 1) 35 _ (0, 0) _ rfl HSET.out Tryz.underlying35 rfl (by kernel_rfl)) rfl ?_
    refine ⟨ga, gl, gc, by rw [HER.out]; rfl, HB1.out.trans (HBS.out.mono (by rw [HGB.out]; exact Nat.le_refl _)), ?_⟩
    rw [HKP.out]
    exact HXS.out.later
  have HC := Lib.hid (rready53 w4 ne np ts sg sa sl sc ga gl gc xs HX.out HW.out hn1000 ⟨k1, k2, k3⟩ HCI.out)
  unfold Ky.v at HC
  simp only at HC
  obtain ⟨rb, hrb⟩ : ∃ rb, readyB ts ne (lkS sg) ⟨k1, k2, k3⟩ = rb := ⟨_, rfl⟩
  rw [hrb] at HC
  have HRB := Lib.hid hrb
  clear hrb
  go_wp2_with fail
  have hX := HC.out
  refine Calls.mono hX ?_
  clear hX HC
  rintro e w5 ⟨rfl, hb2⟩
  have HB1 := Lib.hid (below_step HB1.out hb2)
  have HX := Lib.hid (HX.out.below hb2)
  have HP := Lib.hid ((hb2.block _ (blk_lt HP.out)).trans HP.out)
  have HK := Lib.hid ((hb2.block _ (blk_lt HK.out)).trans HK.out)
  have HR := Lib.hid ((hb2.block _ (blk_lt HR.out)).trans HR.out)
  clear hb2 z0 z1 z2 z3 y0 y1 y2
  have z0 := blk_cell HP.out 0
  have z1 := blk_cell HP.out 1
  have z2 := blk_cell HP.out 2
  have z3 := blk_cell HP.out 3
  have y0 := blk_cell HK.out 0
  have y1 := blk_cell HK.out 1
  have y2 := blk_cell HK.out 2
  simp at z0 z1 z2 z3 y0 y1 y2
  cases rb
  case false =>
    have HER := Lib.hid (show signI ts ne np (lkS sg) ⟨k1, k2, k3⟩ who = 7 from (by unfold signI; rw [if_pos HCI.out, HNB.out, HSOM.out, HRB.out]; rfl))
    have HKP := Lib.hid (sign_keep HER.out (by decide))
    have HSET := Lib.hid (setRow_heap _ _ _ #[.int .i64 ne, .int .i64 np, .slice sa sl sc, .slice ga gl gc] _ _ HR.out)
    have HGS := Lib.hid (gr_setRow w5 (gb + 1 + 1) #[.int .i64 ne, .int .i64 np, .slice sa sl sc, .slice ga gl gc])
    have HBS := Lib.hid (HGS.out.below (n := gb) (fun b e => by omega) (by have := blk_lt HR.out; omega))
    have HXS := Lib.hid (HX.out.gr HGS.out (fun b hb e => by have := HSB.out b hb; omega))
    go_wp2_with (refine wpList_store_row rfl _ _ _ rfl (gb + 1 + 1) #[.int .i64 ne, .int .i64 np, .slice sa sl sc, .slice ga gl gc] rfl rfl 35 _ HR.out (by kernel_rfl) (by rfl) (by simp [Value.oneCell']) ?_)
    refine bodyPost_ret (results_cell_tmp rfl _ _ (gb + 1 + 1) 35 _ (0, 0) _ rfl HSET.out Tryz.underlying35 rfl (by kernel_rfl)) rfl ?_
    refine ⟨ga, gl, gc, by rw [HER.out]; rfl, HB1.out.trans (HBS.out.mono (by rw [HGB.out]; exact Nat.le_refl _)), ?_⟩
    rw [HKP.out]
    exact HXS.out.later
  have HER := Lib.hid (show signI ts ne np (lkS sg) ⟨k1, k2, k3⟩ who = 0 from by unfold signI; rw [if_pos HCI.out, HNB.out, HSOM.out, HRB.out]; rfl)
  have HKP := Lib.hid (show signS ts ne np sg ⟨k1, k2, k3⟩ who = insS ts sg ⟨k1, k2, k3⟩ who from by unfold signS; rw [if_pos HER.out])
  have HKI := Lib.hid (kv_iff.1 HCI.out).1
  clear z0 z1 z2 z3 y0 y1 y2
  go_wp2_with fail
  go_loopw [11] (fun i wr => ∃ (q : Nat), q ≤ gl ∧ i = .int .i64 q ∧ (∀ j (hj : j < sg.length), j < q → ltK ts sg[j].1 ⟨k1, k2, k3⟩ = true) ∧ Below w5.heap.size w5 wr) (fun i _ => gl - (intOf i).toNat)
  case atStart => exact ⟨0, Nat.zero_le _, rfl, fun j _ hj => absurd hj (by omega), Below.refl _ _⟩
  obtain ⟨q, hq, rfl, hno, hB⟩ := hrel
  have HNO := Lib.hid hno
  have HXr := Lib.hid (HX.out.below hB)
  have HB := Lib.hid hB
  have hP := (hB.block _ (blk_lt HP.out)).trans HP.out
  have hK := (hB.block _ (blk_lt HK.out)).trans HK.out
  clear hno hB
  by_cases hlt : q < gl
  · have hqI : (q : Int) < (gl : Int) := by omega
    have hql : q < sg.length := by rw [HGL.out]; exact hlt
    obtain ⟨b, o, rfl, -, m0, m1, m2, -⟩ := sg_at HXr.out.rs q hql
    have HCB := Lib.hid (fun W (hB2 : Below wr.heap.size wr W) => rbefore53 W ne np ts sg sa sl sc (some ⟨b, o, none⟩) gl gc xs (HXr.out.below hB2) sg[q].1 ⟨k1, k2, k3⟩ (kv_iff.1 (keys_kv HSO.out (List.mem_map.2 ⟨_, List.getElem_mem hql, rfl⟩))).1 HKI.out)
    obtain ⟨eb, heb⟩ : ∃ eb, ltK ts sg[q].1 ⟨k1, k2, k3⟩ = eb := ⟨_, rfl⟩
    rw [heb] at HCB
    have HNN := Lib.hid (show eb = true → ∀ j (hj : j < sg.length), j < q + 1 → ltK ts sg[j].1 ⟨k1, k2, k3⟩ = true from fun h j hj hjq => by
      by_cases e : j = q
      · subst e; rw [heb]; exact h
      · exact HNO.out j hj (by omega))
    have HTW := Lib.hid (show eb = false → sg.takeWhile (fun s => ltK ts s.1 ⟨k1, k2, k3⟩) = sg.take q ∧ sg.dropWhile (fun s => ltK ts s.1 ⟨k1, k2, k3⟩) = sg.drop q from fun h => takeW_eq _ sg q (fun j hj hjq => HNO.out j hj hjq) (fun _ => heb.trans h))
    generalize sg[q].1 = y at m0 m1 m2 HCB
    obtain ⟨x1, x2, x3⟩ := y
    unfold Ky.v at HCB
    simp only at m0 m1 m2 HCB
    have HLT := Lib.hid hlt
    have hC0 : Cells [(⟨gb, 0, none⟩, .int .i64 ne), (⟨gb, 1, none⟩, .int .i64 np), (⟨gb, 2, none⟩, .slice sa sl sc), (⟨gb, 3, none⟩, .slice (some ⟨b, o, none⟩) gl gc), (⟨b, o + q * 4, none⟩, .string x1), (⟨b, o + q * 4 + 1, none⟩, .int .i64 x2), (⟨b, o + q * 4 + 2, none⟩, .int .i64 x3), (⟨gb + 1, 0, none⟩, .string k1), (⟨gb + 1, 1, none⟩, .int .i64 k2), (⟨gb + 1, 2, none⟩, .int .i64 k3)] wr := ⟨blk_cell hP 0, blk_cell hP 1, blk_cell hP 2, blk_cell hP 3, m0, m1, m2, blk_cell hK 0, blk_cell hK 1, blk_cell hK 2, trivial⟩
    clear m0 m1 m2 hlt hql heb hP hK
    go_wp2_with fail
    refine wp_region_T (Cells [(⟨gb, 0, none⟩, .int .i64 ne), (⟨gb, 1, none⟩, .int .i64 np), (⟨gb, 2, none⟩, .slice sa sl sc), (⟨gb, 3, none⟩, .slice (some ⟨b, o, none⟩) gl gc), (⟨b, o + q * 4, none⟩, .string x1), (⟨b, o + q * 4 + 1, none⟩, .int .i64 x2), (⟨b, o + q * 4 + 2, none⟩, .int .i64 x3), (⟨gb + 1, 0, none⟩, .string k1), (⟨gb + 1, 1, none⟩, .int .i64 k2), (⟨gb + 1, 2, none⟩, .int .i64 k3)]) (fun _ => false) (by kernel_rfl) ?_
    have hSss1 := Cells.drew hC0
    have hB_0_s1 : Below wr.heap.size wr wr.drew := below_drew _
    generalize wr.drew = s1 at hSss1 hB_0_s1 ⊢
    have hB_s1_s1 := Below.refl s1.heap.size s1
    refine wpAnyT_pure (i := 0) (v := ?_) rfl (by kernel_rfl) (by kernel_rfl) (by kernel_rfl) (fun _ _ _ h => h) (by rfl) ?_ ?_
    rotate_left
    · intro w; go_simp; try with_reducible rfl
    simp only [Act.put, rgA, rgB, rgC, rgD, rgE, rgF]
    refine wpAnyT_pure (i := 1) (v := ?_) rfl (by kernel_rfl) (by kernel_rfl) (by kernel_rfl) (fun _ _ _ h => h) (by rfl) ?_ ?_
    rotate_left
    · intro w; go_simp; try with_reducible rfl
    simp only [Act.put, rgA, rgB, rgC, rgD, rgE, rgF]
    refine wpAnyT_loadW (i := 2) (v := ?_) rfl (by kernel_rfl) (by kernel_rfl) (by kernel_rfl) (by kernel_rfl) (by kernel_rfl) (fun _ _ _ h => h) (Or.inl ⟨by rfl, ?_⟩) hSss1 ?_
    rotate_left
    · intro w hSw; obtain ⟨e0, e1, e2, e3, e4, e5, e6, e7, e8, e9, -⟩ := hSw; go_simp; try with_reducible rfl
    simp only [Act.put, rgA, rgB, rgC, rgD, rgE, rgF]
    refine wpAnyT_pure (i := 3) (v := ?_) rfl (by kernel_rfl) (by kernel_rfl) (by kernel_rfl) (fun _ _ _ h => h) (by rfl) ?_ ?_
    rotate_left
    · intro w; go_simp; try with_reducible rfl
    simp only [Act.put, rgA, rgB, rgC, rgD, rgE, rgF]
    refine wpAnyT_pure (i := 4) (v := ?_) rfl (by kernel_rfl) (by kernel_rfl) (by kernel_rfl) (fun _ _ _ h => h) (by rfl) ?_ ?_
    rotate_left
    · intro w; go_simp; try with_reducible rfl
    simp only [Act.put, rgA, rgB, rgC, rgD, rgE, rgF]
    refine wpAnyT_pure (i := 5) (v := ?_) rfl (by kernel_rfl) (by kernel_rfl) (by kernel_rfl) (fun _ _ _ h => h) (by rfl) ?_ ?_
    rotate_left
    · intro w; go_simp; try with_reducible rfl
    simp only [Act.put, rgA, rgB, rgC, rgD, rgE, rgF]
    refine wpAnyT_pure (i := 7) (v := ?_) rfl (by kernel_rfl) (by kernel_rfl) (by kernel_rfl) (fun _ _ _ h => h) (by rfl) ?_ ?_
    rotate_left
    · intro w; go_simp; try with_reducible rfl
    simp only [Act.put, rgA, rgB, rgC, rgD, rgE, rgF]
    refine wpAnyT_pure (i := 9) (v := ?_) rfl (by kernel_rfl) (by kernel_rfl) (by kernel_rfl) (fun _ _ _ h => h) (by rfl) ?_ ?_
    rotate_left
    · intro w; go_simp; try with_reducible rfl
    simp only [Act.put, rgA, rgB, rgC, rgD, rgE, rgF]
    refine wpAnyT_loadW (i := 6) (v := ?_) rfl (by kernel_rfl) (by kernel_rfl) (by kernel_rfl) (by kernel_rfl) (by kernel_rfl) (fun _ _ _ h => h) (Or.inl ⟨by rfl, ?_⟩) hSss1 ?_
    rotate_left
    · intro w hSw; obtain ⟨e0, e1, e2, e3, e4, e5, e6, e7, e8, e9, -⟩ := hSw; go_simp; try with_reducible rfl
    simp only [Act.put, rgA, rgB, rgC, rgD, rgE, rgF]
    refine wpAnyT_loadW (i := 8) (v := ?_) rfl (by kernel_rfl) (by kernel_rfl) (by kernel_rfl) (by kernel_rfl) (by kernel_rfl) (fun _ _ _ h => h) (Or.inl ⟨by rfl, ?_⟩) hSss1 ?_
    rotate_left
    · intro w hSw; obtain ⟨e0, e1, e2, e3, e4, e5, e6, e7, e8, e9, -⟩ := hSw; go_simp; try with_reducible rfl
    simp only [Act.put, rgA, rgB, rgC, rgD, rgE, rgF]
    refine wpAnyT_pure (i := 10) (v := ?_) rfl (by kernel_rfl) (by kernel_rfl) (by kernel_rfl) (fun _ _ _ h => h) (by rfl) ?_ ?_
    rotate_left
    · intro w; go_simp; try with_reducible rfl
    simp only [Act.put, rgA, rgB, rgC, rgD, rgE, rgF]
    refine wpAnyT_pure (i := 11) (v := ?_) rfl (by kernel_rfl) (by kernel_rfl) (by kernel_rfl) (fun _ _ _ h => h) (by rfl) ?_ ?_
    rotate_left
    · intro w; go_simp; try with_reducible rfl
    simp only [Act.put, rgA, rgB, rgC, rgD, rgE, rgF]
    refine wpAnyT_loadW (i := 12) (v := ?_) rfl (by kernel_rfl) (by kernel_rfl) (by kernel_rfl) (by kernel_rfl) (by kernel_rfl) (fun _ _ _ h => h) (Or.inl ⟨by rfl, ?_⟩) hSss1 ?_
    rotate_left
    · intro w hSw; obtain ⟨e0, e1, e2, e3, e4, e5, e6, e7, e8, e9, -⟩ := hSw; go_simp; try with_reducible rfl
    simp only [Act.put, rgA, rgB, rgC, rgD, rgE, rgF]
    refine wpAnyT_loadW (i := 13) (v := ?_) rfl (by kernel_rfl) (by kernel_rfl) (by kernel_rfl) (by kernel_rfl) (by kernel_rfl) (fun _ _ _ h => h) (Or.inl ⟨by rfl, ?_⟩) hSss1 ?_
    rotate_left
    · intro w hSw; obtain ⟨e0, e1, e2, e3, e4, e5, e6, e7, e8, e9, -⟩ := hSw; go_simp; try with_reducible rfl
    simp only [Act.put, rgA, rgB, rgC, rgD, rgE, rgF]
    refine wpAnyT_one (i := 14) (by kernel_rfl) rfl (by rfl) ?_
    refine wp_enter (f := 31) (args := #[rwV ne np sa sl sc (some ⟨b, o, none⟩) gl gc, .agg #[.string x1, .int .i64 x2, .int .i64 x3], .agg #[.string k1, .int .i64 k2, .int .i64 k3]]) (by go_simp) (HCB.out s1 (hB_0_s1.trans ((hB_s1_s1).mono (hB_0_s1).size))) ?_
    rintro e w102 ⟨rfl, hX⟩
    have hB_s1_w102 := below_step hB_s1_s1 hX
    have hB_w102_w102 := Below.refl w102.heap.size w102
    have hSsw102 := Cells.below hB_s1_w102 hSss1
    clear hX
    refine ⟨_, rfl, fun _ _ => hSsw102, ?_⟩
    try simp only [Act.put, rgA, rgB, rgC, rgD, rgE, rgF]
    refine wpAnyT_pure (i := 15) (v := ?_) rfl (by kernel_rfl) (by kernel_rfl) (by kernel_rfl) (fun _ _ _ h => h) (by rfl) ?_ ?_
    rotate_left
    · intro w; go_simp; try with_reducible rfl
    simp only [Act.put, rgA, rgB, rgC, rgD, rgE, rgF]
    refine wpAnyT_done (by kernel_rfl) ?_ _
    have HBP := Lib.hid (HB.out.trans ((hB_0_s1.trans ((hB_s1_w102).mono (hB_0_s1).size)).mono HB.out.size))
    obtain ⟨w6, rfl⟩ : ∃ x, x = w102 := ⟨_, rfl⟩
    cases eb
    · have HTK := Lib.hid (HTW.out rfl)
      have HQ := Lib.hid hq
      obtain ⟨ga, hga⟩ : ∃ x, x = (some ⟨b, o, none⟩ : Option Addr) := ⟨_, rfl⟩
      rw [← hga] at HP HX
      clear hga hC0 HTW HNN HLT hqI hq HXr
      go_wp2_with fail
      have HX6 := Lib.hid (HX.out.below HBP.out)
      have hP6 := ((HBP.out).block _ (blk_lt HP.out)).trans HP.out
      have hK6 := ((HBP.out).block _ (blk_lt HK.out)).trans HK.out
      have HP6 := Lib.hid hP6
      have HR6 := Lib.hid (((HBP.out).block _ (blk_lt HR.out)).trans HR.out)
      have HB6 := Lib.hid (below_step HB1.out HBP.out)
      have hC1 : Cells [(⟨gb, 3, none⟩, .slice ga gl gc), (⟨gb + 1, 0, none⟩, .string k1), (⟨gb + 1, 1, none⟩, .int .i64 k2), (⟨gb + 1, 2, none⟩, .int .i64 k3)] w6 := ⟨blk_cell hP6 3, blk_cell hK6 0, blk_cell hK6 1, blk_cell hK6 2, trivial⟩
      have HRT := Lib.hid (show Rd (.sl sgT) S w6 [.slice ga q gc] ((sg.take q).map sgd) from by rw [List.map_take]; exact HX6.out.rs.take q HQ.out)
      have HRD := Lib.hid (show Rd (.sl sgT) S w6 [.slice (if gc = q then ga else ga.map (·.add (q * 4))) (gl - q) (gc - q)] ((sg.drop q).map sgd) from by rw [List.map_drop]; exact HX6.out.rs.drop q HQ.out)
      have HTL := Lib.hid (show ((sg.take q).map sgd).length ≤ 1000 from by have := HQ.out; rw [List.length_map, List.length_take]; omega)
      have HDL := Lib.hid (show ((sg.drop q).map sgd).length ≤ 1000 from by have := HGL.out; rw [List.length_map, List.length_drop]; omega)
      clear hP6 hK6
      obtain ⟨da, hda⟩ : ∃ x, x = (if gc = q then ga else ga.map (·.add (q * 4))) := ⟨_, rfl⟩
      rw [← hda] at HRD
      have HDA := Lib.hid hda
      clear hda
      refine wp_cut [54, 55, 56, 57, 58, 59, 60, 61, 62, 63, 64, 65, 66, 67, 68, 69, 70] (fun vs w' => ∃ v54 v55 v56 v57 v58 v59 v60 v61 v62 v63 v64 v65 v66 v67 v68 v69 v70 ca cl cc, vs = [v54, v55, v56, v57, v58, v59, v60, v61, v62, v63, v64, v65, v66, v67, v68, v69, v70] ∧ w'.heap[gb]? = some (.cells #[.int .i64 ne, .int .i64 np, .slice sa sl sc, .slice ca cl cc] 35 (0, 0)) ∧ w'.heap[gb + 1 + 1]? = some (.cells #[.int .i64 0, .int .i64 0, .slice none 0 0, .slice none 0 0] 35 (0, 0)) ∧ Below w.heap.size w w' ∧ Owns sgT 82 (gb + 1 + 1 + 1) (fun _ => False) w' (.slice ca cl cc) ((sg.take q).map sgd ++ [sgd (⟨k1, k2, k3⟩, who)] ++ (sg.drop q).map sgd)) ?_ ?_
      · skip
        refine wp_region_T (Cells [(⟨gb, 3, none⟩, .slice ga gl gc), (⟨gb + 1, 0, none⟩, .string k1), (⟨gb + 1, 1, none⟩, .int .i64 k2), (⟨gb + 1, 2, none⟩, .int .i64 k3)]) (fun i => i == 17) (by kernel_rfl) ?_
        have hSss3 := Cells.drew hC1
        have hB_0_s3 : Below w6.heap.size w6 w6.drew := below_drew _
        generalize w6.drew = s3 at hSss3 hB_0_s3 ⊢
        have hB_s3_s3 := Below.refl s3.heap.size s3
        refine wpAnyT_pure (i := 1) (v := ?_) rfl (by kernel_rfl) (by kernel_rfl) (by kernel_rfl) (fun _ _ _ h => h) (by rfl) ?_ ?_
        rotate_left
        · intro w; go_simp; try with_reducible rfl
        simp only [Act.put, rgA, rgB, rgC, rgD, rgE, rgF]
        refine wpAnyT_pure (i := 3) (v := ?_) rfl (by kernel_rfl) (by kernel_rfl) (by kernel_rfl) (fun _ _ _ h => h) (by rfl) ?_ ?_
        rotate_left
        · intro w; go_simp; try with_reducible rfl
        simp only [Act.put, rgA, rgB, rgC, rgD, rgE, rgF]
        refine wpAnyT_pure (i := 7) (v := ?_) rfl (by kernel_rfl) (by kernel_rfl) (by kernel_rfl) (fun _ _ _ h => h) (by rfl) ?_ ?_
        rotate_left
        · intro w; go_simp; try with_reducible rfl
        simp only [Act.put, rgA, rgB, rgC, rgD, rgE, rgF]
        refine wpAnyT_pure (i := 11) (v := ?_) rfl (by kernel_rfl) (by kernel_rfl) (by kernel_rfl) (fun _ _ _ h => h) (by rfl) ?_ ?_
        rotate_left
        · intro w; go_simp; try with_reducible rfl
        simp only [Act.put, rgA, rgB, rgC, rgD, rgE, rgF]
        refine wpAnyT_pure (i := 13) (v := ?_) rfl (by kernel_rfl) (by kernel_rfl) (by kernel_rfl) (fun _ _ _ h => h) (by rfl) ?_ ?_
        rotate_left
        · intro w; go_simp; try with_reducible rfl
        simp only [Act.put, rgA, rgB, rgC, rgD, rgE, rgF]
        refine wpAnyT_loadW (i := 2) (v := ?_) rfl (by kernel_rfl) (by kernel_rfl) (by kernel_rfl) (by kernel_rfl) (by kernel_rfl) (fun _ _ _ h => h) (Or.inl ⟨by rfl, ?_⟩) hSss3 ?_
        rotate_left
        · intro w hSw; obtain ⟨e0, e1, e2, e3, -⟩ := hSw; go_simp; try with_reducible rfl
        simp only [Act.put, rgA, rgB, rgC, rgD, rgE, rgF]
        refine wpAnyT_loadW (i := 6) (v := ?_) rfl (by kernel_rfl) (by kernel_rfl) (by kernel_rfl) (by kernel_rfl) (by kernel_rfl) (fun _ _ _ h => h) (Or.inl ⟨by rfl, ?_⟩) hSss3 ?_
        rotate_left
        · intro w hSw; obtain ⟨e0, e1, e2, e3, -⟩ := hSw; go_simp; try with_reducible rfl
        simp only [Act.put, rgA, rgB, rgC, rgD, rgE, rgF]
        refine wpAnyT_pure (i := 8) (v := ?_) rfl (by kernel_rfl) (by kernel_rfl) (by kernel_rfl) (fun _ _ _ h => h) (by rfl) ?_ ?_
        rotate_left
        · intro w; go_simp; try with_reducible rfl
        simp only [Act.put, rgA, rgB, rgC, rgD, rgE, rgF]
        refine wpAnyT_loadW (i := 12) (v := ?_) rfl (by kernel_rfl) (by kernel_rfl) (by kernel_rfl) (by kernel_rfl) (by kernel_rfl) (fun _ _ _ h => h) (Or.inl ⟨by rfl, ?_⟩) hSss3 ?_
        rotate_left
        · intro w hSw; obtain ⟨e0, e1, e2, e3, -⟩ := hSw; go_simp; try with_reducible rfl
        simp only [Act.put, rgA, rgB, rgC, rgD, rgE, rgF]
        refine wpAnyT_pure (i := 4) (v := (.slice ga q gc)) rfl (by kernel_rfl) (by kernel_rfl) (by kernel_rfl) (fun _ _ _ h => h) (by rfl) ?_ ?_
        · intro w; have hq3 := Nat.le_trans HQ.out HGC.out.1; go_simp <;> simp [Addr.add]
        simp only [Act.put, rgA, rgB, rgC, rgD, rgE, rgF]
        refine wpAnyT_pure (i := 14) (v := (.slice da (gl - q) (gc - q))) rfl (by kernel_rfl) (by kernel_rfl) (by kernel_rfl) (fun _ _ _ h => h) (by rfl) ?_ ?_
        · intro w; have hq1 := HQ.out; have hq3 := Nat.le_trans HQ.out HGC.out.1; rw [HDA.out]; go_simp
        simp only [Act.put, rgA, rgB, rgC, rgD, rgE, rgF]
        refine wpAnyT_two (i := 0) (k := 9) (by kernel_rfl) rfl rfl (by rfl) (by rfl) ?_ ?_
        · skip
          obtain ⟨b0, hb0⟩ : ∃ b, s3.heap.size = b := ⟨_, rfl⟩
          have hge0 : s3.heap.size ≤ b0 := hb0 ▸ (hB_s3_s3).size
          refine wp_newrow (v := .slice (some ⟨b0, 0, none⟩) 0 0) (cs := #[]) (te := 82) (by rw [← hb0]; go_simp) ?_
          intro w104 hX hN0
          rw [hb0] at hN0
          have hB_s3_w104 := below_step hB_s3_s3 hX
          have hB_w104_w104 := Below.refl w104.heap.size w104
          have hSsw104 := Cells.below hB_s3_w104 hSss3
          clear hX
          refine ⟨fun _ _ => hSsw104, ?_⟩
          try simp only [Act.put, rgA, rgB, rgC, rgD, rgE, rgF]
          refine wpAnyT_two (i := 5) (k := 9) (by kernel_rfl) rfl rfl (by rfl) (by rfl) ?_ ?_
          · skip
            have hq0 := ((hB_w104_w104).block _ (blk_lt hN0)).trans hN0
            have hbP : Below w6.heap.size w6 w104 := hB_0_s3.trans ((hB_s3_w104).mono hB_0_s3.size)
            refine wp_appLit (.tmp 54) (.tmp 58) 33 rfl (e := sgT) (te := 82) info_rsg Tryz.underlying33 rfl (by decide) (S := S) (base := s3.heap.size) (b := b0) (by kernel_rfl) hq0 hge0 (sv := .slice ga q gc) (by kernel_rfl) (ys := (sg.take q).map sgd) (HRT.out.below hbP HX6.out.hS) (fun x hx => ⟨by have h1 := HX6.out.hS x hx; have h2 := hB_0_s3.size; omega, Nat.lt_of_lt_of_le (HX6.out.hS x hx) hbP.size⟩) (by have := HTL.out; omega) (by have := HTL.out; omega) ?_
            intro ca5 cl5 cc5 w105 O5 hX
            have HO5 := Lib.hid (Owns.flat (e := sgT) rfl O5)
            clear O5 hbP
            have hB_s3_w105 := below_step hB_s3_w104 hX
            have hB_w104_w105 := below_step hB_w104_w104 hX
            have hB_w105_w105 := Below.refl w105.heap.size w105
            have hSsw105 := Cells.below hB_s3_w105 hSss3
            clear hX
            refine ⟨fun _ _ => hSsw105, ?_⟩
            try simp only [Act.put, rgA, rgB, rgC, rgD, rgE, rgF]
            refine wpAnyT_one (i := 9) (by kernel_rfl) rfl (by rfl) ?_
            obtain ⟨b9, hb9⟩ : ∃ b, w105.heap.size = b := ⟨_, rfl⟩
            refine wp_newrow (v := .slice (some ⟨b9, 0, none⟩) 1 1) (cs := #[.string k1, .int .i64 k2, .int .i64 k3, .string who]) (te := 82) (by rw [← hb9]; go_simp) ?_
            intro w106 hX hN9
            rw [hb9] at hN9
            have hB_s3_w106 := below_step hB_s3_w105 hX
            have hB_w104_w106 := below_step hB_w104_w105 hX
            have hB_w105_w106 := below_step hB_w105_w105 hX
            have hB_w106_w106 := Below.refl w106.heap.size w106
            have hSsw106 := Cells.below hB_s3_w106 hSss3
            clear hX
            refine ⟨fun _ _ => hSsw106, ?_⟩
            try simp only [Act.put, rgA, rgB, rgC, rgD, rgE, rgF]
            refine wpAnyT_one (i := 10) (by kernel_rfl) rfl (by rfl) ?_
            have hq9 := ((hB_w106_w106).block _ (blk_lt hN9)).trans hN9
            refine wp_app (.tmp 59) (.tmp 63) 33 rfl (e := sgT) (te := 82) info_rsg Tryz.underlying33 rfl (by decide) (base := s3.heap.size) (S := fun _ => False) (v := .slice ca5 cl5 cc5) (xs := (sg.take q).map sgd) (by kernel_rfl) (HO5.out.below hB_w105_w106) (hB_s3_w106).size (sv := .slice (some ⟨b9, 0, none⟩) 1 1) (by kernel_rfl) (ys := [sgd (⟨k1, k2, k3⟩, who)]) (Src.of_cells (news := [.string k1, .int .i64 k2, .int .i64 k3, .string who]) (fun j u hu => by rw [Nat.zero_add, blk_cell hq9]; simpa using hu)) (RdL.one (e := sgT) (sg_rd HKO.out HWS.out)) (by have := HTL.out; simp only [List.length_singleton]; omega) (by have := HTL.out; simp only [List.length_singleton]; omega) ?_
            intro ca10 cl10 cc10 w107 O10 g10 ob10
            have hX : Below s3.heap.size s3 w107 := (hB_s3_w106).grown g10 (hB_s3_w106).size (fun c hc => (HO5.out.own c hc).1)
            have HO10 := Lib.hid O10
            clear O10 g10 ob10 hq9
            have hB_s3_w107 := hX
            have hB_w107_w107 := Below.refl w107.heap.size w107
            have hSsw107 := Cells.below hB_s3_w107 hSss3
            clear hX
            refine ⟨fun _ _ => hSsw107, ?_⟩
            try simp only [Act.put, rgA, rgB, rgC, rgD, rgE, rgF]
            refine wpAnyT_one (i := 15) (by kernel_rfl) rfl (by rfl) ?_
            have hbP : Below w6.heap.size w6 w107 := hB_0_s3.trans ((hB_s3_w107).mono hB_0_s3.size)
            obtain ⟨news, hsrc, hrl⟩ := (HRD.out.below hbP HX6.out.hS).src
            refine wp_app (.tmp 64) (.tmp 68) 33 rfl (e := sgT) (te := 82) info_rsg Tryz.underlying33 rfl (by decide) (base := s3.heap.size) (S := fun _ => False) (v := .slice ca10 cl10 cc10) (xs := (sg.take q).map sgd ++ [sgd (⟨k1, k2, k3⟩, who)]) (by kernel_rfl) (HO10.out.below hB_w107_w107) (hB_s3_w107).size (sv := .slice da (gl - q) (gc - q)) (by kernel_rfl) (ys := (sg.drop q).map sgd) hsrc (hrl.flat (e := sgT) rfl) (by have h1 := HTL.out; have h2 := HDL.out; rw [List.length_append]; simp only [List.length_singleton]; omega) (by have h1 := HTL.out; have h2 := HDL.out; rw [List.length_append]; simp only [List.length_singleton]; omega) ?_
            intro ca15 cl15 cc15 w108 O15 g15 ob15
            have hX : Below s3.heap.size s3 w108 := (hB_s3_w107).grown g15 (hB_s3_w107).size (fun c hc => (HO10.out.own c hc).1)
            have HO15 := Lib.hid O15
            clear O15 g15 ob15 hbP hsrc hrl
            have hB_s3_w108 := hX
            have hB_w108_w108 := Below.refl w108.heap.size w108
            have hSsw108 := Cells.below hB_s3_w108 hSss3
            clear hX
            refine ⟨fun _ _ => hSsw108, ?_⟩
            try simp only [Act.put, rgA, rgB, rgC, rgD, rgE, rgF]
            refine wpAnyT_pure (i := 16) (v := ?_) rfl (by kernel_rfl) (by kernel_rfl) (by kernel_rfl) (fun _ _ _ h => h) (by rfl) ?_ ?_
            rotate_left
            · intro w; go_simp; try with_reducible rfl
            simp only [Act.put, rgA, rgB, rgC, rgD, rgE, rgF]
            refine wpAnyT_one (i := 17) (by kernel_rfl) rfl (by rfl) ?_
            have hbP : Below w6.heap.size w6 w108 := hB_0_s3.trans ((hB_s3_w108).mono hB_0_s3.size)
            have hP7 := (hbP.block _ (blk_lt HP6.out)).trans HP6.out
            have HR7 := Lib.hid ((hbP.block _ (blk_lt HR6.out)).trans HR6.out)
            have HB7 := Lib.hid (below_step HB6.out hbP)
            have HO7 := Lib.hid (HO15.out.below hB_w108_w108)
            have hlo : gb + 1 + 1 < (s3).heap.size := Nat.lt_of_lt_of_le (blk_lt HR6.out) (hB_0_s3).size
            have HOW := Lib.hid (show ∀ b, (Value.slice ca15 cl15 cc15).ownBlock = some b → gb + 1 + 1 < b ∧ b < (w108).heap.size from fun b e => ⟨Nat.lt_of_lt_of_le hlo (HO7.out.own b e).1, (HO7.out.own b e).2⟩)
            have hc3 : (w108).cell? ⟨gb, 3, none⟩ = some (.slice ga gl gc) := by rw [blk_cell hP7]; rfl
            have hf3 := blk_frozen hP7 3
            refine wp_store1 (w' := (w108).setCell ⟨gb, 3, none⟩ (.slice ca15 cl15 cc15)) 33 (.tmp 70) (.tmp 69) rfl ⟨gb, 3, none⟩ (.slice ca15 cl15 cc15) (by kernel_rfl) (by kernel_rfl) (by go_simp) ?_
            have HP8 := Lib.hid (blk_set hP7 (i := 3) (.slice ca15 cl15 cc15))
            have HR8 := Lib.hid ((Below.heap_setCell (w108) ⟨gb, 3, none⟩ (.slice ca15 cl15 cc15) (gb + 1 + 1) (by simp; omega)).trans HR7.out)
            have HG8 := Lib.hid ((Gr.refl (fun b => b = gb) (w108)).setCell (p := ⟨gb, 3, none⟩) (.inl rfl) (.slice ca15 cl15 cc15))
            have HBX := Lib.hid (HB7.out.setCell (p := ⟨gb, 3, none⟩) (by rw [HGB.out]; exact Nat.le_refl _) (.slice ca15 cl15 cc15))
            have HOX := Lib.hid (HO7.out.gr HG8.out (fun _ h => h.elim) (fun b e => by have := (HOW.out b e).1; omega))
            generalize (w108).setCell ⟨gb, 3, none⟩ (.slice ca15 cl15 cc15) = w109 at HP8 HR8 HG8 HBX HOX ⊢
            clear hbP hP7 hlo hc3 hf3
            refine ⟨fun h => absurd h (by decide), ?_⟩
            try simp only [Act.put, rgA, rgB, rgC, rgD, rgE, rgF]
            refine wpAnyT_done (by kernel_rfl) ?_ _
            refine cut_leaf ?_ ?_
            focus kernel_rfl
            exact ⟨_, _, _, _, _, _, _, _, _, _, _, _, _, _, _, _, _, ca15, cl15, cc15, rfl, HP8.out, HR8.out, HBX.out, HOX.out.base (Nat.lt_of_lt_of_le (blk_lt HR6.out) (hB_0_s3).size)⟩
          · skip
            obtain ⟨b9, hb9⟩ : ∃ b, w104.heap.size = b := ⟨_, rfl⟩
            refine wp_newrow (v := .slice (some ⟨b9, 0, none⟩) 1 1) (cs := #[.string k1, .int .i64 k2, .int .i64 k3, .string who]) (te := 82) (by rw [← hb9]; go_simp) ?_
            intro w110 hX hN9
            rw [hb9] at hN9
            have hB_s3_w110 := below_step hB_s3_w104 hX
            have hB_w104_w110 := below_step hB_w104_w104 hX
            have hB_w110_w110 := Below.refl w110.heap.size w110
            have hSsw110 := Cells.below hB_s3_w110 hSss3
            clear hX
            refine ⟨fun _ _ => hSsw110, ?_⟩
            try simp only [Act.put, rgA, rgB, rgC, rgD, rgE, rgF]
            refine wpAnyT_one (i := 5) (by kernel_rfl) rfl (by rfl) ?_
            have hq0 := ((hB_w104_w110).block _ (blk_lt hN0)).trans hN0
            have hbP : Below w6.heap.size w6 w110 := hB_0_s3.trans ((hB_s3_w110).mono hB_0_s3.size)
            refine wp_appLit (.tmp 54) (.tmp 58) 33 rfl (e := sgT) (te := 82) info_rsg Tryz.underlying33 rfl (by decide) (S := S) (base := s3.heap.size) (b := b0) (by kernel_rfl) hq0 hge0 (sv := .slice ga q gc) (by kernel_rfl) (ys := (sg.take q).map sgd) (HRT.out.below hbP HX6.out.hS) (fun x hx => ⟨by have h1 := HX6.out.hS x hx; have h2 := hB_0_s3.size; omega, Nat.lt_of_lt_of_le (HX6.out.hS x hx) hbP.size⟩) (by have := HTL.out; omega) (by have := HTL.out; omega) ?_
            intro ca5 cl5 cc5 w111 O5 hX
            have HO5 := Lib.hid (Owns.flat (e := sgT) rfl O5)
            clear O5 hbP
            have hB_s3_w111 := below_step hB_s3_w110 hX
            have hB_w104_w111 := below_step hB_w104_w110 hX
            have hB_w110_w111 := below_step hB_w110_w110 hX
            have hB_w111_w111 := Below.refl w111.heap.size w111
            have hSsw111 := Cells.below hB_s3_w111 hSss3
            clear hX
            refine ⟨fun _ _ => hSsw111, ?_⟩
            try simp only [Act.put, rgA, rgB, rgC, rgD, rgE, rgF]
            refine wpAnyT_one (i := 10) (by kernel_rfl) rfl (by rfl) ?_
            have hq9 := ((hB_w110_w111).block _ (blk_lt hN9)).trans hN9
            refine wp_app (.tmp 59) (.tmp 63) 33 rfl (e := sgT) (te := 82) info_rsg Tryz.underlying33 rfl (by decide) (base := s3.heap.size) (S := fun _ => False) (v := .slice ca5 cl5 cc5) (xs := (sg.take q).map sgd) (by kernel_rfl) (HO5.out.below hB_w111_w111) (hB_s3_w111).size (sv := .slice (some ⟨b9, 0, none⟩) 1 1) (by kernel_rfl) (ys := [sgd (⟨k1, k2, k3⟩, who)]) (Src.of_cells (news := [.string k1, .int .i64 k2, .int .i64 k3, .string who]) (fun j u hu => by rw [Nat.zero_add, blk_cell hq9]; simpa using hu)) (RdL.one (e := sgT) (sg_rd HKO.out HWS.out)) (by have := HTL.out; simp only [List.length_singleton]; omega) (by have := HTL.out; simp only [List.length_singleton]; omega) ?_
            intro ca10 cl10 cc10 w112 O10 g10 ob10
            have hX : Below s3.heap.size s3 w112 := (hB_s3_w111).grown g10 (hB_s3_w111).size (fun c hc => (HO5.out.own c hc).1)
            have HO10 := Lib.hid O10
            clear O10 g10 ob10 hq9
            have hB_s3_w112 := hX
            have hB_w112_w112 := Below.refl w112.heap.size w112
            have hSsw112 := Cells.below hB_s3_w112 hSss3
            clear hX
            refine ⟨fun _ _ => hSsw112, ?_⟩
            try simp only [Act.put, rgA, rgB, rgC, rgD, rgE, rgF]
            refine wpAnyT_one (i := 15) (by kernel_rfl) rfl (by rfl) ?_
            have hbP : Below w6.heap.size w6 w112 := hB_0_s3.trans ((hB_s3_w112).mono hB_0_s3.size)
            obtain ⟨news, hsrc, hrl⟩ := (HRD.out.below hbP HX6.out.hS).src
            refine wp_app (.tmp 64) (.tmp 68) 33 rfl (e := sgT) (te := 82) info_rsg Tryz.underlying33 rfl (by decide) (base := s3.heap.size) (S := fun _ => False) (v := .slice ca10 cl10 cc10) (xs := (sg.take q).map sgd ++ [sgd (⟨k1, k2, k3⟩, who)]) (by kernel_rfl) (HO10.out.below hB_w112_w112) (hB_s3_w112).size (sv := .slice da (gl - q) (gc - q)) (by kernel_rfl) (ys := (sg.drop q).map sgd) hsrc (hrl.flat (e := sgT) rfl) (by have h1 := HTL.out; have h2 := HDL.out; rw [List.length_append]; simp only [List.length_singleton]; omega) (by have h1 := HTL.out; have h2 := HDL.out; rw [List.length_append]; simp only [List.length_singleton]; omega) ?_
            intro ca15 cl15 cc15 w113 O15 g15 ob15
            have hX : Below s3.heap.size s3 w113 := (hB_s3_w112).grown g15 (hB_s3_w112).size (fun c hc => (HO10.out.own c hc).1)
            have HO15 := Lib.hid O15
            clear O15 g15 ob15 hbP hsrc hrl
            have hB_s3_w113 := hX
            have hB_w113_w113 := Below.refl w113.heap.size w113
            have hSsw113 := Cells.below hB_s3_w113 hSss3
            clear hX
            refine ⟨fun _ _ => hSsw113, ?_⟩
            try simp only [Act.put, rgA, rgB, rgC, rgD, rgE, rgF]
            refine wpAnyT_pure (i := 16) (v := ?_) rfl (by kernel_rfl) (by kernel_rfl) (by kernel_rfl) (fun _ _ _ h => h) (by rfl) ?_ ?_
            rotate_left
            · intro w; go_simp; try with_reducible rfl
            simp only [Act.put, rgA, rgB, rgC, rgD, rgE, rgF]
            refine wpAnyT_one (i := 17) (by kernel_rfl) rfl (by rfl) ?_
            have hbP : Below w6.heap.size w6 w113 := hB_0_s3.trans ((hB_s3_w113).mono hB_0_s3.size)
            have hP7 := (hbP.block _ (blk_lt HP6.out)).trans HP6.out
            have HR7 := Lib.hid ((hbP.block _ (blk_lt HR6.out)).trans HR6.out)
            have HB7 := Lib.hid (below_step HB6.out hbP)
            have HO7 := Lib.hid (HO15.out.below hB_w113_w113)
            have hlo : gb + 1 + 1 < (s3).heap.size := Nat.lt_of_lt_of_le (blk_lt HR6.out) (hB_0_s3).size
            have HOW := Lib.hid (show ∀ b, (Value.slice ca15 cl15 cc15).ownBlock = some b → gb + 1 + 1 < b ∧ b < (w113).heap.size from fun b e => ⟨Nat.lt_of_lt_of_le hlo (HO7.out.own b e).1, (HO7.out.own b e).2⟩)
            have hc3 : (w113).cell? ⟨gb, 3, none⟩ = some (.slice ga gl gc) := by rw [blk_cell hP7]; rfl
            have hf3 := blk_frozen hP7 3
            refine wp_store1 (w' := (w113).setCell ⟨gb, 3, none⟩ (.slice ca15 cl15 cc15)) 33 (.tmp 70) (.tmp 69) rfl ⟨gb, 3, none⟩ (.slice ca15 cl15 cc15) (by kernel_rfl) (by kernel_rfl) (by go_simp) ?_
            have HP8 := Lib.hid (blk_set hP7 (i := 3) (.slice ca15 cl15 cc15))
            have HR8 := Lib.hid ((Below.heap_setCell (w113) ⟨gb, 3, none⟩ (.slice ca15 cl15 cc15) (gb + 1 + 1) (by simp; omega)).trans HR7.out)
            have HG8 := Lib.hid ((Gr.refl (fun b => b = gb) (w113)).setCell (p := ⟨gb, 3, none⟩) (.inl rfl) (.slice ca15 cl15 cc15))
            have HBX := Lib.hid (HB7.out.setCell (p := ⟨gb, 3, none⟩) (by rw [HGB.out]; exact Nat.le_refl _) (.slice ca15 cl15 cc15))
            have HOX := Lib.hid (HO7.out.gr HG8.out (fun _ h => h.elim) (fun b e => by have := (HOW.out b e).1; omega))
            generalize (w113).setCell ⟨gb, 3, none⟩ (.slice ca15 cl15 cc15) = w114 at HP8 HR8 HG8 HBX HOX ⊢
            clear hbP hP7 hlo hc3 hf3
            refine ⟨fun h => absurd h (by decide), ?_⟩
            try simp only [Act.put, rgA, rgB, rgC, rgD, rgE, rgF]
            refine wpAnyT_done (by kernel_rfl) ?_ _
            refine cut_leaf ?_ ?_
            focus kernel_rfl
            exact ⟨_, _, _, _, _, _, _, _, _, _, _, _, _, _, _, _, _, ca15, cl15, cc15, rfl, HP8.out, HR8.out, HBX.out, HOX.out.base (Nat.lt_of_lt_of_le (blk_lt HR6.out) (hB_0_s3).size)⟩
        · skip
          obtain ⟨b9, hb9⟩ : ∃ b, s3.heap.size = b := ⟨_, rfl⟩
          refine wp_newrow (v := .slice (some ⟨b9, 0, none⟩) 1 1) (cs := #[.string k1, .int .i64 k2, .int .i64 k3, .string who]) (te := 82) (by rw [← hb9]; go_simp) ?_
          intro w115 hX hN9
          rw [hb9] at hN9
          have hB_s3_w115 := below_step hB_s3_s3 hX
          have hB_w115_w115 := Below.refl w115.heap.size w115
          have hSsw115 := Cells.below hB_s3_w115 hSss3
          clear hX
          refine ⟨fun _ _ => hSsw115, ?_⟩
          try simp only [Act.put, rgA, rgB, rgC, rgD, rgE, rgF]
          refine wpAnyT_one (i := 0) (by kernel_rfl) rfl (by rfl) ?_
          obtain ⟨b0, hb0⟩ : ∃ b, w115.heap.size = b := ⟨_, rfl⟩
          have hge0 : s3.heap.size ≤ b0 := hb0 ▸ (hB_s3_w115).size
          refine wp_newrow (v := .slice (some ⟨b0, 0, none⟩) 0 0) (cs := #[]) (te := 82) (by rw [← hb0]; go_simp) ?_
          intro w116 hX hN0
          rw [hb0] at hN0
          have hB_s3_w116 := below_step hB_s3_w115 hX
          have hB_w115_w116 := below_step hB_w115_w115 hX
          have hB_w116_w116 := Below.refl w116.heap.size w116
          have hSsw116 := Cells.below hB_s3_w116 hSss3
          clear hX
          refine ⟨fun _ _ => hSsw116, ?_⟩
          try simp only [Act.put, rgA, rgB, rgC, rgD, rgE, rgF]
          refine wpAnyT_one (i := 5) (by kernel_rfl) rfl (by rfl) ?_
          have hq0 := ((hB_w116_w116).block _ (blk_lt hN0)).trans hN0
          have hbP : Below w6.heap.size w6 w116 := hB_0_s3.trans ((hB_s3_w116).mono hB_0_s3.size)
          refine wp_appLit (.tmp 54) (.tmp 58) 33 rfl (e := sgT) (te := 82) info_rsg Tryz.underlying33 rfl (by decide) (S := S) (base := s3.heap.size) (b := b0) (by kernel_rfl) hq0 hge0 (sv := .slice ga q gc) (by kernel_rfl) (ys := (sg.take q).map sgd) (HRT.out.below hbP HX6.out.hS) (fun x hx => ⟨by have h1 := HX6.out.hS x hx; have h2 := hB_0_s3.size; omega, Nat.lt_of_lt_of_le (HX6.out.hS x hx) hbP.size⟩) (by have := HTL.out; omega) (by have := HTL.out; omega) ?_
          intro ca5 cl5 cc5 w117 O5 hX
          have HO5 := Lib.hid (Owns.flat (e := sgT) rfl O5)
          clear O5 hbP
          have hB_s3_w117 := below_step hB_s3_w116 hX
          have hB_w115_w117 := below_step hB_w115_w116 hX
          have hB_w116_w117 := below_step hB_w116_w116 hX
          have hB_w117_w117 := Below.refl w117.heap.size w117
          have hSsw117 := Cells.below hB_s3_w117 hSss3
          clear hX
          refine ⟨fun _ _ => hSsw117, ?_⟩
          try simp only [Act.put, rgA, rgB, rgC, rgD, rgE, rgF]
          refine wpAnyT_one (i := 10) (by kernel_rfl) rfl (by rfl) ?_
          have hq9 := ((hB_w115_w117).block _ (blk_lt hN9)).trans hN9
          refine wp_app (.tmp 59) (.tmp 63) 33 rfl (e := sgT) (te := 82) info_rsg Tryz.underlying33 rfl (by decide) (base := s3.heap.size) (S := fun _ => False) (v := .slice ca5 cl5 cc5) (xs := (sg.take q).map sgd) (by kernel_rfl) (HO5.out.below hB_w117_w117) (hB_s3_w117).size (sv := .slice (some ⟨b9, 0, none⟩) 1 1) (by kernel_rfl) (ys := [sgd (⟨k1, k2, k3⟩, who)]) (Src.of_cells (news := [.string k1, .int .i64 k2, .int .i64 k3, .string who]) (fun j u hu => by rw [Nat.zero_add, blk_cell hq9]; simpa using hu)) (RdL.one (e := sgT) (sg_rd HKO.out HWS.out)) (by have := HTL.out; simp only [List.length_singleton]; omega) (by have := HTL.out; simp only [List.length_singleton]; omega) ?_
          intro ca10 cl10 cc10 w118 O10 g10 ob10
          have hX : Below s3.heap.size s3 w118 := (hB_s3_w117).grown g10 (hB_s3_w117).size (fun c hc => (HO5.out.own c hc).1)
          have HO10 := Lib.hid O10
          clear O10 g10 ob10 hq9
          have hB_s3_w118 := hX
          have hB_w118_w118 := Below.refl w118.heap.size w118
          have hSsw118 := Cells.below hB_s3_w118 hSss3
          clear hX
          refine ⟨fun _ _ => hSsw118, ?_⟩
          try simp only [Act.put, rgA, rgB, rgC, rgD, rgE, rgF]
          refine wpAnyT_one (i := 15) (by kernel_rfl) rfl (by rfl) ?_
          have hbP : Below w6.heap.size w6 w118 := hB_0_s3.trans ((hB_s3_w118).mono hB_0_s3.size)
          obtain ⟨news, hsrc, hrl⟩ := (HRD.out.below hbP HX6.out.hS).src
          refine wp_app (.tmp 64) (.tmp 68) 33 rfl (e := sgT) (te := 82) info_rsg Tryz.underlying33 rfl (by decide) (base := s3.heap.size) (S := fun _ => False) (v := .slice ca10 cl10 cc10) (xs := (sg.take q).map sgd ++ [sgd (⟨k1, k2, k3⟩, who)]) (by kernel_rfl) (HO10.out.below hB_w118_w118) (hB_s3_w118).size (sv := .slice da (gl - q) (gc - q)) (by kernel_rfl) (ys := (sg.drop q).map sgd) hsrc (hrl.flat (e := sgT) rfl) (by have h1 := HTL.out; have h2 := HDL.out; rw [List.length_append]; simp only [List.length_singleton]; omega) (by have h1 := HTL.out; have h2 := HDL.out; rw [List.length_append]; simp only [List.length_singleton]; omega) ?_
          intro ca15 cl15 cc15 w119 O15 g15 ob15
          have hX : Below s3.heap.size s3 w119 := (hB_s3_w118).grown g15 (hB_s3_w118).size (fun c hc => (HO10.out.own c hc).1)
          have HO15 := Lib.hid O15
          clear O15 g15 ob15 hbP hsrc hrl
          have hB_s3_w119 := hX
          have hB_w119_w119 := Below.refl w119.heap.size w119
          have hSsw119 := Cells.below hB_s3_w119 hSss3
          clear hX
          refine ⟨fun _ _ => hSsw119, ?_⟩
          try simp only [Act.put, rgA, rgB, rgC, rgD, rgE, rgF]
          refine wpAnyT_pure (i := 16) (v := ?_) rfl (by kernel_rfl) (by kernel_rfl) (by kernel_rfl) (fun _ _ _ h => h) (by rfl) ?_ ?_
          rotate_left
          · intro w; go_simp; try with_reducible rfl
          simp only [Act.put, rgA, rgB, rgC, rgD, rgE, rgF]
          refine wpAnyT_one (i := 17) (by kernel_rfl) rfl (by rfl) ?_
          have hbP : Below w6.heap.size w6 w119 := hB_0_s3.trans ((hB_s3_w119).mono hB_0_s3.size)
          have hP7 := (hbP.block _ (blk_lt HP6.out)).trans HP6.out
          have HR7 := Lib.hid ((hbP.block _ (blk_lt HR6.out)).trans HR6.out)
          have HB7 := Lib.hid (below_step HB6.out hbP)
          have HO7 := Lib.hid (HO15.out.below hB_w119_w119)
          have hlo : gb + 1 + 1 < (s3).heap.size := Nat.lt_of_lt_of_le (blk_lt HR6.out) (hB_0_s3).size
          have HOW := Lib.hid (show ∀ b, (Value.slice ca15 cl15 cc15).ownBlock = some b → gb + 1 + 1 < b ∧ b < (w119).heap.size from fun b e => ⟨Nat.lt_of_lt_of_le hlo (HO7.out.own b e).1, (HO7.out.own b e).2⟩)
          have hc3 : (w119).cell? ⟨gb, 3, none⟩ = some (.slice ga gl gc) := by rw [blk_cell hP7]; rfl
          have hf3 := blk_frozen hP7 3
          refine wp_store1 (w' := (w119).setCell ⟨gb, 3, none⟩ (.slice ca15 cl15 cc15)) 33 (.tmp 70) (.tmp 69) rfl ⟨gb, 3, none⟩ (.slice ca15 cl15 cc15) (by kernel_rfl) (by kernel_rfl) (by go_simp) ?_
          have HP8 := Lib.hid (blk_set hP7 (i := 3) (.slice ca15 cl15 cc15))
          have HR8 := Lib.hid ((Below.heap_setCell (w119) ⟨gb, 3, none⟩ (.slice ca15 cl15 cc15) (gb + 1 + 1) (by simp; omega)).trans HR7.out)
          have HG8 := Lib.hid ((Gr.refl (fun b => b = gb) (w119)).setCell (p := ⟨gb, 3, none⟩) (.inl rfl) (.slice ca15 cl15 cc15))
          have HBX := Lib.hid (HB7.out.setCell (p := ⟨gb, 3, none⟩) (by rw [HGB.out]; exact Nat.le_refl _) (.slice ca15 cl15 cc15))
          have HOX := Lib.hid (HO7.out.gr HG8.out (fun _ h => h.elim) (fun b e => by have := (HOW.out b e).1; omega))
          generalize (w119).setCell ⟨gb, 3, none⟩ (.slice ca15 cl15 cc15) = w120 at HP8 HR8 HG8 HBX HOX ⊢
          clear hbP hP7 hlo hc3 hf3
          refine ⟨fun h => absurd h (by decide), ?_⟩
          try simp only [Act.put, rgA, rgB, rgC, rgD, rgE, rgF]
          refine wpAnyT_done (by kernel_rfl) ?_ _
          refine cut_leaf ?_ ?_
          focus kernel_rfl
          exact ⟨_, _, _, _, _, _, _, _, _, _, _, _, _, _, _, _, _, ca15, cl15, cc15, rfl, HP8.out, HR8.out, HBX.out, HOX.out.base (Nat.lt_of_lt_of_le (blk_lt HR6.out) (hB_0_s3).size)⟩
      rintro vs w7 ⟨v54, v55, v56, v57, v58, v59, v60, v61, v62, v63, v64, v65, v66, v67, v68, v69, v70, ca, cl, cc, rfl, hP8, hR8, hB8, hO8⟩
      simp only [puts, Act.put, List.setIfInBounds_toArray, List.set_cons_zero, List.set_cons_succ]
      have HP8 := Lib.hid hP8
      have HR8 := Lib.hid hR8
      have HBX := Lib.hid hB8
      have HO7 := Lib.hid hO8
      clear hP8 hR8 hB8 hO8 hC1
      have HSET := Lib.hid (setRow_heap _ _ _ #[.int .i64 ne, .int .i64 np, .slice sa sl sc, .slice ca cl cc] _ _ HR8.out)
      have HGS := Lib.hid (gr_setRow w7 (gb + 1 + 1) #[.int .i64 ne, .int .i64 np, .slice sa sl sc, .slice ca cl cc])
      have z0 := blk_cell HP8.out 0
      have z1 := blk_cell HP8.out 1
      have z2 := blk_cell HP8.out 2
      have z3 := blk_cell HP8.out 3
      simp at z0 z1 z2 z3
      go_wp2_with (refine wpList_store_row rfl _ _ _ rfl (gb + 1 + 1) #[.int .i64 ne, .int .i64 np, .slice sa sl sc, .slice ca cl cc] rfl rfl 35 _ HR8.out (by kernel_rfl) (by rfl) (by simp [Value.oneCell']) ?_)
      refine bodyPost_ret (results_cell_tmp rfl _ _ (gb + 1 + 1) 35 _ (0, 0) _ rfl HSET.out Tryz.underlying35 rfl (by kernel_rfl)) rfl ?_
      have hBF : Below w.heap.size w (World.setRow w7 (gb + 1 + 1) #[.int .i64 ne, .int .i64 np, .slice sa sl sc, .slice ca cl cc]) := below_setRow HBX.out (by rw [HGB.out]; omega) _
      have hsz := HGS.out.size
      have hOF := HO7.out.gr HGS.out (fun _ h => h.elim) (fun b e => by have := (HO7.out.own b e).1; omega)
      refine ⟨ca, cl, cc, by rw [HER.out]; rfl, hBF, (HX0.out.below hBF).rt.keep (fun _ _ => rfl) (fun _ h => .inl h), HX0.out.ht, ?_, fun b hb => hb.elim (fun h => Nat.lt_of_lt_of_le (HX0.out.hS b h) hBF.size) (fun h => h.2)⟩
      have hro := hOF.rd (fun b => S b ∨ (w.heap.size ≤ b ∧ b < (World.setRow w7 (gb + 1 + 1) #[.int .i64 ne, .int .i64 np, .slice sa sl sc, .slice ca cl cc]).heap.size)) (fun _ h => h.elim) (fun b e => .inr ⟨by have := (HO7.out.own b e).1; rw [HGB.out]; omega, (hOF.own b e).2⟩)
      rw [HKP.out]
      unfold insS
      rw [HTK.out.1, HTK.out.2]
      simpa using hro
    · go_wp2_with fail
      go_roundw
      case rel => exact ⟨q + 1, HLT.out, by go_num, HNN.out (by first | rfl | trivial), HBP.out⟩
      case measure => simp [intOf]; try omega
  · obtain rfl : gl = q := by omega
    have hqI : ¬ (gl : Int) < (gl : Int) := by omega
    have HTK := Lib.hid (show sg.takeWhile (fun s => ltK ts s.1 ⟨k1, k2, k3⟩) = sg.take gl ∧ sg.dropWhile (fun s => ltK ts s.1 ⟨k1, k2, k3⟩) = sg.drop gl from takeW_eq _ sg gl (fun j hj hjq => HNO.out j hj hjq) (fun h => absurd h (by rw [HGL.out]; omega)))
    have HQ := Lib.hid hq
    have hC0 : Cells [(⟨gb, 3, none⟩, .slice ga gl gc)] wr := ⟨blk_cell hP 3, trivial⟩
    clear hlt hP hK hq
    go_wp2_with fail
    refine wp_region_T (Cells [(⟨gb, 3, none⟩, .slice ga gl gc)]) (fun _ => false) (by kernel_rfl) ?_
    have hSss21 := Cells.drew hC0
    have hB_0_s21 : Below wr.heap.size wr wr.drew := below_drew _
    generalize wr.drew = s21 at hSss21 hB_0_s21 ⊢
    have hB_s21_s21 := Below.refl s21.heap.size s21
    refine wpAnyT_pure (i := 0) (v := ?_) rfl (by kernel_rfl) (by kernel_rfl) (by kernel_rfl) (fun _ _ _ h => h) (by rfl) ?_ ?_
    rotate_left
    · intro w; go_simp; try with_reducible rfl
    simp only [Act.put, rgA, rgB, rgC, rgD, rgE, rgF]
    refine wpAnyT_pure (i := 1) (v := ?_) rfl (by kernel_rfl) (by kernel_rfl) (by kernel_rfl) (fun _ _ _ h => h) (by rfl) ?_ ?_
    rotate_left
    · intro w; go_simp; try with_reducible rfl
    simp only [Act.put, rgA, rgB, rgC, rgD, rgE, rgF]
    refine wpAnyT_loadW (i := 2) (v := ?_) rfl (by kernel_rfl) (by kernel_rfl) (by kernel_rfl) (by kernel_rfl) (by kernel_rfl) (fun _ _ _ h => h) (Or.inl ⟨by rfl, ?_⟩) hSss21 ?_
    rotate_left
    · intro w hSw; obtain ⟨e0, -⟩ := hSw; go_simp; try with_reducible rfl
    simp only [Act.put, rgA, rgB, rgC, rgD, rgE, rgF]
    refine wpAnyT_pure (i := 3) (v := ?_) rfl (by kernel_rfl) (by kernel_rfl) (by kernel_rfl) (fun _ _ _ h => h) (by rfl) ?_ ?_
    rotate_left
    · intro w; go_simp; try with_reducible rfl
    simp only [Act.put, rgA, rgB, rgC, rgD, rgE, rgF]
    refine wpAnyT_pure (i := 4) (v := ?_) rfl (by kernel_rfl) (by kernel_rfl) (by kernel_rfl) (fun _ _ _ h => h) (by rfl) ?_ ?_
    rotate_left
    · intro w; go_simp; try with_reducible rfl
    simp only [Act.put, rgA, rgB, rgC, rgD, rgE, rgF]
    refine wpAnyT_pure (i := 5) (v := ?_) rfl (by kernel_rfl) (by kernel_rfl) (by kernel_rfl) (fun _ _ _ h => h) (by rfl) ?_ ?_
    rotate_left
    · intro w; go_simp; try with_reducible rfl
    simp only [Act.put, rgA, rgB, rgC, rgD, rgE, rgF]
    refine wpAnyT_skip (i := 6) rfl (by kernel_rfl) (by kernel_rfl) (by kernel_rfl) (fun _ _ _ h => h) (by rfl) ?_
    simp only [Act.put, rgA, rgB, rgC, rgD, rgE, rgF]
    refine wpAnyT_skip (i := 7) rfl (by kernel_rfl) (by kernel_rfl) (by kernel_rfl) (fun _ _ _ h => h) (by rfl) ?_
    simp only [Act.put, rgA, rgB, rgC, rgD, rgE, rgF]
    refine wpAnyT_skip (i := 8) rfl (by kernel_rfl) (by kernel_rfl) (by kernel_rfl) (fun _ _ _ h => h) (by rfl) ?_
    simp only [Act.put, rgA, rgB, rgC, rgD, rgE, rgF]
    refine wpAnyT_skip (i := 9) rfl (by kernel_rfl) (by kernel_rfl) (by kernel_rfl) (fun _ _ _ h => h) (by rfl) ?_
    simp only [Act.put, rgA, rgB, rgC, rgD, rgE, rgF]
    refine wpAnyT_skip (i := 10) rfl (by kernel_rfl) (by kernel_rfl) (by kernel_rfl) (fun _ _ _ h => h) (by rfl) ?_
    simp only [Act.put, rgA, rgB, rgC, rgD, rgE, rgF]
    refine wpAnyT_skip (i := 11) rfl (by kernel_rfl) (by kernel_rfl) (by kernel_rfl) (fun _ _ _ h => h) (by rfl) ?_
    simp only [Act.put, rgA, rgB, rgC, rgD, rgE, rgF]
    refine wpAnyT_skip (i := 12) rfl (by kernel_rfl) (by kernel_rfl) (by kernel_rfl) (fun _ _ _ h => h) (by rfl) ?_
    simp only [Act.put, rgA, rgB, rgC, rgD, rgE, rgF]
    refine wpAnyT_skip (i := 13) rfl (by kernel_rfl) (by kernel_rfl) (by kernel_rfl) (fun _ _ _ h => h) (by rfl) ?_
    simp only [Act.put, rgA, rgB, rgC, rgD, rgE, rgF]
    refine wpAnyT_skip (i := 14) rfl (by kernel_rfl) (by kernel_rfl) (by kernel_rfl) (fun _ _ _ h => h) (by rfl) ?_
    simp only [Act.put, rgA, rgB, rgC, rgD, rgE, rgF]
    refine wpAnyT_pure (i := 15) (v := ?_) rfl (by kernel_rfl) (by kernel_rfl) (by kernel_rfl) (fun _ _ _ h => h) (by rfl) ?_ ?_
    rotate_left
    · intro w; go_simp; try with_reducible rfl
    simp only [Act.put, rgA, rgB, rgC, rgD, rgE, rgF]
    refine wpAnyT_done (by kernel_rfl) ?_ _
    have HBP := Lib.hid (HB.out.trans ((hB_0_s21.trans ((hB_s21_s21).mono (hB_0_s21).size)).mono HB.out.size))
    obtain ⟨w6, rfl⟩ : ∃ x, x = s21 := ⟨_, rfl⟩
    clear hC0 HXr
    go_wp2_with fail
    have HX6 := Lib.hid (HX.out.below HBP.out)
    have hP6 := ((HBP.out).block _ (blk_lt HP.out)).trans HP.out
    have hK6 := ((HBP.out).block _ (blk_lt HK.out)).trans HK.out
    have HP6 := Lib.hid hP6
    have HR6 := Lib.hid (((HBP.out).block _ (blk_lt HR.out)).trans HR.out)
    have HB6 := Lib.hid (below_step HB1.out HBP.out)
    have hC1 : Cells [(⟨gb, 3, none⟩, .slice ga gl gc), (⟨gb + 1, 0, none⟩, .string k1), (⟨gb + 1, 1, none⟩, .int .i64 k2), (⟨gb + 1, 2, none⟩, .int .i64 k3)] w6 := ⟨blk_cell hP6 3, blk_cell hK6 0, blk_cell hK6 1, blk_cell hK6 2, trivial⟩
    have HRT := Lib.hid (show Rd (.sl sgT) S w6 [.slice ga gl gc] ((sg.take gl).map sgd) from by rw [List.map_take]; exact HX6.out.rs.take gl HQ.out)
    have HRD := Lib.hid (show Rd (.sl sgT) S w6 [.slice (if gc = gl then ga else ga.map (·.add (gl * 4))) (gl - gl) (gc - gl)] ((sg.drop gl).map sgd) from by rw [List.map_drop]; exact HX6.out.rs.drop gl HQ.out)
    have HTL := Lib.hid (show ((sg.take gl).map sgd).length ≤ 1000 from by have := HQ.out; rw [List.length_map, List.length_take]; omega)
    have HDL := Lib.hid (show ((sg.drop gl).map sgd).length ≤ 1000 from by have := HGL.out; rw [List.length_map, List.length_drop]; omega)
    clear hP6 hK6
    obtain ⟨da, hda⟩ : ∃ x, x = (if gc = gl then ga else ga.map (·.add (gl * 4))) := ⟨_, rfl⟩
    rw [← hda] at HRD
    have HDA := Lib.hid hda
    clear hda
    refine wp_cut [54, 55, 56, 57, 58, 59, 60, 61, 62, 63, 64, 65, 66, 67, 68, 69, 70] (fun vs w' => ∃ v54 v55 v56 v57 v58 v59 v60 v61 v62 v63 v64 v65 v66 v67 v68 v69 v70 ca cl cc, vs = [v54, v55, v56, v57, v58, v59, v60, v61, v62, v63, v64, v65, v66, v67, v68, v69, v70] ∧ w'.heap[gb]? = some (.cells #[.int .i64 ne, .int .i64 np, .slice sa sl sc, .slice ca cl cc] 35 (0, 0)) ∧ w'.heap[gb + 1 + 1]? = some (.cells #[.int .i64 0, .int .i64 0, .slice none 0 0, .slice none 0 0] 35 (0, 0)) ∧ Below w.heap.size w w' ∧ Owns sgT 82 (gb + 1 + 1 + 1) (fun _ => False) w' (.slice ca cl cc) ((sg.take gl).map sgd ++ [sgd (⟨k1, k2, k3⟩, who)] ++ (sg.drop gl).map sgd)) ?_ ?_
    · skip
      refine wp_region_T (Cells [(⟨gb, 3, none⟩, .slice ga gl gc), (⟨gb + 1, 0, none⟩, .string k1), (⟨gb + 1, 1, none⟩, .int .i64 k2), (⟨gb + 1, 2, none⟩, .int .i64 k3)]) (fun i => i == 17) (by kernel_rfl) ?_
      have hSss22 := Cells.drew hC1
      have hB_0_s22 : Below w6.heap.size w6 w6.drew := below_drew _
      generalize w6.drew = s22 at hSss22 hB_0_s22 ⊢
      have hB_s22_s22 := Below.refl s22.heap.size s22
      refine wpAnyT_pure (i := 1) (v := ?_) rfl (by kernel_rfl) (by kernel_rfl) (by kernel_rfl) (fun _ _ _ h => h) (by rfl) ?_ ?_
      rotate_left
      · intro w; go_simp; try with_reducible rfl
      simp only [Act.put, rgA, rgB, rgC, rgD, rgE, rgF]
      refine wpAnyT_pure (i := 3) (v := ?_) rfl (by kernel_rfl) (by kernel_rfl) (by kernel_rfl) (fun _ _ _ h => h) (by rfl) ?_ ?_
      rotate_left
      · intro w; go_simp; try with_reducible rfl
      simp only [Act.put, rgA, rgB, rgC, rgD, rgE, rgF]
      refine wpAnyT_pure (i := 7) (v := ?_) rfl (by kernel_rfl) (by kernel_rfl) (by kernel_rfl) (fun _ _ _ h => h) (by rfl) ?_ ?_
      rotate_left
      · intro w; go_simp; try with_reducible rfl
      simp only [Act.put, rgA, rgB, rgC, rgD, rgE, rgF]
      refine wpAnyT_pure (i := 11) (v := ?_) rfl (by kernel_rfl) (by kernel_rfl) (by kernel_rfl) (fun _ _ _ h => h) (by rfl) ?_ ?_
      rotate_left
      · intro w; go_simp; try with_reducible rfl
      simp only [Act.put, rgA, rgB, rgC, rgD, rgE, rgF]
      refine wpAnyT_pure (i := 13) (v := ?_) rfl (by kernel_rfl) (by kernel_rfl) (by kernel_rfl) (fun _ _ _ h => h) (by rfl) ?_ ?_
      rotate_left
      · intro w; go_simp; try with_reducible rfl
      simp only [Act.put, rgA, rgB, rgC, rgD, rgE, rgF]
      refine wpAnyT_loadW (i := 2) (v := ?_) rfl (by kernel_rfl) (by kernel_rfl) (by kernel_rfl) (by kernel_rfl) (by kernel_rfl) (fun _ _ _ h => h) (Or.inl ⟨by rfl, ?_⟩) hSss22 ?_
      rotate_left
      · intro w hSw; obtain ⟨e0, e1, e2, e3, -⟩ := hSw; go_simp; try with_reducible rfl
      simp only [Act.put, rgA, rgB, rgC, rgD, rgE, rgF]
      refine wpAnyT_loadW (i := 6) (v := ?_) rfl (by kernel_rfl) (by kernel_rfl) (by kernel_rfl) (by kernel_rfl) (by kernel_rfl) (fun _ _ _ h => h) (Or.inl ⟨by rfl, ?_⟩) hSss22 ?_
      rotate_left
      · intro w hSw; obtain ⟨e0, e1, e2, e3, -⟩ := hSw; go_simp; try with_reducible rfl
      simp only [Act.put, rgA, rgB, rgC, rgD, rgE, rgF]
      refine wpAnyT_pure (i := 8) (v := ?_) rfl (by kernel_rfl) (by kernel_rfl) (by kernel_rfl) (fun _ _ _ h => h) (by rfl) ?_ ?_
      rotate_left
      · intro w; go_simp; try with_reducible rfl
      simp only [Act.put, rgA, rgB, rgC, rgD, rgE, rgF]
      refine wpAnyT_loadW (i := 12) (v := ?_) rfl (by kernel_rfl) (by kernel_rfl) (by kernel_rfl) (by kernel_rfl) (by kernel_rfl) (fun _ _ _ h => h) (Or.inl ⟨by rfl, ?_⟩) hSss22 ?_
      rotate_left
      · intro w hSw; obtain ⟨e0, e1, e2, e3, -⟩ := hSw; go_simp; try with_reducible rfl
      simp only [Act.put, rgA, rgB, rgC, rgD, rgE, rgF]
      refine wpAnyT_pure (i := 4) (v := (.slice ga gl gc)) rfl (by kernel_rfl) (by kernel_rfl) (by kernel_rfl) (fun _ _ _ h => h) (by rfl) ?_ ?_
      · intro w; have hq3 := Nat.le_trans HQ.out HGC.out.1; go_simp <;> simp [Addr.add]
      simp only [Act.put, rgA, rgB, rgC, rgD, rgE, rgF]
      refine wpAnyT_pure (i := 14) (v := (.slice da (gl - gl) (gc - gl))) rfl (by kernel_rfl) (by kernel_rfl) (by kernel_rfl) (fun _ _ _ h => h) (by rfl) ?_ ?_
      · intro w; have hq1 := HQ.out; have hq3 := Nat.le_trans HQ.out HGC.out.1; rw [HDA.out]; go_simp
      simp only [Act.put, rgA, rgB, rgC, rgD, rgE, rgF]
      refine wpAnyT_two (i := 0) (k := 9) (by kernel_rfl) rfl rfl (by rfl) (by rfl) ?_ ?_
      · skip
        obtain ⟨b0, hb0⟩ : ∃ b, s22.heap.size = b := ⟨_, rfl⟩
        have hge0 : s22.heap.size ≤ b0 := hb0 ▸ (hB_s22_s22).size
        refine wp_newrow (v := .slice (some ⟨b0, 0, none⟩) 0 0) (cs := #[]) (te := 82) (by rw [← hb0]; go_simp) ?_
        intro w123 hX hN0
        rw [hb0] at hN0
        have hB_s22_w123 := below_step hB_s22_s22 hX
        have hB_w123_w123 := Below.refl w123.heap.size w123
        have hSsw123 := Cells.below hB_s22_w123 hSss22
        clear hX
        refine ⟨fun _ _ => hSsw123, ?_⟩
        try simp only [Act.put, rgA, rgB, rgC, rgD, rgE, rgF]
        refine wpAnyT_two (i := 5) (k := 9) (by kernel_rfl) rfl rfl (by rfl) (by rfl) ?_ ?_
        · skip
          have hq0 := ((hB_w123_w123).block _ (blk_lt hN0)).trans hN0
          have hbP : Below w6.heap.size w6 w123 := hB_0_s22.trans ((hB_s22_w123).mono hB_0_s22.size)
          refine wp_appLit (.tmp 54) (.tmp 58) 33 rfl (e := sgT) (te := 82) info_rsg Tryz.underlying33 rfl (by decide) (S := S) (base := s22.heap.size) (b := b0) (by kernel_rfl) hq0 hge0 (sv := .slice ga gl gc) (by kernel_rfl) (ys := (sg.take gl).map sgd) (HRT.out.below hbP HX6.out.hS) (fun x hx => ⟨by have h1 := HX6.out.hS x hx; have h2 := hB_0_s22.size; omega, Nat.lt_of_lt_of_le (HX6.out.hS x hx) hbP.size⟩) (by have := HTL.out; omega) (by have := HTL.out; omega) ?_
          intro ca5 cl5 cc5 w124 O5 hX
          have HO5 := Lib.hid (Owns.flat (e := sgT) rfl O5)
          clear O5 hbP
          have hB_s22_w124 := below_step hB_s22_w123 hX
          have hB_w123_w124 := below_step hB_w123_w123 hX
          have hB_w124_w124 := Below.refl w124.heap.size w124
          have hSsw124 := Cells.below hB_s22_w124 hSss22
          clear hX
          refine ⟨fun _ _ => hSsw124, ?_⟩
          try simp only [Act.put, rgA, rgB, rgC, rgD, rgE, rgF]
          refine wpAnyT_one (i := 9) (by kernel_rfl) rfl (by rfl) ?_
          obtain ⟨b9, hb9⟩ : ∃ b, w124.heap.size = b := ⟨_, rfl⟩
          refine wp_newrow (v := .slice (some ⟨b9, 0, none⟩) 1 1) (cs := #[.string k1, .int .i64 k2, .int .i64 k3, .string who]) (te := 82) (by rw [← hb9]; go_simp) ?_
          intro w125 hX hN9
          rw [hb9] at hN9
          have hB_s22_w125 := below_step hB_s22_w124 hX
          have hB_w123_w125 := below_step hB_w123_w124 hX
          have hB_w124_w125 := below_step hB_w124_w124 hX
          have hB_w125_w125 := Below.refl w125.heap.size w125
          have hSsw125 := Cells.below hB_s22_w125 hSss22
          clear hX
          refine ⟨fun _ _ => hSsw125, ?_⟩
          try simp only [Act.put, rgA, rgB, rgC, rgD, rgE, rgF]
          refine wpAnyT_one (i := 10) (by kernel_rfl) rfl (by rfl) ?_
          have hq9 := ((hB_w125_w125).block _ (blk_lt hN9)).trans hN9
          refine wp_app (.tmp 59) (.tmp 63) 33 rfl (e := sgT) (te := 82) info_rsg Tryz.underlying33 rfl (by decide) (base := s22.heap.size) (S := fun _ => False) (v := .slice ca5 cl5 cc5) (xs := (sg.take gl).map sgd) (by kernel_rfl) (HO5.out.below hB_w124_w125) (hB_s22_w125).size (sv := .slice (some ⟨b9, 0, none⟩) 1 1) (by kernel_rfl) (ys := [sgd (⟨k1, k2, k3⟩, who)]) (Src.of_cells (news := [.string k1, .int .i64 k2, .int .i64 k3, .string who]) (fun j u hu => by rw [Nat.zero_add, blk_cell hq9]; simpa using hu)) (RdL.one (e := sgT) (sg_rd HKO.out HWS.out)) (by have := HTL.out; simp only [List.length_singleton]; omega) (by have := HTL.out; simp only [List.length_singleton]; omega) ?_
          intro ca10 cl10 cc10 w126 O10 g10 ob10
          have hX : Below s22.heap.size s22 w126 := (hB_s22_w125).grown g10 (hB_s22_w125).size (fun c hc => (HO5.out.own c hc).1)
          have HO10 := Lib.hid O10
          clear O10 g10 ob10 hq9
          have hB_s22_w126 := hX
          have hB_w126_w126 := Below.refl w126.heap.size w126
          have hSsw126 := Cells.below hB_s22_w126 hSss22
          clear hX
          refine ⟨fun _ _ => hSsw126, ?_⟩
          try simp only [Act.put, rgA, rgB, rgC, rgD, rgE, rgF]
          refine wpAnyT_one (i := 15) (by kernel_rfl) rfl (by rfl) ?_
          have hbP : Below w6.heap.size w6 w126 := hB_0_s22.trans ((hB_s22_w126).mono hB_0_s22.size)
          obtain ⟨news, hsrc, hrl⟩ := (HRD.out.below hbP HX6.out.hS).src
          refine wp_app (.tmp 64) (.tmp 68) 33 rfl (e := sgT) (te := 82) info_rsg Tryz.underlying33 rfl (by decide) (base := s22.heap.size) (S := fun _ => False) (v := .slice ca10 cl10 cc10) (xs := (sg.take gl).map sgd ++ [sgd (⟨k1, k2, k3⟩, who)]) (by kernel_rfl) (HO10.out.below hB_w126_w126) (hB_s22_w126).size (sv := .slice da (gl - gl) (gc - gl)) (by kernel_rfl) (ys := (sg.drop gl).map sgd) hsrc (hrl.flat (e := sgT) rfl) (by have h1 := HTL.out; have h2 := HDL.out; rw [List.length_append]; simp only [List.length_singleton]; omega) (by have h1 := HTL.out; have h2 := HDL.out; rw [List.length_append]; simp only [List.length_singleton]; omega) ?_
          intro ca15 cl15 cc15 w127 O15 g15 ob15
          have hX : Below s22.heap.size s22 w127 := (hB_s22_w126).grown g15 (hB_s22_w126).size (fun c hc => (HO10.out.own c hc).1)
          have HO15 := Lib.hid O15
          clear O15 g15 ob15 hbP hsrc hrl
          have hB_s22_w127 := hX
          have hB_w127_w127 := Below.refl w127.heap.size w127
          have hSsw127 := Cells.below hB_s22_w127 hSss22
          clear hX
          refine ⟨fun _ _ => hSsw127, ?_⟩
          try simp only [Act.put, rgA, rgB, rgC, rgD, rgE, rgF]
          refine wpAnyT_pure (i := 16) (v := ?_) rfl (by kernel_rfl) (by kernel_rfl) (by kernel_rfl) (fun _ _ _ h => h) (by rfl) ?_ ?_
          rotate_left
          · intro w; go_simp; try with_reducible rfl
          simp only [Act.put, rgA, rgB, rgC, rgD, rgE, rgF]
          refine wpAnyT_one (i := 17) (by kernel_rfl) rfl (by rfl) ?_
          have hbP : Below w6.heap.size w6 w127 := hB_0_s22.trans ((hB_s22_w127).mono hB_0_s22.size)
          have hP7 := (hbP.block _ (blk_lt HP6.out)).trans HP6.out
          have HR7 := Lib.hid ((hbP.block _ (blk_lt HR6.out)).trans HR6.out)
          have HB7 := Lib.hid (below_step HB6.out hbP)
          have HO7 := Lib.hid (HO15.out.below hB_w127_w127)
          have hlo : gb + 1 + 1 < (s22).heap.size := Nat.lt_of_lt_of_le (blk_lt HR6.out) (hB_0_s22).size
          have HOW := Lib.hid (show ∀ b, (Value.slice ca15 cl15 cc15).ownBlock = some b → gb + 1 + 1 < b ∧ b < (w127).heap.size from fun b e => ⟨Nat.lt_of_lt_of_le hlo (HO7.out.own b e).1, (HO7.out.own b e).2⟩)
          have hc3 : (w127).cell? ⟨gb, 3, none⟩ = some (.slice ga gl gc) := by rw [blk_cell hP7]; rfl
          have hf3 := blk_frozen hP7 3
          refine wp_store1 (w' := (w127).setCell ⟨gb, 3, none⟩ (.slice ca15 cl15 cc15)) 33 (.tmp 70) (.tmp 69) rfl ⟨gb, 3, none⟩ (.slice ca15 cl15 cc15) (by kernel_rfl) (by kernel_rfl) (by go_simp) ?_
          have HP8 := Lib.hid (blk_set hP7 (i := 3) (.slice ca15 cl15 cc15))
          have HR8 := Lib.hid ((Below.heap_setCell (w127) ⟨gb, 3, none⟩ (.slice ca15 cl15 cc15) (gb + 1 + 1) (by simp; omega)).trans HR7.out)
          have HG8 := Lib.hid ((Gr.refl (fun b => b = gb) (w127)).setCell (p := ⟨gb, 3, none⟩) (.inl rfl) (.slice ca15 cl15 cc15))
          have HBX := Lib.hid (HB7.out.setCell (p := ⟨gb, 3, none⟩) (by rw [HGB.out]; exact Nat.le_refl _) (.slice ca15 cl15 cc15))
          have HOX := Lib.hid (HO7.out.gr HG8.out (fun _ h => h.elim) (fun b e => by have := (HOW.out b e).1; omega))
          generalize (w127).setCell ⟨gb, 3, none⟩ (.slice ca15 cl15 cc15) = w128 at HP8 HR8 HG8 HBX HOX ⊢
          clear hbP hP7 hlo hc3 hf3
          refine ⟨fun h => absurd h (by decide), ?_⟩
          try simp only [Act.put, rgA, rgB, rgC, rgD, rgE, rgF]
          refine wpAnyT_done (by kernel_rfl) ?_ _
          refine cut_leaf ?_ ?_
          focus kernel_rfl
          exact ⟨_, _, _, _, _, _, _, _, _, _, _, _, _, _, _, _, _, ca15, cl15, cc15, rfl, HP8.out, HR8.out, HBX.out, HOX.out.base (Nat.lt_of_lt_of_le (blk_lt HR6.out) (hB_0_s22).size)⟩
        · skip
          obtain ⟨b9, hb9⟩ : ∃ b, w123.heap.size = b := ⟨_, rfl⟩
          refine wp_newrow (v := .slice (some ⟨b9, 0, none⟩) 1 1) (cs := #[.string k1, .int .i64 k2, .int .i64 k3, .string who]) (te := 82) (by rw [← hb9]; go_simp) ?_
          intro w129 hX hN9
          rw [hb9] at hN9
          have hB_s22_w129 := below_step hB_s22_w123 hX
          have hB_w123_w129 := below_step hB_w123_w123 hX
          have hB_w129_w129 := Below.refl w129.heap.size w129
          have hSsw129 := Cells.below hB_s22_w129 hSss22
          clear hX
          refine ⟨fun _ _ => hSsw129, ?_⟩
          try simp only [Act.put, rgA, rgB, rgC, rgD, rgE, rgF]
          refine wpAnyT_one (i := 5) (by kernel_rfl) rfl (by rfl) ?_
          have hq0 := ((hB_w123_w129).block _ (blk_lt hN0)).trans hN0
          have hbP : Below w6.heap.size w6 w129 := hB_0_s22.trans ((hB_s22_w129).mono hB_0_s22.size)
          refine wp_appLit (.tmp 54) (.tmp 58) 33 rfl (e := sgT) (te := 82) info_rsg Tryz.underlying33 rfl (by decide) (S := S) (base := s22.heap.size) (b := b0) (by kernel_rfl) hq0 hge0 (sv := .slice ga gl gc) (by kernel_rfl) (ys := (sg.take gl).map sgd) (HRT.out.below hbP HX6.out.hS) (fun x hx => ⟨by have h1 := HX6.out.hS x hx; have h2 := hB_0_s22.size; omega, Nat.lt_of_lt_of_le (HX6.out.hS x hx) hbP.size⟩) (by have := HTL.out; omega) (by have := HTL.out; omega) ?_
          intro ca5 cl5 cc5 w130 O5 hX
          have HO5 := Lib.hid (Owns.flat (e := sgT) rfl O5)
          clear O5 hbP
          have hB_s22_w130 := below_step hB_s22_w129 hX
          have hB_w123_w130 := below_step hB_w123_w129 hX
          have hB_w129_w130 := below_step hB_w129_w129 hX
          have hB_w130_w130 := Below.refl w130.heap.size w130
          have hSsw130 := Cells.below hB_s22_w130 hSss22
          clear hX
          refine ⟨fun _ _ => hSsw130, ?_⟩
          try simp only [Act.put, rgA, rgB, rgC, rgD, rgE, rgF]
          refine wpAnyT_one (i := 10) (by kernel_rfl) rfl (by rfl) ?_
          have hq9 := ((hB_w129_w130).block _ (blk_lt hN9)).trans hN9
          refine wp_app (.tmp 59) (.tmp 63) 33 rfl (e := sgT) (te := 82) info_rsg Tryz.underlying33 rfl (by decide) (base := s22.heap.size) (S := fun _ => False) (v := .slice ca5 cl5 cc5) (xs := (sg.take gl).map sgd) (by kernel_rfl) (HO5.out.below hB_w130_w130) (hB_s22_w130).size (sv := .slice (some ⟨b9, 0, none⟩) 1 1) (by kernel_rfl) (ys := [sgd (⟨k1, k2, k3⟩, who)]) (Src.of_cells (news := [.string k1, .int .i64 k2, .int .i64 k3, .string who]) (fun j u hu => by rw [Nat.zero_add, blk_cell hq9]; simpa using hu)) (RdL.one (e := sgT) (sg_rd HKO.out HWS.out)) (by have := HTL.out; simp only [List.length_singleton]; omega) (by have := HTL.out; simp only [List.length_singleton]; omega) ?_
          intro ca10 cl10 cc10 w131 O10 g10 ob10
          have hX : Below s22.heap.size s22 w131 := (hB_s22_w130).grown g10 (hB_s22_w130).size (fun c hc => (HO5.out.own c hc).1)
          have HO10 := Lib.hid O10
          clear O10 g10 ob10 hq9
          have hB_s22_w131 := hX
          have hB_w131_w131 := Below.refl w131.heap.size w131
          have hSsw131 := Cells.below hB_s22_w131 hSss22
          clear hX
          refine ⟨fun _ _ => hSsw131, ?_⟩
          try simp only [Act.put, rgA, rgB, rgC, rgD, rgE, rgF]
          refine wpAnyT_one (i := 15) (by kernel_rfl) rfl (by rfl) ?_
          have hbP : Below w6.heap.size w6 w131 := hB_0_s22.trans ((hB_s22_w131).mono hB_0_s22.size)
          obtain ⟨news, hsrc, hrl⟩ := (HRD.out.below hbP HX6.out.hS).src
          refine wp_app (.tmp 64) (.tmp 68) 33 rfl (e := sgT) (te := 82) info_rsg Tryz.underlying33 rfl (by decide) (base := s22.heap.size) (S := fun _ => False) (v := .slice ca10 cl10 cc10) (xs := (sg.take gl).map sgd ++ [sgd (⟨k1, k2, k3⟩, who)]) (by kernel_rfl) (HO10.out.below hB_w131_w131) (hB_s22_w131).size (sv := .slice da (gl - gl) (gc - gl)) (by kernel_rfl) (ys := (sg.drop gl).map sgd) hsrc (hrl.flat (e := sgT) rfl) (by have h1 := HTL.out; have h2 := HDL.out; rw [List.length_append]; simp only [List.length_singleton]; omega) (by have h1 := HTL.out; have h2 := HDL.out; rw [List.length_append]; simp only [List.length_singleton]; omega) ?_
          intro ca15 cl15 cc15 w132 O15 g15 ob15
          have hX : Below s22.heap.size s22 w132 := (hB_s22_w131).grown g15 (hB_s22_w131).size (fun c hc => (HO10.out.own c hc).1)
          have HO15 := Lib.hid O15
          clear O15 g15 ob15 hbP hsrc hrl
          have hB_s22_w132 := hX
          have hB_w132_w132 := Below.refl w132.heap.size w132
          have hSsw132 := Cells.below hB_s22_w132 hSss22
          clear hX
          refine ⟨fun _ _ => hSsw132, ?_⟩
          try simp only [Act.put, rgA, rgB, rgC, rgD, rgE, rgF]
          refine wpAnyT_pure (i := 16) (v := ?_) rfl (by kernel_rfl) (by kernel_rfl) (by kernel_rfl) (fun _ _ _ h => h) (by rfl) ?_ ?_
          rotate_left
          · intro w; go_simp; try with_reducible rfl
          simp only [Act.put, rgA, rgB, rgC, rgD, rgE, rgF]
          refine wpAnyT_one (i := 17) (by kernel_rfl) rfl (by rfl) ?_
          have hbP : Below w6.heap.size w6 w132 := hB_0_s22.trans ((hB_s22_w132).mono hB_0_s22.size)
          have hP7 := (hbP.block _ (blk_lt HP6.out)).trans HP6.out
          have HR7 := Lib.hid ((hbP.block _ (blk_lt HR6.out)).trans HR6.out)
          have HB7 := Lib.hid (below_step HB6.out hbP)
          have HO7 := Lib.hid (HO15.out.below hB_w132_w132)
          have hlo : gb + 1 + 1 < (s22).heap.size := Nat.lt_of_lt_of_le (blk_lt HR6.out) (hB_0_s22).size
          have HOW := Lib.hid (show ∀ b, (Value.slice ca15 cl15 cc15).ownBlock = some b → gb + 1 + 1 < b ∧ b < (w132).heap.size from fun b e => ⟨Nat.lt_of_lt_of_le hlo (HO7.out.own b e).1, (HO7.out.own b e).2⟩)
          have hc3 : (w132).cell? ⟨gb, 3, none⟩ = some (.slice ga gl gc) := by rw [blk_cell hP7]; rfl
          have hf3 := blk_frozen hP7 3
          refine wp_store1 (w' := (w132).setCell ⟨gb, 3, none⟩ (.slice ca15 cl15 cc15)) 33 (.tmp 70) (.tmp 69) rfl ⟨gb, 3, none⟩ (.slice ca15 cl15 cc15) (by kernel_rfl) (by kernel_rfl) (by go_simp) ?_
          have HP8 := Lib.hid (blk_set hP7 (i := 3) (.slice ca15 cl15 cc15))
          have HR8 := Lib.hid ((Below.heap_setCell (w132) ⟨gb, 3, none⟩ (.slice ca15 cl15 cc15) (gb + 1 + 1) (by simp; omega)).trans HR7.out)
          have HG8 := Lib.hid ((Gr.refl (fun b => b = gb) (w132)).setCell (p := ⟨gb, 3, none⟩) (.inl rfl) (.slice ca15 cl15 cc15))
          have HBX := Lib.hid (HB7.out.setCell (p := ⟨gb, 3, none⟩) (by rw [HGB.out]; exact Nat.le_refl _) (.slice ca15 cl15 cc15))
          have HOX := Lib.hid (HO7.out.gr HG8.out (fun _ h => h.elim) (fun b e => by have := (HOW.out b e).1; omega))
          generalize (w132).setCell ⟨gb, 3, none⟩ (.slice ca15 cl15 cc15) = w133 at HP8 HR8 HG8 HBX HOX ⊢
          clear hbP hP7 hlo hc3 hf3
          refine ⟨fun h => absurd h (by decide), ?_⟩
          try simp only [Act.put, rgA, rgB, rgC, rgD, rgE, rgF]
          refine wpAnyT_done (by kernel_rfl) ?_ _
          refine cut_leaf ?_ ?_
          focus kernel_rfl
          exact ⟨_, _, _, _, _, _, _, _, _, _, _, _, _, _, _, _, _, ca15, cl15, cc15, rfl, HP8.out, HR8.out, HBX.out, HOX.out.base (Nat.lt_of_lt_of_le (blk_lt HR6.out) (hB_0_s22).size)⟩
      · skip
        obtain ⟨b9, hb9⟩ : ∃ b, s22.heap.size = b := ⟨_, rfl⟩
        refine wp_newrow (v := .slice (some ⟨b9, 0, none⟩) 1 1) (cs := #[.string k1, .int .i64 k2, .int .i64 k3, .string who]) (te := 82) (by rw [← hb9]; go_simp) ?_
        intro w134 hX hN9
        rw [hb9] at hN9
        have hB_s22_w134 := below_step hB_s22_s22 hX
        have hB_w134_w134 := Below.refl w134.heap.size w134
        have hSsw134 := Cells.below hB_s22_w134 hSss22
        clear hX
        refine ⟨fun _ _ => hSsw134, ?_⟩
        try simp only [Act.put, rgA, rgB, rgC, rgD, rgE, rgF]
        refine wpAnyT_one (i := 0) (by kernel_rfl) rfl (by rfl) ?_
        obtain ⟨b0, hb0⟩ : ∃ b, w134.heap.size = b := ⟨_, rfl⟩
        have hge0 : s22.heap.size ≤ b0 := hb0 ▸ (hB_s22_w134).size
        refine wp_newrow (v := .slice (some ⟨b0, 0, none⟩) 0 0) (cs := #[]) (te := 82) (by rw [← hb0]; go_simp) ?_
        intro w135 hX hN0
        rw [hb0] at hN0
        have hB_s22_w135 := below_step hB_s22_w134 hX
        have hB_w134_w135 := below_step hB_w134_w134 hX
        have hB_w135_w135 := Below.refl w135.heap.size w135
        have hSsw135 := Cells.below hB_s22_w135 hSss22
        clear hX
        refine ⟨fun _ _ => hSsw135, ?_⟩
        try simp only [Act.put, rgA, rgB, rgC, rgD, rgE, rgF]
        refine wpAnyT_one (i := 5) (by kernel_rfl) rfl (by rfl) ?_
        have hq0 := ((hB_w135_w135).block _ (blk_lt hN0)).trans hN0
        have hbP : Below w6.heap.size w6 w135 := hB_0_s22.trans ((hB_s22_w135).mono hB_0_s22.size)
        refine wp_appLit (.tmp 54) (.tmp 58) 33 rfl (e := sgT) (te := 82) info_rsg Tryz.underlying33 rfl (by decide) (S := S) (base := s22.heap.size) (b := b0) (by kernel_rfl) hq0 hge0 (sv := .slice ga gl gc) (by kernel_rfl) (ys := (sg.take gl).map sgd) (HRT.out.below hbP HX6.out.hS) (fun x hx => ⟨by have h1 := HX6.out.hS x hx; have h2 := hB_0_s22.size; omega, Nat.lt_of_lt_of_le (HX6.out.hS x hx) hbP.size⟩) (by have := HTL.out; omega) (by have := HTL.out; omega) ?_
        intro ca5 cl5 cc5 w136 O5 hX
        have HO5 := Lib.hid (Owns.flat (e := sgT) rfl O5)
        clear O5 hbP
        have hB_s22_w136 := below_step hB_s22_w135 hX
        have hB_w134_w136 := below_step hB_w134_w135 hX
        have hB_w135_w136 := below_step hB_w135_w135 hX
        have hB_w136_w136 := Below.refl w136.heap.size w136
        have hSsw136 := Cells.below hB_s22_w136 hSss22
        clear hX
        refine ⟨fun _ _ => hSsw136, ?_⟩
        try simp only [Act.put, rgA, rgB, rgC, rgD, rgE, rgF]
        refine wpAnyT_one (i := 10) (by kernel_rfl) rfl (by rfl) ?_
        have hq9 := ((hB_w134_w136).block _ (blk_lt hN9)).trans hN9
        refine wp_app (.tmp 59) (.tmp 63) 33 rfl (e := sgT) (te := 82) info_rsg Tryz.underlying33 rfl (by decide) (base := s22.heap.size) (S := fun _ => False) (v := .slice ca5 cl5 cc5) (xs := (sg.take gl).map sgd) (by kernel_rfl) (HO5.out.below hB_w136_w136) (hB_s22_w136).size (sv := .slice (some ⟨b9, 0, none⟩) 1 1) (by kernel_rfl) (ys := [sgd (⟨k1, k2, k3⟩, who)]) (Src.of_cells (news := [.string k1, .int .i64 k2, .int .i64 k3, .string who]) (fun j u hu => by rw [Nat.zero_add, blk_cell hq9]; simpa using hu)) (RdL.one (e := sgT) (sg_rd HKO.out HWS.out)) (by have := HTL.out; simp only [List.length_singleton]; omega) (by have := HTL.out; simp only [List.length_singleton]; omega) ?_
        intro ca10 cl10 cc10 w137 O10 g10 ob10
        have hX : Below s22.heap.size s22 w137 := (hB_s22_w136).grown g10 (hB_s22_w136).size (fun c hc => (HO5.out.own c hc).1)
        have HO10 := Lib.hid O10
        clear O10 g10 ob10 hq9
        have hB_s22_w137 := hX
        have hB_w137_w137 := Below.refl w137.heap.size w137
        have hSsw137 := Cells.below hB_s22_w137 hSss22
        clear hX
        refine ⟨fun _ _ => hSsw137, ?_⟩
        try simp only [Act.put, rgA, rgB, rgC, rgD, rgE, rgF]
        refine wpAnyT_one (i := 15) (by kernel_rfl) rfl (by rfl) ?_
        have hbP : Below w6.heap.size w6 w137 := hB_0_s22.trans ((hB_s22_w137).mono hB_0_s22.size)
        obtain ⟨news, hsrc, hrl⟩ := (HRD.out.below hbP HX6.out.hS).src
        refine wp_app (.tmp 64) (.tmp 68) 33 rfl (e := sgT) (te := 82) info_rsg Tryz.underlying33 rfl (by decide) (base := s22.heap.size) (S := fun _ => False) (v := .slice ca10 cl10 cc10) (xs := (sg.take gl).map sgd ++ [sgd (⟨k1, k2, k3⟩, who)]) (by kernel_rfl) (HO10.out.below hB_w137_w137) (hB_s22_w137).size (sv := .slice da (gl - gl) (gc - gl)) (by kernel_rfl) (ys := (sg.drop gl).map sgd) hsrc (hrl.flat (e := sgT) rfl) (by have h1 := HTL.out; have h2 := HDL.out; rw [List.length_append]; simp only [List.length_singleton]; omega) (by have h1 := HTL.out; have h2 := HDL.out; rw [List.length_append]; simp only [List.length_singleton]; omega) ?_
        intro ca15 cl15 cc15 w138 O15 g15 ob15
        have hX : Below s22.heap.size s22 w138 := (hB_s22_w137).grown g15 (hB_s22_w137).size (fun c hc => (HO10.out.own c hc).1)
        have HO15 := Lib.hid O15
        clear O15 g15 ob15 hbP hsrc hrl
        have hB_s22_w138 := hX
        have hB_w138_w138 := Below.refl w138.heap.size w138
        have hSsw138 := Cells.below hB_s22_w138 hSss22
        clear hX
        refine ⟨fun _ _ => hSsw138, ?_⟩
        try simp only [Act.put, rgA, rgB, rgC, rgD, rgE, rgF]
        refine wpAnyT_pure (i := 16) (v := ?_) rfl (by kernel_rfl) (by kernel_rfl) (by kernel_rfl) (fun _ _ _ h => h) (by rfl) ?_ ?_
        rotate_left
        · intro w; go_simp; try with_reducible rfl
        simp only [Act.put, rgA, rgB, rgC, rgD, rgE, rgF]
        refine wpAnyT_one (i := 17) (by kernel_rfl) rfl (by rfl) ?_
        have hbP : Below w6.heap.size w6 w138 := hB_0_s22.trans ((hB_s22_w138).mono hB_0_s22.size)
        have hP7 := (hbP.block _ (blk_lt HP6.out)).trans HP6.out
        have HR7 := Lib.hid ((hbP.block _ (blk_lt HR6.out)).trans HR6.out)
        have HB7 := Lib.hid (below_step HB6.out hbP)
        have HO7 := Lib.hid (HO15.out.below hB_w138_w138)
        have hlo : gb + 1 + 1 < (s22).heap.size := Nat.lt_of_lt_of_le (blk_lt HR6.out) (hB_0_s22).size
        have HOW := Lib.hid (show ∀ b, (Value.slice ca15 cl15 cc15).ownBlock = some b → gb + 1 + 1 < b ∧ b < (w138).heap.size from fun b e => ⟨Nat.lt_of_lt_of_le hlo (HO7.out.own b e).1, (HO7.out.own b e).2⟩)
        have hc3 : (w138).cell? ⟨gb, 3, none⟩ = some (.slice ga gl gc) := by rw [blk_cell hP7]; rfl
        have hf3 := blk_frozen hP7 3
        refine wp_store1 (w' := (w138).setCell ⟨gb, 3, none⟩ (.slice ca15 cl15 cc15)) 33 (.tmp 70) (.tmp 69) rfl ⟨gb, 3, none⟩ (.slice ca15 cl15 cc15) (by kernel_rfl) (by kernel_rfl) (by go_simp) ?_
        have HP8 := Lib.hid (blk_set hP7 (i := 3) (.slice ca15 cl15 cc15))
        have HR8 := Lib.hid ((Below.heap_setCell (w138) ⟨gb, 3, none⟩ (.slice ca15 cl15 cc15) (gb + 1 + 1) (by simp; omega)).trans HR7.out)
        have HG8 := Lib.hid ((Gr.refl (fun b => b = gb) (w138)).setCell (p := ⟨gb, 3, none⟩) (.inl rfl) (.slice ca15 cl15 cc15))
        have HBX := Lib.hid (HB7.out.setCell (p := ⟨gb, 3, none⟩) (by rw [HGB.out]; exact Nat.le_refl _) (.slice ca15 cl15 cc15))
        have HOX := Lib.hid (HO7.out.gr HG8.out (fun _ h => h.elim) (fun b e => by have := (HOW.out b e).1; omega))
        generalize (w138).setCell ⟨gb, 3, none⟩ (.slice ca15 cl15 cc15) = w139 at HP8 HR8 HG8 HBX HOX ⊢
        clear hbP hP7 hlo hc3 hf3
        refine ⟨fun h => absurd h (by decide), ?_⟩
        try simp only [Act.put, rgA, rgB, rgC, rgD, rgE, rgF]
        refine wpAnyT_done (by kernel_rfl) ?_ _
        refine cut_leaf ?_ ?_
        focus kernel_rfl
        exact ⟨_, _, _, _, _, _, _, _, _, _, _, _, _, _, _, _, _, ca15, cl15, cc15, rfl, HP8.out, HR8.out, HBX.out, HOX.out.base (Nat.lt_of_lt_of_le (blk_lt HR6.out) (hB_0_s22).size)⟩
    rintro vs w7 ⟨v54, v55, v56, v57, v58, v59, v60, v61, v62, v63, v64, v65, v66, v67, v68, v69, v70, ca, cl, cc, rfl, hP8, hR8, hB8, hO8⟩
    simp only [puts, Act.put, List.setIfInBounds_toArray, List.set_cons_zero, List.set_cons_succ]
    have HP8 := Lib.hid hP8
    have HR8 := Lib.hid hR8
    have HBX := Lib.hid hB8
    have HO7 := Lib.hid hO8
    clear hP8 hR8 hB8 hO8 hC1
    have HSET := Lib.hid (setRow_heap _ _ _ #[.int .i64 ne, .int .i64 np, .slice sa sl sc, .slice ca cl cc] _ _ HR8.out)
    have HGS := Lib.hid (gr_setRow w7 (gb + 1 + 1) #[.int .i64 ne, .int .i64 np, .slice sa sl sc, .slice ca cl cc])
    have z0 := blk_cell HP8.out 0
    have z1 := blk_cell HP8.out 1
    have z2 := blk_cell HP8.out 2
    have z3 := blk_cell HP8.out 3
    simp at z0 z1 z2 z3
    go_wp2_with (refine wpList_store_row rfl _ _ _ rfl (gb + 1 + 1) #[.int .i64 ne, .int .i64 np, .slice sa sl sc, .slice ca cl cc] rfl rfl 35 _ HR8.out (by kernel_rfl) (by rfl) (by simp [Value.oneCell']) ?_)
    refine bodyPost_ret (results_cell_tmp rfl _ _ (gb + 1 + 1) 35 _ (0, 0) _ rfl HSET.out Tryz.underlying35 rfl (by kernel_rfl)) rfl ?_
    have hBF : Below w.heap.size w (World.setRow w7 (gb + 1 + 1) #[.int .i64 ne, .int .i64 np, .slice sa sl sc, .slice ca cl cc]) := below_setRow HBX.out (by rw [HGB.out]; omega) _
    have hsz := HGS.out.size
    have hOF := HO7.out.gr HGS.out (fun _ h => h.elim) (fun b e => by have := (HO7.out.own b e).1; omega)
    refine ⟨ca, cl, cc, by rw [HER.out]; rfl, hBF, (HX0.out.below hBF).rt.keep (fun _ _ => rfl) (fun _ h => .inl h), HX0.out.ht, ?_, fun b hb => hb.elim (fun h => Nat.lt_of_lt_of_le (HX0.out.hS b h) hBF.size) (fun h => h.2)⟩
    have hro := hOF.rd (fun b => S b ∨ (w.heap.size ≤ b ∧ b < (World.setRow w7 (gb + 1 + 1) #[.int .i64 ne, .int .i64 np, .slice sa sl sc, .slice ca cl cc]).heap.size)) (fun _ h => h.elim) (fun b e => .inr ⟨by have := (HO7.out.own b e).1; rw [HGB.out]; omega, (hOF.own b e).2⟩)
    rw [HKP.out]
    unfold insS
    rw [HTK.out.1, HTK.out.2]
    simpa using hro
end Go.Proofs.YtdcjocldggmdbaaGreat
