/- Layer 28: the reference's Sides; Valid of both. -/
import Derived.Test.YtpobckedeffjmaaO28e
import Derived.Test.YtpobckedeffjmaaO28f
set_option linter.unusedSimpArgs false
set_option maxRecDepth 50000
namespace Go.Proofs.Ytpobckedeffjmaa
open Go.RowKit Go

set_option maxHeartbeats 8000000 in
theorem rsides28 {S S2 : Nat → Prop} (w : World) (bs : Array Value) (es : List En) (ms : List M4) (h : Bk S w bs es ms) (hS : ∀ b, S b → b < w.heap.size) (h40 : es.length ≤ 40) (h8 : ∀ e ∈ es, e.ln.length ≤ 8)
    (id st : Int) (la : Option Addr) (lc : Nat) (L : List R2) (ra : Option Addr) (rc : Nat) (R : List R2) (hL : Rd (.sl refT) S2 w [.slice la L.length lc] (L.map R2.d)) (hR : Rd (.sl refT) S2 w [.slice ra R.length rc] (R.map R2.d)) (hS2 : ∀ b, S2 b → b < w.heap.size) :
    Calls Try.prog 19 #[.agg bs, .agg #[.int .i64 id, .slice la L.length lc, .slice ra R.length rc, .int .i64 st]] w fun e w' => SdP (sidesM es L R st) e ∧ Below w.heap.size w w' := by
  have HSZ := Lib.hid h.sz
  have H := Lib.hid h
  have HS := Lib.hid hS
  have H8 := Lib.hid h8
  have HL := Lib.hid hL
  have HR := Lib.hid hR
  have HS2 := Lib.hid hS2
  obtain ⟨sd, hsd⟩ : ∃ q, sidesM es L R st = q := ⟨_, rfl⟩
  rw [hsd]
  have HSD := Lib.hid hsd
  have hb0 := ((Below.refl w.heap.size w).alloc (Nat.le_refl _) (.cells bs 65)).alloc (by simp) (.cells #[.int .i64 id, .slice la L.length lc, .slice ra R.length rc, .int .i64 st] 67)
  have HB0 := Lib.hid hb0
  have HR0 := Lib.hid (alloc_old' (y := .cells #[.int .i64 id, .slice la L.length lc, .slice ra R.length rc, .int .i64 st] 67) (heap_alloc_new w (.cells bs 65)))
  have hr1 := heap_alloc_new (w.alloc (.cells bs 65)) (.cells #[.int .i64 id, .slice la L.length lc, .slice ra R.length rc, .int .i64 st] 67)
  rw [World.size_alloc] at hr1
  have HR1 := Lib.hid hr1
  clear h hS h8 hL hR hS2 hsd hb0 hr1
  go_enter Try.func19, Try.ntmps19
  go_upto_region 1 with fail
  generalize World.alloc (World.alloc w (.cells bs 65)) (.cells #[.int .i64 id, .slice la L.length lc, .slice ra R.length rc, .int .i64 st] 67) = w0 at *
  obtain ⟨n, hn⟩ : ∃ q, w.heap.size = q := ⟨_, rfl⟩
  rw [hn] at HR0 HR1
  have HN := Lib.hid hn
  simp only [hn]
  clear hn
  have c1 : w0.cell? ⟨n + 1, 1, none⟩ = some (.slice la L.length lc) := blk_cell HR1.out 1
  have HROW := Lib.hid HR0.out
  go_wp2_with (have hq := HROW; clear HROW; refine wpList_load_row rfl 65 _ rfl n rfl 65 bs (0, 0) _ hq.out Try.underlying65 rfl (by rw [HSZ.out]; kernel_rfl) ?_; clear hq)
  refine (side28 w0 bs es ms (H.out.below HB0.out HS.out) (fun b hb => Nat.lt_of_lt_of_le (HS.out b hb) HB0.out.size) h40 H8.out la lc L (HL.out.below HB0.out HS2.out) (fun b hb => Nat.lt_of_lt_of_le (HS2.out b hb) HB0.out.size)).mono ?_
  rintro e w1 ⟨⟨x, px, ok1, rfl, hm1⟩, hB1⟩
  have HM1 := Lib.hid hm1
  have HB1 := Lib.hid (below_step HB0.out hB1)
  have c2 : w1.cell? ⟨n + 1, 2, none⟩ = some (.slice ra R.length rc) := cell_below (blk_cell HR1.out 2) hB1
  have HROW := Lib.hid ((hB1.block _ (blk_lt HR0.out)).trans HR0.out)
  have HRM := Lib.hid ((hB1.block _ (blk_lt HR1.out)).trans HR1.out)
  clear hm1 hB1 c1
  go_wp2_with (have hq := HROW; clear HROW; refine wpList_load_row rfl 65 _ rfl n rfl 65 bs (0, 0) _ hq.out Try.underlying65 rfl (by rw [HSZ.out]; kernel_rfl) ?_; clear hq)
  refine (side28 w1 bs es ms (H.out.below HB1.out HS.out) (fun b hb => Nat.lt_of_lt_of_le (HS.out b hb) HB1.out.size) h40 H8.out ra rc R (HR.out.below HB1.out HS2.out) (fun b hb => Nat.lt_of_lt_of_le (HS2.out b hb) HB1.out.size)).mono ?_
  rintro e w2 ⟨⟨y, py, ok2, rfl, hm2⟩, hB2⟩
  have HM2 := Lib.hid hm2
  have HB2 := Lib.hid (below_step HB1.out hB2)
  have d1 : w2.cell? ⟨n + 1, 1, none⟩ = some (.slice la L.length lc) := cell_below (blk_cell HRM.out 1) hB2
  have d2 : w2.cell? ⟨n + 1, 2, none⟩ = some (.slice ra R.length rc) := cell_below (blk_cell HRM.out 2) hB2
  have d3 : w2.cell? ⟨n + 1, 3, none⟩ = some (.int .i64 st) := cell_below (blk_cell HRM.out 3) hB2
  clear hm2 hB2 c2
  cases hL : sideP es L with
  | none =>
    have HQ := HM1.out
    rw [hL] at HQ
    obtain rfl : ok1 = false := HQ
    have HBAD := Lib.hid (show sd = (0, 0, 1) from by rw [← HSD.out, sidesM_ref, hL])
    clear hL
    go_wp2_with fail
    go_ret3
    exact ⟨by rw [HBAD.out]; rfl, HB2.out⟩
  | some p =>
    have HQ := HM1.out
    rw [hL] at HQ
    have hq3 : ok1 = true ∧ x = p.1 ∧ px = p.2 := HQ
    obtain ⟨hok, hxp, hpp⟩ := hq3
    subst hok
    clear HQ
    cases hR : sideP es R with
    | none =>
      have HQ := HM2.out
      rw [hR] at HQ
      obtain rfl : ok2 = false := HQ
      have HBAD := Lib.hid (show sd = (0, 0, 1) from by rw [← HSD.out, sidesM_ref, hL, hR])
      clear hL hR hxp hpp
      go_wp2_with fail
      go_ret3
      exact ⟨by rw [HBAD.out]; rfl, HB2.out⟩
    | some q =>
      have HQ := HM2.out
      rw [hR] at HQ
      have hq3 : ok2 = true ∧ y = q.1 ∧ py = q.2 := HQ
      obtain ⟨hok, hyq, hpq⟩ := hq3
      subst hok
      clear HQ
      have HSV := Lib.hid (show sd = if x ≠ y ∧ px = y ∧ py = x ∧ 1 ≤ st ∧ st ≤ 5 then (x, y, 0) else (0, 0, 1) from by rw [← HSD.out, sidesM_ref, hL, hR, hxp, hpp, hyq, hpq])
      clear hL hR hxp hpp hyq hpq
      by_cases hxy : x = y
      · have e1 : (x == y) = true := by simpa using hxy
        have HBAD := Lib.hid (show sd = (0, 0, 1) from by rw [HSV.out, if_neg (fun h => h.1 hxy)])
        clear hxy
        go_wp2_with fail
        go_ret3
        exact ⟨by rw [HBAD.out]; rfl, HB2.out⟩
      have e1 : (x == y) = false := by simpa using hxy
      have HXY := Lib.hid hxy
      clear hxy
      by_cases h2 : px = y
      case neg =>
        have e2 : (px == y) = false := by simpa using h2
        have e2' : (px != y) = true := by simpa using h2
        have HBAD := Lib.hid (show sd = (0, 0, 1) from by rw [HSV.out, if_neg (fun h => h2 h.2.1)])
        clear h2
        go_wp2_with fail
        go_ret3
        exact ⟨by rw [HBAD.out]; rfl, HB2.out⟩
      have h2' := h2.symm
      subst h2'
      clear h2
      by_cases h3 : py = x
      case neg =>
        have e3 : (py == x) = false := by simpa using h3
        have e3' : (py != x) = true := by simpa using h3
        have HBAD := Lib.hid (show sd = (0, 0, 1) from by rw [HSV.out, if_neg (fun h => h3 h.2.2.1)])
        clear h3
        go_wp2_with fail
        go_ret3
        exact ⟨by rw [HBAD.out]; rfl, HB2.out⟩
      have h3' := h3.symm
      subst h3'
      clear h3
      have hne : ¬ x = y := HXY.out
      by_cases h4 : st < 1
      · have HBAD := Lib.hid (show sd = (0, 0, 1) from by rw [HSV.out, if_neg (fun h => by omega)])
        go_wp2_with fail
        go_ret3
        exact ⟨by rw [HBAD.out]; rfl, HB2.out⟩
      by_cases h5 : 5 < st
      · have HBAD := Lib.hid (show sd = (0, 0, 1) from by rw [HSV.out, if_neg (fun h => by omega)])
        go_wp2_with fail
        go_ret3
        exact ⟨by rw [HBAD.out]; rfl, HB2.out⟩
      have HT := Lib.hid (show sd = (x, y, 0) from by rw [HSV.out, if_pos ⟨HXY.out, rfl, rfl, by omega, by omega⟩])
      go_wp2_with fail
      go_ret3
      exact ⟨by rw [HT.out]; rfl, HB2.out⟩
/-- Valid of either side. -/
theorem valid28 {S S2 : Nat → Prop} (w : World) (bs : Array Value) (es : List En) (ms : List M4) (h : Bk S w bs es ms) (hS : ∀ b, S b → b < w.heap.size) (h40 : es.length ≤ 40) (h8 : ∀ e ∈ es, e.ln.length ≤ 8)
    (id st : Int) (la : Option Addr) (lc : Nat) (L : List R2) (ra : Option Addr) (rc : Nat) (R : List R2) (hL : Rd (.sl refT) S2 w [.slice la L.length lc] (L.map R2.d)) (hR : Rd (.sl refT) S2 w [.slice ra R.length rc] (R.map R2.d)) (hS2 : ∀ b, S2 b → b < w.heap.size) :
    Calls Try.prog 20 #[.agg bs, .agg #[.int .i64 id, .slice la L.length lc, .slice ra R.length rc, .int .i64 st]] w fun e w' => e = .returned (.bool (decide ((sidesM es L R st).2.2 = 0))) ∧ Below w.heap.size w w' := by
  have HSZ := Lib.hid h.sz
  have hb0 := ((Below.refl w.heap.size w).alloc (Nat.le_refl _) (.cells bs 65)).alloc (by simp) (.cells #[.int .i64 id, .slice la L.length lc, .slice ra R.length rc, .int .i64 st] 67)
  have HB0 := Lib.hid hb0
  have HR0 := Lib.hid (alloc_old' (y := .cells #[.int .i64 id, .slice la L.length lc, .slice ra R.length rc, .int .i64 st] 67) (heap_alloc_new w (.cells bs 65)))
  have hr1 := heap_alloc_new (w.alloc (.cells bs 65)) (.cells #[.int .i64 id, .slice la L.length lc, .slice ra R.length rc, .int .i64 st] 67)
  rw [World.size_alloc] at hr1
  have HR1 := Lib.hid hr1
  have HSD := Lib.hid (sides28 _ bs es ms (h.below hb0 hS) (fun b hb => Nat.lt_of_lt_of_le (hS b hb) hb0.size) h40 h8 id st la lc L ra rc R (hL.below hb0 hS2) (hR.below hb0 hS2) (fun b hb => Nat.lt_of_lt_of_le (hS2 b hb) hb0.size))
  obtain ⟨sd, hsd⟩ : ∃ q, sidesM es L R st = q := ⟨_, rfl⟩
  rw [hsd] at HSD ⊢
  obtain ⟨s1, s2, s3⟩ := sd
  simp only
  clear h hS h8 hL hR hS2 hb0 hr1 hsd
  go_enter Try.func20, Try.ntmps20
  go_upto_region 1 with fail
  generalize World.alloc (World.alloc w (.cells bs 65)) (.cells #[.int .i64 id, .slice la L.length lc, .slice ra R.length rc, .int .i64 st] 67) = w0 at *
  obtain ⟨n, hn⟩ : ∃ q, w.heap.size = q := ⟨_, rfl⟩
  rw [hn] at HR0 HR1
  have HN := Lib.hid hn
  simp only [hn]
  clear hn
  have HROW := Lib.hid HR0.out
  have HROM := Lib.hid HR1.out
  go_wp2_with (first | (have hq := HROW; clear HROW; refine wpList_load_row rfl 65 _ rfl n rfl 65 bs (0, 0) _ hq.out Try.underlying65 rfl (by rw [HSZ.out]; kernel_rfl) ?_; clear hq) | (have hq := HROM; clear HROM; refine wpList_load_row rfl 67 _ rfl (n + 1) rfl 67 _ (0, 0) _ hq.out Try.underlying67 rfl (by kernel_rfl) ?_; clear hq))
  refine HSD.out.mono ?_
  rintro e w1 ⟨he, hB1⟩
  unfold SdP at he
  subst he
  have HB1 := Lib.hid (below_step HB0.out hB1)
  clear hB1
  go_wp2_with fail
  go_ret
  refine ⟨?_, HB1.out⟩
  first | rfl | (by_cases e : s3 = 0 <;> simp [e])
theorem rvalidM28 {S S2 : Nat → Prop} (w : World) (bs : Array Value) (es : List En) (ms : List M4) (h : Bk S w bs es ms) (hS : ∀ b, S b → b < w.heap.size) (h40 : es.length ≤ 40) (h8 : ∀ e ∈ es, e.ln.length ≤ 8)
    (id st : Int) (la : Option Addr) (lc : Nat) (L : List R2) (ra : Option Addr) (rc : Nat) (R : List R2) (hL : Rd (.sl refT) S2 w [.slice la L.length lc] (L.map R2.d)) (hR : Rd (.sl refT) S2 w [.slice ra R.length rc] (R.map R2.d)) (hS2 : ∀ b, S2 b → b < w.heap.size) :
    Calls Try.prog 21 #[.agg bs, .agg #[.int .i64 id, .slice la L.length lc, .slice ra R.length rc, .int .i64 st]] w fun e w' => e = .returned (.bool (decide ((sidesM es L R st).2.2 = 0))) ∧ Below w.heap.size w w' := by
  have HSZ := Lib.hid h.sz
  have hb0 := ((Below.refl w.heap.size w).alloc (Nat.le_refl _) (.cells bs 65)).alloc (by simp) (.cells #[.int .i64 id, .slice la L.length lc, .slice ra R.length rc, .int .i64 st] 67)
  have HB0 := Lib.hid hb0
  have HR0 := Lib.hid (alloc_old' (y := .cells #[.int .i64 id, .slice la L.length lc, .slice ra R.length rc, .int .i64 st] 67) (heap_alloc_new w (.cells bs 65)))
  have hr1 := heap_alloc_new (w.alloc (.cells bs 65)) (.cells #[.int .i64 id, .slice la L.length lc, .slice ra R.length rc, .int .i64 st] 67)
  rw [World.size_alloc] at hr1
  have HR1 := Lib.hid hr1
  have HSD := Lib.hid (rsides28 _ bs es ms (h.below hb0 hS) (fun b hb => Nat.lt_of_lt_of_le (hS b hb) hb0.size) h40 h8 id st la lc L ra rc R (hL.below hb0 hS2) (hR.below hb0 hS2) (fun b hb => Nat.lt_of_lt_of_le (hS2 b hb) hb0.size))
  obtain ⟨sd, hsd⟩ : ∃ q, sidesM es L R st = q := ⟨_, rfl⟩
  rw [hsd] at HSD ⊢
  obtain ⟨s1, s2, s3⟩ := sd
  simp only
  clear h hS h8 hL hR hS2 hb0 hr1 hsd
  go_enter Try.func21, Try.ntmps21
  go_upto_region 1 with fail
  generalize World.alloc (World.alloc w (.cells bs 65)) (.cells #[.int .i64 id, .slice la L.length lc, .slice ra R.length rc, .int .i64 st] 67) = w0 at *
  obtain ⟨n, hn⟩ : ∃ q, w.heap.size = q := ⟨_, rfl⟩
  rw [hn] at HR0 HR1
  have HN := Lib.hid hn
  simp only [hn]
  clear hn
  have HROW := Lib.hid HR0.out
  have HROM := Lib.hid HR1.out
  go_wp2_with (first | (have hq := HROW; clear HROW; refine wpList_load_row rfl 65 _ rfl n rfl 65 bs (0, 0) _ hq.out Try.underlying65 rfl (by rw [HSZ.out]; kernel_rfl) ?_; clear hq) | (have hq := HROM; clear HROM; refine wpList_load_row rfl 67 _ rfl (n + 1) rfl 67 _ (0, 0) _ hq.out Try.underlying67 rfl (by kernel_rfl) ?_; clear hq))
  refine HSD.out.mono ?_
  rintro e w1 ⟨he, hB1⟩
  unfold SdP at he
  subst he
  have HB1 := Lib.hid (below_step HB0.out hB1)
  clear hB1
  go_wp2_with fail
  go_ret
  refine ⟨?_, HB1.out⟩
  first | rfl | (by_cases e : s3 = 0 <;> simp [e])
end Go.Proofs.Ytpobckedeffjmaa

/- Layer 28: the reference's Few. -/
set_option linter.unusedSimpArgs false
set_option maxRecDepth 50000
namespace Go.Proofs.Ytpobckedeffjmaa
open Go.RowKit Go

/-- The sum of two lengths, as the machine reckons it. -/
def sumW (a b : Nat) : Int := IntKind.i64.wrap ((a : Int) + (b : Int))
def fewB (es : List En) (ms : List M4) : Bool := es.all (fun e => !decide (8 < e.ln.length)) && (ms.all (fun m => !decide (20 < sumW m.l.length m.r.length)) && (decide (es.length ≤ 40) && decide (ms.length ≤ 20)))
theorem fewB_true {es : List En} {ms : List M4} (h : fewB es ms = true) : (∀ e ∈ es, e.ln.length ≤ 8) ∧ es.length ≤ 40 ∧ ms.length ≤ 20 := by
  unfold fewB at h
  simp only [Bool.and_eq_true, List.all_eq_true, Bool.not_eq_true', decide_eq_false_iff_not, decide_eq_true_eq] at h
  exact ⟨fun e he => Nat.le_of_not_lt (h.1 e he), h.2.2.1, h.2.2.2⟩
set_option maxHeartbeats 4000000 in
theorem few28 {S : Nat → Prop} (w : World) (bs : Array Value) (es : List En) (ms : List M4) (h : Bk S w bs es ms) (hS : ∀ b, S b → b < w.heap.size) :
    Calls Try.prog 17 #[.agg bs] w fun e w' => e = .returned (.bool (fewB es ms)) ∧ Below w.heap.size w w' := by
  have HS := Lib.hid hS
  obtain ⟨hsz, ⟨ea, ec, he, hE⟩, ma, mc, hm, hM⟩ := h
  have hle : es.length ≤ 9223372036854775807 := Nat.le_trans ((rd_len hE) ▸ hE.sl_flat.2.1) hE.sl_flat.2.2.1
  have hlm : ms.length ≤ 9223372036854775807 := Nat.le_trans ((rd_len hM) ▸ hM.sl_flat.2.1) hM.sl_flat.2.2.1
  have HE := Lib.hid hE
  have HM := Lib.hid hM
  obtain ⟨fb, hfb⟩ : ∃ q, fewB es ms = q := ⟨_, rfl⟩
  rw [hfb]
  have HFB := Lib.hid hfb
  have hrow := heap_alloc_new w (.cells bs 65)
  have HBX := Lib.hid ((Below.refl w.heap.size w).alloc (Nat.le_refl _) (.cells bs 65))
  have C21 := Lib.hid ((blk_cell hrow 21).trans he)
  have C24 := Lib.hid ((blk_cell hrow 24).trans hm)
  clear hsz he hm hE hM hfb hrow hS
  go_enter Try.func17, Try.ntmps17
  go_wp2_with fail
  generalize World.alloc w (.cells bs 65) = w0 at *
  obtain ⟨n, hn⟩ : ∃ q, w.heap.size = q := ⟨_, rfl⟩
  rw [hn] at C21 C24
  have HN := Lib.hid hn
  simp only [hn]
  clear hn
  go_loopw [3] (fun iv wr => ∃ (i : Nat), i ≤ es.length ∧ iv = .int .i64 (i : Int) ∧ (es.take i).all (fun e => !decide (8 < e.ln.length)) = true ∧ Below w0.heap.size w0 wr) (fun iv _ => es.length - (intOf iv).toNat)
  case atStart => exact ⟨0, Nat.zero_le _, rfl, rfl, Below.refl _ _⟩
  case round =>
    obtain ⟨i, hi, rfl, hall, hB⟩ := hrel
    have HB := Lib.hid hB
    have HALL := Lib.hid hall
    have HBW := Lib.hid (show Below w.heap.size w wr from below_step HBX.out hB)
    have d21 := cell_below C21.out hB
    by_cases hil : i < es.length
    · have hiI : (i : Int) < (es.length : Int) := by omega
      obtain ⟨eb, eo, la, lc, rfl, -, ⟨-, -, -, -, -, -, m6⟩, -⟩ := entry_at (HE.out.below HBW.out HS.out) i hil
      have HTK := Lib.hid (List.take_succ_eq_append_getElem hil)
      have HIN := Lib.hid (List.getElem_mem hil)
      have HIL := Lib.hid hil
      generalize es[i] = q at m6 HTK HIN
      obtain ⟨q1, q2, q3, q4, q5, q6, q7⟩ := q
      simp only at m6
      clear hall hB hi hil
      by_cases h8 : 8 < q7.length
      · have hI : (8 : Int) < (q7.length : Int) := by omega
        have HF := Lib.hid (show fb = false from by
          rw [← HFB.out]; unfold fewB
          rw [show es.all (fun e => !decide (8 < e.ln.length)) = false from List.all_eq_false.2 ⟨_, HIN.out, by simp [h8]⟩, Bool.false_and])
        go_wp2_with fail
        go_ret
        exact ⟨by rw [HF.out]; rfl, HBW.out⟩
      · have hI : ¬ (8 : Int) < (q7.length : Int) := by omega
        have H8 := Lib.hid h8
        go_wp2_with fail
        go_roundw
        case rel =>
          refine ⟨i + 1, HIL.out, by go_num, ?_, HB.out⟩
          rw [HTK.out, List.all_append, HALL.out]
          simp only [List.all_cons, List.all_nil, Bool.and_true, Bool.true_and]
          rw [decide_eq_false H8.out]; rfl
        case measure => have := HIL.out; simp [intOf]; try omega
    · obtain rfl : i = es.length := by omega
      have hiI : ¬ ((es.length : Nat) : Int) < (es.length : Int) := by omega
      rw [List.take_length] at hall
      have HAE := Lib.hid hall
      obtain ⟨wp, rfl⟩ : ∃ q, q = wr := ⟨_, rfl⟩
      have C21' := Lib.hid d21
      have C24' := Lib.hid (cell_below C24.out hB)
      clear hall hB hi hil
      go_wp2_with fail
      clear d21
      go_loopw [4] (fun iv wr => ∃ (i : Nat), i ≤ ms.length ∧ iv = .int .i64 (i : Int) ∧ (ms.take i).all (fun m => !decide (20 < sumW m.l.length m.r.length)) = true ∧ Below wp.heap.size wp wr) (fun iv _ => ms.length - (intOf iv).toNat)
      case atStart => exact ⟨0, Nat.zero_le _, rfl, rfl, Below.refl _ _⟩
      case round =>
        obtain ⟨j, hj, rfl, hallm, hBm⟩ := hrel
        have HBM := Lib.hid hBm
        have HALM := Lib.hid hallm
        have HBWM := Lib.hid (show Below w.heap.size w wr from below_step HBW.out hBm)
        have d24 := cell_below C24'.out hBm
        by_cases hjl : j < ms.length
        · have hjI : (j : Int) < (ms.length : Int) := by omega
          obtain ⟨mb, mo, la, lc, ra, rc, rfl, -, ⟨-, m1, m2, -⟩, hl1, hl2, -⟩ := match_at (HM.out.below HBWM.out HS.out) j hjl
          have HTK := Lib.hid (List.take_succ_eq_append_getElem hjl)
          have HIN := Lib.hid (List.getElem_mem hjl)
          have HJL := Lib.hid hjl
          generalize ms[j] = q at m1 m2 HTK HIN hl1 hl2
          obtain ⟨q1, q2, q3, q4⟩ := q
          simp only at m1 m2
          have hC0 : Cells [(⟨n, 24, none⟩, .slice (some ⟨mb, mo, none⟩) ms.length mc), (⟨mb, mo + j * 4 + 1, none⟩, .slice la q2.length lc), (⟨mb, mo + j * 4 + 2, none⟩, .slice ra q3.length rc)] wr := ⟨d24, m1, m2, trivial⟩
          obtain ⟨bb, hbb⟩ : ∃ q, decide (20 < sumW q2.length q3.length) = q := ⟨_, rfl⟩
          have HBB := Lib.hid hbb
          clear hallm hBm hj hjl hl1 hl2 m1 m2 hbb
          go_wp2_with fail
          clear d24
          refine wp_region_T (Cells [(⟨n, 24, none⟩, .slice (some ⟨mb, mo, none⟩) ms.length mc), (⟨mb, mo + j * 4 + 1, none⟩, .slice la q2.length lc), (⟨mb, mo + j * 4 + 2, none⟩, .slice ra q3.length rc)]) (fun _ => false) (by kernel_rfl) ?_
          have hSss1 := Cells.drew hC0
          have hB_0_s1 : Below wr.heap.size wr wr.drew := below_drew _
          generalize wr.drew = s1 at hSss1 hB_0_s1 ⊢
          have hB_s1_s1 := Below.refl s1.heap.size s1
          refine wpAnyT_pure (i := 0) (v := ?_) rfl (by kernel_rfl) (by kernel_rfl) (by kernel_rfl) (fun _ _ _ h => h) (by rfl) ?_ ?_
          rotate_left
          · intro w; go_simp; try with_reducible rfl
          simp only [Act.put, rgA, rgB, rgC, rgD, rgE, rgF]
          refine wpAnyT_pure (i := 2) (v := ?_) rfl (by kernel_rfl) (by kernel_rfl) (by kernel_rfl) (fun _ _ _ h => h) (by rfl) ?_ ?_
          rotate_left
          · intro w; go_simp; try with_reducible rfl
          simp only [Act.put, rgA, rgB, rgC, rgD, rgE, rgF]
          refine wpAnyT_pure (i := 7) (v := ?_) rfl (by kernel_rfl) (by kernel_rfl) (by kernel_rfl) (fun _ _ _ h => h) (by rfl) ?_ ?_
          rotate_left
          · intro w; go_simp; try with_reducible rfl
          simp only [Act.put, rgA, rgB, rgC, rgD, rgE, rgF]
          refine wpAnyT_pure (i := 9) (v := ?_) rfl (by kernel_rfl) (by kernel_rfl) (by kernel_rfl) (fun _ _ _ h => h) (by rfl) ?_ ?_
          rotate_left
          · intro w; go_simp; try with_reducible rfl
          simp only [Act.put, rgA, rgB, rgC, rgD, rgE, rgF]
          refine wpAnyT_loadW (i := 1) (v := ?_) rfl (by kernel_rfl) (by kernel_rfl) (by kernel_rfl) (by kernel_rfl) (by kernel_rfl) (fun _ _ _ h => h) (Or.inl ⟨by rfl, ?_⟩) hSss1 ?_
          rotate_left
          · intro w hSw; obtain ⟨e0, e1, e2, -⟩ := hSw; go_simp; try with_reducible rfl
          simp only [Act.put, rgA, rgB, rgC, rgD, rgE, rgF]
          refine wpAnyT_pure (i := 3) (v := ?_) rfl (by kernel_rfl) (by kernel_rfl) (by kernel_rfl) (fun _ _ _ h => h) (by rfl) ?_ ?_
          rotate_left
          · intro w; go_simp; try with_reducible rfl
          simp only [Act.put, rgA, rgB, rgC, rgD, rgE, rgF]
          refine wpAnyT_pure (i := 4) (v := ?_) rfl (by kernel_rfl) (by kernel_rfl) (by kernel_rfl) (fun _ _ _ h => h) (by rfl) ?_ ?_
          rotate_left
          · intro w; go_simp; try with_reducible rfl
          simp only [Act.put, rgA, rgB, rgC, rgD, rgE, rgF]
          refine wpAnyT_loadW (i := 5) (v := ?_) rfl (by kernel_rfl) (by kernel_rfl) (by kernel_rfl) (by kernel_rfl) (by kernel_rfl) (fun _ _ _ h => h) (Or.inl ⟨by rfl, ?_⟩) hSss1 ?_
          rotate_left
          · intro w hSw; obtain ⟨e0, e1, e2, -⟩ := hSw; go_simp; try with_reducible rfl
          simp only [Act.put, rgA, rgB, rgC, rgD, rgE, rgF]
          refine wpAnyT_pure (i := 6) (v := ?_) rfl (by kernel_rfl) (by kernel_rfl) (by kernel_rfl) (fun _ _ _ h => h) (by rfl) ?_ ?_
          rotate_left
          · intro w; go_simp; try with_reducible rfl
          simp only [Act.put, rgA, rgB, rgC, rgD, rgE, rgF]
          refine wpAnyT_loadW (i := 8) (v := ?_) rfl (by kernel_rfl) (by kernel_rfl) (by kernel_rfl) (by kernel_rfl) (by kernel_rfl) (fun _ _ _ h => h) (Or.inl ⟨by rfl, ?_⟩) hSss1 ?_
          rotate_left
          · intro w hSw; obtain ⟨e0, e1, e2, -⟩ := hSw; go_simp; try with_reducible rfl
          simp only [Act.put, rgA, rgB, rgC, rgD, rgE, rgF]
          refine wpAnyT_pure (i := 10) (v := ?_) rfl (by kernel_rfl) (by kernel_rfl) (by kernel_rfl) (fun _ _ _ h => h) (by rfl) ?_ ?_
          rotate_left
          · intro w; go_simp; try with_reducible rfl
          simp only [Act.put, rgA, rgB, rgC, rgD, rgE, rgF]
          refine wpAnyT_pure (i := 11) (v := ?_) rfl (by kernel_rfl) (by kernel_rfl) (by kernel_rfl) (fun _ _ _ h => h) (by rfl) ?_ ?_
          rotate_left
          · intro w; go_simp; try with_reducible rfl
          simp only [Act.put, rgA, rgB, rgC, rgD, rgE, rgF]
          refine wpAnyT_loadW (i := 12) (v := ?_) rfl (by kernel_rfl) (by kernel_rfl) (by kernel_rfl) (by kernel_rfl) (by kernel_rfl) (fun _ _ _ h => h) (Or.inl ⟨by rfl, ?_⟩) hSss1 ?_
          rotate_left
          · intro w hSw; obtain ⟨e0, e1, e2, -⟩ := hSw; go_simp; try with_reducible rfl
          simp only [Act.put, rgA, rgB, rgC, rgD, rgE, rgF]
          refine wpAnyT_pure (i := 13) (v := ?_) rfl (by kernel_rfl) (by kernel_rfl) (by kernel_rfl) (fun _ _ _ h => h) (by rfl) ?_ ?_
          rotate_left
          · intro w; go_simp; try with_reducible rfl
          simp only [Act.put, rgA, rgB, rgC, rgD, rgE, rgF]
          refine wpAnyT_pure (i := 14) (v := (.int .i64 (sumW q2.length q3.length))) rfl (by kernel_rfl) (by kernel_rfl) (by kernel_rfl) (fun _ _ _ h => h) (by rfl) ?_ ?_
          · intro w; unfold sumW; go_simp; try rfl
          simp only [Act.put, rgA, rgB, rgC, rgD, rgE, rgF]
          refine wpAnyT_pure (i := 15) (v := (.bool bb)) rfl (by kernel_rfl) (by kernel_rfl) (by kernel_rfl) (fun _ _ _ h => h) (by rfl) ?_ ?_
          · intro w; have hq := HBB.out; clear HBB; go_simp; try (first | exact hq | (rw [← hq]; simp))
          simp only [Act.put, rgA, rgB, rgC, rgD, rgE, rgF]
          refine wpAnyT_done (by kernel_rfl) ?_ _
          have HBE := Lib.hid (below_step HBM.out hB_0_s1)
          obtain ⟨wE, rfl⟩ : ∃ q, q = s1 := ⟨_, rfl⟩
          cases bb with
          | true =>
            have HF := Lib.hid (show fb = false from by
              rw [← HFB.out]; unfold fewB
              rw [show ms.all (fun m => !decide (20 < sumW m.l.length m.r.length)) = false from List.all_eq_false.2 ⟨_, HIN.out, by rw [HBB.out]; decide⟩, Bool.false_and, Bool.and_false])
            go_wp2_with fail
            go_ret
            exact ⟨by rw [HF.out]; rfl, below_step HBW.out HBE.out⟩
          | false =>
            go_wp2_with fail
            go_roundw
            case rel =>
              refine ⟨j + 1, HJL.out, by go_num, ?_, HBE.out⟩
              rw [HTK.out, List.all_append, HALM.out]
              simp only [List.all_cons, List.all_nil, Bool.and_true, Bool.true_and]
              rw [HBB.out]; rfl
            case measure => have := HJL.out; simp [intOf]; try omega
        · obtain rfl : j = ms.length := by omega
          have hjI : ¬ ((ms.length : Nat) : Int) < (ms.length : Int) := by omega
          rw [List.take_length] at hallm
          have d21 := cell_below C21'.out hBm
          have HF := Lib.hid (show fb = (decide (es.length ≤ 40) && decide (ms.length ≤ 20)) from by rw [← HFB.out]; unfold fewB; rw [HAE.out, hallm]; rfl)
          clear hallm hBm hj hjl
          by_cases h40 : es.length ≤ 40
          · have h40I : (es.length : Int) ≤ 40 := by omega
            by_cases h20 : ms.length ≤ 20
            · have h20I : (ms.length : Int) ≤ 20 := by omega
              go_wp2_with fail
              go_ret
              exact ⟨by rw [HF.out, decide_eq_true h40, decide_eq_true h20]; rfl, HBWM.out⟩
            · have h20I : ¬ (ms.length : Int) ≤ 20 := by omega
              go_wp2_with fail
              go_ret
              exact ⟨by rw [HF.out, decide_eq_true h40, decide_eq_false h20]; first | rfl | simp [h20], HBWM.out⟩
          · have h40I : ¬ (es.length : Int) ≤ 40 := by omega
            go_wp2_with fail
            go_ret
            exact ⟨by rw [HF.out, decide_eq_false h40]; first | rfl | simp [h40], HBWM.out⟩
end Go.Proofs.Ytpobckedeffjmaa

/- Layer 28: MatchValid. -/
set_option linter.unusedSimpArgs false
set_option maxRecDepth 50000
namespace Go.Proofs.Ytpobckedeffjmaa
open Go.RowKit Go

theorem wpList_load_rowG {P : Program} {ops : Array Oper} {rest : List Oper} {o : Oper} {a : Act} {w : World} {Q : Exit → Act → World → Prop} (hw : Region.wanted o (yielded ops a.tmps) = true) (ty : TypeId) (x : Operand) (ho : o.op = .load ty x)
    (g : Nat) (hx : a.eval x = .pointer (some ⟨g, 0, none⟩)) (t : TypeId) (cs : Array Value) (fr : Nat × Nat) (d : TypeDesc) (hg : w.heap[g]? = some (.cells cs t fr))
    (hu : P.underlying ty = some d) (hd : (match d with | .struct _ | .array _ _ => true | _ => false) = true) (hi : (P.info? ty).map (·.size) = some cs.size)
    (h : wpList P ops Q rest (a.put o.dst (.agg cs)) w) : wpList P ops Q (o :: rest) a w := by
  unfold wpList
  rw [if_pos hw]
  exact .inl (wp_load_row ty x ho g hx t cs fr d hg hu hd hi h)
end Go.Proofs.Ytpobckedeffjmaa

/- Layer 28: AllValid, plain and the program's. -/
set_option linter.unusedSimpArgs false
set_option maxRecDepth 50000
namespace Go.Proofs.Ytpobckedeffjmaa
open Go.RowKit Go

def refsA (ms : List M4) : List R2 := ms.flatMap fun m => m.l ++ m.r
def okM (es : List En) (m : M4) : Bool := decide (1 ≤ m.id) && decide ((sidesM es m.l m.r m.st).2.2 = 0)
def allB (es : List En) (ms : List M4) : Bool := ms.all (okM es) && (decide ((ms.map (·.id)).Nodup) && decide ((refsA ms).Nodup))
theorem allB_iff {es : List En} {ms : List M4} : allB es ms = true ↔ (∀ m ∈ ms, okM es m = true) ∧ (ms.map (·.id)).Nodup ∧ (refsA ms).Nodup := by
  unfold allB
  simp only [Bool.and_eq_true, List.all_eq_true, decide_eq_true_eq]
theorem refsA_snoc (ms : List M4) (m : M4) : refsA (ms ++ [m]) = refsA ms ++ (m.l ++ m.r) := by simp [refsA]
theorem allB_take {es : List En} {ms : List M4} (h : allB es ms = true) (k : Nat) : allB es (ms.take k) = true := by
  rw [allB_iff] at h ⊢
  refine ⟨fun m hm => h.1 m (List.mem_of_mem_take hm), h.2.1.sublist ((List.take_sublist _ _).map _), ?_⟩
  have h3 := h.2.2
  rw [← List.take_append_drop k ms] at h3
  unfold refsA at h3 ⊢
  rw [List.flatMap_append, List.nodup_append] at h3
  exact h3.1
theorem allB_snoc {es : List En} {ms : List M4} {m : M4} : allB es (ms ++ [m]) = true ↔ allB es ms = true ∧ okM es m = true ∧ m.id ∉ ms.map (·.id) ∧ (m.l ++ m.r).Nodup ∧ ∀ x ∈ m.l ++ m.r, x ∉ refsA ms := by
  rw [allB_iff, allB_iff, refsA_snoc, List.map_append, List.map_cons, List.map_nil, nodup_snoc]
  constructor
  · rintro ⟨h1, ⟨h2, h3⟩, h4⟩
    have h5 := List.nodup_append.1 h4
    exact ⟨⟨fun x hx => h1 x (by simp [hx]), h2, h5.1⟩, h1 m (by simp), h3, h5.2.1, fun x hx hm => h5.2.2 x hm x hx rfl⟩
  · rintro ⟨⟨h1, h2, h3⟩, h4, h5, h6, h7⟩
    exact ⟨fun x hx => by rcases List.mem_append.1 hx with hx | hx; exact h1 x hx; rw [List.mem_singleton.1 hx]; exact h4, ⟨h2, h5⟩, nodup_app h3 h6 h7⟩
theorem okM_len {es : List En} {m : M4} (h : okM es m = true) : m.l.length ≤ 12 ∧ m.r.length ≤ 12 ∧ (m.l ++ m.r).Nodup := by
  unfold okM at h
  rw [Bool.and_eq_true] at h
  have h2 := of_decide_eq_true h.2
  unfold sidesM at h2
  cases hl : entP es m.l with
  | none => rw [hl] at h2; cases h2
  | some p =>
    rw [hl] at h2
    cases hr : entP es m.r with
    | none => rw [hr] at h2; cases h2
    | some q =>
      rw [hr] at h2
      simp only at h2
      split at h2
      · rename_i hc; exact ⟨entP_len hl, entP_len hr, hc.2.2.2.2.2⟩
      · cases h2
def setI (s : Int → Bool) (c : Int) : Option Bool := if s c then some true else none
noncomputable def intK : KeyS Try.prog 3 Int where
  K := Maps.int_keyed Try.underlying3
  v := fun x => .int .i64 x
  ok := fun x => (Lit.int .i64 x).wf = true
  l := fun x => .int .i64 x
  hl := fun x h => by
    unfold keyOf
    simp only [Try.underlying3]
    unfold mapKey
    have h2 : (Lit.int .i64 x).wf = true := h
    simp [Try.underlying3, h2]
  inj := fun x y _ _ h => by injection h
set_option maxHeartbeats 8000000 in
theorem allValid28 {S : Nat → Prop} (w : World) (bs : Array Value) (es : List En) (ms : List M4) (h : Bk S w bs es ms) (hS : ∀ b, S b → b < w.heap.size) (h40 : es.length ≤ 40) (h8 : ∀ e ∈ es, e.ln.length ≤ 8) (h20 : ms.length ≤ 20) :
    Calls Try.prog 22 #[.agg bs] w fun e w' => e = .returned (.bool (allB es ms)) ∧ Below w.heap.size w w' := by
  have hmm := fun w => @run_makeMap Try.prog w
  have HSZ := Lib.hid h.sz
  have H := Lib.hid h
  have HS := Lib.hid hS
  have H8 := Lib.hid h8
  obtain ⟨ma, mc, hm, hMR⟩ := h.m
  have HMR := Lib.hid hMR
  obtain ⟨ab, hab⟩ : ∃ q, allB es ms = q := ⟨_, rfl⟩
  rw [hab]
  have HAB := Lib.hid hab
  have hrow := heap_alloc_new w (.cells bs 65)
  have hb0 := (((Below.refl w.heap.size w).alloc (Nat.le_refl _) (.cells bs 65)).alloc (by simp) (.map #[] 0)).alloc (by simp; omega) (.map #[] 0)
  have HB0 := Lib.hid hb0
  have HR0 := Lib.hid (alloc_old' (y := .map #[] 0) (alloc_old' (y := .map #[] 0) hrow))
  have hmI : MapG intK boolE ((w.alloc (.cells bs 65)).alloc (.map #[] 0)) (w.alloc (.cells bs 65)).heap.size 0 (fun _ => none) := MapG.made _
  have hmR : MapG refK boolE (((w.alloc (.cells bs 65)).alloc (.map #[] 0)).alloc (.map #[] 0)) ((w.alloc (.cells bs 65)).alloc (.map #[] 0)).heap.size 0 (fun _ => none) := MapG.made _
  have hmI2 := hmI.below ((Below.refl _ _).alloc (Nat.le_refl _) (.map #[] 0))
  simp only [World.size_alloc] at hmI2 hmR
  have HMI := Lib.hid hmI2
  have HMRf := Lib.hid hmR
  have HM24 := Lib.hid hm
  clear hMR hm hrow hb0 hmI hmR hmI2 h hS h8 hab
  go_enter Try.func22, Try.ntmps22
  go_upto_region 2 with fail
  generalize World.alloc (World.alloc (World.alloc w (.cells bs 65)) (.map #[] 0)) (.map #[] 0) = w0 at *
  obtain ⟨n, hn⟩ : ∃ q, w.heap.size = q := ⟨_, rfl⟩
  rw [hn] at HR0 HMI HMRf
  have HN := Lib.hid hn
  simp only [hn]
  clear hn
  have c24 : w0.cell? ⟨n, 24, none⟩ = some (.slice ma ms.length mc) := (blk_cell HR0.out 24).trans HM24.out
  have hlmm : ms.length ≤ 9223372036854775807 := by omega
  go_wp2_with fail
  clear c24
  go_loopw [14] (fun iv wr => ∃ (k mI mR : Nat), k ≤ ms.length ∧ iv = .int .i64 (k : Int) ∧ mI ≤ k ∧ mR ≤ 24 * k ∧ MapG intK boolE wr (n + 1) mI (setI (fun x => decide (x ∈ (ms.take k).map (·.id)))) ∧ MapG refK boolE wr (n + 1 + 1) mR (setF (fun x => decide (x ∈ refsA (ms.take k)))) ∧ allB es (ms.take k) = true ∧ Gr (fun b => b = n + 1 ∨ b = n + 1 + 1) w0 wr) (fun iv _ => ms.length - (intOf iv).toNat)
  case atStart => exact ⟨0, 0, 0, Nat.zero_le _, rfl, Nat.le_refl _, Nat.le_refl _, HMI.out.congr (fun x _ => by simp [setI]), HMRf.out.congr (fun x _ => by simp [setF, refsA]), rfl, Gr.refl _ _⟩
  case round =>
    obtain ⟨k, mI, mR, hk, rfl, hkI1, hkR1, hMI, hMR, hall, hG⟩ := hrel
    have HMIr := Lib.hid hMI
    have HMRr := Lib.hid hMR
    have HALL := Lib.hid hall
    have HG := Lib.hid hG
    have HCNT := Lib.hid (And.intro hkI1 hkR1)
    have HBW := Lib.hid (show Below w.heap.size w wr from by rw [HN.out]; exact (HN.out ▸ HB0.out).trans (hG.below (fun b e => by omega) (Nat.le_of_lt (blk_lt HR0.out))))
    have HROWr := Lib.hid (blk_gr hG HR0.out (by omega))
    clear hMI hMR hall hG hkI1 hkR1
    by_cases hkl : k < ms.length
    · have hkI : (k : Int) < (ms.length : Int) := by omega
      obtain ⟨mb, mo, la, lc, ra, rc, rfl, -, ⟨m0, m1, m2, m3⟩, hL, hR, hwi, -⟩ := match_at (HMR.out.below HBW.out HS.out) k hkl
      have HTK := Lib.hid (List.take_succ_eq_append_getElem hkl)
      have HKL := Lib.hid hkl
      generalize ms[k] = m at m0 m1 m2 m3 hL hR HTK hwi
      obtain ⟨id, L, R, st⟩ := m
      simp only at m0 m1 m2 m3 hL hR hwi
      have HSN := Lib.hid (show ab = true → allB es (ms.take k ++ [⟨id, L, R, st⟩]) = true from fun e => by rw [← HTK.out]; exact allB_take (HAB.out.trans e) _)
      have hbx := (Below.refl wr.heap.size wr).alloc (Nat.le_refl _) (.cells #[.int .i64 id, .slice la L.length lc, .slice ra R.length rc, .int .i64 st] 67)
      have hqx := heap_alloc_new wr (.cells #[.int .i64 id, .slice la L.length lc, .slice ra R.length rc, .int .i64 st] 67)
      have HBX := Lib.hid (below_step HBW.out hbx)
      have HGX := Lib.hid (HG.out.step hbx)
      have HQX := Lib.hid hqx
      have HRWX := Lib.hid ((hbx.block _ (blk_lt HROWr.out)).trans HROWr.out)
      have HMIx := Lib.hid (HMIr.out.below hbx)
      have HMRx := Lib.hid (HMRr.out.below hbx)
      have HLx := Lib.hid (hL.below hbx (fun b hb => Nat.lt_of_lt_of_le (HS.out b hb) HBW.out.size))
      have HRx := Lib.hid (hR.below hbx (fun b hb => Nat.lt_of_lt_of_le (HS.out b hb) HBW.out.size))
      have HWI := Lib.hid hwi
      clear hbx hqx hL hR hwi hkl hk
      go_upto_region 5 with fail
      clear m0 m1 m2 m3
      generalize World.alloc wr (.cells #[.int .i64 id, .slice la L.length lc, .slice ra R.length rc, .int .i64 st] 67) = wx at *
      obtain ⟨bx, hbxe⟩ : ∃ q, wr.heap.size = q := ⟨_, rfl⟩
      rw [hbxe] at HQX
      have HBXE := Lib.hid hbxe
      simp only [hbxe]
      clear hbxe
      have k0 : wx.cell? ⟨bx, 0, none⟩ = some (.int .i64 id) := blk_cell HQX.out 0
      by_cases hid1 : id < 1
      · have HF := Lib.hid (show ab = false from by
          cases hab : ab with
          | false => rfl
          | true =>
            have h1 := (allB_snoc.1 (HSN.out hab)).2.1
            unfold okM at h1
            rw [Bool.and_eq_true] at h1
            have := of_decide_eq_true h1.1
            simp only at this
            omega)
        go_wp2_with fail
        go_ret
        exact ⟨by rw [HF.out]; rfl, HBX.out⟩
      obtain ⟨ib, hib⟩ : ∃ q, decide (id ∈ (ms.take k).map (·.id)) = q := ⟨_, rfl⟩
      have HIB := Lib.hid hib
      have hlk := HMIx.out.look1 Try.underlying98 id HWI.out
      rw [show ((setI (fun x => decide (x ∈ (ms.take k).map (·.id))) id).getD boolE.z) = ib from by unfold setI; simp only [hib]; cases ib <;> rfl] at hlk
      change Sem.run Try.prog (Instr.lookup 98 (.map (some (n + 1))) (.int .i64 id) false) _ = .ok (.bool ib) _ at hlk
      clear hib
      cases ib with
      | true =>
        have HF := Lib.hid (show ab = false from by
          cases hab : ab with
          | false => rfl
          | true => exact absurd (of_decide_eq_true HIB.out) (allB_snoc.1 (HSN.out hab)).2.2.1)
        go_wp2_with fail
        go_ret
        exact ⟨by rw [HF.out]; rfl, HBX.out⟩
      | false =>
        have HROW := Lib.hid HRWX.out
        have HROM := Lib.hid HQX.out
        have HVL := Lib.hid (valid28 (S := S) (S2 := S) wx bs es ms (H.out.below HBX.out HS.out) (fun b hb => Nat.lt_of_lt_of_le (HS.out b hb) HBX.out.size) h40 H8.out id st la lc L ra rc R HLx.out HRx.out (fun b hb => Nat.lt_of_lt_of_le (HS.out b hb) HBX.out.size))
        obtain ⟨vb, hvb⟩ : ∃ q, decide ((sidesM es L R st).2.2 = 0) = q := ⟨_, rfl⟩
        rw [hvb] at HVL
        have HVB := Lib.hid hvb
        clear hvb
        go_wp2_with (first | (have hq := HROW; clear HROW; refine wpList_load_rowG (by rfl) 65 _ rfl n rfl 65 bs (0, 0) _ hq.out Try.underlying65 rfl (by rw [HSZ.out]; kernel_rfl) ?_; clear hq) | (have hq := HROM; clear HROM; refine wpList_load_rowG (by rfl) 67 _ rfl bx rfl 67 _ (0, 0) _ hq.out Try.underlying67 rfl (by kernel_rfl) ?_; clear hq))
        refine HVL.out.mono ?_
        rintro e w1 ⟨rfl, hB1⟩
        have HBY := Lib.hid (below_step HBX.out hB1)
        cases vb with
        | false =>
          have HF := Lib.hid (show ab = false from by
            cases hab : ab with
            | false => rfl
            | true =>
              have h1 := (allB_snoc.1 (HSN.out hab)).2.1
              unfold okM at h1
              rw [Bool.and_eq_true] at h1
              have h2 : decide ((sidesM es L R st).2.2 = 0) = true := h1.2
              rw [HVB.out] at h2
              cases h2)
          go_wp2_with fail
          go_ret
          exact ⟨by rw [HF.out]; rfl, HBY.out⟩
        | true =>
          have hok : okM es ⟨id, L, R, st⟩ = true := by unfold okM; rw [Bool.and_eq_true]; exact ⟨decide_eq_true (by simp only; omega), HVB.out⟩
          obtain ⟨hl12, hr12, hndm⟩ := okM_len hok
          simp only at hl12 hr12 hndm
          have HOKM := Lib.hid hok
          have HNDM := Lib.hid hndm
          have HQY := Lib.hid ((hB1.block _ (blk_lt HQX.out)).trans HQX.out)
          have HGY := Lib.hid (HGX.out.step hB1)
          have HLy := Lib.hid (HLx.out.below hB1 (fun b hb => Nat.lt_of_lt_of_le (HS.out b hb) HBX.out.size))
          have HRy := Lib.hid (HRx.out.below hB1 (fun b hb => Nat.lt_of_lt_of_le (HS.out b hb) HBX.out.size))
          have HMRy := Lib.hid (HMRx.out.below hB1)
          have HRWY := Lib.hid ((hB1.block _ (blk_lt HRWX.out)).trans HRWX.out)
          obtain ⟨wb, hrun, hM5, hT⟩ := (HMIx.out.below hB1).store Try.underlying98 (by have := HCNT.out; have := HKL.out; simp [maxLen]; omega) id HWI.out true trivial
          change Sem.run Try.prog (Instr.mapUpdate 98 (.map (some (n + 1))) (.int .i64 id) (.bool true)) w1 = _ at hrun
          have hgt := Gr.of_turned hT
          have HMIb := Lib.hid hM5
          have HMRb := Lib.hid (HMRy.out.gr hgt (by omega))
          have hbn : n + 1 + 1 < bx := by have := HMRr.out.lt; have := HBXE.out; omega
          have HQB := Lib.hid (blk_gr hgt HQY.out (by omega))
          have HRWB := Lib.hid (blk_gr hgt HRWY.out (by omega))
          have HGB := Lib.hid (show Gr (fun b => b = n + 1 ∨ b = n + 1 + 1) w0 wb from HGY.out.trans hgt (fun x e => .inl (.inl e)))
          have HLb := Lib.hid (HLy.out.gr (S' := S) hgt (fun b hb => ⟨Nat.lt_of_lt_of_le (HS.out b hb) HBY.out.size, fun e => by have := HS.out b hb; rw [HN.out] at this; omega⟩) (fun _ h => h))
          have HRb := Lib.hid (HRy.out.gr (S' := S) hgt (fun b hb => ⟨Nat.lt_of_lt_of_le (HS.out b hb) HBY.out.size, fun e => by have := HS.out b hb; rw [HN.out] at this; omega⟩) (fun _ h => h))
          have HBB := Lib.hid (show Below w.heap.size w wb from HBY.out.trans (hgt.below (fun b e => by rw [HN.out]; omega) HBY.out.size))
          have y0 : w1.cell? ⟨bx, 0, none⟩ = some (.int .i64 id) := blk_cell HQY.out 0
          clear hM5 hT hgt hB1 hok hndm k0 hlk
          go_upto_region 8 with fail
          clear hrun y0
          have z1 : wb.cell? ⟨bx, 1, none⟩ = some (.slice la L.length lc) := blk_cell HQB.out 1
          have z2 : wb.cell? ⟨bx, 2, none⟩ = some (.slice ra R.length rc) := blk_cell HQB.out 2
          have hrow := heap_alloc_new wb (.cells #[.slice la L.length lc, .slice ra R.length rc] 37)
          have hBb := (Below.refl wb.heap.size wb).alloc (Nat.le_refl _) (.cells #[.slice la L.length lc, .slice ra R.length rc] 37)
          have HCC := Lib.hid (concatR (S := S) (wb.alloc (.cells #[.slice la L.length lc, .slice ra R.length rc] 37)) wb.heap.size la lc L ra rc R hrow (HLb.out.below hBb (fun b hb => Nat.lt_of_lt_of_le (HS.out b hb) HBB.out.size)) (HRb.out.below hBb (fun b hb => Nat.lt_of_lt_of_le (HS.out b hb) HBB.out.size)) (fun b hb => Nat.lt_of_lt_of_le (HS.out b hb) (below_step HBB.out hBb).size) (by omega) (by omega))
          have HBb := Lib.hid hBb
          clear hrow hBb
          go_wp2_with fail
          refine HCC.out.mono ?_
          rintro e w3 ⟨v, rfl, hO, hB3⟩
          have HB3 := Lib.hid (below_step HBb.out hB3)
          obtain ⟨va, vl, vc, rfl, hvl, -⟩ := hO.slice
          obtain ⟨al, hal⟩ : ∃ x, L ++ R = x := ⟨_, rfl⟩
          rw [hal] at hO
          have hvl2 : vl = al.length := by rw [hvl, ← hal, List.length_map]
          subst hvl2
          have HAN := Lib.hid (show al.length ≤ 24 from by rw [← hal, List.length_append]; omega)
          have HO2 := Lib.hid (hO.base (base' := wb.heap.size) (by simp))
          have HAL := Lib.hid hal
          have hal1 := HAN.out
          have HM3 := Lib.hid (HMRb.out.below HB3.out)
          have HI3 := Lib.hid (HMIb.out.below HB3.out)
          have HG3 := Lib.hid (HGB.out.step HB3.out)
          have HBW3 := Lib.hid (below_step HBB.out HB3.out)
          have hnwb : n + 1 + 1 < wb.heap.size := HMRb.out.lt
          clear hO hB3 hal hvl HCC z1 z2
          go_wp2_with fail
          go_loopw [43] (fun iv wr => ∃ (j m : Nat), j ≤ al.length ∧ iv = .int .i64 j ∧ m ≤ 24 * k + j ∧ MapG refK boolE wr (n + 1 + 1) m (setF (fun x => decide (x ∈ refsA (ms.take k) ++ al.take j))) ∧ (∀ x ∈ al.take j, x ∉ refsA (ms.take k)) ∧ Gr (fun b => b = n + 1 + 1) w3 wr) (fun iv _ => al.length - (intOf iv).toNat)
          case atStart => exact ⟨0, mR, Nat.zero_le _, rfl, by have := HCNT.out.2; omega, HM3.out.congr (fun x _ => by simp [setF]), fun x hx => by simp at hx, Gr.refl _ _⟩
          case round =>
            obtain ⟨j, m', hj, rfl, hmj, hM, hnin, hGj⟩ := hrel
            have HM := Lib.hid hM
            have HNIN := Lib.hid hnin
            have HGJ := Lib.hid hGj
            have HMK := Lib.hid hmj
            have HBR := Lib.hid (show Below w.heap.size w wr from HBW3.out.trans (hGj.below (fun b e => by rw [HN.out]; omega) HBW3.out.size))
            clear hM hnin hGj hmj
            by_cases hlt : j < al.length
            · have hjI : (j : Int) < (al.length : Int) := by omega
              have hO3 := HO2.out.gr HGJ.out (fun _ h => h.elim) (fun b e e2 => by have := (HO2.out.own b e).1; omega)
              obtain ⟨b, o, rfl, -, m0, m1, hxo⟩ := ref_at (hO3.rd (fun b => b < wr.heap.size) (fun _ h => h.elim) (fun b e => (hO3.own b e).2)) j hlt
              have HTJ := Lib.hid (List.take_succ_eq_append_getElem hlt)
              have HLT := Lib.hid hlt
              have HMEM := Lib.hid (show al[j] ∈ al from List.getElem_mem hlt)
              have HNDJ := Lib.hid (show al[j] ∉ al.take j from fun hm => by
                have h2 : (al.take (j + 1)).Nodup := (HAL.out ▸ HNDM.out : al.Nodup).sublist (List.take_sublist _ _)
                rw [List.take_succ_eq_append_getElem hlt, nodup_snoc] at h2
                exact h2.2 hm)
              generalize al[j] = z at m0 m1 hxo HTJ HMEM HNDJ
              have HXO := Lib.hid hxo
              obtain ⟨xe, xl⟩ := z
              simp only at m0 m1
              obtain ⟨sb, hsb⟩ : ∃ q, decide ((⟨xe, xl⟩ : R2) ∈ refsA (ms.take k) ++ al.take j) = q := ⟨_, rfl⟩
              have HSB := Lib.hid hsb
              have HBADF := Lib.hid (show sb = true → ab = false from fun h => by
                cases hab : ab with
                | false => rfl
                | true =>
                  have h5 := (allB_snoc.1 (HSN.out hab)).2.2.2.2
                  simp only at h5
                  rw [HAL.out] at h5
                  have hmem := of_decide_eq_true (hsb.trans h)
                  rcases List.mem_append.1 hmem with h6 | h6
                  · exact absurd h6 (h5 _ HMEM.out)
                  · exact absurd h6 HNDJ.out)
              have hBa := (Below.refl wr.heap.size wr).alloc (Nat.le_refl _) (.cells #[.int .i64 xe, .int .i64 xl] 41)
              have hqb := heap_alloc_new wr (.cells #[.int .i64 xe, .int .i64 xl] 41)
              have hm4 := HM.out.below hBa
              have hlk := hm4.look1 Try.underlying96 ⟨xe, xl⟩ HXO.out
              rw [show ((setF (fun x => decide (x ∈ refsA (ms.take k) ++ al.take j)) ⟨xe, xl⟩).getD boolE.z) = sb from by unfold setF; simp only [hsb]; cases sb <;> rfl] at hlk
              change Sem.run Try.prog (Instr.lookup 96 (.map (some (n + 1 + 1))) (.agg #[.int .i64 xe, .int .i64 xl]) false) _ = .ok (.bool sb) _ at hlk
              have HM4 := Lib.hid hm4
              have HBA := Lib.hid hBa
              have HBXX := Lib.hid (below_step HBR.out hBa)
              have k0 := blk_cell hqb 0
              have k1 := blk_cell hqb 1
              simp only [List.getElem?_toArray, List.getElem?_cons_zero, List.getElem?_cons_succ] at k0 k1
              clear hO3 hxo hBa hqb hm4 hlt hsb hj
              go_upto_region 11 with fail
              generalize World.alloc wr (.cells #[.int .i64 xe, .int .i64 xl] 41) = wa at *
              cases sb
              case true =>
                have HF := Lib.hid (HBADF.out (by first | rfl | trivial))
                go_wp2_with fail
                go_ret
                exact ⟨by rw [HF.out]; rfl, HBXX.out⟩
              obtain ⟨wc, hrun, hM5, hT⟩ := HM4.out.store Try.underlying96 (by have := HMK.out; have := HAN.out; have := HKL.out; have := HLT.out; simp [maxLen]; omega) ⟨xe, xl⟩ HXO.out true trivial
              change Sem.run Try.prog (Instr.mapUpdate 96 (.map (some (n + 1 + 1))) (.agg #[.int .i64 xe, .int .i64 xl]) (.bool true)) wa = _ at hrun
              have HG5 := Lib.hid (show Gr (fun b => b = n + 1 + 1) w3 wc from (HGJ.out.step HBA.out).trans (Gr.of_turned hT) (fun x e => .inl e))
              have HM5 := Lib.hid hM5
              clear hM5 hT
              go_wp2_with fail
              clear hlk hrun k0 k1 m0 m1
              go_roundw
              case rel =>
                have hsf := of_decide_eq_false HSB.out
                refine ⟨j + 1, _, HLT.out, by go_num, ?_, HM5.out.congr (fun y hy => ?_), ?_, HG5.out⟩
                · have := HMK.out
                  split <;> omega
                · rw [HTJ.out, ← List.append_assoc]
                  unfold setF
                  by_cases e : y = ⟨xe, xl⟩
                  · simp [e]
                  · simp [e]
                · intro y hy
                  rw [HTJ.out] at hy
                  rcases List.mem_append.1 hy with hy | hy
                  · exact HNIN.out y hy
                  · rw [List.mem_singleton.1 hy]; exact fun hm => hsf (List.mem_append.2 (.inl hm))
              case measure => have := HLT.out; simp [intOf]; try omega
            · obtain rfl : j = al.length := by omega
              have hjI : ¬ ((al.length : Nat) : Int) < (al.length : Int) := by omega
              clear hlt hj
              go_wp2_with fail
              go_roundw
              case rel =>
                refine ⟨k + 1, _, m', HKL.out, by go_num, ?_, ?_, (HI3.out.gr HGJ.out (by omega)).congr (fun y hy => ?_), HM.out.congr (fun y hy => ?_), ?_, HG3.out.trans HGJ.out (fun x e => .inl (.inr e))⟩
                · have := HCNT.out.1
                  split <;> omega
                · have := HMK.out; have := HAN.out; omega
                · rw [HTK.out, List.map_append, List.map_cons, List.map_nil]
                  unfold setI
                  by_cases e : y = id
                  · simp [e]
                  · simp [e]
                · rw [HTK.out, refsA_snoc]
                  simp only
                  rw [HAL.out, List.take_length]
                · rw [HTK.out, allB_snoc]
                  refine ⟨HALL.out, HOKM.out, of_decide_eq_false HIB.out, HNDM.out, ?_⟩
                  simp only
                  rw [HAL.out]
                  have h7 := HNIN.out
                  rw [List.take_length] at h7
                  exact h7
              case measure => have := HKL.out; simp [intOf]; try omega
    · obtain rfl : k = ms.length := by omega
      have hkI : ¬ ((ms.length : Nat) : Int) < (ms.length : Int) := by omega
      have HT := Lib.hid (show ab = true from by rw [← HAB.out]; have h := HALL.out; rwa [List.take_length] at h)
      have d24 : wr.cell? ⟨n, 24, none⟩ = some (.slice ma ms.length mc) := (blk_cell HROWr.out 24).trans HM24.out
      have h300 : (ms.length : Int) ≤ 300 := by omega
      clear hkl hk
      go_wp2_with fail
      go_ret
      exact ⟨by rw [HT.out]; rfl, HBW.out⟩
end Go.Proofs.Ytpobckedeffjmaa
