/- Layer 28: the reference's Sides; Valid of both. -/
import Derived.Test.YtpobckedeffjmaaO28e
import Derived.Test.YtpobckedeffjmaaO28f
set_option linter.unusedSimpArgs false
set_option maxRecDepth 50000
namespace Go.Proofs.Ytpobckedeffjmaa
open Go.RowKit Go

set_option maxHeartbeats 8000000 in
theorem rsides28 {S S2 : Nat → Prop} (w : World) (bs : Array Value) (es : List En) (ms : List M4) (h : Bk S w bs es ms) (hS : ∀ b, S b → b < w.heap.size) (h40 : es.length ≤ 40) (h8 : ∀ e ∈ es, e.ln.length ≤ 8)
    (id st : Int) (la : Option Addr) (lc : Nat) (L : List R2) (ra : Option Addr) (rc : Nat) (R : List R2) (hL : Rd (.sl refT) S2 w [.slice la L.length lc] (L.map R2.d)) (hR : Rd (.sl refT) S2 w [.slice ra R.length rc] (R.map R2.d)) (hS2 : ∀ b, S2 b → b < w.heap.size) :
    Calls Try.prog 19 #[.agg bs, .agg #[.int .i64 id, .slice la L.length lc, .slice ra R.length rc, .int .i64 st]] w fun e w' => SdP (sidesM es L R st) e ∧ Below w.heap.size w w' := by
  have HSZ := Lib.hid h.sz
  have H := Lib.hid h
  have HS := Lib.hid hS
  have H8 := Lib.hid h8
  have HL := Lib.hid hL
  have HR := Lib.hid hR
  have HS2 := Lib.hid hS2
  obtain ⟨sd, hsd⟩ : ∃ q, sidesM es L R st = q := ⟨_, rfl⟩
  rw [hsd]
  have HSD := Lib.hid hsd
  have hb0 := ((Below.refl w.heap.size w).alloc (Nat.le_refl _) (.cells bs 65)).alloc (by simp) (.cells #[.int .i64 id, .slice la L.length lc, .slice ra R.length rc, .int .i64 st] 67)
  have HB0 := Lib.hid hb0
  have HR0 := Lib.hid (alloc_old' (y := .cells #[.int .i64 id, .slice la L.length lc, .slice ra R.length rc, .int .i64 st] 67) (heap_alloc_new w (.cells bs 65)))
  have hr1 := heap_alloc_new (w.alloc (.cells bs 65)) (.cells #[.int .i64 id, .slice la L.length lc, .slice ra R.length rc, .int .i64 st] 67)
  rw [World.size_alloc] at hr1
  have HR1 := Lib.hid hr1
  clear h hS h8 hL hR hS2 hsd hb0 hr1
  go_enter Try.func19, Try.ntmps19
  go_upto_region 1 with fail
  generalize World.alloc (World.alloc w (.cells bs 65)) (.cells #[.int .i64 id, .slice la L.length lc, .slice ra R.length rc, .int .i64 st] 67) = w0 at *
  obtain ⟨n, hn⟩ : ∃ q, w.heap.size = q := ⟨_, rfl⟩
  rw [hn] at HR0 HR1
  have HN := Lib.hid hn
  simp only [hn]
  clear hn
  have c1 : w0.cell? ⟨n + 1, 1, none⟩ = some (.slice la L.length lc) := blk_cell HR1.out 1
  have HROW := Lib.hid HR0.out
  go_wp2_with (have hq := HROW; clear HROW; refine wpList_load_row rfl 65 _ rfl n rfl 65 bs (0, 0) _ hq.out Try.underlying65 rfl (by rw [HSZ.out]; kernel_rfl) ?_; clear hq)
  refine (side28 w0 bs es ms (H.out.below HB0.out HS.out) (fun b hb => Nat.lt_of_lt_of_le (HS.out b hb) HB0.out.size) h40 H8.out la lc L (HL.out.below HB0.out HS2.out) (fun b hb => Nat.lt_of_lt_of_le (HS2.out b hb) HB0.out.size)).mono ?_
  rintro e w1 ⟨⟨x, px, ok1, rfl, hm1⟩, hB1⟩
  have HM1 := Lib.hid hm1
  have HB1 := Lib.hid (below_step HB0.out hB1)
  have c2 : w1.cell? ⟨n + 1, 2, none⟩ = some (.slice ra R.length rc) := cell_below (blk_cell HR1.out 2) hB1
  have HROW := Lib.hid ((hB1.block _ (blk_lt HR0.out)).trans HR0.out)
  have HRM := Lib.hid ((hB1.block _ (blk_lt HR1.out)).trans HR1.out)
  clear hm1 hB1 c1
  go_wp2_with (have hq := HROW; clear HROW; refine wpList_load_row rfl 65 _ rfl n rfl 65 bs (0, 0) _ hq.out Try.underlying65 rfl (by rw [HSZ.out]; kernel_rfl) ?_; clear hq)
  refine (side28 w1 bs es ms (H.out.below HB1.out HS.out) (fun b hb => Nat.lt_of_lt_of_le (HS.out b hb) HB1.out.size) h40 H8.out ra rc R (HR.out.below HB1.out HS2.out) (fun b hb => Nat.lt_of_lt_of_le (HS2.out b hb) HB1.out.size)).mono ?_
  rintro e w2 ⟨⟨y, py, ok2, rfl, hm2⟩, hB2⟩
  have HM2 := Lib.hid hm2
  have HB2 := Lib.hid (below_step HB1.out hB2)
  have d1 : w2.cell? ⟨n + 1, 1, none⟩ = some (.slice la L.length lc) := cell_below (blk_cell HRM.out 1) hB2
  have d2 : w2.cell? ⟨n + 1, 2, none⟩ = some (.slice ra R.length rc) := cell_below (blk_cell HRM.out 2) hB2
  have d3 : w2.cell? ⟨n + 1, 3, none⟩ = some (.int .i64 st) := cell_below (blk_cell HRM.out 3) hB2
  clear hm2 hB2 c2
  cases hL : sideP es L with
  | none =>
    have HQ := HM1.out
    rw [hL] at HQ
    obtain rfl : ok1 = false := HQ
    have HBAD := Lib.hid (show sd = (0, 0, 1) from by rw [← HSD.out, sidesM_ref, hL])
    clear hL
    go_wp2_with fail
    go_ret3
    exact ⟨by rw [HBAD.out]; rfl, HB2.out⟩
  | some p =>
    have HQ := HM1.out
    rw [hL] at HQ
    have hq3 : ok1 = true ∧ x = p.1 ∧ px = p.2 := HQ
    obtain ⟨hok, hxp, hpp⟩ := hq3
    subst hok
    clear HQ
    cases hR : sideP es R with
    | none =>
      have HQ := HM2.out
      rw [hR] at HQ
      obtain rfl : ok2 = false := HQ
      have HBAD := Lib.hid (show sd = (0, 0, 1) from by rw [← HSD.out, sidesM_ref, hL, hR])
      clear hL hR hxp hpp
      go_wp2_with fail
      go_ret3
      exact ⟨by rw [HBAD.out]; rfl, HB2.out⟩
    | some q =>
      have HQ := HM2.out
      rw [hR] at HQ
      have hq3 : ok2 = true ∧ y = q.1 ∧ py = q.2 := HQ
      obtain ⟨hok, hyq, hpq⟩ := hq3
      subst hok
      clear HQ
      have HSV := Lib.hid (show sd = if x ≠ y ∧ px = y ∧ py = x ∧ 1 ≤ st ∧ st ≤ 5 then (x, y, 0) else (0, 0, 1) from by rw [← HSD.out, sidesM_ref, hL, hR, hxp, hpp, hyq, hpq])
      clear hL hR hxp hpp hyq hpq
      by_cases hxy : x = y
      · have e1 : (x == y) = true := by simpa using hxy
        have HBAD := Lib.hid (show sd = (0, 0, 1) from by rw [HSV.out, if_neg (fun h => h.1 hxy)])
        clear hxy
        go_wp2_with fail
        go_ret3
        exact ⟨by rw [HBAD.out]; rfl, HB2.out⟩
      have e1 : (x == y) = false := by simpa using hxy
      have HXY := Lib.hid hxy
      clear hxy
      by_cases h2 : px = y
      case neg =>
        have e2 : (px == y) = false := by simpa using h2
        have e2' : (px != y) = true := by simpa using h2
        have HBAD := Lib.hid (show sd = (0, 0, 1) from by rw [HSV.out, if_neg (fun h => h2 h.2.1)])
        clear h2
        go_wp2_with fail
        go_ret3
        exact ⟨by rw [HBAD.out]; rfl, HB2.out⟩
      have h2' := h2.symm
      subst h2'
      clear h2
      by_cases h3 : py = x
      case neg =>
        have e3 : (py == x) = false := by simpa using h3
        have e3' : (py != x) = true := by simpa using h3
        have HBAD := Lib.hid (show sd = (0, 0, 1) from by rw [HSV.out, if_neg (fun h => h3 h.2.2.1)])
        clear h3
        go_wp2_with fail
        go_ret3
        exact ⟨by rw [HBAD.out]; rfl, HB2.out⟩
      have h3' := h3.symm
      subst h3'
      clear h3
      have hne : ¬ x = y := HXY.out
      by_cases h4 : st < 1
      · have HBAD := Lib.hid (show sd = (0, 0, 1) from by rw [HSV.out, if_neg (fun h => by omega)])
        go_wp2_with fail
        go_ret3
        exact ⟨by rw [HBAD.out]; rfl, HB2.out⟩
      by_cases h5 : 5 < st
      · have HBAD := Lib.hid (show sd = (0, 0, 1) from by rw [HSV.out, if_neg (fun h => by omega)])
        go_wp2_with fail
        go_ret3
        exact ⟨by rw [HBAD.out]; rfl, HB2.out⟩
      have HT := Lib.hid (show sd = (x, y, 0) from by rw [HSV.out, if_pos ⟨HXY.out, rfl, rfl, by omega, by omega⟩])
      go_wp2_with fail
      go_ret3
      exact ⟨by rw [HT.out]; rfl, HB2.out⟩
/-- Valid of either side. -/
theorem valid28 {S S2 : Nat → Prop} (w : World) (bs : Array Value) (es : List En) (ms : List M4) (h : Bk S w bs es ms) (hS : ∀ b, S b → b < w.heap.size) (h40 : es.length ≤ 40) (h8 : ∀ e ∈ es, e.ln.length ≤ 8)
    (id st : Int) (la : Option Addr) (lc : Nat) (L : List R2) (ra : Option Addr) (rc : Nat) (R : List R2) (hL : Rd (.sl refT) S2 w [.slice la L.length lc] (L.map R2.d)) (hR : Rd (.sl refT) S2 w [.slice ra R.length rc] (R.map R2.d)) (hS2 : ∀ b, S2 b → b < w.heap.size) :
    Calls Try.prog 20 #[.agg bs, .agg #[.int .i64 id, .slice la L.length lc, .slice ra R.length rc, .int .i64 st]] w fun e w' => e = .returned (.bool (decide ((sidesM es L R st).2.2 = 0))) ∧ Below w.heap.size w w' := by
  have HSZ := Lib.hid h.sz
  have hb0 := ((Below.refl w.heap.size w).alloc (Nat.le_refl _) (.cells bs 65)).alloc (by simp) (.cells #[.int .i64 id, .slice la L.length lc, .slice ra R.length rc, .int .i64 st] 67)
  have HB0 := Lib.hid hb0
  have HR0 := Lib.hid (alloc_old' (y := .cells #[.int .i64 id, .slice la L.length lc, .slice ra R.length rc, .int .i64 st] 67) (heap_alloc_new w (.cells bs 65)))
  have hr1 := heap_alloc_new (w.alloc (.cells bs 65)) (.cells #[.int .i64 id, .slice la L.length lc, .slice ra R.length rc, .int .i64 st] 67)
  rw [World.size_alloc] at hr1
  have HR1 := Lib.hid hr1
  have HSD := Lib.hid (sides28 _ bs es ms (h.below hb0 hS) (fun b hb => Nat.lt_of_lt_of_le (hS b hb) hb0.size) h40 h8 id st la lc L ra rc R (hL.below hb0 hS2) (hR.below hb0 hS2) (fun b hb => Nat.lt_of_lt_of_le (hS2 b hb) hb0.size))
  obtain ⟨sd, hsd⟩ : ∃ q, sidesM es L R st = q := ⟨_, rfl⟩
  rw [hsd] at HSD ⊢
  obtain ⟨s1, s2, s3⟩ := sd
  simp only
  clear h hS h8 hL hR hS2 hb0 hr1 hsd
  go_enter Try.func20, Try.ntmps20
  go_upto_region 1 with fail
  generalize World.alloc (World.alloc w (.cells bs 65)) (.cells #[.int .i64 id, .slice la L.length lc, .slice ra R.length rc, .int .i64 st] 67) = w0 at *
  obtain ⟨n, hn⟩ : ∃ q, w.heap.size = q := ⟨_, rfl⟩
  rw [hn] at HR0 HR1
  have HN := Lib.hid hn
  simp only [hn]
  clear hn
  have HROW := Lib.hid HR0.out
  have HROM := Lib.hid HR1.out
  go_wp2_with (first | (have hq := HROW; clear HROW; refine wpList_load_row rfl 65 _ rfl n rfl 65 bs (0, 0) _ hq.out Try.underlying65 rfl (by rw [HSZ.out]; kernel_rfl) ?_; clear hq) | (have hq := HROM; clear HROM; refine wpList_load_row rfl 67 _ rfl (n + 1) rfl 67 _ (0, 0) _ hq.out Try.underlying67 rfl (by kernel_rfl) ?_; clear hq))
  refine HSD.out.mono ?_
  rintro e w1 ⟨he, hB1⟩
  unfold SdP at he
  subst he
  have HB1 := Lib.hid (below_step HB0.out hB1)
  clear hB1
  go_wp2_with fail
  go_ret
  refine ⟨?_, HB1.out⟩
  first | rfl | (by_cases e : s3 = 0 <;> simp [e])
theorem rvalidM28 {S S2 : Nat → Prop} (w : World) (bs : Array Value) (es : List En) (ms : List M4) (h : Bk S w bs es ms) (hS : ∀ b, S b → b < w.heap.size) (h40 : es.length ≤ 40) (h8 : ∀ e ∈ es, e.ln.length ≤ 8)
    (id st : Int) (la : Option Addr) (lc : Nat) (L : List R2) (ra : Option Addr) (rc : Nat) (R : List R2) (hL : Rd (.sl refT) S2 w [.slice la L.length lc] (L.map R2.d)) (hR : Rd (.sl refT) S2 w [.slice ra R.length rc] (R.map R2.d)) (hS2 : ∀ b, S2 b → b < w.heap.size) :
    Calls Try.prog 21 #[.agg bs, .agg #[.int .i64 id, .slice la L.length lc, .slice ra R.length rc, .int .i64 st]] w fun e w' => e = .returned (.bool (decide ((sidesM es L R st).2.2 = 0))) ∧ Below w.heap.size w w' := by
  have HSZ := Lib.hid h.sz
  have hb0 := ((Below.refl w.heap.size w).alloc (Nat.le_refl _) (.cells bs 65)).alloc (by simp) (.cells #[.int .i64 id, .slice la L.length lc, .slice ra R.length rc, .int .i64 st] 67)
  have HB0 := Lib.hid hb0
  have HR0 := Lib.hid (alloc_old' (y := .cells #[.int .i64 id, .slice la L.length lc, .slice ra R.length rc, .int .i64 st] 67) (heap_alloc_new w (.cells bs 65)))
  have hr1 := heap_alloc_new (w.alloc (.cells bs 65)) (.cells #[.int .i64 id, .slice la L.length lc, .slice ra R.length rc, .int .i64 st] 67)
  rw [World.size_alloc] at hr1
  have HR1 := Lib.hid hr1
  have HSD := Lib.hid (rsides28 _ bs es ms (h.below hb0 hS) (fun b hb => Nat.lt_of_lt_of_le (hS b hb) hb0.size) h40 h8 id st la lc L ra rc R (hL.below hb0 hS2) (hR.below hb0 hS2) (fun b hb => Nat.lt_of_lt_of_le (hS2 b hb) hb0.size))
  obtain ⟨sd, hsd⟩ : ∃ q, sidesM es L R st = q := ⟨_, rfl⟩
  rw [hsd] at HSD ⊢
  obtain ⟨s1, s2, s3⟩ := sd
  simp only
  clear h hS h8 hL hR hS2 hb0 hr1 hsd
  go_enter Try.func21, Try.ntmps21
  go_upto_region 1 with fail
  generalize World.alloc (World.alloc w (.cells bs 65)) (.cells #[.int .i64 id, .slice la L.length lc, .slice ra R.length rc, .int .i64 st] 67) = w0 at *
  obtain ⟨n, hn⟩ : ∃ q, w.heap.size = q := ⟨_, rfl⟩
  rw [hn] at HR0 HR1
  have HN := Lib.hid hn
  simp only [hn]
  clear hn
  have HROW := Lib.hid HR0.out
  have HROM := Lib.hid HR1.out
  go_wp2_with (first | (have hq := HROW; clear HROW; refine wpList_load_row rfl 65 _ rfl n rfl 65 bs (0, 0) _ hq.out Try.underlying65 rfl (by rw [HSZ.out]; kernel_rfl) ?_; clear hq) | (have hq := HROM; clear HROM; refine wpList_load_row rfl 67 _ rfl (n + 1) rfl 67 _ (0, 0) _ hq.out Try.underlying67 rfl (by kernel_rfl) ?_; clear hq))
  refine HSD.out.mono ?_
  rintro e w1 ⟨he, hB1⟩
  unfold SdP at he
  subst he
  have HB1 := Lib.hid (below_step HB0.out hB1)
  clear hB1
  go_wp2_with fail
  go_ret
  refine ⟨?_, HB1.out⟩
  first | rfl | (by_cases e : s3 = 0 <;> simp [e])
end Go.Proofs.Ytpobckedeffjmaa

/- Layer 28: the reference's Few. -/
set_option linter.unusedSimpArgs false
set_option maxRecDepth 50000
namespace Go.Proofs.Ytpobckedeffjmaa
open Go.RowKit Go

/-- The sum of two lengths, as the machine reckons it. -/
def sumW (a b : Nat) : Int := IntKind.i64.wrap ((a : Int) + (b : Int))
def fewB (es : List En) (ms : List M4) : Bool := es.all (fun e => !decide (8 < e.ln.length)) && (ms.all (fun m => !decide (20 < sumW m.l.length m.r.length)) && (decide (es.length ≤ 40) && decide (ms.length ≤ 20)))
theorem fewB_true {es : List En} {ms : List M4} (h : fewB es ms = true) : (∀ e ∈ es, e.ln.length ≤ 8) ∧ es.length ≤ 40 ∧ ms.length ≤ 20 := by
  unfold fewB at h
  simp only [Bool.and_eq_true, List.all_eq_true, Bool.not_eq_true', decide_eq_false_iff_not, decide_eq_true_eq] at h
  exact ⟨fun e he => Nat.le_of_not_lt (h.1 e he), h.2.2.1, h.2.2.2⟩
set_option maxHeartbeats 4000000 in
theorem few28 {S : Nat → Prop} (w : World) (bs : Array Value) (es : List En) (ms : List M4) (h : Bk S w bs es ms) (hS : ∀ b, S b → b < w.heap.size) :
    Calls Try.prog 17 #[.agg bs] w fun e w' => e = .returned (.bool (fewB es ms)) ∧ Below w.heap.size w w' := by
  have HS := Lib.hid hS
  obtain ⟨hsz, ⟨ea, ec, he, hE⟩, ma, mc, hm, hM⟩ := h
  have hle : es.length ≤ 9223372036854775807 := Nat.le_trans ((rd_len hE) ▸ hE.sl_flat.2.1) hE.sl_flat.2.2.1
  have hlm : ms.length ≤ 9223372036854775807 := Nat.le_trans ((rd_len hM) ▸ hM.sl_flat.2.1) hM.sl_flat.2.2.1
  have HE := Lib.hid hE
  have HM := Lib.hid hM
  obtain ⟨fb, hfb⟩ : ∃ q, fewB es ms = q := ⟨_, rfl⟩
  rw [hfb]
  have HFB := Lib.hid hfb
  have hrow := heap_alloc_new w (.cells bs 65)
  have HBX := Lib.hid ((Below.refl w.heap.size w).alloc (Nat.le_refl _) (.cells bs 65))
  have C21 := Lib.hid ((blk_cell hrow 21).trans he)
  have C24 := Lib.hid ((blk_cell hrow 24).trans hm)
  clear hsz he hm hE hM hfb hrow hS
  go_enter Try.func17, Try.ntmps17
  go_wp2_with fail
  generalize World.alloc w (.cells bs 65) = w0 at *
  obtain ⟨n, hn⟩ : ∃ q, w.heap.size = q := ⟨_, rfl⟩
  rw [hn] at C21 C24
  have HN := Lib.hid hn
  simp only [hn]
  clear hn
  go_loopw [3] (fun iv wr => ∃ (i : Nat), i ≤ es.length ∧ iv = .int .i64 (i : Int) ∧ (es.take i).all (fun e => !decide (8 < e.ln.length)) = true ∧ Below w0.heap.size w0 wr) (fun iv _ => es.length - (intOf iv).toNat)
  case atStart => exact ⟨0, Nat.zero_le _, rfl, rfl, Below.refl _ _⟩
  case round =>
    obtain ⟨i, hi, rfl, hall, hB⟩ := hrel
    have HB := Lib.hid hB
    have HALL := Lib.hid hall
    have HBW := Lib.hid (show Below w.heap.size w wr from below_step HBX.out hB)
    have d21 := cell_below C21.out hB
    by_cases hil : i < es.length
    · have hiI : (i : Int) < (es.length : Int) := by omega
      obtain ⟨eb, eo, la, lc, rfl, -, ⟨-, -, -, -, -, -, m6⟩, -⟩ := entry_at (HE.out.below HBW.out HS.out) i hil
      have HTK := Lib.hid (List.take_succ_eq_append_getElem hil)
      have HIN := Lib.hid (List.getElem_mem hil)
      have HIL := Lib.hid hil
      generalize es[i] = q at m6 HTK HIN
      obtain ⟨q1, q2, q3, q4, q5, q6, q7⟩ := q
      simp only at m6
      clear hall hB hi hil
      by_cases h8 : 8 < q7.length
      · have hI : (8 : Int) < (q7.length : Int) := by omega
        have HF := Lib.hid (show fb = false from by
          rw [← HFB.out]; unfold fewB
          rw [show es.all (fun e => !decide (8 < e.ln.length)) = false from List.all_eq_false.2 ⟨_, HIN.out, by simp [h8]⟩, Bool.false_and])
        go_wp2_with fail
        go_ret
        exact ⟨by rw [HF.out]; rfl, HBW.out⟩
      · have hI : ¬ (8 : Int) < (q7.length : Int) := by omega
        have H8 := Lib.hid h8
        go_wp2_with fail
        go_roundw
        case rel =>
          refine ⟨i + 1, HIL.out, by go_num, ?_, HB.out⟩
          rw [HTK.out, List.all_append, HALL.out]
          simp only [List.all_cons, List.all_nil, Bool.and_true, Bool.true_and]
          rw [decide_eq_false H8.out]; rfl
        case measure => have := HIL.out; simp [intOf]; try omega
    · obtain rfl : i = es.length := by omega
      have hiI : ¬ ((es.length : Nat) : Int) < (es.length : Int) := by omega
      rw [List.take_length] at hall
      have HAE := Lib.hid hall
      obtain ⟨wp, rfl⟩ : ∃ q, q = wr := ⟨_, rfl⟩
      have C21' := Lib.hid d21
      have C24' := Lib.hid (cell_below C24.out hB)
      clear hall hB hi hil
      go_wp2_with fail
      clear d21
      go_loopw [4] (fun iv wr => ∃ (i : Nat), i ≤ ms.length ∧ iv = .int .i64 (i : Int) ∧ (ms.take i).all (fun m => !decide (20 < sumW m.l.length m.r.length)) = true ∧ Below wp.heap.size wp wr) (fun iv _ => ms.length - (intOf iv).toNat)
      case atStart => exact ⟨0, Nat.zero_le _, rfl, rfl, Below.refl _ _⟩
      case round =>
        obtain ⟨j, hj, rfl, hallm, hBm⟩ := hrel
        have HBM := Lib.hid hBm
        have HALM := Lib.hid hallm
        have HBWM := Lib.hid (show Below w.heap.size w wr from below_step HBW.out hBm)
        have d24 := cell_below C24'.out hBm
        by_cases hjl : j < ms.length
        · have hjI : (j : Int) < (ms.length : Int) := by omega
          obtain ⟨mb, mo, la, lc, ra, rc, rfl, -, ⟨-, m1, m2, -⟩, hl1, hl2, -⟩ := match_at (HM.out.below HBWM.out HS.out) j hjl
          have HTK := Lib.hid (List.take_succ_eq_append_getElem hjl)
          have HIN := Lib.hid (List.getElem_mem hjl)
          have HJL := Lib.hid hjl
          generalize ms[j] = q at m1 m2 HTK HIN hl1 hl2
          obtain ⟨q1, q2, q3, q4⟩ := q
          simp only at m1 m2
          have hC0 : Cells [(⟨n, 24, none⟩, .slice (some ⟨mb, mo, none⟩) ms.length mc), (⟨mb, mo + j * 4 + 1, none⟩, .slice la q2.length lc), (⟨mb, mo + j * 4 + 2, none⟩, .slice ra q3.length rc)] wr := ⟨d24, m1, m2, trivial⟩
          obtain ⟨bb, hbb⟩ : ∃ q, decide (20 < sumW q2.length q3.length) = q := ⟨_, rfl⟩
          have HBB := Lib.hid hbb
          clear hallm hBm hj hjl hl1 hl2 m1 m2 hbb
          go_wp2_with fail
          clear d24
          refine wp_region_T (Cells [(⟨n, 24, none⟩, .slice (some ⟨mb, mo, none⟩) ms.length mc), (⟨mb, mo + j * 4 + 1, none⟩, .slice la q2.length lc), (⟨mb, mo + j * 4 + 2, none⟩, .slice ra q3.length rc)]) (fun _ => false) (by kernel_rfl) ?_
          have hSss1 := Cells.drew hC0
          have hB_0_s1 : Below wr.heap.size wr wr.drew := below_drew _
          generalize wr.drew = s1 at hSss1 hB_0_s1 ⊢
          have hB_s1_s1 := Below.refl s1.heap.size s1
          refine wpAnyT_pure (i := 0) (v := ?_) rfl (by kernel_rfl) (by kernel_rfl) (by kernel_rfl) (fun _ _ _ h => h) (by rfl) ?_ ?_
          rotate_left
          · intro w; go_simp; try with_reducible rfl
          simp only [Act.put, rgA, rgB, rgC, rgD, rgE, rgF]
          refine wpAnyT_pure (i := 2) (v := ?_) rfl (by kernel_rfl) (by kernel_rfl) (by kernel_rfl) (fun _ _ _ h => h) (by rfl) ?_ ?_
          rotate_left
          · intro w; go_simp; try with_reducible rfl
          simp only [Act.put, rgA, rgB, rgC, rgD, rgE, rgF]
          refine wpAnyT_pure (i := 7) (v := ?_) rfl (by kernel_rfl) (by kernel_rfl) (by kernel_rfl) (fun _ _ _ h => h) (by rfl) ?_ ?_
          rotate_left
          · intro w; go_simp; try with_reducible rfl
          simp only [Act.put, rgA, rgB, rgC, rgD, rgE, rgF]
          refine wpAnyT_pure (i := 9) (v := ?_) rfl (by kernel_rfl) (by kernel_rfl) (by kernel_rfl) (fun _ _ _ h => h) (by rfl) ?_ ?_
          rotate_left
          · intro w; go_simp; try with_reducible rfl
          simp only [Act.put, rgA, rgB, rgC, rgD, rgE, rgF]
          refine wpAnyT_loadW (i := 1) (v := ?_) rfl (by kernel_rfl) (by kernel_rfl) (by kernel_rfl) (by kernel_rfl) (by kernel_rfl) (fun _ _ _ h => h) (Or.inl ⟨by rfl, ?_⟩) hSss1 ?_
          rotate_left
          · intro w hSw; obtain ⟨e0, e1, e2, -⟩ := hSw; go_simp; try with_reducible rfl
          simp only [Act.put, rgA, rgB, rgC, rgD, rgE, rgF]
          refine wpAnyT_pure (i := 3) (v := ?_) rfl (by kernel_rfl) (by kernel_rfl) (by kernel_rfl) (fun _ _ _ h => h) (by rfl) ?_ ?_
          rotate_left
          · intro w; go_simp; try with_reducible rfl
          simp only [Act.put, rgA, rgB, rgC, rgD, rgE, rgF]
          refine wpAnyT_pure (i := 4) (v := ?_) rfl (by kernel_rfl) (by kernel_rfl) (by kernel_rfl) (fun _ _ _ h => h) (by rfl) ?_ ?_
          rotate_left
          · intro w; go_simp; try with_reducible rfl
          simp only [Act.put, rgA, rgB, rgC, rgD, rgE, rgF]
          refine wpAnyT_loadW (i := 5) (v := ?_) rfl (by kernel_rfl) (by kernel_rfl) (by kernel_rfl) (by kernel_rfl) (by kernel_rfl) (fun _ _ _ h => h) (Or.inl ⟨by rfl, ?_⟩) hSss1 ?_
          rotate_left
          · intro w hSw; obtain ⟨e0, e1, e2, -⟩ := hSw; go_simp; try with_reducible rfl
          simp only [Act.put, rgA, rgB, rgC, rgD, rgE, rgF]
          refine wpAnyT_pure (i := 6) (v := ?_) rfl (by kernel_rfl) (by kernel_rfl) (by kernel_rfl) (fun _ _ _ h => h) (by rfl) ?_ ?_
          rotate_left
          · intro w; go_simp; try with_reducible rfl
          simp only [Act.put, rgA, rgB, rgC, rgD, rgE, rgF]
          refine wpAnyT_loadW (i := 8) (v := ?_) rfl (by kernel_rfl) (by kernel_rfl) (by kernel_rfl) (by kernel_rfl) (by kernel_rfl) (fun _ _ _ h => h) (Or.inl ⟨by rfl, ?_⟩) hSss1 ?_
          rotate_left
          · intro w hSw; obtain ⟨e0, e1, e2, -⟩ := hSw; go_simp; try with_reducible rfl
          simp only [Act.put, rgA, rgB, rgC, rgD, rgE, rgF]
          refine wpAnyT_pure (i := 10) (v := ?_) rfl (by kernel_rfl) (by kernel_rfl) (by kernel_rfl) (fun _ _ _ h => h) (by rfl) ?_ ?_
          rotate_left
          · intro w; go_simp; try with_reducible rfl
          simp only [Act.put, rgA, rgB, rgC, rgD, rgE, rgF]
          refine wpAnyT_pure (i := 11) (v := ?_) rfl (by kernel_rfl) (by kernel_rfl) (by kernel_rfl) (fun _ _ _ h => h) (by rfl) ?_ ?_
          rotate_left
          · intro w; go_simp; try with_reducible rfl
          simp only [Act.put, rgA, rgB, rgC, rgD, rgE, rgF]
          refine wpAnyT_loadW (i := 12) (v := ?_) rfl (by kernel_rfl) (by kernel_rfl) (by kernel_rfl) (by kernel_rfl) (by kernel_rfl) (fun _ _ _ h => h) (Or.inl ⟨by rfl, ?_⟩) hSss1 ?_
          rotate_left
          · intro w hSw; obtain ⟨e0, e1, e2, -⟩ := hSw; go_simp; try with_reducible rfl
          simp only [Act.put, rgA, rgB, rgC, rgD, rgE, rgF]
          refine wpAnyT_pure (i := 13) (v := ?_) rfl (by kernel_rfl) (by kernel_rfl) (by kernel_rfl) (fun _ _ _ h => h) (by rfl) ?_ ?_
          rotate_left
          · intro w; go_simp; try with_reducible rfl
          simp only [Act.put, rgA, rgB, rgC, rgD, rgE, rgF]
          refine wpAnyT_pure (i := 14) (v := (.int .i64 (sumW q2.length q3.length))) rfl (by kernel_rfl) (by kernel_rfl) (by kernel_rfl) (fun _ _ _ h => h) (by rfl) ?_ ?_
          · intro w; unfold sumW; go_simp; try rfl
          simp only [Act.put, rgA, rgB, rgC, rgD, rgE, rgF]
          refine wpAnyT_pure (i := 15) (v := (.bool bb)) rfl (by kernel_rfl) (by kernel_rfl) (by kernel_rfl) (fun _ _ _ h => h) (by rfl) ?_ ?_
          · intro w; have hq := HBB.out; clear HBB; go_simp; try (first | exact hq | (rw [← hq]; simp))
          simp only [Act.put, rgA, rgB, rgC, rgD, rgE, rgF]
          refine wpAnyT_done (by kernel_rfl) ?_ _
          have HBE := Lib.hid (below_step HBM.out hB_0_s1)
          obtain ⟨wE, rfl⟩ : ∃ q, q = s1 := ⟨_, rfl⟩
          cases bb with
          | true =>
            have HF := Lib.hid (show fb = false from by
              rw [← HFB.out]; unfold fewB
              rw [show ms.all (fun m => !decide (20 < sumW m.l.length m.r.length)) = false from List.all_eq_false.2 ⟨_, HIN.out, by rw [HBB.out]; decide⟩, Bool.false_and, Bool.and_false])
            go_wp2_with fail
            go_ret
            exact ⟨by rw [HF.out]; rfl, below_step HBW.out HBE.out⟩
          | false =>
            go_wp2_with fail
            go_roundw
            case rel =>
              refine ⟨j + 1, HJL.out, by go_num, ?_, HBE.out⟩
              rw [HTK.out, List.all_append, HALM.out]
              simp only [List.all_cons, List.all_nil, Bool.and_true, Bool.true_and]
              rw [HBB.out]; rfl
            case measure => have := HJL.out; simp [intOf]; try omega
        · obtain rfl : j = ms.length := by omega
          have hjI : ¬ ((ms.length : Nat) : Int) < (ms.length : Int) := by omega
          rw [List.take_length] at hallm
          have d21 := cell_below C21'.out hBm
          have HF := Lib.hid (show fb = (decide (es.length ≤ 40) && decide (ms.length ≤ 20)) from by rw [← HFB.out]; unfold fewB; rw [HAE.out, hallm]; rfl)
          clear hallm hBm hj hjl
          by_cases h40 : es.length ≤ 40
          · have h40I : (es.length : Int) ≤ 40 := by omega
            by_cases h20 : ms.length ≤ 20
            · have h20I : (ms.length : Int) ≤ 20 := by omega
              go_wp2_with fail
              go_ret
              exact ⟨by rw [HF.out, decide_eq_true h40, decide_eq_true h20]; rfl, HBWM.out⟩
            · have h20I : ¬ (ms.length : Int) ≤ 20 := by omega
              go_wp2_with fail
              go_ret
              exact ⟨by rw [HF.out, decide_eq_true h40, decide_eq_false h20]; first | rfl | simp [h20], HBWM.out⟩
          · have h40I : ¬ (es.length : Int) ≤ 40 := by omega
            go_wp2_with fail
            go_ret
            exact ⟨by rw [HF.out, decide_eq_false h40]; first | rfl | simp [h40], HBWM.out⟩
end Go.Proofs.Ytpobckedeffjmaa

/- Layer 28: MatchValid. -/
set_option linter.unusedSimpArgs false
set_option maxRecDepth 50000
namespace Go.Proofs.Ytpobckedeffjmaa
open Go.RowKit Go

theorem wpList_load_rowG {P : Program} {ops : Array Oper} {rest : List Oper} {o : Oper} {a : Act} {w : World} {Q : Exit → Act → World → Prop} (hw : Region.wanted o (yielded ops a.tmps) = true) (ty : TypeId) (x : Operand) (ho : o.op = .load ty x)
    (g : Nat) (hx : a.eval x = .pointer (some ⟨g, 0, none⟩)) (t : TypeId) (cs : Array Value) (fr : Nat × Nat) (d : TypeDesc) (hg : w.heap[g]? = some (.cells cs t fr))
    (hu : P.underlying ty = some d) (hd : (match d with | .struct _ | .array _ _ => true | _ => false) = true) (hi : (P.info? ty).map (·.size) = some cs.size)
    (h : wpList P ops Q rest (a.put o.dst (.agg cs)) w) : wpList P ops Q (o :: rest) a w := by
  unfold wpList
  rw [if_pos hw]
  exact .inl (wp_load_row ty x ho g hx t cs fr d hg hu hd hi h)
set_option maxHeartbeats 8000000 in
theorem validWalk28 (w : World) (c0 : List Value) (bk : booksT.den) (r0 : Rd booksT (fun b => b < w.heap.size) w c0 bk) (c1 : List Value) (mm : matchT.den) (r1 : Rd matchT (fun b => b < w.heap.size) w c1 mm) :
    Calls Try.prog 7 #[valOf booksT c0, valOf matchT c1] w fun e w' => e = .returned (.bool true) ∧ Below w.heap.size w w' := by
  obtain ⟨bs, hbs, hbk⟩ := rd_books r0
  obtain ⟨la, lc, ra, rc, rfl, hL, hR, hst⟩ := rd_match r1
  show Calls _ _ #[.agg c0.toArray, .agg #[.int .i64 (m4 mm).id, .slice la (m4 mm).l.length lc, .slice ra (m4 mm).r.length rc, .int .i64 (m4 mm).st]] w _
  rw [hbs]
  generalize List.map en7 bk.2.1 = es at hbk
  generalize List.map m4 bk.2.2.2.2.1 = ms at hbk
  generalize m4 mm = m at hL hR hst ⊢
  obtain ⟨id, L, R, st⟩ := m
  simp only at hL hR hst ⊢
  have HSZ := Lib.hid hbk.sz
  have H := Lib.hid hbk
  have HL := Lib.hid hL
  have HR := Lib.hid hR
  have hlm : L.length ≤ 9223372036854775807 := Nat.le_trans ((rd_len hL) ▸ hL.sl_flat.2.1) hL.sl_flat.2.2.1
  have hrm : R.length ≤ 9223372036854775807 := Nat.le_trans ((rd_len hR) ▸ hR.sl_flat.2.1) hR.sl_flat.2.2.1
  have hb0 := ((Below.refl w.heap.size w).alloc (Nat.le_refl _) (.cells bs 65)).alloc (by simp) (.cells #[.int .i64 id, .slice la L.length lc, .slice ra R.length rc, .int .i64 st] 67)
  have HB0 := Lib.hid hb0
  have HR0 := Lib.hid (alloc_old' (y := .cells #[.int .i64 id, .slice la L.length lc, .slice ra R.length rc, .int .i64 st] 67) (heap_alloc_new w (.cells bs 65)))
  have hr1 := heap_alloc_new (w.alloc (.cells bs 65)) (.cells #[.int .i64 id, .slice la L.length lc, .slice ra R.length rc, .int .i64 st] 67)
  rw [World.size_alloc] at hr1
  have HR1 := Lib.hid hr1
  clear r0 r1 hbs hbk hL hR hst hb0 hr1
  go_enter Try.func7, Try.ntmps7
  go_upto_region 1 with fail
  generalize World.alloc (World.alloc w (.cells bs 65)) (.cells #[.int .i64 id, .slice la L.length lc, .slice ra R.length rc, .int .i64 st] 67) = w0 at *
  obtain ⟨n, hn⟩ : ∃ q, w.heap.size = q := ⟨_, rfl⟩
  rw [hn] at HR0 HR1
  have HN := Lib.hid hn
  simp only [hn]
  clear hn
  go_wp2_with fail
  refine (awake28 w0).mono ?_
  rintro e w1 ⟨rfl, hB1⟩
  have HB1 := Lib.hid (below_step HB0.out hB1)
  have HR0a := Lib.hid ((hB1.block _ (blk_lt HR0.out)).trans HR0.out)
  have HR1a := Lib.hid ((hB1.block _ (blk_lt HR1.out)).trans HR1.out)
  clear hB1
  have HROW := Lib.hid HR0a.out
  go_wp2_with (have hq := HROW; clear HROW; refine wpList_load_rowG (by rfl) 65 _ rfl n rfl 65 bs (0, 0) _ hq.out Try.underlying65 rfl (by rw [HSZ.out]; kernel_rfl) ?_; clear hq)
  refine (few28 w1 bs es ms (H.out.below HB1.out (fun b hb => hb)) (fun b hb => Nat.lt_of_lt_of_le hb HB1.out.size)).mono ?_
  rintro e w2 ⟨rfl, hB2⟩
  have HB2 := Lib.hid (below_step HB1.out hB2)
  have HR0b := Lib.hid ((hB2.block _ (blk_lt HR0a.out)).trans HR0a.out)
  have HR1b := Lib.hid ((hB2.block _ (blk_lt HR1a.out)).trans HR1a.out)
  clear hB2
  obtain ⟨fb, hfb⟩ : ∃ q, fewB es ms = q := ⟨_, rfl⟩
  have HFB := Lib.hid hfb
  rw [hfb]
  clear hfb
  cases fb with
  | false =>
    go_wp2_with (go_at_call 9; refine (awake28 _).mono ?_; rintro e wz ⟨rfl, hBz⟩; have HBz := Lib.hid (below_step HB2.out hBz); clear hBz)
    go_ret
    exact ⟨rfl, HBz.out⟩
  | true =>
    obtain ⟨h8, h40, -⟩ := fewB_true HFB.out
    have H8 := Lib.hid h8
    clear h8
    have d1 : w2.cell? ⟨n + 1, 1, none⟩ = some (.slice la L.length lc) := blk_cell HR1b.out 1
    have d2 : w2.cell? ⟨n + 1, 2, none⟩ = some (.slice ra R.length rc) := blk_cell HR1b.out 2
    have HROW := Lib.hid HR0b.out
    have HROM := Lib.hid HR1b.out
    go_wp2_with (first | (go_at_call 9; refine (awake28 _).mono ?_; rintro e wz ⟨rfl, hBz⟩; have HBz := Lib.hid (below_step HB2.out hBz); clear hBz) | (have hq := HROW; clear HROW; refine wpList_load_row rfl 65 _ rfl n rfl 65 bs (0, 0) _ hq.out Try.underlying65 rfl (by rw [HSZ.out]; kernel_rfl) ?_; clear hq) | (have hq := HROM; clear HROM; refine wpList_load_row rfl 67 _ rfl (n + 1) rfl 67 _ (0, 0) _ hq.out Try.underlying67 rfl (by kernel_rfl) ?_; clear hq))
    · go_ret
      exact ⟨rfl, HBz.out⟩
    refine (sides28 w2 bs es ms (H.out.below HB2.out (fun b hb => hb)) (fun b hb => Nat.lt_of_lt_of_le hb HB2.out.size) h40 H8.out id st la lc L ra rc R (HL.out.below HB2.out (fun b hb => hb)) (HR.out.below HB2.out (fun b hb => hb)) (fun b hb => Nat.lt_of_lt_of_le hb HB2.out.size)).mono ?_
    have HRS := Lib.hid (fun (W : World) (hB : Below w.heap.size w W) => rsides28 W bs es ms (H.out.below hB (fun b hb => hb)) (fun b hb => Nat.lt_of_lt_of_le hb hB.size) h40 H8.out id st la lc L ra rc R (HL.out.below hB (fun b hb => hb)) (HR.out.below hB (fun b hb => hb)) (fun b hb => Nat.lt_of_lt_of_le hb hB.size))
    have HVP := Lib.hid (fun (W : World) (hB : Below w.heap.size w W) => valid28 W bs es ms (H.out.below hB (fun b hb => hb)) (fun b hb => Nat.lt_of_lt_of_le hb hB.size) h40 H8.out id st la lc L ra rc R (HL.out.below hB (fun b hb => hb)) (HR.out.below hB (fun b hb => hb)) (fun b hb => Nat.lt_of_lt_of_le hb hB.size))
    have HVR := Lib.hid (fun (W : World) (hB : Below w.heap.size w W) => rvalidM28 W bs es ms (H.out.below hB (fun b hb => hb)) (fun b hb => Nat.lt_of_lt_of_le hb hB.size) h40 H8.out id st la lc L ra rc R (HL.out.below hB (fun b hb => hb)) (HR.out.below hB (fun b hb => hb)) (fun b hb => Nat.lt_of_lt_of_le hb hB.size))
    generalize sidesM es L R st = sd at HRS HVP HVR ⊢
    obtain ⟨s1, s2, s3⟩ := sd
    simp only at HVP HVR
    generalize decide (s3 = 0) = vb at HVP HVR
    rintro e w3 ⟨he, hB3⟩
    unfold SdP at he
    subst he
    have HB3 := Lib.hid (below_step HB2.out hB3)
    have HR0c := Lib.hid ((hB3.block _ (blk_lt HR0b.out)).trans HR0b.out)
    have HR1c := Lib.hid ((hB3.block _ (blk_lt HR1b.out)).trans HR1b.out)
    clear hB3 d1 d2
    have HROW := Lib.hid HR0c.out
    have HROM := Lib.hid HR1c.out
    go_wp2_with (first | (have hq := HROW; clear HROW; refine wpList_load_row rfl 65 _ rfl n rfl 65 bs (0, 0) _ hq.out Try.underlying65 rfl (by rw [HSZ.out]; kernel_rfl) ?_; clear hq) | (have hq := HROM; clear HROM; refine wpList_load_row rfl 67 _ rfl (n + 1) rfl 67 _ (0, 0) _ hq.out Try.underlying67 rfl (by kernel_rfl) ?_; clear hq))
    refine (HRS.out w3 HB3.out).mono ?_
    rintro e w4 ⟨he, hB4⟩
    unfold SdP at he
    subst he
    have HB4 := Lib.hid (below_step HB3.out hB4)
    have hC4 : CellsR n bs [(⟨n + 1, 0, none⟩, .int .i64 id), (⟨n + 1, 1, none⟩, .slice la L.length lc), (⟨n + 1, 2, none⟩, .slice ra R.length rc), (⟨n + 1, 3, none⟩, .int .i64 st)] w4 := by
      have h0 := (hB4.block _ (blk_lt HR0c.out)).trans HR0c.out
      have h1 := (hB4.block _ (blk_lt HR1c.out)).trans HR1c.out
      exact ⟨⟨blk_cell h1 0, blk_cell h1 1, blk_cell h1 2, blk_cell h1 3, trivial⟩, h0⟩
    clear hB4
    go_wp2_with fail
    refine wp_region_T (CellsR n bs [(⟨n + 1, 0, none⟩, .int .i64 id), (⟨n + 1, 1, none⟩, .slice la L.length lc), (⟨n + 1, 2, none⟩, .slice ra R.length rc), (⟨n + 1, 3, none⟩, .int .i64 st)]) (fun _ => false) (by kernel_rfl) ?_
    have hSss1 := CellsR.drew hC4
    have hB_0_s1 : Below w4.heap.size w4 w4.drew := below_drew _
    generalize w4.drew = s1 at hSss1 hB_0_s1 ⊢
    have hB_s1_s1 := Below.refl s1.heap.size s1
    refine wpAnyT_pure (i := 0) (v := ?_) rfl (by kernel_rfl) (by kernel_rfl) (by kernel_rfl) (fun _ _ _ h => h) (by rfl) ?_ ?_
    rotate_left
    · intro w; go_simp; try with_reducible rfl
    simp only [Act.put, rgA, rgB, rgC, rgD, rgE, rgF]
    refine wpAnyT_pure (i := 1) (v := ?_) rfl (by kernel_rfl) (by kernel_rfl) (by kernel_rfl) (fun _ _ _ h => h) (by rfl) ?_ ?_
    rotate_left
    · intro w; go_simp; try with_reducible rfl
    simp only [Act.put, rgA, rgB, rgC, rgD, rgE, rgF]
    refine wpAnyT_pure (i := 2) (v := ?_) rfl (by kernel_rfl) (by kernel_rfl) (by kernel_rfl) (fun _ _ _ h => h) (by rfl) ?_ ?_
    rotate_left
    · intro w; go_simp; try with_reducible rfl
    simp only [Act.put, rgA, rgB, rgC, rgD, rgE, rgF]
    refine wpAnyT_pure (i := 3) (v := ?_) rfl (by kernel_rfl) (by kernel_rfl) (by kernel_rfl) (fun _ _ _ h => h) (by rfl) ?_ ?_
    rotate_left
    · intro w; go_simp; try with_reducible rfl
    simp only [Act.put, rgA, rgB, rgC, rgD, rgE, rgF]
    refine wpAnyT_pure (i := 4) (v := ?_) rfl (by kernel_rfl) (by kernel_rfl) (by kernel_rfl) (fun _ _ _ h => h) (by rfl) ?_ ?_
    rotate_left
    · intro w; go_simp; try with_reducible rfl
    simp only [Act.put, rgA, rgB, rgC, rgD, rgE, rgF]
    refine wpAnyT_pure (i := 5) (v := ?_) rfl (by kernel_rfl) (by kernel_rfl) (by kernel_rfl) (fun _ _ _ h => h) (by rfl) ?_ ?_
    rotate_left
    · intro w; go_simp; try with_reducible rfl
    simp only [Act.put, rgA, rgB, rgC, rgD, rgE, rgF]
    refine wpAnyT_pure (i := 6) (v := ?_) rfl (by kernel_rfl) (by kernel_rfl) (by kernel_rfl) (fun _ _ _ h => h) (by rfl) ?_ ?_
    rotate_left
    · intro w; go_simp; try with_reducible rfl
    simp only [Act.put, rgA, rgB, rgC, rgD, rgE, rgF]
    refine wpAnyT_pure (i := 7) (v := ?_) rfl (by kernel_rfl) (by kernel_rfl) (by kernel_rfl) (fun _ _ _ h => h) (by rfl) ?_ ?_
    rotate_left
    · intro w; go_simp; try with_reducible rfl
    simp only [Act.put, rgA, rgB, rgC, rgD, rgE, rgF]
    refine wpAnyT_pure (i := 8) (v := ?_) rfl (by kernel_rfl) (by kernel_rfl) (by kernel_rfl) (fun _ _ _ h => h) (by rfl) ?_ ?_
    rotate_left
    · intro w; go_simp; try with_reducible rfl
    simp only [Act.put, rgA, rgB, rgC, rgD, rgE, rgF]
    refine wpAnyT_pure (i := 9) (v := ?_) rfl (by kernel_rfl) (by kernel_rfl) (by kernel_rfl) (fun _ _ _ h => h) (by rfl) ?_ ?_
    rotate_left
    · intro w; go_simp; try with_reducible rfl
    simp only [Act.put, rgA, rgB, rgC, rgD, rgE, rgF]
    refine wpAnyT_pure (i := 10) (v := ?_) rfl (by kernel_rfl) (by kernel_rfl) (by kernel_rfl) (fun _ _ _ h => h) (by rfl) ?_ ?_
    rotate_left
    · intro w; go_simp; try with_reducible rfl
    simp only [Act.put, rgA, rgB, rgC, rgD, rgE, rgF]
    refine wpAnyT_pure (i := 11) (v := ?_) rfl (by kernel_rfl) (by kernel_rfl) (by kernel_rfl) (fun _ _ _ h => h) (by rfl) ?_ ?_
    rotate_left
    · intro w; go_simp; try with_reducible rfl
    simp only [Act.put, rgA, rgB, rgC, rgD, rgE, rgF]
    refine wpAnyT_pure (i := 12) (v := ?_) rfl (by kernel_rfl) (by kernel_rfl) (by kernel_rfl) (fun _ _ _ h => h) (by rfl) ?_ ?_
    rotate_left
    · intro w; go_simp; try with_reducible rfl
    simp only [Act.put, rgA, rgB, rgC, rgD, rgE, rgF]
    refine wpAnyT_pure (i := 13) (v := ?_) rfl (by kernel_rfl) (by kernel_rfl) (by kernel_rfl) (fun _ _ _ h => h) (by rfl) ?_ ?_
    rotate_left
    · intro w; go_simp; try with_reducible rfl
    simp only [Act.put, rgA, rgB, rgC, rgD, rgE, rgF]
    refine wpAnyT_loadW (i := 15) (v := ?_) rfl (by kernel_rfl) (by kernel_rfl) (by kernel_rfl) (by kernel_rfl) (by kernel_rfl) (fun _ _ _ h => h) (Or.inl ⟨by rfl, ?_⟩) hSss1 ?_
    rotate_left
    · intro w hSw; obtain ⟨⟨e0, e1, e2, e3, -⟩, hrw⟩ := hSw; go_simp; try with_reducible rfl
    simp only [Act.put, rgA, rgB, rgC, rgD, rgE, rgF]
    refine wpAnyT_loadW (i := 18) (v := ?_) rfl (by kernel_rfl) (by kernel_rfl) (by kernel_rfl) (by kernel_rfl) (by kernel_rfl) (fun _ _ _ h => h) (Or.inl ⟨by rfl, ?_⟩) hSss1 ?_
    rotate_left
    · intro w hSw; obtain ⟨⟨e0, e1, e2, e3, -⟩, hrw⟩ := hSw; go_simp; try with_reducible rfl
    simp only [Act.put, rgA, rgB, rgC, rgD, rgE, rgF]
    refine wpAnyT_loadW (i := 14) (v := (.agg bs)) rfl (by kernel_rfl) (by kernel_rfl) (by kernel_rfl) (by kernel_rfl) (by kernel_rfl) (fun _ _ _ h => h) (Or.inl ⟨by rfl, ?_⟩) hSss1 ?_
    · intro w hSw; exact exec_load_row 65 (.tmp 2) rfl n (by kernel_rfl) 65 bs (0, 0) _ hSw.2 Try.underlying65 rfl (by rw [HSZ.out]; kernel_rfl)
    simp only [Act.put, rgA, rgB, rgC, rgD, rgE, rgF]
    refine wpAnyT_loadW (i := 17) (v := (.agg bs)) rfl (by kernel_rfl) (by kernel_rfl) (by kernel_rfl) (by kernel_rfl) (by kernel_rfl) (fun _ _ _ h => h) (Or.inl ⟨by rfl, ?_⟩) hSss1 ?_
    · intro w hSw; exact exec_load_row 65 (.tmp 2) rfl n (by kernel_rfl) 65 bs (0, 0) _ hSw.2 Try.underlying65 rfl (by rw [HSZ.out]; kernel_rfl)
    simp only [Act.put, rgA, rgB, rgC, rgD, rgE, rgF]
    refine wpAnyT_one (i := 16) (by kernel_rfl) rfl (by rfl) ?_
    have hbP := below_step HB4.out (hB_0_s1.trans ((hB_s1_s1).mono hB_0_s1.size))
    refine wp_enter (f := 20) (args := #[.agg bs, .agg #[.int .i64 id, .slice la L.length lc, .slice ra R.length rc, .int .i64 st]]) (by go_simp) (HVP.out s1 hbP) ?_
    rintro e w102 ⟨rfl, hX⟩
    clear hbP
    have hB_s1_w102 := below_step hB_s1_s1 hX
    have hB_w102_w102 := Below.refl w102.heap.size w102
    have hSsw102 := CellsR.below hB_s1_w102 hSss1
    clear hX
    refine ⟨_, rfl, fun _ _ => hSsw102, ?_⟩
    try simp only [Act.put, rgA, rgB, rgC, rgD, rgE, rgF]
    refine wpAnyT_one (i := 19) (by kernel_rfl) rfl (by rfl) ?_
    have hbP := below_step HB4.out (hB_0_s1.trans ((hB_s1_w102).mono hB_0_s1.size))
    refine wp_enter (f := 21) (args := #[.agg bs, .agg #[.int .i64 id, .slice la L.length lc, .slice ra R.length rc, .int .i64 st]]) (by go_simp) (HVR.out w102 hbP) ?_
    rintro e w103 ⟨rfl, hX⟩
    clear hbP
    have hB_s1_w103 := below_step hB_s1_w102 hX
    have hB_w102_w103 := below_step hB_w102_w102 hX
    have hB_w103_w103 := Below.refl w103.heap.size w103
    have hSsw103 := CellsR.below hB_s1_w103 hSss1
    clear hX
    refine ⟨_, rfl, fun _ _ => hSsw103, ?_⟩
    try simp only [Act.put, rgA, rgB, rgC, rgD, rgE, rgF]
    refine wpAnyT_pure (i := 20) (v := ?_) rfl (by kernel_rfl) (by kernel_rfl) (by kernel_rfl) (fun _ _ _ h => h) (by rfl) ?_ ?_
    rotate_left
    · intro w; go_simp; try with_reducible rfl
    simp only [Act.put, rgA, rgB, rgC, rgD, rgE, rgF]
    refine wpAnyT_pure (i := 21) (v := ?_) rfl (by kernel_rfl) (by kernel_rfl) (by kernel_rfl) (fun _ _ _ h => h) (by rfl) ?_ ?_
    rotate_left
    · intro w; go_simp; try with_reducible rfl
    simp only [Act.put, rgA, rgB, rgC, rgD, rgE, rgF]
    refine wpAnyT_pure (i := 22) (v := ?_) rfl (by kernel_rfl) (by kernel_rfl) (by kernel_rfl) (fun _ _ _ h => h) (by rfl) ?_ ?_
    rotate_left
    · intro w; go_simp; try with_reducible rfl
    simp only [Act.put, rgA, rgB, rgC, rgD, rgE, rgF]
    refine wpAnyT_done (by kernel_rfl) ?_ _
    have HB5 := Lib.hid (below_step HB4.out (hB_0_s1.trans ((hB_s1_w103).mono hB_0_s1.size)))
    obtain ⟨w5, rfl⟩ : ∃ q, q = w103 := ⟨_, rfl⟩
    go_wp2_with fail
    go_ret
    exact ⟨rfl, HB5.out⟩
end Go.Proofs.Ytpobckedeffjmaa
