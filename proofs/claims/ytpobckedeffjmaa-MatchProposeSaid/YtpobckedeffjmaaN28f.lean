/- Layer 28: the reference's choose. -/
import Derived.Test.YtpobckedeffjmaaN28b
set_option linter.unusedSimpArgs false
set_option maxRecDepth 50000
namespace Go.Proofs.Ytpobckedeffjmaa
open Go.RowKit Go

/-- The first lists of n places from i on that fit. -/
def chooseR (l : List O3) (tol : Int) (i n : Nat) (s : Int) : Option (List Nat) := (combL (List.range' i (l.length - i)) n).find? (fitC s tol l)
theorem chooseN_eq (l : List O3) (tol : Int) (n : Nat) (x : Int) : chooseN x tol l n = chooseR l tol 0 n x := by
  unfold chooseN chooseR
  rw [Nat.sub_zero, List.range_eq_range']
theorem chooseR_zero (l : List O3) (tol : Int) (i : Nat) (s : Int) : chooseR l tol i 0 s = if szI s ≤ tol then some [] else none := by
  unfold chooseR
  rw [show combL (List.range' i (l.length - i)) 0 = [[]] from by cases List.range' i (l.length - i) <;> rfl, List.find?_cons]
  unfold fitC sumM
  simp only [List.foldl_nil]
  by_cases h : szI s ≤ tol <;> simp [h]
theorem chooseR_end (l : List O3) (tol : Int) (n : Nat) (s : Int) : chooseR l tol l.length (n + 1) s = none := by
  unfold chooseR
  rw [Nat.sub_self]
  rfl
theorem chooseR_step {l : List O3} (tol : Int) {i : Nat} (n : Nat) (s : Int) (hi : i < l.length) : chooseR l tol i (n + 1) s = ((chooseR l tol (i + 1) n (s + (lat l i).n)).map (i :: ·)).or (chooseR l tol (i + 1) (n + 1) s) := by
  unfold chooseR
  rw [show l.length - i = (l.length - (i + 1)) + 1 from by omega, List.range'_succ]
  conv => lhs; unfold combL
  rw [List.find?_append, List.find?_map]
  rfl
theorem chooseR_sub {l : List O3} {tol : Int} {i n : Nat} {s : Int} {ps : List Nat} (h : chooseR l tol i n s = some ps) : ps.length = n ∧ ∀ p ∈ ps, p < l.length := by
  unfold chooseR at h
  have h1 := combL_sub _ _ (List.mem_of_find?_eq_some h)
  refine ⟨h1.2, fun p hp => ?_⟩
  have := h1.1.subset hp
  rw [List.mem_range'_1] at this
  omega
def natsI (ps : List Nat) : List Int := ps.map fun p : Nat => (p : Int)
/-- What choose returns. -/
def ChQ (cr : Option (List Nat)) (base : Nat) (w' : World) (v : Value) (b : Bool) : Prop := match cr with | none => b = false | some ps => b = true ∧ Owns (.int .i64) 3 base (fun _ => False) w' v (natsI ps)
def ChP (cr : Option (List Nat)) (base : Nat) (w' : World) (e : Ending) : Prop := ∃ v b, e = .returned (.tuple #[v, .bool b]) ∧ ChQ cr base w' v b
set_option maxHeartbeats 4000000 in
theorem choose28 (l : List O3) (tol : Int) (hn : l.length ≤ 12) (hla : ∀ y ∈ l, amtB y.n = true) : ∀ (n : Nat), n ≤ 12 → ∀ (S : Nat → Prop) (w : World) (a : Option Addr) (c i : Nat) (s : Int) (_ : i ≤ l.length) (_ : -1000000000000 * (100 - (n : Int)) ≤ s ∧ s ≤ 1000000000000 * (100 - (n : Int)))
    (_ : Rd (.sl openT) S w [.slice a l.length c] (l.map O3.d)) (_ : ∀ b, S b → b < w.heap.size),
    Calls Try.prog 45 #[.slice a l.length c, .int .i64 i, .int .i64 n, .int .i64 s, .int .i64 tol] w fun e w' => ChP (chooseR l tol i n s) w.heap.size w' e ∧ Below w.heap.size w w' := by
  intro n
  induction n with
  | zero =>
    intro _ S w a c i s hi hs h hS
    have hsb : -9000000000000000000 ≤ s ∧ s ≤ 9000000000000000000 := by omega
    obtain ⟨d, hd⟩ : ∃ d, szI s = d := ⟨_, rfl⟩
    obtain ⟨cr, hcr⟩ : ∃ q, chooseR l tol i 0 s = q := ⟨_, rfl⟩
    rw [hcr]
    rw [chooseR_zero, hd] at hcr
    have HD := Lib.hid hd
    have HCR := Lib.hid hcr
    clear h hS hs hd hcr
    go_enter Try.func45, Try.ntmps45
    go_wp2_with fail
    refine (rsize28 w s hsb).mono ?_
    rw [HD.out]
    rintro e w1 ⟨rfl, hw⟩
    subst hw
    by_cases ht : d ≤ tol
    · have HT := Lib.hid (show cr = some [] from by rw [← HCR.out, if_pos ht])
      go_wp2_with fail
      go_ret2
      rw [HT.out]
      exact ⟨⟨.slice none 0 0, true, rfl, ⟨rfl, Owns.nil _ _ _ _⟩⟩, Below.refl _ _⟩
    · have HT := Lib.hid (show cr = none from by rw [← HCR.out, if_neg ht])
      go_wp2_with fail
      go_ret2
      rw [HT.out]
      exact ⟨⟨.slice none 0 0, decide (d ≤ tol), rfl, decide_eq_false (by omega)⟩, Below.refl _ _⟩
  | succ n ih =>
    intro hn12 S w a c i0 s hi hs h hS
    have IH := Lib.hid (ih (by omega))
    have H := Lib.hid h
    have HS := Lib.hid hS
    have HLA := Lib.hid hla
    obtain ⟨cr, hcr⟩ : ∃ q, chooseR l tol i0 (n + 1) s = q := ⟨_, rfl⟩
    rw [hcr]
    have HCR := Lib.hid hcr
    have hnI : ¬ ((n + 1 : Nat) : Int) = 0 := by omega
    clear ih h hS hla hcr
    go_enter Try.func45, Try.ntmps45
    go_wp2_with fail
    go_loopw [12] (fun iv wr => ∃ (i : Nat), i ≤ l.length ∧ iv = .int .i64 (i : Int) ∧ chooseR l tol i (n + 1) s = cr ∧ Below w.heap.size w wr) (fun iv _ => l.length - (intOf iv).toNat)
    case atStart => exact ⟨i0, hi, rfl, HCR.out, Below.refl _ _⟩
    case round =>
      obtain ⟨i, hi', rfl, hc', hB⟩ := hrel
      have HB := Lib.hid hB
      by_cases hil : i < l.length
      · have hiI : (i : Int) < (l.length : Int) := by omega
        have hRd := H.out.below hB HS.out
        obtain ⟨b, off, rfl, -, m0, m1, m2, -⟩ := open_at hRd i hil
        have hyb := (amt_bounds (HLA.out _ (List.getElem_mem hil))).2
        rw [chooseR_step tol n s hil, ← lat_get hil] at hc'
        have HIL := Lib.hid hil
        generalize l[i] = y at m0 m1 m2 hyb hc'
        obtain ⟨⟨ye, yl⟩, yn⟩ := y
        simp only at m0 m1 m2 hyb hc'
        have HC := Lib.hid hc'
        have HCALL := Lib.hid (IH.out S wr (some ⟨b, off, none⟩) c (i + 1) (s + yn) hil (by omega) hRd (fun b hb => Nat.lt_of_lt_of_le (HS.out b hb) hB.size))
        clear hB hil hi' hc' hRd m0 m1
        go_wp2_with fail
        refine HCALL.out.mono ?_
        rintro e w1 ⟨⟨v, b1, rfl, hm⟩, hB1⟩
        have HB1 := Lib.hid (below_step HB.out hB1)
        have HC1 := Lib.hid HC.out
        clear hB1
        obtain ⟨co, hch⟩ : ∃ q, chooseR l tol (i + 1) n (s + yn) = q := ⟨_, rfl⟩
        rw [hch] at hm
        rcases co with _ | ps
        · have hbf : b1 = false := hm
          subst hbf
          have HC2 := Lib.hid (show chooseR l tol (i + 1) (n + 1) s = cr from by have h := HC.out; rw [hch] at h; exact h)
          clear hm hch
          go_wp2_with fail
          go_roundw
          case rel => first | exact ⟨i + 1, HIL.out, by go_num, HC2.out, HB1.out⟩ | ((repeat apply Exists.intro); refine ⟨?_, rfl⟩; exact ⟨i + 1, HIL.out, by go_num, HC2.out, HB1.out⟩)
          case measure => have := HIL.out; simp [intOf]; try omega
        · have hm2 : b1 = true ∧ Owns (.int .i64) 3 wr.heap.size (fun _ => False) w1 v (natsI ps) := hm
          obtain ⟨hbt, hO⟩ := hm2
          subst hbt
          have HC2 := Lib.hid (show cr = some (i :: ps) from by have h := HC.out; rw [hch] at h; exact h.symm)
          obtain ⟨va, vl, vc, rfl, hvl, -⟩ := hO.slice
          have HPL := Lib.hid (show (natsI ps).length ≤ 12 from by have := (chooseR_sub hch).1; unfold natsI; rw [List.length_map]; omega)
          have hwi : (Lit.int .i64 (i : Int)).wf = true := wf_i64 (by have := HIL.out; omega) (by have := HIL.out; omega)
          have HL0 := Lib.hid (Owns.lit (e := .int .i64) (te := 3) (base := w1.heap.size) (S := fun _ => False) w1 (vs := [.int .i64 (i : Int)]) (xs := [(i : Int)]) (RdL.one (e := .int .i64) ⟨rfl, hwi⟩) (Nat.le_refl _) (fun _ h => h.elim) (by simp))
          have hBa := (Below.refl w1.heap.size w1).alloc (Nat.le_refl _) (.cells #[.int .i64 (i : Int)] 3)
          have hRR := (hO.below hBa).rd (fun b => b < w1.heap.size) (fun _ h => h.elim) (fun b hb => (hO.own b hb).2)
          have HRR := Lib.hid hRR
          have HBA := Lib.hid (below_step HB1.out hBa)
          have HIN := Lib.hid hvl
          clear hm hO hvl hwi hBa hRR hch HCALL HC HC1
          go_wp2_with (at_builtin; obtain ⟨news, hsrc, hrl⟩ := HRR.out.src; go_must (refine wpList_app _ rfl _ _ 99 rfl (e := .int .i64) (te := 3) info_int Try.underlying99 rfl (by decide) (v := .slice (some ⟨w1.heap.size, 0, none⟩) 1 1) rfl HL0.out (by simp only [World.size_alloc]; omega) rfl hsrc (hrl.flat (e := .int .i64) rfl) (by have := HPL.out; simp only [List.length_cons, List.length_nil]; omega) (by have := HPL.out; simp only [List.length_cons, List.length_nil]; omega) ?_); intro v' w2 O1 g1 _ hob; obtain ⟨av', lv', cv', rfl, -⟩ := O1.slice; have HO1 := Lib.hid O1; have HG1 := Lib.hid g1; clear O1 g1 hob hsrc hrl)
          go_ret2
          rw [HC2.out]
          refine ⟨⟨.slice av' lv' cv', true, rfl, ⟨rfl, ?_⟩⟩, HBA.out.grown HG1.out (by have := HBA.out.size; omega) (fun c hc => by have := (HL0.out.own c hc).1; have := HB1.out.size; omega)⟩
          exact HO1.out.base HB1.out.size
      · obtain rfl : i = l.length := by omega
        have hiI : ¬ ((l.length : Nat) : Int) < (l.length : Int) := by omega
        have HT := Lib.hid (show cr = none from by rw [← hc', chooseR_end])
        clear hB hi' hil hc'
        go_wp2_with fail
        go_ret2
        rw [HT.out]
        exact ⟨⟨.slice none 0 0, false, rfl, rfl⟩, HB.out⟩
end Go.Proofs.Ytpobckedeffjmaa

/- Layer 28: the reference's many. -/
set_option linter.unusedSimpArgs false
set_option maxRecDepth 50000
namespace Go.Proofs.Ytpobckedeffjmaa
open Go.RowKit Go

theorem mset_none {x tol : Int} {ls : List O3} (h : ∀ n, 2 ≤ n → n ≤ (ls.take 12).length → chooseN x tol (ls.take 12) n = none) : mset x tol ls = [] := by
  unfold mset
  have : manyN x tol (ls.take 12) = none := by
    unfold manyN
    rw [List.findSome?_eq_none_iff]
    intro n hn
    rw [List.mem_range'_1] at hn
    exact h n (by omega) (by omega)
  rw [this]
theorem mset_some {x tol : Int} {ls : List O3} {n : Nat} {ps : List Nat} (h2 : 2 ≤ n) (hn : n ≤ (ls.take 12).length) (h : ∀ m, 2 ≤ m → m < n → chooseN x tol (ls.take 12) m = none) (hs : chooseN x tol (ls.take 12) n = some ps) : mset x tol ls = refsM (ls.take 12) ps := by
  unfold mset
  have : manyN x tol (ls.take 12) = some ps := by
    unfold manyN
    rw [show List.range' 2 ((ls.take 12).length - 1) = List.range' 2 (n - 2) ++ n :: List.range' (n + 1) ((ls.take 12).length - n) from by
      rw [show (ls.take 12).length - 1 = (n - 2) + (((ls.take 12).length - n) + 1) from by omega, ← List.range'_append_1, List.range'_succ]
      rw [show 2 + (n - 2) = n from by omega]]
    rw [List.findSome?_append, (List.findSome?_eq_none_iff).2 (fun m hm => h m (by rw [List.mem_range'_1] at hm; omega) (by rw [List.mem_range'_1] at hm; omega)), Option.none_or, List.findSome?_cons, hs]
  rw [this]
set_option maxHeartbeats 4000000 in
theorem rmany28 {S : Nat → Prop} (w : World) (x : O3) (a : Option Addr) (c : Nat) (l : List O3) (tol : Int) (hn : l.length ≤ 1000) (hxa : amtB x.n = true) (hla : ∀ y ∈ l, amtB y.n = true) (h : Rd (.sl openT) S w [.slice a l.length c] (l.map O3.d)) (hS : ∀ b, S b → b < w.heap.size) :
    Calls Try.prog 34 #[x.v, .slice a l.length c, .int .i64 tol] w fun e w' => ∃ v, e = .returned v ∧ Owns refT 41 w.heap.size (fun _ => False) w' v ((mset x.n tol l).map R2.d) ∧ Below w.heap.size w w' := by
  obtain ⟨⟨xe, xl⟩, xn⟩ := x
  simp only at hxa
  have hxb := (amt_bounds hxa).2
  have hk12 : min l.length 12 = (l.take 12).length := by rw [List.length_take, Nat.min_comm]
  have ht := h.take (min l.length 12) (by omega)
  rw [← List.map_take, show l.take (min l.length 12) = l.take 12 from by rw [Nat.min_comm, ← List.take_take, List.take_length], hk12] at ht
  have hcap : l.length ≤ c := h.sl_flat.2.1
  obtain ⟨ms, hms⟩ : ∃ q, mset xn tol l = q := ⟨_, rfl⟩
  simp only [hms]
  have HMN := Lib.hid (fun hq => (mset_none (x := xn) (tol := tol) (ls := l) hq).symm.trans hms)
  have HMSM := Lib.hid (fun n ps h2 hn hq hs => (mset_some (x := xn) (tol := tol) (ls := l) (n := n) (ps := ps) h2 hn hq hs).symm.trans hms)
  have hla2 : ∀ y ∈ l.take 12, amtB y.n = true := fun y hy => hla y (List.mem_of_mem_take hy)
  have hl12 : (l.take 12).length ≤ 12 := by rw [List.length_take]; omega
  have HMIN := Lib.hid hk12
  generalize l.take 12 = q at *
  have H := Lib.hid ht
  have HS := Lib.hid hS
  have HLA := Lib.hid hla2
  have hlm : l.length ≤ 9223372036854775807 := by omega
  unfold O3.v
  simp only
  have hmi : min (l.length : Int) 12 = (q.length : Int) := by rw [← hk12]; omega
  have hqc : q.length ≤ c := by omega
  have hql : q.length ≤ l.length := by omega
  clear ht h hS hla hla2 hms hxa hk12
  go_enter Try.func34, Try.ntmps34
  have hqx := heap_alloc_new w (.cells #[.int .i64 xe, .int .i64 xl, .int .i64 xn] 50)
  have HBX := Lib.hid ((Below.refl w.heap.size w).alloc (Nat.le_refl _) (.cells #[.int .i64 xe, .int .i64 xl, .int .i64 xn] 50))
  have HQX := Lib.hid hqx
  clear hqx
  go_wp2_with fail
  generalize World.alloc w (.cells #[.int .i64 xe, .int .i64 xl, .int .i64 xn] 50) = w0 at *
  obtain ⟨bx, hbx⟩ : ∃ b, w.heap.size = b := ⟨_, rfl⟩
  rw [hbx] at HQX
  simp only [hbx]
  have HBXE := Lib.hid hbx
  go_loopw [7] (fun iv wr => ∃ (n : Nat), 2 ≤ n ∧ (n ≤ q.length + 1 ∨ n = 2) ∧ iv = .int .i64 (n : Int) ∧ (∀ m, 2 ≤ m → m < n → chooseN xn tol q m = none) ∧ Below w0.heap.size w0 wr) (fun iv _ => q.length + 3 - (intOf iv).toNat)
  case atStart => exact ⟨2, Nat.le_refl _, .inr rfl, rfl, fun m h1 h2 => absurd h2 (by omega), Below.refl _ _⟩
  case round =>
    obtain ⟨n, h2, hn1, rfl, hno, hB⟩ := hrel
    have HNO := Lib.hid hno
    have HB := Lib.hid hB
    have HBW := Lib.hid (show Below w.heap.size w wr from below_step HBX.out hB)
    have H2 := Lib.hid h2
    by_cases hnl : n ≤ q.length
    · have hnI : (n : Int) ≤ (q.length : Int) := by omega
      have hqx := (hB.block _ (blk_lt HQX.out)).trans HQX.out
      have x2 := blk_cell hqx 2
      simp only [List.getElem?_toArray, List.getElem?_cons_zero, List.getElem?_cons_succ] at x2
      have HCALL := Lib.hid (choose28 q tol hl12 HLA.out n (by omega) S wr a c 0 xn (Nat.zero_le _) (by omega) (H.out.below HBW.out HS.out) (fun b hb => Nat.lt_of_lt_of_le (HS.out b hb) HBW.out.size))
      have HNL := Lib.hid hnl
      rw [← chooseN_eq] at HCALL
      have hn12 : n ≤ 12 := by omega
      clear hqx hB h2 hn1 hno hnl
      go_wp2_with fail
      refine HCALL.out.mono ?_
      rintro e w1 ⟨⟨v, b1, rfl, hm⟩, hB1⟩
      have HB1 := Lib.hid (below_step HB.out hB1)
      have HBW1 := Lib.hid (below_step HBW.out hB1)
      obtain ⟨co, hch⟩ : ∃ z, chooseN xn tol q n = z := ⟨_, rfl⟩
      rw [hch] at hm
      clear hB1 x2
      rcases co with _ | ps
      · have hbf : b1 = false := hm
        subst hbf
        have HCH := Lib.hid hch
        clear hm hch HCALL
        go_wp2_with fail
        go_roundw
        case rel =>
          refine ⟨n + 1, by have := H2.out; omega, .inl (by have := HNL.out; omega), by go_num, fun m h1 h3 => ?_, HB1.out⟩
          by_cases e : m = n
          · rw [e]; exact HCH.out
          · exact HNO.out m h1 (by omega)
        case measure => have := HNL.out; simp [intOf]; try omega
      · have hm2 : b1 = true ∧ Owns (.int .i64) 3 wr.heap.size (fun _ => False) w1 v (natsI ps) := hm
        obtain ⟨hbt, hO⟩ := hm2
        subst hbt
        obtain ⟨va, vl, vc, rfl, hvl, -⟩ := hO.slice
        have HMS := Lib.hid (HMSM.out n ps H2.out HNL.out HNO.out hch)
        rw [chooseN_eq] at hch
        have hsub := chooseR_sub hch
        have HPL := Lib.hid hsub.2
        have hpl : ps.length ≤ 12 := by omega
        obtain rfl : vl = ps.length := by rw [hvl]; unfold natsI; rw [List.length_map]
        have HO := Lib.hid hO
        clear hm hch hO HCALL hsub hvl
        go_wp2_with fail
        go_loopw [10, 11] (fun v iv wr => ∃ (j : Nat) (av : Option Addr) (lv cv : Nat), j ≤ ps.length ∧ iv = .int .i64 (j : Int) ∧ v = .slice av lv cv ∧ Owns refT 41 w1.heap.size (fun _ => False) wr (.slice av lv cv) ((refsM q (ps.take j)).map R2.d) ∧ Below w1.heap.size w1 wr) (fun _ iv _ => ps.length - (intOf iv).toNat)
        case atStart => exact ⟨0, none, 0, 0, Nat.zero_le _, rfl, rfl, Owns.nil _ _ _ _, Below.refl _ _⟩
        case round =>
          obtain ⟨j, av, lv, cv, hj, rfl, rfl, hO2, hBj⟩ := hrel
          have HO2 := Lib.hid hO2
          have HBJ := Lib.hid hBj
          by_cases hjl : j < ps.length
          · have hjI : (j : Int) < (ps.length : Int) := by omega
            have hOj := HO.out.below hBj
            obtain ⟨pb, po, px, hpe, -, p0, -, hpx⟩ := int_at (l := natsI ps) (by have h := hOj.rd (fun b => b < wr.heap.size) (fun _ h => h.elim) (fun b hb => (hOj.own b hb).2); rwa [show ps.length = (natsI ps).length from by unfold natsI; rw [List.length_map]] at h) j (by unfold natsI; rw [List.length_map]; exact hjl)
            cases hpe
            have hpq : (natsI ps)[j]?.getD 0 = (ps[j] : Int) := by unfold natsI; simp [hjl]
            rw [hpq] at hpx
            have hpjl := HPL.out ps[j] (List.getElem_mem hjl)
            have HTJ := Lib.hid (show refsM q (ps.take (j + 1)) = refsM q (ps.take j) ++ [(lat q ps[j]).r] from by rw [List.take_succ_eq_append_getElem hjl]; unfold refsM; rw [List.map_append]; rfl)
            generalize ps[j] = p at hpx hpjl HTJ
            subst hpx
            obtain ⟨b, off, he, -, m0, m1, -, hok⟩ := open_at (H.out.below (below_step HBW1.out hBj) HS.out) p hpjl
            cases he
            rw [lat_get hpjl] at m0 m1 hok
            have HJL := Lib.hid hjl
            have HLJ := Lib.hid (show (refsM q (ps.take j)).length ≤ 12 from by unfold refsM; rw [List.length_map, List.length_take]; omega)
            generalize lat q p = y at m0 m1 hok HTJ
            obtain ⟨⟨ye, yl⟩, yn⟩ := y
            simp only at m0 m1 hok
            have HOK := Lib.hid hok.1
            have hpI : (p : Int) < (q.length : Int) := by omega
            clear hO2 hBj hj hjl hOj hpq hok
            go_wp2_with (at_builtin; go_must (refine wpList_app _ rfl _ _ 37 rfl (e := refT) (te := 41) info_ref Try.underlying37 rfl (by decide) (v := .slice av lv cv) rfl (HO2.out.alloc _) (by have := HBJ.out.size; simp only [World.size_alloc]; omega) rfl (ys := [R2.d ⟨ye, yl⟩]) (Src.new _ [_, _] _ _ _) (RdL.one (e := refT) (ref_rd (r := ⟨ye, yl⟩) HOK.out)) (by have := HLJ.out; rw [List.length_map]; simp only [List.length_cons, List.length_nil]; omega) (by have := HLJ.out; rw [List.length_map]; simp only [List.length_cons, List.length_nil]; omega) ?_); intro v' wF O1 g1 _ hob; obtain ⟨aF, lF, cF, rfl, -⟩ := O1.slice; have HO1 := Lib.hid O1; have HG1 := Lib.hid g1; clear O1 g1 hob)
            go_roundw
            case rel =>
              refine ⟨j + 1, aF, lF, cF, HJL.out, by go_num, rfl, ?_, (HBJ.out.alloc HBJ.out.size _).grown HG1.out (by have := HBJ.out.size; simp only [World.size_alloc]; omega) (fun c hc => (HO2.out.own c hc).1)⟩
              rw [HTJ.out, List.map_append]
              exact HO1.out
            case measure => have := HJL.out; simp [intOf]; try omega
          · obtain rfl : j = ps.length := by omega
            have hjI : ¬ ((ps.length : Nat) : Int) < (ps.length : Int) := by omega
            have HOE := Lib.hid (show Owns refT 41 w1.heap.size (fun _ => False) wr (.slice av lv cv) (ms.map R2.d) from by have h := hO2; rw [List.take_length, HMS.out] at h; exact h)
            clear hO2 hBj hj hjl
            go_wp2_with fail
            go_ret
            refine ⟨_, rfl, HOE.out.base (by have := HBW1.out.size; rw [HBXE.out] at this; exact this), ?_⟩
            have h := below_step HBW1.out HBJ.out
            rw [HBXE.out] at h
            exact h
    · have hnI : ¬ (n : Int) ≤ (q.length : Int) := by omega
      have HMZ := Lib.hid (HMN.out (fun m h1 h3 => hno m h1 (by omega)))
      clear hB h2 hn1 hno hnl
      go_wp2_with fail
      go_ret
      refine ⟨_, rfl, ?_, by have h := HBW.out; rw [HBXE.out] at h; exact h⟩
      rw [← HMZ.out]
      exact Owns.nil _ _ _ _
end Go.Proofs.Ytpobckedeffjmaa

/- Layer 28: the reference's Valid; the law's from; SameRefs, SamePairs. -/
set_option linter.unusedSimpArgs false
set_option maxRecDepth 50000
namespace Go.Proofs.Ytpobckedeffjmaa
open Go.RowKit Go

theorem amount08 (w : World) (n : Int) : Calls Try.prog 43 #[.int .i64 n] w fun e w' => e = .returned (.bool (!(decide (1000000000000 < n)) && !(decide (n < -1000000000000)))) ∧ w' = w := by
  by_cases h1 : n ≥ -1000000000000
  · by_cases h2 : n ≤ 1000000000000
    · rw [decide_eq_false (by omega), decide_eq_false (by omega)]
      have h3 : -1000000000000 ≤ n := h1
      go_enter Try.func43, Try.ntmps43
      go_wp2_with fail
      go_ret
      exact ⟨rfl, rfl⟩
    · rw [decide_eq_true (show 1000000000000 < n by omega)]
      have h3 : -1000000000000 ≤ n := h1
      go_enter Try.func43, Try.ntmps43
      go_wp2_with fail
      go_ret
      exact ⟨rfl, rfl⟩
  · rw [decide_eq_true (show n < -1000000000000 by omega), Bool.not_true, Bool.and_false]
    have h3 : ¬ -1000000000000 ≤ n := h1
    go_enter Try.func43, Try.ntmps43
    go_wp2_with fail
    go_ret
    exact ⟨rfl, rfl⟩
set_option maxHeartbeats 4000000 in
theorem rvalid28 {S : Nat → Prop} (w : World) (a1 : Option Addr) (c1 : Nat) (l : List O3) (a2 : Option Addr) (c2 : Nat) (r : List O3) (hl : l.length ≤ 12) (hr : r.length ≤ 12)
    (h1 : Rd (.sl openT) S w [.slice a1 l.length c1] (l.map O3.d)) (h2 : Rd (.sl openT) S w [.slice a2 r.length c2] (r.map O3.d)) (hS : ∀ b, S b → b < w.heap.size) :
    Calls Try.prog 30 #[.slice a1 l.length c1, .slice a2 r.length c2] w fun e w' => e = .returned (.bool (linesB l r)) ∧ Below w.heap.size w w' := by
  obtain ⟨lb, hlb⟩ : ∃ x, linesB l r = x := ⟨_, rfl⟩
  rw [hlb]
  have HLB2 := Lib.hid (show lb = (decide (((l ++ r).map (·.r)).Nodup) && (l ++ r).all (fun x => amtB x.n)) from by rw [← hlb]; unfold linesB; rw [decide_eq_true (by omega), decide_eq_true (by omega)]; rfl)
  have hB0 := (Below.refl w.heap.size w).alloc (Nat.le_refl _) (.cells #[] 50)
  have H1 := Lib.hid (h1.below hB0 hS)
  have H2 := Lib.hid (h2.below hB0 hS)
  have HS := Lib.hid hS
  have HL0 := Lib.hid (Owns.lit (e := openT) (te := 50) (base := w.heap.size) (S := fun _ => False) w (vs := []) (xs := []) rfl (Nat.le_refl _) (fun _ h => h.elim) (by simp))
  have HB0 := Lib.hid hB0
  have HLL := Lib.hid (And.intro hl hr)
  clear hlb h1 h2 hS hB0
  go_enter Try.func30, Try.ntmps30
  go_wp2_with (first | (have hq := HL0; at_builtin; clear HL0; obtain ⟨news, hsrc, hrl⟩ := H1.out.src; go_must (refine wpList_app _ rfl _ _ 22 rfl (e := openT) (te := 50) info_ropen Try.underlying22 rfl (by decide) (v := .slice (some ⟨w.heap.size, 0, none⟩) 0 0) rfl hq.out (by simp only [World.size_alloc]; omega) rfl hsrc (hrl.flat (e := openT) rfl) (by have := HLL.out; simp only [List.length_map, List.length_nil]; omega) (by have := HLL.out; simp only [List.length_map, List.length_nil]; omega) ?_); intro v' w1 O1 g1 _ hob; obtain ⟨av, lv, cv, rfl, -⟩ := O1.slice; have HO1 := Lib.hid O1; have HB1 := Lib.hid (HB0.out.grown g1 (by simp only [World.size_alloc]; omega) (fun c hc => (hq.out.own c hc).1)); have HR2 := Lib.hid (H2.out.gr (Gr.of_grown g1) (fun b hb => ⟨by have := HS.out b hb; simp only [World.size_alloc]; omega, fun e => by have := (hq.out.own _ e).1; have := HS.out b hb; omega⟩) (fun _ h => h)); clear O1 g1 hob hsrc hrl hq) |
    (have hq := HO1; at_builtin; clear HO1; obtain ⟨news, hsrc, hrl⟩ := HR2.out.src; go_must (refine wpList_app _ rfl _ _ 22 rfl (e := openT) (te := 50) info_ropen Try.underlying22 rfl (by decide) (v := .slice av lv cv) rfl hq.out HB1.out.size rfl hsrc (hrl.flat (e := openT) rfl) (by have := HLL.out; simp only [List.length_append, List.length_map, List.length_nil]; omega) (by have := HLL.out; simp only [List.length_append, List.length_map, List.length_nil]; omega) ?_); intro v' w2 O2 g2 _ hob; obtain ⟨av2, lv2, cv2, rfl, hlv2, -⟩ := O2.slice; have HO2 := Lib.hid O2; have HLV := Lib.hid hlv2; have HB2 := Lib.hid (HB1.out.grown g2 HB1.out.size (fun c hc => (hq.out.own c hc).1)); clear O2 g2 hob hsrc hrl hq hlv2))
  obtain ⟨al, hal⟩ : ∃ x, l ++ r = x := ⟨_, rfl⟩
  rw [hal] at HLB2
  have hO2 := HO2.out
  rw [List.nil_append, ← List.map_append, hal] at hO2
  have hlv := HLV.out
  rw [List.nil_append, ← List.map_append, hal, List.length_map] at hlv
  subst hlv
  have HO := Lib.hid hO2
  have HAN := Lib.hid (show al.length ≤ 24 from by rw [← hal, List.length_append]; omega)
  have hal24 := HAN.out
  have HAL := Lib.hid hal
  clear hO2 HO2 HLV hal
  go_loopw [6] (fun iv wr => ∃ (i : Nat), i ≤ al.length ∧ iv = .int .i64 (i : Int) ∧ ((al.take i).map (·.r)).Nodup ∧ (al.take i).all (fun x => amtB x.n) = true ∧ Below w2.heap.size w2 wr) (fun iv _ => al.length - (intOf iv).toNat)
  case atStart => exact ⟨0, Nat.zero_le _, rfl, by simp, rfl, Below.refl _ _⟩
  case round =>
    obtain ⟨i, hi, rfl, hnd, hall, hB⟩ := hrel
    have HND := Lib.hid hnd
    have HALL := Lib.hid hall
    have HB := Lib.hid hB
    have HBW := Lib.hid (show Below w.heap.size w wr from below_step HB2.out hB)
    by_cases hil : i < al.length
    · have hiI : (i : Int) < (al.length : Int) := by omega
      have hO3 := HO.out.below hB
      have hRD := hO3.rd (fun b => b < wr.heap.size) (fun _ h => h.elim) (fun b e => (hO3.own b e).2)
      obtain ⟨b, off, rfl, -, m0, m1, m2, hxo⟩ := open_at hRD i hil
      have HTK := Lib.hid (List.take_succ_eq_append_getElem hil)
      have HIN := Lib.hid (List.getElem_mem hil)
      have HIL := Lib.hid hil
      have HRD := Lib.hid hRD
      generalize al[i] = x at m0 m1 m2 hxo HTK HIN
      obtain ⟨⟨xe, xl⟩, xn⟩ := x
      simp only at m0 m1 m2
      have HBAD1 := Lib.hid (show (⟨xe, xl⟩ : R2) ∈ (al.take i).map (·.r) → lb = false from fun h => by
        rw [HLB2.out, decide_eq_false, Bool.false_and]
        intro hn
        have h2 : ((al.take (i + 1)).map (·.r)).Nodup := hn.sublist ((List.take_sublist _ _).map _)
        rw [HTK.out, List.map_append, List.map_cons, List.map_nil, nodup_snoc] at h2
        exact h2.2 h)
      have HBAD2 := Lib.hid (show amtB xn = false → lb = false from fun h => by
        rw [HLB2.out, show al.all (fun x => amtB x.n) = false from List.all_eq_false.2 ⟨_, HIN.out, by simp [h]⟩, Bool.and_false])
      have HAMC := Lib.hid (amount08 wr xn)
      obtain ⟨ab, hab⟩ : ∃ q, (!(decide (1000000000000 < xn)) && !(decide (xn < -1000000000000))) = q := ⟨_, rfl⟩
      rw [hab] at HAMC
      have HAB := Lib.hid hab
      have HM := Lib.hid (And.intro m0 (And.intro m1 m2))
      clear hO3 hxo hB hil hi hnd hall hRD hab
      by_cases hz : xn = 0
      case pos =>
        have HF := Lib.hid (HBAD2.out (by unfold amtB; rw [decide_eq_true hz]; rfl))
        go_wp2_with fail
        go_ret
        exact ⟨by rw [HF.out]; rfl, HBW.out⟩
      have HZ := Lib.hid hz
      have hzb : (xn == 0) = false := by simpa using hz
      go_wp2_with fail
      refine HAMC.out.mono ?_
      rintro e wq ⟨rfl, hwq⟩
      have hwr := hwq.symm
      subst hwr
      cases ab with
      | false =>
        have HF := Lib.hid (HBAD2.out (by unfold amtB; rw [Bool.and_assoc, HAB.out, Bool.and_false]))
        go_wp2_with fail
        go_ret
        exact ⟨by rw [HF.out]; rfl, HBW.out⟩
      | true =>
        have HAM := Lib.hid (show amtB xn = true from by unfold amtB; rw [Bool.and_assoc, HAB.out, decide_eq_false HZ.out]; rfl)
        go_wp2_with fail
        clear hz hzb
        obtain ⟨wo, rfl⟩ : ∃ q, q = wr := ⟨_, rfl⟩
        go_loopw [7] (fun jv wr => ∃ (j : Nat), j ≤ i ∧ jv = .int .i64 (j : Int) ∧ (∀ y ∈ al.take j, y.r ≠ ⟨xe, xl⟩) ∧ Below wo.heap.size wo wr) (fun jv _ => i - (intOf jv).toNat)
        case atStart => exact ⟨0, Nat.zero_le _, rfl, fun y hy => by simp at hy, Below.refl _ _⟩
        case round =>
          obtain ⟨j, hj, rfl, hne, hBj⟩ := hrel
          have HNE := Lib.hid hne
          have HBJ := Lib.hid hBj
          by_cases hji : j < i
          · have hjI : (j : Int) < (i : Int) := by omega
            obtain ⟨b2, off2, he, -, p0, p1, -, -⟩ := open_at (HRD.out.below hBj (fun b hb => hb)) j (by have := HIL.out; omega)
            cases he
            have x0 := cell_below HM.out.1 hBj
            have x1 := cell_below HM.out.2.1 hBj
            have hjl : j < al.length := by have := HIL.out; omega
            have HTJ := Lib.hid (List.take_succ_eq_append_getElem hjl)
            have HMJ := Lib.hid (show al[j].r ∈ (al.take i).map (·.r) from List.mem_map.2 ⟨al[j], List.mem_take_iff_getElem.2 ⟨j, by omega, rfl⟩, rfl⟩)
            have HJI := Lib.hid hji
            generalize al[j] = y at p0 p1 HTJ HMJ
            obtain ⟨⟨ye, yl⟩, yn⟩ := y
            simp only at p0 p1
            obtain ⟨eb, heb⟩ : ∃ q, decide ((⟨ye, yl⟩ : R2) = ⟨xe, xl⟩) = q := ⟨_, rfl⟩
            have hev := fun w => ref_eql w ⟨ye, yl⟩ ⟨xe, xl⟩
            unfold R2.v at hev
            rw [heb] at hev
            simp only at hev
            have HEB := Lib.hid heb
            have hC0 : Cells [(⟨b, off + j * 3, none⟩, .int .i64 ye), (⟨b, off + j * 3 + 1, none⟩, .int .i64 yl), (⟨b, off + i * 3, none⟩, .int .i64 xe), (⟨b, off + i * 3 + 1, none⟩, .int .i64 xl)] wr := ⟨p0, p1, x0, x1, trivial⟩
            have hiN : i < al.length := HIL.out
            clear hBj hne hj hji heb p0 p1 x0 x1 m0 m1 m2
            go_wp2_with fail
            refine wp_region_T (Cells [(⟨b, off + j * 3, none⟩, .int .i64 ye), (⟨b, off + j * 3 + 1, none⟩, .int .i64 yl), (⟨b, off + i * 3, none⟩, .int .i64 xe), (⟨b, off + i * 3 + 1, none⟩, .int .i64 xl)]) (fun _ => false) (by kernel_rfl) ?_
            have hSss1 := Cells.drew hC0
            have hB_0_s1 : Below wr.heap.size wr wr.drew := below_drew _
            generalize wr.drew = s1 at hSss1 hB_0_s1 ⊢
            have hB_s1_s1 := Below.refl s1.heap.size s1
            refine wpAnyT_pure (i := 0) (v := ?_) rfl (by kernel_rfl) (by kernel_rfl) (by kernel_rfl) (fun _ _ _ h => h) (by rfl) ?_ ?_
            rotate_left
            · intro w; go_simp; try with_reducible rfl
            simp only [Act.put, rgA, rgB, rgC, rgD, rgE, rgF]
            refine wpAnyT_pure (i := 1) (v := ?_) rfl (by kernel_rfl) (by kernel_rfl) (by kernel_rfl) (fun _ _ _ h => h) (by rfl) ?_ ?_
            rotate_left
            · intro w; go_simp; try with_reducible rfl
            simp only [Act.put, rgA, rgB, rgC, rgD, rgE, rgF]
            refine wpAnyT_pure (i := 2) (v := ?_) rfl (by kernel_rfl) (by kernel_rfl) (by kernel_rfl) (fun _ _ _ h => h) (by rfl) ?_ ?_
            rotate_left
            · intro w; go_simp; try with_reducible rfl
            simp only [Act.put, rgA, rgB, rgC, rgD, rgE, rgF]
            refine wpAnyT_pure (i := 3) (v := ?_) rfl (by kernel_rfl) (by kernel_rfl) (by kernel_rfl) (fun _ _ _ h => h) (by rfl) ?_ ?_
            rotate_left
            · intro w; go_simp; try with_reducible rfl
            simp only [Act.put, rgA, rgB, rgC, rgD, rgE, rgF]
            refine wpAnyT_pure (i := 5) (v := ?_) rfl (by kernel_rfl) (by kernel_rfl) (by kernel_rfl) (fun _ _ _ h => h) (by rfl) ?_ ?_
            rotate_left
            · intro w; go_simp; try with_reducible rfl
            simp only [Act.put, rgA, rgB, rgC, rgD, rgE, rgF]
            refine wpAnyT_pure (i := 6) (v := ?_) rfl (by kernel_rfl) (by kernel_rfl) (by kernel_rfl) (fun _ _ _ h => h) (by rfl) ?_ ?_
            rotate_left
            · intro w; go_simp; try with_reducible rfl
            simp only [Act.put, rgA, rgB, rgC, rgD, rgE, rgF]
            refine wpAnyT_pure (i := 7) (v := ?_) rfl (by kernel_rfl) (by kernel_rfl) (by kernel_rfl) (fun _ _ _ h => h) (by rfl) ?_ ?_
            rotate_left
            · intro w; go_simp; try with_reducible rfl
            simp only [Act.put, rgA, rgB, rgC, rgD, rgE, rgF]
            refine wpAnyT_pure (i := 8) (v := ?_) rfl (by kernel_rfl) (by kernel_rfl) (by kernel_rfl) (fun _ _ _ h => h) (by rfl) ?_ ?_
            rotate_left
            · intro w; go_simp; try with_reducible rfl
            simp only [Act.put, rgA, rgB, rgC, rgD, rgE, rgF]
            refine wpAnyT_loadW (i := 4) (v := ?_) rfl (by kernel_rfl) (by kernel_rfl) (by kernel_rfl) (by kernel_rfl) (by kernel_rfl) (fun _ _ _ h => h) (Or.inl ⟨by rfl, ?_⟩) hSss1 ?_
            rotate_left
            · intro w hSw; obtain ⟨e0, e1, e2, e3, -⟩ := hSw; go_simp; try with_reducible rfl
            simp only [Act.put, rgA, rgB, rgC, rgD, rgE, rgF]
            refine wpAnyT_loadW (i := 9) (v := ?_) rfl (by kernel_rfl) (by kernel_rfl) (by kernel_rfl) (by kernel_rfl) (by kernel_rfl) (fun _ _ _ h => h) (Or.inl ⟨by rfl, ?_⟩) hSss1 ?_
            rotate_left
            · intro w hSw; obtain ⟨e0, e1, e2, e3, -⟩ := hSw; go_simp; try with_reducible rfl
            simp only [Act.put, rgA, rgB, rgC, rgD, rgE, rgF]
            refine wpAnyT_pure (i := 10) (v := ?_) rfl (by kernel_rfl) (by kernel_rfl) (by kernel_rfl) (fun _ _ _ h => h) (by rfl) ?_ ?_
            rotate_left
            · intro w; go_simp; try with_reducible rfl
            simp only [Act.put, rgA, rgB, rgC, rgD, rgE, rgF]
            refine wpAnyT_done (by kernel_rfl) ?_ _
            obtain ⟨wE, rfl⟩ : ∃ q, q = s1 := ⟨_, rfl⟩
            have HBE := Lib.hid (below_step HBJ.out hB_0_s1)
            cases eb with
            | true =>
              have HF := Lib.hid (show lb = false from HBAD1.out (by have h := of_decide_eq_true HEB.out; have h2 := HMJ.out; rw [h] at h2; exact h2))
              go_wp2_with fail
              go_ret
              exact ⟨by rw [HF.out]; rfl, below_step HBW.out HBE.out⟩
            | false =>
              go_wp2_with fail
              go_roundw
              case rel =>
                refine ⟨j + 1, HJI.out, by go_num, ?_, HBE.out⟩
                intro z hz
                rw [HTJ.out] at hz
                rcases List.mem_append.1 hz with hz | hz
                · exact HNE.out z hz
                · rw [List.mem_singleton.1 hz]; exact of_decide_eq_false HEB.out
              case measure => have := HJI.out; simp [intOf]; try omega
          · obtain rfl : j = i := by omega
            have hjI : ¬ (j : Int) < (j : Int) := by omega
            clear hBj hj hji hne m0 m1 m2
            go_wp2_with fail
            go_roundw
            case rel =>
              refine ⟨j + 1, HIL.out, by go_num, ?_, ?_, below_step HB.out HBJ.out⟩
              · rw [HTK.out, List.map_append, List.map_cons, List.map_nil, nodup_snoc]
                refine ⟨HND.out, fun hm => ?_⟩
                obtain ⟨y, hy, he⟩ := List.mem_map.1 hm
                exact HNE.out y hy he
              · rw [HTK.out, List.all_append, HALL.out]
                simp [HAM.out]
            case measure => have := HIL.out; simp [intOf]; try omega
    · obtain rfl : i = al.length := by omega
      have hiI : ¬ ((al.length : Nat) : Int) < (al.length : Int) := by omega
      have h1 : (l.length : Int) ≤ 60 := by have := HLL.out; omega
      have h2 : (r.length : Int) ≤ 60 := by have := HLL.out; omega
      have HT := Lib.hid (show lb = true from by
        rw [List.take_length] at hnd hall
        rw [HLB2.out, decide_eq_true hnd, hall]; rfl)
      clear hB hil hi hnd hall
      go_wp2_with fail
      go_ret
      exact ⟨by rw [HT.out]; rfl, HBW.out⟩
end Go.Proofs.Ytpobckedeffjmaa
