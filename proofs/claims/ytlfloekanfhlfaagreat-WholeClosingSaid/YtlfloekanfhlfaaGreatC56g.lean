/- Layer 56: Open. -/
import Derived.Test.YtlfloekanfhlfaaGreatC56f
import Derived.Deep.LoopGhost
namespace Go.Proofs.YtlfloekanfhlfaaGreat
open Go.RowKit Go

theorem openG_nil (k : Nat) (h : Int) : openG k h [] = ([], 0, 0) := by cases k <;> rfl
theorem openG_bad (k : Nat) (h : Int) (xs : List Int) (hn : xs ≠ []) (hk : xs.length ≤ k) (hc : chkP xs ≠ 0) : openG k h xs = ([], 0, chkP xs) := by
  cases k with
  | zero => exact absurd (List.eq_nil_of_length_eq_zero (by omega)) hn
  | succ k => rw [openG, if_neg hn, if_pos hc]
theorem openG_sum (k : Nat) (h : Int) (xs : List Int) (hn : xs ≠ []) (hc : chkP xs = 0) (hl : (lnkP xs : Int) ≠ nextI h (recP xs)) : openG (k + 1) h xs = ([], 0, 5) := by
  rw [openG, if_neg hn, if_neg (by simpa using hc), if_pos hl]
theorem openG_next (k : Nat) (h : Int) (xs : List Int) (hn : xs ≠ []) (hc : chkP xs = 0) (hl : (lnkP xs : Int) = nextI h (recP xs)) :
    openG (k + 1) h xs = (recP xs :: (openG k (nextI h (recP xs)) (xs.drop (16 + (recP xs).length))).1, 16 + (recP xs).length + (openG k (nextI h (recP xs)) (xs.drop (16 + (recP xs).length))).2.1, (openG k (nextI h (recP xs)) (xs.drop (16 + (recP xs).length))).2.2) := by
  rw [openG, if_neg hn, if_neg (by simpa using hc), if_neg (by simpa using hl)]
theorem headI_snoc (rs : List (List Int)) (r : List Int) : headI (rs ++ [r]) = nextI (headI rs) r := by simp [headI]

def comb (rs : List (List Int)) (u : Nat) (r : List (List Int) × Nat × Int) : List (List Int) × Nat × Int := (rs ++ r.1, u + r.2.1, r.2.2)
/-- What the loop of Open goes by. -/
def OpRel (w : World) (p q : Nat) (x0 : List (List Int) × Nat × Int) (k : Nat) (h r ok : Value) (wr : World) : Prop :=
  ∃ (rs : List (List Int)) (F : Nat → Prop) (A : Option Addr) (l c u : Nat) (xs : List Int), xs.length = l ∧ l ≤ k ∧ u + l ≤ 16000 ∧ 16 * rs.length ≤ u ∧ x0 = comb rs u (openG k (headI rs) xs) ∧
    LogIn F wr p rs ∧ (∀ b, F b → w.heap.size ≤ b ∧ b ≠ q) ∧ wr.heap[q]? = some (.cells #[.slice A l c, .int .i64 u, .int .i64 (if xs = [] then 0 else chkP xs)] 111 (0, 0)) ∧
    Rd rowT (fun b => b < w.heap.size) wr [.slice A l c] xs ∧ Below w.heap.size w wr ∧
    FrOut (fun b => b < w.heap.size) wr xs h r ok
def OpPost (w : World) (x0 : List (List Int) × Nat × Int) (e : Ending) (w' : World) : Prop :=
  ∃ p F, e = .returned (.tuple #[.pointer (some ⟨p, 0, none⟩), .int .i64 x0.2.1, .int .i64 x0.2.2]) ∧ LogIn F w' p x0.1 ∧ (∀ b, F b → w.heap.size ≤ b) ∧ Below w.heap.size w w'

theorem strEqB (xs ys : List Int) (hx : okB xs) (hy : okB ys) : ((strOfNums xs).toList == (strOfNums ys).toList) = decide (xs = ys) := by
  rw [ByteArray.toList_eq, ByteArray.toList_eq]
  by_cases h : xs = ys
  · subst h; simp
  · rw [decide_eq_false h]
    refine beq_false_of_ne (fun e => h (strOfNums_inj hx hy ?_))
    exact ByteArray.ext (Array.ext' e)
theorem text_ext (n : Nat) (h : n < 9) : (ByteArray.mk #[84, 65, 76, 76, 89, 76, 79, 71]).extract 0 n = strOfNums (textI.take n) := by
  match n, h with
  | 0, _ | 1, _ | 2, _ | 3, _ | 4, _ | 5, _ | 6, _ | 7, _ | 8, _ => decide

set_option maxHeartbeats 1000000 in
theorem open_short (w : World) (a : Option Addr) (len cap : Nat) (xs : List Int) (hx : Rd rowT (fun b => b < w.heap.size) w [.slice a len cap] xs) (hlen : len < 8) :
    Calls Tryz.prog 14 #[.slice a len cap] w (OpPost w (openI xs)) := by
  have hE : openI xs = if xs = textI.take xs.length then ([], 0, 19) else ([], 0, 4) := by
    unfold openI
    rw [if_pos (by have := hx.ints.1; omega)]
  obtain ⟨hl, hc, hm, -⟩ := hx.ints
  rw [hl] at hE
  have hq := strEqB xs (textI.take len) hx.okB (okB_take textI_ok _)
  have hte := text_ext len (by omega)
  have HX := Lib.hid hx
  clear hx hl
  have hd : decide ((len : Int) < 8) = true := by simp; omega
  have hli : (len : Int) < 8 := by omega
  have hl0 : (0 : Int) ≤ (len : Int) := by omega
  obtain ⟨T, hT⟩ : ∃ T, strOfNums (textI.take len) = T := ⟨_, rfl⟩
  rw [hT] at hq hte
  by_cases hxt : xs = textI.take len
  all_goals
    first | rw [if_pos hxt] at hE | rw [if_neg hxt] at hE
    rw [hE]
    first | rw [decide_eq_true hxt] at hq | rw [decide_eq_false hxt] at hq
    clear hxt hE hT
    go_enter Tryz.func14, Tryz.ntmps14
    go_wp2_with (go_at_call 11; refine (new_sum _).mono ?_; rintro e w1 ⟨rfl, hL, hB⟩; have HL := Lib.hid hL; clear hL; have hcv := fun n => Rd.conv (P := Tryz.prog) (w := w1.drewN n) (HX.out.below hB (fun _ h => h)) Tryz.underlying49 Tryz.underlying5 Tryz.underlying9)
    go_quiet (fail)
    go_wp2
    go_ret3
    exact ⟨w.heap.size, _, rfl, HL.out.below (below_drewN (Below.refl _ _) _), fun b hb => by rw [hb]; exact Nat.le_refl _, below_drewN hB _⟩

set_option maxHeartbeats 1000000 in
theorem open_form (w : World) (a : Option Addr) (len cap : Nat) (xs : List Int) (hx : Rd rowT (fun b => b < w.heap.size) w [.slice a len cap] xs) (hlen : 8 ≤ len) (hf : xs.take 8 ≠ textI) :
    Calls Tryz.prog 14 #[.slice a len cap] w (OpPost w (openI xs)) := by
  have hE : openI xs = ([], 0, 4) := by
    unfold openI
    rw [if_neg (by have := hx.ints.1; omega), if_pos hf]
  rw [hE]
  obtain ⟨hl, hc, hm, -⟩ := hx.ints
  have hq := strEqB (xs.take 8) textI (okB_take hx.okB _) textI_ok
  rw [decide_eq_false hf] at hq
  have hte : (strOfNums textI).toList = [84, 65, 76, 76, 89, 76, 79, 71] := by rw [ByteArray.toList_eq]; rfl
  rw [hte] at hq
  have HX := Lib.hid (Rd.take hx 8 hlen)
  clear hx hl hE hf hte
  have hd : decide ((len : Int) < 8) = false := by simp; omega
  have hli : ¬ (len : Int) < 8 := by omega
  go_enter Tryz.func14, Tryz.ntmps14
  go_wp2_with (go_at_call 11; refine (new_sum _).mono ?_; rintro e w1 ⟨rfl, hL, hB⟩; have HL := Lib.hid hL; clear hL; have hcv := fun n => Rd.conv (P := Tryz.prog) (w := w1.drewN n) (HX.out.below hB (fun _ h => h)) Tryz.underlying49 Tryz.underlying5 Tryz.underlying9)
  go_quiet (fail)
  go_wp2
  go_ret3
  exact ⟨w.heap.size, _, rfl, HL.out.below (below_drewN (Below.refl _ _) _), fun b hb => by rw [hb]; exact Nat.le_refl _, below_drewN hB _⟩

theorem blk_alloc_lt {w : World} {o : Obj} {b : Nat} (h : b < w.heap.size) : (w.alloc o).heap[b]? = w.heap[b]? := heap_alloc_old w o h

set_option maxHeartbeats 4000000 in
theorem open_ok (w : World) (a : Option Addr) (len cap : Nat) (xs : List Int) (hx : Rd rowT (fun b => b < w.heap.size) w [.slice a len cap] xs) (hlen : 8 ≤ len) (hmx : len ≤ 16000) (hf : xs.take 8 = textI) :
    Calls Tryz.prog 14 #[.slice a len cap] w (OpPost w (openI xs)) := by
  obtain ⟨hl, hc, hm, hat, -⟩ := hx.ints
  obtain ⟨x0, hx0⟩ : ∃ x, openI xs = x := ⟨_, rfl⟩
  have hE : x0 = comb [] 8 (openG len (headI []) (xs.drop 8)) := by
    rw [← hx0]
    unfold openI comb
    rw [if_neg (by omega), if_neg (by rw [hf]; simp), hl]
    rfl
  rw [hx0]
  have hq := strEqB (xs.take 8) textI (okB_take hx.okB _) textI_ok
  rw [decide_eq_true hf] at hq
  have hte : (strOfNums textI).toList = [84, 65, 76, 76, 89, 76, 79, 71] := by rw [ByteArray.toList_eq]; rfl
  rw [hte] at hq
  obtain ⟨b0, off0, rfl, -⟩ := hat 0 (by omega)
  have hd8 := Rd.drop hx 8 hlen
  simp only [Ty.sz, Nat.mul_one, Option.map_some, Addr.add_none] at hd8
  obtain ⟨A0, hA0⟩ : ∃ A, (if cap = 8 then some (⟨b0, off0, none⟩ : Addr) else some ⟨b0, off0 + 8, none⟩) = A := ⟨_, rfl⟩
  rw [hA0] at hd8
  have HX8 := Lib.hid hd8
  have hl8 : (xs.drop 8).length = len - 8 := by rw [List.length_drop, hl]
  have HL8 := Lib.hid hl8
  have HE := Lib.hid hE
  have HX := Lib.hid (Rd.take hx 8 hlen)
  clear hx hl hE hf hte hat hd8 hl8 hx0
  have hd : decide ((len : Int) < 8) = false := by simp; omega
  have hli : ¬ (len : Int) < 8 := by omega
  go_enter Tryz.func14, Tryz.ntmps14
  go_wp2_with (go_at_call 11; refine (new_sum _).mono ?_; rintro e w1 ⟨rfl, hL, hB⟩; have HL := Lib.hid hL; clear hL; have hcv := fun n => Rd.conv (P := Tryz.prog) (w := w1.drewN n) (HX.out.below hB (fun _ h => h)) Tryz.underlying49 Tryz.underlying5 Tryz.underlying9)
  go_quiet (fail)
  go_wp2_with fail
  have hbn := below_drewN hB nq
  have hLn := HL.out.below (below_drewN (Below.refl _ w1) nq)
  have HX9 := Lib.hid (HX8.out.below hbn (fun _ h => h))
  have hsz : w.heap.size < w1.heap.size := HL.out.1 _ rfl
  have hWs : (w1.drewN nq).heap.size = w1.heap.size := rfl
  generalize w1.drewN nq = W at hbn hLn HX9 hWs ⊢
  rw [← hWs] at hsz ⊢
  clear hWs hcv HL HX
  have hB2 : Below w.heap.size w (W.alloc (.cells #[.slice A0 (len - 8) (cap - 8), .int .i64 8, .int .i64 0] 111)) := hbn.alloc (by omega) _
  have hL2 := hLn.below ((Below.refl W.heap.size W).alloc (Nat.le_refl _) (.cells #[.slice A0 (len - 8) (cap - 8), .int .i64 8, .int .i64 0] 111))
  refine (frame_sl (fun b => b < w.heap.size) _ W.heap.size A0 (len - 8) (cap - 8) 8 (xs.drop 8) (HX9.out.below ((Below.refl W.heap.size W).alloc (Nat.le_refl _) _) (fun b hb => by omega)) (fun b hb => by simp; omega) (by omega) (heap_alloc_new W _)).mono ?_
  rintro e w2 ⟨h, r, ok, rfl, hG, hh, ho⟩
  have hrel : OpRel w w.heap.size W.heap.size x0 len h r ok w2 := by
    refine ⟨[], (fun b => b = w.heap.size), A0, len - 8, cap - 8, 8, xs.drop 8, HL8.out, by omega, by omega, by simp, HE.out, ?_, ?_, hh, ?_, ?_, ho⟩
    · exact hL2.gr hG (fun b hb => by rw [hb]; omega)
    · intro b hb; rw [hb]; exact ⟨Nat.le_refl _, by omega⟩
    · exact (HX8.out.below hB2 (fun _ h => h)).gr hG (fun b hb => ⟨by simp; omega, by omega⟩) (fun _ h => h)
    · exact hB2.trans (hG.below (fun b hb => by rw [hb]; omega) (by simp; omega))
  have HREL := Lib.hid hrel
  clear hrel hG hh ho hB2 hL2 HX9 HX8 HL8 HE hbn hLn
  obtain ⟨q, hq'⟩ : ∃ q, W.heap.size = q := ⟨_, rfl⟩
  rw [hq'] at HREL hsz ⊢
  clear hq'
  go_wp2_with fail
  clear hm hc hlen hmx hd hli hq hA0
  go_loopg [7, 8, 9] len (fun k h r ok wr => OpRel w w.heap.size q x0 k h r ok wr)
  case atStart => exact HREL.out
  case round =>
    clear HREL
    obtain ⟨rs, F, A, l, c, u, ys, hyl, hlk, hul, hru, hx0, hL, hF, hqq, hrd, hB, ho⟩ := hrel
    have hqw : q < wr.heap.size := blk_lt hqq
    have c1q := blk_cell hqq 1
    have c2q := blk_cell hqq 2
    have f2q := blk_frozen hqq 2
    rcases ho with ⟨hbad, rfl, rfl, rfl⟩ | ⟨hck, hyn, a2, c2, rfl, rfl, rfl, hrr⟩
    · have hfin : x0 = (rs, u, if ys = [] then 0 else chkP ys) := by
        rw [hx0]
        by_cases hn : ys = []
        · rw [hn, openG_nil, if_pos rfl]; simp [comb]
        · rw [openG_bad _ _ _ hn (by omega) (by rcases hbad with h | h; exact absurd h hn; exact h), if_neg hn]; simp [comb]
      have HFIN := Lib.hid hfin
      have HLO := Lib.hid hL
      have HFF := Lib.hid hF
      have HBB := Lib.hid hB
      obtain ⟨ev, hev⟩ : ∃ ev, (if ys = [] then 0 else chkP ys) = ev := ⟨_, rfl⟩
      rw [hev] at c2q HFIN
      clear hfin hL hF hB hrd hqq hx0 hbad hyl hlk hev f2q
      go_wp2
      go_quiet (fail)
      go_wp2
      go_ret3
      rw [HFIN.out]
      exact ⟨w.heap.size, F, rfl, HLO.out.below (below_drewN (Below.refl _ _) _), fun b hb => (HFF.out b hb).1, below_drewN HBB.out _⟩
    · have hlen2 := chkP_len hck
      obtain ⟨hm1, hm2, hm3, -, hm4⟩ := hlen2
      cases gk with
      | zero => omega
      | succ k' =>
      obtain ⟨s1, cc1, s2, cc2, lk0, -, -, -, -, -⟩ := hL.open_
      have hws := hB.size
      have hrs : rs.length ≤ 1000 := by omega
      have HRS := Lib.hid (And.intro hlk (And.intro hul hru))
      have HYL := Lib.hid hyl
      have HL0 := Lib.hid hL
      have HF0 := Lib.hid hF
      have HQ0 := Lib.hid hqq
      have HRD := Lib.hid hrd
      have HRR := Lib.hid hrr
      have HB0 := Lib.hid hB
      have HX0 := Lib.hid hx0
      have HCK := Lib.hid hck
      have HYN := Lib.hid hyn
      have HM4 := Lib.hid hm4
      have hm5 : 16 + sizeP ys ≤ l := by omega
      obtain ⟨m, hmm⟩ : ∃ m, sizeP ys = m := ⟨_, rfl⟩
      rw [hmm] at HRR HM4 hm3 hm5 ⊢
      obtain ⟨lk, hlkk⟩ : ∃ lk, (lnkP ys : Int) = lk := ⟨_, rfl⟩
      have HLK := Lib.hid hlkk
      rw [hlkk]
      clear hm1 hm2 hm4 hyl hlk hul hru hx0 hL hF hqq hrd hB hck hyn hrr hmm hlkk c1q
      by_cases hlne : lk = nextI (headI rs) (recP ys)
      case neg =>
        have hbq : (lk != nextI (headI rs) (recP ys)) = true := by simpa using hlne
        have HFIN : Hid (x0 = (rs, u, 5)) := Lib.hid (by rw [HX0.out, openG_sum _ _ _ HYN.out HCK.out (by rw [HLK.out]; exact hlne)]; simp [comb])
        obtain ⟨nx, hnx⟩ : ∃ nx, nextI (headI rs) (recP ys) = nx := ⟨_, rfl⟩
        rw [hnx] at hbq
        have HNX := Lib.hid hnx
        clear hlne hnx
        go_wp2_with (first
          | (go_at_call 34; refine (head_sum F _ w.heap.size rs.length rs HL0.out (Nat.le_refl _)).mono ?_; rw [List.take_length]; rintro e w3 ⟨rfl, hw⟩; subst w3)
          | (go_at_call 33; refine (Next_any _ _ _ _ _ _ (fun b hb => Nat.lt_of_lt_of_le hb hws) HRR.out).mono ?_; rw [HNX.out]; rintro e w3 ⟨rfl, hB3⟩; have q3 := (hB3.block q hqw).trans HQ0.out; have c2q3 := blk_cell q3 2; have f2q3 := blk_frozen q3 2; have q4 := blk_set (i := 2) q3 (.int .i64 5); have c1q4 := blk_cell q4 1; have c2q4 := blk_cell q4 2))
        go_quiet (fail)
        go_wp2
        go_ret3
        rw [HFIN.out]
        have hg5 : Gr (fun b => b = q) w3 (w3.setCell ⟨q, 2, none⟩ (.int .i64 5)) := (Gr.refl (fun b => b = q) w3).setCell (p := ⟨q, 2, none⟩) (.inl rfl) _
        exact ⟨w.heap.size, F, rfl, ((HL0.out.below hB3).gr hg5 (fun b hb => (HF0.out b hb).2)).below (below_drewN (Below.refl _ _) _), fun b hb => (HF0.out b hb).1, below_drewN ((below_step HB0.out hB3).trans (hg5.below (fun b hb => by rw [hb]; omega) (by have := hB3.size; omega))) _⟩
      case pos =>
        have hbq : (lk != nextI (headI rs) (recP ys)) = false := by simpa using hlne
        have hstep : x0 = comb (rs ++ [recP ys]) (u + (16 + m)) (openG k' (headI (rs ++ [recP ys])) (ys.drop (16 + m))) := by
          rw [HX0.out, openG_next _ _ _ HYN.out HCK.out (by rw [HLK.out]; exact hlne), HM4.out, headI_snoc]
          simp [comb, Nat.add_assoc]
        have HST := Lib.hid hstep
        obtain ⟨nx, hnx⟩ : ∃ nx, nextI (headI rs) (recP ys) = nx := ⟨_, rfl⟩
        rw [hnx] at hbq
        have HNX := Lib.hid hnx
        have hmle : m ≤ 65536 := hm3
        have hlle : l ≤ 16000 := by have := HRS.out.2.1; omega
        have hule : u ≤ 16000 := by have := HRS.out.2.1; omega
        clear hlne hnx hstep c2q f2q
        go_wp2_with (first
          | (go_at_call 34; refine (head_sum F _ w.heap.size rs.length rs HL0.out (Nat.le_refl _)).mono ?_; rw [List.take_length]; rintro e w3 ⟨rfl, hw⟩; subst w3)
          | (go_at_call 33; refine (Next_any _ _ _ _ _ _ (fun b hb => Nat.lt_of_lt_of_le hb hws) HRR.out).mono ?_; rw [HNX.out]; rintro e w3 ⟨rfl, hB3⟩; have hws3 := hB3.size)
          | (go_at_call 31; refine (add_sum F (fun b => b < w.heap.size) _ w.heap.size rs (HL0.out.below hB3) a2 m c2 (recP ys) (HRR.out.below hB3 (fun b hb => Nat.lt_of_lt_of_le hb hws)) (fun b hb => ⟨by omega, fun hf => by have := (HF0.out b hf).1; omega⟩) hmle hrs).mono ?_; rintro e w4 ⟨⟨v4, rfl⟩, F4, hL4, hF4, hG4⟩; have HL4 := Lib.hid hL4; have HF4 := Lib.hid hF4; have HG4 := Lib.hid hG4; clear hL4 hF4 hG4)
          | (go_at_call 35; refine (skip_sum (fun b => b < w.heap.size) _ q A l c u 0 ys (((HRD.out.below hB3 (fun b hb => Nat.lt_of_lt_of_le hb hws))).gr HG4.out (fun b hb => ⟨by omega, fun hf => by have := (HF0.out b hf).1; omega⟩) (fun _ h => h)) (by omega) (by omega) (fun b hb => ⟨by have := HG4.out.size; omega, by omega⟩) (blk_gr HG4.out ((hB3.block q hqw).trans (by rw [HQ0.out, if_neg HYN.out, HCK.out])) (fun hf => (HF0.out q hf).2 rfl)) _ m _ hm5).mono ?_; rintro e w5 ⟨⟨v5, rfl⟩, A5, hq5, hr5, hG5⟩; have HQ5 := Lib.hid hq5; have HR5 := Lib.hid hr5; have HG5 := Lib.hid hG5; clear hq5 hr5 hG5)
          | (go_at_call 32; refine (frame_sl (fun b => b < w.heap.size) _ q A5 (l - (16 + m)) (c - (16 + m)) ((u + (16 + m) : Nat) : Int) (ys.drop (16 + m)) HR5.out (fun b hb => by have := HG4.out.size; have := HG5.out.size; omega) (by omega) HQ5.out).mono ?_; rintro e w6 ⟨h6, r6, ok6, rfl, hG6, hh6, ho6⟩; have HG6 := Lib.hid hG6; have HH6 := Lib.hid hh6; have HO6 := Lib.hid ho6; clear hG6 hh6 ho6))
        go_roundg k'
        case measure => omega
        case rel =>
          have hs3 := hB3.size
          have hs4 := HG4.out.size
          have hs5 := HG5.out.size
          have hFn : ∀ b, F4 b → w.heap.size ≤ b ∧ b ≠ q := fun b hb => by
            rcases HF4.out b hb with h | h
            · exact HF0.out b h
            · omega
          have hL6 : LogIn F4 w6 w.heap.size (rs ++ [recP ys]) := (HL4.out.gr HG5.out (fun b hb => (hFn b hb).2)).gr HG6.out (fun b hb => (hFn b hb).2)
          have hB4 : Below w.heap.size w4 w4 := Below.refl _ _
          have hB6 : Below w.heap.size w w6 := (((below_step HB0.out hB3).trans (HG4.out.below (fun b hb => (HF0.out b hb).1) (by omega))).trans (HG5.out.below (fun b hb => by rw [hb]; omega) (by omega))).trans (HG6.out.below (fun b hb => by rw [hb]; omega) (by omega))
          refine ⟨rs ++ [recP ys], F4, A5, l - (16 + m), c - (16 + m), u + (16 + m), ys.drop (16 + m), by rw [List.length_drop, HYL.out], by have := HRS.out.1; omega, by have := HRS.out.2.1; omega, by have := HRS.out.2.2; rw [List.length_append, List.length_singleton]; omega, HST.out, hL6, hFn, HH6.out, ?_, hB6, HO6.out⟩
          exact HR5.out.gr HG6.out (fun b hb => ⟨by omega, by omega⟩) (fun _ h => h)

/-- Open: what is recovered. -/
theorem open_sum (w : World) (a : Option Addr) (len cap : Nat) (xs : List Int) (hx : Rd rowT (fun b => b < w.heap.size) w [.slice a len cap] xs) (hmx : len ≤ 16000) :
    Calls Tryz.prog 14 #[.slice a len cap] w (OpPost w (openI xs)) := by
  by_cases h8 : len < 8
  · exact open_short w a len cap xs hx h8
  · by_cases hf : xs.take 8 = textI
    · exact open_ok w a len cap xs hx (by omega) hmx hf
    · exact open_form w a len cap xs hx (by omega) hf
end Go.Proofs.YtlfloekanfhlfaaGreat
