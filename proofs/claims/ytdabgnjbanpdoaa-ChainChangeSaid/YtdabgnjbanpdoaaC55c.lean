/- Layer 55: the contracts of Collect, Links, Head, Verify: for every records (at most a million), nothing that was there is changed. -/
import Derived.Test.YtdabgnjbanpdoaaC55b
namespace Go.Proofs.Ytdabgnjbanpdoaa
open Go.RowKit Go Go.Shelf
attribute [local go_sem] Oper.semAt_some

set_option maxHeartbeats 400000 in
theorem Collect_any (Bs n₀ len cap : Nat) (a : Option Addr) (rs : List (List Int)) (w : World) (hn₀ : n₀ ≤ w.heap.size) (hr : rs.length ≤ 1000000)
    (hBs : w.cell? ⟨Bs, 0, none⟩ = some (.slice a len cap)) (hR : Rd (.sl (.sl (.int .u8))) (fun b => b < n₀) w [.slice a len cap] rs) :
    Calls Try.prog 23 #[.func (.func 28) #[] #[.pointer (some ⟨Bs, 0, none⟩)]] w fun e w' =>
      ∃ v, e = .returned v ∧ Owns (.int .u64) 29 w.heap.size (fun _ => False) w' v (linksI rs) ∧ Below w.heap.size w w' := by
  have HR := Lib.hid hR
  have HBs := Lib.hid hBs
  clear hR hBs
  go_enter Try.func23, Try.ntmps23
  go_wp2_with (go_at_call 29; refine (AppendSeq_any _ _ _ _ _ _ _ hn₀ hr HBs.out HR.out).mono ?_; rintro e w' ⟨v, rfl, hO, hB⟩)
  obtain ⟨av, lv, capv, rfl, hl, _⟩ := hO.slice
  go_ret
  exact ⟨_, rfl, hO, hB⟩

set_option maxHeartbeats 400000 in
theorem Links_any (a : Option Addr) (len cap : Nat) (rs : List (List Int)) (w : World) (hr : rs.length ≤ 1000000)
    (hR : Rd (.sl (.sl (.int .u8))) (fun b => b < w.heap.size) w [.slice a len cap] rs) :
    Calls Try.prog 13 #[.slice a len cap] w fun e w' =>
      ∃ v, e = .returned v ∧ Owns (.int .u64) 29 w.heap.size (fun _ => False) w' v (linksI rs) ∧ Below w.heap.size w w' := by
  have HR := Lib.hid hR
  clear hR
  have hB0 : Below w.heap.size w (w.alloc (.cells #[.slice a len cap] 23)) := (Below.refl _ w).alloc (Nat.le_refl _) _
  have hbx := Boxed.new w 23 (.slice a len cap)
  go_enter Try.func13, Try.ntmps13
  go_wp2_with fail
  refine (links_any _ _ _ _).mono ?_
  rintro e w' ⟨rfl, rfl⟩
  go_wp2_with fail
  refine (Collect_any _ w.heap.size _ _ _ _ _ (by simp) hr hbx.cell (HR.out.below hB0 (fun _ h => h))).mono ?_
  rintro e w' ⟨v, rfl, hO, hB⟩
  go_wp2
  obtain ⟨av, lv, capv, rfl, hl, _⟩ := hO.slice
  go_ret
  exact ⟨_, rfl, hO.base (by simp), hB0.trans (hB.mono (by simp))⟩

def lastU (l : List U64) : Int := (l.map (·.1)).getLast?.getD 29793
theorem lastU_snoc (l : List U64) (x : U64) : lastU (l ++ [x]) = x.1 := by simp [lastU]
theorem lastU_links (rs : List (List Int)) : lastU (linksU rs rs.length) = headI rs := by
  cases h : rs.length with
  | zero => have : rs = [] := List.eq_nil_of_length_eq_zero h; subst this; rfl
  | succ n => rw [linksU_succ, lastU_snoc]; simp [linkU, ← h]

set_option maxRecDepth 100000 in
set_option maxHeartbeats 2000000 in
theorem Head_any (a : Option Addr) (len cap : Nat) (rs : List (List Int)) (w : World)
    (hR : Rd (.sl (.sl (.int .u8))) (fun b => b < w.heap.size) w [.slice a len cap] rs) :
    Calls Try.prog 20 #[.slice a len cap] w fun e w' => e = .returned (.int .u64 (headI rs)) ∧ Below w.heap.size w w' := by
  refine (callsIn_wide (n := 9)).1 ?_
  refine callsIn_of_wp_marks Try.func20 rfl trivial ?_ rfl
  simp only [Try.ntmps20, List.size_toArray, List.length_cons, List.length_nil, Nat.reduceAdd, Nat.reduceSub, Array.replicate_succ, Array.replicate_zero, List.push_toArray, List.append_toArray, List.nil_append, List.cons_append]
  have HR := Lib.hid hR
  clear hR
  gi_wp2_with fail
  refine call_w ((links_any _ _ _ _).mono ?_)
  rintro e w' ⟨rfl, rfl⟩
  gi_wp2
  have bS := (Boxed.new w 29 (.int .u64 29793)).alloc (.cells #[.slice a len cap] 23)
  have bL := Boxed.new (w.alloc (.cells #[.int .u64 29793] 29)) 23 (.slice a len cap)
  rw [World.size_alloc] at bL
  have hB0 : Below w.heap.size w ((w.alloc (.cells #[.int .u64 29793] 29)).alloc (.cells #[.slice a len cap] 23)) := ((Below.refl _ w).alloc (Nat.le_refl _) _).alloc (by simp) _
  refine wpIn_rangeFunc_ownF rfl (by omega) (gf := 28) (lb := #[.pointer (some ⟨w.heap.size + 1, 0, none⟩)]) rfl trivial (enters_of Try.func28 (by kernel_rfl) rfl)
    (links_stops (9 - 1) _ w.heap.size len cap a rs _ (by simp; omega) bL.cell (HR.out.below hB0 (fun _ h => h))) belowK_t (belowK_b (by simp; omega)) (Below.refl _ _) (fun _ => rfl)
    (fun pre W => Boxed W w.heap.size 29 (.int .u64 (lastU pre)) ∧ Below w.heap.size w W) (fun _ _ _ => False)
    (OwnFrom.and (Own.from (boxed_own _ _ _) _) (ownFrom_below (Nat.le_refl _) (by simp; omega))) (fun _ _ _ _ _ hs _ _ => hs)
    ⟨bS, hB0⟩
    (fun x => { tmps := #[.slice a len cap, undef, .int .u64 0, .pointer (some ⟨w.heap.size, 0, none⟩), .int .u64 x.1, .slice a len cap, .func (.func 28) #[] #[.pointer (some ⟨w.heap.size + 1, 0, none⟩)], .int .u64 x.1, undef, undef], defers := [] }) ?assign ?body ?done ?stop
  case assign =>
    intro l x W K hK
    gi_wp2
    exact hK
  case body =>
    rintro l pre x W ⟨hv, hB⟩ hlen
    have hc := hv.cell
    have hf := hv.frozen
    gi_wp2
    refine ⟨KeepsOthers.setCell _ _ _, (Below.refl _ W).setCell (p := ⟨w.heap.size, 0, none⟩) (Nat.le_refl _) _, ?_, hB.setCell (p := ⟨w.heap.size, 0, none⟩) (Nat.le_refl _) _⟩
    rw [lastU_snoc]
    exact hv.set _
  case done =>
    rintro D ys W hD rfl ⟨hv, hB⟩ hK
    have hc := hv.cell
    gi_wp2
    refine ⟨by simp, .inl ⟨_, _, rfl, run_takeDeferred hK, ?_⟩⟩
    refine ⟨_, results_tmp rfl _ _ _, ?_, hB.trans (belowK_b (w := w) (Nat.le_refl _) W D _ _ (by simp at hD; omega) hK rfl rfl)⟩
    exact ret_int (lastU_links rs)
  case stop =>
    rintro D c pre W _ _ h _
    exact h.elim

/-- How many links are right. -/
def matchN : List Int → List Int → Nat
  | a :: p, b :: q => if a = b then matchN p q + 1 else 0
  | _, _ => 0
theorem matchN_prefix : ∀ (p l : List Int), p <+: l → matchN l p = p.length
  | [], l, _ => by cases l <;> rfl
  | a :: p, [], h => by simp at h
  | a :: p, b :: l, h => by
    rw [List.cons_prefix_cons] at h
    obtain ⟨rfl, h⟩ := h
    simp [matchN, matchN_prefix p l h]
theorem matchN_stop : ∀ (p l r : List Int) (x : Int), p <+: l → (l.length ≤ p.length ∨ l[p.length]?.getD 0 ≠ x ∧ p.length < l.length) → matchN l (p ++ x :: r) = p.length
  | [], [], r, x, _, h => rfl
  | [], b :: l, r, x, _, h => by
    have : b ≠ x := by simpa using h
    simp [matchN, this]
  | a :: p, [], r, x, h, _ => by simp at h
  | a :: p, b :: l, r, x, h, hs => by
    rw [List.cons_prefix_cons] at h
    obtain ⟨rfl, h⟩ := h
    have := matchN_stop p l r x h (by simpa using hs)
    simp [matchN, this]

set_option maxRecDepth 100000 in
set_option maxHeartbeats 2000000 in
theorem Verify_any (al : Option Addr) (ll cl : Nat) (ls : List Int) (a : Option Addr) (len cap : Nat) (rs : List (List Int)) (w : World)
    (hl : Rd (.sl (.int .u64)) (fun b => b < w.heap.size) w [.slice al ll cl] ls)
    (hR : Rd (.sl (.sl (.int .u8))) (fun b => b < w.heap.size) w [.slice a len cap] rs) :
    Calls Try.prog 11 #[.slice al ll cl, .slice a len cap] w fun e w' => e = .returned (.int .i64 (matchN ls (linksI rs))) ∧ Below w.heap.size w w' := by
  refine (callsIn_wide (n := 9)).1 ?_
  refine callsIn_of_wp_marks Try.func11 rfl trivial ?_ rfl
  simp only [Try.ntmps11, List.size_toArray, List.length_cons, List.length_nil, Nat.reduceAdd, Nat.reduceSub, Array.replicate_succ, Array.replicate_zero, List.push_toArray, List.append_toArray, List.nil_append, List.cons_append]
  have HR := Lib.hid hR
  have HL := Lib.hid hl
  clear hR hl
  gi_wp2_with fail
  refine call_w ((links_any _ _ _ _).mono ?_)
  rintro e w' ⟨rfl, rfl⟩
  gi_wp2
  obtain ⟨W0, hW0⟩ : ∃ W0, (((w.alloc (.cells #[.slice al ll cl] 22)).alloc (.cells #[.int .i64 0] 3)).alloc (.cells #[.slice a len cap] 23)) = W0 := ⟨_, rfl⟩
  have hsz : W0.heap.size = w.heap.size + 3 := by subst hW0; simp
  have b0 : Boxed W0 w.heap.size 22 (.slice al ll cl) := by subst hW0; exact ((Boxed.new w _ _).alloc _).alloc _
  have b1 : Boxed W0 (w.heap.size + 1) 3 (.int .i64 0) := by
    subst hW0
    have := (Boxed.new (w.alloc (.cells #[.slice al ll cl] 22)) 3 (.int .i64 0)).alloc (.cells #[.slice a len cap] 23)
    rwa [World.size_alloc] at this
  have b2 : Boxed W0 (w.heap.size + 1 + 1) 23 (.slice a len cap) := by
    subst hW0
    have := (Boxed.new ((w.alloc (.cells #[.slice al ll cl] 22)).alloc (.cells #[.int .i64 0] 3)) 23 (.slice a len cap))
    rwa [World.size_alloc, World.size_alloc] at this
  have hB0 : Below w.heap.size w W0 := by subst hW0; exact (((Below.refl _ w).alloc (Nat.le_refl _) _).alloc (by simp) _).alloc (by simp; omega) _
  rw [hW0]
  clear hW0
  obtain ⟨hl1, hl2, hl3, -, -⟩ := HL.out.ints
  refine wpIn_rangeFunc_ownF rfl (by omega) (gf := 28) (lb := #[.pointer (some ⟨w.heap.size + 1 + 1, 0, none⟩)]) rfl trivial (enters_of Try.func28 (by kernel_rfl) rfl)
    (links_stops (9 - 1) _ w.heap.size len cap a rs _ (by omega) b2.cell (HR.out.below hB0 (fun _ h => h))) belowK_t (belowK_b (by omega)) (Below.refl _ _) (fun _ => rfl)
    (fun pre W => (Boxed W w.heap.size 22 (.slice al ll cl) ∧ Boxed W (w.heap.size + 1) 3 (.int .i64 (pre.length : Nat)) ∧ Below w.heap.size w W) ∧ pre.map (·.1) <+: ls)
    (fun c pre W => (Boxed W (w.heap.size + 1) 3 (.int .i64 ((pre.length - 1 : Nat) : Int)) ∧ Below w.heap.size w W) ∧ (c = .exit 0 ∧ ∃ p x, pre = p ++ [x] ∧ p.map (·.1) <+: ls ∧ (ls.length ≤ p.length ∨ ls[p.length]?.getD 0 ≠ x.1 ∧ p.length < ls.length)))
    (OwnFrom.and (OwnFrom.and (Own.from (boxed_own _ _ _) _) (OwnFrom.and (Own.from (boxed_own _ _ _) _) (ownFrom_below (Nat.le_refl _) (by omega)))) (ownFrom_pure _ _))
    (fun c => OwnFrom.and (OwnFrom.and (Own.from (boxed_own _ _ _) _) (ownFrom_below (Nat.le_refl _) (by omega))) (ownFrom_pure _ _))
    ⟨⟨b0, b1, hB0⟩, by simp⟩
    (fun x => { tmps := #[.slice al ll cl, .slice a len cap, .pointer (some ⟨w.heap.size, 0, none⟩), undef, .int .i64 0, .pointer (some ⟨w.heap.size + 1, 0, none⟩), .int .u64 x.1, .slice a len cap, .func (.func 28) #[] #[.pointer (some ⟨w.heap.size + 1 + 1, 0, none⟩)], .int .u64 x.1, undef, undef, undef, undef, undef, undef, undef, undef, undef, undef, undef, undef, undef, undef, undef], defers := [] }) ?assign ?body ?done ?stop
  case assign =>
    intro l x W K hK
    gi_wp2
    exact hK
  case body =>
    rintro l pre x W ⟨⟨hv, hn, hB⟩, hp⟩ hlen
    have hc := hv.cell
    have hf := hv.frozen
    have hc1 := hn.cell
    have hf1 := hn.frozen
    have hpl : pre.length ≤ ll := by have := hp.length_le; simp at this; omega
    have HLs := Lib.hid hl1
    clear hl1
    have hlsw := HL.out.below hB (fun _ h => h)
    by_cases hlt : pre.length < ll
    · obtain ⟨-, -, -, hat, -⟩ := hlsw.ints
      obtain ⟨b, off, rfl, _, hcell⟩ := hat _ hlt
      clear hat hlsw
      by_cases heq : ls[pre.length]?.getD 0 = x.1
      · have heq' : (ls[pre.length]?.getD 0 != x.1) = false := by simp [heq]
        have HP := Lib.hid hp
        have HE := Lib.hid heq
        clear hp heq
        gi_wp2
        refine ⟨KeepsOthers.setCell _ _ _, (Below.refl _ W).setCell (p := ⟨w.heap.size + 1, 0, none⟩) (by simp) _, ⟨?_, ?_, hB.setCell (p := ⟨w.heap.size + 1, 0, none⟩) (by simp) _⟩, ?_⟩
        · exact hv.other (by omega) _
        · rw [List.length_append]; simp only [List.length_cons, List.length_nil, Int.natCast_add]; exact hn.set _
        · have hkl : pre.length < ls.length := by have := HLs.out; omega
          have h1 : ls[pre.length] = x.1 := by have := HE.out; simpa [hkl] using this
          obtain ⟨r, hr⟩ := HP.out
          have h2 : ls = pre.map (·.1) ++ ls.drop pre.length := by rw [← hr]; simp
          refine ⟨ls.drop (pre.length + 1), ?_⟩
          rw [List.map_append, List.append_assoc]
          conv => rhs; rw [h2, List.drop_eq_getElem_cons hkl, h1]
          rfl
      · have heq' : (ls[pre.length]?.getD 0 != x.1) = true := by simp [heq]
        have HP := Lib.hid hp
        have HE := Lib.hid heq
        clear hp heq
        gi_wp2
        exact ⟨KeepsOthers.refl _, ⟨by simpa using hn, hB⟩, rfl, pre, x, rfl, HP.out, .inr ⟨HE.out, by have := HLs.out; omega⟩⟩
    · have hge : ll ≤ pre.length := by omega
      have HP := Lib.hid hp
      clear hp
      gi_wp2
      exact ⟨KeepsOthers.refl _, ⟨by simpa using hn, hB⟩, rfl, pre, x, rfl, HP.out, .inl (by have := HLs.out; omega)⟩
  case done =>
    rintro D ys W hD rfl ⟨⟨hv, hn, hB⟩, hp⟩ hK
    have hc := hn.cell
    rw [linksU_length] at hc
    have HP := Lib.hid hp
    clear hp hl1
    gi_wp2
    refine ⟨by simp, .inl ⟨_, _, rfl, run_takeDeferred hK, ?_⟩⟩
    refine ⟨_, results_tmp rfl _ _ _, ?_, hB.trans (belowK_b (w := w) (Nat.le_refl _) W D _ _ (by omega) hK rfl rfl)⟩
    refine ret_int ?_
    have h1 := HP.out
    rw [linksU_val] at h1
    have h2 := matchN_prefix _ _ h1
    unfold linksI
    rw [h2]
    simp [linksN]
  case stop =>
    rintro D c pre W hD ⟨k, hk, hpre⟩ ⟨⟨hn, hB⟩, rfl, p, x, rfl, hp, hs⟩ hK
    have hc := hn.cell
    simp only [List.length_append, List.length_cons, List.length_nil, Nat.add_sub_cancel] at hc
    have HP := Lib.hid hp
    have HS := Lib.hid hs
    have HPre := Lib.hid hpre
    clear hp hs hpre hl1
    gi_wp2
    refine ⟨by simp, .inl ⟨_, _, rfl, run_takeDeferred hK, ?_⟩⟩
    refine ⟨_, results_tmp rfl _ _ _, ?_, hB.trans (belowK_b (w := w) (Nat.le_refl _) W D _ _ (by omega) hK rfl rfl)⟩
    refine ret_int ?_
    have h1 : linksI rs = p.map (·.1) ++ x.1 :: (linksI rs).drop k := by
      have h2 : (linksI rs).take k = linksN rs k := by
        unfold linksI linksN
        rw [← List.map_take, List.take_range, Nat.min_eq_left hk]
      rw [← linksU_val, ← HPre.out, List.map_append] at h2
      conv => lhs; rw [← List.take_append_drop k (linksI rs), h2, List.append_assoc]
      rfl
    rw [h1, matchN_stop _ _ _ _ HP.out (by simpa using HS.out)]
    simp
end Go.Proofs.Ytdabgnjbanpdoaa
