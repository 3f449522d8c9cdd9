/- Layer 55: the contracts of Collect, Links, Head, Verify: for every records (at most a million), nothing that was there is changed. -/
import Derived.Test.YtkojomakibfncaaC55b
namespace Go.Proofs.Ytkojomakibfncaa
open Go.RowKit Go Go.Shelf
attribute [local go_sem] Oper.semAt_some

def lastU (l : List U64) : Int := (l.map (·.1)).getLast?.getD 29793
theorem lastU_snoc (l : List U64) (x : U64) : lastU (l ++ [x]) = x.1 := by simp [lastU]
theorem lastU_links (rs : List (List Int)) : lastU (linksU rs rs.length) = headI rs := by
  cases h : rs.length with
  | zero => have : rs = [] := List.eq_nil_of_length_eq_zero h; subst this; rfl
  | succ n => rw [linksU_succ, lastU_snoc]; simp [linkU, ← h]

set_option maxRecDepth 100000 in
set_option maxHeartbeats 2000000 in
theorem Head_any (a : Option Addr) (len cap : Nat) (rs : List (List Int)) (w : World)
    (hR : Rd (.sl (.sl (.int .u8))) (fun b => b < w.heap.size) w [.slice a len cap] rs) :
    Calls Try.prog 26 #[.slice a len cap] w fun e w' => e = .returned (.int .u64 (headI rs)) ∧ Below w.heap.size w w' := by
  refine (callsIn_wide (n := 9)).1 ?_
  refine callsIn_of_wp_marks Try.func26 rfl trivial ?_ rfl
  simp only [Try.ntmps26, List.size_toArray, List.length_cons, List.length_nil, Nat.reduceAdd, Nat.reduceSub, Array.replicate_succ, Array.replicate_zero, List.push_toArray, List.append_toArray, List.nil_append, List.cons_append]
  have HR := Lib.hid hR
  clear hR
  gi_wp2_with fail
  refine call_w ((links_any _ _ _ _).mono ?_)
  rintro e w' ⟨rfl, rfl⟩
  gi_wp2
  have bS := (Boxed.new w 44 (.int .u64 29793)).alloc (.cells #[.slice a len cap] 28)
  have bL := Boxed.new (w.alloc (.cells #[.int .u64 29793] 44)) 28 (.slice a len cap)
  rw [World.size_alloc] at bL
  have hB0 : Below w.heap.size w ((w.alloc (.cells #[.int .u64 29793] 44)).alloc (.cells #[.slice a len cap] 28)) := ((Below.refl _ w).alloc (Nat.le_refl _) _).alloc (by simp) _
  refine wpIn_rangeFunc_ownF rfl (by omega) (gf := 47) (lb := #[.pointer (some ⟨w.heap.size + 1, 0, none⟩)]) rfl trivial (enters_of Try.func47 (by kernel_rfl) rfl)
    (links_stops (9 - 1) _ w.heap.size len cap a rs _ (by simp; omega) bL.cell (HR.out.below hB0 (fun _ h => h))) belowK_t (belowK_b (by simp; omega)) (Below.refl _ _) (fun _ => rfl)
    (fun pre W => Boxed W w.heap.size 44 (.int .u64 (lastU pre)) ∧ Below w.heap.size w W) (fun _ _ _ => False)
    (OwnFrom.and (Own.from (boxed_own _ _ _) _) (ownFrom_below (Nat.le_refl _) (by simp; omega))) (fun _ _ _ _ _ hs _ _ => hs)
    ⟨bS, hB0⟩
    (fun x => { tmps := #[.slice a len cap, undef, .int .u64 0, .pointer (some ⟨w.heap.size, 0, none⟩), .int .u64 x.1, .slice a len cap, .func (.func 47) #[] #[.pointer (some ⟨w.heap.size + 1, 0, none⟩)], .int .u64 x.1, undef, undef], defers := [] }) ?assign ?body ?done ?stop
  case assign =>
    intro l x W K hK
    gi_wp2
    exact hK
  case body =>
    rintro l pre x W ⟨hv, hB⟩ hlen
    have hc := hv.cell
    have hf := hv.frozen
    gi_wp2
    refine ⟨KeepsOthers.setCell _ _ _, (Below.refl _ W).setCell (p := ⟨w.heap.size, 0, none⟩) (Nat.le_refl _) _, ?_, hB.setCell (p := ⟨w.heap.size, 0, none⟩) (Nat.le_refl _) _⟩
    rw [lastU_snoc]
    exact hv.set _
  case done =>
    rintro D ys W hD rfl ⟨hv, hB⟩ hK
    have hc := hv.cell
    gi_wp2
    refine ⟨by simp, .inl ⟨_, _, rfl, run_takeDeferred hK, ?_⟩⟩
    refine ⟨_, results_tmp rfl _ _ _, ?_, hB.trans (belowK_b (w := w) (Nat.le_refl _) W D _ _ (by simp at hD; omega) hK rfl rfl)⟩
    exact ret_int (lastU_links rs)
  case stop =>
    rintro D c pre W _ _ h _
    exact h.elim

/-- How many links are right. -/
def matchN : List Int → List Int → Nat
  | a :: p, b :: q => if a = b then matchN p q + 1 else 0
  | _, _ => 0
theorem matchN_prefix : ∀ (p l : List Int), p <+: l → matchN l p = p.length
  | [], l, _ => by cases l <;> rfl
  | a :: p, [], h => by simp at h
  | a :: p, b :: l, h => by
    rw [List.cons_prefix_cons] at h
    obtain ⟨rfl, h⟩ := h
    simp [matchN, matchN_prefix p l h]
theorem matchN_stop : ∀ (p l r : List Int) (x : Int), p <+: l → (l.length ≤ p.length ∨ l[p.length]?.getD 0 ≠ x ∧ p.length < l.length) → matchN l (p ++ x :: r) = p.length
  | [], [], r, x, _, h => rfl
  | [], b :: l, r, x, _, h => by
    have : b ≠ x := by simpa using h
    simp [matchN, this]
  | a :: p, [], r, x, h, _ => by simp at h
  | a :: p, b :: l, r, x, h, hs => by
    rw [List.cons_prefix_cons] at h
    obtain ⟨rfl, h⟩ := h
    have := matchN_stop p l r x h (by simpa using hs)
    simp [matchN, this]

end Go.Proofs.Ytkojomakibfncaa
