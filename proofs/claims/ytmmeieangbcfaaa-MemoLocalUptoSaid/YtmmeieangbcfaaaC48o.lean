/- Layer 48: the stack gets a frame (or nil). -/
import Derived.Test.YtmmeieangbcfaaaC48n
set_option linter.unusedSimpArgs false
namespace Go.Proofs.Ytmmeieangbcfaaa
open Go.RowKit Go

theorem info_frame : (Try.prog.info? 61).map (fun i => (i.zero, i.size, i.bytes)) = some (some (.pointer none), 1, 8) := by kernel_rfl
/-- append(stack, x): at the operation. -/
theorem wp_push {o : Oper} {a : Act} {w : World} {K : Act → World → Prop} {Q : Exit → Act → World → Prop} (x y : Operand)
    (ho : o.op = .call { callee := .builtin .append, args := #[x, y], argTypes := #[66, 66] }) {sv : Value} {st : List (Option Nat)} (hv : a.eval x = sv)
    (hst : w.ownsRow 0 61 1 sv st.length (st.map ptrV)) (hlen : st.length ≤ most) {b : Nat} {q : Option Nat} (hy : a.eval y = .slice (some ⟨b, 0, none⟩) 1 1) (hb : w.heap[b]? = some (.cells #[ptrV q] 61 (0, 0)))
    (h : ∀ (ca : Option Addr) (cl cc : Nat) w', w'.ownsRow 0 61 1 (.slice ca cl cc) (st ++ [q]).length ((st ++ [q]).map ptrV) → w.grownBy w' sv.ownBlock → ((Value.slice ca cl cc).ownBlock = sv.ownBlock ∨ (Value.slice ca cl cc).ownBlock = some w.heap.size) → K (a.put o.dst (.slice ca cl cc)) w') :
    o.wp Try.prog a w K Q := by
  obtain ⟨i, hi, hz0, hz1, hz2⟩ := info_parts info_frame
  have hsrc : Src w (.slice (some ⟨b, 0, none⟩) 1 1) 1 [ptrV q] := Src.of_cell rfl (by rw [blk_cell hb]; rfl)
  have h1 : ∀ u ∈ [ptrV q], u.oneCell' = true := fun u hu => by
    obtain rfl := List.mem_singleton.1 hu
    cases q <;> rfl
  obtain ⟨v', w', hrun, ho', hg, -, hob⟩ := run_append_any (P := Try.prog) w 0 66 o.type 61 i (.pointer none) 1 8 Try.underlying66 hi hz0 hz1 hz2 rfl (by decide) sv st.length (st.map ptrV) hst _ 1 [ptrV q] hsrc rfl h1 (by unfold most at hlen; simp [maxLen]; omega) (by unfold most at hlen; omega) (Nat.zero_le _)
  have hsl : ∃ ca cl cc, v' = .slice ca cl cc := by
    rcases ho'.2 with ⟨rfl, _⟩ | ⟨g, cap, cur, rfl, _⟩
    · exact ⟨_, _, _, rfl⟩
    · exact ⟨_, _, _, rfl⟩
  obtain ⟨ca, cl, cc, rfl⟩ := hsl
  unfold Oper.wp
  simp [execOp, ho, resolve, invoke, builtin, hv, hy, hrun, Result.andThen]
  exact h ca cl cc w' (by rw [List.length_append, List.map_append]; exact ho') hg hob
end Go.Proofs.Ytmmeieangbcfaaa
