/- What an argument of bounded bulk holds (the second form of a statement). -/
import Derived.Test.YtmmeieangbcfaaaRows
import Derived.Test.YtmmeieangbcfaaaRead
namespace Go.Proofs.Ytmmeieangbcfaaa
open Go.RowKit Go
mutual
theorem bulkW_le {H : Type} : ∀ d : DataW H, bulkW d ≤ Rows.uptoBulk d
  | .lit l => by cases l <;> simp [bulkW, Rows.uptoBulk]
  | .nil => by simp [bulkW, Rows.uptoBulk]
  | .ptr d => by have := bulkW_le d; simp only [bulkW, Rows.uptoBulk]; omega
  | .slice a b => by have := bulkWs_le a; have := bulkWs_le b; simp only [bulkW, Rows.uptoBulk]; omega
  | .agg p => by have := bulkWs_le p; simp only [bulkW, Rows.uptoBulk]; omega
  | .iface t d => by have := bulkW_le d; simp only [bulkW, Rows.uptoBulk]; omega
  | .map e => by simp [bulkW]
  | .held h => by simp [bulkW, Rows.uptoBulk]
theorem bulkWs_le {H : Type} : ∀ ds : List (DataW H), bulkWs ds ≤ Rows.uptoBulkAll ds
  | [] => by simp [bulkWs]
  | d :: r => by have := bulkW_le d; have := bulkWs_le r; simp only [bulkWs, Rows.uptoBulkAll]; omega
end
theorem part_bulk {H : Type} {d : DataW H} {l : List (DataW H)} (h : d ∈ l) : Rows.uptoBulk d ≤ Rows.uptoBulkAll l := by
  induction l with
  | nil => cases h
  | cons x r ih =>
    simp only [Rows.uptoBulkAll]
    cases List.mem_cons.1 h with
    | inl e => subst e; omega
    | inr e => have := ih e; omega
/-- What the bound says of one argument. -/
theorem small_arg {H : Type} {ds : List (DataW H)} (hk : Rows.uptoSmall H ds = true) {d : DataW H} (hd : d ∈ ds) {ty : Ty} {x : ty.den} (hb : ty.bulk x ≤ bulkW d) : ty.bulk x ≤ 1048576 :=
  Nat.le_trans hb (Nat.le_trans (bulkW_le d) (Nat.le_trans (part_bulk hd) (of_decide_eq_true hk)))
theorem sl_bulk {e : Ty} (h1 : ∀ x, 1 ≤ e.bulk x) (xs : List e.den) : xs.length ≤ (Ty.sl e).bulk xs := by
  show xs.length ≤ (List.map (fun x => e.bulk x) xs).sum + 1
  induction xs with
  | nil => simp
  | cons x xs ih => have := h1 x; simp only [List.length_cons, List.map_cons, List.sum_cons]; omega
end Go.Proofs.Ytmmeieangbcfaaa
