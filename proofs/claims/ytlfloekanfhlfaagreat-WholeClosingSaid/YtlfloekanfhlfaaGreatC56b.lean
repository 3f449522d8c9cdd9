/- Layer 56: what a log in memory is; New, head, Len, Head. -/
import Derived.Test.YtlfloekanfhlfaaGreatC56a
namespace Go.Proofs.YtlfloekanfhlfaaGreat
open Go.RowKit Go

abbrev rowT : Ty := .sl (.int .u8)
def okR (rs : List (List Int)) : Prop := (∀ r ∈ rs, r.length ≤ 65536) ∧ rs.length ≤ 1000

/-- Block p is a log with the records rs; its memory lies in F. -/
def LogIn (F : Nat → Prop) (w : World) (p : Nat) (rs : List (List Int)) : Prop :=
  (∀ b, F b → b < w.heap.size) ∧ F p ∧ ∃ v1 v2 S, w.heap[p]? = some (.cells #[v1, v2] 99 (0, 0)) ∧
    Owns rowT 49 0 S w v1 rs ∧ Owns (.int .u64) 112 0 (fun _ => False) w v2 (linksI rs) ∧
    (∀ b, S b → F b ∧ b ≠ p ∧ v2.ownBlock ≠ some b) ∧ (∀ b, v1.ownBlock = some b → F b ∧ b ≠ p ∧ v2.ownBlock ≠ some b) ∧ (∀ b, v2.ownBlock = some b → F b ∧ b ≠ p)

theorem LogIn.lt {F : Nat → Prop} {w : World} {p : Nat} {rs : List (List Int)} (h : LogIn F w p rs) : ∀ b, F b → b < w.heap.size := h.1
theorem LogIn.gr {F G : Nat → Prop} {w w' : World} {p : Nat} {rs : List (List Int)} (h : LogIn F w p rs) (hg : Gr G w w') (hF : ∀ b, F b → ¬ G b) : LogIn F w' p rs := by
  obtain ⟨h0, hp, v1, v2, S, h1, h2, h3, h4, h5, h6⟩ := h
  exact ⟨fun b hb => Nat.lt_of_lt_of_le (h0 b hb) hg.size, hp, v1, v2, S, blk_gr hg h1 (hF p hp), h2.gr hg (fun b hb => hF b (h4 b hb).1) (fun b hb => hF b (h5 b hb).1), h3.gr hg (fun _ h => h.elim) (fun b hb => hF b (h6 b hb).1), h4, h5, h6⟩
theorem LogIn.below {F : Nat → Prop} {w w' : World} {p : Nat} {rs : List (List Int)} (h : LogIn F w p rs) (hB : Below w.heap.size w w') : LogIn F w' p rs := h.gr (G := fun _ => False) (Gr.of_below hB) (fun _ _ h => h)
theorem LogIn.more {F G : Nat → Prop} {w : World} {p : Nat} {rs : List (List Int)} (h : LogIn F w p rs) (hF : ∀ b, F b → G b) (hG : ∀ b, G b → b < w.heap.size) : LogIn G w p rs := by
  obtain ⟨h0, hp, v1, v2, S, h1, h2, h3, h4, h5, h6⟩ := h
  exact ⟨hG, hF p hp, v1, v2, S, h1, h2, h3, fun b hb => ⟨hF b (h4 b hb).1, (h4 b hb).2⟩, fun b hb => ⟨hF b (h5 b hb).1, (h5 b hb).2⟩, fun b hb => ⟨hF b (h6 b hb).1, (h6 b hb).2⟩⟩

theorem LogIn.open_ {F : Nat → Prop} {w : World} {p : Nat} {rs : List (List Int)} (h : LogIn F w p rs) :
    ∃ a1 c1 a2 c2, w.cell? ⟨p, 0, none⟩ = some (.slice a1 rs.length c1) ∧ w.cell? ⟨p, 1, none⟩ = some (.slice a2 rs.length c2) ∧ w.frozen? ⟨p, 0, none⟩ = false ∧ w.frozen? ⟨p, 1, none⟩ = false ∧
      Rd (.sl rowT) F w [.slice a1 rs.length c1] rs ∧ Rd (.sl (.int .u64)) F w [.slice a2 rs.length c2] (linksI rs) := by
  obtain ⟨h0, hp, v1, v2, S, h1, h2, h3, h4, h5, h6⟩ := h
  obtain ⟨a1, l1, c1, rfl, hl1, -⟩ := h2.slice
  obtain ⟨a2, l2, c2, rfl, hl2, -⟩ := h3.slice
  subst hl1
  rw [linksI_length] at hl2
  subst hl2
  exact ⟨a1, c1, a2, c2, blk_cell h1 0, blk_cell h1 1, blk_frozen h1 0, blk_frozen h1 1, h2.rd _ (fun b hb => (h4 b hb).1) (fun b hb => (h5 b hb).1), h3.rd _ (fun _ h => h.elim) (fun b hb => (h6 b hb).1)⟩

theorem new_sum (w : World) : Calls Tryz.prog 11 #[] w fun e w' => e = .returned (.pointer (some ⟨w.heap.size, 0, none⟩)) ∧ LogIn (fun b => b = w.heap.size) w' w.heap.size [] ∧ Below w.heap.size w w' := by
  go_enter Tryz.func11, Tryz.ntmps11
  go_wp2
  go_ret
  have hL : LogIn (fun b => b = w.heap.size) (w.alloc (.cells #[.slice none 0 0, .slice none 0 0] 99)) w.heap.size [] := by
    refine ⟨?_, rfl, .slice none 0 0, .slice none 0 0, fun _ => False, heap_alloc_new w _, Owns.nil _ _ 0 _, Owns.nil _ _ 0 _, ?_, ?_, ?_⟩
    · intro b hb; rw [hb]; simp
    · exact fun _ h => h.elim
    · intro b hb; cases hb
    · intro b hb; cases hb
  exact ⟨rfl, hL, (Below.refl _ w).alloc (Nat.le_refl _) _⟩

theorem headI_links (rs : List (List Int)) (n : Nat) (h0 : 0 < n) (h : n ≤ rs.length) : (linksI rs)[n - 1]?.getD 0 = headI (rs.take n) := by
  rw [linksI_get rs (n - 1) (by omega)]
  congr 2
  omega

theorem head_sum (F : Nat → Prop) (w : World) (p n : Nat) (rs : List (List Int)) (h : LogIn F w p rs) (hn : n ≤ rs.length) :
    Calls Tryz.prog 34 #[.pointer (some ⟨p, 0, none⟩), .int .i64 n] w fun e w' => e = .returned (.int .u64 (headI (rs.take n))) ∧ w' = w := by
  obtain ⟨a1, c1, a2, c2, k1, k2, f1, f2, r1, r2⟩ := h.open_
  clear h k1 f1 f2 r1
  obtain ⟨m1, m2, m3, hat, -⟩ := r2.ints
  clear r2 m1
  by_cases h0 : n = 0
  · subst h0
    clear hat
    go_enter Tryz.func34, Tryz.ntmps34
    go_wp2
    go_ret
    exact ⟨rfl, rfl⟩
  · obtain ⟨b, off, rfl, _, hc⟩ := hat (n - 1) (by omega)
    rw [headI_links rs n (by omega) hn] at hc
    clear hat
    obtain ⟨k, rfl⟩ : ∃ k, n = k + 1 := ⟨n - 1, by omega⟩
    simp only [Nat.add_sub_cancel] at hc
    have hk : ((k + 1 : Nat) : Int) ≠ 0 := by omega
    go_enter Tryz.func34, Tryz.ntmps34
    go_wp2
    go_ret
    exact ⟨rfl, rfl⟩

theorem len_sum (F : Nat → Prop) (w : World) (p : Nat) (rs : List (List Int)) (h : LogIn F w p rs) :
    Calls Tryz.prog 16 #[.pointer (some ⟨p, 0, none⟩)] w fun e w' => e = .returned (.int .i64 rs.length) ∧ w' = w := by
  obtain ⟨a1, c1, a2, c2, k1, k2, f1, f2, r1, r2⟩ := h.open_
  clear h k2 f1 f2 r2 r1
  go_enter Tryz.func16, Tryz.ntmps16
  go_wp2
  go_ret
  exact ⟨rfl, rfl⟩

end Go.Proofs.YtlfloekanfhlfaaGreat
