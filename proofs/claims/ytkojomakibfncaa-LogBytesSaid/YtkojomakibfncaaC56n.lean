/- Layer 56: a byte of a log's bytes is read and turned. -/
import Derived.Test.YtkojomakibfncaaC56h
namespace Go.Proofs.Ytkojomakibfncaa
open Go.RowKit Go

/-- A byte that is turned in a row that is read as bytes. -/
theorem Rd.setB {S : Nat → Prop} {w : World} {g off len cap : Nat} {xs : List Int} (h : Rd rowT S w [.slice (some ⟨g, off, none⟩) len cap] xs) (hg : S g) (j : Nat) (hj : j < len) (v : Int) (hv : (Lit.int .u8 v).wf = true) :
    Rd rowT S (w.setCell ⟨g, off + j, none⟩ (.int .u8 v)) [.slice (some ⟨g, off, none⟩) len cap] (xs.set j v) := by
  obtain ⟨h1, h2, h3, h4, h5⟩ := h.ints
  refine Rd.ints_mk (by rw [List.length_set]; exact h1) h2 h3 hg (fun i hi => ?_) (fun x hx => ?_)
  · obtain ⟨b, o, he, -, hc⟩ := h4 i hi
    simp only [Option.some.injEq, Addr.mk.injEq, and_true] at he
    obtain ⟨rfl, rfl⟩ := he
    by_cases hij : i = j
    · subst hij
      rw [World.cell?_setCell_same (h := hc), List.getElem?_set_self (by omega)]
      rfl
    · rw [World.cell?_setCell_other (h := fun e => hij (by simp only [Addr.mk.injEq, and_true] at e; omega)), hc, List.getElem?_set_ne (by omega)]
  · rcases List.mem_or_eq_of_mem_set hx with h' | rfl
    · exact h5 x h'
    · exact hv

theorem OwnsC.at {base : Nat} {w : World} {a : Option Addr} {len cap : Nat} {xs : List Int} (h : OwnsC base w (.slice a len cap) xs) (j : Nat) (hj : j < len) :
    ∃ g, a = some ⟨g, 0, none⟩ ∧ base ≤ g ∧ g < w.heap.size ∧ w.cell? ⟨g, j, none⟩ = some (.int .u8 (xs[j]?.getD 0)) ∧ w.frozen? ⟨g, j, none⟩ = false := by
  obtain ⟨hl, -, -, hat, -⟩ := h.rd.ints
  obtain ⟨g, o, rfl, hg, hc⟩ := hat j hj
  rcases h with h | ⟨b, n, he, hb, h0, hln, hok, hn, hh⟩
  · have ho : o = 0 := by
      obtain ⟨vs, ho, -, -⟩ := h
      rcases ho.2 with ⟨hv, _⟩ | ⟨g', c', cs, hv, _⟩
      · cases hv
      · simp only [Value.slice.injEq, Option.some.injEq, Addr.mk.injEq] at hv
        exact hv.1.2.1
    subst ho
    rw [Nat.zero_add] at hc
    exact ⟨g, rfl, hg.1, hg.2, hc, (h.at1 rfl j (by omega)).1⟩
  · simp only [Value.slice.injEq, Option.some.injEq, Addr.mk.injEq, and_true] at he
    obtain ⟨⟨rfl, rfl⟩, rfl, rfl⟩ := he
    rw [Nat.zero_add] at hc
    refine ⟨g, rfl, hg.1, hg.2, hc, ?_⟩
    simp only [World.frozen?, hh]
    simp
    omega
end Go.Proofs.Ytkojomakibfncaa
