/- What a slice argument takes, at most (the form's own reach). -/
import Derived.Test.YtdcjocldggmdbaaRead
import Derived.SizedLaws
namespace Go.Proofs.Ytdcjocldggmdbaa
open Go.RowKit Go
section
variable {H : Type} {enc : TypeId × Value → H} {P : Program} {w : World} {spare : Nat → Bool} {held : Bool}
theorem sized_rd {ty : Ty} {t e : TypeId} {b : Nat} (hu : P.underlying t = some (.slice e)) {S : Nat → Prop} {cs : List Value} {x : List ty.den} (rd : Rd (.sl ty) S w cs x) {d : DataW H} {ps : List MemPlace}
    (h : DataW.Trod enc P w 0 spare held t (valOf (.sl ty) cs) d ps) (hz : ∀ es sp, d = .slice es sp → (es.length + sp.length) * b ≤ reachBytes) : x.length * b ≤ reachBytes := by
  obtain ⟨a, len, cap, rfl, hl, -⟩ := rd
  have hl' : x.length = len := hl
  obtain ⟨m, h⟩ := h
  simp only [valOf, List.headD_cons, Value.cells] at h
  rcases Deep.open_slice hu h with ⟨h0, hx⟩ | ⟨a', len', cap', m', n, D, Pl, h0, _, hl2, hm, hmm, hx, hel⟩
  · simp at h0
    obtain ⟨rfl, rfl, rfl⟩ := h0
    rw [hl']
    simp
  · simp at h0
    obtain ⟨rfl, rfl, rfl⟩ := h0
    simp only [Prod.mk.injEq] at hx
    have h2 := hz _ _ hx.1
    refine Nat.le_trans (Nat.mul_le_mul_right _ ?_) h2
    rw [hl']
    simp
end
end Go.Proofs.Ytdcjocldggmdbaa
