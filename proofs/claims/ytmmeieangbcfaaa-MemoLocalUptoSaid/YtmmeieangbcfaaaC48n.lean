/- Layer 48: get, whole. -/
import Derived.Test.YtmmeieangbcfaaaC48m
import Derived.Test.YtmmeieangbcfaaaP48b
set_option linter.unusedSimpArgs false
namespace Go.Proofs.Ytmmeieangbcfaaa
open Go.RowKit Go

theorem SheetAt.left {SB : Nat → Prop} {F : Nat → Nat} {w w' : World} {sp : Nat} {l : List Fm} (h : SheetAt SB w sp l) (hs : ∀ b, SB b ∨ b = sp → b < w.heap.size ∧ F b = 0) (hg : Gr (Mem F) w w') : SheetAt SB w' sp l :=
  h.gr hg (fun b hb => ⟨(hs b hb).1, fun e => e.1 (hs b hb).2⟩)
theorem get_step (l : List Fm) (SB : Nat → Prop) (sp p kb pb n : Nat) (hS : SameC l SB sp p kb pb n) (hE : EvalC l SB sp p kb pb n) : GetC l SB sp p kb pb (n + 1) := by
  intro F w s st sv cv eb c r s' h hst hsh hs hc hg
  obtain ⟨k1, k2, k3, k4⟩ := keepsM l n
  unfold getM at hg
  split at hg
  · rename_i hp
    obtain ⟨rfl, rfl⟩ := (by simpa using hg : _ ∧ _)
    exact get_busy w h c hc hp
  · rename_i hp
    have hp : s.prog c = false := by simpa using hp
    split at hg
    · cases hg
    · rename_i hn
      have hn : s.pn ≤ most := by omega
      split at hg
      · rename_i x hx
        split at hg
        · rename_i hch
          obtain ⟨rfl, rfl⟩ := (by simpa using hg : _ ∧ _)
          exact get_checked w h c hc hp x hx hch
        · rename_i hch
          have hch : x.checked = false := by simpa using hch
          split at hg
          · rename_i hcg
            split at hg
            · rename_i r0 s0 he
              obtain ⟨rfl, rfl⟩ := (by simpa using hg : _ ∧ _)
              exact get_changed w h c hc hp hn x hx hch hcg s0 r0 (fun w' hM hG => hE F w' _ _ _ _ _ c r0 s0 hM (by omega) (hsh.left hs hG) (fun b hb => ⟨Nat.lt_of_lt_of_le (hs b hb).1 hG.size, (hs b hb).2⟩) hc he)
            · cases hg
          · rename_i hcg
            have hcg : x.changed = false := by simpa using hcg
            split at hg
            · rename_i s0 he
              obtain ⟨rfl, rfl⟩ := (by simpa using hg : _ ∧ _)
              refine get_same1 w h c hc hp hn x hx hch hcg s0 ?_ (fun w' a len cap hM hG hR => hS F w' _ _ _ _ _ a len cap x.reads true s0 hM (by omega) (hsh.left hs hG) (fun b hb => ⟨Nat.lt_of_lt_of_le (hs b hb).1 hG.size, (hs b hb).2⟩) hR he)
              rw [(k2 _ _ _ _ he).2 c (start_self s c) trivial]
              exact hx
            · rename_i s0 he
              split at hg
              · rename_i r1 s1 he1
                obtain ⟨rfl, rfl⟩ := (by simpa using hg : _ ∧ _)
                refine get_same0 w h c hc hp hn x hx hch hcg s0 s1 r1 (fun d hd => by rw [(k2 _ _ _ _ he).1]; exact hd) (fun w' a len cap hM hG hR => hS F w' _ _ _ _ _ a len cap x.reads false s0 hM (by omega) (hsh.left hs hG) (fun b hb => ⟨Nat.lt_of_lt_of_le (hs b hb).1 hG.size, (hs b hb).2⟩) hR he) ?_
                intro F' w' sv' cv' eb' hM hG hF
                exact hE F' w' _ _ _ _ _ c r1 s1 hM (by omega) (hsh.left hs hG) (fun b hb => ⟨Nat.lt_of_lt_of_le (hs b hb).1 hG.size, (hF b (hs b hb).1).trans (hs b hb).2⟩) hc he1
              · cases hg
            · cases hg
      · rename_i hx
        split at hg
        · rename_i r0 s0 he
          obtain ⟨rfl, rfl⟩ := (by simpa using hg : _ ∧ _)
          exact get_new w h c hc hp hn hx s0 r0 (fun w' hM hG => hE F w' _ _ _ _ _ c r0 s0 hM (by omega) (hsh.left hs hG) (fun b hb => ⟨Nat.lt_of_lt_of_le (hs b hb).1 hG.size, (hs b hb).2⟩) hc he)
        · cases hg
end Go.Proofs.Ytmmeieangbcfaaa
