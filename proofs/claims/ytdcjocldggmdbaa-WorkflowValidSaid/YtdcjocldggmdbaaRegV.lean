/- Program independent: a walk that is cut: what stands behind a part of the code is told by the slots that it has filled. -/
import Derived.Test.YtdcjocldggmdbaaRegU
namespace Go.Proofs.Ytdcjocldggmdbaa
open Go.RowKit Go

def puts (a : Act) : List Tmp → List Value → Act
  | d :: ds, v :: vs => puts (a.put (some d) v) ds vs
  | _, _ => a
def CutTo (a : Act) (ds : List Tmp) (I : List Value → World → Prop) (a' : Act) (w' : World) : Prop := ∃ vs, a' = puts a ds vs ∧ I vs w'
theorem wp_cut {P : Program} {c : Code} {Q : Exit → Act → World → Prop} {a : Act} {w : World} (ds : List Tmp) (I : List Value → World → Prop)
    (h1 : c.wp P (Exit.then (CutTo a ds I) (fun _ _ _ => False)) a w) (h2 : ∀ vs w', I vs w' → Q .normal (puts a ds vs) w') : c.wp P Q a w := by
  refine Code.wp_mono (fun e a' w' q => ?_) h1
  cases e <;> first | exact q.elim | skip
  obtain ⟨vs, rfl, hI⟩ := q
  exact h2 vs w' hI
theorem cut_leaf {a a' : Act} {ds : List Tmp} {I : List Value → World → Prop} {w' : World} (h : a' = puts a ds (ds.map fun d => a'.tmps.getD d undef)) (hI : I (ds.map fun d => a'.tmps.getD d undef) w') : Exit.then (CutTo a ds I) (fun _ _ _ => False) .normal a' w' := (⟨_, h, hI⟩ : CutTo a ds I a' w')
end Go.Proofs.Ytdcjocldggmdbaa
