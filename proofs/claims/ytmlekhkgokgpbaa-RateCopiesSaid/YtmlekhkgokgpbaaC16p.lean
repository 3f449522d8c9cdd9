/- Layer 16: the keys are sorted. -/
import Derived.Test.YtmlekhkgokgpbaaC16n
import Derived.Test.YtmlekhkgokgpbaaC16o
namespace Go.Proofs.Ytmlekhkgokgpbaa
open Go.RowKit Go

theorem K3.ext' {x y : K3} (h1 : x.cur.toList = y.cur.toList) (h2 : x.kind = y.kind) (h3 : x.when_ = y.when_) : x = y :=
  (same3_iff x y).1 (by unfold same3; simp [h1, h2, h3])
theorem keyLt_irrefl (x : K3) : ¬ keyLt x x := by
  unfold keyLt
  rintro (h | ⟨-, h | ⟨-, h⟩⟩)
  · exact List.lt_irrefl _ h
  · omega
  · omega
theorem keyLt_trans {x y z : K3} (h1 : keyLt x y) (h2 : keyLt y z) : keyLt x z := by
  unfold keyLt at *
  rcases h1 with h1 | ⟨e1, h1⟩
  · rcases h2 with h2 | ⟨e2, h2⟩
    · exact .inl (List.lt_trans h1 h2)
    · exact .inl (by rw [← e2]; exact h1)
  · rcases h2 with h2 | ⟨e2, h2⟩
    · exact .inl (by rw [e1]; exact h2)
    · exact .inr ⟨e1.trans e2, by omega⟩
theorem keyLt_total (x y : K3) : keyLt x y ∨ x = y ∨ keyLt y x := by
  rcases cmpS_cases x.cur y.cur with ⟨h, -⟩ | ⟨h, -⟩ | ⟨h, -⟩
  · exact .inl (.inl h)
  · by_cases h1 : x.kind < y.kind
    · exact .inl (.inr ⟨h, .inl h1⟩)
    · by_cases h2 : y.kind < x.kind
      · exact .inr (.inr (.inr ⟨h.symm, .inl h2⟩))
      · by_cases h3 : x.when_ < y.when_
        · exact .inl (.inr ⟨h, .inr ⟨by omega, h3⟩⟩)
        · by_cases h4 : y.when_ < x.when_
          · exact .inr (.inr (.inr ⟨h.symm, .inr ⟨by omega, h4⟩⟩))
          · exact .inr (.inl (K3.ext' h (by omega) (by omega)))
  · exact .inr (.inr (.inl h))
theorem ltOf_iff (x y : K3) : ltOf befI x y = true ↔ keyLt x y := by
  unfold ltOf
  rw [decide_eq_true_iff]
  exact befI_lt x y
theorem ltOf_not (x y : K3) : ltOf befI x y = false ↔ ¬ keyLt x y := by
  rw [← ltOf_iff]; simp
theorem swo16 : Sort.SWO (ltOf befI) where
  irrefl x := (ltOf_not x x).2 (keyLt_irrefl x)
  trans x y z h1 h2 := (ltOf_iff x z).2 (keyLt_trans ((ltOf_iff x y).1 h1) ((ltOf_iff y z).1 h2))
  ntrans x y z h1 h2 := (ltOf_not x z).2 fun h => by
    have g1 := (ltOf_not x y).1 h1
    have g2 := (ltOf_not y z).1 h2
    rcases keyLt_total x y with h' | rfl | h'
    · exact g1 h'
    · exact g2 h
    · exact g2 (keyLt_trans h' h)
theorem tot16 (x y : K3) (h1 : ltOf befI x y = false) (h2 : ltOf befI y x = false) : x = y := by
  rcases keyLt_total x y with h | h | h
  · exact absurd h ((ltOf_not x y).1 h1)
  · exact h
  · exact absurd h ((ltOf_not y x).1 h2)

instance : Inhabited K3 := ⟨⟨ByteArray.empty, 0, 0⟩⟩
def encK (x : K3) : List Value := [.string x.cur, .int .i64 x.kind, .int .i64 x.when_]
theorem cmpLays16 (blk off size : Nat) (w : World) : CmpLays Try.prog 39 #[] encK 3 befI blk off size w := fun m os dk _ x y => keyBefore_sum _ x y
theorem isAgg58 (w : World) : Sem.run Try.prog (isAgg 58) w = .ok true w := by kernel_rfl
theorem sizeOf58 (w : World) : Sem.run Try.prog (Go.sizeOf 58) w = .ok 3 w := by kernel_rfl
open Go.Shelf Go.Lib Go.Sort in
theorem sortK_sum (blk off cap : Nat) (d : Array K3) (w : World) (hH : HoldsK encK 3 w blk off d) (hblk : blk < w.heap.size) (hsz : d.size < 4611686018427387904) :
    Calls Try.prog 47 #[.slice (some ⟨blk, off, none⟩) d.size cap, .func (.func 39) #[] #[]] w fun e w' =>
      e = .returned (.tuple #[]) ∧ ∃ n os, w' = sortWorldK encK 3 w blk off n (d.toList.mergeSort fun x y => !(ltOf befI) y x).toArray os := by
  have eg : ∀ args w, (callFunc 39 args).run Try.prog w = .ok (.enter 39 args) w := enters_of Try.func39 (by kernel_rfl) rfl
  exact AnyQ.slices_SortFunc_total Try.sortK16 3 isAgg58 sizeOf58 encK (fun _ => rfl) (fun x v hv => by simp [encK] at hv; rcases hv with rfl | rfl | rfl <;> rfl) befI swo16 39 #[] blk off cap d w eg (cmpLays16 blk off d.size w) hH hblk hsz tot16
end Go.Proofs.Ytmlekhkgokgpbaa
