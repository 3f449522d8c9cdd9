/- Layer 56: awake, Same. -/
import Derived.Test.YtlfloekanfhlfaaGreatC56g
namespace Go.Proofs.YtlfloekanfhlfaaGreat
open Go.RowKit Go

theorem OwnsC.lt {base : Nat} {w : World} {v : Value} {xs : List Int} (h : OwnsC base w v xs) : Rd rowT (fun b => b < w.heap.size) w [v] xs := h.rd.keep (fun _ _ => rfl) (fun _ h => h.2)

end Go.Proofs.YtlfloekanfhlfaaGreat
