/- Layer 55: the contracts of the reference's Next, Links, Head, Verify, Few, SameLinks. -/
import Derived.Test.YtlfloekanfhlfaaGreatC55c
namespace Go.Proofs.YtlfloekanfhlfaaGreat
open Go.RowKit Go Go.Shelf

def fewB (rs : List (List Int)) : Bool := decide (∀ r ∈ rs, r.length ≤ 300) && decide (rs.length ≤ 20)

end Go.Proofs.YtlfloekanfhlfaaGreat
