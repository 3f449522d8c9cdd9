/-
  No cell of these rows narrows 'for every input' (looked for: loops, veiled, ifaces, maps, wideKeys, modest, calm, conditions, laid).
  DERIVED. THE GIVEN ROWS OF THIS SEAT. 6 by the template 'for every input the law returns true; each argument reads behind the call as it read before'; 0 by the template 'total and deterministic' (their statements: YtpobckedeffjmaaTotals.lean).
  GIVEN WITH THE SEED: the statements are not yours to turn. If you find one false, say at which input.
  Laid BY PROGRAM, IN A SANDBOX (cutbox-rows.mjs): the forced cells as the released guide's own fill.sh prints them over the translation 23bcab254ccd9f67… (all of the seat's roots in one cut). By AI agents, Wed Nov 11 2026. No macro, syntax, notation, axiom, sorry.
-/
import Derived.Test.YtpobckedeffjmaaChecked
import GoSem.Claim
import GoSem.ClaimJoined
import GoSem.ClaimMapViews
import Derived.JoinedTies
import Derived.KernelRfl
namespace Go.Proofs.Ytpobckedeffjmaa
/- THE CELL 'sum', in the pinned program and in every row, IS THE sha256 OF THE DUMP (.gsa) THAT YtpobckedeffjmaaProg.lean LOADS. Nothing in Lean hashes anything: it is a label: what it is worth is what the hold of that sum in a sandbox is worth. -/
noncomputable def Try.pinned : Pinned := { name := "ytpobckedeffjmaa", sum := "23bcab254ccd9f67c0df945893b7b0ff482a244d39d1c7f51bdc4fd4e1ca3456", checked := Try.checked }
namespace Rows
def none {H : Type} : Left H := { results := [], args := [] }

/-- 'tallystonelaw28.MatchPropose': WHATEVER THE INPUT: true; the input reads as it did. -/
def matchProposeSpec : ChangeSpec := { name := "matchPropose", fn := fun _ => fun
  | [d1, d2, d3] => { results := [.lit (.bool true)], args := [d1, d2, d3] }
  | _ => none }
def matchProposeRow : OpenClaim := { program := "ytpobckedeffjmaa", sum := "23bcab254ccd9f67c0df945893b7b0ff482a244d39d1c7f51bdc4fd4e1ca3456", func := "tallystone/tallystonelaw28.MatchPropose", spec := "matchPropose", unfollowed := true, recurses := true, plainKeys := false, apart := false }
def MatchProposeSaid : Prop := matchProposeRow.holds Try.pinned (OpenSpec.ofChange matchProposeSpec)

/-- ITS FALSE NEIGHBOUR: 'it returns false'. Refute it at one input. -/
def matchProposeWrong : ChangeSpec := { name := "matchPropose", fn := fun _ => fun
  | [d1, d2, d3] => { results := [.lit (.bool false)], args := [d1, d2, d3] }
  | _ => none }
def MatchProposeWrongFalsely : Prop := matchProposeRow.holds Try.pinned (OpenSpec.ofChange matchProposeWrong)

/-- 'tallystonelaw28.MatchFits': WHATEVER THE INPUT: true; the input reads as it did. -/
def matchFitsSpec : ChangeSpec := { name := "matchFits", fn := fun _ => fun
  | [d1, d2, d3] => { results := [.lit (.bool true)], args := [d1, d2, d3] }
  | _ => none }
def matchFitsRow : OpenClaim := { program := "ytpobckedeffjmaa", sum := "23bcab254ccd9f67c0df945893b7b0ff482a244d39d1c7f51bdc4fd4e1ca3456", func := "tallystone/tallystonelaw28.MatchFits", spec := "matchFits", unfollowed := true, recurses := true, plainKeys := false, apart := false }
def MatchFitsSaid : Prop := matchFitsRow.holds Try.pinned (OpenSpec.ofChange matchFitsSpec)

/-- ITS FALSE NEIGHBOUR: 'it returns false'. Refute it at one input. -/
def matchFitsWrong : ChangeSpec := { name := "matchFits", fn := fun _ => fun
  | [d1, d2, d3] => { results := [.lit (.bool false)], args := [d1, d2, d3] }
  | _ => none }
def MatchFitsWrongFalsely : Prop := matchFitsRow.holds Try.pinned (OpenSpec.ofChange matchFitsWrong)

/-- 'tallystonelaw28.MatchExact': WHATEVER THE INPUT: true; the input reads as it did. -/
def matchExactSpec : ChangeSpec := { name := "matchExact", fn := fun _ => fun
  | [d1, d2] => { results := [.lit (.bool true)], args := [d1, d2] }
  | _ => none }
def matchExactRow : OpenClaim := { program := "ytpobckedeffjmaa", sum := "23bcab254ccd9f67c0df945893b7b0ff482a244d39d1c7f51bdc4fd4e1ca3456", func := "tallystone/tallystonelaw28.MatchExact", spec := "matchExact", unfollowed := true, recurses := true, plainKeys := false, apart := false }
def MatchExactSaid : Prop := matchExactRow.holds Try.pinned (OpenSpec.ofChange matchExactSpec)

/-- ITS FALSE NEIGHBOUR: 'it returns false'. Refute it at one input. -/
def matchExactWrong : ChangeSpec := { name := "matchExact", fn := fun _ => fun
  | [d1, d2] => { results := [.lit (.bool false)], args := [d1, d2] }
  | _ => none }
def MatchExactWrongFalsely : Prop := matchExactRow.holds Try.pinned (OpenSpec.ofChange matchExactWrong)

/-- 'tallystonelaw28.MatchRest': WHATEVER THE INPUT: true; the input reads as it did. -/
def matchRestSpec : ChangeSpec := { name := "matchRest", fn := fun _ => fun
  | [d1, d2, d3] => { results := [.lit (.bool true)], args := [d1, d2, d3] }
  | _ => none }
def matchRestRow : OpenClaim := { program := "ytpobckedeffjmaa", sum := "23bcab254ccd9f67c0df945893b7b0ff482a244d39d1c7f51bdc4fd4e1ca3456", func := "tallystone/tallystonelaw28.MatchRest", spec := "matchRest", unfollowed := true, recurses := true, plainKeys := false, apart := false }
def MatchRestSaid : Prop := matchRestRow.holds Try.pinned (OpenSpec.ofChange matchRestSpec)

/-- ITS FALSE NEIGHBOUR: 'it returns false'. Refute it at one input. -/
def matchRestWrong : ChangeSpec := { name := "matchRest", fn := fun _ => fun
  | [d1, d2, d3] => { results := [.lit (.bool false)], args := [d1, d2, d3] }
  | _ => none }
def MatchRestWrongFalsely : Prop := matchRestRow.holds Try.pinned (OpenSpec.ofChange matchRestWrong)

/-- 'tallystonelaw28.MatchValid': WHATEVER THE INPUT: true; the input reads as it did. -/
def matchValidSpec : ChangeSpec := { name := "matchValid", fn := fun _ => fun
  | [d1, d2] => { results := [.lit (.bool true)], args := [d1, d2] }
  | _ => none }
def matchValidRow : OpenClaim := { program := "ytpobckedeffjmaa", sum := "23bcab254ccd9f67c0df945893b7b0ff482a244d39d1c7f51bdc4fd4e1ca3456", func := "tallystone/tallystonelaw28.MatchValid", spec := "matchValid", unfollowed := true, recurses := true, plainKeys := false, apart := false }
def MatchValidSaid : Prop := matchValidRow.holds Try.pinned (OpenSpec.ofChange matchValidSpec)

/-- ITS FALSE NEIGHBOUR: 'it returns false'. Refute it at one input. -/
def matchValidWrong : ChangeSpec := { name := "matchValid", fn := fun _ => fun
  | [d1, d2] => { results := [.lit (.bool false)], args := [d1, d2] }
  | _ => none }
def MatchValidWrongFalsely : Prop := matchValidRow.holds Try.pinned (OpenSpec.ofChange matchValidWrong)

/-- 'tallystonelaw28.MatchAllValid': WHATEVER THE INPUT: true; the input reads as it did. -/
def matchAllValidSpec : ChangeSpec := { name := "matchAllValid", fn := fun _ => fun
  | [d1, d2, d3] => { results := [.lit (.bool true)], args := [d1, d2, d3] }
  | _ => none }
def matchAllValidRow : OpenClaim := { program := "ytpobckedeffjmaa", sum := "23bcab254ccd9f67c0df945893b7b0ff482a244d39d1c7f51bdc4fd4e1ca3456", func := "tallystone/tallystonelaw28.MatchAllValid", spec := "matchAllValid", unfollowed := true, recurses := true, plainKeys := false, apart := false }
def MatchAllValidSaid : Prop := matchAllValidRow.holds Try.pinned (OpenSpec.ofChange matchAllValidSpec)

/-- ITS FALSE NEIGHBOUR: 'it returns false'. Refute it at one input. -/
def matchAllValidWrong : ChangeSpec := { name := "matchAllValid", fn := fun _ => fun
  | [d1, d2, d3] => { results := [.lit (.bool false)], args := [d1, d2, d3] }
  | _ => none }
def MatchAllValidWrongFalsely : Prop := matchAllValidRow.holds Try.pinned (OpenSpec.ofChange matchAllValidWrong)

/- THE SECOND FORM. 'bulk': how many values and letters a reading holds, each counted each time it is reached (what is shared counts as often as it is met; a slice's spare places count too). A statement '..UptoSaid' is the law's where the arguments, and the package variables that the reading takes, are together of bulk at most 1048576: NARROWER than '..Said'. Prove '..Said' where nothing that the law and all that it calls make is longer than what came in: it says more and counts as full. Else prove '..UptoSaid'. A law counts once. -/
mutual
def uptoBulk {H : Type} : DataW H → Nat
  | .lit (.string bytes) => bytes.length + 1
  | .lit _ => 1
  | .nil => 1
  | .ptr d => uptoBulk d + 1
  | .slice elems spare => uptoBulkAll elems + uptoBulkAll spare + 1
  | .agg parts => uptoBulkAll parts + 1
  | .iface _ d => uptoBulk d + 1
  | .map entries => uptoBulkEntries entries + 1
  | .held _ => 1
def uptoBulkAll {H : Type} : List (DataW H) → Nat
  | [] => 0
  | d :: r => uptoBulk d + uptoBulkAll r
def uptoBulkEntries {H : Type} : List (Lit × DataW H) → Nat
  | [] => 0
  | x :: r => uptoBulkEntry x + uptoBulkEntries r
def uptoBulkEntry {H : Type} : Lit × DataW H → Nat
  | (.string bytes, d) => bytes.length + uptoBulk d + 1
  | (_, d) => uptoBulk d + 1
 end
def uptoSmall : (H : Type) → List (DataW H) → Bool := fun _ ds => decide (uptoBulkAll ds ≤ 1048576)
def OpenSpec.upto (s : _root_.Go.ChangeSpec) : _root_.Go.OpenSpec := { _root_.Go.OpenSpec.ofChange s with cond := some uptoSmall }

/-- 'tallystonelaw28.MatchPropose', WHERE WHAT IT READS IS OF BULK AT MOST 1048576: true; the input reads as it did. -/
def matchProposeUptoRow : OpenClaim := { program := "ytpobckedeffjmaa", sum := "23bcab254ccd9f67c0df945893b7b0ff482a244d39d1c7f51bdc4fd4e1ca3456", func := "tallystone/tallystonelaw28.MatchPropose", spec := "matchPropose", unfollowed := true, recurses := true, plainKeys := false, apart := false, narrowed := true }
def MatchProposeUptoSaid : Prop := matchProposeUptoRow.holds Try.pinned (OpenSpec.upto matchProposeSpec)

/-- 'tallystonelaw28.MatchFits', WHERE WHAT IT READS IS OF BULK AT MOST 1048576: true; the input reads as it did. -/
def matchFitsUptoRow : OpenClaim := { program := "ytpobckedeffjmaa", sum := "23bcab254ccd9f67c0df945893b7b0ff482a244d39d1c7f51bdc4fd4e1ca3456", func := "tallystone/tallystonelaw28.MatchFits", spec := "matchFits", unfollowed := true, recurses := true, plainKeys := false, apart := false, narrowed := true }
def MatchFitsUptoSaid : Prop := matchFitsUptoRow.holds Try.pinned (OpenSpec.upto matchFitsSpec)

/-- 'tallystonelaw28.MatchExact', WHERE WHAT IT READS IS OF BULK AT MOST 1048576: true; the input reads as it did. -/
def matchExactUptoRow : OpenClaim := { program := "ytpobckedeffjmaa", sum := "23bcab254ccd9f67c0df945893b7b0ff482a244d39d1c7f51bdc4fd4e1ca3456", func := "tallystone/tallystonelaw28.MatchExact", spec := "matchExact", unfollowed := true, recurses := true, plainKeys := false, apart := false, narrowed := true }
def MatchExactUptoSaid : Prop := matchExactUptoRow.holds Try.pinned (OpenSpec.upto matchExactSpec)

/-- 'tallystonelaw28.MatchRest', WHERE WHAT IT READS IS OF BULK AT MOST 1048576: true; the input reads as it did. -/
def matchRestUptoRow : OpenClaim := { program := "ytpobckedeffjmaa", sum := "23bcab254ccd9f67c0df945893b7b0ff482a244d39d1c7f51bdc4fd4e1ca3456", func := "tallystone/tallystonelaw28.MatchRest", spec := "matchRest", unfollowed := true, recurses := true, plainKeys := false, apart := false, narrowed := true }
def MatchRestUptoSaid : Prop := matchRestUptoRow.holds Try.pinned (OpenSpec.upto matchRestSpec)

/-- 'tallystonelaw28.MatchValid', WHERE WHAT IT READS IS OF BULK AT MOST 1048576: true; the input reads as it did. -/
def matchValidUptoRow : OpenClaim := { program := "ytpobckedeffjmaa", sum := "23bcab254ccd9f67c0df945893b7b0ff482a244d39d1c7f51bdc4fd4e1ca3456", func := "tallystone/tallystonelaw28.MatchValid", spec := "matchValid", unfollowed := true, recurses := true, plainKeys := false, apart := false, narrowed := true }
def MatchValidUptoSaid : Prop := matchValidUptoRow.holds Try.pinned (OpenSpec.upto matchValidSpec)

/-- 'tallystonelaw28.MatchAllValid', WHERE WHAT IT READS IS OF BULK AT MOST 1048576: true; the input reads as it did. -/
def matchAllValidUptoRow : OpenClaim := { program := "ytpobckedeffjmaa", sum := "23bcab254ccd9f67c0df945893b7b0ff482a244d39d1c7f51bdc4fd4e1ca3456", func := "tallystone/tallystonelaw28.MatchAllValid", spec := "matchAllValid", unfollowed := true, recurses := true, plainKeys := false, apart := false, narrowed := true }
def MatchAllValidUptoSaid : Prop := matchAllValidUptoRow.holds Try.pinned (OpenSpec.upto matchAllValidSpec)

end Rows
end Go.Proofs.Ytpobckedeffjmaa
