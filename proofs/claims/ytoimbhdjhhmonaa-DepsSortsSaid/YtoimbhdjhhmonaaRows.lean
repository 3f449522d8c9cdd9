/-
  No cell of these rows narrows 'for every input' (looked for: loops, veiled, ifaces, maps, wideKeys, modest, calm, conditions, laid).
  DERIVED. THE GIVEN ROWS OF THIS SEAT. 6 by the template 'for every input the law returns true; each argument reads behind the call as it read before'; 0 by the template 'total and deterministic' (their statements: YtoimbhdjhhmonaaTotals.lean).
  GIVEN WITH THE SEED: the statements are not yours to turn. If you find one false, say at which input.
  Laid BY PROGRAM, IN A SANDBOX (cutbox-rows.mjs): the forced cells as the released guide's own fill.sh prints them over the translation 4996f2230a2e2710… (all of the seat's roots in one cut). By AI agents, Wed Nov 11 2026. No macro, syntax, notation, axiom, sorry.
-/
import Derived.Test.YtoimbhdjhhmonaaChecked
import GoSem.Claim
import GoSem.ClaimJoined
import GoSem.ClaimMapViews
import Derived.JoinedTies
import Derived.KernelRfl
namespace Go.Proofs.Ytoimbhdjhhmonaa
/- THE CELL 'sum', in the pinned program and in every row, IS THE sha256 OF THE DUMP (.gsa) THAT YtoimbhdjhhmonaaProg.lean LOADS. Nothing in Lean hashes anything: it is a label: what it is worth is what the hold of that sum in a sandbox is worth. -/
noncomputable def Try.pinned : Pinned := { name := "ytoimbhdjhhmonaa", sum := "4996f2230a2e27107dae5e81880b884292b9773191413f4b042063a653ef424a", checked := Try.checked }
namespace Rows
def none {H : Type} : Left H := { results := [], args := [] }

/-- 'tallystonelaw47.DepsAffected': WHATEVER THE INPUT: true; the input reads as it did. -/
def depsAffectedSpec : ChangeSpec := { name := "depsAffected", fn := fun _ => fun
  | [d1, d2] => { results := [.lit (.bool true)], args := [d1, d2] }
  | _ => none }
def depsAffectedRow : OpenClaim := { program := "ytoimbhdjhhmonaa", sum := "4996f2230a2e27107dae5e81880b884292b9773191413f4b042063a653ef424a", func := "tallystone/tallystonelaw47.DepsAffected", spec := "depsAffected", unfollowed := true, recurses := true, plainKeys := false, apart := false }
def DepsAffectedSaid : Prop := depsAffectedRow.holds Try.pinned (OpenSpec.ofChange depsAffectedSpec)

/-- ITS FALSE NEIGHBOUR: 'it returns false'. Refute it at one input. -/
def depsAffectedWrong : ChangeSpec := { name := "depsAffected", fn := fun _ => fun
  | [d1, d2] => { results := [.lit (.bool false)], args := [d1, d2] }
  | _ => none }
def DepsAffectedWrongFalsely : Prop := depsAffectedRow.holds Try.pinned (OpenSpec.ofChange depsAffectedWrong)

/-- 'tallystonelaw47.DepsReaches': WHATEVER THE INPUT: true; the input reads as it did. -/
def depsReachesSpec : ChangeSpec := { name := "depsReaches", fn := fun _ => fun
  | [d1, d2, d3] => { results := [.lit (.bool true)], args := [d1, d2, d3] }
  | _ => none }
def depsReachesRow : OpenClaim := { program := "ytoimbhdjhhmonaa", sum := "4996f2230a2e27107dae5e81880b884292b9773191413f4b042063a653ef424a", func := "tallystone/tallystonelaw47.DepsReaches", spec := "depsReaches", unfollowed := true, recurses := true, plainKeys := false, apart := false }
def DepsReachesSaid : Prop := depsReachesRow.holds Try.pinned (OpenSpec.ofChange depsReachesSpec)

/-- ITS FALSE NEIGHBOUR: 'it returns false'. Refute it at one input. -/
def depsReachesWrong : ChangeSpec := { name := "depsReaches", fn := fun _ => fun
  | [d1, d2, d3] => { results := [.lit (.bool false)], args := [d1, d2, d3] }
  | _ => none }
def DepsReachesWrongFalsely : Prop := depsReachesRow.holds Try.pinned (OpenSpec.ofChange depsReachesWrong)

/-- 'tallystonelaw47.DepsScript': WHATEVER THE INPUT: true; the input reads as it did. -/
def depsScriptSpec : ChangeSpec := { name := "depsScript", fn := fun _ => fun
  | [d1, d2] => { results := [.lit (.bool true)], args := [d1, d2] }
  | _ => none }
def depsScriptRow : OpenClaim := { program := "ytoimbhdjhhmonaa", sum := "4996f2230a2e27107dae5e81880b884292b9773191413f4b042063a653ef424a", func := "tallystone/tallystonelaw47.DepsScript", spec := "depsScript", unfollowed := true, recurses := true, plainKeys := false, apart := false }
def DepsScriptSaid : Prop := depsScriptRow.holds Try.pinned (OpenSpec.ofChange depsScriptSpec)

/-- ITS FALSE NEIGHBOUR: 'it returns false'. Refute it at one input. -/
def depsScriptWrong : ChangeSpec := { name := "depsScript", fn := fun _ => fun
  | [d1, d2] => { results := [.lit (.bool false)], args := [d1, d2] }
  | _ => none }
def DepsScriptWrongFalsely : Prop := depsScriptRow.holds Try.pinned (OpenSpec.ofChange depsScriptWrong)

/-- 'tallystonelaw47.DepsOrder': WHATEVER THE INPUT: true; the input reads as it did. -/
def depsOrderSpec : ChangeSpec := { name := "depsOrder", fn := fun _ => fun
  | [d] => { results := [.lit (.bool true)], args := [d] }
  | _ => none }
def depsOrderRow : OpenClaim := { program := "ytoimbhdjhhmonaa", sum := "4996f2230a2e27107dae5e81880b884292b9773191413f4b042063a653ef424a", func := "tallystone/tallystonelaw47.DepsOrder", spec := "depsOrder", inPlace := ["slices.overlaps[tallystone/api.Cell]"], unfollowed := true, recurses := true, plainKeys := false, apart := false }
def DepsOrderSaid : Prop := depsOrderRow.holds Try.pinned (OpenSpec.ofChange depsOrderSpec)

/-- ITS FALSE NEIGHBOUR: 'it returns false'. Refute it at one input. -/
def depsOrderWrong : ChangeSpec := { name := "depsOrder", fn := fun _ => fun
  | [d] => { results := [.lit (.bool false)], args := [d] }
  | _ => none }
def DepsOrderWrongFalsely : Prop := depsOrderRow.holds Try.pinned (OpenSpec.ofChange depsOrderWrong)

/-- 'tallystonelaw47.DepsSorts': WHATEVER THE INPUT: true; the input reads as it did. -/
def depsSortsSpec : ChangeSpec := { name := "depsSorts", fn := fun _ => fun
  | [d] => { results := [.lit (.bool true)], args := [d] }
  | _ => none }
def depsSortsRow : OpenClaim := { program := "ytoimbhdjhhmonaa", sum := "4996f2230a2e27107dae5e81880b884292b9773191413f4b042063a653ef424a", func := "tallystone/tallystonelaw47.DepsSorts", spec := "depsSorts", inPlace := ["slices.overlaps[tallystone/api.Cell]"], unfollowed := true, recurses := true, plainKeys := false, apart := false }
def DepsSortsSaid : Prop := depsSortsRow.holds Try.pinned (OpenSpec.ofChange depsSortsSpec)

/-- ITS FALSE NEIGHBOUR: 'it returns false'. Refute it at one input. -/
def depsSortsWrong : ChangeSpec := { name := "depsSorts", fn := fun _ => fun
  | [d] => { results := [.lit (.bool false)], args := [d] }
  | _ => none }
def DepsSortsWrongFalsely : Prop := depsSortsRow.holds Try.pinned (OpenSpec.ofChange depsSortsWrong)

/-- 'tallystonelaw47.DepsReverse': WHATEVER THE INPUT: true; the input reads as it did. -/
def depsReverseSpec : ChangeSpec := { name := "depsReverse", fn := fun _ => fun
  | [d1, d2] => { results := [.lit (.bool true)], args := [d1, d2] }
  | _ => none }
def depsReverseRow : OpenClaim := { program := "ytoimbhdjhhmonaa", sum := "4996f2230a2e27107dae5e81880b884292b9773191413f4b042063a653ef424a", func := "tallystone/tallystonelaw47.DepsReverse", spec := "depsReverse", inPlace := ["slices.overlaps[tallystone/api.Cell]"], unfollowed := true, recurses := true, plainKeys := false, apart := false }
def DepsReverseSaid : Prop := depsReverseRow.holds Try.pinned (OpenSpec.ofChange depsReverseSpec)

/-- ITS FALSE NEIGHBOUR: 'it returns false'. Refute it at one input. -/
def depsReverseWrong : ChangeSpec := { name := "depsReverse", fn := fun _ => fun
  | [d1, d2] => { results := [.lit (.bool false)], args := [d1, d2] }
  | _ => none }
def DepsReverseWrongFalsely : Prop := depsReverseRow.holds Try.pinned (OpenSpec.ofChange depsReverseWrong)

/- THE SECOND FORM. 'bulk': how many values and letters a reading holds, each counted each time it is reached (what is shared counts as often as it is met; a slice's spare places count too). A statement '..UptoSaid' is the law's where the arguments, and the package variables that the reading takes, are together of bulk at most 1048576: NARROWER than '..Said'. Prove '..Said' where nothing that the law and all that it calls make is longer than what came in: it says more and counts as full. Else prove '..UptoSaid'. A law counts once. -/
mutual
def uptoBulk {H : Type} : DataW H → Nat
  | .lit (.string bytes) => bytes.length + 1
  | .lit _ => 1
  | .nil => 1
  | .ptr d => uptoBulk d + 1
  | .slice elems spare => uptoBulkAll elems + uptoBulkAll spare + 1
  | .agg parts => uptoBulkAll parts + 1
  | .iface _ d => uptoBulk d + 1
  | .map entries => uptoBulkEntries entries + 1
  | .held _ => 1
def uptoBulkAll {H : Type} : List (DataW H) → Nat
  | [] => 0
  | d :: r => uptoBulk d + uptoBulkAll r
def uptoBulkEntries {H : Type} : List (Lit × DataW H) → Nat
  | [] => 0
  | x :: r => uptoBulkEntry x + uptoBulkEntries r
def uptoBulkEntry {H : Type} : Lit × DataW H → Nat
  | (.string bytes, d) => bytes.length + uptoBulk d + 1
  | (_, d) => uptoBulk d + 1
 end
def uptoSmall : (H : Type) → List (DataW H) → Bool := fun _ ds => decide (uptoBulkAll ds ≤ 1048576)
def OpenSpec.upto (s : _root_.Go.ChangeSpec) : _root_.Go.OpenSpec := { _root_.Go.OpenSpec.ofChange s with cond := some uptoSmall }

/-- 'tallystonelaw47.DepsAffected', WHERE WHAT IT READS IS OF BULK AT MOST 1048576: true; the input reads as it did. -/
def depsAffectedUptoRow : OpenClaim := { program := "ytoimbhdjhhmonaa", sum := "4996f2230a2e27107dae5e81880b884292b9773191413f4b042063a653ef424a", func := "tallystone/tallystonelaw47.DepsAffected", spec := "depsAffected", unfollowed := true, recurses := true, plainKeys := false, apart := false, narrowed := true }
def DepsAffectedUptoSaid : Prop := depsAffectedUptoRow.holds Try.pinned (OpenSpec.upto depsAffectedSpec)

/-- 'tallystonelaw47.DepsReaches', WHERE WHAT IT READS IS OF BULK AT MOST 1048576: true; the input reads as it did. -/
def depsReachesUptoRow : OpenClaim := { program := "ytoimbhdjhhmonaa", sum := "4996f2230a2e27107dae5e81880b884292b9773191413f4b042063a653ef424a", func := "tallystone/tallystonelaw47.DepsReaches", spec := "depsReaches", unfollowed := true, recurses := true, plainKeys := false, apart := false, narrowed := true }
def DepsReachesUptoSaid : Prop := depsReachesUptoRow.holds Try.pinned (OpenSpec.upto depsReachesSpec)

/-- 'tallystonelaw47.DepsScript', WHERE WHAT IT READS IS OF BULK AT MOST 1048576: true; the input reads as it did. -/
def depsScriptUptoRow : OpenClaim := { program := "ytoimbhdjhhmonaa", sum := "4996f2230a2e27107dae5e81880b884292b9773191413f4b042063a653ef424a", func := "tallystone/tallystonelaw47.DepsScript", spec := "depsScript", unfollowed := true, recurses := true, plainKeys := false, apart := false, narrowed := true }
def DepsScriptUptoSaid : Prop := depsScriptUptoRow.holds Try.pinned (OpenSpec.upto depsScriptSpec)

/-- 'tallystonelaw47.DepsOrder', WHERE WHAT IT READS IS OF BULK AT MOST 1048576: true; the input reads as it did. -/
def depsOrderUptoRow : OpenClaim := { program := "ytoimbhdjhhmonaa", sum := "4996f2230a2e27107dae5e81880b884292b9773191413f4b042063a653ef424a", func := "tallystone/tallystonelaw47.DepsOrder", spec := "depsOrder", inPlace := ["slices.overlaps[tallystone/api.Cell]"], unfollowed := true, recurses := true, plainKeys := false, apart := false, narrowed := true }
def DepsOrderUptoSaid : Prop := depsOrderUptoRow.holds Try.pinned (OpenSpec.upto depsOrderSpec)

/-- 'tallystonelaw47.DepsSorts', WHERE WHAT IT READS IS OF BULK AT MOST 1048576: true; the input reads as it did. -/
def depsSortsUptoRow : OpenClaim := { program := "ytoimbhdjhhmonaa", sum := "4996f2230a2e27107dae5e81880b884292b9773191413f4b042063a653ef424a", func := "tallystone/tallystonelaw47.DepsSorts", spec := "depsSorts", inPlace := ["slices.overlaps[tallystone/api.Cell]"], unfollowed := true, recurses := true, plainKeys := false, apart := false, narrowed := true }
def DepsSortsUptoSaid : Prop := depsSortsUptoRow.holds Try.pinned (OpenSpec.upto depsSortsSpec)

/-- 'tallystonelaw47.DepsReverse', WHERE WHAT IT READS IS OF BULK AT MOST 1048576: true; the input reads as it did. -/
def depsReverseUptoRow : OpenClaim := { program := "ytoimbhdjhhmonaa", sum := "4996f2230a2e27107dae5e81880b884292b9773191413f4b042063a653ef424a", func := "tallystone/tallystonelaw47.DepsReverse", spec := "depsReverse", inPlace := ["slices.overlaps[tallystone/api.Cell]"], unfollowed := true, recurses := true, plainKeys := false, apart := false, narrowed := true }
def DepsReverseUptoSaid : Prop := depsReverseUptoRow.holds Try.pinned (OpenSpec.upto depsReverseSpec)

end Rows
end Go.Proofs.Ytoimbhdjhhmonaa
