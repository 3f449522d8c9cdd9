/-
  No cell of these rows narrows 'for every input' (looked for: loops, veiled, ifaces, maps, wideKeys, modest, calm, conditions, laid).
  DERIVED. THE GIVEN ROWS OF THIS SEAT. 6 by the template 'for every input the law returns true; each argument reads behind the call as it read before'; 0 by the template 'total and deterministic' (their statements: YtmlcdoilbonelaaTotals.lean).
  GIVEN WITH THE SEED: the statements are not yours to turn. If you find one false, say at which input.
  Laid BY PROGRAM, IN A SANDBOX (cutbox-rows.mjs): the forced cells as the released guide's own fill.sh prints them over the translation 7c6611e61e65e4a5… (all of the seat's roots in one cut). By AI agents, Wed Nov 11 2026. No macro, syntax, notation, axiom, sorry.
-/
import Derived.Test.YtmlcdoilbonelaaChecked
import GoSem.Claim
import GoSem.ClaimJoined
import GoSem.ClaimMapViews
import Derived.JoinedTies
import Derived.KernelRfl
namespace Go.Proofs.Ytmlcdoilbonelaa
/- THE CELL 'sum', in the pinned program and in every row, IS THE sha256 OF THE DUMP (.gsa) THAT YtmlcdoilbonelaaProg.lean LOADS. Nothing in Lean hashes anything: it is a label: what it is worth is what the hold of that sum in a sandbox is worth. -/
noncomputable def Try.pinned : Pinned := { name := "ytmlcdoilbonelaa", sum := "7c6611e61e65e4a53aa8a9e47043212cf3b076f265de10bdb6da7b74bdb1eef1", checked := Try.checked }
namespace Rows
def none {H : Type} : Left H := { results := [], args := [] }

/-- 'tallystonelaw29.DisputeRun': WHATEVER THE INPUT: true; the input reads as it did. -/
def disputeRunSpec : ChangeSpec := { name := "disputeRun", fn := fun _ => fun
  | [d1, d2] => { results := [.lit (.bool true)], args := [d1, d2] }
  | _ => none }
def disputeRunRow : OpenClaim := { program := "ytmlcdoilbonelaa", sum := "7c6611e61e65e4a53aa8a9e47043212cf3b076f265de10bdb6da7b74bdb1eef1", func := "tallystone/tallystonelaw29.DisputeRun", spec := "disputeRun", apart := false }
def DisputeRunSaid : Prop := disputeRunRow.holds Try.pinned (OpenSpec.ofChange disputeRunSpec)

/-- ITS FALSE NEIGHBOUR: 'it returns false'. Refute it at one input. -/
def disputeRunWrong : ChangeSpec := { name := "disputeRun", fn := fun _ => fun
  | [d1, d2] => { results := [.lit (.bool false)], args := [d1, d2] }
  | _ => none }
def DisputeRunWrongFalsely : Prop := disputeRunRow.holds Try.pinned (OpenSpec.ofChange disputeRunWrong)

/-- 'tallystonelaw29.DisputeSides': WHATEVER THE INPUT: true; the input reads as it did. -/
def disputeSidesSpec : ChangeSpec := { name := "disputeSides", fn := fun _ => fun
  | [d1, d2] => { results := [.lit (.bool true)], args := [d1, d2] }
  | _ => none }
def disputeSidesRow : OpenClaim := { program := "ytmlcdoilbonelaa", sum := "7c6611e61e65e4a53aa8a9e47043212cf3b076f265de10bdb6da7b74bdb1eef1", func := "tallystone/tallystonelaw29.DisputeSides", spec := "disputeSides", apart := false }
def DisputeSidesSaid : Prop := disputeSidesRow.holds Try.pinned (OpenSpec.ofChange disputeSidesSpec)

/-- ITS FALSE NEIGHBOUR: 'it returns false'. Refute it at one input. -/
def disputeSidesWrong : ChangeSpec := { name := "disputeSides", fn := fun _ => fun
  | [d1, d2] => { results := [.lit (.bool false)], args := [d1, d2] }
  | _ => none }
def DisputeSidesWrongFalsely : Prop := disputeSidesRow.holds Try.pinned (OpenSpec.ofChange disputeSidesWrong)

/-- 'tallystonelaw29.DisputePath': WHATEVER THE INPUT: true; the input reads as it did. -/
def disputePathSpec : ChangeSpec := { name := "disputePath", fn := fun _ => fun
  | [d1, d2] => { results := [.lit (.bool true)], args := [d1, d2] }
  | _ => none }
def disputePathRow : OpenClaim := { program := "ytmlcdoilbonelaa", sum := "7c6611e61e65e4a53aa8a9e47043212cf3b076f265de10bdb6da7b74bdb1eef1", func := "tallystone/tallystonelaw29.DisputePath", spec := "disputePath", recurses := true, apart := false }
def DisputePathSaid : Prop := disputePathRow.holds Try.pinned (OpenSpec.ofChange disputePathSpec)

/-- ITS FALSE NEIGHBOUR: 'it returns false'. Refute it at one input. -/
def disputePathWrong : ChangeSpec := { name := "disputePath", fn := fun _ => fun
  | [d1, d2] => { results := [.lit (.bool false)], args := [d1, d2] }
  | _ => none }
def DisputePathWrongFalsely : Prop := disputePathRow.holds Try.pinned (OpenSpec.ofChange disputePathWrong)

/-- 'tallystonelaw29.DisputeShortest': WHATEVER THE INPUT: true; the input reads as it did. -/
def disputeShortestSpec : ChangeSpec := { name := "disputeShortest", fn := fun _ => fun
  | [d1, d2] => { results := [.lit (.bool true)], args := [d1, d2] }
  | _ => none }
def disputeShortestRow : OpenClaim := { program := "ytmlcdoilbonelaa", sum := "7c6611e61e65e4a53aa8a9e47043212cf3b076f265de10bdb6da7b74bdb1eef1", func := "tallystone/tallystonelaw29.DisputeShortest", spec := "disputeShortest", apart := false }
def DisputeShortestSaid : Prop := disputeShortestRow.holds Try.pinned (OpenSpec.ofChange disputeShortestSpec)

/-- ITS FALSE NEIGHBOUR: 'it returns false'. Refute it at one input. -/
def disputeShortestWrong : ChangeSpec := { name := "disputeShortest", fn := fun _ => fun
  | [d1, d2] => { results := [.lit (.bool false)], args := [d1, d2] }
  | _ => none }
def DisputeShortestWrongFalsely : Prop := disputeShortestRow.holds Try.pinned (OpenSpec.ofChange disputeShortestWrong)

/-- 'tallystonelaw29.DisputeBoth': WHATEVER THE INPUT: true; the input reads as it did. -/
def disputeBothSpec : ChangeSpec := { name := "disputeBoth", fn := fun _ => fun
  | [d1, d2, d3] => { results := [.lit (.bool true)], args := [d1, d2, d3] }
  | _ => none }
def disputeBothRow : OpenClaim := { program := "ytmlcdoilbonelaa", sum := "7c6611e61e65e4a53aa8a9e47043212cf3b076f265de10bdb6da7b74bdb1eef1", func := "tallystone/tallystonelaw29.DisputeBoth", spec := "disputeBoth", apart := false }
def DisputeBothSaid : Prop := disputeBothRow.holds Try.pinned (OpenSpec.ofChange disputeBothSpec)

/-- ITS FALSE NEIGHBOUR: 'it returns false'. Refute it at one input. -/
def disputeBothWrong : ChangeSpec := { name := "disputeBoth", fn := fun _ => fun
  | [d1, d2, d3] => { results := [.lit (.bool false)], args := [d1, d2, d3] }
  | _ => none }
def DisputeBothWrongFalsely : Prop := disputeBothRow.holds Try.pinned (OpenSpec.ofChange disputeBothWrong)

/-- 'tallystonelaw29.DisputeNext': WHATEVER THE INPUT: true; the input reads as it did. -/
def disputeNextSpec : ChangeSpec := { name := "disputeNext", fn := fun _ => fun
  | [d1, d2, d3] => { results := [.lit (.bool true)], args := [d1, d2, d3] }
  | _ => none }
def disputeNextRow : OpenClaim := { program := "ytmlcdoilbonelaa", sum := "7c6611e61e65e4a53aa8a9e47043212cf3b076f265de10bdb6da7b74bdb1eef1", func := "tallystone/tallystonelaw29.DisputeNext", spec := "disputeNext", unfollowed := true, recurses := true, apart := false }
def DisputeNextSaid : Prop := disputeNextRow.holds Try.pinned (OpenSpec.ofChange disputeNextSpec)

/-- ITS FALSE NEIGHBOUR: 'it returns false'. Refute it at one input. -/
def disputeNextWrong : ChangeSpec := { name := "disputeNext", fn := fun _ => fun
  | [d1, d2, d3] => { results := [.lit (.bool false)], args := [d1, d2, d3] }
  | _ => none }
def DisputeNextWrongFalsely : Prop := disputeNextRow.holds Try.pinned (OpenSpec.ofChange disputeNextWrong)

/- THE SECOND FORM. 'bulk': how many values and letters a reading holds, each counted each time it is reached (what is shared counts as often as it is met; a slice's spare places count too). A statement '..UptoSaid' is the law's where the arguments, and the package variables that the reading takes, are together of bulk at most 1048576: NARROWER than '..Said'. Prove '..Said' where nothing that the law and all that it calls make is longer than what came in: it says more and counts as full. Else prove '..UptoSaid'. A law counts once. -/
mutual
def uptoBulk {H : Type} : DataW H → Nat
  | .lit (.string bytes) => bytes.length + 1
  | .lit _ => 1
  | .nil => 1
  | .ptr d => uptoBulk d + 1
  | .slice elems spare => uptoBulkAll elems + uptoBulkAll spare + 1
  | .agg parts => uptoBulkAll parts + 1
  | .iface _ d => uptoBulk d + 1
  | .map entries => uptoBulkEntries entries + 1
  | .held _ => 1
def uptoBulkAll {H : Type} : List (DataW H) → Nat
  | [] => 0
  | d :: r => uptoBulk d + uptoBulkAll r
def uptoBulkEntries {H : Type} : List (Lit × DataW H) → Nat
  | [] => 0
  | x :: r => uptoBulkEntry x + uptoBulkEntries r
def uptoBulkEntry {H : Type} : Lit × DataW H → Nat
  | (.string bytes, d) => bytes.length + uptoBulk d + 1
  | (_, d) => uptoBulk d + 1
 end
def uptoSmall : (H : Type) → List (DataW H) → Bool := fun _ ds => decide (uptoBulkAll ds ≤ 1048576)
def OpenSpec.upto (s : _root_.Go.ChangeSpec) : _root_.Go.OpenSpec := { _root_.Go.OpenSpec.ofChange s with cond := some uptoSmall }

/-- 'tallystonelaw29.DisputeRun', WHERE WHAT IT READS IS OF BULK AT MOST 1048576: true; the input reads as it did. -/
def disputeRunUptoRow : OpenClaim := { program := "ytmlcdoilbonelaa", sum := "7c6611e61e65e4a53aa8a9e47043212cf3b076f265de10bdb6da7b74bdb1eef1", func := "tallystone/tallystonelaw29.DisputeRun", spec := "disputeRun", apart := false, narrowed := true }
def DisputeRunUptoSaid : Prop := disputeRunUptoRow.holds Try.pinned (OpenSpec.upto disputeRunSpec)

/-- 'tallystonelaw29.DisputeSides', WHERE WHAT IT READS IS OF BULK AT MOST 1048576: true; the input reads as it did. -/
def disputeSidesUptoRow : OpenClaim := { program := "ytmlcdoilbonelaa", sum := "7c6611e61e65e4a53aa8a9e47043212cf3b076f265de10bdb6da7b74bdb1eef1", func := "tallystone/tallystonelaw29.DisputeSides", spec := "disputeSides", apart := false, narrowed := true }
def DisputeSidesUptoSaid : Prop := disputeSidesUptoRow.holds Try.pinned (OpenSpec.upto disputeSidesSpec)

/-- 'tallystonelaw29.DisputePath', WHERE WHAT IT READS IS OF BULK AT MOST 1048576: true; the input reads as it did. -/
def disputePathUptoRow : OpenClaim := { program := "ytmlcdoilbonelaa", sum := "7c6611e61e65e4a53aa8a9e47043212cf3b076f265de10bdb6da7b74bdb1eef1", func := "tallystone/tallystonelaw29.DisputePath", spec := "disputePath", recurses := true, apart := false, narrowed := true }
def DisputePathUptoSaid : Prop := disputePathUptoRow.holds Try.pinned (OpenSpec.upto disputePathSpec)

/-- 'tallystonelaw29.DisputeShortest', WHERE WHAT IT READS IS OF BULK AT MOST 1048576: true; the input reads as it did. -/
def disputeShortestUptoRow : OpenClaim := { program := "ytmlcdoilbonelaa", sum := "7c6611e61e65e4a53aa8a9e47043212cf3b076f265de10bdb6da7b74bdb1eef1", func := "tallystone/tallystonelaw29.DisputeShortest", spec := "disputeShortest", apart := false, narrowed := true }
def DisputeShortestUptoSaid : Prop := disputeShortestUptoRow.holds Try.pinned (OpenSpec.upto disputeShortestSpec)

/-- 'tallystonelaw29.DisputeBoth', WHERE WHAT IT READS IS OF BULK AT MOST 1048576: true; the input reads as it did. -/
def disputeBothUptoRow : OpenClaim := { program := "ytmlcdoilbonelaa", sum := "7c6611e61e65e4a53aa8a9e47043212cf3b076f265de10bdb6da7b74bdb1eef1", func := "tallystone/tallystonelaw29.DisputeBoth", spec := "disputeBoth", apart := false, narrowed := true }
def DisputeBothUptoSaid : Prop := disputeBothUptoRow.holds Try.pinned (OpenSpec.upto disputeBothSpec)

/-- 'tallystonelaw29.DisputeNext', WHERE WHAT IT READS IS OF BULK AT MOST 1048576: true; the input reads as it did. -/
def disputeNextUptoRow : OpenClaim := { program := "ytmlcdoilbonelaa", sum := "7c6611e61e65e4a53aa8a9e47043212cf3b076f265de10bdb6da7b74bdb1eef1", func := "tallystone/tallystonelaw29.DisputeNext", spec := "disputeNext", unfollowed := true, recurses := true, apart := false, narrowed := true }
def DisputeNextUptoSaid : Prop := disputeNextUptoRow.holds Try.pinned (OpenSpec.upto disputeNextSpec)

end Rows
end Go.Proofs.Ytmlcdoilbonelaa
