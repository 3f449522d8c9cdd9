/-
  No cell of these rows narrows 'for every input' (looked for: loops, veiled, ifaces, maps, wideKeys, modest, calm, conditions, laid).
  DERIVED. THE GIVEN ROWS OF THIS SEAT. 5 by the template 'for every input the law returns true; each argument reads behind the call as it read before'; 0 by the template 'total and deterministic' (their statements: YtdcjocldggmdbaaTotals.lean).
  GIVEN WITH THE SEED: the statements are not yours to turn. If you find one false, say at which input.
  Laid BY PROGRAM, IN A SANDBOX (cutbox-rows.mjs): the forced cells as the released guide's own fill.sh prints them over the translation 2b3963df976549e1… (all of the seat's roots in one cut). By AI agents, Wed Nov 11 2026. No macro, syntax, notation, axiom, sorry.
-/
import Derived.Test.YtdcjocldggmdbaaChecked
import GoSem.Claim
import GoSem.ClaimJoined
import GoSem.ClaimMapViews
import Derived.JoinedTies
import Derived.KernelRfl
namespace Go.Proofs.Ytdcjocldggmdbaa
/- THE CELL 'sum', in the pinned program and in every row, IS THE sha256 OF THE DUMP (.gsa) THAT YtdcjocldggmdbaaProg.lean LOADS. Nothing in Lean hashes anything: it is a label: what it is worth is what the hold of that sum in a sandbox is worth. -/
noncomputable def Try.pinned : Pinned := { name := "ytdcjocldggmdbaa", sum := "2b3963df976549e1d040c0073c1d44cd3ca96053c4d6b1e89fce08c8a36140c6", checked := Try.checked }
namespace Rows
def none {H : Type} : Left H := { results := [], args := [] }

/-- 'tallystonelaw53.WorkflowValid': WHATEVER THE INPUT: true; the input reads as it did. -/
def workflowValidSpec : ChangeSpec := { name := "workflowValid", fn := fun _ => fun
  | [d] => { results := [.lit (.bool true)], args := [d] }
  | _ => none }
def workflowValidRow : OpenClaim := { program := "ytdcjocldggmdbaa", sum := "2b3963df976549e1d040c0073c1d44cd3ca96053c4d6b1e89fce08c8a36140c6", func := "tallystone/tallystonelaw53.WorkflowValid", spec := "workflowValid", unfollowed := true, recurses := true, plainKeys := false, apart := false }
def WorkflowValidSaid : Prop := workflowValidRow.holds Try.pinned (OpenSpec.ofChange workflowValidSpec)

/-- ITS FALSE NEIGHBOUR: 'it returns false'. Refute it at one input. -/
def workflowValidWrong : ChangeSpec := { name := "workflowValid", fn := fun _ => fun
  | [d] => { results := [.lit (.bool false)], args := [d] }
  | _ => none }
def WorkflowValidWrongFalsely : Prop := workflowValidRow.holds Try.pinned (OpenSpec.ofChange workflowValidWrong)

/-- 'tallystonelaw53.WorkflowScript': WHATEVER THE INPUT: true; the input reads as it did. -/
def workflowScriptSpec : ChangeSpec := { name := "workflowScript", fn := fun _ => fun
  | [d1, d2] => { results := [.lit (.bool true)], args := [d1, d2] }
  | _ => none }
def workflowScriptRow : OpenClaim := { program := "ytdcjocldggmdbaa", sum := "2b3963df976549e1d040c0073c1d44cd3ca96053c4d6b1e89fce08c8a36140c6", func := "tallystone/tallystonelaw53.WorkflowScript", spec := "workflowScript", unfollowed := true, recurses := true, plainKeys := false, apart := false }
def WorkflowScriptSaid : Prop := workflowScriptRow.holds Try.pinned (OpenSpec.ofChange workflowScriptSpec)

/-- ITS FALSE NEIGHBOUR: 'it returns false'. Refute it at one input. -/
def workflowScriptWrong : ChangeSpec := { name := "workflowScript", fn := fun _ => fun
  | [d1, d2] => { results := [.lit (.bool false)], args := [d1, d2] }
  | _ => none }
def WorkflowScriptWrongFalsely : Prop := workflowScriptRow.holds Try.pinned (OpenSpec.ofChange workflowScriptWrong)

/-- 'tallystonelaw53.WorkflowReopens': WHATEVER THE INPUT: true; the input reads as it did. -/
def workflowReopensSpec : ChangeSpec := { name := "workflowReopens", fn := fun _ => fun
  | [d1, d2, d3] => { results := [.lit (.bool true)], args := [d1, d2, d3] }
  | _ => none }
def workflowReopensRow : OpenClaim := { program := "ytdcjocldggmdbaa", sum := "2b3963df976549e1d040c0073c1d44cd3ca96053c4d6b1e89fce08c8a36140c6", func := "tallystone/tallystonelaw53.WorkflowReopens", spec := "workflowReopens", unfollowed := true, recurses := true, plainKeys := false, apart := false }
def WorkflowReopensSaid : Prop := workflowReopensRow.holds Try.pinned (OpenSpec.ofChange workflowReopensSpec)

/-- ITS FALSE NEIGHBOUR: 'it returns false'. Refute it at one input. -/
def workflowReopensWrong : ChangeSpec := { name := "workflowReopens", fn := fun _ => fun
  | [d1, d2, d3] => { results := [.lit (.bool false)], args := [d1, d2, d3] }
  | _ => none }
def WorkflowReopensWrongFalsely : Prop := workflowReopensRow.holds Try.pinned (OpenSpec.ofChange workflowReopensWrong)

/-- 'tallystonelaw53.WorkflowCompletes': WHATEVER THE INPUT: true; the input reads as it did. -/
def workflowCompletesSpec : ChangeSpec := { name := "workflowCompletes", fn := fun _ => fun
  | [d1, d2, d3] => { results := [.lit (.bool true)], args := [d1, d2, d3] }
  | _ => none }
def workflowCompletesRow : OpenClaim := { program := "ytdcjocldggmdbaa", sum := "2b3963df976549e1d040c0073c1d44cd3ca96053c4d6b1e89fce08c8a36140c6", func := "tallystone/tallystonelaw53.WorkflowCompletes", spec := "workflowCompletes", unfollowed := true, recurses := true, plainKeys := false, apart := false }
def WorkflowCompletesSaid : Prop := workflowCompletesRow.holds Try.pinned (OpenSpec.ofChange workflowCompletesSpec)

/-- ITS FALSE NEIGHBOUR: 'it returns false'. Refute it at one input. -/
def workflowCompletesWrong : ChangeSpec := { name := "workflowCompletes", fn := fun _ => fun
  | [d1, d2, d3] => { results := [.lit (.bool false)], args := [d1, d2, d3] }
  | _ => none }
def WorkflowCompletesWrongFalsely : Prop := workflowCompletesRow.holds Try.pinned (OpenSpec.ofChange workflowCompletesWrong)

/-- 'tallystonelaw53.WorkflowConsistent': WHATEVER THE INPUT: true; the input reads as it did. -/
def workflowConsistentSpec : ChangeSpec := { name := "workflowConsistent", fn := fun _ => fun
  | [d1, d2, d3] => { results := [.lit (.bool true)], args := [d1, d2, d3] }
  | _ => none }
def workflowConsistentRow : OpenClaim := { program := "ytdcjocldggmdbaa", sum := "2b3963df976549e1d040c0073c1d44cd3ca96053c4d6b1e89fce08c8a36140c6", func := "tallystone/tallystonelaw53.WorkflowConsistent", spec := "workflowConsistent", unfollowed := true, recurses := true, plainKeys := false, apart := false }
def WorkflowConsistentSaid : Prop := workflowConsistentRow.holds Try.pinned (OpenSpec.ofChange workflowConsistentSpec)

/-- ITS FALSE NEIGHBOUR: 'it returns false'. Refute it at one input. -/
def workflowConsistentWrong : ChangeSpec := { name := "workflowConsistent", fn := fun _ => fun
  | [d1, d2, d3] => { results := [.lit (.bool false)], args := [d1, d2, d3] }
  | _ => none }
def WorkflowConsistentWrongFalsely : Prop := workflowConsistentRow.holds Try.pinned (OpenSpec.ofChange workflowConsistentWrong)

/- THE SECOND FORM. 'bulk': how many values and letters a reading holds, each counted each time it is reached (what is shared counts as often as it is met; a slice's spare places count too). A statement '..UptoSaid' is the law's where the arguments, and the package variables that the reading takes, are together of bulk at most 1048576: NARROWER than '..Said'. Prove '..Said' where nothing that the law and all that it calls make is longer than what came in: it says more and counts as full. Else prove '..UptoSaid'. A law counts once. -/
mutual
def uptoBulk {H : Type} : DataW H → Nat
  | .lit (.string bytes) => bytes.length + 1
  | .lit _ => 1
  | .nil => 1
  | .ptr d => uptoBulk d + 1
  | .slice elems spare => uptoBulkAll elems + uptoBulkAll spare + 1
  | .agg parts => uptoBulkAll parts + 1
  | .iface _ d => uptoBulk d + 1
  | .map entries => uptoBulkEntries entries + 1
  | .held _ => 1
def uptoBulkAll {H : Type} : List (DataW H) → Nat
  | [] => 0
  | d :: r => uptoBulk d + uptoBulkAll r
def uptoBulkEntries {H : Type} : List (Lit × DataW H) → Nat
  | [] => 0
  | x :: r => uptoBulkEntry x + uptoBulkEntries r
def uptoBulkEntry {H : Type} : Lit × DataW H → Nat
  | (.string bytes, d) => bytes.length + uptoBulk d + 1
  | (_, d) => uptoBulk d + 1
 end
def uptoSmall : (H : Type) → List (DataW H) → Bool := fun _ ds => decide (uptoBulkAll ds ≤ 1048576)
def OpenSpec.upto (s : _root_.Go.ChangeSpec) : _root_.Go.OpenSpec := { _root_.Go.OpenSpec.ofChange s with cond := some uptoSmall }

/-- 'tallystonelaw53.WorkflowValid', WHERE WHAT IT READS IS OF BULK AT MOST 1048576: true; the input reads as it did. -/
def workflowValidUptoRow : OpenClaim := { program := "ytdcjocldggmdbaa", sum := "2b3963df976549e1d040c0073c1d44cd3ca96053c4d6b1e89fce08c8a36140c6", func := "tallystone/tallystonelaw53.WorkflowValid", spec := "workflowValid", unfollowed := true, recurses := true, plainKeys := false, apart := false, narrowed := true }
def WorkflowValidUptoSaid : Prop := workflowValidUptoRow.holds Try.pinned (OpenSpec.upto workflowValidSpec)

/-- 'tallystonelaw53.WorkflowScript', WHERE WHAT IT READS IS OF BULK AT MOST 1048576: true; the input reads as it did. -/
def workflowScriptUptoRow : OpenClaim := { program := "ytdcjocldggmdbaa", sum := "2b3963df976549e1d040c0073c1d44cd3ca96053c4d6b1e89fce08c8a36140c6", func := "tallystone/tallystonelaw53.WorkflowScript", spec := "workflowScript", unfollowed := true, recurses := true, plainKeys := false, apart := false, narrowed := true }
def WorkflowScriptUptoSaid : Prop := workflowScriptUptoRow.holds Try.pinned (OpenSpec.upto workflowScriptSpec)

/-- 'tallystonelaw53.WorkflowReopens', WHERE WHAT IT READS IS OF BULK AT MOST 1048576: true; the input reads as it did. -/
def workflowReopensUptoRow : OpenClaim := { program := "ytdcjocldggmdbaa", sum := "2b3963df976549e1d040c0073c1d44cd3ca96053c4d6b1e89fce08c8a36140c6", func := "tallystone/tallystonelaw53.WorkflowReopens", spec := "workflowReopens", unfollowed := true, recurses := true, plainKeys := false, apart := false, narrowed := true }
def WorkflowReopensUptoSaid : Prop := workflowReopensUptoRow.holds Try.pinned (OpenSpec.upto workflowReopensSpec)

/-- 'tallystonelaw53.WorkflowCompletes', WHERE WHAT IT READS IS OF BULK AT MOST 1048576: true; the input reads as it did. -/
def workflowCompletesUptoRow : OpenClaim := { program := "ytdcjocldggmdbaa", sum := "2b3963df976549e1d040c0073c1d44cd3ca96053c4d6b1e89fce08c8a36140c6", func := "tallystone/tallystonelaw53.WorkflowCompletes", spec := "workflowCompletes", unfollowed := true, recurses := true, plainKeys := false, apart := false, narrowed := true }
def WorkflowCompletesUptoSaid : Prop := workflowCompletesUptoRow.holds Try.pinned (OpenSpec.upto workflowCompletesSpec)

/-- 'tallystonelaw53.WorkflowConsistent', WHERE WHAT IT READS IS OF BULK AT MOST 1048576: true; the input reads as it did. -/
def workflowConsistentUptoRow : OpenClaim := { program := "ytdcjocldggmdbaa", sum := "2b3963df976549e1d040c0073c1d44cd3ca96053c4d6b1e89fce08c8a36140c6", func := "tallystone/tallystonelaw53.WorkflowConsistent", spec := "workflowConsistent", unfollowed := true, recurses := true, plainKeys := false, apart := false, narrowed := true }
def WorkflowConsistentUptoSaid : Prop := workflowConsistentUptoRow.holds Try.pinned (OpenSpec.upto workflowConsistentSpec)

end Rows
end Go.Proofs.Ytdcjocldggmdbaa
