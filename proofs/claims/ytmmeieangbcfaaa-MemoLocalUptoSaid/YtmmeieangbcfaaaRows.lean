/-
  No cell of these rows narrows 'for every input' (looked for: loops, veiled, ifaces, maps, wideKeys, modest, calm, conditions, laid).
  DERIVED. THE GIVEN ROWS OF THIS SEAT. 5 by the template 'for every input the law returns true; each argument reads behind the call as it read before'; 0 by the template 'total and deterministic' (their statements: YtmmeieangbcfaaaTotals.lean).
  GIVEN WITH THE SEED: the statements are not yours to turn. If you find one false, say at which input.
  Laid BY PROGRAM, IN A SANDBOX (cutbox-rows.mjs): the forced cells as the released guide's own fill.sh prints them over the translation cd497292cf236a0a… (all of the seat's roots in one cut). By AI agents, Wed Nov 11 2026. No macro, syntax, notation, axiom, sorry.
-/
import Derived.Test.YtmmeieangbcfaaaChecked
import GoSem.Claim
import GoSem.ClaimJoined
import GoSem.ClaimMapViews
import Derived.JoinedTies
import Derived.KernelRfl
namespace Go.Proofs.Ytmmeieangbcfaaa
/- THE CELL 'sum', in the pinned program and in every row, IS THE sha256 OF THE DUMP (.gsa) THAT YtmmeieangbcfaaaProg.lean LOADS. Nothing in Lean hashes anything: it is a label: what it is worth is what the hold of that sum in a sandbox is worth. -/
noncomputable def Try.pinned : Pinned := { name := "ytmmeieangbcfaaa", sum := "cd497292cf236a0a4b70c30e06fe6a93ce94bf1b018b1099df62e5a79c8e6bc8", checked := Try.checked }
namespace Rows
def none {H : Type} : Left H := { results := [], args := [] }

/-- 'tallystonelaw48.MemoRight': WHATEVER THE INPUT: true; the input reads as it did. -/
def memoRightSpec : ChangeSpec := { name := "memoRight", fn := fun _ => fun
  | [d1, d2, d3] => { results := [.lit (.bool true)], args := [d1, d2, d3] }
  | _ => none }
def memoRightRow : OpenClaim := { program := "ytmmeieangbcfaaa", sum := "cd497292cf236a0a4b70c30e06fe6a93ce94bf1b018b1099df62e5a79c8e6bc8", func := "tallystone/tallystonelaw48.MemoRight", spec := "memoRight", unfollowed := true, recurses := true, plainKeys := false, apart := false }
def MemoRightSaid : Prop := memoRightRow.holds Try.pinned (OpenSpec.ofChange memoRightSpec)

/-- ITS FALSE NEIGHBOUR: 'it returns false'. Refute it at one input. -/
def memoRightWrong : ChangeSpec := { name := "memoRight", fn := fun _ => fun
  | [d1, d2, d3] => { results := [.lit (.bool false)], args := [d1, d2, d3] }
  | _ => none }
def MemoRightWrongFalsely : Prop := memoRightRow.holds Try.pinned (OpenSpec.ofChange memoRightWrong)

/-- 'tallystonelaw48.MemoLocal': WHATEVER THE INPUT: true; the input reads as it did. -/
def memoLocalSpec : ChangeSpec := { name := "memoLocal", fn := fun _ => fun
  | [d1, d2] => { results := [.lit (.bool true)], args := [d1, d2] }
  | _ => none }
def memoLocalRow : OpenClaim := { program := "ytmmeieangbcfaaa", sum := "cd497292cf236a0a4b70c30e06fe6a93ce94bf1b018b1099df62e5a79c8e6bc8", func := "tallystone/tallystonelaw48.MemoLocal", spec := "memoLocal", unfollowed := true, recurses := true, plainKeys := false, apart := false }
def MemoLocalSaid : Prop := memoLocalRow.holds Try.pinned (OpenSpec.ofChange memoLocalSpec)

/-- ITS FALSE NEIGHBOUR: 'it returns false'. Refute it at one input. -/
def memoLocalWrong : ChangeSpec := { name := "memoLocal", fn := fun _ => fun
  | [d1, d2] => { results := [.lit (.bool false)], args := [d1, d2] }
  | _ => none }
def MemoLocalWrongFalsely : Prop := memoLocalRow.holds Try.pinned (OpenSpec.ofChange memoLocalWrong)

/-- 'tallystonelaw48.MemoEnds': WHATEVER THE INPUT: true; the input reads as it did. -/
def memoEndsSpec : ChangeSpec := { name := "memoEnds", fn := fun _ => fun
  | [d1, d2] => { results := [.lit (.bool true)], args := [d1, d2] }
  | _ => none }
def memoEndsRow : OpenClaim := { program := "ytmmeieangbcfaaa", sum := "cd497292cf236a0a4b70c30e06fe6a93ce94bf1b018b1099df62e5a79c8e6bc8", func := "tallystone/tallystonelaw48.MemoEnds", spec := "memoEnds", unfollowed := true, recurses := true, plainKeys := false, apart := false }
def MemoEndsSaid : Prop := memoEndsRow.holds Try.pinned (OpenSpec.ofChange memoEndsSpec)

/-- ITS FALSE NEIGHBOUR: 'it returns false'. Refute it at one input. -/
def memoEndsWrong : ChangeSpec := { name := "memoEnds", fn := fun _ => fun
  | [d1, d2] => { results := [.lit (.bool false)], args := [d1, d2] }
  | _ => none }
def MemoEndsWrongFalsely : Prop := memoEndsRow.holds Try.pinned (OpenSpec.ofChange memoEndsWrong)

/-- 'tallystonelaw48.MemoCycles': WHATEVER THE INPUT: true; the input reads as it did. -/
def memoCyclesSpec : ChangeSpec := { name := "memoCycles", fn := fun _ => fun
  | [d1, d2, d3] => { results := [.lit (.bool true)], args := [d1, d2, d3] }
  | _ => none }
def memoCyclesRow : OpenClaim := { program := "ytmmeieangbcfaaa", sum := "cd497292cf236a0a4b70c30e06fe6a93ce94bf1b018b1099df62e5a79c8e6bc8", func := "tallystone/tallystonelaw48.MemoCycles", spec := "memoCycles", unfollowed := true, recurses := true, plainKeys := false, apart := false }
def MemoCyclesSaid : Prop := memoCyclesRow.holds Try.pinned (OpenSpec.ofChange memoCyclesSpec)

/-- ITS FALSE NEIGHBOUR: 'it returns false'. Refute it at one input. -/
def memoCyclesWrong : ChangeSpec := { name := "memoCycles", fn := fun _ => fun
  | [d1, d2, d3] => { results := [.lit (.bool false)], args := [d1, d2, d3] }
  | _ => none }
def MemoCyclesWrongFalsely : Prop := memoCyclesRow.holds Try.pinned (OpenSpec.ofChange memoCyclesWrong)

/-- 'tallystonelaw48.MemoNil': WHATEVER THE INPUT: true; the input reads as it did. -/
def memoNilSpec : ChangeSpec := { name := "memoNil", fn := fun _ => fun
  | [d] => { results := [.lit (.bool true)], args := [d] }
  | _ => none }
def memoNilRow : OpenClaim := { program := "ytmmeieangbcfaaa", sum := "cd497292cf236a0a4b70c30e06fe6a93ce94bf1b018b1099df62e5a79c8e6bc8", func := "tallystone/tallystonelaw48.MemoNil", spec := "memoNil", unfollowed := true, recurses := true, plainKeys := false, apart := false }
def MemoNilSaid : Prop := memoNilRow.holds Try.pinned (OpenSpec.ofChange memoNilSpec)

/-- ITS FALSE NEIGHBOUR: 'it returns false'. Refute it at one input. -/
def memoNilWrong : ChangeSpec := { name := "memoNil", fn := fun _ => fun
  | [d] => { results := [.lit (.bool false)], args := [d] }
  | _ => none }
def MemoNilWrongFalsely : Prop := memoNilRow.holds Try.pinned (OpenSpec.ofChange memoNilWrong)

/- THE SECOND FORM. 'bulk': how many values and letters a reading holds, each counted each time it is reached (what is shared counts as often as it is met; a slice's spare places count too). A statement '..UptoSaid' is the law's where the arguments, and the package variables that the reading takes, are together of bulk at most 1048576: NARROWER than '..Said'. Prove '..Said' where nothing that the law and all that it calls make is longer than what came in: it says more and counts as full. Else prove '..UptoSaid'. A law counts once. -/
mutual
def uptoBulk {H : Type} : DataW H → Nat
  | .lit (.string bytes) => bytes.length + 1
  | .lit _ => 1
  | .nil => 1
  | .ptr d => uptoBulk d + 1
  | .slice elems spare => uptoBulkAll elems + uptoBulkAll spare + 1
  | .agg parts => uptoBulkAll parts + 1
  | .iface _ d => uptoBulk d + 1
  | .map entries => uptoBulkEntries entries + 1
  | .held _ => 1
def uptoBulkAll {H : Type} : List (DataW H) → Nat
  | [] => 0
  | d :: r => uptoBulk d + uptoBulkAll r
def uptoBulkEntries {H : Type} : List (Lit × DataW H) → Nat
  | [] => 0
  | x :: r => uptoBulkEntry x + uptoBulkEntries r
def uptoBulkEntry {H : Type} : Lit × DataW H → Nat
  | (.string bytes, d) => bytes.length + uptoBulk d + 1
  | (_, d) => uptoBulk d + 1
 end
def uptoSmall : (H : Type) → List (DataW H) → Bool := fun _ ds => decide (uptoBulkAll ds ≤ 1048576)
def OpenSpec.upto (s : _root_.Go.ChangeSpec) : _root_.Go.OpenSpec := { _root_.Go.OpenSpec.ofChange s with cond := some uptoSmall }

/-- 'tallystonelaw48.MemoRight', WHERE WHAT IT READS IS OF BULK AT MOST 1048576: true; the input reads as it did. -/
def memoRightUptoRow : OpenClaim := { program := "ytmmeieangbcfaaa", sum := "cd497292cf236a0a4b70c30e06fe6a93ce94bf1b018b1099df62e5a79c8e6bc8", func := "tallystone/tallystonelaw48.MemoRight", spec := "memoRight", unfollowed := true, recurses := true, plainKeys := false, apart := false, narrowed := true }
def MemoRightUptoSaid : Prop := memoRightUptoRow.holds Try.pinned (OpenSpec.upto memoRightSpec)

/-- 'tallystonelaw48.MemoLocal', WHERE WHAT IT READS IS OF BULK AT MOST 1048576: true; the input reads as it did. -/
def memoLocalUptoRow : OpenClaim := { program := "ytmmeieangbcfaaa", sum := "cd497292cf236a0a4b70c30e06fe6a93ce94bf1b018b1099df62e5a79c8e6bc8", func := "tallystone/tallystonelaw48.MemoLocal", spec := "memoLocal", unfollowed := true, recurses := true, plainKeys := false, apart := false, narrowed := true }
def MemoLocalUptoSaid : Prop := memoLocalUptoRow.holds Try.pinned (OpenSpec.upto memoLocalSpec)

/-- 'tallystonelaw48.MemoEnds', WHERE WHAT IT READS IS OF BULK AT MOST 1048576: true; the input reads as it did. -/
def memoEndsUptoRow : OpenClaim := { program := "ytmmeieangbcfaaa", sum := "cd497292cf236a0a4b70c30e06fe6a93ce94bf1b018b1099df62e5a79c8e6bc8", func := "tallystone/tallystonelaw48.MemoEnds", spec := "memoEnds", unfollowed := true, recurses := true, plainKeys := false, apart := false, narrowed := true }
def MemoEndsUptoSaid : Prop := memoEndsUptoRow.holds Try.pinned (OpenSpec.upto memoEndsSpec)

/-- 'tallystonelaw48.MemoCycles', WHERE WHAT IT READS IS OF BULK AT MOST 1048576: true; the input reads as it did. -/
def memoCyclesUptoRow : OpenClaim := { program := "ytmmeieangbcfaaa", sum := "cd497292cf236a0a4b70c30e06fe6a93ce94bf1b018b1099df62e5a79c8e6bc8", func := "tallystone/tallystonelaw48.MemoCycles", spec := "memoCycles", unfollowed := true, recurses := true, plainKeys := false, apart := false, narrowed := true }
def MemoCyclesUptoSaid : Prop := memoCyclesUptoRow.holds Try.pinned (OpenSpec.upto memoCyclesSpec)

/-- 'tallystonelaw48.MemoNil', WHERE WHAT IT READS IS OF BULK AT MOST 1048576: true; the input reads as it did. -/
def memoNilUptoRow : OpenClaim := { program := "ytmmeieangbcfaaa", sum := "cd497292cf236a0a4b70c30e06fe6a93ce94bf1b018b1099df62e5a79c8e6bc8", func := "tallystone/tallystonelaw48.MemoNil", spec := "memoNil", unfollowed := true, recurses := true, plainKeys := false, apart := false, narrowed := true }
def MemoNilUptoSaid : Prop := memoNilUptoRow.holds Try.pinned (OpenSpec.upto memoNilSpec)

end Rows
end Go.Proofs.Ytmmeieangbcfaaa
