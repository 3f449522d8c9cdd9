/-
  No cell of these rows narrows 'for every input' (looked for: loops, veiled, ifaces, maps, wideKeys, modest, calm, conditions, laid).
  DERIVED. THE GIVEN ROWS OF THIS SEAT. 8 by the template 'for every input the law returns true; each argument reads behind the call as it read before'; 0 by the template 'total and deterministic' (their statements: YtmlekhkgokgpbaaTotals.lean).
  GIVEN WITH THE SEED: the statements are not yours to turn. If you find one false, say at which input.
  Laid BY PROGRAM, IN A SANDBOX (cutbox-rows.mjs): the forced cells as the released guide's own fill.sh prints them over the translation 2ed53857e18fc0e0… (all of the seat's roots in one cut). By AI agents, Wed Nov 11 2026. No macro, syntax, notation, axiom, sorry.
-/
import Derived.Test.YtmlekhkgokgpbaaChecked
import GoSem.Claim
import GoSem.ClaimJoined
import GoSem.ClaimMapViews
import Derived.JoinedTies
import Derived.KernelRfl
namespace Go.Proofs.Ytmlekhkgokgpbaa
/- THE CELL 'sum', in the pinned program and in every row, IS THE sha256 OF THE DUMP (.gsa) THAT YtmlekhkgokgpbaaProg.lean LOADS. Nothing in Lean hashes anything: it is a label: what it is worth is what the hold of that sum in a sandbox is worth. -/
noncomputable def Try.pinned : Pinned := { name := "ytmlekhkgokgpbaa", sum := "2ed53857e18fc0e0cf86bd4dddc22d685227d9f6acff41eec274170b39f7b784", checked := Try.checked }
namespace Rows
def none {H : Type} : Left H := { results := [], args := [] }

/-- 'tallystonelaw16.RateScript': WHATEVER THE INPUT: true; the input reads as it did. -/
def rateScriptSpec : ChangeSpec := { name := "rateScript", fn := fun _ => fun
  | [d1, d2] => { results := [.lit (.bool true)], args := [d1, d2] }
  | _ => none }
def rateScriptRow : OpenClaim := { program := "ytmlekhkgokgpbaa", sum := "2ed53857e18fc0e0cf86bd4dddc22d685227d9f6acff41eec274170b39f7b784", func := "tallystone/tallystonelaw16.RateScript", spec := "rateScript", unfollowed := true, recurses := true, plainKeys := false, apart := false }
def RateScriptSaid : Prop := rateScriptRow.holds Try.pinned (OpenSpec.ofChange rateScriptSpec)

/-- ITS FALSE NEIGHBOUR: 'it returns false'. Refute it at one input. -/
def rateScriptWrong : ChangeSpec := { name := "rateScript", fn := fun _ => fun
  | [d1, d2] => { results := [.lit (.bool false)], args := [d1, d2] }
  | _ => none }
def RateScriptWrongFalsely : Prop := rateScriptRow.holds Try.pinned (OpenSpec.ofChange rateScriptWrong)

/-- 'tallystonelaw16.RateCorrects': WHATEVER THE INPUT: true; the input reads as it did. -/
def rateCorrectsSpec : ChangeSpec := { name := "rateCorrects", fn := fun _ => fun
  | [d1, d2, d3] => { results := [.lit (.bool true)], args := [d1, d2, d3] }
  | _ => none }
def rateCorrectsRow : OpenClaim := { program := "ytmlekhkgokgpbaa", sum := "2ed53857e18fc0e0cf86bd4dddc22d685227d9f6acff41eec274170b39f7b784", func := "tallystone/tallystonelaw16.RateCorrects", spec := "rateCorrects", unfollowed := true, recurses := true, plainKeys := false, apart := false }
def RateCorrectsSaid : Prop := rateCorrectsRow.holds Try.pinned (OpenSpec.ofChange rateCorrectsSpec)

/-- ITS FALSE NEIGHBOUR: 'it returns false'. Refute it at one input. -/
def rateCorrectsWrong : ChangeSpec := { name := "rateCorrects", fn := fun _ => fun
  | [d1, d2, d3] => { results := [.lit (.bool false)], args := [d1, d2, d3] }
  | _ => none }
def RateCorrectsWrongFalsely : Prop := rateCorrectsRow.holds Try.pinned (OpenSpec.ofChange rateCorrectsWrong)

/-- 'tallystonelaw16.RateOrder': WHATEVER THE INPUT: true; the input reads as it did. -/
def rateOrderSpec : ChangeSpec := { name := "rateOrder", fn := fun _ => fun
  | [d1, d2, d3] => { results := [.lit (.bool true)], args := [d1, d2, d3] }
  | _ => none }
def rateOrderRow : OpenClaim := { program := "ytmlekhkgokgpbaa", sum := "2ed53857e18fc0e0cf86bd4dddc22d685227d9f6acff41eec274170b39f7b784", func := "tallystone/tallystonelaw16.RateOrder", spec := "rateOrder", unfollowed := true, recurses := true, plainKeys := false, apart := false }
def RateOrderSaid : Prop := rateOrderRow.holds Try.pinned (OpenSpec.ofChange rateOrderSpec)

/-- ITS FALSE NEIGHBOUR: 'it returns false'. Refute it at one input. -/
def rateOrderWrong : ChangeSpec := { name := "rateOrder", fn := fun _ => fun
  | [d1, d2, d3] => { results := [.lit (.bool false)], args := [d1, d2, d3] }
  | _ => none }
def RateOrderWrongFalsely : Prop := rateOrderRow.holds Try.pinned (OpenSpec.ofChange rateOrderWrong)

/-- 'tallystonelaw16.RateLast': WHATEVER THE INPUT: true; the input reads as it did. -/
def rateLastSpec : ChangeSpec := { name := "rateLast", fn := fun _ => fun
  | [d1, d2] => { results := [.lit (.bool true)], args := [d1, d2] }
  | _ => none }
def rateLastRow : OpenClaim := { program := "ytmlekhkgokgpbaa", sum := "2ed53857e18fc0e0cf86bd4dddc22d685227d9f6acff41eec274170b39f7b784", func := "tallystone/tallystonelaw16.RateLast", spec := "rateLast", unfollowed := true, recurses := true, plainKeys := false, apart := false }
def RateLastSaid : Prop := rateLastRow.holds Try.pinned (OpenSpec.ofChange rateLastSpec)

/-- ITS FALSE NEIGHBOUR: 'it returns false'. Refute it at one input. -/
def rateLastWrong : ChangeSpec := { name := "rateLast", fn := fun _ => fun
  | [d1, d2] => { results := [.lit (.bool false)], args := [d1, d2] }
  | _ => none }
def RateLastWrongFalsely : Prop := rateLastRow.holds Try.pinned (OpenSpec.ofChange rateLastWrong)

/-- 'tallystonelaw16.RateValid': WHATEVER THE INPUT: true; the input reads as it did. -/
def rateValidSpec : ChangeSpec := { name := "rateValid", fn := fun _ => fun
  | [d1, d2, d3] => { results := [.lit (.bool true)], args := [d1, d2, d3] }
  | _ => none }
def rateValidRow : OpenClaim := { program := "ytmlekhkgokgpbaa", sum := "2ed53857e18fc0e0cf86bd4dddc22d685227d9f6acff41eec274170b39f7b784", func := "tallystone/tallystonelaw16.RateValid", spec := "rateValid", unfollowed := true, recurses := true, plainKeys := false, apart := false }
def RateValidSaid : Prop := rateValidRow.holds Try.pinned (OpenSpec.ofChange rateValidSpec)

/-- ITS FALSE NEIGHBOUR: 'it returns false'. Refute it at one input. -/
def rateValidWrong : ChangeSpec := { name := "rateValid", fn := fun _ => fun
  | [d1, d2, d3] => { results := [.lit (.bool false)], args := [d1, d2, d3] }
  | _ => none }
def RateValidWrongFalsely : Prop := rateValidRow.holds Try.pinned (OpenSpec.ofChange rateValidWrong)

/-- 'tallystonelaw16.RateOf': WHATEVER THE INPUT: true; the input reads as it did. -/
def rateOfSpec : ChangeSpec := { name := "rateOf", fn := fun _ => fun
  | [d1, d2, d3] => { results := [.lit (.bool true)], args := [d1, d2, d3] }
  | _ => none }
def rateOfRow : OpenClaim := { program := "ytmlekhkgokgpbaa", sum := "2ed53857e18fc0e0cf86bd4dddc22d685227d9f6acff41eec274170b39f7b784", func := "tallystone/tallystonelaw16.RateOf", spec := "rateOf", unfollowed := true, recurses := true, plainKeys := false, apart := false }
def RateOfSaid : Prop := rateOfRow.holds Try.pinned (OpenSpec.ofChange rateOfSpec)

/-- ITS FALSE NEIGHBOUR: 'it returns false'. Refute it at one input. -/
def rateOfWrong : ChangeSpec := { name := "rateOf", fn := fun _ => fun
  | [d1, d2, d3] => { results := [.lit (.bool false)], args := [d1, d2, d3] }
  | _ => none }
def RateOfWrongFalsely : Prop := rateOfRow.holds Try.pinned (OpenSpec.ofChange rateOfWrong)

/-- 'tallystonelaw16.RateRebuilds': WHATEVER THE INPUT: true; the input reads as it did. -/
def rateRebuildsSpec : ChangeSpec := { name := "rateRebuilds", fn := fun _ => fun
  | [d1, d2] => { results := [.lit (.bool true)], args := [d1, d2] }
  | _ => none }
def rateRebuildsRow : OpenClaim := { program := "ytmlekhkgokgpbaa", sum := "2ed53857e18fc0e0cf86bd4dddc22d685227d9f6acff41eec274170b39f7b784", func := "tallystone/tallystonelaw16.RateRebuilds", spec := "rateRebuilds", unfollowed := true, recurses := true, plainKeys := false, apart := false }
def RateRebuildsSaid : Prop := rateRebuildsRow.holds Try.pinned (OpenSpec.ofChange rateRebuildsSpec)

/-- ITS FALSE NEIGHBOUR: 'it returns false'. Refute it at one input. -/
def rateRebuildsWrong : ChangeSpec := { name := "rateRebuilds", fn := fun _ => fun
  | [d1, d2] => { results := [.lit (.bool false)], args := [d1, d2] }
  | _ => none }
def RateRebuildsWrongFalsely : Prop := rateRebuildsRow.holds Try.pinned (OpenSpec.ofChange rateRebuildsWrong)

/-- 'tallystonelaw16.RateCopies': WHATEVER THE INPUT: true; the input reads as it did. -/
def rateCopiesSpec : ChangeSpec := { name := "rateCopies", fn := fun _ => fun
  | [d1, d2, d3] => { results := [.lit (.bool true)], args := [d1, d2, d3] }
  | _ => none }
def rateCopiesRow : OpenClaim := { program := "ytmlekhkgokgpbaa", sum := "2ed53857e18fc0e0cf86bd4dddc22d685227d9f6acff41eec274170b39f7b784", func := "tallystone/tallystonelaw16.RateCopies", spec := "rateCopies", inPlace := ["maps.clone"], unfollowed := true, recurses := true, plainKeys := false, apart := false }
def RateCopiesSaid : Prop := rateCopiesRow.holds Try.pinned (OpenSpec.ofChange rateCopiesSpec)

/-- ITS FALSE NEIGHBOUR: 'it returns false'. Refute it at one input. -/
def rateCopiesWrong : ChangeSpec := { name := "rateCopies", fn := fun _ => fun
  | [d1, d2, d3] => { results := [.lit (.bool false)], args := [d1, d2, d3] }
  | _ => none }
def RateCopiesWrongFalsely : Prop := rateCopiesRow.holds Try.pinned (OpenSpec.ofChange rateCopiesWrong)

/- THE SECOND FORM. 'bulk': how many values and letters a reading holds, each counted each time it is reached (what is shared counts as often as it is met; a slice's spare places count too). A statement '..UptoSaid' is the law's where the arguments, and the package variables that the reading takes, are together of bulk at most 1048576: NARROWER than '..Said'. Prove '..Said' where nothing that the law and all that it calls make is longer than what came in: it says more and counts as full. Else prove '..UptoSaid'. A law counts once. -/
mutual
def uptoBulk {H : Type} : DataW H → Nat
  | .lit (.string bytes) => bytes.length + 1
  | .lit _ => 1
  | .nil => 1
  | .ptr d => uptoBulk d + 1
  | .slice elems spare => uptoBulkAll elems + uptoBulkAll spare + 1
  | .agg parts => uptoBulkAll parts + 1
  | .iface _ d => uptoBulk d + 1
  | .map entries => uptoBulkEntries entries + 1
  | .held _ => 1
def uptoBulkAll {H : Type} : List (DataW H) → Nat
  | [] => 0
  | d :: r => uptoBulk d + uptoBulkAll r
def uptoBulkEntries {H : Type} : List (Lit × DataW H) → Nat
  | [] => 0
  | x :: r => uptoBulkEntry x + uptoBulkEntries r
def uptoBulkEntry {H : Type} : Lit × DataW H → Nat
  | (.string bytes, d) => bytes.length + uptoBulk d + 1
  | (_, d) => uptoBulk d + 1
 end
def uptoSmall : (H : Type) → List (DataW H) → Bool := fun _ ds => decide (uptoBulkAll ds ≤ 1048576)
def OpenSpec.upto (s : _root_.Go.ChangeSpec) : _root_.Go.OpenSpec := { _root_.Go.OpenSpec.ofChange s with cond := some uptoSmall }

/-- 'tallystonelaw16.RateScript', WHERE WHAT IT READS IS OF BULK AT MOST 1048576: true; the input reads as it did. -/
def rateScriptUptoRow : OpenClaim := { program := "ytmlekhkgokgpbaa", sum := "2ed53857e18fc0e0cf86bd4dddc22d685227d9f6acff41eec274170b39f7b784", func := "tallystone/tallystonelaw16.RateScript", spec := "rateScript", unfollowed := true, recurses := true, plainKeys := false, apart := false, narrowed := true }
def RateScriptUptoSaid : Prop := rateScriptUptoRow.holds Try.pinned (OpenSpec.upto rateScriptSpec)

/-- 'tallystonelaw16.RateCorrects', WHERE WHAT IT READS IS OF BULK AT MOST 1048576: true; the input reads as it did. -/
def rateCorrectsUptoRow : OpenClaim := { program := "ytmlekhkgokgpbaa", sum := "2ed53857e18fc0e0cf86bd4dddc22d685227d9f6acff41eec274170b39f7b784", func := "tallystone/tallystonelaw16.RateCorrects", spec := "rateCorrects", unfollowed := true, recurses := true, plainKeys := false, apart := false, narrowed := true }
def RateCorrectsUptoSaid : Prop := rateCorrectsUptoRow.holds Try.pinned (OpenSpec.upto rateCorrectsSpec)

/-- 'tallystonelaw16.RateOrder', WHERE WHAT IT READS IS OF BULK AT MOST 1048576: true; the input reads as it did. -/
def rateOrderUptoRow : OpenClaim := { program := "ytmlekhkgokgpbaa", sum := "2ed53857e18fc0e0cf86bd4dddc22d685227d9f6acff41eec274170b39f7b784", func := "tallystone/tallystonelaw16.RateOrder", spec := "rateOrder", unfollowed := true, recurses := true, plainKeys := false, apart := false, narrowed := true }
def RateOrderUptoSaid : Prop := rateOrderUptoRow.holds Try.pinned (OpenSpec.upto rateOrderSpec)

/-- 'tallystonelaw16.RateLast', WHERE WHAT IT READS IS OF BULK AT MOST 1048576: true; the input reads as it did. -/
def rateLastUptoRow : OpenClaim := { program := "ytmlekhkgokgpbaa", sum := "2ed53857e18fc0e0cf86bd4dddc22d685227d9f6acff41eec274170b39f7b784", func := "tallystone/tallystonelaw16.RateLast", spec := "rateLast", unfollowed := true, recurses := true, plainKeys := false, apart := false, narrowed := true }
def RateLastUptoSaid : Prop := rateLastUptoRow.holds Try.pinned (OpenSpec.upto rateLastSpec)

/-- 'tallystonelaw16.RateValid', WHERE WHAT IT READS IS OF BULK AT MOST 1048576: true; the input reads as it did. -/
def rateValidUptoRow : OpenClaim := { program := "ytmlekhkgokgpbaa", sum := "2ed53857e18fc0e0cf86bd4dddc22d685227d9f6acff41eec274170b39f7b784", func := "tallystone/tallystonelaw16.RateValid", spec := "rateValid", unfollowed := true, recurses := true, plainKeys := false, apart := false, narrowed := true }
def RateValidUptoSaid : Prop := rateValidUptoRow.holds Try.pinned (OpenSpec.upto rateValidSpec)

/-- 'tallystonelaw16.RateOf', WHERE WHAT IT READS IS OF BULK AT MOST 1048576: true; the input reads as it did. -/
def rateOfUptoRow : OpenClaim := { program := "ytmlekhkgokgpbaa", sum := "2ed53857e18fc0e0cf86bd4dddc22d685227d9f6acff41eec274170b39f7b784", func := "tallystone/tallystonelaw16.RateOf", spec := "rateOf", unfollowed := true, recurses := true, plainKeys := false, apart := false, narrowed := true }
def RateOfUptoSaid : Prop := rateOfUptoRow.holds Try.pinned (OpenSpec.upto rateOfSpec)

/-- 'tallystonelaw16.RateRebuilds', WHERE WHAT IT READS IS OF BULK AT MOST 1048576: true; the input reads as it did. -/
def rateRebuildsUptoRow : OpenClaim := { program := "ytmlekhkgokgpbaa", sum := "2ed53857e18fc0e0cf86bd4dddc22d685227d9f6acff41eec274170b39f7b784", func := "tallystone/tallystonelaw16.RateRebuilds", spec := "rateRebuilds", unfollowed := true, recurses := true, plainKeys := false, apart := false, narrowed := true }
def RateRebuildsUptoSaid : Prop := rateRebuildsUptoRow.holds Try.pinned (OpenSpec.upto rateRebuildsSpec)

/-- 'tallystonelaw16.RateCopies', WHERE WHAT IT READS IS OF BULK AT MOST 1048576: true; the input reads as it did. -/
def rateCopiesUptoRow : OpenClaim := { program := "ytmlekhkgokgpbaa", sum := "2ed53857e18fc0e0cf86bd4dddc22d685227d9f6acff41eec274170b39f7b784", func := "tallystone/tallystonelaw16.RateCopies", spec := "rateCopies", inPlace := ["maps.clone"], unfollowed := true, recurses := true, plainKeys := false, apart := false, narrowed := true }
def RateCopiesUptoSaid : Prop := rateCopiesUptoRow.holds Try.pinned (OpenSpec.upto rateCopiesSpec)

end Rows
end Go.Proofs.Ytmlekhkgokgpbaa
