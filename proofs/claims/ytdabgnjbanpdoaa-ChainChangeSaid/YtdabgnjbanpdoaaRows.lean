/-
  No cell of these rows narrows 'for every input' (looked for: loops, veiled, ifaces, maps, wideKeys, modest, calm, conditions, laid).
  DERIVED. THE GIVEN ROWS OF THIS SEAT. 6 by the template 'for every input the law returns true; each argument reads behind the call as it read before'; 0 by the template 'total and deterministic' (their statements: YtdabgnjbanpdoaaTotals.lean).
  GIVEN WITH THE SEED: the statements are not yours to turn. If you find one false, say at which input.
  Laid BY PROGRAM, IN A SANDBOX (cutbox-rows.mjs): the forced cells as the released guide's own fill.sh prints them over the translation cd04846ba6206c5d… (all of the seat's roots in one cut). By AI agents, Wed Nov 11 2026. No macro, syntax, notation, axiom, sorry.
-/
import Derived.Test.YtdabgnjbanpdoaaChecked
import GoSem.Claim
import GoSem.ClaimJoined
import GoSem.ClaimMapViews
import Derived.JoinedTies
import Derived.KernelRfl
namespace Go.Proofs.Ytdabgnjbanpdoaa
/- THE CELL 'sum', in the pinned program and in every row, IS THE sha256 OF THE DUMP (.gsa) THAT YtdabgnjbanpdoaaProg.lean LOADS. Nothing in Lean hashes anything: it is a label: what it is worth is what the hold of that sum in a sandbox is worth. -/
noncomputable def Try.pinned : Pinned := { name := "ytdabgnjbanpdoaa", sum := "cd04846ba6206c5d15654332263495b7e80295d6f7706b5d0169607150259529", checked := Try.checked }
namespace Rows
def none {H : Type} : Left H := { results := [], args := [] }

/-- 'tallystonelaw55.ChainVerify': WHATEVER THE INPUT: true; the input reads as it did. -/
def chainVerifySpec : ChangeSpec := { name := "chainVerify", fn := fun _ => fun
  | [d1, d2] => { results := [.lit (.bool true)], args := [d1, d2] }
  | _ => none }
def chainVerifyRow : OpenClaim := { program := "ytdabgnjbanpdoaa", sum := "cd04846ba6206c5d15654332263495b7e80295d6f7706b5d0169607150259529", func := "tallystone/tallystonelaw55.ChainVerify", spec := "chainVerify", unfollowed := true, recurses := true, apart := false }
def ChainVerifySaid : Prop := chainVerifyRow.holds Try.pinned (OpenSpec.ofChange chainVerifySpec)

/-- ITS FALSE NEIGHBOUR: 'it returns false'. Refute it at one input. -/
def chainVerifyWrong : ChangeSpec := { name := "chainVerify", fn := fun _ => fun
  | [d1, d2] => { results := [.lit (.bool false)], args := [d1, d2] }
  | _ => none }
def ChainVerifyWrongFalsely : Prop := chainVerifyRow.holds Try.pinned (OpenSpec.ofChange chainVerifyWrong)

/-- 'tallystonelaw55.ChainOne': WHATEVER THE INPUT: true; the input reads as it did. -/
def chainOneSpec : ChangeSpec := { name := "chainOne", fn := fun _ => fun
  | [d1, d2, d3] => { results := [.lit (.bool true)], args := [d1, d2, d3] }
  | _ => none }
def chainOneRow : OpenClaim := { program := "ytdabgnjbanpdoaa", sum := "cd04846ba6206c5d15654332263495b7e80295d6f7706b5d0169607150259529", func := "tallystone/tallystonelaw55.ChainOne", spec := "chainOne", unfollowed := true, recurses := true, apart := false }
def ChainOneSaid : Prop := chainOneRow.holds Try.pinned (OpenSpec.ofChange chainOneSpec)

/-- ITS FALSE NEIGHBOUR: 'it returns false'. Refute it at one input. -/
def chainOneWrong : ChangeSpec := { name := "chainOne", fn := fun _ => fun
  | [d1, d2, d3] => { results := [.lit (.bool false)], args := [d1, d2, d3] }
  | _ => none }
def ChainOneWrongFalsely : Prop := chainOneRow.holds Try.pinned (OpenSpec.ofChange chainOneWrong)

/-- 'tallystonelaw55.ChainSum': WHATEVER THE INPUT: true; the input reads as it did. -/
def chainSumSpec : ChangeSpec := { name := "chainSum", fn := fun _ => fun
  | [d1, d2] => { results := [.lit (.bool true)], args := [d1, d2] }
  | _ => none }
def chainSumRow : OpenClaim := { program := "ytdabgnjbanpdoaa", sum := "cd04846ba6206c5d15654332263495b7e80295d6f7706b5d0169607150259529", func := "tallystone/tallystonelaw55.ChainSum", spec := "chainSum", unfollowed := true, recurses := true, apart := false }
def ChainSumSaid : Prop := chainSumRow.holds Try.pinned (OpenSpec.ofChange chainSumSpec)

/-- ITS FALSE NEIGHBOUR: 'it returns false'. Refute it at one input. -/
def chainSumWrong : ChangeSpec := { name := "chainSum", fn := fun _ => fun
  | [d1, d2] => { results := [.lit (.bool false)], args := [d1, d2] }
  | _ => none }
def ChainSumWrongFalsely : Prop := chainSumRow.holds Try.pinned (OpenSpec.ofChange chainSumWrong)

/-- 'tallystonelaw55.ChainLinks': WHATEVER THE INPUT: true; the input reads as it did. -/
def chainLinksSpec : ChangeSpec := { name := "chainLinks", fn := fun _ => fun
  | [d] => { results := [.lit (.bool true)], args := [d] }
  | _ => none }
def chainLinksRow : OpenClaim := { program := "ytdabgnjbanpdoaa", sum := "cd04846ba6206c5d15654332263495b7e80295d6f7706b5d0169607150259529", func := "tallystone/tallystonelaw55.ChainLinks", spec := "chainLinks", unfollowed := true, recurses := true, apart := false }
def ChainLinksSaid : Prop := chainLinksRow.holds Try.pinned (OpenSpec.ofChange chainLinksSpec)

/-- ITS FALSE NEIGHBOUR: 'it returns false'. Refute it at one input. -/
def chainLinksWrong : ChangeSpec := { name := "chainLinks", fn := fun _ => fun
  | [d] => { results := [.lit (.bool false)], args := [d] }
  | _ => none }
def ChainLinksWrongFalsely : Prop := chainLinksRow.holds Try.pinned (OpenSpec.ofChange chainLinksWrong)

/-- 'tallystonelaw55.ChainChange': WHATEVER THE INPUT: true; the input reads as it did. -/
def chainChangeSpec : ChangeSpec := { name := "chainChange", fn := fun _ => fun
  | [d1, d2, d3] => { results := [.lit (.bool true)], args := [d1, d2, d3] }
  | _ => none }
def chainChangeRow : OpenClaim := { program := "ytdabgnjbanpdoaa", sum := "cd04846ba6206c5d15654332263495b7e80295d6f7706b5d0169607150259529", func := "tallystone/tallystonelaw55.ChainChange", spec := "chainChange", unfollowed := true, recurses := true, apart := false }
def ChainChangeSaid : Prop := chainChangeRow.holds Try.pinned (OpenSpec.ofChange chainChangeSpec)

/-- ITS FALSE NEIGHBOUR: 'it returns false'. Refute it at one input. -/
def chainChangeWrong : ChangeSpec := { name := "chainChange", fn := fun _ => fun
  | [d1, d2, d3] => { results := [.lit (.bool false)], args := [d1, d2, d3] }
  | _ => none }
def ChainChangeWrongFalsely : Prop := chainChangeRow.holds Try.pinned (OpenSpec.ofChange chainChangeWrong)

/-- 'tallystonelaw55.ChainParts': WHATEVER THE INPUT: true; the input reads as it did. -/
def chainPartsSpec : ChangeSpec := { name := "chainParts", fn := fun _ => fun
  | [d1, d2] => { results := [.lit (.bool true)], args := [d1, d2] }
  | _ => none }
def chainPartsRow : OpenClaim := { program := "ytdabgnjbanpdoaa", sum := "cd04846ba6206c5d15654332263495b7e80295d6f7706b5d0169607150259529", func := "tallystone/tallystonelaw55.ChainParts", spec := "chainParts", unfollowed := true, recurses := true, apart := false }
def ChainPartsSaid : Prop := chainPartsRow.holds Try.pinned (OpenSpec.ofChange chainPartsSpec)

/-- ITS FALSE NEIGHBOUR: 'it returns false'. Refute it at one input. -/
def chainPartsWrong : ChangeSpec := { name := "chainParts", fn := fun _ => fun
  | [d1, d2] => { results := [.lit (.bool false)], args := [d1, d2] }
  | _ => none }
def ChainPartsWrongFalsely : Prop := chainPartsRow.holds Try.pinned (OpenSpec.ofChange chainPartsWrong)

/- THE SECOND FORM. 'bulk': how many values and letters a reading holds, each counted each time it is reached (what is shared counts as often as it is met; a slice's spare places count too). A statement '..UptoSaid' is the law's where the arguments, and the package variables that the reading takes, are together of bulk at most 1048576: NARROWER than '..Said'. Prove '..Said' where nothing that the law and all that it calls make is longer than what came in: it says more and counts as full. Else prove '..UptoSaid'. A law counts once. -/
mutual
def uptoBulk {H : Type} : DataW H → Nat
  | .lit (.string bytes) => bytes.length + 1
  | .lit _ => 1
  | .nil => 1
  | .ptr d => uptoBulk d + 1
  | .slice elems spare => uptoBulkAll elems + uptoBulkAll spare + 1
  | .agg parts => uptoBulkAll parts + 1
  | .iface _ d => uptoBulk d + 1
  | .map entries => uptoBulkEntries entries + 1
  | .held _ => 1
def uptoBulkAll {H : Type} : List (DataW H) → Nat
  | [] => 0
  | d :: r => uptoBulk d + uptoBulkAll r
def uptoBulkEntries {H : Type} : List (Lit × DataW H) → Nat
  | [] => 0
  | x :: r => uptoBulkEntry x + uptoBulkEntries r
def uptoBulkEntry {H : Type} : Lit × DataW H → Nat
  | (.string bytes, d) => bytes.length + uptoBulk d + 1
  | (_, d) => uptoBulk d + 1
 end
def uptoSmall : (H : Type) → List (DataW H) → Bool := fun _ ds => decide (uptoBulkAll ds ≤ 1048576)
def OpenSpec.upto (s : _root_.Go.ChangeSpec) : _root_.Go.OpenSpec := { _root_.Go.OpenSpec.ofChange s with cond := some uptoSmall }

/-- 'tallystonelaw55.ChainVerify', WHERE WHAT IT READS IS OF BULK AT MOST 1048576: true; the input reads as it did. -/
def chainVerifyUptoRow : OpenClaim := { program := "ytdabgnjbanpdoaa", sum := "cd04846ba6206c5d15654332263495b7e80295d6f7706b5d0169607150259529", func := "tallystone/tallystonelaw55.ChainVerify", spec := "chainVerify", unfollowed := true, recurses := true, apart := false, narrowed := true }
def ChainVerifyUptoSaid : Prop := chainVerifyUptoRow.holds Try.pinned (OpenSpec.upto chainVerifySpec)

/-- 'tallystonelaw55.ChainOne', WHERE WHAT IT READS IS OF BULK AT MOST 1048576: true; the input reads as it did. -/
def chainOneUptoRow : OpenClaim := { program := "ytdabgnjbanpdoaa", sum := "cd04846ba6206c5d15654332263495b7e80295d6f7706b5d0169607150259529", func := "tallystone/tallystonelaw55.ChainOne", spec := "chainOne", unfollowed := true, recurses := true, apart := false, narrowed := true }
def ChainOneUptoSaid : Prop := chainOneUptoRow.holds Try.pinned (OpenSpec.upto chainOneSpec)

/-- 'tallystonelaw55.ChainSum', WHERE WHAT IT READS IS OF BULK AT MOST 1048576: true; the input reads as it did. -/
def chainSumUptoRow : OpenClaim := { program := "ytdabgnjbanpdoaa", sum := "cd04846ba6206c5d15654332263495b7e80295d6f7706b5d0169607150259529", func := "tallystone/tallystonelaw55.ChainSum", spec := "chainSum", unfollowed := true, recurses := true, apart := false, narrowed := true }
def ChainSumUptoSaid : Prop := chainSumUptoRow.holds Try.pinned (OpenSpec.upto chainSumSpec)

/-- 'tallystonelaw55.ChainLinks', WHERE WHAT IT READS IS OF BULK AT MOST 1048576: true; the input reads as it did. -/
def chainLinksUptoRow : OpenClaim := { program := "ytdabgnjbanpdoaa", sum := "cd04846ba6206c5d15654332263495b7e80295d6f7706b5d0169607150259529", func := "tallystone/tallystonelaw55.ChainLinks", spec := "chainLinks", unfollowed := true, recurses := true, apart := false, narrowed := true }
def ChainLinksUptoSaid : Prop := chainLinksUptoRow.holds Try.pinned (OpenSpec.upto chainLinksSpec)

/-- 'tallystonelaw55.ChainChange', WHERE WHAT IT READS IS OF BULK AT MOST 1048576: true; the input reads as it did. -/
def chainChangeUptoRow : OpenClaim := { program := "ytdabgnjbanpdoaa", sum := "cd04846ba6206c5d15654332263495b7e80295d6f7706b5d0169607150259529", func := "tallystone/tallystonelaw55.ChainChange", spec := "chainChange", unfollowed := true, recurses := true, apart := false, narrowed := true }
def ChainChangeUptoSaid : Prop := chainChangeUptoRow.holds Try.pinned (OpenSpec.upto chainChangeSpec)

/-- 'tallystonelaw55.ChainParts', WHERE WHAT IT READS IS OF BULK AT MOST 1048576: true; the input reads as it did. -/
def chainPartsUptoRow : OpenClaim := { program := "ytdabgnjbanpdoaa", sum := "cd04846ba6206c5d15654332263495b7e80295d6f7706b5d0169607150259529", func := "tallystone/tallystonelaw55.ChainParts", spec := "chainParts", unfollowed := true, recurses := true, apart := false, narrowed := true }
def ChainPartsUptoSaid : Prop := chainPartsUptoRow.holds Try.pinned (OpenSpec.upto chainPartsSpec)

end Rows
end Go.Proofs.Ytdabgnjbanpdoaa
