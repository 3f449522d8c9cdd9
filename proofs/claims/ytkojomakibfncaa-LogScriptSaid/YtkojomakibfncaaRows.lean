/-
  No cell of these rows narrows 'for every input' (looked for: loops, veiled, ifaces, maps, wideKeys, modest, calm, conditions, laid).
  DERIVED. THE GIVEN ROWS OF THIS SEAT. 7 by the template 'for every input the law returns true; each argument reads behind the call as it read before'; 0 by the template 'total and deterministic' (their statements: YtkojomakibfncaaTotals.lean).
  GIVEN WITH THE SEED: the statements are not yours to turn. If you find one false, say at which input.
  Laid BY PROGRAM, IN A SANDBOX (cutbox-rows.mjs): the forced cells as the released guide's own fill.sh prints them over the translation 4dc0bcd5ef9e8e54… (all of the seat's roots in one cut). By AI agents, Wed Nov 11 2026. No macro, syntax, notation, axiom, sorry.
-/
import Derived.Test.YtkojomakibfncaaChecked
import GoSem.Claim
import GoSem.ClaimJoined
import GoSem.ClaimMapViews
import Derived.JoinedTies
import Derived.KernelRfl
namespace Go.Proofs.Ytkojomakibfncaa
/- THE CELL 'sum', in the pinned program and in every row, IS THE sha256 OF THE DUMP (.gsa) THAT YtkojomakibfncaaProg.lean LOADS. Nothing in Lean hashes anything: it is a label: what it is worth is what the hold of that sum in a sandbox is worth. -/
noncomputable def Try.pinned : Pinned := { name := "ytkojomakibfncaa", sum := "4dc0bcd5ef9e8e546b36acc07dac4f0c2b1c56693666a29c23d0a6f422941d8d", checked := Try.checked }
namespace Rows
def none {H : Type} : Left H := { results := [], args := [] }

/-- 'tallystonelaw56.LogOpen': WHATEVER THE INPUT: true; the input reads as it did. -/
def logOpenSpec : ChangeSpec := { name := "logOpen", fn := fun _ => fun
  | [d] => { results := [.lit (.bool true)], args := [d] }
  | _ => none }
def logOpenRow : OpenClaim := { program := "ytkojomakibfncaa", sum := "4dc0bcd5ef9e8e546b36acc07dac4f0c2b1c56693666a29c23d0a6f422941d8d", func := "tallystone/tallystonelaw56.LogOpen", spec := "logOpen", apart := false }
def LogOpenSaid : Prop := logOpenRow.holds Try.pinned (OpenSpec.ofChange logOpenSpec)

/-- ITS FALSE NEIGHBOUR: 'it returns false'. Refute it at one input. -/
def logOpenWrong : ChangeSpec := { name := "logOpen", fn := fun _ => fun
  | [d] => { results := [.lit (.bool false)], args := [d] }
  | _ => none }
def LogOpenWrongFalsely : Prop := logOpenRow.holds Try.pinned (OpenSpec.ofChange logOpenWrong)

/-- 'tallystonelaw56.LogRoundTrip': WHATEVER THE INPUT: true; the input reads as it did. -/
def logRoundTripSpec : ChangeSpec := { name := "logRoundTrip", fn := fun _ => fun
  | [d1, d2] => { results := [.lit (.bool true)], args := [d1, d2] }
  | _ => none }
def logRoundTripRow : OpenClaim := { program := "ytkojomakibfncaa", sum := "4dc0bcd5ef9e8e546b36acc07dac4f0c2b1c56693666a29c23d0a6f422941d8d", func := "tallystone/tallystonelaw56.LogRoundTrip", spec := "logRoundTrip", apart := false }
def LogRoundTripSaid : Prop := logRoundTripRow.holds Try.pinned (OpenSpec.ofChange logRoundTripSpec)

/-- ITS FALSE NEIGHBOUR: 'it returns false'. Refute it at one input. -/
def logRoundTripWrong : ChangeSpec := { name := "logRoundTrip", fn := fun _ => fun
  | [d1, d2] => { results := [.lit (.bool false)], args := [d1, d2] }
  | _ => none }
def LogRoundTripWrongFalsely : Prop := logRoundTripRow.holds Try.pinned (OpenSpec.ofChange logRoundTripWrong)

/-- 'tallystonelaw56.LogCrash': WHATEVER THE INPUT: true; the input reads as it did. -/
def logCrashSpec : ChangeSpec := { name := "logCrash", fn := fun _ => fun
  | [d1, d2] => { results := [.lit (.bool true)], args := [d1, d2] }
  | _ => none }
def logCrashRow : OpenClaim := { program := "ytkojomakibfncaa", sum := "4dc0bcd5ef9e8e546b36acc07dac4f0c2b1c56693666a29c23d0a6f422941d8d", func := "tallystone/tallystonelaw56.LogCrash", spec := "logCrash", apart := false }
def LogCrashSaid : Prop := logCrashRow.holds Try.pinned (OpenSpec.ofChange logCrashSpec)

/-- ITS FALSE NEIGHBOUR: 'it returns false'. Refute it at one input. -/
def logCrashWrong : ChangeSpec := { name := "logCrash", fn := fun _ => fun
  | [d1, d2] => { results := [.lit (.bool false)], args := [d1, d2] }
  | _ => none }
def LogCrashWrongFalsely : Prop := logCrashRow.holds Try.pinned (OpenSpec.ofChange logCrashWrong)

/-- 'tallystonelaw56.LogDamage': WHATEVER THE INPUT: true; the input reads as it did. -/
def logDamageSpec : ChangeSpec := { name := "logDamage", fn := fun _ => fun
  | [d1, d2, d3] => { results := [.lit (.bool true)], args := [d1, d2, d3] }
  | _ => none }
def logDamageRow : OpenClaim := { program := "ytkojomakibfncaa", sum := "4dc0bcd5ef9e8e546b36acc07dac4f0c2b1c56693666a29c23d0a6f422941d8d", func := "tallystone/tallystonelaw56.LogDamage", spec := "logDamage", apart := false }
def LogDamageSaid : Prop := logDamageRow.holds Try.pinned (OpenSpec.ofChange logDamageSpec)

/-- ITS FALSE NEIGHBOUR: 'it returns false'. Refute it at one input. -/
def logDamageWrong : ChangeSpec := { name := "logDamage", fn := fun _ => fun
  | [d1, d2, d3] => { results := [.lit (.bool false)], args := [d1, d2, d3] }
  | _ => none }
def LogDamageWrongFalsely : Prop := logDamageRow.holds Try.pinned (OpenSpec.ofChange logDamageWrong)

/-- 'tallystonelaw56.LogBytes': WHATEVER THE INPUT: true; the input reads as it did. -/
def logBytesSpec : ChangeSpec := { name := "logBytes", fn := fun _ => fun
  | [d] => { results := [.lit (.bool true)], args := [d] }
  | _ => none }
def logBytesRow : OpenClaim := { program := "ytkojomakibfncaa", sum := "4dc0bcd5ef9e8e546b36acc07dac4f0c2b1c56693666a29c23d0a6f422941d8d", func := "tallystone/tallystonelaw56.LogBytes", spec := "logBytes", apart := false }
def LogBytesSaid : Prop := logBytesRow.holds Try.pinned (OpenSpec.ofChange logBytesSpec)

/-- ITS FALSE NEIGHBOUR: 'it returns false'. Refute it at one input. -/
def logBytesWrong : ChangeSpec := { name := "logBytes", fn := fun _ => fun
  | [d] => { results := [.lit (.bool false)], args := [d] }
  | _ => none }
def LogBytesWrongFalsely : Prop := logBytesRow.holds Try.pinned (OpenSpec.ofChange logBytesWrong)

/-- 'tallystonelaw56.LogNil': WHATEVER THE INPUT: true; the input reads as it did. -/
def logNilSpec : ChangeSpec := { name := "logNil", fn := fun _ => fun
  | [d1, d2] => { results := [.lit (.bool true)], args := [d1, d2] }
  | _ => none }
def logNilRow : OpenClaim := { program := "ytkojomakibfncaa", sum := "4dc0bcd5ef9e8e546b36acc07dac4f0c2b1c56693666a29c23d0a6f422941d8d", func := "tallystone/tallystonelaw56.LogNil", spec := "logNil", apart := false }
def LogNilSaid : Prop := logNilRow.holds Try.pinned (OpenSpec.ofChange logNilSpec)

/-- ITS FALSE NEIGHBOUR: 'it returns false'. Refute it at one input. -/
def logNilWrong : ChangeSpec := { name := "logNil", fn := fun _ => fun
  | [d1, d2] => { results := [.lit (.bool false)], args := [d1, d2] }
  | _ => none }
def LogNilWrongFalsely : Prop := logNilRow.holds Try.pinned (OpenSpec.ofChange logNilWrong)

/-- 'tallystonelaw56.LogScript': WHATEVER THE INPUT: true; the input reads as it did. -/
def logScriptSpec : ChangeSpec := { name := "logScript", fn := fun _ => fun
  | [d1, d2] => { results := [.lit (.bool true)], args := [d1, d2] }
  | _ => none }
def logScriptRow : OpenClaim := { program := "ytkojomakibfncaa", sum := "4dc0bcd5ef9e8e546b36acc07dac4f0c2b1c56693666a29c23d0a6f422941d8d", func := "tallystone/tallystonelaw56.LogScript", spec := "logScript", unfollowed := true, recurses := true, apart := false }
def LogScriptSaid : Prop := logScriptRow.holds Try.pinned (OpenSpec.ofChange logScriptSpec)

/-- ITS FALSE NEIGHBOUR: 'it returns false'. Refute it at one input. -/
def logScriptWrong : ChangeSpec := { name := "logScript", fn := fun _ => fun
  | [d1, d2] => { results := [.lit (.bool false)], args := [d1, d2] }
  | _ => none }
def LogScriptWrongFalsely : Prop := logScriptRow.holds Try.pinned (OpenSpec.ofChange logScriptWrong)

/- THE SECOND FORM. 'bulk': how many values and letters a reading holds, each counted each time it is reached (what is shared counts as often as it is met; a slice's spare places count too). A statement '..UptoSaid' is the law's where the arguments, and the package variables that the reading takes, are together of bulk at most 1048576: NARROWER than '..Said'. Prove '..Said' where nothing that the law and all that it calls make is longer than what came in: it says more and counts as full. Else prove '..UptoSaid'. A law counts once. -/
mutual
def uptoBulk {H : Type} : DataW H → Nat
  | .lit (.string bytes) => bytes.length + 1
  | .lit _ => 1
  | .nil => 1
  | .ptr d => uptoBulk d + 1
  | .slice elems spare => uptoBulkAll elems + uptoBulkAll spare + 1
  | .agg parts => uptoBulkAll parts + 1
  | .iface _ d => uptoBulk d + 1
  | .map entries => uptoBulkEntries entries + 1
  | .held _ => 1
def uptoBulkAll {H : Type} : List (DataW H) → Nat
  | [] => 0
  | d :: r => uptoBulk d + uptoBulkAll r
def uptoBulkEntries {H : Type} : List (Lit × DataW H) → Nat
  | [] => 0
  | x :: r => uptoBulkEntry x + uptoBulkEntries r
def uptoBulkEntry {H : Type} : Lit × DataW H → Nat
  | (.string bytes, d) => bytes.length + uptoBulk d + 1
  | (_, d) => uptoBulk d + 1
 end
def uptoSmall : (H : Type) → List (DataW H) → Bool := fun _ ds => decide (uptoBulkAll ds ≤ 1048576)
def OpenSpec.upto (s : _root_.Go.ChangeSpec) : _root_.Go.OpenSpec := { _root_.Go.OpenSpec.ofChange s with cond := some uptoSmall }

/-- 'tallystonelaw56.LogOpen', WHERE WHAT IT READS IS OF BULK AT MOST 1048576: true; the input reads as it did. -/
def logOpenUptoRow : OpenClaim := { program := "ytkojomakibfncaa", sum := "4dc0bcd5ef9e8e546b36acc07dac4f0c2b1c56693666a29c23d0a6f422941d8d", func := "tallystone/tallystonelaw56.LogOpen", spec := "logOpen", apart := false, narrowed := true }
def LogOpenUptoSaid : Prop := logOpenUptoRow.holds Try.pinned (OpenSpec.upto logOpenSpec)

/-- 'tallystonelaw56.LogRoundTrip', WHERE WHAT IT READS IS OF BULK AT MOST 1048576: true; the input reads as it did. -/
def logRoundTripUptoRow : OpenClaim := { program := "ytkojomakibfncaa", sum := "4dc0bcd5ef9e8e546b36acc07dac4f0c2b1c56693666a29c23d0a6f422941d8d", func := "tallystone/tallystonelaw56.LogRoundTrip", spec := "logRoundTrip", apart := false, narrowed := true }
def LogRoundTripUptoSaid : Prop := logRoundTripUptoRow.holds Try.pinned (OpenSpec.upto logRoundTripSpec)

/-- 'tallystonelaw56.LogCrash', WHERE WHAT IT READS IS OF BULK AT MOST 1048576: true; the input reads as it did. -/
def logCrashUptoRow : OpenClaim := { program := "ytkojomakibfncaa", sum := "4dc0bcd5ef9e8e546b36acc07dac4f0c2b1c56693666a29c23d0a6f422941d8d", func := "tallystone/tallystonelaw56.LogCrash", spec := "logCrash", apart := false, narrowed := true }
def LogCrashUptoSaid : Prop := logCrashUptoRow.holds Try.pinned (OpenSpec.upto logCrashSpec)

/-- 'tallystonelaw56.LogDamage', WHERE WHAT IT READS IS OF BULK AT MOST 1048576: true; the input reads as it did. -/
def logDamageUptoRow : OpenClaim := { program := "ytkojomakibfncaa", sum := "4dc0bcd5ef9e8e546b36acc07dac4f0c2b1c56693666a29c23d0a6f422941d8d", func := "tallystone/tallystonelaw56.LogDamage", spec := "logDamage", apart := false, narrowed := true }
def LogDamageUptoSaid : Prop := logDamageUptoRow.holds Try.pinned (OpenSpec.upto logDamageSpec)

/-- 'tallystonelaw56.LogBytes', WHERE WHAT IT READS IS OF BULK AT MOST 1048576: true; the input reads as it did. -/
def logBytesUptoRow : OpenClaim := { program := "ytkojomakibfncaa", sum := "4dc0bcd5ef9e8e546b36acc07dac4f0c2b1c56693666a29c23d0a6f422941d8d", func := "tallystone/tallystonelaw56.LogBytes", spec := "logBytes", apart := false, narrowed := true }
def LogBytesUptoSaid : Prop := logBytesUptoRow.holds Try.pinned (OpenSpec.upto logBytesSpec)

/-- 'tallystonelaw56.LogNil', WHERE WHAT IT READS IS OF BULK AT MOST 1048576: true; the input reads as it did. -/
def logNilUptoRow : OpenClaim := { program := "ytkojomakibfncaa", sum := "4dc0bcd5ef9e8e546b36acc07dac4f0c2b1c56693666a29c23d0a6f422941d8d", func := "tallystone/tallystonelaw56.LogNil", spec := "logNil", apart := false, narrowed := true }
def LogNilUptoSaid : Prop := logNilUptoRow.holds Try.pinned (OpenSpec.upto logNilSpec)

/-- 'tallystonelaw56.LogScript', WHERE WHAT IT READS IS OF BULK AT MOST 1048576: true; the input reads as it did. -/
def logScriptUptoRow : OpenClaim := { program := "ytkojomakibfncaa", sum := "4dc0bcd5ef9e8e546b36acc07dac4f0c2b1c56693666a29c23d0a6f422941d8d", func := "tallystone/tallystonelaw56.LogScript", spec := "logScript", unfollowed := true, recurses := true, apart := false, narrowed := true }
def LogScriptUptoSaid : Prop := logScriptUptoRow.holds Try.pinned (OpenSpec.upto logScriptSpec)

end Rows
end Go.Proofs.Ytkojomakibfncaa
