/-
  No cell of these rows narrows 'for every input' (looked for: loops, veiled, ifaces, maps, wideKeys, modest, calm, conditions, laid).
  DERIVED. THE GIVEN ROWS OF THIS SEAT. 9 by the template 'for every input the law returns true; each argument reads behind the call as it read before'; 0 by the template 'total and deterministic' (their statements: YtmlimgdpcoloiaaTotals.lean).
  GIVEN WITH THE SEED: the statements are not yours to turn. If you find one false, say at which input.
  Laid BY PROGRAM, IN A SANDBOX (cutbox-rows.mjs): the forced cells as the released guide's own fill.sh prints them over the translation 672686cb5a5b599d… (all of the seat's roots in one cut). By AI agents, Wed Nov 11 2026. No macro, syntax, notation, axiom, sorry.
-/
import Derived.Test.YtmlimgdpcoloiaaChecked
import GoSem.Claim
import GoSem.ClaimJoined
import GoSem.ClaimMapViews
import Derived.JoinedTies
import Derived.KernelRfl
namespace Go.Proofs.Ytmlimgdpcoloiaa
/- THE CELL 'sum', in the pinned program and in every row, IS THE sha256 OF THE DUMP (.gsa) THAT YtmlimgdpcoloiaaProg.lean LOADS. Nothing in Lean hashes anything: it is a label: what it is worth is what the hold of that sum in a sandbox is worth. -/
noncomputable def Try.pinned : Pinned := { name := "ytmlimgdpcoloiaa", sum := "672686cb5a5b599d8b2f914d3f38487def867bbe6fb217328ea3886b4e4e8fff", checked := Try.checked }
namespace Rows
def none {H : Type} : Left H := { results := [], args := [] }

/-- 'laws.FnExactScan': WHATEVER THE INPUT: true; the input reads as it did. -/
def fnExactScanSpec : ChangeSpec := { name := "fnExactScan", fn := fun _ => fun
  | [d1, d2] => { results := [.lit (.bool true)], args := [d1, d2] }
  | _ => none }
def fnExactScanRow : OpenClaim := { program := "ytmlimgdpcoloiaa", sum := "672686cb5a5b599d8b2f914d3f38487def867bbe6fb217328ea3886b4e4e8fff", func := "loop.example/g00182/laws.FnExactScan", spec := "fnExactScan", unfollowed := true, recurses := true, apart := false }
def FnExactScanSaid : Prop := fnExactScanRow.holds Try.pinned (OpenSpec.ofChange fnExactScanSpec)

/-- ITS FALSE NEIGHBOUR: 'it returns false'. Refute it at one input. -/
def fnExactScanWrong : ChangeSpec := { name := "fnExactScan", fn := fun _ => fun
  | [d1, d2] => { results := [.lit (.bool false)], args := [d1, d2] }
  | _ => none }
def FnExactScanWrongFalsely : Prop := fnExactScanRow.holds Try.pinned (OpenSpec.ofChange fnExactScanWrong)

/-- 'laws.FnExactInner': WHATEVER THE INPUT: true; the input reads as it did. -/
def fnExactInnerSpec : ChangeSpec := { name := "fnExactInner", fn := fun _ => fun
  | [d1, d2, d3, d4] => { results := [.lit (.bool true)], args := [d1, d2, d3, d4] }
  | _ => none }
def fnExactInnerRow : OpenClaim := { program := "ytmlimgdpcoloiaa", sum := "672686cb5a5b599d8b2f914d3f38487def867bbe6fb217328ea3886b4e4e8fff", func := "loop.example/g00182/laws.FnExactInner", spec := "fnExactInner", unfollowed := true, recurses := true, apart := false }
def FnExactInnerSaid : Prop := fnExactInnerRow.holds Try.pinned (OpenSpec.ofChange fnExactInnerSpec)

/-- ITS FALSE NEIGHBOUR: 'it returns false'. Refute it at one input. -/
def fnExactInnerWrong : ChangeSpec := { name := "fnExactInner", fn := fun _ => fun
  | [d1, d2, d3, d4] => { results := [.lit (.bool false)], args := [d1, d2, d3, d4] }
  | _ => none }
def FnExactInnerWrongFalsely : Prop := fnExactInnerRow.holds Try.pinned (OpenSpec.ofChange fnExactInnerWrong)

/-- 'laws.FnScanned': WHATEVER THE INPUT: true; the input reads as it did. -/
def fnScannedSpec : ChangeSpec := { name := "fnScanned", fn := fun _ => fun
  | [d] => { results := [.lit (.bool true)], args := [d] }
  | _ => none }
def fnScannedRow : OpenClaim := { program := "ytmlimgdpcoloiaa", sum := "672686cb5a5b599d8b2f914d3f38487def867bbe6fb217328ea3886b4e4e8fff", func := "loop.example/g00182/laws.FnScanned", spec := "fnScanned", unfollowed := true, recurses := true, apart := false }
def FnScannedSaid : Prop := fnScannedRow.holds Try.pinned (OpenSpec.ofChange fnScannedSpec)

/-- ITS FALSE NEIGHBOUR: 'it returns false'. Refute it at one input. -/
def fnScannedWrong : ChangeSpec := { name := "fnScanned", fn := fun _ => fun
  | [d] => { results := [.lit (.bool false)], args := [d] }
  | _ => none }
def FnScannedWrongFalsely : Prop := fnScannedRow.holds Try.pinned (OpenSpec.ofChange fnScannedWrong)

/-- 'laws.FnInner': WHATEVER THE INPUT: true; the input reads as it did. -/
def fnInnerSpec : ChangeSpec := { name := "fnInner", fn := fun _ => fun
  | [d] => { results := [.lit (.bool true)], args := [d] }
  | _ => none }
def fnInnerRow : OpenClaim := { program := "ytmlimgdpcoloiaa", sum := "672686cb5a5b599d8b2f914d3f38487def867bbe6fb217328ea3886b4e4e8fff", func := "loop.example/g00182/laws.FnInner", spec := "fnInner", unfollowed := true, recurses := true, apart := false }
def FnInnerSaid : Prop := fnInnerRow.holds Try.pinned (OpenSpec.ofChange fnInnerSpec)

/-- ITS FALSE NEIGHBOUR: 'it returns false'. Refute it at one input. -/
def fnInnerWrong : ChangeSpec := { name := "fnInner", fn := fun _ => fun
  | [d] => { results := [.lit (.bool false)], args := [d] }
  | _ => none }
def FnInnerWrongFalsely : Prop := fnInnerRow.holds Try.pinned (OpenSpec.ofChange fnInnerWrong)

/-- 'laws.FnCompiled': WHATEVER THE INPUT: true; the input reads as it did. -/
def fnCompiledSpec : ChangeSpec := { name := "fnCompiled", fn := fun _ => fun
  | [d] => { results := [.lit (.bool true)], args := [d] }
  | _ => none }
def fnCompiledRow : OpenClaim := { program := "ytmlimgdpcoloiaa", sum := "672686cb5a5b599d8b2f914d3f38487def867bbe6fb217328ea3886b4e4e8fff", func := "loop.example/g00182/laws.FnCompiled", spec := "fnCompiled", unfollowed := true, recurses := true, apart := false }
def FnCompiledSaid : Prop := fnCompiledRow.holds Try.pinned (OpenSpec.ofChange fnCompiledSpec)

/-- ITS FALSE NEIGHBOUR: 'it returns false'. Refute it at one input. -/
def fnCompiledWrong : ChangeSpec := { name := "fnCompiled", fn := fun _ => fun
  | [d] => { results := [.lit (.bool false)], args := [d] }
  | _ => none }
def FnCompiledWrongFalsely : Prop := fnCompiledRow.holds Try.pinned (OpenSpec.ofChange fnCompiledWrong)

/-- 'laws.FnCodeBytes': WHATEVER THE INPUT: true; the input reads as it did. -/
def fnCodeBytesSpec : ChangeSpec := { name := "fnCodeBytes", fn := fun _ => fun
  | [d] => { results := [.lit (.bool true)], args := [d] }
  | _ => none }
def fnCodeBytesRow : OpenClaim := { program := "ytmlimgdpcoloiaa", sum := "672686cb5a5b599d8b2f914d3f38487def867bbe6fb217328ea3886b4e4e8fff", func := "loop.example/g00182/laws.FnCodeBytes", spec := "fnCodeBytes", unfollowed := true, recurses := true, apart := false }
def FnCodeBytesSaid : Prop := fnCodeBytesRow.holds Try.pinned (OpenSpec.ofChange fnCodeBytesSpec)

/-- ITS FALSE NEIGHBOUR: 'it returns false'. Refute it at one input. -/
def fnCodeBytesWrong : ChangeSpec := { name := "fnCodeBytes", fn := fun _ => fun
  | [d] => { results := [.lit (.bool false)], args := [d] }
  | _ => none }
def FnCodeBytesWrongFalsely : Prop := fnCodeBytesRow.holds Try.pinned (OpenSpec.ofChange fnCodeBytesWrong)

/-- 'laws.FnNewVars': WHATEVER THE INPUT: true; the input reads as it did. -/
def fnNewVarsSpec : ChangeSpec := { name := "fnNewVars", fn := fun _ => fun
  | [d] => { results := [.lit (.bool true)], args := [d] }
  | _ => none }
def fnNewVarsRow : OpenClaim := { program := "ytmlimgdpcoloiaa", sum := "672686cb5a5b599d8b2f914d3f38487def867bbe6fb217328ea3886b4e4e8fff", func := "loop.example/g00182/laws.FnNewVars", spec := "fnNewVars", unfollowed := true, recurses := true, apart := false }
def FnNewVarsSaid : Prop := fnNewVarsRow.holds Try.pinned (OpenSpec.ofChange fnNewVarsSpec)

/-- ITS FALSE NEIGHBOUR: 'it returns false'. Refute it at one input. -/
def fnNewVarsWrong : ChangeSpec := { name := "fnNewVars", fn := fun _ => fun
  | [d] => { results := [.lit (.bool false)], args := [d] }
  | _ => none }
def FnNewVarsWrongFalsely : Prop := fnNewVarsRow.holds Try.pinned (OpenSpec.ofChange fnNewVarsWrong)

/-- 'laws.FnExactDoOne': WHATEVER THE INPUT: true; the input reads as it did. -/
def fnExactDoOneSpec : ChangeSpec := { name := "fnExactDoOne", fn := fun _ => fun
  | [d1, d2] => { results := [.lit (.bool true)], args := [d1, d2] }
  | _ => none }
def fnExactDoOneRow : OpenClaim := { program := "ytmlimgdpcoloiaa", sum := "672686cb5a5b599d8b2f914d3f38487def867bbe6fb217328ea3886b4e4e8fff", func := "loop.example/g00182/laws.FnExactDoOne", spec := "fnExactDoOne", unfollowed := true, recurses := true, apart := false }
def FnExactDoOneSaid : Prop := fnExactDoOneRow.holds Try.pinned (OpenSpec.ofChange fnExactDoOneSpec)

/-- ITS FALSE NEIGHBOUR: 'it returns false'. Refute it at one input. -/
def fnExactDoOneWrong : ChangeSpec := { name := "fnExactDoOne", fn := fun _ => fun
  | [d1, d2] => { results := [.lit (.bool false)], args := [d1, d2] }
  | _ => none }
def FnExactDoOneWrongFalsely : Prop := fnExactDoOneRow.holds Try.pinned (OpenSpec.ofChange fnExactDoOneWrong)

/-- 'laws.FnExactDoTwo': WHATEVER THE INPUT: true; the input reads as it did. -/
def fnExactDoTwoSpec : ChangeSpec := { name := "fnExactDoTwo", fn := fun _ => fun
  | [d1, d2, d3] => { results := [.lit (.bool true)], args := [d1, d2, d3] }
  | _ => none }
def fnExactDoTwoRow : OpenClaim := { program := "ytmlimgdpcoloiaa", sum := "672686cb5a5b599d8b2f914d3f38487def867bbe6fb217328ea3886b4e4e8fff", func := "loop.example/g00182/laws.FnExactDoTwo", spec := "fnExactDoTwo", unfollowed := true, recurses := true, apart := false }
def FnExactDoTwoSaid : Prop := fnExactDoTwoRow.holds Try.pinned (OpenSpec.ofChange fnExactDoTwoSpec)

/-- ITS FALSE NEIGHBOUR: 'it returns false'. Refute it at one input. -/
def fnExactDoTwoWrong : ChangeSpec := { name := "fnExactDoTwo", fn := fun _ => fun
  | [d1, d2, d3] => { results := [.lit (.bool false)], args := [d1, d2, d3] }
  | _ => none }
def FnExactDoTwoWrongFalsely : Prop := fnExactDoTwoRow.holds Try.pinned (OpenSpec.ofChange fnExactDoTwoWrong)

/- THE SECOND FORM. 'bulk': how many values and letters a reading holds, each counted each time it is reached (what is shared counts as often as it is met; a slice's spare places count too). A statement '..UptoSaid' is the law's where the arguments, and the package variables that the reading takes, are together of bulk at most 1048576: NARROWER than '..Said'. Prove '..Said' where nothing that the law and all that it calls make is longer than what came in: it says more and counts as full. Else prove '..UptoSaid'. A law counts once. -/
mutual
def uptoBulk {H : Type} : DataW H → Nat
  | .lit (.string bytes) => bytes.length + 1
  | .lit _ => 1
  | .nil => 1
  | .ptr d => uptoBulk d + 1
  | .slice elems spare => uptoBulkAll elems + uptoBulkAll spare + 1
  | .agg parts => uptoBulkAll parts + 1
  | .iface _ d => uptoBulk d + 1
  | .map entries => uptoBulkEntries entries + 1
  | .held _ => 1
def uptoBulkAll {H : Type} : List (DataW H) → Nat
  | [] => 0
  | d :: r => uptoBulk d + uptoBulkAll r
def uptoBulkEntries {H : Type} : List (Lit × DataW H) → Nat
  | [] => 0
  | x :: r => uptoBulkEntry x + uptoBulkEntries r
def uptoBulkEntry {H : Type} : Lit × DataW H → Nat
  | (.string bytes, d) => bytes.length + uptoBulk d + 1
  | (_, d) => uptoBulk d + 1
 end
def uptoSmall : (H : Type) → List (DataW H) → Bool := fun _ ds => decide (uptoBulkAll ds ≤ 1048576)
def OpenSpec.upto (s : _root_.Go.ChangeSpec) : _root_.Go.OpenSpec := { _root_.Go.OpenSpec.ofChange s with cond := some uptoSmall }

/-- 'laws.FnExactScan', WHERE WHAT IT READS IS OF BULK AT MOST 1048576: true; the input reads as it did. -/
def fnExactScanUptoRow : OpenClaim := { program := "ytmlimgdpcoloiaa", sum := "672686cb5a5b599d8b2f914d3f38487def867bbe6fb217328ea3886b4e4e8fff", func := "loop.example/g00182/laws.FnExactScan", spec := "fnExactScan", unfollowed := true, recurses := true, apart := false, narrowed := true }
def FnExactScanUptoSaid : Prop := fnExactScanUptoRow.holds Try.pinned (OpenSpec.upto fnExactScanSpec)

/-- 'laws.FnExactInner', WHERE WHAT IT READS IS OF BULK AT MOST 1048576: true; the input reads as it did. -/
def fnExactInnerUptoRow : OpenClaim := { program := "ytmlimgdpcoloiaa", sum := "672686cb5a5b599d8b2f914d3f38487def867bbe6fb217328ea3886b4e4e8fff", func := "loop.example/g00182/laws.FnExactInner", spec := "fnExactInner", unfollowed := true, recurses := true, apart := false, narrowed := true }
def FnExactInnerUptoSaid : Prop := fnExactInnerUptoRow.holds Try.pinned (OpenSpec.upto fnExactInnerSpec)

/-- 'laws.FnScanned', WHERE WHAT IT READS IS OF BULK AT MOST 1048576: true; the input reads as it did. -/
def fnScannedUptoRow : OpenClaim := { program := "ytmlimgdpcoloiaa", sum := "672686cb5a5b599d8b2f914d3f38487def867bbe6fb217328ea3886b4e4e8fff", func := "loop.example/g00182/laws.FnScanned", spec := "fnScanned", unfollowed := true, recurses := true, apart := false, narrowed := true }
def FnScannedUptoSaid : Prop := fnScannedUptoRow.holds Try.pinned (OpenSpec.upto fnScannedSpec)

/-- 'laws.FnInner', WHERE WHAT IT READS IS OF BULK AT MOST 1048576: true; the input reads as it did. -/
def fnInnerUptoRow : OpenClaim := { program := "ytmlimgdpcoloiaa", sum := "672686cb5a5b599d8b2f914d3f38487def867bbe6fb217328ea3886b4e4e8fff", func := "loop.example/g00182/laws.FnInner", spec := "fnInner", unfollowed := true, recurses := true, apart := false, narrowed := true }
def FnInnerUptoSaid : Prop := fnInnerUptoRow.holds Try.pinned (OpenSpec.upto fnInnerSpec)

/-- 'laws.FnCompiled', WHERE WHAT IT READS IS OF BULK AT MOST 1048576: true; the input reads as it did. -/
def fnCompiledUptoRow : OpenClaim := { program := "ytmlimgdpcoloiaa", sum := "672686cb5a5b599d8b2f914d3f38487def867bbe6fb217328ea3886b4e4e8fff", func := "loop.example/g00182/laws.FnCompiled", spec := "fnCompiled", unfollowed := true, recurses := true, apart := false, narrowed := true }
def FnCompiledUptoSaid : Prop := fnCompiledUptoRow.holds Try.pinned (OpenSpec.upto fnCompiledSpec)

/-- 'laws.FnCodeBytes', WHERE WHAT IT READS IS OF BULK AT MOST 1048576: true; the input reads as it did. -/
def fnCodeBytesUptoRow : OpenClaim := { program := "ytmlimgdpcoloiaa", sum := "672686cb5a5b599d8b2f914d3f38487def867bbe6fb217328ea3886b4e4e8fff", func := "loop.example/g00182/laws.FnCodeBytes", spec := "fnCodeBytes", unfollowed := true, recurses := true, apart := false, narrowed := true }
def FnCodeBytesUptoSaid : Prop := fnCodeBytesUptoRow.holds Try.pinned (OpenSpec.upto fnCodeBytesSpec)

/-- 'laws.FnNewVars', WHERE WHAT IT READS IS OF BULK AT MOST 1048576: true; the input reads as it did. -/
def fnNewVarsUptoRow : OpenClaim := { program := "ytmlimgdpcoloiaa", sum := "672686cb5a5b599d8b2f914d3f38487def867bbe6fb217328ea3886b4e4e8fff", func := "loop.example/g00182/laws.FnNewVars", spec := "fnNewVars", unfollowed := true, recurses := true, apart := false, narrowed := true }
def FnNewVarsUptoSaid : Prop := fnNewVarsUptoRow.holds Try.pinned (OpenSpec.upto fnNewVarsSpec)

/-- 'laws.FnExactDoOne', WHERE WHAT IT READS IS OF BULK AT MOST 1048576: true; the input reads as it did. -/
def fnExactDoOneUptoRow : OpenClaim := { program := "ytmlimgdpcoloiaa", sum := "672686cb5a5b599d8b2f914d3f38487def867bbe6fb217328ea3886b4e4e8fff", func := "loop.example/g00182/laws.FnExactDoOne", spec := "fnExactDoOne", unfollowed := true, recurses := true, apart := false, narrowed := true }
def FnExactDoOneUptoSaid : Prop := fnExactDoOneUptoRow.holds Try.pinned (OpenSpec.upto fnExactDoOneSpec)

/-- 'laws.FnExactDoTwo', WHERE WHAT IT READS IS OF BULK AT MOST 1048576: true; the input reads as it did. -/
def fnExactDoTwoUptoRow : OpenClaim := { program := "ytmlimgdpcoloiaa", sum := "672686cb5a5b599d8b2f914d3f38487def867bbe6fb217328ea3886b4e4e8fff", func := "loop.example/g00182/laws.FnExactDoTwo", spec := "fnExactDoTwo", unfollowed := true, recurses := true, apart := false, narrowed := true }
def FnExactDoTwoUptoSaid : Prop := fnExactDoTwoUptoRow.holds Try.pinned (OpenSpec.upto fnExactDoTwoSpec)

end Rows
end Go.Proofs.Ytmlimgdpcoloiaa
