/-
  No cell of these rows narrows 'for every input' (looked for: loops, veiled, ifaces, maps, wideKeys, modest, calm, conditions, laid).
  DERIVED. THE GIVEN ROWS OF THIS SEAT. 4 by the template 'for every input the law returns true; each argument reads behind the call as it read before'; 0 by the template 'total and deterministic' (their statements: YtpclegiocblpmaaTotals.lean).
  GIVEN WITH THE SEED: the statements are not yours to turn. If you find one false, say at which input.
  Laid BY PROGRAM, IN A SANDBOX (cutbox-rows.mjs): the forced cells as the released guide's own fill.sh prints them over the translation f710051585b8efb0… (all of the seat's roots in one cut). By AI agents, Wed Nov 11 2026. No macro, syntax, notation, axiom, sorry.
-/
import Derived.Test.YtpclegiocblpmaaChecked
import GoSem.Claim
import GoSem.ClaimJoined
import GoSem.ClaimMapViews
import Derived.JoinedTies
import Derived.KernelRfl
namespace Go.Proofs.Ytpclegiocblpmaa
/- THE CELL 'sum', in the pinned program and in every row, IS THE sha256 OF THE DUMP (.gsa) THAT YtpclegiocblpmaaProg.lean LOADS. Nothing in Lean hashes anything: it is a label: what it is worth is what the hold of that sum in a sandbox is worth. -/
noncomputable def Try.pinned : Pinned := { name := "ytpclegiocblpmaa", sum := "f710051585b8efb04b63127d72257ec3fdbccf22322286281e11a1697a093500", checked := Try.checked }
namespace Rows
def none {H : Type} : Left H := { results := [], args := [] }

/-- 'laws.FnWhole': WHATEVER THE INPUT: true; the input reads as it did. -/
def fnWholeSpec : ChangeSpec := { name := "fnWhole", fn := fun _ => fun
  | [d] => { results := [.lit (.bool true)], args := [d] }
  | _ => none }
def fnWholeRow : OpenClaim := { program := "ytpclegiocblpmaa", sum := "f710051585b8efb04b63127d72257ec3fdbccf22322286281e11a1697a093500", func := "loop.example/g00182/laws.FnWhole", spec := "fnWhole", unfollowed := true, recurses := true, apart := false }
def FnWholeSaid : Prop := fnWholeRow.holds Try.pinned (OpenSpec.ofChange fnWholeSpec)

/-- ITS FALSE NEIGHBOUR: 'it returns false'. Refute it at one input. -/
def fnWholeWrong : ChangeSpec := { name := "fnWhole", fn := fun _ => fun
  | [d] => { results := [.lit (.bool false)], args := [d] }
  | _ => none }
def FnWholeWrongFalsely : Prop := fnWholeRow.holds Try.pinned (OpenSpec.ofChange fnWholeWrong)

/-- 'laws.FnIota': WHATEVER THE INPUT: true; the input reads as it did. -/
def fnIotaSpec : ChangeSpec := { name := "fnIota", fn := fun _ => fun
  | [d] => { results := [.lit (.bool true)], args := [d] }
  | _ => none }
def fnIotaRow : OpenClaim := { program := "ytpclegiocblpmaa", sum := "f710051585b8efb04b63127d72257ec3fdbccf22322286281e11a1697a093500", func := "loop.example/g00182/laws.FnIota", spec := "fnIota", unfollowed := true, recurses := true, apart := false }
def FnIotaSaid : Prop := fnIotaRow.holds Try.pinned (OpenSpec.ofChange fnIotaSpec)

/-- ITS FALSE NEIGHBOUR: 'it returns false'. Refute it at one input. -/
def fnIotaWrong : ChangeSpec := { name := "fnIota", fn := fun _ => fun
  | [d] => { results := [.lit (.bool false)], args := [d] }
  | _ => none }
def FnIotaWrongFalsely : Prop := fnIotaRow.holds Try.pinned (OpenSpec.ofChange fnIotaWrong)

/-- 'laws.FnGraded': WHATEVER THE INPUT: true; the input reads as it did. -/
def fnGradedSpec : ChangeSpec := { name := "fnGraded", fn := fun _ => fun
  | [d] => { results := [.lit (.bool true)], args := [d] }
  | _ => none }
def fnGradedRow : OpenClaim := { program := "ytpclegiocblpmaa", sum := "f710051585b8efb04b63127d72257ec3fdbccf22322286281e11a1697a093500", func := "loop.example/g00182/laws.FnGraded", spec := "fnGraded", unfollowed := true, recurses := true, apart := false }
def FnGradedSaid : Prop := fnGradedRow.holds Try.pinned (OpenSpec.ofChange fnGradedSpec)

/-- ITS FALSE NEIGHBOUR: 'it returns false'. Refute it at one input. -/
def fnGradedWrong : ChangeSpec := { name := "fnGraded", fn := fun _ => fun
  | [d] => { results := [.lit (.bool false)], args := [d] }
  | _ => none }
def FnGradedWrongFalsely : Prop := fnGradedRow.holds Try.pinned (OpenSpec.ofChange fnGradedWrong)

/-- 'laws.FnNewVars': WHATEVER THE INPUT: true; the input reads as it did. -/
def fnNewVarsSpec : ChangeSpec := { name := "fnNewVars", fn := fun _ => fun
  | [d] => { results := [.lit (.bool true)], args := [d] }
  | _ => none }
def fnNewVarsRow : OpenClaim := { program := "ytpclegiocblpmaa", sum := "f710051585b8efb04b63127d72257ec3fdbccf22322286281e11a1697a093500", func := "loop.example/g00182/laws.FnNewVars", spec := "fnNewVars", unfollowed := true, recurses := true, apart := false }
def FnNewVarsSaid : Prop := fnNewVarsRow.holds Try.pinned (OpenSpec.ofChange fnNewVarsSpec)

/-- ITS FALSE NEIGHBOUR: 'it returns false'. Refute it at one input. -/
def fnNewVarsWrong : ChangeSpec := { name := "fnNewVars", fn := fun _ => fun
  | [d] => { results := [.lit (.bool false)], args := [d] }
  | _ => none }
def FnNewVarsWrongFalsely : Prop := fnNewVarsRow.holds Try.pinned (OpenSpec.ofChange fnNewVarsWrong)

/- THE SECOND FORM. 'bulk': how many values and letters a reading holds, each counted each time it is reached (what is shared counts as often as it is met; a slice's spare places count too). A statement '..UptoSaid' is the law's where the arguments, and the package variables that the reading takes, are together of bulk at most 1048576: NARROWER than '..Said'. Prove '..Said' where nothing that the law and all that it calls make is longer than what came in: it says more and counts as full. Else prove '..UptoSaid'. A law counts once. -/
mutual
def uptoBulk {H : Type} : DataW H → Nat
  | .lit (.string bytes) => bytes.length + 1
  | .lit _ => 1
  | .nil => 1
  | .ptr d => uptoBulk d + 1
  | .slice elems spare => uptoBulkAll elems + uptoBulkAll spare + 1
  | .agg parts => uptoBulkAll parts + 1
  | .iface _ d => uptoBulk d + 1
  | .map entries => uptoBulkEntries entries + 1
  | .held _ => 1
def uptoBulkAll {H : Type} : List (DataW H) → Nat
  | [] => 0
  | d :: r => uptoBulk d + uptoBulkAll r
def uptoBulkEntries {H : Type} : List (Lit × DataW H) → Nat
  | [] => 0
  | x :: r => uptoBulkEntry x + uptoBulkEntries r
def uptoBulkEntry {H : Type} : Lit × DataW H → Nat
  | (.string bytes, d) => bytes.length + uptoBulk d + 1
  | (_, d) => uptoBulk d + 1
 end
def uptoSmall : (H : Type) → List (DataW H) → Bool := fun _ ds => decide (uptoBulkAll ds ≤ 1048576)
def OpenSpec.upto (s : _root_.Go.ChangeSpec) : _root_.Go.OpenSpec := { _root_.Go.OpenSpec.ofChange s with cond := some uptoSmall }

/-- 'laws.FnWhole', WHERE WHAT IT READS IS OF BULK AT MOST 1048576: true; the input reads as it did. -/
def fnWholeUptoRow : OpenClaim := { program := "ytpclegiocblpmaa", sum := "f710051585b8efb04b63127d72257ec3fdbccf22322286281e11a1697a093500", func := "loop.example/g00182/laws.FnWhole", spec := "fnWhole", unfollowed := true, recurses := true, apart := false, narrowed := true }
def FnWholeUptoSaid : Prop := fnWholeUptoRow.holds Try.pinned (OpenSpec.upto fnWholeSpec)

/-- 'laws.FnIota', WHERE WHAT IT READS IS OF BULK AT MOST 1048576: true; the input reads as it did. -/
def fnIotaUptoRow : OpenClaim := { program := "ytpclegiocblpmaa", sum := "f710051585b8efb04b63127d72257ec3fdbccf22322286281e11a1697a093500", func := "loop.example/g00182/laws.FnIota", spec := "fnIota", unfollowed := true, recurses := true, apart := false, narrowed := true }
def FnIotaUptoSaid : Prop := fnIotaUptoRow.holds Try.pinned (OpenSpec.upto fnIotaSpec)

/-- 'laws.FnGraded', WHERE WHAT IT READS IS OF BULK AT MOST 1048576: true; the input reads as it did. -/
def fnGradedUptoRow : OpenClaim := { program := "ytpclegiocblpmaa", sum := "f710051585b8efb04b63127d72257ec3fdbccf22322286281e11a1697a093500", func := "loop.example/g00182/laws.FnGraded", spec := "fnGraded", unfollowed := true, recurses := true, apart := false, narrowed := true }
def FnGradedUptoSaid : Prop := fnGradedUptoRow.holds Try.pinned (OpenSpec.upto fnGradedSpec)

/-- 'laws.FnNewVars', WHERE WHAT IT READS IS OF BULK AT MOST 1048576: true; the input reads as it did. -/
def fnNewVarsUptoRow : OpenClaim := { program := "ytpclegiocblpmaa", sum := "f710051585b8efb04b63127d72257ec3fdbccf22322286281e11a1697a093500", func := "loop.example/g00182/laws.FnNewVars", spec := "fnNewVars", unfollowed := true, recurses := true, apart := false, narrowed := true }
def FnNewVarsUptoSaid : Prop := fnNewVarsUptoRow.holds Try.pinned (OpenSpec.upto fnNewVarsSpec)

end Rows
end Go.Proofs.Ytpclegiocblpmaa
