/-
  No cell of these rows narrows 'for every input' (looked for: loops, veiled, ifaces, maps, wideKeys, modest, calm, conditions, laid).
  DERIVED. THE GIVEN ROWS OF THIS SEAT. 12 by the template 'for every input the law returns true; each argument reads behind the call as it read before'; 0 by the template 'total and deterministic' (their statements: YtgekbancaeabgaaTotals.lean).
  GIVEN WITH THE SEED: the statements are not yours to turn. If you find one false, say at which input.
  Laid BY PROGRAM, IN A SANDBOX (cutbox-rows.mjs): the forced cells as the released guide's own fill.sh prints them over the translation bec7b4803f83c7ac… (all of the seat's roots in one cut). By AI agents, Wed Nov 11 2026. No macro, syntax, notation, axiom, sorry.
-/
import Derived.Test.YtgekbancaeabgaaChecked
import GoSem.Claim
import GoSem.ClaimJoined
import GoSem.ClaimMapViews
import Derived.JoinedTies
import Derived.KernelRfl
namespace Go.Proofs.Ytgekbancaeabgaa
/- THE CELL 'sum', in the pinned program and in every row, IS THE sha256 OF THE DUMP (.gsa) THAT YtgekbancaeabgaaProg.lean LOADS. Nothing in Lean hashes anything: it is a label: what it is worth is what the hold of that sum in a sandbox is worth. -/
noncomputable def Try.pinned : Pinned := { name := "ytgekbancaeabgaa", sum := "bec7b4803f83c7ac94370b6eb10158632b97c220b13acf7bfcec35a58c33a9ad", checked := Try.checked }
namespace Rows
def none {H : Type} : Left H := { results := [], args := [] }

/-- 'laws.FnExactMachineNew': WHATEVER THE INPUT: true; the input reads as it did. -/
def fnExactMachineNewSpec : ChangeSpec := { name := "fnExactMachineNew", fn := fun _ => fun
  | [d1, d2] => { results := [.lit (.bool true)], args := [d1, d2] }
  | _ => none }
def fnExactMachineNewRow : OpenClaim := { program := "ytgekbancaeabgaa", sum := "bec7b4803f83c7ac94370b6eb10158632b97c220b13acf7bfcec35a58c33a9ad", func := "loop.example/g00182/laws.FnExactMachineNew", spec := "fnExactMachineNew", apart := false }
def FnExactMachineNewSaid : Prop := fnExactMachineNewRow.holds Try.pinned (OpenSpec.ofChange fnExactMachineNewSpec)

/-- ITS FALSE NEIGHBOUR: 'it returns false'. Refute it at one input. -/
def fnExactMachineNewWrong : ChangeSpec := { name := "fnExactMachineNew", fn := fun _ => fun
  | [d1, d2] => { results := [.lit (.bool false)], args := [d1, d2] }
  | _ => none }
def FnExactMachineNewWrongFalsely : Prop := fnExactMachineNewRow.holds Try.pinned (OpenSpec.ofChange fnExactMachineNewWrong)

/-- 'laws.FnExactLex': WHATEVER THE INPUT: true; the input reads as it did. -/
def fnExactLexSpec : ChangeSpec := { name := "fnExactLex", fn := fun _ => fun
  | [d] => { results := [.lit (.bool true)], args := [d] }
  | _ => none }
def fnExactLexRow : OpenClaim := { program := "ytgekbancaeabgaa", sum := "bec7b4803f83c7ac94370b6eb10158632b97c220b13acf7bfcec35a58c33a9ad", func := "loop.example/g00182/laws.FnExactLex", spec := "fnExactLex", apart := false }
def FnExactLexSaid : Prop := fnExactLexRow.holds Try.pinned (OpenSpec.ofChange fnExactLexSpec)

/-- ITS FALSE NEIGHBOUR: 'it returns false'. Refute it at one input. -/
def fnExactLexWrong : ChangeSpec := { name := "fnExactLex", fn := fun _ => fun
  | [d] => { results := [.lit (.bool false)], args := [d] }
  | _ => none }
def FnExactLexWrongFalsely : Prop := fnExactLexRow.holds Try.pinned (OpenSpec.ofChange fnExactLexWrong)

/-- 'laws.FnFound': WHATEVER THE INPUT: true; the input reads as it did. -/
def fnFoundSpec : ChangeSpec := { name := "fnFound", fn := fun _ => fun
  | [d] => { results := [.lit (.bool true)], args := [d] }
  | _ => none }
def fnFoundRow : OpenClaim := { program := "ytgekbancaeabgaa", sum := "bec7b4803f83c7ac94370b6eb10158632b97c220b13acf7bfcec35a58c33a9ad", func := "loop.example/g00182/laws.FnFound", spec := "fnFound", unfollowed := true, recurses := true, apart := false }
def FnFoundSaid : Prop := fnFoundRow.holds Try.pinned (OpenSpec.ofChange fnFoundSpec)

/-- ITS FALSE NEIGHBOUR: 'it returns false'. Refute it at one input. -/
def fnFoundWrong : ChangeSpec := { name := "fnFound", fn := fun _ => fun
  | [d] => { results := [.lit (.bool false)], args := [d] }
  | _ => none }
def FnFoundWrongFalsely : Prop := fnFoundRow.holds Try.pinned (OpenSpec.ofChange fnFoundWrong)

/-- 'laws.FnItself': WHATEVER THE INPUT: true; the input reads as it did. -/
def fnItselfSpec : ChangeSpec := { name := "fnItself", fn := fun _ => fun
  | [d] => { results := [.lit (.bool true)], args := [d] }
  | _ => none }
def fnItselfRow : OpenClaim := { program := "ytgekbancaeabgaa", sum := "bec7b4803f83c7ac94370b6eb10158632b97c220b13acf7bfcec35a58c33a9ad", func := "loop.example/g00182/laws.FnItself", spec := "fnItself", unfollowed := true, recurses := true, apart := false }
def FnItselfSaid : Prop := fnItselfRow.holds Try.pinned (OpenSpec.ofChange fnItselfSpec)

/-- ITS FALSE NEIGHBOUR: 'it returns false'. Refute it at one input. -/
def fnItselfWrong : ChangeSpec := { name := "fnItself", fn := fun _ => fun
  | [d] => { results := [.lit (.bool false)], args := [d] }
  | _ => none }
def FnItselfWrongFalsely : Prop := fnItselfRow.holds Try.pinned (OpenSpec.ofChange fnItselfWrong)

/-- 'laws.FnExactCodeOk': WHATEVER THE INPUT: true; the input reads as it did. -/
def fnExactCodeOkSpec : ChangeSpec := { name := "fnExactCodeOk", fn := fun _ => fun
  | [d] => { results := [.lit (.bool true)], args := [d] }
  | _ => none }
def fnExactCodeOkRow : OpenClaim := { program := "ytgekbancaeabgaa", sum := "bec7b4803f83c7ac94370b6eb10158632b97c220b13acf7bfcec35a58c33a9ad", func := "loop.example/g00182/laws.FnExactCodeOk", spec := "fnExactCodeOk", unfollowed := true, recurses := true, apart := false }
def FnExactCodeOkSaid : Prop := fnExactCodeOkRow.holds Try.pinned (OpenSpec.ofChange fnExactCodeOkSpec)

/-- ITS FALSE NEIGHBOUR: 'it returns false'. Refute it at one input. -/
def fnExactCodeOkWrong : ChangeSpec := { name := "fnExactCodeOk", fn := fun _ => fun
  | [d] => { results := [.lit (.bool false)], args := [d] }
  | _ => none }
def FnExactCodeOkWrongFalsely : Prop := fnExactCodeOkRow.holds Try.pinned (OpenSpec.ofChange fnExactCodeOkWrong)

/-- 'laws.FnPicked': WHATEVER THE INPUT: true; the input reads as it did. -/
def fnPickedSpec : ChangeSpec := { name := "fnPicked", fn := fun _ => fun
  | [d] => { results := [.lit (.bool true)], args := [d] }
  | _ => none }
def fnPickedRow : OpenClaim := { program := "ytgekbancaeabgaa", sum := "bec7b4803f83c7ac94370b6eb10158632b97c220b13acf7bfcec35a58c33a9ad", func := "loop.example/g00182/laws.FnPicked", spec := "fnPicked", unfollowed := true, recurses := true, apart := false }
def FnPickedSaid : Prop := fnPickedRow.holds Try.pinned (OpenSpec.ofChange fnPickedSpec)

/-- ITS FALSE NEIGHBOUR: 'it returns false'. Refute it at one input. -/
def fnPickedWrong : ChangeSpec := { name := "fnPicked", fn := fun _ => fun
  | [d] => { results := [.lit (.bool false)], args := [d] }
  | _ => none }
def FnPickedWrongFalsely : Prop := fnPickedRow.holds Try.pinned (OpenSpec.ofChange fnPickedWrong)

/-- 'laws.FnSpaces': WHATEVER THE INPUT: true; the input reads as it did. -/
def fnSpacesSpec : ChangeSpec := { name := "fnSpaces", fn := fun _ => fun
  | [d] => { results := [.lit (.bool true)], args := [d] }
  | _ => none }
def fnSpacesRow : OpenClaim := { program := "ytgekbancaeabgaa", sum := "bec7b4803f83c7ac94370b6eb10158632b97c220b13acf7bfcec35a58c33a9ad", func := "loop.example/g00182/laws.FnSpaces", spec := "fnSpaces", recurses := true, apart := false }
def FnSpacesSaid : Prop := fnSpacesRow.holds Try.pinned (OpenSpec.ofChange fnSpacesSpec)

/-- ITS FALSE NEIGHBOUR: 'it returns false'. Refute it at one input. -/
def fnSpacesWrong : ChangeSpec := { name := "fnSpaces", fn := fun _ => fun
  | [d] => { results := [.lit (.bool false)], args := [d] }
  | _ => none }
def FnSpacesWrongFalsely : Prop := fnSpacesRow.holds Try.pinned (OpenSpec.ofChange fnSpacesWrong)

/-- 'laws.FnCopied': WHATEVER THE INPUT: true; the input reads as it did. -/
def fnCopiedSpec : ChangeSpec := { name := "fnCopied", fn := fun _ => fun
  | [d] => { results := [.lit (.bool true)], args := [d] }
  | _ => none }
def fnCopiedRow : OpenClaim := { program := "ytgekbancaeabgaa", sum := "bec7b4803f83c7ac94370b6eb10158632b97c220b13acf7bfcec35a58c33a9ad", func := "loop.example/g00182/laws.FnCopied", spec := "fnCopied", unfollowed := true, recurses := true, apart := false }
def FnCopiedSaid : Prop := fnCopiedRow.holds Try.pinned (OpenSpec.ofChange fnCopiedSpec)

/-- ITS FALSE NEIGHBOUR: 'it returns false'. Refute it at one input. -/
def fnCopiedWrong : ChangeSpec := { name := "fnCopied", fn := fun _ => fun
  | [d] => { results := [.lit (.bool false)], args := [d] }
  | _ => none }
def FnCopiedWrongFalsely : Prop := fnCopiedRow.holds Try.pinned (OpenSpec.ofChange fnCopiedWrong)

/-- 'laws.FnExactTreeOk': WHATEVER THE INPUT: true; the input reads as it did. -/
def fnExactTreeOkSpec : ChangeSpec := { name := "fnExactTreeOk", fn := fun _ => fun
  | [d] => { results := [.lit (.bool true)], args := [d] }
  | _ => none }
def fnExactTreeOkRow : OpenClaim := { program := "ytgekbancaeabgaa", sum := "bec7b4803f83c7ac94370b6eb10158632b97c220b13acf7bfcec35a58c33a9ad", func := "loop.example/g00182/laws.FnExactTreeOk", spec := "fnExactTreeOk", unfollowed := true, recurses := true, apart := false }
def FnExactTreeOkSaid : Prop := fnExactTreeOkRow.holds Try.pinned (OpenSpec.ofChange fnExactTreeOkSpec)

/-- ITS FALSE NEIGHBOUR: 'it returns false'. Refute it at one input. -/
def fnExactTreeOkWrong : ChangeSpec := { name := "fnExactTreeOk", fn := fun _ => fun
  | [d] => { results := [.lit (.bool false)], args := [d] }
  | _ => none }
def FnExactTreeOkWrongFalsely : Prop := fnExactTreeOkRow.holds Try.pinned (OpenSpec.ofChange fnExactTreeOkWrong)

/-- 'laws.FnExactCodeDeep': WHATEVER THE INPUT: true; the input reads as it did. -/
def fnExactCodeDeepSpec : ChangeSpec := { name := "fnExactCodeDeep", fn := fun _ => fun
  | [d] => { results := [.lit (.bool true)], args := [d] }
  | _ => none }
def fnExactCodeDeepRow : OpenClaim := { program := "ytgekbancaeabgaa", sum := "bec7b4803f83c7ac94370b6eb10158632b97c220b13acf7bfcec35a58c33a9ad", func := "loop.example/g00182/laws.FnExactCodeDeep", spec := "fnExactCodeDeep", unfollowed := true, recurses := true, apart := false }
def FnExactCodeDeepSaid : Prop := fnExactCodeDeepRow.holds Try.pinned (OpenSpec.ofChange fnExactCodeDeepSpec)

/-- ITS FALSE NEIGHBOUR: 'it returns false'. Refute it at one input. -/
def fnExactCodeDeepWrong : ChangeSpec := { name := "fnExactCodeDeep", fn := fun _ => fun
  | [d] => { results := [.lit (.bool false)], args := [d] }
  | _ => none }
def FnExactCodeDeepWrongFalsely : Prop := fnExactCodeDeepRow.holds Try.pinned (OpenSpec.ofChange fnExactCodeDeepWrong)

/-- 'laws.FnExactGrade': WHATEVER THE INPUT: true; the input reads as it did. -/
def fnExactGradeSpec : ChangeSpec := { name := "fnExactGrade", fn := fun _ => fun
  | [d] => { results := [.lit (.bool true)], args := [d] }
  | _ => none }
def fnExactGradeRow : OpenClaim := { program := "ytgekbancaeabgaa", sum := "bec7b4803f83c7ac94370b6eb10158632b97c220b13acf7bfcec35a58c33a9ad", func := "loop.example/g00182/laws.FnExactGrade", spec := "fnExactGrade", unfollowed := true, recurses := true, apart := false }
def FnExactGradeSaid : Prop := fnExactGradeRow.holds Try.pinned (OpenSpec.ofChange fnExactGradeSpec)

/-- ITS FALSE NEIGHBOUR: 'it returns false'. Refute it at one input. -/
def fnExactGradeWrong : ChangeSpec := { name := "fnExactGrade", fn := fun _ => fun
  | [d] => { results := [.lit (.bool false)], args := [d] }
  | _ => none }
def FnExactGradeWrongFalsely : Prop := fnExactGradeRow.holds Try.pinned (OpenSpec.ofChange fnExactGradeWrong)

/-- 'laws.FnExactOuter': WHATEVER THE INPUT: true; the input reads as it did. -/
def fnExactOuterSpec : ChangeSpec := { name := "fnExactOuter", fn := fun _ => fun
  | [d1, d2, d3] => { results := [.lit (.bool true)], args := [d1, d2, d3] }
  | _ => none }
def fnExactOuterRow : OpenClaim := { program := "ytgekbancaeabgaa", sum := "bec7b4803f83c7ac94370b6eb10158632b97c220b13acf7bfcec35a58c33a9ad", func := "loop.example/g00182/laws.FnExactOuter", spec := "fnExactOuter", unfollowed := true, recurses := true, apart := false }
def FnExactOuterSaid : Prop := fnExactOuterRow.holds Try.pinned (OpenSpec.ofChange fnExactOuterSpec)

/-- ITS FALSE NEIGHBOUR: 'it returns false'. Refute it at one input. -/
def fnExactOuterWrong : ChangeSpec := { name := "fnExactOuter", fn := fun _ => fun
  | [d1, d2, d3] => { results := [.lit (.bool false)], args := [d1, d2, d3] }
  | _ => none }
def FnExactOuterWrongFalsely : Prop := fnExactOuterRow.holds Try.pinned (OpenSpec.ofChange fnExactOuterWrong)

/- THE SECOND FORM. 'bulk': how many values and letters a reading holds, each counted each time it is reached (what is shared counts as often as it is met; a slice's spare places count too). A statement '..UptoSaid' is the law's where the arguments, and the package variables that the reading takes, are together of bulk at most 1048576: NARROWER than '..Said'. Prove '..Said' where nothing that the law and all that it calls make is longer than what came in: it says more and counts as full. Else prove '..UptoSaid'. A law counts once. -/
mutual
def uptoBulk {H : Type} : DataW H → Nat
  | .lit (.string bytes) => bytes.length + 1
  | .lit _ => 1
  | .nil => 1
  | .ptr d => uptoBulk d + 1
  | .slice elems spare => uptoBulkAll elems + uptoBulkAll spare + 1
  | .agg parts => uptoBulkAll parts + 1
  | .iface _ d => uptoBulk d + 1
  | .map entries => uptoBulkEntries entries + 1
  | .held _ => 1
def uptoBulkAll {H : Type} : List (DataW H) → Nat
  | [] => 0
  | d :: r => uptoBulk d + uptoBulkAll r
def uptoBulkEntries {H : Type} : List (Lit × DataW H) → Nat
  | [] => 0
  | x :: r => uptoBulkEntry x + uptoBulkEntries r
def uptoBulkEntry {H : Type} : Lit × DataW H → Nat
  | (.string bytes, d) => bytes.length + uptoBulk d + 1
  | (_, d) => uptoBulk d + 1
 end
def uptoSmall : (H : Type) → List (DataW H) → Bool := fun _ ds => decide (uptoBulkAll ds ≤ 1048576)
def OpenSpec.upto (s : _root_.Go.ChangeSpec) : _root_.Go.OpenSpec := { _root_.Go.OpenSpec.ofChange s with cond := some uptoSmall }

/-- 'laws.FnExactMachineNew', WHERE WHAT IT READS IS OF BULK AT MOST 1048576: true; the input reads as it did. -/
def fnExactMachineNewUptoRow : OpenClaim := { program := "ytgekbancaeabgaa", sum := "bec7b4803f83c7ac94370b6eb10158632b97c220b13acf7bfcec35a58c33a9ad", func := "loop.example/g00182/laws.FnExactMachineNew", spec := "fnExactMachineNew", apart := false, narrowed := true }
def FnExactMachineNewUptoSaid : Prop := fnExactMachineNewUptoRow.holds Try.pinned (OpenSpec.upto fnExactMachineNewSpec)

/-- 'laws.FnExactLex', WHERE WHAT IT READS IS OF BULK AT MOST 1048576: true; the input reads as it did. -/
def fnExactLexUptoRow : OpenClaim := { program := "ytgekbancaeabgaa", sum := "bec7b4803f83c7ac94370b6eb10158632b97c220b13acf7bfcec35a58c33a9ad", func := "loop.example/g00182/laws.FnExactLex", spec := "fnExactLex", apart := false, narrowed := true }
def FnExactLexUptoSaid : Prop := fnExactLexUptoRow.holds Try.pinned (OpenSpec.upto fnExactLexSpec)

/-- 'laws.FnFound', WHERE WHAT IT READS IS OF BULK AT MOST 1048576: true; the input reads as it did. -/
def fnFoundUptoRow : OpenClaim := { program := "ytgekbancaeabgaa", sum := "bec7b4803f83c7ac94370b6eb10158632b97c220b13acf7bfcec35a58c33a9ad", func := "loop.example/g00182/laws.FnFound", spec := "fnFound", unfollowed := true, recurses := true, apart := false, narrowed := true }
def FnFoundUptoSaid : Prop := fnFoundUptoRow.holds Try.pinned (OpenSpec.upto fnFoundSpec)

/-- 'laws.FnItself', WHERE WHAT IT READS IS OF BULK AT MOST 1048576: true; the input reads as it did. -/
def fnItselfUptoRow : OpenClaim := { program := "ytgekbancaeabgaa", sum := "bec7b4803f83c7ac94370b6eb10158632b97c220b13acf7bfcec35a58c33a9ad", func := "loop.example/g00182/laws.FnItself", spec := "fnItself", unfollowed := true, recurses := true, apart := false, narrowed := true }
def FnItselfUptoSaid : Prop := fnItselfUptoRow.holds Try.pinned (OpenSpec.upto fnItselfSpec)

/-- 'laws.FnExactCodeOk', WHERE WHAT IT READS IS OF BULK AT MOST 1048576: true; the input reads as it did. -/
def fnExactCodeOkUptoRow : OpenClaim := { program := "ytgekbancaeabgaa", sum := "bec7b4803f83c7ac94370b6eb10158632b97c220b13acf7bfcec35a58c33a9ad", func := "loop.example/g00182/laws.FnExactCodeOk", spec := "fnExactCodeOk", unfollowed := true, recurses := true, apart := false, narrowed := true }
def FnExactCodeOkUptoSaid : Prop := fnExactCodeOkUptoRow.holds Try.pinned (OpenSpec.upto fnExactCodeOkSpec)

/-- 'laws.FnPicked', WHERE WHAT IT READS IS OF BULK AT MOST 1048576: true; the input reads as it did. -/
def fnPickedUptoRow : OpenClaim := { program := "ytgekbancaeabgaa", sum := "bec7b4803f83c7ac94370b6eb10158632b97c220b13acf7bfcec35a58c33a9ad", func := "loop.example/g00182/laws.FnPicked", spec := "fnPicked", unfollowed := true, recurses := true, apart := false, narrowed := true }
def FnPickedUptoSaid : Prop := fnPickedUptoRow.holds Try.pinned (OpenSpec.upto fnPickedSpec)

/-- 'laws.FnSpaces', WHERE WHAT IT READS IS OF BULK AT MOST 1048576: true; the input reads as it did. -/
def fnSpacesUptoRow : OpenClaim := { program := "ytgekbancaeabgaa", sum := "bec7b4803f83c7ac94370b6eb10158632b97c220b13acf7bfcec35a58c33a9ad", func := "loop.example/g00182/laws.FnSpaces", spec := "fnSpaces", recurses := true, apart := false, narrowed := true }
def FnSpacesUptoSaid : Prop := fnSpacesUptoRow.holds Try.pinned (OpenSpec.upto fnSpacesSpec)

/-- 'laws.FnCopied', WHERE WHAT IT READS IS OF BULK AT MOST 1048576: true; the input reads as it did. -/
def fnCopiedUptoRow : OpenClaim := { program := "ytgekbancaeabgaa", sum := "bec7b4803f83c7ac94370b6eb10158632b97c220b13acf7bfcec35a58c33a9ad", func := "loop.example/g00182/laws.FnCopied", spec := "fnCopied", unfollowed := true, recurses := true, apart := false, narrowed := true }
def FnCopiedUptoSaid : Prop := fnCopiedUptoRow.holds Try.pinned (OpenSpec.upto fnCopiedSpec)

/-- 'laws.FnExactTreeOk', WHERE WHAT IT READS IS OF BULK AT MOST 1048576: true; the input reads as it did. -/
def fnExactTreeOkUptoRow : OpenClaim := { program := "ytgekbancaeabgaa", sum := "bec7b4803f83c7ac94370b6eb10158632b97c220b13acf7bfcec35a58c33a9ad", func := "loop.example/g00182/laws.FnExactTreeOk", spec := "fnExactTreeOk", unfollowed := true, recurses := true, apart := false, narrowed := true }
def FnExactTreeOkUptoSaid : Prop := fnExactTreeOkUptoRow.holds Try.pinned (OpenSpec.upto fnExactTreeOkSpec)

/-- 'laws.FnExactCodeDeep', WHERE WHAT IT READS IS OF BULK AT MOST 1048576: true; the input reads as it did. -/
def fnExactCodeDeepUptoRow : OpenClaim := { program := "ytgekbancaeabgaa", sum := "bec7b4803f83c7ac94370b6eb10158632b97c220b13acf7bfcec35a58c33a9ad", func := "loop.example/g00182/laws.FnExactCodeDeep", spec := "fnExactCodeDeep", unfollowed := true, recurses := true, apart := false, narrowed := true }
def FnExactCodeDeepUptoSaid : Prop := fnExactCodeDeepUptoRow.holds Try.pinned (OpenSpec.upto fnExactCodeDeepSpec)

/-- 'laws.FnExactGrade', WHERE WHAT IT READS IS OF BULK AT MOST 1048576: true; the input reads as it did. -/
def fnExactGradeUptoRow : OpenClaim := { program := "ytgekbancaeabgaa", sum := "bec7b4803f83c7ac94370b6eb10158632b97c220b13acf7bfcec35a58c33a9ad", func := "loop.example/g00182/laws.FnExactGrade", spec := "fnExactGrade", unfollowed := true, recurses := true, apart := false, narrowed := true }
def FnExactGradeUptoSaid : Prop := fnExactGradeUptoRow.holds Try.pinned (OpenSpec.upto fnExactGradeSpec)

/-- 'laws.FnExactOuter', WHERE WHAT IT READS IS OF BULK AT MOST 1048576: true; the input reads as it did. -/
def fnExactOuterUptoRow : OpenClaim := { program := "ytgekbancaeabgaa", sum := "bec7b4803f83c7ac94370b6eb10158632b97c220b13acf7bfcec35a58c33a9ad", func := "loop.example/g00182/laws.FnExactOuter", spec := "fnExactOuter", unfollowed := true, recurses := true, apart := false, narrowed := true }
def FnExactOuterUptoSaid : Prop := fnExactOuterUptoRow.holds Try.pinned (OpenSpec.upto fnExactOuterSpec)

end Rows
end Go.Proofs.Ytgekbancaeabgaa
