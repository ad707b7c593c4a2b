/-
  No cell of these rows narrows 'for every input' (looked for: loops, veiled, ifaces, maps, wideKeys, modest, calm, conditions, laid).
  DERIVED. THE GIVEN ROWS OF THIS SEAT. 12 by the template 'for every input the law returns true; each argument reads behind the call as it read before'; 0 by the template 'total and deterministic' (their statements: YtockhdhilemfkaaTotals.lean).
  GIVEN WITH THE SEED: the statements are not yours to turn. If you find one false, say at which input.
  Laid BY PROGRAM, IN A SANDBOX (cutbox-rows.mjs): the forced cells as the released guide's own fill.sh prints them over the translation ea8158a8aac66966… (all of the seat's roots in one cut). By AI agents, Wed Nov 11 2026. No macro, syntax, notation, axiom, sorry.
-/
import Derived.Test.YtockhdhilemfkaaChecked
import GoSem.Claim
import GoSem.ClaimJoined
import GoSem.ClaimMapViews
import Derived.JoinedTies
import Derived.KernelRfl
namespace Go.Proofs.Ytockhdhilemfkaa
/- THE CELL 'sum', in the pinned program and in every row, IS THE sha256 OF THE DUMP (.gsa) THAT YtockhdhilemfkaaProg.lean LOADS. Nothing in Lean hashes anything: it is a label: what it is worth is what the hold of that sum in a sandbox is worth. -/
noncomputable def Try.pinned : Pinned := { name := "ytockhdhilemfkaa", sum := "ea8158a8aac669667557408a5383a2c3dc6883d23c8fec6096855e7e180bd603", checked := Try.checked }
namespace Rows
def none {H : Type} : Left H := { results := [], args := [] }

/-- 'laws.FnCount': WHATEVER THE INPUT: true; the input reads as it did. -/
def fnCountSpec : ChangeSpec := { name := "fnCount", fn := fun _ => fun
  | [d] => { results := [.lit (.bool true)], args := [d] }
  | _ => none }
def fnCountRow : OpenClaim := { program := "ytockhdhilemfkaa", sum := "ea8158a8aac669667557408a5383a2c3dc6883d23c8fec6096855e7e180bd603", func := "loop.example/g00182/laws.FnCount", spec := "fnCount", unfollowed := true, recurses := true, apart := false }
def FnCountSaid : Prop := fnCountRow.holds Try.pinned (OpenSpec.ofChange fnCountSpec)

/-- ITS FALSE NEIGHBOUR: 'it returns false'. Refute it at one input. -/
def fnCountWrong : ChangeSpec := { name := "fnCount", fn := fun _ => fun
  | [d] => { results := [.lit (.bool false)], args := [d] }
  | _ => none }
def FnCountWrongFalsely : Prop := fnCountRow.holds Try.pinned (OpenSpec.ofChange fnCountWrong)

/-- 'laws.FnWhole': WHATEVER THE INPUT: true; the input reads as it did. -/
def fnWholeSpec : ChangeSpec := { name := "fnWhole", fn := fun _ => fun
  | [d] => { results := [.lit (.bool true)], args := [d] }
  | _ => none }
def fnWholeRow : OpenClaim := { program := "ytockhdhilemfkaa", sum := "ea8158a8aac669667557408a5383a2c3dc6883d23c8fec6096855e7e180bd603", func := "loop.example/g00182/laws.FnWhole", spec := "fnWhole", unfollowed := true, recurses := true, apart := false }
def FnWholeSaid : Prop := fnWholeRow.holds Try.pinned (OpenSpec.ofChange fnWholeSpec)

/-- ITS FALSE NEIGHBOUR: 'it returns false'. Refute it at one input. -/
def fnWholeWrong : ChangeSpec := { name := "fnWhole", fn := fun _ => fun
  | [d] => { results := [.lit (.bool false)], args := [d] }
  | _ => none }
def FnWholeWrongFalsely : Prop := fnWholeRow.holds Try.pinned (OpenSpec.ofChange fnWholeWrong)

/-- 'laws.FnExactCodePack': WHATEVER THE INPUT: true; the input reads as it did. -/
def fnExactCodePackSpec : ChangeSpec := { name := "fnExactCodePack", fn := fun _ => fun
  | [d] => { results := [.lit (.bool true)], args := [d] }
  | _ => none }
def fnExactCodePackRow : OpenClaim := { program := "ytockhdhilemfkaa", sum := "ea8158a8aac669667557408a5383a2c3dc6883d23c8fec6096855e7e180bd603", func := "loop.example/g00182/laws.FnExactCodePack", spec := "fnExactCodePack", unfollowed := true, recurses := true, apart := false }
def FnExactCodePackSaid : Prop := fnExactCodePackRow.holds Try.pinned (OpenSpec.ofChange fnExactCodePackSpec)

/-- ITS FALSE NEIGHBOUR: 'it returns false'. Refute it at one input. -/
def fnExactCodePackWrong : ChangeSpec := { name := "fnExactCodePack", fn := fun _ => fun
  | [d] => { results := [.lit (.bool false)], args := [d] }
  | _ => none }
def FnExactCodePackWrongFalsely : Prop := fnExactCodePackRow.holds Try.pinned (OpenSpec.ofChange fnExactCodePackWrong)

/-- 'laws.FnIota': WHATEVER THE INPUT: true; the input reads as it did. -/
def fnIotaSpec : ChangeSpec := { name := "fnIota", fn := fun _ => fun
  | [d] => { results := [.lit (.bool true)], args := [d] }
  | _ => none }
def fnIotaRow : OpenClaim := { program := "ytockhdhilemfkaa", sum := "ea8158a8aac669667557408a5383a2c3dc6883d23c8fec6096855e7e180bd603", func := "loop.example/g00182/laws.FnIota", spec := "fnIota", unfollowed := true, recurses := true, apart := false }
def FnIotaSaid : Prop := fnIotaRow.holds Try.pinned (OpenSpec.ofChange fnIotaSpec)

/-- ITS FALSE NEIGHBOUR: 'it returns false'. Refute it at one input. -/
def fnIotaWrong : ChangeSpec := { name := "fnIota", fn := fun _ => fun
  | [d] => { results := [.lit (.bool false)], args := [d] }
  | _ => none }
def FnIotaWrongFalsely : Prop := fnIotaRow.holds Try.pinned (OpenSpec.ofChange fnIotaWrong)

/-- 'laws.FnExactCodeRead': WHATEVER THE INPUT: true; the input reads as it did. -/
def fnExactCodeReadSpec : ChangeSpec := { name := "fnExactCodeRead", fn := fun _ => fun
  | [d] => { results := [.lit (.bool true)], args := [d] }
  | _ => none }
def fnExactCodeReadRow : OpenClaim := { program := "ytockhdhilemfkaa", sum := "ea8158a8aac669667557408a5383a2c3dc6883d23c8fec6096855e7e180bd603", func := "loop.example/g00182/laws.FnExactCodeRead", spec := "fnExactCodeRead", unfollowed := true, recurses := true, apart := false }
def FnExactCodeReadSaid : Prop := fnExactCodeReadRow.holds Try.pinned (OpenSpec.ofChange fnExactCodeReadSpec)

/-- ITS FALSE NEIGHBOUR: 'it returns false'. Refute it at one input. -/
def fnExactCodeReadWrong : ChangeSpec := { name := "fnExactCodeRead", fn := fun _ => fun
  | [d] => { results := [.lit (.bool false)], args := [d] }
  | _ => none }
def FnExactCodeReadWrongFalsely : Prop := fnExactCodeReadRow.holds Try.pinned (OpenSpec.ofChange fnExactCodeReadWrong)

/-- 'laws.FnGraded': WHATEVER THE INPUT: true; the input reads as it did. -/
def fnGradedSpec : ChangeSpec := { name := "fnGraded", fn := fun _ => fun
  | [d] => { results := [.lit (.bool true)], args := [d] }
  | _ => none }
def fnGradedRow : OpenClaim := { program := "ytockhdhilemfkaa", sum := "ea8158a8aac669667557408a5383a2c3dc6883d23c8fec6096855e7e180bd603", func := "loop.example/g00182/laws.FnGraded", spec := "fnGraded", unfollowed := true, recurses := true, apart := false }
def FnGradedSaid : Prop := fnGradedRow.holds Try.pinned (OpenSpec.ofChange fnGradedSpec)

/-- ITS FALSE NEIGHBOUR: 'it returns false'. Refute it at one input. -/
def fnGradedWrong : ChangeSpec := { name := "fnGraded", fn := fun _ => fun
  | [d] => { results := [.lit (.bool false)], args := [d] }
  | _ => none }
def FnGradedWrongFalsely : Prop := fnGradedRow.holds Try.pinned (OpenSpec.ofChange fnGradedWrong)

/-- 'laws.FnSums': WHATEVER THE INPUT: true; the input reads as it did. -/
def fnSumsSpec : ChangeSpec := { name := "fnSums", fn := fun _ => fun
  | [d] => { results := [.lit (.bool true)], args := [d] }
  | _ => none }
def fnSumsRow : OpenClaim := { program := "ytockhdhilemfkaa", sum := "ea8158a8aac669667557408a5383a2c3dc6883d23c8fec6096855e7e180bd603", func := "loop.example/g00182/laws.FnSums", spec := "fnSums", unfollowed := true, recurses := true, apart := false }
def FnSumsSaid : Prop := fnSumsRow.holds Try.pinned (OpenSpec.ofChange fnSumsSpec)

/-- ITS FALSE NEIGHBOUR: 'it returns false'. Refute it at one input. -/
def fnSumsWrong : ChangeSpec := { name := "fnSums", fn := fun _ => fun
  | [d] => { results := [.lit (.bool false)], args := [d] }
  | _ => none }
def FnSumsWrongFalsely : Prop := fnSumsRow.holds Try.pinned (OpenSpec.ofChange fnSumsWrong)

/-- 'laws.FnOuter': WHATEVER THE INPUT: true; the input reads as it did. -/
def fnOuterSpec : ChangeSpec := { name := "fnOuter", fn := fun _ => fun
  | [d] => { results := [.lit (.bool true)], args := [d] }
  | _ => none }
def fnOuterRow : OpenClaim := { program := "ytockhdhilemfkaa", sum := "ea8158a8aac669667557408a5383a2c3dc6883d23c8fec6096855e7e180bd603", func := "loop.example/g00182/laws.FnOuter", spec := "fnOuter", unfollowed := true, recurses := true, apart := false }
def FnOuterSaid : Prop := fnOuterRow.holds Try.pinned (OpenSpec.ofChange fnOuterSpec)

/-- ITS FALSE NEIGHBOUR: 'it returns false'. Refute it at one input. -/
def fnOuterWrong : ChangeSpec := { name := "fnOuter", fn := fun _ => fun
  | [d] => { results := [.lit (.bool false)], args := [d] }
  | _ => none }
def FnOuterWrongFalsely : Prop := fnOuterRow.holds Try.pinned (OpenSpec.ofChange fnOuterWrong)

/-- 'laws.FnExactCompile': WHATEVER THE INPUT: true; the input reads as it did. -/
def fnExactCompileSpec : ChangeSpec := { name := "fnExactCompile", fn := fun _ => fun
  | [d] => { results := [.lit (.bool true)], args := [d] }
  | _ => none }
def fnExactCompileRow : OpenClaim := { program := "ytockhdhilemfkaa", sum := "ea8158a8aac669667557408a5383a2c3dc6883d23c8fec6096855e7e180bd603", func := "loop.example/g00182/laws.FnExactCompile", spec := "fnExactCompile", unfollowed := true, recurses := true, apart := false }
def FnExactCompileSaid : Prop := fnExactCompileRow.holds Try.pinned (OpenSpec.ofChange fnExactCompileSpec)

/-- ITS FALSE NEIGHBOUR: 'it returns false'. Refute it at one input. -/
def fnExactCompileWrong : ChangeSpec := { name := "fnExactCompile", fn := fun _ => fun
  | [d] => { results := [.lit (.bool false)], args := [d] }
  | _ => none }
def FnExactCompileWrongFalsely : Prop := fnExactCompileRow.holds Try.pinned (OpenSpec.ofChange fnExactCompileWrong)

/-- 'laws.FnAlone': WHATEVER THE INPUT: true; the input reads as it did. -/
def fnAloneSpec : ChangeSpec := { name := "fnAlone", fn := fun _ => fun
  | [d] => { results := [.lit (.bool true)], args := [d] }
  | _ => none }
def fnAloneRow : OpenClaim := { program := "ytockhdhilemfkaa", sum := "ea8158a8aac669667557408a5383a2c3dc6883d23c8fec6096855e7e180bd603", func := "loop.example/g00182/laws.FnAlone", spec := "fnAlone", unfollowed := true, recurses := true, apart := false }
def FnAloneSaid : Prop := fnAloneRow.holds Try.pinned (OpenSpec.ofChange fnAloneSpec)

/-- ITS FALSE NEIGHBOUR: 'it returns false'. Refute it at one input. -/
def fnAloneWrong : ChangeSpec := { name := "fnAlone", fn := fun _ => fun
  | [d] => { results := [.lit (.bool false)], args := [d] }
  | _ => none }
def FnAloneWrongFalsely : Prop := fnAloneRow.holds Try.pinned (OpenSpec.ofChange fnAloneWrong)

/-- 'laws.FnUnit': WHATEVER THE INPUT: true; the input reads as it did. -/
def fnUnitSpec : ChangeSpec := { name := "fnUnit", fn := fun _ => fun
  | [d] => { results := [.lit (.bool true)], args := [d] }
  | _ => none }
def fnUnitRow : OpenClaim := { program := "ytockhdhilemfkaa", sum := "ea8158a8aac669667557408a5383a2c3dc6883d23c8fec6096855e7e180bd603", func := "loop.example/g00182/laws.FnUnit", spec := "fnUnit", unfollowed := true, recurses := true, apart := false }
def FnUnitSaid : Prop := fnUnitRow.holds Try.pinned (OpenSpec.ofChange fnUnitSpec)

/-- ITS FALSE NEIGHBOUR: 'it returns false'. Refute it at one input. -/
def fnUnitWrong : ChangeSpec := { name := "fnUnit", fn := fun _ => fun
  | [d] => { results := [.lit (.bool false)], args := [d] }
  | _ => none }
def FnUnitWrongFalsely : Prop := fnUnitRow.holds Try.pinned (OpenSpec.ofChange fnUnitWrong)

/-- 'laws.FnExactReduce': WHATEVER THE INPUT: true; the input reads as it did. -/
def fnExactReduceSpec : ChangeSpec := { name := "fnExactReduce", fn := fun _ => fun
  | [d1, d2] => { results := [.lit (.bool true)], args := [d1, d2] }
  | _ => none }
def fnExactReduceRow : OpenClaim := { program := "ytockhdhilemfkaa", sum := "ea8158a8aac669667557408a5383a2c3dc6883d23c8fec6096855e7e180bd603", func := "loop.example/g00182/laws.FnExactReduce", spec := "fnExactReduce", unfollowed := true, recurses := true, apart := false }
def FnExactReduceSaid : Prop := fnExactReduceRow.holds Try.pinned (OpenSpec.ofChange fnExactReduceSpec)

/-- ITS FALSE NEIGHBOUR: 'it returns false'. Refute it at one input. -/
def fnExactReduceWrong : ChangeSpec := { name := "fnExactReduce", fn := fun _ => fun
  | [d1, d2] => { results := [.lit (.bool false)], args := [d1, d2] }
  | _ => none }
def FnExactReduceWrongFalsely : Prop := fnExactReduceRow.holds Try.pinned (OpenSpec.ofChange fnExactReduceWrong)

/- THE SECOND FORM. 'bulk': how many values and letters a reading holds, each counted each time it is reached (what is shared counts as often as it is met; a slice's spare places count too). A statement '..UptoSaid' is the law's where the arguments, and the package variables that the reading takes, are together of bulk at most 1048576: NARROWER than '..Said'. Prove '..Said' where nothing that the law and all that it calls make is longer than what came in: it says more and counts as full. Else prove '..UptoSaid'. A law counts once. -/
mutual
def uptoBulk {H : Type} : DataW H → Nat
  | .lit (.string bytes) => bytes.length + 1
  | .lit _ => 1
  | .nil => 1
  | .ptr d => uptoBulk d + 1
  | .slice elems spare => uptoBulkAll elems + uptoBulkAll spare + 1
  | .agg parts => uptoBulkAll parts + 1
  | .iface _ d => uptoBulk d + 1
  | .map entries => uptoBulkEntries entries + 1
  | .held _ => 1
def uptoBulkAll {H : Type} : List (DataW H) → Nat
  | [] => 0
  | d :: r => uptoBulk d + uptoBulkAll r
def uptoBulkEntries {H : Type} : List (Lit × DataW H) → Nat
  | [] => 0
  | x :: r => uptoBulkEntry x + uptoBulkEntries r
def uptoBulkEntry {H : Type} : Lit × DataW H → Nat
  | (.string bytes, d) => bytes.length + uptoBulk d + 1
  | (_, d) => uptoBulk d + 1
 end
def uptoSmall : (H : Type) → List (DataW H) → Bool := fun _ ds => decide (uptoBulkAll ds ≤ 1048576)
def OpenSpec.upto (s : _root_.Go.ChangeSpec) : _root_.Go.OpenSpec := { _root_.Go.OpenSpec.ofChange s with cond := some uptoSmall }

/-- 'laws.FnCount', WHERE WHAT IT READS IS OF BULK AT MOST 1048576: true; the input reads as it did. -/
def fnCountUptoRow : OpenClaim := { program := "ytockhdhilemfkaa", sum := "ea8158a8aac669667557408a5383a2c3dc6883d23c8fec6096855e7e180bd603", func := "loop.example/g00182/laws.FnCount", spec := "fnCount", unfollowed := true, recurses := true, apart := false, narrowed := true }
def FnCountUptoSaid : Prop := fnCountUptoRow.holds Try.pinned (OpenSpec.upto fnCountSpec)

/-- 'laws.FnWhole', WHERE WHAT IT READS IS OF BULK AT MOST 1048576: true; the input reads as it did. -/
def fnWholeUptoRow : OpenClaim := { program := "ytockhdhilemfkaa", sum := "ea8158a8aac669667557408a5383a2c3dc6883d23c8fec6096855e7e180bd603", func := "loop.example/g00182/laws.FnWhole", spec := "fnWhole", unfollowed := true, recurses := true, apart := false, narrowed := true }
def FnWholeUptoSaid : Prop := fnWholeUptoRow.holds Try.pinned (OpenSpec.upto fnWholeSpec)

/-- 'laws.FnExactCodePack', WHERE WHAT IT READS IS OF BULK AT MOST 1048576: true; the input reads as it did. -/
def fnExactCodePackUptoRow : OpenClaim := { program := "ytockhdhilemfkaa", sum := "ea8158a8aac669667557408a5383a2c3dc6883d23c8fec6096855e7e180bd603", func := "loop.example/g00182/laws.FnExactCodePack", spec := "fnExactCodePack", unfollowed := true, recurses := true, apart := false, narrowed := true }
def FnExactCodePackUptoSaid : Prop := fnExactCodePackUptoRow.holds Try.pinned (OpenSpec.upto fnExactCodePackSpec)

/-- 'laws.FnIota', WHERE WHAT IT READS IS OF BULK AT MOST 1048576: true; the input reads as it did. -/
def fnIotaUptoRow : OpenClaim := { program := "ytockhdhilemfkaa", sum := "ea8158a8aac669667557408a5383a2c3dc6883d23c8fec6096855e7e180bd603", func := "loop.example/g00182/laws.FnIota", spec := "fnIota", unfollowed := true, recurses := true, apart := false, narrowed := true }
def FnIotaUptoSaid : Prop := fnIotaUptoRow.holds Try.pinned (OpenSpec.upto fnIotaSpec)

/-- 'laws.FnExactCodeRead', WHERE WHAT IT READS IS OF BULK AT MOST 1048576: true; the input reads as it did. -/
def fnExactCodeReadUptoRow : OpenClaim := { program := "ytockhdhilemfkaa", sum := "ea8158a8aac669667557408a5383a2c3dc6883d23c8fec6096855e7e180bd603", func := "loop.example/g00182/laws.FnExactCodeRead", spec := "fnExactCodeRead", unfollowed := true, recurses := true, apart := false, narrowed := true }
def FnExactCodeReadUptoSaid : Prop := fnExactCodeReadUptoRow.holds Try.pinned (OpenSpec.upto fnExactCodeReadSpec)

/-- 'laws.FnGraded', WHERE WHAT IT READS IS OF BULK AT MOST 1048576: true; the input reads as it did. -/
def fnGradedUptoRow : OpenClaim := { program := "ytockhdhilemfkaa", sum := "ea8158a8aac669667557408a5383a2c3dc6883d23c8fec6096855e7e180bd603", func := "loop.example/g00182/laws.FnGraded", spec := "fnGraded", unfollowed := true, recurses := true, apart := false, narrowed := true }
def FnGradedUptoSaid : Prop := fnGradedUptoRow.holds Try.pinned (OpenSpec.upto fnGradedSpec)

/-- 'laws.FnSums', WHERE WHAT IT READS IS OF BULK AT MOST 1048576: true; the input reads as it did. -/
def fnSumsUptoRow : OpenClaim := { program := "ytockhdhilemfkaa", sum := "ea8158a8aac669667557408a5383a2c3dc6883d23c8fec6096855e7e180bd603", func := "loop.example/g00182/laws.FnSums", spec := "fnSums", unfollowed := true, recurses := true, apart := false, narrowed := true }
def FnSumsUptoSaid : Prop := fnSumsUptoRow.holds Try.pinned (OpenSpec.upto fnSumsSpec)

/-- 'laws.FnOuter', WHERE WHAT IT READS IS OF BULK AT MOST 1048576: true; the input reads as it did. -/
def fnOuterUptoRow : OpenClaim := { program := "ytockhdhilemfkaa", sum := "ea8158a8aac669667557408a5383a2c3dc6883d23c8fec6096855e7e180bd603", func := "loop.example/g00182/laws.FnOuter", spec := "fnOuter", unfollowed := true, recurses := true, apart := false, narrowed := true }
def FnOuterUptoSaid : Prop := fnOuterUptoRow.holds Try.pinned (OpenSpec.upto fnOuterSpec)

/-- 'laws.FnExactCompile', WHERE WHAT IT READS IS OF BULK AT MOST 1048576: true; the input reads as it did. -/
def fnExactCompileUptoRow : OpenClaim := { program := "ytockhdhilemfkaa", sum := "ea8158a8aac669667557408a5383a2c3dc6883d23c8fec6096855e7e180bd603", func := "loop.example/g00182/laws.FnExactCompile", spec := "fnExactCompile", unfollowed := true, recurses := true, apart := false, narrowed := true }
def FnExactCompileUptoSaid : Prop := fnExactCompileUptoRow.holds Try.pinned (OpenSpec.upto fnExactCompileSpec)

/-- 'laws.FnAlone', WHERE WHAT IT READS IS OF BULK AT MOST 1048576: true; the input reads as it did. -/
def fnAloneUptoRow : OpenClaim := { program := "ytockhdhilemfkaa", sum := "ea8158a8aac669667557408a5383a2c3dc6883d23c8fec6096855e7e180bd603", func := "loop.example/g00182/laws.FnAlone", spec := "fnAlone", unfollowed := true, recurses := true, apart := false, narrowed := true }
def FnAloneUptoSaid : Prop := fnAloneUptoRow.holds Try.pinned (OpenSpec.upto fnAloneSpec)

/-- 'laws.FnUnit', WHERE WHAT IT READS IS OF BULK AT MOST 1048576: true; the input reads as it did. -/
def fnUnitUptoRow : OpenClaim := { program := "ytockhdhilemfkaa", sum := "ea8158a8aac669667557408a5383a2c3dc6883d23c8fec6096855e7e180bd603", func := "loop.example/g00182/laws.FnUnit", spec := "fnUnit", unfollowed := true, recurses := true, apart := false, narrowed := true }
def FnUnitUptoSaid : Prop := fnUnitUptoRow.holds Try.pinned (OpenSpec.upto fnUnitSpec)

/-- 'laws.FnExactReduce', WHERE WHAT IT READS IS OF BULK AT MOST 1048576: true; the input reads as it did. -/
def fnExactReduceUptoRow : OpenClaim := { program := "ytockhdhilemfkaa", sum := "ea8158a8aac669667557408a5383a2c3dc6883d23c8fec6096855e7e180bd603", func := "loop.example/g00182/laws.FnExactReduce", spec := "fnExactReduce", unfollowed := true, recurses := true, apart := false, narrowed := true }
def FnExactReduceUptoSaid : Prop := fnExactReduceUptoRow.holds Try.pinned (OpenSpec.upto fnExactReduceSpec)

end Rows
end Go.Proofs.Ytockhdhilemfkaa
