/-
  No cell of these rows narrows 'for every input' (looked for: loops, veiled, ifaces, maps, wideKeys, modest, calm, conditions, laid).
  DERIVED. THE GIVEN ROWS OF THIS SEAT. 4 by the template 'for every input the law returns true; each argument reads behind the call as it read before'; 0 by the template 'total and deterministic' (their statements: YtdagncfnkenbfaaTotals.lean).
  GIVEN WITH THE SEED: the statements are not yours to turn. If you find one false, say at which input.
  Laid BY PROGRAM, IN A SANDBOX (cutbox-rows.mjs): the forced cells as the released guide's own fill.sh prints them over the translation 750bebe230f21a4e… (all of the seat's roots in one cut). By AI agents, Wed Nov 11 2026. No macro, syntax, notation, axiom, sorry.
-/
import Derived.Test.YtdagncfnkenbfaaChecked
import GoSem.Claim
import GoSem.ClaimJoined
import GoSem.ClaimMapViews
import Derived.JoinedTies
import Derived.KernelRfl
namespace Go.Proofs.Ytdagncfnkenbfaa
/- THE CELL 'sum', in the pinned program and in every row, IS THE sha256 OF THE DUMP (.gsa) THAT YtdagncfnkenbfaaProg.lean LOADS. Nothing in Lean hashes anything: it is a label: what it is worth is what the hold of that sum in a sandbox is worth. -/
noncomputable def Try.pinned : Pinned := { name := "ytdagncfnkenbfaa", sum := "750bebe230f21a4e5431b595e841dad1db7c18fa3005ccf095c0db6a177227b1", checked := Try.checked }
namespace Rows
def none {H : Type} : Left H := { results := [], args := [] }

/-- 'laws.FnSpaces': WHATEVER THE INPUT: true; the input reads as it did. -/
def fnSpacesSpec : ChangeSpec := { name := "fnSpaces", fn := fun _ => fun
  | [d] => { results := [.lit (.bool true)], args := [d] }
  | _ => none }
def fnSpacesRow : OpenClaim := { program := "ytdagncfnkenbfaa", sum := "750bebe230f21a4e5431b595e841dad1db7c18fa3005ccf095c0db6a177227b1", func := "loop.example/g00182/laws.FnSpaces", spec := "fnSpaces", recurses := true, apart := false }
def FnSpacesSaid : Prop := fnSpacesRow.holds Try.pinned (OpenSpec.ofChange fnSpacesSpec)

/-- ITS FALSE NEIGHBOUR: 'it returns false'. Refute it at one input. -/
def fnSpacesWrong : ChangeSpec := { name := "fnSpaces", fn := fun _ => fun
  | [d] => { results := [.lit (.bool false)], args := [d] }
  | _ => none }
def FnSpacesWrongFalsely : Prop := fnSpacesRow.holds Try.pinned (OpenSpec.ofChange fnSpacesWrong)

/-- 'laws.FnExactCodeRead': WHATEVER THE INPUT: true; the input reads as it did. -/
def fnExactCodeReadSpec : ChangeSpec := { name := "fnExactCodeRead", fn := fun _ => fun
  | [d] => { results := [.lit (.bool true)], args := [d] }
  | _ => none }
def fnExactCodeReadRow : OpenClaim := { program := "ytdagncfnkenbfaa", sum := "750bebe230f21a4e5431b595e841dad1db7c18fa3005ccf095c0db6a177227b1", func := "loop.example/g00182/laws.FnExactCodeRead", spec := "fnExactCodeRead", unfollowed := true, recurses := true, apart := false }
def FnExactCodeReadSaid : Prop := fnExactCodeReadRow.holds Try.pinned (OpenSpec.ofChange fnExactCodeReadSpec)

/-- ITS FALSE NEIGHBOUR: 'it returns false'. Refute it at one input. -/
def fnExactCodeReadWrong : ChangeSpec := { name := "fnExactCodeRead", fn := fun _ => fun
  | [d] => { results := [.lit (.bool false)], args := [d] }
  | _ => none }
def FnExactCodeReadWrongFalsely : Prop := fnExactCodeReadRow.holds Try.pinned (OpenSpec.ofChange fnExactCodeReadWrong)

/-- 'laws.FnCompiled': WHATEVER THE INPUT: true; the input reads as it did. -/
def fnCompiledSpec : ChangeSpec := { name := "fnCompiled", fn := fun _ => fun
  | [d] => { results := [.lit (.bool true)], args := [d] }
  | _ => none }
def fnCompiledRow : OpenClaim := { program := "ytdagncfnkenbfaa", sum := "750bebe230f21a4e5431b595e841dad1db7c18fa3005ccf095c0db6a177227b1", func := "loop.example/g00182/laws.FnCompiled", spec := "fnCompiled", unfollowed := true, recurses := true, apart := false }
def FnCompiledSaid : Prop := fnCompiledRow.holds Try.pinned (OpenSpec.ofChange fnCompiledSpec)

/-- ITS FALSE NEIGHBOUR: 'it returns false'. Refute it at one input. -/
def fnCompiledWrong : ChangeSpec := { name := "fnCompiled", fn := fun _ => fun
  | [d] => { results := [.lit (.bool false)], args := [d] }
  | _ => none }
def FnCompiledWrongFalsely : Prop := fnCompiledRow.holds Try.pinned (OpenSpec.ofChange fnCompiledWrong)

/-- 'laws.FnCodeBytes': WHATEVER THE INPUT: true; the input reads as it did. -/
def fnCodeBytesSpec : ChangeSpec := { name := "fnCodeBytes", fn := fun _ => fun
  | [d] => { results := [.lit (.bool true)], args := [d] }
  | _ => none }
def fnCodeBytesRow : OpenClaim := { program := "ytdagncfnkenbfaa", sum := "750bebe230f21a4e5431b595e841dad1db7c18fa3005ccf095c0db6a177227b1", func := "loop.example/g00182/laws.FnCodeBytes", spec := "fnCodeBytes", unfollowed := true, recurses := true, apart := false }
def FnCodeBytesSaid : Prop := fnCodeBytesRow.holds Try.pinned (OpenSpec.ofChange fnCodeBytesSpec)

/-- ITS FALSE NEIGHBOUR: 'it returns false'. Refute it at one input. -/
def fnCodeBytesWrong : ChangeSpec := { name := "fnCodeBytes", fn := fun _ => fun
  | [d] => { results := [.lit (.bool false)], args := [d] }
  | _ => none }
def FnCodeBytesWrongFalsely : Prop := fnCodeBytesRow.holds Try.pinned (OpenSpec.ofChange fnCodeBytesWrong)

/- THE SECOND FORM. 'bulk': how many values and letters a reading holds, each counted each time it is reached (what is shared counts as often as it is met; a slice's spare places count too). A statement '..UptoSaid' is the law's where the arguments, and the package variables that the reading takes, are together of bulk at most 1048576: NARROWER than '..Said'. Prove '..Said' where nothing that the law and all that it calls make is longer than what came in: it says more and counts as full. Else prove '..UptoSaid'. A law counts once. -/
mutual
def uptoBulk {H : Type} : DataW H → Nat
  | .lit (.string bytes) => bytes.length + 1
  | .lit _ => 1
  | .nil => 1
  | .ptr d => uptoBulk d + 1
  | .slice elems spare => uptoBulkAll elems + uptoBulkAll spare + 1
  | .agg parts => uptoBulkAll parts + 1
  | .iface _ d => uptoBulk d + 1
  | .map entries => uptoBulkEntries entries + 1
  | .held _ => 1
def uptoBulkAll {H : Type} : List (DataW H) → Nat
  | [] => 0
  | d :: r => uptoBulk d + uptoBulkAll r
def uptoBulkEntries {H : Type} : List (Lit × DataW H) → Nat
  | [] => 0
  | x :: r => uptoBulkEntry x + uptoBulkEntries r
def uptoBulkEntry {H : Type} : Lit × DataW H → Nat
  | (.string bytes, d) => bytes.length + uptoBulk d + 1
  | (_, d) => uptoBulk d + 1
 end
def uptoSmall : (H : Type) → List (DataW H) → Bool := fun _ ds => decide (uptoBulkAll ds ≤ 1048576)
def OpenSpec.upto (s : _root_.Go.ChangeSpec) : _root_.Go.OpenSpec := { _root_.Go.OpenSpec.ofChange s with cond := some uptoSmall }

/-- 'laws.FnSpaces', WHERE WHAT IT READS IS OF BULK AT MOST 1048576: true; the input reads as it did. -/
def fnSpacesUptoRow : OpenClaim := { program := "ytdagncfnkenbfaa", sum := "750bebe230f21a4e5431b595e841dad1db7c18fa3005ccf095c0db6a177227b1", func := "loop.example/g00182/laws.FnSpaces", spec := "fnSpaces", recurses := true, apart := false, narrowed := true }
def FnSpacesUptoSaid : Prop := fnSpacesUptoRow.holds Try.pinned (OpenSpec.upto fnSpacesSpec)

/-- 'laws.FnExactCodeRead', WHERE WHAT IT READS IS OF BULK AT MOST 1048576: true; the input reads as it did. -/
def fnExactCodeReadUptoRow : OpenClaim := { program := "ytdagncfnkenbfaa", sum := "750bebe230f21a4e5431b595e841dad1db7c18fa3005ccf095c0db6a177227b1", func := "loop.example/g00182/laws.FnExactCodeRead", spec := "fnExactCodeRead", unfollowed := true, recurses := true, apart := false, narrowed := true }
def FnExactCodeReadUptoSaid : Prop := fnExactCodeReadUptoRow.holds Try.pinned (OpenSpec.upto fnExactCodeReadSpec)

/-- 'laws.FnCompiled', WHERE WHAT IT READS IS OF BULK AT MOST 1048576: true; the input reads as it did. -/
def fnCompiledUptoRow : OpenClaim := { program := "ytdagncfnkenbfaa", sum := "750bebe230f21a4e5431b595e841dad1db7c18fa3005ccf095c0db6a177227b1", func := "loop.example/g00182/laws.FnCompiled", spec := "fnCompiled", unfollowed := true, recurses := true, apart := false, narrowed := true }
def FnCompiledUptoSaid : Prop := fnCompiledUptoRow.holds Try.pinned (OpenSpec.upto fnCompiledSpec)

/-- 'laws.FnCodeBytes', WHERE WHAT IT READS IS OF BULK AT MOST 1048576: true; the input reads as it did. -/
def fnCodeBytesUptoRow : OpenClaim := { program := "ytdagncfnkenbfaa", sum := "750bebe230f21a4e5431b595e841dad1db7c18fa3005ccf095c0db6a177227b1", func := "loop.example/g00182/laws.FnCodeBytes", spec := "fnCodeBytes", unfollowed := true, recurses := true, apart := false, narrowed := true }
def FnCodeBytesUptoSaid : Prop := fnCodeBytesUptoRow.holds Try.pinned (OpenSpec.upto fnCodeBytesSpec)

end Rows
end Go.Proofs.Ytdagncfnkenbfaa
