/-
  No cell of these rows narrows 'for every input' (looked for: loops, veiled, ifaces, maps, wideKeys, modest, calm, conditions, laid).
  DERIVED. THE GIVEN ROWS OF THIS SEAT. 7 by the template 'for every input the law returns true; each argument reads behind the call as it read before'; 0 by the template 'total and deterministic' (their statements: YtpmhhjinapfhbaaTotals.lean).
  GIVEN WITH THE SEED: the statements are not yours to turn. If you find one false, say at which input.
  Laid BY PROGRAM, IN A SANDBOX (cutbox-rows.mjs): the forced cells as the released guide's own fill.sh prints them over the translation b2035b3dee7da05e… (all of the seat's roots in one cut). By AI agents, Wed Nov 11 2026. No macro, syntax, notation, axiom, sorry.
-/
import Derived.Test.YtpmhhjinapfhbaaChecked
import GoSem.Claim
import GoSem.ClaimJoined
import GoSem.ClaimMapViews
import Derived.JoinedTies
import Derived.KernelRfl
namespace Go.Proofs.Ytpmhhjinapfhbaa
/- THE CELL 'sum', in the pinned program and in every row, IS THE sha256 OF THE DUMP (.gsa) THAT YtpmhhjinapfhbaaProg.lean LOADS. Nothing in Lean hashes anything: it is a label: what it is worth is what the hold of that sum in a sandbox is worth. -/
noncomputable def Try.pinned : Pinned := { name := "ytpmhhjinapfhbaa", sum := "b2035b3dee7da05ec6deb7944a8b65cf5367ea0b5edfe3887112239012c6cc89", checked := Try.checked }
namespace Rows
def none {H : Type} : Left H := { results := [], args := [] }

/-- 'laws.FnExactFunOne': WHATEVER THE INPUT: true; the input reads as it did. -/
def fnExactFunOneSpec : ChangeSpec := { name := "fnExactFunOne", fn := fun _ => fun
  | [d] => { results := [.lit (.bool true)], args := [d] }
  | _ => none }
def fnExactFunOneRow : OpenClaim := { program := "ytpmhhjinapfhbaa", sum := "b2035b3dee7da05ec6deb7944a8b65cf5367ea0b5edfe3887112239012c6cc89", func := "loop.example/g00182/laws.FnExactFunOne", spec := "fnExactFunOne", apart := false }
def FnExactFunOneSaid : Prop := fnExactFunOneRow.holds Try.pinned (OpenSpec.ofChange fnExactFunOneSpec)

/-- ITS FALSE NEIGHBOUR: 'it returns false'. Refute it at one input. -/
def fnExactFunOneWrong : ChangeSpec := { name := "fnExactFunOne", fn := fun _ => fun
  | [d] => { results := [.lit (.bool false)], args := [d] }
  | _ => none }
def FnExactFunOneWrongFalsely : Prop := fnExactFunOneRow.holds Try.pinned (OpenSpec.ofChange fnExactFunOneWrong)

/-- 'laws.FnExactFunTwo': WHATEVER THE INPUT: true; the input reads as it did. -/
def fnExactFunTwoSpec : ChangeSpec := { name := "fnExactFunTwo", fn := fun _ => fun
  | [d] => { results := [.lit (.bool true)], args := [d] }
  | _ => none }
def fnExactFunTwoRow : OpenClaim := { program := "ytpmhhjinapfhbaa", sum := "b2035b3dee7da05ec6deb7944a8b65cf5367ea0b5edfe3887112239012c6cc89", func := "loop.example/g00182/laws.FnExactFunTwo", spec := "fnExactFunTwo", apart := false }
def FnExactFunTwoSaid : Prop := fnExactFunTwoRow.holds Try.pinned (OpenSpec.ofChange fnExactFunTwoSpec)

/-- ITS FALSE NEIGHBOUR: 'it returns false'. Refute it at one input. -/
def fnExactFunTwoWrong : ChangeSpec := { name := "fnExactFunTwo", fn := fun _ => fun
  | [d] => { results := [.lit (.bool false)], args := [d] }
  | _ => none }
def FnExactFunTwoWrongFalsely : Prop := fnExactFunTwoRow.holds Try.pinned (OpenSpec.ofChange fnExactFunTwoWrong)

/-- 'laws.FnExactTokenOk': WHATEVER THE INPUT: true; the input reads as it did. -/
def fnExactTokenOkSpec : ChangeSpec := { name := "fnExactTokenOk", fn := fun _ => fun
  | [d] => { results := [.lit (.bool true)], args := [d] }
  | _ => none }
def fnExactTokenOkRow : OpenClaim := { program := "ytpmhhjinapfhbaa", sum := "b2035b3dee7da05ec6deb7944a8b65cf5367ea0b5edfe3887112239012c6cc89", func := "loop.example/g00182/laws.FnExactTokenOk", spec := "fnExactTokenOk", apart := false }
def FnExactTokenOkSaid : Prop := fnExactTokenOkRow.holds Try.pinned (OpenSpec.ofChange fnExactTokenOkSpec)

/-- ITS FALSE NEIGHBOUR: 'it returns false'. Refute it at one input. -/
def fnExactTokenOkWrong : ChangeSpec := { name := "fnExactTokenOk", fn := fun _ => fun
  | [d] => { results := [.lit (.bool false)], args := [d] }
  | _ => none }
def FnExactTokenOkWrongFalsely : Prop := fnExactTokenOkRow.holds Try.pinned (OpenSpec.ofChange fnExactTokenOkWrong)

/-- 'laws.FnExactVarsNew': WHATEVER THE INPUT: true; the input reads as it did. -/
def fnExactVarsNewSpec : ChangeSpec := { name := "fnExactVarsNew", fn := fun _ => fun
  | [] => { results := [.lit (.bool true)], args := [] }
  | _ => none }
def fnExactVarsNewRow : OpenClaim := { program := "ytpmhhjinapfhbaa", sum := "b2035b3dee7da05ec6deb7944a8b65cf5367ea0b5edfe3887112239012c6cc89", func := "loop.example/g00182/laws.FnExactVarsNew", spec := "fnExactVarsNew", apart := false }
def FnExactVarsNewSaid : Prop := fnExactVarsNewRow.holds Try.pinned (OpenSpec.ofChange fnExactVarsNewSpec)

/-- ITS FALSE NEIGHBOUR: 'it returns false'. Refute it at one input. -/
def fnExactVarsNewWrong : ChangeSpec := { name := "fnExactVarsNew", fn := fun _ => fun
  | [] => { results := [.lit (.bool false)], args := [] }
  | _ => none }
def FnExactVarsNewWrongFalsely : Prop := fnExactVarsNewRow.holds Try.pinned (OpenSpec.ofChange fnExactVarsNewWrong)

/-- 'laws.FnExactVarsOk': WHATEVER THE INPUT: true; the input reads as it did. -/
def fnExactVarsOkSpec : ChangeSpec := { name := "fnExactVarsOk", fn := fun _ => fun
  | [d] => { results := [.lit (.bool true)], args := [d] }
  | _ => none }
def fnExactVarsOkRow : OpenClaim := { program := "ytpmhhjinapfhbaa", sum := "b2035b3dee7da05ec6deb7944a8b65cf5367ea0b5edfe3887112239012c6cc89", func := "loop.example/g00182/laws.FnExactVarsOk", spec := "fnExactVarsOk", unfollowed := true, recurses := true, apart := false }
def FnExactVarsOkSaid : Prop := fnExactVarsOkRow.holds Try.pinned (OpenSpec.ofChange fnExactVarsOkSpec)

/-- ITS FALSE NEIGHBOUR: 'it returns false'. Refute it at one input. -/
def fnExactVarsOkWrong : ChangeSpec := { name := "fnExactVarsOk", fn := fun _ => fun
  | [d] => { results := [.lit (.bool false)], args := [d] }
  | _ => none }
def FnExactVarsOkWrongFalsely : Prop := fnExactVarsOkRow.holds Try.pinned (OpenSpec.ofChange fnExactVarsOkWrong)

/-- 'laws.FnExactMachineNew': WHATEVER THE INPUT: true; the input reads as it did. -/
def fnExactMachineNewSpec : ChangeSpec := { name := "fnExactMachineNew", fn := fun _ => fun
  | [d1, d2] => { results := [.lit (.bool true)], args := [d1, d2] }
  | _ => none }
def fnExactMachineNewRow : OpenClaim := { program := "ytpmhhjinapfhbaa", sum := "b2035b3dee7da05ec6deb7944a8b65cf5367ea0b5edfe3887112239012c6cc89", func := "loop.example/g00182/laws.FnExactMachineNew", spec := "fnExactMachineNew", apart := false }
def FnExactMachineNewSaid : Prop := fnExactMachineNewRow.holds Try.pinned (OpenSpec.ofChange fnExactMachineNewSpec)

/-- ITS FALSE NEIGHBOUR: 'it returns false'. Refute it at one input. -/
def fnExactMachineNewWrong : ChangeSpec := { name := "fnExactMachineNew", fn := fun _ => fun
  | [d1, d2] => { results := [.lit (.bool false)], args := [d1, d2] }
  | _ => none }
def FnExactMachineNewWrongFalsely : Prop := fnExactMachineNewRow.holds Try.pinned (OpenSpec.ofChange fnExactMachineNewWrong)

/-- 'laws.FnExactOuter': WHATEVER THE INPUT: true; the input reads as it did. -/
def fnExactOuterSpec : ChangeSpec := { name := "fnExactOuter", fn := fun _ => fun
  | [d1, d2, d3] => { results := [.lit (.bool true)], args := [d1, d2, d3] }
  | _ => none }
def fnExactOuterRow : OpenClaim := { program := "ytpmhhjinapfhbaa", sum := "b2035b3dee7da05ec6deb7944a8b65cf5367ea0b5edfe3887112239012c6cc89", func := "loop.example/g00182/laws.FnExactOuter", spec := "fnExactOuter", unfollowed := true, recurses := true, apart := false }
def FnExactOuterSaid : Prop := fnExactOuterRow.holds Try.pinned (OpenSpec.ofChange fnExactOuterSpec)

/-- ITS FALSE NEIGHBOUR: 'it returns false'. Refute it at one input. -/
def fnExactOuterWrong : ChangeSpec := { name := "fnExactOuter", fn := fun _ => fun
  | [d1, d2, d3] => { results := [.lit (.bool false)], args := [d1, d2, d3] }
  | _ => none }
def FnExactOuterWrongFalsely : Prop := fnExactOuterRow.holds Try.pinned (OpenSpec.ofChange fnExactOuterWrong)

/- THE SECOND FORM. 'bulk': how many values and letters a reading holds, each counted each time it is reached (what is shared counts as often as it is met; a slice's spare places count too). A statement '..UptoSaid' is the law's where the arguments, and the package variables that the reading takes, are together of bulk at most 1048576: NARROWER than '..Said'. Prove '..Said' where nothing that the law and all that it calls make is longer than what came in: it says more and counts as full. Else prove '..UptoSaid'. A law counts once. -/
mutual
def uptoBulk {H : Type} : DataW H → Nat
  | .lit (.string bytes) => bytes.length + 1
  | .lit _ => 1
  | .nil => 1
  | .ptr d => uptoBulk d + 1
  | .slice elems spare => uptoBulkAll elems + uptoBulkAll spare + 1
  | .agg parts => uptoBulkAll parts + 1
  | .iface _ d => uptoBulk d + 1
  | .map entries => uptoBulkEntries entries + 1
  | .held _ => 1
def uptoBulkAll {H : Type} : List (DataW H) → Nat
  | [] => 0
  | d :: r => uptoBulk d + uptoBulkAll r
def uptoBulkEntries {H : Type} : List (Lit × DataW H) → Nat
  | [] => 0
  | x :: r => uptoBulkEntry x + uptoBulkEntries r
def uptoBulkEntry {H : Type} : Lit × DataW H → Nat
  | (.string bytes, d) => bytes.length + uptoBulk d + 1
  | (_, d) => uptoBulk d + 1
 end
def uptoSmall : (H : Type) → List (DataW H) → Bool := fun _ ds => decide (uptoBulkAll ds ≤ 1048576)
def OpenSpec.upto (s : _root_.Go.ChangeSpec) : _root_.Go.OpenSpec := { _root_.Go.OpenSpec.ofChange s with cond := some uptoSmall }

/-- 'laws.FnExactFunOne', WHERE WHAT IT READS IS OF BULK AT MOST 1048576: true; the input reads as it did. -/
def fnExactFunOneUptoRow : OpenClaim := { program := "ytpmhhjinapfhbaa", sum := "b2035b3dee7da05ec6deb7944a8b65cf5367ea0b5edfe3887112239012c6cc89", func := "loop.example/g00182/laws.FnExactFunOne", spec := "fnExactFunOne", apart := false, narrowed := true }
def FnExactFunOneUptoSaid : Prop := fnExactFunOneUptoRow.holds Try.pinned (OpenSpec.upto fnExactFunOneSpec)

/-- 'laws.FnExactFunTwo', WHERE WHAT IT READS IS OF BULK AT MOST 1048576: true; the input reads as it did. -/
def fnExactFunTwoUptoRow : OpenClaim := { program := "ytpmhhjinapfhbaa", sum := "b2035b3dee7da05ec6deb7944a8b65cf5367ea0b5edfe3887112239012c6cc89", func := "loop.example/g00182/laws.FnExactFunTwo", spec := "fnExactFunTwo", apart := false, narrowed := true }
def FnExactFunTwoUptoSaid : Prop := fnExactFunTwoUptoRow.holds Try.pinned (OpenSpec.upto fnExactFunTwoSpec)

/-- 'laws.FnExactTokenOk', WHERE WHAT IT READS IS OF BULK AT MOST 1048576: true; the input reads as it did. -/
def fnExactTokenOkUptoRow : OpenClaim := { program := "ytpmhhjinapfhbaa", sum := "b2035b3dee7da05ec6deb7944a8b65cf5367ea0b5edfe3887112239012c6cc89", func := "loop.example/g00182/laws.FnExactTokenOk", spec := "fnExactTokenOk", apart := false, narrowed := true }
def FnExactTokenOkUptoSaid : Prop := fnExactTokenOkUptoRow.holds Try.pinned (OpenSpec.upto fnExactTokenOkSpec)

/-- 'laws.FnExactVarsNew', WHERE WHAT IT READS IS OF BULK AT MOST 1048576: true; the input reads as it did. -/
def fnExactVarsNewUptoRow : OpenClaim := { program := "ytpmhhjinapfhbaa", sum := "b2035b3dee7da05ec6deb7944a8b65cf5367ea0b5edfe3887112239012c6cc89", func := "loop.example/g00182/laws.FnExactVarsNew", spec := "fnExactVarsNew", apart := false, narrowed := true }
def FnExactVarsNewUptoSaid : Prop := fnExactVarsNewUptoRow.holds Try.pinned (OpenSpec.upto fnExactVarsNewSpec)

/-- 'laws.FnExactVarsOk', WHERE WHAT IT READS IS OF BULK AT MOST 1048576: true; the input reads as it did. -/
def fnExactVarsOkUptoRow : OpenClaim := { program := "ytpmhhjinapfhbaa", sum := "b2035b3dee7da05ec6deb7944a8b65cf5367ea0b5edfe3887112239012c6cc89", func := "loop.example/g00182/laws.FnExactVarsOk", spec := "fnExactVarsOk", unfollowed := true, recurses := true, apart := false, narrowed := true }
def FnExactVarsOkUptoSaid : Prop := fnExactVarsOkUptoRow.holds Try.pinned (OpenSpec.upto fnExactVarsOkSpec)

/-- 'laws.FnExactMachineNew', WHERE WHAT IT READS IS OF BULK AT MOST 1048576: true; the input reads as it did. -/
def fnExactMachineNewUptoRow : OpenClaim := { program := "ytpmhhjinapfhbaa", sum := "b2035b3dee7da05ec6deb7944a8b65cf5367ea0b5edfe3887112239012c6cc89", func := "loop.example/g00182/laws.FnExactMachineNew", spec := "fnExactMachineNew", apart := false, narrowed := true }
def FnExactMachineNewUptoSaid : Prop := fnExactMachineNewUptoRow.holds Try.pinned (OpenSpec.upto fnExactMachineNewSpec)

/-- 'laws.FnExactOuter', WHERE WHAT IT READS IS OF BULK AT MOST 1048576: true; the input reads as it did. -/
def fnExactOuterUptoRow : OpenClaim := { program := "ytpmhhjinapfhbaa", sum := "b2035b3dee7da05ec6deb7944a8b65cf5367ea0b5edfe3887112239012c6cc89", func := "loop.example/g00182/laws.FnExactOuter", spec := "fnExactOuter", unfollowed := true, recurses := true, apart := false, narrowed := true }
def FnExactOuterUptoSaid : Prop := fnExactOuterUptoRow.holds Try.pinned (OpenSpec.upto fnExactOuterSpec)

end Rows
end Go.Proofs.Ytpmhhjinapfhbaa
