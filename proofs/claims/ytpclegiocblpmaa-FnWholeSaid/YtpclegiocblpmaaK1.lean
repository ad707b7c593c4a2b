/- The code of the functions that the laws reach, made short; and facts on the types that they use. -/
import Derived.Test.YtpclegiocblpmaaA8
import Derived.KernelRfl
import Derived.Test.YtpclegiocblpmaaRows
set_option linter.unusedVariables false
set_option linter.unusedSimpArgs false
set_option linter.defProp false
set_option maxRecDepth 100000
/- The code of the functions that the laws reach, made short; and facts on the types that they use. -/
namespace Go.Proofs.Ytpclegiocblpmaa.AM
open Go Go.Proofs.Ytpclegiocblpmaa Go.Proofs

theorem al26 {ev : Operand → Value} : aMake Try.prog ev (.alloc 26) = some ([.slice none 0 0, .slice none 0 0], none) := by kernel_rfl
theorem az24_3 {k : IntKind} {n : Int} {H : AH} : aAppend Try.prog #[24, 3] #[.slice none 0 0, .int k n] H = if 0 < n ∧ n ≤ 1073741824 then some (.slice (some ⟨H.length, 0, none⟩) n.toNat 1, H ++ [⟨(Builtin.zeroCells #[.int .i64 0] n.toNat).toList, .own⟩]) else none := append_zero_eq (z := .int .i64 0) (e := 3) (q := .i64) (by kernel_rfl) (by kernel_rfl) (by kernel_rfl) (by kernel_rfl) (by kernel_rfl) (by kernel_rfl) (by decide) (by kernel_rfl)
theorem ap24_24 {a a' : Option Addr} {n c n' c' : Nat} {H : AH} : aAppend Try.prog #[24, 24] #[.slice a n c, .slice a' n' c'] H = app 1 (.slice a n c) (.slice a' n' c') H := append_eq (z := .int .i64 0) (e := 3) (e' := 3) (by kernel_rfl) (by kernel_rfl) (by kernel_rfl) (by kernel_rfl) (by kernel_rfl) (by kernel_rfl)
theorem ap62_62 {a a' : Option Addr} {n c n' c' : Nat} {H : AH} : aAppend Try.prog #[62, 62] #[.slice a n c, .slice a' n' c'] H = app 2 (.slice a n c) (.slice a' n' c') H := append_eq (z := .agg #[.slice none 0 0, .slice none 0 0]) (e := 26) (e' := 26) (by kernel_rfl) (by kernel_rfl) (by kernel_rfl) (by kernel_rfl) (by kernel_rfl) (by kernel_rfl)
theorem bd26 {ps : Array (Nat × Value)} : aBuild Try.prog 26 ps = (fillP [(0, 1), (1, 1)] [.slice none 0 0, .slice none 0 0] ps.toList).map fun cs => .agg cs.toArray := build_eq (z := .agg #[.slice none 0 0, .slice none 0 0]) Try.underlying26 (by kernel_rfl) (by kernel_rfl) (by kernel_rfl) rfl
theorem bd85 {ps : Array (Nat × Value)} : aBuild Try.prog 85 ps = (fillP [(0, 1), (1, 1), (2, 1)] [.slice none 0 0, .int .i64 0, .int .i64 0] ps.toList).map fun cs => .agg cs.toArray := build_eq (z := .agg #[.slice none 0 0, .int .i64 0, .int .i64 0]) Try.underlying85 (by kernel_rfl) (by kernel_rfl) (by kernel_rfl) rfl
theorem bs24_0 {ev : Operand → Value} : aMake Try.prog ev (.buildSlice 24 0 #[]) = (fillP [] [] []).map fun cs => (cs, some (0, 1)) := bslice_eq (z := .int .i64 0) (e := 3) (by kernel_rfl) (by kernel_rfl) (by kernel_rfl) (by decide) (by kernel_rfl) (by kernel_rfl) rfl rfl
theorem bs24_1 {ev : Operand → Value} {x0 : Operand} : aMake Try.prog ev (.buildSlice 24 1 #[(0, x0)]) = (fillP [(0, 1)] [.int .i64 0] [(0, ev x0)]).map fun cs => (cs, some (1, 1)) := bslice_eq (z := .int .i64 0) (e := 3) (by kernel_rfl) (by kernel_rfl) (by kernel_rfl) (by decide) (by kernel_rfl) (by kernel_rfl) rfl rfl
theorem bs24_2 {ev : Operand → Value} {x0 x1 : Operand} : aMake Try.prog ev (.buildSlice 24 2 #[(0, x0), (1, x1)]) = (fillP [(0, 1), (1, 1)] [.int .i64 0, .int .i64 0] [(0, ev x0), (1, ev x1)]).map fun cs => (cs, some (2, 1)) := bslice_eq (z := .int .i64 0) (e := 3) (by kernel_rfl) (by kernel_rfl) (by kernel_rfl) (by decide) (by kernel_rfl) (by kernel_rfl) rfl rfl
theorem bs24_3 {ev : Operand → Value} {x0 x1 x2 : Operand} : aMake Try.prog ev (.buildSlice 24 3 #[(0, x0), (1, x1), (2, x2)]) = (fillP [(0, 1), (1, 1), (2, 1)] [.int .i64 0, .int .i64 0, .int .i64 0] [(0, ev x0), (1, ev x1), (2, ev x2)]).map fun cs => (cs, some (3, 1)) := bslice_eq (z := .int .i64 0) (e := 3) (by kernel_rfl) (by kernel_rfl) (by kernel_rfl) (by decide) (by kernel_rfl) (by kernel_rfl) rfl rfl
theorem bs24_4 {ev : Operand → Value} {x0 x1 x2 x3 : Operand} : aMake Try.prog ev (.buildSlice 24 4 #[(0, x0), (1, x1), (2, x2), (3, x3)]) = (fillP [(0, 1), (1, 1), (2, 1), (3, 1)] [.int .i64 0, .int .i64 0, .int .i64 0, .int .i64 0] [(0, ev x0), (1, ev x1), (2, ev x2), (3, ev x3)]).map fun cs => (cs, some (4, 1)) := bslice_eq (z := .int .i64 0) (e := 3) (by kernel_rfl) (by kernel_rfl) (by kernel_rfl) (by decide) (by kernel_rfl) (by kernel_rfl) rfl rfl
theorem bs24_7 {ev : Operand → Value} {x0 x1 x2 x3 x4 x5 x6 : Operand} : aMake Try.prog ev (.buildSlice 24 7 #[(0, x0), (1, x1), (2, x2), (3, x3), (4, x4), (5, x5), (6, x6)]) = (fillP [(0, 1), (1, 1), (2, 1), (3, 1), (4, 1), (5, 1), (6, 1)] [.int .i64 0, .int .i64 0, .int .i64 0, .int .i64 0, .int .i64 0, .int .i64 0, .int .i64 0] [(0, ev x0), (1, ev x1), (2, ev x2), (3, ev x3), (4, ev x4), (5, ev x5), (6, ev x6)]).map fun cs => (cs, some (7, 1)) := bslice_eq (z := .int .i64 0) (e := 3) (by kernel_rfl) (by kernel_rfl) (by kernel_rfl) (by decide) (by kernel_rfl) (by kernel_rfl) rfl rfl
theorem bs62_1 {ev : Operand → Value} {x0 : Operand} : aMake Try.prog ev (.buildSlice 62 1 #[(0, x0)]) = (fillP [(0, 2)] [.slice none 0 0, .slice none 0 0] [(0, ev x0)]).map fun cs => (cs, some (1, 2)) := bslice_eq (z := .agg #[.slice none 0 0, .slice none 0 0]) (e := 26) (by kernel_rfl) (by kernel_rfl) (by kernel_rfl) (by decide) (by kernel_rfl) (by kernel_rfl) rfl rfl
theorem bs89_2 {ev : Operand → Value} {x0 x1 : Operand} : aMake Try.prog ev (.buildSlice 89 2 #[(0, x0), (1, x1)]) = (fillP [(0, 1), (1, 1)] [.slice none 0 0, .slice none 0 0] [(0, ev x0), (1, ev x1)]).map fun cs => (cs, some (2, 1)) := bslice_eq (z := .slice none 0 0) (e := 24) (by kernel_rfl) (by kernel_rfl) (by kernel_rfl) (by decide) (by kernel_rfl) (by kernel_rfl) rfl rfl
theorem cp24 {n c : Nat} : aCap Try.prog #[24] #[.slice none n c] = some (.int .i64 0) := cap_nil (e := 3) (by kernel_rfl)
theorem cv5_3 {k : IntKind} {n : Int} {G : Hp} : aConv Try.prog 5 3 (.int k n) G = some (.int .i64 (IntKind.i64.wrap n)) := conv_int (e := .int .u8) (by kernel_rfl) (by kernel_rfl)
theorem fa26_0 {b o : Nat} : aFieldAddr Try.prog 26 (.pointer (some ⟨b, o, none⟩)) 0 = some (.pointer (some ⟨b, o + 0, none⟩)) := by kernel_rfl
theorem fa26_1 {b o : Nat} : aFieldAddr Try.prog 26 (.pointer (some ⟨b, o, none⟩)) 1 = some (.pointer (some ⟨b, o + 1, none⟩)) := by kernel_rfl
theorem fa85_0 {b o : Nat} : aFieldAddr Try.prog 85 (.pointer (some ⟨b, o, none⟩)) 0 = some (.pointer (some ⟨b, o + 0, none⟩)) := by kernel_rfl
theorem fa85_1 {b o : Nat} : aFieldAddr Try.prog 85 (.pointer (some ⟨b, o, none⟩)) 1 = some (.pointer (some ⟨b, o + 1, none⟩)) := by kernel_rfl
theorem fa85_2 {b o : Nat} : aFieldAddr Try.prog 85 (.pointer (some ⟨b, o, none⟩)) 2 = some (.pointer (some ⟨b, o + 2, none⟩)) := by kernel_rfl
theorem ix22 {b o n c : Nat} {k : IntKind} {j : Int} : aIndexAddr Try.prog 22 (.slice (some ⟨b, o, none⟩) n c) (.int k j) = if 0 ≤ j ∧ j < n then some (.pointer (some ⟨b, o + j.toNat * 1, none⟩)) else none := by kernel_rfl
theorem ix24 {b o n c : Nat} {k : IntKind} {j : Int} : aIndexAddr Try.prog 24 (.slice (some ⟨b, o, none⟩) n c) (.int k j) = if 0 ≤ j ∧ j < n then some (.pointer (some ⟨b, o + j.toNat * 1, none⟩)) else none := by kernel_rfl
theorem ix62 {b o n c : Nat} {k : IntKind} {j : Int} : aIndexAddr Try.prog 62 (.slice (some ⟨b, o, none⟩) n c) (.int k j) = if 0 ≤ j ∧ j < n then some (.pointer (some ⟨b, o + j.toNat * 2, none⟩)) else none := by kernel_rfl
theorem ix89 {b o n c : Nat} {k : IntKind} {j : Int} : aIndexAddr Try.prog 89 (.slice (some ⟨b, o, none⟩) n c) (.int k j) = if 0 ≤ j ∧ j < n then some (.pointer (some ⟨b, o + j.toNat * 1, none⟩)) else none := by kernel_rfl
theorem ld3 {o : Nat} {cs : List Value} : ld Try.prog 3 o cs = cs[o]? := ld_one (by kernel_rfl)
theorem ld5 {o : Nat} {cs : List Value} : ld Try.prog 5 o cs = cs[o]? := ld_one (by kernel_rfl)
theorem ld22 {o : Nat} {cs : List Value} : ld Try.prog 22 o cs = cs[o]? := ld_one (by kernel_rfl)
theorem ld24 {o : Nat} {cs : List Value} : ld Try.prog 24 o cs = cs[o]? := ld_one (by kernel_rfl)
theorem ld26 {o : Nat} {cs : List Value} : ld Try.prog 26 o cs = aggAt 2 o cs := ld_agg (by kernel_rfl) (by kernel_rfl)
theorem ln22 {a : Option Addr} {n c : Nat} : aLen Try.prog #[22] #[.slice a n c] = some (.int .i64 n) := by kernel_rfl
theorem ln24 {a : Option Addr} {n c : Nat} : aLen Try.prog #[24] #[.slice a n c] = some (.int .i64 n) := by kernel_rfl
theorem ln62 {a : Option Addr} {n c : Nat} : aLen Try.prog #[62] #[.slice a n c] = some (.int .i64 n) := by kernel_rfl
theorem ln89 {a : Option Addr} {n c : Nat} : aLen Try.prog #[89] #[.slice a n c] = some (.int .i64 n) := by kernel_rfl
theorem ms24 {k k' : IntKind} {n : Int} : mkS Try.prog 24 (.int k n) (.int k' n) = if 0 ≤ n ∧ n ≤ 1073741824 then some ((List.replicate n.toNat [.int .i64 0]).flatten, some (n.toNat, 1)) else none := mkS_eq (z := .int .i64 0) (e := 3) (by kernel_rfl) (by kernel_rfl) (by kernel_rfl) (by kernel_rfl) (by kernel_rfl) (by kernel_rfl) (by decide)
theorem sl24 {b o n : Nat} {lo hi : Option Value} : aSlice Try.prog 24 (.slice (some ⟨b, o, none⟩) n 1) lo hi = slc b o n 1 (optInt 0 lo) (optInt n hi) := slc_eq (e := 3) (by kernel_rfl) (by kernel_rfl)
theorem sn24 {n c : Nat} {lo hi : Option Value} : aSlice Try.prog 24 (.slice none n c) lo hi = slq n (optInt 0 lo) (optInt n hi) := sln_q (e := 3) (s := 1) (by kernel_rfl) (by kernel_rfl)
theorem st3 {b o : Nat} {v : Value} {H : AH} : aStore Try.prog 3 (.pointer (some ⟨b, o, none⟩)) v H = sto 1 b o v H (wrt H b) := store_eq (by kernel_rfl)
theorem st24 {b o : Nat} {v : Value} {H : AH} : aStore Try.prog 24 (.pointer (some ⟨b, o, none⟩)) v H = sto 1 b o v H (wrt H b) := store_eq (by kernel_rfl)
theorem st26 {b o : Nat} {v : Value} {H : AH} : aStore Try.prog 26 (.pointer (some ⟨b, o, none⟩)) v H = sto 2 b o v H (wrt H b) := store_eq (by kernel_rfl)

/-- laws.big -/
def k7 : KC :=
  (.seq
   (.ops [⟨some 2, none, (.assign (.const (.bool false)))⟩])
   (.seq
    (.ops [⟨some 3, none, (.move (.tmp 0))⟩,
      ⟨some 4, none, (.call ⟨(.builtin .len), #[(.tmp 3)], #[22]⟩)⟩,
      ⟨some 5, none, (.binOp .gtr 3 (.tmp 4) (.const (.int .i64 1048576)) 3)⟩,
      ⟨some 2, none, (.assign (.tmp 5))⟩])
    .ret))
theorem w7 {args : Array Value} {H : AH} {Φ : Value → AH → Prop} (h : rW Try.prog k7 [] (fin Try.prog [(.tmp 2)] Φ) (tm0 args) H) : CallsA Try.prog 7 args H Φ :=
  CallsA.w k7 [(.tmp 2)] (fun _ => []) Try.func7 rfl rfl (by kernel_rfl) (by kernel_rfl) h

/-- spec.l1Byte -/
def k74 : KC :=
  (.seq
   (.ops [⟨some 2, none, (.assign (.const (.int .i64 0)))⟩])
   (.seq
    (.ops [⟨some 4, none, (.move (.tmp 0))⟩,
      ⟨some 5, none, (.move (.tmp 0))⟩,
      ⟨some 6, none, (.nilCheck (.tmp 5))⟩,
      ⟨some 7, none, (.fieldAddr 85 (.tmp 6) 2)⟩,
      ⟨some 8, none, (.load 3 (.tmp 7))⟩,
      ⟨some 9, none, (.binOp .mul 3 (.tmp 8) (.const (.int .i64 6364136223846793005)) 3)⟩,
      ⟨some 10, none, (.binOp .add 3 (.tmp 9) (.const (.int .i64 1442695040888963407)) 3)⟩,
      ⟨some 11, none, (.nilCheck (.tmp 4))⟩,
      ⟨some 12, none, (.fieldAddr 85 (.tmp 11) 2)⟩,
      ⟨none, none, (.store 3 (.tmp 12) (.tmp 10))⟩])
    (.seq
     (.ops [⟨some 13, none, (.move (.tmp 0))⟩,
       ⟨some 14, none, (.nilCheck (.tmp 13))⟩,
       ⟨some 15, none, (.fieldAddr 85 (.tmp 14) 2)⟩,
       ⟨some 16, none, (.load 3 (.tmp 15))⟩,
       ⟨some 17, none, (.binOp .shr 3 (.tmp 16) (.const (.int .u64 33)) 102)⟩,
       ⟨some 18, none, (.move (.tmp 0))⟩,
       ⟨some 19, none, (.nilCheck (.tmp 18))⟩,
       ⟨some 20, none, (.fieldAddr 85 (.tmp 19) 2)⟩,
       ⟨some 21, none, (.load 3 (.tmp 20))⟩,
       ⟨some 22, none, (.binOp .shr 3 (.tmp 21) (.const (.int .u64 45)) 102)⟩,
       ⟨some 23, none, (.binOp .xor 3 (.tmp 17) (.tmp 22) 3)⟩,
       ⟨some 24, none, (.binOp .and 3 (.tmp 23) (.const (.int .i64 255)) 3)⟩,
       ⟨some 3, none, (.assign (.tmp 24))⟩])
     (.seq
      (.seq
       (.ops [⟨some 25, none, (.move (.tmp 0))⟩,
         ⟨some 26, none, (.nilCheck (.tmp 25))⟩,
         ⟨some 27, none, (.fieldAddr 85 (.tmp 26) 1)⟩,
         ⟨some 28, none, (.load 3 (.tmp 27))⟩,
         ⟨some 29, none, (.move (.tmp 0))⟩,
         ⟨some 30, none, (.nilCheck (.tmp 29))⟩,
         ⟨some 31, none, (.fieldAddr 85 (.tmp 30) 0)⟩,
         ⟨some 32, none, (.load 22 (.tmp 31))⟩,
         ⟨some 33, none, (.call ⟨(.builtin .len), #[(.tmp 32)], #[22]⟩)⟩,
         ⟨some 34, none, (.binOp .lss 3 (.tmp 28) (.tmp 33) 3)⟩])
       (.cond (.tmp 34)
        (.seq
         (.ops [⟨some 35, none, (.move (.tmp 3))⟩,
           ⟨some 36, none, (.move (.tmp 0))⟩,
           ⟨some 37, none, (.nilCheck (.tmp 36))⟩,
           ⟨some 38, none, (.fieldAddr 85 (.tmp 37) 0)⟩,
           ⟨some 39, none, (.load 22 (.tmp 38))⟩,
           ⟨some 40, none, (.move (.tmp 0))⟩,
           ⟨some 41, none, (.nilCheck (.tmp 40))⟩,
           ⟨some 42, none, (.fieldAddr 85 (.tmp 41) 1)⟩,
           ⟨some 43, none, (.load 3 (.tmp 42))⟩,
           ⟨some 44, none, (.indexAddr 22 (.tmp 39) (.tmp 43))⟩,
           ⟨some 45, none, (.load 5 (.tmp 44))⟩,
           ⟨some 46, none, (.convert 5 3 (.tmp 45))⟩,
           ⟨some 47, none, (.binOp .add 3 (.tmp 35) (.tmp 46) 3)⟩,
           ⟨some 48, none, (.binOp .and 3 (.tmp 47) (.const (.int .i64 255)) 3)⟩,
           ⟨some 3, none, (.assign (.tmp 48))⟩])
         (.ops [⟨some 49, none, (.move (.tmp 0))⟩,
           ⟨some 50, none, (.move (.tmp 0))⟩,
           ⟨some 51, none, (.nilCheck (.tmp 50))⟩,
           ⟨some 52, none, (.fieldAddr 85 (.tmp 51) 1)⟩,
           ⟨some 53, none, (.load 3 (.tmp 52))⟩,
           ⟨some 54, none, (.binOp .add 3 (.tmp 53) (.const (.int .i64 1)) 3)⟩,
           ⟨some 55, none, (.nilCheck (.tmp 49))⟩,
           ⟨some 56, none, (.fieldAddr 85 (.tmp 55) 1)⟩,
           ⟨none, none, (.store 3 (.tmp 56) (.tmp 54))⟩]))
        .skip))
      (.seq
       (.ops [⟨some 57, none, (.move (.tmp 3))⟩,
         ⟨some 2, none, (.assign (.tmp 57))⟩])
       .ret)))))
theorem w74 {args : Array Value} {H : AH} {Φ : Value → AH → Prop} (h : rW Try.prog k74 [] (fin Try.prog [(.tmp 2)] Φ) (tm0 args) H) : CallsA Try.prog 74 args H Φ :=
  CallsA.w k74 [(.tmp 2)] (fun i => if i = 2 then [(3, 0), (8, 0)] else if i = 3 then [(3, 0), (7, 0)] else if i = 4 then [(4, 0), (8, 0), (10, 0), (11, 0)] else []) Try.func74 rfl rfl (by kernel_rfl) (by kernel_rfl) h

/-- spec.l1Below -/
def k47 : KC :=
  (.seq
   (.ops [⟨some 4, none, (.assign (.const (.int .i64 0)))⟩])
   (.seq
    (.seq
     (.ops [⟨some 9, none, (.move (.tmp 1))⟩,
       ⟨some 10, none, (.binOp .leq 3 (.tmp 9) (.const (.int .i64 0)) 3)⟩])
     (.cond (.tmp 10)
      (.seq
       (.ops [⟨some 4, none, (.assign (.const (.int .i64 0)))⟩])
       .ret)
      .skip))
    (.seq
     (.seq
      (.ops [⟨some 11, none, (.move (.tmp 1))⟩,
        ⟨some 12, none, (.binOp .leq 3 (.tmp 11) (.const (.int .i64 256)) 3)⟩])
      (.cond (.tmp 12)
       (.seq
        (.ops [⟨some 13, none, (.move (.tmp 0))⟩,
          ⟨some 14, none, (.call ⟨(.value (.func 74)), #[(.tmp 13)], #[52]⟩)⟩,
          ⟨some 15, none, (.move (.tmp 1))⟩,
          ⟨some 16, none, (.binOp .rem 3 (.tmp 14) (.tmp 15) 3)⟩,
          ⟨some 4, none, (.assign (.tmp 16))⟩])
        .ret)
       .skip))
     (.seq
      (.ops [⟨some 17, none, (.move (.tmp 0))⟩,
        ⟨some 18, none, (.call ⟨(.value (.func 74)), #[(.tmp 17)], #[52]⟩)⟩,
        ⟨some 5, none, (.assign (.tmp 18))⟩])
      (.seq
       (.ops [⟨some 19, none, (.move (.tmp 0))⟩,
         ⟨some 20, none, (.call ⟨(.value (.func 74)), #[(.tmp 19)], #[52]⟩)⟩,
         ⟨some 6, none, (.assign (.tmp 20))⟩])
       (.seq
        (.ops [⟨some 21, none, (.move (.tmp 0))⟩,
          ⟨some 22, none, (.call ⟨(.value (.func 74)), #[(.tmp 21)], #[52]⟩)⟩,
          ⟨some 7, none, (.assign (.tmp 22))⟩])
        (.seq
         (.ops [⟨some 23, none, (.move (.tmp 0))⟩,
           ⟨some 24, none, (.call ⟨(.value (.func 74)), #[(.tmp 23)], #[52]⟩)⟩,
           ⟨some 8, none, (.assign (.tmp 24))⟩])
         (.seq
          (.ops [⟨some 25, none, (.move (.tmp 5))⟩,
            ⟨some 26, none, (.binOp .mul 3 (.tmp 25) (.const (.int .i64 16777216)) 3)⟩,
            ⟨some 27, none, (.move (.tmp 6))⟩,
            ⟨some 28, none, (.binOp .mul 3 (.tmp 27) (.const (.int .i64 65536)) 3)⟩,
            ⟨some 29, none, (.binOp .add 3 (.tmp 26) (.tmp 28) 3)⟩,
            ⟨some 30, none, (.move (.tmp 7))⟩,
            ⟨some 31, none, (.binOp .mul 3 (.tmp 30) (.const (.int .i64 256)) 3)⟩,
            ⟨some 32, none, (.binOp .add 3 (.tmp 29) (.tmp 31) 3)⟩,
            ⟨some 33, none, (.move (.tmp 8))⟩,
            ⟨some 34, none, (.binOp .add 3 (.tmp 32) (.tmp 33) 3)⟩,
            ⟨some 35, none, (.move (.tmp 1))⟩,
            ⟨some 36, none, (.binOp .rem 3 (.tmp 34) (.tmp 35) 3)⟩,
            ⟨some 4, none, (.assign (.tmp 36))⟩])
          .ret))))))))
theorem w47 {args : Array Value} {H : AH} {Φ : Value → AH → Prop} (h : rW Try.prog k47 [] (fin Try.prog [(.tmp 4)] Φ) (tm0 args) H) : CallsA Try.prog 47 args H Φ :=
  CallsA.w k47 [(.tmp 4)] (fun _ => []) Try.func47 rfl rfl (by kernel_rfl) (by kernel_rfl) h

/-- spec.l1In -/
def k71 : KC :=
  (.seq
   (.ops [⟨some 6, none, (.assign (.const (.bool false)))⟩])
   (.seq
    (.ops [⟨some 7, none, (.move (.tmp 0))⟩,
      ⟨some 8, none, (.move (.tmp 1))⟩,
      ⟨some 9, none, (.binOp .geq 3 (.tmp 7) (.tmp 8) 3)⟩,
      ⟨some 10, none, (.move (.tmp 9))⟩,
      ⟨some 11, (some (10, true)), (.move (.tmp 0))⟩,
      ⟨some 12, (some (10, true)), (.move (.tmp 2))⟩,
      ⟨some 13, (some (10, true)), (.binOp .leq 3 (.tmp 11) (.tmp 12) 3)⟩,
      ⟨some 14, none, (.pick (.tmp 10) (.tmp 13) (.const (.bool false)))⟩,
      ⟨some 6, none, (.assign (.tmp 14))⟩])
    .ret))
theorem w71 {args : Array Value} {H : AH} {Φ : Value → AH → Prop} (h : rW Try.prog k71 [] (fin Try.prog [(.tmp 6)] Φ) (tm0 args) H) : CallsA Try.prog 71 args H Φ :=
  CallsA.w k71 [(.tmp 6)] (fun _ => []) Try.func71 rfl rfl (by kernel_rfl) (by kernel_rfl) h

/-- spec.SizeOf -/
def k68 : KC :=
  (.seq
   (.ops [⟨some 2, none, (.assign (.const (.int .i64 0)))⟩])
   (.seq
    (.seq
     (.ops [⟨some 7, none, (.move (.tmp 0))⟩,
       ⟨some 8, none, (.call ⟨(.builtin .len), #[(.tmp 7)], #[24]⟩)⟩,
       ⟨some 9, none, (.binOp .gtr 3 (.tmp 8) (.const (.int .i64 3)) 3)⟩])
     (.cond (.tmp 9)
      (.seq
       (.ops [⟨some 2, none, (.assign (.const (.int .i64 (-1))))⟩])
       .ret)
      .skip))
    (.seq
     (.ops [⟨some 3, none, (.assign (.const (.bool false)))⟩])
     (.seq
      (.seq
       (.ops [⟨some 4, none, (.assign (.const (.int .i64 0)))⟩])
       (.block 0
        (.loop
         (.seq
          (.seq
           (.ops [⟨some 10, none, (.move (.tmp 4))⟩,
             ⟨some 11, none, (.move (.tmp 0))⟩,
             ⟨some 12, none, (.call ⟨(.builtin .len), #[(.tmp 11)], #[24]⟩)⟩,
             ⟨some 13, none, (.binOp .lss 3 (.tmp 10) (.tmp 12) 3)⟩])
           (.cond (.tmp 13)
            .skip
            (.exit 0)))
          (.seq
           (.block 1
            (.seq
             (.seq
              (.ops [⟨some 16, none, (.move (.tmp 0))⟩,
                ⟨some 17, none, (.move (.tmp 4))⟩,
                ⟨some 18, none, (.indexAddr 24 (.tmp 16) (.tmp 17))⟩,
                ⟨some 19, none, (.load 3 (.tmp 18))⟩,
                ⟨some 20, none, (.call ⟨(.value (.func 71)), #[(.tmp 19), (.const (.int .i64 0)), (.const (.int .i64 300))], #[3, 3, 3]⟩)⟩,
                ⟨some 21, none, (.unOp .not 4 (.tmp 20))⟩])
              (.cond (.tmp 21)
               (.seq
                (.ops [⟨some 2, none, (.assign (.const (.int .i64 (-1))))⟩])
                .ret)
               .skip))
             (.ops [⟨some 22, none, (.move (.tmp 3))⟩,
               ⟨some 23, none, (.move (.tmp 22))⟩,
               ⟨some 24, (some (23, false)), (.move (.tmp 0))⟩,
               ⟨some 25, (some (23, false)), (.move (.tmp 4))⟩,
               ⟨some 26, (some (23, false)), (.indexAddr 24 (.tmp 24) (.tmp 25))⟩,
               ⟨some 27, (some (23, false)), (.load 3 (.tmp 26))⟩,
               ⟨some 28, (some (23, false)), (.binOp .eql 3 (.tmp 27) (.const (.int .i64 0)) 3)⟩,
               ⟨some 29, none, (.pick (.tmp 23) (.const (.bool true)) (.tmp 28))⟩,
               ⟨some 3, none, (.assign (.tmp 29))⟩])))
           (.ops [⟨some 14, none, (.move (.tmp 4))⟩,
             ⟨some 15, none, (.binOp .add 3 (.tmp 14) (.const (.int .i64 1)) 3)⟩,
             ⟨some 4, none, (.assign (.tmp 15))⟩]))))))
      (.seq
       (.ops [⟨some 5, none, (.assign (.const (.int .i64 1)))⟩])
       (.seq
        (.seq
         (.ops [⟨some 6, none, (.assign (.const (.int .i64 0)))⟩])
         (.block 2
          (.loop
           (.seq
            (.seq
             (.ops [⟨some 30, none, (.move (.tmp 6))⟩,
               ⟨some 31, none, (.move (.tmp 0))⟩,
               ⟨some 32, none, (.call ⟨(.builtin .len), #[(.tmp 31)], #[24]⟩)⟩,
               ⟨some 33, none, (.binOp .lss 3 (.tmp 30) (.tmp 32) 3)⟩])
             (.cond (.tmp 33)
              .skip
              (.exit 2)))
            (.seq
             (.block 3
              (.ops [⟨some 36, none, (.move (.tmp 5))⟩,
                ⟨some 37, none, (.move (.tmp 0))⟩,
                ⟨some 38, none, (.move (.tmp 6))⟩,
                ⟨some 39, none, (.indexAddr 24 (.tmp 37) (.tmp 38))⟩,
                ⟨some 40, none, (.load 3 (.tmp 39))⟩,
                ⟨some 41, none, (.binOp .mul 3 (.tmp 36) (.tmp 40) 3)⟩,
                ⟨some 5, none, (.assign (.tmp 41))⟩]))
             (.ops [⟨some 34, none, (.move (.tmp 6))⟩,
               ⟨some 35, none, (.binOp .add 3 (.tmp 34) (.const (.int .i64 1)) 3)⟩,
               ⟨some 6, none, (.assign (.tmp 35))⟩]))))))
        (.seq
         (.seq
          (.ops [⟨some 42, none, (.move (.tmp 5))⟩,
            ⟨some 43, none, (.binOp .gtr 3 (.tmp 42) (.const (.int .i64 300)) 3)⟩,
            ⟨some 44, none, (.move (.tmp 43))⟩,
            ⟨some 45, (some (44, true)), (.move (.tmp 3))⟩,
            ⟨some 46, (some (44, true)), (.unOp .not 4 (.tmp 45))⟩,
            ⟨some 47, none, (.pick (.tmp 44) (.tmp 46) (.const (.bool false)))⟩])
          (.cond (.tmp 47)
           (.seq
            (.ops [⟨some 2, none, (.assign (.const (.int .i64 (-1))))⟩])
            .ret)
           .skip))
         (.seq
          (.ops [⟨some 48, none, (.move (.tmp 5))⟩,
            ⟨some 2, none, (.assign (.tmp 48))⟩])
          .ret))))))))
theorem w68 {args : Array Value} {H : AH} {Φ : Value → AH → Prop} (h : rW Try.prog k68 [] (fin Try.prog [(.tmp 2)] Φ) (tm0 args) H) : CallsA Try.prog 68 args H Φ :=
  CallsA.w k68 [(.tmp 2)] (fun _ => []) Try.func68 rfl rfl (by kernel_rfl) (by kernel_rfl) h

/-- spec.l1PickInt -/
def k46 : KC :=
  (.seq
   (.ops [⟨some 4, none, (.assign (.const (.int .i64 0)))⟩])
   (.seq
    (.ops [⟨some 5, none, (.move (.tmp 1))⟩,
      ⟨some 6, none, (.move (.tmp 0))⟩,
      ⟨some 7, none, (.move (.tmp 1))⟩,
      ⟨some 8, none, (.call ⟨(.builtin .len), #[(.tmp 7)], #[24]⟩)⟩,
      ⟨some 9, none, (.call ⟨(.value (.func 47)), #[(.tmp 6), (.tmp 8)], #[52, 3]⟩)⟩,
      ⟨some 10, none, (.indexAddr 24 (.tmp 5) (.tmp 9))⟩,
      ⟨some 11, none, (.load 3 (.tmp 10))⟩,
      ⟨some 4, none, (.assign (.tmp 11))⟩])
    .ret))
theorem w46 {args : Array Value} {H : AH} {Φ : Value → AH → Prop} (h : rW Try.prog k46 [] (fin Try.prog [(.tmp 4)] Φ) (tm0 args) H) : CallsA Try.prog 46 args H Φ :=
  CallsA.w k46 [(.tmp 4)] (fun _ => []) Try.func46 rfl rfl (by kernel_rfl) (by kernel_rfl) h

/-- spec.l1Once -/
def k52 : KC :=
  (.seq
   (.ops [⟨some 4, none, (.assign (.const (.bool false)))⟩])
   (.seq
    (.ops [⟨some 5, none, (.move (.tmp 0))⟩,
      ⟨some 6, none, (.move (.tmp 1))⟩,
      ⟨some 7, none, (.call ⟨(.value (.func 47)), #[(.tmp 5), (.tmp 6)], #[52, 3]⟩)⟩,
      ⟨some 8, none, (.binOp .eql 3 (.tmp 7) (.const (.int .i64 0)) 3)⟩,
      ⟨some 4, none, (.assign (.tmp 8))⟩])
    .ret))
theorem w52 {args : Array Value} {H : AH} {Φ : Value → AH → Prop} (h : rW Try.prog k52 [] (fin Try.prog [(.tmp 4)] Φ) (tm0 args) H) : CallsA Try.prog 52 args H Φ :=
  CallsA.w k52 [(.tmp 4)] (fun _ => []) Try.func52 rfl rfl (by kernel_rfl) (by kernel_rfl) h

/-- spec.l1DrawNum -/
def k77 : KC :=
  (.seq
   (.ops [⟨some 2, none, (.assign (.const (.int .i64 0)))⟩])
   (.seq
    (.seq
     (.ops [⟨some 3, none, (.move (.tmp 0))⟩,
       ⟨some 4, none, (.call ⟨(.value (.func 52)), #[(.tmp 3), (.const (.int .i64 12))], #[52, 3]⟩)⟩])
     (.cond (.tmp 4)
      (.seq
       (.ops [⟨some 5, none, (.move (.tmp 0))⟩,
         ⟨some 6, none, (.buildSlice 24 7 #[(0, (.const (.int .i64 1000000000000))), (1, (.const (.int .i64 (-1000000000000)))), (2, (.const (.int .i64 999999999999))), (3, (.const (.int .i64 1000000))), (4, (.const (.int .i64 (-1000000)))), (5, (.const (.int .i64 1000001))), (6, (.const (.int .i64 999999999999)))])⟩,
         ⟨some 7, none, (.call ⟨(.value (.func 46)), #[(.tmp 5), (.tmp 6)], #[52, 24]⟩)⟩,
         ⟨some 2, none, (.assign (.tmp 7))⟩])
       .ret)
      .skip))
    (.seq
     (.ops [⟨some 8, none, (.move (.tmp 0))⟩,
       ⟨some 9, none, (.call ⟨(.value (.func 47)), #[(.tmp 8), (.const (.int .i64 20))], #[52, 3]⟩)⟩,
       ⟨some 10, none, (.binOp .sub 3 (.tmp 9) (.const (.int .i64 6)) 3)⟩,
       ⟨some 2, none, (.assign (.tmp 10))⟩])
     .ret)))
theorem w77 {args : Array Value} {H : AH} {Φ : Value → AH → Prop} (h : rW Try.prog k77 [] (fin Try.prog [(.tmp 2)] Φ) (tm0 args) H) : CallsA Try.prog 77 args H Φ :=
  CallsA.w k77 [(.tmp 2)] (fun _ => []) Try.func77 rfl rfl (by kernel_rfl) (by kernel_rfl) h

/-- spec.l3Fill -/
def k53 : KC :=
  (.seq
   (.ops [⟨some 4, none, (.alloc 26)⟩])
   (.seq
    (.ops [⟨some 7, none, (.buildSlice 24 0 #[])⟩,
      ⟨some 8, none, (.move (.tmp 1))⟩,
      ⟨some 9, none, (.call ⟨(.builtin .append), #[(.tmp 7), (.tmp 8)], #[24, 24]⟩)⟩,
      ⟨some 10, none, (.build 26 #[(0, (.tmp 9))])⟩,
      ⟨some 5, none, (.alloc 26)⟩,
      ⟨none, none, (.store 26 (.tmp 5) (.tmp 10))⟩])
    (.seq
     (.seq
      (.ops [⟨some 6, none, (.assign (.const (.int .i64 0)))⟩])
      (.block 0
       (.loop
        (.seq
         (.seq
          (.ops [⟨some 11, none, (.move (.tmp 6))⟩,
            ⟨some 12, none, (.move (.tmp 1))⟩,
            ⟨some 13, none, (.call ⟨(.value (.func 68)), #[(.tmp 12)], #[24]⟩)⟩,
            ⟨some 14, none, (.binOp .lss 3 (.tmp 11) (.tmp 13) 3)⟩])
          (.cond (.tmp 14)
           .skip
           (.exit 0)))
         (.seq
          (.block 1
           (.draw #[] [(1, 0), (1, 4)]
             [⟨some 17, none, (.fieldAddr 26 (.tmp 5) 1)⟩,
             ⟨some 18, none, (.load 24 (.tmp 17))⟩,
             ⟨some 19, none, (.move (.tmp 0))⟩,
             ⟨some 20, none, (.call ⟨(.value (.func 77)), #[(.tmp 19)], #[52]⟩)⟩,
             ⟨some 21, none, (.buildSlice 24 1 #[(0, (.tmp 20))])⟩,
             ⟨some 22, none, (.call ⟨(.builtin .append), #[(.tmp 18), (.tmp 21)], #[24, 24]⟩)⟩,
             ⟨some 23, none, (.fieldAddr 26 (.tmp 5) 1)⟩,
             ⟨none, none, (.store 24 (.tmp 23) (.tmp 22))⟩]))
          (.ops [⟨some 15, none, (.move (.tmp 6))⟩,
            ⟨some 16, none, (.binOp .add 3 (.tmp 15) (.const (.int .i64 1)) 3)⟩,
            ⟨some 6, none, (.assign (.tmp 16))⟩]))))))
     (.seq
      (.ops [⟨some 24, none, (.load 26 (.tmp 5))⟩,
        ⟨none, none, (.store 26 (.tmp 4) (.tmp 24))⟩])
      .ret))))
theorem w53 {args : Array Value} {H : AH} {Φ : Value → AH → Prop} (h : rW Try.prog k53 [] (fin Try.prog [(.cell 4 26)] Φ) (tm0 args) H) : CallsA Try.prog 53 args H Φ :=
  CallsA.w k53 [(.cell 4 26)] (fun i => if i = 5 then [(1, 0), (1, 4)] else []) Try.func53 rfl rfl (by kernel_rfl) (by kernel_rfl) h

/-- spec.l2DrawRight -/
def k101 : KC :=
  (.seq
   (.ops [⟨some 2, none, (.assign (.const (.slice none 0 0)))⟩])
   (.seq
    (.seq
     (.ops [⟨some 3, none, (.move (.tmp 0))⟩,
       ⟨some 4, none, (.call ⟨(.value (.func 47)), #[(.tmp 3), (.const (.int .i64 5))], #[52, 3]⟩)⟩])
     (.block 0
      (.seq
       (.ops [⟨some 6, none, (.binOp .eql 3 (.tmp 4) (.const (.int .i64 0)) 3)⟩,
         ⟨some 5, none, (.assign (.tmp 6))⟩])
       (.cond (.tmp 5)
        (.seq
         (.ops [⟨some 7, none, (.buildSlice 24 0 #[])⟩,
           ⟨some 2, none, (.assign (.tmp 7))⟩])
         .ret)
        (.seq
         (.seq
          (.ops [⟨some 9, none, (.binOp .eql 3 (.tmp 4) (.const (.int .i64 1)) 3)⟩,
            ⟨some 8, none, (.assign (.tmp 9))⟩])
          (.cond (.tmp 8)
           .skip
           (.ops [⟨some 10, none, (.binOp .eql 3 (.tmp 4) (.const (.int .i64 2)) 3)⟩,
             ⟨some 8, none, (.assign (.tmp 10))⟩])))
         (.cond (.tmp 8)
          (.seq
           (.ops [⟨some 11, none, (.move (.tmp 0))⟩,
             ⟨some 12, none, (.call ⟨(.value (.func 47)), #[(.tmp 11), (.const (.int .i64 6))], #[52, 3]⟩)⟩,
             ⟨some 13, none, (.buildSlice 24 1 #[(0, (.tmp 12))])⟩,
             ⟨some 2, none, (.assign (.tmp 13))⟩])
           .ret)
          (.seq
           (.ops [⟨some 15, none, (.binOp .eql 3 (.tmp 4) (.const (.int .i64 3)) 3)⟩,
             ⟨some 14, none, (.assign (.tmp 15))⟩])
           (.cond (.tmp 14)
            (.seq
             (.ops [⟨some 16, none, (.move (.tmp 0))⟩,
               ⟨some 17, none, (.call ⟨(.value (.func 47)), #[(.tmp 16), (.const (.int .i64 4))], #[52, 3]⟩)⟩,
               ⟨some 18, none, (.move (.tmp 0))⟩,
               ⟨some 19, none, (.call ⟨(.value (.func 47)), #[(.tmp 18), (.const (.int .i64 3))], #[52, 3]⟩)⟩,
               ⟨some 20, none, (.binOp .add 3 (.const (.int .i64 1)) (.tmp 19) 3)⟩,
               ⟨some 21, none, (.buildSlice 24 2 #[(0, (.tmp 17)), (1, (.tmp 20))])⟩,
               ⟨some 2, none, (.assign (.tmp 21))⟩])
             .ret)
            .skip))))))))
    (.seq
     (.ops [⟨some 22, none, (.move (.tmp 0))⟩,
       ⟨some 23, none, (.call ⟨(.value (.func 47)), #[(.tmp 22), (.const (.int .i64 3))], #[52, 3]⟩)⟩,
       ⟨some 24, none, (.binOp .add 3 (.const (.int .i64 1)) (.tmp 23) 3)⟩,
       ⟨some 25, none, (.move (.tmp 0))⟩,
       ⟨some 26, none, (.call ⟨(.value (.func 47)), #[(.tmp 25), (.const (.int .i64 2))], #[52, 3]⟩)⟩,
       ⟨some 27, none, (.binOp .add 3 (.const (.int .i64 1)) (.tmp 26) 3)⟩,
       ⟨some 28, none, (.move (.tmp 0))⟩,
       ⟨some 29, none, (.call ⟨(.value (.func 47)), #[(.tmp 28), (.const (.int .i64 4))], #[52, 3]⟩)⟩,
       ⟨some 30, none, (.buildSlice 24 3 #[(0, (.tmp 24)), (1, (.tmp 27)), (2, (.tmp 29))])⟩,
       ⟨some 2, none, (.assign (.tmp 30))⟩])
     .ret)))
theorem w101 {args : Array Value} {H : AH} {Φ : Value → AH → Prop} (h : rW Try.prog k101 [] (fin Try.prog [(.tmp 2)] Φ) (tm0 args) H) : CallsA Try.prog 101 args H Φ :=
  CallsA.w k101 [(.tmp 2)] (fun _ => []) Try.func101 rfl rfl (by kernel_rfl) (by kernel_rfl) h

/-- spec.l3DrawRight -/
def k61 : KC :=
  (.seq
   (.ops [⟨some 2, none, (.alloc 26)⟩])
   (.seq
    (.ops [⟨some 3, none, (.move (.tmp 0))⟩,
      ⟨some 4, none, (.move (.tmp 0))⟩,
      ⟨some 5, none, (.call ⟨(.value (.func 101)), #[(.tmp 4)], #[52]⟩)⟩,
      ⟨some 6, none, (.call ⟨(.value (.func 53)), #[(.tmp 3), (.tmp 5)], #[52, 24]⟩)⟩,
      ⟨none, none, (.store 26 (.tmp 2) (.tmp 6))⟩])
    .ret))
theorem w61 {args : Array Value} {H : AH} {Φ : Value → AH → Prop} (h : rW Try.prog k61 [] (fin Try.prog [(.cell 2 26)] Φ) (tm0 args) H) : CallsA Try.prog 61 args H Φ :=
  CallsA.w k61 [(.cell 2 26)] (fun _ => []) Try.func61 rfl rfl (by kernel_rfl) (by kernel_rfl) h

/-- spec.l2Draw -/
def k62 : KC :=
  (.seq
   (.ops [⟨some 2, none, (.assign (.const (.slice none 0 0)))⟩])
   (.seq
    (.ops [⟨some 4, none, (.move (.tmp 0))⟩,
      ⟨some 5, none, (.call ⟨(.value (.func 101)), #[(.tmp 4)], #[52]⟩)⟩,
      ⟨some 3, none, (.assign (.tmp 5))⟩])
    (.seq
     (.seq
      (.ops [⟨some 6, none, (.move (.tmp 0))⟩,
        ⟨some 7, none, (.call ⟨(.value (.func 47)), #[(.tmp 6), (.const (.int .i64 20))], #[52, 3]⟩)⟩])
      (.block 0
       (.seq
        (.ops [⟨some 9, none, (.binOp .eql 3 (.tmp 7) (.const (.int .i64 0)) 3)⟩,
          ⟨some 8, none, (.assign (.tmp 9))⟩])
        (.cond (.tmp 8)
         (.ops [⟨some 10, none, (.move (.tmp 3))⟩,
           ⟨some 11, none, (.move (.tmp 0))⟩,
           ⟨some 12, none, (.buildSlice 24 4 #[(0, (.const (.int .i64 (-1)))), (1, (.const (.int .i64 0))), (2, (.const (.int .i64 300))), (3, (.const (.int .i64 301)))])⟩,
           ⟨some 13, none, (.call ⟨(.value (.func 46)), #[(.tmp 11), (.tmp 12)], #[52, 24]⟩)⟩,
           ⟨some 14, none, (.buildSlice 24 1 #[(0, (.tmp 13))])⟩,
           ⟨some 15, none, (.call ⟨(.builtin .append), #[(.tmp 10), (.tmp 14)], #[24, 24]⟩)⟩,
           ⟨some 3, none, (.assign (.tmp 15))⟩])
         (.seq
          (.ops [⟨some 17, none, (.binOp .eql 3 (.tmp 7) (.const (.int .i64 1)) 3)⟩,
            ⟨some 16, none, (.assign (.tmp 17))⟩])
          (.cond (.tmp 16)
           (.ops [⟨some 18, none, (.buildSlice 24 4 #[(0, (.const (.int .i64 1))), (1, (.const (.int .i64 1))), (2, (.const (.int .i64 1))), (3, (.const (.int .i64 1)))])⟩,
             ⟨some 3, none, (.assign (.tmp 18))⟩])
           (.seq
            (.ops [⟨some 20, none, (.binOp .eql 3 (.tmp 7) (.const (.int .i64 2)) 3)⟩,
              ⟨some 19, none, (.assign (.tmp 20))⟩])
            (.cond (.tmp 19)
             (.ops [⟨some 21, none, (.move (.tmp 0))⟩,
               ⟨some 22, none, (.buildSlice 24 4 #[(0, (.const (.int .i64 17))), (1, (.const (.int .i64 20))), (2, (.const (.int .i64 15))), (3, (.const (.int .i64 300)))])⟩,
               ⟨some 23, none, (.call ⟨(.value (.func 46)), #[(.tmp 21), (.tmp 22)], #[52, 24]⟩)⟩,
               ⟨some 24, none, (.move (.tmp 0))⟩,
               ⟨some 25, none, (.buildSlice 24 4 #[(0, (.const (.int .i64 15))), (1, (.const (.int .i64 20))), (2, (.const (.int .i64 16))), (3, (.const (.int .i64 0)))])⟩,
               ⟨some 26, none, (.call ⟨(.value (.func 46)), #[(.tmp 24), (.tmp 25)], #[52, 24]⟩)⟩,
               ⟨some 27, none, (.buildSlice 24 2 #[(0, (.tmp 23)), (1, (.tmp 26))])⟩,
               ⟨some 3, none, (.assign (.tmp 27))⟩])
             .skip))))))))
     (.seq
      (.ops [⟨some 28, none, (.move (.tmp 3))⟩,
        ⟨some 2, none, (.assign (.tmp 28))⟩])
      .ret))))
theorem w62 {args : Array Value} {H : AH} {Φ : Value → AH → Prop} (h : rW Try.prog k62 [] (fin Try.prog [(.tmp 2)] Φ) (tm0 args) H) : CallsA Try.prog 62 args H Φ :=
  CallsA.w k62 [(.tmp 2)] (fun _ => []) Try.func62 rfl rfl (by kernel_rfl) (by kernel_rfl) h

/-- spec.l1DrawRaw -/
def k63 : KC :=
  (.seq
   (.ops [⟨some 2, none, (.assign (.const (.int .i64 0)))⟩])
   (.seq
    (.seq
     (.ops [⟨some 3, none, (.move (.tmp 0))⟩,
       ⟨some 4, none, (.call ⟨(.value (.func 52)), #[(.tmp 3), (.const (.int .i64 15))], #[52, 3]⟩)⟩])
     (.cond (.tmp 4)
      (.seq
       (.ops [⟨some 5, none, (.move (.tmp 0))⟩,
         ⟨some 6, none, (.buildSlice 24 4 #[(0, (.const (.int .i64 1000000000001))), (1, (.const (.int .i64 (-1000000000001)))), (2, (.const (.int .i64 9223372036854775807))), (3, (.const (.int .i64 (-9223372036854775808))))])⟩,
         ⟨some 7, none, (.call ⟨(.value (.func 46)), #[(.tmp 5), (.tmp 6)], #[52, 24]⟩)⟩,
         ⟨some 2, none, (.assign (.tmp 7))⟩])
       .ret)
      .skip))
    (.seq
     (.ops [⟨some 8, none, (.move (.tmp 0))⟩,
       ⟨some 9, none, (.call ⟨(.value (.func 77)), #[(.tmp 8)], #[52]⟩)⟩,
       ⟨some 2, none, (.assign (.tmp 9))⟩])
     .ret)))
theorem w63 {args : Array Value} {H : AH} {Φ : Value → AH → Prop} (h : rW Try.prog k63 [] (fin Try.prog [(.tmp 2)] Φ) (tm0 args) H) : CallsA Try.prog 63 args H Φ :=
  CallsA.w k63 [(.tmp 2)] (fun _ => []) Try.func63 rfl rfl (by kernel_rfl) (by kernel_rfl) h

/-- spec.l3Draw -/
def k26 : KC :=
  (.seq
   (.ops [⟨some 2, none, (.alloc 26)⟩])
   (.seq
    (.ops [⟨some 4, none, (.move (.tmp 0))⟩,
      ⟨some 5, none, (.call ⟨(.value (.func 61)), #[(.tmp 4)], #[52]⟩)⟩,
      ⟨some 3, none, (.alloc 26)⟩,
      ⟨none, none, (.store 26 (.tmp 3) (.tmp 5))⟩])
    (.seq
     (.seq
      (.ops [⟨some 6, none, (.move (.tmp 0))⟩,
        ⟨some 7, none, (.call ⟨(.value (.func 47)), #[(.tmp 6), (.const (.int .i64 20))], #[52, 3]⟩)⟩])
      (.block 0
       (.seq
        (.ops [⟨some 9, none, (.binOp .eql 3 (.tmp 7) (.const (.int .i64 0)) 3)⟩,
          ⟨some 8, none, (.assign (.tmp 9))⟩])
        (.cond (.tmp 8)
         (.ops [⟨some 10, none, (.fieldAddr 26 (.tmp 3) 1)⟩,
           ⟨some 11, none, (.load 24 (.tmp 10))⟩,
           ⟨some 12, none, (.buildSlice 24 1 #[(0, (.const (.int .i64 1)))])⟩,
           ⟨some 13, none, (.call ⟨(.builtin .append), #[(.tmp 11), (.tmp 12)], #[24, 24]⟩)⟩,
           ⟨some 14, none, (.fieldAddr 26 (.tmp 3) 1)⟩,
           ⟨none, none, (.store 24 (.tmp 14) (.tmp 13))⟩])
         (.seq
          (.ops [⟨some 16, none, (.binOp .eql 3 (.tmp 7) (.const (.int .i64 1)) 3)⟩,
            ⟨some 15, none, (.assign (.tmp 16))⟩])
          (.cond (.tmp 15)
           (.ops [⟨some 17, none, (.move (.tmp 0))⟩,
             ⟨some 18, none, (.call ⟨(.value (.func 62)), #[(.tmp 17)], #[52]⟩)⟩,
             ⟨some 19, none, (.fieldAddr 26 (.tmp 3) 0)⟩,
             ⟨none, none, (.store 24 (.tmp 19) (.tmp 18))⟩])
           (.seq
            (.ops [⟨some 21, none, (.binOp .eql 3 (.tmp 7) (.const (.int .i64 2)) 3)⟩,
              ⟨some 20, none, (.assign (.tmp 21))⟩])
            (.cond (.tmp 20)
             (.seq
              (.ops [⟨some 22, none, (.fieldAddr 26 (.tmp 3) 1)⟩,
                ⟨some 23, none, (.load 24 (.tmp 22))⟩,
                ⟨some 24, none, (.call ⟨(.builtin .len), #[(.tmp 23)], #[24]⟩)⟩,
                ⟨some 25, none, (.binOp .gtr 3 (.tmp 24) (.const (.int .i64 0)) 3)⟩])
              (.cond (.tmp 25)
               (.draw #[] [(1, 0), (1, 7), (1, 9), (4, 0)]
                 [⟨some 26, none, (.fieldAddr 26 (.tmp 3) 1)⟩,
                 ⟨some 27, none, (.load 24 (.tmp 26))⟩,
                 ⟨some 28, none, (.move (.tmp 0))⟩,
                 ⟨some 29, none, (.fieldAddr 26 (.tmp 3) 1)⟩,
                 ⟨some 30, none, (.load 24 (.tmp 29))⟩,
                 ⟨some 31, none, (.call ⟨(.builtin .len), #[(.tmp 30)], #[24]⟩)⟩,
                 ⟨some 32, none, (.call ⟨(.value (.func 47)), #[(.tmp 28), (.tmp 31)], #[52, 3]⟩)⟩,
                 ⟨some 33, none, (.move (.tmp 0))⟩,
                 ⟨some 34, none, (.call ⟨(.value (.func 63)), #[(.tmp 33)], #[52]⟩)⟩,
                 ⟨some 35, none, (.indexAddr 24 (.tmp 27) (.tmp 32))⟩,
                 ⟨none, none, (.store 3 (.tmp 35) (.tmp 34))⟩])
               .skip))
             (.seq
              (.ops [⟨some 37, none, (.binOp .eql 3 (.tmp 7) (.const (.int .i64 3)) 3)⟩,
                ⟨some 36, none, (.assign (.tmp 37))⟩])
              (.cond (.tmp 36)
               (.ops [⟨some 38, none, (.buildSlice 24 1 #[(0, (.const (.int .i64 300)))])⟩,
                 ⟨some 39, none, (.move (.tmp 0))⟩,
                 ⟨some 40, none, (.call ⟨(.value (.func 47)), #[(.tmp 39), (.const (.int .i64 2))], #[52, 3]⟩)⟩,
                 ⟨some 41, none, (.binOp .add 3 (.const (.int .i64 300)) (.tmp 40) 3)⟩,
                 ⟨some 42, none, (.makeSlice 24 (.tmp 41) (.tmp 41))⟩,
                 ⟨some 43, none, (.build 26 #[(0, (.tmp 38)), (1, (.tmp 42))])⟩,
                 ⟨none, none, (.store 26 (.tmp 3) (.tmp 43))⟩])
               .skip))))))))))
     (.seq
      (.ops [⟨some 44, none, (.load 26 (.tmp 3))⟩,
        ⟨none, none, (.store 26 (.tmp 2) (.tmp 44))⟩])
      .ret))))
theorem w26 {args : Array Value} {H : AH} {Φ : Value → AH → Prop} (h : rW Try.prog k26 [] (fin Try.prog [(.cell 2 26)] Φ) (tm0 args) H) : CallsA Try.prog 26 args H Φ :=
  CallsA.w k26 [(.cell 2 26)] (fun i => if i = 9 then [(1, 0), (1, 7), (1, 9), (4, 0)] else []) Try.func26 rfl rfl (by kernel_rfl) (by kernel_rfl) h

/-- spec.l1New -/
def k27 : KC :=
  (.seq
   (.ops [⟨some 2, none, (.assign (.const (.pointer none)))⟩])
   (.seq
    (.ops [⟨some 5, none, (.move (.tmp 0))⟩,
      ⟨some 6, none, (.call ⟨(.builtin .len), #[(.tmp 5)], #[22]⟩)⟩,
      ⟨some 7, none, (.binOp .add 3 (.const (.int .i64 18218)) (.tmp 6) 3)⟩,
      ⟨some 3, none, (.assign (.tmp 7))⟩])
    (.seq
     (.seq
      (.ops [⟨some 4, none, (.assign (.const (.int .i64 0)))⟩])
      (.block 0
       (.loop
        (.seq
         (.seq
          (.ops [⟨some 8, none, (.move (.tmp 4))⟩,
            ⟨some 9, none, (.move (.tmp 0))⟩,
            ⟨some 10, none, (.call ⟨(.builtin .len), #[(.tmp 9)], #[22]⟩)⟩,
            ⟨some 11, none, (.binOp .lss 3 (.tmp 8) (.tmp 10) 3)⟩,
            ⟨some 12, none, (.move (.tmp 11))⟩,
            ⟨some 13, (some (12, true)), (.move (.tmp 4))⟩,
            ⟨some 14, (some (12, true)), (.binOp .lss 3 (.tmp 13) (.const (.int .i64 4000)) 3)⟩,
            ⟨some 15, none, (.pick (.tmp 12) (.tmp 14) (.const (.bool false)))⟩])
          (.cond (.tmp 15)
           .skip
           (.exit 0)))
         (.seq
          (.block 1
           (.ops [⟨some 18, none, (.move (.tmp 3))⟩,
             ⟨some 19, none, (.binOp .mul 3 (.tmp 18) (.const (.int .i64 131)) 3)⟩,
             ⟨some 20, none, (.move (.tmp 0))⟩,
             ⟨some 21, none, (.move (.tmp 4))⟩,
             ⟨some 22, none, (.indexAddr 22 (.tmp 20) (.tmp 21))⟩,
             ⟨some 23, none, (.load 5 (.tmp 22))⟩,
             ⟨some 24, none, (.convert 5 3 (.tmp 23))⟩,
             ⟨some 25, none, (.binOp .add 3 (.tmp 19) (.tmp 24) 3)⟩,
             ⟨some 26, none, (.binOp .add 3 (.tmp 25) (.const (.int .i64 7)) 3)⟩,
             ⟨some 27, none, (.binOp .and 3 (.tmp 26) (.const (.int .i64 1073741823)) 3)⟩,
             ⟨some 3, none, (.assign (.tmp 27))⟩]))
          (.ops [⟨some 16, none, (.move (.tmp 4))⟩,
            ⟨some 17, none, (.binOp .add 3 (.tmp 16) (.const (.int .i64 1)) 3)⟩,
            ⟨some 4, none, (.assign (.tmp 17))⟩]))))))
     (.seq
      (.ops [⟨some 28, none, (.move (.tmp 0))⟩,
        ⟨some 29, none, (.move (.tmp 3))⟩,
        ⟨some 30, none, (.build 85 #[(0, (.tmp 28)), (2, (.tmp 29))])⟩,
        ⟨some 31, none, (.box 85 (.tmp 30))⟩,
        ⟨some 2, none, (.assign (.tmp 31))⟩])
      .ret))))
theorem w27 {args : Array Value} {H : AH} {Φ : Value → AH → Prop} (h : rW Try.prog k27 [] (fin Try.prog [(.tmp 2)] Φ) (tm0 args) H) : CallsA Try.prog 27 args H Φ :=
  CallsA.w k27 [(.tmp 2)] (fun _ => []) Try.func27 rfl rfl (by kernel_rfl) (by kernel_rfl) h

/-- spec.DrawFlip -/
def k8 : KC :=
  (.seq
   (.ops [⟨some 2, none, (.alloc 26)⟩])
   (.seq
    (.ops [⟨some 3, none, (.move (.tmp 0))⟩,
      ⟨some 4, none, (.call ⟨(.value (.func 27)), #[(.tmp 3)], #[22]⟩)⟩,
      ⟨some 5, none, (.call ⟨(.value (.func 26)), #[(.tmp 4)], #[52]⟩)⟩,
      ⟨none, none, (.store 26 (.tmp 2) (.tmp 5))⟩])
    .ret))
theorem w8 {args : Array Value} {H : AH} {Φ : Value → AH → Prop} (h : rW Try.prog k8 [] (fin Try.prog [(.cell 2 26)] Φ) (tm0 args) H) : CallsA Try.prog 8 args H Φ :=
  CallsA.w k8 [(.cell 2 26)] (fun _ => []) Try.func8 rfl rfl (by kernel_rfl) (by kernel_rfl) h

/-- impl.within -/
def k43 : KC :=
  (.seq
   (.ops [⟨some 6, none, (.assign (.const (.bool false)))⟩])
   (.seq
    (.ops [⟨some 7, none, (.move (.tmp 0))⟩,
      ⟨some 8, none, (.move (.tmp 1))⟩,
      ⟨some 9, none, (.binOp .geq 3 (.tmp 7) (.tmp 8) 3)⟩,
      ⟨some 10, none, (.move (.tmp 9))⟩,
      ⟨some 11, (some (10, true)), (.move (.tmp 0))⟩,
      ⟨some 12, (some (10, true)), (.move (.tmp 2))⟩,
      ⟨some 13, (some (10, true)), (.binOp .leq 3 (.tmp 11) (.tmp 12) 3)⟩,
      ⟨some 14, none, (.pick (.tmp 10) (.tmp 13) (.const (.bool false)))⟩,
      ⟨some 6, none, (.assign (.tmp 14))⟩])
    .ret))
theorem w43 {args : Array Value} {H : AH} {Φ : Value → AH → Prop} (h : rW Try.prog k43 [] (fin Try.prog [(.tmp 6)] Φ) (tm0 args) H) : CallsA Try.prog 43 args H Φ :=
  CallsA.w k43 [(.tmp 6)] (fun _ => []) Try.func43 rfl rfl (by kernel_rfl) (by kernel_rfl) h

/-- impl.SizeOf -/
def k64 : KC :=
  (.seq
   (.ops [⟨some 2, none, (.assign (.const (.int .i64 0)))⟩])
   (.seq
    (.seq
     (.ops [⟨some 6, none, (.move (.tmp 0))⟩,
       ⟨some 7, none, (.call ⟨(.builtin .len), #[(.tmp 6)], #[24]⟩)⟩,
       ⟨some 8, none, (.binOp .gtr 3 (.tmp 7) (.const (.int .i64 3)) 3)⟩])
     (.cond (.tmp 8)
      (.seq
       (.ops [⟨some 2, none, (.assign (.const (.int .i64 (-1))))⟩])
       .ret)
      .skip))
    (.seq
     (.ops [⟨some 3, none, (.assign (.const (.int .i64 1)))⟩])
     (.seq
      (.seq
       (.ops [⟨some 9, none, (.move (.tmp 0))⟩,
         ⟨some 10, none, (.call ⟨(.builtin .len), #[(.tmp 9)], #[24]⟩)⟩,
         ⟨some 11, none, (.move (.const (.int .i64 0)))⟩])
       (.block 0
        (.loop
         (.seq
          (.ops [⟨some 12, none, (.binOp .lss 3 (.tmp 11) (.tmp 10) 3)⟩])
          (.seq
           (.cond (.tmp 12)
            .skip
            (.exit 0))
           (.seq
            (.block 1
             (.seq
              (.ops [⟨some 13, none, (.indexAddr 24 (.tmp 9) (.tmp 11))⟩,
                ⟨some 14, none, (.load 3 (.tmp 13))⟩,
                ⟨some 5, none, (.assign (.tmp 14))⟩])
              (.seq
               (.seq
                (.ops [⟨some 15, none, (.move (.tmp 5))⟩,
                  ⟨some 16, none, (.call ⟨(.value (.func 43)), #[(.tmp 15), (.const (.int .i64 0)), (.const (.int .i64 300))], #[3, 3, 3]⟩)⟩,
                  ⟨some 17, none, (.unOp .not 4 (.tmp 16))⟩])
                (.cond (.tmp 17)
                 (.seq
                  (.ops [⟨some 2, none, (.assign (.const (.int .i64 (-1))))⟩])
                  .ret)
                 .skip))
               (.ops [⟨some 18, none, (.move (.tmp 3))⟩,
                 ⟨some 19, none, (.move (.tmp 5))⟩,
                 ⟨some 20, none, (.binOp .mul 3 (.tmp 18) (.tmp 19) 3)⟩,
                 ⟨some 3, none, (.assign (.tmp 20))⟩]))))
            (.ops [⟨some 21, none, (.binOp .add 3 (.tmp 11) (.const (.int .i64 1)) 3)⟩,
              ⟨some 11, none, (.move (.tmp 21))⟩])))))))
      (.seq
       (.seq
        (.ops [⟨some 22, none, (.move (.tmp 3))⟩,
          ⟨some 23, none, (.binOp .gtr 3 (.tmp 22) (.const (.int .i64 300)) 3)⟩])
        (.cond (.tmp 23)
         (.seq
          (.ops [⟨some 2, none, (.assign (.const (.int .i64 (-1))))⟩])
          .ret)
         .skip))
       (.seq
        (.ops [⟨some 24, none, (.move (.tmp 3))⟩,
          ⟨some 2, none, (.assign (.tmp 24))⟩])
        .ret))))))
theorem w64 {args : Array Value} {H : AH} {Φ : Value → AH → Prop} (h : rW Try.prog k64 [] (fin Try.prog [(.tmp 2)] Φ) (tm0 args) H) : CallsA Try.prog 64 args H Φ :=
  CallsA.w k64 [(.tmp 2)] (fun _ => []) Try.func64 rfl rfl (by kernel_rfl) (by kernel_rfl) h

/-- slices.IndexFunc[[]int,int] -/
def k102 : KC :=
  (.seq
   (.ops [⟨some 4, none, (.assign (.const (.int .i64 0)))⟩])
   (.seq
    (.seq
     (.ops [⟨some 6, none, (.move (.tmp 0))⟩,
       ⟨some 7, none, (.call ⟨(.builtin .len), #[(.tmp 6)], #[24]⟩)⟩,
       ⟨some 8, none, (.move (.const (.int .i64 0)))⟩])
     (.block 0
      (.loop
       (.seq
        (.ops [⟨some 9, none, (.binOp .lss 3 (.tmp 8) (.tmp 7) 3)⟩])
        (.seq
         (.cond (.tmp 9)
          .skip
          (.exit 0))
         (.seq
          (.block 1
           (.seq
            (.ops [⟨some 10, none, (.move (.tmp 8))⟩,
              ⟨some 5, none, (.assign (.tmp 10))⟩])
            (.seq
             (.ops [⟨some 11, none, (.move (.tmp 1))⟩,
               ⟨some 12, none, (.move (.tmp 0))⟩,
               ⟨some 13, none, (.move (.tmp 5))⟩,
               ⟨some 14, none, (.indexAddr 24 (.tmp 12) (.tmp 13))⟩,
               ⟨some 15, none, (.load 3 (.tmp 14))⟩,
               ⟨some 16, none, (.call ⟨(.value (.tmp 11)), #[(.tmp 15)], #[3]⟩)⟩])
             (.cond (.tmp 16)
              (.seq
               (.ops [⟨some 17, none, (.move (.tmp 5))⟩,
                 ⟨some 4, none, (.assign (.tmp 17))⟩])
               .ret)
              .skip))))
          (.ops [⟨some 18, none, (.binOp .add 3 (.tmp 8) (.const (.int .i64 1)) 3)⟩,
            ⟨some 8, none, (.move (.tmp 18))⟩])))))))
    (.seq
     (.ops [⟨some 4, none, (.assign (.const (.int .i64 (-1))))⟩])
     .ret)))
theorem w102 {args : Array Value} {H : AH} {Φ : Value → AH → Prop} (h : rW Try.prog k102 [] (fin Try.prog [(.tmp 4)] Φ) (tm0 args) H) : CallsA Try.prog 102 args H Φ :=
  CallsA.w k102 [(.tmp 4)] (fun _ => []) Try.func102 rfl rfl (by kernel_rfl) (by kernel_rfl) h

/-- slices.ContainsFunc[[]int,int] -/
def k65 : KC :=
  (.seq
   (.ops [⟨some 4, none, (.assign (.const (.bool false)))⟩])
   (.seq
    (.ops [⟨some 5, none, (.move (.tmp 0))⟩,
      ⟨some 6, none, (.move (.tmp 1))⟩,
      ⟨some 7, none, (.call ⟨(.value (.func 102)), #[(.tmp 5), (.tmp 6)], #[24, 60]⟩)⟩,
      ⟨some 8, none, (.binOp .geq 3 (.tmp 7) (.const (.int .i64 0)) 3)⟩,
      ⟨some 4, none, (.assign (.tmp 8))⟩])
    .ret))
theorem w65 {args : Array Value} {H : AH} {Φ : Value → AH → Prop} (h : rW Try.prog k65 [] (fin Try.prog [(.tmp 4)] Φ) (tm0 args) H) : CallsA Try.prog 65 args H Φ :=
  CallsA.w k65 [(.tmp 4)] (fun _ => []) Try.func65 rfl rfl (by kernel_rfl) (by kernel_rfl) h

/-- impl.NumOk -/
def k37 : KC :=
  (.seq
   (.ops [⟨some 2, none, (.assign (.const (.bool false)))⟩])
   (.seq
    (.ops [⟨some 3, none, (.move (.tmp 0))⟩,
      ⟨some 4, none, (.call ⟨(.value (.func 43)), #[(.tmp 3), (.const (.int .i64 (-1000000000000))), (.const (.int .i64 1000000000000))], #[3, 3, 3]⟩)⟩,
      ⟨some 2, none, (.assign (.tmp 4))⟩])
    .ret))
theorem w37 {args : Array Value} {H : AH} {Φ : Value → AH → Prop} (h : rW Try.prog k37 [] (fin Try.prog [(.tmp 2)] Φ) (tm0 args) H) : CallsA Try.prog 37 args H Φ :=
  CallsA.w k37 [(.tmp 2)] (fun _ => []) Try.func37 rfl rfl (by kernel_rfl) (by kernel_rfl) h

/-- impl.ArrayOk$1 -/
def k66 : KC :=
  (.seq
   (.ops [⟨some 2, none, (.assign (.const (.bool false)))⟩])
   (.seq
    (.ops [⟨some 3, none, (.move (.tmp 0))⟩,
      ⟨some 4, none, (.call ⟨(.value (.func 37)), #[(.tmp 3)], #[3]⟩)⟩,
      ⟨some 5, none, (.unOp .not 4 (.tmp 4))⟩,
      ⟨some 2, none, (.assign (.tmp 5))⟩])
    .ret))
theorem w66 {args : Array Value} {H : AH} {Φ : Value → AH → Prop} (h : rW Try.prog k66 [] (fin Try.prog [(.tmp 2)] Φ) (tm0 args) H) : CallsA Try.prog 66 args H Φ :=
  CallsA.w k66 [(.tmp 2)] (fun _ => []) Try.func66 rfl rfl (by kernel_rfl) (by kernel_rfl) h

/-- impl.ArrayOk -/
def k28 : KC :=
  (.seq
   (.ops [⟨some 1, none, (.box 26 (.tmp 0))⟩,
     ⟨some 2, none, (.assign (.const (.bool false)))⟩])
   (.seq
    (.draw #[] [(1, 0), (1, 6), (4, 0), (9, 6)]
      [⟨some 3, none, (.fieldAddr 26 (.tmp 1) 1)⟩,
      ⟨some 4, none, (.load 24 (.tmp 3))⟩,
      ⟨some 5, none, (.call ⟨(.builtin .len), #[(.tmp 4)], #[24]⟩)⟩,
      ⟨some 6, none, (.fieldAddr 26 (.tmp 1) 0)⟩,
      ⟨some 7, none, (.load 24 (.tmp 6))⟩,
      ⟨some 8, none, (.call ⟨(.value (.func 64)), #[(.tmp 7)], #[24]⟩)⟩,
      ⟨some 9, none, (.binOp .eql 3 (.tmp 5) (.tmp 8) 3)⟩,
      ⟨some 10, none, (.move (.tmp 9))⟩,
      ⟨some 11, (some (10, true)), (.fieldAddr 26 (.tmp 1) 1)⟩,
      ⟨some 12, (some (10, true)), (.load 24 (.tmp 11))⟩,
      ⟨some 13, (some (10, true)), (.call ⟨(.value (.func 65)), #[(.tmp 12), (.func 66)], #[24, 60]⟩)⟩,
      ⟨some 14, (some (10, true)), (.unOp .not 4 (.tmp 13))⟩,
      ⟨some 15, none, (.pick (.tmp 10) (.tmp 14) (.const (.bool false)))⟩,
      ⟨some 2, none, (.assign (.tmp 15))⟩])
    .ret))
theorem w28 {args : Array Value} {H : AH} {Φ : Value → AH → Prop} (h : rW Try.prog k28 [] (fin Try.prog [(.tmp 2)] Φ) (tm0 args) H) : CallsA Try.prog 28 args H Φ :=
  CallsA.w k28 [(.tmp 2)] (fun i => if i = 1 then [(1, 0), (1, 6), (4, 0), (9, 6)] else []) Try.func28 rfl rfl (by kernel_rfl) (by kernel_rfl) h

/-- impl.copyArray -/
def k29 : KC :=
  (.seq
   (.ops [⟨some 1, none, (.box 26 (.tmp 0))⟩,
     ⟨some 2, none, (.alloc 26)⟩])
   (.seq
    (.draw #[] [(1, 0), (4, 0), (4, 3)]
      [⟨some 3, none, (.fieldAddr 26 (.tmp 1) 0)⟩,
      ⟨some 4, none, (.load 24 (.tmp 3))⟩,
      ⟨some 5, none, (.call ⟨(.builtin .append), #[(.const (.slice none 0 0)), (.tmp 4)], #[24, 24]⟩)⟩,
      ⟨some 6, none, (.fieldAddr 26 (.tmp 1) 1)⟩,
      ⟨some 7, none, (.load 24 (.tmp 6))⟩,
      ⟨some 8, none, (.call ⟨(.builtin .append), #[(.const (.slice none 0 0)), (.tmp 7)], #[24, 24]⟩)⟩,
      ⟨some 9, none, (.build 26 #[(0, (.tmp 5)), (1, (.tmp 8))])⟩,
      ⟨none, none, (.store 26 (.tmp 2) (.tmp 9))⟩])
    .ret))
theorem w29 {args : Array Value} {H : AH} {Φ : Value → AH → Prop} (h : rW Try.prog k29 [] (fin Try.prog [(.cell 2 26)] Φ) (tm0 args) H) : CallsA Try.prog 29 args H Φ :=
  CallsA.w k29 [(.cell 2 26)] (fun i => if i = 1 then [(1, 0), (4, 0), (4, 3)] else []) Try.func29 rfl rfl (by kernel_rfl) (by kernel_rfl) h

/-- slices.Reverse[[]int,int] -/
def k30 : KC :=
  (.seq
   (.ops [⟨some 4, none, (.move (.tmp 0))⟩,
     ⟨some 5, none, (.call ⟨(.builtin .len), #[(.tmp 4)], #[24]⟩)⟩,
     ⟨some 6, none, (.binOp .sub 3 (.tmp 5) (.const (.int .i64 1)) 3)⟩,
     ⟨some 2, none, (.assign (.const (.int .i64 0)))⟩,
     ⟨some 3, none, (.assign (.tmp 6))⟩])
   (.block 0
    (.loop
     (.seq
      (.seq
       (.ops [⟨some 7, none, (.move (.tmp 2))⟩,
         ⟨some 8, none, (.move (.tmp 3))⟩,
         ⟨some 9, none, (.binOp .lss 3 (.tmp 7) (.tmp 8) 3)⟩])
       (.cond (.tmp 9)
        .skip
        (.exit 0)))
      (.seq
       (.block 1
        (.draw #[] [(7, 0), (11, 0)]
          [⟨some 14, none, (.move (.tmp 0))⟩,
          ⟨some 15, none, (.move (.tmp 2))⟩,
          ⟨some 16, none, (.move (.tmp 0))⟩,
          ⟨some 17, none, (.move (.tmp 3))⟩,
          ⟨some 18, none, (.move (.tmp 0))⟩,
          ⟨some 19, none, (.move (.tmp 3))⟩,
          ⟨some 20, none, (.indexAddr 24 (.tmp 18) (.tmp 19))⟩,
          ⟨some 21, none, (.load 3 (.tmp 20))⟩,
          ⟨some 22, none, (.move (.tmp 0))⟩,
          ⟨some 23, none, (.move (.tmp 2))⟩,
          ⟨some 24, none, (.indexAddr 24 (.tmp 22) (.tmp 23))⟩,
          ⟨some 25, none, (.load 3 (.tmp 24))⟩,
          ⟨some 26, none, (.indexAddr 24 (.tmp 14) (.tmp 15))⟩,
          ⟨none, none, (.store 3 (.tmp 26) (.tmp 21))⟩,
          ⟨some 27, none, (.indexAddr 24 (.tmp 16) (.tmp 17))⟩,
          ⟨none, none, (.store 3 (.tmp 27) (.tmp 25))⟩]))
       (.ops [⟨some 10, none, (.move (.tmp 2))⟩,
         ⟨some 11, none, (.binOp .add 3 (.tmp 10) (.const (.int .i64 1)) 3)⟩,
         ⟨some 12, none, (.move (.tmp 3))⟩,
         ⟨some 13, none, (.binOp .sub 3 (.tmp 12) (.const (.int .i64 1)) 3)⟩,
         ⟨some 2, none, (.assign (.tmp 11))⟩,
         ⟨some 3, none, (.assign (.tmp 13))⟩]))))))
theorem w30 {args : Array Value} {H : AH} {Φ : Value → AH → Prop} (h : rW Try.prog k30 [] (fin Try.prog [] Φ) (tm0 args) H) : CallsA Try.prog 30 args H Φ :=
  CallsA.w k30 [] (fun i => if i = 3 then [(7, 0), (11, 0)] else []) Try.func30 rfl rfl (by kernel_rfl) (by kernel_rfl) h

/-- impl.IndexOf -/
def k31 : KC :=
  (.seq
   (.ops [⟨some 4, none, (.assign (.const (.slice none 0 0)))⟩])
   (.seq
    (.seq
     (.ops [⟨some 7, none, (.move (.tmp 1))⟩,
       ⟨some 8, none, (.move (.tmp 0))⟩,
       ⟨some 9, none, (.call ⟨(.value (.func 64)), #[(.tmp 8)], #[24]⟩)⟩,
       ⟨some 10, none, (.binOp .sub 3 (.tmp 9) (.const (.int .i64 1)) 3)⟩,
       ⟨some 11, none, (.call ⟨(.value (.func 43)), #[(.tmp 7), (.const (.int .i64 0)), (.tmp 10)], #[3, 3, 3]⟩)⟩,
       ⟨some 12, none, (.unOp .not 4 (.tmp 11))⟩])
     (.cond (.tmp 12)
      (.seq
       (.ops [⟨some 4, none, (.assign (.const (.slice none 0 0)))⟩])
       .ret)
      .skip))
    (.seq
     (.ops [⟨some 13, none, (.move (.tmp 0))⟩,
       ⟨some 14, none, (.call ⟨(.builtin .len), #[(.tmp 13)], #[24]⟩)⟩,
       ⟨some 15, none, (.makeSlice 24 (.tmp 14) (.tmp 14))⟩,
       ⟨some 5, none, (.assign (.tmp 15))⟩])
     (.seq
      (.seq
       (.ops [⟨some 16, none, (.move (.tmp 0))⟩,
         ⟨some 17, none, (.call ⟨(.builtin .len), #[(.tmp 16)], #[24]⟩)⟩,
         ⟨some 18, none, (.binOp .sub 3 (.tmp 17) (.const (.int .i64 1)) 3)⟩,
         ⟨some 6, none, (.assign (.tmp 18))⟩])
       (.block 0
        (.loop
         (.seq
          (.seq
           (.ops [⟨some 19, none, (.move (.tmp 6))⟩,
             ⟨some 20, none, (.binOp .geq 3 (.tmp 19) (.const (.int .i64 0)) 3)⟩])
           (.cond (.tmp 20)
            .skip
            (.exit 0)))
          (.seq
           (.block 1
            (.seq
             (.ops [⟨some 23, none, (.move (.tmp 5))⟩,
               ⟨some 24, none, (.move (.tmp 6))⟩,
               ⟨some 25, none, (.move (.tmp 1))⟩,
               ⟨some 26, none, (.move (.tmp 0))⟩,
               ⟨some 27, none, (.move (.tmp 6))⟩,
               ⟨some 28, none, (.indexAddr 24 (.tmp 26) (.tmp 27))⟩,
               ⟨some 29, none, (.load 3 (.tmp 28))⟩,
               ⟨some 30, none, (.binOp .rem 3 (.tmp 25) (.tmp 29) 3)⟩,
               ⟨some 31, none, (.indexAddr 24 (.tmp 23) (.tmp 24))⟩,
               ⟨none, none, (.store 3 (.tmp 31) (.tmp 30))⟩])
             (.ops [⟨some 32, none, (.move (.tmp 1))⟩,
               ⟨some 33, none, (.move (.tmp 0))⟩,
               ⟨some 34, none, (.move (.tmp 6))⟩,
               ⟨some 35, none, (.indexAddr 24 (.tmp 33) (.tmp 34))⟩,
               ⟨some 36, none, (.load 3 (.tmp 35))⟩,
               ⟨some 37, none, (.binOp .quo 3 (.tmp 32) (.tmp 36) 3)⟩,
               ⟨some 1, none, (.assign (.tmp 37))⟩])))
           (.ops [⟨some 21, none, (.move (.tmp 6))⟩,
             ⟨some 22, none, (.binOp .sub 3 (.tmp 21) (.const (.int .i64 1)) 3)⟩,
             ⟨some 6, none, (.assign (.tmp 22))⟩]))))))
      (.seq
       (.ops [⟨some 38, none, (.move (.tmp 5))⟩,
         ⟨some 4, none, (.assign (.tmp 38))⟩])
       .ret)))))
theorem w31 {args : Array Value} {H : AH} {Φ : Value → AH → Prop} (h : rW Try.prog k31 [] (fin Try.prog [(.tmp 4)] Φ) (tm0 args) H) : CallsA Try.prog 31 args H Φ :=
  CallsA.w k31 [(.tmp 4)] (fun _ => []) Try.func31 rfl rfl (by kernel_rfl) (by kernel_rfl) h

/-- impl.ShapeOk -/
def k67 : KC :=
  (.seq
   (.ops [⟨some 2, none, (.assign (.const (.bool false)))⟩])
   (.seq
    (.ops [⟨some 3, none, (.move (.tmp 0))⟩,
      ⟨some 4, none, (.call ⟨(.value (.func 64)), #[(.tmp 3)], #[24]⟩)⟩,
      ⟨some 5, none, (.binOp .geq 3 (.tmp 4) (.const (.int .i64 0)) 3)⟩,
      ⟨some 2, none, (.assign (.tmp 5))⟩])
    .ret))
theorem w67 {args : Array Value} {H : AH} {Φ : Value → AH → Prop} (h : rW Try.prog k67 [] (fin Try.prog [(.tmp 2)] Φ) (tm0 args) H) : CallsA Try.prog 67 args H Φ :=
  CallsA.w k67 [(.tmp 2)] (fun _ => []) Try.func67 rfl rfl (by kernel_rfl) (by kernel_rfl) h

/-- impl.PlaceOf -/
def k32 : KC :=
  (.seq
   (.ops [⟨some 4, none, (.assign (.const (.int .i64 0)))⟩])
   (.seq
    (.seq
     (.ops [⟨some 8, none, (.move (.tmp 0))⟩,
       ⟨some 9, none, (.call ⟨(.value (.func 67)), #[(.tmp 8)], #[24]⟩)⟩,
       ⟨some 10, none, (.unOp .not 4 (.tmp 9))⟩,
       ⟨some 11, none, (.move (.tmp 10))⟩,
       ⟨some 12, (some (11, false)), (.move (.tmp 1))⟩,
       ⟨some 13, (some (11, false)), (.call ⟨(.builtin .len), #[(.tmp 12)], #[24]⟩)⟩,
       ⟨some 14, (some (11, false)), (.move (.tmp 0))⟩,
       ⟨some 15, (some (11, false)), (.call ⟨(.builtin .len), #[(.tmp 14)], #[24]⟩)⟩,
       ⟨some 16, (some (11, false)), (.binOp .neq 3 (.tmp 13) (.tmp 15) 3)⟩,
       ⟨some 17, none, (.pick (.tmp 11) (.const (.bool true)) (.tmp 16))⟩])
     (.cond (.tmp 17)
      (.seq
       (.ops [⟨some 4, none, (.assign (.const (.int .i64 (-1))))⟩])
       .ret)
      .skip))
    (.seq
     (.ops [⟨some 5, none, (.assign (.const (.int .i64 0)))⟩])
     (.seq
      (.seq
       (.ops [⟨some 18, none, (.move (.tmp 0))⟩,
         ⟨some 19, none, (.call ⟨(.builtin .len), #[(.tmp 18)], #[24]⟩)⟩,
         ⟨some 20, none, (.move (.const (.int .i64 0)))⟩])
       (.block 0
        (.loop
         (.seq
          (.ops [⟨some 21, none, (.binOp .lss 3 (.tmp 20) (.tmp 19) 3)⟩])
          (.seq
           (.cond (.tmp 21)
            .skip
            (.exit 0))
           (.seq
            (.block 1
             (.seq
              (.ops [⟨some 22, none, (.move (.tmp 20))⟩,
                ⟨some 23, none, (.indexAddr 24 (.tmp 18) (.tmp 20))⟩,
                ⟨some 24, none, (.load 3 (.tmp 23))⟩,
                ⟨some 6, none, (.assign (.tmp 22))⟩,
                ⟨some 7, none, (.assign (.tmp 24))⟩])
              (.seq
               (.seq
                (.ops [⟨some 25, none, (.move (.tmp 1))⟩,
                  ⟨some 26, none, (.move (.tmp 6))⟩,
                  ⟨some 27, none, (.indexAddr 24 (.tmp 25) (.tmp 26))⟩,
                  ⟨some 28, none, (.load 3 (.tmp 27))⟩,
                  ⟨some 29, none, (.move (.tmp 7))⟩,
                  ⟨some 30, none, (.binOp .sub 3 (.tmp 29) (.const (.int .i64 1)) 3)⟩,
                  ⟨some 31, none, (.call ⟨(.value (.func 43)), #[(.tmp 28), (.const (.int .i64 0)), (.tmp 30)], #[3, 3, 3]⟩)⟩,
                  ⟨some 32, none, (.unOp .not 4 (.tmp 31))⟩])
                (.cond (.tmp 32)
                 (.seq
                  (.ops [⟨some 4, none, (.assign (.const (.int .i64 (-1))))⟩])
                  .ret)
                 .skip))
               (.ops [⟨some 33, none, (.move (.tmp 5))⟩,
                 ⟨some 34, none, (.move (.tmp 7))⟩,
                 ⟨some 35, none, (.binOp .mul 3 (.tmp 33) (.tmp 34) 3)⟩,
                 ⟨some 36, none, (.move (.tmp 1))⟩,
                 ⟨some 37, none, (.move (.tmp 6))⟩,
                 ⟨some 38, none, (.indexAddr 24 (.tmp 36) (.tmp 37))⟩,
                 ⟨some 39, none, (.load 3 (.tmp 38))⟩,
                 ⟨some 40, none, (.binOp .add 3 (.tmp 35) (.tmp 39) 3)⟩,
                 ⟨some 5, none, (.assign (.tmp 40))⟩]))))
            (.ops [⟨some 41, none, (.binOp .add 3 (.tmp 20) (.const (.int .i64 1)) 3)⟩,
              ⟨some 20, none, (.move (.tmp 41))⟩])))))))
      (.seq
       (.ops [⟨some 42, none, (.move (.tmp 5))⟩,
         ⟨some 4, none, (.assign (.tmp 42))⟩])
       .ret)))))
theorem w32 {args : Array Value} {H : AH} {Φ : Value → AH → Prop} (h : rW Try.prog k32 [] (fin Try.prog [(.tmp 4)] Φ) (tm0 args) H) : CallsA Try.prog 32 args H Φ :=
  CallsA.w k32 [(.tmp 4)] (fun _ => []) Try.func32 rfl rfl (by kernel_rfl) (by kernel_rfl) h

/-- impl.Flip -/
def k9 : KC :=
  (.seq
   (.ops [⟨some 1, none, (.box 26 (.tmp 0))⟩,
     ⟨some 2, none, (.alloc 26)⟩,
     ⟨some 3, none, (.assign (.const (.int .i64 0)))⟩])
   (.seq
    (.seq
     (.ops [⟨some 8, none, (.load 26 (.tmp 1))⟩,
       ⟨some 9, none, (.call ⟨(.value (.func 28)), #[(.tmp 8)], #[26]⟩)⟩,
       ⟨some 10, none, (.unOp .not 4 (.tmp 9))⟩])
     (.cond (.tmp 10)
      (.seq
       (.ops [⟨some 11, none, (.build 26 #[])⟩,
         ⟨none, none, (.store 26 (.tmp 2) (.tmp 11))⟩,
         ⟨some 3, none, (.assign (.const (.int .i64 1)))⟩])
       .ret)
      .skip))
    (.seq
     (.ops [⟨some 12, none, (.load 26 (.tmp 1))⟩,
       ⟨some 13, none, (.call ⟨(.value (.func 29)), #[(.tmp 12)], #[26]⟩)⟩,
       ⟨some 4, none, (.alloc 26)⟩,
       ⟨none, none, (.store 26 (.tmp 4) (.tmp 13))⟩])
     (.seq
      (.ops [⟨some 14, none, (.fieldAddr 26 (.tmp 4) 0)⟩,
        ⟨some 15, none, (.load 24 (.tmp 14))⟩,
        ⟨some 16, none, (.call ⟨(.value (.func 30)), #[(.tmp 15)], #[24]⟩)⟩])
      (.seq
       (.seq
        (.ops [⟨some 17, none, (.fieldAddr 26 (.tmp 1) 1)⟩,
          ⟨some 18, none, (.load 24 (.tmp 17))⟩,
          ⟨some 19, none, (.call ⟨(.builtin .len), #[(.tmp 18)], #[24]⟩)⟩,
          ⟨some 20, none, (.move (.const (.int .i64 0)))⟩])
        (.block 0
         (.loop
          (.seq
           (.ops [⟨some 21, none, (.binOp .lss 3 (.tmp 20) (.tmp 19) 3)⟩])
           (.seq
            (.cond (.tmp 21)
             .skip
             (.exit 0))
            (.seq
             (.block 1
              (.seq
               (.ops [⟨some 22, none, (.move (.tmp 20))⟩,
                 ⟨some 23, none, (.indexAddr 24 (.tmp 18) (.tmp 20))⟩,
                 ⟨some 24, none, (.load 3 (.tmp 23))⟩,
                 ⟨some 5, none, (.assign (.tmp 22))⟩,
                 ⟨some 6, none, (.assign (.tmp 24))⟩])
               (.seq
                (.ops [⟨some 25, none, (.fieldAddr 26 (.tmp 1) 0)⟩,
                  ⟨some 26, none, (.load 24 (.tmp 25))⟩,
                  ⟨some 27, none, (.move (.tmp 5))⟩,
                  ⟨some 28, none, (.call ⟨(.value (.func 31)), #[(.tmp 26), (.tmp 27)], #[24, 3]⟩)⟩,
                  ⟨some 7, none, (.assign (.tmp 28))⟩])
                (.seq
                 (.ops [⟨some 29, none, (.move (.tmp 7))⟩,
                   ⟨some 30, none, (.call ⟨(.value (.func 30)), #[(.tmp 29)], #[24]⟩)⟩])
                 (.draw #[] [(1, 0), (1, 6), (3, 0)]
                   [⟨some 31, none, (.fieldAddr 26 (.tmp 4) 1)⟩,
                   ⟨some 32, none, (.load 24 (.tmp 31))⟩,
                   ⟨some 33, none, (.fieldAddr 26 (.tmp 4) 0)⟩,
                   ⟨some 34, none, (.load 24 (.tmp 33))⟩,
                   ⟨some 35, none, (.move (.tmp 7))⟩,
                   ⟨some 36, none, (.call ⟨(.value (.func 32)), #[(.tmp 34), (.tmp 35)], #[24, 24]⟩)⟩,
                   ⟨some 37, none, (.move (.tmp 6))⟩,
                   ⟨some 38, none, (.indexAddr 24 (.tmp 32) (.tmp 36))⟩,
                   ⟨none, none, (.store 3 (.tmp 38) (.tmp 37))⟩])))))
             (.ops [⟨some 39, none, (.binOp .add 3 (.tmp 20) (.const (.int .i64 1)) 3)⟩,
               ⟨some 20, none, (.move (.tmp 39))⟩])))))))
       (.seq
        (.ops [⟨some 40, none, (.load 26 (.tmp 4))⟩,
          ⟨none, none, (.store 26 (.tmp 2) (.tmp 40))⟩,
          ⟨some 3, none, (.assign (.const (.int .i64 0)))⟩])
        .ret))))))
theorem w9 {args : Array Value} {H : AH} {Φ : Value → AH → Prop} (h : rW Try.prog k9 [] (fin Try.prog [(.cell 2 26), (.tmp 3)] Φ) (tm0 args) H) : CallsA Try.prog 9 args H Φ :=
  CallsA.w k9 [(.cell 2 26), (.tmp 3)] (fun i => if i = 10 then [(1, 0), (1, 6), (3, 0)] else []) Try.func9 rfl rfl (by kernel_rfl) (by kernel_rfl) h

/-- spec.NumOk -/
def k69 : KC :=
  (.seq
   (.ops [⟨some 2, none, (.assign (.const (.bool false)))⟩])
   (.seq
    (.ops [⟨some 3, none, (.move (.tmp 0))⟩,
      ⟨some 4, none, (.call ⟨(.value (.func 71)), #[(.tmp 3), (.const (.int .i64 (-1000000000000))), (.const (.int .i64 1000000000000))], #[3, 3, 3]⟩)⟩,
      ⟨some 2, none, (.assign (.tmp 4))⟩])
    .ret))
theorem w69 {args : Array Value} {H : AH} {Φ : Value → AH → Prop} (h : rW Try.prog k69 [] (fin Try.prog [(.tmp 2)] Φ) (tm0 args) H) : CallsA Try.prog 69 args H Φ :=
  CallsA.w k69 [(.tmp 2)] (fun _ => []) Try.func69 rfl rfl (by kernel_rfl) (by kernel_rfl) h

/-- spec.ArrayOk -/
def k33 : KC :=
  (.seq
   (.ops [⟨some 1, none, (.box 26 (.tmp 0))⟩,
     ⟨some 2, none, (.assign (.const (.bool false)))⟩])
   (.seq
    (.seq
     (.draw #[] [(1, 0), (4, 0), (4, 3)]
       [⟨some 4, none, (.fieldAddr 26 (.tmp 1) 0)⟩,
       ⟨some 5, none, (.load 24 (.tmp 4))⟩,
       ⟨some 6, none, (.call ⟨(.value (.func 68)), #[(.tmp 5)], #[24]⟩)⟩,
       ⟨some 7, none, (.fieldAddr 26 (.tmp 1) 1)⟩,
       ⟨some 8, none, (.load 24 (.tmp 7))⟩,
       ⟨some 9, none, (.call ⟨(.builtin .len), #[(.tmp 8)], #[24]⟩)⟩,
       ⟨some 10, none, (.binOp .neq 3 (.tmp 6) (.tmp 9) 3)⟩])
     (.cond (.tmp 10)
      (.seq
       (.ops [⟨some 2, none, (.assign (.const (.bool false)))⟩])
       .ret)
      .skip))
    (.seq
     (.seq
      (.ops [⟨some 3, none, (.assign (.const (.int .i64 0)))⟩])
      (.block 0
       (.loop
        (.seq
         (.seq
          (.ops [⟨some 11, none, (.move (.tmp 3))⟩,
            ⟨some 12, none, (.fieldAddr 26 (.tmp 1) 1)⟩,
            ⟨some 13, none, (.load 24 (.tmp 12))⟩,
            ⟨some 14, none, (.call ⟨(.builtin .len), #[(.tmp 13)], #[24]⟩)⟩,
            ⟨some 15, none, (.binOp .lss 3 (.tmp 11) (.tmp 14) 3)⟩])
          (.cond (.tmp 15)
           .skip
           (.exit 0)))
         (.seq
          (.block 1
           (.seq
            (.ops [⟨some 18, none, (.fieldAddr 26 (.tmp 1) 1)⟩,
              ⟨some 19, none, (.load 24 (.tmp 18))⟩,
              ⟨some 20, none, (.move (.tmp 3))⟩,
              ⟨some 21, none, (.indexAddr 24 (.tmp 19) (.tmp 20))⟩,
              ⟨some 22, none, (.load 3 (.tmp 21))⟩,
              ⟨some 23, none, (.call ⟨(.value (.func 69)), #[(.tmp 22)], #[3]⟩)⟩,
              ⟨some 24, none, (.unOp .not 4 (.tmp 23))⟩])
            (.cond (.tmp 24)
             (.seq
              (.ops [⟨some 2, none, (.assign (.const (.bool false)))⟩])
              .ret)
             .skip)))
          (.ops [⟨some 16, none, (.move (.tmp 3))⟩,
            ⟨some 17, none, (.binOp .add 3 (.tmp 16) (.const (.int .i64 1)) 3)⟩,
            ⟨some 3, none, (.assign (.tmp 17))⟩]))))))
     (.seq
      (.ops [⟨some 2, none, (.assign (.const (.bool true)))⟩])
      .ret))))
theorem w33 {args : Array Value} {H : AH} {Φ : Value → AH → Prop} (h : rW Try.prog k33 [] (fin Try.prog [(.tmp 2)] Φ) (tm0 args) H) : CallsA Try.prog 33 args H Φ :=
  CallsA.w k33 [(.tmp 2)] (fun i => if i = 1 then [(1, 0), (4, 0), (4, 3)] else []) Try.func33 rfl rfl (by kernel_rfl) (by kernel_rfl) h

/-- spec.l5Back -/
def k34 : KC :=
  (.seq
   (.ops [⟨some 2, none, (.assign (.const (.slice none 0 0)))⟩])
   (.seq
    (.ops [⟨some 5, none, (.buildSlice 24 0 #[])⟩,
      ⟨some 3, none, (.assign (.tmp 5))⟩])
    (.seq
     (.seq
      (.ops [⟨some 6, none, (.move (.tmp 0))⟩,
        ⟨some 7, none, (.call ⟨(.builtin .len), #[(.tmp 6)], #[24]⟩)⟩,
        ⟨some 8, none, (.binOp .sub 3 (.tmp 7) (.const (.int .i64 1)) 3)⟩,
        ⟨some 4, none, (.assign (.tmp 8))⟩])
      (.block 0
       (.loop
        (.seq
         (.seq
          (.ops [⟨some 9, none, (.move (.tmp 4))⟩,
            ⟨some 10, none, (.binOp .geq 3 (.tmp 9) (.const (.int .i64 0)) 3)⟩])
          (.cond (.tmp 10)
           .skip
           (.exit 0)))
         (.seq
          (.block 1
           (.ops [⟨some 13, none, (.move (.tmp 3))⟩,
             ⟨some 14, none, (.move (.tmp 0))⟩,
             ⟨some 15, none, (.move (.tmp 4))⟩,
             ⟨some 16, none, (.indexAddr 24 (.tmp 14) (.tmp 15))⟩,
             ⟨some 17, none, (.load 3 (.tmp 16))⟩,
             ⟨some 18, none, (.buildSlice 24 1 #[(0, (.tmp 17))])⟩,
             ⟨some 19, none, (.call ⟨(.builtin .append), #[(.tmp 13), (.tmp 18)], #[24, 24]⟩)⟩,
             ⟨some 3, none, (.assign (.tmp 19))⟩]))
          (.ops [⟨some 11, none, (.move (.tmp 4))⟩,
            ⟨some 12, none, (.binOp .sub 3 (.tmp 11) (.const (.int .i64 1)) 3)⟩,
            ⟨some 4, none, (.assign (.tmp 12))⟩]))))))
     (.seq
      (.ops [⟨some 20, none, (.move (.tmp 3))⟩,
        ⟨some 2, none, (.assign (.tmp 20))⟩])
      .ret))))
theorem w34 {args : Array Value} {H : AH} {Φ : Value → AH → Prop} (h : rW Try.prog k34 [] (fin Try.prog [(.tmp 2)] Φ) (tm0 args) H) : CallsA Try.prog 34 args H Φ :=
  CallsA.w k34 [(.tmp 2)] (fun _ => []) Try.func34 rfl rfl (by kernel_rfl) (by kernel_rfl) h

/-- spec.ShapeOk -/
def k70 : KC :=
  (.seq
   (.ops [⟨some 2, none, (.assign (.const (.bool false)))⟩])
   (.seq
    (.ops [⟨some 3, none, (.move (.tmp 0))⟩,
      ⟨some 4, none, (.call ⟨(.value (.func 68)), #[(.tmp 3)], #[24]⟩)⟩,
      ⟨some 5, none, (.binOp .geq 3 (.tmp 4) (.const (.int .i64 0)) 3)⟩,
      ⟨some 2, none, (.assign (.tmp 5))⟩])
    .ret))
theorem w70 {args : Array Value} {H : AH} {Φ : Value → AH → Prop} (h : rW Try.prog k70 [] (fin Try.prog [(.tmp 2)] Φ) (tm0 args) H) : CallsA Try.prog 70 args H Φ :=
  CallsA.w k70 [(.tmp 2)] (fun _ => []) Try.func70 rfl rfl (by kernel_rfl) (by kernel_rfl) h

/-- spec.PlaceOf -/
def k35 : KC :=
  (.seq
   (.ops [⟨some 4, none, (.assign (.const (.int .i64 0)))⟩])
   (.seq
    (.seq
     (.ops [⟨some 7, none, (.move (.tmp 0))⟩,
       ⟨some 8, none, (.call ⟨(.value (.func 70)), #[(.tmp 7)], #[24]⟩)⟩,
       ⟨some 9, none, (.unOp .not 4 (.tmp 8))⟩,
       ⟨some 10, none, (.move (.tmp 9))⟩,
       ⟨some 11, (some (10, false)), (.move (.tmp 1))⟩,
       ⟨some 12, (some (10, false)), (.call ⟨(.builtin .len), #[(.tmp 11)], #[24]⟩)⟩,
       ⟨some 13, (some (10, false)), (.move (.tmp 0))⟩,
       ⟨some 14, (some (10, false)), (.call ⟨(.builtin .len), #[(.tmp 13)], #[24]⟩)⟩,
       ⟨some 15, (some (10, false)), (.binOp .neq 3 (.tmp 12) (.tmp 14) 3)⟩,
       ⟨some 16, none, (.pick (.tmp 10) (.const (.bool true)) (.tmp 15))⟩])
     (.cond (.tmp 16)
      (.seq
       (.ops [⟨some 4, none, (.assign (.const (.int .i64 (-1))))⟩])
       .ret)
      .skip))
    (.seq
     (.ops [⟨some 5, none, (.assign (.const (.int .i64 0)))⟩])
     (.seq
      (.seq
       (.ops [⟨some 6, none, (.assign (.const (.int .i64 0)))⟩])
       (.block 0
        (.loop
         (.seq
          (.seq
           (.ops [⟨some 17, none, (.move (.tmp 6))⟩,
             ⟨some 18, none, (.move (.tmp 0))⟩,
             ⟨some 19, none, (.call ⟨(.builtin .len), #[(.tmp 18)], #[24]⟩)⟩,
             ⟨some 20, none, (.binOp .lss 3 (.tmp 17) (.tmp 19) 3)⟩])
           (.cond (.tmp 20)
            .skip
            (.exit 0)))
          (.seq
           (.block 1
            (.seq
             (.seq
              (.draw #[] [(3, 0), (7, 0)]
                [⟨some 23, none, (.move (.tmp 1))⟩,
                ⟨some 24, none, (.move (.tmp 6))⟩,
                ⟨some 25, none, (.indexAddr 24 (.tmp 23) (.tmp 24))⟩,
                ⟨some 26, none, (.load 3 (.tmp 25))⟩,
                ⟨some 27, none, (.move (.tmp 0))⟩,
                ⟨some 28, none, (.move (.tmp 6))⟩,
                ⟨some 29, none, (.indexAddr 24 (.tmp 27) (.tmp 28))⟩,
                ⟨some 30, none, (.load 3 (.tmp 29))⟩,
                ⟨some 31, none, (.binOp .sub 3 (.tmp 30) (.const (.int .i64 1)) 3)⟩,
                ⟨some 32, none, (.call ⟨(.value (.func 71)), #[(.tmp 26), (.const (.int .i64 0)), (.tmp 31)], #[3, 3, 3]⟩)⟩,
                ⟨some 33, none, (.unOp .not 4 (.tmp 32))⟩])
              (.cond (.tmp 33)
               (.seq
                (.ops [⟨some 4, none, (.assign (.const (.int .i64 (-1))))⟩])
                .ret)
               .skip))
             (.ops [⟨some 34, none, (.move (.tmp 5))⟩,
               ⟨some 35, none, (.move (.tmp 0))⟩,
               ⟨some 36, none, (.move (.tmp 6))⟩,
               ⟨some 37, none, (.indexAddr 24 (.tmp 35) (.tmp 36))⟩,
               ⟨some 38, none, (.load 3 (.tmp 37))⟩,
               ⟨some 39, none, (.binOp .mul 3 (.tmp 34) (.tmp 38) 3)⟩,
               ⟨some 40, none, (.move (.tmp 1))⟩,
               ⟨some 41, none, (.move (.tmp 6))⟩,
               ⟨some 42, none, (.indexAddr 24 (.tmp 40) (.tmp 41))⟩,
               ⟨some 43, none, (.load 3 (.tmp 42))⟩,
               ⟨some 44, none, (.binOp .add 3 (.tmp 39) (.tmp 43) 3)⟩,
               ⟨some 5, none, (.assign (.tmp 44))⟩])))
           (.ops [⟨some 21, none, (.move (.tmp 6))⟩,
             ⟨some 22, none, (.binOp .add 3 (.tmp 21) (.const (.int .i64 1)) 3)⟩,
             ⟨some 6, none, (.assign (.tmp 22))⟩]))))))
      (.seq
       (.ops [⟨some 45, none, (.move (.tmp 5))⟩,
         ⟨some 4, none, (.assign (.tmp 45))⟩])
       .ret)))))
theorem w35 {args : Array Value} {H : AH} {Φ : Value → AH → Prop} (h : rW Try.prog k35 [] (fin Try.prog [(.tmp 4)] Φ) (tm0 args) H) : CallsA Try.prog 35 args H Φ :=
  CallsA.w k35 [(.tmp 4)] (fun i => if i = 7 then [(3, 0), (7, 0)] else if i = 9 then [(4, 0), (9, 0)] else []) Try.func35 rfl rfl (by kernel_rfl) (by kernel_rfl) h

/-- spec.IndexOf -/
def k36 : KC :=
  (.seq
   (.ops [⟨some 4, none, (.assign (.const (.slice none 0 0)))⟩])
   (.seq
    (.seq
     (.ops [⟨some 7, none, (.move (.tmp 0))⟩,
       ⟨some 8, none, (.call ⟨(.value (.func 70)), #[(.tmp 7)], #[24]⟩)⟩,
       ⟨some 9, none, (.unOp .not 4 (.tmp 8))⟩,
       ⟨some 10, none, (.move (.tmp 9))⟩,
       ⟨some 11, (some (10, false)), (.move (.tmp 1))⟩,
       ⟨some 12, (some (10, false)), (.move (.tmp 0))⟩,
       ⟨some 13, (some (10, false)), (.call ⟨(.value (.func 68)), #[(.tmp 12)], #[24]⟩)⟩,
       ⟨some 14, (some (10, false)), (.binOp .sub 3 (.tmp 13) (.const (.int .i64 1)) 3)⟩,
       ⟨some 15, (some (10, false)), (.call ⟨(.value (.func 71)), #[(.tmp 11), (.const (.int .i64 0)), (.tmp 14)], #[3, 3, 3]⟩)⟩,
       ⟨some 16, (some (10, false)), (.unOp .not 4 (.tmp 15))⟩,
       ⟨some 17, none, (.pick (.tmp 10) (.const (.bool true)) (.tmp 16))⟩])
     (.cond (.tmp 17)
      (.seq
       (.ops [⟨some 18, none, (.buildSlice 24 0 #[])⟩,
         ⟨some 4, none, (.assign (.tmp 18))⟩])
       .ret)
      .skip))
    (.seq
     (.ops [⟨some 19, none, (.move (.tmp 0))⟩,
       ⟨some 20, none, (.call ⟨(.builtin .len), #[(.tmp 19)], #[24]⟩)⟩,
       ⟨some 21, none, (.makeSlice 24 (.tmp 20) (.tmp 20))⟩,
       ⟨some 5, none, (.assign (.tmp 21))⟩])
     (.seq
      (.seq
       (.ops [⟨some 22, none, (.move (.tmp 0))⟩,
         ⟨some 23, none, (.call ⟨(.builtin .len), #[(.tmp 22)], #[24]⟩)⟩,
         ⟨some 24, none, (.binOp .sub 3 (.tmp 23) (.const (.int .i64 1)) 3)⟩,
         ⟨some 6, none, (.assign (.tmp 24))⟩])
       (.block 0
        (.loop
         (.seq
          (.seq
           (.ops [⟨some 25, none, (.move (.tmp 6))⟩,
             ⟨some 26, none, (.binOp .geq 3 (.tmp 25) (.const (.int .i64 0)) 3)⟩])
           (.cond (.tmp 26)
            .skip
            (.exit 0)))
          (.seq
           (.block 1
            (.seq
             (.ops [⟨some 29, none, (.move (.tmp 5))⟩,
               ⟨some 30, none, (.move (.tmp 6))⟩,
               ⟨some 31, none, (.move (.tmp 1))⟩,
               ⟨some 32, none, (.move (.tmp 0))⟩,
               ⟨some 33, none, (.move (.tmp 6))⟩,
               ⟨some 34, none, (.indexAddr 24 (.tmp 32) (.tmp 33))⟩,
               ⟨some 35, none, (.load 3 (.tmp 34))⟩,
               ⟨some 36, none, (.binOp .rem 3 (.tmp 31) (.tmp 35) 3)⟩,
               ⟨some 37, none, (.indexAddr 24 (.tmp 29) (.tmp 30))⟩,
               ⟨none, none, (.store 3 (.tmp 37) (.tmp 36))⟩])
             (.ops [⟨some 38, none, (.move (.tmp 1))⟩,
               ⟨some 39, none, (.move (.tmp 0))⟩,
               ⟨some 40, none, (.move (.tmp 6))⟩,
               ⟨some 41, none, (.indexAddr 24 (.tmp 39) (.tmp 40))⟩,
               ⟨some 42, none, (.load 3 (.tmp 41))⟩,
               ⟨some 43, none, (.binOp .quo 3 (.tmp 38) (.tmp 42) 3)⟩,
               ⟨some 1, none, (.assign (.tmp 43))⟩])))
           (.ops [⟨some 27, none, (.move (.tmp 6))⟩,
             ⟨some 28, none, (.binOp .sub 3 (.tmp 27) (.const (.int .i64 1)) 3)⟩,
             ⟨some 6, none, (.assign (.tmp 28))⟩]))))))
      (.seq
       (.ops [⟨some 44, none, (.move (.tmp 5))⟩,
         ⟨some 4, none, (.assign (.tmp 44))⟩])
       .ret)))))
theorem w36 {args : Array Value} {H : AH} {Φ : Value → AH → Prop} (h : rW Try.prog k36 [] (fin Try.prog [(.tmp 4)] Φ) (tm0 args) H) : CallsA Try.prog 36 args H Φ :=
  CallsA.w k36 [(.tmp 4)] (fun _ => []) Try.func36 rfl rfl (by kernel_rfl) (by kernel_rfl) h

/-- spec.Flip -/
def k10 : KC :=
  (.seq
   (.ops [⟨some 1, none, (.box 26 (.tmp 0))⟩,
     ⟨some 2, none, (.alloc 26)⟩,
     ⟨some 3, none, (.assign (.const (.int .i64 0)))⟩])
   (.seq
    (.seq
     (.ops [⟨some 6, none, (.load 26 (.tmp 1))⟩,
       ⟨some 7, none, (.call ⟨(.value (.func 33)), #[(.tmp 6)], #[26]⟩)⟩,
       ⟨some 8, none, (.unOp .not 4 (.tmp 7))⟩])
     (.cond (.tmp 8)
      (.seq
       (.ops [⟨some 9, none, (.build 26 #[])⟩,
         ⟨none, none, (.store 26 (.tmp 2) (.tmp 9))⟩,
         ⟨some 3, none, (.assign (.const (.int .i64 1)))⟩])
       .ret)
      .skip))
    (.seq
     (.ops [⟨some 10, none, (.fieldAddr 26 (.tmp 1) 0)⟩,
       ⟨some 11, none, (.load 24 (.tmp 10))⟩,
       ⟨some 12, none, (.call ⟨(.value (.func 34)), #[(.tmp 11)], #[24]⟩)⟩,
       ⟨some 13, none, (.build 26 #[(0, (.tmp 12))])⟩,
       ⟨some 4, none, (.alloc 26)⟩,
       ⟨none, none, (.store 26 (.tmp 4) (.tmp 13))⟩])
     (.seq
      (.seq
       (.ops [⟨some 5, none, (.assign (.const (.int .i64 0)))⟩])
       (.block 0
        (.loop
         (.seq
          (.seq
           (.ops [⟨some 14, none, (.move (.tmp 5))⟩,
             ⟨some 15, none, (.fieldAddr 26 (.tmp 1) 1)⟩,
             ⟨some 16, none, (.load 24 (.tmp 15))⟩,
             ⟨some 17, none, (.call ⟨(.builtin .len), #[(.tmp 16)], #[24]⟩)⟩,
             ⟨some 18, none, (.binOp .lss 3 (.tmp 14) (.tmp 17) 3)⟩])
           (.cond (.tmp 18)
            .skip
            (.exit 0)))
          (.seq
           (.block 1
            (.draw #[] [(1, 0), (1, 10), (1, 11), (1, 12), (3, 0), (3, 10), (3, 11), (3, 12), (5, 0), (5, 10), (5, 11), (7, 0), (13, 12)]
              [⟨some 21, none, (.fieldAddr 26 (.tmp 4) 1)⟩,
              ⟨some 22, none, (.load 24 (.tmp 21))⟩,
              ⟨some 23, none, (.fieldAddr 26 (.tmp 1) 1)⟩,
              ⟨some 24, none, (.load 24 (.tmp 23))⟩,
              ⟨some 25, none, (.fieldAddr 26 (.tmp 1) 0)⟩,
              ⟨some 26, none, (.load 24 (.tmp 25))⟩,
              ⟨some 27, none, (.fieldAddr 26 (.tmp 4) 0)⟩,
              ⟨some 28, none, (.load 24 (.tmp 27))⟩,
              ⟨some 29, none, (.move (.tmp 5))⟩,
              ⟨some 30, none, (.call ⟨(.value (.func 36)), #[(.tmp 28), (.tmp 29)], #[24, 3]⟩)⟩,
              ⟨some 31, none, (.call ⟨(.value (.func 34)), #[(.tmp 30)], #[24]⟩)⟩,
              ⟨some 32, none, (.call ⟨(.value (.func 35)), #[(.tmp 26), (.tmp 31)], #[24, 24]⟩)⟩,
              ⟨some 33, none, (.indexAddr 24 (.tmp 24) (.tmp 32))⟩,
              ⟨some 34, none, (.load 3 (.tmp 33))⟩,
              ⟨some 35, none, (.buildSlice 24 1 #[(0, (.tmp 34))])⟩,
              ⟨some 36, none, (.call ⟨(.builtin .append), #[(.tmp 22), (.tmp 35)], #[24, 24]⟩)⟩,
              ⟨some 37, none, (.fieldAddr 26 (.tmp 4) 1)⟩,
              ⟨none, none, (.store 24 (.tmp 37) (.tmp 36))⟩]))
           (.ops [⟨some 19, none, (.move (.tmp 5))⟩,
             ⟨some 20, none, (.binOp .add 3 (.tmp 19) (.const (.int .i64 1)) 3)⟩,
             ⟨some 5, none, (.assign (.tmp 20))⟩]))))))
      (.seq
       (.ops [⟨some 38, none, (.load 26 (.tmp 4))⟩,
         ⟨none, none, (.store 26 (.tmp 2) (.tmp 38))⟩,
         ⟨some 3, none, (.assign (.const (.int .i64 0)))⟩])
       .ret)))))
theorem w10 {args : Array Value} {H : AH} {Φ : Value → AH → Prop} (h : rW Try.prog k10 [] (fin Try.prog [(.cell 2 26), (.tmp 3)] Φ) (tm0 args) H) : CallsA Try.prog 10 args H Φ :=
  CallsA.w k10 [(.cell 2 26), (.tmp 3)] (fun i => if i = 7 then [(1, 0), (1, 10), (1, 11), (1, 12), (3, 0), (3, 10), (3, 11), (3, 12), (5, 0), (5, 10), (5, 11), (7, 0), (13, 12)] else []) Try.func10 rfl rfl (by kernel_rfl) (by kernel_rfl) h

/-- impl.ScalarOf -/
def k11 : KC :=
  (.seq
   (.ops [⟨some 2, none, (.alloc 26)⟩,
     ⟨some 3, none, (.assign (.const (.bool false)))⟩])
   (.seq
    (.seq
     (.ops [⟨some 4, none, (.move (.tmp 0))⟩,
       ⟨some 5, none, (.call ⟨(.value (.func 37)), #[(.tmp 4)], #[3]⟩)⟩,
       ⟨some 6, none, (.unOp .not 4 (.tmp 5))⟩])
     (.cond (.tmp 6)
      (.seq
       (.ops [⟨some 7, none, (.build 26 #[])⟩,
         ⟨none, none, (.store 26 (.tmp 2) (.tmp 7))⟩,
         ⟨some 3, none, (.assign (.const (.bool false)))⟩])
       .ret)
      .skip))
    (.seq
     (.ops [⟨some 8, none, (.move (.tmp 0))⟩,
       ⟨some 9, none, (.buildSlice 24 1 #[(0, (.tmp 8))])⟩,
       ⟨some 10, none, (.build 26 #[(1, (.tmp 9))])⟩,
       ⟨none, none, (.store 26 (.tmp 2) (.tmp 10))⟩,
       ⟨some 3, none, (.assign (.const (.bool true)))⟩])
     .ret)))
theorem w11 {args : Array Value} {H : AH} {Φ : Value → AH → Prop} (h : rW Try.prog k11 [] (fin Try.prog [(.cell 2 26), (.tmp 3)] Φ) (tm0 args) H) : CallsA Try.prog 11 args H Φ :=
  CallsA.w k11 [(.cell 2 26), (.tmp 3)] (fun _ => []) Try.func11 rfl rfl (by kernel_rfl) (by kernel_rfl) h

/-- impl.vector -/
def k38 : KC :=
  (.seq
   (.ops [⟨some 2, none, (.alloc 26)⟩])
   (.seq
    (.ops [⟨some 3, none, (.move (.tmp 0))⟩,
      ⟨some 4, none, (.call ⟨(.builtin .len), #[(.tmp 3)], #[24]⟩)⟩,
      ⟨some 5, none, (.buildSlice 24 1 #[(0, (.tmp 4))])⟩,
      ⟨some 6, none, (.move (.tmp 0))⟩,
      ⟨some 7, none, (.call ⟨(.builtin .append), #[(.const (.slice none 0 0)), (.tmp 6)], #[24, 24]⟩)⟩,
      ⟨some 8, none, (.build 26 #[(0, (.tmp 5)), (1, (.tmp 7))])⟩,
      ⟨none, none, (.store 26 (.tmp 2) (.tmp 8))⟩])
    .ret))
theorem w38 {args : Array Value} {H : AH} {Φ : Value → AH → Prop} (h : rW Try.prog k38 [] (fin Try.prog [(.cell 2 26)] Φ) (tm0 args) H) : CallsA Try.prog 38 args H Φ :=
  CallsA.w k38 [(.cell 2 26)] (fun _ => []) Try.func38 rfl rfl (by kernel_rfl) (by kernel_rfl) h

/-- impl.Iota -/
def k12 : KC :=
  (.seq
   (.ops [⟨some 1, none, (.box 26 (.tmp 0))⟩,
     ⟨some 2, none, (.alloc 26)⟩,
     ⟨some 3, none, (.assign (.const (.int .i64 0)))⟩])
   (.seq
    (.block 0
     (.seq
      (.ops [⟨some 7, none, (.load 26 (.tmp 1))⟩,
        ⟨some 8, none, (.call ⟨(.value (.func 28)), #[(.tmp 7)], #[26]⟩)⟩,
        ⟨some 9, none, (.unOp .not 4 (.tmp 8))⟩,
        ⟨some 6, none, (.assign (.tmp 9))⟩])
      (.cond (.tmp 6)
       (.seq
        (.ops [⟨some 10, none, (.build 26 #[])⟩,
          ⟨none, none, (.store 26 (.tmp 2) (.tmp 10))⟩,
          ⟨some 3, none, (.assign (.const (.int .i64 1)))⟩])
        .ret)
       (.seq
        (.ops [⟨some 12, none, (.fieldAddr 26 (.tmp 1) 1)⟩,
          ⟨some 13, none, (.load 24 (.tmp 12))⟩,
          ⟨some 14, none, (.call ⟨(.builtin .len), #[(.tmp 13)], #[24]⟩)⟩,
          ⟨some 15, none, (.binOp .neq 3 (.tmp 14) (.const (.int .i64 1)) 3)⟩,
          ⟨some 11, none, (.assign (.tmp 15))⟩])
        (.cond (.tmp 11)
         (.seq
          (.ops [⟨some 16, none, (.build 26 #[])⟩,
            ⟨none, none, (.store 26 (.tmp 2) (.tmp 16))⟩,
            ⟨some 3, none, (.assign (.const (.int .i64 3)))⟩])
          .ret)
         (.seq
          (.ops [⟨some 18, none, (.fieldAddr 26 (.tmp 1) 1)⟩,
            ⟨some 19, none, (.load 24 (.tmp 18))⟩,
            ⟨some 20, none, (.indexAddr 24 (.tmp 19) (.const (.int .i64 0)))⟩,
            ⟨some 21, none, (.load 3 (.tmp 20))⟩,
            ⟨some 22, none, (.binOp .lss 3 (.tmp 21) (.const (.int .i64 0)) 3)⟩,
            ⟨some 17, none, (.assign (.tmp 22))⟩])
          (.cond (.tmp 17)
           (.seq
            (.ops [⟨some 23, none, (.build 26 #[])⟩,
              ⟨none, none, (.store 26 (.tmp 2) (.tmp 23))⟩,
              ⟨some 3, none, (.assign (.const (.int .i64 2)))⟩])
            .ret)
           (.seq
            (.ops [⟨some 25, none, (.fieldAddr 26 (.tmp 1) 1)⟩,
              ⟨some 26, none, (.load 24 (.tmp 25))⟩,
              ⟨some 27, none, (.indexAddr 24 (.tmp 26) (.const (.int .i64 0)))⟩,
              ⟨some 28, none, (.load 3 (.tmp 27))⟩,
              ⟨some 29, none, (.binOp .gtr 3 (.tmp 28) (.const (.int .i64 300)) 3)⟩,
              ⟨some 24, none, (.assign (.tmp 29))⟩])
            (.cond (.tmp 24)
             (.seq
              (.ops [⟨some 30, none, (.build 26 #[])⟩,
                ⟨none, none, (.store 26 (.tmp 2) (.tmp 30))⟩,
                ⟨some 3, none, (.assign (.const (.int .i64 6)))⟩])
              .ret)
             .skip)))))))))
    (.seq
     (.ops [⟨some 4, none, (.assign (.const (.slice none 0 0)))⟩])
     (.seq
      (.seq
       (.ops [⟨some 5, none, (.assign (.const (.int .i64 0)))⟩])
       (.block 1
        (.loop
         (.seq
          (.seq
           (.ops [⟨some 31, none, (.move (.tmp 5))⟩,
             ⟨some 32, none, (.fieldAddr 26 (.tmp 1) 1)⟩,
             ⟨some 33, none, (.load 24 (.tmp 32))⟩,
             ⟨some 34, none, (.indexAddr 24 (.tmp 33) (.const (.int .i64 0)))⟩,
             ⟨some 35, none, (.load 3 (.tmp 34))⟩,
             ⟨some 36, none, (.binOp .lss 3 (.tmp 31) (.tmp 35) 3)⟩])
           (.cond (.tmp 36)
            .skip
            (.exit 1)))
          (.seq
           (.block 2
            (.ops [⟨some 39, none, (.move (.tmp 4))⟩,
              ⟨some 40, none, (.move (.tmp 5))⟩,
              ⟨some 41, none, (.buildSlice 24 1 #[(0, (.tmp 40))])⟩,
              ⟨some 42, none, (.call ⟨(.builtin .append), #[(.tmp 39), (.tmp 41)], #[24, 24]⟩)⟩,
              ⟨some 4, none, (.assign (.tmp 42))⟩]))
           (.ops [⟨some 37, none, (.move (.tmp 5))⟩,
             ⟨some 38, none, (.binOp .add 3 (.tmp 37) (.const (.int .i64 1)) 3)⟩,
             ⟨some 5, none, (.assign (.tmp 38))⟩]))))))
      (.seq
       (.ops [⟨some 43, none, (.move (.tmp 4))⟩,
         ⟨some 44, none, (.call ⟨(.value (.func 38)), #[(.tmp 43)], #[24]⟩)⟩,
         ⟨none, none, (.store 26 (.tmp 2) (.tmp 44))⟩,
         ⟨some 3, none, (.assign (.const (.int .i64 0)))⟩])
       .ret)))))
theorem w12 {args : Array Value} {H : AH} {Φ : Value → AH → Prop} (h : rW Try.prog k12 [] (fin Try.prog [(.cell 2 26), (.tmp 3)] Φ) (tm0 args) H) : CallsA Try.prog 12 args H Φ :=
  CallsA.w k12 [(.cell 2 26), (.tmp 3)] (fun _ => []) Try.func12 rfl rfl (by kernel_rfl) (by kernel_rfl) h

/-- impl.Rows -/
def k39 : KC :=
  (.seq
   (.ops [⟨some 1, none, (.box 26 (.tmp 0))⟩,
     ⟨some 2, none, (.assign (.const (.slice none 0 0)))⟩])
   (.seq
    (.seq
     (.ops [⟨some 6, none, (.load 26 (.tmp 1))⟩,
       ⟨some 7, none, (.call ⟨(.value (.func 28)), #[(.tmp 6)], #[26]⟩)⟩,
       ⟨some 8, none, (.unOp .not 4 (.tmp 7))⟩,
       ⟨some 9, none, (.move (.tmp 8))⟩,
       ⟨some 10, (some (9, false)), (.fieldAddr 26 (.tmp 1) 0)⟩,
       ⟨some 11, (some (9, false)), (.load 24 (.tmp 10))⟩,
       ⟨some 12, (some (9, false)), (.call ⟨(.builtin .len), #[(.tmp 11)], #[24]⟩)⟩,
       ⟨some 13, (some (9, false)), (.binOp .eql 3 (.tmp 12) (.const (.int .i64 0)) 3)⟩,
       ⟨some 14, none, (.pick (.tmp 9) (.const (.bool true)) (.tmp 13))⟩])
     (.cond (.tmp 14)
      (.seq
       (.ops [⟨some 2, none, (.assign (.const (.slice none 0 0)))⟩])
       .ret)
      .skip))
    (.seq
     (.ops [⟨some 15, none, (.fieldAddr 26 (.tmp 1) 0)⟩,
       ⟨some 16, none, (.load 24 (.tmp 15))⟩,
       ⟨some 17, none, (.slice 24 (.tmp 16) (some (.const (.int .i64 1))) none none)⟩,
       ⟨some 18, none, (.call ⟨(.value (.func 64)), #[(.tmp 17)], #[24]⟩)⟩,
       ⟨some 3, none, (.assign (.tmp 18))⟩])
     (.seq
      (.ops [⟨some 4, none, (.assign (.const (.slice none 0 0)))⟩])
      (.seq
       (.seq
        (.ops [⟨some 5, none, (.assign (.const (.int .i64 0)))⟩])
        (.block 0
         (.loop
          (.seq
           (.seq
            (.ops [⟨some 19, none, (.move (.tmp 5))⟩,
              ⟨some 20, none, (.fieldAddr 26 (.tmp 1) 0)⟩,
              ⟨some 21, none, (.load 24 (.tmp 20))⟩,
              ⟨some 22, none, (.indexAddr 24 (.tmp 21) (.const (.int .i64 0)))⟩,
              ⟨some 23, none, (.load 3 (.tmp 22))⟩,
              ⟨some 24, none, (.binOp .lss 3 (.tmp 19) (.tmp 23) 3)⟩])
            (.cond (.tmp 24)
             .skip
             (.exit 0)))
           (.seq
            (.block 1
             (.draw #[] [(2, 0), (5, 0)]
               [⟨some 27, none, (.move (.tmp 4))⟩,
               ⟨some 28, none, (.fieldAddr 26 (.tmp 1) 0)⟩,
               ⟨some 29, none, (.load 24 (.tmp 28))⟩,
               ⟨some 30, none, (.slice 24 (.tmp 29) (some (.const (.int .i64 1))) none none)⟩,
               ⟨some 31, none, (.fieldAddr 26 (.tmp 1) 1)⟩,
               ⟨some 32, none, (.load 24 (.tmp 31))⟩,
               ⟨some 33, none, (.move (.tmp 5))⟩,
               ⟨some 34, none, (.move (.tmp 3))⟩,
               ⟨some 35, none, (.binOp .mul 3 (.tmp 33) (.tmp 34) 3)⟩,
               ⟨some 36, none, (.move (.tmp 5))⟩,
               ⟨some 37, none, (.binOp .add 3 (.tmp 36) (.const (.int .i64 1)) 3)⟩,
               ⟨some 38, none, (.move (.tmp 3))⟩,
               ⟨some 39, none, (.binOp .mul 3 (.tmp 37) (.tmp 38) 3)⟩,
               ⟨some 40, none, (.slice 24 (.tmp 32) (some (.tmp 35)) (some (.tmp 39)) none)⟩,
               ⟨some 41, none, (.build 26 #[(0, (.tmp 30)), (1, (.tmp 40))])⟩,
               ⟨some 42, none, (.call ⟨(.value (.func 29)), #[(.tmp 41)], #[26]⟩)⟩,
               ⟨some 43, none, (.buildSlice 62 1 #[(0, (.tmp 42))])⟩,
               ⟨some 44, none, (.call ⟨(.builtin .append), #[(.tmp 27), (.tmp 43)], #[62, 62]⟩)⟩,
               ⟨some 4, none, (.assign (.tmp 44))⟩]))
            (.ops [⟨some 25, none, (.move (.tmp 5))⟩,
              ⟨some 26, none, (.binOp .add 3 (.tmp 25) (.const (.int .i64 1)) 3)⟩,
              ⟨some 5, none, (.assign (.tmp 26))⟩]))))))
       (.seq
        (.ops [⟨some 45, none, (.move (.tmp 4))⟩,
          ⟨some 2, none, (.assign (.tmp 45))⟩])
        .ret))))))
theorem w39 {args : Array Value} {H : AH} {Φ : Value → AH → Prop} (h : rW Try.prog k39 [] (fin Try.prog [(.tmp 2)] Φ) (tm0 args) H) : CallsA Try.prog 39 args H Φ :=
  CallsA.w k39 [(.tmp 2)] (fun i => if i = 8 then [(2, 0), (5, 0)] else []) Try.func39 rfl rfl (by kernel_rfl) (by kernel_rfl) h

/-- slices.Reverse[[]impl.Array,impl.Array] -/
def k40 : KC :=
  (.seq
   (.ops [⟨some 4, none, (.move (.tmp 0))⟩,
     ⟨some 5, none, (.call ⟨(.builtin .len), #[(.tmp 4)], #[62]⟩)⟩,
     ⟨some 6, none, (.binOp .sub 3 (.tmp 5) (.const (.int .i64 1)) 3)⟩,
     ⟨some 2, none, (.assign (.const (.int .i64 0)))⟩,
     ⟨some 3, none, (.assign (.tmp 6))⟩])
   (.block 0
    (.loop
     (.seq
      (.seq
       (.ops [⟨some 7, none, (.move (.tmp 2))⟩,
         ⟨some 8, none, (.move (.tmp 3))⟩,
         ⟨some 9, none, (.binOp .lss 3 (.tmp 7) (.tmp 8) 3)⟩])
       (.cond (.tmp 9)
        .skip
        (.exit 0)))
      (.seq
       (.block 1
        (.draw #[] [(7, 0), (11, 0)]
          [⟨some 14, none, (.move (.tmp 0))⟩,
          ⟨some 15, none, (.move (.tmp 2))⟩,
          ⟨some 16, none, (.move (.tmp 0))⟩,
          ⟨some 17, none, (.move (.tmp 3))⟩,
          ⟨some 18, none, (.move (.tmp 0))⟩,
          ⟨some 19, none, (.move (.tmp 3))⟩,
          ⟨some 20, none, (.indexAddr 62 (.tmp 18) (.tmp 19))⟩,
          ⟨some 21, none, (.load 26 (.tmp 20))⟩,
          ⟨some 22, none, (.move (.tmp 0))⟩,
          ⟨some 23, none, (.move (.tmp 2))⟩,
          ⟨some 24, none, (.indexAddr 62 (.tmp 22) (.tmp 23))⟩,
          ⟨some 25, none, (.load 26 (.tmp 24))⟩,
          ⟨some 26, none, (.indexAddr 62 (.tmp 14) (.tmp 15))⟩,
          ⟨none, none, (.store 26 (.tmp 26) (.tmp 21))⟩,
          ⟨some 27, none, (.indexAddr 62 (.tmp 16) (.tmp 17))⟩,
          ⟨none, none, (.store 26 (.tmp 27) (.tmp 25))⟩]))
       (.ops [⟨some 10, none, (.move (.tmp 2))⟩,
         ⟨some 11, none, (.binOp .add 3 (.tmp 10) (.const (.int .i64 1)) 3)⟩,
         ⟨some 12, none, (.move (.tmp 3))⟩,
         ⟨some 13, none, (.binOp .sub 3 (.tmp 12) (.const (.int .i64 1)) 3)⟩,
         ⟨some 2, none, (.assign (.tmp 11))⟩,
         ⟨some 3, none, (.assign (.tmp 13))⟩]))))))
theorem w40 {args : Array Value} {H : AH} {Φ : Value → AH → Prop} (h : rW Try.prog k40 [] (fin Try.prog [] Φ) (tm0 args) H) : CallsA Try.prog 40 args H Φ :=
  CallsA.w k40 [] (fun i => if i = 3 then [(7, 0), (11, 0)] else []) Try.func40 rfl rfl (by kernel_rfl) (by kernel_rfl) h

/-- impl.joined -/
def k41 : KC :=
  (.seq
   (.ops [⟨some 4, none, (.alloc 26)⟩,
     ⟨some 5, none, (.assign (.const (.int .i64 0)))⟩])
   (.seq
    (.ops [⟨some 9, none, (.move (.tmp 0))⟩,
      ⟨some 10, none, (.call ⟨(.builtin .len), #[(.tmp 9)], #[62]⟩)⟩,
      ⟨some 11, none, (.buildSlice 24 1 #[(0, (.tmp 10))])⟩,
      ⟨some 12, none, (.move (.tmp 1))⟩,
      ⟨some 13, none, (.call ⟨(.builtin .append), #[(.tmp 11), (.tmp 12)], #[24, 24]⟩)⟩,
      ⟨some 14, none, (.build 26 #[(0, (.tmp 13))])⟩,
      ⟨some 6, none, (.alloc 26)⟩,
      ⟨none, none, (.store 26 (.tmp 6) (.tmp 14))⟩])
    (.seq
     (.seq
      (.ops [⟨some 15, none, (.move (.tmp 0))⟩,
        ⟨some 16, none, (.call ⟨(.builtin .len), #[(.tmp 15)], #[62]⟩)⟩,
        ⟨some 17, none, (.move (.const (.int .i64 0)))⟩])
      (.block 0
       (.loop
        (.seq
         (.ops [⟨some 18, none, (.binOp .lss 3 (.tmp 17) (.tmp 16) 3)⟩])
         (.seq
          (.cond (.tmp 18)
           .skip
           (.exit 0))
          (.seq
           (.block 1
            (.seq
             (.ops [⟨some 19, none, (.indexAddr 62 (.tmp 15) (.tmp 17))⟩,
               ⟨some 20, none, (.load 26 (.tmp 19))⟩,
               ⟨some 8, none, (.alloc 26)⟩,
               ⟨none, none, (.store 26 (.tmp 8) (.tmp 20))⟩])
             (.ops [⟨some 21, none, (.fieldAddr 26 (.tmp 6) 1)⟩,
               ⟨some 22, none, (.load 24 (.tmp 21))⟩,
               ⟨some 23, none, (.fieldAddr 26 (.tmp 8) 1)⟩,
               ⟨some 24, none, (.load 24 (.tmp 23))⟩,
               ⟨some 25, none, (.call ⟨(.builtin .append), #[(.tmp 22), (.tmp 24)], #[24, 24]⟩)⟩,
               ⟨some 26, none, (.fieldAddr 26 (.tmp 6) 1)⟩,
               ⟨none, none, (.store 24 (.tmp 26) (.tmp 25))⟩])))
           (.ops [⟨some 27, none, (.binOp .add 3 (.tmp 17) (.const (.int .i64 1)) 3)⟩,
             ⟨some 17, none, (.move (.tmp 27))⟩])))))))
     (.seq
      (.seq
       (.ops [⟨some 28, none, (.load 26 (.tmp 6))⟩,
         ⟨some 29, none, (.call ⟨(.value (.func 28)), #[(.tmp 28)], #[26]⟩)⟩,
         ⟨some 30, none, (.unOp .not 4 (.tmp 29))⟩])
       (.cond (.tmp 30)
        (.seq
         (.ops [⟨some 31, none, (.build 26 #[])⟩,
           ⟨none, none, (.store 26 (.tmp 4) (.tmp 31))⟩,
           ⟨some 5, none, (.assign (.const (.int .i64 6)))⟩])
         .ret)
        .skip))
      (.seq
       (.ops [⟨some 32, none, (.load 26 (.tmp 6))⟩,
         ⟨none, none, (.store 26 (.tmp 4) (.tmp 32))⟩,
         ⟨some 5, none, (.assign (.const (.int .i64 0)))⟩])
       .ret)))))
theorem w41 {args : Array Value} {H : AH} {Φ : Value → AH → Prop} (h : rW Try.prog k41 [] (fin Try.prog [(.cell 4 26), (.tmp 5)] Φ) (tm0 args) H) : CallsA Try.prog 41 args H Φ :=
  CallsA.w k41 [(.cell 4 26), (.tmp 5)] (fun _ => []) Try.func41 rfl rfl (by kernel_rfl) (by kernel_rfl) h

/-- impl.Turn -/
def k13 : KC :=
  (.seq
   (.ops [⟨some 1, none, (.box 26 (.tmp 0))⟩,
     ⟨some 2, none, (.alloc 26)⟩,
     ⟨some 3, none, (.assign (.const (.int .i64 0)))⟩])
   (.seq
    (.seq
     (.ops [⟨some 5, none, (.load 26 (.tmp 1))⟩,
       ⟨some 6, none, (.call ⟨(.value (.func 28)), #[(.tmp 5)], #[26]⟩)⟩,
       ⟨some 7, none, (.unOp .not 4 (.tmp 6))⟩])
     (.cond (.tmp 7)
      (.seq
       (.ops [⟨some 8, none, (.build 26 #[])⟩,
         ⟨none, none, (.store 26 (.tmp 2) (.tmp 8))⟩,
         ⟨some 3, none, (.assign (.const (.int .i64 1)))⟩])
       .ret)
      .skip))
    (.seq
     (.seq
      (.ops [⟨some 9, none, (.fieldAddr 26 (.tmp 1) 0)⟩,
        ⟨some 10, none, (.load 24 (.tmp 9))⟩,
        ⟨some 11, none, (.call ⟨(.builtin .len), #[(.tmp 10)], #[24]⟩)⟩,
        ⟨some 12, none, (.binOp .eql 3 (.tmp 11) (.const (.int .i64 0)) 3)⟩])
      (.cond (.tmp 12)
       (.seq
        (.ops [⟨some 13, none, (.load 26 (.tmp 1))⟩,
          ⟨some 14, none, (.call ⟨(.value (.func 29)), #[(.tmp 13)], #[26]⟩)⟩,
          ⟨none, none, (.store 26 (.tmp 2) (.tmp 14))⟩,
          ⟨some 3, none, (.assign (.const (.int .i64 0)))⟩])
        .ret)
       .skip))
     (.seq
      (.ops [⟨some 15, none, (.load 26 (.tmp 1))⟩,
        ⟨some 16, none, (.call ⟨(.value (.func 39)), #[(.tmp 15)], #[26]⟩)⟩,
        ⟨some 4, none, (.assign (.tmp 16))⟩])
      (.seq
       (.ops [⟨some 17, none, (.move (.tmp 4))⟩,
         ⟨some 18, none, (.call ⟨(.value (.func 40)), #[(.tmp 17)], #[62]⟩)⟩])
       (.seq
        (.ops [⟨some 19, none, (.move (.tmp 4))⟩,
          ⟨some 20, none, (.fieldAddr 26 (.tmp 1) 0)⟩,
          ⟨some 21, none, (.load 24 (.tmp 20))⟩,
          ⟨some 22, none, (.slice 24 (.tmp 21) (some (.const (.int .i64 1))) none none)⟩,
          ⟨some 23, none, (.call ⟨(.value (.func 41)), #[(.tmp 19), (.tmp 22)], #[62, 24]⟩)⟩,
          ⟨some 24, none, (.extract (.tmp 23) 0)⟩,
          ⟨some 25, none, (.extract (.tmp 23) 1)⟩,
          ⟨none, none, (.store 26 (.tmp 2) (.tmp 24))⟩,
          ⟨some 3, none, (.assign (.tmp 25))⟩])
        .ret))))))
theorem w13 {args : Array Value} {H : AH} {Φ : Value → AH → Prop} (h : rW Try.prog k13 [] (fin Try.prog [(.cell 2 26), (.tmp 3)] Φ) (tm0 args) H) : CallsA Try.prog 13 args H Φ :=
  CallsA.w k13 [(.cell 2 26), (.tmp 3)] (fun _ => []) Try.func13 rfl rfl (by kernel_rfl) (by kernel_rfl) h

/-- slices.Grow[[]int,int] -/
def k72 : KC :=
  (.seq
   (.ops [⟨some 4, none, (.assign (.const (.slice none 0 0)))⟩])
   (.seq
    (.seq
     (.ops [⟨some 5, none, (.move (.tmp 1))⟩,
       ⟨some 6, none, (.binOp .lss 3 (.tmp 5) (.const (.int .i64 0)) 3)⟩])
     (.cond (.tmp 6)
      (.ops [⟨some 7, none, (.makeInterface 9 (.const (.string ⟨#[99, 97, 110, 110, 111, 116, 32, 98, 101, 32, 110, 101, 103, 97, 116, 105, 118, 101]⟩)))⟩,
        ⟨none, none, (.panic (.tmp 7))⟩])
      .skip))
    (.seq
     (.seq
      (.ops [⟨some 8, none, (.move (.tmp 1))⟩,
        ⟨some 9, none, (.move (.tmp 0))⟩,
        ⟨some 10, none, (.call ⟨(.builtin .cap), #[(.tmp 9)], #[24]⟩)⟩,
        ⟨some 11, none, (.move (.tmp 0))⟩,
        ⟨some 12, none, (.call ⟨(.builtin .len), #[(.tmp 11)], #[24]⟩)⟩,
        ⟨some 13, none, (.binOp .sub 3 (.tmp 10) (.tmp 12) 3)⟩,
        ⟨some 14, none, (.binOp .sub 3 (.tmp 8) (.tmp 13) 3)⟩,
        ⟨some 1, none, (.assign (.tmp 14))⟩])
      (.seq
       (.ops [⟨some 15, none, (.move (.tmp 1))⟩,
         ⟨some 16, none, (.binOp .gtr 3 (.tmp 15) (.const (.int .i64 0)) 3)⟩])
       (.cond (.tmp 16)
        (.ops [⟨some 17, none, (.move (.tmp 0))⟩,
          ⟨some 18, none, (.move (.tmp 0))⟩,
          ⟨some 19, none, (.call ⟨(.builtin .cap), #[(.tmp 18)], #[24]⟩)⟩,
          ⟨some 20, none, (.slice 24 (.tmp 17) none (some (.tmp 19)) none)⟩,
          ⟨some 21, none, (.move (.tmp 1))⟩,
          ⟨some 22, none, (.call ⟨(.builtin .append), #[(.tmp 20), (.tmp 21)], #[24, 3]⟩)⟩,
          ⟨some 23, none, (.move (.tmp 0))⟩,
          ⟨some 24, none, (.call ⟨(.builtin .len), #[(.tmp 23)], #[24]⟩)⟩,
          ⟨some 25, none, (.slice 24 (.tmp 22) none (some (.tmp 24)) none)⟩,
          ⟨some 0, none, (.assign (.tmp 25))⟩])
        .skip)))
     (.seq
      (.ops [⟨some 26, none, (.move (.tmp 0))⟩,
        ⟨some 4, none, (.assign (.tmp 26))⟩])
      .ret))))
theorem w72 {args : Array Value} {H : AH} {Φ : Value → AH → Prop} (h : rW Try.prog k72 [] (fin Try.prog [(.tmp 4)] Φ) (tm0 args) H) : CallsA Try.prog 72 args H Φ :=
  CallsA.w k72 [(.tmp 4)] (fun _ => []) Try.func72 rfl rfl (by kernel_rfl) (by kernel_rfl) h

/-- slices.Concat[[]int,int] -/
def k42 : KC :=
  (.seq
   (.ops [⟨some 2, none, (.assign (.const (.slice none 0 0)))⟩])
   (.seq
    (.ops [⟨some 3, none, (.assign (.const (.int .i64 0)))⟩])
    (.seq
     (.seq
      (.ops [⟨some 9, none, (.move (.tmp 0))⟩,
        ⟨some 10, none, (.call ⟨(.builtin .len), #[(.tmp 9)], #[89]⟩)⟩,
        ⟨some 11, none, (.move (.const (.int .i64 0)))⟩])
      (.block 0
       (.loop
        (.seq
         (.ops [⟨some 12, none, (.binOp .lss 3 (.tmp 11) (.tmp 10) 3)⟩])
         (.seq
          (.cond (.tmp 12)
           .skip
           (.exit 0))
          (.seq
           (.block 1
            (.seq
             (.ops [⟨some 13, none, (.indexAddr 89 (.tmp 9) (.tmp 11))⟩,
               ⟨some 14, none, (.load 24 (.tmp 13))⟩,
               ⟨some 5, none, (.assign (.tmp 14))⟩])
             (.seq
              (.ops [⟨some 15, none, (.move (.tmp 3))⟩,
                ⟨some 16, none, (.move (.tmp 5))⟩,
                ⟨some 17, none, (.call ⟨(.builtin .len), #[(.tmp 16)], #[24]⟩)⟩,
                ⟨some 18, none, (.binOp .add 3 (.tmp 15) (.tmp 17) 3)⟩,
                ⟨some 3, none, (.assign (.tmp 18))⟩])
              (.seq
               (.ops [⟨some 19, none, (.move (.tmp 3))⟩,
                 ⟨some 20, none, (.binOp .lss 3 (.tmp 19) (.const (.int .i64 0)) 3)⟩])
               (.cond (.tmp 20)
                (.ops [⟨some 21, none, (.makeInterface 9 (.const (.string ⟨#[108, 101, 110, 32, 111, 117, 116, 32, 111, 102, 32, 114, 97, 110, 103, 101]⟩)))⟩,
                  ⟨none, none, (.panic (.tmp 21))⟩])
                .skip)))))
           (.ops [⟨some 22, none, (.binOp .add 3 (.tmp 11) (.const (.int .i64 1)) 3)⟩,
             ⟨some 11, none, (.move (.tmp 22))⟩])))))))
     (.seq
      (.ops [⟨some 23, none, (.move (.tmp 3))⟩,
        ⟨some 24, none, (.call ⟨(.value (.func 72)), #[(.const (.slice none 0 0)), (.tmp 23)], #[24, 3]⟩)⟩,
        ⟨some 6, none, (.assign (.tmp 24))⟩])
      (.seq
       (.seq
        (.ops [⟨some 25, none, (.move (.tmp 0))⟩,
          ⟨some 26, none, (.call ⟨(.builtin .len), #[(.tmp 25)], #[89]⟩)⟩,
          ⟨some 27, none, (.move (.const (.int .i64 0)))⟩])
        (.block 2
         (.loop
          (.seq
           (.ops [⟨some 28, none, (.binOp .lss 3 (.tmp 27) (.tmp 26) 3)⟩])
           (.seq
            (.cond (.tmp 28)
             .skip
             (.exit 2))
            (.seq
             (.block 3
              (.seq
               (.ops [⟨some 29, none, (.indexAddr 89 (.tmp 25) (.tmp 27))⟩,
                 ⟨some 30, none, (.load 24 (.tmp 29))⟩,
                 ⟨some 8, none, (.assign (.tmp 30))⟩])
               (.ops [⟨some 31, none, (.move (.tmp 6))⟩,
                 ⟨some 32, none, (.move (.tmp 8))⟩,
                 ⟨some 33, none, (.call ⟨(.builtin .append), #[(.tmp 31), (.tmp 32)], #[24, 24]⟩)⟩,
                 ⟨some 6, none, (.assign (.tmp 33))⟩])))
             (.ops [⟨some 34, none, (.binOp .add 3 (.tmp 27) (.const (.int .i64 1)) 3)⟩,
               ⟨some 27, none, (.move (.tmp 34))⟩])))))))
       (.seq
        (.ops [⟨some 35, none, (.move (.tmp 6))⟩,
          ⟨some 2, none, (.assign (.tmp 35))⟩])
        .ret))))))
theorem w42 {args : Array Value} {H : AH} {Φ : Value → AH → Prop} (h : rW Try.prog k42 [] (fin Try.prog [(.tmp 2)] Φ) (tm0 args) H) : CallsA Try.prog 42 args H Φ :=
  CallsA.w k42 [(.tmp 2)] (fun _ => []) Try.func42 rfl rfl (by kernel_rfl) (by kernel_rfl) h

/-- impl.Pick -/
def k14 : KC :=
  (.seq
   (.ops [⟨some 2, none, (.box 26 (.tmp 0))⟩,
     ⟨some 3, none, (.box 26 (.tmp 1))⟩,
     ⟨some 4, none, (.alloc 26)⟩,
     ⟨some 5, none, (.assign (.const (.int .i64 0)))⟩])
   (.seq
    (.block 0
     (.seq
      (.ops [⟨some 11, none, (.load 26 (.tmp 2))⟩,
        ⟨some 12, none, (.call ⟨(.value (.func 28)), #[(.tmp 11)], #[26]⟩)⟩,
        ⟨some 13, none, (.unOp .not 4 (.tmp 12))⟩,
        ⟨some 14, none, (.move (.tmp 13))⟩,
        ⟨some 15, (some (14, false)), (.load 26 (.tmp 3))⟩,
        ⟨some 16, (some (14, false)), (.call ⟨(.value (.func 28)), #[(.tmp 15)], #[26]⟩)⟩,
        ⟨some 17, (some (14, false)), (.unOp .not 4 (.tmp 16))⟩,
        ⟨some 18, none, (.pick (.tmp 14) (.const (.bool true)) (.tmp 17))⟩,
        ⟨some 10, none, (.assign (.tmp 18))⟩])
      (.cond (.tmp 10)
       (.seq
        (.ops [⟨some 19, none, (.build 26 #[])⟩,
          ⟨none, none, (.store 26 (.tmp 4) (.tmp 19))⟩,
          ⟨some 5, none, (.assign (.const (.int .i64 1)))⟩])
        .ret)
       (.seq
        (.ops [⟨some 21, none, (.fieldAddr 26 (.tmp 3) 0)⟩,
          ⟨some 22, none, (.load 24 (.tmp 21))⟩,
          ⟨some 23, none, (.call ⟨(.builtin .len), #[(.tmp 22)], #[24]⟩)⟩,
          ⟨some 24, none, (.binOp .eql 3 (.tmp 23) (.const (.int .i64 0)) 3)⟩,
          ⟨some 25, none, (.move (.tmp 24))⟩,
          ⟨some 26, (some (25, false)), (.fieldAddr 26 (.tmp 2) 0)⟩,
          ⟨some 27, (some (25, false)), (.load 24 (.tmp 26))⟩,
          ⟨some 28, (some (25, false)), (.call ⟨(.builtin .len), #[(.tmp 27)], #[24]⟩)⟩,
          ⟨some 29, (some (25, false)), (.fieldAddr 26 (.tmp 3) 0)⟩,
          ⟨some 30, (some (25, false)), (.load 24 (.tmp 29))⟩,
          ⟨some 31, (some (25, false)), (.call ⟨(.builtin .len), #[(.tmp 30)], #[24]⟩)⟩,
          ⟨some 32, (some (25, false)), (.binOp .add 3 (.tmp 28) (.tmp 31) 3)⟩,
          ⟨some 33, (some (25, false)), (.binOp .sub 3 (.tmp 32) (.const (.int .i64 1)) 3)⟩,
          ⟨some 34, (some (25, false)), (.binOp .gtr 3 (.tmp 33) (.const (.int .i64 3)) 3)⟩,
          ⟨some 35, none, (.pick (.tmp 25) (.const (.bool true)) (.tmp 34))⟩,
          ⟨some 20, none, (.assign (.tmp 35))⟩])
        (.cond (.tmp 20)
         (.seq
          (.ops [⟨some 36, none, (.build 26 #[])⟩,
            ⟨none, none, (.store 26 (.tmp 4) (.tmp 36))⟩,
            ⟨some 5, none, (.assign (.const (.int .i64 4)))⟩])
          .ret)
         .skip)))))
    (.seq
     (.ops [⟨some 37, none, (.load 26 (.tmp 3))⟩,
       ⟨some 38, none, (.call ⟨(.value (.func 39)), #[(.tmp 37)], #[26]⟩)⟩,
       ⟨some 6, none, (.assign (.tmp 38))⟩])
     (.seq
      (.draw #[] [(1, 0), (3, 0)]
        [⟨some 39, none, (.fieldAddr 26 (.tmp 2) 0)⟩,
        ⟨some 40, none, (.load 24 (.tmp 39))⟩,
        ⟨some 41, none, (.fieldAddr 26 (.tmp 3) 0)⟩,
        ⟨some 42, none, (.load 24 (.tmp 41))⟩,
        ⟨some 43, none, (.slice 24 (.tmp 42) (some (.const (.int .i64 1))) none none)⟩,
        ⟨some 44, none, (.buildSlice 89 2 #[(0, (.tmp 40)), (1, (.tmp 43))])⟩,
        ⟨some 45, none, (.call ⟨(.value (.func 42)), #[(.tmp 44)], #[89]⟩)⟩,
        ⟨some 46, none, (.build 26 #[(0, (.tmp 45))])⟩,
        ⟨some 7, none, (.alloc 26)⟩,
        ⟨none, none, (.store 26 (.tmp 7) (.tmp 46))⟩])
      (.seq
       (.seq
        (.ops [⟨some 47, none, (.fieldAddr 26 (.tmp 2) 1)⟩,
          ⟨some 48, none, (.load 24 (.tmp 47))⟩,
          ⟨some 49, none, (.call ⟨(.builtin .len), #[(.tmp 48)], #[24]⟩)⟩,
          ⟨some 50, none, (.move (.const (.int .i64 0)))⟩])
        (.block 1
         (.loop
          (.seq
           (.ops [⟨some 51, none, (.binOp .lss 3 (.tmp 50) (.tmp 49) 3)⟩])
           (.seq
            (.cond (.tmp 51)
             .skip
             (.exit 1))
            (.seq
             (.block 2
              (.seq
               (.ops [⟨some 52, none, (.indexAddr 24 (.tmp 48) (.tmp 50))⟩,
                 ⟨some 53, none, (.load 3 (.tmp 52))⟩,
                 ⟨some 9, none, (.assign (.tmp 53))⟩])
               (.seq
                (.seq
                 (.ops [⟨some 54, none, (.move (.tmp 9))⟩,
                   ⟨some 55, none, (.binOp .lss 3 (.tmp 54) (.const (.int .i64 0)) 3)⟩])
                 (.cond (.tmp 55)
                  (.ops [⟨some 56, none, (.move (.tmp 9))⟩,
                    ⟨some 57, none, (.move (.tmp 6))⟩,
                    ⟨some 58, none, (.call ⟨(.builtin .len), #[(.tmp 57)], #[62]⟩)⟩,
                    ⟨some 59, none, (.binOp .add 3 (.tmp 56) (.tmp 58) 3)⟩,
                    ⟨some 9, none, (.assign (.tmp 59))⟩])
                  .skip))
                (.seq
                 (.seq
                  (.ops [⟨some 60, none, (.move (.tmp 9))⟩,
                    ⟨some 61, none, (.move (.tmp 6))⟩,
                    ⟨some 62, none, (.call ⟨(.builtin .len), #[(.tmp 61)], #[62]⟩)⟩,
                    ⟨some 63, none, (.binOp .sub 3 (.tmp 62) (.const (.int .i64 1)) 3)⟩,
                    ⟨some 64, none, (.call ⟨(.value (.func 43)), #[(.tmp 60), (.const (.int .i64 0)), (.tmp 63)], #[3, 3, 3]⟩)⟩,
                    ⟨some 65, none, (.unOp .not 4 (.tmp 64))⟩])
                  (.cond (.tmp 65)
                   (.seq
                    (.ops [⟨some 66, none, (.build 26 #[])⟩,
                      ⟨none, none, (.store 26 (.tmp 4) (.tmp 66))⟩,
                      ⟨some 5, none, (.assign (.const (.int .i64 5)))⟩])
                    .ret)
                   .skip))
                 (.draw #[] [(1, 0), (6, 0)]
                   [⟨some 67, none, (.fieldAddr 26 (.tmp 7) 1)⟩,
                   ⟨some 68, none, (.load 24 (.tmp 67))⟩,
                   ⟨some 69, none, (.move (.tmp 6))⟩,
                   ⟨some 70, none, (.move (.tmp 9))⟩,
                   ⟨some 71, none, (.indexAddr 62 (.tmp 69) (.tmp 70))⟩,
                   ⟨some 72, none, (.fieldAddr 26 (.tmp 71) 1)⟩,
                   ⟨some 73, none, (.load 24 (.tmp 72))⟩,
                   ⟨some 74, none, (.call ⟨(.builtin .append), #[(.tmp 68), (.tmp 73)], #[24, 24]⟩)⟩,
                   ⟨some 75, none, (.fieldAddr 26 (.tmp 7) 1)⟩,
                   ⟨none, none, (.store 24 (.tmp 75) (.tmp 74))⟩])))))
             (.ops [⟨some 76, none, (.binOp .add 3 (.tmp 50) (.const (.int .i64 1)) 3)⟩,
               ⟨some 50, none, (.move (.tmp 76))⟩])))))))
       (.seq
        (.seq
         (.ops [⟨some 77, none, (.load 26 (.tmp 7))⟩,
           ⟨some 78, none, (.call ⟨(.value (.func 28)), #[(.tmp 77)], #[26]⟩)⟩,
           ⟨some 79, none, (.unOp .not 4 (.tmp 78))⟩])
         (.cond (.tmp 79)
          (.seq
           (.ops [⟨some 80, none, (.build 26 #[])⟩,
             ⟨none, none, (.store 26 (.tmp 4) (.tmp 80))⟩,
             ⟨some 5, none, (.assign (.const (.int .i64 6)))⟩])
           .ret)
          .skip))
        (.seq
         (.ops [⟨some 81, none, (.load 26 (.tmp 7))⟩,
           ⟨none, none, (.store 26 (.tmp 4) (.tmp 81))⟩,
           ⟨some 5, none, (.assign (.const (.int .i64 0)))⟩])
         .ret)))))))
theorem w14 {args : Array Value} {H : AH} {Φ : Value → AH → Prop} (h : rW Try.prog k14 [] (fin Try.prog [(.cell 4 26), (.tmp 5)] Φ) (tm0 args) H) : CallsA Try.prog 14 args H Φ :=
  CallsA.w k14 [(.cell 4 26), (.tmp 5)] (fun i => if i = 6 then [(1, 0), (3, 0)] else if i = 14 then [(1, 0), (6, 0)] else []) Try.func14 rfl rfl (by kernel_rfl) (by kernel_rfl) h

/-- laws.sameInts -/
def k44 : KC :=
  (.seq
   (.ops [⟨some 4, none, (.assign (.const (.bool false)))⟩])
   (.seq
    (.seq
     (.ops [⟨some 6, none, (.move (.tmp 0))⟩,
       ⟨some 7, none, (.call ⟨(.builtin .len), #[(.tmp 6)], #[24]⟩)⟩,
       ⟨some 8, none, (.move (.tmp 1))⟩,
       ⟨some 9, none, (.call ⟨(.builtin .len), #[(.tmp 8)], #[24]⟩)⟩,
       ⟨some 10, none, (.binOp .neq 3 (.tmp 7) (.tmp 9) 3)⟩])
     (.cond (.tmp 10)
      (.seq
       (.ops [⟨some 4, none, (.assign (.const (.bool false)))⟩])
       .ret)
      .skip))
    (.seq
     (.seq
      (.ops [⟨some 5, none, (.assign (.const (.int .i64 0)))⟩])
      (.block 0
       (.loop
        (.seq
         (.seq
          (.ops [⟨some 11, none, (.move (.tmp 5))⟩,
            ⟨some 12, none, (.move (.tmp 0))⟩,
            ⟨some 13, none, (.call ⟨(.builtin .len), #[(.tmp 12)], #[24]⟩)⟩,
            ⟨some 14, none, (.binOp .lss 3 (.tmp 11) (.tmp 13) 3)⟩])
          (.cond (.tmp 14)
           .skip
           (.exit 0)))
         (.seq
          (.block 1
           (.seq
            (.ops [⟨some 17, none, (.move (.tmp 0))⟩,
              ⟨some 18, none, (.move (.tmp 5))⟩,
              ⟨some 19, none, (.indexAddr 24 (.tmp 17) (.tmp 18))⟩,
              ⟨some 20, none, (.load 3 (.tmp 19))⟩,
              ⟨some 21, none, (.move (.tmp 1))⟩,
              ⟨some 22, none, (.move (.tmp 5))⟩,
              ⟨some 23, none, (.indexAddr 24 (.tmp 21) (.tmp 22))⟩,
              ⟨some 24, none, (.load 3 (.tmp 23))⟩,
              ⟨some 25, none, (.binOp .neq 3 (.tmp 20) (.tmp 24) 3)⟩])
            (.cond (.tmp 25)
             (.seq
              (.ops [⟨some 4, none, (.assign (.const (.bool false)))⟩])
              .ret)
             .skip)))
          (.ops [⟨some 15, none, (.move (.tmp 5))⟩,
            ⟨some 16, none, (.binOp .add 3 (.tmp 15) (.const (.int .i64 1)) 3)⟩,
            ⟨some 5, none, (.assign (.tmp 16))⟩]))))))
     (.seq
      (.ops [⟨some 4, none, (.assign (.const (.bool true)))⟩])
      .ret))))
theorem w44 {args : Array Value} {H : AH} {Φ : Value → AH → Prop} (h : rW Try.prog k44 [] (fin Try.prog [(.tmp 4)] Φ) (tm0 args) H) : CallsA Try.prog 44 args H Φ :=
  CallsA.w k44 [(.tmp 4)] (fun i => if i = 6 then [(3, 0), (7, 0)] else []) Try.func44 rfl rfl (by kernel_rfl) (by kernel_rfl) h

/-- laws.sameArray -/
def k15 : KC :=
  (.seq
   (.ops [⟨some 2, none, (.box 26 (.tmp 0))⟩,
     ⟨some 3, none, (.box 26 (.tmp 1))⟩,
     ⟨some 4, none, (.assign (.const (.bool false)))⟩])
   (.seq
    (.ops [⟨some 5, none, (.fieldAddr 26 (.tmp 2) 0)⟩,
      ⟨some 6, none, (.load 24 (.tmp 5))⟩,
      ⟨some 7, none, (.fieldAddr 26 (.tmp 3) 0)⟩,
      ⟨some 8, none, (.load 24 (.tmp 7))⟩,
      ⟨some 9, none, (.call ⟨(.value (.func 44)), #[(.tmp 6), (.tmp 8)], #[24, 24]⟩)⟩,
      ⟨some 10, none, (.move (.tmp 9))⟩,
      ⟨some 11, (some (10, true)), (.fieldAddr 26 (.tmp 2) 1)⟩,
      ⟨some 12, (some (10, true)), (.load 24 (.tmp 11))⟩,
      ⟨some 13, (some (10, true)), (.fieldAddr 26 (.tmp 3) 1)⟩,
      ⟨some 14, (some (10, true)), (.load 24 (.tmp 13))⟩,
      ⟨some 15, (some (10, true)), (.call ⟨(.value (.func 44)), #[(.tmp 12), (.tmp 14)], #[24, 24]⟩)⟩,
      ⟨some 16, none, (.pick (.tmp 10) (.tmp 15) (.const (.bool false)))⟩,
      ⟨some 4, none, (.assign (.tmp 16))⟩])
    .ret))
theorem w15 {args : Array Value} {H : AH} {Φ : Value → AH → Prop} (h : rW Try.prog k15 [] (fin Try.prog [(.tmp 4)] Φ) (tm0 args) H) : CallsA Try.prog 15 args H Φ :=
  CallsA.w k15 [(.tmp 4)] (fun _ => []) Try.func15 rfl rfl (by kernel_rfl) (by kernel_rfl) h

/-- laws.FnWhole -/
def k3 : KC :=
  (.seq
   (.ops [⟨some 2, none, (.assign (.const (.bool false)))⟩])
   (.seq
    (.seq
     (.ops [⟨some 20, none, (.move (.tmp 0))⟩,
       ⟨some 21, none, (.call ⟨(.value (.func 7)), #[(.tmp 20)], #[22]⟩)⟩])
     (.cond (.tmp 21)
      (.seq
       (.ops [⟨some 2, none, (.assign (.const (.bool true)))⟩])
       .ret)
      .skip))
    (.seq
     (.ops [⟨some 22, none, (.move (.tmp 0))⟩,
       ⟨some 23, none, (.call ⟨(.value (.func 8)), #[(.tmp 22)], #[22]⟩)⟩,
       ⟨some 3, none, (.alloc 26)⟩,
       ⟨none, none, (.store 26 (.tmp 3) (.tmp 23))⟩])
     (.seq
      (.ops [⟨some 25, none, (.load 26 (.tmp 3))⟩,
        ⟨some 26, none, (.call ⟨(.value (.func 9)), #[(.tmp 25)], #[26]⟩)⟩,
        ⟨some 24, none, (.move (.tmp 26))⟩,
        ⟨some 27, none, (.extract (.tmp 24) 0)⟩,
        ⟨some 28, none, (.extract (.tmp 24) 1)⟩,
        ⟨some 4, none, (.alloc 26)⟩,
        ⟨none, none, (.store 26 (.tmp 4) (.tmp 27))⟩,
        ⟨some 5, none, (.assign (.tmp 28))⟩])
      (.seq
       (.ops [⟨some 30, none, (.load 26 (.tmp 3))⟩,
         ⟨some 31, none, (.call ⟨(.value (.func 10)), #[(.tmp 30)], #[26]⟩)⟩,
         ⟨some 29, none, (.move (.tmp 31))⟩,
         ⟨some 32, none, (.extract (.tmp 29) 0)⟩,
         ⟨some 33, none, (.extract (.tmp 29) 1)⟩,
         ⟨some 6, none, (.alloc 26)⟩,
         ⟨none, none, (.store 26 (.tmp 6) (.tmp 32))⟩,
         ⟨some 7, none, (.assign (.tmp 33))⟩])
       (.seq
        (.seq
         (.ops [⟨some 34, none, (.move (.tmp 5))⟩,
           ⟨some 35, none, (.move (.tmp 7))⟩,
           ⟨some 36, none, (.binOp .neq 3 (.tmp 34) (.tmp 35) 3)⟩])
         (.cond (.tmp 36)
          (.seq
           (.ops [⟨some 2, none, (.assign (.const (.bool false)))⟩])
           .ret)
          .skip))
        (.seq
         (.seq
          (.ops [⟨some 37, none, (.move (.tmp 5))⟩,
            ⟨some 38, none, (.binOp .neq 3 (.tmp 37) (.const (.int .i64 0)) 3)⟩,
            ⟨some 39, none, (.move (.tmp 38))⟩,
            ⟨some 40, (some (39, false)), (.fieldAddr 26 (.tmp 3) 0)⟩,
            ⟨some 41, (some (39, false)), (.load 24 (.tmp 40))⟩,
            ⟨some 42, (some (39, false)), (.call ⟨(.builtin .len), #[(.tmp 41)], #[24]⟩)⟩,
            ⟨some 43, (some (39, false)), (.binOp .eql 3 (.tmp 42) (.const (.int .i64 0)) 3)⟩,
            ⟨some 44, none, (.pick (.tmp 39) (.const (.bool true)) (.tmp 43))⟩])
          (.cond (.tmp 44)
           (.seq
            (.ops [⟨some 45, none, (.move (.tmp 5))⟩,
              ⟨some 46, none, (.binOp .eql 3 (.tmp 45) (.const (.int .i64 0)) 3)⟩,
              ⟨some 47, none, (.move (.tmp 46))⟩,
              ⟨some 48, (some (47, false)), (.fieldAddr 26 (.tmp 4) 1)⟩,
              ⟨some 49, (some (47, false)), (.load 24 (.tmp 48))⟩,
              ⟨some 50, (some (47, false)), (.call ⟨(.builtin .len), #[(.tmp 49)], #[24]⟩)⟩,
              ⟨some 51, (some (47, false)), (.binOp .eql 3 (.tmp 50) (.const (.int .i64 0)) 3)⟩,
              ⟨some 52, none, (.pick (.tmp 47) (.const (.bool true)) (.tmp 51))⟩,
              ⟨some 2, none, (.assign (.tmp 52))⟩])
            .ret)
           .skip))
         (.seq
          (.ops [⟨some 54, none, (.fieldAddr 26 (.tmp 3) 0)⟩,
            ⟨some 55, none, (.load 24 (.tmp 54))⟩,
            ⟨some 56, none, (.indexAddr 24 (.tmp 55) (.const (.int .i64 0)))⟩,
            ⟨some 57, none, (.load 3 (.tmp 56))⟩,
            ⟨some 58, none, (.call ⟨(.value (.func 11)), #[(.tmp 57)], #[3]⟩)⟩,
            ⟨some 53, none, (.move (.tmp 58))⟩,
            ⟨some 59, none, (.extract (.tmp 53) 0)⟩,
            ⟨some 60, none, (.extract (.tmp 53) 1)⟩,
            ⟨some 8, none, (.alloc 26)⟩,
            ⟨none, none, (.store 26 (.tmp 8) (.tmp 59))⟩,
            ⟨some 9, none, (.assign (.tmp 60))⟩])
          (.seq
           (.ops [⟨some 62, none, (.load 26 (.tmp 8))⟩,
             ⟨some 63, none, (.call ⟨(.value (.func 12)), #[(.tmp 62)], #[26]⟩)⟩,
             ⟨some 61, none, (.move (.tmp 63))⟩,
             ⟨some 64, none, (.extract (.tmp 61) 0)⟩,
             ⟨some 65, none, (.extract (.tmp 61) 1)⟩,
             ⟨some 10, none, (.alloc 26)⟩,
             ⟨none, none, (.store 26 (.tmp 10) (.tmp 64))⟩,
             ⟨some 11, none, (.assign (.tmp 65))⟩])
           (.seq
            (.ops [⟨some 67, none, (.load 26 (.tmp 10))⟩,
              ⟨some 68, none, (.call ⟨(.value (.func 13)), #[(.tmp 67)], #[26]⟩)⟩,
              ⟨some 66, none, (.move (.tmp 68))⟩,
              ⟨some 69, none, (.extract (.tmp 66) 0)⟩,
              ⟨some 70, none, (.extract (.tmp 66) 1)⟩,
              ⟨some 12, none, (.alloc 26)⟩,
              ⟨none, none, (.store 26 (.tmp 12) (.tmp 69))⟩,
              ⟨some 13, none, (.assign (.tmp 70))⟩])
            (.seq
             (.ops [⟨some 72, none, (.load 26 (.tmp 10))⟩,
               ⟨some 73, none, (.load 26 (.tmp 3))⟩,
               ⟨some 74, none, (.call ⟨(.value (.func 14)), #[(.tmp 72), (.tmp 73)], #[26, 26]⟩)⟩,
               ⟨some 71, none, (.move (.tmp 74))⟩,
               ⟨some 75, none, (.extract (.tmp 71) 0)⟩,
               ⟨some 76, none, (.extract (.tmp 71) 1)⟩,
               ⟨some 14, none, (.alloc 26)⟩,
               ⟨none, none, (.store 26 (.tmp 14) (.tmp 75))⟩,
               ⟨some 15, none, (.assign (.tmp 76))⟩])
             (.seq
              (.ops [⟨some 78, none, (.load 26 (.tmp 12))⟩,
                ⟨some 79, none, (.load 26 (.tmp 3))⟩,
                ⟨some 80, none, (.call ⟨(.value (.func 14)), #[(.tmp 78), (.tmp 79)], #[26, 26]⟩)⟩,
                ⟨some 77, none, (.move (.tmp 80))⟩,
                ⟨some 81, none, (.extract (.tmp 77) 0)⟩,
                ⟨some 82, none, (.extract (.tmp 77) 1)⟩,
                ⟨some 16, none, (.alloc 26)⟩,
                ⟨none, none, (.store 26 (.tmp 16) (.tmp 81))⟩,
                ⟨some 17, none, (.assign (.tmp 82))⟩])
              (.seq
               (.ops [⟨some 84, none, (.load 26 (.tmp 3))⟩,
                 ⟨some 85, none, (.call ⟨(.value (.func 13)), #[(.tmp 84)], #[26]⟩)⟩,
                 ⟨some 83, none, (.move (.tmp 85))⟩,
                 ⟨some 86, none, (.extract (.tmp 83) 0)⟩,
                 ⟨some 87, none, (.extract (.tmp 83) 1)⟩,
                 ⟨some 18, none, (.alloc 26)⟩,
                 ⟨none, none, (.store 26 (.tmp 18) (.tmp 86))⟩,
                 ⟨some 19, none, (.assign (.tmp 87))⟩])
               (.seq
                (.ops [⟨some 88, none, (.move (.tmp 11))⟩,
                  ⟨some 89, none, (.move (.tmp 13))⟩,
                  ⟨some 90, none, (.binOp .add 3 (.tmp 88) (.tmp 89) 3)⟩,
                  ⟨some 91, none, (.move (.tmp 15))⟩,
                  ⟨some 92, none, (.binOp .add 3 (.tmp 90) (.tmp 91) 3)⟩,
                  ⟨some 93, none, (.move (.tmp 17))⟩,
                  ⟨some 94, none, (.binOp .add 3 (.tmp 92) (.tmp 93) 3)⟩,
                  ⟨some 95, none, (.move (.tmp 19))⟩,
                  ⟨some 96, none, (.binOp .add 3 (.tmp 94) (.tmp 95) 3)⟩,
                  ⟨some 97, none, (.binOp .eql 3 (.tmp 96) (.const (.int .i64 0)) 3)⟩,
                  ⟨some 98, none, (.move (.tmp 97))⟩,
                  ⟨some 99, (some (98, true)), (.load 26 (.tmp 14))⟩,
                  ⟨some 100, (some (98, true)), (.load 26 (.tmp 3))⟩,
                  ⟨some 101, (some (98, true)), (.call ⟨(.value (.func 15)), #[(.tmp 99), (.tmp 100)], #[26, 26]⟩)⟩,
                  ⟨some 102, none, (.pick (.tmp 98) (.tmp 101) (.const (.bool false)))⟩,
                  ⟨some 103, none, (.move (.tmp 102))⟩,
                  ⟨some 104, (some (103, true)), (.load 26 (.tmp 16))⟩,
                  ⟨some 105, (some (103, true)), (.load 26 (.tmp 18))⟩,
                  ⟨some 106, (some (103, true)), (.call ⟨(.value (.func 15)), #[(.tmp 104), (.tmp 105)], #[26, 26]⟩)⟩,
                  ⟨some 107, none, (.pick (.tmp 103) (.tmp 106) (.const (.bool false)))⟩,
                  ⟨some 2, none, (.assign (.tmp 107))⟩])
                .ret))))))))))))))
theorem w3 {args : Array Value} {H : AH} {Φ : Value → AH → Prop} (h : rW Try.prog k3 [] (fin Try.prog [(.tmp 2)] Φ) (tm0 args) H) : CallsA Try.prog 3 args H Φ :=
  CallsA.w k3 [(.tmp 2)] (fun _ => []) Try.func3 rfl rfl (by kernel_rfl) (by kernel_rfl) h

end Go.Proofs.Ytpclegiocblpmaa.AM
