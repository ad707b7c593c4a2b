/- The code of the functions that the laws reach, made short; and facts on the types that they use. -/
import Derived.Test.YtmlimgdpcoloiaaA8
import Derived.KernelRfl
import Derived.Test.YtmlimgdpcoloiaaRows
set_option linter.unusedVariables false
set_option linter.unusedSimpArgs false
set_option linter.defProp false
set_option maxRecDepth 100000
/- The code of the functions that the laws reach, made short; and facts on the types that they use. -/
namespace Go.Proofs.Ytmlimgdpcoloiaa.AM
open Go Go.Proofs.Ytmlimgdpcoloiaa Go.Proofs

theorem al26 {ev : Operand → Value} : aMake Try.prog ev (.alloc 26) = some ([.slice none 0 0, .slice none 0 0], none) := by kernel_rfl
theorem ap22_22 {a a' : Option Addr} {n c n' c' : Nat} {H : AH} : aAppend Try.prog #[22, 22] #[.slice a n c, .slice a' n' c'] H = app 1 (.slice a n c) (.slice a' n' c') H := append_eq (z := .int .i64 0) (e := 3) (e' := 3) (by kernel_rfl) (by kernel_rfl) (by kernel_rfl) (by kernel_rfl) (by kernel_rfl) (by kernel_rfl)
theorem ap39_39 {a a' : Option Addr} {n c n' c' : Nat} {H : AH} : aAppend Try.prog #[39, 39] #[.slice a n c, .slice a' n' c'] H = app 2 (.slice a n c) (.slice a' n' c') H := append_eq (z := .agg #[.slice none 0 0, .slice none 0 0]) (e := 26) (e' := 26) (by kernel_rfl) (by kernel_rfl) (by kernel_rfl) (by kernel_rfl) (by kernel_rfl) (by kernel_rfl)
theorem bd26 {ps : Array (Nat × Value)} : aBuild Try.prog 26 ps = (fillP [(0, 1), (1, 1)] [.slice none 0 0, .slice none 0 0] ps.toList).map fun cs => .agg cs.toArray := build_eq (z := .agg #[.slice none 0 0, .slice none 0 0]) Try.underlying26 (by kernel_rfl) (by kernel_rfl) (by kernel_rfl) rfl
theorem bd146 {ps : Array (Nat × Value)} : aBuild Try.prog 146 ps = (fillP [(0, 1), (1, 1), (2, 1)] [.slice none 0 0, .int .i64 0, .int .i64 0] ps.toList).map fun cs => .agg cs.toArray := build_eq (z := .agg #[.slice none 0 0, .int .i64 0, .int .i64 0]) Try.underlying146 (by kernel_rfl) (by kernel_rfl) (by kernel_rfl) rfl
theorem bs22_0 {ev : Operand → Value} : aMake Try.prog ev (.buildSlice 22 0 #[]) = (fillP [] [] []).map fun cs => (cs, some (0, 1)) := bslice_eq (z := .int .i64 0) (e := 3) (by kernel_rfl) (by kernel_rfl) (by kernel_rfl) (by decide) (by kernel_rfl) (by kernel_rfl) rfl rfl
theorem bs22_1 {ev : Operand → Value} {x0 : Operand} : aMake Try.prog ev (.buildSlice 22 1 #[(0, x0)]) = (fillP [(0, 1)] [.int .i64 0] [(0, ev x0)]).map fun cs => (cs, some (1, 1)) := bslice_eq (z := .int .i64 0) (e := 3) (by kernel_rfl) (by kernel_rfl) (by kernel_rfl) (by decide) (by kernel_rfl) (by kernel_rfl) rfl rfl
theorem bs22_2 {ev : Operand → Value} {x0 x1 : Operand} : aMake Try.prog ev (.buildSlice 22 2 #[(0, x0), (1, x1)]) = (fillP [(0, 1), (1, 1)] [.int .i64 0, .int .i64 0] [(0, ev x0), (1, ev x1)]).map fun cs => (cs, some (2, 1)) := bslice_eq (z := .int .i64 0) (e := 3) (by kernel_rfl) (by kernel_rfl) (by kernel_rfl) (by decide) (by kernel_rfl) (by kernel_rfl) rfl rfl
theorem bs22_3 {ev : Operand → Value} {x0 x1 x2 : Operand} : aMake Try.prog ev (.buildSlice 22 3 #[(0, x0), (1, x1), (2, x2)]) = (fillP [(0, 1), (1, 1), (2, 1)] [.int .i64 0, .int .i64 0, .int .i64 0] [(0, ev x0), (1, ev x1), (2, ev x2)]).map fun cs => (cs, some (3, 1)) := bslice_eq (z := .int .i64 0) (e := 3) (by kernel_rfl) (by kernel_rfl) (by kernel_rfl) (by decide) (by kernel_rfl) (by kernel_rfl) rfl rfl
theorem bs22_4 {ev : Operand → Value} {x0 x1 x2 x3 : Operand} : aMake Try.prog ev (.buildSlice 22 4 #[(0, x0), (1, x1), (2, x2), (3, x3)]) = (fillP [(0, 1), (1, 1), (2, 1), (3, 1)] [.int .i64 0, .int .i64 0, .int .i64 0, .int .i64 0] [(0, ev x0), (1, ev x1), (2, ev x2), (3, ev x3)]).map fun cs => (cs, some (4, 1)) := bslice_eq (z := .int .i64 0) (e := 3) (by kernel_rfl) (by kernel_rfl) (by kernel_rfl) (by decide) (by kernel_rfl) (by kernel_rfl) rfl rfl
theorem bs22_5 {ev : Operand → Value} {x0 x1 x2 x3 x4 : Operand} : aMake Try.prog ev (.buildSlice 22 5 #[(0, x0), (1, x1), (2, x2), (3, x3), (4, x4)]) = (fillP [(0, 1), (1, 1), (2, 1), (3, 1), (4, 1)] [.int .i64 0, .int .i64 0, .int .i64 0, .int .i64 0, .int .i64 0] [(0, ev x0), (1, ev x1), (2, ev x2), (3, ev x3), (4, ev x4)]).map fun cs => (cs, some (5, 1)) := bslice_eq (z := .int .i64 0) (e := 3) (by kernel_rfl) (by kernel_rfl) (by kernel_rfl) (by decide) (by kernel_rfl) (by kernel_rfl) rfl rfl
theorem bs22_7 {ev : Operand → Value} {x0 x1 x2 x3 x4 x5 x6 : Operand} : aMake Try.prog ev (.buildSlice 22 7 #[(0, x0), (1, x1), (2, x2), (3, x3), (4, x4), (5, x5), (6, x6)]) = (fillP [(0, 1), (1, 1), (2, 1), (3, 1), (4, 1), (5, 1), (6, 1)] [.int .i64 0, .int .i64 0, .int .i64 0, .int .i64 0, .int .i64 0, .int .i64 0, .int .i64 0] [(0, ev x0), (1, ev x1), (2, ev x2), (3, ev x3), (4, ev x4), (5, ev x5), (6, ev x6)]).map fun cs => (cs, some (7, 1)) := bslice_eq (z := .int .i64 0) (e := 3) (by kernel_rfl) (by kernel_rfl) (by kernel_rfl) (by decide) (by kernel_rfl) (by kernel_rfl) rfl rfl
theorem bs22_11 {ev : Operand → Value} {x0 x1 x2 x3 x4 x5 x6 x7 x8 x9 x10 : Operand} : aMake Try.prog ev (.buildSlice 22 11 #[(0, x0), (1, x1), (2, x2), (3, x3), (4, x4), (5, x5), (6, x6), (7, x7), (8, x8), (9, x9), (10, x10)]) = (fillP [(0, 1), (1, 1), (2, 1), (3, 1), (4, 1), (5, 1), (6, 1), (7, 1), (8, 1), (9, 1), (10, 1)] [.int .i64 0, .int .i64 0, .int .i64 0, .int .i64 0, .int .i64 0, .int .i64 0, .int .i64 0, .int .i64 0, .int .i64 0, .int .i64 0, .int .i64 0] [(0, ev x0), (1, ev x1), (2, ev x2), (3, ev x3), (4, ev x4), (5, ev x5), (6, ev x6), (7, ev x7), (8, ev x8), (9, ev x9), (10, ev x10)]).map fun cs => (cs, some (11, 1)) := bslice_eq (z := .int .i64 0) (e := 3) (by kernel_rfl) (by kernel_rfl) (by kernel_rfl) (by decide) (by kernel_rfl) (by kernel_rfl) rfl rfl
theorem bs39_0 {ev : Operand → Value} : aMake Try.prog ev (.buildSlice 39 0 #[]) = (fillP [] [] []).map fun cs => (cs, some (0, 2)) := bslice_eq (z := .agg #[.slice none 0 0, .slice none 0 0]) (e := 26) (by kernel_rfl) (by kernel_rfl) (by kernel_rfl) (by decide) (by kernel_rfl) (by kernel_rfl) rfl rfl
theorem bs39_1 {ev : Operand → Value} {x0 : Operand} : aMake Try.prog ev (.buildSlice 39 1 #[(0, x0)]) = (fillP [(0, 2)] [.slice none 0 0, .slice none 0 0] [(0, ev x0)]).map fun cs => (cs, some (1, 2)) := bslice_eq (z := .agg #[.slice none 0 0, .slice none 0 0]) (e := 26) (by kernel_rfl) (by kernel_rfl) (by kernel_rfl) (by decide) (by kernel_rfl) (by kernel_rfl) rfl rfl
theorem cv5_3 {k : IntKind} {n : Int} {G : Hp} : aConv Try.prog 5 3 (.int k n) G = some (.int .i64 (IntKind.i64.wrap n)) := conv_int (e := .int .u8) (by kernel_rfl) (by kernel_rfl)
theorem fa26_0 {b o : Nat} : aFieldAddr Try.prog 26 (.pointer (some ⟨b, o, none⟩)) 0 = some (.pointer (some ⟨b, o + 0, none⟩)) := by kernel_rfl
theorem fa26_1 {b o : Nat} : aFieldAddr Try.prog 26 (.pointer (some ⟨b, o, none⟩)) 1 = some (.pointer (some ⟨b, o + 1, none⟩)) := by kernel_rfl
theorem fa146_0 {b o : Nat} : aFieldAddr Try.prog 146 (.pointer (some ⟨b, o, none⟩)) 0 = some (.pointer (some ⟨b, o + 0, none⟩)) := by kernel_rfl
theorem fa146_1 {b o : Nat} : aFieldAddr Try.prog 146 (.pointer (some ⟨b, o, none⟩)) 1 = some (.pointer (some ⟨b, o + 1, none⟩)) := by kernel_rfl
theorem fa146_2 {b o : Nat} : aFieldAddr Try.prog 146 (.pointer (some ⟨b, o, none⟩)) 2 = some (.pointer (some ⟨b, o + 2, none⟩)) := by kernel_rfl
theorem ix22 {b o n c : Nat} {k : IntKind} {j : Int} : aIndexAddr Try.prog 22 (.slice (some ⟨b, o, none⟩) n c) (.int k j) = if 0 ≤ j ∧ j < n then some (.pointer (some ⟨b, o + j.toNat * 1, none⟩)) else none := by kernel_rfl
theorem ix35 {b o n c : Nat} {k : IntKind} {j : Int} : aIndexAddr Try.prog 35 (.slice (some ⟨b, o, none⟩) n c) (.int k j) = if 0 ≤ j ∧ j < n then some (.pointer (some ⟨b, o + j.toNat * 1, none⟩)) else none := by kernel_rfl
theorem ix39 {b o n c : Nat} {k : IntKind} {j : Int} : aIndexAddr Try.prog 39 (.slice (some ⟨b, o, none⟩) n c) (.int k j) = if 0 ≤ j ∧ j < n then some (.pointer (some ⟨b, o + j.toNat * 2, none⟩)) else none := by kernel_rfl
theorem us9 : Try.prog.underlying 9 = some .string := by kernel_rfl
theorem ld3 {o : Nat} {cs : List Value} : ld Try.prog 3 o cs = cs[o]? := ld_one (by kernel_rfl)
theorem ld5 {o : Nat} {cs : List Value} : ld Try.prog 5 o cs = cs[o]? := ld_one (by kernel_rfl)
theorem ld22 {o : Nat} {cs : List Value} : ld Try.prog 22 o cs = cs[o]? := ld_one (by kernel_rfl)
theorem ld26 {o : Nat} {cs : List Value} : ld Try.prog 26 o cs = aggAt 2 o cs := ld_agg (by kernel_rfl) (by kernel_rfl)
theorem ld35 {o : Nat} {cs : List Value} : ld Try.prog 35 o cs = cs[o]? := ld_one (by kernel_rfl)
theorem ln9 {s : ByteArray} : aLen Try.prog #[9] #[.string s] = some (.int .i64 s.size) := by kernel_rfl
theorem ln22 {a : Option Addr} {n c : Nat} : aLen Try.prog #[22] #[.slice a n c] = some (.int .i64 n) := by kernel_rfl
theorem ln35 {a : Option Addr} {n c : Nat} : aLen Try.prog #[35] #[.slice a n c] = some (.int .i64 n) := by kernel_rfl
theorem ln39 {a : Option Addr} {n c : Nat} : aLen Try.prog #[39] #[.slice a n c] = some (.int .i64 n) := by kernel_rfl
theorem ms22 {k k' : IntKind} {n : Int} : mkS Try.prog 22 (.int k n) (.int k' n) = if 0 ≤ n ∧ n ≤ 1073741824 then some ((List.replicate n.toNat [.int .i64 0]).flatten, some (n.toNat, 1)) else none := mkS_eq (z := .int .i64 0) (e := 3) (by kernel_rfl) (by kernel_rfl) (by kernel_rfl) (by kernel_rfl) (by kernel_rfl) (by kernel_rfl) (by decide)
theorem sl22 {b o n : Nat} {lo hi : Option Value} : aSlice Try.prog 22 (.slice (some ⟨b, o, none⟩) n 1) lo hi = slc b o n 1 (optInt 0 lo) (optInt n hi) := slc_eq (e := 3) (by kernel_rfl) (by kernel_rfl)
theorem sn22 {n c : Nat} {lo hi : Option Value} : aSlice Try.prog 22 (.slice none n c) lo hi = slq n (optInt 0 lo) (optInt n hi) := sln_q (e := 3) (s := 1) (by kernel_rfl) (by kernel_rfl)
theorem sl39 {b o n : Nat} {lo hi : Option Value} : aSlice Try.prog 39 (.slice (some ⟨b, o, none⟩) n 2) lo hi = slc b o n 2 (optInt 0 lo) (optInt n hi) := slc_eq (e := 26) (by kernel_rfl) (by kernel_rfl)
theorem sn39 {n c : Nat} {lo hi : Option Value} : aSlice Try.prog 39 (.slice none n c) lo hi = slq n (optInt 0 lo) (optInt n hi) := sln_q (e := 26) (s := 2) (by kernel_rfl) (by kernel_rfl)
theorem st3 {b o : Nat} {v : Value} {H : AH} : aStore Try.prog 3 (.pointer (some ⟨b, o, none⟩)) v H = sto 1 b o v H (wrt H b) := store_eq (by kernel_rfl)
theorem st22 {b o : Nat} {v : Value} {H : AH} : aStore Try.prog 22 (.pointer (some ⟨b, o, none⟩)) v H = sto 1 b o v H (wrt H b) := store_eq (by kernel_rfl)
theorem st26 {b o : Nat} {v : Value} {H : AH} : aStore Try.prog 26 (.pointer (some ⟨b, o, none⟩)) v H = sto 2 b o v H (wrt H b) := store_eq (by kernel_rfl)
theorem ub4 : Try.prog.underlying 4 = some .bool := by kernel_rfl

/-- spec.l1In -/
def k72 : KC :=
  (.seq
   (.ops [⟨some 6, none, (.assign (.const (.bool false)))⟩])
   (.seq
    (.ops [⟨some 7, none, (.move (.tmp 0))⟩,
      ⟨some 8, none, (.move (.tmp 1))⟩,
      ⟨some 9, none, (.binOp .geq 3 (.tmp 7) (.tmp 8) 3)⟩,
      ⟨some 10, none, (.move (.tmp 9))⟩,
      ⟨some 11, (some (10, true)), (.move (.tmp 0))⟩,
      ⟨some 12, (some (10, true)), (.move (.tmp 2))⟩,
      ⟨some 13, (some (10, true)), (.binOp .leq 3 (.tmp 11) (.tmp 12) 3)⟩,
      ⟨some 14, none, (.pick (.tmp 10) (.tmp 13) (.const (.bool false)))⟩,
      ⟨some 6, none, (.assign (.tmp 14))⟩])
    .ret))
theorem w72 {args : Array Value} {H : AH} {Φ : Value → AH → Prop} (h : rW Try.prog k72 [] (fin Try.prog [(.tmp 6)] Φ) (tm0 args) H) : CallsA Try.prog 72 args H Φ :=
  CallsA.w k72 [(.tmp 6)] (fun _ => []) Try.func72 rfl rfl (by kernel_rfl) (by kernel_rfl) h

/-- spec.SizeOf -/
def k74 : KC :=
  (.seq
   (.ops [⟨some 2, none, (.assign (.const (.int .i64 0)))⟩])
   (.seq
    (.seq
     (.ops [⟨some 7, none, (.move (.tmp 0))⟩,
       ⟨some 8, none, (.call ⟨(.builtin .len), #[(.tmp 7)], #[22]⟩)⟩,
       ⟨some 9, none, (.binOp .gtr 3 (.tmp 8) (.const (.int .i64 3)) 3)⟩])
     (.cond (.tmp 9)
      (.seq
       (.ops [⟨some 2, none, (.assign (.const (.int .i64 (-1))))⟩])
       .ret)
      .skip))
    (.seq
     (.ops [⟨some 3, none, (.assign (.const (.bool false)))⟩])
     (.seq
      (.seq
       (.ops [⟨some 4, none, (.assign (.const (.int .i64 0)))⟩])
       (.block 0
        (.loop
         (.seq
          (.seq
           (.ops [⟨some 10, none, (.move (.tmp 4))⟩,
             ⟨some 11, none, (.move (.tmp 0))⟩,
             ⟨some 12, none, (.call ⟨(.builtin .len), #[(.tmp 11)], #[22]⟩)⟩,
             ⟨some 13, none, (.binOp .lss 3 (.tmp 10) (.tmp 12) 3)⟩])
           (.cond (.tmp 13)
            .skip
            (.exit 0)))
          (.seq
           (.block 1
            (.seq
             (.seq
              (.ops [⟨some 16, none, (.move (.tmp 0))⟩,
                ⟨some 17, none, (.move (.tmp 4))⟩,
                ⟨some 18, none, (.indexAddr 22 (.tmp 16) (.tmp 17))⟩,
                ⟨some 19, none, (.load 3 (.tmp 18))⟩,
                ⟨some 20, none, (.call ⟨(.value (.func 72)), #[(.tmp 19), (.const (.int .i64 0)), (.const (.int .i64 300))], #[3, 3, 3]⟩)⟩,
                ⟨some 21, none, (.unOp .not 4 (.tmp 20))⟩])
              (.cond (.tmp 21)
               (.seq
                (.ops [⟨some 2, none, (.assign (.const (.int .i64 (-1))))⟩])
                .ret)
               .skip))
             (.ops [⟨some 22, none, (.move (.tmp 3))⟩,
               ⟨some 23, none, (.move (.tmp 22))⟩,
               ⟨some 24, (some (23, false)), (.move (.tmp 0))⟩,
               ⟨some 25, (some (23, false)), (.move (.tmp 4))⟩,
               ⟨some 26, (some (23, false)), (.indexAddr 22 (.tmp 24) (.tmp 25))⟩,
               ⟨some 27, (some (23, false)), (.load 3 (.tmp 26))⟩,
               ⟨some 28, (some (23, false)), (.binOp .eql 3 (.tmp 27) (.const (.int .i64 0)) 3)⟩,
               ⟨some 29, none, (.pick (.tmp 23) (.const (.bool true)) (.tmp 28))⟩,
               ⟨some 3, none, (.assign (.tmp 29))⟩])))
           (.ops [⟨some 14, none, (.move (.tmp 4))⟩,
             ⟨some 15, none, (.binOp .add 3 (.tmp 14) (.const (.int .i64 1)) 3)⟩,
             ⟨some 4, none, (.assign (.tmp 15))⟩]))))))
      (.seq
       (.ops [⟨some 5, none, (.assign (.const (.int .i64 1)))⟩])
       (.seq
        (.seq
         (.ops [⟨some 6, none, (.assign (.const (.int .i64 0)))⟩])
         (.block 2
          (.loop
           (.seq
            (.seq
             (.ops [⟨some 30, none, (.move (.tmp 6))⟩,
               ⟨some 31, none, (.move (.tmp 0))⟩,
               ⟨some 32, none, (.call ⟨(.builtin .len), #[(.tmp 31)], #[22]⟩)⟩,
               ⟨some 33, none, (.binOp .lss 3 (.tmp 30) (.tmp 32) 3)⟩])
             (.cond (.tmp 33)
              .skip
              (.exit 2)))
            (.seq
             (.block 3
              (.ops [⟨some 36, none, (.move (.tmp 5))⟩,
                ⟨some 37, none, (.move (.tmp 0))⟩,
                ⟨some 38, none, (.move (.tmp 6))⟩,
                ⟨some 39, none, (.indexAddr 22 (.tmp 37) (.tmp 38))⟩,
                ⟨some 40, none, (.load 3 (.tmp 39))⟩,
                ⟨some 41, none, (.binOp .mul 3 (.tmp 36) (.tmp 40) 3)⟩,
                ⟨some 5, none, (.assign (.tmp 41))⟩]))
             (.ops [⟨some 34, none, (.move (.tmp 6))⟩,
               ⟨some 35, none, (.binOp .add 3 (.tmp 34) (.const (.int .i64 1)) 3)⟩,
               ⟨some 6, none, (.assign (.tmp 35))⟩]))))))
        (.seq
         (.seq
          (.ops [⟨some 42, none, (.move (.tmp 5))⟩,
            ⟨some 43, none, (.binOp .gtr 3 (.tmp 42) (.const (.int .i64 300)) 3)⟩,
            ⟨some 44, none, (.move (.tmp 43))⟩,
            ⟨some 45, (some (44, true)), (.move (.tmp 3))⟩,
            ⟨some 46, (some (44, true)), (.unOp .not 4 (.tmp 45))⟩,
            ⟨some 47, none, (.pick (.tmp 44) (.tmp 46) (.const (.bool false)))⟩])
          (.cond (.tmp 47)
           (.seq
            (.ops [⟨some 2, none, (.assign (.const (.int .i64 (-1))))⟩])
            .ret)
           .skip))
         (.seq
          (.ops [⟨some 48, none, (.move (.tmp 5))⟩,
            ⟨some 2, none, (.assign (.tmp 48))⟩])
          .ret))))))))
theorem w74 {args : Array Value} {H : AH} {Φ : Value → AH → Prop} (h : rW Try.prog k74 [] (fin Try.prog [(.tmp 2)] Φ) (tm0 args) H) : CallsA Try.prog 74 args H Φ :=
  CallsA.w k74 [(.tmp 2)] (fun _ => []) Try.func74 rfl rfl (by kernel_rfl) (by kernel_rfl) h

/-- spec.NumOk -/
def k162 : KC :=
  (.seq
   (.ops [⟨some 2, none, (.assign (.const (.bool false)))⟩])
   (.seq
    (.ops [⟨some 3, none, (.move (.tmp 0))⟩,
      ⟨some 4, none, (.call ⟨(.value (.func 72)), #[(.tmp 3), (.const (.int .i64 (-1000000000000))), (.const (.int .i64 1000000000000))], #[3, 3, 3]⟩)⟩,
      ⟨some 2, none, (.assign (.tmp 4))⟩])
    .ret))
theorem w162 {args : Array Value} {H : AH} {Φ : Value → AH → Prop} (h : rW Try.prog k162 [] (fin Try.prog [(.tmp 2)] Φ) (tm0 args) H) : CallsA Try.prog 162 args H Φ :=
  CallsA.w k162 [(.tmp 2)] (fun _ => []) Try.func162 rfl rfl (by kernel_rfl) (by kernel_rfl) h

/-- spec.ArrayOk -/
def k58 : KC :=
  (.seq
   (.ops [⟨some 1, none, (.box 26 (.tmp 0))⟩,
     ⟨some 2, none, (.assign (.const (.bool false)))⟩])
   (.seq
    (.seq
     (.draw #[] [(1, 0), (4, 0), (4, 3)]
       [⟨some 4, none, (.fieldAddr 26 (.tmp 1) 0)⟩,
       ⟨some 5, none, (.load 22 (.tmp 4))⟩,
       ⟨some 6, none, (.call ⟨(.value (.func 74)), #[(.tmp 5)], #[22]⟩)⟩,
       ⟨some 7, none, (.fieldAddr 26 (.tmp 1) 1)⟩,
       ⟨some 8, none, (.load 22 (.tmp 7))⟩,
       ⟨some 9, none, (.call ⟨(.builtin .len), #[(.tmp 8)], #[22]⟩)⟩,
       ⟨some 10, none, (.binOp .neq 3 (.tmp 6) (.tmp 9) 3)⟩])
     (.cond (.tmp 10)
      (.seq
       (.ops [⟨some 2, none, (.assign (.const (.bool false)))⟩])
       .ret)
      .skip))
    (.seq
     (.seq
      (.ops [⟨some 3, none, (.assign (.const (.int .i64 0)))⟩])
      (.block 0
       (.loop
        (.seq
         (.seq
          (.ops [⟨some 11, none, (.move (.tmp 3))⟩,
            ⟨some 12, none, (.fieldAddr 26 (.tmp 1) 1)⟩,
            ⟨some 13, none, (.load 22 (.tmp 12))⟩,
            ⟨some 14, none, (.call ⟨(.builtin .len), #[(.tmp 13)], #[22]⟩)⟩,
            ⟨some 15, none, (.binOp .lss 3 (.tmp 11) (.tmp 14) 3)⟩])
          (.cond (.tmp 15)
           .skip
           (.exit 0)))
         (.seq
          (.block 1
           (.seq
            (.ops [⟨some 18, none, (.fieldAddr 26 (.tmp 1) 1)⟩,
              ⟨some 19, none, (.load 22 (.tmp 18))⟩,
              ⟨some 20, none, (.move (.tmp 3))⟩,
              ⟨some 21, none, (.indexAddr 22 (.tmp 19) (.tmp 20))⟩,
              ⟨some 22, none, (.load 3 (.tmp 21))⟩,
              ⟨some 23, none, (.call ⟨(.value (.func 162)), #[(.tmp 22)], #[3]⟩)⟩,
              ⟨some 24, none, (.unOp .not 4 (.tmp 23))⟩])
            (.cond (.tmp 24)
             (.seq
              (.ops [⟨some 2, none, (.assign (.const (.bool false)))⟩])
              .ret)
             .skip)))
          (.ops [⟨some 16, none, (.move (.tmp 3))⟩,
            ⟨some 17, none, (.binOp .add 3 (.tmp 16) (.const (.int .i64 1)) 3)⟩,
            ⟨some 3, none, (.assign (.tmp 17))⟩]))))))
     (.seq
      (.ops [⟨some 2, none, (.assign (.const (.bool true)))⟩])
      .ret))))
theorem w58 {args : Array Value} {H : AH} {Φ : Value → AH → Prop} (h : rW Try.prog k58 [] (fin Try.prog [(.tmp 2)] Φ) (tm0 args) H) : CallsA Try.prog 58 args H Φ :=
  CallsA.w k58 [(.tmp 2)] (fun i => if i = 1 then [(1, 0), (4, 0), (4, 3)] else []) Try.func58 rfl rfl (by kernel_rfl) (by kernel_rfl) h

/-- spec.l1Sign2 -/
def k59 : KC :=
  (.seq
   (.ops [⟨some 2, none, (.assign (.const (.bool false)))⟩])
   (.seq
    (.ops [⟨some 3, none, (.move (.tmp 0))⟩,
      ⟨some 4, none, (.binOp .eql 3 (.tmp 3) (.const (.int .i64 43)) 3)⟩,
      ⟨some 5, none, (.move (.tmp 4))⟩,
      ⟨some 6, (some (5, false)), (.move (.tmp 0))⟩,
      ⟨some 7, (some (5, false)), (.binOp .eql 3 (.tmp 6) (.const (.int .i64 45)) 3)⟩,
      ⟨some 8, none, (.pick (.tmp 5) (.const (.bool true)) (.tmp 7))⟩,
      ⟨some 9, none, (.move (.tmp 8))⟩,
      ⟨some 10, (some (9, false)), (.move (.tmp 0))⟩,
      ⟨some 11, (some (9, false)), (.binOp .eql 3 (.tmp 10) (.const (.int .i64 42)) 3)⟩,
      ⟨some 12, none, (.pick (.tmp 9) (.const (.bool true)) (.tmp 11))⟩,
      ⟨some 13, none, (.move (.tmp 12))⟩,
      ⟨some 14, (some (13, false)), (.move (.tmp 0))⟩,
      ⟨some 15, (some (13, false)), (.binOp .eql 3 (.tmp 14) (.const (.int .i64 37)) 3)⟩,
      ⟨some 16, none, (.pick (.tmp 13) (.const (.bool true)) (.tmp 15))⟩,
      ⟨some 17, none, (.move (.tmp 16))⟩,
      ⟨some 18, (some (17, false)), (.move (.tmp 0))⟩,
      ⟨some 19, (some (17, false)), (.binOp .eql 3 (.tmp 18) (.const (.int .i64 124)) 3)⟩,
      ⟨some 20, none, (.pick (.tmp 17) (.const (.bool true)) (.tmp 19))⟩,
      ⟨some 21, none, (.move (.tmp 20))⟩,
      ⟨some 22, (some (21, false)), (.move (.tmp 0))⟩,
      ⟨some 23, (some (21, false)), (.binOp .eql 3 (.tmp 22) (.const (.int .i64 38)) 3)⟩,
      ⟨some 24, none, (.pick (.tmp 21) (.const (.bool true)) (.tmp 23))⟩,
      ⟨some 25, none, (.move (.tmp 24))⟩,
      ⟨some 26, (some (25, false)), (.move (.tmp 0))⟩,
      ⟨some 27, (some (25, false)), (.binOp .eql 3 (.tmp 26) (.const (.int .i64 94)) 3)⟩,
      ⟨some 28, none, (.pick (.tmp 25) (.const (.bool true)) (.tmp 27))⟩,
      ⟨some 29, none, (.move (.tmp 28))⟩,
      ⟨some 30, (some (29, false)), (.move (.tmp 0))⟩,
      ⟨some 31, (some (29, false)), (.binOp .eql 3 (.tmp 30) (.const (.int .i64 61)) 3)⟩,
      ⟨some 32, none, (.pick (.tmp 29) (.const (.bool true)) (.tmp 31))⟩,
      ⟨some 33, none, (.move (.tmp 32))⟩,
      ⟨some 34, (some (33, false)), (.move (.tmp 0))⟩,
      ⟨some 35, (some (33, false)), (.binOp .eql 3 (.tmp 34) (.const (.int .i64 60)) 3)⟩,
      ⟨some 36, none, (.pick (.tmp 33) (.const (.bool true)) (.tmp 35))⟩,
      ⟨some 37, none, (.move (.tmp 36))⟩,
      ⟨some 38, (some (37, false)), (.move (.tmp 0))⟩,
      ⟨some 39, (some (37, false)), (.binOp .eql 3 (.tmp 38) (.const (.int .i64 62)) 3)⟩,
      ⟨some 40, none, (.pick (.tmp 37) (.const (.bool true)) (.tmp 39))⟩,
      ⟨some 2, none, (.assign (.tmp 40))⟩])
    .ret))
theorem w59 {args : Array Value} {H : AH} {Φ : Value → AH → Prop} (h : rW Try.prog k59 [] (fin Try.prog [(.tmp 2)] Φ) (tm0 args) H) : CallsA Try.prog 59 args H Φ :=
  CallsA.w k59 [(.tmp 2)] (fun _ => []) Try.func59 rfl rfl (by kernel_rfl) (by kernel_rfl) h

/-- spec.l3Copy -/
def k60 : KC :=
  (.seq
   (.ops [⟨some 1, none, (.box 26 (.tmp 0))⟩,
     ⟨some 2, none, (.alloc 26)⟩])
   (.seq
    (.draw #[] [(2, 0), (6, 0), (6, 4)]
      [⟨some 3, none, (.buildSlice 22 0 #[])⟩,
      ⟨some 4, none, (.fieldAddr 26 (.tmp 1) 0)⟩,
      ⟨some 5, none, (.load 22 (.tmp 4))⟩,
      ⟨some 6, none, (.call ⟨(.builtin .append), #[(.tmp 3), (.tmp 5)], #[22, 22]⟩)⟩,
      ⟨some 7, none, (.buildSlice 22 0 #[])⟩,
      ⟨some 8, none, (.fieldAddr 26 (.tmp 1) 1)⟩,
      ⟨some 9, none, (.load 22 (.tmp 8))⟩,
      ⟨some 10, none, (.call ⟨(.builtin .append), #[(.tmp 7), (.tmp 9)], #[22, 22]⟩)⟩,
      ⟨some 11, none, (.build 26 #[(0, (.tmp 6)), (1, (.tmp 10))])⟩,
      ⟨none, none, (.store 26 (.tmp 2) (.tmp 11))⟩])
    .ret))
theorem w60 {args : Array Value} {H : AH} {Φ : Value → AH → Prop} (h : rW Try.prog k60 [] (fin Try.prog [(.cell 2 26)] Φ) (tm0 args) H) : CallsA Try.prog 60 args H Φ :=
  CallsA.w k60 [(.cell 2 26)] (fun i => if i = 1 then [(2, 0), (6, 0), (6, 4)] else []) Try.func60 rfl rfl (by kernel_rfl) (by kernel_rfl) h

/-- spec.l3Rows -/
def k61 : KC :=
  (.seq
   (.ops [⟨some 1, none, (.box 26 (.tmp 0))⟩,
     ⟨some 2, none, (.assign (.const (.slice none 0 0)))⟩])
   (.seq
    (.ops [⟨some 6, none, (.buildSlice 39 0 #[])⟩,
      ⟨some 3, none, (.assign (.tmp 6))⟩])
    (.seq
     (.ops [⟨some 7, none, (.fieldAddr 26 (.tmp 1) 0)⟩,
       ⟨some 8, none, (.load 22 (.tmp 7))⟩,
       ⟨some 9, none, (.slice 22 (.tmp 8) (some (.const (.int .i64 1))) none none)⟩,
       ⟨some 10, none, (.call ⟨(.value (.func 74)), #[(.tmp 9)], #[22]⟩)⟩,
       ⟨some 4, none, (.assign (.tmp 10))⟩])
     (.seq
      (.seq
       (.ops [⟨some 5, none, (.assign (.const (.int .i64 0)))⟩])
       (.block 0
        (.loop
         (.seq
          (.seq
           (.ops [⟨some 11, none, (.move (.tmp 5))⟩,
             ⟨some 12, none, (.fieldAddr 26 (.tmp 1) 0)⟩,
             ⟨some 13, none, (.load 22 (.tmp 12))⟩,
             ⟨some 14, none, (.indexAddr 22 (.tmp 13) (.const (.int .i64 0)))⟩,
             ⟨some 15, none, (.load 3 (.tmp 14))⟩,
             ⟨some 16, none, (.binOp .lss 3 (.tmp 11) (.tmp 15) 3)⟩])
           (.cond (.tmp 16)
            .skip
            (.exit 0)))
          (.seq
           (.block 1
            (.draw #[] [(3, 0), (8, 0), (8, 6)]
              [⟨some 19, none, (.move (.tmp 3))⟩,
              ⟨some 20, none, (.buildSlice 22 0 #[])⟩,
              ⟨some 21, none, (.fieldAddr 26 (.tmp 1) 0)⟩,
              ⟨some 22, none, (.load 22 (.tmp 21))⟩,
              ⟨some 23, none, (.slice 22 (.tmp 22) (some (.const (.int .i64 1))) none none)⟩,
              ⟨some 24, none, (.call ⟨(.builtin .append), #[(.tmp 20), (.tmp 23)], #[22, 22]⟩)⟩,
              ⟨some 25, none, (.buildSlice 22 0 #[])⟩,
              ⟨some 26, none, (.fieldAddr 26 (.tmp 1) 1)⟩,
              ⟨some 27, none, (.load 22 (.tmp 26))⟩,
              ⟨some 28, none, (.move (.tmp 5))⟩,
              ⟨some 29, none, (.move (.tmp 4))⟩,
              ⟨some 30, none, (.binOp .mul 3 (.tmp 28) (.tmp 29) 3)⟩,
              ⟨some 31, none, (.move (.tmp 5))⟩,
              ⟨some 32, none, (.move (.tmp 4))⟩,
              ⟨some 33, none, (.binOp .mul 3 (.tmp 31) (.tmp 32) 3)⟩,
              ⟨some 34, none, (.move (.tmp 4))⟩,
              ⟨some 35, none, (.binOp .add 3 (.tmp 33) (.tmp 34) 3)⟩,
              ⟨some 36, none, (.slice 22 (.tmp 27) (some (.tmp 30)) (some (.tmp 35)) none)⟩,
              ⟨some 37, none, (.call ⟨(.builtin .append), #[(.tmp 25), (.tmp 36)], #[22, 22]⟩)⟩,
              ⟨some 38, none, (.build 26 #[(0, (.tmp 24)), (1, (.tmp 37))])⟩,
              ⟨some 39, none, (.buildSlice 39 1 #[(0, (.tmp 38))])⟩,
              ⟨some 40, none, (.call ⟨(.builtin .append), #[(.tmp 19), (.tmp 39)], #[39, 39]⟩)⟩,
              ⟨some 3, none, (.assign (.tmp 40))⟩]))
           (.ops [⟨some 17, none, (.move (.tmp 5))⟩,
             ⟨some 18, none, (.binOp .add 3 (.tmp 17) (.const (.int .i64 1)) 3)⟩,
             ⟨some 5, none, (.assign (.tmp 18))⟩]))))))
      (.seq
       (.ops [⟨some 41, none, (.move (.tmp 3))⟩,
         ⟨some 2, none, (.assign (.tmp 41))⟩])
       .ret)))))
theorem w61 {args : Array Value} {H : AH} {Φ : Value → AH → Prop} (h : rW Try.prog k61 [] (fin Try.prog [(.tmp 2)] Φ) (tm0 args) H) : CallsA Try.prog 61 args H Φ :=
  CallsA.w k61 [(.tmp 2)] (fun i => if i = 6 then [(3, 0), (8, 0), (8, 6)] else []) Try.func61 rfl rfl (by kernel_rfl) (by kernel_rfl) h

/-- spec.l1Max -/
def k112 : KC :=
  (.seq
   (.ops [⟨some 4, none, (.assign (.const (.int .i64 0)))⟩])
   (.seq
    (.seq
     (.ops [⟨some 5, none, (.move (.tmp 0))⟩,
       ⟨some 6, none, (.move (.tmp 1))⟩,
       ⟨some 7, none, (.binOp .gtr 3 (.tmp 5) (.tmp 6) 3)⟩])
     (.cond (.tmp 7)
      (.seq
       (.ops [⟨some 8, none, (.move (.tmp 0))⟩,
         ⟨some 4, none, (.assign (.tmp 8))⟩])
       .ret)
      .skip))
    (.seq
     (.ops [⟨some 9, none, (.move (.tmp 1))⟩,
       ⟨some 4, none, (.assign (.tmp 9))⟩])
     .ret)))
theorem w112 {args : Array Value} {H : AH} {Φ : Value → AH → Prop} (h : rW Try.prog k112 [] (fin Try.prog [(.tmp 4)] Φ) (tm0 args) H) : CallsA Try.prog 112 args H Φ :=
  CallsA.w k112 [(.tmp 4)] (fun _ => []) Try.func112 rfl rfl (by kernel_rfl) (by kernel_rfl) h

/-- spec.l1Min -/
def k207 : KC :=
  (.seq
   (.ops [⟨some 4, none, (.assign (.const (.int .i64 0)))⟩])
   (.seq
    (.seq
     (.ops [⟨some 5, none, (.move (.tmp 0))⟩,
       ⟨some 6, none, (.move (.tmp 1))⟩,
       ⟨some 7, none, (.binOp .lss 3 (.tmp 5) (.tmp 6) 3)⟩])
     (.cond (.tmp 7)
      (.seq
       (.ops [⟨some 8, none, (.move (.tmp 0))⟩,
         ⟨some 4, none, (.assign (.tmp 8))⟩])
       .ret)
      .skip))
    (.seq
     (.ops [⟨some 9, none, (.move (.tmp 1))⟩,
       ⟨some 4, none, (.assign (.tmp 9))⟩])
     .ret)))
theorem w207 {args : Array Value} {H : AH} {Φ : Value → AH → Prop} (h : rW Try.prog k207 [] (fin Try.prog [(.tmp 4)] Φ) (tm0 args) H) : CallsA Try.prog 207 args H Φ :=
  CallsA.w k207 [(.tmp 4)] (fun _ => []) Try.func207 rfl rfl (by kernel_rfl) (by kernel_rfl) h

/-- spec.l1Bit -/
def k209 : KC :=
  (.seq
   (.ops [⟨some 2, none, (.assign (.const (.int .i64 0)))⟩])
   (.seq
    (.seq
     (.ops [⟨some 3, none, (.move (.tmp 0))⟩])
     (.cond (.tmp 3)
      (.seq
       (.ops [⟨some 2, none, (.assign (.const (.int .i64 1)))⟩])
       .ret)
      .skip))
    (.seq
     (.ops [⟨some 2, none, (.assign (.const (.int .i64 0)))⟩])
     .ret)))
theorem w209 {args : Array Value} {H : AH} {Φ : Value → AH → Prop} (h : rW Try.prog k209 [] (fin Try.prog [(.tmp 2)] Φ) (tm0 args) H) : CallsA Try.prog 209 args H Φ :=
  CallsA.w k209 [(.tmp 2)] (fun _ => []) Try.func209 rfl rfl (by kernel_rfl) (by kernel_rfl) h

/-- spec.l1Times -/
def k216 : KC :=
  (.seq
   (.ops [⟨some 4, none, (.assign (.const (.int .i64 0)))⟩,
     ⟨some 5, none, (.assign (.const (.bool false)))⟩])
   (.seq
    (.seq
     (.ops [⟨some 6, none, (.move (.tmp 0))⟩,
       ⟨some 7, none, (.binOp .eql 3 (.tmp 6) (.const (.int .i64 0)) 3)⟩,
       ⟨some 8, none, (.move (.tmp 7))⟩,
       ⟨some 9, (some (8, false)), (.move (.tmp 1))⟩,
       ⟨some 10, (some (8, false)), (.binOp .eql 3 (.tmp 9) (.const (.int .i64 0)) 3)⟩,
       ⟨some 11, none, (.pick (.tmp 8) (.const (.bool true)) (.tmp 10))⟩])
     (.cond (.tmp 11)
      (.seq
       (.ops [⟨some 4, none, (.assign (.const (.int .i64 0)))⟩,
         ⟨some 5, none, (.assign (.const (.bool true)))⟩])
       .ret)
      .skip))
    (.seq
     (.seq
      (.ops [⟨some 12, none, (.move (.tmp 0))⟩,
        ⟨some 13, none, (.move (.tmp 0))⟩,
        ⟨some 14, none, (.binOp .sub 3 (.const (.int .i64 0)) (.tmp 13) 3)⟩,
        ⟨some 15, none, (.call ⟨(.value (.func 112)), #[(.tmp 12), (.tmp 14)], #[3, 3]⟩)⟩,
        ⟨some 16, none, (.move (.tmp 1))⟩,
        ⟨some 17, none, (.move (.tmp 1))⟩,
        ⟨some 18, none, (.binOp .sub 3 (.const (.int .i64 0)) (.tmp 17) 3)⟩,
        ⟨some 19, none, (.call ⟨(.value (.func 112)), #[(.tmp 16), (.tmp 18)], #[3, 3]⟩)⟩,
        ⟨some 20, none, (.binOp .quo 3 (.const (.int .i64 1000000000000)) (.tmp 19) 3)⟩,
        ⟨some 21, none, (.binOp .gtr 3 (.tmp 15) (.tmp 20) 3)⟩])
      (.cond (.tmp 21)
       (.seq
        (.ops [⟨some 4, none, (.assign (.const (.int .i64 0)))⟩,
          ⟨some 5, none, (.assign (.const (.bool false)))⟩])
        .ret)
       .skip))
     (.seq
      (.ops [⟨some 22, none, (.move (.tmp 0))⟩,
        ⟨some 23, none, (.move (.tmp 1))⟩,
        ⟨some 24, none, (.binOp .mul 3 (.tmp 22) (.tmp 23) 3)⟩,
        ⟨some 4, none, (.assign (.tmp 24))⟩,
        ⟨some 5, none, (.assign (.const (.bool true)))⟩])
      .ret))))
theorem w216 {args : Array Value} {H : AH} {Φ : Value → AH → Prop} (h : rW Try.prog k216 [] (fin Try.prog [(.tmp 4), (.tmp 5)] Φ) (tm0 args) H) : CallsA Try.prog 216 args H Φ :=
  CallsA.w k216 [(.tmp 4), (.tmp 5)] (fun _ => []) Try.func216 rfl rfl (by kernel_rfl) (by kernel_rfl) h

/-- spec.l1Floor -/
def k217 : KC :=
  (.seq
   (.ops [⟨some 4, none, (.assign (.const (.int .i64 0)))⟩])
   (.seq
    (.ops [⟨some 6, none, (.move (.tmp 0))⟩,
      ⟨some 7, none, (.move (.tmp 1))⟩,
      ⟨some 8, none, (.binOp .quo 3 (.tmp 6) (.tmp 7) 3)⟩,
      ⟨some 5, none, (.assign (.tmp 8))⟩])
    (.seq
     (.seq
      (.ops [⟨some 9, none, (.move (.tmp 0))⟩,
        ⟨some 10, none, (.move (.tmp 1))⟩,
        ⟨some 11, none, (.binOp .rem 3 (.tmp 9) (.tmp 10) 3)⟩,
        ⟨some 12, none, (.binOp .neq 3 (.tmp 11) (.const (.int .i64 0)) 3)⟩,
        ⟨some 13, none, (.move (.tmp 12))⟩,
        ⟨some 14, (some (13, true)), (.move (.tmp 0))⟩,
        ⟨some 15, (some (13, true)), (.binOp .lss 3 (.tmp 14) (.const (.int .i64 0)) 3)⟩,
        ⟨some 16, (some (13, true)), (.move (.tmp 1))⟩,
        ⟨some 17, (some (13, true)), (.binOp .lss 3 (.tmp 16) (.const (.int .i64 0)) 3)⟩,
        ⟨some 18, (some (13, true)), (.binOp .neq 4 (.tmp 15) (.tmp 17) 4)⟩,
        ⟨some 19, none, (.pick (.tmp 13) (.tmp 18) (.const (.bool false)))⟩])
      (.cond (.tmp 19)
       (.ops [⟨some 20, none, (.move (.tmp 5))⟩,
         ⟨some 21, none, (.binOp .sub 3 (.tmp 20) (.const (.int .i64 1)) 3)⟩,
         ⟨some 5, none, (.assign (.tmp 21))⟩])
       .skip))
     (.seq
      (.ops [⟨some 22, none, (.move (.tmp 5))⟩,
        ⟨some 4, none, (.assign (.tmp 22))⟩])
      .ret))))
theorem w217 {args : Array Value} {H : AH} {Φ : Value → AH → Prop} (h : rW Try.prog k217 [] (fin Try.prog [(.tmp 4)] Φ) (tm0 args) H) : CallsA Try.prog 217 args H Φ :=
  CallsA.w k217 [(.tmp 4)] (fun _ => []) Try.func217 rfl rfl (by kernel_rfl) (by kernel_rfl) h

/-- spec.Two -/
def k166 : KC :=
  (.seq
   (.ops [⟨some 6, none, (.assign (.const (.int .i64 0)))⟩,
     ⟨some 7, none, (.assign (.const (.int .i64 0)))⟩])
   (.seq
    (.seq
     (.ops [⟨some 11, none, (.move (.tmp 0))⟩,
       ⟨some 12, none, (.call ⟨(.value (.func 59)), #[(.tmp 11)], #[3]⟩)⟩,
       ⟨some 13, none, (.unOp .not 4 (.tmp 12))⟩,
       ⟨some 14, none, (.move (.tmp 13))⟩,
       ⟨some 15, (some (14, false)), (.move (.tmp 1))⟩,
       ⟨some 16, (some (14, false)), (.call ⟨(.value (.func 162)), #[(.tmp 15)], #[3]⟩)⟩,
       ⟨some 17, (some (14, false)), (.unOp .not 4 (.tmp 16))⟩,
       ⟨some 18, none, (.pick (.tmp 14) (.const (.bool true)) (.tmp 17))⟩,
       ⟨some 19, none, (.move (.tmp 18))⟩,
       ⟨some 20, (some (19, false)), (.move (.tmp 2))⟩,
       ⟨some 21, (some (19, false)), (.call ⟨(.value (.func 162)), #[(.tmp 20)], #[3]⟩)⟩,
       ⟨some 22, (some (19, false)), (.unOp .not 4 (.tmp 21))⟩,
       ⟨some 23, none, (.pick (.tmp 19) (.const (.bool true)) (.tmp 22))⟩])
     (.cond (.tmp 23)
      (.seq
       (.ops [⟨some 6, none, (.assign (.const (.int .i64 0)))⟩,
         ⟨some 7, none, (.assign (.const (.int .i64 1)))⟩])
       .ret)
      .skip))
    (.seq
     (.ops [⟨some 8, none, (.assign (.const (.int .i64 0)))⟩])
     (.seq
      (.seq
       (.ops [⟨some 24, none, (.move (.tmp 0))⟩])
       (.block 0
        (.seq
         (.ops [⟨some 26, none, (.binOp .eql 3 (.tmp 24) (.const (.int .i64 43)) 3)⟩,
           ⟨some 25, none, (.assign (.tmp 26))⟩])
         (.cond (.tmp 25)
          (.ops [⟨some 27, none, (.move (.tmp 1))⟩,
            ⟨some 28, none, (.move (.tmp 2))⟩,
            ⟨some 29, none, (.binOp .add 3 (.tmp 27) (.tmp 28) 3)⟩,
            ⟨some 8, none, (.assign (.tmp 29))⟩])
          (.seq
           (.ops [⟨some 31, none, (.binOp .eql 3 (.tmp 24) (.const (.int .i64 45)) 3)⟩,
             ⟨some 30, none, (.assign (.tmp 31))⟩])
           (.cond (.tmp 30)
            (.ops [⟨some 32, none, (.move (.tmp 1))⟩,
              ⟨some 33, none, (.move (.tmp 2))⟩,
              ⟨some 34, none, (.binOp .sub 3 (.tmp 32) (.tmp 33) 3)⟩,
              ⟨some 8, none, (.assign (.tmp 34))⟩])
            (.seq
             (.ops [⟨some 36, none, (.binOp .eql 3 (.tmp 24) (.const (.int .i64 42)) 3)⟩,
               ⟨some 35, none, (.assign (.tmp 36))⟩])
             (.cond (.tmp 35)
              (.seq
               (.ops [⟨some 38, none, (.move (.tmp 1))⟩,
                 ⟨some 39, none, (.move (.tmp 2))⟩,
                 ⟨some 40, none, (.call ⟨(.value (.func 216)), #[(.tmp 38), (.tmp 39)], #[3, 3]⟩)⟩,
                 ⟨some 37, none, (.move (.tmp 40))⟩,
                 ⟨some 41, none, (.extract (.tmp 37) 0)⟩,
                 ⟨some 42, none, (.extract (.tmp 37) 1)⟩,
                 ⟨some 9, none, (.assign (.tmp 41))⟩,
                 ⟨some 10, none, (.assign (.tmp 42))⟩])
               (.seq
                (.seq
                 (.ops [⟨some 43, none, (.move (.tmp 10))⟩,
                   ⟨some 44, none, (.unOp .not 4 (.tmp 43))⟩])
                 (.cond (.tmp 44)
                  (.seq
                   (.ops [⟨some 6, none, (.assign (.const (.int .i64 0)))⟩,
                     ⟨some 7, none, (.assign (.const (.int .i64 6)))⟩])
                   .ret)
                  .skip))
                (.ops [⟨some 45, none, (.move (.tmp 9))⟩,
                  ⟨some 8, none, (.assign (.tmp 45))⟩])))
              (.seq
               (.ops [⟨some 47, none, (.binOp .eql 3 (.tmp 24) (.const (.int .i64 37)) 3)⟩,
                 ⟨some 46, none, (.assign (.tmp 47))⟩])
               (.cond (.tmp 46)
                (.seq
                 (.seq
                  (.ops [⟨some 48, none, (.move (.tmp 2))⟩,
                    ⟨some 49, none, (.binOp .eql 3 (.tmp 48) (.const (.int .i64 0)) 3)⟩])
                  (.cond (.tmp 49)
                   (.seq
                    (.ops [⟨some 6, none, (.assign (.const (.int .i64 0)))⟩,
                      ⟨some 7, none, (.assign (.const (.int .i64 2)))⟩])
                    .ret)
                   .skip))
                 (.ops [⟨some 50, none, (.move (.tmp 1))⟩,
                   ⟨some 51, none, (.move (.tmp 2))⟩,
                   ⟨some 52, none, (.call ⟨(.value (.func 217)), #[(.tmp 50), (.tmp 51)], #[3, 3]⟩)⟩,
                   ⟨some 8, none, (.assign (.tmp 52))⟩]))
                (.seq
                 (.ops [⟨some 54, none, (.binOp .eql 3 (.tmp 24) (.const (.int .i64 124)) 3)⟩,
                   ⟨some 53, none, (.assign (.tmp 54))⟩])
                 (.cond (.tmp 53)
                  (.seq
                   (.ops [⟨some 55, none, (.move (.tmp 2))⟩,
                     ⟨some 8, none, (.assign (.tmp 55))⟩])
                   (.seq
                    (.ops [⟨some 56, none, (.move (.tmp 1))⟩,
                      ⟨some 57, none, (.binOp .neq 3 (.tmp 56) (.const (.int .i64 0)) 3)⟩])
                    (.cond (.tmp 57)
                     (.ops [⟨some 58, none, (.move (.tmp 2))⟩,
                       ⟨some 59, none, (.move (.tmp 1))⟩,
                       ⟨some 60, none, (.move (.tmp 2))⟩,
                       ⟨some 61, none, (.move (.tmp 1))⟩,
                       ⟨some 62, none, (.call ⟨(.value (.func 217)), #[(.tmp 60), (.tmp 61)], #[3, 3]⟩)⟩,
                       ⟨some 63, none, (.binOp .mul 3 (.tmp 59) (.tmp 62) 3)⟩,
                       ⟨some 64, none, (.binOp .sub 3 (.tmp 58) (.tmp 63) 3)⟩,
                       ⟨some 8, none, (.assign (.tmp 64))⟩])
                     .skip)))
                  (.seq
                   (.ops [⟨some 66, none, (.binOp .eql 3 (.tmp 24) (.const (.int .i64 38)) 3)⟩,
                     ⟨some 65, none, (.assign (.tmp 66))⟩])
                   (.cond (.tmp 65)
                    (.ops [⟨some 67, none, (.move (.tmp 1))⟩,
                      ⟨some 68, none, (.move (.tmp 2))⟩,
                      ⟨some 69, none, (.call ⟨(.value (.func 207)), #[(.tmp 67), (.tmp 68)], #[3, 3]⟩)⟩,
                      ⟨some 8, none, (.assign (.tmp 69))⟩])
                    (.seq
                     (.ops [⟨some 71, none, (.binOp .eql 3 (.tmp 24) (.const (.int .i64 94)) 3)⟩,
                       ⟨some 70, none, (.assign (.tmp 71))⟩])
                     (.cond (.tmp 70)
                      (.ops [⟨some 72, none, (.move (.tmp 1))⟩,
                        ⟨some 73, none, (.move (.tmp 2))⟩,
                        ⟨some 74, none, (.call ⟨(.value (.func 112)), #[(.tmp 72), (.tmp 73)], #[3, 3]⟩)⟩,
                        ⟨some 8, none, (.assign (.tmp 74))⟩])
                      (.seq
                       (.ops [⟨some 76, none, (.binOp .eql 3 (.tmp 24) (.const (.int .i64 61)) 3)⟩,
                         ⟨some 75, none, (.assign (.tmp 76))⟩])
                       (.cond (.tmp 75)
                        (.ops [⟨some 77, none, (.move (.tmp 1))⟩,
                          ⟨some 78, none, (.move (.tmp 2))⟩,
                          ⟨some 79, none, (.binOp .eql 3 (.tmp 77) (.tmp 78) 3)⟩,
                          ⟨some 80, none, (.call ⟨(.value (.func 209)), #[(.tmp 79)], #[4]⟩)⟩,
                          ⟨some 8, none, (.assign (.tmp 80))⟩])
                        (.seq
                         (.ops [⟨some 82, none, (.binOp .eql 3 (.tmp 24) (.const (.int .i64 60)) 3)⟩,
                           ⟨some 81, none, (.assign (.tmp 82))⟩])
                         (.cond (.tmp 81)
                          (.ops [⟨some 83, none, (.move (.tmp 1))⟩,
                            ⟨some 84, none, (.move (.tmp 2))⟩,
                            ⟨some 85, none, (.binOp .lss 3 (.tmp 83) (.tmp 84) 3)⟩,
                            ⟨some 86, none, (.call ⟨(.value (.func 209)), #[(.tmp 85)], #[4]⟩)⟩,
                            ⟨some 8, none, (.assign (.tmp 86))⟩])
                          (.seq
                           (.ops [⟨some 88, none, (.binOp .eql 3 (.tmp 24) (.const (.int .i64 62)) 3)⟩,
                             ⟨some 87, none, (.assign (.tmp 88))⟩])
                           (.cond (.tmp 87)
                            (.ops [⟨some 89, none, (.move (.tmp 1))⟩,
                              ⟨some 90, none, (.move (.tmp 2))⟩,
                              ⟨some 91, none, (.binOp .gtr 3 (.tmp 89) (.tmp 90) 3)⟩,
                              ⟨some 92, none, (.call ⟨(.value (.func 209)), #[(.tmp 91)], #[4]⟩)⟩,
                              ⟨some 8, none, (.assign (.tmp 92))⟩])
                            .skip))))))))))))))))))))))
      (.seq
       (.seq
        (.ops [⟨some 93, none, (.move (.tmp 8))⟩,
          ⟨some 94, none, (.call ⟨(.value (.func 162)), #[(.tmp 93)], #[3]⟩)⟩,
          ⟨some 95, none, (.unOp .not 4 (.tmp 94))⟩])
        (.cond (.tmp 95)
         (.seq
          (.ops [⟨some 6, none, (.assign (.const (.int .i64 0)))⟩,
            ⟨some 7, none, (.assign (.const (.int .i64 6)))⟩])
          .ret)
         .skip))
       (.seq
        (.ops [⟨some 96, none, (.move (.tmp 8))⟩,
          ⟨some 6, none, (.assign (.tmp 96))⟩,
          ⟨some 7, none, (.assign (.const (.int .i64 0)))⟩])
        .ret))))))
theorem w166 {args : Array Value} {H : AH} {Φ : Value → AH → Prop} (h : rW Try.prog k166 [] (fin Try.prog [(.tmp 6), (.tmp 7)] Φ) (tm0 args) H) : CallsA Try.prog 166 args H Φ :=
  CallsA.w k166 [(.tmp 6), (.tmp 7)] (fun _ => []) Try.func166 rfl rfl (by kernel_rfl) (by kernel_rfl) h

/-- spec.l2Same -/
def k205 : KC :=
  (.seq
   (.ops [⟨some 4, none, (.assign (.const (.bool false)))⟩])
   (.seq
    (.seq
     (.ops [⟨some 6, none, (.move (.tmp 0))⟩,
       ⟨some 7, none, (.call ⟨(.builtin .len), #[(.tmp 6)], #[22]⟩)⟩,
       ⟨some 8, none, (.move (.tmp 1))⟩,
       ⟨some 9, none, (.call ⟨(.builtin .len), #[(.tmp 8)], #[22]⟩)⟩,
       ⟨some 10, none, (.binOp .neq 3 (.tmp 7) (.tmp 9) 3)⟩])
     (.cond (.tmp 10)
      (.seq
       (.ops [⟨some 4, none, (.assign (.const (.bool false)))⟩])
       .ret)
      .skip))
    (.seq
     (.seq
      (.ops [⟨some 5, none, (.assign (.const (.int .i64 0)))⟩])
      (.block 0
       (.loop
        (.seq
         (.seq
          (.ops [⟨some 11, none, (.move (.tmp 5))⟩,
            ⟨some 12, none, (.move (.tmp 0))⟩,
            ⟨some 13, none, (.call ⟨(.builtin .len), #[(.tmp 12)], #[22]⟩)⟩,
            ⟨some 14, none, (.binOp .lss 3 (.tmp 11) (.tmp 13) 3)⟩])
          (.cond (.tmp 14)
           .skip
           (.exit 0)))
         (.seq
          (.block 1
           (.seq
            (.ops [⟨some 17, none, (.move (.tmp 0))⟩,
              ⟨some 18, none, (.move (.tmp 5))⟩,
              ⟨some 19, none, (.indexAddr 22 (.tmp 17) (.tmp 18))⟩,
              ⟨some 20, none, (.load 3 (.tmp 19))⟩,
              ⟨some 21, none, (.move (.tmp 1))⟩,
              ⟨some 22, none, (.move (.tmp 5))⟩,
              ⟨some 23, none, (.indexAddr 22 (.tmp 21) (.tmp 22))⟩,
              ⟨some 24, none, (.load 3 (.tmp 23))⟩,
              ⟨some 25, none, (.binOp .neq 3 (.tmp 20) (.tmp 24) 3)⟩])
            (.cond (.tmp 25)
             (.seq
              (.ops [⟨some 4, none, (.assign (.const (.bool false)))⟩])
              .ret)
             .skip)))
          (.ops [⟨some 15, none, (.move (.tmp 5))⟩,
            ⟨some 16, none, (.binOp .add 3 (.tmp 15) (.const (.int .i64 1)) 3)⟩,
            ⟨some 5, none, (.assign (.tmp 16))⟩]))))))
     (.seq
      (.ops [⟨some 4, none, (.assign (.const (.bool true)))⟩])
      .ret))))
theorem w205 {args : Array Value} {H : AH} {Φ : Value → AH → Prop} (h : rW Try.prog k205 [] (fin Try.prog [(.tmp 4)] Φ) (tm0 args) H) : CallsA Try.prog 205 args H Φ :=
  CallsA.w k205 [(.tmp 4)] (fun i => if i = 6 then [(3, 0), (7, 0)] else []) Try.func205 rfl rfl (by kernel_rfl) (by kernel_rfl) h

/-- spec.Fit -/
def k210 : KC :=
  (.seq
   (.ops [⟨some 2, none, (.box 26 (.tmp 0))⟩,
     ⟨some 3, none, (.box 26 (.tmp 1))⟩,
     ⟨some 4, none, (.assign (.const (.slice none 0 0)))⟩,
     ⟨some 5, none, (.assign (.const (.int .i64 0)))⟩])
   (.seq
    (.block 0
     (.seq
      (.ops [⟨some 7, none, (.load 26 (.tmp 2))⟩,
        ⟨some 8, none, (.call ⟨(.value (.func 58)), #[(.tmp 7)], #[26]⟩)⟩,
        ⟨some 9, none, (.unOp .not 4 (.tmp 8))⟩,
        ⟨some 10, none, (.move (.tmp 9))⟩,
        ⟨some 11, (some (10, false)), (.load 26 (.tmp 3))⟩,
        ⟨some 12, (some (10, false)), (.call ⟨(.value (.func 58)), #[(.tmp 11)], #[26]⟩)⟩,
        ⟨some 13, (some (10, false)), (.unOp .not 4 (.tmp 12))⟩,
        ⟨some 14, none, (.pick (.tmp 10) (.const (.bool true)) (.tmp 13))⟩,
        ⟨some 6, none, (.assign (.tmp 14))⟩])
      (.cond (.tmp 6)
       (.seq
        (.ops [⟨some 15, none, (.buildSlice 22 0 #[])⟩,
          ⟨some 4, none, (.assign (.tmp 15))⟩,
          ⟨some 5, none, (.assign (.const (.int .i64 1)))⟩])
        .ret)
       (.seq
        (.ops [⟨some 17, none, (.fieldAddr 26 (.tmp 2) 0)⟩,
          ⟨some 18, none, (.load 22 (.tmp 17))⟩,
          ⟨some 19, none, (.call ⟨(.builtin .len), #[(.tmp 18)], #[22]⟩)⟩,
          ⟨some 20, none, (.binOp .eql 3 (.tmp 19) (.const (.int .i64 0)) 3)⟩,
          ⟨some 16, none, (.assign (.tmp 20))⟩])
        (.cond (.tmp 16)
         (.seq
          (.ops [⟨some 21, none, (.buildSlice 22 0 #[])⟩,
            ⟨some 22, none, (.fieldAddr 26 (.tmp 3) 0)⟩,
            ⟨some 23, none, (.load 22 (.tmp 22))⟩,
            ⟨some 24, none, (.call ⟨(.builtin .append), #[(.tmp 21), (.tmp 23)], #[22, 22]⟩)⟩,
            ⟨some 4, none, (.assign (.tmp 24))⟩,
            ⟨some 5, none, (.assign (.const (.int .i64 0)))⟩])
          .ret)
         (.seq
          (.ops [⟨some 26, none, (.fieldAddr 26 (.tmp 3) 0)⟩,
            ⟨some 27, none, (.load 22 (.tmp 26))⟩,
            ⟨some 28, none, (.call ⟨(.builtin .len), #[(.tmp 27)], #[22]⟩)⟩,
            ⟨some 29, none, (.binOp .eql 3 (.tmp 28) (.const (.int .i64 0)) 3)⟩,
            ⟨some 25, none, (.assign (.tmp 29))⟩])
          (.cond (.tmp 25)
           (.seq
            (.ops [⟨some 30, none, (.buildSlice 22 0 #[])⟩,
              ⟨some 31, none, (.fieldAddr 26 (.tmp 2) 0)⟩,
              ⟨some 32, none, (.load 22 (.tmp 31))⟩,
              ⟨some 33, none, (.call ⟨(.builtin .append), #[(.tmp 30), (.tmp 32)], #[22, 22]⟩)⟩,
              ⟨some 4, none, (.assign (.tmp 33))⟩,
              ⟨some 5, none, (.assign (.const (.int .i64 0)))⟩])
            .ret)
           (.seq
            (.ops [⟨some 35, none, (.fieldAddr 26 (.tmp 2) 0)⟩,
              ⟨some 36, none, (.load 22 (.tmp 35))⟩,
              ⟨some 37, none, (.call ⟨(.builtin .len), #[(.tmp 36)], #[22]⟩)⟩,
              ⟨some 38, none, (.fieldAddr 26 (.tmp 3) 0)⟩,
              ⟨some 39, none, (.load 22 (.tmp 38))⟩,
              ⟨some 40, none, (.call ⟨(.builtin .len), #[(.tmp 39)], #[22]⟩)⟩,
              ⟨some 41, none, (.binOp .neq 3 (.tmp 37) (.tmp 40) 3)⟩,
              ⟨some 34, none, (.assign (.tmp 41))⟩])
            (.cond (.tmp 34)
             (.seq
              (.ops [⟨some 42, none, (.buildSlice 22 0 #[])⟩,
                ⟨some 4, none, (.assign (.tmp 42))⟩,
                ⟨some 5, none, (.assign (.const (.int .i64 4)))⟩])
              .ret)
             (.seq
              (.ops [⟨some 44, none, (.fieldAddr 26 (.tmp 2) 0)⟩,
                ⟨some 45, none, (.load 22 (.tmp 44))⟩,
                ⟨some 46, none, (.fieldAddr 26 (.tmp 3) 0)⟩,
                ⟨some 47, none, (.load 22 (.tmp 46))⟩,
                ⟨some 48, none, (.call ⟨(.value (.func 205)), #[(.tmp 45), (.tmp 47)], #[22, 22]⟩)⟩,
                ⟨some 49, none, (.unOp .not 4 (.tmp 48))⟩,
                ⟨some 43, none, (.assign (.tmp 49))⟩])
              (.cond (.tmp 43)
               (.seq
                (.ops [⟨some 50, none, (.buildSlice 22 0 #[])⟩,
                  ⟨some 4, none, (.assign (.tmp 50))⟩,
                  ⟨some 5, none, (.assign (.const (.int .i64 3)))⟩])
                .ret)
               .skip)))))))))))
    (.seq
     (.ops [⟨some 51, none, (.buildSlice 22 0 #[])⟩,
       ⟨some 52, none, (.fieldAddr 26 (.tmp 2) 0)⟩,
       ⟨some 53, none, (.load 22 (.tmp 52))⟩,
       ⟨some 54, none, (.call ⟨(.builtin .append), #[(.tmp 51), (.tmp 53)], #[22, 22]⟩)⟩,
       ⟨some 4, none, (.assign (.tmp 54))⟩,
       ⟨some 5, none, (.assign (.const (.int .i64 0)))⟩])
     .ret)))
theorem w210 {args : Array Value} {H : AH} {Φ : Value → AH → Prop} (h : rW Try.prog k210 [] (fin Try.prog [(.tmp 4), (.tmp 5)] Φ) (tm0 args) H) : CallsA Try.prog 210 args H Φ :=
  CallsA.w k210 [(.tmp 4), (.tmp 5)] (fun _ => []) Try.func210 rfl rfl (by kernel_rfl) (by kernel_rfl) h

/-- spec.l4Of -/
def k211 : KC :=
  (.seq
   (.ops [⟨some 2, none, (.box 26 (.tmp 0))⟩,
     ⟨some 4, none, (.assign (.const (.int .i64 0)))⟩])
   (.seq
    (.seq
     (.ops [⟨some 5, none, (.fieldAddr 26 (.tmp 2) 0)⟩,
       ⟨some 6, none, (.load 22 (.tmp 5))⟩,
       ⟨some 7, none, (.call ⟨(.builtin .len), #[(.tmp 6)], #[22]⟩)⟩,
       ⟨some 8, none, (.binOp .eql 3 (.tmp 7) (.const (.int .i64 0)) 3)⟩])
     (.cond (.tmp 8)
      (.seq
       (.ops [⟨some 9, none, (.fieldAddr 26 (.tmp 2) 1)⟩,
         ⟨some 10, none, (.load 22 (.tmp 9))⟩,
         ⟨some 11, none, (.indexAddr 22 (.tmp 10) (.const (.int .i64 0)))⟩,
         ⟨some 12, none, (.load 3 (.tmp 11))⟩,
         ⟨some 4, none, (.assign (.tmp 12))⟩])
       .ret)
      .skip))
    (.seq
     (.ops [⟨some 13, none, (.fieldAddr 26 (.tmp 2) 1)⟩,
       ⟨some 14, none, (.load 22 (.tmp 13))⟩,
       ⟨some 15, none, (.move (.tmp 1))⟩,
       ⟨some 16, none, (.indexAddr 22 (.tmp 14) (.tmp 15))⟩,
       ⟨some 17, none, (.load 3 (.tmp 16))⟩,
       ⟨some 4, none, (.assign (.tmp 17))⟩])
     .ret)))
theorem w211 {args : Array Value} {H : AH} {Φ : Value → AH → Prop} (h : rW Try.prog k211 [] (fin Try.prog [(.tmp 4)] Φ) (tm0 args) H) : CallsA Try.prog 211 args H Φ :=
  CallsA.w k211 [(.tmp 4)] (fun _ => []) Try.func211 rfl rfl (by kernel_rfl) (by kernel_rfl) h

/-- spec.EachTwo -/
def k151 : KC :=
  (.seq
   (.ops [⟨some 4, none, (.box 26 (.tmp 1))⟩,
     ⟨some 5, none, (.box 26 (.tmp 2))⟩,
     ⟨some 6, none, (.alloc 26)⟩,
     ⟨some 7, none, (.assign (.const (.int .i64 0)))⟩])
   (.seq
    (.seq
     (.ops [⟨some 14, none, (.load 26 (.tmp 4))⟩,
       ⟨some 15, none, (.call ⟨(.value (.func 58)), #[(.tmp 14)], #[26]⟩)⟩,
       ⟨some 16, none, (.unOp .not 4 (.tmp 15))⟩,
       ⟨some 17, none, (.move (.tmp 16))⟩,
       ⟨some 18, (some (17, false)), (.load 26 (.tmp 5))⟩,
       ⟨some 19, (some (17, false)), (.call ⟨(.value (.func 58)), #[(.tmp 18)], #[26]⟩)⟩,
       ⟨some 20, (some (17, false)), (.unOp .not 4 (.tmp 19))⟩,
       ⟨some 21, none, (.pick (.tmp 17) (.const (.bool true)) (.tmp 20))⟩,
       ⟨some 22, none, (.move (.tmp 21))⟩,
       ⟨some 23, (some (22, false)), (.move (.tmp 0))⟩,
       ⟨some 24, (some (22, false)), (.call ⟨(.value (.func 59)), #[(.tmp 23)], #[3]⟩)⟩,
       ⟨some 25, (some (22, false)), (.unOp .not 4 (.tmp 24))⟩,
       ⟨some 26, none, (.pick (.tmp 22) (.const (.bool true)) (.tmp 25))⟩])
     (.cond (.tmp 26)
      (.seq
       (.ops [⟨some 27, none, (.build 26 #[])⟩,
         ⟨none, none, (.store 26 (.tmp 6) (.tmp 27))⟩,
         ⟨some 7, none, (.assign (.const (.int .i64 1)))⟩])
       .ret)
      .skip))
    (.seq
     (.ops [⟨some 29, none, (.load 26 (.tmp 4))⟩,
       ⟨some 30, none, (.load 26 (.tmp 5))⟩,
       ⟨some 31, none, (.call ⟨(.value (.func 210)), #[(.tmp 29), (.tmp 30)], #[26, 26]⟩)⟩,
       ⟨some 28, none, (.move (.tmp 31))⟩,
       ⟨some 32, none, (.extract (.tmp 28) 0)⟩,
       ⟨some 33, none, (.extract (.tmp 28) 1)⟩,
       ⟨some 8, none, (.assign (.tmp 32))⟩,
       ⟨some 9, none, (.assign (.tmp 33))⟩])
     (.seq
      (.seq
       (.ops [⟨some 34, none, (.move (.tmp 9))⟩,
         ⟨some 35, none, (.binOp .neq 3 (.tmp 34) (.const (.int .i64 0)) 3)⟩])
       (.cond (.tmp 35)
        (.seq
         (.ops [⟨some 36, none, (.build 26 #[])⟩,
           ⟨some 37, none, (.move (.tmp 9))⟩,
           ⟨none, none, (.store 26 (.tmp 6) (.tmp 36))⟩,
           ⟨some 7, none, (.assign (.tmp 37))⟩])
         .ret)
        .skip))
      (.seq
       (.ops [⟨some 38, none, (.move (.tmp 8))⟩,
         ⟨some 39, none, (.build 26 #[(0, (.tmp 38))])⟩,
         ⟨some 10, none, (.alloc 26)⟩,
         ⟨none, none, (.store 26 (.tmp 10) (.tmp 39))⟩])
       (.seq
        (.seq
         (.ops [⟨some 11, none, (.assign (.const (.int .i64 0)))⟩])
         (.block 0
          (.loop
           (.seq
            (.seq
             (.ops [⟨some 40, none, (.move (.tmp 11))⟩,
               ⟨some 41, none, (.move (.tmp 8))⟩,
               ⟨some 42, none, (.call ⟨(.value (.func 74)), #[(.tmp 41)], #[22]⟩)⟩,
               ⟨some 43, none, (.binOp .lss 3 (.tmp 40) (.tmp 42) 3)⟩])
             (.cond (.tmp 43)
              .skip
              (.exit 0)))
            (.seq
             (.block 1
              (.seq
               (.draw #[] [(1, 0), (4, 0), (4, 4)]
                 [⟨some 47, none, (.move (.tmp 0))⟩,
                 ⟨some 48, none, (.load 26 (.tmp 4))⟩,
                 ⟨some 49, none, (.move (.tmp 11))⟩,
                 ⟨some 50, none, (.call ⟨(.value (.func 211)), #[(.tmp 48), (.tmp 49)], #[26, 3]⟩)⟩,
                 ⟨some 51, none, (.load 26 (.tmp 5))⟩,
                 ⟨some 52, none, (.move (.tmp 11))⟩,
                 ⟨some 53, none, (.call ⟨(.value (.func 211)), #[(.tmp 51), (.tmp 52)], #[26, 3]⟩)⟩,
                 ⟨some 54, none, (.call ⟨(.value (.func 166)), #[(.tmp 47), (.tmp 50), (.tmp 53)], #[3, 3, 3]⟩)⟩,
                 ⟨some 46, none, (.move (.tmp 54))⟩,
                 ⟨some 55, none, (.extract (.tmp 46) 0)⟩,
                 ⟨some 56, none, (.extract (.tmp 46) 1)⟩,
                 ⟨some 12, none, (.assign (.tmp 55))⟩,
                 ⟨some 13, none, (.assign (.tmp 56))⟩])
               (.seq
                (.seq
                 (.ops [⟨some 57, none, (.move (.tmp 13))⟩,
                   ⟨some 58, none, (.binOp .neq 3 (.tmp 57) (.const (.int .i64 0)) 3)⟩])
                 (.cond (.tmp 58)
                  (.seq
                   (.ops [⟨some 59, none, (.build 26 #[])⟩,
                     ⟨some 60, none, (.move (.tmp 13))⟩,
                     ⟨none, none, (.store 26 (.tmp 6) (.tmp 59))⟩,
                     ⟨some 7, none, (.assign (.tmp 60))⟩])
                   .ret)
                  .skip))
                (.ops [⟨some 61, none, (.fieldAddr 26 (.tmp 10) 1)⟩,
                  ⟨some 62, none, (.load 22 (.tmp 61))⟩,
                  ⟨some 63, none, (.move (.tmp 12))⟩,
                  ⟨some 64, none, (.buildSlice 22 1 #[(0, (.tmp 63))])⟩,
                  ⟨some 65, none, (.call ⟨(.builtin .append), #[(.tmp 62), (.tmp 64)], #[22, 22]⟩)⟩,
                  ⟨some 66, none, (.fieldAddr 26 (.tmp 10) 1)⟩,
                  ⟨none, none, (.store 22 (.tmp 66) (.tmp 65))⟩]))))
             (.ops [⟨some 44, none, (.move (.tmp 11))⟩,
               ⟨some 45, none, (.binOp .add 3 (.tmp 44) (.const (.int .i64 1)) 3)⟩,
               ⟨some 11, none, (.assign (.tmp 45))⟩]))))))
        (.seq
         (.ops [⟨some 67, none, (.load 26 (.tmp 10))⟩,
           ⟨none, none, (.store 26 (.tmp 6) (.tmp 67))⟩,
           ⟨some 7, none, (.assign (.const (.int .i64 0)))⟩])
         .ret)))))))
theorem w151 {args : Array Value} {H : AH} {Φ : Value → AH → Prop} (h : rW Try.prog k151 [] (fin Try.prog [(.cell 6 26), (.tmp 7)] Φ) (tm0 args) H) : CallsA Try.prog 151 args H Φ :=
  CallsA.w k151 [(.cell 6 26), (.tmp 7)] (fun i => if i = 10 then [(1, 0), (4, 0), (4, 4)] else []) Try.func151 rfl rfl (by kernel_rfl) (by kernel_rfl) h

/-- spec.Neutral -/
def k163 : KC :=
  (.seq
   (.ops [⟨some 2, none, (.assign (.const (.int .i64 0)))⟩,
     ⟨some 3, none, (.assign (.const (.bool false)))⟩])
   (.seq
    (.seq
     (.ops [⟨some 4, none, (.move (.tmp 0))⟩])
     (.block 0
      (.seq
       (.seq
        (.ops [⟨some 6, none, (.binOp .eql 3 (.tmp 4) (.const (.int .i64 43)) 3)⟩,
          ⟨some 5, none, (.assign (.tmp 6))⟩])
        (.cond (.tmp 5)
         .skip
         (.seq
          (.ops [⟨some 7, none, (.binOp .eql 3 (.tmp 4) (.const (.int .i64 45)) 3)⟩,
            ⟨some 5, none, (.assign (.tmp 7))⟩])
          (.cond (.tmp 5)
           .skip
           (.seq
            (.ops [⟨some 8, none, (.binOp .eql 3 (.tmp 4) (.const (.int .i64 124)) 3)⟩,
              ⟨some 5, none, (.assign (.tmp 8))⟩])
            (.cond (.tmp 5)
             .skip
             (.seq
              (.ops [⟨some 9, none, (.binOp .eql 3 (.tmp 4) (.const (.int .i64 60)) 3)⟩,
                ⟨some 5, none, (.assign (.tmp 9))⟩])
              (.cond (.tmp 5)
               .skip
               (.ops [⟨some 10, none, (.binOp .eql 3 (.tmp 4) (.const (.int .i64 62)) 3)⟩,
                 ⟨some 5, none, (.assign (.tmp 10))⟩])))))))))
       (.cond (.tmp 5)
        (.seq
         (.ops [⟨some 2, none, (.assign (.const (.int .i64 0)))⟩,
           ⟨some 3, none, (.assign (.const (.bool true)))⟩])
         .ret)
        (.seq
         (.seq
          (.ops [⟨some 12, none, (.binOp .eql 3 (.tmp 4) (.const (.int .i64 42)) 3)⟩,
            ⟨some 11, none, (.assign (.tmp 12))⟩])
          (.cond (.tmp 11)
           .skip
           (.seq
            (.ops [⟨some 13, none, (.binOp .eql 3 (.tmp 4) (.const (.int .i64 37)) 3)⟩,
              ⟨some 11, none, (.assign (.tmp 13))⟩])
            (.cond (.tmp 11)
             .skip
             (.ops [⟨some 14, none, (.binOp .eql 3 (.tmp 4) (.const (.int .i64 61)) 3)⟩,
               ⟨some 11, none, (.assign (.tmp 14))⟩])))))
         (.cond (.tmp 11)
          (.seq
           (.ops [⟨some 2, none, (.assign (.const (.int .i64 1)))⟩,
             ⟨some 3, none, (.assign (.const (.bool true)))⟩])
           .ret)
          (.seq
           (.ops [⟨some 16, none, (.binOp .eql 3 (.tmp 4) (.const (.int .i64 38)) 3)⟩,
             ⟨some 15, none, (.assign (.tmp 16))⟩])
           (.cond (.tmp 15)
            (.seq
             (.ops [⟨some 2, none, (.assign (.const (.int .i64 1000000000000)))⟩,
               ⟨some 3, none, (.assign (.const (.bool true)))⟩])
             .ret)
            (.seq
             (.ops [⟨some 18, none, (.binOp .eql 3 (.tmp 4) (.const (.int .i64 94)) 3)⟩,
               ⟨some 17, none, (.assign (.tmp 18))⟩])
             (.cond (.tmp 17)
              (.seq
               (.ops [⟨some 2, none, (.assign (.const (.int .i64 (-1000000000000))))⟩,
                 ⟨some 3, none, (.assign (.const (.bool true)))⟩])
               .ret)
              .skip))))))))))
    (.seq
     (.ops [⟨some 2, none, (.assign (.const (.int .i64 0)))⟩,
       ⟨some 3, none, (.assign (.const (.bool false)))⟩])
     .ret)))
theorem w163 {args : Array Value} {H : AH} {Φ : Value → AH → Prop} (h : rW Try.prog k163 [] (fin Try.prog [(.tmp 2), (.tmp 3)] Φ) (tm0 args) H) : CallsA Try.prog 163 args H Φ :=
  CallsA.w k163 [(.tmp 2), (.tmp 3)] (fun _ => []) Try.func163 rfl rfl (by kernel_rfl) (by kernel_rfl) h

/-- spec.l7Reduce -/
def k62 : KC :=
  (.seq
   (.ops [⟨some 6, none, (.alloc 26)⟩,
     ⟨some 7, none, (.assign (.const (.int .i64 0)))⟩])
   (.seq
    (.ops [⟨some 17, none, (.move (.tmp 1))⟩,
      ⟨some 18, none, (.call ⟨(.builtin .len), #[(.tmp 17)], #[39]⟩)⟩,
      ⟨some 8, none, (.assign (.tmp 18))⟩])
    (.seq
     (.seq
      (.ops [⟨some 19, none, (.move (.tmp 8))⟩,
        ⟨some 20, none, (.binOp .eql 3 (.tmp 19) (.const (.int .i64 0)) 3)⟩])
      (.cond (.tmp 20)
       (.seq
        (.ops [⟨some 22, none, (.move (.tmp 0))⟩,
          ⟨some 23, none, (.call ⟨(.value (.func 163)), #[(.tmp 22)], #[3]⟩)⟩,
          ⟨some 21, none, (.move (.tmp 23))⟩,
          ⟨some 24, none, (.extract (.tmp 21) 0)⟩,
          ⟨some 25, none, (.extract (.tmp 21) 1)⟩,
          ⟨some 9, none, (.assign (.tmp 24))⟩,
          ⟨some 10, none, (.assign (.tmp 25))⟩])
        (.seq
         (.ops [⟨some 26, none, (.buildSlice 22 0 #[])⟩,
           ⟨some 27, none, (.move (.tmp 2))⟩,
           ⟨some 28, none, (.call ⟨(.builtin .append), #[(.tmp 26), (.tmp 27)], #[22, 22]⟩)⟩,
           ⟨some 29, none, (.build 26 #[(0, (.tmp 28))])⟩,
           ⟨some 11, none, (.alloc 26)⟩,
           ⟨none, none, (.store 26 (.tmp 11) (.tmp 29))⟩])
         (.seq
          (.seq
           (.ops [⟨some 12, none, (.assign (.const (.int .i64 0)))⟩])
           (.block 0
            (.loop
             (.seq
              (.seq
               (.ops [⟨some 30, none, (.move (.tmp 12))⟩,
                 ⟨some 31, none, (.move (.tmp 2))⟩,
                 ⟨some 32, none, (.call ⟨(.value (.func 74)), #[(.tmp 31)], #[22]⟩)⟩,
                 ⟨some 33, none, (.binOp .lss 3 (.tmp 30) (.tmp 32) 3)⟩])
               (.cond (.tmp 33)
                .skip
                (.exit 0)))
              (.seq
               (.block 1
                (.ops [⟨some 36, none, (.fieldAddr 26 (.tmp 11) 1)⟩,
                  ⟨some 37, none, (.load 22 (.tmp 36))⟩,
                  ⟨some 38, none, (.move (.tmp 9))⟩,
                  ⟨some 39, none, (.buildSlice 22 1 #[(0, (.tmp 38))])⟩,
                  ⟨some 40, none, (.call ⟨(.builtin .append), #[(.tmp 37), (.tmp 39)], #[22, 22]⟩)⟩,
                  ⟨some 41, none, (.fieldAddr 26 (.tmp 11) 1)⟩,
                  ⟨none, none, (.store 22 (.tmp 41) (.tmp 40))⟩]))
               (.ops [⟨some 34, none, (.move (.tmp 12))⟩,
                 ⟨some 35, none, (.binOp .add 3 (.tmp 34) (.const (.int .i64 1)) 3)⟩,
                 ⟨some 12, none, (.assign (.tmp 35))⟩]))))))
          (.seq
           (.ops [⟨some 42, none, (.load 26 (.tmp 11))⟩,
             ⟨none, none, (.store 26 (.tmp 6) (.tmp 42))⟩,
             ⟨some 7, none, (.assign (.const (.int .i64 0)))⟩])
           .ret))))
       .skip))
     (.seq
      (.ops [⟨some 43, none, (.move (.tmp 1))⟩,
        ⟨some 44, none, (.move (.tmp 8))⟩,
        ⟨some 45, none, (.binOp .sub 3 (.tmp 44) (.const (.int .i64 1)) 3)⟩,
        ⟨some 46, none, (.indexAddr 39 (.tmp 43) (.tmp 45))⟩,
        ⟨some 47, none, (.load 26 (.tmp 46))⟩,
        ⟨some 48, none, (.call ⟨(.value (.func 60)), #[(.tmp 47)], #[26]⟩)⟩,
        ⟨some 13, none, (.alloc 26)⟩,
        ⟨none, none, (.store 26 (.tmp 13) (.tmp 48))⟩])
      (.seq
       (.seq
        (.ops [⟨some 49, none, (.move (.tmp 8))⟩,
          ⟨some 50, none, (.binOp .sub 3 (.tmp 49) (.const (.int .i64 2)) 3)⟩,
          ⟨some 14, none, (.assign (.tmp 50))⟩])
        (.block 2
         (.loop
          (.seq
           (.seq
            (.ops [⟨some 51, none, (.move (.tmp 14))⟩,
              ⟨some 52, none, (.binOp .geq 3 (.tmp 51) (.const (.int .i64 0)) 3)⟩])
            (.cond (.tmp 52)
             .skip
             (.exit 2)))
           (.seq
            (.block 3
             (.seq
              (.draw #[] [(4, 0), (5, 0)]
                [⟨some 56, none, (.move (.tmp 0))⟩,
                ⟨some 57, none, (.move (.tmp 1))⟩,
                ⟨some 58, none, (.move (.tmp 14))⟩,
                ⟨some 59, none, (.indexAddr 39 (.tmp 57) (.tmp 58))⟩,
                ⟨some 60, none, (.load 26 (.tmp 59))⟩,
                ⟨some 61, none, (.load 26 (.tmp 13))⟩,
                ⟨some 62, none, (.call ⟨(.value (.func 151)), #[(.tmp 56), (.tmp 60), (.tmp 61)], #[3, 26, 26]⟩)⟩,
                ⟨some 55, none, (.move (.tmp 62))⟩,
                ⟨some 63, none, (.extract (.tmp 55) 0)⟩,
                ⟨some 64, none, (.extract (.tmp 55) 1)⟩,
                ⟨some 15, none, (.alloc 26)⟩,
                ⟨none, none, (.store 26 (.tmp 15) (.tmp 63))⟩,
                ⟨some 16, none, (.assign (.tmp 64))⟩])
              (.seq
               (.seq
                (.ops [⟨some 65, none, (.move (.tmp 16))⟩,
                  ⟨some 66, none, (.binOp .neq 3 (.tmp 65) (.const (.int .i64 0)) 3)⟩])
                (.cond (.tmp 66)
                 (.seq
                  (.ops [⟨some 67, none, (.build 26 #[])⟩,
                    ⟨some 68, none, (.move (.tmp 16))⟩,
                    ⟨none, none, (.store 26 (.tmp 6) (.tmp 67))⟩,
                    ⟨some 7, none, (.assign (.tmp 68))⟩])
                  .ret)
                 .skip))
               (.ops [⟨some 69, none, (.load 26 (.tmp 15))⟩,
                 ⟨none, none, (.store 26 (.tmp 13) (.tmp 69))⟩]))))
            (.ops [⟨some 53, none, (.move (.tmp 14))⟩,
              ⟨some 54, none, (.binOp .sub 3 (.tmp 53) (.const (.int .i64 1)) 3)⟩,
              ⟨some 14, none, (.assign (.tmp 54))⟩]))))))
       (.seq
        (.ops [⟨some 70, none, (.load 26 (.tmp 13))⟩,
          ⟨none, none, (.store 26 (.tmp 6) (.tmp 70))⟩,
          ⟨some 7, none, (.assign (.const (.int .i64 0)))⟩])
        .ret))))))
theorem w62 {args : Array Value} {H : AH} {Φ : Value → AH → Prop} (h : rW Try.prog k62 [] (fin Try.prog [(.cell 6 26), (.tmp 7)] Φ) (tm0 args) H) : CallsA Try.prog 62 args H Φ :=
  CallsA.w k62 [(.cell 6 26), (.tmp 7)] (fun i => if i = 14 then [(4, 0), (5, 0)] else []) Try.func62 rfl rfl (by kernel_rfl) (by kernel_rfl) h

/-- spec.l5Rows -/
def k63 : KC :=
  (.seq
   (.ops [⟨some 4, none, (.alloc 26)⟩])
   (.seq
    (.ops [⟨some 7, none, (.move (.tmp 0))⟩,
      ⟨some 8, none, (.call ⟨(.builtin .len), #[(.tmp 7)], #[39]⟩)⟩,
      ⟨some 9, none, (.buildSlice 22 1 #[(0, (.tmp 8))])⟩,
      ⟨some 10, none, (.move (.tmp 1))⟩,
      ⟨some 11, none, (.call ⟨(.builtin .append), #[(.tmp 9), (.tmp 10)], #[22, 22]⟩)⟩,
      ⟨some 12, none, (.build 26 #[(0, (.tmp 11))])⟩,
      ⟨some 5, none, (.alloc 26)⟩,
      ⟨none, none, (.store 26 (.tmp 5) (.tmp 12))⟩])
    (.seq
     (.seq
      (.ops [⟨some 6, none, (.assign (.const (.int .i64 0)))⟩])
      (.block 0
       (.loop
        (.seq
         (.seq
          (.ops [⟨some 13, none, (.move (.tmp 6))⟩,
            ⟨some 14, none, (.move (.tmp 0))⟩,
            ⟨some 15, none, (.call ⟨(.builtin .len), #[(.tmp 14)], #[39]⟩)⟩,
            ⟨some 16, none, (.binOp .lss 3 (.tmp 13) (.tmp 15) 3)⟩])
          (.cond (.tmp 16)
           .skip
           (.exit 0)))
         (.seq
          (.block 1
           (.draw #[] [(1, 0), (6, 0)]
             [⟨some 19, none, (.fieldAddr 26 (.tmp 5) 1)⟩,
             ⟨some 20, none, (.load 22 (.tmp 19))⟩,
             ⟨some 21, none, (.move (.tmp 0))⟩,
             ⟨some 22, none, (.move (.tmp 6))⟩,
             ⟨some 23, none, (.indexAddr 39 (.tmp 21) (.tmp 22))⟩,
             ⟨some 24, none, (.fieldAddr 26 (.tmp 23) 1)⟩,
             ⟨some 25, none, (.load 22 (.tmp 24))⟩,
             ⟨some 26, none, (.call ⟨(.builtin .append), #[(.tmp 20), (.tmp 25)], #[22, 22]⟩)⟩,
             ⟨some 27, none, (.fieldAddr 26 (.tmp 5) 1)⟩,
             ⟨none, none, (.store 22 (.tmp 27) (.tmp 26))⟩]))
          (.ops [⟨some 17, none, (.move (.tmp 6))⟩,
            ⟨some 18, none, (.binOp .add 3 (.tmp 17) (.const (.int .i64 1)) 3)⟩,
            ⟨some 6, none, (.assign (.tmp 18))⟩]))))))
     (.seq
      (.ops [⟨some 28, none, (.load 26 (.tmp 5))⟩,
        ⟨none, none, (.store 26 (.tmp 4) (.tmp 28))⟩])
      .ret))))
theorem w63 {args : Array Value} {H : AH} {Φ : Value → AH → Prop} (h : rW Try.prog k63 [] (fin Try.prog [(.cell 4 26)] Φ) (tm0 args) H) : CallsA Try.prog 63 args H Φ :=
  CallsA.w k63 [(.cell 4 26)] (fun i => if i = 5 then [(1, 0), (6, 0)] else []) Try.func63 rfl rfl (by kernel_rfl) (by kernel_rfl) h

/-- spec.Scan -/
def k13 : KC :=
  (.seq
   (.ops [⟨some 3, none, (.box 26 (.tmp 1))⟩,
     ⟨some 4, none, (.alloc 26)⟩,
     ⟨some 5, none, (.assign (.const (.int .i64 0)))⟩])
   (.seq
    (.seq
     (.ops [⟨some 11, none, (.load 26 (.tmp 3))⟩,
       ⟨some 12, none, (.call ⟨(.value (.func 58)), #[(.tmp 11)], #[26]⟩)⟩,
       ⟨some 13, none, (.unOp .not 4 (.tmp 12))⟩,
       ⟨some 14, none, (.move (.tmp 13))⟩,
       ⟨some 15, (some (14, false)), (.move (.tmp 0))⟩,
       ⟨some 16, (some (14, false)), (.call ⟨(.value (.func 59)), #[(.tmp 15)], #[3]⟩)⟩,
       ⟨some 17, (some (14, false)), (.unOp .not 4 (.tmp 16))⟩,
       ⟨some 18, none, (.pick (.tmp 14) (.const (.bool true)) (.tmp 17))⟩])
     (.cond (.tmp 18)
      (.seq
       (.ops [⟨some 19, none, (.build 26 #[])⟩,
         ⟨none, none, (.store 26 (.tmp 4) (.tmp 19))⟩,
         ⟨some 5, none, (.assign (.const (.int .i64 1)))⟩])
       .ret)
      .skip))
    (.seq
     (.seq
      (.ops [⟨some 20, none, (.fieldAddr 26 (.tmp 3) 0)⟩,
        ⟨some 21, none, (.load 22 (.tmp 20))⟩,
        ⟨some 22, none, (.call ⟨(.builtin .len), #[(.tmp 21)], #[22]⟩)⟩,
        ⟨some 23, none, (.binOp .eql 3 (.tmp 22) (.const (.int .i64 0)) 3)⟩])
      (.cond (.tmp 23)
       (.seq
        (.ops [⟨some 24, none, (.load 26 (.tmp 3))⟩,
          ⟨some 25, none, (.call ⟨(.value (.func 60)), #[(.tmp 24)], #[26]⟩)⟩,
          ⟨none, none, (.store 26 (.tmp 4) (.tmp 25))⟩,
          ⟨some 5, none, (.assign (.const (.int .i64 0)))⟩])
        .ret)
       .skip))
     (.seq
      (.ops [⟨some 26, none, (.load 26 (.tmp 3))⟩,
        ⟨some 27, none, (.call ⟨(.value (.func 61)), #[(.tmp 26)], #[26]⟩)⟩,
        ⟨some 6, none, (.assign (.tmp 27))⟩])
      (.seq
       (.ops [⟨some 28, none, (.buildSlice 39 0 #[])⟩,
         ⟨some 7, none, (.assign (.tmp 28))⟩])
       (.seq
        (.seq
         (.ops [⟨some 8, none, (.assign (.const (.int .i64 0)))⟩])
         (.block 0
          (.loop
           (.seq
            (.seq
             (.ops [⟨some 29, none, (.move (.tmp 8))⟩,
               ⟨some 30, none, (.move (.tmp 6))⟩,
               ⟨some 31, none, (.call ⟨(.builtin .len), #[(.tmp 30)], #[39]⟩)⟩,
               ⟨some 32, none, (.binOp .lss 3 (.tmp 29) (.tmp 31) 3)⟩])
             (.cond (.tmp 32)
              .skip
              (.exit 0)))
            (.seq
             (.block 1
              (.seq
               (.draw #[] [(6, 0)]
                 [⟨some 36, none, (.move (.tmp 0))⟩,
                 ⟨some 37, none, (.move (.tmp 6))⟩,
                 ⟨some 38, none, (.move (.tmp 8))⟩,
                 ⟨some 39, none, (.binOp .add 3 (.tmp 38) (.const (.int .i64 1)) 3)⟩,
                 ⟨some 40, none, (.slice 39 (.tmp 37) none (some (.tmp 39)) none)⟩,
                 ⟨some 41, none, (.fieldAddr 26 (.tmp 3) 0)⟩,
                 ⟨some 42, none, (.load 22 (.tmp 41))⟩,
                 ⟨some 43, none, (.slice 22 (.tmp 42) (some (.const (.int .i64 1))) none none)⟩,
                 ⟨some 44, none, (.call ⟨(.value (.func 62)), #[(.tmp 36), (.tmp 40), (.tmp 43)], #[3, 39, 22]⟩)⟩,
                 ⟨some 35, none, (.move (.tmp 44))⟩,
                 ⟨some 45, none, (.extract (.tmp 35) 0)⟩,
                 ⟨some 46, none, (.extract (.tmp 35) 1)⟩,
                 ⟨some 9, none, (.alloc 26)⟩,
                 ⟨none, none, (.store 26 (.tmp 9) (.tmp 45))⟩,
                 ⟨some 10, none, (.assign (.tmp 46))⟩])
               (.seq
                (.seq
                 (.ops [⟨some 47, none, (.move (.tmp 10))⟩,
                   ⟨some 48, none, (.binOp .neq 3 (.tmp 47) (.const (.int .i64 0)) 3)⟩])
                 (.cond (.tmp 48)
                  (.seq
                   (.ops [⟨some 49, none, (.build 26 #[])⟩,
                     ⟨some 50, none, (.move (.tmp 10))⟩,
                     ⟨none, none, (.store 26 (.tmp 4) (.tmp 49))⟩,
                     ⟨some 5, none, (.assign (.tmp 50))⟩])
                   .ret)
                  .skip))
                (.ops [⟨some 51, none, (.move (.tmp 7))⟩,
                  ⟨some 52, none, (.load 26 (.tmp 9))⟩,
                  ⟨some 53, none, (.buildSlice 39 1 #[(0, (.tmp 52))])⟩,
                  ⟨some 54, none, (.call ⟨(.builtin .append), #[(.tmp 51), (.tmp 53)], #[39, 39]⟩)⟩,
                  ⟨some 7, none, (.assign (.tmp 54))⟩]))))
             (.ops [⟨some 33, none, (.move (.tmp 8))⟩,
               ⟨some 34, none, (.binOp .add 3 (.tmp 33) (.const (.int .i64 1)) 3)⟩,
               ⟨some 8, none, (.assign (.tmp 34))⟩]))))))
        (.seq
         (.ops [⟨some 55, none, (.move (.tmp 7))⟩,
           ⟨some 56, none, (.fieldAddr 26 (.tmp 3) 0)⟩,
           ⟨some 57, none, (.load 22 (.tmp 56))⟩,
           ⟨some 58, none, (.slice 22 (.tmp 57) (some (.const (.int .i64 1))) none none)⟩,
           ⟨some 59, none, (.call ⟨(.value (.func 63)), #[(.tmp 55), (.tmp 58)], #[39, 22]⟩)⟩,
           ⟨none, none, (.store 26 (.tmp 4) (.tmp 59))⟩,
           ⟨some 5, none, (.assign (.const (.int .i64 0)))⟩])
         .ret)))))))
theorem w13 {args : Array Value} {H : AH} {Φ : Value → AH → Prop} (h : rW Try.prog k13 [] (fin Try.prog [(.cell 4 26), (.tmp 5)] Φ) (tm0 args) H) : CallsA Try.prog 13 args H Φ :=
  CallsA.w k13 [(.cell 4 26), (.tmp 5)] (fun i => if i = 10 then [(6, 0)] else []) Try.func13 rfl rfl (by kernel_rfl) (by kernel_rfl) h

/-- impl.within -/
def k76 : KC :=
  (.seq
   (.ops [⟨some 6, none, (.assign (.const (.bool false)))⟩])
   (.seq
    (.ops [⟨some 7, none, (.move (.tmp 0))⟩,
      ⟨some 8, none, (.move (.tmp 1))⟩,
      ⟨some 9, none, (.binOp .geq 3 (.tmp 7) (.tmp 8) 3)⟩,
      ⟨some 10, none, (.move (.tmp 9))⟩,
      ⟨some 11, (some (10, true)), (.move (.tmp 0))⟩,
      ⟨some 12, (some (10, true)), (.move (.tmp 2))⟩,
      ⟨some 13, (some (10, true)), (.binOp .leq 3 (.tmp 11) (.tmp 12) 3)⟩,
      ⟨some 14, none, (.pick (.tmp 10) (.tmp 13) (.const (.bool false)))⟩,
      ⟨some 6, none, (.assign (.tmp 14))⟩])
    .ret))
theorem w76 {args : Array Value} {H : AH} {Φ : Value → AH → Prop} (h : rW Try.prog k76 [] (fin Try.prog [(.tmp 6)] Φ) (tm0 args) H) : CallsA Try.prog 76 args H Φ :=
  CallsA.w k76 [(.tmp 6)] (fun _ => []) Try.func76 rfl rfl (by kernel_rfl) (by kernel_rfl) h

/-- impl.SizeOf -/
def k77 : KC :=
  (.seq
   (.ops [⟨some 2, none, (.assign (.const (.int .i64 0)))⟩])
   (.seq
    (.seq
     (.ops [⟨some 6, none, (.move (.tmp 0))⟩,
       ⟨some 7, none, (.call ⟨(.builtin .len), #[(.tmp 6)], #[22]⟩)⟩,
       ⟨some 8, none, (.binOp .gtr 3 (.tmp 7) (.const (.int .i64 3)) 3)⟩])
     (.cond (.tmp 8)
      (.seq
       (.ops [⟨some 2, none, (.assign (.const (.int .i64 (-1))))⟩])
       .ret)
      .skip))
    (.seq
     (.ops [⟨some 3, none, (.assign (.const (.int .i64 1)))⟩])
     (.seq
      (.seq
       (.ops [⟨some 9, none, (.move (.tmp 0))⟩,
         ⟨some 10, none, (.call ⟨(.builtin .len), #[(.tmp 9)], #[22]⟩)⟩,
         ⟨some 11, none, (.move (.const (.int .i64 0)))⟩])
       (.block 0
        (.loop
         (.seq
          (.ops [⟨some 12, none, (.binOp .lss 3 (.tmp 11) (.tmp 10) 3)⟩])
          (.seq
           (.cond (.tmp 12)
            .skip
            (.exit 0))
           (.seq
            (.block 1
             (.seq
              (.ops [⟨some 13, none, (.indexAddr 22 (.tmp 9) (.tmp 11))⟩,
                ⟨some 14, none, (.load 3 (.tmp 13))⟩,
                ⟨some 5, none, (.assign (.tmp 14))⟩])
              (.seq
               (.seq
                (.ops [⟨some 15, none, (.move (.tmp 5))⟩,
                  ⟨some 16, none, (.call ⟨(.value (.func 76)), #[(.tmp 15), (.const (.int .i64 0)), (.const (.int .i64 300))], #[3, 3, 3]⟩)⟩,
                  ⟨some 17, none, (.unOp .not 4 (.tmp 16))⟩])
                (.cond (.tmp 17)
                 (.seq
                  (.ops [⟨some 2, none, (.assign (.const (.int .i64 (-1))))⟩])
                  .ret)
                 .skip))
               (.ops [⟨some 18, none, (.move (.tmp 3))⟩,
                 ⟨some 19, none, (.move (.tmp 5))⟩,
                 ⟨some 20, none, (.binOp .mul 3 (.tmp 18) (.tmp 19) 3)⟩,
                 ⟨some 3, none, (.assign (.tmp 20))⟩]))))
            (.ops [⟨some 21, none, (.binOp .add 3 (.tmp 11) (.const (.int .i64 1)) 3)⟩,
              ⟨some 11, none, (.move (.tmp 21))⟩])))))))
      (.seq
       (.seq
        (.ops [⟨some 22, none, (.move (.tmp 3))⟩,
          ⟨some 23, none, (.binOp .gtr 3 (.tmp 22) (.const (.int .i64 300)) 3)⟩])
        (.cond (.tmp 23)
         (.seq
          (.ops [⟨some 2, none, (.assign (.const (.int .i64 (-1))))⟩])
          .ret)
         .skip))
       (.seq
        (.ops [⟨some 24, none, (.move (.tmp 3))⟩,
          ⟨some 2, none, (.assign (.tmp 24))⟩])
        .ret))))))
theorem w77 {args : Array Value} {H : AH} {Φ : Value → AH → Prop} (h : rW Try.prog k77 [] (fin Try.prog [(.tmp 2)] Φ) (tm0 args) H) : CallsA Try.prog 77 args H Φ :=
  CallsA.w k77 [(.tmp 2)] (fun _ => []) Try.func77 rfl rfl (by kernel_rfl) (by kernel_rfl) h

/-- slices.IndexFunc[[]int,int] -/
def k178 : KC :=
  (.seq
   (.ops [⟨some 4, none, (.assign (.const (.int .i64 0)))⟩])
   (.seq
    (.seq
     (.ops [⟨some 6, none, (.move (.tmp 0))⟩,
       ⟨some 7, none, (.call ⟨(.builtin .len), #[(.tmp 6)], #[22]⟩)⟩,
       ⟨some 8, none, (.move (.const (.int .i64 0)))⟩])
     (.block 0
      (.loop
       (.seq
        (.ops [⟨some 9, none, (.binOp .lss 3 (.tmp 8) (.tmp 7) 3)⟩])
        (.seq
         (.cond (.tmp 9)
          .skip
          (.exit 0))
         (.seq
          (.block 1
           (.seq
            (.ops [⟨some 10, none, (.move (.tmp 8))⟩,
              ⟨some 5, none, (.assign (.tmp 10))⟩])
            (.seq
             (.ops [⟨some 11, none, (.move (.tmp 1))⟩,
               ⟨some 12, none, (.move (.tmp 0))⟩,
               ⟨some 13, none, (.move (.tmp 5))⟩,
               ⟨some 14, none, (.indexAddr 22 (.tmp 12) (.tmp 13))⟩,
               ⟨some 15, none, (.load 3 (.tmp 14))⟩,
               ⟨some 16, none, (.call ⟨(.value (.tmp 11)), #[(.tmp 15)], #[3]⟩)⟩])
             (.cond (.tmp 16)
              (.seq
               (.ops [⟨some 17, none, (.move (.tmp 5))⟩,
                 ⟨some 4, none, (.assign (.tmp 17))⟩])
               .ret)
              .skip))))
          (.ops [⟨some 18, none, (.binOp .add 3 (.tmp 8) (.const (.int .i64 1)) 3)⟩,
            ⟨some 8, none, (.move (.tmp 18))⟩])))))))
    (.seq
     (.ops [⟨some 4, none, (.assign (.const (.int .i64 (-1))))⟩])
     .ret)))
theorem w178 {args : Array Value} {H : AH} {Φ : Value → AH → Prop} (h : rW Try.prog k178 [] (fin Try.prog [(.tmp 4)] Φ) (tm0 args) H) : CallsA Try.prog 178 args H Φ :=
  CallsA.w k178 [(.tmp 4)] (fun _ => []) Try.func178 rfl rfl (by kernel_rfl) (by kernel_rfl) h

/-- slices.ContainsFunc[[]int,int] -/
def k94 : KC :=
  (.seq
   (.ops [⟨some 4, none, (.assign (.const (.bool false)))⟩])
   (.seq
    (.ops [⟨some 5, none, (.move (.tmp 0))⟩,
      ⟨some 6, none, (.move (.tmp 1))⟩,
      ⟨some 7, none, (.call ⟨(.value (.func 178)), #[(.tmp 5), (.tmp 6)], #[22, 86]⟩)⟩,
      ⟨some 8, none, (.binOp .geq 3 (.tmp 7) (.const (.int .i64 0)) 3)⟩,
      ⟨some 4, none, (.assign (.tmp 8))⟩])
    .ret))
theorem w94 {args : Array Value} {H : AH} {Φ : Value → AH → Prop} (h : rW Try.prog k94 [] (fin Try.prog [(.tmp 4)] Φ) (tm0 args) H) : CallsA Try.prog 94 args H Φ :=
  CallsA.w k94 [(.tmp 4)] (fun _ => []) Try.func94 rfl rfl (by kernel_rfl) (by kernel_rfl) h

/-- impl.NumOk -/
def k84 : KC :=
  (.seq
   (.ops [⟨some 2, none, (.assign (.const (.bool false)))⟩])
   (.seq
    (.ops [⟨some 3, none, (.move (.tmp 0))⟩,
      ⟨some 4, none, (.call ⟨(.value (.func 76)), #[(.tmp 3), (.const (.int .i64 (-1000000000000))), (.const (.int .i64 1000000000000))], #[3, 3, 3]⟩)⟩,
      ⟨some 2, none, (.assign (.tmp 4))⟩])
    .ret))
theorem w84 {args : Array Value} {H : AH} {Φ : Value → AH → Prop} (h : rW Try.prog k84 [] (fin Try.prog [(.tmp 2)] Φ) (tm0 args) H) : CallsA Try.prog 84 args H Φ :=
  CallsA.w k84 [(.tmp 2)] (fun _ => []) Try.func84 rfl rfl (by kernel_rfl) (by kernel_rfl) h

/-- impl.ArrayOk$1 -/
def k95 : KC :=
  (.seq
   (.ops [⟨some 2, none, (.assign (.const (.bool false)))⟩])
   (.seq
    (.ops [⟨some 3, none, (.move (.tmp 0))⟩,
      ⟨some 4, none, (.call ⟨(.value (.func 84)), #[(.tmp 3)], #[3]⟩)⟩,
      ⟨some 5, none, (.unOp .not 4 (.tmp 4))⟩,
      ⟨some 2, none, (.assign (.tmp 5))⟩])
    .ret))
theorem w95 {args : Array Value} {H : AH} {Φ : Value → AH → Prop} (h : rW Try.prog k95 [] (fin Try.prog [(.tmp 2)] Φ) (tm0 args) H) : CallsA Try.prog 95 args H Φ :=
  CallsA.w k95 [(.tmp 2)] (fun _ => []) Try.func95 rfl rfl (by kernel_rfl) (by kernel_rfl) h

/-- impl.ArrayOk -/
def k33 : KC :=
  (.seq
   (.ops [⟨some 1, none, (.box 26 (.tmp 0))⟩,
     ⟨some 2, none, (.assign (.const (.bool false)))⟩])
   (.seq
    (.draw #[] [(1, 0), (1, 6), (4, 0), (9, 6)]
      [⟨some 3, none, (.fieldAddr 26 (.tmp 1) 1)⟩,
      ⟨some 4, none, (.load 22 (.tmp 3))⟩,
      ⟨some 5, none, (.call ⟨(.builtin .len), #[(.tmp 4)], #[22]⟩)⟩,
      ⟨some 6, none, (.fieldAddr 26 (.tmp 1) 0)⟩,
      ⟨some 7, none, (.load 22 (.tmp 6))⟩,
      ⟨some 8, none, (.call ⟨(.value (.func 77)), #[(.tmp 7)], #[22]⟩)⟩,
      ⟨some 9, none, (.binOp .eql 3 (.tmp 5) (.tmp 8) 3)⟩,
      ⟨some 10, none, (.move (.tmp 9))⟩,
      ⟨some 11, (some (10, true)), (.fieldAddr 26 (.tmp 1) 1)⟩,
      ⟨some 12, (some (10, true)), (.load 22 (.tmp 11))⟩,
      ⟨some 13, (some (10, true)), (.call ⟨(.value (.func 94)), #[(.tmp 12), (.func 95)], #[22, 86]⟩)⟩,
      ⟨some 14, (some (10, true)), (.unOp .not 4 (.tmp 13))⟩,
      ⟨some 15, none, (.pick (.tmp 10) (.tmp 14) (.const (.bool false)))⟩,
      ⟨some 2, none, (.assign (.tmp 15))⟩])
    .ret))
theorem w33 {args : Array Value} {H : AH} {Φ : Value → AH → Prop} (h : rW Try.prog k33 [] (fin Try.prog [(.tmp 2)] Φ) (tm0 args) H) : CallsA Try.prog 33 args H Φ :=
  CallsA.w k33 [(.tmp 2)] (fun i => if i = 1 then [(1, 0), (1, 6), (4, 0), (9, 6)] else []) Try.func33 rfl rfl (by kernel_rfl) (by kernel_rfl) h

/-- impl.copyArray -/
def k66 : KC :=
  (.seq
   (.ops [⟨some 1, none, (.box 26 (.tmp 0))⟩,
     ⟨some 2, none, (.alloc 26)⟩])
   (.seq
    (.draw #[] [(1, 0), (4, 0), (4, 3)]
      [⟨some 3, none, (.fieldAddr 26 (.tmp 1) 0)⟩,
      ⟨some 4, none, (.load 22 (.tmp 3))⟩,
      ⟨some 5, none, (.call ⟨(.builtin .append), #[(.const (.slice none 0 0)), (.tmp 4)], #[22, 22]⟩)⟩,
      ⟨some 6, none, (.fieldAddr 26 (.tmp 1) 1)⟩,
      ⟨some 7, none, (.load 22 (.tmp 6))⟩,
      ⟨some 8, none, (.call ⟨(.builtin .append), #[(.const (.slice none 0 0)), (.tmp 7)], #[22, 22]⟩)⟩,
      ⟨some 9, none, (.build 26 #[(0, (.tmp 5)), (1, (.tmp 8))])⟩,
      ⟨none, none, (.store 26 (.tmp 2) (.tmp 9))⟩])
    .ret))
theorem w66 {args : Array Value} {H : AH} {Φ : Value → AH → Prop} (h : rW Try.prog k66 [] (fin Try.prog [(.cell 2 26)] Φ) (tm0 args) H) : CallsA Try.prog 66 args H Φ :=
  CallsA.w k66 [(.cell 2 26)] (fun i => if i = 1 then [(1, 0), (4, 0), (4, 3)] else []) Try.func66 rfl rfl (by kernel_rfl) (by kernel_rfl) h

/-- impl.Rows -/
def k24 : KC :=
  (.seq
   (.ops [⟨some 1, none, (.box 26 (.tmp 0))⟩,
     ⟨some 2, none, (.assign (.const (.slice none 0 0)))⟩])
   (.seq
    (.seq
     (.ops [⟨some 6, none, (.load 26 (.tmp 1))⟩,
       ⟨some 7, none, (.call ⟨(.value (.func 33)), #[(.tmp 6)], #[26]⟩)⟩,
       ⟨some 8, none, (.unOp .not 4 (.tmp 7))⟩,
       ⟨some 9, none, (.move (.tmp 8))⟩,
       ⟨some 10, (some (9, false)), (.fieldAddr 26 (.tmp 1) 0)⟩,
       ⟨some 11, (some (9, false)), (.load 22 (.tmp 10))⟩,
       ⟨some 12, (some (9, false)), (.call ⟨(.builtin .len), #[(.tmp 11)], #[22]⟩)⟩,
       ⟨some 13, (some (9, false)), (.binOp .eql 3 (.tmp 12) (.const (.int .i64 0)) 3)⟩,
       ⟨some 14, none, (.pick (.tmp 9) (.const (.bool true)) (.tmp 13))⟩])
     (.cond (.tmp 14)
      (.seq
       (.ops [⟨some 2, none, (.assign (.const (.slice none 0 0)))⟩])
       .ret)
      .skip))
    (.seq
     (.ops [⟨some 15, none, (.fieldAddr 26 (.tmp 1) 0)⟩,
       ⟨some 16, none, (.load 22 (.tmp 15))⟩,
       ⟨some 17, none, (.slice 22 (.tmp 16) (some (.const (.int .i64 1))) none none)⟩,
       ⟨some 18, none, (.call ⟨(.value (.func 77)), #[(.tmp 17)], #[22]⟩)⟩,
       ⟨some 3, none, (.assign (.tmp 18))⟩])
     (.seq
      (.ops [⟨some 4, none, (.assign (.const (.slice none 0 0)))⟩])
      (.seq
       (.seq
        (.ops [⟨some 5, none, (.assign (.const (.int .i64 0)))⟩])
        (.block 0
         (.loop
          (.seq
           (.seq
            (.ops [⟨some 19, none, (.move (.tmp 5))⟩,
              ⟨some 20, none, (.fieldAddr 26 (.tmp 1) 0)⟩,
              ⟨some 21, none, (.load 22 (.tmp 20))⟩,
              ⟨some 22, none, (.indexAddr 22 (.tmp 21) (.const (.int .i64 0)))⟩,
              ⟨some 23, none, (.load 3 (.tmp 22))⟩,
              ⟨some 24, none, (.binOp .lss 3 (.tmp 19) (.tmp 23) 3)⟩])
            (.cond (.tmp 24)
             .skip
             (.exit 0)))
           (.seq
            (.block 1
             (.draw #[] [(2, 0), (5, 0)]
               [⟨some 27, none, (.move (.tmp 4))⟩,
               ⟨some 28, none, (.fieldAddr 26 (.tmp 1) 0)⟩,
               ⟨some 29, none, (.load 22 (.tmp 28))⟩,
               ⟨some 30, none, (.slice 22 (.tmp 29) (some (.const (.int .i64 1))) none none)⟩,
               ⟨some 31, none, (.fieldAddr 26 (.tmp 1) 1)⟩,
               ⟨some 32, none, (.load 22 (.tmp 31))⟩,
               ⟨some 33, none, (.move (.tmp 5))⟩,
               ⟨some 34, none, (.move (.tmp 3))⟩,
               ⟨some 35, none, (.binOp .mul 3 (.tmp 33) (.tmp 34) 3)⟩,
               ⟨some 36, none, (.move (.tmp 5))⟩,
               ⟨some 37, none, (.binOp .add 3 (.tmp 36) (.const (.int .i64 1)) 3)⟩,
               ⟨some 38, none, (.move (.tmp 3))⟩,
               ⟨some 39, none, (.binOp .mul 3 (.tmp 37) (.tmp 38) 3)⟩,
               ⟨some 40, none, (.slice 22 (.tmp 32) (some (.tmp 35)) (some (.tmp 39)) none)⟩,
               ⟨some 41, none, (.build 26 #[(0, (.tmp 30)), (1, (.tmp 40))])⟩,
               ⟨some 42, none, (.call ⟨(.value (.func 66)), #[(.tmp 41)], #[26]⟩)⟩,
               ⟨some 43, none, (.buildSlice 39 1 #[(0, (.tmp 42))])⟩,
               ⟨some 44, none, (.call ⟨(.builtin .append), #[(.tmp 27), (.tmp 43)], #[39, 39]⟩)⟩,
               ⟨some 4, none, (.assign (.tmp 44))⟩]))
            (.ops [⟨some 25, none, (.move (.tmp 5))⟩,
              ⟨some 26, none, (.binOp .add 3 (.tmp 25) (.const (.int .i64 1)) 3)⟩,
              ⟨some 5, none, (.assign (.tmp 26))⟩]))))))
       (.seq
        (.ops [⟨some 45, none, (.move (.tmp 4))⟩,
          ⟨some 2, none, (.assign (.tmp 45))⟩])
        .ret))))))
theorem w24 {args : Array Value} {H : AH} {Φ : Value → AH → Prop} (h : rW Try.prog k24 [] (fin Try.prog [(.tmp 2)] Φ) (tm0 args) H) : CallsA Try.prog 24 args H Φ :=
  CallsA.w k24 [(.tmp 2)] (fun i => if i = 8 then [(2, 0), (5, 0)] else []) Try.func24 rfl rfl (by kernel_rfl) (by kernel_rfl) h

/-- impl.hasSign -/
def k164 : KC :=
  (.seq
   (.ops [⟨some 4, none, (.assign (.const (.bool false)))⟩])
   (.seq
    (.seq
     (.ops [⟨some 5, none, (.assign (.const (.int .i64 0)))⟩])
     (.block 0
      (.loop
       (.seq
        (.seq
         (.ops [⟨some 6, none, (.move (.tmp 5))⟩,
           ⟨some 7, none, (.move (.tmp 0))⟩,
           ⟨some 8, none, (.call ⟨(.builtin .len), #[(.tmp 7)], #[9]⟩)⟩,
           ⟨some 9, none, (.binOp .lss 3 (.tmp 6) (.tmp 8) 3)⟩])
         (.cond (.tmp 9)
          .skip
          (.exit 0)))
        (.seq
         (.block 1
          (.seq
           (.ops [⟨some 12, none, (.move (.tmp 0))⟩,
             ⟨some 13, none, (.move (.tmp 5))⟩,
             ⟨some 14, none, (.index 9 (.tmp 12) (.tmp 13))⟩,
             ⟨some 15, none, (.convert 5 3 (.tmp 14))⟩,
             ⟨some 16, none, (.move (.tmp 1))⟩,
             ⟨some 17, none, (.binOp .eql 3 (.tmp 15) (.tmp 16) 3)⟩])
           (.cond (.tmp 17)
            (.seq
             (.ops [⟨some 4, none, (.assign (.const (.bool true)))⟩])
             .ret)
            .skip)))
         (.ops [⟨some 10, none, (.move (.tmp 5))⟩,
           ⟨some 11, none, (.binOp .add 3 (.tmp 10) (.const (.int .i64 1)) 3)⟩,
           ⟨some 5, none, (.assign (.tmp 11))⟩]))))))
    (.seq
     (.ops [⟨some 4, none, (.assign (.const (.bool false)))⟩])
     .ret)))
theorem w164 {args : Array Value} {H : AH} {Φ : Value → AH → Prop} (h : rW Try.prog k164 [] (fin Try.prog [(.tmp 4)] Φ) (tm0 args) H) : CallsA Try.prog 164 args H Φ :=
  CallsA.w k164 [(.tmp 4)] (fun _ => []) Try.func164 rfl rfl (by kernel_rfl) (by kernel_rfl) h

/-- impl.twoSign -/
def k65 : KC :=
  (.seq
   (.ops [⟨some 2, none, (.assign (.const (.bool false)))⟩])
   (.seq
    (.ops [⟨some 3, none, (.move (.tmp 0))⟩,
      ⟨some 4, none, (.call ⟨(.value (.func 164)), #[(.const (.string ⟨#[43, 45, 42, 37, 124, 38, 94, 61, 60, 62]⟩)), (.tmp 3)], #[9, 3]⟩)⟩,
      ⟨some 2, none, (.assign (.tmp 4))⟩])
    .ret))
theorem w65 {args : Array Value} {H : AH} {Φ : Value → AH → Prop} (h : rW Try.prog k65 [] (fin Try.prog [(.tmp 2)] Φ) (tm0 args) H) : CallsA Try.prog 65 args H Φ :=
  CallsA.w k65 [(.tmp 2)] (fun _ => []) Try.func65 rfl rfl (by kernel_rfl) (by kernel_rfl) h

/-- slices.Equal[[]int,int] -/
def k174 : KC :=
  (.seq
   (.ops [⟨some 4, none, (.assign (.const (.bool false)))⟩])
   (.seq
    (.seq
     (.ops [⟨some 6, none, (.move (.tmp 0))⟩,
       ⟨some 7, none, (.call ⟨(.builtin .len), #[(.tmp 6)], #[22]⟩)⟩,
       ⟨some 8, none, (.move (.tmp 1))⟩,
       ⟨some 9, none, (.call ⟨(.builtin .len), #[(.tmp 8)], #[22]⟩)⟩,
       ⟨some 10, none, (.binOp .neq 3 (.tmp 7) (.tmp 9) 3)⟩])
     (.cond (.tmp 10)
      (.seq
       (.ops [⟨some 4, none, (.assign (.const (.bool false)))⟩])
       .ret)
      .skip))
    (.seq
     (.seq
      (.ops [⟨some 11, none, (.move (.tmp 0))⟩,
        ⟨some 12, none, (.call ⟨(.builtin .len), #[(.tmp 11)], #[22]⟩)⟩,
        ⟨some 13, none, (.move (.const (.int .i64 0)))⟩])
      (.block 0
       (.loop
        (.seq
         (.ops [⟨some 14, none, (.binOp .lss 3 (.tmp 13) (.tmp 12) 3)⟩])
         (.seq
          (.cond (.tmp 14)
           .skip
           (.exit 0))
          (.seq
           (.block 1
            (.seq
             (.ops [⟨some 15, none, (.move (.tmp 13))⟩,
               ⟨some 5, none, (.assign (.tmp 15))⟩])
             (.seq
              (.ops [⟨some 16, none, (.move (.tmp 0))⟩,
                ⟨some 17, none, (.move (.tmp 5))⟩,
                ⟨some 18, none, (.indexAddr 22 (.tmp 16) (.tmp 17))⟩,
                ⟨some 19, none, (.load 3 (.tmp 18))⟩,
                ⟨some 20, none, (.move (.tmp 1))⟩,
                ⟨some 21, none, (.move (.tmp 5))⟩,
                ⟨some 22, none, (.indexAddr 22 (.tmp 20) (.tmp 21))⟩,
                ⟨some 23, none, (.load 3 (.tmp 22))⟩,
                ⟨some 24, none, (.binOp .neq 3 (.tmp 19) (.tmp 23) 3)⟩])
              (.cond (.tmp 24)
               (.seq
                (.ops [⟨some 4, none, (.assign (.const (.bool false)))⟩])
                .ret)
               .skip))))
           (.ops [⟨some 25, none, (.binOp .add 3 (.tmp 13) (.const (.int .i64 1)) 3)⟩,
             ⟨some 13, none, (.move (.tmp 25))⟩])))))))
     (.seq
      (.ops [⟨some 4, none, (.assign (.const (.bool true)))⟩])
      .ret))))
theorem w174 {args : Array Value} {H : AH} {Φ : Value → AH → Prop} (h : rW Try.prog k174 [] (fin Try.prog [(.tmp 4)] Φ) (tm0 args) H) : CallsA Try.prog 174 args H Φ :=
  CallsA.w k174 [(.tmp 4)] (fun i => if i = 6 then [(3, 0), (7, 0)] else []) Try.func174 rfl rfl (by kernel_rfl) (by kernel_rfl) h

/-- impl.Fit -/
def k91 : KC :=
  (.seq
   (.ops [⟨some 2, none, (.box 26 (.tmp 0))⟩,
     ⟨some 3, none, (.box 26 (.tmp 1))⟩,
     ⟨some 4, none, (.assign (.const (.slice none 0 0)))⟩,
     ⟨some 5, none, (.assign (.const (.int .i64 0)))⟩])
   (.seq
    (.ops [⟨some 7, none, (.fieldAddr 26 (.tmp 2) 0)⟩,
      ⟨some 8, none, (.load 22 (.tmp 7))⟩,
      ⟨some 9, none, (.call ⟨(.builtin .append), #[(.const (.slice none 0 0)), (.tmp 8)], #[22, 22]⟩)⟩,
      ⟨some 6, none, (.assign (.tmp 9))⟩])
    (.seq
     (.block 0
      (.seq
       (.ops [⟨some 11, none, (.load 26 (.tmp 2))⟩,
         ⟨some 12, none, (.call ⟨(.value (.func 33)), #[(.tmp 11)], #[26]⟩)⟩,
         ⟨some 13, none, (.unOp .not 4 (.tmp 12))⟩,
         ⟨some 14, none, (.move (.tmp 13))⟩,
         ⟨some 15, (some (14, false)), (.load 26 (.tmp 3))⟩,
         ⟨some 16, (some (14, false)), (.call ⟨(.value (.func 33)), #[(.tmp 15)], #[26]⟩)⟩,
         ⟨some 17, (some (14, false)), (.unOp .not 4 (.tmp 16))⟩,
         ⟨some 18, none, (.pick (.tmp 14) (.const (.bool true)) (.tmp 17))⟩,
         ⟨some 10, none, (.assign (.tmp 18))⟩])
       (.cond (.tmp 10)
        (.seq
         (.ops [⟨some 4, none, (.assign (.const (.slice none 0 0)))⟩,
           ⟨some 5, none, (.assign (.const (.int .i64 1)))⟩])
         .ret)
        (.seq
         (.ops [⟨some 20, none, (.fieldAddr 26 (.tmp 2) 0)⟩,
           ⟨some 21, none, (.load 22 (.tmp 20))⟩,
           ⟨some 22, none, (.call ⟨(.builtin .len), #[(.tmp 21)], #[22]⟩)⟩,
           ⟨some 23, none, (.binOp .eql 3 (.tmp 22) (.const (.int .i64 0)) 3)⟩,
           ⟨some 19, none, (.assign (.tmp 23))⟩])
         (.cond (.tmp 19)
          (.seq
           (.ops [⟨some 24, none, (.fieldAddr 26 (.tmp 3) 0)⟩,
             ⟨some 25, none, (.load 22 (.tmp 24))⟩,
             ⟨some 26, none, (.call ⟨(.builtin .append), #[(.const (.slice none 0 0)), (.tmp 25)], #[22, 22]⟩)⟩,
             ⟨some 4, none, (.assign (.tmp 26))⟩,
             ⟨some 5, none, (.assign (.const (.int .i64 0)))⟩])
           .ret)
          (.seq
           (.ops [⟨some 28, none, (.fieldAddr 26 (.tmp 3) 0)⟩,
             ⟨some 29, none, (.load 22 (.tmp 28))⟩,
             ⟨some 30, none, (.call ⟨(.builtin .len), #[(.tmp 29)], #[22]⟩)⟩,
             ⟨some 31, none, (.binOp .eql 3 (.tmp 30) (.const (.int .i64 0)) 3)⟩,
             ⟨some 27, none, (.assign (.tmp 31))⟩])
           (.cond (.tmp 27)
            (.seq
             (.ops [⟨some 32, none, (.move (.tmp 6))⟩,
               ⟨some 4, none, (.assign (.tmp 32))⟩,
               ⟨some 5, none, (.assign (.const (.int .i64 0)))⟩])
             .ret)
            (.seq
             (.ops [⟨some 34, none, (.fieldAddr 26 (.tmp 2) 0)⟩,
               ⟨some 35, none, (.load 22 (.tmp 34))⟩,
               ⟨some 36, none, (.call ⟨(.builtin .len), #[(.tmp 35)], #[22]⟩)⟩,
               ⟨some 37, none, (.fieldAddr 26 (.tmp 3) 0)⟩,
               ⟨some 38, none, (.load 22 (.tmp 37))⟩,
               ⟨some 39, none, (.call ⟨(.builtin .len), #[(.tmp 38)], #[22]⟩)⟩,
               ⟨some 40, none, (.binOp .neq 3 (.tmp 36) (.tmp 39) 3)⟩,
               ⟨some 33, none, (.assign (.tmp 40))⟩])
             (.cond (.tmp 33)
              (.seq
               (.ops [⟨some 4, none, (.assign (.const (.slice none 0 0)))⟩,
                 ⟨some 5, none, (.assign (.const (.int .i64 4)))⟩])
               .ret)
              (.seq
               (.ops [⟨some 42, none, (.fieldAddr 26 (.tmp 2) 0)⟩,
                 ⟨some 43, none, (.load 22 (.tmp 42))⟩,
                 ⟨some 44, none, (.fieldAddr 26 (.tmp 3) 0)⟩,
                 ⟨some 45, none, (.load 22 (.tmp 44))⟩,
                 ⟨some 46, none, (.call ⟨(.value (.func 174)), #[(.tmp 43), (.tmp 45)], #[22, 22]⟩)⟩,
                 ⟨some 47, none, (.unOp .not 4 (.tmp 46))⟩,
                 ⟨some 41, none, (.assign (.tmp 47))⟩])
               (.cond (.tmp 41)
                (.seq
                 (.ops [⟨some 4, none, (.assign (.const (.slice none 0 0)))⟩,
                   ⟨some 5, none, (.assign (.const (.int .i64 3)))⟩])
                 .ret)
                .skip)))))))))))
     (.seq
      (.ops [⟨some 48, none, (.move (.tmp 6))⟩,
        ⟨some 4, none, (.assign (.tmp 48))⟩,
        ⟨some 5, none, (.assign (.const (.int .i64 0)))⟩])
      .ret))))
theorem w91 {args : Array Value} {H : AH} {Φ : Value → AH → Prop} (h : rW Try.prog k91 [] (fin Try.prog [(.tmp 4), (.tmp 5)] Φ) (tm0 args) H) : CallsA Try.prog 91 args H Φ :=
  CallsA.w k91 [(.tmp 4), (.tmp 5)] (fun _ => []) Try.func91 rfl rfl (by kernel_rfl) (by kernel_rfl) h

/-- impl.product -/
def k175 : KC :=
  (.seq
   (.ops [⟨some 4, none, (.assign (.const (.int .i64 0)))⟩,
     ⟨some 5, none, (.assign (.const (.bool false)))⟩])
   (.seq
    (.seq
     (.ops [⟨some 6, none, (.move (.tmp 0))⟩,
       ⟨some 7, none, (.binOp .neq 3 (.tmp 6) (.const (.int .i64 0)) 3)⟩,
       ⟨some 8, none, (.move (.tmp 7))⟩,
       ⟨some 9, (some (8, true)), (.move (.tmp 1))⟩,
       ⟨some 10, (some (8, true)), (.move (.tmp 1))⟩,
       ⟨some 11, (some (8, true)), (.unOp .neg 3 (.tmp 10))⟩,
       ⟨some 12, (some (8, true)), (.call ⟨(.builtin .max), #[(.tmp 9), (.tmp 11)], #[3, 3]⟩)⟩,
       ⟨some 13, (some (8, true)), (.move (.tmp 0))⟩,
       ⟨some 14, (some (8, true)), (.move (.tmp 0))⟩,
       ⟨some 15, (some (8, true)), (.unOp .neg 3 (.tmp 14))⟩,
       ⟨some 16, (some (8, true)), (.call ⟨(.builtin .max), #[(.tmp 13), (.tmp 15)], #[3, 3]⟩)⟩,
       ⟨some 17, (some (8, true)), (.binOp .quo 3 (.const (.int .i64 1000000000000)) (.tmp 16) 3)⟩,
       ⟨some 18, (some (8, true)), (.binOp .gtr 3 (.tmp 12) (.tmp 17) 3)⟩,
       ⟨some 19, none, (.pick (.tmp 8) (.tmp 18) (.const (.bool false)))⟩])
     (.cond (.tmp 19)
      (.seq
       (.ops [⟨some 4, none, (.assign (.const (.int .i64 0)))⟩,
         ⟨some 5, none, (.assign (.const (.bool false)))⟩])
       .ret)
      .skip))
    (.seq
     (.ops [⟨some 20, none, (.move (.tmp 0))⟩,
       ⟨some 21, none, (.move (.tmp 1))⟩,
       ⟨some 22, none, (.binOp .mul 3 (.tmp 20) (.tmp 21) 3)⟩,
       ⟨some 4, none, (.assign (.tmp 22))⟩,
       ⟨some 5, none, (.assign (.const (.bool true)))⟩])
     .ret)))
theorem w175 {args : Array Value} {H : AH} {Φ : Value → AH → Prop} (h : rW Try.prog k175 [] (fin Try.prog [(.tmp 4), (.tmp 5)] Φ) (tm0 args) H) : CallsA Try.prog 175 args H Φ :=
  CallsA.w k175 [(.tmp 4), (.tmp 5)] (fun _ => []) Try.func175 rfl rfl (by kernel_rfl) (by kernel_rfl) h

/-- impl.floor -/
def k176 : KC :=
  (.seq
   (.ops [⟨some 4, none, (.assign (.const (.int .i64 0)))⟩])
   (.seq
    (.ops [⟨some 6, none, (.move (.tmp 0))⟩,
      ⟨some 7, none, (.move (.tmp 1))⟩,
      ⟨some 8, none, (.binOp .quo 3 (.tmp 6) (.tmp 7) 3)⟩,
      ⟨some 5, none, (.assign (.tmp 8))⟩])
    (.seq
     (.seq
      (.ops [⟨some 9, none, (.move (.tmp 0))⟩,
        ⟨some 10, none, (.move (.tmp 1))⟩,
        ⟨some 11, none, (.binOp .rem 3 (.tmp 9) (.tmp 10) 3)⟩,
        ⟨some 12, none, (.binOp .neq 3 (.tmp 11) (.const (.int .i64 0)) 3)⟩,
        ⟨some 13, none, (.move (.tmp 12))⟩,
        ⟨some 14, (some (13, true)), (.move (.tmp 0))⟩,
        ⟨some 15, (some (13, true)), (.binOp .lss 3 (.tmp 14) (.const (.int .i64 0)) 3)⟩,
        ⟨some 16, (some (13, true)), (.move (.tmp 1))⟩,
        ⟨some 17, (some (13, true)), (.binOp .lss 3 (.tmp 16) (.const (.int .i64 0)) 3)⟩,
        ⟨some 18, (some (13, true)), (.binOp .neq 4 (.tmp 15) (.tmp 17) 4)⟩,
        ⟨some 19, none, (.pick (.tmp 13) (.tmp 18) (.const (.bool false)))⟩])
      (.cond (.tmp 19)
       (.ops [⟨some 20, none, (.move (.tmp 5))⟩,
         ⟨some 21, none, (.binOp .sub 3 (.tmp 20) (.const (.int .i64 1)) 3)⟩,
         ⟨some 5, none, (.assign (.tmp 21))⟩])
       .skip))
     (.seq
      (.ops [⟨some 22, none, (.move (.tmp 5))⟩,
        ⟨some 4, none, (.assign (.tmp 22))⟩])
      .ret))))
theorem w176 {args : Array Value} {H : AH} {Φ : Value → AH → Prop} (h : rW Try.prog k176 [] (fin Try.prog [(.tmp 4)] Φ) (tm0 args) H) : CallsA Try.prog 176 args H Φ :=
  CallsA.w k176 [(.tmp 4)] (fun _ => []) Try.func176 rfl rfl (by kernel_rfl) (by kernel_rfl) h

/-- impl.truth -/
def k177 : KC :=
  (.seq
   (.ops [⟨some 2, none, (.assign (.const (.int .i64 0)))⟩])
   (.seq
    (.seq
     (.ops [⟨some 3, none, (.move (.tmp 0))⟩])
     (.cond (.tmp 3)
      (.seq
       (.ops [⟨some 2, none, (.assign (.const (.int .i64 1)))⟩])
       .ret)
      .skip))
    (.seq
     (.ops [⟨some 2, none, (.assign (.const (.int .i64 0)))⟩])
     .ret)))
theorem w177 {args : Array Value} {H : AH} {Φ : Value → AH → Prop} (h : rW Try.prog k177 [] (fin Try.prog [(.tmp 2)] Φ) (tm0 args) H) : CallsA Try.prog 177 args H Φ :=
  CallsA.w k177 [(.tmp 2)] (fun _ => []) Try.func177 rfl rfl (by kernel_rfl) (by kernel_rfl) h

/-- impl.Two -/
def k92 : KC :=
  (.seq
   (.ops [⟨some 6, none, (.assign (.const (.int .i64 0)))⟩,
     ⟨some 7, none, (.assign (.const (.int .i64 0)))⟩])
   (.seq
    (.seq
     (.ops [⟨some 10, none, (.move (.tmp 0))⟩,
       ⟨some 11, none, (.call ⟨(.value (.func 65)), #[(.tmp 10)], #[3]⟩)⟩,
       ⟨some 12, none, (.unOp .not 4 (.tmp 11))⟩,
       ⟨some 13, none, (.move (.tmp 12))⟩,
       ⟨some 14, (some (13, false)), (.move (.tmp 1))⟩,
       ⟨some 15, (some (13, false)), (.call ⟨(.value (.func 84)), #[(.tmp 14)], #[3]⟩)⟩,
       ⟨some 16, (some (13, false)), (.unOp .not 4 (.tmp 15))⟩,
       ⟨some 17, none, (.pick (.tmp 13) (.const (.bool true)) (.tmp 16))⟩,
       ⟨some 18, none, (.move (.tmp 17))⟩,
       ⟨some 19, (some (18, false)), (.move (.tmp 2))⟩,
       ⟨some 20, (some (18, false)), (.call ⟨(.value (.func 84)), #[(.tmp 19)], #[3]⟩)⟩,
       ⟨some 21, (some (18, false)), (.unOp .not 4 (.tmp 20))⟩,
       ⟨some 22, none, (.pick (.tmp 18) (.const (.bool true)) (.tmp 21))⟩])
     (.cond (.tmp 22)
      (.seq
       (.ops [⟨some 6, none, (.assign (.const (.int .i64 0)))⟩,
         ⟨some 7, none, (.assign (.const (.int .i64 1)))⟩])
       .ret)
      .skip))
    (.seq
     (.ops [⟨some 8, none, (.assign (.const (.int .i64 0)))⟩,
       ⟨some 9, none, (.assign (.const (.bool true)))⟩])
     (.seq
      (.seq
       (.ops [⟨some 23, none, (.move (.tmp 0))⟩])
       (.block 0
        (.seq
         (.ops [⟨some 29, none, (.binOp .eql 3 (.tmp 23) (.const (.int .i64 43)) 3)⟩,
           ⟨some 28, none, (.assign (.tmp 29))⟩])
         (.cond (.tmp 28)
          (.ops [⟨some 30, none, (.move (.tmp 1))⟩,
            ⟨some 31, none, (.move (.tmp 2))⟩,
            ⟨some 32, none, (.binOp .add 3 (.tmp 30) (.tmp 31) 3)⟩,
            ⟨some 8, none, (.assign (.tmp 32))⟩])
          (.seq
           (.ops [⟨some 34, none, (.binOp .eql 3 (.tmp 23) (.const (.int .i64 45)) 3)⟩,
             ⟨some 33, none, (.assign (.tmp 34))⟩])
           (.cond (.tmp 33)
            (.ops [⟨some 35, none, (.move (.tmp 1))⟩,
              ⟨some 36, none, (.move (.tmp 2))⟩,
              ⟨some 37, none, (.binOp .sub 3 (.tmp 35) (.tmp 36) 3)⟩,
              ⟨some 8, none, (.assign (.tmp 37))⟩])
            (.seq
             (.ops [⟨some 39, none, (.binOp .eql 3 (.tmp 23) (.const (.int .i64 42)) 3)⟩,
               ⟨some 38, none, (.assign (.tmp 39))⟩])
             (.cond (.tmp 38)
              (.ops [⟨some 41, none, (.move (.tmp 1))⟩,
                ⟨some 42, none, (.move (.tmp 2))⟩,
                ⟨some 43, none, (.call ⟨(.value (.func 175)), #[(.tmp 41), (.tmp 42)], #[3, 3]⟩)⟩,
                ⟨some 40, none, (.move (.tmp 43))⟩,
                ⟨some 44, none, (.extract (.tmp 40) 0)⟩,
                ⟨some 45, none, (.extract (.tmp 40) 1)⟩,
                ⟨some 8, none, (.assign (.tmp 44))⟩,
                ⟨some 9, none, (.assign (.tmp 45))⟩])
              (.seq
               (.ops [⟨some 47, none, (.binOp .eql 3 (.tmp 23) (.const (.int .i64 37)) 3)⟩,
                 ⟨some 46, none, (.assign (.tmp 47))⟩])
               (.cond (.tmp 46)
                (.seq
                 (.seq
                  (.ops [⟨some 48, none, (.move (.tmp 2))⟩,
                    ⟨some 49, none, (.binOp .eql 3 (.tmp 48) (.const (.int .i64 0)) 3)⟩])
                  (.cond (.tmp 49)
                   (.seq
                    (.ops [⟨some 6, none, (.assign (.const (.int .i64 0)))⟩,
                      ⟨some 7, none, (.assign (.const (.int .i64 2)))⟩])
                    .ret)
                   .skip))
                 (.ops [⟨some 50, none, (.move (.tmp 1))⟩,
                   ⟨some 51, none, (.move (.tmp 2))⟩,
                   ⟨some 52, none, (.call ⟨(.value (.func 176)), #[(.tmp 50), (.tmp 51)], #[3, 3]⟩)⟩,
                   ⟨some 8, none, (.assign (.tmp 52))⟩]))
                (.seq
                 (.ops [⟨some 54, none, (.binOp .eql 3 (.tmp 23) (.const (.int .i64 124)) 3)⟩,
                   ⟨some 53, none, (.assign (.tmp 54))⟩])
                 (.cond (.tmp 53)
                  (.seq
                   (.ops [⟨some 55, none, (.move (.tmp 2))⟩,
                     ⟨some 8, none, (.assign (.tmp 55))⟩])
                   (.seq
                    (.ops [⟨some 56, none, (.move (.tmp 1))⟩,
                      ⟨some 57, none, (.binOp .neq 3 (.tmp 56) (.const (.int .i64 0)) 3)⟩])
                    (.cond (.tmp 57)
                     (.ops [⟨some 58, none, (.move (.tmp 2))⟩,
                       ⟨some 59, none, (.move (.tmp 1))⟩,
                       ⟨some 60, none, (.move (.tmp 2))⟩,
                       ⟨some 61, none, (.move (.tmp 1))⟩,
                       ⟨some 62, none, (.call ⟨(.value (.func 176)), #[(.tmp 60), (.tmp 61)], #[3, 3]⟩)⟩,
                       ⟨some 63, none, (.binOp .mul 3 (.tmp 59) (.tmp 62) 3)⟩,
                       ⟨some 64, none, (.binOp .sub 3 (.tmp 58) (.tmp 63) 3)⟩,
                       ⟨some 8, none, (.assign (.tmp 64))⟩])
                     .skip)))
                  (.seq
                   (.ops [⟨some 66, none, (.binOp .eql 3 (.tmp 23) (.const (.int .i64 38)) 3)⟩,
                     ⟨some 65, none, (.assign (.tmp 66))⟩])
                   (.cond (.tmp 65)
                    (.ops [⟨some 67, none, (.move (.tmp 1))⟩,
                      ⟨some 68, none, (.move (.tmp 2))⟩,
                      ⟨some 69, none, (.call ⟨(.builtin .min), #[(.tmp 67), (.tmp 68)], #[3, 3]⟩)⟩,
                      ⟨some 8, none, (.assign (.tmp 69))⟩])
                    (.seq
                     (.ops [⟨some 71, none, (.binOp .eql 3 (.tmp 23) (.const (.int .i64 94)) 3)⟩,
                       ⟨some 70, none, (.assign (.tmp 71))⟩])
                     (.cond (.tmp 70)
                      (.ops [⟨some 72, none, (.move (.tmp 1))⟩,
                        ⟨some 73, none, (.move (.tmp 2))⟩,
                        ⟨some 74, none, (.call ⟨(.builtin .max), #[(.tmp 72), (.tmp 73)], #[3, 3]⟩)⟩,
                        ⟨some 8, none, (.assign (.tmp 74))⟩])
                      (.seq
                       (.ops [⟨some 76, none, (.binOp .eql 3 (.tmp 23) (.const (.int .i64 61)) 3)⟩,
                         ⟨some 75, none, (.assign (.tmp 76))⟩])
                       (.cond (.tmp 75)
                        (.ops [⟨some 77, none, (.move (.tmp 1))⟩,
                          ⟨some 78, none, (.move (.tmp 2))⟩,
                          ⟨some 79, none, (.binOp .eql 3 (.tmp 77) (.tmp 78) 3)⟩,
                          ⟨some 80, none, (.call ⟨(.value (.func 177)), #[(.tmp 79)], #[4]⟩)⟩,
                          ⟨some 8, none, (.assign (.tmp 80))⟩])
                        (.seq
                         (.ops [⟨some 82, none, (.binOp .eql 3 (.tmp 23) (.const (.int .i64 60)) 3)⟩,
                           ⟨some 81, none, (.assign (.tmp 82))⟩])
                         (.cond (.tmp 81)
                          (.ops [⟨some 83, none, (.move (.tmp 1))⟩,
                            ⟨some 84, none, (.move (.tmp 2))⟩,
                            ⟨some 85, none, (.binOp .lss 3 (.tmp 83) (.tmp 84) 3)⟩,
                            ⟨some 86, none, (.call ⟨(.value (.func 177)), #[(.tmp 85)], #[4]⟩)⟩,
                            ⟨some 8, none, (.assign (.tmp 86))⟩])
                          (.ops [⟨some 24, none, (.move (.tmp 1))⟩,
                            ⟨some 25, none, (.move (.tmp 2))⟩,
                            ⟨some 26, none, (.binOp .gtr 3 (.tmp 24) (.tmp 25) 3)⟩,
                            ⟨some 27, none, (.call ⟨(.value (.func 177)), #[(.tmp 26)], #[4]⟩)⟩,
                            ⟨some 8, none, (.assign (.tmp 27))⟩])))))))))))))))))))))
      (.seq
       (.seq
        (.ops [⟨some 87, none, (.move (.tmp 9))⟩,
          ⟨some 88, none, (.unOp .not 4 (.tmp 87))⟩,
          ⟨some 89, none, (.move (.tmp 88))⟩,
          ⟨some 90, (some (89, false)), (.move (.tmp 8))⟩,
          ⟨some 91, (some (89, false)), (.call ⟨(.value (.func 84)), #[(.tmp 90)], #[3]⟩)⟩,
          ⟨some 92, (some (89, false)), (.unOp .not 4 (.tmp 91))⟩,
          ⟨some 93, none, (.pick (.tmp 89) (.const (.bool true)) (.tmp 92))⟩])
        (.cond (.tmp 93)
         (.seq
          (.ops [⟨some 6, none, (.assign (.const (.int .i64 0)))⟩,
            ⟨some 7, none, (.assign (.const (.int .i64 6)))⟩])
          .ret)
         .skip))
       (.seq
        (.ops [⟨some 94, none, (.move (.tmp 8))⟩,
          ⟨some 6, none, (.assign (.tmp 94))⟩,
          ⟨some 7, none, (.assign (.const (.int .i64 0)))⟩])
        .ret))))))
theorem w92 {args : Array Value} {H : AH} {Φ : Value → AH → Prop} (h : rW Try.prog k92 [] (fin Try.prog [(.tmp 6), (.tmp 7)] Φ) (tm0 args) H) : CallsA Try.prog 92 args H Φ :=
  CallsA.w k92 [(.tmp 6), (.tmp 7)] (fun _ => []) Try.func92 rfl rfl (by kernel_rfl) (by kernel_rfl) h

/-- impl.at -/
def k93 : KC :=
  (.seq
   (.ops [⟨some 2, none, (.box 26 (.tmp 0))⟩,
     ⟨some 4, none, (.assign (.const (.int .i64 0)))⟩])
   (.seq
    (.seq
     (.ops [⟨some 5, none, (.fieldAddr 26 (.tmp 2) 0)⟩,
       ⟨some 6, none, (.load 22 (.tmp 5))⟩,
       ⟨some 7, none, (.call ⟨(.builtin .len), #[(.tmp 6)], #[22]⟩)⟩,
       ⟨some 8, none, (.binOp .eql 3 (.tmp 7) (.const (.int .i64 0)) 3)⟩])
     (.cond (.tmp 8)
      (.seq
       (.ops [⟨some 9, none, (.fieldAddr 26 (.tmp 2) 1)⟩,
         ⟨some 10, none, (.load 22 (.tmp 9))⟩,
         ⟨some 11, none, (.indexAddr 22 (.tmp 10) (.const (.int .i64 0)))⟩,
         ⟨some 12, none, (.load 3 (.tmp 11))⟩,
         ⟨some 4, none, (.assign (.tmp 12))⟩])
       .ret)
      .skip))
    (.seq
     (.ops [⟨some 13, none, (.fieldAddr 26 (.tmp 2) 1)⟩,
       ⟨some 14, none, (.load 22 (.tmp 13))⟩,
       ⟨some 15, none, (.move (.tmp 1))⟩,
       ⟨some 16, none, (.indexAddr 22 (.tmp 14) (.tmp 15))⟩,
       ⟨some 17, none, (.load 3 (.tmp 16))⟩,
       ⟨some 4, none, (.assign (.tmp 17))⟩])
     .ret)))
theorem w93 {args : Array Value} {H : AH} {Φ : Value → AH → Prop} (h : rW Try.prog k93 [] (fin Try.prog [(.tmp 4)] Φ) (tm0 args) H) : CallsA Try.prog 93 args H Φ :=
  CallsA.w k93 [(.tmp 4)] (fun _ => []) Try.func93 rfl rfl (by kernel_rfl) (by kernel_rfl) h

/-- impl.EachTwo -/
def k32 : KC :=
  (.seq
   (.ops [⟨some 4, none, (.box 26 (.tmp 1))⟩,
     ⟨some 5, none, (.box 26 (.tmp 2))⟩,
     ⟨some 6, none, (.alloc 26)⟩,
     ⟨some 7, none, (.assign (.const (.int .i64 0)))⟩])
   (.seq
    (.ops [⟨some 15, none, (.load 26 (.tmp 4))⟩,
      ⟨some 16, none, (.load 26 (.tmp 5))⟩,
      ⟨some 17, none, (.call ⟨(.value (.func 91)), #[(.tmp 15), (.tmp 16)], #[26, 26]⟩)⟩,
      ⟨some 14, none, (.move (.tmp 17))⟩,
      ⟨some 18, none, (.extract (.tmp 14) 0)⟩,
      ⟨some 19, none, (.extract (.tmp 14) 1)⟩,
      ⟨some 8, none, (.assign (.tmp 18))⟩,
      ⟨some 9, none, (.assign (.tmp 19))⟩])
    (.seq
     (.seq
      (.ops [⟨some 20, none, (.move (.tmp 9))⟩,
        ⟨some 21, none, (.binOp .eql 3 (.tmp 20) (.const (.int .i64 1)) 3)⟩,
        ⟨some 22, none, (.move (.tmp 21))⟩,
        ⟨some 23, (some (22, false)), (.move (.tmp 0))⟩,
        ⟨some 24, (some (22, false)), (.call ⟨(.value (.func 65)), #[(.tmp 23)], #[3]⟩)⟩,
        ⟨some 25, (some (22, false)), (.unOp .not 4 (.tmp 24))⟩,
        ⟨some 26, none, (.pick (.tmp 22) (.const (.bool true)) (.tmp 25))⟩])
      (.cond (.tmp 26)
       (.seq
        (.ops [⟨some 27, none, (.build 26 #[])⟩,
          ⟨none, none, (.store 26 (.tmp 6) (.tmp 27))⟩,
          ⟨some 7, none, (.assign (.const (.int .i64 1)))⟩])
        .ret)
       .skip))
     (.seq
      (.seq
       (.ops [⟨some 28, none, (.move (.tmp 9))⟩,
         ⟨some 29, none, (.binOp .neq 3 (.tmp 28) (.const (.int .i64 0)) 3)⟩])
       (.cond (.tmp 29)
        (.seq
         (.ops [⟨some 30, none, (.build 26 #[])⟩,
           ⟨some 31, none, (.move (.tmp 9))⟩,
           ⟨none, none, (.store 26 (.tmp 6) (.tmp 30))⟩,
           ⟨some 7, none, (.assign (.tmp 31))⟩])
         .ret)
        .skip))
      (.seq
       (.ops [⟨some 32, none, (.move (.tmp 8))⟩,
         ⟨some 33, none, (.build 26 #[(0, (.tmp 32))])⟩,
         ⟨some 10, none, (.alloc 26)⟩,
         ⟨none, none, (.store 26 (.tmp 10) (.tmp 33))⟩])
       (.seq
        (.seq
         (.ops [⟨some 11, none, (.assign (.const (.int .i64 0)))⟩])
         (.block 0
          (.loop
           (.seq
            (.seq
             (.ops [⟨some 34, none, (.move (.tmp 11))⟩,
               ⟨some 35, none, (.move (.tmp 8))⟩,
               ⟨some 36, none, (.call ⟨(.value (.func 77)), #[(.tmp 35)], #[22]⟩)⟩,
               ⟨some 37, none, (.binOp .lss 3 (.tmp 34) (.tmp 36) 3)⟩])
             (.cond (.tmp 37)
              .skip
              (.exit 0)))
            (.seq
             (.block 1
              (.seq
               (.draw #[] [(1, 0), (4, 0), (4, 4)]
                 [⟨some 41, none, (.move (.tmp 0))⟩,
                 ⟨some 42, none, (.load 26 (.tmp 4))⟩,
                 ⟨some 43, none, (.move (.tmp 11))⟩,
                 ⟨some 44, none, (.call ⟨(.value (.func 93)), #[(.tmp 42), (.tmp 43)], #[26, 3]⟩)⟩,
                 ⟨some 45, none, (.load 26 (.tmp 5))⟩,
                 ⟨some 46, none, (.move (.tmp 11))⟩,
                 ⟨some 47, none, (.call ⟨(.value (.func 93)), #[(.tmp 45), (.tmp 46)], #[26, 3]⟩)⟩,
                 ⟨some 48, none, (.call ⟨(.value (.func 92)), #[(.tmp 41), (.tmp 44), (.tmp 47)], #[3, 3, 3]⟩)⟩,
                 ⟨some 40, none, (.move (.tmp 48))⟩,
                 ⟨some 49, none, (.extract (.tmp 40) 0)⟩,
                 ⟨some 50, none, (.extract (.tmp 40) 1)⟩,
                 ⟨some 12, none, (.assign (.tmp 49))⟩,
                 ⟨some 13, none, (.assign (.tmp 50))⟩])
               (.seq
                (.seq
                 (.ops [⟨some 51, none, (.move (.tmp 13))⟩,
                   ⟨some 52, none, (.binOp .neq 3 (.tmp 51) (.const (.int .i64 0)) 3)⟩])
                 (.cond (.tmp 52)
                  (.seq
                   (.ops [⟨some 53, none, (.build 26 #[])⟩,
                     ⟨some 54, none, (.move (.tmp 13))⟩,
                     ⟨none, none, (.store 26 (.tmp 6) (.tmp 53))⟩,
                     ⟨some 7, none, (.assign (.tmp 54))⟩])
                   .ret)
                  .skip))
                (.ops [⟨some 55, none, (.fieldAddr 26 (.tmp 10) 1)⟩,
                  ⟨some 56, none, (.load 22 (.tmp 55))⟩,
                  ⟨some 57, none, (.move (.tmp 12))⟩,
                  ⟨some 58, none, (.buildSlice 22 1 #[(0, (.tmp 57))])⟩,
                  ⟨some 59, none, (.call ⟨(.builtin .append), #[(.tmp 56), (.tmp 58)], #[22, 22]⟩)⟩,
                  ⟨some 60, none, (.fieldAddr 26 (.tmp 10) 1)⟩,
                  ⟨none, none, (.store 22 (.tmp 60) (.tmp 59))⟩]))))
             (.ops [⟨some 38, none, (.move (.tmp 11))⟩,
               ⟨some 39, none, (.binOp .add 3 (.tmp 38) (.const (.int .i64 1)) 3)⟩,
               ⟨some 11, none, (.assign (.tmp 39))⟩]))))))
        (.seq
         (.ops [⟨some 61, none, (.load 26 (.tmp 10))⟩,
           ⟨none, none, (.store 26 (.tmp 6) (.tmp 61))⟩,
           ⟨some 7, none, (.assign (.const (.int .i64 0)))⟩])
         .ret)))))))
theorem w32 {args : Array Value} {H : AH} {Φ : Value → AH → Prop} (h : rW Try.prog k32 [] (fin Try.prog [(.cell 6 26), (.tmp 7)] Φ) (tm0 args) H) : CallsA Try.prog 32 args H Φ :=
  CallsA.w k32 [(.cell 6 26), (.tmp 7)] (fun i => if i = 10 then [(1, 0), (4, 0), (4, 4)] else []) Try.func32 rfl rfl (by kernel_rfl) (by kernel_rfl) h

/-- impl.Neutral -/
def k165 : KC :=
  (.seq
   (.ops [⟨some 2, none, (.assign (.const (.int .i64 0)))⟩,
     ⟨some 3, none, (.assign (.const (.bool false)))⟩])
   (.seq
    (.seq
     (.ops [⟨some 4, none, (.move (.tmp 0))⟩])
     (.block 0
      (.seq
       (.seq
        (.ops [⟨some 6, none, (.binOp .eql 3 (.tmp 4) (.const (.int .i64 43)) 3)⟩,
          ⟨some 5, none, (.assign (.tmp 6))⟩])
        (.cond (.tmp 5)
         .skip
         (.seq
          (.ops [⟨some 7, none, (.binOp .eql 3 (.tmp 4) (.const (.int .i64 45)) 3)⟩,
            ⟨some 5, none, (.assign (.tmp 7))⟩])
          (.cond (.tmp 5)
           .skip
           (.seq
            (.ops [⟨some 8, none, (.binOp .eql 3 (.tmp 4) (.const (.int .i64 124)) 3)⟩,
              ⟨some 5, none, (.assign (.tmp 8))⟩])
            (.cond (.tmp 5)
             .skip
             (.seq
              (.ops [⟨some 9, none, (.binOp .eql 3 (.tmp 4) (.const (.int .i64 60)) 3)⟩,
                ⟨some 5, none, (.assign (.tmp 9))⟩])
              (.cond (.tmp 5)
               .skip
               (.ops [⟨some 10, none, (.binOp .eql 3 (.tmp 4) (.const (.int .i64 62)) 3)⟩,
                 ⟨some 5, none, (.assign (.tmp 10))⟩])))))))))
       (.cond (.tmp 5)
        (.seq
         (.ops [⟨some 2, none, (.assign (.const (.int .i64 0)))⟩,
           ⟨some 3, none, (.assign (.const (.bool true)))⟩])
         .ret)
        (.seq
         (.seq
          (.ops [⟨some 12, none, (.binOp .eql 3 (.tmp 4) (.const (.int .i64 42)) 3)⟩,
            ⟨some 11, none, (.assign (.tmp 12))⟩])
          (.cond (.tmp 11)
           .skip
           (.seq
            (.ops [⟨some 13, none, (.binOp .eql 3 (.tmp 4) (.const (.int .i64 37)) 3)⟩,
              ⟨some 11, none, (.assign (.tmp 13))⟩])
            (.cond (.tmp 11)
             .skip
             (.ops [⟨some 14, none, (.binOp .eql 3 (.tmp 4) (.const (.int .i64 61)) 3)⟩,
               ⟨some 11, none, (.assign (.tmp 14))⟩])))))
         (.cond (.tmp 11)
          (.seq
           (.ops [⟨some 2, none, (.assign (.const (.int .i64 1)))⟩,
             ⟨some 3, none, (.assign (.const (.bool true)))⟩])
           .ret)
          (.seq
           (.ops [⟨some 16, none, (.binOp .eql 3 (.tmp 4) (.const (.int .i64 38)) 3)⟩,
             ⟨some 15, none, (.assign (.tmp 16))⟩])
           (.cond (.tmp 15)
            (.seq
             (.ops [⟨some 2, none, (.assign (.const (.int .i64 1000000000000)))⟩,
               ⟨some 3, none, (.assign (.const (.bool true)))⟩])
             .ret)
            (.seq
             (.ops [⟨some 18, none, (.binOp .eql 3 (.tmp 4) (.const (.int .i64 94)) 3)⟩,
               ⟨some 17, none, (.assign (.tmp 18))⟩])
             (.cond (.tmp 17)
              (.seq
               (.ops [⟨some 2, none, (.assign (.const (.int .i64 (-1000000000000))))⟩,
                 ⟨some 3, none, (.assign (.const (.bool true)))⟩])
               .ret)
              .skip))))))))))
    (.seq
     (.ops [⟨some 2, none, (.assign (.const (.int .i64 0)))⟩,
       ⟨some 3, none, (.assign (.const (.bool false)))⟩])
     .ret)))
theorem w165 {args : Array Value} {H : AH} {Φ : Value → AH → Prop} (h : rW Try.prog k165 [] (fin Try.prog [(.tmp 2), (.tmp 3)] Φ) (tm0 args) H) : CallsA Try.prog 165 args H Φ :=
  CallsA.w k165 [(.tmp 2), (.tmp 3)] (fun _ => []) Try.func165 rfl rfl (by kernel_rfl) (by kernel_rfl) h

/-- impl.reduced -/
def k67 : KC :=
  (.seq
   (.ops [⟨some 6, none, (.alloc 26)⟩,
     ⟨some 7, none, (.assign (.const (.int .i64 0)))⟩])
   (.seq
    (.seq
     (.ops [⟨some 16, none, (.move (.tmp 1))⟩,
       ⟨some 17, none, (.call ⟨(.builtin .len), #[(.tmp 16)], #[39]⟩)⟩,
       ⟨some 18, none, (.binOp .eql 3 (.tmp 17) (.const (.int .i64 0)) 3)⟩])
     (.cond (.tmp 18)
      (.seq
       (.ops [⟨some 20, none, (.move (.tmp 0))⟩,
         ⟨some 21, none, (.call ⟨(.value (.func 165)), #[(.tmp 20)], #[3]⟩)⟩,
         ⟨some 19, none, (.move (.tmp 21))⟩,
         ⟨some 22, none, (.extract (.tmp 19) 0)⟩,
         ⟨some 23, none, (.extract (.tmp 19) 1)⟩,
         ⟨some 8, none, (.assign (.tmp 22))⟩,
         ⟨some 9, none, (.assign (.tmp 23))⟩])
       (.seq
        (.ops [⟨some 24, none, (.move (.tmp 2))⟩,
          ⟨some 25, none, (.call ⟨(.builtin .append), #[(.const (.slice none 0 0)), (.tmp 24)], #[22, 22]⟩)⟩,
          ⟨some 26, none, (.build 26 #[(0, (.tmp 25))])⟩,
          ⟨some 10, none, (.alloc 26)⟩,
          ⟨none, none, (.store 26 (.tmp 10) (.tmp 26))⟩])
        (.seq
         (.seq
          (.ops [⟨some 11, none, (.assign (.const (.int .i64 0)))⟩])
          (.block 0
           (.loop
            (.seq
             (.seq
              (.ops [⟨some 27, none, (.move (.tmp 11))⟩,
                ⟨some 28, none, (.move (.tmp 2))⟩,
                ⟨some 29, none, (.call ⟨(.value (.func 77)), #[(.tmp 28)], #[22]⟩)⟩,
                ⟨some 30, none, (.binOp .lss 3 (.tmp 27) (.tmp 29) 3)⟩])
              (.cond (.tmp 30)
               .skip
               (.exit 0)))
             (.seq
              (.block 1
               (.ops [⟨some 33, none, (.fieldAddr 26 (.tmp 10) 1)⟩,
                 ⟨some 34, none, (.load 22 (.tmp 33))⟩,
                 ⟨some 35, none, (.move (.tmp 8))⟩,
                 ⟨some 36, none, (.buildSlice 22 1 #[(0, (.tmp 35))])⟩,
                 ⟨some 37, none, (.call ⟨(.builtin .append), #[(.tmp 34), (.tmp 36)], #[22, 22]⟩)⟩,
                 ⟨some 38, none, (.fieldAddr 26 (.tmp 10) 1)⟩,
                 ⟨none, none, (.store 22 (.tmp 38) (.tmp 37))⟩]))
              (.ops [⟨some 31, none, (.move (.tmp 11))⟩,
                ⟨some 32, none, (.binOp .add 3 (.tmp 31) (.const (.int .i64 1)) 3)⟩,
                ⟨some 11, none, (.assign (.tmp 32))⟩]))))))
         (.seq
          (.seq
           (.ops [⟨some 39, none, (.load 26 (.tmp 10))⟩,
             ⟨some 40, none, (.call ⟨(.value (.func 33)), #[(.tmp 39)], #[26]⟩)⟩,
             ⟨some 41, none, (.unOp .not 4 (.tmp 40))⟩])
           (.cond (.tmp 41)
            (.seq
             (.ops [⟨some 42, none, (.build 26 #[])⟩,
               ⟨none, none, (.store 26 (.tmp 6) (.tmp 42))⟩,
               ⟨some 7, none, (.assign (.const (.int .i64 6)))⟩])
             .ret)
            .skip))
          (.seq
           (.ops [⟨some 43, none, (.load 26 (.tmp 10))⟩,
             ⟨none, none, (.store 26 (.tmp 6) (.tmp 43))⟩,
             ⟨some 7, none, (.assign (.const (.int .i64 0)))⟩])
           .ret)))))
      .skip))
    (.seq
     (.ops [⟨some 44, none, (.move (.tmp 1))⟩,
       ⟨some 45, none, (.move (.tmp 1))⟩,
       ⟨some 46, none, (.call ⟨(.builtin .len), #[(.tmp 45)], #[39]⟩)⟩,
       ⟨some 47, none, (.binOp .sub 3 (.tmp 46) (.const (.int .i64 1)) 3)⟩,
       ⟨some 48, none, (.indexAddr 39 (.tmp 44) (.tmp 47))⟩,
       ⟨some 49, none, (.load 26 (.tmp 48))⟩,
       ⟨some 50, none, (.call ⟨(.value (.func 66)), #[(.tmp 49)], #[26]⟩)⟩,
       ⟨some 12, none, (.alloc 26)⟩,
       ⟨none, none, (.store 26 (.tmp 12) (.tmp 50))⟩])
     (.seq
      (.seq
       (.ops [⟨some 51, none, (.move (.tmp 1))⟩,
         ⟨some 52, none, (.call ⟨(.builtin .len), #[(.tmp 51)], #[39]⟩)⟩,
         ⟨some 53, none, (.binOp .sub 3 (.tmp 52) (.const (.int .i64 2)) 3)⟩,
         ⟨some 13, none, (.assign (.tmp 53))⟩])
       (.block 2
        (.loop
         (.seq
          (.seq
           (.ops [⟨some 54, none, (.move (.tmp 13))⟩,
             ⟨some 55, none, (.binOp .geq 3 (.tmp 54) (.const (.int .i64 0)) 3)⟩])
           (.cond (.tmp 55)
            .skip
            (.exit 2)))
          (.seq
           (.block 3
            (.seq
             (.draw #[] [(4, 0), (5, 0)]
               [⟨some 59, none, (.move (.tmp 0))⟩,
               ⟨some 60, none, (.move (.tmp 1))⟩,
               ⟨some 61, none, (.move (.tmp 13))⟩,
               ⟨some 62, none, (.indexAddr 39 (.tmp 60) (.tmp 61))⟩,
               ⟨some 63, none, (.load 26 (.tmp 62))⟩,
               ⟨some 64, none, (.load 26 (.tmp 12))⟩,
               ⟨some 65, none, (.call ⟨(.value (.func 32)), #[(.tmp 59), (.tmp 63), (.tmp 64)], #[3, 26, 26]⟩)⟩,
               ⟨some 58, none, (.move (.tmp 65))⟩,
               ⟨some 66, none, (.extract (.tmp 58) 0)⟩,
               ⟨some 67, none, (.extract (.tmp 58) 1)⟩,
               ⟨some 14, none, (.alloc 26)⟩,
               ⟨none, none, (.store 26 (.tmp 14) (.tmp 66))⟩,
               ⟨some 15, none, (.assign (.tmp 67))⟩])
             (.seq
              (.seq
               (.ops [⟨some 68, none, (.move (.tmp 15))⟩,
                 ⟨some 69, none, (.binOp .neq 3 (.tmp 68) (.const (.int .i64 0)) 3)⟩])
               (.cond (.tmp 69)
                (.seq
                 (.ops [⟨some 70, none, (.build 26 #[])⟩,
                   ⟨some 71, none, (.move (.tmp 15))⟩,
                   ⟨none, none, (.store 26 (.tmp 6) (.tmp 70))⟩,
                   ⟨some 7, none, (.assign (.tmp 71))⟩])
                 .ret)
                .skip))
              (.ops [⟨some 72, none, (.load 26 (.tmp 14))⟩,
                ⟨none, none, (.store 26 (.tmp 12) (.tmp 72))⟩]))))
           (.ops [⟨some 56, none, (.move (.tmp 13))⟩,
             ⟨some 57, none, (.binOp .sub 3 (.tmp 56) (.const (.int .i64 1)) 3)⟩,
             ⟨some 13, none, (.assign (.tmp 57))⟩]))))))
      (.seq
       (.ops [⟨some 73, none, (.load 26 (.tmp 12))⟩,
         ⟨none, none, (.store 26 (.tmp 6) (.tmp 73))⟩,
         ⟨some 7, none, (.assign (.const (.int .i64 0)))⟩])
       .ret)))))
theorem w67 {args : Array Value} {H : AH} {Φ : Value → AH → Prop} (h : rW Try.prog k67 [] (fin Try.prog [(.cell 6 26), (.tmp 7)] Φ) (tm0 args) H) : CallsA Try.prog 67 args H Φ :=
  CallsA.w k67 [(.cell 6 26), (.tmp 7)] (fun i => if i = 15 then [(4, 0), (5, 0)] else []) Try.func67 rfl rfl (by kernel_rfl) (by kernel_rfl) h

/-- impl.joined -/
def k68 : KC :=
  (.seq
   (.ops [⟨some 4, none, (.alloc 26)⟩,
     ⟨some 5, none, (.assign (.const (.int .i64 0)))⟩])
   (.seq
    (.ops [⟨some 9, none, (.move (.tmp 0))⟩,
      ⟨some 10, none, (.call ⟨(.builtin .len), #[(.tmp 9)], #[39]⟩)⟩,
      ⟨some 11, none, (.buildSlice 22 1 #[(0, (.tmp 10))])⟩,
      ⟨some 12, none, (.move (.tmp 1))⟩,
      ⟨some 13, none, (.call ⟨(.builtin .append), #[(.tmp 11), (.tmp 12)], #[22, 22]⟩)⟩,
      ⟨some 14, none, (.build 26 #[(0, (.tmp 13))])⟩,
      ⟨some 6, none, (.alloc 26)⟩,
      ⟨none, none, (.store 26 (.tmp 6) (.tmp 14))⟩])
    (.seq
     (.seq
      (.ops [⟨some 15, none, (.move (.tmp 0))⟩,
        ⟨some 16, none, (.call ⟨(.builtin .len), #[(.tmp 15)], #[39]⟩)⟩,
        ⟨some 17, none, (.move (.const (.int .i64 0)))⟩])
      (.block 0
       (.loop
        (.seq
         (.ops [⟨some 18, none, (.binOp .lss 3 (.tmp 17) (.tmp 16) 3)⟩])
         (.seq
          (.cond (.tmp 18)
           .skip
           (.exit 0))
          (.seq
           (.block 1
            (.seq
             (.ops [⟨some 19, none, (.indexAddr 39 (.tmp 15) (.tmp 17))⟩,
               ⟨some 20, none, (.load 26 (.tmp 19))⟩,
               ⟨some 8, none, (.alloc 26)⟩,
               ⟨none, none, (.store 26 (.tmp 8) (.tmp 20))⟩])
             (.ops [⟨some 21, none, (.fieldAddr 26 (.tmp 6) 1)⟩,
               ⟨some 22, none, (.load 22 (.tmp 21))⟩,
               ⟨some 23, none, (.fieldAddr 26 (.tmp 8) 1)⟩,
               ⟨some 24, none, (.load 22 (.tmp 23))⟩,
               ⟨some 25, none, (.call ⟨(.builtin .append), #[(.tmp 22), (.tmp 24)], #[22, 22]⟩)⟩,
               ⟨some 26, none, (.fieldAddr 26 (.tmp 6) 1)⟩,
               ⟨none, none, (.store 22 (.tmp 26) (.tmp 25))⟩])))
           (.ops [⟨some 27, none, (.binOp .add 3 (.tmp 17) (.const (.int .i64 1)) 3)⟩,
             ⟨some 17, none, (.move (.tmp 27))⟩])))))))
     (.seq
      (.seq
       (.ops [⟨some 28, none, (.load 26 (.tmp 6))⟩,
         ⟨some 29, none, (.call ⟨(.value (.func 33)), #[(.tmp 28)], #[26]⟩)⟩,
         ⟨some 30, none, (.unOp .not 4 (.tmp 29))⟩])
       (.cond (.tmp 30)
        (.seq
         (.ops [⟨some 31, none, (.build 26 #[])⟩,
           ⟨none, none, (.store 26 (.tmp 4) (.tmp 31))⟩,
           ⟨some 5, none, (.assign (.const (.int .i64 6)))⟩])
         .ret)
        .skip))
      (.seq
       (.ops [⟨some 32, none, (.load 26 (.tmp 6))⟩,
         ⟨none, none, (.store 26 (.tmp 4) (.tmp 32))⟩,
         ⟨some 5, none, (.assign (.const (.int .i64 0)))⟩])
       .ret)))))
theorem w68 {args : Array Value} {H : AH} {Φ : Value → AH → Prop} (h : rW Try.prog k68 [] (fin Try.prog [(.cell 4 26), (.tmp 5)] Φ) (tm0 args) H) : CallsA Try.prog 68 args H Φ :=
  CallsA.w k68 [(.cell 4 26), (.tmp 5)] (fun _ => []) Try.func68 rfl rfl (by kernel_rfl) (by kernel_rfl) h

/-- impl.Scan -/
def k15 : KC :=
  (.seq
   (.ops [⟨some 3, none, (.box 26 (.tmp 1))⟩,
     ⟨some 4, none, (.alloc 26)⟩,
     ⟨some 5, none, (.assign (.const (.int .i64 0)))⟩])
   (.seq
    (.seq
     (.ops [⟨some 11, none, (.load 26 (.tmp 3))⟩,
       ⟨some 12, none, (.call ⟨(.value (.func 33)), #[(.tmp 11)], #[26]⟩)⟩,
       ⟨some 13, none, (.unOp .not 4 (.tmp 12))⟩,
       ⟨some 14, none, (.move (.tmp 13))⟩,
       ⟨some 15, (some (14, false)), (.move (.tmp 0))⟩,
       ⟨some 16, (some (14, false)), (.call ⟨(.value (.func 65)), #[(.tmp 15)], #[3]⟩)⟩,
       ⟨some 17, (some (14, false)), (.unOp .not 4 (.tmp 16))⟩,
       ⟨some 18, none, (.pick (.tmp 14) (.const (.bool true)) (.tmp 17))⟩])
     (.cond (.tmp 18)
      (.seq
       (.ops [⟨some 19, none, (.build 26 #[])⟩,
         ⟨none, none, (.store 26 (.tmp 4) (.tmp 19))⟩,
         ⟨some 5, none, (.assign (.const (.int .i64 1)))⟩])
       .ret)
      .skip))
    (.seq
     (.ops [⟨some 20, none, (.load 26 (.tmp 3))⟩,
       ⟨some 21, none, (.call ⟨(.value (.func 24)), #[(.tmp 20)], #[26]⟩)⟩,
       ⟨some 6, none, (.assign (.tmp 21))⟩])
     (.seq
      (.seq
       (.ops [⟨some 22, none, (.move (.tmp 6))⟩,
         ⟨some 23, none, (.call ⟨(.builtin .len), #[(.tmp 22)], #[39]⟩)⟩,
         ⟨some 24, none, (.binOp .eql 3 (.tmp 23) (.const (.int .i64 0)) 3)⟩])
       (.cond (.tmp 24)
        (.seq
         (.ops [⟨some 25, none, (.load 26 (.tmp 3))⟩,
           ⟨some 26, none, (.call ⟨(.value (.func 66)), #[(.tmp 25)], #[26]⟩)⟩,
           ⟨none, none, (.store 26 (.tmp 4) (.tmp 26))⟩,
           ⟨some 5, none, (.assign (.const (.int .i64 0)))⟩])
         .ret)
        .skip))
      (.seq
       (.ops [⟨some 7, none, (.assign (.const (.slice none 0 0)))⟩])
       (.seq
        (.seq
         (.ops [⟨some 27, none, (.move (.tmp 6))⟩,
           ⟨some 28, none, (.call ⟨(.builtin .len), #[(.tmp 27)], #[39]⟩)⟩,
           ⟨some 29, none, (.move (.const (.int .i64 0)))⟩])
         (.block 0
          (.loop
           (.seq
            (.ops [⟨some 30, none, (.binOp .lss 3 (.tmp 29) (.tmp 28) 3)⟩])
            (.seq
             (.cond (.tmp 30)
              .skip
              (.exit 0))
             (.seq
              (.block 1
               (.seq
                (.ops [⟨some 31, none, (.move (.tmp 29))⟩,
                  ⟨some 8, none, (.assign (.tmp 31))⟩])
                (.seq
                 (.draw #[] [(6, 0)]
                   [⟨some 33, none, (.move (.tmp 0))⟩,
                   ⟨some 34, none, (.move (.tmp 6))⟩,
                   ⟨some 35, none, (.move (.tmp 8))⟩,
                   ⟨some 36, none, (.binOp .add 3 (.tmp 35) (.const (.int .i64 1)) 3)⟩,
                   ⟨some 37, none, (.slice 39 (.tmp 34) none (some (.tmp 36)) none)⟩,
                   ⟨some 38, none, (.fieldAddr 26 (.tmp 3) 0)⟩,
                   ⟨some 39, none, (.load 22 (.tmp 38))⟩,
                   ⟨some 40, none, (.slice 22 (.tmp 39) (some (.const (.int .i64 1))) none none)⟩,
                   ⟨some 41, none, (.call ⟨(.value (.func 67)), #[(.tmp 33), (.tmp 37), (.tmp 40)], #[3, 39, 22]⟩)⟩,
                   ⟨some 32, none, (.move (.tmp 41))⟩,
                   ⟨some 42, none, (.extract (.tmp 32) 0)⟩,
                   ⟨some 43, none, (.extract (.tmp 32) 1)⟩,
                   ⟨some 9, none, (.alloc 26)⟩,
                   ⟨none, none, (.store 26 (.tmp 9) (.tmp 42))⟩,
                   ⟨some 10, none, (.assign (.tmp 43))⟩])
                 (.seq
                  (.seq
                   (.ops [⟨some 44, none, (.move (.tmp 10))⟩,
                     ⟨some 45, none, (.binOp .neq 3 (.tmp 44) (.const (.int .i64 0)) 3)⟩])
                   (.cond (.tmp 45)
                    (.seq
                     (.ops [⟨some 46, none, (.build 26 #[])⟩,
                       ⟨some 47, none, (.move (.tmp 10))⟩,
                       ⟨none, none, (.store 26 (.tmp 4) (.tmp 46))⟩,
                       ⟨some 5, none, (.assign (.tmp 47))⟩])
                     .ret)
                    .skip))
                  (.ops [⟨some 48, none, (.move (.tmp 7))⟩,
                    ⟨some 49, none, (.load 26 (.tmp 9))⟩,
                    ⟨some 50, none, (.buildSlice 39 1 #[(0, (.tmp 49))])⟩,
                    ⟨some 51, none, (.call ⟨(.builtin .append), #[(.tmp 48), (.tmp 50)], #[39, 39]⟩)⟩,
                    ⟨some 7, none, (.assign (.tmp 51))⟩])))))
              (.ops [⟨some 52, none, (.binOp .add 3 (.tmp 29) (.const (.int .i64 1)) 3)⟩,
                ⟨some 29, none, (.move (.tmp 52))⟩])))))))
        (.seq
         (.ops [⟨some 53, none, (.move (.tmp 7))⟩,
           ⟨some 54, none, (.fieldAddr 26 (.tmp 3) 0)⟩,
           ⟨some 55, none, (.load 22 (.tmp 54))⟩,
           ⟨some 56, none, (.slice 22 (.tmp 55) (some (.const (.int .i64 1))) none none)⟩,
           ⟨some 57, none, (.call ⟨(.value (.func 68)), #[(.tmp 53), (.tmp 56)], #[39, 22]⟩)⟩,
           ⟨some 58, none, (.extract (.tmp 57) 0)⟩,
           ⟨some 59, none, (.extract (.tmp 57) 1)⟩,
           ⟨none, none, (.store 26 (.tmp 4) (.tmp 58))⟩,
           ⟨some 5, none, (.assign (.tmp 59))⟩])
         .ret)))))))
theorem w15 {args : Array Value} {H : AH} {Φ : Value → AH → Prop} (h : rW Try.prog k15 [] (fin Try.prog [(.cell 4 26), (.tmp 5)] Φ) (tm0 args) H) : CallsA Try.prog 15 args H Φ :=
  CallsA.w k15 [(.cell 4 26), (.tmp 5)] (fun i => if i = 10 then [(6, 0)] else []) Try.func15 rfl rfl (by kernel_rfl) (by kernel_rfl) h

/-- laws.big -/
def k21 : KC :=
  (.seq
   (.ops [⟨some 2, none, (.assign (.const (.bool false)))⟩])
   (.seq
    (.ops [⟨some 3, none, (.move (.tmp 0))⟩,
      ⟨some 4, none, (.call ⟨(.builtin .len), #[(.tmp 3)], #[35]⟩)⟩,
      ⟨some 5, none, (.binOp .gtr 3 (.tmp 4) (.const (.int .i64 1048576)) 3)⟩,
      ⟨some 2, none, (.assign (.tmp 5))⟩])
    .ret))
theorem w21 {args : Array Value} {H : AH} {Φ : Value → AH → Prop} (h : rW Try.prog k21 [] (fin Try.prog [(.tmp 2)] Φ) (tm0 args) H) : CallsA Try.prog 21 args H Φ :=
  CallsA.w k21 [(.tmp 2)] (fun _ => []) Try.func21 rfl rfl (by kernel_rfl) (by kernel_rfl) h

/-- spec.l1New -/
def k81 : KC :=
  (.seq
   (.ops [⟨some 2, none, (.assign (.const (.pointer none)))⟩])
   (.seq
    (.ops [⟨some 5, none, (.move (.tmp 0))⟩,
      ⟨some 6, none, (.call ⟨(.builtin .len), #[(.tmp 5)], #[35]⟩)⟩,
      ⟨some 7, none, (.binOp .add 3 (.const (.int .i64 18218)) (.tmp 6) 3)⟩,
      ⟨some 3, none, (.assign (.tmp 7))⟩])
    (.seq
     (.seq
      (.ops [⟨some 4, none, (.assign (.const (.int .i64 0)))⟩])
      (.block 0
       (.loop
        (.seq
         (.seq
          (.ops [⟨some 8, none, (.move (.tmp 4))⟩,
            ⟨some 9, none, (.move (.tmp 0))⟩,
            ⟨some 10, none, (.call ⟨(.builtin .len), #[(.tmp 9)], #[35]⟩)⟩,
            ⟨some 11, none, (.binOp .lss 3 (.tmp 8) (.tmp 10) 3)⟩,
            ⟨some 12, none, (.move (.tmp 11))⟩,
            ⟨some 13, (some (12, true)), (.move (.tmp 4))⟩,
            ⟨some 14, (some (12, true)), (.binOp .lss 3 (.tmp 13) (.const (.int .i64 4000)) 3)⟩,
            ⟨some 15, none, (.pick (.tmp 12) (.tmp 14) (.const (.bool false)))⟩])
          (.cond (.tmp 15)
           .skip
           (.exit 0)))
         (.seq
          (.block 1
           (.ops [⟨some 18, none, (.move (.tmp 3))⟩,
             ⟨some 19, none, (.binOp .mul 3 (.tmp 18) (.const (.int .i64 131)) 3)⟩,
             ⟨some 20, none, (.move (.tmp 0))⟩,
             ⟨some 21, none, (.move (.tmp 4))⟩,
             ⟨some 22, none, (.indexAddr 35 (.tmp 20) (.tmp 21))⟩,
             ⟨some 23, none, (.load 5 (.tmp 22))⟩,
             ⟨some 24, none, (.convert 5 3 (.tmp 23))⟩,
             ⟨some 25, none, (.binOp .add 3 (.tmp 19) (.tmp 24) 3)⟩,
             ⟨some 26, none, (.binOp .add 3 (.tmp 25) (.const (.int .i64 7)) 3)⟩,
             ⟨some 27, none, (.binOp .and 3 (.tmp 26) (.const (.int .i64 1073741823)) 3)⟩,
             ⟨some 3, none, (.assign (.tmp 27))⟩]))
          (.ops [⟨some 16, none, (.move (.tmp 4))⟩,
            ⟨some 17, none, (.binOp .add 3 (.tmp 16) (.const (.int .i64 1)) 3)⟩,
            ⟨some 4, none, (.assign (.tmp 17))⟩]))))))
     (.seq
      (.ops [⟨some 28, none, (.move (.tmp 0))⟩,
        ⟨some 29, none, (.move (.tmp 3))⟩,
        ⟨some 30, none, (.build 146 #[(0, (.tmp 28)), (2, (.tmp 29))])⟩,
        ⟨some 31, none, (.box 146 (.tmp 30))⟩,
        ⟨some 2, none, (.assign (.tmp 31))⟩])
      .ret))))
theorem w81 {args : Array Value} {H : AH} {Φ : Value → AH → Prop} (h : rW Try.prog k81 [] (fin Try.prog [(.tmp 2)] Φ) (tm0 args) H) : CallsA Try.prog 81 args H Φ :=
  CallsA.w k81 [(.tmp 2)] (fun _ => []) Try.func81 rfl rfl (by kernel_rfl) (by kernel_rfl) h

/-- spec.l1Byte -/
def k172 : KC :=
  (.seq
   (.ops [⟨some 2, none, (.assign (.const (.int .i64 0)))⟩])
   (.seq
    (.ops [⟨some 4, none, (.move (.tmp 0))⟩,
      ⟨some 5, none, (.move (.tmp 0))⟩,
      ⟨some 6, none, (.nilCheck (.tmp 5))⟩,
      ⟨some 7, none, (.fieldAddr 146 (.tmp 6) 2)⟩,
      ⟨some 8, none, (.load 3 (.tmp 7))⟩,
      ⟨some 9, none, (.binOp .mul 3 (.tmp 8) (.const (.int .i64 6364136223846793005)) 3)⟩,
      ⟨some 10, none, (.binOp .add 3 (.tmp 9) (.const (.int .i64 1442695040888963407)) 3)⟩,
      ⟨some 11, none, (.nilCheck (.tmp 4))⟩,
      ⟨some 12, none, (.fieldAddr 146 (.tmp 11) 2)⟩,
      ⟨none, none, (.store 3 (.tmp 12) (.tmp 10))⟩])
    (.seq
     (.ops [⟨some 13, none, (.move (.tmp 0))⟩,
       ⟨some 14, none, (.nilCheck (.tmp 13))⟩,
       ⟨some 15, none, (.fieldAddr 146 (.tmp 14) 2)⟩,
       ⟨some 16, none, (.load 3 (.tmp 15))⟩,
       ⟨some 17, none, (.binOp .shr 3 (.tmp 16) (.const (.int .u64 33)) 121)⟩,
       ⟨some 18, none, (.move (.tmp 0))⟩,
       ⟨some 19, none, (.nilCheck (.tmp 18))⟩,
       ⟨some 20, none, (.fieldAddr 146 (.tmp 19) 2)⟩,
       ⟨some 21, none, (.load 3 (.tmp 20))⟩,
       ⟨some 22, none, (.binOp .shr 3 (.tmp 21) (.const (.int .u64 45)) 121)⟩,
       ⟨some 23, none, (.binOp .xor 3 (.tmp 17) (.tmp 22) 3)⟩,
       ⟨some 24, none, (.binOp .and 3 (.tmp 23) (.const (.int .i64 255)) 3)⟩,
       ⟨some 3, none, (.assign (.tmp 24))⟩])
     (.seq
      (.seq
       (.ops [⟨some 25, none, (.move (.tmp 0))⟩,
         ⟨some 26, none, (.nilCheck (.tmp 25))⟩,
         ⟨some 27, none, (.fieldAddr 146 (.tmp 26) 1)⟩,
         ⟨some 28, none, (.load 3 (.tmp 27))⟩,
         ⟨some 29, none, (.move (.tmp 0))⟩,
         ⟨some 30, none, (.nilCheck (.tmp 29))⟩,
         ⟨some 31, none, (.fieldAddr 146 (.tmp 30) 0)⟩,
         ⟨some 32, none, (.load 35 (.tmp 31))⟩,
         ⟨some 33, none, (.call ⟨(.builtin .len), #[(.tmp 32)], #[35]⟩)⟩,
         ⟨some 34, none, (.binOp .lss 3 (.tmp 28) (.tmp 33) 3)⟩])
       (.cond (.tmp 34)
        (.seq
         (.ops [⟨some 35, none, (.move (.tmp 3))⟩,
           ⟨some 36, none, (.move (.tmp 0))⟩,
           ⟨some 37, none, (.nilCheck (.tmp 36))⟩,
           ⟨some 38, none, (.fieldAddr 146 (.tmp 37) 0)⟩,
           ⟨some 39, none, (.load 35 (.tmp 38))⟩,
           ⟨some 40, none, (.move (.tmp 0))⟩,
           ⟨some 41, none, (.nilCheck (.tmp 40))⟩,
           ⟨some 42, none, (.fieldAddr 146 (.tmp 41) 1)⟩,
           ⟨some 43, none, (.load 3 (.tmp 42))⟩,
           ⟨some 44, none, (.indexAddr 35 (.tmp 39) (.tmp 43))⟩,
           ⟨some 45, none, (.load 5 (.tmp 44))⟩,
           ⟨some 46, none, (.convert 5 3 (.tmp 45))⟩,
           ⟨some 47, none, (.binOp .add 3 (.tmp 35) (.tmp 46) 3)⟩,
           ⟨some 48, none, (.binOp .and 3 (.tmp 47) (.const (.int .i64 255)) 3)⟩,
           ⟨some 3, none, (.assign (.tmp 48))⟩])
         (.ops [⟨some 49, none, (.move (.tmp 0))⟩,
           ⟨some 50, none, (.move (.tmp 0))⟩,
           ⟨some 51, none, (.nilCheck (.tmp 50))⟩,
           ⟨some 52, none, (.fieldAddr 146 (.tmp 51) 1)⟩,
           ⟨some 53, none, (.load 3 (.tmp 52))⟩,
           ⟨some 54, none, (.binOp .add 3 (.tmp 53) (.const (.int .i64 1)) 3)⟩,
           ⟨some 55, none, (.nilCheck (.tmp 49))⟩,
           ⟨some 56, none, (.fieldAddr 146 (.tmp 55) 1)⟩,
           ⟨none, none, (.store 3 (.tmp 56) (.tmp 54))⟩]))
        .skip))
      (.seq
       (.ops [⟨some 57, none, (.move (.tmp 3))⟩,
         ⟨some 2, none, (.assign (.tmp 57))⟩])
       .ret)))))
theorem w172 {args : Array Value} {H : AH} {Φ : Value → AH → Prop} (h : rW Try.prog k172 [] (fin Try.prog [(.tmp 2)] Φ) (tm0 args) H) : CallsA Try.prog 172 args H Φ :=
  CallsA.w k172 [(.tmp 2)] (fun i => if i = 2 then [(3, 0), (8, 0)] else if i = 3 then [(3, 0), (7, 0)] else if i = 4 then [(4, 0), (8, 0), (10, 0), (11, 0)] else []) Try.func172 rfl rfl (by kernel_rfl) (by kernel_rfl) h

/-- spec.l1Below -/
def k87 : KC :=
  (.seq
   (.ops [⟨some 4, none, (.assign (.const (.int .i64 0)))⟩])
   (.seq
    (.seq
     (.ops [⟨some 9, none, (.move (.tmp 1))⟩,
       ⟨some 10, none, (.binOp .leq 3 (.tmp 9) (.const (.int .i64 0)) 3)⟩])
     (.cond (.tmp 10)
      (.seq
       (.ops [⟨some 4, none, (.assign (.const (.int .i64 0)))⟩])
       .ret)
      .skip))
    (.seq
     (.seq
      (.ops [⟨some 11, none, (.move (.tmp 1))⟩,
        ⟨some 12, none, (.binOp .leq 3 (.tmp 11) (.const (.int .i64 256)) 3)⟩])
      (.cond (.tmp 12)
       (.seq
        (.ops [⟨some 13, none, (.move (.tmp 0))⟩,
          ⟨some 14, none, (.call ⟨(.value (.func 172)), #[(.tmp 13)], #[99]⟩)⟩,
          ⟨some 15, none, (.move (.tmp 1))⟩,
          ⟨some 16, none, (.binOp .rem 3 (.tmp 14) (.tmp 15) 3)⟩,
          ⟨some 4, none, (.assign (.tmp 16))⟩])
        .ret)
       .skip))
     (.seq
      (.ops [⟨some 17, none, (.move (.tmp 0))⟩,
        ⟨some 18, none, (.call ⟨(.value (.func 172)), #[(.tmp 17)], #[99]⟩)⟩,
        ⟨some 5, none, (.assign (.tmp 18))⟩])
      (.seq
       (.ops [⟨some 19, none, (.move (.tmp 0))⟩,
         ⟨some 20, none, (.call ⟨(.value (.func 172)), #[(.tmp 19)], #[99]⟩)⟩,
         ⟨some 6, none, (.assign (.tmp 20))⟩])
       (.seq
        (.ops [⟨some 21, none, (.move (.tmp 0))⟩,
          ⟨some 22, none, (.call ⟨(.value (.func 172)), #[(.tmp 21)], #[99]⟩)⟩,
          ⟨some 7, none, (.assign (.tmp 22))⟩])
        (.seq
         (.ops [⟨some 23, none, (.move (.tmp 0))⟩,
           ⟨some 24, none, (.call ⟨(.value (.func 172)), #[(.tmp 23)], #[99]⟩)⟩,
           ⟨some 8, none, (.assign (.tmp 24))⟩])
         (.seq
          (.ops [⟨some 25, none, (.move (.tmp 5))⟩,
            ⟨some 26, none, (.binOp .mul 3 (.tmp 25) (.const (.int .i64 16777216)) 3)⟩,
            ⟨some 27, none, (.move (.tmp 6))⟩,
            ⟨some 28, none, (.binOp .mul 3 (.tmp 27) (.const (.int .i64 65536)) 3)⟩,
            ⟨some 29, none, (.binOp .add 3 (.tmp 26) (.tmp 28) 3)⟩,
            ⟨some 30, none, (.move (.tmp 7))⟩,
            ⟨some 31, none, (.binOp .mul 3 (.tmp 30) (.const (.int .i64 256)) 3)⟩,
            ⟨some 32, none, (.binOp .add 3 (.tmp 29) (.tmp 31) 3)⟩,
            ⟨some 33, none, (.move (.tmp 8))⟩,
            ⟨some 34, none, (.binOp .add 3 (.tmp 32) (.tmp 33) 3)⟩,
            ⟨some 35, none, (.move (.tmp 1))⟩,
            ⟨some 36, none, (.binOp .rem 3 (.tmp 34) (.tmp 35) 3)⟩,
            ⟨some 4, none, (.assign (.tmp 36))⟩])
          .ret))))))))
theorem w87 {args : Array Value} {H : AH} {Φ : Value → AH → Prop} (h : rW Try.prog k87 [] (fin Try.prog [(.tmp 4)] Φ) (tm0 args) H) : CallsA Try.prog 87 args H Φ :=
  CallsA.w k87 [(.tmp 4)] (fun _ => []) Try.func87 rfl rfl (by kernel_rfl) (by kernel_rfl) h

/-- spec.l1Once -/
def k89 : KC :=
  (.seq
   (.ops [⟨some 4, none, (.assign (.const (.bool false)))⟩])
   (.seq
    (.ops [⟨some 5, none, (.move (.tmp 0))⟩,
      ⟨some 6, none, (.move (.tmp 1))⟩,
      ⟨some 7, none, (.call ⟨(.value (.func 87)), #[(.tmp 5), (.tmp 6)], #[99, 3]⟩)⟩,
      ⟨some 8, none, (.binOp .eql 3 (.tmp 7) (.const (.int .i64 0)) 3)⟩,
      ⟨some 4, none, (.assign (.tmp 8))⟩])
    .ret))
theorem w89 {args : Array Value} {H : AH} {Φ : Value → AH → Prop} (h : rW Try.prog k89 [] (fin Try.prog [(.tmp 4)] Φ) (tm0 args) H) : CallsA Try.prog 89 args H Φ :=
  CallsA.w k89 [(.tmp 4)] (fun _ => []) Try.func89 rfl rfl (by kernel_rfl) (by kernel_rfl) h

/-- spec.l1PickInt -/
def k117 : KC :=
  (.seq
   (.ops [⟨some 4, none, (.assign (.const (.int .i64 0)))⟩])
   (.seq
    (.ops [⟨some 5, none, (.move (.tmp 1))⟩,
      ⟨some 6, none, (.move (.tmp 0))⟩,
      ⟨some 7, none, (.move (.tmp 1))⟩,
      ⟨some 8, none, (.call ⟨(.builtin .len), #[(.tmp 7)], #[22]⟩)⟩,
      ⟨some 9, none, (.call ⟨(.value (.func 87)), #[(.tmp 6), (.tmp 8)], #[99, 3]⟩)⟩,
      ⟨some 10, none, (.indexAddr 22 (.tmp 5) (.tmp 9))⟩,
      ⟨some 11, none, (.load 3 (.tmp 10))⟩,
      ⟨some 4, none, (.assign (.tmp 11))⟩])
    .ret))
theorem w117 {args : Array Value} {H : AH} {Φ : Value → AH → Prop} (h : rW Try.prog k117 [] (fin Try.prog [(.tmp 4)] Φ) (tm0 args) H) : CallsA Try.prog 117 args H Φ :=
  CallsA.w k117 [(.tmp 4)] (fun _ => []) Try.func117 rfl rfl (by kernel_rfl) (by kernel_rfl) h

/-- spec.l1DrawSign -/
def k82 : KC :=
  (.seq
   (.ops [⟨some 2, none, (.assign (.const (.int .i64 0)))⟩])
   (.seq
    (.seq
     (.ops [⟨some 3, none, (.move (.tmp 0))⟩,
       ⟨some 4, none, (.call ⟨(.value (.func 89)), #[(.tmp 3), (.const (.int .i64 20))], #[99, 3]⟩)⟩])
     (.cond (.tmp 4)
      (.seq
       (.ops [⟨some 5, none, (.move (.tmp 0))⟩,
         ⟨some 6, none, (.buildSlice 22 5 #[(0, (.const (.int .i64 0))), (1, (.const (.int .i64 (-1)))), (2, (.const (.int .i64 105))), (3, (.const (.int .i64 300))), (4, (.const (.int .i64 47)))])⟩,
         ⟨some 7, none, (.call ⟨(.value (.func 117)), #[(.tmp 5), (.tmp 6)], #[99, 22]⟩)⟩,
         ⟨some 2, none, (.assign (.tmp 7))⟩])
       .ret)
      .skip))
    (.seq
     (.ops [⟨some 8, none, (.move (.tmp 0))⟩,
       ⟨some 9, none, (.buildSlice 22 11 #[(0, (.const (.int .i64 43))), (1, (.const (.int .i64 45))), (2, (.const (.int .i64 42))), (3, (.const (.int .i64 37))), (4, (.const (.int .i64 124))), (5, (.const (.int .i64 38))), (6, (.const (.int .i64 94))), (7, (.const (.int .i64 61))), (8, (.const (.int .i64 60))), (9, (.const (.int .i64 62))), (10, (.const (.int .i64 126)))])⟩,
       ⟨some 10, none, (.call ⟨(.value (.func 117)), #[(.tmp 8), (.tmp 9)], #[99, 22]⟩)⟩,
       ⟨some 2, none, (.assign (.tmp 10))⟩])
     .ret)))
theorem w82 {args : Array Value} {H : AH} {Φ : Value → AH → Prop} (h : rW Try.prog k82 [] (fin Try.prog [(.tmp 2)] Φ) (tm0 args) H) : CallsA Try.prog 82 args H Φ :=
  CallsA.w k82 [(.tmp 2)] (fun _ => []) Try.func82 rfl rfl (by kernel_rfl) (by kernel_rfl) h

/-- spec.l1DrawNum -/
def k173 : KC :=
  (.seq
   (.ops [⟨some 2, none, (.assign (.const (.int .i64 0)))⟩])
   (.seq
    (.seq
     (.ops [⟨some 3, none, (.move (.tmp 0))⟩,
       ⟨some 4, none, (.call ⟨(.value (.func 89)), #[(.tmp 3), (.const (.int .i64 12))], #[99, 3]⟩)⟩])
     (.cond (.tmp 4)
      (.seq
       (.ops [⟨some 5, none, (.move (.tmp 0))⟩,
         ⟨some 6, none, (.buildSlice 22 7 #[(0, (.const (.int .i64 1000000000000))), (1, (.const (.int .i64 (-1000000000000)))), (2, (.const (.int .i64 999999999999))), (3, (.const (.int .i64 1000000))), (4, (.const (.int .i64 (-1000000)))), (5, (.const (.int .i64 1000001))), (6, (.const (.int .i64 999999999999)))])⟩,
         ⟨some 7, none, (.call ⟨(.value (.func 117)), #[(.tmp 5), (.tmp 6)], #[99, 22]⟩)⟩,
         ⟨some 2, none, (.assign (.tmp 7))⟩])
       .ret)
      .skip))
    (.seq
     (.ops [⟨some 8, none, (.move (.tmp 0))⟩,
       ⟨some 9, none, (.call ⟨(.value (.func 87)), #[(.tmp 8), (.const (.int .i64 20))], #[99, 3]⟩)⟩,
       ⟨some 10, none, (.binOp .sub 3 (.tmp 9) (.const (.int .i64 6)) 3)⟩,
       ⟨some 2, none, (.assign (.tmp 10))⟩])
     .ret)))
theorem w173 {args : Array Value} {H : AH} {Φ : Value → AH → Prop} (h : rW Try.prog k173 [] (fin Try.prog [(.tmp 2)] Φ) (tm0 args) H) : CallsA Try.prog 173 args H Φ :=
  CallsA.w k173 [(.tmp 2)] (fun _ => []) Try.func173 rfl rfl (by kernel_rfl) (by kernel_rfl) h

/-- spec.l3Fill -/
def k88 : KC :=
  (.seq
   (.ops [⟨some 4, none, (.alloc 26)⟩])
   (.seq
    (.ops [⟨some 7, none, (.buildSlice 22 0 #[])⟩,
      ⟨some 8, none, (.move (.tmp 1))⟩,
      ⟨some 9, none, (.call ⟨(.builtin .append), #[(.tmp 7), (.tmp 8)], #[22, 22]⟩)⟩,
      ⟨some 10, none, (.build 26 #[(0, (.tmp 9))])⟩,
      ⟨some 5, none, (.alloc 26)⟩,
      ⟨none, none, (.store 26 (.tmp 5) (.tmp 10))⟩])
    (.seq
     (.seq
      (.ops [⟨some 6, none, (.assign (.const (.int .i64 0)))⟩])
      (.block 0
       (.loop
        (.seq
         (.seq
          (.ops [⟨some 11, none, (.move (.tmp 6))⟩,
            ⟨some 12, none, (.move (.tmp 1))⟩,
            ⟨some 13, none, (.call ⟨(.value (.func 74)), #[(.tmp 12)], #[22]⟩)⟩,
            ⟨some 14, none, (.binOp .lss 3 (.tmp 11) (.tmp 13) 3)⟩])
          (.cond (.tmp 14)
           .skip
           (.exit 0)))
         (.seq
          (.block 1
           (.draw #[] [(1, 0), (1, 4)]
             [⟨some 17, none, (.fieldAddr 26 (.tmp 5) 1)⟩,
             ⟨some 18, none, (.load 22 (.tmp 17))⟩,
             ⟨some 19, none, (.move (.tmp 0))⟩,
             ⟨some 20, none, (.call ⟨(.value (.func 173)), #[(.tmp 19)], #[99]⟩)⟩,
             ⟨some 21, none, (.buildSlice 22 1 #[(0, (.tmp 20))])⟩,
             ⟨some 22, none, (.call ⟨(.builtin .append), #[(.tmp 18), (.tmp 21)], #[22, 22]⟩)⟩,
             ⟨some 23, none, (.fieldAddr 26 (.tmp 5) 1)⟩,
             ⟨none, none, (.store 22 (.tmp 23) (.tmp 22))⟩]))
          (.ops [⟨some 15, none, (.move (.tmp 6))⟩,
            ⟨some 16, none, (.binOp .add 3 (.tmp 15) (.const (.int .i64 1)) 3)⟩,
            ⟨some 6, none, (.assign (.tmp 16))⟩]))))))
     (.seq
      (.ops [⟨some 24, none, (.load 26 (.tmp 5))⟩,
        ⟨none, none, (.store 26 (.tmp 4) (.tmp 24))⟩])
      .ret))))
theorem w88 {args : Array Value} {H : AH} {Φ : Value → AH → Prop} (h : rW Try.prog k88 [] (fin Try.prog [(.cell 4 26)] Φ) (tm0 args) H) : CallsA Try.prog 88 args H Φ :=
  CallsA.w k88 [(.cell 4 26)] (fun i => if i = 5 then [(1, 0), (1, 4)] else []) Try.func88 rfl rfl (by kernel_rfl) (by kernel_rfl) h

/-- spec.l2DrawRight -/
def k218 : KC :=
  (.seq
   (.ops [⟨some 2, none, (.assign (.const (.slice none 0 0)))⟩])
   (.seq
    (.seq
     (.ops [⟨some 3, none, (.move (.tmp 0))⟩,
       ⟨some 4, none, (.call ⟨(.value (.func 87)), #[(.tmp 3), (.const (.int .i64 5))], #[99, 3]⟩)⟩])
     (.block 0
      (.seq
       (.ops [⟨some 6, none, (.binOp .eql 3 (.tmp 4) (.const (.int .i64 0)) 3)⟩,
         ⟨some 5, none, (.assign (.tmp 6))⟩])
       (.cond (.tmp 5)
        (.seq
         (.ops [⟨some 7, none, (.buildSlice 22 0 #[])⟩,
           ⟨some 2, none, (.assign (.tmp 7))⟩])
         .ret)
        (.seq
         (.seq
          (.ops [⟨some 9, none, (.binOp .eql 3 (.tmp 4) (.const (.int .i64 1)) 3)⟩,
            ⟨some 8, none, (.assign (.tmp 9))⟩])
          (.cond (.tmp 8)
           .skip
           (.ops [⟨some 10, none, (.binOp .eql 3 (.tmp 4) (.const (.int .i64 2)) 3)⟩,
             ⟨some 8, none, (.assign (.tmp 10))⟩])))
         (.cond (.tmp 8)
          (.seq
           (.ops [⟨some 11, none, (.move (.tmp 0))⟩,
             ⟨some 12, none, (.call ⟨(.value (.func 87)), #[(.tmp 11), (.const (.int .i64 6))], #[99, 3]⟩)⟩,
             ⟨some 13, none, (.buildSlice 22 1 #[(0, (.tmp 12))])⟩,
             ⟨some 2, none, (.assign (.tmp 13))⟩])
           .ret)
          (.seq
           (.ops [⟨some 15, none, (.binOp .eql 3 (.tmp 4) (.const (.int .i64 3)) 3)⟩,
             ⟨some 14, none, (.assign (.tmp 15))⟩])
           (.cond (.tmp 14)
            (.seq
             (.ops [⟨some 16, none, (.move (.tmp 0))⟩,
               ⟨some 17, none, (.call ⟨(.value (.func 87)), #[(.tmp 16), (.const (.int .i64 4))], #[99, 3]⟩)⟩,
               ⟨some 18, none, (.move (.tmp 0))⟩,
               ⟨some 19, none, (.call ⟨(.value (.func 87)), #[(.tmp 18), (.const (.int .i64 3))], #[99, 3]⟩)⟩,
               ⟨some 20, none, (.binOp .add 3 (.const (.int .i64 1)) (.tmp 19) 3)⟩,
               ⟨some 21, none, (.buildSlice 22 2 #[(0, (.tmp 17)), (1, (.tmp 20))])⟩,
               ⟨some 2, none, (.assign (.tmp 21))⟩])
             .ret)
            .skip))))))))
    (.seq
     (.ops [⟨some 22, none, (.move (.tmp 0))⟩,
       ⟨some 23, none, (.call ⟨(.value (.func 87)), #[(.tmp 22), (.const (.int .i64 3))], #[99, 3]⟩)⟩,
       ⟨some 24, none, (.binOp .add 3 (.const (.int .i64 1)) (.tmp 23) 3)⟩,
       ⟨some 25, none, (.move (.tmp 0))⟩,
       ⟨some 26, none, (.call ⟨(.value (.func 87)), #[(.tmp 25), (.const (.int .i64 2))], #[99, 3]⟩)⟩,
       ⟨some 27, none, (.binOp .add 3 (.const (.int .i64 1)) (.tmp 26) 3)⟩,
       ⟨some 28, none, (.move (.tmp 0))⟩,
       ⟨some 29, none, (.call ⟨(.value (.func 87)), #[(.tmp 28), (.const (.int .i64 4))], #[99, 3]⟩)⟩,
       ⟨some 30, none, (.buildSlice 22 3 #[(0, (.tmp 24)), (1, (.tmp 27)), (2, (.tmp 29))])⟩,
       ⟨some 2, none, (.assign (.tmp 30))⟩])
     .ret)))
theorem w218 {args : Array Value} {H : AH} {Φ : Value → AH → Prop} (h : rW Try.prog k218 [] (fin Try.prog [(.tmp 2)] Φ) (tm0 args) H) : CallsA Try.prog 218 args H Φ :=
  CallsA.w k218 [(.tmp 2)] (fun _ => []) Try.func218 rfl rfl (by kernel_rfl) (by kernel_rfl) h

/-- spec.l3DrawRight -/
def k169 : KC :=
  (.seq
   (.ops [⟨some 2, none, (.alloc 26)⟩])
   (.seq
    (.ops [⟨some 3, none, (.move (.tmp 0))⟩,
      ⟨some 4, none, (.move (.tmp 0))⟩,
      ⟨some 5, none, (.call ⟨(.value (.func 218)), #[(.tmp 4)], #[99]⟩)⟩,
      ⟨some 6, none, (.call ⟨(.value (.func 88)), #[(.tmp 3), (.tmp 5)], #[99, 22]⟩)⟩,
      ⟨none, none, (.store 26 (.tmp 2) (.tmp 6))⟩])
    .ret))
theorem w169 {args : Array Value} {H : AH} {Φ : Value → AH → Prop} (h : rW Try.prog k169 [] (fin Try.prog [(.cell 2 26)] Φ) (tm0 args) H) : CallsA Try.prog 169 args H Φ :=
  CallsA.w k169 [(.cell 2 26)] (fun _ => []) Try.func169 rfl rfl (by kernel_rfl) (by kernel_rfl) h

/-- spec.l2Draw -/
def k170 : KC :=
  (.seq
   (.ops [⟨some 2, none, (.assign (.const (.slice none 0 0)))⟩])
   (.seq
    (.ops [⟨some 4, none, (.move (.tmp 0))⟩,
      ⟨some 5, none, (.call ⟨(.value (.func 218)), #[(.tmp 4)], #[99]⟩)⟩,
      ⟨some 3, none, (.assign (.tmp 5))⟩])
    (.seq
     (.seq
      (.ops [⟨some 6, none, (.move (.tmp 0))⟩,
        ⟨some 7, none, (.call ⟨(.value (.func 87)), #[(.tmp 6), (.const (.int .i64 20))], #[99, 3]⟩)⟩])
      (.block 0
       (.seq
        (.ops [⟨some 9, none, (.binOp .eql 3 (.tmp 7) (.const (.int .i64 0)) 3)⟩,
          ⟨some 8, none, (.assign (.tmp 9))⟩])
        (.cond (.tmp 8)
         (.ops [⟨some 10, none, (.move (.tmp 3))⟩,
           ⟨some 11, none, (.move (.tmp 0))⟩,
           ⟨some 12, none, (.buildSlice 22 4 #[(0, (.const (.int .i64 (-1)))), (1, (.const (.int .i64 0))), (2, (.const (.int .i64 300))), (3, (.const (.int .i64 301)))])⟩,
           ⟨some 13, none, (.call ⟨(.value (.func 117)), #[(.tmp 11), (.tmp 12)], #[99, 22]⟩)⟩,
           ⟨some 14, none, (.buildSlice 22 1 #[(0, (.tmp 13))])⟩,
           ⟨some 15, none, (.call ⟨(.builtin .append), #[(.tmp 10), (.tmp 14)], #[22, 22]⟩)⟩,
           ⟨some 3, none, (.assign (.tmp 15))⟩])
         (.seq
          (.ops [⟨some 17, none, (.binOp .eql 3 (.tmp 7) (.const (.int .i64 1)) 3)⟩,
            ⟨some 16, none, (.assign (.tmp 17))⟩])
          (.cond (.tmp 16)
           (.ops [⟨some 18, none, (.buildSlice 22 4 #[(0, (.const (.int .i64 1))), (1, (.const (.int .i64 1))), (2, (.const (.int .i64 1))), (3, (.const (.int .i64 1)))])⟩,
             ⟨some 3, none, (.assign (.tmp 18))⟩])
           (.seq
            (.ops [⟨some 20, none, (.binOp .eql 3 (.tmp 7) (.const (.int .i64 2)) 3)⟩,
              ⟨some 19, none, (.assign (.tmp 20))⟩])
            (.cond (.tmp 19)
             (.ops [⟨some 21, none, (.move (.tmp 0))⟩,
               ⟨some 22, none, (.buildSlice 22 4 #[(0, (.const (.int .i64 17))), (1, (.const (.int .i64 20))), (2, (.const (.int .i64 15))), (3, (.const (.int .i64 300)))])⟩,
               ⟨some 23, none, (.call ⟨(.value (.func 117)), #[(.tmp 21), (.tmp 22)], #[99, 22]⟩)⟩,
               ⟨some 24, none, (.move (.tmp 0))⟩,
               ⟨some 25, none, (.buildSlice 22 4 #[(0, (.const (.int .i64 15))), (1, (.const (.int .i64 20))), (2, (.const (.int .i64 16))), (3, (.const (.int .i64 0)))])⟩,
               ⟨some 26, none, (.call ⟨(.value (.func 117)), #[(.tmp 24), (.tmp 25)], #[99, 22]⟩)⟩,
               ⟨some 27, none, (.buildSlice 22 2 #[(0, (.tmp 23)), (1, (.tmp 26))])⟩,
               ⟨some 3, none, (.assign (.tmp 27))⟩])
             .skip))))))))
     (.seq
      (.ops [⟨some 28, none, (.move (.tmp 3))⟩,
        ⟨some 2, none, (.assign (.tmp 28))⟩])
      .ret))))
theorem w170 {args : Array Value} {H : AH} {Φ : Value → AH → Prop} (h : rW Try.prog k170 [] (fin Try.prog [(.tmp 2)] Φ) (tm0 args) H) : CallsA Try.prog 170 args H Φ :=
  CallsA.w k170 [(.tmp 2)] (fun _ => []) Try.func170 rfl rfl (by kernel_rfl) (by kernel_rfl) h

/-- spec.l1DrawRaw -/
def k171 : KC :=
  (.seq
   (.ops [⟨some 2, none, (.assign (.const (.int .i64 0)))⟩])
   (.seq
    (.seq
     (.ops [⟨some 3, none, (.move (.tmp 0))⟩,
       ⟨some 4, none, (.call ⟨(.value (.func 89)), #[(.tmp 3), (.const (.int .i64 15))], #[99, 3]⟩)⟩])
     (.cond (.tmp 4)
      (.seq
       (.ops [⟨some 5, none, (.move (.tmp 0))⟩,
         ⟨some 6, none, (.buildSlice 22 4 #[(0, (.const (.int .i64 1000000000001))), (1, (.const (.int .i64 (-1000000000001)))), (2, (.const (.int .i64 9223372036854775807))), (3, (.const (.int .i64 (-9223372036854775808))))])⟩,
         ⟨some 7, none, (.call ⟨(.value (.func 117)), #[(.tmp 5), (.tmp 6)], #[99, 22]⟩)⟩,
         ⟨some 2, none, (.assign (.tmp 7))⟩])
       .ret)
      .skip))
    (.seq
     (.ops [⟨some 8, none, (.move (.tmp 0))⟩,
       ⟨some 9, none, (.call ⟨(.value (.func 173)), #[(.tmp 8)], #[99]⟩)⟩,
       ⟨some 2, none, (.assign (.tmp 9))⟩])
     .ret)))
theorem w171 {args : Array Value} {H : AH} {Φ : Value → AH → Prop} (h : rW Try.prog k171 [] (fin Try.prog [(.tmp 2)] Φ) (tm0 args) H) : CallsA Try.prog 171 args H Φ :=
  CallsA.w k171 [(.tmp 2)] (fun _ => []) Try.func171 rfl rfl (by kernel_rfl) (by kernel_rfl) h

/-- spec.l3Draw -/
def k83 : KC :=
  (.seq
   (.ops [⟨some 2, none, (.alloc 26)⟩])
   (.seq
    (.ops [⟨some 4, none, (.move (.tmp 0))⟩,
      ⟨some 5, none, (.call ⟨(.value (.func 169)), #[(.tmp 4)], #[99]⟩)⟩,
      ⟨some 3, none, (.alloc 26)⟩,
      ⟨none, none, (.store 26 (.tmp 3) (.tmp 5))⟩])
    (.seq
     (.seq
      (.ops [⟨some 6, none, (.move (.tmp 0))⟩,
        ⟨some 7, none, (.call ⟨(.value (.func 87)), #[(.tmp 6), (.const (.int .i64 20))], #[99, 3]⟩)⟩])
      (.block 0
       (.seq
        (.ops [⟨some 9, none, (.binOp .eql 3 (.tmp 7) (.const (.int .i64 0)) 3)⟩,
          ⟨some 8, none, (.assign (.tmp 9))⟩])
        (.cond (.tmp 8)
         (.ops [⟨some 10, none, (.fieldAddr 26 (.tmp 3) 1)⟩,
           ⟨some 11, none, (.load 22 (.tmp 10))⟩,
           ⟨some 12, none, (.buildSlice 22 1 #[(0, (.const (.int .i64 1)))])⟩,
           ⟨some 13, none, (.call ⟨(.builtin .append), #[(.tmp 11), (.tmp 12)], #[22, 22]⟩)⟩,
           ⟨some 14, none, (.fieldAddr 26 (.tmp 3) 1)⟩,
           ⟨none, none, (.store 22 (.tmp 14) (.tmp 13))⟩])
         (.seq
          (.ops [⟨some 16, none, (.binOp .eql 3 (.tmp 7) (.const (.int .i64 1)) 3)⟩,
            ⟨some 15, none, (.assign (.tmp 16))⟩])
          (.cond (.tmp 15)
           (.ops [⟨some 17, none, (.move (.tmp 0))⟩,
             ⟨some 18, none, (.call ⟨(.value (.func 170)), #[(.tmp 17)], #[99]⟩)⟩,
             ⟨some 19, none, (.fieldAddr 26 (.tmp 3) 0)⟩,
             ⟨none, none, (.store 22 (.tmp 19) (.tmp 18))⟩])
           (.seq
            (.ops [⟨some 21, none, (.binOp .eql 3 (.tmp 7) (.const (.int .i64 2)) 3)⟩,
              ⟨some 20, none, (.assign (.tmp 21))⟩])
            (.cond (.tmp 20)
             (.seq
              (.ops [⟨some 22, none, (.fieldAddr 26 (.tmp 3) 1)⟩,
                ⟨some 23, none, (.load 22 (.tmp 22))⟩,
                ⟨some 24, none, (.call ⟨(.builtin .len), #[(.tmp 23)], #[22]⟩)⟩,
                ⟨some 25, none, (.binOp .gtr 3 (.tmp 24) (.const (.int .i64 0)) 3)⟩])
              (.cond (.tmp 25)
               (.draw #[] [(1, 0), (1, 7), (1, 9), (4, 0)]
                 [⟨some 26, none, (.fieldAddr 26 (.tmp 3) 1)⟩,
                 ⟨some 27, none, (.load 22 (.tmp 26))⟩,
                 ⟨some 28, none, (.move (.tmp 0))⟩,
                 ⟨some 29, none, (.fieldAddr 26 (.tmp 3) 1)⟩,
                 ⟨some 30, none, (.load 22 (.tmp 29))⟩,
                 ⟨some 31, none, (.call ⟨(.builtin .len), #[(.tmp 30)], #[22]⟩)⟩,
                 ⟨some 32, none, (.call ⟨(.value (.func 87)), #[(.tmp 28), (.tmp 31)], #[99, 3]⟩)⟩,
                 ⟨some 33, none, (.move (.tmp 0))⟩,
                 ⟨some 34, none, (.call ⟨(.value (.func 171)), #[(.tmp 33)], #[99]⟩)⟩,
                 ⟨some 35, none, (.indexAddr 22 (.tmp 27) (.tmp 32))⟩,
                 ⟨none, none, (.store 3 (.tmp 35) (.tmp 34))⟩])
               .skip))
             (.seq
              (.ops [⟨some 37, none, (.binOp .eql 3 (.tmp 7) (.const (.int .i64 3)) 3)⟩,
                ⟨some 36, none, (.assign (.tmp 37))⟩])
              (.cond (.tmp 36)
               (.ops [⟨some 38, none, (.buildSlice 22 1 #[(0, (.const (.int .i64 300)))])⟩,
                 ⟨some 39, none, (.move (.tmp 0))⟩,
                 ⟨some 40, none, (.call ⟨(.value (.func 87)), #[(.tmp 39), (.const (.int .i64 2))], #[99, 3]⟩)⟩,
                 ⟨some 41, none, (.binOp .add 3 (.const (.int .i64 300)) (.tmp 40) 3)⟩,
                 ⟨some 42, none, (.makeSlice 22 (.tmp 41) (.tmp 41))⟩,
                 ⟨some 43, none, (.build 26 #[(0, (.tmp 38)), (1, (.tmp 42))])⟩,
                 ⟨none, none, (.store 26 (.tmp 3) (.tmp 43))⟩])
               .skip))))))))))
     (.seq
      (.ops [⟨some 44, none, (.load 26 (.tmp 3))⟩,
        ⟨none, none, (.store 26 (.tmp 2) (.tmp 44))⟩])
      .ret))))
theorem w83 {args : Array Value} {H : AH} {Φ : Value → AH → Prop} (h : rW Try.prog k83 [] (fin Try.prog [(.cell 2 26)] Φ) (tm0 args) H) : CallsA Try.prog 83 args H Φ :=
  CallsA.w k83 [(.cell 2 26)] (fun i => if i = 9 then [(1, 0), (1, 7), (1, 9), (4, 0)] else []) Try.func83 rfl rfl (by kernel_rfl) (by kernel_rfl) h

/-- spec.DrawScan -/
def k22 : KC :=
  (.seq
   (.ops [⟨some 2, none, (.assign (.const (.int .i64 0)))⟩,
     ⟨some 3, none, (.alloc 26)⟩])
   (.seq
    (.ops [⟨some 6, none, (.move (.tmp 0))⟩,
      ⟨some 7, none, (.call ⟨(.value (.func 81)), #[(.tmp 6)], #[35]⟩)⟩,
      ⟨some 4, none, (.assign (.tmp 7))⟩])
    (.seq
     (.ops [⟨some 8, none, (.move (.tmp 4))⟩,
       ⟨some 9, none, (.call ⟨(.value (.func 82)), #[(.tmp 8)], #[99]⟩)⟩,
       ⟨some 5, none, (.assign (.tmp 9))⟩])
     (.seq
      (.ops [⟨some 10, none, (.move (.tmp 5))⟩,
        ⟨some 11, none, (.move (.tmp 4))⟩,
        ⟨some 12, none, (.call ⟨(.value (.func 83)), #[(.tmp 11)], #[99]⟩)⟩,
        ⟨some 2, none, (.assign (.tmp 10))⟩,
        ⟨none, none, (.store 26 (.tmp 3) (.tmp 12))⟩])
      .ret))))
theorem w22 {args : Array Value} {H : AH} {Φ : Value → AH → Prop} (h : rW Try.prog k22 [] (fin Try.prog [(.tmp 2), (.cell 3 26)] Φ) (tm0 args) H) : CallsA Try.prog 22 args H Φ :=
  CallsA.w k22 [(.tmp 2), (.cell 3 26)] (fun _ => []) Try.func22 rfl rfl (by kernel_rfl) (by kernel_rfl) h

/-- laws.sameInts -/
def k29 : KC :=
  (.seq
   (.ops [⟨some 4, none, (.assign (.const (.bool false)))⟩])
   (.seq
    (.seq
     (.ops [⟨some 6, none, (.move (.tmp 0))⟩,
       ⟨some 7, none, (.call ⟨(.builtin .len), #[(.tmp 6)], #[22]⟩)⟩,
       ⟨some 8, none, (.move (.tmp 1))⟩,
       ⟨some 9, none, (.call ⟨(.builtin .len), #[(.tmp 8)], #[22]⟩)⟩,
       ⟨some 10, none, (.binOp .neq 3 (.tmp 7) (.tmp 9) 3)⟩])
     (.cond (.tmp 10)
      (.seq
       (.ops [⟨some 4, none, (.assign (.const (.bool false)))⟩])
       .ret)
      .skip))
    (.seq
     (.seq
      (.ops [⟨some 5, none, (.assign (.const (.int .i64 0)))⟩])
      (.block 0
       (.loop
        (.seq
         (.seq
          (.ops [⟨some 11, none, (.move (.tmp 5))⟩,
            ⟨some 12, none, (.move (.tmp 0))⟩,
            ⟨some 13, none, (.call ⟨(.builtin .len), #[(.tmp 12)], #[22]⟩)⟩,
            ⟨some 14, none, (.binOp .lss 3 (.tmp 11) (.tmp 13) 3)⟩])
          (.cond (.tmp 14)
           .skip
           (.exit 0)))
         (.seq
          (.block 1
           (.seq
            (.ops [⟨some 17, none, (.move (.tmp 0))⟩,
              ⟨some 18, none, (.move (.tmp 5))⟩,
              ⟨some 19, none, (.indexAddr 22 (.tmp 17) (.tmp 18))⟩,
              ⟨some 20, none, (.load 3 (.tmp 19))⟩,
              ⟨some 21, none, (.move (.tmp 1))⟩,
              ⟨some 22, none, (.move (.tmp 5))⟩,
              ⟨some 23, none, (.indexAddr 22 (.tmp 21) (.tmp 22))⟩,
              ⟨some 24, none, (.load 3 (.tmp 23))⟩,
              ⟨some 25, none, (.binOp .neq 3 (.tmp 20) (.tmp 24) 3)⟩])
            (.cond (.tmp 25)
             (.seq
              (.ops [⟨some 4, none, (.assign (.const (.bool false)))⟩])
              .ret)
             .skip)))
          (.ops [⟨some 15, none, (.move (.tmp 5))⟩,
            ⟨some 16, none, (.binOp .add 3 (.tmp 15) (.const (.int .i64 1)) 3)⟩,
            ⟨some 5, none, (.assign (.tmp 16))⟩]))))))
     (.seq
      (.ops [⟨some 4, none, (.assign (.const (.bool true)))⟩])
      .ret))))
theorem w29 {args : Array Value} {H : AH} {Φ : Value → AH → Prop} (h : rW Try.prog k29 [] (fin Try.prog [(.tmp 4)] Φ) (tm0 args) H) : CallsA Try.prog 29 args H Φ :=
  CallsA.w k29 [(.tmp 4)] (fun i => if i = 6 then [(3, 0), (7, 0)] else []) Try.func29 rfl rfl (by kernel_rfl) (by kernel_rfl) h

/-- laws.sameArray -/
def k23 : KC :=
  (.seq
   (.ops [⟨some 2, none, (.box 26 (.tmp 0))⟩,
     ⟨some 3, none, (.box 26 (.tmp 1))⟩,
     ⟨some 4, none, (.assign (.const (.bool false)))⟩])
   (.seq
    (.ops [⟨some 5, none, (.fieldAddr 26 (.tmp 2) 0)⟩,
      ⟨some 6, none, (.load 22 (.tmp 5))⟩,
      ⟨some 7, none, (.fieldAddr 26 (.tmp 3) 0)⟩,
      ⟨some 8, none, (.load 22 (.tmp 7))⟩,
      ⟨some 9, none, (.call ⟨(.value (.func 29)), #[(.tmp 6), (.tmp 8)], #[22, 22]⟩)⟩,
      ⟨some 10, none, (.move (.tmp 9))⟩,
      ⟨some 11, (some (10, true)), (.fieldAddr 26 (.tmp 2) 1)⟩,
      ⟨some 12, (some (10, true)), (.load 22 (.tmp 11))⟩,
      ⟨some 13, (some (10, true)), (.fieldAddr 26 (.tmp 3) 1)⟩,
      ⟨some 14, (some (10, true)), (.load 22 (.tmp 13))⟩,
      ⟨some 15, (some (10, true)), (.call ⟨(.value (.func 29)), #[(.tmp 12), (.tmp 14)], #[22, 22]⟩)⟩,
      ⟨some 16, none, (.pick (.tmp 10) (.tmp 15) (.const (.bool false)))⟩,
      ⟨some 4, none, (.assign (.tmp 16))⟩])
    .ret))
theorem w23 {args : Array Value} {H : AH} {Φ : Value → AH → Prop} (h : rW Try.prog k23 [] (fin Try.prog [(.tmp 4)] Φ) (tm0 args) H) : CallsA Try.prog 23 args H Φ :=
  CallsA.w k23 [(.tmp 4)] (fun _ => []) Try.func23 rfl rfl (by kernel_rfl) (by kernel_rfl) h

/-- impl.Reduce -/
def k25 : KC :=
  (.seq
   (.ops [⟨some 3, none, (.box 26 (.tmp 1))⟩,
     ⟨some 4, none, (.alloc 26)⟩,
     ⟨some 5, none, (.assign (.const (.int .i64 0)))⟩])
   (.seq
    (.seq
     (.ops [⟨some 6, none, (.load 26 (.tmp 3))⟩,
       ⟨some 7, none, (.call ⟨(.value (.func 33)), #[(.tmp 6)], #[26]⟩)⟩,
       ⟨some 8, none, (.unOp .not 4 (.tmp 7))⟩,
       ⟨some 9, none, (.move (.tmp 8))⟩,
       ⟨some 10, (some (9, false)), (.move (.tmp 0))⟩,
       ⟨some 11, (some (9, false)), (.call ⟨(.value (.func 65)), #[(.tmp 10)], #[3]⟩)⟩,
       ⟨some 12, (some (9, false)), (.unOp .not 4 (.tmp 11))⟩,
       ⟨some 13, none, (.pick (.tmp 9) (.const (.bool true)) (.tmp 12))⟩])
     (.cond (.tmp 13)
      (.seq
       (.ops [⟨some 14, none, (.build 26 #[])⟩,
         ⟨none, none, (.store 26 (.tmp 4) (.tmp 14))⟩,
         ⟨some 5, none, (.assign (.const (.int .i64 1)))⟩])
       .ret)
      .skip))
    (.seq
     (.seq
      (.ops [⟨some 15, none, (.fieldAddr 26 (.tmp 3) 0)⟩,
        ⟨some 16, none, (.load 22 (.tmp 15))⟩,
        ⟨some 17, none, (.call ⟨(.builtin .len), #[(.tmp 16)], #[22]⟩)⟩,
        ⟨some 18, none, (.binOp .eql 3 (.tmp 17) (.const (.int .i64 0)) 3)⟩])
      (.cond (.tmp 18)
       (.seq
        (.ops [⟨some 19, none, (.load 26 (.tmp 3))⟩,
          ⟨some 20, none, (.call ⟨(.value (.func 66)), #[(.tmp 19)], #[26]⟩)⟩,
          ⟨none, none, (.store 26 (.tmp 4) (.tmp 20))⟩,
          ⟨some 5, none, (.assign (.const (.int .i64 0)))⟩])
        .ret)
       .skip))
     (.seq
      (.draw #[] [(1, 0), (4, 0), (4, 3)]
        [⟨some 21, none, (.move (.tmp 0))⟩,
        ⟨some 22, none, (.load 26 (.tmp 3))⟩,
        ⟨some 23, none, (.call ⟨(.value (.func 24)), #[(.tmp 22)], #[26]⟩)⟩,
        ⟨some 24, none, (.fieldAddr 26 (.tmp 3) 0)⟩,
        ⟨some 25, none, (.load 22 (.tmp 24))⟩,
        ⟨some 26, none, (.slice 22 (.tmp 25) (some (.const (.int .i64 1))) none none)⟩,
        ⟨some 27, none, (.call ⟨(.value (.func 67)), #[(.tmp 21), (.tmp 23), (.tmp 26)], #[3, 39, 22]⟩)⟩,
        ⟨some 28, none, (.extract (.tmp 27) 0)⟩,
        ⟨some 29, none, (.extract (.tmp 27) 1)⟩,
        ⟨none, none, (.store 26 (.tmp 4) (.tmp 28))⟩,
        ⟨some 5, none, (.assign (.tmp 29))⟩])
      .ret))))
theorem w25 {args : Array Value} {H : AH} {Φ : Value → AH → Prop} (h : rW Try.prog k25 [] (fin Try.prog [(.cell 4 26), (.tmp 5)] Φ) (tm0 args) H) : CallsA Try.prog 25 args H Φ :=
  CallsA.w k25 [(.cell 4 26), (.tmp 5)] (fun i => if i = 5 then [(1, 0), (4, 0), (4, 3)] else []) Try.func25 rfl rfl (by kernel_rfl) (by kernel_rfl) h

/-- laws.at -/
def k26 : KC :=
  (.seq
   (.ops [⟨some 4, none, (.assign (.const (.int .i64 0)))⟩])
   (.seq
    (.seq
     (.ops [⟨some 5, none, (.move (.tmp 1))⟩,
       ⟨some 6, none, (.move (.tmp 0))⟩,
       ⟨some 7, none, (.call ⟨(.builtin .len), #[(.tmp 6)], #[35]⟩)⟩,
       ⟨some 8, none, (.binOp .lss 3 (.tmp 5) (.tmp 7) 3)⟩])
     (.cond (.tmp 8)
      (.seq
       (.ops [⟨some 9, none, (.move (.tmp 0))⟩,
         ⟨some 10, none, (.move (.tmp 1))⟩,
         ⟨some 11, none, (.indexAddr 35 (.tmp 9) (.tmp 10))⟩,
         ⟨some 12, none, (.load 5 (.tmp 11))⟩,
         ⟨some 13, none, (.convert 5 3 (.tmp 12))⟩,
         ⟨some 4, none, (.assign (.tmp 13))⟩])
       .ret)
      .skip))
    (.seq
     (.ops [⟨some 14, none, (.move (.tmp 1))⟩,
       ⟨some 15, none, (.binOp .mul 3 (.tmp 14) (.const (.int .i64 7)) 3)⟩,
       ⟨some 16, none, (.move (.tmp 0))⟩,
       ⟨some 17, none, (.call ⟨(.builtin .len), #[(.tmp 16)], #[35]⟩)⟩,
       ⟨some 18, none, (.binOp .add 3 (.tmp 15) (.tmp 17) 3)⟩,
       ⟨some 19, none, (.binOp .rem 3 (.tmp 18) (.const (.int .i64 256)) 3)⟩,
       ⟨some 4, none, (.assign (.tmp 19))⟩])
     .ret)))
theorem w26 {args : Array Value} {H : AH} {Φ : Value → AH → Prop} (h : rW Try.prog k26 [] (fin Try.prog [(.tmp 4)] Φ) (tm0 args) H) : CallsA Try.prog 26 args H Φ :=
  CallsA.w k26 [(.tmp 4)] (fun _ => []) Try.func26 rfl rfl (by kernel_rfl) (by kernel_rfl) h

/-- impl.ScalarOf -/
def k27 : KC :=
  (.seq
   (.ops [⟨some 2, none, (.alloc 26)⟩,
     ⟨some 3, none, (.assign (.const (.bool false)))⟩])
   (.seq
    (.seq
     (.ops [⟨some 4, none, (.move (.tmp 0))⟩,
       ⟨some 5, none, (.call ⟨(.value (.func 84)), #[(.tmp 4)], #[3]⟩)⟩,
       ⟨some 6, none, (.unOp .not 4 (.tmp 5))⟩])
     (.cond (.tmp 6)
      (.seq
       (.ops [⟨some 7, none, (.build 26 #[])⟩,
         ⟨none, none, (.store 26 (.tmp 2) (.tmp 7))⟩,
         ⟨some 3, none, (.assign (.const (.bool false)))⟩])
       .ret)
      .skip))
    (.seq
     (.ops [⟨some 8, none, (.move (.tmp 0))⟩,
       ⟨some 9, none, (.buildSlice 22 1 #[(0, (.tmp 8))])⟩,
       ⟨some 10, none, (.build 26 #[(1, (.tmp 9))])⟩,
       ⟨none, none, (.store 26 (.tmp 2) (.tmp 10))⟩,
       ⟨some 3, none, (.assign (.const (.bool true)))⟩])
     .ret)))
theorem w27 {args : Array Value} {H : AH} {Φ : Value → AH → Prop} (h : rW Try.prog k27 [] (fin Try.prog [(.cell 2 26), (.tmp 3)] Φ) (tm0 args) H) : CallsA Try.prog 27 args H Φ :=
  CallsA.w k27 [(.cell 2 26), (.tmp 3)] (fun _ => []) Try.func27 rfl rfl (by kernel_rfl) (by kernel_rfl) h

/-- impl.ShapeOk -/
def k79 : KC :=
  (.seq
   (.ops [⟨some 2, none, (.assign (.const (.bool false)))⟩])
   (.seq
    (.ops [⟨some 3, none, (.move (.tmp 0))⟩,
      ⟨some 4, none, (.call ⟨(.value (.func 77)), #[(.tmp 3)], #[22]⟩)⟩,
      ⟨some 5, none, (.binOp .geq 3 (.tmp 4) (.const (.int .i64 0)) 3)⟩,
      ⟨some 2, none, (.assign (.tmp 5))⟩])
    .ret))
theorem w79 {args : Array Value} {H : AH} {Φ : Value → AH → Prop} (h : rW Try.prog k79 [] (fin Try.prog [(.tmp 2)] Φ) (tm0 args) H) : CallsA Try.prog 79 args H Φ :=
  CallsA.w k79 [(.tmp 2)] (fun _ => []) Try.func79 rfl rfl (by kernel_rfl) (by kernel_rfl) h

/-- impl.single -/
def k85 : KC :=
  (.seq
   (.ops [⟨some 2, none, (.box 26 (.tmp 0))⟩,
     ⟨some 3, none, (.box 26 (.tmp 1))⟩,
     ⟨some 4, none, (.assign (.const (.int .i64 0)))⟩,
     ⟨some 5, none, (.assign (.const (.int .i64 0)))⟩])
   (.seq
    (.block 0
     (.seq
      (.ops [⟨some 7, none, (.load 26 (.tmp 2))⟩,
        ⟨some 8, none, (.call ⟨(.value (.func 33)), #[(.tmp 7)], #[26]⟩)⟩,
        ⟨some 9, none, (.unOp .not 4 (.tmp 8))⟩,
        ⟨some 10, none, (.move (.tmp 9))⟩,
        ⟨some 11, (some (10, false)), (.load 26 (.tmp 3))⟩,
        ⟨some 12, (some (10, false)), (.call ⟨(.value (.func 33)), #[(.tmp 11)], #[26]⟩)⟩,
        ⟨some 13, (some (10, false)), (.unOp .not 4 (.tmp 12))⟩,
        ⟨some 14, none, (.pick (.tmp 10) (.const (.bool true)) (.tmp 13))⟩,
        ⟨some 6, none, (.assign (.tmp 14))⟩])
      (.cond (.tmp 6)
       (.seq
        (.ops [⟨some 4, none, (.assign (.const (.int .i64 0)))⟩,
          ⟨some 5, none, (.assign (.const (.int .i64 1)))⟩])
        .ret)
       (.seq
        (.ops [⟨some 16, none, (.fieldAddr 26 (.tmp 2) 1)⟩,
          ⟨some 17, none, (.load 22 (.tmp 16))⟩,
          ⟨some 18, none, (.call ⟨(.builtin .len), #[(.tmp 17)], #[22]⟩)⟩,
          ⟨some 19, none, (.binOp .neq 3 (.tmp 18) (.const (.int .i64 1)) 3)⟩,
          ⟨some 15, none, (.assign (.tmp 19))⟩])
        (.cond (.tmp 15)
         (.seq
          (.ops [⟨some 4, none, (.assign (.const (.int .i64 0)))⟩,
            ⟨some 5, none, (.assign (.const (.int .i64 3)))⟩])
          .ret)
         .skip)))))
    (.seq
     (.ops [⟨some 20, none, (.fieldAddr 26 (.tmp 2) 1)⟩,
       ⟨some 21, none, (.load 22 (.tmp 20))⟩,
       ⟨some 22, none, (.indexAddr 22 (.tmp 21) (.const (.int .i64 0)))⟩,
       ⟨some 23, none, (.load 3 (.tmp 22))⟩,
       ⟨some 4, none, (.assign (.tmp 23))⟩,
       ⟨some 5, none, (.assign (.const (.int .i64 0)))⟩])
     .ret)))
theorem w85 {args : Array Value} {H : AH} {Φ : Value → AH → Prop} (h : rW Try.prog k85 [] (fin Try.prog [(.tmp 4), (.tmp 5)] Φ) (tm0 args) H) : CallsA Try.prog 85 args H Φ :=
  CallsA.w k85 [(.tmp 4), (.tmp 5)] (fun _ => []) Try.func85 rfl rfl (by kernel_rfl) (by kernel_rfl) h

/-- impl.vector -/
def k90 : KC :=
  (.seq
   (.ops [⟨some 2, none, (.alloc 26)⟩])
   (.seq
    (.ops [⟨some 3, none, (.move (.tmp 0))⟩,
      ⟨some 4, none, (.call ⟨(.builtin .len), #[(.tmp 3)], #[22]⟩)⟩,
      ⟨some 5, none, (.buildSlice 22 1 #[(0, (.tmp 4))])⟩,
      ⟨some 6, none, (.move (.tmp 0))⟩,
      ⟨some 7, none, (.call ⟨(.builtin .append), #[(.const (.slice none 0 0)), (.tmp 6)], #[22, 22]⟩)⟩,
      ⟨some 8, none, (.build 26 #[(0, (.tmp 5)), (1, (.tmp 7))])⟩,
      ⟨none, none, (.store 26 (.tmp 2) (.tmp 8))⟩])
    .ret))
theorem w90 {args : Array Value} {H : AH} {Φ : Value → AH → Prop} (h : rW Try.prog k90 [] (fin Try.prog [(.cell 2 26)] Φ) (tm0 args) H) : CallsA Try.prog 90 args H Φ :=
  CallsA.w k90 [(.cell 2 26)] (fun _ => []) Try.func90 rfl rfl (by kernel_rfl) (by kernel_rfl) h

/-- impl.asRows -/
def k86 : KC :=
  (.seq
   (.ops [⟨some 1, none, (.box 26 (.tmp 0))⟩,
     ⟨some 2, none, (.alloc 26)⟩])
   (.seq
    (.seq
     (.ops [⟨some 3, none, (.fieldAddr 26 (.tmp 1) 0)⟩,
       ⟨some 4, none, (.load 22 (.tmp 3))⟩,
       ⟨some 5, none, (.call ⟨(.builtin .len), #[(.tmp 4)], #[22]⟩)⟩,
       ⟨some 6, none, (.binOp .eql 3 (.tmp 5) (.const (.int .i64 0)) 3)⟩])
     (.cond (.tmp 6)
      (.seq
       (.ops [⟨some 7, none, (.fieldAddr 26 (.tmp 1) 1)⟩,
         ⟨some 8, none, (.load 22 (.tmp 7))⟩,
         ⟨some 9, none, (.call ⟨(.value (.func 90)), #[(.tmp 8)], #[22]⟩)⟩,
         ⟨none, none, (.store 26 (.tmp 2) (.tmp 9))⟩])
       .ret)
      .skip))
    (.seq
     (.ops [⟨some 10, none, (.load 26 (.tmp 1))⟩,
       ⟨none, none, (.store 26 (.tmp 2) (.tmp 10))⟩])
     .ret)))
theorem w86 {args : Array Value} {H : AH} {Φ : Value → AH → Prop} (h : rW Try.prog k86 [] (fin Try.prog [(.cell 2 26)] Φ) (tm0 args) H) : CallsA Try.prog 86 args H Φ :=
  CallsA.w k86 [(.cell 2 26)] (fun _ => []) Try.func86 rfl rfl (by kernel_rfl) (by kernel_rfl) h

/-- impl.Take -/
def k28 : KC :=
  (.seq
   (.ops [⟨some 2, none, (.box 26 (.tmp 0))⟩,
     ⟨some 3, none, (.box 26 (.tmp 1))⟩,
     ⟨some 4, none, (.alloc 26)⟩,
     ⟨some 5, none, (.assign (.const (.int .i64 0)))⟩])
   (.seq
    (.ops [⟨some 15, none, (.load 26 (.tmp 2))⟩,
      ⟨some 16, none, (.load 26 (.tmp 3))⟩,
      ⟨some 17, none, (.call ⟨(.value (.func 85)), #[(.tmp 15), (.tmp 16)], #[26, 26]⟩)⟩,
      ⟨some 14, none, (.move (.tmp 17))⟩,
      ⟨some 18, none, (.extract (.tmp 14) 0)⟩,
      ⟨some 19, none, (.extract (.tmp 14) 1)⟩,
      ⟨some 6, none, (.assign (.tmp 18))⟩,
      ⟨some 7, none, (.assign (.tmp 19))⟩])
    (.seq
     (.seq
      (.ops [⟨some 20, none, (.move (.tmp 7))⟩,
        ⟨some 21, none, (.binOp .neq 3 (.tmp 20) (.const (.int .i64 0)) 3)⟩])
      (.cond (.tmp 21)
       (.seq
        (.ops [⟨some 22, none, (.build 26 #[])⟩,
          ⟨some 23, none, (.move (.tmp 7))⟩,
          ⟨none, none, (.store 26 (.tmp 4) (.tmp 22))⟩,
          ⟨some 5, none, (.assign (.tmp 23))⟩])
        .ret)
       .skip))
     (.seq
      (.ops [⟨some 24, none, (.load 26 (.tmp 3))⟩,
        ⟨some 25, none, (.call ⟨(.value (.func 86)), #[(.tmp 24)], #[26]⟩)⟩,
        ⟨none, none, (.store 26 (.tmp 3) (.tmp 25))⟩])
      (.seq
       (.ops [⟨some 26, none, (.move (.tmp 6))⟩,
         ⟨some 27, none, (.move (.tmp 6))⟩,
         ⟨some 28, none, (.unOp .neg 3 (.tmp 27))⟩,
         ⟨some 29, none, (.call ⟨(.builtin .max), #[(.tmp 26), (.tmp 28)], #[3, 3]⟩)⟩,
         ⟨some 30, none, (.buildSlice 22 1 #[(0, (.tmp 29))])⟩,
         ⟨some 31, none, (.fieldAddr 26 (.tmp 3) 0)⟩,
         ⟨some 32, none, (.load 22 (.tmp 31))⟩,
         ⟨some 33, none, (.slice 22 (.tmp 32) (some (.const (.int .i64 1))) none none)⟩,
         ⟨some 34, none, (.call ⟨(.builtin .append), #[(.tmp 30), (.tmp 33)], #[22, 22]⟩)⟩,
         ⟨some 8, none, (.assign (.tmp 34))⟩])
       (.seq
        (.seq
         (.ops [⟨some 35, none, (.move (.tmp 8))⟩,
           ⟨some 36, none, (.call ⟨(.value (.func 79)), #[(.tmp 35)], #[22]⟩)⟩,
           ⟨some 37, none, (.unOp .not 4 (.tmp 36))⟩])
         (.cond (.tmp 37)
          (.seq
           (.ops [⟨some 38, none, (.build 26 #[])⟩,
             ⟨none, none, (.store 26 (.tmp 4) (.tmp 38))⟩,
             ⟨some 5, none, (.assign (.const (.int .i64 6)))⟩])
           .ret)
          .skip))
        (.seq
         (.ops [⟨some 39, none, (.load 26 (.tmp 3))⟩,
           ⟨some 40, none, (.call ⟨(.value (.func 24)), #[(.tmp 39)], #[26]⟩)⟩,
           ⟨some 9, none, (.assign (.tmp 40))⟩])
         (.seq
          (.draw #[] [(1, 0), (1, 7), (4, 0)]
            [⟨some 41, none, (.fieldAddr 26 (.tmp 3) 0)⟩,
            ⟨some 42, none, (.load 22 (.tmp 41))⟩,
            ⟨some 43, none, (.slice 22 (.tmp 42) (some (.const (.int .i64 1))) none none)⟩,
            ⟨some 44, none, (.fieldAddr 26 (.tmp 3) 0)⟩,
            ⟨some 45, none, (.load 22 (.tmp 44))⟩,
            ⟨some 46, none, (.slice 22 (.tmp 45) (some (.const (.int .i64 1))) none none)⟩,
            ⟨some 47, none, (.call ⟨(.value (.func 77)), #[(.tmp 46)], #[22]⟩)⟩,
            ⟨some 48, none, (.makeSlice 22 (.tmp 47) (.tmp 47))⟩,
            ⟨some 49, none, (.build 26 #[(0, (.tmp 43)), (1, (.tmp 48))])⟩,
            ⟨some 10, none, (.alloc 26)⟩,
            ⟨none, none, (.store 26 (.tmp 10) (.tmp 49))⟩])
          (.seq
           (.ops [⟨some 11, none, (.assign (.const (.slice none 0 0)))⟩])
           (.seq
            (.seq
             (.ops [⟨some 12, none, (.assign (.const (.int .i64 0)))⟩])
             (.block 0
              (.loop
               (.seq
                (.seq
                 (.ops [⟨some 50, none, (.move (.tmp 12))⟩,
                   ⟨some 51, none, (.move (.tmp 8))⟩,
                   ⟨some 52, none, (.indexAddr 22 (.tmp 51) (.const (.int .i64 0)))⟩,
                   ⟨some 53, none, (.load 3 (.tmp 52))⟩,
                   ⟨some 54, none, (.binOp .lss 3 (.tmp 50) (.tmp 53) 3)⟩])
                 (.cond (.tmp 54)
                  .skip
                  (.exit 0)))
                (.seq
                 (.block 1
                  (.seq
                   (.ops [⟨some 57, none, (.move (.tmp 12))⟩,
                     ⟨some 13, none, (.assign (.tmp 57))⟩])
                   (.seq
                    (.seq
                     (.ops [⟨some 58, none, (.move (.tmp 6))⟩,
                       ⟨some 59, none, (.binOp .lss 3 (.tmp 58) (.const (.int .i64 0)) 3)⟩])
                     (.cond (.tmp 59)
                      (.ops [⟨some 60, none, (.move (.tmp 9))⟩,
                        ⟨some 61, none, (.call ⟨(.builtin .len), #[(.tmp 60)], #[39]⟩)⟩,
                        ⟨some 62, none, (.move (.tmp 6))⟩,
                        ⟨some 63, none, (.binOp .add 3 (.tmp 61) (.tmp 62) 3)⟩,
                        ⟨some 64, none, (.move (.tmp 12))⟩,
                        ⟨some 65, none, (.binOp .add 3 (.tmp 63) (.tmp 64) 3)⟩,
                        ⟨some 13, none, (.assign (.tmp 65))⟩])
                      .skip))
                    (.seq
                     (.ops [⟨some 66, none, (.move (.tmp 13))⟩,
                       ⟨some 67, none, (.move (.tmp 9))⟩,
                       ⟨some 68, none, (.call ⟨(.builtin .len), #[(.tmp 67)], #[39]⟩)⟩,
                       ⟨some 69, none, (.binOp .sub 3 (.tmp 68) (.const (.int .i64 1)) 3)⟩,
                       ⟨some 70, none, (.call ⟨(.value (.func 76)), #[(.tmp 66), (.const (.int .i64 0)), (.tmp 69)], #[3, 3, 3]⟩)⟩])
                     (.cond (.tmp 70)
                      (.ops [⟨some 71, none, (.move (.tmp 11))⟩,
                        ⟨some 72, none, (.move (.tmp 9))⟩,
                        ⟨some 73, none, (.move (.tmp 13))⟩,
                        ⟨some 74, none, (.indexAddr 39 (.tmp 72) (.tmp 73))⟩,
                        ⟨some 75, none, (.load 26 (.tmp 74))⟩,
                        ⟨some 76, none, (.buildSlice 39 1 #[(0, (.tmp 75))])⟩,
                        ⟨some 77, none, (.call ⟨(.builtin .append), #[(.tmp 71), (.tmp 76)], #[39, 39]⟩)⟩,
                        ⟨some 11, none, (.assign (.tmp 77))⟩])
                      (.ops [⟨some 78, none, (.move (.tmp 11))⟩,
                        ⟨some 79, none, (.load 26 (.tmp 10))⟩,
                        ⟨some 80, none, (.buildSlice 39 1 #[(0, (.tmp 79))])⟩,
                        ⟨some 81, none, (.call ⟨(.builtin .append), #[(.tmp 78), (.tmp 80)], #[39, 39]⟩)⟩,
                        ⟨some 11, none, (.assign (.tmp 81))⟩]))))))
                 (.ops [⟨some 55, none, (.move (.tmp 12))⟩,
                   ⟨some 56, none, (.binOp .add 3 (.tmp 55) (.const (.int .i64 1)) 3)⟩,
                   ⟨some 12, none, (.assign (.tmp 56))⟩]))))))
            (.seq
             (.ops [⟨some 82, none, (.move (.tmp 11))⟩,
               ⟨some 83, none, (.fieldAddr 26 (.tmp 3) 0)⟩,
               ⟨some 84, none, (.load 22 (.tmp 83))⟩,
               ⟨some 85, none, (.slice 22 (.tmp 84) (some (.const (.int .i64 1))) none none)⟩,
               ⟨some 86, none, (.call ⟨(.value (.func 68)), #[(.tmp 82), (.tmp 85)], #[39, 22]⟩)⟩,
               ⟨some 87, none, (.extract (.tmp 86) 0)⟩,
               ⟨some 88, none, (.extract (.tmp 86) 1)⟩,
               ⟨none, none, (.store 26 (.tmp 4) (.tmp 87))⟩,
               ⟨some 5, none, (.assign (.tmp 88))⟩])
             .ret)))))))))))
theorem w28 {args : Array Value} {H : AH} {Φ : Value → AH → Prop} (h : rW Try.prog k28 [] (fin Try.prog [(.cell 4 26), (.tmp 5)] Φ) (tm0 args) H) : CallsA Try.prog 28 args H Φ :=
  CallsA.w k28 [(.cell 4 26), (.tmp 5)] (fun i => if i = 9 then [(1, 0), (1, 7), (4, 0)] else []) Try.func28 rfl rfl (by kernel_rfl) (by kernel_rfl) h

/-- laws.FnScanned -/
def k5 : KC :=
  (.seq
   (.ops [⟨some 2, none, (.assign (.const (.bool false)))⟩])
   (.seq
    (.seq
     (.ops [⟨some 20, none, (.move (.tmp 0))⟩,
       ⟨some 21, none, (.call ⟨(.value (.func 21)), #[(.tmp 20)], #[35]⟩)⟩])
     (.cond (.tmp 21)
      (.seq
       (.ops [⟨some 2, none, (.assign (.const (.bool true)))⟩])
       .ret)
      .skip))
    (.seq
     (.ops [⟨some 23, none, (.move (.tmp 0))⟩,
       ⟨some 24, none, (.call ⟨(.value (.func 22)), #[(.tmp 23)], #[35]⟩)⟩,
       ⟨some 22, none, (.move (.tmp 24))⟩,
       ⟨some 25, none, (.extract (.tmp 22) 0)⟩,
       ⟨some 26, none, (.extract (.tmp 22) 1)⟩,
       ⟨some 4, none, (.alloc 26)⟩,
       ⟨some 3, none, (.assign (.tmp 25))⟩,
       ⟨none, none, (.store 26 (.tmp 4) (.tmp 26))⟩])
     (.seq
      (.ops [⟨some 28, none, (.move (.tmp 3))⟩,
        ⟨some 29, none, (.load 26 (.tmp 4))⟩,
        ⟨some 30, none, (.call ⟨(.value (.func 15)), #[(.tmp 28), (.tmp 29)], #[3, 26]⟩)⟩,
        ⟨some 27, none, (.move (.tmp 30))⟩,
        ⟨some 31, none, (.extract (.tmp 27) 0)⟩,
        ⟨some 32, none, (.extract (.tmp 27) 1)⟩,
        ⟨some 5, none, (.alloc 26)⟩,
        ⟨none, none, (.store 26 (.tmp 5) (.tmp 31))⟩,
        ⟨some 6, none, (.assign (.tmp 32))⟩])
      (.seq
       (.ops [⟨some 34, none, (.move (.tmp 3))⟩,
         ⟨some 35, none, (.load 26 (.tmp 4))⟩,
         ⟨some 36, none, (.call ⟨(.value (.func 13)), #[(.tmp 34), (.tmp 35)], #[3, 26]⟩)⟩,
         ⟨some 33, none, (.move (.tmp 36))⟩,
         ⟨some 37, none, (.extract (.tmp 33) 0)⟩,
         ⟨some 38, none, (.extract (.tmp 33) 1)⟩,
         ⟨some 7, none, (.alloc 26)⟩,
         ⟨none, none, (.store 26 (.tmp 7) (.tmp 37))⟩,
         ⟨some 8, none, (.assign (.tmp 38))⟩])
       (.seq
        (.seq
         (.ops [⟨some 39, none, (.move (.tmp 6))⟩,
           ⟨some 40, none, (.move (.tmp 8))⟩,
           ⟨some 41, none, (.binOp .neq 3 (.tmp 39) (.tmp 40) 3)⟩])
         (.cond (.tmp 41)
          (.seq
           (.ops [⟨some 2, none, (.assign (.const (.bool false)))⟩])
           .ret)
          .skip))
        (.seq
         (.seq
          (.ops [⟨some 42, none, (.move (.tmp 6))⟩,
            ⟨some 43, none, (.binOp .neq 3 (.tmp 42) (.const (.int .i64 0)) 3)⟩])
          (.cond (.tmp 43)
           (.seq
            (.ops [⟨some 44, none, (.fieldAddr 26 (.tmp 5) 1)⟩,
              ⟨some 45, none, (.load 22 (.tmp 44))⟩,
              ⟨some 46, none, (.call ⟨(.builtin .len), #[(.tmp 45)], #[22]⟩)⟩,
              ⟨some 47, none, (.binOp .eql 3 (.tmp 46) (.const (.int .i64 0)) 3)⟩,
              ⟨some 2, none, (.assign (.tmp 47))⟩])
            .ret)
           .skip))
         (.seq
          (.seq
           (.ops [⟨some 48, none, (.fieldAddr 26 (.tmp 4) 0)⟩,
             ⟨some 49, none, (.load 22 (.tmp 48))⟩,
             ⟨some 50, none, (.call ⟨(.builtin .len), #[(.tmp 49)], #[22]⟩)⟩,
             ⟨some 51, none, (.binOp .eql 3 (.tmp 50) (.const (.int .i64 0)) 3)⟩,
             ⟨some 52, none, (.move (.tmp 51))⟩,
             ⟨some 53, (some (52, false)), (.fieldAddr 26 (.tmp 4) 0)⟩,
             ⟨some 54, (some (52, false)), (.load 22 (.tmp 53))⟩,
             ⟨some 55, (some (52, false)), (.indexAddr 22 (.tmp 54) (.const (.int .i64 0)))⟩,
             ⟨some 56, (some (52, false)), (.load 3 (.tmp 55))⟩,
             ⟨some 57, (some (52, false)), (.binOp .eql 3 (.tmp 56) (.const (.int .i64 0)) 3)⟩,
             ⟨some 58, none, (.pick (.tmp 52) (.const (.bool true)) (.tmp 57))⟩])
           (.cond (.tmp 58)
            (.seq
             (.ops [⟨some 59, none, (.load 26 (.tmp 4))⟩,
               ⟨some 60, none, (.load 26 (.tmp 5))⟩,
               ⟨some 61, none, (.call ⟨(.value (.func 23)), #[(.tmp 59), (.tmp 60)], #[26, 26]⟩)⟩,
               ⟨some 2, none, (.assign (.tmp 61))⟩])
             .ret)
            .skip))
          (.seq
           (.draw #[] [(0, 0), (2, 0), (2, 2)]
             [⟨some 62, none, (.load 26 (.tmp 4))⟩,
             ⟨some 63, none, (.call ⟨(.value (.func 24)), #[(.tmp 62)], #[26]⟩)⟩,
             ⟨some 64, none, (.load 26 (.tmp 5))⟩,
             ⟨some 65, none, (.call ⟨(.value (.func 24)), #[(.tmp 64)], #[26]⟩)⟩,
             ⟨some 9, none, (.assign (.tmp 63))⟩,
             ⟨some 10, none, (.assign (.tmp 65))⟩])
           (.seq
            (.ops [⟨some 67, none, (.move (.tmp 3))⟩,
              ⟨some 68, none, (.load 26 (.tmp 4))⟩,
              ⟨some 69, none, (.call ⟨(.value (.func 25)), #[(.tmp 67), (.tmp 68)], #[3, 26]⟩)⟩,
              ⟨some 66, none, (.move (.tmp 69))⟩,
              ⟨some 70, none, (.extract (.tmp 66) 0)⟩,
              ⟨some 71, none, (.extract (.tmp 66) 1)⟩,
              ⟨some 11, none, (.alloc 26)⟩,
              ⟨none, none, (.store 26 (.tmp 11) (.tmp 70))⟩,
              ⟨some 12, none, (.assign (.tmp 71))⟩])
            (.seq
             (.seq
              (.draw #[] [(8, 0), (9, 0), (16, 11), (19, 11)]
                [⟨some 72, none, (.move (.tmp 12))⟩,
                ⟨some 73, none, (.binOp .neq 3 (.tmp 72) (.const (.int .i64 0)) 3)⟩,
                ⟨some 74, none, (.move (.tmp 73))⟩,
                ⟨some 75, (some (74, false)), (.move (.tmp 10))⟩,
                ⟨some 76, (some (74, false)), (.move (.tmp 10))⟩,
                ⟨some 77, (some (74, false)), (.call ⟨(.builtin .len), #[(.tmp 76)], #[39]⟩)⟩,
                ⟨some 78, (some (74, false)), (.binOp .sub 3 (.tmp 77) (.const (.int .i64 1)) 3)⟩,
                ⟨some 79, (some (74, false)), (.indexAddr 39 (.tmp 75) (.tmp 78))⟩,
                ⟨some 80, (some (74, false)), (.load 26 (.tmp 79))⟩,
                ⟨some 81, (some (74, false)), (.load 26 (.tmp 11))⟩,
                ⟨some 82, (some (74, false)), (.call ⟨(.value (.func 23)), #[(.tmp 80), (.tmp 81)], #[26, 26]⟩)⟩,
                ⟨some 83, (some (74, false)), (.unOp .not 4 (.tmp 82))⟩,
                ⟨some 84, none, (.pick (.tmp 74) (.const (.bool true)) (.tmp 83))⟩,
                ⟨some 85, none, (.move (.tmp 84))⟩,
                ⟨some 86, (some (85, false)), (.move (.tmp 9))⟩,
                ⟨some 87, (some (85, false)), (.indexAddr 39 (.tmp 86) (.const (.int .i64 0)))⟩,
                ⟨some 88, (some (85, false)), (.load 26 (.tmp 87))⟩,
                ⟨some 89, (some (85, false)), (.move (.tmp 10))⟩,
                ⟨some 90, (some (85, false)), (.indexAddr 39 (.tmp 89) (.const (.int .i64 0)))⟩,
                ⟨some 91, (some (85, false)), (.load 26 (.tmp 90))⟩,
                ⟨some 92, (some (85, false)), (.call ⟨(.value (.func 23)), #[(.tmp 88), (.tmp 91)], #[26, 26]⟩)⟩,
                ⟨some 93, (some (85, false)), (.unOp .not 4 (.tmp 92))⟩,
                ⟨some 94, none, (.pick (.tmp 85) (.const (.bool true)) (.tmp 93))⟩])
              (.cond (.tmp 94)
               (.seq
                (.ops [⟨some 2, none, (.assign (.const (.bool false)))⟩])
                .ret)
               .skip))
             (.seq
              (.ops [⟨some 95, none, (.move (.tmp 0))⟩,
                ⟨some 96, none, (.call ⟨(.value (.func 26)), #[(.tmp 95), (.const (.int .i64 1))], #[35, 3]⟩)⟩,
                ⟨some 97, none, (.move (.tmp 9))⟩,
                ⟨some 98, none, (.call ⟨(.builtin .len), #[(.tmp 97)], #[39]⟩)⟩,
                ⟨some 99, none, (.binOp .rem 3 (.tmp 96) (.tmp 98) 3)⟩,
                ⟨some 100, none, (.binOp .add 3 (.const (.int .i64 1)) (.tmp 99) 3)⟩,
                ⟨some 13, none, (.assign (.tmp 100))⟩])
              (.seq
               (.ops [⟨some 102, none, (.move (.tmp 13))⟩,
                 ⟨some 103, none, (.call ⟨(.value (.func 27)), #[(.tmp 102)], #[3]⟩)⟩,
                 ⟨some 101, none, (.move (.tmp 103))⟩,
                 ⟨some 104, none, (.extract (.tmp 101) 0)⟩,
                 ⟨some 105, none, (.extract (.tmp 101) 1)⟩,
                 ⟨some 14, none, (.alloc 26)⟩,
                 ⟨none, none, (.store 26 (.tmp 14) (.tmp 104))⟩,
                 ⟨some 15, none, (.assign (.tmp 105))⟩])
               (.seq
                (.ops [⟨some 107, none, (.load 26 (.tmp 14))⟩,
                  ⟨some 108, none, (.load 26 (.tmp 4))⟩,
                  ⟨some 109, none, (.call ⟨(.value (.func 28)), #[(.tmp 107), (.tmp 108)], #[26, 26]⟩)⟩,
                  ⟨some 106, none, (.move (.tmp 109))⟩,
                  ⟨some 110, none, (.extract (.tmp 106) 0)⟩,
                  ⟨some 111, none, (.extract (.tmp 106) 1)⟩,
                  ⟨some 16, none, (.alloc 26)⟩,
                  ⟨none, none, (.store 26 (.tmp 16) (.tmp 110))⟩,
                  ⟨some 17, none, (.assign (.tmp 111))⟩])
                (.seq
                 (.ops [⟨some 113, none, (.move (.tmp 3))⟩,
                   ⟨some 114, none, (.load 26 (.tmp 16))⟩,
                   ⟨some 115, none, (.call ⟨(.value (.func 25)), #[(.tmp 113), (.tmp 114)], #[3, 26]⟩)⟩,
                   ⟨some 112, none, (.move (.tmp 115))⟩,
                   ⟨some 116, none, (.extract (.tmp 112) 0)⟩,
                   ⟨some 117, none, (.extract (.tmp 112) 1)⟩,
                   ⟨some 18, none, (.alloc 26)⟩,
                   ⟨none, none, (.store 26 (.tmp 18) (.tmp 116))⟩,
                   ⟨some 19, none, (.assign (.tmp 117))⟩])
                 (.seq
                  (.draw #[] [(7, 0), (12, 0), (17, 14), (19, 14)]
                    [⟨some 118, none, (.move (.tmp 17))⟩,
                    ⟨some 119, none, (.binOp .eql 3 (.tmp 118) (.const (.int .i64 0)) 3)⟩,
                    ⟨some 120, none, (.move (.tmp 119))⟩,
                    ⟨some 121, (some (120, true)), (.move (.tmp 19))⟩,
                    ⟨some 122, (some (120, true)), (.binOp .eql 3 (.tmp 121) (.const (.int .i64 0)) 3)⟩,
                    ⟨some 123, none, (.pick (.tmp 120) (.tmp 122) (.const (.bool false)))⟩,
                    ⟨some 124, none, (.move (.tmp 123))⟩,
                    ⟨some 125, (some (124, true)), (.load 26 (.tmp 18))⟩,
                    ⟨some 126, (some (124, true)), (.move (.tmp 10))⟩,
                    ⟨some 127, (some (124, true)), (.move (.tmp 13))⟩,
                    ⟨some 128, (some (124, true)), (.binOp .sub 3 (.tmp 127) (.const (.int .i64 1)) 3)⟩,
                    ⟨some 129, (some (124, true)), (.indexAddr 39 (.tmp 126) (.tmp 128))⟩,
                    ⟨some 130, (some (124, true)), (.load 26 (.tmp 129))⟩,
                    ⟨some 131, (some (124, true)), (.call ⟨(.value (.func 23)), #[(.tmp 125), (.tmp 130)], #[26, 26]⟩)⟩,
                    ⟨some 132, none, (.pick (.tmp 124) (.tmp 131) (.const (.bool false)))⟩,
                    ⟨some 133, none, (.move (.tmp 132))⟩,
                    ⟨some 134, (some (133, true)), (.fieldAddr 26 (.tmp 4) 0)⟩,
                    ⟨some 135, (some (133, true)), (.load 22 (.tmp 134))⟩,
                    ⟨some 136, (some (133, true)), (.fieldAddr 26 (.tmp 5) 0)⟩,
                    ⟨some 137, (some (133, true)), (.load 22 (.tmp 136))⟩,
                    ⟨some 138, (some (133, true)), (.call ⟨(.value (.func 29)), #[(.tmp 135), (.tmp 137)], #[22, 22]⟩)⟩,
                    ⟨some 139, none, (.pick (.tmp 133) (.tmp 138) (.const (.bool false)))⟩,
                    ⟨some 2, none, (.assign (.tmp 139))⟩])
                  .ret))))))))))))))))
theorem w5 {args : Array Value} {H : AH} {Φ : Value → AH → Prop} (h : rW Try.prog k5 [] (fin Try.prog [(.tmp 2)] Φ) (tm0 args) H) : CallsA Try.prog 5 args H Φ :=
  CallsA.w k5 [(.tmp 2)] (fun i => if i = 12 then [(0, 0), (2, 0), (2, 2)] else if i = 14 then [(8, 0), (9, 0), (16, 11), (19, 11)] else if i = 20 then [(7, 0), (12, 0), (17, 14), (19, 14)] else []) Try.func5 rfl rfl (by kernel_rfl) (by kernel_rfl) h

end Go.Proofs.Ytmlimgdpcoloiaa.AM
