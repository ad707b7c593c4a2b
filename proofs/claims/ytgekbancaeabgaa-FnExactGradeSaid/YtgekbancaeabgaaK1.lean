/- The code of the functions that the laws reach, made short; and facts on the types that they use. -/
import Derived.Test.YtgekbancaeabgaaA8
import Derived.KernelRfl
import Derived.Test.YtgekbancaeabgaaRows
set_option linter.unusedVariables false
set_option linter.unusedSimpArgs false
set_option linter.defProp false
set_option maxRecDepth 100000
/- The code of the functions that the laws reach, made short; and facts on the types that they use. -/
namespace Go.Proofs.Ytgekbancaeabgaa.AM
open Go Go.Proofs.Ytgekbancaeabgaa Go.Proofs

theorem al45 {ev : Operand → Value} : aMake Try.prog ev (.alloc 45) = some ([.slice none 0 0, .slice none 0 0], none) := by kernel_rfl
theorem ap43_43 {a a' : Option Addr} {n c n' c' : Nat} {H : AH} : aAppend Try.prog #[43, 43] #[.slice a n c, .slice a' n' c'] H = app 1 (.slice a n c) (.slice a' n' c') H := append_eq (z := .int .i64 0) (e := 3) (e' := 3) (by kernel_rfl) (by kernel_rfl) (by kernel_rfl) (by kernel_rfl) (by kernel_rfl) (by kernel_rfl)
theorem bd45 {ps : Array (Nat × Value)} : aBuild Try.prog 45 ps = (fillP [(0, 1), (1, 1)] [.slice none 0 0, .slice none 0 0] ps.toList).map fun cs => .agg cs.toArray := build_eq (z := .agg #[.slice none 0 0, .slice none 0 0]) Try.underlying45 (by kernel_rfl) (by kernel_rfl) (by kernel_rfl) rfl
theorem bs43_0 {ev : Operand → Value} : aMake Try.prog ev (.buildSlice 43 0 #[]) = (fillP [] [] []).map fun cs => (cs, some (0, 1)) := bslice_eq (z := .int .i64 0) (e := 3) (by kernel_rfl) (by kernel_rfl) (by kernel_rfl) (by decide) (by kernel_rfl) (by kernel_rfl) rfl rfl
theorem bs43_1 {ev : Operand → Value} {x0 : Operand} : aMake Try.prog ev (.buildSlice 43 1 #[(0, x0)]) = (fillP [(0, 1)] [.int .i64 0] [(0, ev x0)]).map fun cs => (cs, some (1, 1)) := bslice_eq (z := .int .i64 0) (e := 3) (by kernel_rfl) (by kernel_rfl) (by kernel_rfl) (by decide) (by kernel_rfl) (by kernel_rfl) rfl rfl
theorem cv3_177 {k : IntKind} {n : Int} {G : Hp} : aConv Try.prog 3 177 (.int k n) G = some (.int .u64 (IntKind.u64.wrap n)) := conv_int (e := .int .i64) (by kernel_rfl) (by kernel_rfl)
theorem cv177_3 {k : IntKind} {n : Int} {G : Hp} : aConv Try.prog 177 3 (.int k n) G = some (.int .i64 (IntKind.i64.wrap n)) := conv_int (e := .int .u64) (by kernel_rfl) (by kernel_rfl)
theorem fa45_0 {b o : Nat} : aFieldAddr Try.prog 45 (.pointer (some ⟨b, o, none⟩)) 0 = some (.pointer (some ⟨b, o + 0, none⟩)) := by kernel_rfl
theorem fa45_1 {b o : Nat} : aFieldAddr Try.prog 45 (.pointer (some ⟨b, o, none⟩)) 1 = some (.pointer (some ⟨b, o + 1, none⟩)) := by kernel_rfl
theorem fa77_0 {b o : Nat} : aFieldAddr Try.prog 77 (.pointer (some ⟨b, o, none⟩)) 0 = some (.pointer (some ⟨b, o + 0, none⟩)) := by kernel_rfl
theorem fa77_1 {b o : Nat} : aFieldAddr Try.prog 77 (.pointer (some ⟨b, o, none⟩)) 1 = some (.pointer (some ⟨b, o + 1, none⟩)) := by kernel_rfl
theorem ix43 {b o n c : Nat} {k : IntKind} {j : Int} : aIndexAddr Try.prog 43 (.slice (some ⟨b, o, none⟩) n c) (.int k j) = if 0 ≤ j ∧ j < n then some (.pointer (some ⟨b, o + j.toNat * 1, none⟩)) else none := by kernel_rfl
theorem ld3 {o : Nat} {cs : List Value} : ld Try.prog 3 o cs = cs[o]? := ld_one (by kernel_rfl)
theorem ld43 {o : Nat} {cs : List Value} : ld Try.prog 43 o cs = cs[o]? := ld_one (by kernel_rfl)
theorem ld45 {o : Nat} {cs : List Value} : ld Try.prog 45 o cs = aggAt 2 o cs := ld_agg (by kernel_rfl) (by kernel_rfl)
theorem ld77 {o : Nat} {cs : List Value} : ld Try.prog 77 o cs = aggAt 2 o cs := ld_agg (by kernel_rfl) (by kernel_rfl)
theorem ln43 {a : Option Addr} {n c : Nat} : aLen Try.prog #[43] #[.slice a n c] = some (.int .i64 n) := by kernel_rfl
theorem ms43 {k k' : IntKind} {n : Int} : mkS Try.prog 43 (.int k n) (.int k' n) = if 0 ≤ n ∧ n ≤ 1073741824 then some ((List.replicate n.toNat [.int .i64 0]).flatten, some (n.toNat, 1)) else none := mkS_eq (z := .int .i64 0) (e := 3) (by kernel_rfl) (by kernel_rfl) (by kernel_rfl) (by kernel_rfl) (by kernel_rfl) (by kernel_rfl) (by decide)
theorem st3 {b o : Nat} {v : Value} {H : AH} : aStore Try.prog 3 (.pointer (some ⟨b, o, none⟩)) v H = sto 1 b o v H (wrt H b) := store_eq (by kernel_rfl)
theorem st43 {b o : Nat} {v : Value} {H : AH} : aStore Try.prog 43 (.pointer (some ⟨b, o, none⟩)) v H = sto 1 b o v H (wrt H b) := store_eq (by kernel_rfl)
theorem st45 {b o : Nat} {v : Value} {H : AH} : aStore Try.prog 45 (.pointer (some ⟨b, o, none⟩)) v H = sto 2 b o v H (wrt H b) := store_eq (by kernel_rfl)

/-- laws.szIntS -/
def k138 : KC :=
  (.seq
   (.ops [⟨some 4, none, (.assign (.const (.int .i64 0)))⟩])
   (.seq
    (.ops [⟨some 5, none, (.move (.tmp 1))⟩,
      ⟨some 6, none, (.move (.tmp 0))⟩,
      ⟨some 7, none, (.call ⟨(.builtin .len), #[(.tmp 6)], #[43]⟩)⟩,
      ⟨some 8, none, (.binOp .sub 3 (.tmp 5) (.tmp 7) 3)⟩,
      ⟨some 1, none, (.assign (.tmp 8))⟩])
    (.seq
     (.seq
      (.ops [⟨some 9, none, (.move (.tmp 1))⟩,
        ⟨some 10, none, (.binOp .lss 3 (.tmp 9) (.const (.int .i64 0)) 3)⟩])
      (.cond (.tmp 10)
       (.seq
        (.ops [⟨some 4, none, (.assign (.const (.int .i64 (-1))))⟩])
        .ret)
       .skip))
     (.seq
      (.ops [⟨some 11, none, (.move (.tmp 1))⟩,
        ⟨some 4, none, (.assign (.tmp 11))⟩])
      .ret))))
theorem w138 {args : Array Value} {H : AH} {Φ : Value → AH → Prop} (h : rW Try.prog k138 [] (fin Try.prog [(.tmp 4)] Φ) (tm0 args) H) : CallsA Try.prog 138 args H Φ :=
  CallsA.w k138 [(.tmp 4)] (fun _ => []) Try.func138 rfl rfl (by kernel_rfl) (by kernel_rfl) h

/-- laws.szArray -/
def k63 : KC :=
  (.seq
   (.ops [⟨some 2, none, (.box 77 (.tmp 0))⟩,
     ⟨some 4, none, (.assign (.const (.int .i64 0)))⟩])
   (.seq
    (.ops [⟨some 5, none, (.fieldAddr 77 (.tmp 2) 0)⟩,
      ⟨some 6, none, (.load 43 (.tmp 5))⟩,
      ⟨some 7, none, (.move (.tmp 1))⟩,
      ⟨some 8, none, (.call ⟨(.value (.func 138)), #[(.tmp 6), (.tmp 7)], #[43, 3]⟩)⟩,
      ⟨some 1, none, (.assign (.tmp 8))⟩])
    (.seq
     (.seq
      (.ops [⟨some 9, none, (.move (.tmp 1))⟩,
        ⟨some 10, none, (.binOp .lss 3 (.tmp 9) (.const (.int .i64 0)) 3)⟩])
      (.cond (.tmp 10)
       (.seq
        (.ops [⟨some 4, none, (.assign (.const (.int .i64 (-1))))⟩])
        .ret)
       .skip))
     (.seq
      (.ops [⟨some 11, none, (.fieldAddr 77 (.tmp 2) 1)⟩,
        ⟨some 12, none, (.load 43 (.tmp 11))⟩,
        ⟨some 13, none, (.move (.tmp 1))⟩,
        ⟨some 14, none, (.call ⟨(.value (.func 138)), #[(.tmp 12), (.tmp 13)], #[43, 3]⟩)⟩,
        ⟨some 1, none, (.assign (.tmp 14))⟩])
      (.seq
       (.seq
        (.ops [⟨some 15, none, (.move (.tmp 1))⟩,
          ⟨some 16, none, (.binOp .lss 3 (.tmp 15) (.const (.int .i64 0)) 3)⟩])
        (.cond (.tmp 16)
         (.seq
          (.ops [⟨some 4, none, (.assign (.const (.int .i64 (-1))))⟩])
          .ret)
         .skip))
       (.seq
        (.ops [⟨some 17, none, (.move (.tmp 1))⟩,
          ⟨some 4, none, (.assign (.tmp 17))⟩])
        .ret))))))
theorem w63 {args : Array Value} {H : AH} {Φ : Value → AH → Prop} (h : rW Try.prog k63 [] (fin Try.prog [(.tmp 4)] Φ) (tm0 args) H) : CallsA Try.prog 63 args H Φ :=
  CallsA.w k63 [(.tmp 4)] (fun _ => []) Try.func63 rfl rfl (by kernel_rfl) (by kernel_rfl) h

/-- spec.l1In -/
def k84 : KC :=
  (.seq
   (.ops [⟨some 6, none, (.assign (.const (.bool false)))⟩])
   (.seq
    (.ops [⟨some 7, none, (.move (.tmp 0))⟩,
      ⟨some 8, none, (.move (.tmp 1))⟩,
      ⟨some 9, none, (.binOp .geq 3 (.tmp 7) (.tmp 8) 3)⟩,
      ⟨some 10, none, (.move (.tmp 9))⟩,
      ⟨some 11, (some (10, true)), (.move (.tmp 0))⟩,
      ⟨some 12, (some (10, true)), (.move (.tmp 2))⟩,
      ⟨some 13, (some (10, true)), (.binOp .leq 3 (.tmp 11) (.tmp 12) 3)⟩,
      ⟨some 14, none, (.pick (.tmp 10) (.tmp 13) (.const (.bool false)))⟩,
      ⟨some 6, none, (.assign (.tmp 14))⟩])
    .ret))
theorem w84 {args : Array Value} {H : AH} {Φ : Value → AH → Prop} (h : rW Try.prog k84 [] (fin Try.prog [(.tmp 6)] Φ) (tm0 args) H) : CallsA Try.prog 84 args H Φ :=
  CallsA.w k84 [(.tmp 6)] (fun _ => []) Try.func84 rfl rfl (by kernel_rfl) (by kernel_rfl) h

/-- spec.SizeOf -/
def k127 : KC :=
  (.seq
   (.ops [⟨some 2, none, (.assign (.const (.int .i64 0)))⟩])
   (.seq
    (.seq
     (.ops [⟨some 7, none, (.move (.tmp 0))⟩,
       ⟨some 8, none, (.call ⟨(.builtin .len), #[(.tmp 7)], #[43]⟩)⟩,
       ⟨some 9, none, (.binOp .gtr 3 (.tmp 8) (.const (.int .i64 3)) 3)⟩])
     (.cond (.tmp 9)
      (.seq
       (.ops [⟨some 2, none, (.assign (.const (.int .i64 (-1))))⟩])
       .ret)
      .skip))
    (.seq
     (.ops [⟨some 3, none, (.assign (.const (.bool false)))⟩])
     (.seq
      (.seq
       (.ops [⟨some 4, none, (.assign (.const (.int .i64 0)))⟩])
       (.block 0
        (.loop
         (.seq
          (.seq
           (.ops [⟨some 10, none, (.move (.tmp 4))⟩,
             ⟨some 11, none, (.move (.tmp 0))⟩,
             ⟨some 12, none, (.call ⟨(.builtin .len), #[(.tmp 11)], #[43]⟩)⟩,
             ⟨some 13, none, (.binOp .lss 3 (.tmp 10) (.tmp 12) 3)⟩])
           (.cond (.tmp 13)
            .skip
            (.exit 0)))
          (.seq
           (.block 1
            (.seq
             (.seq
              (.ops [⟨some 16, none, (.move (.tmp 0))⟩,
                ⟨some 17, none, (.move (.tmp 4))⟩,
                ⟨some 18, none, (.indexAddr 43 (.tmp 16) (.tmp 17))⟩,
                ⟨some 19, none, (.load 3 (.tmp 18))⟩,
                ⟨some 20, none, (.call ⟨(.value (.func 84)), #[(.tmp 19), (.const (.int .i64 0)), (.const (.int .i64 300))], #[3, 3, 3]⟩)⟩,
                ⟨some 21, none, (.unOp .not 4 (.tmp 20))⟩])
              (.cond (.tmp 21)
               (.seq
                (.ops [⟨some 2, none, (.assign (.const (.int .i64 (-1))))⟩])
                .ret)
               .skip))
             (.ops [⟨some 22, none, (.move (.tmp 3))⟩,
               ⟨some 23, none, (.move (.tmp 22))⟩,
               ⟨some 24, (some (23, false)), (.move (.tmp 0))⟩,
               ⟨some 25, (some (23, false)), (.move (.tmp 4))⟩,
               ⟨some 26, (some (23, false)), (.indexAddr 43 (.tmp 24) (.tmp 25))⟩,
               ⟨some 27, (some (23, false)), (.load 3 (.tmp 26))⟩,
               ⟨some 28, (some (23, false)), (.binOp .eql 3 (.tmp 27) (.const (.int .i64 0)) 3)⟩,
               ⟨some 29, none, (.pick (.tmp 23) (.const (.bool true)) (.tmp 28))⟩,
               ⟨some 3, none, (.assign (.tmp 29))⟩])))
           (.ops [⟨some 14, none, (.move (.tmp 4))⟩,
             ⟨some 15, none, (.binOp .add 3 (.tmp 14) (.const (.int .i64 1)) 3)⟩,
             ⟨some 4, none, (.assign (.tmp 15))⟩]))))))
      (.seq
       (.ops [⟨some 5, none, (.assign (.const (.int .i64 1)))⟩])
       (.seq
        (.seq
         (.ops [⟨some 6, none, (.assign (.const (.int .i64 0)))⟩])
         (.block 2
          (.loop
           (.seq
            (.seq
             (.ops [⟨some 30, none, (.move (.tmp 6))⟩,
               ⟨some 31, none, (.move (.tmp 0))⟩,
               ⟨some 32, none, (.call ⟨(.builtin .len), #[(.tmp 31)], #[43]⟩)⟩,
               ⟨some 33, none, (.binOp .lss 3 (.tmp 30) (.tmp 32) 3)⟩])
             (.cond (.tmp 33)
              .skip
              (.exit 2)))
            (.seq
             (.block 3
              (.ops [⟨some 36, none, (.move (.tmp 5))⟩,
                ⟨some 37, none, (.move (.tmp 0))⟩,
                ⟨some 38, none, (.move (.tmp 6))⟩,
                ⟨some 39, none, (.indexAddr 43 (.tmp 37) (.tmp 38))⟩,
                ⟨some 40, none, (.load 3 (.tmp 39))⟩,
                ⟨some 41, none, (.binOp .mul 3 (.tmp 36) (.tmp 40) 3)⟩,
                ⟨some 5, none, (.assign (.tmp 41))⟩]))
             (.ops [⟨some 34, none, (.move (.tmp 6))⟩,
               ⟨some 35, none, (.binOp .add 3 (.tmp 34) (.const (.int .i64 1)) 3)⟩,
               ⟨some 6, none, (.assign (.tmp 35))⟩]))))))
        (.seq
         (.seq
          (.ops [⟨some 42, none, (.move (.tmp 5))⟩,
            ⟨some 43, none, (.binOp .gtr 3 (.tmp 42) (.const (.int .i64 300)) 3)⟩,
            ⟨some 44, none, (.move (.tmp 43))⟩,
            ⟨some 45, (some (44, true)), (.move (.tmp 3))⟩,
            ⟨some 46, (some (44, true)), (.unOp .not 4 (.tmp 45))⟩,
            ⟨some 47, none, (.pick (.tmp 44) (.tmp 46) (.const (.bool false)))⟩])
          (.cond (.tmp 47)
           (.seq
            (.ops [⟨some 2, none, (.assign (.const (.int .i64 (-1))))⟩])
            .ret)
           .skip))
         (.seq
          (.ops [⟨some 48, none, (.move (.tmp 5))⟩,
            ⟨some 2, none, (.assign (.tmp 48))⟩])
          .ret))))))))
theorem w127 {args : Array Value} {H : AH} {Φ : Value → AH → Prop} (h : rW Try.prog k127 [] (fin Try.prog [(.tmp 2)] Φ) (tm0 args) H) : CallsA Try.prog 127 args H Φ :=
  CallsA.w k127 [(.tmp 2)] (fun _ => []) Try.func127 rfl rfl (by kernel_rfl) (by kernel_rfl) h

/-- spec.NumOk -/
def k128 : KC :=
  (.seq
   (.ops [⟨some 2, none, (.assign (.const (.bool false)))⟩])
   (.seq
    (.ops [⟨some 3, none, (.move (.tmp 0))⟩,
      ⟨some 4, none, (.call ⟨(.value (.func 84)), #[(.tmp 3), (.const (.int .i64 (-1000000000000))), (.const (.int .i64 1000000000000))], #[3, 3, 3]⟩)⟩,
      ⟨some 2, none, (.assign (.tmp 4))⟩])
    .ret))
theorem w128 {args : Array Value} {H : AH} {Φ : Value → AH → Prop} (h : rW Try.prog k128 [] (fin Try.prog [(.tmp 2)] Φ) (tm0 args) H) : CallsA Try.prog 128 args H Φ :=
  CallsA.w k128 [(.tmp 2)] (fun _ => []) Try.func128 rfl rfl (by kernel_rfl) (by kernel_rfl) h

/-- spec.ArrayOk -/
def k54 : KC :=
  (.seq
   (.ops [⟨some 1, none, (.box 45 (.tmp 0))⟩,
     ⟨some 2, none, (.assign (.const (.bool false)))⟩])
   (.seq
    (.seq
     (.draw #[] [(1, 0), (4, 0), (4, 3)]
       [⟨some 4, none, (.fieldAddr 45 (.tmp 1) 0)⟩,
       ⟨some 5, none, (.load 43 (.tmp 4))⟩,
       ⟨some 6, none, (.call ⟨(.value (.func 127)), #[(.tmp 5)], #[43]⟩)⟩,
       ⟨some 7, none, (.fieldAddr 45 (.tmp 1) 1)⟩,
       ⟨some 8, none, (.load 43 (.tmp 7))⟩,
       ⟨some 9, none, (.call ⟨(.builtin .len), #[(.tmp 8)], #[43]⟩)⟩,
       ⟨some 10, none, (.binOp .neq 3 (.tmp 6) (.tmp 9) 3)⟩])
     (.cond (.tmp 10)
      (.seq
       (.ops [⟨some 2, none, (.assign (.const (.bool false)))⟩])
       .ret)
      .skip))
    (.seq
     (.seq
      (.ops [⟨some 3, none, (.assign (.const (.int .i64 0)))⟩])
      (.block 0
       (.loop
        (.seq
         (.seq
          (.ops [⟨some 11, none, (.move (.tmp 3))⟩,
            ⟨some 12, none, (.fieldAddr 45 (.tmp 1) 1)⟩,
            ⟨some 13, none, (.load 43 (.tmp 12))⟩,
            ⟨some 14, none, (.call ⟨(.builtin .len), #[(.tmp 13)], #[43]⟩)⟩,
            ⟨some 15, none, (.binOp .lss 3 (.tmp 11) (.tmp 14) 3)⟩])
          (.cond (.tmp 15)
           .skip
           (.exit 0)))
         (.seq
          (.block 1
           (.seq
            (.ops [⟨some 18, none, (.fieldAddr 45 (.tmp 1) 1)⟩,
              ⟨some 19, none, (.load 43 (.tmp 18))⟩,
              ⟨some 20, none, (.move (.tmp 3))⟩,
              ⟨some 21, none, (.indexAddr 43 (.tmp 19) (.tmp 20))⟩,
              ⟨some 22, none, (.load 3 (.tmp 21))⟩,
              ⟨some 23, none, (.call ⟨(.value (.func 128)), #[(.tmp 22)], #[3]⟩)⟩,
              ⟨some 24, none, (.unOp .not 4 (.tmp 23))⟩])
            (.cond (.tmp 24)
             (.seq
              (.ops [⟨some 2, none, (.assign (.const (.bool false)))⟩])
              .ret)
             .skip)))
          (.ops [⟨some 16, none, (.move (.tmp 3))⟩,
            ⟨some 17, none, (.binOp .add 3 (.tmp 16) (.const (.int .i64 1)) 3)⟩,
            ⟨some 3, none, (.assign (.tmp 17))⟩]))))))
     (.seq
      (.ops [⟨some 2, none, (.assign (.const (.bool true)))⟩])
      .ret))))
theorem w54 {args : Array Value} {H : AH} {Φ : Value → AH → Prop} (h : rW Try.prog k54 [] (fin Try.prog [(.tmp 2)] Φ) (tm0 args) H) : CallsA Try.prog 54 args H Φ :=
  CallsA.w k54 [(.tmp 2)] (fun i => if i = 1 then [(1, 0), (4, 0), (4, 3)] else []) Try.func54 rfl rfl (by kernel_rfl) (by kernel_rfl) h

/-- spec.l3Vector -/
def k122 : KC :=
  (.seq
   (.ops [⟨some 2, none, (.alloc 45)⟩])
   (.seq
    (.ops [⟨some 3, none, (.move (.tmp 0))⟩,
      ⟨some 4, none, (.call ⟨(.builtin .len), #[(.tmp 3)], #[43]⟩)⟩,
      ⟨some 5, none, (.buildSlice 43 1 #[(0, (.tmp 4))])⟩,
      ⟨some 6, none, (.buildSlice 43 0 #[])⟩,
      ⟨some 7, none, (.move (.tmp 0))⟩,
      ⟨some 8, none, (.call ⟨(.builtin .append), #[(.tmp 6), (.tmp 7)], #[43, 43]⟩)⟩,
      ⟨some 9, none, (.build 45 #[(0, (.tmp 5)), (1, (.tmp 8))])⟩,
      ⟨none, none, (.store 45 (.tmp 2) (.tmp 9))⟩])
    .ret))
theorem w122 {args : Array Value} {H : AH} {Φ : Value → AH → Prop} (h : rW Try.prog k122 [] (fin Try.prog [(.cell 2 45)] Φ) (tm0 args) H) : CallsA Try.prog 122 args H Φ :=
  CallsA.w k122 [(.cell 2 45)] (fun _ => []) Try.func122 rfl rfl (by kernel_rfl) (by kernel_rfl) h

/-- spec.Grade -/
def k64 : KC :=
  (.seq
   (.ops [⟨some 1, none, (.box 45 (.tmp 0))⟩,
     ⟨some 2, none, (.alloc 45)⟩,
     ⟨some 3, none, (.assign (.const (.int .i64 0)))⟩])
   (.seq
    (.block 0
     (.seq
      (.ops [⟨some 10, none, (.load 45 (.tmp 1))⟩,
        ⟨some 11, none, (.call ⟨(.value (.func 54)), #[(.tmp 10)], #[45]⟩)⟩,
        ⟨some 12, none, (.unOp .not 4 (.tmp 11))⟩,
        ⟨some 9, none, (.assign (.tmp 12))⟩])
      (.cond (.tmp 9)
       (.seq
        (.ops [⟨some 13, none, (.build 45 #[])⟩,
          ⟨none, none, (.store 45 (.tmp 2) (.tmp 13))⟩,
          ⟨some 3, none, (.assign (.const (.int .i64 1)))⟩])
        .ret)
       (.seq
        (.ops [⟨some 15, none, (.fieldAddr 45 (.tmp 1) 0)⟩,
          ⟨some 16, none, (.load 43 (.tmp 15))⟩,
          ⟨some 17, none, (.call ⟨(.builtin .len), #[(.tmp 16)], #[43]⟩)⟩,
          ⟨some 18, none, (.binOp .neq 3 (.tmp 17) (.const (.int .i64 1)) 3)⟩,
          ⟨some 14, none, (.assign (.tmp 18))⟩])
        (.cond (.tmp 14)
         (.seq
          (.ops [⟨some 19, none, (.build 45 #[])⟩,
            ⟨none, none, (.store 45 (.tmp 2) (.tmp 19))⟩,
            ⟨some 3, none, (.assign (.const (.int .i64 4)))⟩])
          .ret)
         .skip)))))
    (.seq
     (.ops [⟨some 20, none, (.buildSlice 43 0 #[])⟩,
       ⟨some 4, none, (.assign (.tmp 20))⟩])
     (.seq
      (.seq
       (.ops [⟨some 5, none, (.assign (.const (.int .i64 0)))⟩])
       (.block 1
        (.loop
         (.seq
          (.seq
           (.ops [⟨some 21, none, (.move (.tmp 5))⟩,
             ⟨some 22, none, (.fieldAddr 45 (.tmp 1) 1)⟩,
             ⟨some 23, none, (.load 43 (.tmp 22))⟩,
             ⟨some 24, none, (.call ⟨(.builtin .len), #[(.tmp 23)], #[43]⟩)⟩,
             ⟨some 25, none, (.binOp .lss 3 (.tmp 21) (.tmp 24) 3)⟩])
           (.cond (.tmp 25)
            .skip
            (.exit 1)))
          (.seq
           (.block 2
            (.seq
             (.ops [⟨some 28, none, (.buildSlice 43 0 #[])⟩,
               ⟨some 6, none, (.assign (.tmp 28))⟩])
             (.seq
              (.ops [⟨some 7, none, (.assign (.const (.bool false)))⟩])
              (.seq
               (.seq
                (.ops [⟨some 8, none, (.assign (.const (.int .i64 0)))⟩])
                (.block 3
                 (.loop
                  (.seq
                   (.seq
                    (.ops [⟨some 29, none, (.move (.tmp 8))⟩,
                      ⟨some 30, none, (.move (.tmp 4))⟩,
                      ⟨some 31, none, (.call ⟨(.builtin .len), #[(.tmp 30)], #[43]⟩)⟩,
                      ⟨some 32, none, (.binOp .lss 3 (.tmp 29) (.tmp 31) 3)⟩])
                    (.cond (.tmp 32)
                     .skip
                     (.exit 3)))
                   (.seq
                    (.block 4
                     (.seq
                      (.seq
                       (.ops [⟨some 35, none, (.move (.tmp 7))⟩,
                         ⟨some 36, none, (.unOp .not 4 (.tmp 35))⟩,
                         ⟨some 37, none, (.move (.tmp 36))⟩,
                         ⟨some 38, (some (37, true)), (.fieldAddr 45 (.tmp 1) 1)⟩,
                         ⟨some 39, (some (37, true)), (.load 43 (.tmp 38))⟩,
                         ⟨some 40, (some (37, true)), (.move (.tmp 4))⟩,
                         ⟨some 41, (some (37, true)), (.move (.tmp 8))⟩,
                         ⟨some 42, (some (37, true)), (.indexAddr 43 (.tmp 40) (.tmp 41))⟩,
                         ⟨some 43, (some (37, true)), (.load 3 (.tmp 42))⟩,
                         ⟨some 44, (some (37, true)), (.indexAddr 43 (.tmp 39) (.tmp 43))⟩,
                         ⟨some 45, (some (37, true)), (.load 3 (.tmp 44))⟩,
                         ⟨some 46, (some (37, true)), (.fieldAddr 45 (.tmp 1) 1)⟩,
                         ⟨some 47, (some (37, true)), (.load 43 (.tmp 46))⟩,
                         ⟨some 48, (some (37, true)), (.move (.tmp 5))⟩,
                         ⟨some 49, (some (37, true)), (.indexAddr 43 (.tmp 47) (.tmp 48))⟩,
                         ⟨some 50, (some (37, true)), (.load 3 (.tmp 49))⟩,
                         ⟨some 51, (some (37, true)), (.binOp .gtr 3 (.tmp 45) (.tmp 50) 3)⟩,
                         ⟨some 52, none, (.pick (.tmp 37) (.tmp 51) (.const (.bool false)))⟩])
                       (.cond (.tmp 52)
                        (.seq
                         (.ops [⟨some 53, none, (.move (.tmp 6))⟩,
                           ⟨some 54, none, (.move (.tmp 5))⟩,
                           ⟨some 55, none, (.buildSlice 43 1 #[(0, (.tmp 54))])⟩,
                           ⟨some 56, none, (.call ⟨(.builtin .append), #[(.tmp 53), (.tmp 55)], #[43, 43]⟩)⟩,
                           ⟨some 6, none, (.assign (.tmp 56))⟩])
                         (.ops [⟨some 7, none, (.assign (.const (.bool true)))⟩]))
                        .skip))
                      (.ops [⟨some 57, none, (.move (.tmp 6))⟩,
                        ⟨some 58, none, (.move (.tmp 4))⟩,
                        ⟨some 59, none, (.move (.tmp 8))⟩,
                        ⟨some 60, none, (.indexAddr 43 (.tmp 58) (.tmp 59))⟩,
                        ⟨some 61, none, (.load 3 (.tmp 60))⟩,
                        ⟨some 62, none, (.buildSlice 43 1 #[(0, (.tmp 61))])⟩,
                        ⟨some 63, none, (.call ⟨(.builtin .append), #[(.tmp 57), (.tmp 62)], #[43, 43]⟩)⟩,
                        ⟨some 6, none, (.assign (.tmp 63))⟩])))
                    (.ops [⟨some 33, none, (.move (.tmp 8))⟩,
                      ⟨some 34, none, (.binOp .add 3 (.tmp 33) (.const (.int .i64 1)) 3)⟩,
                      ⟨some 8, none, (.assign (.tmp 34))⟩]))))))
               (.seq
                (.seq
                 (.ops [⟨some 64, none, (.move (.tmp 7))⟩,
                   ⟨some 65, none, (.unOp .not 4 (.tmp 64))⟩])
                 (.cond (.tmp 65)
                  (.ops [⟨some 66, none, (.move (.tmp 6))⟩,
                    ⟨some 67, none, (.move (.tmp 5))⟩,
                    ⟨some 68, none, (.buildSlice 43 1 #[(0, (.tmp 67))])⟩,
                    ⟨some 69, none, (.call ⟨(.builtin .append), #[(.tmp 66), (.tmp 68)], #[43, 43]⟩)⟩,
                    ⟨some 6, none, (.assign (.tmp 69))⟩])
                  .skip))
                (.ops [⟨some 70, none, (.move (.tmp 6))⟩,
                  ⟨some 4, none, (.assign (.tmp 70))⟩]))))))
           (.ops [⟨some 26, none, (.move (.tmp 5))⟩,
             ⟨some 27, none, (.binOp .add 3 (.tmp 26) (.const (.int .i64 1)) 3)⟩,
             ⟨some 5, none, (.assign (.tmp 27))⟩]))))))
      (.seq
       (.ops [⟨some 71, none, (.move (.tmp 4))⟩,
         ⟨some 72, none, (.call ⟨(.value (.func 122)), #[(.tmp 71)], #[43]⟩)⟩,
         ⟨none, none, (.store 45 (.tmp 2) (.tmp 72))⟩,
         ⟨some 3, none, (.assign (.const (.int .i64 0)))⟩])
       .ret)))))
theorem w64 {args : Array Value} {H : AH} {Φ : Value → AH → Prop} (h : rW Try.prog k64 [] (fin Try.prog [(.cell 2 45), (.tmp 3)] Φ) (tm0 args) H) : CallsA Try.prog 64 args H Φ :=
  CallsA.w k64 [(.cell 2 45), (.tmp 3)] (fun i => if i = 14 then [(4, 0), (8, 0), (10, 0), (12, 0), (15, 0)] else []) Try.func64 rfl rfl (by kernel_rfl) (by kernel_rfl) h

/-- laws.toIntS -/
def k139 : KC :=
  (.seq
   (.ops [⟨some 2, none, (.assign (.const (.slice none 0 0)))⟩])
   (.seq
    (.ops [⟨some 5, none, (.move (.tmp 0))⟩,
      ⟨some 6, none, (.call ⟨(.builtin .len), #[(.tmp 5)], #[43]⟩)⟩,
      ⟨some 7, none, (.makeSlice 43 (.tmp 6) (.tmp 6))⟩,
      ⟨some 3, none, (.assign (.tmp 7))⟩])
    (.seq
     (.seq
      (.ops [⟨some 4, none, (.assign (.const (.int .i64 0)))⟩])
      (.block 0
       (.loop
        (.seq
         (.seq
          (.ops [⟨some 8, none, (.move (.tmp 4))⟩,
            ⟨some 9, none, (.move (.tmp 0))⟩,
            ⟨some 10, none, (.call ⟨(.builtin .len), #[(.tmp 9)], #[43]⟩)⟩,
            ⟨some 11, none, (.binOp .lss 3 (.tmp 8) (.tmp 10) 3)⟩])
          (.cond (.tmp 11)
           .skip
           (.exit 0)))
         (.seq
          (.block 1
           (.ops [⟨some 14, none, (.move (.tmp 3))⟩,
             ⟨some 15, none, (.move (.tmp 4))⟩,
             ⟨some 16, none, (.move (.tmp 0))⟩,
             ⟨some 17, none, (.move (.tmp 4))⟩,
             ⟨some 18, none, (.indexAddr 43 (.tmp 16) (.tmp 17))⟩,
             ⟨some 19, none, (.load 3 (.tmp 18))⟩,
             ⟨some 20, none, (.indexAddr 43 (.tmp 14) (.tmp 15))⟩,
             ⟨none, none, (.store 3 (.tmp 20) (.tmp 19))⟩]))
          (.ops [⟨some 12, none, (.move (.tmp 4))⟩,
            ⟨some 13, none, (.binOp .add 3 (.tmp 12) (.const (.int .i64 1)) 3)⟩,
            ⟨some 4, none, (.assign (.tmp 13))⟩]))))))
     (.seq
      (.ops [⟨some 21, none, (.move (.tmp 3))⟩,
        ⟨some 2, none, (.assign (.tmp 21))⟩])
      .ret))))
theorem w139 {args : Array Value} {H : AH} {Φ : Value → AH → Prop} (h : rW Try.prog k139 [] (fin Try.prog [(.tmp 2)] Φ) (tm0 args) H) : CallsA Try.prog 139 args H Φ :=
  CallsA.w k139 [(.tmp 2)] (fun _ => []) Try.func139 rfl rfl (by kernel_rfl) (by kernel_rfl) h

/-- laws.toArray -/
def k65 : KC :=
  (.seq
   (.ops [⟨some 1, none, (.box 77 (.tmp 0))⟩,
     ⟨some 2, none, (.alloc 45)⟩])
   (.seq
    (.ops [⟨some 3, none, (.alloc 45)⟩])
    (.seq
     (.ops [⟨some 4, none, (.fieldAddr 77 (.tmp 1) 0)⟩,
       ⟨some 5, none, (.load 43 (.tmp 4))⟩,
       ⟨some 6, none, (.call ⟨(.value (.func 139)), #[(.tmp 5)], #[43]⟩)⟩,
       ⟨some 7, none, (.fieldAddr 45 (.tmp 3) 0)⟩,
       ⟨none, none, (.store 43 (.tmp 7) (.tmp 6))⟩])
     (.seq
      (.ops [⟨some 8, none, (.fieldAddr 77 (.tmp 1) 1)⟩,
        ⟨some 9, none, (.load 43 (.tmp 8))⟩,
        ⟨some 10, none, (.call ⟨(.value (.func 139)), #[(.tmp 9)], #[43]⟩)⟩,
        ⟨some 11, none, (.fieldAddr 45 (.tmp 3) 1)⟩,
        ⟨none, none, (.store 43 (.tmp 11) (.tmp 10))⟩])
      (.seq
       (.ops [⟨some 12, none, (.load 45 (.tmp 3))⟩,
         ⟨none, none, (.store 45 (.tmp 2) (.tmp 12))⟩])
       .ret)))))
theorem w65 {args : Array Value} {H : AH} {Φ : Value → AH → Prop} (h : rW Try.prog k65 [] (fin Try.prog [(.cell 2 45)] Φ) (tm0 args) H) : CallsA Try.prog 65 args H Φ :=
  CallsA.w k65 [(.cell 2 45)] (fun _ => []) Try.func65 rfl rfl (by kernel_rfl) (by kernel_rfl) h

/-- impl.within -/
def k106 : KC :=
  (.seq
   (.ops [⟨some 6, none, (.assign (.const (.bool false)))⟩])
   (.seq
    (.ops [⟨some 7, none, (.move (.tmp 0))⟩,
      ⟨some 8, none, (.move (.tmp 1))⟩,
      ⟨some 9, none, (.binOp .geq 3 (.tmp 7) (.tmp 8) 3)⟩,
      ⟨some 10, none, (.move (.tmp 9))⟩,
      ⟨some 11, (some (10, true)), (.move (.tmp 0))⟩,
      ⟨some 12, (some (10, true)), (.move (.tmp 2))⟩,
      ⟨some 13, (some (10, true)), (.binOp .leq 3 (.tmp 11) (.tmp 12) 3)⟩,
      ⟨some 14, none, (.pick (.tmp 10) (.tmp 13) (.const (.bool false)))⟩,
      ⟨some 6, none, (.assign (.tmp 14))⟩])
    .ret))
theorem w106 {args : Array Value} {H : AH} {Φ : Value → AH → Prop} (h : rW Try.prog k106 [] (fin Try.prog [(.tmp 6)] Φ) (tm0 args) H) : CallsA Try.prog 106 args H Φ :=
  CallsA.w k106 [(.tmp 6)] (fun _ => []) Try.func106 rfl rfl (by kernel_rfl) (by kernel_rfl) h

/-- impl.SizeOf -/
def k117 : KC :=
  (.seq
   (.ops [⟨some 2, none, (.assign (.const (.int .i64 0)))⟩])
   (.seq
    (.seq
     (.ops [⟨some 6, none, (.move (.tmp 0))⟩,
       ⟨some 7, none, (.call ⟨(.builtin .len), #[(.tmp 6)], #[43]⟩)⟩,
       ⟨some 8, none, (.binOp .gtr 3 (.tmp 7) (.const (.int .i64 3)) 3)⟩])
     (.cond (.tmp 8)
      (.seq
       (.ops [⟨some 2, none, (.assign (.const (.int .i64 (-1))))⟩])
       .ret)
      .skip))
    (.seq
     (.ops [⟨some 3, none, (.assign (.const (.int .i64 1)))⟩])
     (.seq
      (.seq
       (.ops [⟨some 9, none, (.move (.tmp 0))⟩,
         ⟨some 10, none, (.call ⟨(.builtin .len), #[(.tmp 9)], #[43]⟩)⟩,
         ⟨some 11, none, (.move (.const (.int .i64 0)))⟩])
       (.block 0
        (.loop
         (.seq
          (.ops [⟨some 12, none, (.binOp .lss 3 (.tmp 11) (.tmp 10) 3)⟩])
          (.seq
           (.cond (.tmp 12)
            .skip
            (.exit 0))
           (.seq
            (.block 1
             (.seq
              (.ops [⟨some 13, none, (.indexAddr 43 (.tmp 9) (.tmp 11))⟩,
                ⟨some 14, none, (.load 3 (.tmp 13))⟩,
                ⟨some 5, none, (.assign (.tmp 14))⟩])
              (.seq
               (.seq
                (.ops [⟨some 15, none, (.move (.tmp 5))⟩,
                  ⟨some 16, none, (.call ⟨(.value (.func 106)), #[(.tmp 15), (.const (.int .i64 0)), (.const (.int .i64 300))], #[3, 3, 3]⟩)⟩,
                  ⟨some 17, none, (.unOp .not 4 (.tmp 16))⟩])
                (.cond (.tmp 17)
                 (.seq
                  (.ops [⟨some 2, none, (.assign (.const (.int .i64 (-1))))⟩])
                  .ret)
                 .skip))
               (.ops [⟨some 18, none, (.move (.tmp 3))⟩,
                 ⟨some 19, none, (.move (.tmp 5))⟩,
                 ⟨some 20, none, (.binOp .mul 3 (.tmp 18) (.tmp 19) 3)⟩,
                 ⟨some 3, none, (.assign (.tmp 20))⟩]))))
            (.ops [⟨some 21, none, (.binOp .add 3 (.tmp 11) (.const (.int .i64 1)) 3)⟩,
              ⟨some 11, none, (.move (.tmp 21))⟩])))))))
      (.seq
       (.seq
        (.ops [⟨some 22, none, (.move (.tmp 3))⟩,
          ⟨some 23, none, (.binOp .gtr 3 (.tmp 22) (.const (.int .i64 300)) 3)⟩])
        (.cond (.tmp 23)
         (.seq
          (.ops [⟨some 2, none, (.assign (.const (.int .i64 (-1))))⟩])
          .ret)
         .skip))
       (.seq
        (.ops [⟨some 24, none, (.move (.tmp 3))⟩,
          ⟨some 2, none, (.assign (.tmp 24))⟩])
        .ret))))))
theorem w117 {args : Array Value} {H : AH} {Φ : Value → AH → Prop} (h : rW Try.prog k117 [] (fin Try.prog [(.tmp 2)] Φ) (tm0 args) H) : CallsA Try.prog 117 args H Φ :=
  CallsA.w k117 [(.tmp 2)] (fun _ => []) Try.func117 rfl rfl (by kernel_rfl) (by kernel_rfl) h

/-- slices.IndexFunc[[]int,int] -/
def k170 : KC :=
  (.seq
   (.ops [⟨some 4, none, (.assign (.const (.int .i64 0)))⟩])
   (.seq
    (.seq
     (.ops [⟨some 6, none, (.move (.tmp 0))⟩,
       ⟨some 7, none, (.call ⟨(.builtin .len), #[(.tmp 6)], #[43]⟩)⟩,
       ⟨some 8, none, (.move (.const (.int .i64 0)))⟩])
     (.block 0
      (.loop
       (.seq
        (.ops [⟨some 9, none, (.binOp .lss 3 (.tmp 8) (.tmp 7) 3)⟩])
        (.seq
         (.cond (.tmp 9)
          .skip
          (.exit 0))
         (.seq
          (.block 1
           (.seq
            (.ops [⟨some 10, none, (.move (.tmp 8))⟩,
              ⟨some 5, none, (.assign (.tmp 10))⟩])
            (.seq
             (.ops [⟨some 11, none, (.move (.tmp 1))⟩,
               ⟨some 12, none, (.move (.tmp 0))⟩,
               ⟨some 13, none, (.move (.tmp 5))⟩,
               ⟨some 14, none, (.indexAddr 43 (.tmp 12) (.tmp 13))⟩,
               ⟨some 15, none, (.load 3 (.tmp 14))⟩,
               ⟨some 16, none, (.call ⟨(.value (.tmp 11)), #[(.tmp 15)], #[3]⟩)⟩])
             (.cond (.tmp 16)
              (.seq
               (.ops [⟨some 17, none, (.move (.tmp 5))⟩,
                 ⟨some 4, none, (.assign (.tmp 17))⟩])
               .ret)
              .skip))))
          (.ops [⟨some 18, none, (.binOp .add 3 (.tmp 8) (.const (.int .i64 1)) 3)⟩,
            ⟨some 8, none, (.move (.tmp 18))⟩])))))))
    (.seq
     (.ops [⟨some 4, none, (.assign (.const (.int .i64 (-1))))⟩])
     .ret)))
theorem w170 {args : Array Value} {H : AH} {Φ : Value → AH → Prop} (h : rW Try.prog k170 [] (fin Try.prog [(.tmp 4)] Φ) (tm0 args) H) : CallsA Try.prog 170 args H Φ :=
  CallsA.w k170 [(.tmp 4)] (fun _ => []) Try.func170 rfl rfl (by kernel_rfl) (by kernel_rfl) h

/-- slices.ContainsFunc[[]int,int] -/
def k118 : KC :=
  (.seq
   (.ops [⟨some 4, none, (.assign (.const (.bool false)))⟩])
   (.seq
    (.ops [⟨some 5, none, (.move (.tmp 0))⟩,
      ⟨some 6, none, (.move (.tmp 1))⟩,
      ⟨some 7, none, (.call ⟨(.value (.func 170)), #[(.tmp 5), (.tmp 6)], #[43, 101]⟩)⟩,
      ⟨some 8, none, (.binOp .geq 3 (.tmp 7) (.const (.int .i64 0)) 3)⟩,
      ⟨some 4, none, (.assign (.tmp 8))⟩])
    .ret))
theorem w118 {args : Array Value} {H : AH} {Φ : Value → AH → Prop} (h : rW Try.prog k118 [] (fin Try.prog [(.tmp 4)] Φ) (tm0 args) H) : CallsA Try.prog 118 args H Φ :=
  CallsA.w k118 [(.tmp 4)] (fun _ => []) Try.func118 rfl rfl (by kernel_rfl) (by kernel_rfl) h

/-- impl.NumOk -/
def k120 : KC :=
  (.seq
   (.ops [⟨some 2, none, (.assign (.const (.bool false)))⟩])
   (.seq
    (.ops [⟨some 3, none, (.move (.tmp 0))⟩,
      ⟨some 4, none, (.call ⟨(.value (.func 106)), #[(.tmp 3), (.const (.int .i64 (-1000000000000))), (.const (.int .i64 1000000000000))], #[3, 3, 3]⟩)⟩,
      ⟨some 2, none, (.assign (.tmp 4))⟩])
    .ret))
theorem w120 {args : Array Value} {H : AH} {Φ : Value → AH → Prop} (h : rW Try.prog k120 [] (fin Try.prog [(.tmp 2)] Φ) (tm0 args) H) : CallsA Try.prog 120 args H Φ :=
  CallsA.w k120 [(.tmp 2)] (fun _ => []) Try.func120 rfl rfl (by kernel_rfl) (by kernel_rfl) h

/-- impl.ArrayOk$1 -/
def k119 : KC :=
  (.seq
   (.ops [⟨some 2, none, (.assign (.const (.bool false)))⟩])
   (.seq
    (.ops [⟨some 3, none, (.move (.tmp 0))⟩,
      ⟨some 4, none, (.call ⟨(.value (.func 120)), #[(.tmp 3)], #[3]⟩)⟩,
      ⟨some 5, none, (.unOp .not 4 (.tmp 4))⟩,
      ⟨some 2, none, (.assign (.tmp 5))⟩])
    .ret))
theorem w119 {args : Array Value} {H : AH} {Φ : Value → AH → Prop} (h : rW Try.prog k119 [] (fin Try.prog [(.tmp 2)] Φ) (tm0 args) H) : CallsA Try.prog 119 args H Φ :=
  CallsA.w k119 [(.tmp 2)] (fun _ => []) Try.func119 rfl rfl (by kernel_rfl) (by kernel_rfl) h

/-- impl.ArrayOk -/
def k47 : KC :=
  (.seq
   (.ops [⟨some 1, none, (.box 45 (.tmp 0))⟩,
     ⟨some 2, none, (.assign (.const (.bool false)))⟩])
   (.seq
    (.draw #[] [(1, 0), (1, 6), (4, 0), (9, 6)]
      [⟨some 3, none, (.fieldAddr 45 (.tmp 1) 1)⟩,
      ⟨some 4, none, (.load 43 (.tmp 3))⟩,
      ⟨some 5, none, (.call ⟨(.builtin .len), #[(.tmp 4)], #[43]⟩)⟩,
      ⟨some 6, none, (.fieldAddr 45 (.tmp 1) 0)⟩,
      ⟨some 7, none, (.load 43 (.tmp 6))⟩,
      ⟨some 8, none, (.call ⟨(.value (.func 117)), #[(.tmp 7)], #[43]⟩)⟩,
      ⟨some 9, none, (.binOp .eql 3 (.tmp 5) (.tmp 8) 3)⟩,
      ⟨some 10, none, (.move (.tmp 9))⟩,
      ⟨some 11, (some (10, true)), (.fieldAddr 45 (.tmp 1) 1)⟩,
      ⟨some 12, (some (10, true)), (.load 43 (.tmp 11))⟩,
      ⟨some 13, (some (10, true)), (.call ⟨(.value (.func 118)), #[(.tmp 12), (.func 119)], #[43, 101]⟩)⟩,
      ⟨some 14, (some (10, true)), (.unOp .not 4 (.tmp 13))⟩,
      ⟨some 15, none, (.pick (.tmp 10) (.tmp 14) (.const (.bool false)))⟩,
      ⟨some 2, none, (.assign (.tmp 15))⟩])
    .ret))
theorem w47 {args : Array Value} {H : AH} {Φ : Value → AH → Prop} (h : rW Try.prog k47 [] (fin Try.prog [(.tmp 2)] Φ) (tm0 args) H) : CallsA Try.prog 47 args H Φ :=
  CallsA.w k47 [(.tmp 2)] (fun i => if i = 1 then [(1, 0), (1, 6), (4, 0), (9, 6)] else []) Try.func47 rfl rfl (by kernel_rfl) (by kernel_rfl) h

/-- impl.vector -/
def k101 : KC :=
  (.seq
   (.ops [⟨some 2, none, (.alloc 45)⟩])
   (.seq
    (.ops [⟨some 3, none, (.move (.tmp 0))⟩,
      ⟨some 4, none, (.call ⟨(.builtin .len), #[(.tmp 3)], #[43]⟩)⟩,
      ⟨some 5, none, (.buildSlice 43 1 #[(0, (.tmp 4))])⟩,
      ⟨some 6, none, (.move (.tmp 0))⟩,
      ⟨some 7, none, (.call ⟨(.builtin .append), #[(.const (.slice none 0 0)), (.tmp 6)], #[43, 43]⟩)⟩,
      ⟨some 8, none, (.build 45 #[(0, (.tmp 5)), (1, (.tmp 7))])⟩,
      ⟨none, none, (.store 45 (.tmp 2) (.tmp 8))⟩])
    .ret))
theorem w101 {args : Array Value} {H : AH} {Φ : Value → AH → Prop} (h : rW Try.prog k101 [] (fin Try.prog [(.cell 2 45)] Φ) (tm0 args) H) : CallsA Try.prog 101 args H Φ :=
  CallsA.w k101 [(.cell 2 45)] (fun _ => []) Try.func101 rfl rfl (by kernel_rfl) (by kernel_rfl) h

/-- slices.insertionSortCmpFunc[int] -/
def k190 : KC :=
  (.seq
   (.ops [⟨some 10, none, (.move (.tmp 1))⟩,
     ⟨some 11, none, (.binOp .add 3 (.tmp 10) (.const (.int .i64 1)) 3)⟩,
     ⟨some 8, none, (.assign (.tmp 11))⟩])
   (.block 0
    (.loop
     (.seq
      (.seq
       (.ops [⟨some 12, none, (.move (.tmp 8))⟩,
         ⟨some 13, none, (.move (.tmp 2))⟩,
         ⟨some 14, none, (.binOp .lss 3 (.tmp 12) (.tmp 13) 3)⟩])
       (.cond (.tmp 14)
        .skip
        (.exit 0)))
      (.seq
       (.block 1
        (.seq
         (.ops [⟨some 17, none, (.move (.tmp 8))⟩,
           ⟨some 9, none, (.assign (.tmp 17))⟩])
         (.block 2
          (.loop
           (.seq
            (.seq
             (.draw #[] [(8, 0), (13, 0)]
               [⟨some 18, none, (.move (.tmp 9))⟩,
               ⟨some 19, none, (.move (.tmp 1))⟩,
               ⟨some 20, none, (.binOp .gtr 3 (.tmp 18) (.tmp 19) 3)⟩,
               ⟨some 21, none, (.move (.tmp 20))⟩,
               ⟨some 22, (some (21, true)), (.move (.tmp 3))⟩,
               ⟨some 23, (some (21, true)), (.move (.tmp 0))⟩,
               ⟨some 24, (some (21, true)), (.move (.tmp 9))⟩,
               ⟨some 25, (some (21, true)), (.indexAddr 43 (.tmp 23) (.tmp 24))⟩,
               ⟨some 26, (some (21, true)), (.load 3 (.tmp 25))⟩,
               ⟨some 27, (some (21, true)), (.move (.tmp 0))⟩,
               ⟨some 28, (some (21, true)), (.move (.tmp 9))⟩,
               ⟨some 29, (some (21, true)), (.binOp .sub 3 (.tmp 28) (.const (.int .i64 1)) 3)⟩,
               ⟨some 30, (some (21, true)), (.indexAddr 43 (.tmp 27) (.tmp 29))⟩,
               ⟨some 31, (some (21, true)), (.load 3 (.tmp 30))⟩,
               ⟨some 32, (some (21, true)), (.call ⟨(.value (.tmp 22)), #[(.tmp 26), (.tmp 31)], #[3, 3]⟩)⟩,
               ⟨some 33, (some (21, true)), (.binOp .lss 3 (.tmp 32) (.const (.int .i64 0)) 3)⟩,
               ⟨some 34, none, (.pick (.tmp 21) (.tmp 33) (.const (.bool false)))⟩])
             (.cond (.tmp 34)
              .skip
              (.exit 2)))
            (.seq
             (.block 3
              (.draw #[] [(9, 0), (13, 0)]
                [⟨some 37, none, (.move (.tmp 0))⟩,
                ⟨some 38, none, (.move (.tmp 9))⟩,
                ⟨some 39, none, (.move (.tmp 0))⟩,
                ⟨some 40, none, (.move (.tmp 9))⟩,
                ⟨some 41, none, (.binOp .sub 3 (.tmp 40) (.const (.int .i64 1)) 3)⟩,
                ⟨some 42, none, (.move (.tmp 0))⟩,
                ⟨some 43, none, (.move (.tmp 9))⟩,
                ⟨some 44, none, (.binOp .sub 3 (.tmp 43) (.const (.int .i64 1)) 3)⟩,
                ⟨some 45, none, (.indexAddr 43 (.tmp 42) (.tmp 44))⟩,
                ⟨some 46, none, (.load 3 (.tmp 45))⟩,
                ⟨some 47, none, (.move (.tmp 0))⟩,
                ⟨some 48, none, (.move (.tmp 9))⟩,
                ⟨some 49, none, (.indexAddr 43 (.tmp 47) (.tmp 48))⟩,
                ⟨some 50, none, (.load 3 (.tmp 49))⟩,
                ⟨some 51, none, (.indexAddr 43 (.tmp 37) (.tmp 38))⟩,
                ⟨none, none, (.store 3 (.tmp 51) (.tmp 46))⟩,
                ⟨some 52, none, (.indexAddr 43 (.tmp 39) (.tmp 41))⟩,
                ⟨none, none, (.store 3 (.tmp 52) (.tmp 50))⟩]))
             (.ops [⟨some 35, none, (.move (.tmp 9))⟩,
               ⟨some 36, none, (.binOp .sub 3 (.tmp 35) (.const (.int .i64 1)) 3)⟩,
               ⟨some 9, none, (.assign (.tmp 36))⟩])))))))
       (.ops [⟨some 15, none, (.move (.tmp 8))⟩,
         ⟨some 16, none, (.binOp .add 3 (.tmp 15) (.const (.int .i64 1)) 3)⟩,
         ⟨some 8, none, (.assign (.tmp 16))⟩]))))))
theorem w190 {args : Array Value} {H : AH} {Φ : Value → AH → Prop} (h : rW Try.prog k190 [] (fin Try.prog [] Φ) (tm0 args) H) : CallsA Try.prog 190 args H Φ :=
  CallsA.w k190 [] (fun i => if i = 4 then [(8, 0), (13, 0)] else if i = 6 then [(9, 0), (13, 0)] else []) Try.func190 rfl rfl (by kernel_rfl) (by kernel_rfl) h

/-- slices.swapRangeCmpFunc[int] -/
def k194 : KC :=
  (.seq
   (.ops [⟨some 10, none, (.assign (.const (.int .i64 0)))⟩])
   (.block 0
    (.loop
     (.seq
      (.seq
       (.ops [⟨some 11, none, (.move (.tmp 10))⟩,
         ⟨some 12, none, (.move (.tmp 3))⟩,
         ⟨some 13, none, (.binOp .lss 3 (.tmp 11) (.tmp 12) 3)⟩])
       (.cond (.tmp 13)
        .skip
        (.exit 0)))
      (.seq
       (.block 1
        (.draw #[] [(13, 0), (19, 0)]
          [⟨some 16, none, (.move (.tmp 0))⟩,
          ⟨some 17, none, (.move (.tmp 1))⟩,
          ⟨some 18, none, (.move (.tmp 10))⟩,
          ⟨some 19, none, (.binOp .add 3 (.tmp 17) (.tmp 18) 3)⟩,
          ⟨some 20, none, (.move (.tmp 0))⟩,
          ⟨some 21, none, (.move (.tmp 2))⟩,
          ⟨some 22, none, (.move (.tmp 10))⟩,
          ⟨some 23, none, (.binOp .add 3 (.tmp 21) (.tmp 22) 3)⟩,
          ⟨some 24, none, (.move (.tmp 0))⟩,
          ⟨some 25, none, (.move (.tmp 2))⟩,
          ⟨some 26, none, (.move (.tmp 10))⟩,
          ⟨some 27, none, (.binOp .add 3 (.tmp 25) (.tmp 26) 3)⟩,
          ⟨some 28, none, (.indexAddr 43 (.tmp 24) (.tmp 27))⟩,
          ⟨some 29, none, (.load 3 (.tmp 28))⟩,
          ⟨some 30, none, (.move (.tmp 0))⟩,
          ⟨some 31, none, (.move (.tmp 1))⟩,
          ⟨some 32, none, (.move (.tmp 10))⟩,
          ⟨some 33, none, (.binOp .add 3 (.tmp 31) (.tmp 32) 3)⟩,
          ⟨some 34, none, (.indexAddr 43 (.tmp 30) (.tmp 33))⟩,
          ⟨some 35, none, (.load 3 (.tmp 34))⟩,
          ⟨some 36, none, (.indexAddr 43 (.tmp 16) (.tmp 19))⟩,
          ⟨none, none, (.store 3 (.tmp 36) (.tmp 29))⟩,
          ⟨some 37, none, (.indexAddr 43 (.tmp 20) (.tmp 23))⟩,
          ⟨none, none, (.store 3 (.tmp 37) (.tmp 35))⟩]))
       (.ops [⟨some 14, none, (.move (.tmp 10))⟩,
         ⟨some 15, none, (.binOp .add 3 (.tmp 14) (.const (.int .i64 1)) 3)⟩,
         ⟨some 10, none, (.assign (.tmp 15))⟩]))))))
theorem w194 {args : Array Value} {H : AH} {Φ : Value → AH → Prop} (h : rW Try.prog k194 [] (fin Try.prog [] Φ) (tm0 args) H) : CallsA Try.prog 194 args H Φ :=
  CallsA.w k194 [] (fun i => if i = 3 then [(13, 0), (19, 0)] else []) Try.func194 rfl rfl (by kernel_rfl) (by kernel_rfl) h

/-- slices.rotateCmpFunc[int] -/
def k193 : KC :=
  (.seq
   (.ops [⟨some 12, none, (.move (.tmp 2))⟩,
     ⟨some 13, none, (.move (.tmp 1))⟩,
     ⟨some 14, none, (.binOp .sub 3 (.tmp 12) (.tmp 13) 3)⟩,
     ⟨some 10, none, (.assign (.tmp 14))⟩])
   (.seq
    (.ops [⟨some 15, none, (.move (.tmp 3))⟩,
      ⟨some 16, none, (.move (.tmp 2))⟩,
      ⟨some 17, none, (.binOp .sub 3 (.tmp 15) (.tmp 16) 3)⟩,
      ⟨some 11, none, (.assign (.tmp 17))⟩])
    (.seq
     (.block 0
      (.loop
       (.seq
        (.seq
         (.ops [⟨some 18, none, (.move (.tmp 10))⟩,
           ⟨some 19, none, (.move (.tmp 11))⟩,
           ⟨some 20, none, (.binOp .neq 3 (.tmp 18) (.tmp 19) 3)⟩])
         (.cond (.tmp 20)
          .skip
          (.exit 0)))
        (.block 1
         (.seq
          (.ops [⟨some 21, none, (.move (.tmp 10))⟩,
            ⟨some 22, none, (.move (.tmp 11))⟩,
            ⟨some 23, none, (.binOp .gtr 3 (.tmp 21) (.tmp 22) 3)⟩])
          (.cond (.tmp 23)
           (.seq
            (.ops [⟨some 24, none, (.move (.tmp 0))⟩,
              ⟨some 25, none, (.move (.tmp 2))⟩,
              ⟨some 26, none, (.move (.tmp 10))⟩,
              ⟨some 27, none, (.binOp .sub 3 (.tmp 25) (.tmp 26) 3)⟩,
              ⟨some 28, none, (.move (.tmp 2))⟩,
              ⟨some 29, none, (.move (.tmp 11))⟩,
              ⟨some 30, none, (.move (.tmp 4))⟩,
              ⟨some 31, none, (.call ⟨(.value (.func 194)), #[(.tmp 24), (.tmp 27), (.tmp 28), (.tmp 29), (.tmp 30)], #[43, 3, 3, 3, 129]⟩)⟩])
            (.ops [⟨some 32, none, (.move (.tmp 10))⟩,
              ⟨some 33, none, (.move (.tmp 11))⟩,
              ⟨some 34, none, (.binOp .sub 3 (.tmp 32) (.tmp 33) 3)⟩,
              ⟨some 10, none, (.assign (.tmp 34))⟩]))
           (.seq
            (.ops [⟨some 35, none, (.move (.tmp 0))⟩,
              ⟨some 36, none, (.move (.tmp 2))⟩,
              ⟨some 37, none, (.move (.tmp 10))⟩,
              ⟨some 38, none, (.binOp .sub 3 (.tmp 36) (.tmp 37) 3)⟩,
              ⟨some 39, none, (.move (.tmp 2))⟩,
              ⟨some 40, none, (.move (.tmp 11))⟩,
              ⟨some 41, none, (.binOp .add 3 (.tmp 39) (.tmp 40) 3)⟩,
              ⟨some 42, none, (.move (.tmp 10))⟩,
              ⟨some 43, none, (.binOp .sub 3 (.tmp 41) (.tmp 42) 3)⟩,
              ⟨some 44, none, (.move (.tmp 10))⟩,
              ⟨some 45, none, (.move (.tmp 4))⟩,
              ⟨some 46, none, (.call ⟨(.value (.func 194)), #[(.tmp 35), (.tmp 38), (.tmp 43), (.tmp 44), (.tmp 45)], #[43, 3, 3, 3, 129]⟩)⟩])
            (.ops [⟨some 47, none, (.move (.tmp 11))⟩,
              ⟨some 48, none, (.move (.tmp 10))⟩,
              ⟨some 49, none, (.binOp .sub 3 (.tmp 47) (.tmp 48) 3)⟩,
              ⟨some 11, none, (.assign (.tmp 49))⟩]))))))))
     (.ops [⟨some 50, none, (.move (.tmp 0))⟩,
       ⟨some 51, none, (.move (.tmp 2))⟩,
       ⟨some 52, none, (.move (.tmp 10))⟩,
       ⟨some 53, none, (.binOp .sub 3 (.tmp 51) (.tmp 52) 3)⟩,
       ⟨some 54, none, (.move (.tmp 2))⟩,
       ⟨some 55, none, (.move (.tmp 10))⟩,
       ⟨some 56, none, (.move (.tmp 4))⟩,
       ⟨some 57, none, (.call ⟨(.value (.func 194)), #[(.tmp 50), (.tmp 53), (.tmp 54), (.tmp 55), (.tmp 56)], #[43, 3, 3, 3, 129]⟩)⟩]))))
theorem w193 {args : Array Value} {H : AH} {Φ : Value → AH → Prop} (h : rW Try.prog k193 [] (fin Try.prog [] Φ) (tm0 args) H) : CallsA Try.prog 193 args H Φ :=
  CallsA.w k193 [] (fun _ => []) Try.func193 rfl rfl (by kernel_rfl) (by kernel_rfl) h

/-- slices.symMergeCmpFunc[int] -/
def k191 : KC :=
  (.seq
   (.seq
    (.ops [⟨some 25, none, (.move (.tmp 2))⟩,
      ⟨some 26, none, (.move (.tmp 1))⟩,
      ⟨some 27, none, (.binOp .sub 3 (.tmp 25) (.tmp 26) 3)⟩,
      ⟨some 28, none, (.binOp .eql 3 (.tmp 27) (.const (.int .i64 1)) 3)⟩])
    (.cond (.tmp 28)
     (.seq
      (.ops [⟨some 29, none, (.move (.tmp 2))⟩,
        ⟨some 10, none, (.assign (.tmp 29))⟩])
      (.seq
       (.ops [⟨some 30, none, (.move (.tmp 3))⟩,
         ⟨some 11, none, (.assign (.tmp 30))⟩])
       (.seq
        (.block 0
         (.loop
          (.seq
           (.seq
            (.ops [⟨some 31, none, (.move (.tmp 10))⟩,
              ⟨some 32, none, (.move (.tmp 11))⟩,
              ⟨some 33, none, (.binOp .lss 3 (.tmp 31) (.tmp 32) 3)⟩])
            (.cond (.tmp 33)
             .skip
             (.exit 0)))
           (.block 1
            (.seq
             (.ops [⟨some 34, none, (.move (.tmp 10))⟩,
               ⟨some 35, none, (.move (.tmp 11))⟩,
               ⟨some 36, none, (.binOp .add 3 (.tmp 34) (.tmp 35) 3)⟩,
               ⟨some 37, none, (.convert 3 177 (.tmp 36))⟩,
               ⟨some 38, none, (.binOp .shr 177 (.tmp 37) (.const (.int .u64 1)) 177)⟩,
               ⟨some 39, none, (.convert 177 3 (.tmp 38))⟩,
               ⟨some 12, none, (.assign (.tmp 39))⟩])
             (.seq
              (.draw #[] [(4, 0), (8, 0)]
                [⟨some 40, none, (.move (.tmp 4))⟩,
                ⟨some 41, none, (.move (.tmp 0))⟩,
                ⟨some 42, none, (.move (.tmp 12))⟩,
                ⟨some 43, none, (.indexAddr 43 (.tmp 41) (.tmp 42))⟩,
                ⟨some 44, none, (.load 3 (.tmp 43))⟩,
                ⟨some 45, none, (.move (.tmp 0))⟩,
                ⟨some 46, none, (.move (.tmp 1))⟩,
                ⟨some 47, none, (.indexAddr 43 (.tmp 45) (.tmp 46))⟩,
                ⟨some 48, none, (.load 3 (.tmp 47))⟩,
                ⟨some 49, none, (.call ⟨(.value (.tmp 40)), #[(.tmp 44), (.tmp 48)], #[3, 3]⟩)⟩,
                ⟨some 50, none, (.binOp .lss 3 (.tmp 49) (.const (.int .i64 0)) 3)⟩])
              (.cond (.tmp 50)
               (.ops [⟨some 51, none, (.move (.tmp 12))⟩,
                 ⟨some 52, none, (.binOp .add 3 (.tmp 51) (.const (.int .i64 1)) 3)⟩,
                 ⟨some 10, none, (.assign (.tmp 52))⟩])
               (.ops [⟨some 53, none, (.move (.tmp 12))⟩,
                 ⟨some 11, none, (.assign (.tmp 53))⟩]))))))))
        (.seq
         (.seq
          (.ops [⟨some 54, none, (.move (.tmp 1))⟩,
            ⟨some 13, none, (.assign (.tmp 54))⟩])
          (.block 2
           (.loop
            (.seq
             (.seq
              (.ops [⟨some 55, none, (.move (.tmp 13))⟩,
                ⟨some 56, none, (.move (.tmp 10))⟩,
                ⟨some 57, none, (.binOp .sub 3 (.tmp 56) (.const (.int .i64 1)) 3)⟩,
                ⟨some 58, none, (.binOp .lss 3 (.tmp 55) (.tmp 57) 3)⟩])
              (.cond (.tmp 58)
               .skip
               (.exit 2)))
             (.seq
              (.block 3
               (.draw #[] [(9, 0), (13, 0)]
                 [⟨some 61, none, (.move (.tmp 0))⟩,
                 ⟨some 62, none, (.move (.tmp 13))⟩,
                 ⟨some 63, none, (.move (.tmp 0))⟩,
                 ⟨some 64, none, (.move (.tmp 13))⟩,
                 ⟨some 65, none, (.binOp .add 3 (.tmp 64) (.const (.int .i64 1)) 3)⟩,
                 ⟨some 66, none, (.move (.tmp 0))⟩,
                 ⟨some 67, none, (.move (.tmp 13))⟩,
                 ⟨some 68, none, (.binOp .add 3 (.tmp 67) (.const (.int .i64 1)) 3)⟩,
                 ⟨some 69, none, (.indexAddr 43 (.tmp 66) (.tmp 68))⟩,
                 ⟨some 70, none, (.load 3 (.tmp 69))⟩,
                 ⟨some 71, none, (.move (.tmp 0))⟩,
                 ⟨some 72, none, (.move (.tmp 13))⟩,
                 ⟨some 73, none, (.indexAddr 43 (.tmp 71) (.tmp 72))⟩,
                 ⟨some 74, none, (.load 3 (.tmp 73))⟩,
                 ⟨some 75, none, (.indexAddr 43 (.tmp 61) (.tmp 62))⟩,
                 ⟨none, none, (.store 3 (.tmp 75) (.tmp 70))⟩,
                 ⟨some 76, none, (.indexAddr 43 (.tmp 63) (.tmp 65))⟩,
                 ⟨none, none, (.store 3 (.tmp 76) (.tmp 74))⟩]))
              (.ops [⟨some 59, none, (.move (.tmp 13))⟩,
                ⟨some 60, none, (.binOp .add 3 (.tmp 59) (.const (.int .i64 1)) 3)⟩,
                ⟨some 13, none, (.assign (.tmp 60))⟩]))))))
         .ret))))
     .skip))
   (.seq
    (.seq
     (.ops [⟨some 77, none, (.move (.tmp 3))⟩,
       ⟨some 78, none, (.move (.tmp 2))⟩,
       ⟨some 79, none, (.binOp .sub 3 (.tmp 77) (.tmp 78) 3)⟩,
       ⟨some 80, none, (.binOp .eql 3 (.tmp 79) (.const (.int .i64 1)) 3)⟩])
     (.cond (.tmp 80)
      (.seq
       (.ops [⟨some 81, none, (.move (.tmp 1))⟩,
         ⟨some 14, none, (.assign (.tmp 81))⟩])
       (.seq
        (.ops [⟨some 82, none, (.move (.tmp 2))⟩,
          ⟨some 15, none, (.assign (.tmp 82))⟩])
        (.seq
         (.block 4
          (.loop
           (.seq
            (.seq
             (.ops [⟨some 83, none, (.move (.tmp 14))⟩,
               ⟨some 84, none, (.move (.tmp 15))⟩,
               ⟨some 85, none, (.binOp .lss 3 (.tmp 83) (.tmp 84) 3)⟩])
             (.cond (.tmp 85)
              .skip
              (.exit 4)))
            (.block 5
             (.seq
              (.ops [⟨some 86, none, (.move (.tmp 14))⟩,
                ⟨some 87, none, (.move (.tmp 15))⟩,
                ⟨some 88, none, (.binOp .add 3 (.tmp 86) (.tmp 87) 3)⟩,
                ⟨some 89, none, (.convert 3 177 (.tmp 88))⟩,
                ⟨some 90, none, (.binOp .shr 177 (.tmp 89) (.const (.int .u64 1)) 177)⟩,
                ⟨some 91, none, (.convert 177 3 (.tmp 90))⟩,
                ⟨some 16, none, (.assign (.tmp 91))⟩])
              (.seq
               (.draw #[] [(4, 0), (8, 0)]
                 [⟨some 92, none, (.move (.tmp 4))⟩,
                 ⟨some 93, none, (.move (.tmp 0))⟩,
                 ⟨some 94, none, (.move (.tmp 2))⟩,
                 ⟨some 95, none, (.indexAddr 43 (.tmp 93) (.tmp 94))⟩,
                 ⟨some 96, none, (.load 3 (.tmp 95))⟩,
                 ⟨some 97, none, (.move (.tmp 0))⟩,
                 ⟨some 98, none, (.move (.tmp 16))⟩,
                 ⟨some 99, none, (.indexAddr 43 (.tmp 97) (.tmp 98))⟩,
                 ⟨some 100, none, (.load 3 (.tmp 99))⟩,
                 ⟨some 101, none, (.call ⟨(.value (.tmp 92)), #[(.tmp 96), (.tmp 100)], #[3, 3]⟩)⟩,
                 ⟨some 102, none, (.binOp .lss 3 (.tmp 101) (.const (.int .i64 0)) 3)⟩,
                 ⟨some 103, none, (.unOp .not 4 (.tmp 102))⟩])
               (.cond (.tmp 103)
                (.ops [⟨some 104, none, (.move (.tmp 16))⟩,
                  ⟨some 105, none, (.binOp .add 3 (.tmp 104) (.const (.int .i64 1)) 3)⟩,
                  ⟨some 14, none, (.assign (.tmp 105))⟩])
                (.ops [⟨some 106, none, (.move (.tmp 16))⟩,
                  ⟨some 15, none, (.assign (.tmp 106))⟩]))))))))
         (.seq
          (.seq
           (.ops [⟨some 107, none, (.move (.tmp 2))⟩,
             ⟨some 17, none, (.assign (.tmp 107))⟩])
           (.block 6
            (.loop
             (.seq
              (.seq
               (.ops [⟨some 108, none, (.move (.tmp 17))⟩,
                 ⟨some 109, none, (.move (.tmp 14))⟩,
                 ⟨some 110, none, (.binOp .gtr 3 (.tmp 108) (.tmp 109) 3)⟩])
               (.cond (.tmp 110)
                .skip
                (.exit 6)))
              (.seq
               (.block 7
                (.draw #[] [(9, 0), (13, 0)]
                  [⟨some 113, none, (.move (.tmp 0))⟩,
                  ⟨some 114, none, (.move (.tmp 17))⟩,
                  ⟨some 115, none, (.move (.tmp 0))⟩,
                  ⟨some 116, none, (.move (.tmp 17))⟩,
                  ⟨some 117, none, (.binOp .sub 3 (.tmp 116) (.const (.int .i64 1)) 3)⟩,
                  ⟨some 118, none, (.move (.tmp 0))⟩,
                  ⟨some 119, none, (.move (.tmp 17))⟩,
                  ⟨some 120, none, (.binOp .sub 3 (.tmp 119) (.const (.int .i64 1)) 3)⟩,
                  ⟨some 121, none, (.indexAddr 43 (.tmp 118) (.tmp 120))⟩,
                  ⟨some 122, none, (.load 3 (.tmp 121))⟩,
                  ⟨some 123, none, (.move (.tmp 0))⟩,
                  ⟨some 124, none, (.move (.tmp 17))⟩,
                  ⟨some 125, none, (.indexAddr 43 (.tmp 123) (.tmp 124))⟩,
                  ⟨some 126, none, (.load 3 (.tmp 125))⟩,
                  ⟨some 127, none, (.indexAddr 43 (.tmp 113) (.tmp 114))⟩,
                  ⟨none, none, (.store 3 (.tmp 127) (.tmp 122))⟩,
                  ⟨some 128, none, (.indexAddr 43 (.tmp 115) (.tmp 117))⟩,
                  ⟨none, none, (.store 3 (.tmp 128) (.tmp 126))⟩]))
               (.ops [⟨some 111, none, (.move (.tmp 17))⟩,
                 ⟨some 112, none, (.binOp .sub 3 (.tmp 111) (.const (.int .i64 1)) 3)⟩,
                 ⟨some 17, none, (.assign (.tmp 112))⟩]))))))
          .ret))))
      .skip))
    (.seq
     (.ops [⟨some 129, none, (.move (.tmp 1))⟩,
       ⟨some 130, none, (.move (.tmp 3))⟩,
       ⟨some 131, none, (.binOp .add 3 (.tmp 129) (.tmp 130) 3)⟩,
       ⟨some 132, none, (.convert 3 177 (.tmp 131))⟩,
       ⟨some 133, none, (.binOp .shr 177 (.tmp 132) (.const (.int .u64 1)) 177)⟩,
       ⟨some 134, none, (.convert 177 3 (.tmp 133))⟩,
       ⟨some 18, none, (.assign (.tmp 134))⟩])
     (.seq
      (.ops [⟨some 135, none, (.move (.tmp 18))⟩,
        ⟨some 136, none, (.move (.tmp 2))⟩,
        ⟨some 137, none, (.binOp .add 3 (.tmp 135) (.tmp 136) 3)⟩,
        ⟨some 19, none, (.assign (.tmp 137))⟩])
      (.seq
       (.ops [⟨some 20, none, (.assign (.const (.int .i64 0)))⟩,
         ⟨some 21, none, (.assign (.const (.int .i64 0)))⟩])
       (.seq
        (.seq
         (.ops [⟨some 138, none, (.move (.tmp 2))⟩,
           ⟨some 139, none, (.move (.tmp 18))⟩,
           ⟨some 140, none, (.binOp .gtr 3 (.tmp 138) (.tmp 139) 3)⟩])
         (.cond (.tmp 140)
          (.seq
           (.ops [⟨some 141, none, (.move (.tmp 19))⟩,
             ⟨some 142, none, (.move (.tmp 3))⟩,
             ⟨some 143, none, (.binOp .sub 3 (.tmp 141) (.tmp 142) 3)⟩,
             ⟨some 20, none, (.assign (.tmp 143))⟩])
           (.ops [⟨some 144, none, (.move (.tmp 18))⟩,
             ⟨some 21, none, (.assign (.tmp 144))⟩]))
          (.seq
           (.ops [⟨some 145, none, (.move (.tmp 1))⟩,
             ⟨some 20, none, (.assign (.tmp 145))⟩])
           (.ops [⟨some 146, none, (.move (.tmp 2))⟩,
             ⟨some 21, none, (.assign (.tmp 146))⟩]))))
        (.seq
         (.ops [⟨some 147, none, (.move (.tmp 19))⟩,
           ⟨some 148, none, (.binOp .sub 3 (.tmp 147) (.const (.int .i64 1)) 3)⟩,
           ⟨some 22, none, (.assign (.tmp 148))⟩])
         (.seq
          (.block 8
           (.loop
            (.seq
             (.seq
              (.ops [⟨some 149, none, (.move (.tmp 20))⟩,
                ⟨some 150, none, (.move (.tmp 21))⟩,
                ⟨some 151, none, (.binOp .lss 3 (.tmp 149) (.tmp 150) 3)⟩])
              (.cond (.tmp 151)
               .skip
               (.exit 8)))
             (.block 9
              (.seq
               (.ops [⟨some 152, none, (.move (.tmp 20))⟩,
                 ⟨some 153, none, (.move (.tmp 21))⟩,
                 ⟨some 154, none, (.binOp .add 3 (.tmp 152) (.tmp 153) 3)⟩,
                 ⟨some 155, none, (.convert 3 177 (.tmp 154))⟩,
                 ⟨some 156, none, (.binOp .shr 177 (.tmp 155) (.const (.int .u64 1)) 177)⟩,
                 ⟨some 157, none, (.convert 177 3 (.tmp 156))⟩,
                 ⟨some 23, none, (.assign (.tmp 157))⟩])
               (.seq
                (.draw #[] [(6, 0), (10, 0)]
                  [⟨some 158, none, (.move (.tmp 4))⟩,
                  ⟨some 159, none, (.move (.tmp 0))⟩,
                  ⟨some 160, none, (.move (.tmp 22))⟩,
                  ⟨some 161, none, (.move (.tmp 23))⟩,
                  ⟨some 162, none, (.binOp .sub 3 (.tmp 160) (.tmp 161) 3)⟩,
                  ⟨some 163, none, (.indexAddr 43 (.tmp 159) (.tmp 162))⟩,
                  ⟨some 164, none, (.load 3 (.tmp 163))⟩,
                  ⟨some 165, none, (.move (.tmp 0))⟩,
                  ⟨some 166, none, (.move (.tmp 23))⟩,
                  ⟨some 167, none, (.indexAddr 43 (.tmp 165) (.tmp 166))⟩,
                  ⟨some 168, none, (.load 3 (.tmp 167))⟩,
                  ⟨some 169, none, (.call ⟨(.value (.tmp 158)), #[(.tmp 164), (.tmp 168)], #[3, 3]⟩)⟩,
                  ⟨some 170, none, (.binOp .lss 3 (.tmp 169) (.const (.int .i64 0)) 3)⟩,
                  ⟨some 171, none, (.unOp .not 4 (.tmp 170))⟩])
                (.cond (.tmp 171)
                 (.ops [⟨some 172, none, (.move (.tmp 23))⟩,
                   ⟨some 173, none, (.binOp .add 3 (.tmp 172) (.const (.int .i64 1)) 3)⟩,
                   ⟨some 20, none, (.assign (.tmp 173))⟩])
                 (.ops [⟨some 174, none, (.move (.tmp 23))⟩,
                   ⟨some 21, none, (.assign (.tmp 174))⟩]))))))))
          (.seq
           (.ops [⟨some 175, none, (.move (.tmp 19))⟩,
             ⟨some 176, none, (.move (.tmp 20))⟩,
             ⟨some 177, none, (.binOp .sub 3 (.tmp 175) (.tmp 176) 3)⟩,
             ⟨some 24, none, (.assign (.tmp 177))⟩])
           (.seq
            (.seq
             (.ops [⟨some 178, none, (.move (.tmp 20))⟩,
               ⟨some 179, none, (.move (.tmp 2))⟩,
               ⟨some 180, none, (.binOp .lss 3 (.tmp 178) (.tmp 179) 3)⟩,
               ⟨some 181, none, (.move (.tmp 180))⟩,
               ⟨some 182, (some (181, true)), (.move (.tmp 2))⟩,
               ⟨some 183, (some (181, true)), (.move (.tmp 24))⟩,
               ⟨some 184, (some (181, true)), (.binOp .lss 3 (.tmp 182) (.tmp 183) 3)⟩,
               ⟨some 185, none, (.pick (.tmp 181) (.tmp 184) (.const (.bool false)))⟩])
             (.cond (.tmp 185)
              (.ops [⟨some 186, none, (.move (.tmp 0))⟩,
                ⟨some 187, none, (.move (.tmp 20))⟩,
                ⟨some 188, none, (.move (.tmp 2))⟩,
                ⟨some 189, none, (.move (.tmp 24))⟩,
                ⟨some 190, none, (.move (.tmp 4))⟩,
                ⟨some 191, none, (.call ⟨(.value (.func 193)), #[(.tmp 186), (.tmp 187), (.tmp 188), (.tmp 189), (.tmp 190)], #[43, 3, 3, 3, 129]⟩)⟩])
              .skip))
            (.seq
             (.seq
              (.ops [⟨some 192, none, (.move (.tmp 1))⟩,
                ⟨some 193, none, (.move (.tmp 20))⟩,
                ⟨some 194, none, (.binOp .lss 3 (.tmp 192) (.tmp 193) 3)⟩,
                ⟨some 195, none, (.move (.tmp 194))⟩,
                ⟨some 196, (some (195, true)), (.move (.tmp 20))⟩,
                ⟨some 197, (some (195, true)), (.move (.tmp 18))⟩,
                ⟨some 198, (some (195, true)), (.binOp .lss 3 (.tmp 196) (.tmp 197) 3)⟩,
                ⟨some 199, none, (.pick (.tmp 195) (.tmp 198) (.const (.bool false)))⟩])
              (.cond (.tmp 199)
               (.ops [⟨some 200, none, (.move (.tmp 0))⟩,
                 ⟨some 201, none, (.move (.tmp 1))⟩,
                 ⟨some 202, none, (.move (.tmp 20))⟩,
                 ⟨some 203, none, (.move (.tmp 18))⟩,
                 ⟨some 204, none, (.move (.tmp 4))⟩,
                 ⟨some 205, none, (.call ⟨(.value (.func 191)), #[(.tmp 200), (.tmp 201), (.tmp 202), (.tmp 203), (.tmp 204)], #[43, 3, 3, 3, 129]⟩)⟩])
               .skip))
             (.seq
              (.ops [⟨some 206, none, (.move (.tmp 18))⟩,
                ⟨some 207, none, (.move (.tmp 24))⟩,
                ⟨some 208, none, (.binOp .lss 3 (.tmp 206) (.tmp 207) 3)⟩,
                ⟨some 209, none, (.move (.tmp 208))⟩,
                ⟨some 210, (some (209, true)), (.move (.tmp 24))⟩,
                ⟨some 211, (some (209, true)), (.move (.tmp 3))⟩,
                ⟨some 212, (some (209, true)), (.binOp .lss 3 (.tmp 210) (.tmp 211) 3)⟩,
                ⟨some 213, none, (.pick (.tmp 209) (.tmp 212) (.const (.bool false)))⟩])
              (.cond (.tmp 213)
               (.ops [⟨some 214, none, (.move (.tmp 0))⟩,
                 ⟨some 215, none, (.move (.tmp 18))⟩,
                 ⟨some 216, none, (.move (.tmp 24))⟩,
                 ⟨some 217, none, (.move (.tmp 3))⟩,
                 ⟨some 218, none, (.move (.tmp 4))⟩,
                 ⟨some 219, none, (.call ⟨(.value (.func 191)), #[(.tmp 214), (.tmp 215), (.tmp 216), (.tmp 217), (.tmp 218)], #[43, 3, 3, 3, 129]⟩)⟩])
               .skip)))))))))))))
theorem w191 {args : Array Value} {H : AH} {Φ : Value → AH → Prop} (h : rW Try.prog k191 [] (fin Try.prog [] Φ) (tm0 args) H) : CallsA Try.prog 191 args H Φ :=
  CallsA.w k191 [] (fun i => if i = 5 then [(4, 0), (8, 0)] else if i = 11 then [(9, 0), (13, 0)] else if i = 17 then [(4, 0), (8, 0)] else if i = 23 then [(9, 0), (13, 0)] else if i = 35 then [(6, 0), (10, 0)] else []) Try.func191 rfl rfl (by kernel_rfl) (by kernel_rfl) h

/-- slices.stableCmpFunc[int] -/
def k177 : KC :=
  (.seq
   (.ops [⟨some 6, none, (.assign (.const (.int .i64 20)))⟩])
   (.seq
    (.ops [⟨some 10, none, (.move (.tmp 6))⟩,
      ⟨some 7, none, (.assign (.const (.int .i64 0)))⟩,
      ⟨some 8, none, (.assign (.tmp 10))⟩])
    (.seq
     (.block 0
      (.loop
       (.seq
        (.seq
         (.ops [⟨some 11, none, (.move (.tmp 8))⟩,
           ⟨some 12, none, (.move (.tmp 1))⟩,
           ⟨some 13, none, (.binOp .leq 3 (.tmp 11) (.tmp 12) 3)⟩])
         (.cond (.tmp 13)
          .skip
          (.exit 0)))
        (.block 1
         (.seq
          (.ops [⟨some 14, none, (.move (.tmp 0))⟩,
            ⟨some 15, none, (.move (.tmp 7))⟩,
            ⟨some 16, none, (.move (.tmp 8))⟩,
            ⟨some 17, none, (.move (.tmp 2))⟩,
            ⟨some 18, none, (.call ⟨(.value (.func 190)), #[(.tmp 14), (.tmp 15), (.tmp 16), (.tmp 17)], #[43, 3, 3, 129]⟩)⟩])
          (.seq
           (.ops [⟨some 19, none, (.move (.tmp 8))⟩,
             ⟨some 7, none, (.assign (.tmp 19))⟩])
           (.ops [⟨some 20, none, (.move (.tmp 8))⟩,
             ⟨some 21, none, (.move (.tmp 6))⟩,
             ⟨some 22, none, (.binOp .add 3 (.tmp 20) (.tmp 21) 3)⟩,
             ⟨some 8, none, (.assign (.tmp 22))⟩])))))))
     (.seq
      (.ops [⟨some 23, none, (.move (.tmp 0))⟩,
        ⟨some 24, none, (.move (.tmp 7))⟩,
        ⟨some 25, none, (.move (.tmp 1))⟩,
        ⟨some 26, none, (.move (.tmp 2))⟩,
        ⟨some 27, none, (.call ⟨(.value (.func 190)), #[(.tmp 23), (.tmp 24), (.tmp 25), (.tmp 26)], #[43, 3, 3, 129]⟩)⟩])
      (.block 2
       (.loop
        (.seq
         (.seq
          (.ops [⟨some 28, none, (.move (.tmp 6))⟩,
            ⟨some 29, none, (.move (.tmp 1))⟩,
            ⟨some 30, none, (.binOp .lss 3 (.tmp 28) (.tmp 29) 3)⟩])
          (.cond (.tmp 30)
           .skip
           (.exit 2)))
         (.block 3
          (.seq
           (.ops [⟨some 31, none, (.move (.tmp 6))⟩,
             ⟨some 32, none, (.binOp .mul 3 (.const (.int .i64 2)) (.tmp 31) 3)⟩,
             ⟨some 7, none, (.assign (.const (.int .i64 0)))⟩,
             ⟨some 8, none, (.assign (.tmp 32))⟩])
           (.seq
            (.block 4
             (.loop
              (.seq
               (.seq
                (.ops [⟨some 33, none, (.move (.tmp 8))⟩,
                  ⟨some 34, none, (.move (.tmp 1))⟩,
                  ⟨some 35, none, (.binOp .leq 3 (.tmp 33) (.tmp 34) 3)⟩])
                (.cond (.tmp 35)
                 .skip
                 (.exit 4)))
               (.block 5
                (.seq
                 (.ops [⟨some 36, none, (.move (.tmp 0))⟩,
                   ⟨some 37, none, (.move (.tmp 7))⟩,
                   ⟨some 38, none, (.move (.tmp 7))⟩,
                   ⟨some 39, none, (.move (.tmp 6))⟩,
                   ⟨some 40, none, (.binOp .add 3 (.tmp 38) (.tmp 39) 3)⟩,
                   ⟨some 41, none, (.move (.tmp 8))⟩,
                   ⟨some 42, none, (.move (.tmp 2))⟩,
                   ⟨some 43, none, (.call ⟨(.value (.func 191)), #[(.tmp 36), (.tmp 37), (.tmp 40), (.tmp 41), (.tmp 42)], #[43, 3, 3, 3, 129]⟩)⟩])
                 (.seq
                  (.ops [⟨some 44, none, (.move (.tmp 8))⟩,
                    ⟨some 7, none, (.assign (.tmp 44))⟩])
                  (.ops [⟨some 45, none, (.move (.tmp 8))⟩,
                    ⟨some 46, none, (.move (.tmp 6))⟩,
                    ⟨some 47, none, (.binOp .mul 3 (.const (.int .i64 2)) (.tmp 46) 3)⟩,
                    ⟨some 48, none, (.binOp .add 3 (.tmp 45) (.tmp 47) 3)⟩,
                    ⟨some 8, none, (.assign (.tmp 48))⟩])))))))
            (.seq
             (.seq
              (.ops [⟨some 49, none, (.move (.tmp 7))⟩,
                ⟨some 50, none, (.move (.tmp 6))⟩,
                ⟨some 51, none, (.binOp .add 3 (.tmp 49) (.tmp 50) 3)⟩,
                ⟨some 9, none, (.assign (.tmp 51))⟩])
              (.seq
               (.ops [⟨some 52, none, (.move (.tmp 9))⟩,
                 ⟨some 53, none, (.move (.tmp 1))⟩,
                 ⟨some 54, none, (.binOp .lss 3 (.tmp 52) (.tmp 53) 3)⟩])
               (.cond (.tmp 54)
                (.ops [⟨some 55, none, (.move (.tmp 0))⟩,
                  ⟨some 56, none, (.move (.tmp 7))⟩,
                  ⟨some 57, none, (.move (.tmp 9))⟩,
                  ⟨some 58, none, (.move (.tmp 1))⟩,
                  ⟨some 59, none, (.move (.tmp 2))⟩,
                  ⟨some 60, none, (.call ⟨(.value (.func 191)), #[(.tmp 55), (.tmp 56), (.tmp 57), (.tmp 58), (.tmp 59)], #[43, 3, 3, 3, 129]⟩)⟩])
                .skip)))
             (.ops [⟨some 61, none, (.move (.tmp 6))⟩,
               ⟨some 62, none, (.binOp .mul 3 (.tmp 61) (.const (.int .i64 2)) 3)⟩,
               ⟨some 6, none, (.assign (.tmp 62))⟩]))))))))))))
theorem w177 {args : Array Value} {H : AH} {Φ : Value → AH → Prop} (h : rW Try.prog k177 [] (fin Try.prog [] Φ) (tm0 args) H) : CallsA Try.prog 177 args H Φ :=
  CallsA.w k177 [] (fun _ => []) Try.func177 rfl rfl (by kernel_rfl) (by kernel_rfl) h

/-- slices.SortStableFunc[[]int,int] -/
def k140 : KC :=
  (.ops [⟨some 4, none, (.move (.tmp 0))⟩,
    ⟨some 5, none, (.move (.tmp 0))⟩,
    ⟨some 6, none, (.call ⟨(.builtin .len), #[(.tmp 5)], #[43]⟩)⟩,
    ⟨some 7, none, (.move (.tmp 1))⟩,
    ⟨some 8, none, (.call ⟨(.value (.func 177)), #[(.tmp 4), (.tmp 6), (.tmp 7)], #[43, 3, 129]⟩)⟩])
theorem w140 {args : Array Value} {H : AH} {Φ : Value → AH → Prop} (h : rW Try.prog k140 [] (fin Try.prog [] Φ) (tm0 args) H) : CallsA Try.prog 140 args H Φ :=
  CallsA.w k140 [] (fun _ => []) Try.func140 rfl rfl (by kernel_rfl) (by kernel_rfl) h

/-- cmp.isNaN[int] -/
def k178 : KC :=
  (.seq
   (.ops [⟨some 2, none, (.assign (.const (.bool false)))⟩])
   (.seq
    (.ops [⟨some 3, none, (.move (.tmp 0))⟩,
      ⟨some 4, none, (.move (.tmp 0))⟩,
      ⟨some 5, none, (.binOp .neq 3 (.tmp 3) (.tmp 4) 3)⟩,
      ⟨some 2, none, (.assign (.tmp 5))⟩])
    .ret))
theorem w178 {args : Array Value} {H : AH} {Φ : Value → AH → Prop} (h : rW Try.prog k178 [] (fin Try.prog [(.tmp 2)] Φ) (tm0 args) H) : CallsA Try.prog 178 args H Φ :=
  CallsA.w k178 [(.tmp 2)] (fun _ => []) Try.func178 rfl rfl (by kernel_rfl) (by kernel_rfl) h

/-- cmp.Compare[int] -/
def k142 : KC :=
  (.seq
   (.ops [⟨some 4, none, (.assign (.const (.int .i64 0)))⟩])
   (.seq
    (.ops [⟨some 7, none, (.move (.tmp 0))⟩,
      ⟨some 8, none, (.call ⟨(.value (.func 178)), #[(.tmp 7)], #[3]⟩)⟩,
      ⟨some 5, none, (.assign (.tmp 8))⟩])
    (.seq
     (.ops [⟨some 9, none, (.move (.tmp 1))⟩,
       ⟨some 10, none, (.call ⟨(.value (.func 178)), #[(.tmp 9)], #[3]⟩)⟩,
       ⟨some 6, none, (.assign (.tmp 10))⟩])
     (.seq
      (.seq
       (.ops [⟨some 11, none, (.move (.tmp 5))⟩])
       (.cond (.tmp 11)
        (.seq
         (.seq
          (.ops [⟨some 12, none, (.move (.tmp 6))⟩])
          (.cond (.tmp 12)
           (.seq
            (.ops [⟨some 4, none, (.assign (.const (.int .i64 0)))⟩])
            .ret)
           .skip))
         (.seq
          (.ops [⟨some 4, none, (.assign (.const (.int .i64 (-1))))⟩])
          .ret))
        .skip))
      (.seq
       (.seq
        (.ops [⟨some 13, none, (.move (.tmp 6))⟩])
        (.cond (.tmp 13)
         (.seq
          (.ops [⟨some 4, none, (.assign (.const (.int .i64 1)))⟩])
          .ret)
         .skip))
       (.seq
        (.seq
         (.ops [⟨some 14, none, (.move (.tmp 0))⟩,
           ⟨some 15, none, (.move (.tmp 1))⟩,
           ⟨some 16, none, (.binOp .lss 3 (.tmp 14) (.tmp 15) 3)⟩])
         (.cond (.tmp 16)
          (.seq
           (.ops [⟨some 4, none, (.assign (.const (.int .i64 (-1))))⟩])
           .ret)
          .skip))
        (.seq
         (.seq
          (.ops [⟨some 17, none, (.move (.tmp 0))⟩,
            ⟨some 18, none, (.move (.tmp 1))⟩,
            ⟨some 19, none, (.binOp .gtr 3 (.tmp 17) (.tmp 18) 3)⟩])
          (.cond (.tmp 19)
           (.seq
            (.ops [⟨some 4, none, (.assign (.const (.int .i64 1)))⟩])
            .ret)
           .skip))
         (.seq
          (.ops [⟨some 4, none, (.assign (.const (.int .i64 0)))⟩])
          .ret))))))))
theorem w142 {args : Array Value} {H : AH} {Φ : Value → AH → Prop} (h : rW Try.prog k142 [] (fin Try.prog [(.tmp 4)] Φ) (tm0 args) H) : CallsA Try.prog 142 args H Φ :=
  CallsA.w k142 [(.tmp 4)] (fun _ => []) Try.func142 rfl rfl (by kernel_rfl) (by kernel_rfl) h

/-- impl.Grade$1 -/
def k141 : KC :=
  (.seq
   (.ops [⟨some 5, none, (.assign (.const (.int .i64 0)))⟩])
   (.seq
    (.draw #[] [(1, 0), (4, 0), (6, 0), (9, 0)]
      [⟨some 6, none, (.fieldAddr 45 (.tmp 2) 1)⟩,
      ⟨some 7, none, (.load 43 (.tmp 6))⟩,
      ⟨some 8, none, (.move (.tmp 0))⟩,
      ⟨some 9, none, (.indexAddr 43 (.tmp 7) (.tmp 8))⟩,
      ⟨some 10, none, (.load 3 (.tmp 9))⟩,
      ⟨some 11, none, (.fieldAddr 45 (.tmp 2) 1)⟩,
      ⟨some 12, none, (.load 43 (.tmp 11))⟩,
      ⟨some 13, none, (.move (.tmp 1))⟩,
      ⟨some 14, none, (.indexAddr 43 (.tmp 12) (.tmp 13))⟩,
      ⟨some 15, none, (.load 3 (.tmp 14))⟩,
      ⟨some 16, none, (.call ⟨(.value (.func 142)), #[(.tmp 10), (.tmp 15)], #[3, 3]⟩)⟩,
      ⟨some 5, none, (.assign (.tmp 16))⟩])
    .ret))
theorem w141 {args : Array Value} {H : AH} {Φ : Value → AH → Prop} (h : rW Try.prog k141 [] (fin Try.prog [(.tmp 5)] Φ) (tm0 args) H) : CallsA Try.prog 141 args H Φ :=
  CallsA.w k141 [(.tmp 5)] (fun i => if i = 1 then [(1, 0), (4, 0), (6, 0), (9, 0)] else []) Try.func141 rfl rfl (by kernel_rfl) (by kernel_rfl) h

/-- impl.Grade -/
def k66 : KC :=
  (.seq
   (.ops [⟨some 1, none, (.box 45 (.tmp 0))⟩,
     ⟨some 2, none, (.alloc 45)⟩,
     ⟨some 3, none, (.assign (.const (.int .i64 0)))⟩])
   (.seq
    (.block 0
     (.seq
      (.ops [⟨some 7, none, (.load 45 (.tmp 1))⟩,
        ⟨some 8, none, (.call ⟨(.value (.func 47)), #[(.tmp 7)], #[45]⟩)⟩,
        ⟨some 9, none, (.unOp .not 4 (.tmp 8))⟩,
        ⟨some 6, none, (.assign (.tmp 9))⟩])
      (.cond (.tmp 6)
       (.seq
        (.ops [⟨some 10, none, (.build 45 #[])⟩,
          ⟨none, none, (.store 45 (.tmp 2) (.tmp 10))⟩,
          ⟨some 3, none, (.assign (.const (.int .i64 1)))⟩])
        .ret)
       (.seq
        (.ops [⟨some 12, none, (.fieldAddr 45 (.tmp 1) 0)⟩,
          ⟨some 13, none, (.load 43 (.tmp 12))⟩,
          ⟨some 14, none, (.call ⟨(.builtin .len), #[(.tmp 13)], #[43]⟩)⟩,
          ⟨some 15, none, (.binOp .neq 3 (.tmp 14) (.const (.int .i64 1)) 3)⟩,
          ⟨some 11, none, (.assign (.tmp 15))⟩])
        (.cond (.tmp 11)
         (.seq
          (.ops [⟨some 16, none, (.build 45 #[])⟩,
            ⟨none, none, (.store 45 (.tmp 2) (.tmp 16))⟩,
            ⟨some 3, none, (.assign (.const (.int .i64 4)))⟩])
          .ret)
         .skip)))))
    (.seq
     (.ops [⟨some 4, none, (.assign (.const (.slice none 0 0)))⟩])
     (.seq
      (.seq
       (.ops [⟨some 17, none, (.fieldAddr 45 (.tmp 1) 1)⟩,
         ⟨some 18, none, (.load 43 (.tmp 17))⟩,
         ⟨some 19, none, (.call ⟨(.builtin .len), #[(.tmp 18)], #[43]⟩)⟩,
         ⟨some 20, none, (.move (.const (.int .i64 0)))⟩])
       (.block 1
        (.loop
         (.seq
          (.ops [⟨some 21, none, (.binOp .lss 3 (.tmp 20) (.tmp 19) 3)⟩])
          (.seq
           (.cond (.tmp 21)
            .skip
            (.exit 1))
           (.seq
            (.block 2
             (.seq
              (.ops [⟨some 22, none, (.move (.tmp 20))⟩,
                ⟨some 5, none, (.assign (.tmp 22))⟩])
              (.ops [⟨some 23, none, (.move (.tmp 4))⟩,
                ⟨some 24, none, (.move (.tmp 5))⟩,
                ⟨some 25, none, (.buildSlice 43 1 #[(0, (.tmp 24))])⟩,
                ⟨some 26, none, (.call ⟨(.builtin .append), #[(.tmp 23), (.tmp 25)], #[43, 43]⟩)⟩,
                ⟨some 4, none, (.assign (.tmp 26))⟩])))
            (.ops [⟨some 27, none, (.binOp .add 3 (.tmp 20) (.const (.int .i64 1)) 3)⟩,
              ⟨some 20, none, (.move (.tmp 27))⟩])))))))
      (.seq
       (.ops [⟨some 28, none, (.move (.tmp 4))⟩,
         ⟨some 29, none, (.makeFunc (.func 141) #[] #[(.tmp 1)])⟩,
         ⟨some 30, none, (.call ⟨(.value (.func 140)), #[(.tmp 28), (.tmp 29)], #[43, 129]⟩)⟩])
       (.seq
        (.ops [⟨some 31, none, (.move (.tmp 4))⟩,
          ⟨some 32, none, (.call ⟨(.value (.func 101)), #[(.tmp 31)], #[43]⟩)⟩,
          ⟨none, none, (.store 45 (.tmp 2) (.tmp 32))⟩,
          ⟨some 3, none, (.assign (.const (.int .i64 0)))⟩])
        .ret))))))
theorem w66 {args : Array Value} {H : AH} {Φ : Value → AH → Prop} (h : rW Try.prog k66 [] (fin Try.prog [(.cell 2 45), (.tmp 3)] Φ) (tm0 args) H) : CallsA Try.prog 66 args H Φ :=
  CallsA.w k66 [(.cell 2 45), (.tmp 3)] (fun _ => []) Try.func66 rfl rfl (by kernel_rfl) (by kernel_rfl) h

/-- laws.eqIntS -/
def k143 : KC :=
  (.seq
   (.ops [⟨some 4, none, (.assign (.const (.bool false)))⟩])
   (.seq
    (.seq
     (.ops [⟨some 6, none, (.move (.tmp 0))⟩,
       ⟨some 7, none, (.call ⟨(.builtin .len), #[(.tmp 6)], #[43]⟩)⟩,
       ⟨some 8, none, (.move (.tmp 1))⟩,
       ⟨some 9, none, (.call ⟨(.builtin .len), #[(.tmp 8)], #[43]⟩)⟩,
       ⟨some 10, none, (.binOp .neq 3 (.tmp 7) (.tmp 9) 3)⟩])
     (.cond (.tmp 10)
      (.seq
       (.ops [⟨some 4, none, (.assign (.const (.bool false)))⟩])
       .ret)
      .skip))
    (.seq
     (.seq
      (.ops [⟨some 5, none, (.assign (.const (.int .i64 0)))⟩])
      (.block 0
       (.loop
        (.seq
         (.seq
          (.ops [⟨some 11, none, (.move (.tmp 5))⟩,
            ⟨some 12, none, (.move (.tmp 0))⟩,
            ⟨some 13, none, (.call ⟨(.builtin .len), #[(.tmp 12)], #[43]⟩)⟩,
            ⟨some 14, none, (.binOp .lss 3 (.tmp 11) (.tmp 13) 3)⟩])
          (.cond (.tmp 14)
           .skip
           (.exit 0)))
         (.seq
          (.block 1
           (.seq
            (.ops [⟨some 17, none, (.move (.tmp 0))⟩,
              ⟨some 18, none, (.move (.tmp 5))⟩,
              ⟨some 19, none, (.indexAddr 43 (.tmp 17) (.tmp 18))⟩,
              ⟨some 20, none, (.load 3 (.tmp 19))⟩,
              ⟨some 21, none, (.move (.tmp 1))⟩,
              ⟨some 22, none, (.move (.tmp 5))⟩,
              ⟨some 23, none, (.indexAddr 43 (.tmp 21) (.tmp 22))⟩,
              ⟨some 24, none, (.load 3 (.tmp 23))⟩,
              ⟨some 25, none, (.binOp .neq 3 (.tmp 20) (.tmp 24) 3)⟩])
            (.cond (.tmp 25)
             (.seq
              (.ops [⟨some 4, none, (.assign (.const (.bool false)))⟩])
              .ret)
             .skip)))
          (.ops [⟨some 15, none, (.move (.tmp 5))⟩,
            ⟨some 16, none, (.binOp .add 3 (.tmp 15) (.const (.int .i64 1)) 3)⟩,
            ⟨some 5, none, (.assign (.tmp 16))⟩]))))))
     (.seq
      (.ops [⟨some 4, none, (.assign (.const (.bool true)))⟩])
      .ret))))
theorem w143 {args : Array Value} {H : AH} {Φ : Value → AH → Prop} (h : rW Try.prog k143 [] (fin Try.prog [(.tmp 4)] Φ) (tm0 args) H) : CallsA Try.prog 143 args H Φ :=
  CallsA.w k143 [(.tmp 4)] (fun i => if i = 6 then [(3, 0), (7, 0)] else []) Try.func143 rfl rfl (by kernel_rfl) (by kernel_rfl) h

/-- laws.eqArray -/
def k67 : KC :=
  (.seq
   (.ops [⟨some 2, none, (.box 45 (.tmp 0))⟩,
     ⟨some 3, none, (.box 45 (.tmp 1))⟩,
     ⟨some 4, none, (.assign (.const (.bool false)))⟩])
   (.seq
    (.seq
     (.ops [⟨some 5, none, (.fieldAddr 45 (.tmp 2) 0)⟩,
       ⟨some 6, none, (.load 43 (.tmp 5))⟩,
       ⟨some 7, none, (.fieldAddr 45 (.tmp 3) 0)⟩,
       ⟨some 8, none, (.load 43 (.tmp 7))⟩,
       ⟨some 9, none, (.call ⟨(.value (.func 143)), #[(.tmp 6), (.tmp 8)], #[43, 43]⟩)⟩,
       ⟨some 10, none, (.unOp .not 4 (.tmp 9))⟩])
     (.cond (.tmp 10)
      (.seq
       (.ops [⟨some 4, none, (.assign (.const (.bool false)))⟩])
       .ret)
      .skip))
    (.seq
     (.seq
      (.ops [⟨some 11, none, (.fieldAddr 45 (.tmp 2) 1)⟩,
        ⟨some 12, none, (.load 43 (.tmp 11))⟩,
        ⟨some 13, none, (.fieldAddr 45 (.tmp 3) 1)⟩,
        ⟨some 14, none, (.load 43 (.tmp 13))⟩,
        ⟨some 15, none, (.call ⟨(.value (.func 143)), #[(.tmp 12), (.tmp 14)], #[43, 43]⟩)⟩,
        ⟨some 16, none, (.unOp .not 4 (.tmp 15))⟩])
      (.cond (.tmp 16)
       (.seq
        (.ops [⟨some 4, none, (.assign (.const (.bool false)))⟩])
        .ret)
       .skip))
     (.seq
      (.ops [⟨some 4, none, (.assign (.const (.bool true)))⟩])
      .ret))))
theorem w67 {args : Array Value} {H : AH} {Φ : Value → AH → Prop} (h : rW Try.prog k67 [] (fin Try.prog [(.tmp 4)] Φ) (tm0 args) H) : CallsA Try.prog 67 args H Φ :=
  CallsA.w k67 [(.tmp 4)] (fun _ => []) Try.func67 rfl rfl (by kernel_rfl) (by kernel_rfl) h

/-- laws.markIntS -/
def k78 : KC :=
  (.seq
   (.ops [⟨some 4, none, (.assign (.const (.int .i64 0)))⟩])
   (.seq
    (.seq
     (.ops [⟨some 5, none, (.assign (.const (.int .i64 0)))⟩])
     (.block 0
      (.loop
       (.seq
        (.seq
         (.ops [⟨some 6, none, (.move (.tmp 5))⟩,
           ⟨some 7, none, (.move (.tmp 0))⟩,
           ⟨some 8, none, (.call ⟨(.builtin .len), #[(.tmp 7)], #[43]⟩)⟩,
           ⟨some 9, none, (.binOp .lss 3 (.tmp 6) (.tmp 8) 3)⟩])
         (.cond (.tmp 9)
          .skip
          (.exit 0)))
        (.seq
         (.block 1
          (.seq
           (.ops [⟨some 12, none, (.move (.tmp 0))⟩,
             ⟨some 13, none, (.move (.tmp 5))⟩,
             ⟨some 14, none, (.move (.tmp 1))⟩,
             ⟨some 15, none, (.indexAddr 43 (.tmp 12) (.tmp 13))⟩,
             ⟨none, none, (.store 3 (.tmp 15) (.tmp 14))⟩])
           (.ops [⟨some 16, none, (.move (.tmp 1))⟩,
             ⟨some 17, none, (.binOp .add 3 (.tmp 16) (.const (.int .i64 1)) 3)⟩,
             ⟨some 1, none, (.assign (.tmp 17))⟩])))
         (.ops [⟨some 10, none, (.move (.tmp 5))⟩,
           ⟨some 11, none, (.binOp .add 3 (.tmp 10) (.const (.int .i64 1)) 3)⟩,
           ⟨some 5, none, (.assign (.tmp 11))⟩]))))))
    (.seq
     (.ops [⟨some 18, none, (.move (.tmp 1))⟩,
       ⟨some 4, none, (.assign (.tmp 18))⟩])
     .ret)))
theorem w78 {args : Array Value} {H : AH} {Φ : Value → AH → Prop} (h : rW Try.prog k78 [] (fin Try.prog [(.tmp 4)] Φ) (tm0 args) H) : CallsA Try.prog 78 args H Φ :=
  CallsA.w k78 [(.tmp 4)] (fun _ => []) Try.func78 rfl rfl (by kernel_rfl) (by kernel_rfl) h

/-- laws.markArray -/
def k68 : KC :=
  (.seq
   (.ops [⟨some 2, none, (.box 45 (.tmp 0))⟩,
     ⟨some 4, none, (.assign (.const (.int .i64 0)))⟩])
   (.seq
    (.ops [⟨some 5, none, (.fieldAddr 45 (.tmp 2) 0)⟩,
      ⟨some 6, none, (.load 43 (.tmp 5))⟩,
      ⟨some 7, none, (.move (.tmp 1))⟩,
      ⟨some 8, none, (.call ⟨(.value (.func 78)), #[(.tmp 6), (.tmp 7)], #[43, 3]⟩)⟩,
      ⟨some 1, none, (.assign (.tmp 8))⟩])
    (.seq
     (.ops [⟨some 9, none, (.fieldAddr 45 (.tmp 2) 1)⟩,
       ⟨some 10, none, (.load 43 (.tmp 9))⟩,
       ⟨some 11, none, (.move (.tmp 1))⟩,
       ⟨some 12, none, (.call ⟨(.value (.func 78)), #[(.tmp 10), (.tmp 11)], #[43, 3]⟩)⟩,
       ⟨some 1, none, (.assign (.tmp 12))⟩])
     (.seq
      (.ops [⟨some 13, none, (.move (.tmp 1))⟩,
        ⟨some 4, none, (.assign (.tmp 13))⟩])
      .ret))))
theorem w68 {args : Array Value} {H : AH} {Φ : Value → AH → Prop} (h : rW Try.prog k68 [] (fin Try.prog [(.tmp 4)] Φ) (tm0 args) H) : CallsA Try.prog 68 args H Φ :=
  CallsA.w k68 [(.tmp 4)] (fun _ => []) Try.func68 rfl rfl (by kernel_rfl) (by kernel_rfl) h

/-- laws.heldIntS -/
def k144 : KC :=
  (.seq
   (.ops [⟨some 4, none, (.assign (.const (.int .i64 0)))⟩])
   (.seq
    (.seq
     (.ops [⟨some 5, none, (.assign (.const (.int .i64 0)))⟩])
     (.block 0
      (.loop
       (.seq
        (.seq
         (.ops [⟨some 6, none, (.move (.tmp 5))⟩,
           ⟨some 7, none, (.move (.tmp 0))⟩,
           ⟨some 8, none, (.call ⟨(.builtin .len), #[(.tmp 7)], #[43]⟩)⟩,
           ⟨some 9, none, (.binOp .lss 3 (.tmp 6) (.tmp 8) 3)⟩])
         (.cond (.tmp 9)
          .skip
          (.exit 0)))
        (.seq
         (.block 1
          (.seq
           (.seq
            (.ops [⟨some 12, none, (.move (.tmp 0))⟩,
              ⟨some 13, none, (.move (.tmp 5))⟩,
              ⟨some 14, none, (.indexAddr 43 (.tmp 12) (.tmp 13))⟩,
              ⟨some 15, none, (.load 3 (.tmp 14))⟩,
              ⟨some 16, none, (.move (.tmp 1))⟩,
              ⟨some 17, none, (.binOp .neq 3 (.tmp 15) (.tmp 16) 3)⟩])
            (.cond (.tmp 17)
             (.seq
              (.ops [⟨some 4, none, (.assign (.const (.int .i64 (-1))))⟩])
              .ret)
             .skip))
           (.ops [⟨some 18, none, (.move (.tmp 1))⟩,
             ⟨some 19, none, (.binOp .add 3 (.tmp 18) (.const (.int .i64 1)) 3)⟩,
             ⟨some 1, none, (.assign (.tmp 19))⟩])))
         (.ops [⟨some 10, none, (.move (.tmp 5))⟩,
           ⟨some 11, none, (.binOp .add 3 (.tmp 10) (.const (.int .i64 1)) 3)⟩,
           ⟨some 5, none, (.assign (.tmp 11))⟩]))))))
    (.seq
     (.ops [⟨some 20, none, (.move (.tmp 1))⟩,
       ⟨some 4, none, (.assign (.tmp 20))⟩])
     .ret)))
theorem w144 {args : Array Value} {H : AH} {Φ : Value → AH → Prop} (h : rW Try.prog k144 [] (fin Try.prog [(.tmp 4)] Φ) (tm0 args) H) : CallsA Try.prog 144 args H Φ :=
  CallsA.w k144 [(.tmp 4)] (fun _ => []) Try.func144 rfl rfl (by kernel_rfl) (by kernel_rfl) h

/-- laws.heldArray -/
def k69 : KC :=
  (.seq
   (.ops [⟨some 2, none, (.box 45 (.tmp 0))⟩,
     ⟨some 4, none, (.assign (.const (.int .i64 0)))⟩])
   (.seq
    (.ops [⟨some 5, none, (.fieldAddr 45 (.tmp 2) 0)⟩,
      ⟨some 6, none, (.load 43 (.tmp 5))⟩,
      ⟨some 7, none, (.move (.tmp 1))⟩,
      ⟨some 8, none, (.call ⟨(.value (.func 144)), #[(.tmp 6), (.tmp 7)], #[43, 3]⟩)⟩,
      ⟨some 1, none, (.assign (.tmp 8))⟩])
    (.seq
     (.seq
      (.ops [⟨some 9, none, (.move (.tmp 1))⟩,
        ⟨some 10, none, (.binOp .lss 3 (.tmp 9) (.const (.int .i64 0)) 3)⟩])
      (.cond (.tmp 10)
       (.seq
        (.ops [⟨some 4, none, (.assign (.const (.int .i64 (-1))))⟩])
        .ret)
       .skip))
     (.seq
      (.ops [⟨some 11, none, (.fieldAddr 45 (.tmp 2) 1)⟩,
        ⟨some 12, none, (.load 43 (.tmp 11))⟩,
        ⟨some 13, none, (.move (.tmp 1))⟩,
        ⟨some 14, none, (.call ⟨(.value (.func 144)), #[(.tmp 12), (.tmp 13)], #[43, 3]⟩)⟩,
        ⟨some 1, none, (.assign (.tmp 14))⟩])
      (.seq
       (.seq
        (.ops [⟨some 15, none, (.move (.tmp 1))⟩,
          ⟨some 16, none, (.binOp .lss 3 (.tmp 15) (.const (.int .i64 0)) 3)⟩])
        (.cond (.tmp 16)
         (.seq
          (.ops [⟨some 4, none, (.assign (.const (.int .i64 (-1))))⟩])
          .ret)
         .skip))
       (.seq
        (.ops [⟨some 17, none, (.move (.tmp 1))⟩,
          ⟨some 4, none, (.assign (.tmp 17))⟩])
        .ret))))))
theorem w69 {args : Array Value} {H : AH} {Φ : Value → AH → Prop} (h : rW Try.prog k69 [] (fin Try.prog [(.tmp 4)] Φ) (tm0 args) H) : CallsA Try.prog 69 args H Φ :=
  CallsA.w k69 [(.tmp 4)] (fun _ => []) Try.func69 rfl rfl (by kernel_rfl) (by kernel_rfl) h

/-- laws.FnExactGrade -/
def k13 : KC :=
  (.seq
   (.ops [⟨some 1, none, (.box 77 (.tmp 0))⟩,
     ⟨some 2, none, (.assign (.const (.bool false)))⟩])
   (.seq
    (.ops [⟨some 3, none, (.assign (.const (.int .i64 1048576)))⟩])
    (.seq
     (.ops [⟨some 14, none, (.load 77 (.tmp 1))⟩,
       ⟨some 15, none, (.move (.tmp 3))⟩,
       ⟨some 16, none, (.call ⟨(.value (.func 63)), #[(.tmp 14), (.tmp 15)], #[77, 3]⟩)⟩,
       ⟨some 3, none, (.assign (.tmp 16))⟩])
     (.seq
      (.seq
       (.ops [⟨some 17, none, (.move (.tmp 3))⟩,
         ⟨some 18, none, (.binOp .lss 3 (.tmp 17) (.const (.int .i64 0)) 3)⟩])
       (.cond (.tmp 18)
        (.seq
         (.ops [⟨some 2, none, (.assign (.const (.bool true)))⟩])
         .ret)
        .skip))
      (.seq
       (.ops [⟨some 20, none, (.load 77 (.tmp 1))⟩,
         ⟨some 21, none, (.call ⟨(.value (.func 65)), #[(.tmp 20)], #[77]⟩)⟩,
         ⟨some 22, none, (.call ⟨(.value (.func 64)), #[(.tmp 21)], #[45]⟩)⟩,
         ⟨some 19, none, (.move (.tmp 22))⟩,
         ⟨some 23, none, (.extract (.tmp 19) 0)⟩,
         ⟨some 24, none, (.extract (.tmp 19) 1)⟩,
         ⟨some 4, none, (.alloc 45)⟩,
         ⟨none, none, (.store 45 (.tmp 4) (.tmp 23))⟩,
         ⟨some 5, none, (.assign (.tmp 24))⟩])
       (.seq
        (.ops [⟨some 25, none, (.load 77 (.tmp 1))⟩,
          ⟨some 26, none, (.call ⟨(.value (.func 65)), #[(.tmp 25)], #[77]⟩)⟩,
          ⟨some 6, none, (.alloc 45)⟩,
          ⟨none, none, (.store 45 (.tmp 6) (.tmp 26))⟩])
        (.seq
         (.ops [⟨some 28, none, (.load 45 (.tmp 6))⟩,
           ⟨some 29, none, (.call ⟨(.value (.func 66)), #[(.tmp 28)], #[45]⟩)⟩,
           ⟨some 27, none, (.move (.tmp 29))⟩,
           ⟨some 30, none, (.extract (.tmp 27) 0)⟩,
           ⟨some 31, none, (.extract (.tmp 27) 1)⟩,
           ⟨some 7, none, (.alloc 45)⟩,
           ⟨none, none, (.store 45 (.tmp 7) (.tmp 30))⟩,
           ⟨some 8, none, (.assign (.tmp 31))⟩])
         (.seq
          (.seq
           (.ops [⟨some 32, none, (.load 45 (.tmp 7))⟩,
             ⟨some 33, none, (.load 45 (.tmp 4))⟩,
             ⟨some 34, none, (.call ⟨(.value (.func 67)), #[(.tmp 32), (.tmp 33)], #[45, 45]⟩)⟩,
             ⟨some 35, none, (.unOp .not 4 (.tmp 34))⟩,
             ⟨some 36, none, (.move (.tmp 35))⟩,
             ⟨some 37, (some (36, false)), (.move (.tmp 8))⟩,
             ⟨some 38, (some (36, false)), (.move (.tmp 5))⟩,
             ⟨some 39, (some (36, false)), (.binOp .neq 3 (.tmp 37) (.tmp 38) 3)⟩,
             ⟨some 40, none, (.pick (.tmp 36) (.const (.bool true)) (.tmp 39))⟩])
           (.cond (.tmp 40)
            (.seq
             (.ops [⟨some 2, none, (.assign (.const (.bool false)))⟩])
             .ret)
            .skip))
          (.seq
           (.seq
            (.draw #[] [(0, 0), (0, 3), (1, 0)]
              [⟨some 41, none, (.load 45 (.tmp 6))⟩,
              ⟨some 42, none, (.load 77 (.tmp 1))⟩,
              ⟨some 43, none, (.call ⟨(.value (.func 65)), #[(.tmp 42)], #[77]⟩)⟩,
              ⟨some 44, none, (.call ⟨(.value (.func 67)), #[(.tmp 41), (.tmp 43)], #[45, 45]⟩)⟩,
              ⟨some 45, none, (.unOp .not 4 (.tmp 44))⟩])
            (.cond (.tmp 45)
             (.seq
              (.ops [⟨some 2, none, (.assign (.const (.bool false)))⟩])
              .ret)
             .skip))
           (.seq
            (.ops [⟨some 9, none, (.assign (.const (.int .i64 1)))⟩])
            (.seq
             (.ops [⟨some 46, none, (.load 45 (.tmp 6))⟩,
               ⟨some 47, none, (.move (.tmp 9))⟩,
               ⟨some 48, none, (.call ⟨(.value (.func 68)), #[(.tmp 46), (.tmp 47)], #[45, 3]⟩)⟩,
               ⟨some 9, none, (.assign (.tmp 48))⟩])
             (.seq
              (.seq
               (.ops [⟨some 49, none, (.move (.tmp 9))⟩,
                 ⟨some 50, none, (.binOp .lss 3 (.tmp 49) (.const (.int .i64 0)) 3)⟩,
                 ⟨some 51, none, (.move (.tmp 50))⟩,
                 ⟨some 52, (some (51, false)), (.load 45 (.tmp 7))⟩,
                 ⟨some 53, (some (51, false)), (.load 45 (.tmp 4))⟩,
                 ⟨some 54, (some (51, false)), (.call ⟨(.value (.func 67)), #[(.tmp 52), (.tmp 53)], #[45, 45]⟩)⟩,
                 ⟨some 55, (some (51, false)), (.unOp .not 4 (.tmp 54))⟩,
                 ⟨some 56, none, (.pick (.tmp 51) (.const (.bool true)) (.tmp 55))⟩,
                 ⟨some 57, none, (.move (.tmp 56))⟩,
                 ⟨some 58, (some (57, false)), (.move (.tmp 8))⟩,
                 ⟨some 59, (some (57, false)), (.move (.tmp 5))⟩,
                 ⟨some 60, (some (57, false)), (.binOp .neq 3 (.tmp 58) (.tmp 59) 3)⟩,
                 ⟨some 61, none, (.pick (.tmp 57) (.const (.bool true)) (.tmp 60))⟩])
               (.cond (.tmp 61)
                (.seq
                 (.ops [⟨some 2, none, (.assign (.const (.bool false)))⟩])
                 .ret)
                .skip))
              (.seq
               (.ops [⟨some 10, none, (.assign (.const (.int .i64 1)))⟩])
               (.seq
                (.ops [⟨some 62, none, (.load 45 (.tmp 7))⟩,
                  ⟨some 63, none, (.move (.tmp 10))⟩,
                  ⟨some 64, none, (.call ⟨(.value (.func 68)), #[(.tmp 62), (.tmp 63)], #[45, 3]⟩)⟩,
                  ⟨some 10, none, (.assign (.tmp 64))⟩])
                (.seq
                 (.ops [⟨some 11, none, (.assign (.const (.int .i64 1)))⟩])
                 (.seq
                  (.ops [⟨some 65, none, (.load 45 (.tmp 7))⟩,
                    ⟨some 66, none, (.move (.tmp 11))⟩,
                    ⟨some 67, none, (.call ⟨(.value (.func 69)), #[(.tmp 65), (.tmp 66)], #[45, 3]⟩)⟩,
                    ⟨some 11, none, (.assign (.tmp 67))⟩])
                  (.seq
                   (.seq
                    (.ops [⟨some 68, none, (.move (.tmp 11))⟩,
                      ⟨some 69, none, (.binOp .lss 3 (.tmp 68) (.const (.int .i64 0)) 3)⟩])
                    (.cond (.tmp 69)
                     (.seq
                      (.ops [⟨some 2, none, (.assign (.const (.bool false)))⟩])
                      .ret)
                     .skip))
                   (.seq
                    (.seq
                     (.ops [⟨some 70, none, (.move (.tmp 11))⟩,
                       ⟨some 71, none, (.move (.tmp 10))⟩,
                       ⟨some 72, none, (.binOp .neq 3 (.tmp 70) (.tmp 71) 3)⟩])
                     (.cond (.tmp 72)
                      (.seq
                       (.ops [⟨some 2, none, (.assign (.const (.bool false)))⟩])
                       .ret)
                      .skip))
                    (.seq
                     (.ops [⟨some 74, none, (.load 77 (.tmp 1))⟩,
                       ⟨some 75, none, (.call ⟨(.value (.func 65)), #[(.tmp 74)], #[77]⟩)⟩,
                       ⟨some 76, none, (.call ⟨(.value (.func 66)), #[(.tmp 75)], #[45]⟩)⟩,
                       ⟨some 73, none, (.move (.tmp 76))⟩,
                       ⟨some 77, none, (.extract (.tmp 73) 0)⟩,
                       ⟨some 78, none, (.extract (.tmp 73) 1)⟩,
                       ⟨some 12, none, (.alloc 45)⟩,
                       ⟨none, none, (.store 45 (.tmp 12) (.tmp 77))⟩,
                       ⟨some 13, none, (.assign (.tmp 78))⟩])
                     (.seq
                      (.seq
                       (.ops [⟨some 79, none, (.load 45 (.tmp 12))⟩,
                         ⟨some 80, none, (.load 45 (.tmp 4))⟩,
                         ⟨some 81, none, (.call ⟨(.value (.func 67)), #[(.tmp 79), (.tmp 80)], #[45, 45]⟩)⟩,
                         ⟨some 82, none, (.unOp .not 4 (.tmp 81))⟩,
                         ⟨some 83, none, (.move (.tmp 82))⟩,
                         ⟨some 84, (some (83, false)), (.move (.tmp 13))⟩,
                         ⟨some 85, (some (83, false)), (.move (.tmp 5))⟩,
                         ⟨some 86, (some (83, false)), (.binOp .neq 3 (.tmp 84) (.tmp 85) 3)⟩,
                         ⟨some 87, none, (.pick (.tmp 83) (.const (.bool true)) (.tmp 86))⟩])
                       (.cond (.tmp 87)
                        (.seq
                         (.ops [⟨some 2, none, (.assign (.const (.bool false)))⟩])
                         .ret)
                        .skip))
                      (.seq
                       (.ops [⟨some 11, none, (.assign (.const (.int .i64 1)))⟩])
                       (.seq
                        (.ops [⟨some 88, none, (.load 45 (.tmp 7))⟩,
                          ⟨some 89, none, (.move (.tmp 11))⟩,
                          ⟨some 90, none, (.call ⟨(.value (.func 69)), #[(.tmp 88), (.tmp 89)], #[45, 3]⟩)⟩,
                          ⟨some 11, none, (.assign (.tmp 90))⟩])
                        (.seq
                         (.seq
                          (.ops [⟨some 91, none, (.move (.tmp 11))⟩,
                            ⟨some 92, none, (.binOp .lss 3 (.tmp 91) (.const (.int .i64 0)) 3)⟩])
                          (.cond (.tmp 92)
                           (.seq
                            (.ops [⟨some 2, none, (.assign (.const (.bool false)))⟩])
                            .ret)
                           .skip))
                         (.seq
                          (.seq
                           (.ops [⟨some 93, none, (.move (.tmp 11))⟩,
                             ⟨some 94, none, (.move (.tmp 10))⟩,
                             ⟨some 95, none, (.binOp .neq 3 (.tmp 93) (.tmp 94) 3)⟩])
                           (.cond (.tmp 95)
                            (.seq
                             (.ops [⟨some 2, none, (.assign (.const (.bool false)))⟩])
                             .ret)
                            .skip))
                          (.seq
                           (.ops [⟨some 2, none, (.assign (.const (.bool true)))⟩])
                           .ret)))))))))))))))))))))))))
theorem w13 {args : Array Value} {H : AH} {Φ : Value → AH → Prop} (h : rW Try.prog k13 [] (fin Try.prog [(.tmp 2)] Φ) (tm0 args) H) : CallsA Try.prog 13 args H Φ :=
  CallsA.w k13 [(.tmp 2)] (fun i => if i = 10 then [(0, 0), (0, 3), (1, 0)] else []) Try.func13 rfl rfl (by kernel_rfl) (by kernel_rfl) h

end Go.Proofs.Ytgekbancaeabgaa.AM
