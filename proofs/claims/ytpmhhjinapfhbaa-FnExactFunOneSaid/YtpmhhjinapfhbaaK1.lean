/- Functions of the program, and what they answer. -/
import Derived.Test.YtpmhhjinapfhbaaA7
import Derived.Test.YtpmhhjinapfhbaaA6
import Derived.KernelRfl
import Derived.Test.YtpmhhjinapfhbaaRows
set_option linter.unusedVariables false
set_option linter.unusedSimpArgs false
namespace Go.Proofs.Ytpmhhjinapfhbaa.AM
open Go Go.Proofs.Ytpmhhjinapfhbaa Go.Proofs

theorem al25 {ev : Operand → Value} : aMake Try.prog ev (.alloc 25) = some ([.int .i64 0, .int .i64 0, .int .i64 0], none) := by kernel_rfl
theorem cv5_3 {k : IntKind} {n : Int} {G : Hp} : aConv Try.prog 5 3 (.int k n) G = some (.int .i64 (IntKind.i64.wrap n)) := conv_int (e := .int .u8) (by kernel_rfl) (by kernel_rfl)
theorem fa23_0 {b o : Nat} : aFieldAddr Try.prog 23 (.pointer (some ⟨b, o, none⟩)) 0 = some (.pointer (some ⟨b, o + 0, none⟩)) := by kernel_rfl
theorem fa23_1 {b o : Nat} : aFieldAddr Try.prog 23 (.pointer (some ⟨b, o, none⟩)) 1 = some (.pointer (some ⟨b, o + 1, none⟩)) := by kernel_rfl
theorem fa23_2 {b o : Nat} : aFieldAddr Try.prog 23 (.pointer (some ⟨b, o, none⟩)) 2 = some (.pointer (some ⟨b, o + 2, none⟩)) := by kernel_rfl
theorem fa25_0 {b o : Nat} : aFieldAddr Try.prog 25 (.pointer (some ⟨b, o, none⟩)) 0 = some (.pointer (some ⟨b, o + 0, none⟩)) := by kernel_rfl
theorem fa25_1 {b o : Nat} : aFieldAddr Try.prog 25 (.pointer (some ⟨b, o, none⟩)) 1 = some (.pointer (some ⟨b, o + 1, none⟩)) := by kernel_rfl
theorem fa25_2 {b o : Nat} : aFieldAddr Try.prog 25 (.pointer (some ⟨b, o, none⟩)) 2 = some (.pointer (some ⟨b, o + 2, none⟩)) := by kernel_rfl
theorem us9 : Try.prog.underlying 9 = some .string := by kernel_rfl
theorem ld3 {o : Nat} {cs : List Value} : ld Try.prog 3 o cs = cs[o]? := ld_one (by kernel_rfl)
theorem ld23 {o : Nat} {cs : List Value} : ld Try.prog 23 o cs = aggAt 3 o cs := ld_agg (by kernel_rfl) (by kernel_rfl)
theorem ld25 {o : Nat} {cs : List Value} : ld Try.prog 25 o cs = aggAt 3 o cs := ld_agg (by kernel_rfl) (by kernel_rfl)
theorem ln9 {s : ByteArray} : aLen Try.prog #[9] #[.string s] = some (.int .i64 s.size) := by kernel_rfl
theorem st3 {b o : Nat} {v : Value} {H : AH} : aStore Try.prog 3 (.pointer (some ⟨b, o, none⟩)) v H = sto 1 b o v H (wrt H b) := store_eq (by kernel_rfl)
theorem st25 {b o : Nat} {v : Value} {H : AH} : aStore Try.prog 25 (.pointer (some ⟨b, o, none⟩)) v H = sto 3 b o v H (wrt H b) := store_eq (by kernel_rfl)
theorem ub4 : Try.prog.underlying 4 = some .bool := by kernel_rfl

/-- spec.l1Sign1 -/
def k40 : KC :=
  (.seq
   (.ops [⟨some 2, none, (.assign (.const (.bool false)))⟩])
   (.seq
    (.ops [⟨some 3, none, (.move (.tmp 0))⟩,
      ⟨some 4, none, (.binOp .eql 3 (.tmp 3) (.const (.int .i64 43)) 3)⟩,
      ⟨some 5, none, (.move (.tmp 4))⟩,
      ⟨some 6, (some (5, false)), (.move (.tmp 0))⟩,
      ⟨some 7, (some (5, false)), (.binOp .eql 3 (.tmp 6) (.const (.int .i64 45)) 3)⟩,
      ⟨some 8, none, (.pick (.tmp 5) (.const (.bool true)) (.tmp 7))⟩,
      ⟨some 9, none, (.move (.tmp 8))⟩,
      ⟨some 10, (some (9, false)), (.move (.tmp 0))⟩,
      ⟨some 11, (some (9, false)), (.binOp .eql 3 (.tmp 10) (.const (.int .i64 42)) 3)⟩,
      ⟨some 12, none, (.pick (.tmp 9) (.const (.bool true)) (.tmp 11))⟩,
      ⟨some 13, none, (.move (.tmp 12))⟩,
      ⟨some 14, (some (13, false)), (.move (.tmp 0))⟩,
      ⟨some 15, (some (13, false)), (.binOp .eql 3 (.tmp 14) (.const (.int .i64 124)) 3)⟩,
      ⟨some 16, none, (.pick (.tmp 13) (.const (.bool true)) (.tmp 15))⟩,
      ⟨some 17, none, (.move (.tmp 16))⟩,
      ⟨some 18, (some (17, false)), (.move (.tmp 0))⟩,
      ⟨some 19, (some (17, false)), (.binOp .eql 3 (.tmp 18) (.const (.int .i64 126)) 3)⟩,
      ⟨some 20, none, (.pick (.tmp 17) (.const (.bool true)) (.tmp 19))⟩,
      ⟨some 2, none, (.assign (.tmp 20))⟩])
    .ret))
theorem w40 {args : Array Value} {H : AH} {Φ : Value → AH → Prop} (h : rW Try.prog k40 [] (fin Try.prog [(.tmp 2)] Φ) (tm0 args) H) : CallsA Try.prog 40 args H Φ :=
  CallsA.w k40 [(.tmp 2)] (fun _ => []) Try.func40 rfl rfl (by kernel_rfl) (by kernel_rfl) h

/-- spec.l1Sign2 -/
def k39 : KC :=
  (.seq
   (.ops [⟨some 2, none, (.assign (.const (.bool false)))⟩])
   (.seq
    (.ops [⟨some 3, none, (.move (.tmp 0))⟩,
      ⟨some 4, none, (.binOp .eql 3 (.tmp 3) (.const (.int .i64 43)) 3)⟩,
      ⟨some 5, none, (.move (.tmp 4))⟩,
      ⟨some 6, (some (5, false)), (.move (.tmp 0))⟩,
      ⟨some 7, (some (5, false)), (.binOp .eql 3 (.tmp 6) (.const (.int .i64 45)) 3)⟩,
      ⟨some 8, none, (.pick (.tmp 5) (.const (.bool true)) (.tmp 7))⟩,
      ⟨some 9, none, (.move (.tmp 8))⟩,
      ⟨some 10, (some (9, false)), (.move (.tmp 0))⟩,
      ⟨some 11, (some (9, false)), (.binOp .eql 3 (.tmp 10) (.const (.int .i64 42)) 3)⟩,
      ⟨some 12, none, (.pick (.tmp 9) (.const (.bool true)) (.tmp 11))⟩,
      ⟨some 13, none, (.move (.tmp 12))⟩,
      ⟨some 14, (some (13, false)), (.move (.tmp 0))⟩,
      ⟨some 15, (some (13, false)), (.binOp .eql 3 (.tmp 14) (.const (.int .i64 37)) 3)⟩,
      ⟨some 16, none, (.pick (.tmp 13) (.const (.bool true)) (.tmp 15))⟩,
      ⟨some 17, none, (.move (.tmp 16))⟩,
      ⟨some 18, (some (17, false)), (.move (.tmp 0))⟩,
      ⟨some 19, (some (17, false)), (.binOp .eql 3 (.tmp 18) (.const (.int .i64 124)) 3)⟩,
      ⟨some 20, none, (.pick (.tmp 17) (.const (.bool true)) (.tmp 19))⟩,
      ⟨some 21, none, (.move (.tmp 20))⟩,
      ⟨some 22, (some (21, false)), (.move (.tmp 0))⟩,
      ⟨some 23, (some (21, false)), (.binOp .eql 3 (.tmp 22) (.const (.int .i64 38)) 3)⟩,
      ⟨some 24, none, (.pick (.tmp 21) (.const (.bool true)) (.tmp 23))⟩,
      ⟨some 25, none, (.move (.tmp 24))⟩,
      ⟨some 26, (some (25, false)), (.move (.tmp 0))⟩,
      ⟨some 27, (some (25, false)), (.binOp .eql 3 (.tmp 26) (.const (.int .i64 94)) 3)⟩,
      ⟨some 28, none, (.pick (.tmp 25) (.const (.bool true)) (.tmp 27))⟩,
      ⟨some 29, none, (.move (.tmp 28))⟩,
      ⟨some 30, (some (29, false)), (.move (.tmp 0))⟩,
      ⟨some 31, (some (29, false)), (.binOp .eql 3 (.tmp 30) (.const (.int .i64 61)) 3)⟩,
      ⟨some 32, none, (.pick (.tmp 29) (.const (.bool true)) (.tmp 31))⟩,
      ⟨some 33, none, (.move (.tmp 32))⟩,
      ⟨some 34, (some (33, false)), (.move (.tmp 0))⟩,
      ⟨some 35, (some (33, false)), (.binOp .eql 3 (.tmp 34) (.const (.int .i64 60)) 3)⟩,
      ⟨some 36, none, (.pick (.tmp 33) (.const (.bool true)) (.tmp 35))⟩,
      ⟨some 37, none, (.move (.tmp 36))⟩,
      ⟨some 38, (some (37, false)), (.move (.tmp 0))⟩,
      ⟨some 39, (some (37, false)), (.binOp .eql 3 (.tmp 38) (.const (.int .i64 62)) 3)⟩,
      ⟨some 40, none, (.pick (.tmp 37) (.const (.bool true)) (.tmp 39))⟩,
      ⟨some 2, none, (.assign (.tmp 40))⟩])
    .ret))
theorem w39 {args : Array Value} {H : AH} {Φ : Value → AH → Prop} (h : rW Try.prog k39 [] (fin Try.prog [(.tmp 2)] Φ) (tm0 args) H) : CallsA Try.prog 39 args H Φ :=
  CallsA.w k39 [(.tmp 2)] (fun _ => []) Try.func39 rfl rfl (by kernel_rfl) (by kernel_rfl) h

/-- impl.oneSign -/
def k41 : KC :=
  (.seq
   (.ops [⟨some 2, none, (.assign (.const (.bool false)))⟩])
   (.seq
    (.ops [⟨some 3, none, (.move (.tmp 0))⟩,
      ⟨some 4, none, (.call ⟨(.value (.func 42)), #[(.const (.string ⟨#[43, 45, 42, 124, 126]⟩)), (.tmp 3)], #[9, 3]⟩)⟩,
      ⟨some 2, none, (.assign (.tmp 4))⟩])
    .ret))
theorem w41 {args : Array Value} {H : AH} {Φ : Value → AH → Prop} (h : rW Try.prog k41 [] (fin Try.prog [(.tmp 2)] Φ) (tm0 args) H) : CallsA Try.prog 41 args H Φ :=
  CallsA.w k41 [(.tmp 2)] (fun _ => []) Try.func41 rfl rfl (by kernel_rfl) (by kernel_rfl) h

/-- impl.hasSign -/
def k42 : KC :=
  (.seq
   (.ops [⟨some 4, none, (.assign (.const (.bool false)))⟩])
   (.seq
    (.seq
     (.ops [⟨some 5, none, (.assign (.const (.int .i64 0)))⟩])
     (.block 0
      (.loop
       (.seq
        (.seq
         (.ops [⟨some 6, none, (.move (.tmp 5))⟩,
           ⟨some 7, none, (.move (.tmp 0))⟩,
           ⟨some 8, none, (.call ⟨(.builtin .len), #[(.tmp 7)], #[9]⟩)⟩,
           ⟨some 9, none, (.binOp .lss 3 (.tmp 6) (.tmp 8) 3)⟩])
         (.cond (.tmp 9)
          .skip
          (.exit 0)))
        (.seq
         (.block 1
          (.seq
           (.ops [⟨some 12, none, (.move (.tmp 0))⟩,
             ⟨some 13, none, (.move (.tmp 5))⟩,
             ⟨some 14, none, (.index 9 (.tmp 12) (.tmp 13))⟩,
             ⟨some 15, none, (.convert 5 3 (.tmp 14))⟩,
             ⟨some 16, none, (.move (.tmp 1))⟩,
             ⟨some 17, none, (.binOp .eql 3 (.tmp 15) (.tmp 16) 3)⟩])
           (.cond (.tmp 17)
            (.seq
             (.ops [⟨some 4, none, (.assign (.const (.bool true)))⟩])
             .ret)
            .skip)))
         (.ops [⟨some 10, none, (.move (.tmp 5))⟩,
           ⟨some 11, none, (.binOp .add 3 (.tmp 10) (.const (.int .i64 1)) 3)⟩,
           ⟨some 5, none, (.assign (.tmp 11))⟩]))))))
    (.seq
     (.ops [⟨some 4, none, (.assign (.const (.bool false)))⟩])
     .ret)))
theorem w42 {args : Array Value} {H : AH} {Φ : Value → AH → Prop} (h : rW Try.prog k42 [] (fin Try.prog [(.tmp 4)] Φ) (tm0 args) H) : CallsA Try.prog 42 args H Φ :=
  CallsA.w k42 [(.tmp 4)] (fun _ => []) Try.func42 rfl rfl (by kernel_rfl) (by kernel_rfl) h

/-- impl.twoSign -/
def k43 : KC :=
  (.seq
   (.ops [⟨some 2, none, (.assign (.const (.bool false)))⟩])
   (.seq
    (.ops [⟨some 3, none, (.move (.tmp 0))⟩,
      ⟨some 4, none, (.call ⟨(.value (.func 42)), #[(.const (.string ⟨#[43, 45, 42, 37, 124, 38, 94, 61, 60, 62]⟩)), (.tmp 3)], #[9, 3]⟩)⟩,
      ⟨some 2, none, (.assign (.tmp 4))⟩])
    .ret))
theorem w43 {args : Array Value} {H : AH} {Φ : Value → AH → Prop} (h : rW Try.prog k43 [] (fin Try.prog [(.tmp 2)] Φ) (tm0 args) H) : CallsA Try.prog 43 args H Φ :=
  CallsA.w k43 [(.tmp 2)] (fun _ => []) Try.func43 rfl rfl (by kernel_rfl) (by kernel_rfl) h

/-- spec.FunOne -/
def k10 : KC :=
  (.seq
   (.ops [⟨some 1, none, (.box 25 (.tmp 0))⟩,
     ⟨some 2, none, (.assign (.const (.bool false)))⟩])
   (.seq
    (.block 0
     (.seq
      (.ops [⟨some 4, none, (.fieldAddr 25 (.tmp 1) 2)⟩,
        ⟨some 5, none, (.load 3 (.tmp 4))⟩,
        ⟨some 6, none, (.binOp .neq 3 (.tmp 5) (.const (.int .i64 0)) 3)⟩,
        ⟨some 3, none, (.assign (.tmp 6))⟩])
      (.cond (.tmp 3)
       (.seq
        (.ops [⟨some 2, none, (.assign (.const (.bool false)))⟩])
        .ret)
       (.seq
        (.ops [⟨some 8, none, (.fieldAddr 25 (.tmp 1) 1)⟩,
          ⟨some 9, none, (.load 3 (.tmp 8))⟩,
          ⟨some 10, none, (.binOp .eql 3 (.tmp 9) (.const (.int .i64 47)) 3)⟩,
          ⟨some 11, none, (.move (.tmp 10))⟩,
          ⟨some 12, (some (11, false)), (.fieldAddr 25 (.tmp 1) 1)⟩,
          ⟨some 13, (some (11, false)), (.load 3 (.tmp 12))⟩,
          ⟨some 14, (some (11, false)), (.binOp .eql 3 (.tmp 13) (.const (.int .i64 92)) 3)⟩,
          ⟨some 15, none, (.pick (.tmp 11) (.const (.bool true)) (.tmp 14))⟩,
          ⟨some 7, none, (.assign (.tmp 15))⟩])
        (.cond (.tmp 7)
         (.seq
          (.ops [⟨some 16, none, (.fieldAddr 25 (.tmp 1) 0)⟩,
            ⟨some 17, none, (.load 3 (.tmp 16))⟩,
            ⟨some 18, none, (.call ⟨(.value (.func 39)), #[(.tmp 17)], #[3]⟩)⟩,
            ⟨some 2, none, (.assign (.tmp 18))⟩])
          .ret)
         (.seq
          (.ops [⟨some 20, none, (.fieldAddr 25 (.tmp 1) 1)⟩,
            ⟨some 21, none, (.load 3 (.tmp 20))⟩,
            ⟨some 22, none, (.binOp .neq 3 (.tmp 21) (.const (.int .i64 0)) 3)⟩,
            ⟨some 19, none, (.assign (.tmp 22))⟩])
          (.cond (.tmp 19)
           (.seq
            (.ops [⟨some 2, none, (.assign (.const (.bool false)))⟩])
            .ret)
           .skip)))))))
    (.seq
     (.ops [⟨some 23, none, (.fieldAddr 25 (.tmp 1) 0)⟩,
       ⟨some 24, none, (.load 3 (.tmp 23))⟩,
       ⟨some 25, none, (.call ⟨(.value (.func 40)), #[(.tmp 24)], #[3]⟩)⟩,
       ⟨some 26, none, (.move (.tmp 25))⟩,
       ⟨some 27, (some (26, false)), (.fieldAddr 25 (.tmp 1) 0)⟩,
       ⟨some 28, (some (26, false)), (.load 3 (.tmp 27))⟩,
       ⟨some 29, (some (26, false)), (.binOp .eql 3 (.tmp 28) (.const (.int .i64 105)) 3)⟩,
       ⟨some 30, none, (.pick (.tmp 26) (.const (.bool true)) (.tmp 29))⟩,
       ⟨some 31, none, (.move (.tmp 30))⟩,
       ⟨some 32, (some (31, false)), (.fieldAddr 25 (.tmp 1) 0)⟩,
       ⟨some 33, (some (31, false)), (.load 3 (.tmp 32))⟩,
       ⟨some 34, (some (31, false)), (.binOp .eql 3 (.tmp 33) (.const (.int .i64 35)) 3)⟩,
       ⟨some 35, none, (.pick (.tmp 31) (.const (.bool true)) (.tmp 34))⟩,
       ⟨some 36, none, (.move (.tmp 35))⟩,
       ⟨some 37, (some (36, false)), (.fieldAddr 25 (.tmp 1) 0)⟩,
       ⟨some 38, (some (36, false)), (.load 3 (.tmp 37))⟩,
       ⟨some 39, (some (36, false)), (.binOp .eql 3 (.tmp 38) (.const (.int .i64 44)) 3)⟩,
       ⟨some 40, none, (.pick (.tmp 36) (.const (.bool true)) (.tmp 39))⟩,
       ⟨some 41, none, (.move (.tmp 40))⟩,
       ⟨some 42, (some (41, false)), (.fieldAddr 25 (.tmp 1) 0)⟩,
       ⟨some 43, (some (41, false)), (.load 3 (.tmp 42))⟩,
       ⟨some 44, (some (41, false)), (.binOp .eql 3 (.tmp 43) (.const (.int .i64 114)) 3)⟩,
       ⟨some 45, none, (.pick (.tmp 41) (.const (.bool true)) (.tmp 44))⟩,
       ⟨some 46, none, (.move (.tmp 45))⟩,
       ⟨some 47, (some (46, false)), (.fieldAddr 25 (.tmp 1) 0)⟩,
       ⟨some 48, (some (46, false)), (.load 3 (.tmp 47))⟩,
       ⟨some 49, (some (46, false)), (.binOp .eql 3 (.tmp 48) (.const (.int .i64 122)) 3)⟩,
       ⟨some 50, none, (.pick (.tmp 46) (.const (.bool true)) (.tmp 49))⟩,
       ⟨some 51, none, (.move (.tmp 50))⟩,
       ⟨some 52, (some (51, false)), (.fieldAddr 25 (.tmp 1) 0)⟩,
       ⟨some 53, (some (51, false)), (.load 3 (.tmp 52))⟩,
       ⟨some 54, (some (51, false)), (.binOp .eql 3 (.tmp 53) (.const (.int .i64 103)) 3)⟩,
       ⟨some 55, none, (.pick (.tmp 51) (.const (.bool true)) (.tmp 54))⟩,
       ⟨some 2, none, (.assign (.tmp 55))⟩])
     .ret)))
theorem w10 {args : Array Value} {H : AH} {Φ : Value → AH → Prop} (h : rW Try.prog k10 [] (fin Try.prog [(.tmp 2)] Φ) (tm0 args) H) : CallsA Try.prog 10 args H Φ :=
  CallsA.w k10 [(.tmp 2)] (fun _ => []) Try.func10 rfl rfl (by kernel_rfl) (by kernel_rfl) h

/-- laws.toFun -/
def k11 : KC :=
  (.seq
   (.ops [⟨some 1, none, (.box 23 (.tmp 0))⟩,
     ⟨some 2, none, (.alloc 25)⟩])
   (.seq
    (.ops [⟨some 3, none, (.alloc 25)⟩])
    (.seq
     (.ops [⟨some 4, none, (.fieldAddr 23 (.tmp 1) 0)⟩,
       ⟨some 5, none, (.load 3 (.tmp 4))⟩,
       ⟨some 6, none, (.fieldAddr 25 (.tmp 3) 0)⟩,
       ⟨none, none, (.store 3 (.tmp 6) (.tmp 5))⟩])
     (.seq
      (.ops [⟨some 7, none, (.fieldAddr 23 (.tmp 1) 1)⟩,
        ⟨some 8, none, (.load 3 (.tmp 7))⟩,
        ⟨some 9, none, (.fieldAddr 25 (.tmp 3) 1)⟩,
        ⟨none, none, (.store 3 (.tmp 9) (.tmp 8))⟩])
      (.seq
       (.ops [⟨some 10, none, (.fieldAddr 23 (.tmp 1) 2)⟩,
         ⟨some 11, none, (.load 3 (.tmp 10))⟩,
         ⟨some 12, none, (.fieldAddr 25 (.tmp 3) 2)⟩,
         ⟨none, none, (.store 3 (.tmp 12) (.tmp 11))⟩])
       (.seq
        (.ops [⟨some 13, none, (.load 25 (.tmp 3))⟩,
          ⟨none, none, (.store 25 (.tmp 2) (.tmp 13))⟩])
        .ret))))))
theorem w11 {args : Array Value} {H : AH} {Φ : Value → AH → Prop} (h : rW Try.prog k11 [] (fin Try.prog [(.cell 2 25)] Φ) (tm0 args) H) : CallsA Try.prog 11 args H Φ :=
  CallsA.w k11 [(.cell 2 25)] (fun _ => []) Try.func11 rfl rfl (by kernel_rfl) (by kernel_rfl) h

/-- impl.FunOne -/
def k12 : KC :=
  (.seq
   (.ops [⟨some 1, none, (.box 25 (.tmp 0))⟩,
     ⟨some 2, none, (.assign (.const (.bool false)))⟩])
   (.seq
    (.seq
     (.ops [⟨some 3, none, (.fieldAddr 25 (.tmp 1) 1)⟩,
       ⟨some 4, none, (.load 3 (.tmp 3))⟩])
     (.block 0
      (.seq
       (.ops [⟨some 6, none, (.binOp .eql 3 (.tmp 4) (.const (.int .i64 0)) 3)⟩,
         ⟨some 5, none, (.assign (.tmp 6))⟩])
       (.cond (.tmp 5)
        (.seq
         (.ops [⟨some 7, none, (.fieldAddr 25 (.tmp 1) 2)⟩,
           ⟨some 8, none, (.load 3 (.tmp 7))⟩,
           ⟨some 9, none, (.binOp .eql 3 (.tmp 8) (.const (.int .i64 0)) 3)⟩,
           ⟨some 10, none, (.move (.tmp 9))⟩,
           ⟨some 11, (some (10, true)), (.fieldAddr 25 (.tmp 1) 0)⟩,
           ⟨some 12, (some (10, true)), (.load 3 (.tmp 11))⟩,
           ⟨some 13, (some (10, true)), (.call ⟨(.value (.func 41)), #[(.tmp 12)], #[3]⟩)⟩,
           ⟨some 14, (some (10, true)), (.move (.tmp 13))⟩,
           ⟨some 15, (some (14, false)), (.fieldAddr 25 (.tmp 1) 0)⟩,
           ⟨some 16, (some (14, false)), (.load 3 (.tmp 15))⟩,
           ⟨some 17, (some (14, false)), (.call ⟨(.value (.func 42)), #[(.const (.string ⟨#[105, 35, 44, 114, 122, 103]⟩)), (.tmp 16)], #[9, 3]⟩)⟩,
           ⟨some 18, (some (10, true)), (.pick (.tmp 14) (.const (.bool true)) (.tmp 17))⟩,
           ⟨some 19, none, (.pick (.tmp 10) (.tmp 18) (.const (.bool false)))⟩,
           ⟨some 2, none, (.assign (.tmp 19))⟩])
         .ret)
        (.seq
         (.seq
          (.ops [⟨some 21, none, (.binOp .eql 3 (.tmp 4) (.const (.int .i64 47)) 3)⟩,
            ⟨some 20, none, (.assign (.tmp 21))⟩])
          (.cond (.tmp 20)
           .skip
           (.ops [⟨some 22, none, (.binOp .eql 3 (.tmp 4) (.const (.int .i64 92)) 3)⟩,
             ⟨some 20, none, (.assign (.tmp 22))⟩])))
         (.cond (.tmp 20)
          (.seq
           (.ops [⟨some 23, none, (.fieldAddr 25 (.tmp 1) 2)⟩,
             ⟨some 24, none, (.load 3 (.tmp 23))⟩,
             ⟨some 25, none, (.binOp .eql 3 (.tmp 24) (.const (.int .i64 0)) 3)⟩,
             ⟨some 26, none, (.move (.tmp 25))⟩,
             ⟨some 27, (some (26, true)), (.fieldAddr 25 (.tmp 1) 0)⟩,
             ⟨some 28, (some (26, true)), (.load 3 (.tmp 27))⟩,
             ⟨some 29, (some (26, true)), (.call ⟨(.value (.func 43)), #[(.tmp 28)], #[3]⟩)⟩,
             ⟨some 30, none, (.pick (.tmp 26) (.tmp 29) (.const (.bool false)))⟩,
             ⟨some 2, none, (.assign (.tmp 30))⟩])
           .ret)
          .skip))))))
    (.seq
     (.ops [⟨some 2, none, (.assign (.const (.bool false)))⟩])
     .ret)))
theorem w12 {args : Array Value} {H : AH} {Φ : Value → AH → Prop} (h : rW Try.prog k12 [] (fin Try.prog [(.tmp 2)] Φ) (tm0 args) H) : CallsA Try.prog 12 args H Φ :=
  CallsA.w k12 [(.tmp 2)] (fun _ => []) Try.func12 rfl rfl (by kernel_rfl) (by kernel_rfl) h

/-- laws.FnExactFunOne -/
def k3 : KC :=
  (.seq
   (.ops [⟨some 1, none, (.box 23 (.tmp 0))⟩,
     ⟨some 2, none, (.assign (.const (.bool false)))⟩])
   (.seq
    (.ops [⟨some 5, none, (.load 23 (.tmp 1))⟩,
      ⟨some 6, none, (.call ⟨(.value (.func 11)), #[(.tmp 5)], #[23]⟩)⟩,
      ⟨some 7, none, (.call ⟨(.value (.func 10)), #[(.tmp 6)], #[25]⟩)⟩,
      ⟨some 3, none, (.assign (.tmp 7))⟩])
    (.seq
     (.ops [⟨some 8, none, (.load 23 (.tmp 1))⟩,
       ⟨some 9, none, (.call ⟨(.value (.func 11)), #[(.tmp 8)], #[23]⟩)⟩,
       ⟨some 10, none, (.call ⟨(.value (.func 12)), #[(.tmp 9)], #[25]⟩)⟩,
       ⟨some 4, none, (.assign (.tmp 10))⟩])
     (.seq
      (.seq
       (.ops [⟨some 11, none, (.move (.tmp 4))⟩,
         ⟨some 12, none, (.move (.tmp 3))⟩,
         ⟨some 13, none, (.binOp .neq 4 (.tmp 11) (.tmp 12) 4)⟩])
       (.cond (.tmp 13)
        (.seq
         (.ops [⟨some 2, none, (.assign (.const (.bool false)))⟩])
         .ret)
        .skip))
      (.seq
       (.ops [⟨some 2, none, (.assign (.const (.bool true)))⟩])
       .ret)))))
theorem w3 {args : Array Value} {H : AH} {Φ : Value → AH → Prop} (h : rW Try.prog k3 [] (fin Try.prog [(.tmp 2)] Φ) (tm0 args) H) : CallsA Try.prog 3 args H Φ :=
  CallsA.w k3 [(.tmp 2)] (fun _ => []) Try.func3 rfl rfl (by kernel_rfl) (by kernel_rfl) h

end Go.Proofs.Ytpmhhjinapfhbaa.AM
