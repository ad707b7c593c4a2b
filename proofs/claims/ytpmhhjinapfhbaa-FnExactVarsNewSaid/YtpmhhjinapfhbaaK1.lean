/- The code of the functions that the laws reach, made short; and facts on the types that they use. -/
import Derived.Test.YtpmhhjinapfhbaaA7
import Derived.Test.YtpmhhjinapfhbaaA6
import Derived.KernelRfl
import Derived.Test.YtpmhhjinapfhbaaRows
set_option linter.unusedVariables false
set_option linter.unusedSimpArgs false
set_option maxRecDepth 100000
/- The code of the functions that the laws reach, made short; and facts on the types that they use. -/
namespace Go.Proofs.Ytpmhhjinapfhbaa.AM
open Go Go.Proofs.Ytpmhhjinapfhbaa Go.Proofs

theorem fa55_0 {b o : Nat} : aFieldAddr Try.prog 55 (.pointer (some ⟨b, o, none⟩)) 0 = some (.pointer (some ⟨b, o + 0, none⟩)) := by kernel_rfl
theorem fa55_1 {b o : Nat} : aFieldAddr Try.prog 55 (.pointer (some ⟨b, o, none⟩)) 1 = some (.pointer (some ⟨b, o + 1, none⟩)) := by kernel_rfl
theorem fa67_0 {b o : Nat} : aFieldAddr Try.prog 67 (.pointer (some ⟨b, o, none⟩)) 0 = some (.pointer (some ⟨b, o + 0, none⟩)) := by kernel_rfl
theorem fa67_1 {b o : Nat} : aFieldAddr Try.prog 67 (.pointer (some ⟨b, o, none⟩)) 1 = some (.pointer (some ⟨b, o + 1, none⟩)) := by kernel_rfl
theorem ix34 {b o n c : Nat} {k : IntKind} {j : Int} : aIndexAddr Try.prog 34 (.slice (some ⟨b, o, none⟩) n c) (.int k j) = if 0 ≤ j ∧ j < n then some (.pointer (some ⟨b, o + j.toNat * 3, none⟩)) else none := by kernel_rfl
theorem ix51 {b o n c : Nat} {k : IntKind} {j : Int} : aIndexAddr Try.prog 51 (.slice (some ⟨b, o, none⟩) n c) (.int k j) = if 0 ≤ j ∧ j < n then some (.pointer (some ⟨b, o + j.toNat * 1, none⟩)) else none := by kernel_rfl
theorem ld3 {o : Nat} {cs : List Value} : ld Try.prog 3 o cs = cs[o]? := ld_one (by kernel_rfl)
theorem ld4 {o : Nat} {cs : List Value} : ld Try.prog 4 o cs = cs[o]? := ld_one (by kernel_rfl)
theorem ld51 {o : Nat} {cs : List Value} : ld Try.prog 51 o cs = cs[o]? := ld_one (by kernel_rfl)
theorem ld55 {o : Nat} {cs : List Value} : ld Try.prog 55 o cs = aggAt 2 o cs := ld_agg (by kernel_rfl) (by kernel_rfl)
theorem ld67 {o : Nat} {cs : List Value} : ld Try.prog 67 o cs = aggAt 3 o cs := ld_agg (by kernel_rfl) (by kernel_rfl)
theorem ln34 {a : Option Addr} {n c : Nat} : aLen Try.prog #[34] #[.slice a n c] = some (.int .i64 n) := by kernel_rfl
theorem ln51 {a : Option Addr} {n c : Nat} : aLen Try.prog #[51] #[.slice a n c] = some (.int .i64 n) := by kernel_rfl
theorem st3 {b o : Nat} {v : Value} {H : AH} : aStore Try.prog 3 (.pointer (some ⟨b, o, none⟩)) v H = sto 1 b o v H (wrt H b) := store_eq (by kernel_rfl)
theorem st4 {b o : Nat} {v : Value} {H : AH} : aStore Try.prog 4 (.pointer (some ⟨b, o, none⟩)) v H = sto 1 b o v H (wrt H b) := store_eq (by kernel_rfl)
theorem ub4 : Try.prog.underlying 4 = some .bool := by kernel_rfl

/-- spec.VarsNew -/
def k18 : KC :=
  (.seq
   (.ops [⟨some 0, none, (.assign (.const (.slice none 0 0)))⟩])
   (.seq
    (.ops [⟨some 1, none, (.makeSlice 34 (.const (.int .i64 26)) (.const (.int .i64 26)))⟩,
      ⟨some 0, none, (.assign (.tmp 1))⟩])
    .ret))
theorem w18 {args : Array Value} {H : AH} {Φ : Value → AH → Prop} (h : rW Try.prog k18 [] (fin Try.prog [(.tmp 0)] Φ) (tm0 args) H) : CallsA Try.prog 18 args H Φ :=
  CallsA.w k18 [(.tmp 0)] (fun _ => []) Try.func18 rfl rfl (by kernel_rfl) (by kernel_rfl) h

/-- impl.VarsNew -/
def k19 : KC :=
  (.seq
   (.ops [⟨some 0, none, (.assign (.const (.slice none 0 0)))⟩])
   (.seq
    (.ops [⟨some 1, none, (.makeSlice 34 (.const (.int .i64 26)) (.const (.int .i64 26)))⟩,
      ⟨some 0, none, (.assign (.tmp 1))⟩])
    .ret))
theorem w19 {args : Array Value} {H : AH} {Φ : Value → AH → Prop} (h : rW Try.prog k19 [] (fin Try.prog [(.tmp 0)] Φ) (tm0 args) H) : CallsA Try.prog 19 args H Φ :=
  CallsA.w k19 [(.tmp 0)] (fun _ => []) Try.func19 rfl rfl (by kernel_rfl) (by kernel_rfl) h

/-- laws.eqIntS -/
def k70 : KC :=
  (.seq
   (.ops [⟨some 4, none, (.assign (.const (.bool false)))⟩])
   (.seq
    (.seq
     (.ops [⟨some 6, none, (.move (.tmp 0))⟩,
       ⟨some 7, none, (.call ⟨(.builtin .len), #[(.tmp 6)], #[51]⟩)⟩,
       ⟨some 8, none, (.move (.tmp 1))⟩,
       ⟨some 9, none, (.call ⟨(.builtin .len), #[(.tmp 8)], #[51]⟩)⟩,
       ⟨some 10, none, (.binOp .neq 3 (.tmp 7) (.tmp 9) 3)⟩])
     (.cond (.tmp 10)
      (.seq
       (.ops [⟨some 4, none, (.assign (.const (.bool false)))⟩])
       .ret)
      .skip))
    (.seq
     (.seq
      (.ops [⟨some 5, none, (.assign (.const (.int .i64 0)))⟩])
      (.block 0
       (.loop
        (.seq
         (.seq
          (.ops [⟨some 11, none, (.move (.tmp 5))⟩,
            ⟨some 12, none, (.move (.tmp 0))⟩,
            ⟨some 13, none, (.call ⟨(.builtin .len), #[(.tmp 12)], #[51]⟩)⟩,
            ⟨some 14, none, (.binOp .lss 3 (.tmp 11) (.tmp 13) 3)⟩])
          (.cond (.tmp 14)
           .skip
           (.exit 0)))
         (.seq
          (.block 1
           (.seq
            (.ops [⟨some 17, none, (.move (.tmp 0))⟩,
              ⟨some 18, none, (.move (.tmp 5))⟩,
              ⟨some 19, none, (.indexAddr 51 (.tmp 17) (.tmp 18))⟩,
              ⟨some 20, none, (.load 3 (.tmp 19))⟩,
              ⟨some 21, none, (.move (.tmp 1))⟩,
              ⟨some 22, none, (.move (.tmp 5))⟩,
              ⟨some 23, none, (.indexAddr 51 (.tmp 21) (.tmp 22))⟩,
              ⟨some 24, none, (.load 3 (.tmp 23))⟩,
              ⟨some 25, none, (.binOp .neq 3 (.tmp 20) (.tmp 24) 3)⟩])
            (.cond (.tmp 25)
             (.seq
              (.ops [⟨some 4, none, (.assign (.const (.bool false)))⟩])
              .ret)
             .skip)))
          (.ops [⟨some 15, none, (.move (.tmp 5))⟩,
            ⟨some 16, none, (.binOp .add 3 (.tmp 15) (.const (.int .i64 1)) 3)⟩,
            ⟨some 5, none, (.assign (.tmp 16))⟩]))))))
     (.seq
      (.ops [⟨some 4, none, (.assign (.const (.bool true)))⟩])
      .ret))))
theorem w70 {args : Array Value} {H : AH} {Φ : Value → AH → Prop} (h : rW Try.prog k70 [] (fin Try.prog [(.tmp 4)] Φ) (tm0 args) H) : CallsA Try.prog 70 args H Φ :=
  CallsA.w k70 [(.tmp 4)] (fun i => if i = 6 then [(3, 0), (7, 0)] else []) Try.func70 rfl rfl (by kernel_rfl) (by kernel_rfl) h

/-- laws.eqArray -/
def k36 : KC :=
  (.seq
   (.ops [⟨some 2, none, (.box 55 (.tmp 0))⟩,
     ⟨some 3, none, (.box 55 (.tmp 1))⟩,
     ⟨some 4, none, (.assign (.const (.bool false)))⟩])
   (.seq
    (.seq
     (.ops [⟨some 5, none, (.fieldAddr 55 (.tmp 2) 0)⟩,
       ⟨some 6, none, (.load 51 (.tmp 5))⟩,
       ⟨some 7, none, (.fieldAddr 55 (.tmp 3) 0)⟩,
       ⟨some 8, none, (.load 51 (.tmp 7))⟩,
       ⟨some 9, none, (.call ⟨(.value (.func 70)), #[(.tmp 6), (.tmp 8)], #[51, 51]⟩)⟩,
       ⟨some 10, none, (.unOp .not 4 (.tmp 9))⟩])
     (.cond (.tmp 10)
      (.seq
       (.ops [⟨some 4, none, (.assign (.const (.bool false)))⟩])
       .ret)
      .skip))
    (.seq
     (.seq
      (.ops [⟨some 11, none, (.fieldAddr 55 (.tmp 2) 1)⟩,
        ⟨some 12, none, (.load 51 (.tmp 11))⟩,
        ⟨some 13, none, (.fieldAddr 55 (.tmp 3) 1)⟩,
        ⟨some 14, none, (.load 51 (.tmp 13))⟩,
        ⟨some 15, none, (.call ⟨(.value (.func 70)), #[(.tmp 12), (.tmp 14)], #[51, 51]⟩)⟩,
        ⟨some 16, none, (.unOp .not 4 (.tmp 15))⟩])
      (.cond (.tmp 16)
       (.seq
        (.ops [⟨some 4, none, (.assign (.const (.bool false)))⟩])
        .ret)
       .skip))
     (.seq
      (.ops [⟨some 4, none, (.assign (.const (.bool true)))⟩])
      .ret))))
theorem w36 {args : Array Value} {H : AH} {Φ : Value → AH → Prop} (h : rW Try.prog k36 [] (fin Try.prog [(.tmp 4)] Φ) (tm0 args) H) : CallsA Try.prog 36 args H Φ :=
  CallsA.w k36 [(.tmp 4)] (fun _ => []) Try.func36 rfl rfl (by kernel_rfl) (by kernel_rfl) h

/-- laws.eqVar -/
def k49 : KC :=
  (.seq
   (.ops [⟨some 2, none, (.box 67 (.tmp 0))⟩,
     ⟨some 3, none, (.box 67 (.tmp 1))⟩,
     ⟨some 4, none, (.assign (.const (.bool false)))⟩])
   (.seq
    (.seq
     (.ops [⟨some 5, none, (.fieldAddr 67 (.tmp 2) 0)⟩,
       ⟨some 6, none, (.load 4 (.tmp 5))⟩,
       ⟨some 7, none, (.fieldAddr 67 (.tmp 3) 0)⟩,
       ⟨some 8, none, (.load 4 (.tmp 7))⟩,
       ⟨some 9, none, (.binOp .neq 4 (.tmp 6) (.tmp 8) 4)⟩])
     (.cond (.tmp 9)
      (.seq
       (.ops [⟨some 4, none, (.assign (.const (.bool false)))⟩])
       .ret)
      .skip))
    (.seq
     (.seq
      (.ops [⟨some 10, none, (.fieldAddr 67 (.tmp 2) 1)⟩,
        ⟨some 11, none, (.load 55 (.tmp 10))⟩,
        ⟨some 12, none, (.fieldAddr 67 (.tmp 3) 1)⟩,
        ⟨some 13, none, (.load 55 (.tmp 12))⟩,
        ⟨some 14, none, (.call ⟨(.value (.func 36)), #[(.tmp 11), (.tmp 13)], #[55, 55]⟩)⟩,
        ⟨some 15, none, (.unOp .not 4 (.tmp 14))⟩])
      (.cond (.tmp 15)
       (.seq
        (.ops [⟨some 4, none, (.assign (.const (.bool false)))⟩])
        .ret)
       .skip))
     (.seq
      (.ops [⟨some 4, none, (.assign (.const (.bool true)))⟩])
      .ret))))
theorem w49 {args : Array Value} {H : AH} {Φ : Value → AH → Prop} (h : rW Try.prog k49 [] (fin Try.prog [(.tmp 4)] Φ) (tm0 args) H) : CallsA Try.prog 49 args H Φ :=
  CallsA.w k49 [(.tmp 4)] (fun _ => []) Try.func49 rfl rfl (by kernel_rfl) (by kernel_rfl) h

/-- laws.eqVarS -/
def k20 : KC :=
  (.seq
   (.ops [⟨some 4, none, (.assign (.const (.bool false)))⟩])
   (.seq
    (.seq
     (.ops [⟨some 6, none, (.move (.tmp 0))⟩,
       ⟨some 7, none, (.call ⟨(.builtin .len), #[(.tmp 6)], #[34]⟩)⟩,
       ⟨some 8, none, (.move (.tmp 1))⟩,
       ⟨some 9, none, (.call ⟨(.builtin .len), #[(.tmp 8)], #[34]⟩)⟩,
       ⟨some 10, none, (.binOp .neq 3 (.tmp 7) (.tmp 9) 3)⟩])
     (.cond (.tmp 10)
      (.seq
       (.ops [⟨some 4, none, (.assign (.const (.bool false)))⟩])
       .ret)
      .skip))
    (.seq
     (.seq
      (.ops [⟨some 5, none, (.assign (.const (.int .i64 0)))⟩])
      (.block 0
       (.loop
        (.seq
         (.seq
          (.ops [⟨some 11, none, (.move (.tmp 5))⟩,
            ⟨some 12, none, (.move (.tmp 0))⟩,
            ⟨some 13, none, (.call ⟨(.builtin .len), #[(.tmp 12)], #[34]⟩)⟩,
            ⟨some 14, none, (.binOp .lss 3 (.tmp 11) (.tmp 13) 3)⟩])
          (.cond (.tmp 14)
           .skip
           (.exit 0)))
         (.seq
          (.block 1
           (.seq
            (.draw #[] [(3, 0), (7, 0)]
              [⟨some 17, none, (.move (.tmp 0))⟩,
              ⟨some 18, none, (.move (.tmp 5))⟩,
              ⟨some 19, none, (.indexAddr 34 (.tmp 17) (.tmp 18))⟩,
              ⟨some 20, none, (.load 67 (.tmp 19))⟩,
              ⟨some 21, none, (.move (.tmp 1))⟩,
              ⟨some 22, none, (.move (.tmp 5))⟩,
              ⟨some 23, none, (.indexAddr 34 (.tmp 21) (.tmp 22))⟩,
              ⟨some 24, none, (.load 67 (.tmp 23))⟩,
              ⟨some 25, none, (.call ⟨(.value (.func 49)), #[(.tmp 20), (.tmp 24)], #[67, 67]⟩)⟩,
              ⟨some 26, none, (.unOp .not 4 (.tmp 25))⟩])
            (.cond (.tmp 26)
             (.seq
              (.ops [⟨some 4, none, (.assign (.const (.bool false)))⟩])
              .ret)
             .skip)))
          (.ops [⟨some 15, none, (.move (.tmp 5))⟩,
            ⟨some 16, none, (.binOp .add 3 (.tmp 15) (.const (.int .i64 1)) 3)⟩,
            ⟨some 5, none, (.assign (.tmp 16))⟩]))))))
     (.seq
      (.ops [⟨some 4, none, (.assign (.const (.bool true)))⟩])
      .ret))))
theorem w20 {args : Array Value} {H : AH} {Φ : Value → AH → Prop} (h : rW Try.prog k20 [] (fin Try.prog [(.tmp 4)] Φ) (tm0 args) H) : CallsA Try.prog 20 args H Φ :=
  CallsA.w k20 [(.tmp 4)] (fun i => if i = 6 then [(3, 0), (7, 0)] else []) Try.func20 rfl rfl (by kernel_rfl) (by kernel_rfl) h

/-- laws.markIntS -/
def k50 : KC :=
  (.seq
   (.ops [⟨some 4, none, (.assign (.const (.int .i64 0)))⟩])
   (.seq
    (.seq
     (.ops [⟨some 5, none, (.assign (.const (.int .i64 0)))⟩])
     (.block 0
      (.loop
       (.seq
        (.seq
         (.ops [⟨some 6, none, (.move (.tmp 5))⟩,
           ⟨some 7, none, (.move (.tmp 0))⟩,
           ⟨some 8, none, (.call ⟨(.builtin .len), #[(.tmp 7)], #[51]⟩)⟩,
           ⟨some 9, none, (.binOp .lss 3 (.tmp 6) (.tmp 8) 3)⟩])
         (.cond (.tmp 9)
          .skip
          (.exit 0)))
        (.seq
         (.block 1
          (.seq
           (.ops [⟨some 12, none, (.move (.tmp 0))⟩,
             ⟨some 13, none, (.move (.tmp 5))⟩,
             ⟨some 14, none, (.move (.tmp 1))⟩,
             ⟨some 15, none, (.indexAddr 51 (.tmp 12) (.tmp 13))⟩,
             ⟨none, none, (.store 3 (.tmp 15) (.tmp 14))⟩])
           (.ops [⟨some 16, none, (.move (.tmp 1))⟩,
             ⟨some 17, none, (.binOp .add 3 (.tmp 16) (.const (.int .i64 1)) 3)⟩,
             ⟨some 1, none, (.assign (.tmp 17))⟩])))
         (.ops [⟨some 10, none, (.move (.tmp 5))⟩,
           ⟨some 11, none, (.binOp .add 3 (.tmp 10) (.const (.int .i64 1)) 3)⟩,
           ⟨some 5, none, (.assign (.tmp 11))⟩]))))))
    (.seq
     (.ops [⟨some 18, none, (.move (.tmp 1))⟩,
       ⟨some 4, none, (.assign (.tmp 18))⟩])
     .ret)))
theorem w50 {args : Array Value} {H : AH} {Φ : Value → AH → Prop} (h : rW Try.prog k50 [] (fin Try.prog [(.tmp 4)] Φ) (tm0 args) H) : CallsA Try.prog 50 args H Φ :=
  CallsA.w k50 [(.tmp 4)] (fun _ => []) Try.func50 rfl rfl (by kernel_rfl) (by kernel_rfl) h

/-- laws.markVarS -/
def k21 : KC :=
  (.seq
   (.ops [⟨some 4, none, (.assign (.const (.int .i64 0)))⟩])
   (.seq
    (.seq
     (.ops [⟨some 5, none, (.assign (.const (.int .i64 0)))⟩])
     (.block 0
      (.loop
       (.seq
        (.seq
         (.ops [⟨some 6, none, (.move (.tmp 5))⟩,
           ⟨some 7, none, (.move (.tmp 0))⟩,
           ⟨some 8, none, (.call ⟨(.builtin .len), #[(.tmp 7)], #[34]⟩)⟩,
           ⟨some 9, none, (.binOp .lss 3 (.tmp 6) (.tmp 8) 3)⟩])
         (.cond (.tmp 9)
          .skip
          (.exit 0)))
        (.seq
         (.block 1
          (.seq
           (.ops [⟨some 12, none, (.move (.tmp 0))⟩,
             ⟨some 13, none, (.move (.tmp 5))⟩,
             ⟨some 14, none, (.move (.tmp 1))⟩,
             ⟨some 15, none, (.binOp .rem 3 (.tmp 14) (.const (.int .i64 3)) 3)⟩,
             ⟨some 16, none, (.binOp .eql 3 (.tmp 15) (.const (.int .i64 0)) 3)⟩,
             ⟨some 17, none, (.indexAddr 34 (.tmp 12) (.tmp 13))⟩,
             ⟨some 18, none, (.fieldAddr 67 (.tmp 17) 0)⟩,
             ⟨none, none, (.store 4 (.tmp 18) (.tmp 16))⟩])
           (.seq
            (.ops [⟨some 19, none, (.move (.tmp 1))⟩,
              ⟨some 20, none, (.binOp .add 3 (.tmp 19) (.const (.int .i64 1)) 3)⟩,
              ⟨some 1, none, (.assign (.tmp 20))⟩])
            (.seq
             (.ops [⟨some 21, none, (.move (.tmp 0))⟩,
               ⟨some 22, none, (.move (.tmp 5))⟩,
               ⟨some 23, none, (.indexAddr 34 (.tmp 21) (.tmp 22))⟩,
               ⟨some 24, none, (.fieldAddr 67 (.tmp 23) 1)⟩,
               ⟨some 25, none, (.fieldAddr 55 (.tmp 24) 0)⟩,
               ⟨some 26, none, (.load 51 (.tmp 25))⟩,
               ⟨some 27, none, (.move (.tmp 1))⟩,
               ⟨some 28, none, (.call ⟨(.value (.func 50)), #[(.tmp 26), (.tmp 27)], #[51, 3]⟩)⟩,
               ⟨some 1, none, (.assign (.tmp 28))⟩])
             (.ops [⟨some 29, none, (.move (.tmp 0))⟩,
               ⟨some 30, none, (.move (.tmp 5))⟩,
               ⟨some 31, none, (.indexAddr 34 (.tmp 29) (.tmp 30))⟩,
               ⟨some 32, none, (.fieldAddr 67 (.tmp 31) 1)⟩,
               ⟨some 33, none, (.fieldAddr 55 (.tmp 32) 1)⟩,
               ⟨some 34, none, (.load 51 (.tmp 33))⟩,
               ⟨some 35, none, (.move (.tmp 1))⟩,
               ⟨some 36, none, (.call ⟨(.value (.func 50)), #[(.tmp 34), (.tmp 35)], #[51, 3]⟩)⟩,
               ⟨some 1, none, (.assign (.tmp 36))⟩])))))
         (.ops [⟨some 10, none, (.move (.tmp 5))⟩,
           ⟨some 11, none, (.binOp .add 3 (.tmp 10) (.const (.int .i64 1)) 3)⟩,
           ⟨some 5, none, (.assign (.tmp 11))⟩]))))))
    (.seq
     (.ops [⟨some 37, none, (.move (.tmp 1))⟩,
       ⟨some 4, none, (.assign (.tmp 37))⟩])
     .ret)))
theorem w21 {args : Array Value} {H : AH} {Φ : Value → AH → Prop} (h : rW Try.prog k21 [] (fin Try.prog [(.tmp 4)] Φ) (tm0 args) H) : CallsA Try.prog 21 args H Φ :=
  CallsA.w k21 [(.tmp 4)] (fun _ => []) Try.func21 rfl rfl (by kernel_rfl) (by kernel_rfl) h

/-- laws.heldIntS -/
def k51 : KC :=
  (.seq
   (.ops [⟨some 4, none, (.assign (.const (.int .i64 0)))⟩])
   (.seq
    (.seq
     (.ops [⟨some 5, none, (.assign (.const (.int .i64 0)))⟩])
     (.block 0
      (.loop
       (.seq
        (.seq
         (.ops [⟨some 6, none, (.move (.tmp 5))⟩,
           ⟨some 7, none, (.move (.tmp 0))⟩,
           ⟨some 8, none, (.call ⟨(.builtin .len), #[(.tmp 7)], #[51]⟩)⟩,
           ⟨some 9, none, (.binOp .lss 3 (.tmp 6) (.tmp 8) 3)⟩])
         (.cond (.tmp 9)
          .skip
          (.exit 0)))
        (.seq
         (.block 1
          (.seq
           (.seq
            (.ops [⟨some 12, none, (.move (.tmp 0))⟩,
              ⟨some 13, none, (.move (.tmp 5))⟩,
              ⟨some 14, none, (.indexAddr 51 (.tmp 12) (.tmp 13))⟩,
              ⟨some 15, none, (.load 3 (.tmp 14))⟩,
              ⟨some 16, none, (.move (.tmp 1))⟩,
              ⟨some 17, none, (.binOp .neq 3 (.tmp 15) (.tmp 16) 3)⟩])
            (.cond (.tmp 17)
             (.seq
              (.ops [⟨some 4, none, (.assign (.const (.int .i64 (-1))))⟩])
              .ret)
             .skip))
           (.ops [⟨some 18, none, (.move (.tmp 1))⟩,
             ⟨some 19, none, (.binOp .add 3 (.tmp 18) (.const (.int .i64 1)) 3)⟩,
             ⟨some 1, none, (.assign (.tmp 19))⟩])))
         (.ops [⟨some 10, none, (.move (.tmp 5))⟩,
           ⟨some 11, none, (.binOp .add 3 (.tmp 10) (.const (.int .i64 1)) 3)⟩,
           ⟨some 5, none, (.assign (.tmp 11))⟩]))))))
    (.seq
     (.ops [⟨some 20, none, (.move (.tmp 1))⟩,
       ⟨some 4, none, (.assign (.tmp 20))⟩])
     .ret)))
theorem w51 {args : Array Value} {H : AH} {Φ : Value → AH → Prop} (h : rW Try.prog k51 [] (fin Try.prog [(.tmp 4)] Φ) (tm0 args) H) : CallsA Try.prog 51 args H Φ :=
  CallsA.w k51 [(.tmp 4)] (fun _ => []) Try.func51 rfl rfl (by kernel_rfl) (by kernel_rfl) h

/-- laws.heldVarS -/
def k22 : KC :=
  (.seq
   (.ops [⟨some 4, none, (.assign (.const (.int .i64 0)))⟩])
   (.seq
    (.seq
     (.ops [⟨some 5, none, (.assign (.const (.int .i64 0)))⟩])
     (.block 0
      (.loop
       (.seq
        (.seq
         (.ops [⟨some 6, none, (.move (.tmp 5))⟩,
           ⟨some 7, none, (.move (.tmp 0))⟩,
           ⟨some 8, none, (.call ⟨(.builtin .len), #[(.tmp 7)], #[34]⟩)⟩,
           ⟨some 9, none, (.binOp .lss 3 (.tmp 6) (.tmp 8) 3)⟩])
         (.cond (.tmp 9)
          .skip
          (.exit 0)))
        (.seq
         (.block 1
          (.seq
           (.seq
            (.ops [⟨some 12, none, (.move (.tmp 0))⟩,
              ⟨some 13, none, (.move (.tmp 5))⟩,
              ⟨some 14, none, (.indexAddr 34 (.tmp 12) (.tmp 13))⟩,
              ⟨some 15, none, (.fieldAddr 67 (.tmp 14) 0)⟩,
              ⟨some 16, none, (.load 4 (.tmp 15))⟩,
              ⟨some 17, none, (.move (.tmp 1))⟩,
              ⟨some 18, none, (.binOp .rem 3 (.tmp 17) (.const (.int .i64 3)) 3)⟩,
              ⟨some 19, none, (.binOp .eql 3 (.tmp 18) (.const (.int .i64 0)) 3)⟩,
              ⟨some 20, none, (.binOp .neq 4 (.tmp 16) (.tmp 19) 4)⟩])
            (.cond (.tmp 20)
             (.seq
              (.ops [⟨some 4, none, (.assign (.const (.int .i64 (-1))))⟩])
              .ret)
             .skip))
           (.seq
            (.ops [⟨some 21, none, (.move (.tmp 1))⟩,
              ⟨some 22, none, (.binOp .add 3 (.tmp 21) (.const (.int .i64 1)) 3)⟩,
              ⟨some 1, none, (.assign (.tmp 22))⟩])
            (.seq
             (.ops [⟨some 23, none, (.move (.tmp 0))⟩,
               ⟨some 24, none, (.move (.tmp 5))⟩,
               ⟨some 25, none, (.indexAddr 34 (.tmp 23) (.tmp 24))⟩,
               ⟨some 26, none, (.fieldAddr 67 (.tmp 25) 1)⟩,
               ⟨some 27, none, (.fieldAddr 55 (.tmp 26) 0)⟩,
               ⟨some 28, none, (.load 51 (.tmp 27))⟩,
               ⟨some 29, none, (.move (.tmp 1))⟩,
               ⟨some 30, none, (.call ⟨(.value (.func 51)), #[(.tmp 28), (.tmp 29)], #[51, 3]⟩)⟩,
               ⟨some 1, none, (.assign (.tmp 30))⟩])
             (.seq
              (.seq
               (.ops [⟨some 31, none, (.move (.tmp 1))⟩,
                 ⟨some 32, none, (.binOp .lss 3 (.tmp 31) (.const (.int .i64 0)) 3)⟩])
               (.cond (.tmp 32)
                (.seq
                 (.ops [⟨some 4, none, (.assign (.const (.int .i64 (-1))))⟩])
                 .ret)
                .skip))
              (.seq
               (.ops [⟨some 33, none, (.move (.tmp 0))⟩,
                 ⟨some 34, none, (.move (.tmp 5))⟩,
                 ⟨some 35, none, (.indexAddr 34 (.tmp 33) (.tmp 34))⟩,
                 ⟨some 36, none, (.fieldAddr 67 (.tmp 35) 1)⟩,
                 ⟨some 37, none, (.fieldAddr 55 (.tmp 36) 1)⟩,
                 ⟨some 38, none, (.load 51 (.tmp 37))⟩,
                 ⟨some 39, none, (.move (.tmp 1))⟩,
                 ⟨some 40, none, (.call ⟨(.value (.func 51)), #[(.tmp 38), (.tmp 39)], #[51, 3]⟩)⟩,
                 ⟨some 1, none, (.assign (.tmp 40))⟩])
               (.seq
                (.ops [⟨some 41, none, (.move (.tmp 1))⟩,
                  ⟨some 42, none, (.binOp .lss 3 (.tmp 41) (.const (.int .i64 0)) 3)⟩])
                (.cond (.tmp 42)
                 (.seq
                  (.ops [⟨some 4, none, (.assign (.const (.int .i64 (-1))))⟩])
                  .ret)
                 .skip))))))))
         (.ops [⟨some 10, none, (.move (.tmp 5))⟩,
           ⟨some 11, none, (.binOp .add 3 (.tmp 10) (.const (.int .i64 1)) 3)⟩,
           ⟨some 5, none, (.assign (.tmp 11))⟩]))))))
    (.seq
     (.ops [⟨some 43, none, (.move (.tmp 1))⟩,
       ⟨some 4, none, (.assign (.tmp 43))⟩])
     .ret)))
theorem w22 {args : Array Value} {H : AH} {Φ : Value → AH → Prop} (h : rW Try.prog k22 [] (fin Try.prog [(.tmp 4)] Φ) (tm0 args) H) : CallsA Try.prog 22 args H Φ :=
  CallsA.w k22 [(.tmp 4)] (fun _ => []) Try.func22 rfl rfl (by kernel_rfl) (by kernel_rfl) h

/-- laws.FnExactVarsNew -/
def k6 : KC :=
  (.seq
   (.ops [⟨some 0, none, (.assign (.const (.bool false)))⟩])
   (.seq
    (.ops [⟨some 6, none, (.call ⟨(.value (.func 18)), #[], #[]⟩)⟩,
      ⟨some 1, none, (.assign (.tmp 6))⟩])
    (.seq
     (.ops [⟨some 7, none, (.call ⟨(.value (.func 19)), #[], #[]⟩)⟩,
       ⟨some 2, none, (.assign (.tmp 7))⟩])
     (.seq
      (.seq
       (.ops [⟨some 8, none, (.move (.tmp 2))⟩,
         ⟨some 9, none, (.move (.tmp 1))⟩,
         ⟨some 10, none, (.call ⟨(.value (.func 20)), #[(.tmp 8), (.tmp 9)], #[34, 34]⟩)⟩,
         ⟨some 11, none, (.unOp .not 4 (.tmp 10))⟩])
       (.cond (.tmp 11)
        (.seq
         (.ops [⟨some 0, none, (.assign (.const (.bool false)))⟩])
         .ret)
        .skip))
      (.seq
       (.ops [⟨some 3, none, (.assign (.const (.int .i64 1)))⟩])
       (.seq
        (.ops [⟨some 12, none, (.move (.tmp 2))⟩,
          ⟨some 13, none, (.move (.tmp 3))⟩,
          ⟨some 14, none, (.call ⟨(.value (.func 21)), #[(.tmp 12), (.tmp 13)], #[34, 3]⟩)⟩,
          ⟨some 3, none, (.assign (.tmp 14))⟩])
        (.seq
         (.ops [⟨some 4, none, (.assign (.const (.int .i64 1)))⟩])
         (.seq
          (.ops [⟨some 15, none, (.move (.tmp 2))⟩,
            ⟨some 16, none, (.move (.tmp 4))⟩,
            ⟨some 17, none, (.call ⟨(.value (.func 22)), #[(.tmp 15), (.tmp 16)], #[34, 3]⟩)⟩,
            ⟨some 4, none, (.assign (.tmp 17))⟩])
          (.seq
           (.seq
            (.ops [⟨some 18, none, (.move (.tmp 4))⟩,
              ⟨some 19, none, (.binOp .lss 3 (.tmp 18) (.const (.int .i64 0)) 3)⟩])
            (.cond (.tmp 19)
             (.seq
              (.ops [⟨some 0, none, (.assign (.const (.bool false)))⟩])
              .ret)
             .skip))
           (.seq
            (.seq
             (.ops [⟨some 20, none, (.move (.tmp 4))⟩,
               ⟨some 21, none, (.move (.tmp 3))⟩,
               ⟨some 22, none, (.binOp .neq 3 (.tmp 20) (.tmp 21) 3)⟩])
             (.cond (.tmp 22)
              (.seq
               (.ops [⟨some 0, none, (.assign (.const (.bool false)))⟩])
               .ret)
              .skip))
            (.seq
             (.ops [⟨some 23, none, (.call ⟨(.value (.func 19)), #[], #[]⟩)⟩,
               ⟨some 5, none, (.assign (.tmp 23))⟩])
             (.seq
              (.seq
               (.ops [⟨some 24, none, (.move (.tmp 5))⟩,
                 ⟨some 25, none, (.move (.tmp 1))⟩,
                 ⟨some 26, none, (.call ⟨(.value (.func 20)), #[(.tmp 24), (.tmp 25)], #[34, 34]⟩)⟩,
                 ⟨some 27, none, (.unOp .not 4 (.tmp 26))⟩])
               (.cond (.tmp 27)
                (.seq
                 (.ops [⟨some 0, none, (.assign (.const (.bool false)))⟩])
                 .ret)
                .skip))
              (.seq
               (.ops [⟨some 4, none, (.assign (.const (.int .i64 1)))⟩])
               (.seq
                (.ops [⟨some 28, none, (.move (.tmp 2))⟩,
                  ⟨some 29, none, (.move (.tmp 4))⟩,
                  ⟨some 30, none, (.call ⟨(.value (.func 22)), #[(.tmp 28), (.tmp 29)], #[34, 3]⟩)⟩,
                  ⟨some 4, none, (.assign (.tmp 30))⟩])
                (.seq
                 (.seq
                  (.ops [⟨some 31, none, (.move (.tmp 4))⟩,
                    ⟨some 32, none, (.binOp .lss 3 (.tmp 31) (.const (.int .i64 0)) 3)⟩])
                  (.cond (.tmp 32)
                   (.seq
                    (.ops [⟨some 0, none, (.assign (.const (.bool false)))⟩])
                    .ret)
                   .skip))
                 (.seq
                  (.seq
                   (.ops [⟨some 33, none, (.move (.tmp 4))⟩,
                     ⟨some 34, none, (.move (.tmp 3))⟩,
                     ⟨some 35, none, (.binOp .neq 3 (.tmp 33) (.tmp 34) 3)⟩])
                   (.cond (.tmp 35)
                    (.seq
                     (.ops [⟨some 0, none, (.assign (.const (.bool false)))⟩])
                     .ret)
                    .skip))
                  (.seq
                   (.ops [⟨some 0, none, (.assign (.const (.bool true)))⟩])
                   .ret)))))))))))))))))
theorem w6 {args : Array Value} {H : AH} {Φ : Value → AH → Prop} (h : rW Try.prog k6 [] (fin Try.prog [(.tmp 0)] Φ) (tm0 args) H) : CallsA Try.prog 6 args H Φ :=
  CallsA.w k6 [(.tmp 0)] (fun _ => []) Try.func6 rfl rfl (by kernel_rfl) (by kernel_rfl) h

end Go.Proofs.Ytpmhhjinapfhbaa.AM
