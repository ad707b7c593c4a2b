/- The code of the functions that the laws reach, made short; and facts on the types that they use. -/
import Derived.Test.YtpmhhjinapfhbaaA7
import Derived.Test.YtpmhhjinapfhbaaA6
import Derived.KernelRfl
import Derived.Test.YtpmhhjinapfhbaaRows
set_option linter.unusedVariables false
set_option linter.unusedSimpArgs false
set_option maxRecDepth 100000
/- The code of the functions that the laws reach, made short; and facts on the types that they use. -/
namespace Go.Proofs.Ytpmhhjinapfhbaa.AM
open Go Go.Proofs.Ytpmhhjinapfhbaa Go.Proofs

theorem al55 {ev : Operand → Value} : aMake Try.prog ev (.alloc 55) = some ([.slice none 0 0, .slice none 0 0], none) := by kernel_rfl
theorem al67 {ev : Operand → Value} : aMake Try.prog ev (.alloc 67) = some ([.bool false, .slice none 0 0, .slice none 0 0], none) := by kernel_rfl
theorem fa53_0 {b o : Nat} : aFieldAddr Try.prog 53 (.pointer (some ⟨b, o, none⟩)) 0 = some (.pointer (some ⟨b, o + 0, none⟩)) := by kernel_rfl
theorem fa53_1 {b o : Nat} : aFieldAddr Try.prog 53 (.pointer (some ⟨b, o, none⟩)) 1 = some (.pointer (some ⟨b, o + 1, none⟩)) := by kernel_rfl
theorem fa55_0 {b o : Nat} : aFieldAddr Try.prog 55 (.pointer (some ⟨b, o, none⟩)) 0 = some (.pointer (some ⟨b, o + 0, none⟩)) := by kernel_rfl
theorem fa55_1 {b o : Nat} : aFieldAddr Try.prog 55 (.pointer (some ⟨b, o, none⟩)) 1 = some (.pointer (some ⟨b, o + 1, none⟩)) := by kernel_rfl
theorem fa67_0 {b o : Nat} : aFieldAddr Try.prog 67 (.pointer (some ⟨b, o, none⟩)) 0 = some (.pointer (some ⟨b, o + 0, none⟩)) := by kernel_rfl
theorem fa67_1 {b o : Nat} : aFieldAddr Try.prog 67 (.pointer (some ⟨b, o, none⟩)) 1 = some (.pointer (some ⟨b, o + 1, none⟩)) := by kernel_rfl
theorem fa71_0 {b o : Nat} : aFieldAddr Try.prog 71 (.pointer (some ⟨b, o, none⟩)) 0 = some (.pointer (some ⟨b, o + 0, none⟩)) := by kernel_rfl
theorem fa71_1 {b o : Nat} : aFieldAddr Try.prog 71 (.pointer (some ⟨b, o, none⟩)) 1 = some (.pointer (some ⟨b, o + 1, none⟩)) := by kernel_rfl
theorem ix34 {b o n c : Nat} {k : IntKind} {j : Int} : aIndexAddr Try.prog 34 (.slice (some ⟨b, o, none⟩) n c) (.int k j) = if 0 ≤ j ∧ j < n then some (.pointer (some ⟨b, o + j.toNat * 3, none⟩)) else none := by kernel_rfl
theorem ix39 {b o n c : Nat} {k : IntKind} {j : Int} : aIndexAddr Try.prog 39 (.slice (some ⟨b, o, none⟩) n c) (.int k j) = if 0 ≤ j ∧ j < n then some (.pointer (some ⟨b, o + j.toNat * 3, none⟩)) else none := by kernel_rfl
theorem ix51 {b o n c : Nat} {k : IntKind} {j : Int} : aIndexAddr Try.prog 51 (.slice (some ⟨b, o, none⟩) n c) (.int k j) = if 0 ≤ j ∧ j < n then some (.pointer (some ⟨b, o + j.toNat * 1, none⟩)) else none := by kernel_rfl
theorem ld3 {o : Nat} {cs : List Value} : ld Try.prog 3 o cs = cs[o]? := ld_one (by kernel_rfl)
theorem ld4 {o : Nat} {cs : List Value} : ld Try.prog 4 o cs = cs[o]? := ld_one (by kernel_rfl)
theorem ld51 {o : Nat} {cs : List Value} : ld Try.prog 51 o cs = cs[o]? := ld_one (by kernel_rfl)
theorem ld53 {o : Nat} {cs : List Value} : ld Try.prog 53 o cs = aggAt 2 o cs := ld_agg (by kernel_rfl) (by kernel_rfl)
theorem ld55 {o : Nat} {cs : List Value} : ld Try.prog 55 o cs = aggAt 2 o cs := ld_agg (by kernel_rfl) (by kernel_rfl)
theorem ld67 {o : Nat} {cs : List Value} : ld Try.prog 67 o cs = aggAt 3 o cs := ld_agg (by kernel_rfl) (by kernel_rfl)
theorem ld71 {o : Nat} {cs : List Value} : ld Try.prog 71 o cs = aggAt 3 o cs := ld_agg (by kernel_rfl) (by kernel_rfl)
theorem ln34 {a : Option Addr} {n c : Nat} : aLen Try.prog #[34] #[.slice a n c] = some (.int .i64 n) := by kernel_rfl
theorem ln39 {a : Option Addr} {n c : Nat} : aLen Try.prog #[39] #[.slice a n c] = some (.int .i64 n) := by kernel_rfl
theorem ln51 {a : Option Addr} {n c : Nat} : aLen Try.prog #[51] #[.slice a n c] = some (.int .i64 n) := by kernel_rfl
theorem ms34 {k k' : IntKind} {n : Int} : mkS Try.prog 34 (.int k n) (.int k' n) = if 0 ≤ n ∧ n ≤ 1073741824 then some ((List.replicate n.toNat [.bool false, .slice none 0 0, .slice none 0 0]).flatten, some (n.toNat, 3)) else none := mkS_eq (z := .agg #[.bool false, .slice none 0 0, .slice none 0 0]) (e := 67) (by kernel_rfl) (by kernel_rfl) (by kernel_rfl) (by kernel_rfl) (by kernel_rfl) (by kernel_rfl) (by decide)
theorem ms51 {k k' : IntKind} {n : Int} : mkS Try.prog 51 (.int k n) (.int k' n) = if 0 ≤ n ∧ n ≤ 1073741824 then some ((List.replicate n.toNat [.int .i64 0]).flatten, some (n.toNat, 1)) else none := mkS_eq (z := .int .i64 0) (e := 3) (by kernel_rfl) (by kernel_rfl) (by kernel_rfl) (by kernel_rfl) (by kernel_rfl) (by kernel_rfl) (by decide)
theorem st3 {b o : Nat} {v : Value} {H : AH} : aStore Try.prog 3 (.pointer (some ⟨b, o, none⟩)) v H = sto 1 b o v H (wrt H b) := store_eq (by kernel_rfl)
theorem st4 {b o : Nat} {v : Value} {H : AH} : aStore Try.prog 4 (.pointer (some ⟨b, o, none⟩)) v H = sto 1 b o v H (wrt H b) := store_eq (by kernel_rfl)
theorem st51 {b o : Nat} {v : Value} {H : AH} : aStore Try.prog 51 (.pointer (some ⟨b, o, none⟩)) v H = sto 1 b o v H (wrt H b) := store_eq (by kernel_rfl)
theorem st55 {b o : Nat} {v : Value} {H : AH} : aStore Try.prog 55 (.pointer (some ⟨b, o, none⟩)) v H = sto 2 b o v H (wrt H b) := store_eq (by kernel_rfl)
theorem st67 {b o : Nat} {v : Value} {H : AH} : aStore Try.prog 67 (.pointer (some ⟨b, o, none⟩)) v H = sto 3 b o v H (wrt H b) := store_eq (by kernel_rfl)
theorem ub4 : Try.prog.underlying 4 = some .bool := by kernel_rfl

/-- laws.eqIntS -/
def k70 : KC :=
  (.seq
   (.ops [⟨some 4, none, (.assign (.const (.bool false)))⟩])
   (.seq
    (.seq
     (.ops [⟨some 6, none, (.move (.tmp 0))⟩,
       ⟨some 7, none, (.call ⟨(.builtin .len), #[(.tmp 6)], #[51]⟩)⟩,
       ⟨some 8, none, (.move (.tmp 1))⟩,
       ⟨some 9, none, (.call ⟨(.builtin .len), #[(.tmp 8)], #[51]⟩)⟩,
       ⟨some 10, none, (.binOp .neq 3 (.tmp 7) (.tmp 9) 3)⟩])
     (.cond (.tmp 10)
      (.seq
       (.ops [⟨some 4, none, (.assign (.const (.bool false)))⟩])
       .ret)
      .skip))
    (.seq
     (.seq
      (.ops [⟨some 5, none, (.assign (.const (.int .i64 0)))⟩])
      (.block 0
       (.loop
        (.seq
         (.seq
          (.ops [⟨some 11, none, (.move (.tmp 5))⟩,
            ⟨some 12, none, (.move (.tmp 0))⟩,
            ⟨some 13, none, (.call ⟨(.builtin .len), #[(.tmp 12)], #[51]⟩)⟩,
            ⟨some 14, none, (.binOp .lss 3 (.tmp 11) (.tmp 13) 3)⟩])
          (.cond (.tmp 14)
           .skip
           (.exit 0)))
         (.seq
          (.block 1
           (.seq
            (.ops [⟨some 17, none, (.move (.tmp 0))⟩,
              ⟨some 18, none, (.move (.tmp 5))⟩,
              ⟨some 19, none, (.indexAddr 51 (.tmp 17) (.tmp 18))⟩,
              ⟨some 20, none, (.load 3 (.tmp 19))⟩,
              ⟨some 21, none, (.move (.tmp 1))⟩,
              ⟨some 22, none, (.move (.tmp 5))⟩,
              ⟨some 23, none, (.indexAddr 51 (.tmp 21) (.tmp 22))⟩,
              ⟨some 24, none, (.load 3 (.tmp 23))⟩,
              ⟨some 25, none, (.binOp .neq 3 (.tmp 20) (.tmp 24) 3)⟩])
            (.cond (.tmp 25)
             (.seq
              (.ops [⟨some 4, none, (.assign (.const (.bool false)))⟩])
              .ret)
             .skip)))
          (.ops [⟨some 15, none, (.move (.tmp 5))⟩,
            ⟨some 16, none, (.binOp .add 3 (.tmp 15) (.const (.int .i64 1)) 3)⟩,
            ⟨some 5, none, (.assign (.tmp 16))⟩]))))))
     (.seq
      (.ops [⟨some 4, none, (.assign (.const (.bool true)))⟩])
      .ret))))
theorem w70 {args : Array Value} {H : AH} {Φ : Value → AH → Prop} (h : rW Try.prog k70 [] (fin Try.prog [(.tmp 4)] Φ) (tm0 args) H) : CallsA Try.prog 70 args H Φ :=
  CallsA.w k70 [(.tmp 4)] (fun i => if i = 6 then [(3, 0), (7, 0)] else []) Try.func70 rfl rfl (by kernel_rfl) (by kernel_rfl) h

/-- laws.eqArray -/
def k36 : KC :=
  (.seq
   (.ops [⟨some 2, none, (.box 55 (.tmp 0))⟩,
     ⟨some 3, none, (.box 55 (.tmp 1))⟩,
     ⟨some 4, none, (.assign (.const (.bool false)))⟩])
   (.seq
    (.seq
     (.ops [⟨some 5, none, (.fieldAddr 55 (.tmp 2) 0)⟩,
       ⟨some 6, none, (.load 51 (.tmp 5))⟩,
       ⟨some 7, none, (.fieldAddr 55 (.tmp 3) 0)⟩,
       ⟨some 8, none, (.load 51 (.tmp 7))⟩,
       ⟨some 9, none, (.call ⟨(.value (.func 70)), #[(.tmp 6), (.tmp 8)], #[51, 51]⟩)⟩,
       ⟨some 10, none, (.unOp .not 4 (.tmp 9))⟩])
     (.cond (.tmp 10)
      (.seq
       (.ops [⟨some 4, none, (.assign (.const (.bool false)))⟩])
       .ret)
      .skip))
    (.seq
     (.seq
      (.ops [⟨some 11, none, (.fieldAddr 55 (.tmp 2) 1)⟩,
        ⟨some 12, none, (.load 51 (.tmp 11))⟩,
        ⟨some 13, none, (.fieldAddr 55 (.tmp 3) 1)⟩,
        ⟨some 14, none, (.load 51 (.tmp 13))⟩,
        ⟨some 15, none, (.call ⟨(.value (.func 70)), #[(.tmp 12), (.tmp 14)], #[51, 51]⟩)⟩,
        ⟨some 16, none, (.unOp .not 4 (.tmp 15))⟩])
      (.cond (.tmp 16)
       (.seq
        (.ops [⟨some 4, none, (.assign (.const (.bool false)))⟩])
        .ret)
       .skip))
     (.seq
      (.ops [⟨some 4, none, (.assign (.const (.bool true)))⟩])
      .ret))))
theorem w36 {args : Array Value} {H : AH} {Φ : Value → AH → Prop} (h : rW Try.prog k36 [] (fin Try.prog [(.tmp 4)] Φ) (tm0 args) H) : CallsA Try.prog 36 args H Φ :=
  CallsA.w k36 [(.tmp 4)] (fun _ => []) Try.func36 rfl rfl (by kernel_rfl) (by kernel_rfl) h

/-- laws.eqVar -/
def k49 : KC :=
  (.seq
   (.ops [⟨some 2, none, (.box 67 (.tmp 0))⟩,
     ⟨some 3, none, (.box 67 (.tmp 1))⟩,
     ⟨some 4, none, (.assign (.const (.bool false)))⟩])
   (.seq
    (.seq
     (.ops [⟨some 5, none, (.fieldAddr 67 (.tmp 2) 0)⟩,
       ⟨some 6, none, (.load 4 (.tmp 5))⟩,
       ⟨some 7, none, (.fieldAddr 67 (.tmp 3) 0)⟩,
       ⟨some 8, none, (.load 4 (.tmp 7))⟩,
       ⟨some 9, none, (.binOp .neq 4 (.tmp 6) (.tmp 8) 4)⟩])
     (.cond (.tmp 9)
      (.seq
       (.ops [⟨some 4, none, (.assign (.const (.bool false)))⟩])
       .ret)
      .skip))
    (.seq
     (.seq
      (.ops [⟨some 10, none, (.fieldAddr 67 (.tmp 2) 1)⟩,
        ⟨some 11, none, (.load 55 (.tmp 10))⟩,
        ⟨some 12, none, (.fieldAddr 67 (.tmp 3) 1)⟩,
        ⟨some 13, none, (.load 55 (.tmp 12))⟩,
        ⟨some 14, none, (.call ⟨(.value (.func 36)), #[(.tmp 11), (.tmp 13)], #[55, 55]⟩)⟩,
        ⟨some 15, none, (.unOp .not 4 (.tmp 14))⟩])
      (.cond (.tmp 15)
       (.seq
        (.ops [⟨some 4, none, (.assign (.const (.bool false)))⟩])
        .ret)
       .skip))
     (.seq
      (.ops [⟨some 4, none, (.assign (.const (.bool true)))⟩])
      .ret))))
theorem w49 {args : Array Value} {H : AH} {Φ : Value → AH → Prop} (h : rW Try.prog k49 [] (fin Try.prog [(.tmp 4)] Φ) (tm0 args) H) : CallsA Try.prog 49 args H Φ :=
  CallsA.w k49 [(.tmp 4)] (fun _ => []) Try.func49 rfl rfl (by kernel_rfl) (by kernel_rfl) h

/-- laws.eqVarS -/
def k20 : KC :=
  (.seq
   (.ops [⟨some 4, none, (.assign (.const (.bool false)))⟩])
   (.seq
    (.seq
     (.ops [⟨some 6, none, (.move (.tmp 0))⟩,
       ⟨some 7, none, (.call ⟨(.builtin .len), #[(.tmp 6)], #[34]⟩)⟩,
       ⟨some 8, none, (.move (.tmp 1))⟩,
       ⟨some 9, none, (.call ⟨(.builtin .len), #[(.tmp 8)], #[34]⟩)⟩,
       ⟨some 10, none, (.binOp .neq 3 (.tmp 7) (.tmp 9) 3)⟩])
     (.cond (.tmp 10)
      (.seq
       (.ops [⟨some 4, none, (.assign (.const (.bool false)))⟩])
       .ret)
      .skip))
    (.seq
     (.seq
      (.ops [⟨some 5, none, (.assign (.const (.int .i64 0)))⟩])
      (.block 0
       (.loop
        (.seq
         (.seq
          (.ops [⟨some 11, none, (.move (.tmp 5))⟩,
            ⟨some 12, none, (.move (.tmp 0))⟩,
            ⟨some 13, none, (.call ⟨(.builtin .len), #[(.tmp 12)], #[34]⟩)⟩,
            ⟨some 14, none, (.binOp .lss 3 (.tmp 11) (.tmp 13) 3)⟩])
          (.cond (.tmp 14)
           .skip
           (.exit 0)))
         (.seq
          (.block 1
           (.seq
            (.draw #[] [(3, 0), (7, 0)]
              [⟨some 17, none, (.move (.tmp 0))⟩,
              ⟨some 18, none, (.move (.tmp 5))⟩,
              ⟨some 19, none, (.indexAddr 34 (.tmp 17) (.tmp 18))⟩,
              ⟨some 20, none, (.load 67 (.tmp 19))⟩,
              ⟨some 21, none, (.move (.tmp 1))⟩,
              ⟨some 22, none, (.move (.tmp 5))⟩,
              ⟨some 23, none, (.indexAddr 34 (.tmp 21) (.tmp 22))⟩,
              ⟨some 24, none, (.load 67 (.tmp 23))⟩,
              ⟨some 25, none, (.call ⟨(.value (.func 49)), #[(.tmp 20), (.tmp 24)], #[67, 67]⟩)⟩,
              ⟨some 26, none, (.unOp .not 4 (.tmp 25))⟩])
            (.cond (.tmp 26)
             (.seq
              (.ops [⟨some 4, none, (.assign (.const (.bool false)))⟩])
              .ret)
             .skip)))
          (.ops [⟨some 15, none, (.move (.tmp 5))⟩,
            ⟨some 16, none, (.binOp .add 3 (.tmp 15) (.const (.int .i64 1)) 3)⟩,
            ⟨some 5, none, (.assign (.tmp 16))⟩]))))))
     (.seq
      (.ops [⟨some 4, none, (.assign (.const (.bool true)))⟩])
      .ret))))
theorem w20 {args : Array Value} {H : AH} {Φ : Value → AH → Prop} (h : rW Try.prog k20 [] (fin Try.prog [(.tmp 4)] Φ) (tm0 args) H) : CallsA Try.prog 20 args H Φ :=
  CallsA.w k20 [(.tmp 4)] (fun i => if i = 6 then [(3, 0), (7, 0)] else []) Try.func20 rfl rfl (by kernel_rfl) (by kernel_rfl) h

/-- laws.szIntS -/
def k63 : KC :=
  (.seq
   (.ops [⟨some 4, none, (.assign (.const (.int .i64 0)))⟩])
   (.seq
    (.ops [⟨some 5, none, (.move (.tmp 1))⟩,
      ⟨some 6, none, (.move (.tmp 0))⟩,
      ⟨some 7, none, (.call ⟨(.builtin .len), #[(.tmp 6)], #[51]⟩)⟩,
      ⟨some 8, none, (.binOp .sub 3 (.tmp 5) (.tmp 7) 3)⟩,
      ⟨some 1, none, (.assign (.tmp 8))⟩])
    (.seq
     (.seq
      (.ops [⟨some 9, none, (.move (.tmp 1))⟩,
        ⟨some 10, none, (.binOp .lss 3 (.tmp 9) (.const (.int .i64 0)) 3)⟩])
      (.cond (.tmp 10)
       (.seq
        (.ops [⟨some 4, none, (.assign (.const (.int .i64 (-1))))⟩])
        .ret)
       .skip))
     (.seq
      (.ops [⟨some 11, none, (.move (.tmp 1))⟩,
        ⟨some 4, none, (.assign (.tmp 11))⟩])
      .ret))))
theorem w63 {args : Array Value} {H : AH} {Φ : Value → AH → Prop} (h : rW Try.prog k63 [] (fin Try.prog [(.tmp 4)] Φ) (tm0 args) H) : CallsA Try.prog 63 args H Φ :=
  CallsA.w k63 [(.tmp 4)] (fun _ => []) Try.func63 rfl rfl (by kernel_rfl) (by kernel_rfl) h

/-- laws.szArray -/
def k32 : KC :=
  (.seq
   (.ops [⟨some 2, none, (.box 53 (.tmp 0))⟩,
     ⟨some 4, none, (.assign (.const (.int .i64 0)))⟩])
   (.seq
    (.ops [⟨some 5, none, (.fieldAddr 53 (.tmp 2) 0)⟩,
      ⟨some 6, none, (.load 51 (.tmp 5))⟩,
      ⟨some 7, none, (.move (.tmp 1))⟩,
      ⟨some 8, none, (.call ⟨(.value (.func 63)), #[(.tmp 6), (.tmp 7)], #[51, 3]⟩)⟩,
      ⟨some 1, none, (.assign (.tmp 8))⟩])
    (.seq
     (.seq
      (.ops [⟨some 9, none, (.move (.tmp 1))⟩,
        ⟨some 10, none, (.binOp .lss 3 (.tmp 9) (.const (.int .i64 0)) 3)⟩])
      (.cond (.tmp 10)
       (.seq
        (.ops [⟨some 4, none, (.assign (.const (.int .i64 (-1))))⟩])
        .ret)
       .skip))
     (.seq
      (.ops [⟨some 11, none, (.fieldAddr 53 (.tmp 2) 1)⟩,
        ⟨some 12, none, (.load 51 (.tmp 11))⟩,
        ⟨some 13, none, (.move (.tmp 1))⟩,
        ⟨some 14, none, (.call ⟨(.value (.func 63)), #[(.tmp 12), (.tmp 13)], #[51, 3]⟩)⟩,
        ⟨some 1, none, (.assign (.tmp 14))⟩])
      (.seq
       (.seq
        (.ops [⟨some 15, none, (.move (.tmp 1))⟩,
          ⟨some 16, none, (.binOp .lss 3 (.tmp 15) (.const (.int .i64 0)) 3)⟩])
        (.cond (.tmp 16)
         (.seq
          (.ops [⟨some 4, none, (.assign (.const (.int .i64 (-1))))⟩])
          .ret)
         .skip))
       (.seq
        (.ops [⟨some 17, none, (.move (.tmp 1))⟩,
          ⟨some 4, none, (.assign (.tmp 17))⟩])
        .ret))))))
theorem w32 {args : Array Value} {H : AH} {Φ : Value → AH → Prop} (h : rW Try.prog k32 [] (fin Try.prog [(.tmp 4)] Φ) (tm0 args) H) : CallsA Try.prog 32 args H Φ :=
  CallsA.w k32 [(.tmp 4)] (fun _ => []) Try.func32 rfl rfl (by kernel_rfl) (by kernel_rfl) h

/-- laws.szVar -/
def k52 : KC :=
  (.seq
   (.ops [⟨some 2, none, (.box 71 (.tmp 0))⟩,
     ⟨some 4, none, (.assign (.const (.int .i64 0)))⟩])
   (.seq
    (.ops [⟨some 5, none, (.fieldAddr 71 (.tmp 2) 1)⟩,
      ⟨some 6, none, (.load 53 (.tmp 5))⟩,
      ⟨some 7, none, (.move (.tmp 1))⟩,
      ⟨some 8, none, (.call ⟨(.value (.func 32)), #[(.tmp 6), (.tmp 7)], #[53, 3]⟩)⟩,
      ⟨some 1, none, (.assign (.tmp 8))⟩])
    (.seq
     (.seq
      (.ops [⟨some 9, none, (.move (.tmp 1))⟩,
        ⟨some 10, none, (.binOp .lss 3 (.tmp 9) (.const (.int .i64 0)) 3)⟩])
      (.cond (.tmp 10)
       (.seq
        (.ops [⟨some 4, none, (.assign (.const (.int .i64 (-1))))⟩])
        .ret)
       .skip))
     (.seq
      (.ops [⟨some 11, none, (.move (.tmp 1))⟩,
        ⟨some 4, none, (.assign (.tmp 11))⟩])
      .ret))))
theorem w52 {args : Array Value} {H : AH} {Φ : Value → AH → Prop} (h : rW Try.prog k52 [] (fin Try.prog [(.tmp 4)] Φ) (tm0 args) H) : CallsA Try.prog 52 args H Φ :=
  CallsA.w k52 [(.tmp 4)] (fun _ => []) Try.func52 rfl rfl (by kernel_rfl) (by kernel_rfl) h

/-- laws.szVarS -/
def k23 : KC :=
  (.seq
   (.ops [⟨some 4, none, (.assign (.const (.int .i64 0)))⟩])
   (.seq
    (.ops [⟨some 6, none, (.move (.tmp 1))⟩,
      ⟨some 7, none, (.move (.tmp 0))⟩,
      ⟨some 8, none, (.call ⟨(.builtin .len), #[(.tmp 7)], #[39]⟩)⟩,
      ⟨some 9, none, (.binOp .sub 3 (.tmp 6) (.tmp 8) 3)⟩,
      ⟨some 1, none, (.assign (.tmp 9))⟩])
    (.seq
     (.seq
      (.ops [⟨some 10, none, (.move (.tmp 1))⟩,
        ⟨some 11, none, (.binOp .lss 3 (.tmp 10) (.const (.int .i64 0)) 3)⟩])
      (.cond (.tmp 11)
       (.seq
        (.ops [⟨some 4, none, (.assign (.const (.int .i64 (-1))))⟩])
        .ret)
       .skip))
     (.seq
      (.seq
       (.ops [⟨some 5, none, (.assign (.const (.int .i64 0)))⟩])
       (.block 0
        (.loop
         (.seq
          (.seq
           (.ops [⟨some 12, none, (.move (.tmp 5))⟩,
             ⟨some 13, none, (.move (.tmp 0))⟩,
             ⟨some 14, none, (.call ⟨(.builtin .len), #[(.tmp 13)], #[39]⟩)⟩,
             ⟨some 15, none, (.binOp .lss 3 (.tmp 12) (.tmp 14) 3)⟩])
           (.cond (.tmp 15)
            .skip
            (.exit 0)))
          (.seq
           (.block 1
            (.seq
             (.ops [⟨some 18, none, (.move (.tmp 0))⟩,
               ⟨some 19, none, (.move (.tmp 5))⟩,
               ⟨some 20, none, (.indexAddr 39 (.tmp 18) (.tmp 19))⟩,
               ⟨some 21, none, (.load 71 (.tmp 20))⟩,
               ⟨some 22, none, (.move (.tmp 1))⟩,
               ⟨some 23, none, (.call ⟨(.value (.func 52)), #[(.tmp 21), (.tmp 22)], #[71, 3]⟩)⟩,
               ⟨some 1, none, (.assign (.tmp 23))⟩])
             (.seq
              (.ops [⟨some 24, none, (.move (.tmp 1))⟩,
                ⟨some 25, none, (.binOp .lss 3 (.tmp 24) (.const (.int .i64 0)) 3)⟩])
              (.cond (.tmp 25)
               (.seq
                (.ops [⟨some 4, none, (.assign (.const (.int .i64 (-1))))⟩])
                .ret)
               .skip))))
           (.ops [⟨some 16, none, (.move (.tmp 5))⟩,
             ⟨some 17, none, (.binOp .add 3 (.tmp 16) (.const (.int .i64 1)) 3)⟩,
             ⟨some 5, none, (.assign (.tmp 17))⟩]))))))
      (.seq
       (.ops [⟨some 26, none, (.move (.tmp 1))⟩,
         ⟨some 4, none, (.assign (.tmp 26))⟩])
       .ret)))))
theorem w23 {args : Array Value} {H : AH} {Φ : Value → AH → Prop} (h : rW Try.prog k23 [] (fin Try.prog [(.tmp 4)] Φ) (tm0 args) H) : CallsA Try.prog 23 args H Φ :=
  CallsA.w k23 [(.tmp 4)] (fun _ => []) Try.func23 rfl rfl (by kernel_rfl) (by kernel_rfl) h

/-- spec.l1In -/
def k45 : KC :=
  (.seq
   (.ops [⟨some 6, none, (.assign (.const (.bool false)))⟩])
   (.seq
    (.ops [⟨some 7, none, (.move (.tmp 0))⟩,
      ⟨some 8, none, (.move (.tmp 1))⟩,
      ⟨some 9, none, (.binOp .geq 3 (.tmp 7) (.tmp 8) 3)⟩,
      ⟨some 10, none, (.move (.tmp 9))⟩,
      ⟨some 11, (some (10, true)), (.move (.tmp 0))⟩,
      ⟨some 12, (some (10, true)), (.move (.tmp 2))⟩,
      ⟨some 13, (some (10, true)), (.binOp .leq 3 (.tmp 11) (.tmp 12) 3)⟩,
      ⟨some 14, none, (.pick (.tmp 10) (.tmp 13) (.const (.bool false)))⟩,
      ⟨some 6, none, (.assign (.tmp 14))⟩])
    .ret))
theorem w45 {args : Array Value} {H : AH} {Φ : Value → AH → Prop} (h : rW Try.prog k45 [] (fin Try.prog [(.tmp 6)] Φ) (tm0 args) H) : CallsA Try.prog 45 args H Φ :=
  CallsA.w k45 [(.tmp 6)] (fun _ => []) Try.func45 rfl rfl (by kernel_rfl) (by kernel_rfl) h

/-- spec.NumOk -/
def k44 : KC :=
  (.seq
   (.ops [⟨some 2, none, (.assign (.const (.bool false)))⟩])
   (.seq
    (.ops [⟨some 3, none, (.move (.tmp 0))⟩,
      ⟨some 4, none, (.call ⟨(.value (.func 45)), #[(.tmp 3), (.const (.int .i64 (-1000000000000))), (.const (.int .i64 1000000000000))], #[3, 3, 3]⟩)⟩,
      ⟨some 2, none, (.assign (.tmp 4))⟩])
    .ret))
theorem w44 {args : Array Value} {H : AH} {Φ : Value → AH → Prop} (h : rW Try.prog k44 [] (fin Try.prog [(.tmp 2)] Φ) (tm0 args) H) : CallsA Try.prog 44 args H Φ :=
  CallsA.w k44 [(.tmp 2)] (fun _ => []) Try.func44 rfl rfl (by kernel_rfl) (by kernel_rfl) h

/-- spec.SizeOf -/
def k71 : KC :=
  (.seq
   (.ops [⟨some 2, none, (.assign (.const (.int .i64 0)))⟩])
   (.seq
    (.seq
     (.ops [⟨some 7, none, (.move (.tmp 0))⟩,
       ⟨some 8, none, (.call ⟨(.builtin .len), #[(.tmp 7)], #[51]⟩)⟩,
       ⟨some 9, none, (.binOp .gtr 3 (.tmp 8) (.const (.int .i64 3)) 3)⟩])
     (.cond (.tmp 9)
      (.seq
       (.ops [⟨some 2, none, (.assign (.const (.int .i64 (-1))))⟩])
       .ret)
      .skip))
    (.seq
     (.ops [⟨some 3, none, (.assign (.const (.bool false)))⟩])
     (.seq
      (.seq
       (.ops [⟨some 4, none, (.assign (.const (.int .i64 0)))⟩])
       (.block 0
        (.loop
         (.seq
          (.seq
           (.ops [⟨some 10, none, (.move (.tmp 4))⟩,
             ⟨some 11, none, (.move (.tmp 0))⟩,
             ⟨some 12, none, (.call ⟨(.builtin .len), #[(.tmp 11)], #[51]⟩)⟩,
             ⟨some 13, none, (.binOp .lss 3 (.tmp 10) (.tmp 12) 3)⟩])
           (.cond (.tmp 13)
            .skip
            (.exit 0)))
          (.seq
           (.block 1
            (.seq
             (.seq
              (.ops [⟨some 16, none, (.move (.tmp 0))⟩,
                ⟨some 17, none, (.move (.tmp 4))⟩,
                ⟨some 18, none, (.indexAddr 51 (.tmp 16) (.tmp 17))⟩,
                ⟨some 19, none, (.load 3 (.tmp 18))⟩,
                ⟨some 20, none, (.call ⟨(.value (.func 45)), #[(.tmp 19), (.const (.int .i64 0)), (.const (.int .i64 300))], #[3, 3, 3]⟩)⟩,
                ⟨some 21, none, (.unOp .not 4 (.tmp 20))⟩])
              (.cond (.tmp 21)
               (.seq
                (.ops [⟨some 2, none, (.assign (.const (.int .i64 (-1))))⟩])
                .ret)
               .skip))
             (.ops [⟨some 22, none, (.move (.tmp 3))⟩,
               ⟨some 23, none, (.move (.tmp 22))⟩,
               ⟨some 24, (some (23, false)), (.move (.tmp 0))⟩,
               ⟨some 25, (some (23, false)), (.move (.tmp 4))⟩,
               ⟨some 26, (some (23, false)), (.indexAddr 51 (.tmp 24) (.tmp 25))⟩,
               ⟨some 27, (some (23, false)), (.load 3 (.tmp 26))⟩,
               ⟨some 28, (some (23, false)), (.binOp .eql 3 (.tmp 27) (.const (.int .i64 0)) 3)⟩,
               ⟨some 29, none, (.pick (.tmp 23) (.const (.bool true)) (.tmp 28))⟩,
               ⟨some 3, none, (.assign (.tmp 29))⟩])))
           (.ops [⟨some 14, none, (.move (.tmp 4))⟩,
             ⟨some 15, none, (.binOp .add 3 (.tmp 14) (.const (.int .i64 1)) 3)⟩,
             ⟨some 4, none, (.assign (.tmp 15))⟩]))))))
      (.seq
       (.ops [⟨some 5, none, (.assign (.const (.int .i64 1)))⟩])
       (.seq
        (.seq
         (.ops [⟨some 6, none, (.assign (.const (.int .i64 0)))⟩])
         (.block 2
          (.loop
           (.seq
            (.seq
             (.ops [⟨some 30, none, (.move (.tmp 6))⟩,
               ⟨some 31, none, (.move (.tmp 0))⟩,
               ⟨some 32, none, (.call ⟨(.builtin .len), #[(.tmp 31)], #[51]⟩)⟩,
               ⟨some 33, none, (.binOp .lss 3 (.tmp 30) (.tmp 32) 3)⟩])
             (.cond (.tmp 33)
              .skip
              (.exit 2)))
            (.seq
             (.block 3
              (.ops [⟨some 36, none, (.move (.tmp 5))⟩,
                ⟨some 37, none, (.move (.tmp 0))⟩,
                ⟨some 38, none, (.move (.tmp 6))⟩,
                ⟨some 39, none, (.indexAddr 51 (.tmp 37) (.tmp 38))⟩,
                ⟨some 40, none, (.load 3 (.tmp 39))⟩,
                ⟨some 41, none, (.binOp .mul 3 (.tmp 36) (.tmp 40) 3)⟩,
                ⟨some 5, none, (.assign (.tmp 41))⟩]))
             (.ops [⟨some 34, none, (.move (.tmp 6))⟩,
               ⟨some 35, none, (.binOp .add 3 (.tmp 34) (.const (.int .i64 1)) 3)⟩,
               ⟨some 6, none, (.assign (.tmp 35))⟩]))))))
        (.seq
         (.seq
          (.ops [⟨some 42, none, (.move (.tmp 5))⟩,
            ⟨some 43, none, (.binOp .gtr 3 (.tmp 42) (.const (.int .i64 300)) 3)⟩,
            ⟨some 44, none, (.move (.tmp 43))⟩,
            ⟨some 45, (some (44, true)), (.move (.tmp 3))⟩,
            ⟨some 46, (some (44, true)), (.unOp .not 4 (.tmp 45))⟩,
            ⟨some 47, none, (.pick (.tmp 44) (.tmp 46) (.const (.bool false)))⟩])
          (.cond (.tmp 47)
           (.seq
            (.ops [⟨some 2, none, (.assign (.const (.int .i64 (-1))))⟩])
            .ret)
           .skip))
         (.seq
          (.ops [⟨some 48, none, (.move (.tmp 5))⟩,
            ⟨some 2, none, (.assign (.tmp 48))⟩])
          .ret))))))))
theorem w71 {args : Array Value} {H : AH} {Φ : Value → AH → Prop} (h : rW Try.prog k71 [] (fin Try.prog [(.tmp 2)] Φ) (tm0 args) H) : CallsA Try.prog 71 args H Φ :=
  CallsA.w k71 [(.tmp 2)] (fun _ => []) Try.func71 rfl rfl (by kernel_rfl) (by kernel_rfl) h

/-- spec.ArrayOk -/
def k53 : KC :=
  (.seq
   (.ops [⟨some 1, none, (.box 55 (.tmp 0))⟩,
     ⟨some 2, none, (.assign (.const (.bool false)))⟩])
   (.seq
    (.seq
     (.draw #[] [(1, 0), (4, 0), (4, 3)]
       [⟨some 4, none, (.fieldAddr 55 (.tmp 1) 0)⟩,
       ⟨some 5, none, (.load 51 (.tmp 4))⟩,
       ⟨some 6, none, (.call ⟨(.value (.func 71)), #[(.tmp 5)], #[51]⟩)⟩,
       ⟨some 7, none, (.fieldAddr 55 (.tmp 1) 1)⟩,
       ⟨some 8, none, (.load 51 (.tmp 7))⟩,
       ⟨some 9, none, (.call ⟨(.builtin .len), #[(.tmp 8)], #[51]⟩)⟩,
       ⟨some 10, none, (.binOp .neq 3 (.tmp 6) (.tmp 9) 3)⟩])
     (.cond (.tmp 10)
      (.seq
       (.ops [⟨some 2, none, (.assign (.const (.bool false)))⟩])
       .ret)
      .skip))
    (.seq
     (.seq
      (.ops [⟨some 3, none, (.assign (.const (.int .i64 0)))⟩])
      (.block 0
       (.loop
        (.seq
         (.seq
          (.ops [⟨some 11, none, (.move (.tmp 3))⟩,
            ⟨some 12, none, (.fieldAddr 55 (.tmp 1) 1)⟩,
            ⟨some 13, none, (.load 51 (.tmp 12))⟩,
            ⟨some 14, none, (.call ⟨(.builtin .len), #[(.tmp 13)], #[51]⟩)⟩,
            ⟨some 15, none, (.binOp .lss 3 (.tmp 11) (.tmp 14) 3)⟩])
          (.cond (.tmp 15)
           .skip
           (.exit 0)))
         (.seq
          (.block 1
           (.seq
            (.ops [⟨some 18, none, (.fieldAddr 55 (.tmp 1) 1)⟩,
              ⟨some 19, none, (.load 51 (.tmp 18))⟩,
              ⟨some 20, none, (.move (.tmp 3))⟩,
              ⟨some 21, none, (.indexAddr 51 (.tmp 19) (.tmp 20))⟩,
              ⟨some 22, none, (.load 3 (.tmp 21))⟩,
              ⟨some 23, none, (.call ⟨(.value (.func 44)), #[(.tmp 22)], #[3]⟩)⟩,
              ⟨some 24, none, (.unOp .not 4 (.tmp 23))⟩])
            (.cond (.tmp 24)
             (.seq
              (.ops [⟨some 2, none, (.assign (.const (.bool false)))⟩])
              .ret)
             .skip)))
          (.ops [⟨some 16, none, (.move (.tmp 3))⟩,
            ⟨some 17, none, (.binOp .add 3 (.tmp 16) (.const (.int .i64 1)) 3)⟩,
            ⟨some 3, none, (.assign (.tmp 17))⟩]))))))
     (.seq
      (.ops [⟨some 2, none, (.assign (.const (.bool true)))⟩])
      .ret))))
theorem w53 {args : Array Value} {H : AH} {Φ : Value → AH → Prop} (h : rW Try.prog k53 [] (fin Try.prog [(.tmp 2)] Φ) (tm0 args) H) : CallsA Try.prog 53 args H Φ :=
  CallsA.w k53 [(.tmp 2)] (fun i => if i = 1 then [(1, 0), (4, 0), (4, 3)] else []) Try.func53 rfl rfl (by kernel_rfl) (by kernel_rfl) h

/-- spec.VarsOk -/
def k24 : KC :=
  (.seq
   (.ops [⟨some 2, none, (.assign (.const (.bool false)))⟩])
   (.seq
    (.seq
     (.ops [⟨some 5, none, (.move (.tmp 0))⟩,
       ⟨some 6, none, (.call ⟨(.builtin .len), #[(.tmp 5)], #[34]⟩)⟩,
       ⟨some 7, none, (.binOp .neq 3 (.tmp 6) (.const (.int .i64 26)) 3)⟩])
     (.cond (.tmp 7)
      (.seq
       (.ops [⟨some 2, none, (.assign (.const (.bool false)))⟩])
       .ret)
      .skip))
    (.seq
     (.seq
      (.ops [⟨some 3, none, (.assign (.const (.int .i64 0)))⟩])
      (.block 0
       (.loop
        (.seq
         (.seq
          (.ops [⟨some 8, none, (.move (.tmp 3))⟩,
            ⟨some 9, none, (.binOp .lss 3 (.tmp 8) (.const (.int .i64 26)) 3)⟩])
          (.cond (.tmp 9)
           .skip
           (.exit 0)))
         (.seq
          (.block 1
           (.seq
            (.ops [⟨some 12, none, (.move (.tmp 0))⟩,
              ⟨some 13, none, (.move (.tmp 3))⟩,
              ⟨some 14, none, (.indexAddr 34 (.tmp 12) (.tmp 13))⟩,
              ⟨some 15, none, (.load 67 (.tmp 14))⟩,
              ⟨some 4, none, (.alloc 67)⟩,
              ⟨none, none, (.store 67 (.tmp 4) (.tmp 15))⟩])
            (.seq
             (.ops [⟨some 16, none, (.fieldAddr 67 (.tmp 4) 0)⟩,
               ⟨some 17, none, (.load 4 (.tmp 16))⟩,
               ⟨some 18, none, (.move (.tmp 17))⟩,
               ⟨some 19, (some (18, true)), (.fieldAddr 67 (.tmp 4) 1)⟩,
               ⟨some 20, (some (18, true)), (.load 55 (.tmp 19))⟩,
               ⟨some 21, (some (18, true)), (.call ⟨(.value (.func 53)), #[(.tmp 20)], #[55]⟩)⟩,
               ⟨some 22, (some (18, true)), (.unOp .not 4 (.tmp 21))⟩,
               ⟨some 23, none, (.pick (.tmp 18) (.tmp 22) (.const (.bool false)))⟩,
               ⟨some 24, none, (.move (.tmp 23))⟩,
               ⟨some 25, (some (24, false)), (.fieldAddr 67 (.tmp 4) 0)⟩,
               ⟨some 26, (some (24, false)), (.load 4 (.tmp 25))⟩,
               ⟨some 27, (some (24, false)), (.unOp .not 4 (.tmp 26))⟩,
               ⟨some 28, (some (24, false)), (.move (.tmp 27))⟩,
               ⟨some 29, (some (28, true)), (.fieldAddr 67 (.tmp 4) 1)⟩,
               ⟨some 30, (some (28, true)), (.fieldAddr 55 (.tmp 29) 0)⟩,
               ⟨some 31, (some (28, true)), (.load 51 (.tmp 30))⟩,
               ⟨some 32, (some (28, true)), (.call ⟨(.builtin .len), #[(.tmp 31)], #[51]⟩)⟩,
               ⟨some 33, (some (28, true)), (.fieldAddr 67 (.tmp 4) 1)⟩,
               ⟨some 34, (some (28, true)), (.fieldAddr 55 (.tmp 33) 1)⟩,
               ⟨some 35, (some (28, true)), (.load 51 (.tmp 34))⟩,
               ⟨some 36, (some (28, true)), (.call ⟨(.builtin .len), #[(.tmp 35)], #[51]⟩)⟩,
               ⟨some 37, (some (28, true)), (.binOp .add 3 (.tmp 32) (.tmp 36) 3)⟩,
               ⟨some 38, (some (28, true)), (.binOp .gtr 3 (.tmp 37) (.const (.int .i64 0)) 3)⟩,
               ⟨some 39, (some (24, false)), (.pick (.tmp 28) (.tmp 38) (.const (.bool false)))⟩,
               ⟨some 40, none, (.pick (.tmp 24) (.const (.bool true)) (.tmp 39))⟩])
             (.cond (.tmp 40)
              (.seq
               (.ops [⟨some 2, none, (.assign (.const (.bool false)))⟩])
               .ret)
              .skip))))
          (.ops [⟨some 10, none, (.move (.tmp 3))⟩,
            ⟨some 11, none, (.binOp .add 3 (.tmp 10) (.const (.int .i64 1)) 3)⟩,
            ⟨some 3, none, (.assign (.tmp 11))⟩]))))))
     (.seq
      (.ops [⟨some 2, none, (.assign (.const (.bool true)))⟩])
      .ret))))
theorem w24 {args : Array Value} {H : AH} {Φ : Value → AH → Prop} (h : rW Try.prog k24 [] (fin Try.prog [(.tmp 2)] Φ) (tm0 args) H) : CallsA Try.prog 24 args H Φ :=
  CallsA.w k24 [(.tmp 2)] (fun _ => []) Try.func24 rfl rfl (by kernel_rfl) (by kernel_rfl) h

/-- laws.toIntS -/
def k66 : KC :=
  (.seq
   (.ops [⟨some 2, none, (.assign (.const (.slice none 0 0)))⟩])
   (.seq
    (.ops [⟨some 5, none, (.move (.tmp 0))⟩,
      ⟨some 6, none, (.call ⟨(.builtin .len), #[(.tmp 5)], #[51]⟩)⟩,
      ⟨some 7, none, (.makeSlice 51 (.tmp 6) (.tmp 6))⟩,
      ⟨some 3, none, (.assign (.tmp 7))⟩])
    (.seq
     (.seq
      (.ops [⟨some 4, none, (.assign (.const (.int .i64 0)))⟩])
      (.block 0
       (.loop
        (.seq
         (.seq
          (.ops [⟨some 8, none, (.move (.tmp 4))⟩,
            ⟨some 9, none, (.move (.tmp 0))⟩,
            ⟨some 10, none, (.call ⟨(.builtin .len), #[(.tmp 9)], #[51]⟩)⟩,
            ⟨some 11, none, (.binOp .lss 3 (.tmp 8) (.tmp 10) 3)⟩])
          (.cond (.tmp 11)
           .skip
           (.exit 0)))
         (.seq
          (.block 1
           (.ops [⟨some 14, none, (.move (.tmp 3))⟩,
             ⟨some 15, none, (.move (.tmp 4))⟩,
             ⟨some 16, none, (.move (.tmp 0))⟩,
             ⟨some 17, none, (.move (.tmp 4))⟩,
             ⟨some 18, none, (.indexAddr 51 (.tmp 16) (.tmp 17))⟩,
             ⟨some 19, none, (.load 3 (.tmp 18))⟩,
             ⟨some 20, none, (.indexAddr 51 (.tmp 14) (.tmp 15))⟩,
             ⟨none, none, (.store 3 (.tmp 20) (.tmp 19))⟩]))
          (.ops [⟨some 12, none, (.move (.tmp 4))⟩,
            ⟨some 13, none, (.binOp .add 3 (.tmp 12) (.const (.int .i64 1)) 3)⟩,
            ⟨some 4, none, (.assign (.tmp 13))⟩]))))))
     (.seq
      (.ops [⟨some 21, none, (.move (.tmp 3))⟩,
        ⟨some 2, none, (.assign (.tmp 21))⟩])
      .ret))))
theorem w66 {args : Array Value} {H : AH} {Φ : Value → AH → Prop} (h : rW Try.prog k66 [] (fin Try.prog [(.tmp 2)] Φ) (tm0 args) H) : CallsA Try.prog 66 args H Φ :=
  CallsA.w k66 [(.tmp 2)] (fun _ => []) Try.func66 rfl rfl (by kernel_rfl) (by kernel_rfl) h

/-- laws.toArray -/
def k34 : KC :=
  (.seq
   (.ops [⟨some 1, none, (.box 53 (.tmp 0))⟩,
     ⟨some 2, none, (.alloc 55)⟩])
   (.seq
    (.ops [⟨some 3, none, (.alloc 55)⟩])
    (.seq
     (.ops [⟨some 4, none, (.fieldAddr 53 (.tmp 1) 0)⟩,
       ⟨some 5, none, (.load 51 (.tmp 4))⟩,
       ⟨some 6, none, (.call ⟨(.value (.func 66)), #[(.tmp 5)], #[51]⟩)⟩,
       ⟨some 7, none, (.fieldAddr 55 (.tmp 3) 0)⟩,
       ⟨none, none, (.store 51 (.tmp 7) (.tmp 6))⟩])
     (.seq
      (.ops [⟨some 8, none, (.fieldAddr 53 (.tmp 1) 1)⟩,
        ⟨some 9, none, (.load 51 (.tmp 8))⟩,
        ⟨some 10, none, (.call ⟨(.value (.func 66)), #[(.tmp 9)], #[51]⟩)⟩,
        ⟨some 11, none, (.fieldAddr 55 (.tmp 3) 1)⟩,
        ⟨none, none, (.store 51 (.tmp 11) (.tmp 10))⟩])
      (.seq
       (.ops [⟨some 12, none, (.load 55 (.tmp 3))⟩,
         ⟨none, none, (.store 55 (.tmp 2) (.tmp 12))⟩])
       .ret)))))
theorem w34 {args : Array Value} {H : AH} {Φ : Value → AH → Prop} (h : rW Try.prog k34 [] (fin Try.prog [(.cell 2 55)] Φ) (tm0 args) H) : CallsA Try.prog 34 args H Φ :=
  CallsA.w k34 [(.cell 2 55)] (fun _ => []) Try.func34 rfl rfl (by kernel_rfl) (by kernel_rfl) h

/-- laws.toVar -/
def k54 : KC :=
  (.seq
   (.ops [⟨some 1, none, (.box 71 (.tmp 0))⟩,
     ⟨some 2, none, (.alloc 67)⟩])
   (.seq
    (.ops [⟨some 3, none, (.alloc 67)⟩])
    (.seq
     (.ops [⟨some 4, none, (.fieldAddr 71 (.tmp 1) 0)⟩,
       ⟨some 5, none, (.load 4 (.tmp 4))⟩,
       ⟨some 6, none, (.fieldAddr 67 (.tmp 3) 0)⟩,
       ⟨none, none, (.store 4 (.tmp 6) (.tmp 5))⟩])
     (.seq
      (.ops [⟨some 7, none, (.fieldAddr 71 (.tmp 1) 1)⟩,
        ⟨some 8, none, (.load 53 (.tmp 7))⟩,
        ⟨some 9, none, (.call ⟨(.value (.func 34)), #[(.tmp 8)], #[53]⟩)⟩,
        ⟨some 10, none, (.fieldAddr 67 (.tmp 3) 1)⟩,
        ⟨none, none, (.store 55 (.tmp 10) (.tmp 9))⟩])
      (.seq
       (.ops [⟨some 11, none, (.load 67 (.tmp 3))⟩,
         ⟨none, none, (.store 67 (.tmp 2) (.tmp 11))⟩])
       .ret)))))
theorem w54 {args : Array Value} {H : AH} {Φ : Value → AH → Prop} (h : rW Try.prog k54 [] (fin Try.prog [(.cell 2 67)] Φ) (tm0 args) H) : CallsA Try.prog 54 args H Φ :=
  CallsA.w k54 [(.cell 2 67)] (fun _ => []) Try.func54 rfl rfl (by kernel_rfl) (by kernel_rfl) h

/-- laws.toVarS -/
def k25 : KC :=
  (.seq
   (.ops [⟨some 2, none, (.assign (.const (.slice none 0 0)))⟩])
   (.seq
    (.ops [⟨some 5, none, (.move (.tmp 0))⟩,
      ⟨some 6, none, (.call ⟨(.builtin .len), #[(.tmp 5)], #[39]⟩)⟩,
      ⟨some 7, none, (.makeSlice 34 (.tmp 6) (.tmp 6))⟩,
      ⟨some 3, none, (.assign (.tmp 7))⟩])
    (.seq
     (.seq
      (.ops [⟨some 4, none, (.assign (.const (.int .i64 0)))⟩])
      (.block 0
       (.loop
        (.seq
         (.seq
          (.ops [⟨some 8, none, (.move (.tmp 4))⟩,
            ⟨some 9, none, (.move (.tmp 0))⟩,
            ⟨some 10, none, (.call ⟨(.builtin .len), #[(.tmp 9)], #[39]⟩)⟩,
            ⟨some 11, none, (.binOp .lss 3 (.tmp 8) (.tmp 10) 3)⟩])
          (.cond (.tmp 11)
           .skip
           (.exit 0)))
         (.seq
          (.block 1
           (.ops [⟨some 14, none, (.move (.tmp 3))⟩,
             ⟨some 15, none, (.move (.tmp 4))⟩,
             ⟨some 16, none, (.move (.tmp 0))⟩,
             ⟨some 17, none, (.move (.tmp 4))⟩,
             ⟨some 18, none, (.indexAddr 39 (.tmp 16) (.tmp 17))⟩,
             ⟨some 19, none, (.load 71 (.tmp 18))⟩,
             ⟨some 20, none, (.call ⟨(.value (.func 54)), #[(.tmp 19)], #[71]⟩)⟩,
             ⟨some 21, none, (.indexAddr 34 (.tmp 14) (.tmp 15))⟩,
             ⟨none, none, (.store 67 (.tmp 21) (.tmp 20))⟩]))
          (.ops [⟨some 12, none, (.move (.tmp 4))⟩,
            ⟨some 13, none, (.binOp .add 3 (.tmp 12) (.const (.int .i64 1)) 3)⟩,
            ⟨some 4, none, (.assign (.tmp 13))⟩]))))))
     (.seq
      (.ops [⟨some 22, none, (.move (.tmp 3))⟩,
        ⟨some 2, none, (.assign (.tmp 22))⟩])
      .ret))))
theorem w25 {args : Array Value} {H : AH} {Φ : Value → AH → Prop} (h : rW Try.prog k25 [] (fin Try.prog [(.tmp 2)] Φ) (tm0 args) H) : CallsA Try.prog 25 args H Φ :=
  CallsA.w k25 [(.tmp 2)] (fun _ => []) Try.func25 rfl rfl (by kernel_rfl) (by kernel_rfl) h

/-- slices.IndexFunc[[]impl.Var,impl.Var] -/
def k72 : KC :=
  (.seq
   (.ops [⟨some 4, none, (.assign (.const (.int .i64 0)))⟩])
   (.seq
    (.seq
     (.ops [⟨some 6, none, (.move (.tmp 0))⟩,
       ⟨some 7, none, (.call ⟨(.builtin .len), #[(.tmp 6)], #[34]⟩)⟩,
       ⟨some 8, none, (.move (.const (.int .i64 0)))⟩])
     (.block 0
      (.loop
       (.seq
        (.ops [⟨some 9, none, (.binOp .lss 3 (.tmp 8) (.tmp 7) 3)⟩])
        (.seq
         (.cond (.tmp 9)
          .skip
          (.exit 0))
         (.seq
          (.block 1
           (.seq
            (.ops [⟨some 10, none, (.move (.tmp 8))⟩,
              ⟨some 5, none, (.assign (.tmp 10))⟩])
            (.seq
             (.ops [⟨some 11, none, (.move (.tmp 1))⟩,
               ⟨some 12, none, (.move (.tmp 0))⟩,
               ⟨some 13, none, (.move (.tmp 5))⟩,
               ⟨some 14, none, (.indexAddr 34 (.tmp 12) (.tmp 13))⟩,
               ⟨some 15, none, (.load 67 (.tmp 14))⟩,
               ⟨some 16, none, (.call ⟨(.value (.tmp 11)), #[(.tmp 15)], #[67]⟩)⟩])
             (.cond (.tmp 16)
              (.seq
               (.ops [⟨some 17, none, (.move (.tmp 5))⟩,
                 ⟨some 4, none, (.assign (.tmp 17))⟩])
               .ret)
              .skip))))
          (.ops [⟨some 18, none, (.binOp .add 3 (.tmp 8) (.const (.int .i64 1)) 3)⟩,
            ⟨some 8, none, (.move (.tmp 18))⟩])))))))
    (.seq
     (.ops [⟨some 4, none, (.assign (.const (.int .i64 (-1))))⟩])
     .ret)))
theorem w72 {args : Array Value} {H : AH} {Φ : Value → AH → Prop} (h : rW Try.prog k72 [] (fin Try.prog [(.tmp 4)] Φ) (tm0 args) H) : CallsA Try.prog 72 args H Φ :=
  CallsA.w k72 [(.tmp 4)] (fun _ => []) Try.func72 rfl rfl (by kernel_rfl) (by kernel_rfl) h

/-- slices.ContainsFunc[[]impl.Var,impl.Var] -/
def k55 : KC :=
  (.seq
   (.ops [⟨some 4, none, (.assign (.const (.bool false)))⟩])
   (.seq
    (.ops [⟨some 5, none, (.move (.tmp 0))⟩,
      ⟨some 6, none, (.move (.tmp 1))⟩,
      ⟨some 7, none, (.call ⟨(.value (.func 72)), #[(.tmp 5), (.tmp 6)], #[34, 75]⟩)⟩,
      ⟨some 8, none, (.binOp .geq 3 (.tmp 7) (.const (.int .i64 0)) 3)⟩,
      ⟨some 4, none, (.assign (.tmp 8))⟩])
    .ret))
theorem w55 {args : Array Value} {H : AH} {Φ : Value → AH → Prop} (h : rW Try.prog k55 [] (fin Try.prog [(.tmp 4)] Φ) (tm0 args) H) : CallsA Try.prog 55 args H Φ :=
  CallsA.w k55 [(.tmp 4)] (fun _ => []) Try.func55 rfl rfl (by kernel_rfl) (by kernel_rfl) h

/-- impl.within -/
def k48 : KC :=
  (.seq
   (.ops [⟨some 6, none, (.assign (.const (.bool false)))⟩])
   (.seq
    (.ops [⟨some 7, none, (.move (.tmp 0))⟩,
      ⟨some 8, none, (.move (.tmp 1))⟩,
      ⟨some 9, none, (.binOp .geq 3 (.tmp 7) (.tmp 8) 3)⟩,
      ⟨some 10, none, (.move (.tmp 9))⟩,
      ⟨some 11, (some (10, true)), (.move (.tmp 0))⟩,
      ⟨some 12, (some (10, true)), (.move (.tmp 2))⟩,
      ⟨some 13, (some (10, true)), (.binOp .leq 3 (.tmp 11) (.tmp 12) 3)⟩,
      ⟨some 14, none, (.pick (.tmp 10) (.tmp 13) (.const (.bool false)))⟩,
      ⟨some 6, none, (.assign (.tmp 14))⟩])
    .ret))
theorem w48 {args : Array Value} {H : AH} {Φ : Value → AH → Prop} (h : rW Try.prog k48 [] (fin Try.prog [(.tmp 6)] Φ) (tm0 args) H) : CallsA Try.prog 48 args H Φ :=
  CallsA.w k48 [(.tmp 6)] (fun _ => []) Try.func48 rfl rfl (by kernel_rfl) (by kernel_rfl) h

/-- impl.SizeOf -/
def k73 : KC :=
  (.seq
   (.ops [⟨some 2, none, (.assign (.const (.int .i64 0)))⟩])
   (.seq
    (.seq
     (.ops [⟨some 6, none, (.move (.tmp 0))⟩,
       ⟨some 7, none, (.call ⟨(.builtin .len), #[(.tmp 6)], #[51]⟩)⟩,
       ⟨some 8, none, (.binOp .gtr 3 (.tmp 7) (.const (.int .i64 3)) 3)⟩])
     (.cond (.tmp 8)
      (.seq
       (.ops [⟨some 2, none, (.assign (.const (.int .i64 (-1))))⟩])
       .ret)
      .skip))
    (.seq
     (.ops [⟨some 3, none, (.assign (.const (.int .i64 1)))⟩])
     (.seq
      (.seq
       (.ops [⟨some 9, none, (.move (.tmp 0))⟩,
         ⟨some 10, none, (.call ⟨(.builtin .len), #[(.tmp 9)], #[51]⟩)⟩,
         ⟨some 11, none, (.move (.const (.int .i64 0)))⟩])
       (.block 0
        (.loop
         (.seq
          (.ops [⟨some 12, none, (.binOp .lss 3 (.tmp 11) (.tmp 10) 3)⟩])
          (.seq
           (.cond (.tmp 12)
            .skip
            (.exit 0))
           (.seq
            (.block 1
             (.seq
              (.ops [⟨some 13, none, (.indexAddr 51 (.tmp 9) (.tmp 11))⟩,
                ⟨some 14, none, (.load 3 (.tmp 13))⟩,
                ⟨some 5, none, (.assign (.tmp 14))⟩])
              (.seq
               (.seq
                (.ops [⟨some 15, none, (.move (.tmp 5))⟩,
                  ⟨some 16, none, (.call ⟨(.value (.func 48)), #[(.tmp 15), (.const (.int .i64 0)), (.const (.int .i64 300))], #[3, 3, 3]⟩)⟩,
                  ⟨some 17, none, (.unOp .not 4 (.tmp 16))⟩])
                (.cond (.tmp 17)
                 (.seq
                  (.ops [⟨some 2, none, (.assign (.const (.int .i64 (-1))))⟩])
                  .ret)
                 .skip))
               (.ops [⟨some 18, none, (.move (.tmp 3))⟩,
                 ⟨some 19, none, (.move (.tmp 5))⟩,
                 ⟨some 20, none, (.binOp .mul 3 (.tmp 18) (.tmp 19) 3)⟩,
                 ⟨some 3, none, (.assign (.tmp 20))⟩]))))
            (.ops [⟨some 21, none, (.binOp .add 3 (.tmp 11) (.const (.int .i64 1)) 3)⟩,
              ⟨some 11, none, (.move (.tmp 21))⟩])))))))
      (.seq
       (.seq
        (.ops [⟨some 22, none, (.move (.tmp 3))⟩,
          ⟨some 23, none, (.binOp .gtr 3 (.tmp 22) (.const (.int .i64 300)) 3)⟩])
        (.cond (.tmp 23)
         (.seq
          (.ops [⟨some 2, none, (.assign (.const (.int .i64 (-1))))⟩])
          .ret)
         .skip))
       (.seq
        (.ops [⟨some 24, none, (.move (.tmp 3))⟩,
          ⟨some 2, none, (.assign (.tmp 24))⟩])
        .ret))))))
theorem w73 {args : Array Value} {H : AH} {Φ : Value → AH → Prop} (h : rW Try.prog k73 [] (fin Try.prog [(.tmp 2)] Φ) (tm0 args) H) : CallsA Try.prog 73 args H Φ :=
  CallsA.w k73 [(.tmp 2)] (fun _ => []) Try.func73 rfl rfl (by kernel_rfl) (by kernel_rfl) h

/-- slices.IndexFunc[[]int,int] -/
def k87 : KC :=
  (.seq
   (.ops [⟨some 4, none, (.assign (.const (.int .i64 0)))⟩])
   (.seq
    (.seq
     (.ops [⟨some 6, none, (.move (.tmp 0))⟩,
       ⟨some 7, none, (.call ⟨(.builtin .len), #[(.tmp 6)], #[51]⟩)⟩,
       ⟨some 8, none, (.move (.const (.int .i64 0)))⟩])
     (.block 0
      (.loop
       (.seq
        (.ops [⟨some 9, none, (.binOp .lss 3 (.tmp 8) (.tmp 7) 3)⟩])
        (.seq
         (.cond (.tmp 9)
          .skip
          (.exit 0))
         (.seq
          (.block 1
           (.seq
            (.ops [⟨some 10, none, (.move (.tmp 8))⟩,
              ⟨some 5, none, (.assign (.tmp 10))⟩])
            (.seq
             (.ops [⟨some 11, none, (.move (.tmp 1))⟩,
               ⟨some 12, none, (.move (.tmp 0))⟩,
               ⟨some 13, none, (.move (.tmp 5))⟩,
               ⟨some 14, none, (.indexAddr 51 (.tmp 12) (.tmp 13))⟩,
               ⟨some 15, none, (.load 3 (.tmp 14))⟩,
               ⟨some 16, none, (.call ⟨(.value (.tmp 11)), #[(.tmp 15)], #[3]⟩)⟩])
             (.cond (.tmp 16)
              (.seq
               (.ops [⟨some 17, none, (.move (.tmp 5))⟩,
                 ⟨some 4, none, (.assign (.tmp 17))⟩])
               .ret)
              .skip))))
          (.ops [⟨some 18, none, (.binOp .add 3 (.tmp 8) (.const (.int .i64 1)) 3)⟩,
            ⟨some 8, none, (.move (.tmp 18))⟩])))))))
    (.seq
     (.ops [⟨some 4, none, (.assign (.const (.int .i64 (-1))))⟩])
     .ret)))
theorem w87 {args : Array Value} {H : AH} {Φ : Value → AH → Prop} (h : rW Try.prog k87 [] (fin Try.prog [(.tmp 4)] Φ) (tm0 args) H) : CallsA Try.prog 87 args H Φ :=
  CallsA.w k87 [(.tmp 4)] (fun _ => []) Try.func87 rfl rfl (by kernel_rfl) (by kernel_rfl) h

/-- slices.ContainsFunc[[]int,int] -/
def k74 : KC :=
  (.seq
   (.ops [⟨some 4, none, (.assign (.const (.bool false)))⟩])
   (.seq
    (.ops [⟨some 5, none, (.move (.tmp 0))⟩,
      ⟨some 6, none, (.move (.tmp 1))⟩,
      ⟨some 7, none, (.call ⟨(.value (.func 87)), #[(.tmp 5), (.tmp 6)], #[51, 62]⟩)⟩,
      ⟨some 8, none, (.binOp .geq 3 (.tmp 7) (.const (.int .i64 0)) 3)⟩,
      ⟨some 4, none, (.assign (.tmp 8))⟩])
    .ret))
theorem w74 {args : Array Value} {H : AH} {Φ : Value → AH → Prop} (h : rW Try.prog k74 [] (fin Try.prog [(.tmp 4)] Φ) (tm0 args) H) : CallsA Try.prog 74 args H Φ :=
  CallsA.w k74 [(.tmp 4)] (fun _ => []) Try.func74 rfl rfl (by kernel_rfl) (by kernel_rfl) h

/-- impl.NumOk -/
def k47 : KC :=
  (.seq
   (.ops [⟨some 2, none, (.assign (.const (.bool false)))⟩])
   (.seq
    (.ops [⟨some 3, none, (.move (.tmp 0))⟩,
      ⟨some 4, none, (.call ⟨(.value (.func 48)), #[(.tmp 3), (.const (.int .i64 (-1000000000000))), (.const (.int .i64 1000000000000))], #[3, 3, 3]⟩)⟩,
      ⟨some 2, none, (.assign (.tmp 4))⟩])
    .ret))
theorem w47 {args : Array Value} {H : AH} {Φ : Value → AH → Prop} (h : rW Try.prog k47 [] (fin Try.prog [(.tmp 2)] Φ) (tm0 args) H) : CallsA Try.prog 47 args H Φ :=
  CallsA.w k47 [(.tmp 2)] (fun _ => []) Try.func47 rfl rfl (by kernel_rfl) (by kernel_rfl) h

/-- impl.ArrayOk$1 -/
def k75 : KC :=
  (.seq
   (.ops [⟨some 2, none, (.assign (.const (.bool false)))⟩])
   (.seq
    (.ops [⟨some 3, none, (.move (.tmp 0))⟩,
      ⟨some 4, none, (.call ⟨(.value (.func 47)), #[(.tmp 3)], #[3]⟩)⟩,
      ⟨some 5, none, (.unOp .not 4 (.tmp 4))⟩,
      ⟨some 2, none, (.assign (.tmp 5))⟩])
    .ret))
theorem w75 {args : Array Value} {H : AH} {Φ : Value → AH → Prop} (h : rW Try.prog k75 [] (fin Try.prog [(.tmp 2)] Φ) (tm0 args) H) : CallsA Try.prog 75 args H Φ :=
  CallsA.w k75 [(.tmp 2)] (fun _ => []) Try.func75 rfl rfl (by kernel_rfl) (by kernel_rfl) h

/-- impl.ArrayOk -/
def k57 : KC :=
  (.seq
   (.ops [⟨some 1, none, (.box 55 (.tmp 0))⟩,
     ⟨some 2, none, (.assign (.const (.bool false)))⟩])
   (.seq
    (.draw #[] [(1, 0), (1, 6), (4, 0), (9, 6)]
      [⟨some 3, none, (.fieldAddr 55 (.tmp 1) 1)⟩,
      ⟨some 4, none, (.load 51 (.tmp 3))⟩,
      ⟨some 5, none, (.call ⟨(.builtin .len), #[(.tmp 4)], #[51]⟩)⟩,
      ⟨some 6, none, (.fieldAddr 55 (.tmp 1) 0)⟩,
      ⟨some 7, none, (.load 51 (.tmp 6))⟩,
      ⟨some 8, none, (.call ⟨(.value (.func 73)), #[(.tmp 7)], #[51]⟩)⟩,
      ⟨some 9, none, (.binOp .eql 3 (.tmp 5) (.tmp 8) 3)⟩,
      ⟨some 10, none, (.move (.tmp 9))⟩,
      ⟨some 11, (some (10, true)), (.fieldAddr 55 (.tmp 1) 1)⟩,
      ⟨some 12, (some (10, true)), (.load 51 (.tmp 11))⟩,
      ⟨some 13, (some (10, true)), (.call ⟨(.value (.func 74)), #[(.tmp 12), (.func 75)], #[51, 62]⟩)⟩,
      ⟨some 14, (some (10, true)), (.unOp .not 4 (.tmp 13))⟩,
      ⟨some 15, none, (.pick (.tmp 10) (.tmp 14) (.const (.bool false)))⟩,
      ⟨some 2, none, (.assign (.tmp 15))⟩])
    .ret))
theorem w57 {args : Array Value} {H : AH} {Φ : Value → AH → Prop} (h : rW Try.prog k57 [] (fin Try.prog [(.tmp 2)] Φ) (tm0 args) H) : CallsA Try.prog 57 args H Φ :=
  CallsA.w k57 [(.tmp 2)] (fun i => if i = 1 then [(1, 0), (1, 6), (4, 0), (9, 6)] else []) Try.func57 rfl rfl (by kernel_rfl) (by kernel_rfl) h

/-- impl.VarsOk$1 -/
def k56 : KC :=
  (.seq
   (.ops [⟨some 1, none, (.box 67 (.tmp 0))⟩,
     ⟨some 2, none, (.assign (.const (.bool false)))⟩])
   (.seq
    (.ops [⟨some 3, none, (.fieldAddr 67 (.tmp 1) 0)⟩,
      ⟨some 4, none, (.load 4 (.tmp 3))⟩,
      ⟨some 5, none, (.move (.tmp 4))⟩,
      ⟨some 6, (some (5, true)), (.fieldAddr 67 (.tmp 1) 1)⟩,
      ⟨some 7, (some (5, true)), (.load 55 (.tmp 6))⟩,
      ⟨some 8, (some (5, true)), (.call ⟨(.value (.func 57)), #[(.tmp 7)], #[55]⟩)⟩,
      ⟨some 9, (some (5, true)), (.unOp .not 4 (.tmp 8))⟩,
      ⟨some 10, none, (.pick (.tmp 5) (.tmp 9) (.const (.bool false)))⟩,
      ⟨some 11, none, (.move (.tmp 10))⟩,
      ⟨some 12, (some (11, false)), (.fieldAddr 67 (.tmp 1) 0)⟩,
      ⟨some 13, (some (11, false)), (.load 4 (.tmp 12))⟩,
      ⟨some 14, (some (11, false)), (.unOp .not 4 (.tmp 13))⟩,
      ⟨some 15, (some (11, false)), (.move (.tmp 14))⟩,
      ⟨some 16, (some (15, true)), (.fieldAddr 67 (.tmp 1) 1)⟩,
      ⟨some 17, (some (15, true)), (.fieldAddr 55 (.tmp 16) 0)⟩,
      ⟨some 18, (some (15, true)), (.load 51 (.tmp 17))⟩,
      ⟨some 19, (some (15, true)), (.call ⟨(.builtin .len), #[(.tmp 18)], #[51]⟩)⟩,
      ⟨some 20, (some (15, true)), (.fieldAddr 67 (.tmp 1) 1)⟩,
      ⟨some 21, (some (15, true)), (.fieldAddr 55 (.tmp 20) 1)⟩,
      ⟨some 22, (some (15, true)), (.load 51 (.tmp 21))⟩,
      ⟨some 23, (some (15, true)), (.call ⟨(.builtin .len), #[(.tmp 22)], #[51]⟩)⟩,
      ⟨some 24, (some (15, true)), (.binOp .add 3 (.tmp 19) (.tmp 23) 3)⟩,
      ⟨some 25, (some (15, true)), (.binOp .gtr 3 (.tmp 24) (.const (.int .i64 0)) 3)⟩,
      ⟨some 26, (some (11, false)), (.pick (.tmp 15) (.tmp 25) (.const (.bool false)))⟩,
      ⟨some 27, none, (.pick (.tmp 11) (.const (.bool true)) (.tmp 26))⟩,
      ⟨some 2, none, (.assign (.tmp 27))⟩])
    .ret))
theorem w56 {args : Array Value} {H : AH} {Φ : Value → AH → Prop} (h : rW Try.prog k56 [] (fin Try.prog [(.tmp 2)] Φ) (tm0 args) H) : CallsA Try.prog 56 args H Φ :=
  CallsA.w k56 [(.tmp 2)] (fun _ => []) Try.func56 rfl rfl (by kernel_rfl) (by kernel_rfl) h

/-- impl.VarsOk -/
def k26 : KC :=
  (.seq
   (.ops [⟨some 2, none, (.assign (.const (.bool false)))⟩])
   (.seq
    (.ops [⟨some 3, none, (.move (.tmp 0))⟩,
      ⟨some 4, none, (.call ⟨(.builtin .len), #[(.tmp 3)], #[34]⟩)⟩,
      ⟨some 5, none, (.binOp .eql 3 (.tmp 4) (.const (.int .i64 26)) 3)⟩,
      ⟨some 6, none, (.move (.tmp 5))⟩,
      ⟨some 7, (some (6, true)), (.move (.tmp 0))⟩,
      ⟨some 8, (some (6, true)), (.call ⟨(.value (.func 55)), #[(.tmp 7), (.func 56)], #[34, 75]⟩)⟩,
      ⟨some 9, (some (6, true)), (.unOp .not 4 (.tmp 8))⟩,
      ⟨some 10, none, (.pick (.tmp 6) (.tmp 9) (.const (.bool false)))⟩,
      ⟨some 2, none, (.assign (.tmp 10))⟩])
    .ret))
theorem w26 {args : Array Value} {H : AH} {Φ : Value → AH → Prop} (h : rW Try.prog k26 [] (fin Try.prog [(.tmp 2)] Φ) (tm0 args) H) : CallsA Try.prog 26 args H Φ :=
  CallsA.w k26 [(.tmp 2)] (fun _ => []) Try.func26 rfl rfl (by kernel_rfl) (by kernel_rfl) h

/-- laws.FnExactVarsOk -/
def k7 : KC :=
  (.seq
   (.ops [⟨some 2, none, (.assign (.const (.bool false)))⟩])
   (.seq
    (.ops [⟨some 3, none, (.assign (.const (.int .i64 1048576)))⟩])
    (.seq
     (.ops [⟨some 7, none, (.move (.tmp 0))⟩,
       ⟨some 8, none, (.move (.tmp 3))⟩,
       ⟨some 9, none, (.call ⟨(.value (.func 23)), #[(.tmp 7), (.tmp 8)], #[39, 3]⟩)⟩,
       ⟨some 3, none, (.assign (.tmp 9))⟩])
     (.seq
      (.seq
       (.ops [⟨some 10, none, (.move (.tmp 3))⟩,
         ⟨some 11, none, (.binOp .lss 3 (.tmp 10) (.const (.int .i64 0)) 3)⟩])
       (.cond (.tmp 11)
        (.seq
         (.ops [⟨some 2, none, (.assign (.const (.bool true)))⟩])
         .ret)
        .skip))
      (.seq
       (.ops [⟨some 12, none, (.move (.tmp 0))⟩,
         ⟨some 13, none, (.call ⟨(.value (.func 25)), #[(.tmp 12)], #[39]⟩)⟩,
         ⟨some 14, none, (.call ⟨(.value (.func 24)), #[(.tmp 13)], #[34]⟩)⟩,
         ⟨some 4, none, (.assign (.tmp 14))⟩])
       (.seq
        (.ops [⟨some 15, none, (.move (.tmp 0))⟩,
          ⟨some 16, none, (.call ⟨(.value (.func 25)), #[(.tmp 15)], #[39]⟩)⟩,
          ⟨some 5, none, (.assign (.tmp 16))⟩])
        (.seq
         (.ops [⟨some 17, none, (.move (.tmp 5))⟩,
           ⟨some 18, none, (.call ⟨(.value (.func 26)), #[(.tmp 17)], #[34]⟩)⟩,
           ⟨some 6, none, (.assign (.tmp 18))⟩])
         (.seq
          (.seq
           (.ops [⟨some 19, none, (.move (.tmp 6))⟩,
             ⟨some 20, none, (.move (.tmp 4))⟩,
             ⟨some 21, none, (.binOp .neq 4 (.tmp 19) (.tmp 20) 4)⟩])
           (.cond (.tmp 21)
            (.seq
             (.ops [⟨some 2, none, (.assign (.const (.bool false)))⟩])
             .ret)
            .skip))
          (.seq
           (.seq
            (.ops [⟨some 22, none, (.move (.tmp 5))⟩,
              ⟨some 23, none, (.move (.tmp 0))⟩,
              ⟨some 24, none, (.call ⟨(.value (.func 25)), #[(.tmp 23)], #[39]⟩)⟩,
              ⟨some 25, none, (.call ⟨(.value (.func 20)), #[(.tmp 22), (.tmp 24)], #[34, 34]⟩)⟩,
              ⟨some 26, none, (.unOp .not 4 (.tmp 25))⟩])
            (.cond (.tmp 26)
             (.seq
              (.ops [⟨some 2, none, (.assign (.const (.bool false)))⟩])
              .ret)
             .skip))
           (.seq
            (.ops [⟨some 2, none, (.assign (.const (.bool true)))⟩])
            .ret))))))))))
theorem w7 {args : Array Value} {H : AH} {Φ : Value → AH → Prop} (h : rW Try.prog k7 [] (fin Try.prog [(.tmp 2)] Φ) (tm0 args) H) : CallsA Try.prog 7 args H Φ :=
  CallsA.w k7 [(.tmp 2)] (fun _ => []) Try.func7 rfl rfl (by kernel_rfl) (by kernel_rfl) h

end Go.Proofs.Ytpmhhjinapfhbaa.AM
