/- The code of the functions that the laws reach, made short; and facts on the types that they use. -/
import Derived.Test.YtgekbancaeabgaaA7
import Derived.Test.YtgekbancaeabgaaA6
import Derived.KernelRfl
import Derived.Test.YtgekbancaeabgaaRows
set_option linter.unusedVariables false
set_option linter.unusedSimpArgs false
set_option maxRecDepth 100000
/- The code of the functions that the laws reach, made short; and facts on the types that they use. -/
namespace Go.Proofs.Ytgekbancaeabgaa.AM
open Go Go.Proofs.Ytgekbancaeabgaa Go.Proofs

theorem al27 {ev : Operand → Value} : aMake Try.prog ev (.alloc 27) = some ([.int .i64 0, .slice none 0 0, .slice none 0 0, .int .i64 0, .int .i64 0], none) := by kernel_rfl
theorem al45 {ev : Operand → Value} : aMake Try.prog ev (.alloc 45) = some ([.slice none 0 0, .slice none 0 0], none) := by kernel_rfl
theorem al89 {ev : Operand → Value} : aMake Try.prog ev (.alloc 89) = some ([.bool false, .slice none 0 0, .slice none 0 0], none) := by kernel_rfl
theorem ap25_25 {a a' : Option Addr} {n c n' c' : Nat} {H : AH} : aAppend Try.prog #[25, 25] #[.slice a n c, .slice a' n' c'] H = app 3 (.slice a n c) (.slice a' n' c') H := append_eq (z := .agg #[.bool false, .slice none 0 0, .slice none 0 0]) (e := 89) (e' := 89) (by kernel_rfl) (by kernel_rfl) (by kernel_rfl) (by kernel_rfl) (by kernel_rfl) (by kernel_rfl)
theorem ap43_43 {a a' : Option Addr} {n c n' c' : Nat} {H : AH} : aAppend Try.prog #[43, 43] #[.slice a n c, .slice a' n' c'] H = app 1 (.slice a n c) (.slice a' n' c') H := append_eq (z := .int .i64 0) (e := 3) (e' := 3) (by kernel_rfl) (by kernel_rfl) (by kernel_rfl) (by kernel_rfl) (by kernel_rfl) (by kernel_rfl)
theorem bd27 {ps : Array (Nat × Value)} : aBuild Try.prog 27 ps = (fillP [(0, 1), (1, 1), (2, 1), (3, 1), (4, 1)] [.int .i64 0, .slice none 0 0, .slice none 0 0, .int .i64 0, .int .i64 0] ps.toList).map fun cs => .agg cs.toArray := build_eq (z := .agg #[.int .i64 0, .slice none 0 0, .slice none 0 0, .int .i64 0, .int .i64 0]) Try.underlying27 (by kernel_rfl) (by kernel_rfl) (by kernel_rfl) rfl
theorem bd45 {ps : Array (Nat × Value)} : aBuild Try.prog 45 ps = (fillP [(0, 1), (1, 1)] [.slice none 0 0, .slice none 0 0] ps.toList).map fun cs => .agg cs.toArray := build_eq (z := .agg #[.slice none 0 0, .slice none 0 0]) Try.underlying45 (by kernel_rfl) (by kernel_rfl) (by kernel_rfl) rfl
theorem bd89 {ps : Array (Nat × Value)} : aBuild Try.prog 89 ps = (fillP [(0, 1), (1, 2)] [.bool false, .slice none 0 0, .slice none 0 0] ps.toList).map fun cs => .agg cs.toArray := build_eq (z := .agg #[.bool false, .slice none 0 0, .slice none 0 0]) Try.underlying89 (by kernel_rfl) (by kernel_rfl) (by kernel_rfl) rfl
theorem bs25_0 {ev : Operand → Value} : aMake Try.prog ev (.buildSlice 25 0 #[]) = (fillP [] [] []).map fun cs => (cs, some (0, 3)) := bslice_eq (z := .agg #[.bool false, .slice none 0 0, .slice none 0 0]) (e := 89) (by kernel_rfl) (by kernel_rfl) (by kernel_rfl) (by decide) (by kernel_rfl) (by kernel_rfl) rfl rfl
theorem bs25_1 {ev : Operand → Value} {x0 : Operand} : aMake Try.prog ev (.buildSlice 25 1 #[(0, x0)]) = (fillP [(0, 3)] [.bool false, .slice none 0 0, .slice none 0 0] [(0, ev x0)]).map fun cs => (cs, some (1, 3)) := bslice_eq (z := .agg #[.bool false, .slice none 0 0, .slice none 0 0]) (e := 89) (by kernel_rfl) (by kernel_rfl) (by kernel_rfl) (by decide) (by kernel_rfl) (by kernel_rfl) rfl rfl
theorem bs43_0 {ev : Operand → Value} : aMake Try.prog ev (.buildSlice 43 0 #[]) = (fillP [] [] []).map fun cs => (cs, some (0, 1)) := bslice_eq (z := .int .i64 0) (e := 3) (by kernel_rfl) (by kernel_rfl) (by kernel_rfl) (by decide) (by kernel_rfl) (by kernel_rfl) rfl rfl
theorem fa27_0 {b o : Nat} : aFieldAddr Try.prog 27 (.pointer (some ⟨b, o, none⟩)) 0 = some (.pointer (some ⟨b, o + 0, none⟩)) := by kernel_rfl
theorem fa27_1 {b o : Nat} : aFieldAddr Try.prog 27 (.pointer (some ⟨b, o, none⟩)) 1 = some (.pointer (some ⟨b, o + 1, none⟩)) := by kernel_rfl
theorem fa27_2 {b o : Nat} : aFieldAddr Try.prog 27 (.pointer (some ⟨b, o, none⟩)) 2 = some (.pointer (some ⟨b, o + 2, none⟩)) := by kernel_rfl
theorem fa27_3 {b o : Nat} : aFieldAddr Try.prog 27 (.pointer (some ⟨b, o, none⟩)) 3 = some (.pointer (some ⟨b, o + 3, none⟩)) := by kernel_rfl
theorem fa27_4 {b o : Nat} : aFieldAddr Try.prog 27 (.pointer (some ⟨b, o, none⟩)) 4 = some (.pointer (some ⟨b, o + 4, none⟩)) := by kernel_rfl
theorem fa45_0 {b o : Nat} : aFieldAddr Try.prog 45 (.pointer (some ⟨b, o, none⟩)) 0 = some (.pointer (some ⟨b, o + 0, none⟩)) := by kernel_rfl
theorem fa45_1 {b o : Nat} : aFieldAddr Try.prog 45 (.pointer (some ⟨b, o, none⟩)) 1 = some (.pointer (some ⟨b, o + 1, none⟩)) := by kernel_rfl
theorem fa77_0 {b o : Nat} : aFieldAddr Try.prog 77 (.pointer (some ⟨b, o, none⟩)) 0 = some (.pointer (some ⟨b, o + 0, none⟩)) := by kernel_rfl
theorem fa77_1 {b o : Nat} : aFieldAddr Try.prog 77 (.pointer (some ⟨b, o, none⟩)) 1 = some (.pointer (some ⟨b, o + 1, none⟩)) := by kernel_rfl
theorem fa86_0 {b o : Nat} : aFieldAddr Try.prog 86 (.pointer (some ⟨b, o, none⟩)) 0 = some (.pointer (some ⟨b, o + 0, none⟩)) := by kernel_rfl
theorem fa86_1 {b o : Nat} : aFieldAddr Try.prog 86 (.pointer (some ⟨b, o, none⟩)) 1 = some (.pointer (some ⟨b, o + 1, none⟩)) := by kernel_rfl
theorem fa89_0 {b o : Nat} : aFieldAddr Try.prog 89 (.pointer (some ⟨b, o, none⟩)) 0 = some (.pointer (some ⟨b, o + 0, none⟩)) := by kernel_rfl
theorem fa89_1 {b o : Nat} : aFieldAddr Try.prog 89 (.pointer (some ⟨b, o, none⟩)) 1 = some (.pointer (some ⟨b, o + 1, none⟩)) := by kernel_rfl
theorem ix22 {b o n c : Nat} {k : IntKind} {j : Int} : aIndexAddr Try.prog 22 (.slice (some ⟨b, o, none⟩) n c) (.int k j) = if 0 ≤ j ∧ j < n then some (.pointer (some ⟨b, o + j.toNat * 3, none⟩)) else none := by kernel_rfl
theorem ix24 {b o n c : Nat} {k : IntKind} {j : Int} : aIndexAddr Try.prog 24 (.slice (some ⟨b, o, none⟩) n c) (.int k j) = if 0 ≤ j ∧ j < n then some (.pointer (some ⟨b, o + j.toNat * 2, none⟩)) else none := by kernel_rfl
theorem ix25 {b o n c : Nat} {k : IntKind} {j : Int} : aIndexAddr Try.prog 25 (.slice (some ⟨b, o, none⟩) n c) (.int k j) = if 0 ≤ j ∧ j < n then some (.pointer (some ⟨b, o + j.toNat * 3, none⟩)) else none := by kernel_rfl
theorem ix43 {b o n c : Nat} {k : IntKind} {j : Int} : aIndexAddr Try.prog 43 (.slice (some ⟨b, o, none⟩) n c) (.int k j) = if 0 ≤ j ∧ j < n then some (.pointer (some ⟨b, o + j.toNat * 1, none⟩)) else none := by kernel_rfl
theorem ld3 {o : Nat} {cs : List Value} : ld Try.prog 3 o cs = cs[o]? := ld_one (by kernel_rfl)
theorem ld4 {o : Nat} {cs : List Value} : ld Try.prog 4 o cs = cs[o]? := ld_one (by kernel_rfl)
theorem ld24 {o : Nat} {cs : List Value} : ld Try.prog 24 o cs = cs[o]? := ld_one (by kernel_rfl)
theorem ld25 {o : Nat} {cs : List Value} : ld Try.prog 25 o cs = cs[o]? := ld_one (by kernel_rfl)
theorem ld27 {o : Nat} {cs : List Value} : ld Try.prog 27 o cs = aggAt 5 o cs := ld_agg (by kernel_rfl) (by kernel_rfl)
theorem ld43 {o : Nat} {cs : List Value} : ld Try.prog 43 o cs = cs[o]? := ld_one (by kernel_rfl)
theorem ld45 {o : Nat} {cs : List Value} : ld Try.prog 45 o cs = aggAt 2 o cs := ld_agg (by kernel_rfl) (by kernel_rfl)
theorem ld77 {o : Nat} {cs : List Value} : ld Try.prog 77 o cs = aggAt 2 o cs := ld_agg (by kernel_rfl) (by kernel_rfl)
theorem ld86 {o : Nat} {cs : List Value} : ld Try.prog 86 o cs = aggAt 3 o cs := ld_agg (by kernel_rfl) (by kernel_rfl)
theorem ld89 {o : Nat} {cs : List Value} : ld Try.prog 89 o cs = aggAt 3 o cs := ld_agg (by kernel_rfl) (by kernel_rfl)
theorem ln22 {a : Option Addr} {n c : Nat} : aLen Try.prog #[22] #[.slice a n c] = some (.int .i64 n) := by kernel_rfl
theorem ln24 {a : Option Addr} {n c : Nat} : aLen Try.prog #[24] #[.slice a n c] = some (.int .i64 n) := by kernel_rfl
theorem ln25 {a : Option Addr} {n c : Nat} : aLen Try.prog #[25] #[.slice a n c] = some (.int .i64 n) := by kernel_rfl
theorem ln43 {a : Option Addr} {n c : Nat} : aLen Try.prog #[43] #[.slice a n c] = some (.int .i64 n) := by kernel_rfl
theorem ms25 {k k' : IntKind} {n : Int} : mkS Try.prog 25 (.int k n) (.int k' n) = if 0 ≤ n ∧ n ≤ 1073741824 then some ((List.replicate n.toNat [.bool false, .slice none 0 0, .slice none 0 0]).flatten, some (n.toNat, 3)) else none := mkS_eq (z := .agg #[.bool false, .slice none 0 0, .slice none 0 0]) (e := 89) (by kernel_rfl) (by kernel_rfl) (by kernel_rfl) (by kernel_rfl) (by kernel_rfl) (by kernel_rfl) (by decide)
theorem ms43 {k k' : IntKind} {n : Int} : mkS Try.prog 43 (.int k n) (.int k' n) = if 0 ≤ n ∧ n ≤ 1073741824 then some ((List.replicate n.toNat [.int .i64 0]).flatten, some (n.toNat, 1)) else none := mkS_eq (z := .int .i64 0) (e := 3) (by kernel_rfl) (by kernel_rfl) (by kernel_rfl) (by kernel_rfl) (by kernel_rfl) (by kernel_rfl) (by decide)
theorem st3 {b o : Nat} {v : Value} {H : AH} : aStore Try.prog 3 (.pointer (some ⟨b, o, none⟩)) v H = sto 1 b o v H (wrt H b) := store_eq (by kernel_rfl)
theorem st4 {b o : Nat} {v : Value} {H : AH} : aStore Try.prog 4 (.pointer (some ⟨b, o, none⟩)) v H = sto 1 b o v H (wrt H b) := store_eq (by kernel_rfl)
theorem st27 {b o : Nat} {v : Value} {H : AH} : aStore Try.prog 27 (.pointer (some ⟨b, o, none⟩)) v H = sto 5 b o v H (wrt H b) := store_eq (by kernel_rfl)
theorem st43 {b o : Nat} {v : Value} {H : AH} : aStore Try.prog 43 (.pointer (some ⟨b, o, none⟩)) v H = sto 1 b o v H (wrt H b) := store_eq (by kernel_rfl)
theorem st45 {b o : Nat} {v : Value} {H : AH} : aStore Try.prog 45 (.pointer (some ⟨b, o, none⟩)) v H = sto 2 b o v H (wrt H b) := store_eq (by kernel_rfl)
theorem st89 {b o : Nat} {v : Value} {H : AH} : aStore Try.prog 89 (.pointer (some ⟨b, o, none⟩)) v H = sto 3 b o v H (wrt H b) := store_eq (by kernel_rfl)
theorem ub4 : Try.prog.underlying 4 = some .bool := by kernel_rfl

/-- laws.szIntS -/
def k138 : KC :=
  (.seq
   (.ops [⟨some 4, none, (.assign (.const (.int .i64 0)))⟩])
   (.seq
    (.ops [⟨some 5, none, (.move (.tmp 1))⟩,
      ⟨some 6, none, (.move (.tmp 0))⟩,
      ⟨some 7, none, (.call ⟨(.builtin .len), #[(.tmp 6)], #[43]⟩)⟩,
      ⟨some 8, none, (.binOp .sub 3 (.tmp 5) (.tmp 7) 3)⟩,
      ⟨some 1, none, (.assign (.tmp 8))⟩])
    (.seq
     (.seq
      (.ops [⟨some 9, none, (.move (.tmp 1))⟩,
        ⟨some 10, none, (.binOp .lss 3 (.tmp 9) (.const (.int .i64 0)) 3)⟩])
      (.cond (.tmp 10)
       (.seq
        (.ops [⟨some 4, none, (.assign (.const (.int .i64 (-1))))⟩])
        .ret)
       .skip))
     (.seq
      (.ops [⟨some 11, none, (.move (.tmp 1))⟩,
        ⟨some 4, none, (.assign (.tmp 11))⟩])
      .ret))))
theorem w138 {args : Array Value} {H : AH} {Φ : Value → AH → Prop} (h : rW Try.prog k138 [] (fin Try.prog [(.tmp 4)] Φ) (tm0 args) H) : CallsA Try.prog 138 args H Φ :=
  CallsA.w k138 [(.tmp 4)] (fun _ => []) Try.func138 rfl rfl (by kernel_rfl) (by kernel_rfl) h

/-- laws.szArray -/
def k63 : KC :=
  (.seq
   (.ops [⟨some 2, none, (.box 77 (.tmp 0))⟩,
     ⟨some 4, none, (.assign (.const (.int .i64 0)))⟩])
   (.seq
    (.ops [⟨some 5, none, (.fieldAddr 77 (.tmp 2) 0)⟩,
      ⟨some 6, none, (.load 43 (.tmp 5))⟩,
      ⟨some 7, none, (.move (.tmp 1))⟩,
      ⟨some 8, none, (.call ⟨(.value (.func 138)), #[(.tmp 6), (.tmp 7)], #[43, 3]⟩)⟩,
      ⟨some 1, none, (.assign (.tmp 8))⟩])
    (.seq
     (.seq
      (.ops [⟨some 9, none, (.move (.tmp 1))⟩,
        ⟨some 10, none, (.binOp .lss 3 (.tmp 9) (.const (.int .i64 0)) 3)⟩])
      (.cond (.tmp 10)
       (.seq
        (.ops [⟨some 4, none, (.assign (.const (.int .i64 (-1))))⟩])
        .ret)
       .skip))
     (.seq
      (.ops [⟨some 11, none, (.fieldAddr 77 (.tmp 2) 1)⟩,
        ⟨some 12, none, (.load 43 (.tmp 11))⟩,
        ⟨some 13, none, (.move (.tmp 1))⟩,
        ⟨some 14, none, (.call ⟨(.value (.func 138)), #[(.tmp 12), (.tmp 13)], #[43, 3]⟩)⟩,
        ⟨some 1, none, (.assign (.tmp 14))⟩])
      (.seq
       (.seq
        (.ops [⟨some 15, none, (.move (.tmp 1))⟩,
          ⟨some 16, none, (.binOp .lss 3 (.tmp 15) (.const (.int .i64 0)) 3)⟩])
        (.cond (.tmp 16)
         (.seq
          (.ops [⟨some 4, none, (.assign (.const (.int .i64 (-1))))⟩])
          .ret)
         .skip))
       (.seq
        (.ops [⟨some 17, none, (.move (.tmp 1))⟩,
          ⟨some 4, none, (.assign (.tmp 17))⟩])
        .ret))))))
theorem w63 {args : Array Value} {H : AH} {Φ : Value → AH → Prop} (h : rW Try.prog k63 [] (fin Try.prog [(.tmp 4)] Φ) (tm0 args) H) : CallsA Try.prog 63 args H Φ :=
  CallsA.w k63 [(.tmp 4)] (fun _ => []) Try.func63 rfl rfl (by kernel_rfl) (by kernel_rfl) h

/-- laws.szVar -/
def k72 : KC :=
  (.seq
   (.ops [⟨some 2, none, (.box 86 (.tmp 0))⟩,
     ⟨some 4, none, (.assign (.const (.int .i64 0)))⟩])
   (.seq
    (.ops [⟨some 5, none, (.fieldAddr 86 (.tmp 2) 1)⟩,
      ⟨some 6, none, (.load 77 (.tmp 5))⟩,
      ⟨some 7, none, (.move (.tmp 1))⟩,
      ⟨some 8, none, (.call ⟨(.value (.func 63)), #[(.tmp 6), (.tmp 7)], #[77, 3]⟩)⟩,
      ⟨some 1, none, (.assign (.tmp 8))⟩])
    (.seq
     (.seq
      (.ops [⟨some 9, none, (.move (.tmp 1))⟩,
        ⟨some 10, none, (.binOp .lss 3 (.tmp 9) (.const (.int .i64 0)) 3)⟩])
      (.cond (.tmp 10)
       (.seq
        (.ops [⟨some 4, none, (.assign (.const (.int .i64 (-1))))⟩])
        .ret)
       .skip))
     (.seq
      (.ops [⟨some 11, none, (.move (.tmp 1))⟩,
        ⟨some 4, none, (.assign (.tmp 11))⟩])
      .ret))))
theorem w72 {args : Array Value} {H : AH} {Φ : Value → AH → Prop} (h : rW Try.prog k72 [] (fin Try.prog [(.tmp 4)] Φ) (tm0 args) H) : CallsA Try.prog 72 args H Φ :=
  CallsA.w k72 [(.tmp 4)] (fun _ => []) Try.func72 rfl rfl (by kernel_rfl) (by kernel_rfl) h

/-- laws.szVarS -/
def k15 : KC :=
  (.seq
   (.ops [⟨some 4, none, (.assign (.const (.int .i64 0)))⟩])
   (.seq
    (.ops [⟨some 6, none, (.move (.tmp 1))⟩,
      ⟨some 7, none, (.move (.tmp 0))⟩,
      ⟨some 8, none, (.call ⟨(.builtin .len), #[(.tmp 7)], #[22]⟩)⟩,
      ⟨some 9, none, (.binOp .sub 3 (.tmp 6) (.tmp 8) 3)⟩,
      ⟨some 1, none, (.assign (.tmp 9))⟩])
    (.seq
     (.seq
      (.ops [⟨some 10, none, (.move (.tmp 1))⟩,
        ⟨some 11, none, (.binOp .lss 3 (.tmp 10) (.const (.int .i64 0)) 3)⟩])
      (.cond (.tmp 11)
       (.seq
        (.ops [⟨some 4, none, (.assign (.const (.int .i64 (-1))))⟩])
        .ret)
       .skip))
     (.seq
      (.seq
       (.ops [⟨some 5, none, (.assign (.const (.int .i64 0)))⟩])
       (.block 0
        (.loop
         (.seq
          (.seq
           (.ops [⟨some 12, none, (.move (.tmp 5))⟩,
             ⟨some 13, none, (.move (.tmp 0))⟩,
             ⟨some 14, none, (.call ⟨(.builtin .len), #[(.tmp 13)], #[22]⟩)⟩,
             ⟨some 15, none, (.binOp .lss 3 (.tmp 12) (.tmp 14) 3)⟩])
           (.cond (.tmp 15)
            .skip
            (.exit 0)))
          (.seq
           (.block 1
            (.seq
             (.ops [⟨some 18, none, (.move (.tmp 0))⟩,
               ⟨some 19, none, (.move (.tmp 5))⟩,
               ⟨some 20, none, (.indexAddr 22 (.tmp 18) (.tmp 19))⟩,
               ⟨some 21, none, (.load 86 (.tmp 20))⟩,
               ⟨some 22, none, (.move (.tmp 1))⟩,
               ⟨some 23, none, (.call ⟨(.value (.func 72)), #[(.tmp 21), (.tmp 22)], #[86, 3]⟩)⟩,
               ⟨some 1, none, (.assign (.tmp 23))⟩])
             (.seq
              (.ops [⟨some 24, none, (.move (.tmp 1))⟩,
                ⟨some 25, none, (.binOp .lss 3 (.tmp 24) (.const (.int .i64 0)) 3)⟩])
              (.cond (.tmp 25)
               (.seq
                (.ops [⟨some 4, none, (.assign (.const (.int .i64 (-1))))⟩])
                .ret)
               .skip))))
           (.ops [⟨some 16, none, (.move (.tmp 5))⟩,
             ⟨some 17, none, (.binOp .add 3 (.tmp 16) (.const (.int .i64 1)) 3)⟩,
             ⟨some 5, none, (.assign (.tmp 17))⟩]))))))
      (.seq
       (.ops [⟨some 26, none, (.move (.tmp 1))⟩,
         ⟨some 4, none, (.assign (.tmp 26))⟩])
       .ret)))))
theorem w15 {args : Array Value} {H : AH} {Φ : Value → AH → Prop} (h : rW Try.prog k15 [] (fin Try.prog [(.tmp 4)] Φ) (tm0 args) H) : CallsA Try.prog 15 args H Φ :=
  CallsA.w k15 [(.tmp 4)] (fun _ => []) Try.func15 rfl rfl (by kernel_rfl) (by kernel_rfl) h

/-- spec.l3Copy -/
def k95 : KC :=
  (.seq
   (.ops [⟨some 1, none, (.box 45 (.tmp 0))⟩,
     ⟨some 2, none, (.alloc 45)⟩])
   (.seq
    (.draw #[] [(2, 0), (6, 0), (6, 4)]
      [⟨some 3, none, (.buildSlice 43 0 #[])⟩,
      ⟨some 4, none, (.fieldAddr 45 (.tmp 1) 0)⟩,
      ⟨some 5, none, (.load 43 (.tmp 4))⟩,
      ⟨some 6, none, (.call ⟨(.builtin .append), #[(.tmp 3), (.tmp 5)], #[43, 43]⟩)⟩,
      ⟨some 7, none, (.buildSlice 43 0 #[])⟩,
      ⟨some 8, none, (.fieldAddr 45 (.tmp 1) 1)⟩,
      ⟨some 9, none, (.load 43 (.tmp 8))⟩,
      ⟨some 10, none, (.call ⟨(.builtin .append), #[(.tmp 7), (.tmp 9)], #[43, 43]⟩)⟩,
      ⟨some 11, none, (.build 45 #[(0, (.tmp 6)), (1, (.tmp 10))])⟩,
      ⟨none, none, (.store 45 (.tmp 2) (.tmp 11))⟩])
    .ret))
theorem w95 {args : Array Value} {H : AH} {Φ : Value → AH → Prop} (h : rW Try.prog k95 [] (fin Try.prog [(.cell 2 45)] Φ) (tm0 args) H) : CallsA Try.prog 95 args H Φ :=
  CallsA.w k95 [(.cell 2 45)] (fun i => if i = 1 then [(2, 0), (6, 0), (6, 4)] else []) Try.func95 rfl rfl (by kernel_rfl) (by kernel_rfl) h

/-- spec.l10Copy -/
def k73 : KC :=
  (.seq
   (.ops [⟨some 2, none, (.assign (.const (.slice none 0 0)))⟩])
   (.seq
    (.ops [⟨some 5, none, (.buildSlice 25 0 #[])⟩,
      ⟨some 3, none, (.assign (.tmp 5))⟩])
    (.seq
     (.seq
      (.ops [⟨some 4, none, (.assign (.const (.int .i64 0)))⟩])
      (.block 0
       (.loop
        (.seq
         (.seq
          (.ops [⟨some 6, none, (.move (.tmp 4))⟩,
            ⟨some 7, none, (.move (.tmp 0))⟩,
            ⟨some 8, none, (.call ⟨(.builtin .len), #[(.tmp 7)], #[25]⟩)⟩,
            ⟨some 9, none, (.binOp .lss 3 (.tmp 6) (.tmp 8) 3)⟩])
          (.cond (.tmp 9)
           .skip
           (.exit 0)))
         (.seq
          (.block 1
           (.draw #[] [(5, 0), (5, 12), (10, 0)]
             [⟨some 12, none, (.move (.tmp 3))⟩,
             ⟨some 13, none, (.move (.tmp 0))⟩,
             ⟨some 14, none, (.move (.tmp 4))⟩,
             ⟨some 15, none, (.indexAddr 25 (.tmp 13) (.tmp 14))⟩,
             ⟨some 16, none, (.fieldAddr 89 (.tmp 15) 0)⟩,
             ⟨some 17, none, (.load 4 (.tmp 16))⟩,
             ⟨some 18, none, (.move (.tmp 0))⟩,
             ⟨some 19, none, (.move (.tmp 4))⟩,
             ⟨some 20, none, (.indexAddr 25 (.tmp 18) (.tmp 19))⟩,
             ⟨some 21, none, (.fieldAddr 89 (.tmp 20) 1)⟩,
             ⟨some 22, none, (.load 45 (.tmp 21))⟩,
             ⟨some 23, none, (.call ⟨(.value (.func 95)), #[(.tmp 22)], #[45]⟩)⟩,
             ⟨some 24, none, (.build 89 #[(0, (.tmp 17)), (1, (.tmp 23))])⟩,
             ⟨some 25, none, (.buildSlice 25 1 #[(0, (.tmp 24))])⟩,
             ⟨some 26, none, (.call ⟨(.builtin .append), #[(.tmp 12), (.tmp 25)], #[25, 25]⟩)⟩,
             ⟨some 3, none, (.assign (.tmp 26))⟩]))
          (.ops [⟨some 10, none, (.move (.tmp 4))⟩,
            ⟨some 11, none, (.binOp .add 3 (.tmp 10) (.const (.int .i64 1)) 3)⟩,
            ⟨some 4, none, (.assign (.tmp 11))⟩]))))))
     (.seq
      (.ops [⟨some 27, none, (.move (.tmp 3))⟩,
        ⟨some 2, none, (.assign (.tmp 27))⟩])
      .ret))))
theorem w73 {args : Array Value} {H : AH} {Φ : Value → AH → Prop} (h : rW Try.prog k73 [] (fin Try.prog [(.tmp 2)] Φ) (tm0 args) H) : CallsA Try.prog 73 args H Φ :=
  CallsA.w k73 [(.tmp 2)] (fun i => if i = 5 then [(5, 0), (5, 12), (10, 0)] else []) Try.func73 rfl rfl (by kernel_rfl) (by kernel_rfl) h

/-- spec.MachineNew -/
def k16 : KC :=
  (.seq
   (.ops [⟨some 4, none, (.alloc 27)⟩])
   (.seq
    (.ops [⟨some 5, none, (.move (.tmp 0))⟩,
      ⟨some 6, none, (.call ⟨(.value (.func 73)), #[(.tmp 5)], #[25]⟩)⟩,
      ⟨some 7, none, (.move (.tmp 1))⟩,
      ⟨some 8, none, (.build 27 #[(2, (.tmp 6)), (3, (.tmp 7))])⟩,
      ⟨none, none, (.store 27 (.tmp 4) (.tmp 8))⟩])
    .ret))
theorem w16 {args : Array Value} {H : AH} {Φ : Value → AH → Prop} (h : rW Try.prog k16 [] (fin Try.prog [(.cell 4 27)] Φ) (tm0 args) H) : CallsA Try.prog 16 args H Φ :=
  CallsA.w k16 [(.cell 4 27)] (fun _ => []) Try.func16 rfl rfl (by kernel_rfl) (by kernel_rfl) h

/-- laws.toIntS -/
def k139 : KC :=
  (.seq
   (.ops [⟨some 2, none, (.assign (.const (.slice none 0 0)))⟩])
   (.seq
    (.ops [⟨some 5, none, (.move (.tmp 0))⟩,
      ⟨some 6, none, (.call ⟨(.builtin .len), #[(.tmp 5)], #[43]⟩)⟩,
      ⟨some 7, none, (.makeSlice 43 (.tmp 6) (.tmp 6))⟩,
      ⟨some 3, none, (.assign (.tmp 7))⟩])
    (.seq
     (.seq
      (.ops [⟨some 4, none, (.assign (.const (.int .i64 0)))⟩])
      (.block 0
       (.loop
        (.seq
         (.seq
          (.ops [⟨some 8, none, (.move (.tmp 4))⟩,
            ⟨some 9, none, (.move (.tmp 0))⟩,
            ⟨some 10, none, (.call ⟨(.builtin .len), #[(.tmp 9)], #[43]⟩)⟩,
            ⟨some 11, none, (.binOp .lss 3 (.tmp 8) (.tmp 10) 3)⟩])
          (.cond (.tmp 11)
           .skip
           (.exit 0)))
         (.seq
          (.block 1
           (.ops [⟨some 14, none, (.move (.tmp 3))⟩,
             ⟨some 15, none, (.move (.tmp 4))⟩,
             ⟨some 16, none, (.move (.tmp 0))⟩,
             ⟨some 17, none, (.move (.tmp 4))⟩,
             ⟨some 18, none, (.indexAddr 43 (.tmp 16) (.tmp 17))⟩,
             ⟨some 19, none, (.load 3 (.tmp 18))⟩,
             ⟨some 20, none, (.indexAddr 43 (.tmp 14) (.tmp 15))⟩,
             ⟨none, none, (.store 3 (.tmp 20) (.tmp 19))⟩]))
          (.ops [⟨some 12, none, (.move (.tmp 4))⟩,
            ⟨some 13, none, (.binOp .add 3 (.tmp 12) (.const (.int .i64 1)) 3)⟩,
            ⟨some 4, none, (.assign (.tmp 13))⟩]))))))
     (.seq
      (.ops [⟨some 21, none, (.move (.tmp 3))⟩,
        ⟨some 2, none, (.assign (.tmp 21))⟩])
      .ret))))
theorem w139 {args : Array Value} {H : AH} {Φ : Value → AH → Prop} (h : rW Try.prog k139 [] (fin Try.prog [(.tmp 2)] Φ) (tm0 args) H) : CallsA Try.prog 139 args H Φ :=
  CallsA.w k139 [(.tmp 2)] (fun _ => []) Try.func139 rfl rfl (by kernel_rfl) (by kernel_rfl) h

/-- laws.toArray -/
def k65 : KC :=
  (.seq
   (.ops [⟨some 1, none, (.box 77 (.tmp 0))⟩,
     ⟨some 2, none, (.alloc 45)⟩])
   (.seq
    (.ops [⟨some 3, none, (.alloc 45)⟩])
    (.seq
     (.ops [⟨some 4, none, (.fieldAddr 77 (.tmp 1) 0)⟩,
       ⟨some 5, none, (.load 43 (.tmp 4))⟩,
       ⟨some 6, none, (.call ⟨(.value (.func 139)), #[(.tmp 5)], #[43]⟩)⟩,
       ⟨some 7, none, (.fieldAddr 45 (.tmp 3) 0)⟩,
       ⟨none, none, (.store 43 (.tmp 7) (.tmp 6))⟩])
     (.seq
      (.ops [⟨some 8, none, (.fieldAddr 77 (.tmp 1) 1)⟩,
        ⟨some 9, none, (.load 43 (.tmp 8))⟩,
        ⟨some 10, none, (.call ⟨(.value (.func 139)), #[(.tmp 9)], #[43]⟩)⟩,
        ⟨some 11, none, (.fieldAddr 45 (.tmp 3) 1)⟩,
        ⟨none, none, (.store 43 (.tmp 11) (.tmp 10))⟩])
      (.seq
       (.ops [⟨some 12, none, (.load 45 (.tmp 3))⟩,
         ⟨none, none, (.store 45 (.tmp 2) (.tmp 12))⟩])
       .ret)))))
theorem w65 {args : Array Value} {H : AH} {Φ : Value → AH → Prop} (h : rW Try.prog k65 [] (fin Try.prog [(.cell 2 45)] Φ) (tm0 args) H) : CallsA Try.prog 65 args H Φ :=
  CallsA.w k65 [(.cell 2 45)] (fun _ => []) Try.func65 rfl rfl (by kernel_rfl) (by kernel_rfl) h

/-- laws.toVar -/
def k74 : KC :=
  (.seq
   (.ops [⟨some 1, none, (.box 86 (.tmp 0))⟩,
     ⟨some 2, none, (.alloc 89)⟩])
   (.seq
    (.ops [⟨some 3, none, (.alloc 89)⟩])
    (.seq
     (.ops [⟨some 4, none, (.fieldAddr 86 (.tmp 1) 0)⟩,
       ⟨some 5, none, (.load 4 (.tmp 4))⟩,
       ⟨some 6, none, (.fieldAddr 89 (.tmp 3) 0)⟩,
       ⟨none, none, (.store 4 (.tmp 6) (.tmp 5))⟩])
     (.seq
      (.ops [⟨some 7, none, (.fieldAddr 86 (.tmp 1) 1)⟩,
        ⟨some 8, none, (.load 77 (.tmp 7))⟩,
        ⟨some 9, none, (.call ⟨(.value (.func 65)), #[(.tmp 8)], #[77]⟩)⟩,
        ⟨some 10, none, (.fieldAddr 89 (.tmp 3) 1)⟩,
        ⟨none, none, (.store 45 (.tmp 10) (.tmp 9))⟩])
      (.seq
       (.ops [⟨some 11, none, (.load 89 (.tmp 3))⟩,
         ⟨none, none, (.store 89 (.tmp 2) (.tmp 11))⟩])
       .ret)))))
theorem w74 {args : Array Value} {H : AH} {Φ : Value → AH → Prop} (h : rW Try.prog k74 [] (fin Try.prog [(.cell 2 89)] Φ) (tm0 args) H) : CallsA Try.prog 74 args H Φ :=
  CallsA.w k74 [(.cell 2 89)] (fun _ => []) Try.func74 rfl rfl (by kernel_rfl) (by kernel_rfl) h

/-- laws.toVarS -/
def k17 : KC :=
  (.seq
   (.ops [⟨some 2, none, (.assign (.const (.slice none 0 0)))⟩])
   (.seq
    (.ops [⟨some 5, none, (.move (.tmp 0))⟩,
      ⟨some 6, none, (.call ⟨(.builtin .len), #[(.tmp 5)], #[22]⟩)⟩,
      ⟨some 7, none, (.makeSlice 25 (.tmp 6) (.tmp 6))⟩,
      ⟨some 3, none, (.assign (.tmp 7))⟩])
    (.seq
     (.seq
      (.ops [⟨some 4, none, (.assign (.const (.int .i64 0)))⟩])
      (.block 0
       (.loop
        (.seq
         (.seq
          (.ops [⟨some 8, none, (.move (.tmp 4))⟩,
            ⟨some 9, none, (.move (.tmp 0))⟩,
            ⟨some 10, none, (.call ⟨(.builtin .len), #[(.tmp 9)], #[22]⟩)⟩,
            ⟨some 11, none, (.binOp .lss 3 (.tmp 8) (.tmp 10) 3)⟩])
          (.cond (.tmp 11)
           .skip
           (.exit 0)))
         (.seq
          (.block 1
           (.ops [⟨some 14, none, (.move (.tmp 3))⟩,
             ⟨some 15, none, (.move (.tmp 4))⟩,
             ⟨some 16, none, (.move (.tmp 0))⟩,
             ⟨some 17, none, (.move (.tmp 4))⟩,
             ⟨some 18, none, (.indexAddr 22 (.tmp 16) (.tmp 17))⟩,
             ⟨some 19, none, (.load 86 (.tmp 18))⟩,
             ⟨some 20, none, (.call ⟨(.value (.func 74)), #[(.tmp 19)], #[86]⟩)⟩,
             ⟨some 21, none, (.indexAddr 25 (.tmp 14) (.tmp 15))⟩,
             ⟨none, none, (.store 89 (.tmp 21) (.tmp 20))⟩]))
          (.ops [⟨some 12, none, (.move (.tmp 4))⟩,
            ⟨some 13, none, (.binOp .add 3 (.tmp 12) (.const (.int .i64 1)) 3)⟩,
            ⟨some 4, none, (.assign (.tmp 13))⟩]))))))
     (.seq
      (.ops [⟨some 22, none, (.move (.tmp 3))⟩,
        ⟨some 2, none, (.assign (.tmp 22))⟩])
      .ret))))
theorem w17 {args : Array Value} {H : AH} {Φ : Value → AH → Prop} (h : rW Try.prog k17 [] (fin Try.prog [(.tmp 2)] Φ) (tm0 args) H) : CallsA Try.prog 17 args H Φ :=
  CallsA.w k17 [(.tmp 2)] (fun _ => []) Try.func17 rfl rfl (by kernel_rfl) (by kernel_rfl) h

/-- impl.copyArray -/
def k93 : KC :=
  (.seq
   (.ops [⟨some 1, none, (.box 45 (.tmp 0))⟩,
     ⟨some 2, none, (.alloc 45)⟩])
   (.seq
    (.draw #[] [(1, 0), (4, 0), (4, 3)]
      [⟨some 3, none, (.fieldAddr 45 (.tmp 1) 0)⟩,
      ⟨some 4, none, (.load 43 (.tmp 3))⟩,
      ⟨some 5, none, (.call ⟨(.builtin .append), #[(.const (.slice none 0 0)), (.tmp 4)], #[43, 43]⟩)⟩,
      ⟨some 6, none, (.fieldAddr 45 (.tmp 1) 1)⟩,
      ⟨some 7, none, (.load 43 (.tmp 6))⟩,
      ⟨some 8, none, (.call ⟨(.builtin .append), #[(.const (.slice none 0 0)), (.tmp 7)], #[43, 43]⟩)⟩,
      ⟨some 9, none, (.build 45 #[(0, (.tmp 5)), (1, (.tmp 8))])⟩,
      ⟨none, none, (.store 45 (.tmp 2) (.tmp 9))⟩])
    .ret))
theorem w93 {args : Array Value} {H : AH} {Φ : Value → AH → Prop} (h : rW Try.prog k93 [] (fin Try.prog [(.cell 2 45)] Φ) (tm0 args) H) : CallsA Try.prog 93 args H Φ :=
  CallsA.w k93 [(.cell 2 45)] (fun i => if i = 1 then [(1, 0), (4, 0), (4, 3)] else []) Try.func93 rfl rfl (by kernel_rfl) (by kernel_rfl) h

/-- impl.copyVars -/
def k75 : KC :=
  (.seq
   (.ops [⟨some 2, none, (.assign (.const (.slice none 0 0)))⟩])
   (.seq
    (.ops [⟨some 3, none, (.assign (.const (.slice none 0 0)))⟩])
    (.seq
     (.seq
      (.ops [⟨some 6, none, (.move (.tmp 0))⟩,
        ⟨some 7, none, (.call ⟨(.builtin .len), #[(.tmp 6)], #[25]⟩)⟩,
        ⟨some 8, none, (.move (.const (.int .i64 0)))⟩])
      (.block 0
       (.loop
        (.seq
         (.ops [⟨some 9, none, (.binOp .lss 3 (.tmp 8) (.tmp 7) 3)⟩])
         (.seq
          (.cond (.tmp 9)
           .skip
           (.exit 0))
          (.seq
           (.block 1
            (.seq
             (.ops [⟨some 10, none, (.indexAddr 25 (.tmp 6) (.tmp 8))⟩,
               ⟨some 11, none, (.load 89 (.tmp 10))⟩,
               ⟨some 5, none, (.alloc 89)⟩,
               ⟨none, none, (.store 89 (.tmp 5) (.tmp 11))⟩])
             (.draw #[] [(2, 0), (2, 6), (4, 0)]
               [⟨some 12, none, (.move (.tmp 3))⟩,
               ⟨some 13, none, (.fieldAddr 89 (.tmp 5) 0)⟩,
               ⟨some 14, none, (.load 4 (.tmp 13))⟩,
               ⟨some 15, none, (.fieldAddr 89 (.tmp 5) 1)⟩,
               ⟨some 16, none, (.load 45 (.tmp 15))⟩,
               ⟨some 17, none, (.call ⟨(.value (.func 93)), #[(.tmp 16)], #[45]⟩)⟩,
               ⟨some 18, none, (.build 89 #[(0, (.tmp 14)), (1, (.tmp 17))])⟩,
               ⟨some 19, none, (.buildSlice 25 1 #[(0, (.tmp 18))])⟩,
               ⟨some 20, none, (.call ⟨(.builtin .append), #[(.tmp 12), (.tmp 19)], #[25, 25]⟩)⟩,
               ⟨some 3, none, (.assign (.tmp 20))⟩])))
           (.ops [⟨some 21, none, (.binOp .add 3 (.tmp 8) (.const (.int .i64 1)) 3)⟩,
             ⟨some 8, none, (.move (.tmp 21))⟩])))))))
     (.seq
      (.ops [⟨some 22, none, (.move (.tmp 3))⟩,
        ⟨some 2, none, (.assign (.tmp 22))⟩])
      .ret))))
theorem w75 {args : Array Value} {H : AH} {Φ : Value → AH → Prop} (h : rW Try.prog k75 [] (fin Try.prog [(.tmp 2)] Φ) (tm0 args) H) : CallsA Try.prog 75 args H Φ :=
  CallsA.w k75 [(.tmp 2)] (fun i => if i = 5 then [(2, 0), (2, 6), (4, 0)] else []) Try.func75 rfl rfl (by kernel_rfl) (by kernel_rfl) h

/-- impl.MachineNew -/
def k18 : KC :=
  (.seq
   (.ops [⟨some 4, none, (.alloc 27)⟩])
   (.seq
    (.ops [⟨some 5, none, (.move (.tmp 0))⟩,
      ⟨some 6, none, (.call ⟨(.value (.func 75)), #[(.tmp 5)], #[25]⟩)⟩,
      ⟨some 7, none, (.move (.tmp 1))⟩,
      ⟨some 8, none, (.build 27 #[(2, (.tmp 6)), (3, (.tmp 7))])⟩,
      ⟨none, none, (.store 27 (.tmp 4) (.tmp 8))⟩])
    .ret))
theorem w18 {args : Array Value} {H : AH} {Φ : Value → AH → Prop} (h : rW Try.prog k18 [] (fin Try.prog [(.cell 4 27)] Φ) (tm0 args) H) : CallsA Try.prog 18 args H Φ :=
  CallsA.w k18 [(.cell 4 27)] (fun _ => []) Try.func18 rfl rfl (by kernel_rfl) (by kernel_rfl) h

/-- laws.eqIntS -/
def k143 : KC :=
  (.seq
   (.ops [⟨some 4, none, (.assign (.const (.bool false)))⟩])
   (.seq
    (.seq
     (.ops [⟨some 6, none, (.move (.tmp 0))⟩,
       ⟨some 7, none, (.call ⟨(.builtin .len), #[(.tmp 6)], #[43]⟩)⟩,
       ⟨some 8, none, (.move (.tmp 1))⟩,
       ⟨some 9, none, (.call ⟨(.builtin .len), #[(.tmp 8)], #[43]⟩)⟩,
       ⟨some 10, none, (.binOp .neq 3 (.tmp 7) (.tmp 9) 3)⟩])
     (.cond (.tmp 10)
      (.seq
       (.ops [⟨some 4, none, (.assign (.const (.bool false)))⟩])
       .ret)
      .skip))
    (.seq
     (.seq
      (.ops [⟨some 5, none, (.assign (.const (.int .i64 0)))⟩])
      (.block 0
       (.loop
        (.seq
         (.seq
          (.ops [⟨some 11, none, (.move (.tmp 5))⟩,
            ⟨some 12, none, (.move (.tmp 0))⟩,
            ⟨some 13, none, (.call ⟨(.builtin .len), #[(.tmp 12)], #[43]⟩)⟩,
            ⟨some 14, none, (.binOp .lss 3 (.tmp 11) (.tmp 13) 3)⟩])
          (.cond (.tmp 14)
           .skip
           (.exit 0)))
         (.seq
          (.block 1
           (.seq
            (.ops [⟨some 17, none, (.move (.tmp 0))⟩,
              ⟨some 18, none, (.move (.tmp 5))⟩,
              ⟨some 19, none, (.indexAddr 43 (.tmp 17) (.tmp 18))⟩,
              ⟨some 20, none, (.load 3 (.tmp 19))⟩,
              ⟨some 21, none, (.move (.tmp 1))⟩,
              ⟨some 22, none, (.move (.tmp 5))⟩,
              ⟨some 23, none, (.indexAddr 43 (.tmp 21) (.tmp 22))⟩,
              ⟨some 24, none, (.load 3 (.tmp 23))⟩,
              ⟨some 25, none, (.binOp .neq 3 (.tmp 20) (.tmp 24) 3)⟩])
            (.cond (.tmp 25)
             (.seq
              (.ops [⟨some 4, none, (.assign (.const (.bool false)))⟩])
              .ret)
             .skip)))
          (.ops [⟨some 15, none, (.move (.tmp 5))⟩,
            ⟨some 16, none, (.binOp .add 3 (.tmp 15) (.const (.int .i64 1)) 3)⟩,
            ⟨some 5, none, (.assign (.tmp 16))⟩]))))))
     (.seq
      (.ops [⟨some 4, none, (.assign (.const (.bool true)))⟩])
      .ret))))
theorem w143 {args : Array Value} {H : AH} {Φ : Value → AH → Prop} (h : rW Try.prog k143 [] (fin Try.prog [(.tmp 4)] Φ) (tm0 args) H) : CallsA Try.prog 143 args H Φ :=
  CallsA.w k143 [(.tmp 4)] (fun i => if i = 6 then [(3, 0), (7, 0)] else []) Try.func143 rfl rfl (by kernel_rfl) (by kernel_rfl) h

/-- laws.eqArray -/
def k67 : KC :=
  (.seq
   (.ops [⟨some 2, none, (.box 45 (.tmp 0))⟩,
     ⟨some 3, none, (.box 45 (.tmp 1))⟩,
     ⟨some 4, none, (.assign (.const (.bool false)))⟩])
   (.seq
    (.seq
     (.ops [⟨some 5, none, (.fieldAddr 45 (.tmp 2) 0)⟩,
       ⟨some 6, none, (.load 43 (.tmp 5))⟩,
       ⟨some 7, none, (.fieldAddr 45 (.tmp 3) 0)⟩,
       ⟨some 8, none, (.load 43 (.tmp 7))⟩,
       ⟨some 9, none, (.call ⟨(.value (.func 143)), #[(.tmp 6), (.tmp 8)], #[43, 43]⟩)⟩,
       ⟨some 10, none, (.unOp .not 4 (.tmp 9))⟩])
     (.cond (.tmp 10)
      (.seq
       (.ops [⟨some 4, none, (.assign (.const (.bool false)))⟩])
       .ret)
      .skip))
    (.seq
     (.seq
      (.ops [⟨some 11, none, (.fieldAddr 45 (.tmp 2) 1)⟩,
        ⟨some 12, none, (.load 43 (.tmp 11))⟩,
        ⟨some 13, none, (.fieldAddr 45 (.tmp 3) 1)⟩,
        ⟨some 14, none, (.load 43 (.tmp 13))⟩,
        ⟨some 15, none, (.call ⟨(.value (.func 143)), #[(.tmp 12), (.tmp 14)], #[43, 43]⟩)⟩,
        ⟨some 16, none, (.unOp .not 4 (.tmp 15))⟩])
      (.cond (.tmp 16)
       (.seq
        (.ops [⟨some 4, none, (.assign (.const (.bool false)))⟩])
        .ret)
       .skip))
     (.seq
      (.ops [⟨some 4, none, (.assign (.const (.bool true)))⟩])
      .ret))))
theorem w67 {args : Array Value} {H : AH} {Φ : Value → AH → Prop} (h : rW Try.prog k67 [] (fin Try.prog [(.tmp 4)] Φ) (tm0 args) H) : CallsA Try.prog 67 args H Φ :=
  CallsA.w k67 [(.tmp 4)] (fun _ => []) Try.func67 rfl rfl (by kernel_rfl) (by kernel_rfl) h

/-- laws.eqVar -/
def k77 : KC :=
  (.seq
   (.ops [⟨some 2, none, (.box 89 (.tmp 0))⟩,
     ⟨some 3, none, (.box 89 (.tmp 1))⟩,
     ⟨some 4, none, (.assign (.const (.bool false)))⟩])
   (.seq
    (.seq
     (.ops [⟨some 5, none, (.fieldAddr 89 (.tmp 2) 0)⟩,
       ⟨some 6, none, (.load 4 (.tmp 5))⟩,
       ⟨some 7, none, (.fieldAddr 89 (.tmp 3) 0)⟩,
       ⟨some 8, none, (.load 4 (.tmp 7))⟩,
       ⟨some 9, none, (.binOp .neq 4 (.tmp 6) (.tmp 8) 4)⟩])
     (.cond (.tmp 9)
      (.seq
       (.ops [⟨some 4, none, (.assign (.const (.bool false)))⟩])
       .ret)
      .skip))
    (.seq
     (.seq
      (.ops [⟨some 10, none, (.fieldAddr 89 (.tmp 2) 1)⟩,
        ⟨some 11, none, (.load 45 (.tmp 10))⟩,
        ⟨some 12, none, (.fieldAddr 89 (.tmp 3) 1)⟩,
        ⟨some 13, none, (.load 45 (.tmp 12))⟩,
        ⟨some 14, none, (.call ⟨(.value (.func 67)), #[(.tmp 11), (.tmp 13)], #[45, 45]⟩)⟩,
        ⟨some 15, none, (.unOp .not 4 (.tmp 14))⟩])
      (.cond (.tmp 15)
       (.seq
        (.ops [⟨some 4, none, (.assign (.const (.bool false)))⟩])
        .ret)
       .skip))
     (.seq
      (.ops [⟨some 4, none, (.assign (.const (.bool true)))⟩])
      .ret))))
theorem w77 {args : Array Value} {H : AH} {Φ : Value → AH → Prop} (h : rW Try.prog k77 [] (fin Try.prog [(.tmp 4)] Φ) (tm0 args) H) : CallsA Try.prog 77 args H Φ :=
  CallsA.w k77 [(.tmp 4)] (fun _ => []) Try.func77 rfl rfl (by kernel_rfl) (by kernel_rfl) h

/-- laws.eqVarS -/
def k20 : KC :=
  (.seq
   (.ops [⟨some 4, none, (.assign (.const (.bool false)))⟩])
   (.seq
    (.seq
     (.ops [⟨some 6, none, (.move (.tmp 0))⟩,
       ⟨some 7, none, (.call ⟨(.builtin .len), #[(.tmp 6)], #[25]⟩)⟩,
       ⟨some 8, none, (.move (.tmp 1))⟩,
       ⟨some 9, none, (.call ⟨(.builtin .len), #[(.tmp 8)], #[25]⟩)⟩,
       ⟨some 10, none, (.binOp .neq 3 (.tmp 7) (.tmp 9) 3)⟩])
     (.cond (.tmp 10)
      (.seq
       (.ops [⟨some 4, none, (.assign (.const (.bool false)))⟩])
       .ret)
      .skip))
    (.seq
     (.seq
      (.ops [⟨some 5, none, (.assign (.const (.int .i64 0)))⟩])
      (.block 0
       (.loop
        (.seq
         (.seq
          (.ops [⟨some 11, none, (.move (.tmp 5))⟩,
            ⟨some 12, none, (.move (.tmp 0))⟩,
            ⟨some 13, none, (.call ⟨(.builtin .len), #[(.tmp 12)], #[25]⟩)⟩,
            ⟨some 14, none, (.binOp .lss 3 (.tmp 11) (.tmp 13) 3)⟩])
          (.cond (.tmp 14)
           .skip
           (.exit 0)))
         (.seq
          (.block 1
           (.seq
            (.draw #[] [(3, 0), (7, 0)]
              [⟨some 17, none, (.move (.tmp 0))⟩,
              ⟨some 18, none, (.move (.tmp 5))⟩,
              ⟨some 19, none, (.indexAddr 25 (.tmp 17) (.tmp 18))⟩,
              ⟨some 20, none, (.load 89 (.tmp 19))⟩,
              ⟨some 21, none, (.move (.tmp 1))⟩,
              ⟨some 22, none, (.move (.tmp 5))⟩,
              ⟨some 23, none, (.indexAddr 25 (.tmp 21) (.tmp 22))⟩,
              ⟨some 24, none, (.load 89 (.tmp 23))⟩,
              ⟨some 25, none, (.call ⟨(.value (.func 77)), #[(.tmp 20), (.tmp 24)], #[89, 89]⟩)⟩,
              ⟨some 26, none, (.unOp .not 4 (.tmp 25))⟩])
            (.cond (.tmp 26)
             (.seq
              (.ops [⟨some 4, none, (.assign (.const (.bool false)))⟩])
              .ret)
             .skip)))
          (.ops [⟨some 15, none, (.move (.tmp 5))⟩,
            ⟨some 16, none, (.binOp .add 3 (.tmp 15) (.const (.int .i64 1)) 3)⟩,
            ⟨some 5, none, (.assign (.tmp 16))⟩]))))))
     (.seq
      (.ops [⟨some 4, none, (.assign (.const (.bool true)))⟩])
      .ret))))
theorem w20 {args : Array Value} {H : AH} {Φ : Value → AH → Prop} (h : rW Try.prog k20 [] (fin Try.prog [(.tmp 4)] Φ) (tm0 args) H) : CallsA Try.prog 20 args H Φ :=
  CallsA.w k20 [(.tmp 4)] (fun i => if i = 6 then [(3, 0), (7, 0)] else []) Try.func20 rfl rfl (by kernel_rfl) (by kernel_rfl) h

/-- laws.eqArrayS -/
def k76 : KC :=
  (.seq
   (.ops [⟨some 4, none, (.assign (.const (.bool false)))⟩])
   (.seq
    (.seq
     (.ops [⟨some 6, none, (.move (.tmp 0))⟩,
       ⟨some 7, none, (.call ⟨(.builtin .len), #[(.tmp 6)], #[24]⟩)⟩,
       ⟨some 8, none, (.move (.tmp 1))⟩,
       ⟨some 9, none, (.call ⟨(.builtin .len), #[(.tmp 8)], #[24]⟩)⟩,
       ⟨some 10, none, (.binOp .neq 3 (.tmp 7) (.tmp 9) 3)⟩])
     (.cond (.tmp 10)
      (.seq
       (.ops [⟨some 4, none, (.assign (.const (.bool false)))⟩])
       .ret)
      .skip))
    (.seq
     (.seq
      (.ops [⟨some 5, none, (.assign (.const (.int .i64 0)))⟩])
      (.block 0
       (.loop
        (.seq
         (.seq
          (.ops [⟨some 11, none, (.move (.tmp 5))⟩,
            ⟨some 12, none, (.move (.tmp 0))⟩,
            ⟨some 13, none, (.call ⟨(.builtin .len), #[(.tmp 12)], #[24]⟩)⟩,
            ⟨some 14, none, (.binOp .lss 3 (.tmp 11) (.tmp 13) 3)⟩])
          (.cond (.tmp 14)
           .skip
           (.exit 0)))
         (.seq
          (.block 1
           (.seq
            (.draw #[] [(3, 0), (7, 0)]
              [⟨some 17, none, (.move (.tmp 0))⟩,
              ⟨some 18, none, (.move (.tmp 5))⟩,
              ⟨some 19, none, (.indexAddr 24 (.tmp 17) (.tmp 18))⟩,
              ⟨some 20, none, (.load 45 (.tmp 19))⟩,
              ⟨some 21, none, (.move (.tmp 1))⟩,
              ⟨some 22, none, (.move (.tmp 5))⟩,
              ⟨some 23, none, (.indexAddr 24 (.tmp 21) (.tmp 22))⟩,
              ⟨some 24, none, (.load 45 (.tmp 23))⟩,
              ⟨some 25, none, (.call ⟨(.value (.func 67)), #[(.tmp 20), (.tmp 24)], #[45, 45]⟩)⟩,
              ⟨some 26, none, (.unOp .not 4 (.tmp 25))⟩])
            (.cond (.tmp 26)
             (.seq
              (.ops [⟨some 4, none, (.assign (.const (.bool false)))⟩])
              .ret)
             .skip)))
          (.ops [⟨some 15, none, (.move (.tmp 5))⟩,
            ⟨some 16, none, (.binOp .add 3 (.tmp 15) (.const (.int .i64 1)) 3)⟩,
            ⟨some 5, none, (.assign (.tmp 16))⟩]))))))
     (.seq
      (.ops [⟨some 4, none, (.assign (.const (.bool true)))⟩])
      .ret))))
theorem w76 {args : Array Value} {H : AH} {Φ : Value → AH → Prop} (h : rW Try.prog k76 [] (fin Try.prog [(.tmp 4)] Φ) (tm0 args) H) : CallsA Try.prog 76 args H Φ :=
  CallsA.w k76 [(.tmp 4)] (fun i => if i = 6 then [(3, 0), (7, 0)] else []) Try.func76 rfl rfl (by kernel_rfl) (by kernel_rfl) h

/-- laws.eqMachine -/
def k19 : KC :=
  (.seq
   (.ops [⟨some 2, none, (.box 27 (.tmp 0))⟩,
     ⟨some 3, none, (.box 27 (.tmp 1))⟩,
     ⟨some 4, none, (.assign (.const (.bool false)))⟩])
   (.seq
    (.seq
     (.ops [⟨some 5, none, (.fieldAddr 27 (.tmp 2) 0)⟩,
       ⟨some 6, none, (.load 3 (.tmp 5))⟩,
       ⟨some 7, none, (.fieldAddr 27 (.tmp 3) 0)⟩,
       ⟨some 8, none, (.load 3 (.tmp 7))⟩,
       ⟨some 9, none, (.binOp .neq 3 (.tmp 6) (.tmp 8) 3)⟩])
     (.cond (.tmp 9)
      (.seq
       (.ops [⟨some 4, none, (.assign (.const (.bool false)))⟩])
       .ret)
      .skip))
    (.seq
     (.seq
      (.ops [⟨some 10, none, (.fieldAddr 27 (.tmp 2) 1)⟩,
        ⟨some 11, none, (.load 24 (.tmp 10))⟩,
        ⟨some 12, none, (.fieldAddr 27 (.tmp 3) 1)⟩,
        ⟨some 13, none, (.load 24 (.tmp 12))⟩,
        ⟨some 14, none, (.call ⟨(.value (.func 76)), #[(.tmp 11), (.tmp 13)], #[24, 24]⟩)⟩,
        ⟨some 15, none, (.unOp .not 4 (.tmp 14))⟩])
      (.cond (.tmp 15)
       (.seq
        (.ops [⟨some 4, none, (.assign (.const (.bool false)))⟩])
        .ret)
       .skip))
     (.seq
      (.seq
       (.ops [⟨some 16, none, (.fieldAddr 27 (.tmp 2) 2)⟩,
         ⟨some 17, none, (.load 25 (.tmp 16))⟩,
         ⟨some 18, none, (.fieldAddr 27 (.tmp 3) 2)⟩,
         ⟨some 19, none, (.load 25 (.tmp 18))⟩,
         ⟨some 20, none, (.call ⟨(.value (.func 20)), #[(.tmp 17), (.tmp 19)], #[25, 25]⟩)⟩,
         ⟨some 21, none, (.unOp .not 4 (.tmp 20))⟩])
       (.cond (.tmp 21)
        (.seq
         (.ops [⟨some 4, none, (.assign (.const (.bool false)))⟩])
         .ret)
        .skip))
      (.seq
       (.seq
        (.ops [⟨some 22, none, (.fieldAddr 27 (.tmp 2) 3)⟩,
          ⟨some 23, none, (.load 3 (.tmp 22))⟩,
          ⟨some 24, none, (.fieldAddr 27 (.tmp 3) 3)⟩,
          ⟨some 25, none, (.load 3 (.tmp 24))⟩,
          ⟨some 26, none, (.binOp .neq 3 (.tmp 23) (.tmp 25) 3)⟩])
        (.cond (.tmp 26)
         (.seq
          (.ops [⟨some 4, none, (.assign (.const (.bool false)))⟩])
          .ret)
         .skip))
       (.seq
        (.seq
         (.ops [⟨some 27, none, (.fieldAddr 27 (.tmp 2) 4)⟩,
           ⟨some 28, none, (.load 3 (.tmp 27))⟩,
           ⟨some 29, none, (.fieldAddr 27 (.tmp 3) 4)⟩,
           ⟨some 30, none, (.load 3 (.tmp 29))⟩,
           ⟨some 31, none, (.binOp .neq 3 (.tmp 28) (.tmp 30) 3)⟩])
         (.cond (.tmp 31)
          (.seq
           (.ops [⟨some 4, none, (.assign (.const (.bool false)))⟩])
           .ret)
          .skip))
        (.seq
         (.ops [⟨some 4, none, (.assign (.const (.bool true)))⟩])
         .ret)))))))
theorem w19 {args : Array Value} {H : AH} {Φ : Value → AH → Prop} (h : rW Try.prog k19 [] (fin Try.prog [(.tmp 4)] Φ) (tm0 args) H) : CallsA Try.prog 19 args H Φ :=
  CallsA.w k19 [(.tmp 4)] (fun _ => []) Try.func19 rfl rfl (by kernel_rfl) (by kernel_rfl) h

/-- laws.markIntS -/
def k78 : KC :=
  (.seq
   (.ops [⟨some 4, none, (.assign (.const (.int .i64 0)))⟩])
   (.seq
    (.seq
     (.ops [⟨some 5, none, (.assign (.const (.int .i64 0)))⟩])
     (.block 0
      (.loop
       (.seq
        (.seq
         (.ops [⟨some 6, none, (.move (.tmp 5))⟩,
           ⟨some 7, none, (.move (.tmp 0))⟩,
           ⟨some 8, none, (.call ⟨(.builtin .len), #[(.tmp 7)], #[43]⟩)⟩,
           ⟨some 9, none, (.binOp .lss 3 (.tmp 6) (.tmp 8) 3)⟩])
         (.cond (.tmp 9)
          .skip
          (.exit 0)))
        (.seq
         (.block 1
          (.seq
           (.ops [⟨some 12, none, (.move (.tmp 0))⟩,
             ⟨some 13, none, (.move (.tmp 5))⟩,
             ⟨some 14, none, (.move (.tmp 1))⟩,
             ⟨some 15, none, (.indexAddr 43 (.tmp 12) (.tmp 13))⟩,
             ⟨none, none, (.store 3 (.tmp 15) (.tmp 14))⟩])
           (.ops [⟨some 16, none, (.move (.tmp 1))⟩,
             ⟨some 17, none, (.binOp .add 3 (.tmp 16) (.const (.int .i64 1)) 3)⟩,
             ⟨some 1, none, (.assign (.tmp 17))⟩])))
         (.ops [⟨some 10, none, (.move (.tmp 5))⟩,
           ⟨some 11, none, (.binOp .add 3 (.tmp 10) (.const (.int .i64 1)) 3)⟩,
           ⟨some 5, none, (.assign (.tmp 11))⟩]))))))
    (.seq
     (.ops [⟨some 18, none, (.move (.tmp 1))⟩,
       ⟨some 4, none, (.assign (.tmp 18))⟩])
     .ret)))
theorem w78 {args : Array Value} {H : AH} {Φ : Value → AH → Prop} (h : rW Try.prog k78 [] (fin Try.prog [(.tmp 4)] Φ) (tm0 args) H) : CallsA Try.prog 78 args H Φ :=
  CallsA.w k78 [(.tmp 4)] (fun _ => []) Try.func78 rfl rfl (by kernel_rfl) (by kernel_rfl) h

/-- laws.markVarS -/
def k21 : KC :=
  (.seq
   (.ops [⟨some 4, none, (.assign (.const (.int .i64 0)))⟩])
   (.seq
    (.seq
     (.ops [⟨some 5, none, (.assign (.const (.int .i64 0)))⟩])
     (.block 0
      (.loop
       (.seq
        (.seq
         (.ops [⟨some 6, none, (.move (.tmp 5))⟩,
           ⟨some 7, none, (.move (.tmp 0))⟩,
           ⟨some 8, none, (.call ⟨(.builtin .len), #[(.tmp 7)], #[25]⟩)⟩,
           ⟨some 9, none, (.binOp .lss 3 (.tmp 6) (.tmp 8) 3)⟩])
         (.cond (.tmp 9)
          .skip
          (.exit 0)))
        (.seq
         (.block 1
          (.seq
           (.ops [⟨some 12, none, (.move (.tmp 0))⟩,
             ⟨some 13, none, (.move (.tmp 5))⟩,
             ⟨some 14, none, (.move (.tmp 1))⟩,
             ⟨some 15, none, (.binOp .rem 3 (.tmp 14) (.const (.int .i64 3)) 3)⟩,
             ⟨some 16, none, (.binOp .eql 3 (.tmp 15) (.const (.int .i64 0)) 3)⟩,
             ⟨some 17, none, (.indexAddr 25 (.tmp 12) (.tmp 13))⟩,
             ⟨some 18, none, (.fieldAddr 89 (.tmp 17) 0)⟩,
             ⟨none, none, (.store 4 (.tmp 18) (.tmp 16))⟩])
           (.seq
            (.ops [⟨some 19, none, (.move (.tmp 1))⟩,
              ⟨some 20, none, (.binOp .add 3 (.tmp 19) (.const (.int .i64 1)) 3)⟩,
              ⟨some 1, none, (.assign (.tmp 20))⟩])
            (.seq
             (.ops [⟨some 21, none, (.move (.tmp 0))⟩,
               ⟨some 22, none, (.move (.tmp 5))⟩,
               ⟨some 23, none, (.indexAddr 25 (.tmp 21) (.tmp 22))⟩,
               ⟨some 24, none, (.fieldAddr 89 (.tmp 23) 1)⟩,
               ⟨some 25, none, (.fieldAddr 45 (.tmp 24) 0)⟩,
               ⟨some 26, none, (.load 43 (.tmp 25))⟩,
               ⟨some 27, none, (.move (.tmp 1))⟩,
               ⟨some 28, none, (.call ⟨(.value (.func 78)), #[(.tmp 26), (.tmp 27)], #[43, 3]⟩)⟩,
               ⟨some 1, none, (.assign (.tmp 28))⟩])
             (.ops [⟨some 29, none, (.move (.tmp 0))⟩,
               ⟨some 30, none, (.move (.tmp 5))⟩,
               ⟨some 31, none, (.indexAddr 25 (.tmp 29) (.tmp 30))⟩,
               ⟨some 32, none, (.fieldAddr 89 (.tmp 31) 1)⟩,
               ⟨some 33, none, (.fieldAddr 45 (.tmp 32) 1)⟩,
               ⟨some 34, none, (.load 43 (.tmp 33))⟩,
               ⟨some 35, none, (.move (.tmp 1))⟩,
               ⟨some 36, none, (.call ⟨(.value (.func 78)), #[(.tmp 34), (.tmp 35)], #[43, 3]⟩)⟩,
               ⟨some 1, none, (.assign (.tmp 36))⟩])))))
         (.ops [⟨some 10, none, (.move (.tmp 5))⟩,
           ⟨some 11, none, (.binOp .add 3 (.tmp 10) (.const (.int .i64 1)) 3)⟩,
           ⟨some 5, none, (.assign (.tmp 11))⟩]))))))
    (.seq
     (.ops [⟨some 37, none, (.move (.tmp 1))⟩,
       ⟨some 4, none, (.assign (.tmp 37))⟩])
     .ret)))
theorem w21 {args : Array Value} {H : AH} {Φ : Value → AH → Prop} (h : rW Try.prog k21 [] (fin Try.prog [(.tmp 4)] Φ) (tm0 args) H) : CallsA Try.prog 21 args H Φ :=
  CallsA.w k21 [(.tmp 4)] (fun _ => []) Try.func21 rfl rfl (by kernel_rfl) (by kernel_rfl) h

/-- laws.markArrayS -/
def k79 : KC :=
  (.seq
   (.ops [⟨some 4, none, (.assign (.const (.int .i64 0)))⟩])
   (.seq
    (.seq
     (.ops [⟨some 5, none, (.assign (.const (.int .i64 0)))⟩])
     (.block 0
      (.loop
       (.seq
        (.seq
         (.ops [⟨some 6, none, (.move (.tmp 5))⟩,
           ⟨some 7, none, (.move (.tmp 0))⟩,
           ⟨some 8, none, (.call ⟨(.builtin .len), #[(.tmp 7)], #[24]⟩)⟩,
           ⟨some 9, none, (.binOp .lss 3 (.tmp 6) (.tmp 8) 3)⟩])
         (.cond (.tmp 9)
          .skip
          (.exit 0)))
        (.seq
         (.block 1
          (.seq
           (.ops [⟨some 12, none, (.move (.tmp 0))⟩,
             ⟨some 13, none, (.move (.tmp 5))⟩,
             ⟨some 14, none, (.indexAddr 24 (.tmp 12) (.tmp 13))⟩,
             ⟨some 15, none, (.fieldAddr 45 (.tmp 14) 0)⟩,
             ⟨some 16, none, (.load 43 (.tmp 15))⟩,
             ⟨some 17, none, (.move (.tmp 1))⟩,
             ⟨some 18, none, (.call ⟨(.value (.func 78)), #[(.tmp 16), (.tmp 17)], #[43, 3]⟩)⟩,
             ⟨some 1, none, (.assign (.tmp 18))⟩])
           (.ops [⟨some 19, none, (.move (.tmp 0))⟩,
             ⟨some 20, none, (.move (.tmp 5))⟩,
             ⟨some 21, none, (.indexAddr 24 (.tmp 19) (.tmp 20))⟩,
             ⟨some 22, none, (.fieldAddr 45 (.tmp 21) 1)⟩,
             ⟨some 23, none, (.load 43 (.tmp 22))⟩,
             ⟨some 24, none, (.move (.tmp 1))⟩,
             ⟨some 25, none, (.call ⟨(.value (.func 78)), #[(.tmp 23), (.tmp 24)], #[43, 3]⟩)⟩,
             ⟨some 1, none, (.assign (.tmp 25))⟩])))
         (.ops [⟨some 10, none, (.move (.tmp 5))⟩,
           ⟨some 11, none, (.binOp .add 3 (.tmp 10) (.const (.int .i64 1)) 3)⟩,
           ⟨some 5, none, (.assign (.tmp 11))⟩]))))))
    (.seq
     (.ops [⟨some 26, none, (.move (.tmp 1))⟩,
       ⟨some 4, none, (.assign (.tmp 26))⟩])
     .ret)))
theorem w79 {args : Array Value} {H : AH} {Φ : Value → AH → Prop} (h : rW Try.prog k79 [] (fin Try.prog [(.tmp 4)] Φ) (tm0 args) H) : CallsA Try.prog 79 args H Φ :=
  CallsA.w k79 [(.tmp 4)] (fun _ => []) Try.func79 rfl rfl (by kernel_rfl) (by kernel_rfl) h

/-- laws.markMachine -/
def k22 : KC :=
  (.seq
   (.ops [⟨some 2, none, (.box 27 (.tmp 0))⟩,
     ⟨some 4, none, (.assign (.const (.int .i64 0)))⟩])
   (.seq
    (.ops [⟨some 5, none, (.fieldAddr 27 (.tmp 2) 1)⟩,
      ⟨some 6, none, (.load 24 (.tmp 5))⟩,
      ⟨some 7, none, (.move (.tmp 1))⟩,
      ⟨some 8, none, (.call ⟨(.value (.func 79)), #[(.tmp 6), (.tmp 7)], #[24, 3]⟩)⟩,
      ⟨some 1, none, (.assign (.tmp 8))⟩])
    (.seq
     (.ops [⟨some 9, none, (.fieldAddr 27 (.tmp 2) 2)⟩,
       ⟨some 10, none, (.load 25 (.tmp 9))⟩,
       ⟨some 11, none, (.move (.tmp 1))⟩,
       ⟨some 12, none, (.call ⟨(.value (.func 21)), #[(.tmp 10), (.tmp 11)], #[25, 3]⟩)⟩,
       ⟨some 1, none, (.assign (.tmp 12))⟩])
     (.seq
      (.ops [⟨some 13, none, (.move (.tmp 1))⟩,
        ⟨some 4, none, (.assign (.tmp 13))⟩])
      .ret))))
theorem w22 {args : Array Value} {H : AH} {Φ : Value → AH → Prop} (h : rW Try.prog k22 [] (fin Try.prog [(.tmp 4)] Φ) (tm0 args) H) : CallsA Try.prog 22 args H Φ :=
  CallsA.w k22 [(.tmp 4)] (fun _ => []) Try.func22 rfl rfl (by kernel_rfl) (by kernel_rfl) h

/-- laws.heldIntS -/
def k144 : KC :=
  (.seq
   (.ops [⟨some 4, none, (.assign (.const (.int .i64 0)))⟩])
   (.seq
    (.seq
     (.ops [⟨some 5, none, (.assign (.const (.int .i64 0)))⟩])
     (.block 0
      (.loop
       (.seq
        (.seq
         (.ops [⟨some 6, none, (.move (.tmp 5))⟩,
           ⟨some 7, none, (.move (.tmp 0))⟩,
           ⟨some 8, none, (.call ⟨(.builtin .len), #[(.tmp 7)], #[43]⟩)⟩,
           ⟨some 9, none, (.binOp .lss 3 (.tmp 6) (.tmp 8) 3)⟩])
         (.cond (.tmp 9)
          .skip
          (.exit 0)))
        (.seq
         (.block 1
          (.seq
           (.seq
            (.ops [⟨some 12, none, (.move (.tmp 0))⟩,
              ⟨some 13, none, (.move (.tmp 5))⟩,
              ⟨some 14, none, (.indexAddr 43 (.tmp 12) (.tmp 13))⟩,
              ⟨some 15, none, (.load 3 (.tmp 14))⟩,
              ⟨some 16, none, (.move (.tmp 1))⟩,
              ⟨some 17, none, (.binOp .neq 3 (.tmp 15) (.tmp 16) 3)⟩])
            (.cond (.tmp 17)
             (.seq
              (.ops [⟨some 4, none, (.assign (.const (.int .i64 (-1))))⟩])
              .ret)
             .skip))
           (.ops [⟨some 18, none, (.move (.tmp 1))⟩,
             ⟨some 19, none, (.binOp .add 3 (.tmp 18) (.const (.int .i64 1)) 3)⟩,
             ⟨some 1, none, (.assign (.tmp 19))⟩])))
         (.ops [⟨some 10, none, (.move (.tmp 5))⟩,
           ⟨some 11, none, (.binOp .add 3 (.tmp 10) (.const (.int .i64 1)) 3)⟩,
           ⟨some 5, none, (.assign (.tmp 11))⟩]))))))
    (.seq
     (.ops [⟨some 20, none, (.move (.tmp 1))⟩,
       ⟨some 4, none, (.assign (.tmp 20))⟩])
     .ret)))
theorem w144 {args : Array Value} {H : AH} {Φ : Value → AH → Prop} (h : rW Try.prog k144 [] (fin Try.prog [(.tmp 4)] Φ) (tm0 args) H) : CallsA Try.prog 144 args H Φ :=
  CallsA.w k144 [(.tmp 4)] (fun _ => []) Try.func144 rfl rfl (by kernel_rfl) (by kernel_rfl) h

/-- laws.heldArrayS -/
def k80 : KC :=
  (.seq
   (.ops [⟨some 4, none, (.assign (.const (.int .i64 0)))⟩])
   (.seq
    (.seq
     (.ops [⟨some 5, none, (.assign (.const (.int .i64 0)))⟩])
     (.block 0
      (.loop
       (.seq
        (.seq
         (.ops [⟨some 6, none, (.move (.tmp 5))⟩,
           ⟨some 7, none, (.move (.tmp 0))⟩,
           ⟨some 8, none, (.call ⟨(.builtin .len), #[(.tmp 7)], #[24]⟩)⟩,
           ⟨some 9, none, (.binOp .lss 3 (.tmp 6) (.tmp 8) 3)⟩])
         (.cond (.tmp 9)
          .skip
          (.exit 0)))
        (.seq
         (.block 1
          (.seq
           (.ops [⟨some 12, none, (.move (.tmp 0))⟩,
             ⟨some 13, none, (.move (.tmp 5))⟩,
             ⟨some 14, none, (.indexAddr 24 (.tmp 12) (.tmp 13))⟩,
             ⟨some 15, none, (.fieldAddr 45 (.tmp 14) 0)⟩,
             ⟨some 16, none, (.load 43 (.tmp 15))⟩,
             ⟨some 17, none, (.move (.tmp 1))⟩,
             ⟨some 18, none, (.call ⟨(.value (.func 144)), #[(.tmp 16), (.tmp 17)], #[43, 3]⟩)⟩,
             ⟨some 1, none, (.assign (.tmp 18))⟩])
           (.seq
            (.seq
             (.ops [⟨some 19, none, (.move (.tmp 1))⟩,
               ⟨some 20, none, (.binOp .lss 3 (.tmp 19) (.const (.int .i64 0)) 3)⟩])
             (.cond (.tmp 20)
              (.seq
               (.ops [⟨some 4, none, (.assign (.const (.int .i64 (-1))))⟩])
               .ret)
              .skip))
            (.seq
             (.ops [⟨some 21, none, (.move (.tmp 0))⟩,
               ⟨some 22, none, (.move (.tmp 5))⟩,
               ⟨some 23, none, (.indexAddr 24 (.tmp 21) (.tmp 22))⟩,
               ⟨some 24, none, (.fieldAddr 45 (.tmp 23) 1)⟩,
               ⟨some 25, none, (.load 43 (.tmp 24))⟩,
               ⟨some 26, none, (.move (.tmp 1))⟩,
               ⟨some 27, none, (.call ⟨(.value (.func 144)), #[(.tmp 25), (.tmp 26)], #[43, 3]⟩)⟩,
               ⟨some 1, none, (.assign (.tmp 27))⟩])
             (.seq
              (.ops [⟨some 28, none, (.move (.tmp 1))⟩,
                ⟨some 29, none, (.binOp .lss 3 (.tmp 28) (.const (.int .i64 0)) 3)⟩])
              (.cond (.tmp 29)
               (.seq
                (.ops [⟨some 4, none, (.assign (.const (.int .i64 (-1))))⟩])
                .ret)
               .skip))))))
         (.ops [⟨some 10, none, (.move (.tmp 5))⟩,
           ⟨some 11, none, (.binOp .add 3 (.tmp 10) (.const (.int .i64 1)) 3)⟩,
           ⟨some 5, none, (.assign (.tmp 11))⟩]))))))
    (.seq
     (.ops [⟨some 30, none, (.move (.tmp 1))⟩,
       ⟨some 4, none, (.assign (.tmp 30))⟩])
     .ret)))
theorem w80 {args : Array Value} {H : AH} {Φ : Value → AH → Prop} (h : rW Try.prog k80 [] (fin Try.prog [(.tmp 4)] Φ) (tm0 args) H) : CallsA Try.prog 80 args H Φ :=
  CallsA.w k80 [(.tmp 4)] (fun _ => []) Try.func80 rfl rfl (by kernel_rfl) (by kernel_rfl) h

/-- laws.heldVarS -/
def k81 : KC :=
  (.seq
   (.ops [⟨some 4, none, (.assign (.const (.int .i64 0)))⟩])
   (.seq
    (.seq
     (.ops [⟨some 5, none, (.assign (.const (.int .i64 0)))⟩])
     (.block 0
      (.loop
       (.seq
        (.seq
         (.ops [⟨some 6, none, (.move (.tmp 5))⟩,
           ⟨some 7, none, (.move (.tmp 0))⟩,
           ⟨some 8, none, (.call ⟨(.builtin .len), #[(.tmp 7)], #[25]⟩)⟩,
           ⟨some 9, none, (.binOp .lss 3 (.tmp 6) (.tmp 8) 3)⟩])
         (.cond (.tmp 9)
          .skip
          (.exit 0)))
        (.seq
         (.block 1
          (.seq
           (.seq
            (.ops [⟨some 12, none, (.move (.tmp 0))⟩,
              ⟨some 13, none, (.move (.tmp 5))⟩,
              ⟨some 14, none, (.indexAddr 25 (.tmp 12) (.tmp 13))⟩,
              ⟨some 15, none, (.fieldAddr 89 (.tmp 14) 0)⟩,
              ⟨some 16, none, (.load 4 (.tmp 15))⟩,
              ⟨some 17, none, (.move (.tmp 1))⟩,
              ⟨some 18, none, (.binOp .rem 3 (.tmp 17) (.const (.int .i64 3)) 3)⟩,
              ⟨some 19, none, (.binOp .eql 3 (.tmp 18) (.const (.int .i64 0)) 3)⟩,
              ⟨some 20, none, (.binOp .neq 4 (.tmp 16) (.tmp 19) 4)⟩])
            (.cond (.tmp 20)
             (.seq
              (.ops [⟨some 4, none, (.assign (.const (.int .i64 (-1))))⟩])
              .ret)
             .skip))
           (.seq
            (.ops [⟨some 21, none, (.move (.tmp 1))⟩,
              ⟨some 22, none, (.binOp .add 3 (.tmp 21) (.const (.int .i64 1)) 3)⟩,
              ⟨some 1, none, (.assign (.tmp 22))⟩])
            (.seq
             (.ops [⟨some 23, none, (.move (.tmp 0))⟩,
               ⟨some 24, none, (.move (.tmp 5))⟩,
               ⟨some 25, none, (.indexAddr 25 (.tmp 23) (.tmp 24))⟩,
               ⟨some 26, none, (.fieldAddr 89 (.tmp 25) 1)⟩,
               ⟨some 27, none, (.fieldAddr 45 (.tmp 26) 0)⟩,
               ⟨some 28, none, (.load 43 (.tmp 27))⟩,
               ⟨some 29, none, (.move (.tmp 1))⟩,
               ⟨some 30, none, (.call ⟨(.value (.func 144)), #[(.tmp 28), (.tmp 29)], #[43, 3]⟩)⟩,
               ⟨some 1, none, (.assign (.tmp 30))⟩])
             (.seq
              (.seq
               (.ops [⟨some 31, none, (.move (.tmp 1))⟩,
                 ⟨some 32, none, (.binOp .lss 3 (.tmp 31) (.const (.int .i64 0)) 3)⟩])
               (.cond (.tmp 32)
                (.seq
                 (.ops [⟨some 4, none, (.assign (.const (.int .i64 (-1))))⟩])
                 .ret)
                .skip))
              (.seq
               (.ops [⟨some 33, none, (.move (.tmp 0))⟩,
                 ⟨some 34, none, (.move (.tmp 5))⟩,
                 ⟨some 35, none, (.indexAddr 25 (.tmp 33) (.tmp 34))⟩,
                 ⟨some 36, none, (.fieldAddr 89 (.tmp 35) 1)⟩,
                 ⟨some 37, none, (.fieldAddr 45 (.tmp 36) 1)⟩,
                 ⟨some 38, none, (.load 43 (.tmp 37))⟩,
                 ⟨some 39, none, (.move (.tmp 1))⟩,
                 ⟨some 40, none, (.call ⟨(.value (.func 144)), #[(.tmp 38), (.tmp 39)], #[43, 3]⟩)⟩,
                 ⟨some 1, none, (.assign (.tmp 40))⟩])
               (.seq
                (.ops [⟨some 41, none, (.move (.tmp 1))⟩,
                  ⟨some 42, none, (.binOp .lss 3 (.tmp 41) (.const (.int .i64 0)) 3)⟩])
                (.cond (.tmp 42)
                 (.seq
                  (.ops [⟨some 4, none, (.assign (.const (.int .i64 (-1))))⟩])
                  .ret)
                 .skip))))))))
         (.ops [⟨some 10, none, (.move (.tmp 5))⟩,
           ⟨some 11, none, (.binOp .add 3 (.tmp 10) (.const (.int .i64 1)) 3)⟩,
           ⟨some 5, none, (.assign (.tmp 11))⟩]))))))
    (.seq
     (.ops [⟨some 43, none, (.move (.tmp 1))⟩,
       ⟨some 4, none, (.assign (.tmp 43))⟩])
     .ret)))
theorem w81 {args : Array Value} {H : AH} {Φ : Value → AH → Prop} (h : rW Try.prog k81 [] (fin Try.prog [(.tmp 4)] Φ) (tm0 args) H) : CallsA Try.prog 81 args H Φ :=
  CallsA.w k81 [(.tmp 4)] (fun _ => []) Try.func81 rfl rfl (by kernel_rfl) (by kernel_rfl) h

/-- laws.heldMachine -/
def k23 : KC :=
  (.seq
   (.ops [⟨some 2, none, (.box 27 (.tmp 0))⟩,
     ⟨some 4, none, (.assign (.const (.int .i64 0)))⟩])
   (.seq
    (.ops [⟨some 5, none, (.fieldAddr 27 (.tmp 2) 1)⟩,
      ⟨some 6, none, (.load 24 (.tmp 5))⟩,
      ⟨some 7, none, (.move (.tmp 1))⟩,
      ⟨some 8, none, (.call ⟨(.value (.func 80)), #[(.tmp 6), (.tmp 7)], #[24, 3]⟩)⟩,
      ⟨some 1, none, (.assign (.tmp 8))⟩])
    (.seq
     (.seq
      (.ops [⟨some 9, none, (.move (.tmp 1))⟩,
        ⟨some 10, none, (.binOp .lss 3 (.tmp 9) (.const (.int .i64 0)) 3)⟩])
      (.cond (.tmp 10)
       (.seq
        (.ops [⟨some 4, none, (.assign (.const (.int .i64 (-1))))⟩])
        .ret)
       .skip))
     (.seq
      (.ops [⟨some 11, none, (.fieldAddr 27 (.tmp 2) 2)⟩,
        ⟨some 12, none, (.load 25 (.tmp 11))⟩,
        ⟨some 13, none, (.move (.tmp 1))⟩,
        ⟨some 14, none, (.call ⟨(.value (.func 81)), #[(.tmp 12), (.tmp 13)], #[25, 3]⟩)⟩,
        ⟨some 1, none, (.assign (.tmp 14))⟩])
      (.seq
       (.seq
        (.ops [⟨some 15, none, (.move (.tmp 1))⟩,
          ⟨some 16, none, (.binOp .lss 3 (.tmp 15) (.const (.int .i64 0)) 3)⟩])
        (.cond (.tmp 16)
         (.seq
          (.ops [⟨some 4, none, (.assign (.const (.int .i64 (-1))))⟩])
          .ret)
         .skip))
       (.seq
        (.ops [⟨some 17, none, (.move (.tmp 1))⟩,
          ⟨some 4, none, (.assign (.tmp 17))⟩])
        .ret))))))
theorem w23 {args : Array Value} {H : AH} {Φ : Value → AH → Prop} (h : rW Try.prog k23 [] (fin Try.prog [(.tmp 4)] Φ) (tm0 args) H) : CallsA Try.prog 23 args H Φ :=
  CallsA.w k23 [(.tmp 4)] (fun _ => []) Try.func23 rfl rfl (by kernel_rfl) (by kernel_rfl) h

/-- laws.FnExactMachineNew -/
def k3 : KC :=
  (.seq
   (.ops [⟨some 4, none, (.assign (.const (.bool false)))⟩])
   (.seq
    (.ops [⟨some 5, none, (.assign (.const (.int .i64 1048576)))⟩])
    (.seq
     (.ops [⟨some 13, none, (.move (.tmp 0))⟩,
       ⟨some 14, none, (.move (.tmp 5))⟩,
       ⟨some 15, none, (.call ⟨(.value (.func 15)), #[(.tmp 13), (.tmp 14)], #[22, 3]⟩)⟩,
       ⟨some 5, none, (.assign (.tmp 15))⟩])
     (.seq
      (.seq
       (.ops [⟨some 16, none, (.move (.tmp 5))⟩,
         ⟨some 17, none, (.binOp .lss 3 (.tmp 16) (.const (.int .i64 0)) 3)⟩])
       (.cond (.tmp 17)
        (.seq
         (.ops [⟨some 4, none, (.assign (.const (.bool true)))⟩])
         .ret)
        .skip))
      (.seq
       (.ops [⟨some 18, none, (.move (.tmp 0))⟩,
         ⟨some 19, none, (.call ⟨(.value (.func 17)), #[(.tmp 18)], #[22]⟩)⟩,
         ⟨some 20, none, (.move (.tmp 1))⟩,
         ⟨some 21, none, (.call ⟨(.value (.func 16)), #[(.tmp 19), (.tmp 20)], #[25, 3]⟩)⟩,
         ⟨some 6, none, (.alloc 27)⟩,
         ⟨none, none, (.store 27 (.tmp 6) (.tmp 21))⟩])
       (.seq
        (.ops [⟨some 22, none, (.move (.tmp 0))⟩,
          ⟨some 23, none, (.call ⟨(.value (.func 17)), #[(.tmp 22)], #[22]⟩)⟩,
          ⟨some 7, none, (.assign (.tmp 23))⟩])
        (.seq
         (.ops [⟨some 24, none, (.move (.tmp 7))⟩,
           ⟨some 25, none, (.move (.tmp 1))⟩,
           ⟨some 26, none, (.call ⟨(.value (.func 18)), #[(.tmp 24), (.tmp 25)], #[25, 3]⟩)⟩,
           ⟨some 8, none, (.alloc 27)⟩,
           ⟨none, none, (.store 27 (.tmp 8) (.tmp 26))⟩])
         (.seq
          (.seq
           (.ops [⟨some 27, none, (.load 27 (.tmp 8))⟩,
             ⟨some 28, none, (.load 27 (.tmp 6))⟩,
             ⟨some 29, none, (.call ⟨(.value (.func 19)), #[(.tmp 27), (.tmp 28)], #[27, 27]⟩)⟩,
             ⟨some 30, none, (.unOp .not 4 (.tmp 29))⟩])
           (.cond (.tmp 30)
            (.seq
             (.ops [⟨some 4, none, (.assign (.const (.bool false)))⟩])
             .ret)
            .skip))
          (.seq
           (.seq
            (.ops [⟨some 31, none, (.move (.tmp 7))⟩,
              ⟨some 32, none, (.move (.tmp 0))⟩,
              ⟨some 33, none, (.call ⟨(.value (.func 17)), #[(.tmp 32)], #[22]⟩)⟩,
              ⟨some 34, none, (.call ⟨(.value (.func 20)), #[(.tmp 31), (.tmp 33)], #[25, 25]⟩)⟩,
              ⟨some 35, none, (.unOp .not 4 (.tmp 34))⟩])
            (.cond (.tmp 35)
             (.seq
              (.ops [⟨some 4, none, (.assign (.const (.bool false)))⟩])
              .ret)
             .skip))
           (.seq
            (.ops [⟨some 9, none, (.assign (.const (.int .i64 1)))⟩])
            (.seq
             (.ops [⟨some 36, none, (.move (.tmp 7))⟩,
               ⟨some 37, none, (.move (.tmp 9))⟩,
               ⟨some 38, none, (.call ⟨(.value (.func 21)), #[(.tmp 36), (.tmp 37)], #[25, 3]⟩)⟩,
               ⟨some 9, none, (.assign (.tmp 38))⟩])
             (.seq
              (.seq
               (.ops [⟨some 39, none, (.move (.tmp 9))⟩,
                 ⟨some 40, none, (.binOp .lss 3 (.tmp 39) (.const (.int .i64 0)) 3)⟩,
                 ⟨some 41, none, (.move (.tmp 40))⟩,
                 ⟨some 42, (some (41, false)), (.load 27 (.tmp 8))⟩,
                 ⟨some 43, (some (41, false)), (.load 27 (.tmp 6))⟩,
                 ⟨some 44, (some (41, false)), (.call ⟨(.value (.func 19)), #[(.tmp 42), (.tmp 43)], #[27, 27]⟩)⟩,
                 ⟨some 45, (some (41, false)), (.unOp .not 4 (.tmp 44))⟩,
                 ⟨some 46, none, (.pick (.tmp 41) (.const (.bool true)) (.tmp 45))⟩])
               (.cond (.tmp 46)
                (.seq
                 (.ops [⟨some 4, none, (.assign (.const (.bool false)))⟩])
                 .ret)
                .skip))
              (.seq
               (.ops [⟨some 10, none, (.assign (.const (.int .i64 1)))⟩])
               (.seq
                (.ops [⟨some 47, none, (.load 27 (.tmp 8))⟩,
                  ⟨some 48, none, (.move (.tmp 10))⟩,
                  ⟨some 49, none, (.call ⟨(.value (.func 22)), #[(.tmp 47), (.tmp 48)], #[27, 3]⟩)⟩,
                  ⟨some 10, none, (.assign (.tmp 49))⟩])
                (.seq
                 (.ops [⟨some 11, none, (.assign (.const (.int .i64 1)))⟩])
                 (.seq
                  (.ops [⟨some 50, none, (.load 27 (.tmp 8))⟩,
                    ⟨some 51, none, (.move (.tmp 11))⟩,
                    ⟨some 52, none, (.call ⟨(.value (.func 23)), #[(.tmp 50), (.tmp 51)], #[27, 3]⟩)⟩,
                    ⟨some 11, none, (.assign (.tmp 52))⟩])
                  (.seq
                   (.seq
                    (.ops [⟨some 53, none, (.move (.tmp 11))⟩,
                      ⟨some 54, none, (.binOp .lss 3 (.tmp 53) (.const (.int .i64 0)) 3)⟩])
                    (.cond (.tmp 54)
                     (.seq
                      (.ops [⟨some 4, none, (.assign (.const (.bool false)))⟩])
                      .ret)
                     .skip))
                   (.seq
                    (.seq
                     (.ops [⟨some 55, none, (.move (.tmp 11))⟩,
                       ⟨some 56, none, (.move (.tmp 10))⟩,
                       ⟨some 57, none, (.binOp .neq 3 (.tmp 55) (.tmp 56) 3)⟩])
                     (.cond (.tmp 57)
                      (.seq
                       (.ops [⟨some 4, none, (.assign (.const (.bool false)))⟩])
                       .ret)
                      .skip))
                    (.seq
                     (.ops [⟨some 58, none, (.move (.tmp 0))⟩,
                       ⟨some 59, none, (.call ⟨(.value (.func 17)), #[(.tmp 58)], #[22]⟩)⟩,
                       ⟨some 60, none, (.move (.tmp 1))⟩,
                       ⟨some 61, none, (.call ⟨(.value (.func 18)), #[(.tmp 59), (.tmp 60)], #[25, 3]⟩)⟩,
                       ⟨some 12, none, (.alloc 27)⟩,
                       ⟨none, none, (.store 27 (.tmp 12) (.tmp 61))⟩])
                     (.seq
                      (.seq
                       (.ops [⟨some 62, none, (.load 27 (.tmp 12))⟩,
                         ⟨some 63, none, (.load 27 (.tmp 6))⟩,
                         ⟨some 64, none, (.call ⟨(.value (.func 19)), #[(.tmp 62), (.tmp 63)], #[27, 27]⟩)⟩,
                         ⟨some 65, none, (.unOp .not 4 (.tmp 64))⟩])
                       (.cond (.tmp 65)
                        (.seq
                         (.ops [⟨some 4, none, (.assign (.const (.bool false)))⟩])
                         .ret)
                        .skip))
                      (.seq
                       (.ops [⟨some 11, none, (.assign (.const (.int .i64 1)))⟩])
                       (.seq
                        (.ops [⟨some 66, none, (.load 27 (.tmp 8))⟩,
                          ⟨some 67, none, (.move (.tmp 11))⟩,
                          ⟨some 68, none, (.call ⟨(.value (.func 23)), #[(.tmp 66), (.tmp 67)], #[27, 3]⟩)⟩,
                          ⟨some 11, none, (.assign (.tmp 68))⟩])
                        (.seq
                         (.seq
                          (.ops [⟨some 69, none, (.move (.tmp 11))⟩,
                            ⟨some 70, none, (.binOp .lss 3 (.tmp 69) (.const (.int .i64 0)) 3)⟩])
                          (.cond (.tmp 70)
                           (.seq
                            (.ops [⟨some 4, none, (.assign (.const (.bool false)))⟩])
                            .ret)
                           .skip))
                         (.seq
                          (.seq
                           (.ops [⟨some 71, none, (.move (.tmp 11))⟩,
                             ⟨some 72, none, (.move (.tmp 10))⟩,
                             ⟨some 73, none, (.binOp .neq 3 (.tmp 71) (.tmp 72) 3)⟩])
                           (.cond (.tmp 73)
                            (.seq
                             (.ops [⟨some 4, none, (.assign (.const (.bool false)))⟩])
                             .ret)
                            .skip))
                          (.seq
                           (.ops [⟨some 4, none, (.assign (.const (.bool true)))⟩])
                           .ret)))))))))))))))))))))))))
theorem w3 {args : Array Value} {H : AH} {Φ : Value → AH → Prop} (h : rW Try.prog k3 [] (fin Try.prog [(.tmp 4)] Φ) (tm0 args) H) : CallsA Try.prog 3 args H Φ :=
  CallsA.w k3 [(.tmp 4)] (fun _ => []) Try.func3 rfl rfl (by kernel_rfl) (by kernel_rfl) h

end Go.Proofs.Ytgekbancaeabgaa.AM
