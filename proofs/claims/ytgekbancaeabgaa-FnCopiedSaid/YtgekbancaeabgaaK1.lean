/- The code of the functions that the laws reach, made short; and facts on the types that they use. -/
import Derived.Test.YtgekbancaeabgaaA8
import Derived.KernelRfl
import Derived.Test.YtgekbancaeabgaaRows
set_option linter.unusedVariables false
set_option linter.unusedSimpArgs false
set_option linter.defProp false
set_option maxRecDepth 100000
/- The code of the functions that the laws reach, made short; and facts on the types that they use. -/
namespace Go.Proofs.Ytgekbancaeabgaa.AM
open Go Go.Proofs.Ytgekbancaeabgaa Go.Proofs

theorem al45 {ev : Operand → Value} : aMake Try.prog ev (.alloc 45) = some ([.slice none 0 0, .slice none 0 0], none) := by kernel_rfl
theorem ap24_24 {a a' : Option Addr} {n c n' c' : Nat} {H : AH} : aAppend Try.prog #[24, 24] #[.slice a n c, .slice a' n' c'] H = app 2 (.slice a n c) (.slice a' n' c') H := append_eq (z := .agg #[.slice none 0 0, .slice none 0 0]) (e := 45) (e' := 45) (by kernel_rfl) (by kernel_rfl) (by kernel_rfl) (by kernel_rfl) (by kernel_rfl) (by kernel_rfl)
theorem ap43_43 {a a' : Option Addr} {n c n' c' : Nat} {H : AH} : aAppend Try.prog #[43, 43] #[.slice a n c, .slice a' n' c'] H = app 1 (.slice a n c) (.slice a' n' c') H := append_eq (z := .int .i64 0) (e := 3) (e' := 3) (by kernel_rfl) (by kernel_rfl) (by kernel_rfl) (by kernel_rfl) (by kernel_rfl) (by kernel_rfl)
theorem bd45 {ps : Array (Nat × Value)} : aBuild Try.prog 45 ps = (fillP [(0, 1), (1, 1)] [.slice none 0 0, .slice none 0 0] ps.toList).map fun cs => .agg cs.toArray := build_eq (z := .agg #[.slice none 0 0, .slice none 0 0]) Try.underlying45 (by kernel_rfl) (by kernel_rfl) (by kernel_rfl) rfl
theorem bd154 {ps : Array (Nat × Value)} : aBuild Try.prog 154 ps = (fillP [(0, 1), (1, 1), (2, 1)] [.slice none 0 0, .int .i64 0, .int .i64 0] ps.toList).map fun cs => .agg cs.toArray := build_eq (z := .agg #[.slice none 0 0, .int .i64 0, .int .i64 0]) Try.underlying154 (by kernel_rfl) (by kernel_rfl) (by kernel_rfl) rfl
theorem bs24_0 {ev : Operand → Value} : aMake Try.prog ev (.buildSlice 24 0 #[]) = (fillP [] [] []).map fun cs => (cs, some (0, 2)) := bslice_eq (z := .agg #[.slice none 0 0, .slice none 0 0]) (e := 45) (by kernel_rfl) (by kernel_rfl) (by kernel_rfl) (by decide) (by kernel_rfl) (by kernel_rfl) rfl rfl
theorem bs24_1 {ev : Operand → Value} {x0 : Operand} : aMake Try.prog ev (.buildSlice 24 1 #[(0, x0)]) = (fillP [(0, 2)] [.slice none 0 0, .slice none 0 0] [(0, ev x0)]).map fun cs => (cs, some (1, 2)) := bslice_eq (z := .agg #[.slice none 0 0, .slice none 0 0]) (e := 45) (by kernel_rfl) (by kernel_rfl) (by kernel_rfl) (by decide) (by kernel_rfl) (by kernel_rfl) rfl rfl
theorem bs43_0 {ev : Operand → Value} : aMake Try.prog ev (.buildSlice 43 0 #[]) = (fillP [] [] []).map fun cs => (cs, some (0, 1)) := bslice_eq (z := .int .i64 0) (e := 3) (by kernel_rfl) (by kernel_rfl) (by kernel_rfl) (by decide) (by kernel_rfl) (by kernel_rfl) rfl rfl
theorem bs43_1 {ev : Operand → Value} {x0 : Operand} : aMake Try.prog ev (.buildSlice 43 1 #[(0, x0)]) = (fillP [(0, 1)] [.int .i64 0] [(0, ev x0)]).map fun cs => (cs, some (1, 1)) := bslice_eq (z := .int .i64 0) (e := 3) (by kernel_rfl) (by kernel_rfl) (by kernel_rfl) (by decide) (by kernel_rfl) (by kernel_rfl) rfl rfl
theorem bs43_2 {ev : Operand → Value} {x0 x1 : Operand} : aMake Try.prog ev (.buildSlice 43 2 #[(0, x0), (1, x1)]) = (fillP [(0, 1), (1, 1)] [.int .i64 0, .int .i64 0] [(0, ev x0), (1, ev x1)]).map fun cs => (cs, some (2, 1)) := bslice_eq (z := .int .i64 0) (e := 3) (by kernel_rfl) (by kernel_rfl) (by kernel_rfl) (by decide) (by kernel_rfl) (by kernel_rfl) rfl rfl
theorem bs43_3 {ev : Operand → Value} {x0 x1 x2 : Operand} : aMake Try.prog ev (.buildSlice 43 3 #[(0, x0), (1, x1), (2, x2)]) = (fillP [(0, 1), (1, 1), (2, 1)] [.int .i64 0, .int .i64 0, .int .i64 0] [(0, ev x0), (1, ev x1), (2, ev x2)]).map fun cs => (cs, some (3, 1)) := bslice_eq (z := .int .i64 0) (e := 3) (by kernel_rfl) (by kernel_rfl) (by kernel_rfl) (by decide) (by kernel_rfl) (by kernel_rfl) rfl rfl
theorem bs43_4 {ev : Operand → Value} {x0 x1 x2 x3 : Operand} : aMake Try.prog ev (.buildSlice 43 4 #[(0, x0), (1, x1), (2, x2), (3, x3)]) = (fillP [(0, 1), (1, 1), (2, 1), (3, 1)] [.int .i64 0, .int .i64 0, .int .i64 0, .int .i64 0] [(0, ev x0), (1, ev x1), (2, ev x2), (3, ev x3)]).map fun cs => (cs, some (4, 1)) := bslice_eq (z := .int .i64 0) (e := 3) (by kernel_rfl) (by kernel_rfl) (by kernel_rfl) (by decide) (by kernel_rfl) (by kernel_rfl) rfl rfl
theorem bs43_7 {ev : Operand → Value} {x0 x1 x2 x3 x4 x5 x6 : Operand} : aMake Try.prog ev (.buildSlice 43 7 #[(0, x0), (1, x1), (2, x2), (3, x3), (4, x4), (5, x5), (6, x6)]) = (fillP [(0, 1), (1, 1), (2, 1), (3, 1), (4, 1), (5, 1), (6, 1)] [.int .i64 0, .int .i64 0, .int .i64 0, .int .i64 0, .int .i64 0, .int .i64 0, .int .i64 0] [(0, ev x0), (1, ev x1), (2, ev x2), (3, ev x3), (4, ev x4), (5, ev x5), (6, ev x6)]).map fun cs => (cs, some (7, 1)) := bslice_eq (z := .int .i64 0) (e := 3) (by kernel_rfl) (by kernel_rfl) (by kernel_rfl) (by decide) (by kernel_rfl) (by kernel_rfl) rfl rfl
theorem cv5_3 {k : IntKind} {n : Int} {G : Hp} : aConv Try.prog 5 3 (.int k n) G = some (.int .i64 (IntKind.i64.wrap n)) := conv_int (e := .int .u8) (by kernel_rfl) (by kernel_rfl)
theorem fa45_0 {b o : Nat} : aFieldAddr Try.prog 45 (.pointer (some ⟨b, o, none⟩)) 0 = some (.pointer (some ⟨b, o + 0, none⟩)) := by kernel_rfl
theorem fa45_1 {b o : Nat} : aFieldAddr Try.prog 45 (.pointer (some ⟨b, o, none⟩)) 1 = some (.pointer (some ⟨b, o + 1, none⟩)) := by kernel_rfl
theorem fa154_0 {b o : Nat} : aFieldAddr Try.prog 154 (.pointer (some ⟨b, o, none⟩)) 0 = some (.pointer (some ⟨b, o + 0, none⟩)) := by kernel_rfl
theorem fa154_1 {b o : Nat} : aFieldAddr Try.prog 154 (.pointer (some ⟨b, o, none⟩)) 1 = some (.pointer (some ⟨b, o + 1, none⟩)) := by kernel_rfl
theorem fa154_2 {b o : Nat} : aFieldAddr Try.prog 154 (.pointer (some ⟨b, o, none⟩)) 2 = some (.pointer (some ⟨b, o + 2, none⟩)) := by kernel_rfl
theorem ix24 {b o n c : Nat} {k : IntKind} {j : Int} : aIndexAddr Try.prog 24 (.slice (some ⟨b, o, none⟩) n c) (.int k j) = if 0 ≤ j ∧ j < n then some (.pointer (some ⟨b, o + j.toNat * 2, none⟩)) else none := by kernel_rfl
theorem ix41 {b o n c : Nat} {k : IntKind} {j : Int} : aIndexAddr Try.prog 41 (.slice (some ⟨b, o, none⟩) n c) (.int k j) = if 0 ≤ j ∧ j < n then some (.pointer (some ⟨b, o + j.toNat * 1, none⟩)) else none := by kernel_rfl
theorem ix43 {b o n c : Nat} {k : IntKind} {j : Int} : aIndexAddr Try.prog 43 (.slice (some ⟨b, o, none⟩) n c) (.int k j) = if 0 ≤ j ∧ j < n then some (.pointer (some ⟨b, o + j.toNat * 1, none⟩)) else none := by kernel_rfl
theorem ld3 {o : Nat} {cs : List Value} : ld Try.prog 3 o cs = cs[o]? := ld_one (by kernel_rfl)
theorem ld5 {o : Nat} {cs : List Value} : ld Try.prog 5 o cs = cs[o]? := ld_one (by kernel_rfl)
theorem ld41 {o : Nat} {cs : List Value} : ld Try.prog 41 o cs = cs[o]? := ld_one (by kernel_rfl)
theorem ld43 {o : Nat} {cs : List Value} : ld Try.prog 43 o cs = cs[o]? := ld_one (by kernel_rfl)
theorem ld45 {o : Nat} {cs : List Value} : ld Try.prog 45 o cs = aggAt 2 o cs := ld_agg (by kernel_rfl) (by kernel_rfl)
theorem ln24 {a : Option Addr} {n c : Nat} : aLen Try.prog #[24] #[.slice a n c] = some (.int .i64 n) := by kernel_rfl
theorem ln41 {a : Option Addr} {n c : Nat} : aLen Try.prog #[41] #[.slice a n c] = some (.int .i64 n) := by kernel_rfl
theorem ln43 {a : Option Addr} {n c : Nat} : aLen Try.prog #[43] #[.slice a n c] = some (.int .i64 n) := by kernel_rfl
theorem ms43 {k k' : IntKind} {n : Int} : mkS Try.prog 43 (.int k n) (.int k' n) = if 0 ≤ n ∧ n ≤ 1073741824 then some ((List.replicate n.toNat [.int .i64 0]).flatten, some (n.toNat, 1)) else none := mkS_eq (z := .int .i64 0) (e := 3) (by kernel_rfl) (by kernel_rfl) (by kernel_rfl) (by kernel_rfl) (by kernel_rfl) (by kernel_rfl) (by decide)
theorem sl43 {b o n : Nat} {lo hi : Option Value} : aSlice Try.prog 43 (.slice (some ⟨b, o, none⟩) n 1) lo hi = slc b o n 1 (optInt 0 lo) (optInt n hi) := slc_eq (e := 3) (by kernel_rfl) (by kernel_rfl)
theorem sn43 {n c : Nat} {lo hi : Option Value} : aSlice Try.prog 43 (.slice none n c) lo hi = slq n (optInt 0 lo) (optInt n hi) := sln_q (e := 3) (s := 1) (by kernel_rfl) (by kernel_rfl)
theorem st3 {b o : Nat} {v : Value} {H : AH} : aStore Try.prog 3 (.pointer (some ⟨b, o, none⟩)) v H = sto 1 b o v H (wrt H b) := store_eq (by kernel_rfl)
theorem st43 {b o : Nat} {v : Value} {H : AH} : aStore Try.prog 43 (.pointer (some ⟨b, o, none⟩)) v H = sto 1 b o v H (wrt H b) := store_eq (by kernel_rfl)
theorem st45 {b o : Nat} {v : Value} {H : AH} : aStore Try.prog 45 (.pointer (some ⟨b, o, none⟩)) v H = sto 2 b o v H (wrt H b) := store_eq (by kernel_rfl)

/-- laws.big -/
def k29 : KC :=
  (.seq
   (.ops [⟨some 2, none, (.assign (.const (.bool false)))⟩])
   (.seq
    (.ops [⟨some 3, none, (.move (.tmp 0))⟩,
      ⟨some 4, none, (.call ⟨(.builtin .len), #[(.tmp 3)], #[41]⟩)⟩,
      ⟨some 5, none, (.binOp .gtr 3 (.tmp 4) (.const (.int .i64 1048576)) 3)⟩,
      ⟨some 2, none, (.assign (.tmp 5))⟩])
    .ret))
theorem w29 {args : Array Value} {H : AH} {Φ : Value → AH → Prop} (h : rW Try.prog k29 [] (fin Try.prog [(.tmp 2)] Φ) (tm0 args) H) : CallsA Try.prog 29 args H Φ :=
  CallsA.w k29 [(.tmp 2)] (fun _ => []) Try.func29 rfl rfl (by kernel_rfl) (by kernel_rfl) h

/-- laws.sameInts -/
def k34 : KC :=
  (.seq
   (.ops [⟨some 4, none, (.assign (.const (.bool false)))⟩])
   (.seq
    (.seq
     (.ops [⟨some 6, none, (.move (.tmp 0))⟩,
       ⟨some 7, none, (.call ⟨(.builtin .len), #[(.tmp 6)], #[43]⟩)⟩,
       ⟨some 8, none, (.move (.tmp 1))⟩,
       ⟨some 9, none, (.call ⟨(.builtin .len), #[(.tmp 8)], #[43]⟩)⟩,
       ⟨some 10, none, (.binOp .neq 3 (.tmp 7) (.tmp 9) 3)⟩])
     (.cond (.tmp 10)
      (.seq
       (.ops [⟨some 4, none, (.assign (.const (.bool false)))⟩])
       .ret)
      .skip))
    (.seq
     (.seq
      (.ops [⟨some 5, none, (.assign (.const (.int .i64 0)))⟩])
      (.block 0
       (.loop
        (.seq
         (.seq
          (.ops [⟨some 11, none, (.move (.tmp 5))⟩,
            ⟨some 12, none, (.move (.tmp 0))⟩,
            ⟨some 13, none, (.call ⟨(.builtin .len), #[(.tmp 12)], #[43]⟩)⟩,
            ⟨some 14, none, (.binOp .lss 3 (.tmp 11) (.tmp 13) 3)⟩])
          (.cond (.tmp 14)
           .skip
           (.exit 0)))
         (.seq
          (.block 1
           (.seq
            (.ops [⟨some 17, none, (.move (.tmp 0))⟩,
              ⟨some 18, none, (.move (.tmp 5))⟩,
              ⟨some 19, none, (.indexAddr 43 (.tmp 17) (.tmp 18))⟩,
              ⟨some 20, none, (.load 3 (.tmp 19))⟩,
              ⟨some 21, none, (.move (.tmp 1))⟩,
              ⟨some 22, none, (.move (.tmp 5))⟩,
              ⟨some 23, none, (.indexAddr 43 (.tmp 21) (.tmp 22))⟩,
              ⟨some 24, none, (.load 3 (.tmp 23))⟩,
              ⟨some 25, none, (.binOp .neq 3 (.tmp 20) (.tmp 24) 3)⟩])
            (.cond (.tmp 25)
             (.seq
              (.ops [⟨some 4, none, (.assign (.const (.bool false)))⟩])
              .ret)
             .skip)))
          (.ops [⟨some 15, none, (.move (.tmp 5))⟩,
            ⟨some 16, none, (.binOp .add 3 (.tmp 15) (.const (.int .i64 1)) 3)⟩,
            ⟨some 5, none, (.assign (.tmp 16))⟩]))))))
     (.seq
      (.ops [⟨some 4, none, (.assign (.const (.bool true)))⟩])
      .ret))))
theorem w34 {args : Array Value} {H : AH} {Φ : Value → AH → Prop} (h : rW Try.prog k34 [] (fin Try.prog [(.tmp 4)] Φ) (tm0 args) H) : CallsA Try.prog 34 args H Φ :=
  CallsA.w k34 [(.tmp 4)] (fun i => if i = 6 then [(3, 0), (7, 0)] else []) Try.func34 rfl rfl (by kernel_rfl) (by kernel_rfl) h

/-- impl.within -/
def k106 : KC :=
  (.seq
   (.ops [⟨some 6, none, (.assign (.const (.bool false)))⟩])
   (.seq
    (.ops [⟨some 7, none, (.move (.tmp 0))⟩,
      ⟨some 8, none, (.move (.tmp 1))⟩,
      ⟨some 9, none, (.binOp .geq 3 (.tmp 7) (.tmp 8) 3)⟩,
      ⟨some 10, none, (.move (.tmp 9))⟩,
      ⟨some 11, (some (10, true)), (.move (.tmp 0))⟩,
      ⟨some 12, (some (10, true)), (.move (.tmp 2))⟩,
      ⟨some 13, (some (10, true)), (.binOp .leq 3 (.tmp 11) (.tmp 12) 3)⟩,
      ⟨some 14, none, (.pick (.tmp 10) (.tmp 13) (.const (.bool false)))⟩,
      ⟨some 6, none, (.assign (.tmp 14))⟩])
    .ret))
theorem w106 {args : Array Value} {H : AH} {Φ : Value → AH → Prop} (h : rW Try.prog k106 [] (fin Try.prog [(.tmp 6)] Φ) (tm0 args) H) : CallsA Try.prog 106 args H Φ :=
  CallsA.w k106 [(.tmp 6)] (fun _ => []) Try.func106 rfl rfl (by kernel_rfl) (by kernel_rfl) h

/-- impl.SizeOf -/
def k117 : KC :=
  (.seq
   (.ops [⟨some 2, none, (.assign (.const (.int .i64 0)))⟩])
   (.seq
    (.seq
     (.ops [⟨some 6, none, (.move (.tmp 0))⟩,
       ⟨some 7, none, (.call ⟨(.builtin .len), #[(.tmp 6)], #[43]⟩)⟩,
       ⟨some 8, none, (.binOp .gtr 3 (.tmp 7) (.const (.int .i64 3)) 3)⟩])
     (.cond (.tmp 8)
      (.seq
       (.ops [⟨some 2, none, (.assign (.const (.int .i64 (-1))))⟩])
       .ret)
      .skip))
    (.seq
     (.ops [⟨some 3, none, (.assign (.const (.int .i64 1)))⟩])
     (.seq
      (.seq
       (.ops [⟨some 9, none, (.move (.tmp 0))⟩,
         ⟨some 10, none, (.call ⟨(.builtin .len), #[(.tmp 9)], #[43]⟩)⟩,
         ⟨some 11, none, (.move (.const (.int .i64 0)))⟩])
       (.block 0
        (.loop
         (.seq
          (.ops [⟨some 12, none, (.binOp .lss 3 (.tmp 11) (.tmp 10) 3)⟩])
          (.seq
           (.cond (.tmp 12)
            .skip
            (.exit 0))
           (.seq
            (.block 1
             (.seq
              (.ops [⟨some 13, none, (.indexAddr 43 (.tmp 9) (.tmp 11))⟩,
                ⟨some 14, none, (.load 3 (.tmp 13))⟩,
                ⟨some 5, none, (.assign (.tmp 14))⟩])
              (.seq
               (.seq
                (.ops [⟨some 15, none, (.move (.tmp 5))⟩,
                  ⟨some 16, none, (.call ⟨(.value (.func 106)), #[(.tmp 15), (.const (.int .i64 0)), (.const (.int .i64 300))], #[3, 3, 3]⟩)⟩,
                  ⟨some 17, none, (.unOp .not 4 (.tmp 16))⟩])
                (.cond (.tmp 17)
                 (.seq
                  (.ops [⟨some 2, none, (.assign (.const (.int .i64 (-1))))⟩])
                  .ret)
                 .skip))
               (.ops [⟨some 18, none, (.move (.tmp 3))⟩,
                 ⟨some 19, none, (.move (.tmp 5))⟩,
                 ⟨some 20, none, (.binOp .mul 3 (.tmp 18) (.tmp 19) 3)⟩,
                 ⟨some 3, none, (.assign (.tmp 20))⟩]))))
            (.ops [⟨some 21, none, (.binOp .add 3 (.tmp 11) (.const (.int .i64 1)) 3)⟩,
              ⟨some 11, none, (.move (.tmp 21))⟩])))))))
      (.seq
       (.seq
        (.ops [⟨some 22, none, (.move (.tmp 3))⟩,
          ⟨some 23, none, (.binOp .gtr 3 (.tmp 22) (.const (.int .i64 300)) 3)⟩])
        (.cond (.tmp 23)
         (.seq
          (.ops [⟨some 2, none, (.assign (.const (.int .i64 (-1))))⟩])
          .ret)
         .skip))
       (.seq
        (.ops [⟨some 24, none, (.move (.tmp 3))⟩,
          ⟨some 2, none, (.assign (.tmp 24))⟩])
        .ret))))))
theorem w117 {args : Array Value} {H : AH} {Φ : Value → AH → Prop} (h : rW Try.prog k117 [] (fin Try.prog [(.tmp 2)] Φ) (tm0 args) H) : CallsA Try.prog 117 args H Φ :=
  CallsA.w k117 [(.tmp 2)] (fun _ => []) Try.func117 rfl rfl (by kernel_rfl) (by kernel_rfl) h

/-- slices.IndexFunc[[]int,int] -/
def k170 : KC :=
  (.seq
   (.ops [⟨some 4, none, (.assign (.const (.int .i64 0)))⟩])
   (.seq
    (.seq
     (.ops [⟨some 6, none, (.move (.tmp 0))⟩,
       ⟨some 7, none, (.call ⟨(.builtin .len), #[(.tmp 6)], #[43]⟩)⟩,
       ⟨some 8, none, (.move (.const (.int .i64 0)))⟩])
     (.block 0
      (.loop
       (.seq
        (.ops [⟨some 9, none, (.binOp .lss 3 (.tmp 8) (.tmp 7) 3)⟩])
        (.seq
         (.cond (.tmp 9)
          .skip
          (.exit 0))
         (.seq
          (.block 1
           (.seq
            (.ops [⟨some 10, none, (.move (.tmp 8))⟩,
              ⟨some 5, none, (.assign (.tmp 10))⟩])
            (.seq
             (.ops [⟨some 11, none, (.move (.tmp 1))⟩,
               ⟨some 12, none, (.move (.tmp 0))⟩,
               ⟨some 13, none, (.move (.tmp 5))⟩,
               ⟨some 14, none, (.indexAddr 43 (.tmp 12) (.tmp 13))⟩,
               ⟨some 15, none, (.load 3 (.tmp 14))⟩,
               ⟨some 16, none, (.call ⟨(.value (.tmp 11)), #[(.tmp 15)], #[3]⟩)⟩])
             (.cond (.tmp 16)
              (.seq
               (.ops [⟨some 17, none, (.move (.tmp 5))⟩,
                 ⟨some 4, none, (.assign (.tmp 17))⟩])
               .ret)
              .skip))))
          (.ops [⟨some 18, none, (.binOp .add 3 (.tmp 8) (.const (.int .i64 1)) 3)⟩,
            ⟨some 8, none, (.move (.tmp 18))⟩])))))))
    (.seq
     (.ops [⟨some 4, none, (.assign (.const (.int .i64 (-1))))⟩])
     .ret)))
theorem w170 {args : Array Value} {H : AH} {Φ : Value → AH → Prop} (h : rW Try.prog k170 [] (fin Try.prog [(.tmp 4)] Φ) (tm0 args) H) : CallsA Try.prog 170 args H Φ :=
  CallsA.w k170 [(.tmp 4)] (fun _ => []) Try.func170 rfl rfl (by kernel_rfl) (by kernel_rfl) h

/-- slices.ContainsFunc[[]int,int] -/
def k118 : KC :=
  (.seq
   (.ops [⟨some 4, none, (.assign (.const (.bool false)))⟩])
   (.seq
    (.ops [⟨some 5, none, (.move (.tmp 0))⟩,
      ⟨some 6, none, (.move (.tmp 1))⟩,
      ⟨some 7, none, (.call ⟨(.value (.func 170)), #[(.tmp 5), (.tmp 6)], #[43, 101]⟩)⟩,
      ⟨some 8, none, (.binOp .geq 3 (.tmp 7) (.const (.int .i64 0)) 3)⟩,
      ⟨some 4, none, (.assign (.tmp 8))⟩])
    .ret))
theorem w118 {args : Array Value} {H : AH} {Φ : Value → AH → Prop} (h : rW Try.prog k118 [] (fin Try.prog [(.tmp 4)] Φ) (tm0 args) H) : CallsA Try.prog 118 args H Φ :=
  CallsA.w k118 [(.tmp 4)] (fun _ => []) Try.func118 rfl rfl (by kernel_rfl) (by kernel_rfl) h

/-- impl.NumOk -/
def k120 : KC :=
  (.seq
   (.ops [⟨some 2, none, (.assign (.const (.bool false)))⟩])
   (.seq
    (.ops [⟨some 3, none, (.move (.tmp 0))⟩,
      ⟨some 4, none, (.call ⟨(.value (.func 106)), #[(.tmp 3), (.const (.int .i64 (-1000000000000))), (.const (.int .i64 1000000000000))], #[3, 3, 3]⟩)⟩,
      ⟨some 2, none, (.assign (.tmp 4))⟩])
    .ret))
theorem w120 {args : Array Value} {H : AH} {Φ : Value → AH → Prop} (h : rW Try.prog k120 [] (fin Try.prog [(.tmp 2)] Φ) (tm0 args) H) : CallsA Try.prog 120 args H Φ :=
  CallsA.w k120 [(.tmp 2)] (fun _ => []) Try.func120 rfl rfl (by kernel_rfl) (by kernel_rfl) h

/-- impl.ArrayOk$1 -/
def k119 : KC :=
  (.seq
   (.ops [⟨some 2, none, (.assign (.const (.bool false)))⟩])
   (.seq
    (.ops [⟨some 3, none, (.move (.tmp 0))⟩,
      ⟨some 4, none, (.call ⟨(.value (.func 120)), #[(.tmp 3)], #[3]⟩)⟩,
      ⟨some 5, none, (.unOp .not 4 (.tmp 4))⟩,
      ⟨some 2, none, (.assign (.tmp 5))⟩])
    .ret))
theorem w119 {args : Array Value} {H : AH} {Φ : Value → AH → Prop} (h : rW Try.prog k119 [] (fin Try.prog [(.tmp 2)] Φ) (tm0 args) H) : CallsA Try.prog 119 args H Φ :=
  CallsA.w k119 [(.tmp 2)] (fun _ => []) Try.func119 rfl rfl (by kernel_rfl) (by kernel_rfl) h

/-- impl.ArrayOk -/
def k47 : KC :=
  (.seq
   (.ops [⟨some 1, none, (.box 45 (.tmp 0))⟩,
     ⟨some 2, none, (.assign (.const (.bool false)))⟩])
   (.seq
    (.draw #[] [(1, 0), (1, 6), (4, 0), (9, 6)]
      [⟨some 3, none, (.fieldAddr 45 (.tmp 1) 1)⟩,
      ⟨some 4, none, (.load 43 (.tmp 3))⟩,
      ⟨some 5, none, (.call ⟨(.builtin .len), #[(.tmp 4)], #[43]⟩)⟩,
      ⟨some 6, none, (.fieldAddr 45 (.tmp 1) 0)⟩,
      ⟨some 7, none, (.load 43 (.tmp 6))⟩,
      ⟨some 8, none, (.call ⟨(.value (.func 117)), #[(.tmp 7)], #[43]⟩)⟩,
      ⟨some 9, none, (.binOp .eql 3 (.tmp 5) (.tmp 8) 3)⟩,
      ⟨some 10, none, (.move (.tmp 9))⟩,
      ⟨some 11, (some (10, true)), (.fieldAddr 45 (.tmp 1) 1)⟩,
      ⟨some 12, (some (10, true)), (.load 43 (.tmp 11))⟩,
      ⟨some 13, (some (10, true)), (.call ⟨(.value (.func 118)), #[(.tmp 12), (.func 119)], #[43, 101]⟩)⟩,
      ⟨some 14, (some (10, true)), (.unOp .not 4 (.tmp 13))⟩,
      ⟨some 15, none, (.pick (.tmp 10) (.tmp 14) (.const (.bool false)))⟩,
      ⟨some 2, none, (.assign (.tmp 15))⟩])
    .ret))
theorem w47 {args : Array Value} {H : AH} {Φ : Value → AH → Prop} (h : rW Try.prog k47 [] (fin Try.prog [(.tmp 2)] Φ) (tm0 args) H) : CallsA Try.prog 47 args H Φ :=
  CallsA.w k47 [(.tmp 2)] (fun i => if i = 1 then [(1, 0), (1, 6), (4, 0), (9, 6)] else []) Try.func47 rfl rfl (by kernel_rfl) (by kernel_rfl) h

/-- impl.copyArray -/
def k93 : KC :=
  (.seq
   (.ops [⟨some 1, none, (.box 45 (.tmp 0))⟩,
     ⟨some 2, none, (.alloc 45)⟩])
   (.seq
    (.draw #[] [(1, 0), (4, 0), (4, 3)]
      [⟨some 3, none, (.fieldAddr 45 (.tmp 1) 0)⟩,
      ⟨some 4, none, (.load 43 (.tmp 3))⟩,
      ⟨some 5, none, (.call ⟨(.builtin .append), #[(.const (.slice none 0 0)), (.tmp 4)], #[43, 43]⟩)⟩,
      ⟨some 6, none, (.fieldAddr 45 (.tmp 1) 1)⟩,
      ⟨some 7, none, (.load 43 (.tmp 6))⟩,
      ⟨some 8, none, (.call ⟨(.builtin .append), #[(.const (.slice none 0 0)), (.tmp 7)], #[43, 43]⟩)⟩,
      ⟨some 9, none, (.build 45 #[(0, (.tmp 5)), (1, (.tmp 8))])⟩,
      ⟨none, none, (.store 45 (.tmp 2) (.tmp 9))⟩])
    .ret))
theorem w93 {args : Array Value} {H : AH} {Φ : Value → AH → Prop} (h : rW Try.prog k93 [] (fin Try.prog [(.cell 2 45)] Φ) (tm0 args) H) : CallsA Try.prog 93 args H Φ :=
  CallsA.w k93 [(.cell 2 45)] (fun i => if i = 1 then [(1, 0), (4, 0), (4, 3)] else []) Try.func93 rfl rfl (by kernel_rfl) (by kernel_rfl) h

/-- impl.Rows -/
def k46 : KC :=
  (.seq
   (.ops [⟨some 1, none, (.box 45 (.tmp 0))⟩,
     ⟨some 2, none, (.assign (.const (.slice none 0 0)))⟩])
   (.seq
    (.seq
     (.ops [⟨some 6, none, (.load 45 (.tmp 1))⟩,
       ⟨some 7, none, (.call ⟨(.value (.func 47)), #[(.tmp 6)], #[45]⟩)⟩,
       ⟨some 8, none, (.unOp .not 4 (.tmp 7))⟩,
       ⟨some 9, none, (.move (.tmp 8))⟩,
       ⟨some 10, (some (9, false)), (.fieldAddr 45 (.tmp 1) 0)⟩,
       ⟨some 11, (some (9, false)), (.load 43 (.tmp 10))⟩,
       ⟨some 12, (some (9, false)), (.call ⟨(.builtin .len), #[(.tmp 11)], #[43]⟩)⟩,
       ⟨some 13, (some (9, false)), (.binOp .eql 3 (.tmp 12) (.const (.int .i64 0)) 3)⟩,
       ⟨some 14, none, (.pick (.tmp 9) (.const (.bool true)) (.tmp 13))⟩])
     (.cond (.tmp 14)
      (.seq
       (.ops [⟨some 2, none, (.assign (.const (.slice none 0 0)))⟩])
       .ret)
      .skip))
    (.seq
     (.ops [⟨some 15, none, (.fieldAddr 45 (.tmp 1) 0)⟩,
       ⟨some 16, none, (.load 43 (.tmp 15))⟩,
       ⟨some 17, none, (.slice 43 (.tmp 16) (some (.const (.int .i64 1))) none none)⟩,
       ⟨some 18, none, (.call ⟨(.value (.func 117)), #[(.tmp 17)], #[43]⟩)⟩,
       ⟨some 3, none, (.assign (.tmp 18))⟩])
     (.seq
      (.ops [⟨some 4, none, (.assign (.const (.slice none 0 0)))⟩])
      (.seq
       (.seq
        (.ops [⟨some 5, none, (.assign (.const (.int .i64 0)))⟩])
        (.block 0
         (.loop
          (.seq
           (.seq
            (.ops [⟨some 19, none, (.move (.tmp 5))⟩,
              ⟨some 20, none, (.fieldAddr 45 (.tmp 1) 0)⟩,
              ⟨some 21, none, (.load 43 (.tmp 20))⟩,
              ⟨some 22, none, (.indexAddr 43 (.tmp 21) (.const (.int .i64 0)))⟩,
              ⟨some 23, none, (.load 3 (.tmp 22))⟩,
              ⟨some 24, none, (.binOp .lss 3 (.tmp 19) (.tmp 23) 3)⟩])
            (.cond (.tmp 24)
             .skip
             (.exit 0)))
           (.seq
            (.block 1
             (.draw #[] [(2, 0), (5, 0)]
               [⟨some 27, none, (.move (.tmp 4))⟩,
               ⟨some 28, none, (.fieldAddr 45 (.tmp 1) 0)⟩,
               ⟨some 29, none, (.load 43 (.tmp 28))⟩,
               ⟨some 30, none, (.slice 43 (.tmp 29) (some (.const (.int .i64 1))) none none)⟩,
               ⟨some 31, none, (.fieldAddr 45 (.tmp 1) 1)⟩,
               ⟨some 32, none, (.load 43 (.tmp 31))⟩,
               ⟨some 33, none, (.move (.tmp 5))⟩,
               ⟨some 34, none, (.move (.tmp 3))⟩,
               ⟨some 35, none, (.binOp .mul 3 (.tmp 33) (.tmp 34) 3)⟩,
               ⟨some 36, none, (.move (.tmp 5))⟩,
               ⟨some 37, none, (.binOp .add 3 (.tmp 36) (.const (.int .i64 1)) 3)⟩,
               ⟨some 38, none, (.move (.tmp 3))⟩,
               ⟨some 39, none, (.binOp .mul 3 (.tmp 37) (.tmp 38) 3)⟩,
               ⟨some 40, none, (.slice 43 (.tmp 32) (some (.tmp 35)) (some (.tmp 39)) none)⟩,
               ⟨some 41, none, (.build 45 #[(0, (.tmp 30)), (1, (.tmp 40))])⟩,
               ⟨some 42, none, (.call ⟨(.value (.func 93)), #[(.tmp 41)], #[45]⟩)⟩,
               ⟨some 43, none, (.buildSlice 24 1 #[(0, (.tmp 42))])⟩,
               ⟨some 44, none, (.call ⟨(.builtin .append), #[(.tmp 27), (.tmp 43)], #[24, 24]⟩)⟩,
               ⟨some 4, none, (.assign (.tmp 44))⟩]))
            (.ops [⟨some 25, none, (.move (.tmp 5))⟩,
              ⟨some 26, none, (.binOp .add 3 (.tmp 25) (.const (.int .i64 1)) 3)⟩,
              ⟨some 5, none, (.assign (.tmp 26))⟩]))))))
       (.seq
        (.ops [⟨some 45, none, (.move (.tmp 4))⟩,
          ⟨some 2, none, (.assign (.tmp 45))⟩])
        .ret))))))
theorem w46 {args : Array Value} {H : AH} {Φ : Value → AH → Prop} (h : rW Try.prog k46 [] (fin Try.prog [(.tmp 2)] Φ) (tm0 args) H) : CallsA Try.prog 46 args H Φ :=
  CallsA.w k46 [(.tmp 2)] (fun i => if i = 8 then [(2, 0), (5, 0)] else []) Try.func46 rfl rfl (by kernel_rfl) (by kernel_rfl) h

/-- spec.l1In -/
def k84 : KC :=
  (.seq
   (.ops [⟨some 6, none, (.assign (.const (.bool false)))⟩])
   (.seq
    (.ops [⟨some 7, none, (.move (.tmp 0))⟩,
      ⟨some 8, none, (.move (.tmp 1))⟩,
      ⟨some 9, none, (.binOp .geq 3 (.tmp 7) (.tmp 8) 3)⟩,
      ⟨some 10, none, (.move (.tmp 9))⟩,
      ⟨some 11, (some (10, true)), (.move (.tmp 0))⟩,
      ⟨some 12, (some (10, true)), (.move (.tmp 2))⟩,
      ⟨some 13, (some (10, true)), (.binOp .leq 3 (.tmp 11) (.tmp 12) 3)⟩,
      ⟨some 14, none, (.pick (.tmp 10) (.tmp 13) (.const (.bool false)))⟩,
      ⟨some 6, none, (.assign (.tmp 14))⟩])
    .ret))
theorem w84 {args : Array Value} {H : AH} {Φ : Value → AH → Prop} (h : rW Try.prog k84 [] (fin Try.prog [(.tmp 6)] Φ) (tm0 args) H) : CallsA Try.prog 84 args H Φ :=
  CallsA.w k84 [(.tmp 6)] (fun _ => []) Try.func84 rfl rfl (by kernel_rfl) (by kernel_rfl) h

/-- spec.l1New -/
def k88 : KC :=
  (.seq
   (.ops [⟨some 2, none, (.assign (.const (.pointer none)))⟩])
   (.seq
    (.ops [⟨some 5, none, (.move (.tmp 0))⟩,
      ⟨some 6, none, (.call ⟨(.builtin .len), #[(.tmp 5)], #[41]⟩)⟩,
      ⟨some 7, none, (.binOp .add 3 (.const (.int .i64 18218)) (.tmp 6) 3)⟩,
      ⟨some 3, none, (.assign (.tmp 7))⟩])
    (.seq
     (.seq
      (.ops [⟨some 4, none, (.assign (.const (.int .i64 0)))⟩])
      (.block 0
       (.loop
        (.seq
         (.seq
          (.ops [⟨some 8, none, (.move (.tmp 4))⟩,
            ⟨some 9, none, (.move (.tmp 0))⟩,
            ⟨some 10, none, (.call ⟨(.builtin .len), #[(.tmp 9)], #[41]⟩)⟩,
            ⟨some 11, none, (.binOp .lss 3 (.tmp 8) (.tmp 10) 3)⟩,
            ⟨some 12, none, (.move (.tmp 11))⟩,
            ⟨some 13, (some (12, true)), (.move (.tmp 4))⟩,
            ⟨some 14, (some (12, true)), (.binOp .lss 3 (.tmp 13) (.const (.int .i64 4000)) 3)⟩,
            ⟨some 15, none, (.pick (.tmp 12) (.tmp 14) (.const (.bool false)))⟩])
          (.cond (.tmp 15)
           .skip
           (.exit 0)))
         (.seq
          (.block 1
           (.ops [⟨some 18, none, (.move (.tmp 3))⟩,
             ⟨some 19, none, (.binOp .mul 3 (.tmp 18) (.const (.int .i64 131)) 3)⟩,
             ⟨some 20, none, (.move (.tmp 0))⟩,
             ⟨some 21, none, (.move (.tmp 4))⟩,
             ⟨some 22, none, (.indexAddr 41 (.tmp 20) (.tmp 21))⟩,
             ⟨some 23, none, (.load 5 (.tmp 22))⟩,
             ⟨some 24, none, (.convert 5 3 (.tmp 23))⟩,
             ⟨some 25, none, (.binOp .add 3 (.tmp 19) (.tmp 24) 3)⟩,
             ⟨some 26, none, (.binOp .add 3 (.tmp 25) (.const (.int .i64 7)) 3)⟩,
             ⟨some 27, none, (.binOp .and 3 (.tmp 26) (.const (.int .i64 1073741823)) 3)⟩,
             ⟨some 3, none, (.assign (.tmp 27))⟩]))
          (.ops [⟨some 16, none, (.move (.tmp 4))⟩,
            ⟨some 17, none, (.binOp .add 3 (.tmp 16) (.const (.int .i64 1)) 3)⟩,
            ⟨some 4, none, (.assign (.tmp 17))⟩]))))))
     (.seq
      (.ops [⟨some 28, none, (.move (.tmp 0))⟩,
        ⟨some 29, none, (.move (.tmp 3))⟩,
        ⟨some 30, none, (.build 154 #[(0, (.tmp 28)), (2, (.tmp 29))])⟩,
        ⟨some 31, none, (.box 154 (.tmp 30))⟩,
        ⟨some 2, none, (.assign (.tmp 31))⟩])
      .ret))))
theorem w88 {args : Array Value} {H : AH} {Φ : Value → AH → Prop} (h : rW Try.prog k88 [] (fin Try.prog [(.tmp 2)] Φ) (tm0 args) H) : CallsA Try.prog 88 args H Φ :=
  CallsA.w k88 [(.tmp 2)] (fun _ => []) Try.func88 rfl rfl (by kernel_rfl) (by kernel_rfl) h

/-- spec.l1Byte -/
def k157 : KC :=
  (.seq
   (.ops [⟨some 2, none, (.assign (.const (.int .i64 0)))⟩])
   (.seq
    (.ops [⟨some 4, none, (.move (.tmp 0))⟩,
      ⟨some 5, none, (.move (.tmp 0))⟩,
      ⟨some 6, none, (.nilCheck (.tmp 5))⟩,
      ⟨some 7, none, (.fieldAddr 154 (.tmp 6) 2)⟩,
      ⟨some 8, none, (.load 3 (.tmp 7))⟩,
      ⟨some 9, none, (.binOp .mul 3 (.tmp 8) (.const (.int .i64 6364136223846793005)) 3)⟩,
      ⟨some 10, none, (.binOp .add 3 (.tmp 9) (.const (.int .i64 1442695040888963407)) 3)⟩,
      ⟨some 11, none, (.nilCheck (.tmp 4))⟩,
      ⟨some 12, none, (.fieldAddr 154 (.tmp 11) 2)⟩,
      ⟨none, none, (.store 3 (.tmp 12) (.tmp 10))⟩])
    (.seq
     (.ops [⟨some 13, none, (.move (.tmp 0))⟩,
       ⟨some 14, none, (.nilCheck (.tmp 13))⟩,
       ⟨some 15, none, (.fieldAddr 154 (.tmp 14) 2)⟩,
       ⟨some 16, none, (.load 3 (.tmp 15))⟩,
       ⟨some 17, none, (.binOp .shr 3 (.tmp 16) (.const (.int .u64 33)) 177)⟩,
       ⟨some 18, none, (.move (.tmp 0))⟩,
       ⟨some 19, none, (.nilCheck (.tmp 18))⟩,
       ⟨some 20, none, (.fieldAddr 154 (.tmp 19) 2)⟩,
       ⟨some 21, none, (.load 3 (.tmp 20))⟩,
       ⟨some 22, none, (.binOp .shr 3 (.tmp 21) (.const (.int .u64 45)) 177)⟩,
       ⟨some 23, none, (.binOp .xor 3 (.tmp 17) (.tmp 22) 3)⟩,
       ⟨some 24, none, (.binOp .and 3 (.tmp 23) (.const (.int .i64 255)) 3)⟩,
       ⟨some 3, none, (.assign (.tmp 24))⟩])
     (.seq
      (.seq
       (.ops [⟨some 25, none, (.move (.tmp 0))⟩,
         ⟨some 26, none, (.nilCheck (.tmp 25))⟩,
         ⟨some 27, none, (.fieldAddr 154 (.tmp 26) 1)⟩,
         ⟨some 28, none, (.load 3 (.tmp 27))⟩,
         ⟨some 29, none, (.move (.tmp 0))⟩,
         ⟨some 30, none, (.nilCheck (.tmp 29))⟩,
         ⟨some 31, none, (.fieldAddr 154 (.tmp 30) 0)⟩,
         ⟨some 32, none, (.load 41 (.tmp 31))⟩,
         ⟨some 33, none, (.call ⟨(.builtin .len), #[(.tmp 32)], #[41]⟩)⟩,
         ⟨some 34, none, (.binOp .lss 3 (.tmp 28) (.tmp 33) 3)⟩])
       (.cond (.tmp 34)
        (.seq
         (.ops [⟨some 35, none, (.move (.tmp 3))⟩,
           ⟨some 36, none, (.move (.tmp 0))⟩,
           ⟨some 37, none, (.nilCheck (.tmp 36))⟩,
           ⟨some 38, none, (.fieldAddr 154 (.tmp 37) 0)⟩,
           ⟨some 39, none, (.load 41 (.tmp 38))⟩,
           ⟨some 40, none, (.move (.tmp 0))⟩,
           ⟨some 41, none, (.nilCheck (.tmp 40))⟩,
           ⟨some 42, none, (.fieldAddr 154 (.tmp 41) 1)⟩,
           ⟨some 43, none, (.load 3 (.tmp 42))⟩,
           ⟨some 44, none, (.indexAddr 41 (.tmp 39) (.tmp 43))⟩,
           ⟨some 45, none, (.load 5 (.tmp 44))⟩,
           ⟨some 46, none, (.convert 5 3 (.tmp 45))⟩,
           ⟨some 47, none, (.binOp .add 3 (.tmp 35) (.tmp 46) 3)⟩,
           ⟨some 48, none, (.binOp .and 3 (.tmp 47) (.const (.int .i64 255)) 3)⟩,
           ⟨some 3, none, (.assign (.tmp 48))⟩])
         (.ops [⟨some 49, none, (.move (.tmp 0))⟩,
           ⟨some 50, none, (.move (.tmp 0))⟩,
           ⟨some 51, none, (.nilCheck (.tmp 50))⟩,
           ⟨some 52, none, (.fieldAddr 154 (.tmp 51) 1)⟩,
           ⟨some 53, none, (.load 3 (.tmp 52))⟩,
           ⟨some 54, none, (.binOp .add 3 (.tmp 53) (.const (.int .i64 1)) 3)⟩,
           ⟨some 55, none, (.nilCheck (.tmp 49))⟩,
           ⟨some 56, none, (.fieldAddr 154 (.tmp 55) 1)⟩,
           ⟨none, none, (.store 3 (.tmp 56) (.tmp 54))⟩]))
        .skip))
      (.seq
       (.ops [⟨some 57, none, (.move (.tmp 3))⟩,
         ⟨some 2, none, (.assign (.tmp 57))⟩])
       .ret)))))
theorem w157 {args : Array Value} {H : AH} {Φ : Value → AH → Prop} (h : rW Try.prog k157 [] (fin Try.prog [(.tmp 2)] Φ) (tm0 args) H) : CallsA Try.prog 157 args H Φ :=
  CallsA.w k157 [(.tmp 2)] (fun i => if i = 2 then [(3, 0), (8, 0)] else if i = 3 then [(3, 0), (7, 0)] else if i = 4 then [(4, 0), (8, 0), (10, 0), (11, 0)] else []) Try.func157 rfl rfl (by kernel_rfl) (by kernel_rfl) h

/-- spec.l1Below -/
def k92 : KC :=
  (.seq
   (.ops [⟨some 4, none, (.assign (.const (.int .i64 0)))⟩])
   (.seq
    (.seq
     (.ops [⟨some 9, none, (.move (.tmp 1))⟩,
       ⟨some 10, none, (.binOp .leq 3 (.tmp 9) (.const (.int .i64 0)) 3)⟩])
     (.cond (.tmp 10)
      (.seq
       (.ops [⟨some 4, none, (.assign (.const (.int .i64 0)))⟩])
       .ret)
      .skip))
    (.seq
     (.seq
      (.ops [⟨some 11, none, (.move (.tmp 1))⟩,
        ⟨some 12, none, (.binOp .leq 3 (.tmp 11) (.const (.int .i64 256)) 3)⟩])
      (.cond (.tmp 12)
       (.seq
        (.ops [⟨some 13, none, (.move (.tmp 0))⟩,
          ⟨some 14, none, (.call ⟨(.value (.func 157)), #[(.tmp 13)], #[105]⟩)⟩,
          ⟨some 15, none, (.move (.tmp 1))⟩,
          ⟨some 16, none, (.binOp .rem 3 (.tmp 14) (.tmp 15) 3)⟩,
          ⟨some 4, none, (.assign (.tmp 16))⟩])
        .ret)
       .skip))
     (.seq
      (.ops [⟨some 17, none, (.move (.tmp 0))⟩,
        ⟨some 18, none, (.call ⟨(.value (.func 157)), #[(.tmp 17)], #[105]⟩)⟩,
        ⟨some 5, none, (.assign (.tmp 18))⟩])
      (.seq
       (.ops [⟨some 19, none, (.move (.tmp 0))⟩,
         ⟨some 20, none, (.call ⟨(.value (.func 157)), #[(.tmp 19)], #[105]⟩)⟩,
         ⟨some 6, none, (.assign (.tmp 20))⟩])
       (.seq
        (.ops [⟨some 21, none, (.move (.tmp 0))⟩,
          ⟨some 22, none, (.call ⟨(.value (.func 157)), #[(.tmp 21)], #[105]⟩)⟩,
          ⟨some 7, none, (.assign (.tmp 22))⟩])
        (.seq
         (.ops [⟨some 23, none, (.move (.tmp 0))⟩,
           ⟨some 24, none, (.call ⟨(.value (.func 157)), #[(.tmp 23)], #[105]⟩)⟩,
           ⟨some 8, none, (.assign (.tmp 24))⟩])
         (.seq
          (.ops [⟨some 25, none, (.move (.tmp 5))⟩,
            ⟨some 26, none, (.binOp .mul 3 (.tmp 25) (.const (.int .i64 16777216)) 3)⟩,
            ⟨some 27, none, (.move (.tmp 6))⟩,
            ⟨some 28, none, (.binOp .mul 3 (.tmp 27) (.const (.int .i64 65536)) 3)⟩,
            ⟨some 29, none, (.binOp .add 3 (.tmp 26) (.tmp 28) 3)⟩,
            ⟨some 30, none, (.move (.tmp 7))⟩,
            ⟨some 31, none, (.binOp .mul 3 (.tmp 30) (.const (.int .i64 256)) 3)⟩,
            ⟨some 32, none, (.binOp .add 3 (.tmp 29) (.tmp 31) 3)⟩,
            ⟨some 33, none, (.move (.tmp 8))⟩,
            ⟨some 34, none, (.binOp .add 3 (.tmp 32) (.tmp 33) 3)⟩,
            ⟨some 35, none, (.move (.tmp 1))⟩,
            ⟨some 36, none, (.binOp .rem 3 (.tmp 34) (.tmp 35) 3)⟩,
            ⟨some 4, none, (.assign (.tmp 36))⟩])
          .ret))))))))
theorem w92 {args : Array Value} {H : AH} {Φ : Value → AH → Prop} (h : rW Try.prog k92 [] (fin Try.prog [(.tmp 4)] Φ) (tm0 args) H) : CallsA Try.prog 92 args H Φ :=
  CallsA.w k92 [(.tmp 4)] (fun _ => []) Try.func92 rfl rfl (by kernel_rfl) (by kernel_rfl) h

/-- spec.SizeOf -/
def k127 : KC :=
  (.seq
   (.ops [⟨some 2, none, (.assign (.const (.int .i64 0)))⟩])
   (.seq
    (.seq
     (.ops [⟨some 7, none, (.move (.tmp 0))⟩,
       ⟨some 8, none, (.call ⟨(.builtin .len), #[(.tmp 7)], #[43]⟩)⟩,
       ⟨some 9, none, (.binOp .gtr 3 (.tmp 8) (.const (.int .i64 3)) 3)⟩])
     (.cond (.tmp 9)
      (.seq
       (.ops [⟨some 2, none, (.assign (.const (.int .i64 (-1))))⟩])
       .ret)
      .skip))
    (.seq
     (.ops [⟨some 3, none, (.assign (.const (.bool false)))⟩])
     (.seq
      (.seq
       (.ops [⟨some 4, none, (.assign (.const (.int .i64 0)))⟩])
       (.block 0
        (.loop
         (.seq
          (.seq
           (.ops [⟨some 10, none, (.move (.tmp 4))⟩,
             ⟨some 11, none, (.move (.tmp 0))⟩,
             ⟨some 12, none, (.call ⟨(.builtin .len), #[(.tmp 11)], #[43]⟩)⟩,
             ⟨some 13, none, (.binOp .lss 3 (.tmp 10) (.tmp 12) 3)⟩])
           (.cond (.tmp 13)
            .skip
            (.exit 0)))
          (.seq
           (.block 1
            (.seq
             (.seq
              (.ops [⟨some 16, none, (.move (.tmp 0))⟩,
                ⟨some 17, none, (.move (.tmp 4))⟩,
                ⟨some 18, none, (.indexAddr 43 (.tmp 16) (.tmp 17))⟩,
                ⟨some 19, none, (.load 3 (.tmp 18))⟩,
                ⟨some 20, none, (.call ⟨(.value (.func 84)), #[(.tmp 19), (.const (.int .i64 0)), (.const (.int .i64 300))], #[3, 3, 3]⟩)⟩,
                ⟨some 21, none, (.unOp .not 4 (.tmp 20))⟩])
              (.cond (.tmp 21)
               (.seq
                (.ops [⟨some 2, none, (.assign (.const (.int .i64 (-1))))⟩])
                .ret)
               .skip))
             (.ops [⟨some 22, none, (.move (.tmp 3))⟩,
               ⟨some 23, none, (.move (.tmp 22))⟩,
               ⟨some 24, (some (23, false)), (.move (.tmp 0))⟩,
               ⟨some 25, (some (23, false)), (.move (.tmp 4))⟩,
               ⟨some 26, (some (23, false)), (.indexAddr 43 (.tmp 24) (.tmp 25))⟩,
               ⟨some 27, (some (23, false)), (.load 3 (.tmp 26))⟩,
               ⟨some 28, (some (23, false)), (.binOp .eql 3 (.tmp 27) (.const (.int .i64 0)) 3)⟩,
               ⟨some 29, none, (.pick (.tmp 23) (.const (.bool true)) (.tmp 28))⟩,
               ⟨some 3, none, (.assign (.tmp 29))⟩])))
           (.ops [⟨some 14, none, (.move (.tmp 4))⟩,
             ⟨some 15, none, (.binOp .add 3 (.tmp 14) (.const (.int .i64 1)) 3)⟩,
             ⟨some 4, none, (.assign (.tmp 15))⟩]))))))
      (.seq
       (.ops [⟨some 5, none, (.assign (.const (.int .i64 1)))⟩])
       (.seq
        (.seq
         (.ops [⟨some 6, none, (.assign (.const (.int .i64 0)))⟩])
         (.block 2
          (.loop
           (.seq
            (.seq
             (.ops [⟨some 30, none, (.move (.tmp 6))⟩,
               ⟨some 31, none, (.move (.tmp 0))⟩,
               ⟨some 32, none, (.call ⟨(.builtin .len), #[(.tmp 31)], #[43]⟩)⟩,
               ⟨some 33, none, (.binOp .lss 3 (.tmp 30) (.tmp 32) 3)⟩])
             (.cond (.tmp 33)
              .skip
              (.exit 2)))
            (.seq
             (.block 3
              (.ops [⟨some 36, none, (.move (.tmp 5))⟩,
                ⟨some 37, none, (.move (.tmp 0))⟩,
                ⟨some 38, none, (.move (.tmp 6))⟩,
                ⟨some 39, none, (.indexAddr 43 (.tmp 37) (.tmp 38))⟩,
                ⟨some 40, none, (.load 3 (.tmp 39))⟩,
                ⟨some 41, none, (.binOp .mul 3 (.tmp 36) (.tmp 40) 3)⟩,
                ⟨some 5, none, (.assign (.tmp 41))⟩]))
             (.ops [⟨some 34, none, (.move (.tmp 6))⟩,
               ⟨some 35, none, (.binOp .add 3 (.tmp 34) (.const (.int .i64 1)) 3)⟩,
               ⟨some 6, none, (.assign (.tmp 35))⟩]))))))
        (.seq
         (.seq
          (.ops [⟨some 42, none, (.move (.tmp 5))⟩,
            ⟨some 43, none, (.binOp .gtr 3 (.tmp 42) (.const (.int .i64 300)) 3)⟩,
            ⟨some 44, none, (.move (.tmp 43))⟩,
            ⟨some 45, (some (44, true)), (.move (.tmp 3))⟩,
            ⟨some 46, (some (44, true)), (.unOp .not 4 (.tmp 45))⟩,
            ⟨some 47, none, (.pick (.tmp 44) (.tmp 46) (.const (.bool false)))⟩])
          (.cond (.tmp 47)
           (.seq
            (.ops [⟨some 2, none, (.assign (.const (.int .i64 (-1))))⟩])
            .ret)
           .skip))
         (.seq
          (.ops [⟨some 48, none, (.move (.tmp 5))⟩,
            ⟨some 2, none, (.assign (.tmp 48))⟩])
          .ret))))))))
theorem w127 {args : Array Value} {H : AH} {Φ : Value → AH → Prop} (h : rW Try.prog k127 [] (fin Try.prog [(.tmp 2)] Φ) (tm0 args) H) : CallsA Try.prog 127 args H Φ :=
  CallsA.w k127 [(.tmp 2)] (fun _ => []) Try.func127 rfl rfl (by kernel_rfl) (by kernel_rfl) h

/-- spec.l1Once -/
def k90 : KC :=
  (.seq
   (.ops [⟨some 4, none, (.assign (.const (.bool false)))⟩])
   (.seq
    (.ops [⟨some 5, none, (.move (.tmp 0))⟩,
      ⟨some 6, none, (.move (.tmp 1))⟩,
      ⟨some 7, none, (.call ⟨(.value (.func 92)), #[(.tmp 5), (.tmp 6)], #[105, 3]⟩)⟩,
      ⟨some 8, none, (.binOp .eql 3 (.tmp 7) (.const (.int .i64 0)) 3)⟩,
      ⟨some 4, none, (.assign (.tmp 8))⟩])
    .ret))
theorem w90 {args : Array Value} {H : AH} {Φ : Value → AH → Prop} (h : rW Try.prog k90 [] (fin Try.prog [(.tmp 4)] Φ) (tm0 args) H) : CallsA Try.prog 90 args H Φ :=
  CallsA.w k90 [(.tmp 4)] (fun _ => []) Try.func90 rfl rfl (by kernel_rfl) (by kernel_rfl) h

/-- spec.l1PickInt -/
def k123 : KC :=
  (.seq
   (.ops [⟨some 4, none, (.assign (.const (.int .i64 0)))⟩])
   (.seq
    (.ops [⟨some 5, none, (.move (.tmp 1))⟩,
      ⟨some 6, none, (.move (.tmp 0))⟩,
      ⟨some 7, none, (.move (.tmp 1))⟩,
      ⟨some 8, none, (.call ⟨(.builtin .len), #[(.tmp 7)], #[43]⟩)⟩,
      ⟨some 9, none, (.call ⟨(.value (.func 92)), #[(.tmp 6), (.tmp 8)], #[105, 3]⟩)⟩,
      ⟨some 10, none, (.indexAddr 43 (.tmp 5) (.tmp 9))⟩,
      ⟨some 11, none, (.load 3 (.tmp 10))⟩,
      ⟨some 4, none, (.assign (.tmp 11))⟩])
    .ret))
theorem w123 {args : Array Value} {H : AH} {Φ : Value → AH → Prop} (h : rW Try.prog k123 [] (fin Try.prog [(.tmp 4)] Φ) (tm0 args) H) : CallsA Try.prog 123 args H Φ :=
  CallsA.w k123 [(.tmp 4)] (fun _ => []) Try.func123 rfl rfl (by kernel_rfl) (by kernel_rfl) h

/-- spec.l1DrawNum -/
def k156 : KC :=
  (.seq
   (.ops [⟨some 2, none, (.assign (.const (.int .i64 0)))⟩])
   (.seq
    (.seq
     (.ops [⟨some 3, none, (.move (.tmp 0))⟩,
       ⟨some 4, none, (.call ⟨(.value (.func 90)), #[(.tmp 3), (.const (.int .i64 12))], #[105, 3]⟩)⟩])
     (.cond (.tmp 4)
      (.seq
       (.ops [⟨some 5, none, (.move (.tmp 0))⟩,
         ⟨some 6, none, (.buildSlice 43 7 #[(0, (.const (.int .i64 1000000000000))), (1, (.const (.int .i64 (-1000000000000)))), (2, (.const (.int .i64 999999999999))), (3, (.const (.int .i64 1000000))), (4, (.const (.int .i64 (-1000000)))), (5, (.const (.int .i64 1000001))), (6, (.const (.int .i64 999999999999)))])⟩,
         ⟨some 7, none, (.call ⟨(.value (.func 123)), #[(.tmp 5), (.tmp 6)], #[105, 43]⟩)⟩,
         ⟨some 2, none, (.assign (.tmp 7))⟩])
       .ret)
      .skip))
    (.seq
     (.ops [⟨some 8, none, (.move (.tmp 0))⟩,
       ⟨some 9, none, (.call ⟨(.value (.func 92)), #[(.tmp 8), (.const (.int .i64 20))], #[105, 3]⟩)⟩,
       ⟨some 10, none, (.binOp .sub 3 (.tmp 9) (.const (.int .i64 6)) 3)⟩,
       ⟨some 2, none, (.assign (.tmp 10))⟩])
     .ret)))
theorem w156 {args : Array Value} {H : AH} {Φ : Value → AH → Prop} (h : rW Try.prog k156 [] (fin Try.prog [(.tmp 2)] Φ) (tm0 args) H) : CallsA Try.prog 156 args H Φ :=
  CallsA.w k156 [(.tmp 2)] (fun _ => []) Try.func156 rfl rfl (by kernel_rfl) (by kernel_rfl) h

/-- spec.l3Fill -/
def k91 : KC :=
  (.seq
   (.ops [⟨some 4, none, (.alloc 45)⟩])
   (.seq
    (.ops [⟨some 7, none, (.buildSlice 43 0 #[])⟩,
      ⟨some 8, none, (.move (.tmp 1))⟩,
      ⟨some 9, none, (.call ⟨(.builtin .append), #[(.tmp 7), (.tmp 8)], #[43, 43]⟩)⟩,
      ⟨some 10, none, (.build 45 #[(0, (.tmp 9))])⟩,
      ⟨some 5, none, (.alloc 45)⟩,
      ⟨none, none, (.store 45 (.tmp 5) (.tmp 10))⟩])
    (.seq
     (.seq
      (.ops [⟨some 6, none, (.assign (.const (.int .i64 0)))⟩])
      (.block 0
       (.loop
        (.seq
         (.seq
          (.ops [⟨some 11, none, (.move (.tmp 6))⟩,
            ⟨some 12, none, (.move (.tmp 1))⟩,
            ⟨some 13, none, (.call ⟨(.value (.func 127)), #[(.tmp 12)], #[43]⟩)⟩,
            ⟨some 14, none, (.binOp .lss 3 (.tmp 11) (.tmp 13) 3)⟩])
          (.cond (.tmp 14)
           .skip
           (.exit 0)))
         (.seq
          (.block 1
           (.draw #[] [(1, 0), (1, 4)]
             [⟨some 17, none, (.fieldAddr 45 (.tmp 5) 1)⟩,
             ⟨some 18, none, (.load 43 (.tmp 17))⟩,
             ⟨some 19, none, (.move (.tmp 0))⟩,
             ⟨some 20, none, (.call ⟨(.value (.func 156)), #[(.tmp 19)], #[105]⟩)⟩,
             ⟨some 21, none, (.buildSlice 43 1 #[(0, (.tmp 20))])⟩,
             ⟨some 22, none, (.call ⟨(.builtin .append), #[(.tmp 18), (.tmp 21)], #[43, 43]⟩)⟩,
             ⟨some 23, none, (.fieldAddr 45 (.tmp 5) 1)⟩,
             ⟨none, none, (.store 43 (.tmp 23) (.tmp 22))⟩]))
          (.ops [⟨some 15, none, (.move (.tmp 6))⟩,
            ⟨some 16, none, (.binOp .add 3 (.tmp 15) (.const (.int .i64 1)) 3)⟩,
            ⟨some 6, none, (.assign (.tmp 16))⟩]))))))
     (.seq
      (.ops [⟨some 24, none, (.load 45 (.tmp 5))⟩,
        ⟨none, none, (.store 45 (.tmp 4) (.tmp 24))⟩])
      .ret))))
theorem w91 {args : Array Value} {H : AH} {Φ : Value → AH → Prop} (h : rW Try.prog k91 [] (fin Try.prog [(.cell 4 45)] Φ) (tm0 args) H) : CallsA Try.prog 91 args H Φ :=
  CallsA.w k91 [(.cell 4 45)] (fun i => if i = 5 then [(1, 0), (1, 4)] else []) Try.func91 rfl rfl (by kernel_rfl) (by kernel_rfl) h

/-- spec.l2DrawRight -/
def k183 : KC :=
  (.seq
   (.ops [⟨some 2, none, (.assign (.const (.slice none 0 0)))⟩])
   (.seq
    (.seq
     (.ops [⟨some 3, none, (.move (.tmp 0))⟩,
       ⟨some 4, none, (.call ⟨(.value (.func 92)), #[(.tmp 3), (.const (.int .i64 5))], #[105, 3]⟩)⟩])
     (.block 0
      (.seq
       (.ops [⟨some 6, none, (.binOp .eql 3 (.tmp 4) (.const (.int .i64 0)) 3)⟩,
         ⟨some 5, none, (.assign (.tmp 6))⟩])
       (.cond (.tmp 5)
        (.seq
         (.ops [⟨some 7, none, (.buildSlice 43 0 #[])⟩,
           ⟨some 2, none, (.assign (.tmp 7))⟩])
         .ret)
        (.seq
         (.seq
          (.ops [⟨some 9, none, (.binOp .eql 3 (.tmp 4) (.const (.int .i64 1)) 3)⟩,
            ⟨some 8, none, (.assign (.tmp 9))⟩])
          (.cond (.tmp 8)
           .skip
           (.ops [⟨some 10, none, (.binOp .eql 3 (.tmp 4) (.const (.int .i64 2)) 3)⟩,
             ⟨some 8, none, (.assign (.tmp 10))⟩])))
         (.cond (.tmp 8)
          (.seq
           (.ops [⟨some 11, none, (.move (.tmp 0))⟩,
             ⟨some 12, none, (.call ⟨(.value (.func 92)), #[(.tmp 11), (.const (.int .i64 6))], #[105, 3]⟩)⟩,
             ⟨some 13, none, (.buildSlice 43 1 #[(0, (.tmp 12))])⟩,
             ⟨some 2, none, (.assign (.tmp 13))⟩])
           .ret)
          (.seq
           (.ops [⟨some 15, none, (.binOp .eql 3 (.tmp 4) (.const (.int .i64 3)) 3)⟩,
             ⟨some 14, none, (.assign (.tmp 15))⟩])
           (.cond (.tmp 14)
            (.seq
             (.ops [⟨some 16, none, (.move (.tmp 0))⟩,
               ⟨some 17, none, (.call ⟨(.value (.func 92)), #[(.tmp 16), (.const (.int .i64 4))], #[105, 3]⟩)⟩,
               ⟨some 18, none, (.move (.tmp 0))⟩,
               ⟨some 19, none, (.call ⟨(.value (.func 92)), #[(.tmp 18), (.const (.int .i64 3))], #[105, 3]⟩)⟩,
               ⟨some 20, none, (.binOp .add 3 (.const (.int .i64 1)) (.tmp 19) 3)⟩,
               ⟨some 21, none, (.buildSlice 43 2 #[(0, (.tmp 17)), (1, (.tmp 20))])⟩,
               ⟨some 2, none, (.assign (.tmp 21))⟩])
             .ret)
            .skip))))))))
    (.seq
     (.ops [⟨some 22, none, (.move (.tmp 0))⟩,
       ⟨some 23, none, (.call ⟨(.value (.func 92)), #[(.tmp 22), (.const (.int .i64 3))], #[105, 3]⟩)⟩,
       ⟨some 24, none, (.binOp .add 3 (.const (.int .i64 1)) (.tmp 23) 3)⟩,
       ⟨some 25, none, (.move (.tmp 0))⟩,
       ⟨some 26, none, (.call ⟨(.value (.func 92)), #[(.tmp 25), (.const (.int .i64 2))], #[105, 3]⟩)⟩,
       ⟨some 27, none, (.binOp .add 3 (.const (.int .i64 1)) (.tmp 26) 3)⟩,
       ⟨some 28, none, (.move (.tmp 0))⟩,
       ⟨some 29, none, (.call ⟨(.value (.func 92)), #[(.tmp 28), (.const (.int .i64 4))], #[105, 3]⟩)⟩,
       ⟨some 30, none, (.buildSlice 43 3 #[(0, (.tmp 24)), (1, (.tmp 27)), (2, (.tmp 29))])⟩,
       ⟨some 2, none, (.assign (.tmp 30))⟩])
     .ret)))
theorem w183 {args : Array Value} {H : AH} {Φ : Value → AH → Prop} (h : rW Try.prog k183 [] (fin Try.prog [(.tmp 2)] Φ) (tm0 args) H) : CallsA Try.prog 183 args H Φ :=
  CallsA.w k183 [(.tmp 2)] (fun _ => []) Try.func183 rfl rfl (by kernel_rfl) (by kernel_rfl) h

/-- spec.l3DrawRight -/
def k153 : KC :=
  (.seq
   (.ops [⟨some 2, none, (.alloc 45)⟩])
   (.seq
    (.ops [⟨some 3, none, (.move (.tmp 0))⟩,
      ⟨some 4, none, (.move (.tmp 0))⟩,
      ⟨some 5, none, (.call ⟨(.value (.func 183)), #[(.tmp 4)], #[105]⟩)⟩,
      ⟨some 6, none, (.call ⟨(.value (.func 91)), #[(.tmp 3), (.tmp 5)], #[105, 43]⟩)⟩,
      ⟨none, none, (.store 45 (.tmp 2) (.tmp 6))⟩])
    .ret))
theorem w153 {args : Array Value} {H : AH} {Φ : Value → AH → Prop} (h : rW Try.prog k153 [] (fin Try.prog [(.cell 2 45)] Φ) (tm0 args) H) : CallsA Try.prog 153 args H Φ :=
  CallsA.w k153 [(.cell 2 45)] (fun _ => []) Try.func153 rfl rfl (by kernel_rfl) (by kernel_rfl) h

/-- spec.l2Draw -/
def k154 : KC :=
  (.seq
   (.ops [⟨some 2, none, (.assign (.const (.slice none 0 0)))⟩])
   (.seq
    (.ops [⟨some 4, none, (.move (.tmp 0))⟩,
      ⟨some 5, none, (.call ⟨(.value (.func 183)), #[(.tmp 4)], #[105]⟩)⟩,
      ⟨some 3, none, (.assign (.tmp 5))⟩])
    (.seq
     (.seq
      (.ops [⟨some 6, none, (.move (.tmp 0))⟩,
        ⟨some 7, none, (.call ⟨(.value (.func 92)), #[(.tmp 6), (.const (.int .i64 20))], #[105, 3]⟩)⟩])
      (.block 0
       (.seq
        (.ops [⟨some 9, none, (.binOp .eql 3 (.tmp 7) (.const (.int .i64 0)) 3)⟩,
          ⟨some 8, none, (.assign (.tmp 9))⟩])
        (.cond (.tmp 8)
         (.ops [⟨some 10, none, (.move (.tmp 3))⟩,
           ⟨some 11, none, (.move (.tmp 0))⟩,
           ⟨some 12, none, (.buildSlice 43 4 #[(0, (.const (.int .i64 (-1)))), (1, (.const (.int .i64 0))), (2, (.const (.int .i64 300))), (3, (.const (.int .i64 301)))])⟩,
           ⟨some 13, none, (.call ⟨(.value (.func 123)), #[(.tmp 11), (.tmp 12)], #[105, 43]⟩)⟩,
           ⟨some 14, none, (.buildSlice 43 1 #[(0, (.tmp 13))])⟩,
           ⟨some 15, none, (.call ⟨(.builtin .append), #[(.tmp 10), (.tmp 14)], #[43, 43]⟩)⟩,
           ⟨some 3, none, (.assign (.tmp 15))⟩])
         (.seq
          (.ops [⟨some 17, none, (.binOp .eql 3 (.tmp 7) (.const (.int .i64 1)) 3)⟩,
            ⟨some 16, none, (.assign (.tmp 17))⟩])
          (.cond (.tmp 16)
           (.ops [⟨some 18, none, (.buildSlice 43 4 #[(0, (.const (.int .i64 1))), (1, (.const (.int .i64 1))), (2, (.const (.int .i64 1))), (3, (.const (.int .i64 1)))])⟩,
             ⟨some 3, none, (.assign (.tmp 18))⟩])
           (.seq
            (.ops [⟨some 20, none, (.binOp .eql 3 (.tmp 7) (.const (.int .i64 2)) 3)⟩,
              ⟨some 19, none, (.assign (.tmp 20))⟩])
            (.cond (.tmp 19)
             (.ops [⟨some 21, none, (.move (.tmp 0))⟩,
               ⟨some 22, none, (.buildSlice 43 4 #[(0, (.const (.int .i64 17))), (1, (.const (.int .i64 20))), (2, (.const (.int .i64 15))), (3, (.const (.int .i64 300)))])⟩,
               ⟨some 23, none, (.call ⟨(.value (.func 123)), #[(.tmp 21), (.tmp 22)], #[105, 43]⟩)⟩,
               ⟨some 24, none, (.move (.tmp 0))⟩,
               ⟨some 25, none, (.buildSlice 43 4 #[(0, (.const (.int .i64 15))), (1, (.const (.int .i64 20))), (2, (.const (.int .i64 16))), (3, (.const (.int .i64 0)))])⟩,
               ⟨some 26, none, (.call ⟨(.value (.func 123)), #[(.tmp 24), (.tmp 25)], #[105, 43]⟩)⟩,
               ⟨some 27, none, (.buildSlice 43 2 #[(0, (.tmp 23)), (1, (.tmp 26))])⟩,
               ⟨some 3, none, (.assign (.tmp 27))⟩])
             .skip))))))))
     (.seq
      (.ops [⟨some 28, none, (.move (.tmp 3))⟩,
        ⟨some 2, none, (.assign (.tmp 28))⟩])
      .ret))))
theorem w154 {args : Array Value} {H : AH} {Φ : Value → AH → Prop} (h : rW Try.prog k154 [] (fin Try.prog [(.tmp 2)] Φ) (tm0 args) H) : CallsA Try.prog 154 args H Φ :=
  CallsA.w k154 [(.tmp 2)] (fun _ => []) Try.func154 rfl rfl (by kernel_rfl) (by kernel_rfl) h

/-- spec.l1DrawRaw -/
def k155 : KC :=
  (.seq
   (.ops [⟨some 2, none, (.assign (.const (.int .i64 0)))⟩])
   (.seq
    (.seq
     (.ops [⟨some 3, none, (.move (.tmp 0))⟩,
       ⟨some 4, none, (.call ⟨(.value (.func 90)), #[(.tmp 3), (.const (.int .i64 15))], #[105, 3]⟩)⟩])
     (.cond (.tmp 4)
      (.seq
       (.ops [⟨some 5, none, (.move (.tmp 0))⟩,
         ⟨some 6, none, (.buildSlice 43 4 #[(0, (.const (.int .i64 1000000000001))), (1, (.const (.int .i64 (-1000000000001)))), (2, (.const (.int .i64 9223372036854775807))), (3, (.const (.int .i64 (-9223372036854775808))))])⟩,
         ⟨some 7, none, (.call ⟨(.value (.func 123)), #[(.tmp 5), (.tmp 6)], #[105, 43]⟩)⟩,
         ⟨some 2, none, (.assign (.tmp 7))⟩])
       .ret)
      .skip))
    (.seq
     (.ops [⟨some 8, none, (.move (.tmp 0))⟩,
       ⟨some 9, none, (.call ⟨(.value (.func 156)), #[(.tmp 8)], #[105]⟩)⟩,
       ⟨some 2, none, (.assign (.tmp 9))⟩])
     .ret)))
theorem w155 {args : Array Value} {H : AH} {Φ : Value → AH → Prop} (h : rW Try.prog k155 [] (fin Try.prog [(.tmp 2)] Φ) (tm0 args) H) : CallsA Try.prog 155 args H Φ :=
  CallsA.w k155 [(.tmp 2)] (fun _ => []) Try.func155 rfl rfl (by kernel_rfl) (by kernel_rfl) h

/-- spec.l3Draw -/
def k89 : KC :=
  (.seq
   (.ops [⟨some 2, none, (.alloc 45)⟩])
   (.seq
    (.ops [⟨some 4, none, (.move (.tmp 0))⟩,
      ⟨some 5, none, (.call ⟨(.value (.func 153)), #[(.tmp 4)], #[105]⟩)⟩,
      ⟨some 3, none, (.alloc 45)⟩,
      ⟨none, none, (.store 45 (.tmp 3) (.tmp 5))⟩])
    (.seq
     (.seq
      (.ops [⟨some 6, none, (.move (.tmp 0))⟩,
        ⟨some 7, none, (.call ⟨(.value (.func 92)), #[(.tmp 6), (.const (.int .i64 20))], #[105, 3]⟩)⟩])
      (.block 0
       (.seq
        (.ops [⟨some 9, none, (.binOp .eql 3 (.tmp 7) (.const (.int .i64 0)) 3)⟩,
          ⟨some 8, none, (.assign (.tmp 9))⟩])
        (.cond (.tmp 8)
         (.ops [⟨some 10, none, (.fieldAddr 45 (.tmp 3) 1)⟩,
           ⟨some 11, none, (.load 43 (.tmp 10))⟩,
           ⟨some 12, none, (.buildSlice 43 1 #[(0, (.const (.int .i64 1)))])⟩,
           ⟨some 13, none, (.call ⟨(.builtin .append), #[(.tmp 11), (.tmp 12)], #[43, 43]⟩)⟩,
           ⟨some 14, none, (.fieldAddr 45 (.tmp 3) 1)⟩,
           ⟨none, none, (.store 43 (.tmp 14) (.tmp 13))⟩])
         (.seq
          (.ops [⟨some 16, none, (.binOp .eql 3 (.tmp 7) (.const (.int .i64 1)) 3)⟩,
            ⟨some 15, none, (.assign (.tmp 16))⟩])
          (.cond (.tmp 15)
           (.ops [⟨some 17, none, (.move (.tmp 0))⟩,
             ⟨some 18, none, (.call ⟨(.value (.func 154)), #[(.tmp 17)], #[105]⟩)⟩,
             ⟨some 19, none, (.fieldAddr 45 (.tmp 3) 0)⟩,
             ⟨none, none, (.store 43 (.tmp 19) (.tmp 18))⟩])
           (.seq
            (.ops [⟨some 21, none, (.binOp .eql 3 (.tmp 7) (.const (.int .i64 2)) 3)⟩,
              ⟨some 20, none, (.assign (.tmp 21))⟩])
            (.cond (.tmp 20)
             (.seq
              (.ops [⟨some 22, none, (.fieldAddr 45 (.tmp 3) 1)⟩,
                ⟨some 23, none, (.load 43 (.tmp 22))⟩,
                ⟨some 24, none, (.call ⟨(.builtin .len), #[(.tmp 23)], #[43]⟩)⟩,
                ⟨some 25, none, (.binOp .gtr 3 (.tmp 24) (.const (.int .i64 0)) 3)⟩])
              (.cond (.tmp 25)
               (.draw #[] [(1, 0), (1, 7), (1, 9), (4, 0)]
                 [⟨some 26, none, (.fieldAddr 45 (.tmp 3) 1)⟩,
                 ⟨some 27, none, (.load 43 (.tmp 26))⟩,
                 ⟨some 28, none, (.move (.tmp 0))⟩,
                 ⟨some 29, none, (.fieldAddr 45 (.tmp 3) 1)⟩,
                 ⟨some 30, none, (.load 43 (.tmp 29))⟩,
                 ⟨some 31, none, (.call ⟨(.builtin .len), #[(.tmp 30)], #[43]⟩)⟩,
                 ⟨some 32, none, (.call ⟨(.value (.func 92)), #[(.tmp 28), (.tmp 31)], #[105, 3]⟩)⟩,
                 ⟨some 33, none, (.move (.tmp 0))⟩,
                 ⟨some 34, none, (.call ⟨(.value (.func 155)), #[(.tmp 33)], #[105]⟩)⟩,
                 ⟨some 35, none, (.indexAddr 43 (.tmp 27) (.tmp 32))⟩,
                 ⟨none, none, (.store 3 (.tmp 35) (.tmp 34))⟩])
               .skip))
             (.seq
              (.ops [⟨some 37, none, (.binOp .eql 3 (.tmp 7) (.const (.int .i64 3)) 3)⟩,
                ⟨some 36, none, (.assign (.tmp 37))⟩])
              (.cond (.tmp 36)
               (.ops [⟨some 38, none, (.buildSlice 43 1 #[(0, (.const (.int .i64 300)))])⟩,
                 ⟨some 39, none, (.move (.tmp 0))⟩,
                 ⟨some 40, none, (.call ⟨(.value (.func 92)), #[(.tmp 39), (.const (.int .i64 2))], #[105, 3]⟩)⟩,
                 ⟨some 41, none, (.binOp .add 3 (.const (.int .i64 300)) (.tmp 40) 3)⟩,
                 ⟨some 42, none, (.makeSlice 43 (.tmp 41) (.tmp 41))⟩,
                 ⟨some 43, none, (.build 45 #[(0, (.tmp 38)), (1, (.tmp 42))])⟩,
                 ⟨none, none, (.store 45 (.tmp 3) (.tmp 43))⟩])
               .skip))))))))))
     (.seq
      (.ops [⟨some 44, none, (.load 45 (.tmp 3))⟩,
        ⟨none, none, (.store 45 (.tmp 2) (.tmp 44))⟩])
      .ret))))
theorem w89 {args : Array Value} {H : AH} {Φ : Value → AH → Prop} (h : rW Try.prog k89 [] (fin Try.prog [(.cell 2 45)] Φ) (tm0 args) H) : CallsA Try.prog 89 args H Φ :=
  CallsA.w k89 [(.cell 2 45)] (fun i => if i = 9 then [(1, 0), (1, 7), (1, 9), (4, 0)] else []) Try.func89 rfl rfl (by kernel_rfl) (by kernel_rfl) h

/-- spec.l3Scalar -/
def k113 : KC :=
  (.seq
   (.ops [⟨some 2, none, (.alloc 45)⟩])
   (.seq
    (.ops [⟨some 3, none, (.move (.tmp 0))⟩,
      ⟨some 4, none, (.buildSlice 43 1 #[(0, (.tmp 3))])⟩,
      ⟨some 5, none, (.build 45 #[(1, (.tmp 4))])⟩,
      ⟨none, none, (.store 45 (.tmp 2) (.tmp 5))⟩])
    .ret))
theorem w113 {args : Array Value} {H : AH} {Φ : Value → AH → Prop} (h : rW Try.prog k113 [] (fin Try.prog [(.cell 2 45)] Φ) (tm0 args) H) : CallsA Try.prog 113 args H Φ :=
  CallsA.w k113 [(.cell 2 45)] (fun _ => []) Try.func113 rfl rfl (by kernel_rfl) (by kernel_rfl) h

/-- spec.l3Vector -/
def k122 : KC :=
  (.seq
   (.ops [⟨some 2, none, (.alloc 45)⟩])
   (.seq
    (.ops [⟨some 3, none, (.move (.tmp 0))⟩,
      ⟨some 4, none, (.call ⟨(.builtin .len), #[(.tmp 3)], #[43]⟩)⟩,
      ⟨some 5, none, (.buildSlice 43 1 #[(0, (.tmp 4))])⟩,
      ⟨some 6, none, (.buildSlice 43 0 #[])⟩,
      ⟨some 7, none, (.move (.tmp 0))⟩,
      ⟨some 8, none, (.call ⟨(.builtin .append), #[(.tmp 6), (.tmp 7)], #[43, 43]⟩)⟩,
      ⟨some 9, none, (.build 45 #[(0, (.tmp 5)), (1, (.tmp 8))])⟩,
      ⟨none, none, (.store 45 (.tmp 2) (.tmp 9))⟩])
    .ret))
theorem w122 {args : Array Value} {H : AH} {Φ : Value → AH → Prop} (h : rW Try.prog k122 [] (fin Try.prog [(.cell 2 45)] Φ) (tm0 args) H) : CallsA Try.prog 122 args H Φ :=
  CallsA.w k122 [(.cell 2 45)] (fun _ => []) Try.func122 rfl rfl (by kernel_rfl) (by kernel_rfl) h

/-- spec.DrawCopy -/
def k50 : KC :=
  (.seq
   (.ops [⟨some 2, none, (.alloc 45)⟩,
     ⟨some 3, none, (.alloc 45)⟩])
   (.seq
    (.ops [⟨some 9, none, (.move (.tmp 0))⟩,
      ⟨some 10, none, (.call ⟨(.value (.func 88)), #[(.tmp 9)], #[41]⟩)⟩,
      ⟨some 4, none, (.assign (.tmp 10))⟩])
    (.seq
     (.ops [⟨some 11, none, (.move (.tmp 4))⟩,
       ⟨some 12, none, (.call ⟨(.value (.func 89)), #[(.tmp 11)], #[105]⟩)⟩,
       ⟨some 5, none, (.alloc 45)⟩,
       ⟨none, none, (.store 45 (.tmp 5) (.tmp 12))⟩])
     (.seq
      (.ops [⟨some 13, none, (.move (.tmp 4))⟩,
        ⟨some 14, none, (.call ⟨(.value (.func 92)), #[(.tmp 13), (.const (.int .i64 4))], #[105, 3]⟩)⟩,
        ⟨some 15, none, (.call ⟨(.value (.func 113)), #[(.tmp 14)], #[3]⟩)⟩,
        ⟨some 6, none, (.alloc 45)⟩,
        ⟨none, none, (.store 45 (.tmp 6) (.tmp 15))⟩])
      (.seq
       (.seq
        (.ops [⟨some 16, none, (.fieldAddr 45 (.tmp 5) 0)⟩,
          ⟨some 17, none, (.load 43 (.tmp 16))⟩,
          ⟨some 18, none, (.call ⟨(.builtin .len), #[(.tmp 17)], #[43]⟩)⟩,
          ⟨some 19, none, (.binOp .gtr 3 (.tmp 18) (.const (.int .i64 0)) 3)⟩,
          ⟨some 20, none, (.move (.tmp 19))⟩,
          ⟨some 21, (some (20, true)), (.fieldAddr 45 (.tmp 5) 0)⟩,
          ⟨some 22, (some (20, true)), (.load 43 (.tmp 21))⟩,
          ⟨some 23, (some (20, true)), (.indexAddr 43 (.tmp 22) (.const (.int .i64 0)))⟩,
          ⟨some 24, (some (20, true)), (.load 3 (.tmp 23))⟩,
          ⟨some 25, (some (20, true)), (.call ⟨(.value (.func 84)), #[(.tmp 24), (.const (.int .i64 0)), (.const (.int .i64 20))], #[3, 3, 3]⟩)⟩,
          ⟨some 26, none, (.pick (.tmp 20) (.tmp 25) (.const (.bool false)))⟩,
          ⟨some 27, none, (.move (.tmp 26))⟩,
          ⟨some 28, (some (27, true)), (.move (.tmp 4))⟩,
          ⟨some 29, (some (27, true)), (.call ⟨(.value (.func 90)), #[(.tmp 28), (.const (.int .i64 4))], #[105, 3]⟩)⟩,
          ⟨some 30, (some (27, true)), (.unOp .not 4 (.tmp 29))⟩,
          ⟨some 31, none, (.pick (.tmp 27) (.tmp 30) (.const (.bool false)))⟩])
        (.cond (.tmp 31)
         (.seq
          (.ops [⟨some 32, none, (.buildSlice 43 0 #[])⟩,
            ⟨some 7, none, (.assign (.tmp 32))⟩])
          (.seq
           (.seq
            (.ops [⟨some 8, none, (.assign (.const (.int .i64 0)))⟩])
            (.block 0
             (.loop
              (.seq
               (.seq
                (.ops [⟨some 33, none, (.move (.tmp 8))⟩,
                  ⟨some 34, none, (.fieldAddr 45 (.tmp 5) 0)⟩,
                  ⟨some 35, none, (.load 43 (.tmp 34))⟩,
                  ⟨some 36, none, (.indexAddr 43 (.tmp 35) (.const (.int .i64 0)))⟩,
                  ⟨some 37, none, (.load 3 (.tmp 36))⟩,
                  ⟨some 38, none, (.binOp .lss 3 (.tmp 33) (.tmp 37) 3)⟩])
                (.cond (.tmp 38)
                 .skip
                 (.exit 0)))
               (.seq
                (.block 1
                 (.ops [⟨some 41, none, (.move (.tmp 7))⟩,
                   ⟨some 42, none, (.move (.tmp 4))⟩,
                   ⟨some 43, none, (.call ⟨(.value (.func 92)), #[(.tmp 42), (.const (.int .i64 3))], #[105, 3]⟩)⟩,
                   ⟨some 44, none, (.buildSlice 43 1 #[(0, (.tmp 43))])⟩,
                   ⟨some 45, none, (.call ⟨(.builtin .append), #[(.tmp 41), (.tmp 44)], #[43, 43]⟩)⟩,
                   ⟨some 7, none, (.assign (.tmp 45))⟩]))
                (.ops [⟨some 39, none, (.move (.tmp 8))⟩,
                  ⟨some 40, none, (.binOp .add 3 (.tmp 39) (.const (.int .i64 1)) 3)⟩,
                  ⟨some 8, none, (.assign (.tmp 40))⟩]))))))
           (.ops [⟨some 46, none, (.move (.tmp 7))⟩,
             ⟨some 47, none, (.call ⟨(.value (.func 122)), #[(.tmp 46)], #[43]⟩)⟩,
             ⟨none, none, (.store 45 (.tmp 6) (.tmp 47))⟩])))
         .skip))
       (.seq
        (.seq
         (.ops [⟨some 48, none, (.move (.tmp 4))⟩,
           ⟨some 49, none, (.call ⟨(.value (.func 92)), #[(.tmp 48), (.const (.int .i64 15))], #[105, 3]⟩)⟩])
         (.block 2
          (.seq
           (.ops [⟨some 51, none, (.binOp .eql 3 (.tmp 49) (.const (.int .i64 0)) 3)⟩,
             ⟨some 50, none, (.assign (.tmp 51))⟩])
           (.cond (.tmp 50)
            (.ops [⟨some 52, none, (.move (.tmp 4))⟩,
              ⟨some 53, none, (.call ⟨(.value (.func 89)), #[(.tmp 52)], #[105]⟩)⟩,
              ⟨none, none, (.store 45 (.tmp 6) (.tmp 53))⟩])
            (.seq
             (.ops [⟨some 55, none, (.binOp .eql 3 (.tmp 49) (.const (.int .i64 1)) 3)⟩,
               ⟨some 54, none, (.assign (.tmp 55))⟩])
             (.cond (.tmp 54)
              (.ops [⟨some 56, none, (.move (.tmp 4))⟩,
                ⟨some 57, none, (.buildSlice 43 4 #[(0, (.const (.int .i64 (-1)))), (1, (.const (.int .i64 100))), (2, (.const (.int .i64 1000000000000))), (3, (.const (.int .i64 0)))])⟩,
                ⟨some 58, none, (.call ⟨(.value (.func 123)), #[(.tmp 56), (.tmp 57)], #[105, 43]⟩)⟩,
                ⟨some 59, none, (.call ⟨(.value (.func 113)), #[(.tmp 58)], #[3]⟩)⟩,
                ⟨none, none, (.store 45 (.tmp 6) (.tmp 59))⟩])
              .skip))))))
        (.seq
         (.draw #[] [(0, 0), (1, 0), (1, 3)]
           [⟨some 60, none, (.load 45 (.tmp 6))⟩,
           ⟨some 61, none, (.load 45 (.tmp 5))⟩,
           ⟨none, none, (.store 45 (.tmp 2) (.tmp 60))⟩,
           ⟨none, none, (.store 45 (.tmp 3) (.tmp 61))⟩])
         .ret)))))))
theorem w50 {args : Array Value} {H : AH} {Φ : Value → AH → Prop} (h : rW Try.prog k50 [] (fin Try.prog [(.cell 2 45), (.cell 3 45)] Φ) (tm0 args) H) : CallsA Try.prog 50 args H Φ :=
  CallsA.w k50 [(.cell 2 45), (.cell 3 45)] (fun i => if i = 16 then [(0, 0), (1, 0), (1, 3)] else []) Try.func50 rfl rfl (by kernel_rfl) (by kernel_rfl) h

/-- impl.Copy$1 -/
def k124 : KC :=
  (.seq
   (.ops [⟨some 2, none, (.assign (.const (.bool false)))⟩])
   (.seq
    (.ops [⟨some 3, none, (.move (.tmp 0))⟩,
      ⟨some 4, none, (.binOp .lss 3 (.tmp 3) (.const (.int .i64 0)) 3)⟩,
      ⟨some 2, none, (.assign (.tmp 4))⟩])
    .ret))
theorem w124 {args : Array Value} {H : AH} {Φ : Value → AH → Prop} (h : rW Try.prog k124 [] (fin Try.prog [(.tmp 2)] Φ) (tm0 args) H) : CallsA Try.prog 124 args H Φ :=
  CallsA.w k124 [(.tmp 2)] (fun _ => []) Try.func124 rfl rfl (by kernel_rfl) (by kernel_rfl) h

/-- impl.joined -/
def k125 : KC :=
  (.seq
   (.ops [⟨some 4, none, (.alloc 45)⟩,
     ⟨some 5, none, (.assign (.const (.int .i64 0)))⟩])
   (.seq
    (.ops [⟨some 9, none, (.move (.tmp 0))⟩,
      ⟨some 10, none, (.call ⟨(.builtin .len), #[(.tmp 9)], #[24]⟩)⟩,
      ⟨some 11, none, (.buildSlice 43 1 #[(0, (.tmp 10))])⟩,
      ⟨some 12, none, (.move (.tmp 1))⟩,
      ⟨some 13, none, (.call ⟨(.builtin .append), #[(.tmp 11), (.tmp 12)], #[43, 43]⟩)⟩,
      ⟨some 14, none, (.build 45 #[(0, (.tmp 13))])⟩,
      ⟨some 6, none, (.alloc 45)⟩,
      ⟨none, none, (.store 45 (.tmp 6) (.tmp 14))⟩])
    (.seq
     (.seq
      (.ops [⟨some 15, none, (.move (.tmp 0))⟩,
        ⟨some 16, none, (.call ⟨(.builtin .len), #[(.tmp 15)], #[24]⟩)⟩,
        ⟨some 17, none, (.move (.const (.int .i64 0)))⟩])
      (.block 0
       (.loop
        (.seq
         (.ops [⟨some 18, none, (.binOp .lss 3 (.tmp 17) (.tmp 16) 3)⟩])
         (.seq
          (.cond (.tmp 18)
           .skip
           (.exit 0))
          (.seq
           (.block 1
            (.seq
             (.ops [⟨some 19, none, (.indexAddr 24 (.tmp 15) (.tmp 17))⟩,
               ⟨some 20, none, (.load 45 (.tmp 19))⟩,
               ⟨some 8, none, (.alloc 45)⟩,
               ⟨none, none, (.store 45 (.tmp 8) (.tmp 20))⟩])
             (.ops [⟨some 21, none, (.fieldAddr 45 (.tmp 6) 1)⟩,
               ⟨some 22, none, (.load 43 (.tmp 21))⟩,
               ⟨some 23, none, (.fieldAddr 45 (.tmp 8) 1)⟩,
               ⟨some 24, none, (.load 43 (.tmp 23))⟩,
               ⟨some 25, none, (.call ⟨(.builtin .append), #[(.tmp 22), (.tmp 24)], #[43, 43]⟩)⟩,
               ⟨some 26, none, (.fieldAddr 45 (.tmp 6) 1)⟩,
               ⟨none, none, (.store 43 (.tmp 26) (.tmp 25))⟩])))
           (.ops [⟨some 27, none, (.binOp .add 3 (.tmp 17) (.const (.int .i64 1)) 3)⟩,
             ⟨some 17, none, (.move (.tmp 27))⟩])))))))
     (.seq
      (.seq
       (.ops [⟨some 28, none, (.load 45 (.tmp 6))⟩,
         ⟨some 29, none, (.call ⟨(.value (.func 47)), #[(.tmp 28)], #[45]⟩)⟩,
         ⟨some 30, none, (.unOp .not 4 (.tmp 29))⟩])
       (.cond (.tmp 30)
        (.seq
         (.ops [⟨some 31, none, (.build 45 #[])⟩,
           ⟨none, none, (.store 45 (.tmp 4) (.tmp 31))⟩,
           ⟨some 5, none, (.assign (.const (.int .i64 6)))⟩])
         .ret)
        .skip))
      (.seq
       (.ops [⟨some 32, none, (.load 45 (.tmp 6))⟩,
         ⟨none, none, (.store 45 (.tmp 4) (.tmp 32))⟩,
         ⟨some 5, none, (.assign (.const (.int .i64 0)))⟩])
       .ret)))))
theorem w125 {args : Array Value} {H : AH} {Φ : Value → AH → Prop} (h : rW Try.prog k125 [] (fin Try.prog [(.cell 4 45), (.tmp 5)] Φ) (tm0 args) H) : CallsA Try.prog 125 args H Φ :=
  CallsA.w k125 [(.cell 4 45), (.tmp 5)] (fun _ => []) Try.func125 rfl rfl (by kernel_rfl) (by kernel_rfl) h

/-- impl.Copy -/
def k51 : KC :=
  (.seq
   (.ops [⟨some 2, none, (.box 45 (.tmp 0))⟩,
     ⟨some 3, none, (.box 45 (.tmp 1))⟩,
     ⟨some 4, none, (.alloc 45)⟩,
     ⟨some 5, none, (.assign (.const (.int .i64 0)))⟩])
   (.seq
    (.block 0
     (.seq
      (.ops [⟨some 11, none, (.load 45 (.tmp 2))⟩,
        ⟨some 12, none, (.call ⟨(.value (.func 47)), #[(.tmp 11)], #[45]⟩)⟩,
        ⟨some 13, none, (.unOp .not 4 (.tmp 12))⟩,
        ⟨some 14, none, (.move (.tmp 13))⟩,
        ⟨some 15, (some (14, false)), (.load 45 (.tmp 3))⟩,
        ⟨some 16, (some (14, false)), (.call ⟨(.value (.func 47)), #[(.tmp 15)], #[45]⟩)⟩,
        ⟨some 17, (some (14, false)), (.unOp .not 4 (.tmp 16))⟩,
        ⟨some 18, none, (.pick (.tmp 14) (.const (.bool true)) (.tmp 17))⟩,
        ⟨some 10, none, (.assign (.tmp 18))⟩])
      (.cond (.tmp 10)
       (.seq
        (.ops [⟨some 19, none, (.build 45 #[])⟩,
          ⟨none, none, (.store 45 (.tmp 4) (.tmp 19))⟩,
          ⟨some 5, none, (.assign (.const (.int .i64 1)))⟩])
        .ret)
       (.seq
        (.ops [⟨some 21, none, (.fieldAddr 45 (.tmp 2) 0)⟩,
          ⟨some 22, none, (.load 43 (.tmp 21))⟩,
          ⟨some 23, none, (.call ⟨(.builtin .len), #[(.tmp 22)], #[43]⟩)⟩,
          ⟨some 24, none, (.binOp .gtr 3 (.tmp 23) (.const (.int .i64 1)) 3)⟩,
          ⟨some 25, none, (.move (.tmp 24))⟩,
          ⟨some 26, (some (25, false)), (.fieldAddr 45 (.tmp 3) 0)⟩,
          ⟨some 27, (some (25, false)), (.load 43 (.tmp 26))⟩,
          ⟨some 28, (some (25, false)), (.call ⟨(.builtin .len), #[(.tmp 27)], #[43]⟩)⟩,
          ⟨some 29, (some (25, false)), (.binOp .eql 3 (.tmp 28) (.const (.int .i64 0)) 3)⟩,
          ⟨some 30, none, (.pick (.tmp 25) (.const (.bool true)) (.tmp 29))⟩,
          ⟨some 20, none, (.assign (.tmp 30))⟩])
        (.cond (.tmp 20)
         (.seq
          (.ops [⟨some 31, none, (.build 45 #[])⟩,
            ⟨none, none, (.store 45 (.tmp 4) (.tmp 31))⟩,
            ⟨some 5, none, (.assign (.const (.int .i64 4)))⟩])
          .ret)
         (.seq
          (.ops [⟨some 33, none, (.fieldAddr 45 (.tmp 2) 1)⟩,
            ⟨some 34, none, (.load 43 (.tmp 33))⟩,
            ⟨some 35, none, (.call ⟨(.builtin .len), #[(.tmp 34)], #[43]⟩)⟩,
            ⟨some 36, none, (.binOp .neq 3 (.tmp 35) (.const (.int .i64 1)) 3)⟩,
            ⟨some 37, none, (.move (.tmp 36))⟩,
            ⟨some 38, (some (37, true)), (.fieldAddr 45 (.tmp 2) 1)⟩,
            ⟨some 39, (some (37, true)), (.load 43 (.tmp 38))⟩,
            ⟨some 40, (some (37, true)), (.call ⟨(.builtin .len), #[(.tmp 39)], #[43]⟩)⟩,
            ⟨some 41, (some (37, true)), (.fieldAddr 45 (.tmp 3) 0)⟩,
            ⟨some 42, (some (37, true)), (.load 43 (.tmp 41))⟩,
            ⟨some 43, (some (37, true)), (.indexAddr 43 (.tmp 42) (.const (.int .i64 0)))⟩,
            ⟨some 44, (some (37, true)), (.load 3 (.tmp 43))⟩,
            ⟨some 45, (some (37, true)), (.binOp .neq 3 (.tmp 40) (.tmp 44) 3)⟩,
            ⟨some 46, none, (.pick (.tmp 37) (.tmp 45) (.const (.bool false)))⟩,
            ⟨some 32, none, (.assign (.tmp 46))⟩])
          (.cond (.tmp 32)
           (.seq
            (.ops [⟨some 47, none, (.build 45 #[])⟩,
              ⟨none, none, (.store 45 (.tmp 4) (.tmp 47))⟩,
              ⟨some 5, none, (.assign (.const (.int .i64 3)))⟩])
            .ret)
           (.seq
            (.ops [⟨some 49, none, (.fieldAddr 45 (.tmp 2) 1)⟩,
              ⟨some 50, none, (.load 43 (.tmp 49))⟩,
              ⟨some 51, none, (.call ⟨(.value (.func 118)), #[(.tmp 50), (.func 124)], #[43, 101]⟩)⟩,
              ⟨some 48, none, (.assign (.tmp 51))⟩])
            (.cond (.tmp 48)
             (.seq
              (.ops [⟨some 52, none, (.build 45 #[])⟩,
                ⟨none, none, (.store 45 (.tmp 4) (.tmp 52))⟩,
                ⟨some 5, none, (.assign (.const (.int .i64 2)))⟩])
              .ret)
             .skip)))))))))
    (.seq
     (.ops [⟨some 6, none, (.assign (.const (.slice none 0 0)))⟩])
     (.seq
      (.seq
       (.ops [⟨some 53, none, (.load 45 (.tmp 3))⟩,
         ⟨some 54, none, (.call ⟨(.value (.func 46)), #[(.tmp 53)], #[45]⟩)⟩,
         ⟨some 55, none, (.call ⟨(.builtin .len), #[(.tmp 54)], #[24]⟩)⟩,
         ⟨some 56, none, (.move (.const (.int .i64 0)))⟩])
       (.block 1
        (.loop
         (.seq
          (.ops [⟨some 57, none, (.binOp .lss 3 (.tmp 56) (.tmp 55) 3)⟩])
          (.seq
           (.cond (.tmp 57)
            .skip
            (.exit 1))
           (.seq
            (.block 2
             (.seq
              (.ops [⟨some 58, none, (.move (.tmp 56))⟩,
                ⟨some 59, none, (.indexAddr 24 (.tmp 54) (.tmp 56))⟩,
                ⟨some 60, none, (.load 45 (.tmp 59))⟩,
                ⟨some 8, none, (.alloc 45)⟩,
                ⟨some 7, none, (.assign (.tmp 58))⟩,
                ⟨none, none, (.store 45 (.tmp 8) (.tmp 60))⟩])
              (.seq
               (.ops [⟨some 61, none, (.fieldAddr 45 (.tmp 2) 1)⟩,
                 ⟨some 62, none, (.load 43 (.tmp 61))⟩,
                 ⟨some 63, none, (.indexAddr 43 (.tmp 62) (.const (.int .i64 0)))⟩,
                 ⟨some 64, none, (.load 3 (.tmp 63))⟩,
                 ⟨some 9, none, (.assign (.tmp 64))⟩])
               (.seq
                (.seq
                 (.ops [⟨some 65, none, (.fieldAddr 45 (.tmp 2) 1)⟩,
                   ⟨some 66, none, (.load 43 (.tmp 65))⟩,
                   ⟨some 67, none, (.call ⟨(.builtin .len), #[(.tmp 66)], #[43]⟩)⟩,
                   ⟨some 68, none, (.binOp .gtr 3 (.tmp 67) (.const (.int .i64 1)) 3)⟩])
                 (.cond (.tmp 68)
                  (.ops [⟨some 69, none, (.fieldAddr 45 (.tmp 2) 1)⟩,
                    ⟨some 70, none, (.load 43 (.tmp 69))⟩,
                    ⟨some 71, none, (.move (.tmp 7))⟩,
                    ⟨some 72, none, (.indexAddr 43 (.tmp 70) (.tmp 71))⟩,
                    ⟨some 73, none, (.load 3 (.tmp 72))⟩,
                    ⟨some 9, none, (.assign (.tmp 73))⟩])
                  .skip))
                (.seq
                 (.seq
                  (.ops [⟨some 74, none, (.move (.tmp 9))⟩,
                    ⟨some 75, none, (.move (.tmp 6))⟩,
                    ⟨some 76, none, (.call ⟨(.builtin .len), #[(.tmp 75)], #[24]⟩)⟩,
                    ⟨some 77, none, (.binOp .sub 3 (.const (.int .i64 300)) (.tmp 76) 3)⟩,
                    ⟨some 78, none, (.binOp .gtr 3 (.tmp 74) (.tmp 77) 3)⟩])
                  (.cond (.tmp 78)
                   (.seq
                    (.ops [⟨some 79, none, (.build 45 #[])⟩,
                      ⟨none, none, (.store 45 (.tmp 4) (.tmp 79))⟩,
                      ⟨some 5, none, (.assign (.const (.int .i64 6)))⟩])
                    .ret)
                   .skip))
                 (.block 3
                  (.loop
                   (.seq
                    (.seq
                     (.ops [⟨some 80, none, (.move (.tmp 9))⟩,
                       ⟨some 81, none, (.binOp .gtr 3 (.tmp 80) (.const (.int .i64 0)) 3)⟩])
                     (.cond (.tmp 81)
                      .skip
                      (.exit 3)))
                    (.seq
                     (.block 4
                      (.ops [⟨some 84, none, (.move (.tmp 6))⟩,
                        ⟨some 85, none, (.load 45 (.tmp 8))⟩,
                        ⟨some 86, none, (.buildSlice 24 1 #[(0, (.tmp 85))])⟩,
                        ⟨some 87, none, (.call ⟨(.builtin .append), #[(.tmp 84), (.tmp 86)], #[24, 24]⟩)⟩,
                        ⟨some 6, none, (.assign (.tmp 87))⟩]))
                     (.ops [⟨some 82, none, (.move (.tmp 9))⟩,
                       ⟨some 83, none, (.binOp .sub 3 (.tmp 82) (.const (.int .i64 1)) 3)⟩,
                       ⟨some 9, none, (.assign (.tmp 83))⟩]))))))))))
            (.ops [⟨some 88, none, (.binOp .add 3 (.tmp 56) (.const (.int .i64 1)) 3)⟩,
              ⟨some 56, none, (.move (.tmp 88))⟩])))))))
      (.seq
       (.ops [⟨some 89, none, (.move (.tmp 6))⟩,
         ⟨some 90, none, (.fieldAddr 45 (.tmp 3) 0)⟩,
         ⟨some 91, none, (.load 43 (.tmp 90))⟩,
         ⟨some 92, none, (.slice 43 (.tmp 91) (some (.const (.int .i64 1))) none none)⟩,
         ⟨some 93, none, (.call ⟨(.value (.func 125)), #[(.tmp 89), (.tmp 92)], #[24, 43]⟩)⟩,
         ⟨some 94, none, (.extract (.tmp 93) 0)⟩,
         ⟨some 95, none, (.extract (.tmp 93) 1)⟩,
         ⟨none, none, (.store 45 (.tmp 4) (.tmp 94))⟩,
         ⟨some 5, none, (.assign (.tmp 95))⟩])
       .ret)))))
theorem w51 {args : Array Value} {H : AH} {Φ : Value → AH → Prop} (h : rW Try.prog k51 [] (fin Try.prog [(.cell 4 45), (.tmp 5)] Φ) (tm0 args) H) : CallsA Try.prog 51 args H Φ :=
  CallsA.w k51 [(.cell 4 45), (.tmp 5)] (fun i => if i = 5 then [(1, 0), (6, 0), (9, 0), (11, 0)] else []) Try.func51 rfl rfl (by kernel_rfl) (by kernel_rfl) h

/-- spec.NumOk -/
def k128 : KC :=
  (.seq
   (.ops [⟨some 2, none, (.assign (.const (.bool false)))⟩])
   (.seq
    (.ops [⟨some 3, none, (.move (.tmp 0))⟩,
      ⟨some 4, none, (.call ⟨(.value (.func 84)), #[(.tmp 3), (.const (.int .i64 (-1000000000000))), (.const (.int .i64 1000000000000))], #[3, 3, 3]⟩)⟩,
      ⟨some 2, none, (.assign (.tmp 4))⟩])
    .ret))
theorem w128 {args : Array Value} {H : AH} {Φ : Value → AH → Prop} (h : rW Try.prog k128 [] (fin Try.prog [(.tmp 2)] Φ) (tm0 args) H) : CallsA Try.prog 128 args H Φ :=
  CallsA.w k128 [(.tmp 2)] (fun _ => []) Try.func128 rfl rfl (by kernel_rfl) (by kernel_rfl) h

/-- spec.ArrayOk -/
def k54 : KC :=
  (.seq
   (.ops [⟨some 1, none, (.box 45 (.tmp 0))⟩,
     ⟨some 2, none, (.assign (.const (.bool false)))⟩])
   (.seq
    (.seq
     (.draw #[] [(1, 0), (4, 0), (4, 3)]
       [⟨some 4, none, (.fieldAddr 45 (.tmp 1) 0)⟩,
       ⟨some 5, none, (.load 43 (.tmp 4))⟩,
       ⟨some 6, none, (.call ⟨(.value (.func 127)), #[(.tmp 5)], #[43]⟩)⟩,
       ⟨some 7, none, (.fieldAddr 45 (.tmp 1) 1)⟩,
       ⟨some 8, none, (.load 43 (.tmp 7))⟩,
       ⟨some 9, none, (.call ⟨(.builtin .len), #[(.tmp 8)], #[43]⟩)⟩,
       ⟨some 10, none, (.binOp .neq 3 (.tmp 6) (.tmp 9) 3)⟩])
     (.cond (.tmp 10)
      (.seq
       (.ops [⟨some 2, none, (.assign (.const (.bool false)))⟩])
       .ret)
      .skip))
    (.seq
     (.seq
      (.ops [⟨some 3, none, (.assign (.const (.int .i64 0)))⟩])
      (.block 0
       (.loop
        (.seq
         (.seq
          (.ops [⟨some 11, none, (.move (.tmp 3))⟩,
            ⟨some 12, none, (.fieldAddr 45 (.tmp 1) 1)⟩,
            ⟨some 13, none, (.load 43 (.tmp 12))⟩,
            ⟨some 14, none, (.call ⟨(.builtin .len), #[(.tmp 13)], #[43]⟩)⟩,
            ⟨some 15, none, (.binOp .lss 3 (.tmp 11) (.tmp 14) 3)⟩])
          (.cond (.tmp 15)
           .skip
           (.exit 0)))
         (.seq
          (.block 1
           (.seq
            (.ops [⟨some 18, none, (.fieldAddr 45 (.tmp 1) 1)⟩,
              ⟨some 19, none, (.load 43 (.tmp 18))⟩,
              ⟨some 20, none, (.move (.tmp 3))⟩,
              ⟨some 21, none, (.indexAddr 43 (.tmp 19) (.tmp 20))⟩,
              ⟨some 22, none, (.load 3 (.tmp 21))⟩,
              ⟨some 23, none, (.call ⟨(.value (.func 128)), #[(.tmp 22)], #[3]⟩)⟩,
              ⟨some 24, none, (.unOp .not 4 (.tmp 23))⟩])
            (.cond (.tmp 24)
             (.seq
              (.ops [⟨some 2, none, (.assign (.const (.bool false)))⟩])
              .ret)
             .skip)))
          (.ops [⟨some 16, none, (.move (.tmp 3))⟩,
            ⟨some 17, none, (.binOp .add 3 (.tmp 16) (.const (.int .i64 1)) 3)⟩,
            ⟨some 3, none, (.assign (.tmp 17))⟩]))))))
     (.seq
      (.ops [⟨some 2, none, (.assign (.const (.bool true)))⟩])
      .ret))))
theorem w54 {args : Array Value} {H : AH} {Φ : Value → AH → Prop} (h : rW Try.prog k54 [] (fin Try.prog [(.tmp 2)] Φ) (tm0 args) H) : CallsA Try.prog 54 args H Φ :=
  CallsA.w k54 [(.tmp 2)] (fun i => if i = 1 then [(1, 0), (4, 0), (4, 3)] else []) Try.func54 rfl rfl (by kernel_rfl) (by kernel_rfl) h

/-- spec.l3Rows -/
def k115 : KC :=
  (.seq
   (.ops [⟨some 1, none, (.box 45 (.tmp 0))⟩,
     ⟨some 2, none, (.assign (.const (.slice none 0 0)))⟩])
   (.seq
    (.ops [⟨some 6, none, (.buildSlice 24 0 #[])⟩,
      ⟨some 3, none, (.assign (.tmp 6))⟩])
    (.seq
     (.ops [⟨some 7, none, (.fieldAddr 45 (.tmp 1) 0)⟩,
       ⟨some 8, none, (.load 43 (.tmp 7))⟩,
       ⟨some 9, none, (.slice 43 (.tmp 8) (some (.const (.int .i64 1))) none none)⟩,
       ⟨some 10, none, (.call ⟨(.value (.func 127)), #[(.tmp 9)], #[43]⟩)⟩,
       ⟨some 4, none, (.assign (.tmp 10))⟩])
     (.seq
      (.seq
       (.ops [⟨some 5, none, (.assign (.const (.int .i64 0)))⟩])
       (.block 0
        (.loop
         (.seq
          (.seq
           (.ops [⟨some 11, none, (.move (.tmp 5))⟩,
             ⟨some 12, none, (.fieldAddr 45 (.tmp 1) 0)⟩,
             ⟨some 13, none, (.load 43 (.tmp 12))⟩,
             ⟨some 14, none, (.indexAddr 43 (.tmp 13) (.const (.int .i64 0)))⟩,
             ⟨some 15, none, (.load 3 (.tmp 14))⟩,
             ⟨some 16, none, (.binOp .lss 3 (.tmp 11) (.tmp 15) 3)⟩])
           (.cond (.tmp 16)
            .skip
            (.exit 0)))
          (.seq
           (.block 1
            (.draw #[] [(3, 0), (8, 0), (8, 6)]
              [⟨some 19, none, (.move (.tmp 3))⟩,
              ⟨some 20, none, (.buildSlice 43 0 #[])⟩,
              ⟨some 21, none, (.fieldAddr 45 (.tmp 1) 0)⟩,
              ⟨some 22, none, (.load 43 (.tmp 21))⟩,
              ⟨some 23, none, (.slice 43 (.tmp 22) (some (.const (.int .i64 1))) none none)⟩,
              ⟨some 24, none, (.call ⟨(.builtin .append), #[(.tmp 20), (.tmp 23)], #[43, 43]⟩)⟩,
              ⟨some 25, none, (.buildSlice 43 0 #[])⟩,
              ⟨some 26, none, (.fieldAddr 45 (.tmp 1) 1)⟩,
              ⟨some 27, none, (.load 43 (.tmp 26))⟩,
              ⟨some 28, none, (.move (.tmp 5))⟩,
              ⟨some 29, none, (.move (.tmp 4))⟩,
              ⟨some 30, none, (.binOp .mul 3 (.tmp 28) (.tmp 29) 3)⟩,
              ⟨some 31, none, (.move (.tmp 5))⟩,
              ⟨some 32, none, (.move (.tmp 4))⟩,
              ⟨some 33, none, (.binOp .mul 3 (.tmp 31) (.tmp 32) 3)⟩,
              ⟨some 34, none, (.move (.tmp 4))⟩,
              ⟨some 35, none, (.binOp .add 3 (.tmp 33) (.tmp 34) 3)⟩,
              ⟨some 36, none, (.slice 43 (.tmp 27) (some (.tmp 30)) (some (.tmp 35)) none)⟩,
              ⟨some 37, none, (.call ⟨(.builtin .append), #[(.tmp 25), (.tmp 36)], #[43, 43]⟩)⟩,
              ⟨some 38, none, (.build 45 #[(0, (.tmp 24)), (1, (.tmp 37))])⟩,
              ⟨some 39, none, (.buildSlice 24 1 #[(0, (.tmp 38))])⟩,
              ⟨some 40, none, (.call ⟨(.builtin .append), #[(.tmp 19), (.tmp 39)], #[24, 24]⟩)⟩,
              ⟨some 3, none, (.assign (.tmp 40))⟩]))
           (.ops [⟨some 17, none, (.move (.tmp 5))⟩,
             ⟨some 18, none, (.binOp .add 3 (.tmp 17) (.const (.int .i64 1)) 3)⟩,
             ⟨some 5, none, (.assign (.tmp 18))⟩]))))))
      (.seq
       (.ops [⟨some 41, none, (.move (.tmp 3))⟩,
         ⟨some 2, none, (.assign (.tmp 41))⟩])
       .ret)))))
theorem w115 {args : Array Value} {H : AH} {Φ : Value → AH → Prop} (h : rW Try.prog k115 [] (fin Try.prog [(.tmp 2)] Φ) (tm0 args) H) : CallsA Try.prog 115 args H Φ :=
  CallsA.w k115 [(.tmp 2)] (fun i => if i = 6 then [(3, 0), (8, 0), (8, 6)] else []) Try.func115 rfl rfl (by kernel_rfl) (by kernel_rfl) h

/-- spec.ShapeOk -/
def k116 : KC :=
  (.seq
   (.ops [⟨some 2, none, (.assign (.const (.bool false)))⟩])
   (.seq
    (.ops [⟨some 3, none, (.move (.tmp 0))⟩,
      ⟨some 4, none, (.call ⟨(.value (.func 127)), #[(.tmp 3)], #[43]⟩)⟩,
      ⟨some 5, none, (.binOp .geq 3 (.tmp 4) (.const (.int .i64 0)) 3)⟩,
      ⟨some 2, none, (.assign (.tmp 5))⟩])
    .ret))
theorem w116 {args : Array Value} {H : AH} {Φ : Value → AH → Prop} (h : rW Try.prog k116 [] (fin Try.prog [(.tmp 2)] Φ) (tm0 args) H) : CallsA Try.prog 116 args H Φ :=
  CallsA.w k116 [(.tmp 2)] (fun _ => []) Try.func116 rfl rfl (by kernel_rfl) (by kernel_rfl) h

/-- spec.l1Min -/
def k126 : KC :=
  (.seq
   (.ops [⟨some 4, none, (.assign (.const (.int .i64 0)))⟩])
   (.seq
    (.seq
     (.ops [⟨some 5, none, (.move (.tmp 0))⟩,
       ⟨some 6, none, (.move (.tmp 1))⟩,
       ⟨some 7, none, (.binOp .lss 3 (.tmp 5) (.tmp 6) 3)⟩])
     (.cond (.tmp 7)
      (.seq
       (.ops [⟨some 8, none, (.move (.tmp 0))⟩,
         ⟨some 4, none, (.assign (.tmp 8))⟩])
       .ret)
      .skip))
    (.seq
     (.ops [⟨some 9, none, (.move (.tmp 1))⟩,
       ⟨some 4, none, (.assign (.tmp 9))⟩])
     .ret)))
theorem w126 {args : Array Value} {H : AH} {Φ : Value → AH → Prop} (h : rW Try.prog k126 [] (fin Try.prog [(.tmp 4)] Φ) (tm0 args) H) : CallsA Try.prog 126 args H Φ :=
  CallsA.w k126 [(.tmp 4)] (fun _ => []) Try.func126 rfl rfl (by kernel_rfl) (by kernel_rfl) h

/-- spec.Copy -/
def k52 : KC :=
  (.seq
   (.ops [⟨some 2, none, (.box 45 (.tmp 0))⟩,
     ⟨some 3, none, (.box 45 (.tmp 1))⟩,
     ⟨some 4, none, (.alloc 45)⟩,
     ⟨some 5, none, (.assign (.const (.int .i64 0)))⟩])
   (.seq
    (.ops [⟨some 15, none, (.build 45 #[])⟩,
      ⟨some 6, none, (.alloc 45)⟩,
      ⟨none, none, (.store 45 (.tmp 6) (.tmp 15))⟩])
    (.seq
     (.block 0
      (.seq
       (.ops [⟨some 17, none, (.load 45 (.tmp 2))⟩,
         ⟨some 18, none, (.call ⟨(.value (.func 54)), #[(.tmp 17)], #[45]⟩)⟩,
         ⟨some 19, none, (.unOp .not 4 (.tmp 18))⟩,
         ⟨some 20, none, (.move (.tmp 19))⟩,
         ⟨some 21, (some (20, false)), (.load 45 (.tmp 3))⟩,
         ⟨some 22, (some (20, false)), (.call ⟨(.value (.func 54)), #[(.tmp 21)], #[45]⟩)⟩,
         ⟨some 23, (some (20, false)), (.unOp .not 4 (.tmp 22))⟩,
         ⟨some 24, none, (.pick (.tmp 20) (.const (.bool true)) (.tmp 23))⟩,
         ⟨some 16, none, (.assign (.tmp 24))⟩])
       (.cond (.tmp 16)
        (.seq
         (.ops [⟨some 25, none, (.load 45 (.tmp 6))⟩,
           ⟨none, none, (.store 45 (.tmp 4) (.tmp 25))⟩,
           ⟨some 5, none, (.assign (.const (.int .i64 1)))⟩])
         .ret)
        (.seq
         (.ops [⟨some 27, none, (.fieldAddr 45 (.tmp 2) 0)⟩,
           ⟨some 28, none, (.load 43 (.tmp 27))⟩,
           ⟨some 29, none, (.call ⟨(.builtin .len), #[(.tmp 28)], #[43]⟩)⟩,
           ⟨some 30, none, (.binOp .gtr 3 (.tmp 29) (.const (.int .i64 1)) 3)⟩,
           ⟨some 31, none, (.move (.tmp 30))⟩,
           ⟨some 32, (some (31, false)), (.fieldAddr 45 (.tmp 3) 0)⟩,
           ⟨some 33, (some (31, false)), (.load 43 (.tmp 32))⟩,
           ⟨some 34, (some (31, false)), (.call ⟨(.builtin .len), #[(.tmp 33)], #[43]⟩)⟩,
           ⟨some 35, (some (31, false)), (.binOp .eql 3 (.tmp 34) (.const (.int .i64 0)) 3)⟩,
           ⟨some 36, none, (.pick (.tmp 31) (.const (.bool true)) (.tmp 35))⟩,
           ⟨some 26, none, (.assign (.tmp 36))⟩])
         (.cond (.tmp 26)
          (.seq
           (.ops [⟨some 37, none, (.load 45 (.tmp 6))⟩,
             ⟨none, none, (.store 45 (.tmp 4) (.tmp 37))⟩,
             ⟨some 5, none, (.assign (.const (.int .i64 4)))⟩])
           .ret)
          (.seq
           (.ops [⟨some 39, none, (.fieldAddr 45 (.tmp 2) 1)⟩,
             ⟨some 40, none, (.load 43 (.tmp 39))⟩,
             ⟨some 41, none, (.call ⟨(.builtin .len), #[(.tmp 40)], #[43]⟩)⟩,
             ⟨some 42, none, (.binOp .neq 3 (.tmp 41) (.const (.int .i64 1)) 3)⟩,
             ⟨some 43, none, (.move (.tmp 42))⟩,
             ⟨some 44, (some (43, true)), (.fieldAddr 45 (.tmp 2) 1)⟩,
             ⟨some 45, (some (43, true)), (.load 43 (.tmp 44))⟩,
             ⟨some 46, (some (43, true)), (.call ⟨(.builtin .len), #[(.tmp 45)], #[43]⟩)⟩,
             ⟨some 47, (some (43, true)), (.fieldAddr 45 (.tmp 3) 0)⟩,
             ⟨some 48, (some (43, true)), (.load 43 (.tmp 47))⟩,
             ⟨some 49, (some (43, true)), (.indexAddr 43 (.tmp 48) (.const (.int .i64 0)))⟩,
             ⟨some 50, (some (43, true)), (.load 3 (.tmp 49))⟩,
             ⟨some 51, (some (43, true)), (.binOp .neq 3 (.tmp 46) (.tmp 50) 3)⟩,
             ⟨some 52, none, (.pick (.tmp 43) (.tmp 51) (.const (.bool false)))⟩,
             ⟨some 38, none, (.assign (.tmp 52))⟩])
           (.cond (.tmp 38)
            (.seq
             (.ops [⟨some 53, none, (.load 45 (.tmp 6))⟩,
               ⟨none, none, (.store 45 (.tmp 4) (.tmp 53))⟩,
               ⟨some 5, none, (.assign (.const (.int .i64 3)))⟩])
             .ret)
            .skip)))))))
     (.seq
      (.ops [⟨some 7, none, (.assign (.const (.int .i64 0)))⟩])
      (.seq
       (.seq
        (.ops [⟨some 8, none, (.assign (.const (.int .i64 0)))⟩])
        (.block 1
         (.loop
          (.seq
           (.seq
            (.ops [⟨some 54, none, (.move (.tmp 8))⟩,
              ⟨some 55, none, (.fieldAddr 45 (.tmp 2) 1)⟩,
              ⟨some 56, none, (.load 43 (.tmp 55))⟩,
              ⟨some 57, none, (.call ⟨(.builtin .len), #[(.tmp 56)], #[43]⟩)⟩,
              ⟨some 58, none, (.binOp .lss 3 (.tmp 54) (.tmp 57) 3)⟩])
            (.cond (.tmp 58)
             .skip
             (.exit 1)))
           (.seq
            (.block 2
             (.seq
              (.ops [⟨some 61, none, (.fieldAddr 45 (.tmp 2) 1)⟩,
                ⟨some 62, none, (.load 43 (.tmp 61))⟩,
                ⟨some 63, none, (.move (.tmp 8))⟩,
                ⟨some 64, none, (.indexAddr 43 (.tmp 62) (.tmp 63))⟩,
                ⟨some 65, none, (.load 3 (.tmp 64))⟩,
                ⟨some 66, none, (.binOp .lss 3 (.tmp 65) (.const (.int .i64 0)) 3)⟩])
              (.cond (.tmp 66)
               (.seq
                (.ops [⟨some 67, none, (.load 45 (.tmp 6))⟩,
                  ⟨none, none, (.store 45 (.tmp 4) (.tmp 67))⟩,
                  ⟨some 5, none, (.assign (.const (.int .i64 2)))⟩])
                .ret)
               .skip)))
            (.ops [⟨some 59, none, (.move (.tmp 8))⟩,
              ⟨some 60, none, (.binOp .add 3 (.tmp 59) (.const (.int .i64 1)) 3)⟩,
              ⟨some 8, none, (.assign (.tmp 60))⟩]))))))
       (.seq
        (.seq
         (.ops [⟨some 9, none, (.assign (.const (.int .i64 0)))⟩])
         (.block 3
          (.loop
           (.seq
            (.seq
             (.ops [⟨some 68, none, (.move (.tmp 9))⟩,
               ⟨some 69, none, (.fieldAddr 45 (.tmp 3) 0)⟩,
               ⟨some 70, none, (.load 43 (.tmp 69))⟩,
               ⟨some 71, none, (.indexAddr 43 (.tmp 70) (.const (.int .i64 0)))⟩,
               ⟨some 72, none, (.load 3 (.tmp 71))⟩,
               ⟨some 73, none, (.binOp .lss 3 (.tmp 68) (.tmp 72) 3)⟩])
             (.cond (.tmp 73)
              .skip
              (.exit 3)))
            (.seq
             (.block 4
              (.ops [⟨some 76, none, (.move (.tmp 7))⟩,
                ⟨some 77, none, (.fieldAddr 45 (.tmp 2) 1)⟩,
                ⟨some 78, none, (.load 43 (.tmp 77))⟩,
                ⟨some 79, none, (.move (.tmp 9))⟩,
                ⟨some 80, none, (.fieldAddr 45 (.tmp 2) 1)⟩,
                ⟨some 81, none, (.load 43 (.tmp 80))⟩,
                ⟨some 82, none, (.call ⟨(.builtin .len), #[(.tmp 81)], #[43]⟩)⟩,
                ⟨some 83, none, (.binOp .rem 3 (.tmp 79) (.tmp 82) 3)⟩,
                ⟨some 84, none, (.indexAddr 43 (.tmp 78) (.tmp 83))⟩,
                ⟨some 85, none, (.load 3 (.tmp 84))⟩,
                ⟨some 86, none, (.binOp .add 3 (.tmp 76) (.tmp 85) 3)⟩,
                ⟨some 7, none, (.assign (.tmp 86))⟩]))
             (.ops [⟨some 74, none, (.move (.tmp 9))⟩,
               ⟨some 75, none, (.binOp .add 3 (.tmp 74) (.const (.int .i64 1)) 3)⟩,
               ⟨some 9, none, (.assign (.tmp 75))⟩]))))))
        (.seq
         (.draw #[] [(4, 0), (4, 2)]
           [⟨some 87, none, (.move (.tmp 7))⟩,
           ⟨some 88, none, (.call ⟨(.value (.func 126)), #[(.tmp 87), (.const (.int .i64 301))], #[3, 3]⟩)⟩,
           ⟨some 89, none, (.buildSlice 43 1 #[(0, (.tmp 88))])⟩,
           ⟨some 90, none, (.fieldAddr 45 (.tmp 3) 0)⟩,
           ⟨some 91, none, (.load 43 (.tmp 90))⟩,
           ⟨some 92, none, (.slice 43 (.tmp 91) (some (.const (.int .i64 1))) none none)⟩,
           ⟨some 93, none, (.call ⟨(.builtin .append), #[(.tmp 89), (.tmp 92)], #[43, 43]⟩)⟩,
           ⟨some 10, none, (.assign (.tmp 93))⟩])
         (.seq
          (.seq
           (.ops [⟨some 94, none, (.move (.tmp 10))⟩,
             ⟨some 95, none, (.call ⟨(.value (.func 116)), #[(.tmp 94)], #[43]⟩)⟩,
             ⟨some 96, none, (.unOp .not 4 (.tmp 95))⟩])
           (.cond (.tmp 96)
            (.seq
             (.ops [⟨some 97, none, (.load 45 (.tmp 6))⟩,
               ⟨none, none, (.store 45 (.tmp 4) (.tmp 97))⟩,
               ⟨some 5, none, (.assign (.const (.int .i64 6)))⟩])
             .ret)
            .skip))
          (.seq
           (.ops [⟨some 98, none, (.load 45 (.tmp 3))⟩,
             ⟨some 99, none, (.call ⟨(.value (.func 115)), #[(.tmp 98)], #[45]⟩)⟩,
             ⟨some 11, none, (.assign (.tmp 99))⟩])
           (.seq
            (.ops [⟨some 100, none, (.move (.tmp 10))⟩,
              ⟨some 101, none, (.build 45 #[(0, (.tmp 100))])⟩,
              ⟨some 12, none, (.alloc 45)⟩,
              ⟨none, none, (.store 45 (.tmp 12) (.tmp 101))⟩])
            (.seq
             (.seq
              (.ops [⟨some 13, none, (.assign (.const (.int .i64 0)))⟩])
              (.block 5
               (.loop
                (.seq
                 (.seq
                  (.ops [⟨some 102, none, (.move (.tmp 13))⟩,
                    ⟨some 103, none, (.move (.tmp 11))⟩,
                    ⟨some 104, none, (.call ⟨(.builtin .len), #[(.tmp 103)], #[24]⟩)⟩,
                    ⟨some 105, none, (.binOp .lss 3 (.tmp 102) (.tmp 104) 3)⟩])
                  (.cond (.tmp 105)
                   .skip
                   (.exit 5)))
                 (.seq
                  (.block 6
                   (.seq
                    (.ops [⟨some 14, none, (.assign (.const (.int .i64 0)))⟩])
                    (.block 7
                     (.loop
                      (.seq
                       (.seq
                        (.ops [⟨some 108, none, (.move (.tmp 14))⟩,
                          ⟨some 109, none, (.fieldAddr 45 (.tmp 2) 1)⟩,
                          ⟨some 110, none, (.load 43 (.tmp 109))⟩,
                          ⟨some 111, none, (.move (.tmp 13))⟩,
                          ⟨some 112, none, (.fieldAddr 45 (.tmp 2) 1)⟩,
                          ⟨some 113, none, (.load 43 (.tmp 112))⟩,
                          ⟨some 114, none, (.call ⟨(.builtin .len), #[(.tmp 113)], #[43]⟩)⟩,
                          ⟨some 115, none, (.binOp .rem 3 (.tmp 111) (.tmp 114) 3)⟩,
                          ⟨some 116, none, (.indexAddr 43 (.tmp 110) (.tmp 115))⟩,
                          ⟨some 117, none, (.load 3 (.tmp 116))⟩,
                          ⟨some 118, none, (.binOp .lss 3 (.tmp 108) (.tmp 117) 3)⟩])
                        (.cond (.tmp 118)
                         .skip
                         (.exit 7)))
                       (.seq
                        (.block 8
                         (.draw #[] [(1, 0), (6, 0)]
                           [⟨some 121, none, (.fieldAddr 45 (.tmp 12) 1)⟩,
                           ⟨some 122, none, (.load 43 (.tmp 121))⟩,
                           ⟨some 123, none, (.move (.tmp 11))⟩,
                           ⟨some 124, none, (.move (.tmp 13))⟩,
                           ⟨some 125, none, (.indexAddr 24 (.tmp 123) (.tmp 124))⟩,
                           ⟨some 126, none, (.fieldAddr 45 (.tmp 125) 1)⟩,
                           ⟨some 127, none, (.load 43 (.tmp 126))⟩,
                           ⟨some 128, none, (.call ⟨(.builtin .append), #[(.tmp 122), (.tmp 127)], #[43, 43]⟩)⟩,
                           ⟨some 129, none, (.fieldAddr 45 (.tmp 12) 1)⟩,
                           ⟨none, none, (.store 43 (.tmp 129) (.tmp 128))⟩]))
                        (.ops [⟨some 119, none, (.move (.tmp 14))⟩,
                          ⟨some 120, none, (.binOp .add 3 (.tmp 119) (.const (.int .i64 1)) 3)⟩,
                          ⟨some 14, none, (.assign (.tmp 120))⟩])))))))
                  (.ops [⟨some 106, none, (.move (.tmp 13))⟩,
                    ⟨some 107, none, (.binOp .add 3 (.tmp 106) (.const (.int .i64 1)) 3)⟩,
                    ⟨some 13, none, (.assign (.tmp 107))⟩]))))))
             (.seq
              (.ops [⟨some 130, none, (.load 45 (.tmp 12))⟩,
                ⟨none, none, (.store 45 (.tmp 4) (.tmp 130))⟩,
                ⟨some 5, none, (.assign (.const (.int .i64 0)))⟩])
              .ret))))))))))))
theorem w52 {args : Array Value} {H : AH} {Φ : Value → AH → Prop} (h : rW Try.prog k52 [] (fin Try.prog [(.cell 4 45), (.tmp 5)] Φ) (tm0 args) H) : CallsA Try.prog 52 args H Φ :=
  CallsA.w k52 [(.cell 4 45), (.tmp 5)] (fun i => if i = 6 then [(1, 0), (6, 0), (9, 0), (11, 0)] else if i = 17 then [(2, 0), (5, 0), (9, 0)] else if i = 18 then [(4, 0), (4, 2)] else if i = 27 then [(2, 0), (5, 0), (9, 0)] else if i = 29 then [(1, 0), (6, 0)] else []) Try.func52 rfl rfl (by kernel_rfl) (by kernel_rfl) h

/-- impl.ScalarOf -/
def k53 : KC :=
  (.seq
   (.ops [⟨some 2, none, (.alloc 45)⟩,
     ⟨some 3, none, (.assign (.const (.bool false)))⟩])
   (.seq
    (.seq
     (.ops [⟨some 4, none, (.move (.tmp 0))⟩,
       ⟨some 5, none, (.call ⟨(.value (.func 120)), #[(.tmp 4)], #[3]⟩)⟩,
       ⟨some 6, none, (.unOp .not 4 (.tmp 5))⟩])
     (.cond (.tmp 6)
      (.seq
       (.ops [⟨some 7, none, (.build 45 #[])⟩,
         ⟨none, none, (.store 45 (.tmp 2) (.tmp 7))⟩,
         ⟨some 3, none, (.assign (.const (.bool false)))⟩])
       .ret)
      .skip))
    (.seq
     (.ops [⟨some 8, none, (.move (.tmp 0))⟩,
       ⟨some 9, none, (.buildSlice 43 1 #[(0, (.tmp 8))])⟩,
       ⟨some 10, none, (.build 45 #[(1, (.tmp 9))])⟩,
       ⟨none, none, (.store 45 (.tmp 2) (.tmp 10))⟩,
       ⟨some 3, none, (.assign (.const (.bool true)))⟩])
     .ret)))
theorem w53 {args : Array Value} {H : AH} {Φ : Value → AH → Prop} (h : rW Try.prog k53 [] (fin Try.prog [(.cell 2 45), (.tmp 3)] Φ) (tm0 args) H) : CallsA Try.prog 53 args H Φ :=
  CallsA.w k53 [(.cell 2 45), (.tmp 3)] (fun _ => []) Try.func53 rfl rfl (by kernel_rfl) (by kernel_rfl) h

/-- laws.sameArray -/
def k55 : KC :=
  (.seq
   (.ops [⟨some 2, none, (.box 45 (.tmp 0))⟩,
     ⟨some 3, none, (.box 45 (.tmp 1))⟩,
     ⟨some 4, none, (.assign (.const (.bool false)))⟩])
   (.seq
    (.ops [⟨some 5, none, (.fieldAddr 45 (.tmp 2) 0)⟩,
      ⟨some 6, none, (.load 43 (.tmp 5))⟩,
      ⟨some 7, none, (.fieldAddr 45 (.tmp 3) 0)⟩,
      ⟨some 8, none, (.load 43 (.tmp 7))⟩,
      ⟨some 9, none, (.call ⟨(.value (.func 34)), #[(.tmp 6), (.tmp 8)], #[43, 43]⟩)⟩,
      ⟨some 10, none, (.move (.tmp 9))⟩,
      ⟨some 11, (some (10, true)), (.fieldAddr 45 (.tmp 2) 1)⟩,
      ⟨some 12, (some (10, true)), (.load 43 (.tmp 11))⟩,
      ⟨some 13, (some (10, true)), (.fieldAddr 45 (.tmp 3) 1)⟩,
      ⟨some 14, (some (10, true)), (.load 43 (.tmp 13))⟩,
      ⟨some 15, (some (10, true)), (.call ⟨(.value (.func 34)), #[(.tmp 12), (.tmp 14)], #[43, 43]⟩)⟩,
      ⟨some 16, none, (.pick (.tmp 10) (.tmp 15) (.const (.bool false)))⟩,
      ⟨some 4, none, (.assign (.tmp 16))⟩])
    .ret))
theorem w55 {args : Array Value} {H : AH} {Φ : Value → AH → Prop} (h : rW Try.prog k55 [] (fin Try.prog [(.tmp 4)] Φ) (tm0 args) H) : CallsA Try.prog 55 args H Φ :=
  CallsA.w k55 [(.tmp 4)] (fun _ => []) Try.func55 rfl rfl (by kernel_rfl) (by kernel_rfl) h

/-- laws.FnCopied -/
def k10 : KC :=
  (.seq
   (.ops [⟨some 2, none, (.assign (.const (.bool false)))⟩])
   (.seq
    (.seq
     (.ops [⟨some 21, none, (.move (.tmp 0))⟩,
       ⟨some 22, none, (.call ⟨(.value (.func 29)), #[(.tmp 21)], #[41]⟩)⟩])
     (.cond (.tmp 22)
      (.seq
       (.ops [⟨some 2, none, (.assign (.const (.bool true)))⟩])
       .ret)
      .skip))
    (.seq
     (.ops [⟨some 24, none, (.move (.tmp 0))⟩,
       ⟨some 25, none, (.call ⟨(.value (.func 50)), #[(.tmp 24)], #[41]⟩)⟩,
       ⟨some 23, none, (.move (.tmp 25))⟩,
       ⟨some 26, none, (.extract (.tmp 23) 0)⟩,
       ⟨some 27, none, (.extract (.tmp 23) 1)⟩,
       ⟨some 3, none, (.alloc 45)⟩,
       ⟨some 4, none, (.alloc 45)⟩,
       ⟨none, none, (.store 45 (.tmp 3) (.tmp 26))⟩,
       ⟨none, none, (.store 45 (.tmp 4) (.tmp 27))⟩])
     (.seq
      (.ops [⟨some 29, none, (.load 45 (.tmp 3))⟩,
        ⟨some 30, none, (.load 45 (.tmp 4))⟩,
        ⟨some 31, none, (.call ⟨(.value (.func 51)), #[(.tmp 29), (.tmp 30)], #[45, 45]⟩)⟩,
        ⟨some 28, none, (.move (.tmp 31))⟩,
        ⟨some 32, none, (.extract (.tmp 28) 0)⟩,
        ⟨some 33, none, (.extract (.tmp 28) 1)⟩,
        ⟨some 5, none, (.alloc 45)⟩,
        ⟨none, none, (.store 45 (.tmp 5) (.tmp 32))⟩,
        ⟨some 6, none, (.assign (.tmp 33))⟩])
      (.seq
       (.ops [⟨some 35, none, (.load 45 (.tmp 3))⟩,
         ⟨some 36, none, (.load 45 (.tmp 4))⟩,
         ⟨some 37, none, (.call ⟨(.value (.func 52)), #[(.tmp 35), (.tmp 36)], #[45, 45]⟩)⟩,
         ⟨some 34, none, (.move (.tmp 37))⟩,
         ⟨some 38, none, (.extract (.tmp 34) 0)⟩,
         ⟨some 39, none, (.extract (.tmp 34) 1)⟩,
         ⟨some 7, none, (.alloc 45)⟩,
         ⟨none, none, (.store 45 (.tmp 7) (.tmp 38))⟩,
         ⟨some 8, none, (.assign (.tmp 39))⟩])
       (.seq
        (.seq
         (.ops [⟨some 40, none, (.move (.tmp 6))⟩,
           ⟨some 41, none, (.move (.tmp 8))⟩,
           ⟨some 42, none, (.binOp .neq 3 (.tmp 40) (.tmp 41) 3)⟩])
         (.cond (.tmp 42)
          (.seq
           (.ops [⟨some 2, none, (.assign (.const (.bool false)))⟩])
           .ret)
          .skip))
        (.seq
         (.ops [⟨some 44, none, (.call ⟨(.value (.func 53)), #[(.const (.int .i64 1))], #[3]⟩)⟩,
           ⟨some 43, none, (.move (.tmp 44))⟩,
           ⟨some 45, none, (.extract (.tmp 43) 0)⟩,
           ⟨some 46, none, (.extract (.tmp 43) 1)⟩,
           ⟨some 9, none, (.alloc 45)⟩,
           ⟨none, none, (.store 45 (.tmp 9) (.tmp 45))⟩,
           ⟨some 10, none, (.assign (.tmp 46))⟩])
         (.seq
          (.ops [⟨some 48, none, (.call ⟨(.value (.func 53)), #[(.const (.int .i64 0))], #[3]⟩)⟩,
            ⟨some 47, none, (.move (.tmp 48))⟩,
            ⟨some 49, none, (.extract (.tmp 47) 0)⟩,
            ⟨some 50, none, (.extract (.tmp 47) 1)⟩,
            ⟨some 11, none, (.alloc 45)⟩,
            ⟨none, none, (.store 45 (.tmp 11) (.tmp 49))⟩,
            ⟨some 12, none, (.assign (.tmp 50))⟩])
          (.seq
           (.seq
            (.ops [⟨some 51, none, (.load 45 (.tmp 4))⟩,
              ⟨some 52, none, (.call ⟨(.value (.func 54)), #[(.tmp 51)], #[45]⟩)⟩,
              ⟨some 53, none, (.move (.tmp 52))⟩,
              ⟨some 54, (some (53, true)), (.fieldAddr 45 (.tmp 4) 0)⟩,
              ⟨some 55, (some (53, true)), (.load 43 (.tmp 54))⟩,
              ⟨some 56, (some (53, true)), (.call ⟨(.builtin .len), #[(.tmp 55)], #[43]⟩)⟩,
              ⟨some 57, (some (53, true)), (.binOp .gtr 3 (.tmp 56) (.const (.int .i64 0)) 3)⟩,
              ⟨some 58, none, (.pick (.tmp 53) (.tmp 57) (.const (.bool false)))⟩])
            (.cond (.tmp 58)
             (.seq
              (.ops [⟨some 60, none, (.load 45 (.tmp 9))⟩,
                ⟨some 61, none, (.load 45 (.tmp 4))⟩,
                ⟨some 62, none, (.call ⟨(.value (.func 51)), #[(.tmp 60), (.tmp 61)], #[45, 45]⟩)⟩,
                ⟨some 59, none, (.move (.tmp 62))⟩,
                ⟨some 63, none, (.extract (.tmp 59) 0)⟩,
                ⟨some 64, none, (.extract (.tmp 59) 1)⟩,
                ⟨some 13, none, (.alloc 45)⟩,
                ⟨none, none, (.store 45 (.tmp 13) (.tmp 63))⟩,
                ⟨some 14, none, (.assign (.tmp 64))⟩])
              (.seq
               (.ops [⟨some 66, none, (.load 45 (.tmp 11))⟩,
                 ⟨some 67, none, (.load 45 (.tmp 4))⟩,
                 ⟨some 68, none, (.call ⟨(.value (.func 51)), #[(.tmp 66), (.tmp 67)], #[45, 45]⟩)⟩,
                 ⟨some 65, none, (.move (.tmp 68))⟩,
                 ⟨some 69, none, (.extract (.tmp 65) 0)⟩,
                 ⟨some 70, none, (.extract (.tmp 65) 1)⟩,
                 ⟨some 15, none, (.alloc 45)⟩,
                 ⟨none, none, (.store 45 (.tmp 15) (.tmp 69))⟩,
                 ⟨some 16, none, (.assign (.tmp 70))⟩])
               (.seq
                (.ops [⟨some 71, none, (.move (.tmp 14))⟩,
                  ⟨some 72, none, (.binOp .neq 3 (.tmp 71) (.const (.int .i64 0)) 3)⟩,
                  ⟨some 73, none, (.move (.tmp 72))⟩,
                  ⟨some 74, (some (73, false)), (.move (.tmp 16))⟩,
                  ⟨some 75, (some (73, false)), (.binOp .neq 3 (.tmp 74) (.const (.int .i64 0)) 3)⟩,
                  ⟨some 76, none, (.pick (.tmp 73) (.const (.bool true)) (.tmp 75))⟩,
                  ⟨some 77, none, (.move (.tmp 76))⟩,
                  ⟨some 78, (some (77, false)), (.load 45 (.tmp 13))⟩,
                  ⟨some 79, (some (77, false)), (.load 45 (.tmp 4))⟩,
                  ⟨some 80, (some (77, false)), (.call ⟨(.value (.func 55)), #[(.tmp 78), (.tmp 79)], #[45, 45]⟩)⟩,
                  ⟨some 81, (some (77, false)), (.unOp .not 4 (.tmp 80))⟩,
                  ⟨some 82, none, (.pick (.tmp 77) (.const (.bool true)) (.tmp 81))⟩,
                  ⟨some 83, none, (.move (.tmp 82))⟩,
                  ⟨some 84, (some (83, false)), (.fieldAddr 45 (.tmp 15) 1)⟩,
                  ⟨some 85, (some (83, false)), (.load 43 (.tmp 84))⟩,
                  ⟨some 86, (some (83, false)), (.call ⟨(.builtin .len), #[(.tmp 85)], #[43]⟩)⟩,
                  ⟨some 87, (some (83, false)), (.binOp .neq 3 (.tmp 86) (.const (.int .i64 0)) 3)⟩,
                  ⟨some 88, none, (.pick (.tmp 83) (.const (.bool true)) (.tmp 87))⟩])
                (.cond (.tmp 88)
                 (.seq
                  (.ops [⟨some 2, none, (.assign (.const (.bool false)))⟩])
                  .ret)
                 .skip))))
             .skip))
           (.seq
            (.seq
             (.ops [⟨some 89, none, (.move (.tmp 6))⟩,
               ⟨some 90, none, (.binOp .neq 3 (.tmp 89) (.const (.int .i64 0)) 3)⟩])
             (.cond (.tmp 90)
              (.seq
               (.ops [⟨some 91, none, (.fieldAddr 45 (.tmp 5) 1)⟩,
                 ⟨some 92, none, (.load 43 (.tmp 91))⟩,
                 ⟨some 93, none, (.call ⟨(.builtin .len), #[(.tmp 92)], #[43]⟩)⟩,
                 ⟨some 94, none, (.binOp .eql 3 (.tmp 93) (.const (.int .i64 0)) 3)⟩,
                 ⟨some 2, none, (.assign (.tmp 94))⟩])
               .ret)
              .skip))
            (.seq
             (.ops [⟨some 95, none, (.buildSlice 43 0 #[])⟩,
               ⟨some 17, none, (.assign (.tmp 95))⟩])
             (.seq
              (.ops [⟨some 96, none, (.load 45 (.tmp 4))⟩,
                ⟨some 97, none, (.call ⟨(.value (.func 46)), #[(.tmp 96)], #[45]⟩)⟩,
                ⟨some 18, none, (.assign (.tmp 97))⟩])
              (.seq
               (.seq
                (.ops [⟨some 19, none, (.assign (.const (.int .i64 0)))⟩])
                (.block 0
                 (.loop
                  (.seq
                   (.seq
                    (.ops [⟨some 98, none, (.move (.tmp 19))⟩,
                      ⟨some 99, none, (.move (.tmp 18))⟩,
                      ⟨some 100, none, (.call ⟨(.builtin .len), #[(.tmp 99)], #[24]⟩)⟩,
                      ⟨some 101, none, (.binOp .lss 3 (.tmp 98) (.tmp 100) 3)⟩])
                    (.cond (.tmp 101)
                     .skip
                     (.exit 0)))
                   (.seq
                    (.block 1
                     (.seq
                      (.ops [⟨some 20, none, (.assign (.const (.int .i64 0)))⟩])
                      (.block 2
                       (.loop
                        (.seq
                         (.seq
                          (.ops [⟨some 104, none, (.move (.tmp 20))⟩,
                            ⟨some 105, none, (.fieldAddr 45 (.tmp 3) 1)⟩,
                            ⟨some 106, none, (.load 43 (.tmp 105))⟩,
                            ⟨some 107, none, (.move (.tmp 19))⟩,
                            ⟨some 108, none, (.fieldAddr 45 (.tmp 3) 1)⟩,
                            ⟨some 109, none, (.load 43 (.tmp 108))⟩,
                            ⟨some 110, none, (.call ⟨(.builtin .len), #[(.tmp 109)], #[43]⟩)⟩,
                            ⟨some 111, none, (.binOp .rem 3 (.tmp 107) (.tmp 110) 3)⟩,
                            ⟨some 112, none, (.indexAddr 43 (.tmp 106) (.tmp 111))⟩,
                            ⟨some 113, none, (.load 3 (.tmp 112))⟩,
                            ⟨some 114, none, (.binOp .lss 3 (.tmp 104) (.tmp 113) 3)⟩])
                          (.cond (.tmp 114)
                           .skip
                           (.exit 2)))
                         (.seq
                          (.block 3
                           (.ops [⟨some 117, none, (.move (.tmp 17))⟩,
                             ⟨some 118, none, (.move (.tmp 18))⟩,
                             ⟨some 119, none, (.move (.tmp 19))⟩,
                             ⟨some 120, none, (.indexAddr 24 (.tmp 118) (.tmp 119))⟩,
                             ⟨some 121, none, (.fieldAddr 45 (.tmp 120) 1)⟩,
                             ⟨some 122, none, (.load 43 (.tmp 121))⟩,
                             ⟨some 123, none, (.call ⟨(.builtin .append), #[(.tmp 117), (.tmp 122)], #[43, 43]⟩)⟩,
                             ⟨some 17, none, (.assign (.tmp 123))⟩]))
                          (.ops [⟨some 115, none, (.move (.tmp 20))⟩,
                            ⟨some 116, none, (.binOp .add 3 (.tmp 115) (.const (.int .i64 1)) 3)⟩,
                            ⟨some 20, none, (.assign (.tmp 116))⟩])))))))
                    (.ops [⟨some 102, none, (.move (.tmp 19))⟩,
                      ⟨some 103, none, (.binOp .add 3 (.tmp 102) (.const (.int .i64 1)) 3)⟩,
                      ⟨some 19, none, (.assign (.tmp 103))⟩]))))))
               (.seq
                (.ops [⟨some 124, none, (.move (.tmp 17))⟩,
                  ⟨some 125, none, (.fieldAddr 45 (.tmp 5) 1)⟩,
                  ⟨some 126, none, (.load 43 (.tmp 125))⟩,
                  ⟨some 127, none, (.call ⟨(.value (.func 34)), #[(.tmp 124), (.tmp 126)], #[43, 43]⟩)⟩,
                  ⟨some 128, none, (.move (.tmp 127))⟩,
                  ⟨some 129, (some (128, true)), (.load 45 (.tmp 5))⟩,
                  ⟨some 130, (some (128, true)), (.call ⟨(.value (.func 47)), #[(.tmp 129)], #[45]⟩)⟩,
                  ⟨some 131, none, (.pick (.tmp 128) (.tmp 130) (.const (.bool false)))⟩,
                  ⟨some 2, none, (.assign (.tmp 131))⟩])
                .ret))))))))))))))
theorem w10 {args : Array Value} {H : AH} {Φ : Value → AH → Prop} (h : rW Try.prog k10 [] (fin Try.prog [(.tmp 2)] Φ) (tm0 args) H) : CallsA Try.prog 10 args H Φ :=
  CallsA.w k10 [(.tmp 2)] (fun i => if i = 23 then [(2, 0), (5, 0), (9, 0)] else []) Try.func10 rfl rfl (by kernel_rfl) (by kernel_rfl) h

end Go.Proofs.Ytgekbancaeabgaa.AM
