/- The code of the functions that the laws reach, made short; and facts on the types that they use. -/
import Derived.Test.YtockhdhilemfkaaA8
import Derived.KernelRfl
import Derived.Test.YtockhdhilemfkaaRows
set_option linter.unusedVariables false
set_option linter.unusedSimpArgs false
set_option linter.defProp false
set_option maxRecDepth 100000
/- The code of the functions that the laws reach, made short; and facts on the types that they use. -/
namespace Go.Proofs.Ytockhdhilemfkaa.AM
open Go Go.Proofs.Ytockhdhilemfkaa Go.Proofs

theorem al26 {ev : Operand → Value} : aMake Try.prog ev (.alloc 26) = some ([.slice none 0 0, .slice none 0 0], none) := by kernel_rfl
theorem az24_3 {k : IntKind} {n : Int} {H : AH} : aAppend Try.prog #[24, 3] #[.slice none 0 0, .int k n] H = if 0 < n ∧ n ≤ 1073741824 then some (.slice (some ⟨H.length, 0, none⟩) n.toNat 1, H ++ [⟨(Builtin.zeroCells #[.int .i64 0] n.toNat).toList, .own⟩]) else none := append_zero_eq (z := .int .i64 0) (e := 3) (q := .i64) (by kernel_rfl) (by kernel_rfl) (by kernel_rfl) (by kernel_rfl) (by kernel_rfl) (by kernel_rfl) (by decide) (by kernel_rfl)
theorem ap24_24 {a a' : Option Addr} {n c n' c' : Nat} {H : AH} : aAppend Try.prog #[24, 24] #[.slice a n c, .slice a' n' c'] H = app 1 (.slice a n c) (.slice a' n' c') H := append_eq (z := .int .i64 0) (e := 3) (e' := 3) (by kernel_rfl) (by kernel_rfl) (by kernel_rfl) (by kernel_rfl) (by kernel_rfl) (by kernel_rfl)
theorem bd26 {ps : Array (Nat × Value)} : aBuild Try.prog 26 ps = (fillP [(0, 1), (1, 1)] [.slice none 0 0, .slice none 0 0] ps.toList).map fun cs => .agg cs.toArray := build_eq (z := .agg #[.slice none 0 0, .slice none 0 0]) Try.underlying26 (by kernel_rfl) (by kernel_rfl) (by kernel_rfl) rfl
theorem bd142 {ps : Array (Nat × Value)} : aBuild Try.prog 142 ps = (fillP [(0, 1), (1, 1), (2, 1)] [.slice none 0 0, .int .i64 0, .int .i64 0] ps.toList).map fun cs => .agg cs.toArray := build_eq (z := .agg #[.slice none 0 0, .int .i64 0, .int .i64 0]) Try.underlying142 (by kernel_rfl) (by kernel_rfl) (by kernel_rfl) rfl
theorem bs24_0 {ev : Operand → Value} : aMake Try.prog ev (.buildSlice 24 0 #[]) = (fillP [] [] []).map fun cs => (cs, some (0, 1)) := bslice_eq (z := .int .i64 0) (e := 3) (by kernel_rfl) (by kernel_rfl) (by kernel_rfl) (by decide) (by kernel_rfl) (by kernel_rfl) rfl rfl
theorem bs24_1 {ev : Operand → Value} {x0 : Operand} : aMake Try.prog ev (.buildSlice 24 1 #[(0, x0)]) = (fillP [(0, 1)] [.int .i64 0] [(0, ev x0)]).map fun cs => (cs, some (1, 1)) := bslice_eq (z := .int .i64 0) (e := 3) (by kernel_rfl) (by kernel_rfl) (by kernel_rfl) (by decide) (by kernel_rfl) (by kernel_rfl) rfl rfl
theorem bs24_2 {ev : Operand → Value} {x0 x1 : Operand} : aMake Try.prog ev (.buildSlice 24 2 #[(0, x0), (1, x1)]) = (fillP [(0, 1), (1, 1)] [.int .i64 0, .int .i64 0] [(0, ev x0), (1, ev x1)]).map fun cs => (cs, some (2, 1)) := bslice_eq (z := .int .i64 0) (e := 3) (by kernel_rfl) (by kernel_rfl) (by kernel_rfl) (by decide) (by kernel_rfl) (by kernel_rfl) rfl rfl
theorem bs24_3 {ev : Operand → Value} {x0 x1 x2 : Operand} : aMake Try.prog ev (.buildSlice 24 3 #[(0, x0), (1, x1), (2, x2)]) = (fillP [(0, 1), (1, 1), (2, 1)] [.int .i64 0, .int .i64 0, .int .i64 0] [(0, ev x0), (1, ev x1), (2, ev x2)]).map fun cs => (cs, some (3, 1)) := bslice_eq (z := .int .i64 0) (e := 3) (by kernel_rfl) (by kernel_rfl) (by kernel_rfl) (by decide) (by kernel_rfl) (by kernel_rfl) rfl rfl
theorem bs24_4 {ev : Operand → Value} {x0 x1 x2 x3 : Operand} : aMake Try.prog ev (.buildSlice 24 4 #[(0, x0), (1, x1), (2, x2), (3, x3)]) = (fillP [(0, 1), (1, 1), (2, 1), (3, 1)] [.int .i64 0, .int .i64 0, .int .i64 0, .int .i64 0] [(0, ev x0), (1, ev x1), (2, ev x2), (3, ev x3)]).map fun cs => (cs, some (4, 1)) := bslice_eq (z := .int .i64 0) (e := 3) (by kernel_rfl) (by kernel_rfl) (by kernel_rfl) (by decide) (by kernel_rfl) (by kernel_rfl) rfl rfl
theorem bs24_5 {ev : Operand → Value} {x0 x1 x2 x3 x4 : Operand} : aMake Try.prog ev (.buildSlice 24 5 #[(0, x0), (1, x1), (2, x2), (3, x3), (4, x4)]) = (fillP [(0, 1), (1, 1), (2, 1), (3, 1), (4, 1)] [.int .i64 0, .int .i64 0, .int .i64 0, .int .i64 0, .int .i64 0] [(0, ev x0), (1, ev x1), (2, ev x2), (3, ev x3), (4, ev x4)]).map fun cs => (cs, some (5, 1)) := bslice_eq (z := .int .i64 0) (e := 3) (by kernel_rfl) (by kernel_rfl) (by kernel_rfl) (by decide) (by kernel_rfl) (by kernel_rfl) rfl rfl
theorem bs24_7 {ev : Operand → Value} {x0 x1 x2 x3 x4 x5 x6 : Operand} : aMake Try.prog ev (.buildSlice 24 7 #[(0, x0), (1, x1), (2, x2), (3, x3), (4, x4), (5, x5), (6, x6)]) = (fillP [(0, 1), (1, 1), (2, 1), (3, 1), (4, 1), (5, 1), (6, 1)] [.int .i64 0, .int .i64 0, .int .i64 0, .int .i64 0, .int .i64 0, .int .i64 0, .int .i64 0] [(0, ev x0), (1, ev x1), (2, ev x2), (3, ev x3), (4, ev x4), (5, ev x5), (6, ev x6)]).map fun cs => (cs, some (7, 1)) := bslice_eq (z := .int .i64 0) (e := 3) (by kernel_rfl) (by kernel_rfl) (by kernel_rfl) (by decide) (by kernel_rfl) (by kernel_rfl) rfl rfl
theorem bs24_11 {ev : Operand → Value} {x0 x1 x2 x3 x4 x5 x6 x7 x8 x9 x10 : Operand} : aMake Try.prog ev (.buildSlice 24 11 #[(0, x0), (1, x1), (2, x2), (3, x3), (4, x4), (5, x5), (6, x6), (7, x7), (8, x8), (9, x9), (10, x10)]) = (fillP [(0, 1), (1, 1), (2, 1), (3, 1), (4, 1), (5, 1), (6, 1), (7, 1), (8, 1), (9, 1), (10, 1)] [.int .i64 0, .int .i64 0, .int .i64 0, .int .i64 0, .int .i64 0, .int .i64 0, .int .i64 0, .int .i64 0, .int .i64 0, .int .i64 0, .int .i64 0] [(0, ev x0), (1, ev x1), (2, ev x2), (3, ev x3), (4, ev x4), (5, ev x5), (6, ev x6), (7, ev x7), (8, ev x8), (9, ev x9), (10, ev x10)]).map fun cs => (cs, some (11, 1)) := bslice_eq (z := .int .i64 0) (e := 3) (by kernel_rfl) (by kernel_rfl) (by kernel_rfl) (by decide) (by kernel_rfl) (by kernel_rfl) rfl rfl
theorem bs145_2 {ev : Operand → Value} {x0 x1 : Operand} : aMake Try.prog ev (.buildSlice 145 2 #[(0, x0), (1, x1)]) = (fillP [(0, 1), (1, 1)] [.slice none 0 0, .slice none 0 0] [(0, ev x0), (1, ev x1)]).map fun cs => (cs, some (2, 1)) := bslice_eq (z := .slice none 0 0) (e := 24) (by kernel_rfl) (by kernel_rfl) (by kernel_rfl) (by decide) (by kernel_rfl) (by kernel_rfl) rfl rfl
theorem cp24 {n c : Nat} : aCap Try.prog #[24] #[.slice none n c] = some (.int .i64 0) := cap_nil (e := 3) (by kernel_rfl)
theorem cv5_3 {k : IntKind} {n : Int} {G : Hp} : aConv Try.prog 5 3 (.int k n) G = some (.int .i64 (IntKind.i64.wrap n)) := conv_int (e := .int .u8) (by kernel_rfl) (by kernel_rfl)
theorem fa26_0 {b o : Nat} : aFieldAddr Try.prog 26 (.pointer (some ⟨b, o, none⟩)) 0 = some (.pointer (some ⟨b, o + 0, none⟩)) := by kernel_rfl
theorem fa26_1 {b o : Nat} : aFieldAddr Try.prog 26 (.pointer (some ⟨b, o, none⟩)) 1 = some (.pointer (some ⟨b, o + 1, none⟩)) := by kernel_rfl
theorem fa142_0 {b o : Nat} : aFieldAddr Try.prog 142 (.pointer (some ⟨b, o, none⟩)) 0 = some (.pointer (some ⟨b, o + 0, none⟩)) := by kernel_rfl
theorem fa142_1 {b o : Nat} : aFieldAddr Try.prog 142 (.pointer (some ⟨b, o, none⟩)) 1 = some (.pointer (some ⟨b, o + 1, none⟩)) := by kernel_rfl
theorem fa142_2 {b o : Nat} : aFieldAddr Try.prog 142 (.pointer (some ⟨b, o, none⟩)) 2 = some (.pointer (some ⟨b, o + 2, none⟩)) := by kernel_rfl
theorem ix22 {b o n c : Nat} {k : IntKind} {j : Int} : aIndexAddr Try.prog 22 (.slice (some ⟨b, o, none⟩) n c) (.int k j) = if 0 ≤ j ∧ j < n then some (.pointer (some ⟨b, o + j.toNat * 1, none⟩)) else none := by kernel_rfl
theorem ix24 {b o n c : Nat} {k : IntKind} {j : Int} : aIndexAddr Try.prog 24 (.slice (some ⟨b, o, none⟩) n c) (.int k j) = if 0 ≤ j ∧ j < n then some (.pointer (some ⟨b, o + j.toNat * 1, none⟩)) else none := by kernel_rfl
theorem ix145 {b o n c : Nat} {k : IntKind} {j : Int} : aIndexAddr Try.prog 145 (.slice (some ⟨b, o, none⟩) n c) (.int k j) = if 0 ≤ j ∧ j < n then some (.pointer (some ⟨b, o + j.toNat * 1, none⟩)) else none := by kernel_rfl
theorem us9 : Try.prog.underlying 9 = some .string := by kernel_rfl
theorem ld3 {o : Nat} {cs : List Value} : ld Try.prog 3 o cs = cs[o]? := ld_one (by kernel_rfl)
theorem ld5 {o : Nat} {cs : List Value} : ld Try.prog 5 o cs = cs[o]? := ld_one (by kernel_rfl)
theorem ld22 {o : Nat} {cs : List Value} : ld Try.prog 22 o cs = cs[o]? := ld_one (by kernel_rfl)
theorem ld24 {o : Nat} {cs : List Value} : ld Try.prog 24 o cs = cs[o]? := ld_one (by kernel_rfl)
theorem ld26 {o : Nat} {cs : List Value} : ld Try.prog 26 o cs = aggAt 2 o cs := ld_agg (by kernel_rfl) (by kernel_rfl)
theorem ln9 {s : ByteArray} : aLen Try.prog #[9] #[.string s] = some (.int .i64 s.size) := by kernel_rfl
theorem ln22 {a : Option Addr} {n c : Nat} : aLen Try.prog #[22] #[.slice a n c] = some (.int .i64 n) := by kernel_rfl
theorem ln24 {a : Option Addr} {n c : Nat} : aLen Try.prog #[24] #[.slice a n c] = some (.int .i64 n) := by kernel_rfl
theorem ln145 {a : Option Addr} {n c : Nat} : aLen Try.prog #[145] #[.slice a n c] = some (.int .i64 n) := by kernel_rfl
theorem ms24 {k k' : IntKind} {n : Int} : mkS Try.prog 24 (.int k n) (.int k' n) = if 0 ≤ n ∧ n ≤ 1073741824 then some ((List.replicate n.toNat [.int .i64 0]).flatten, some (n.toNat, 1)) else none := mkS_eq (z := .int .i64 0) (e := 3) (by kernel_rfl) (by kernel_rfl) (by kernel_rfl) (by kernel_rfl) (by kernel_rfl) (by kernel_rfl) (by decide)
theorem sl24 {b o n : Nat} {lo hi : Option Value} : aSlice Try.prog 24 (.slice (some ⟨b, o, none⟩) n 1) lo hi = slc b o n 1 (optInt 0 lo) (optInt n hi) := slc_eq (e := 3) (by kernel_rfl) (by kernel_rfl)
theorem sn24 {n c : Nat} {lo hi : Option Value} : aSlice Try.prog 24 (.slice none n c) lo hi = slq n (optInt 0 lo) (optInt n hi) := sln_q (e := 3) (s := 1) (by kernel_rfl) (by kernel_rfl)
theorem st3 {b o : Nat} {v : Value} {H : AH} : aStore Try.prog 3 (.pointer (some ⟨b, o, none⟩)) v H = sto 1 b o v H (wrt H b) := store_eq (by kernel_rfl)
theorem st24 {b o : Nat} {v : Value} {H : AH} : aStore Try.prog 24 (.pointer (some ⟨b, o, none⟩)) v H = sto 1 b o v H (wrt H b) := store_eq (by kernel_rfl)
theorem st26 {b o : Nat} {v : Value} {H : AH} : aStore Try.prog 26 (.pointer (some ⟨b, o, none⟩)) v H = sto 2 b o v H (wrt H b) := store_eq (by kernel_rfl)
theorem ub4 : Try.prog.underlying 4 = some .bool := by kernel_rfl

/-- laws.big -/
def k15 : KC :=
  (.seq
   (.ops [⟨some 2, none, (.assign (.const (.bool false)))⟩])
   (.seq
    (.ops [⟨some 3, none, (.move (.tmp 0))⟩,
      ⟨some 4, none, (.call ⟨(.builtin .len), #[(.tmp 3)], #[22]⟩)⟩,
      ⟨some 5, none, (.binOp .gtr 3 (.tmp 4) (.const (.int .i64 1048576)) 3)⟩,
      ⟨some 2, none, (.assign (.tmp 5))⟩])
    .ret))
theorem w15 {args : Array Value} {H : AH} {Φ : Value → AH → Prop} (h : rW Try.prog k15 [] (fin Try.prog [(.tmp 2)] Φ) (tm0 args) H) : CallsA Try.prog 15 args H Φ :=
  CallsA.w k15 [(.tmp 2)] (fun _ => []) Try.func15 rfl rfl (by kernel_rfl) (by kernel_rfl) h

/-- impl.within -/
def k91 : KC :=
  (.seq
   (.ops [⟨some 6, none, (.assign (.const (.bool false)))⟩])
   (.seq
    (.ops [⟨some 7, none, (.move (.tmp 0))⟩,
      ⟨some 8, none, (.move (.tmp 1))⟩,
      ⟨some 9, none, (.binOp .geq 3 (.tmp 7) (.tmp 8) 3)⟩,
      ⟨some 10, none, (.move (.tmp 9))⟩,
      ⟨some 11, (some (10, true)), (.move (.tmp 0))⟩,
      ⟨some 12, (some (10, true)), (.move (.tmp 2))⟩,
      ⟨some 13, (some (10, true)), (.binOp .leq 3 (.tmp 11) (.tmp 12) 3)⟩,
      ⟨some 14, none, (.pick (.tmp 10) (.tmp 13) (.const (.bool false)))⟩,
      ⟨some 6, none, (.assign (.tmp 14))⟩])
    .ret))
theorem w91 {args : Array Value} {H : AH} {Φ : Value → AH → Prop} (h : rW Try.prog k91 [] (fin Try.prog [(.tmp 6)] Φ) (tm0 args) H) : CallsA Try.prog 91 args H Φ :=
  CallsA.w k91 [(.tmp 6)] (fun _ => []) Try.func91 rfl rfl (by kernel_rfl) (by kernel_rfl) h

/-- impl.SizeOf -/
def k119 : KC :=
  (.seq
   (.ops [⟨some 2, none, (.assign (.const (.int .i64 0)))⟩])
   (.seq
    (.seq
     (.ops [⟨some 6, none, (.move (.tmp 0))⟩,
       ⟨some 7, none, (.call ⟨(.builtin .len), #[(.tmp 6)], #[24]⟩)⟩,
       ⟨some 8, none, (.binOp .gtr 3 (.tmp 7) (.const (.int .i64 3)) 3)⟩])
     (.cond (.tmp 8)
      (.seq
       (.ops [⟨some 2, none, (.assign (.const (.int .i64 (-1))))⟩])
       .ret)
      .skip))
    (.seq
     (.ops [⟨some 3, none, (.assign (.const (.int .i64 1)))⟩])
     (.seq
      (.seq
       (.ops [⟨some 9, none, (.move (.tmp 0))⟩,
         ⟨some 10, none, (.call ⟨(.builtin .len), #[(.tmp 9)], #[24]⟩)⟩,
         ⟨some 11, none, (.move (.const (.int .i64 0)))⟩])
       (.block 0
        (.loop
         (.seq
          (.ops [⟨some 12, none, (.binOp .lss 3 (.tmp 11) (.tmp 10) 3)⟩])
          (.seq
           (.cond (.tmp 12)
            .skip
            (.exit 0))
           (.seq
            (.block 1
             (.seq
              (.ops [⟨some 13, none, (.indexAddr 24 (.tmp 9) (.tmp 11))⟩,
                ⟨some 14, none, (.load 3 (.tmp 13))⟩,
                ⟨some 5, none, (.assign (.tmp 14))⟩])
              (.seq
               (.seq
                (.ops [⟨some 15, none, (.move (.tmp 5))⟩,
                  ⟨some 16, none, (.call ⟨(.value (.func 91)), #[(.tmp 15), (.const (.int .i64 0)), (.const (.int .i64 300))], #[3, 3, 3]⟩)⟩,
                  ⟨some 17, none, (.unOp .not 4 (.tmp 16))⟩])
                (.cond (.tmp 17)
                 (.seq
                  (.ops [⟨some 2, none, (.assign (.const (.int .i64 (-1))))⟩])
                  .ret)
                 .skip))
               (.ops [⟨some 18, none, (.move (.tmp 3))⟩,
                 ⟨some 19, none, (.move (.tmp 5))⟩,
                 ⟨some 20, none, (.binOp .mul 3 (.tmp 18) (.tmp 19) 3)⟩,
                 ⟨some 3, none, (.assign (.tmp 20))⟩]))))
            (.ops [⟨some 21, none, (.binOp .add 3 (.tmp 11) (.const (.int .i64 1)) 3)⟩,
              ⟨some 11, none, (.move (.tmp 21))⟩])))))))
      (.seq
       (.seq
        (.ops [⟨some 22, none, (.move (.tmp 3))⟩,
          ⟨some 23, none, (.binOp .gtr 3 (.tmp 22) (.const (.int .i64 300)) 3)⟩])
        (.cond (.tmp 23)
         (.seq
          (.ops [⟨some 2, none, (.assign (.const (.int .i64 (-1))))⟩])
          .ret)
         .skip))
       (.seq
        (.ops [⟨some 24, none, (.move (.tmp 3))⟩,
          ⟨some 2, none, (.assign (.tmp 24))⟩])
        .ret))))))
theorem w119 {args : Array Value} {H : AH} {Φ : Value → AH → Prop} (h : rW Try.prog k119 [] (fin Try.prog [(.tmp 2)] Φ) (tm0 args) H) : CallsA Try.prog 119 args H Φ :=
  CallsA.w k119 [(.tmp 2)] (fun _ => []) Try.func119 rfl rfl (by kernel_rfl) (by kernel_rfl) h

/-- slices.IndexFunc[[]int,int] -/
def k170 : KC :=
  (.seq
   (.ops [⟨some 4, none, (.assign (.const (.int .i64 0)))⟩])
   (.seq
    (.seq
     (.ops [⟨some 6, none, (.move (.tmp 0))⟩,
       ⟨some 7, none, (.call ⟨(.builtin .len), #[(.tmp 6)], #[24]⟩)⟩,
       ⟨some 8, none, (.move (.const (.int .i64 0)))⟩])
     (.block 0
      (.loop
       (.seq
        (.ops [⟨some 9, none, (.binOp .lss 3 (.tmp 8) (.tmp 7) 3)⟩])
        (.seq
         (.cond (.tmp 9)
          .skip
          (.exit 0))
         (.seq
          (.block 1
           (.seq
            (.ops [⟨some 10, none, (.move (.tmp 8))⟩,
              ⟨some 5, none, (.assign (.tmp 10))⟩])
            (.seq
             (.ops [⟨some 11, none, (.move (.tmp 1))⟩,
               ⟨some 12, none, (.move (.tmp 0))⟩,
               ⟨some 13, none, (.move (.tmp 5))⟩,
               ⟨some 14, none, (.indexAddr 24 (.tmp 12) (.tmp 13))⟩,
               ⟨some 15, none, (.load 3 (.tmp 14))⟩,
               ⟨some 16, none, (.call ⟨(.value (.tmp 11)), #[(.tmp 15)], #[3]⟩)⟩])
             (.cond (.tmp 16)
              (.seq
               (.ops [⟨some 17, none, (.move (.tmp 5))⟩,
                 ⟨some 4, none, (.assign (.tmp 17))⟩])
               .ret)
              .skip))))
          (.ops [⟨some 18, none, (.binOp .add 3 (.tmp 8) (.const (.int .i64 1)) 3)⟩,
            ⟨some 8, none, (.move (.tmp 18))⟩])))))))
    (.seq
     (.ops [⟨some 4, none, (.assign (.const (.int .i64 (-1))))⟩])
     .ret)))
theorem w170 {args : Array Value} {H : AH} {Φ : Value → AH → Prop} (h : rW Try.prog k170 [] (fin Try.prog [(.tmp 4)] Φ) (tm0 args) H) : CallsA Try.prog 170 args H Φ :=
  CallsA.w k170 [(.tmp 4)] (fun _ => []) Try.func170 rfl rfl (by kernel_rfl) (by kernel_rfl) h

/-- slices.ContainsFunc[[]int,int] -/
def k128 : KC :=
  (.seq
   (.ops [⟨some 4, none, (.assign (.const (.bool false)))⟩])
   (.seq
    (.ops [⟨some 5, none, (.move (.tmp 0))⟩,
      ⟨some 6, none, (.move (.tmp 1))⟩,
      ⟨some 7, none, (.call ⟨(.value (.func 170)), #[(.tmp 5), (.tmp 6)], #[24, 83]⟩)⟩,
      ⟨some 8, none, (.binOp .geq 3 (.tmp 7) (.const (.int .i64 0)) 3)⟩,
      ⟨some 4, none, (.assign (.tmp 8))⟩])
    .ret))
theorem w128 {args : Array Value} {H : AH} {Φ : Value → AH → Prop} (h : rW Try.prog k128 [] (fin Try.prog [(.tmp 4)] Φ) (tm0 args) H) : CallsA Try.prog 128 args H Φ :=
  CallsA.w k128 [(.tmp 4)] (fun _ => []) Try.func128 rfl rfl (by kernel_rfl) (by kernel_rfl) h

/-- impl.NumOk -/
def k87 : KC :=
  (.seq
   (.ops [⟨some 2, none, (.assign (.const (.bool false)))⟩])
   (.seq
    (.ops [⟨some 3, none, (.move (.tmp 0))⟩,
      ⟨some 4, none, (.call ⟨(.value (.func 91)), #[(.tmp 3), (.const (.int .i64 (-1000000000000))), (.const (.int .i64 1000000000000))], #[3, 3, 3]⟩)⟩,
      ⟨some 2, none, (.assign (.tmp 4))⟩])
    .ret))
theorem w87 {args : Array Value} {H : AH} {Φ : Value → AH → Prop} (h : rW Try.prog k87 [] (fin Try.prog [(.tmp 2)] Φ) (tm0 args) H) : CallsA Try.prog 87 args H Φ :=
  CallsA.w k87 [(.tmp 2)] (fun _ => []) Try.func87 rfl rfl (by kernel_rfl) (by kernel_rfl) h

/-- impl.ArrayOk$1 -/
def k129 : KC :=
  (.seq
   (.ops [⟨some 2, none, (.assign (.const (.bool false)))⟩])
   (.seq
    (.ops [⟨some 3, none, (.move (.tmp 0))⟩,
      ⟨some 4, none, (.call ⟨(.value (.func 87)), #[(.tmp 3)], #[3]⟩)⟩,
      ⟨some 5, none, (.unOp .not 4 (.tmp 4))⟩,
      ⟨some 2, none, (.assign (.tmp 5))⟩])
    .ret))
theorem w129 {args : Array Value} {H : AH} {Φ : Value → AH → Prop} (h : rW Try.prog k129 [] (fin Try.prog [(.tmp 2)] Φ) (tm0 args) H) : CallsA Try.prog 129 args H Φ :=
  CallsA.w k129 [(.tmp 2)] (fun _ => []) Try.func129 rfl rfl (by kernel_rfl) (by kernel_rfl) h

/-- impl.ArrayOk -/
def k56 : KC :=
  (.seq
   (.ops [⟨some 1, none, (.box 26 (.tmp 0))⟩,
     ⟨some 2, none, (.assign (.const (.bool false)))⟩])
   (.seq
    (.draw #[] [(1, 0), (1, 6), (4, 0), (9, 6)]
      [⟨some 3, none, (.fieldAddr 26 (.tmp 1) 1)⟩,
      ⟨some 4, none, (.load 24 (.tmp 3))⟩,
      ⟨some 5, none, (.call ⟨(.builtin .len), #[(.tmp 4)], #[24]⟩)⟩,
      ⟨some 6, none, (.fieldAddr 26 (.tmp 1) 0)⟩,
      ⟨some 7, none, (.load 24 (.tmp 6))⟩,
      ⟨some 8, none, (.call ⟨(.value (.func 119)), #[(.tmp 7)], #[24]⟩)⟩,
      ⟨some 9, none, (.binOp .eql 3 (.tmp 5) (.tmp 8) 3)⟩,
      ⟨some 10, none, (.move (.tmp 9))⟩,
      ⟨some 11, (some (10, true)), (.fieldAddr 26 (.tmp 1) 1)⟩,
      ⟨some 12, (some (10, true)), (.load 24 (.tmp 11))⟩,
      ⟨some 13, (some (10, true)), (.call ⟨(.value (.func 128)), #[(.tmp 12), (.func 129)], #[24, 83]⟩)⟩,
      ⟨some 14, (some (10, true)), (.unOp .not 4 (.tmp 13))⟩,
      ⟨some 15, none, (.pick (.tmp 10) (.tmp 14) (.const (.bool false)))⟩,
      ⟨some 2, none, (.assign (.tmp 15))⟩])
    .ret))
theorem w56 {args : Array Value} {H : AH} {Φ : Value → AH → Prop} (h : rW Try.prog k56 [] (fin Try.prog [(.tmp 2)] Φ) (tm0 args) H) : CallsA Try.prog 56 args H Φ :=
  CallsA.w k56 [(.tmp 2)] (fun i => if i = 1 then [(1, 0), (1, 6), (4, 0), (9, 6)] else []) Try.func56 rfl rfl (by kernel_rfl) (by kernel_rfl) h

/-- impl.copyArray -/
def k78 : KC :=
  (.seq
   (.ops [⟨some 1, none, (.box 26 (.tmp 0))⟩,
     ⟨some 2, none, (.alloc 26)⟩])
   (.seq
    (.draw #[] [(1, 0), (4, 0), (4, 3)]
      [⟨some 3, none, (.fieldAddr 26 (.tmp 1) 0)⟩,
      ⟨some 4, none, (.load 24 (.tmp 3))⟩,
      ⟨some 5, none, (.call ⟨(.builtin .append), #[(.const (.slice none 0 0)), (.tmp 4)], #[24, 24]⟩)⟩,
      ⟨some 6, none, (.fieldAddr 26 (.tmp 1) 1)⟩,
      ⟨some 7, none, (.load 24 (.tmp 6))⟩,
      ⟨some 8, none, (.call ⟨(.builtin .append), #[(.const (.slice none 0 0)), (.tmp 7)], #[24, 24]⟩)⟩,
      ⟨some 9, none, (.build 26 #[(0, (.tmp 5)), (1, (.tmp 8))])⟩,
      ⟨none, none, (.store 26 (.tmp 2) (.tmp 9))⟩])
    .ret))
theorem w78 {args : Array Value} {H : AH} {Φ : Value → AH → Prop} (h : rW Try.prog k78 [] (fin Try.prog [(.cell 2 26)] Φ) (tm0 args) H) : CallsA Try.prog 78 args H Φ :=
  CallsA.w k78 [(.cell 2 26)] (fun i => if i = 1 then [(1, 0), (4, 0), (4, 3)] else []) Try.func78 rfl rfl (by kernel_rfl) (by kernel_rfl) h

/-- slices.Reverse[[]int,int] -/
def k81 : KC :=
  (.seq
   (.ops [⟨some 4, none, (.move (.tmp 0))⟩,
     ⟨some 5, none, (.call ⟨(.builtin .len), #[(.tmp 4)], #[24]⟩)⟩,
     ⟨some 6, none, (.binOp .sub 3 (.tmp 5) (.const (.int .i64 1)) 3)⟩,
     ⟨some 2, none, (.assign (.const (.int .i64 0)))⟩,
     ⟨some 3, none, (.assign (.tmp 6))⟩])
   (.block 0
    (.loop
     (.seq
      (.seq
       (.ops [⟨some 7, none, (.move (.tmp 2))⟩,
         ⟨some 8, none, (.move (.tmp 3))⟩,
         ⟨some 9, none, (.binOp .lss 3 (.tmp 7) (.tmp 8) 3)⟩])
       (.cond (.tmp 9)
        .skip
        (.exit 0)))
      (.seq
       (.block 1
        (.draw #[] [(7, 0), (11, 0)]
          [⟨some 14, none, (.move (.tmp 0))⟩,
          ⟨some 15, none, (.move (.tmp 2))⟩,
          ⟨some 16, none, (.move (.tmp 0))⟩,
          ⟨some 17, none, (.move (.tmp 3))⟩,
          ⟨some 18, none, (.move (.tmp 0))⟩,
          ⟨some 19, none, (.move (.tmp 3))⟩,
          ⟨some 20, none, (.indexAddr 24 (.tmp 18) (.tmp 19))⟩,
          ⟨some 21, none, (.load 3 (.tmp 20))⟩,
          ⟨some 22, none, (.move (.tmp 0))⟩,
          ⟨some 23, none, (.move (.tmp 2))⟩,
          ⟨some 24, none, (.indexAddr 24 (.tmp 22) (.tmp 23))⟩,
          ⟨some 25, none, (.load 3 (.tmp 24))⟩,
          ⟨some 26, none, (.indexAddr 24 (.tmp 14) (.tmp 15))⟩,
          ⟨none, none, (.store 3 (.tmp 26) (.tmp 21))⟩,
          ⟨some 27, none, (.indexAddr 24 (.tmp 16) (.tmp 17))⟩,
          ⟨none, none, (.store 3 (.tmp 27) (.tmp 25))⟩]))
       (.ops [⟨some 10, none, (.move (.tmp 2))⟩,
         ⟨some 11, none, (.binOp .add 3 (.tmp 10) (.const (.int .i64 1)) 3)⟩,
         ⟨some 12, none, (.move (.tmp 3))⟩,
         ⟨some 13, none, (.binOp .sub 3 (.tmp 12) (.const (.int .i64 1)) 3)⟩,
         ⟨some 2, none, (.assign (.tmp 11))⟩,
         ⟨some 3, none, (.assign (.tmp 13))⟩]))))))
theorem w81 {args : Array Value} {H : AH} {Φ : Value → AH → Prop} (h : rW Try.prog k81 [] (fin Try.prog [] Φ) (tm0 args) H) : CallsA Try.prog 81 args H Φ :=
  CallsA.w k81 [] (fun i => if i = 3 then [(7, 0), (11, 0)] else []) Try.func81 rfl rfl (by kernel_rfl) (by kernel_rfl) h

/-- impl.IndexOf -/
def k82 : KC :=
  (.seq
   (.ops [⟨some 4, none, (.assign (.const (.slice none 0 0)))⟩])
   (.seq
    (.seq
     (.ops [⟨some 7, none, (.move (.tmp 1))⟩,
       ⟨some 8, none, (.move (.tmp 0))⟩,
       ⟨some 9, none, (.call ⟨(.value (.func 119)), #[(.tmp 8)], #[24]⟩)⟩,
       ⟨some 10, none, (.binOp .sub 3 (.tmp 9) (.const (.int .i64 1)) 3)⟩,
       ⟨some 11, none, (.call ⟨(.value (.func 91)), #[(.tmp 7), (.const (.int .i64 0)), (.tmp 10)], #[3, 3, 3]⟩)⟩,
       ⟨some 12, none, (.unOp .not 4 (.tmp 11))⟩])
     (.cond (.tmp 12)
      (.seq
       (.ops [⟨some 4, none, (.assign (.const (.slice none 0 0)))⟩])
       .ret)
      .skip))
    (.seq
     (.ops [⟨some 13, none, (.move (.tmp 0))⟩,
       ⟨some 14, none, (.call ⟨(.builtin .len), #[(.tmp 13)], #[24]⟩)⟩,
       ⟨some 15, none, (.makeSlice 24 (.tmp 14) (.tmp 14))⟩,
       ⟨some 5, none, (.assign (.tmp 15))⟩])
     (.seq
      (.seq
       (.ops [⟨some 16, none, (.move (.tmp 0))⟩,
         ⟨some 17, none, (.call ⟨(.builtin .len), #[(.tmp 16)], #[24]⟩)⟩,
         ⟨some 18, none, (.binOp .sub 3 (.tmp 17) (.const (.int .i64 1)) 3)⟩,
         ⟨some 6, none, (.assign (.tmp 18))⟩])
       (.block 0
        (.loop
         (.seq
          (.seq
           (.ops [⟨some 19, none, (.move (.tmp 6))⟩,
             ⟨some 20, none, (.binOp .geq 3 (.tmp 19) (.const (.int .i64 0)) 3)⟩])
           (.cond (.tmp 20)
            .skip
            (.exit 0)))
          (.seq
           (.block 1
            (.seq
             (.ops [⟨some 23, none, (.move (.tmp 5))⟩,
               ⟨some 24, none, (.move (.tmp 6))⟩,
               ⟨some 25, none, (.move (.tmp 1))⟩,
               ⟨some 26, none, (.move (.tmp 0))⟩,
               ⟨some 27, none, (.move (.tmp 6))⟩,
               ⟨some 28, none, (.indexAddr 24 (.tmp 26) (.tmp 27))⟩,
               ⟨some 29, none, (.load 3 (.tmp 28))⟩,
               ⟨some 30, none, (.binOp .rem 3 (.tmp 25) (.tmp 29) 3)⟩,
               ⟨some 31, none, (.indexAddr 24 (.tmp 23) (.tmp 24))⟩,
               ⟨none, none, (.store 3 (.tmp 31) (.tmp 30))⟩])
             (.ops [⟨some 32, none, (.move (.tmp 1))⟩,
               ⟨some 33, none, (.move (.tmp 0))⟩,
               ⟨some 34, none, (.move (.tmp 6))⟩,
               ⟨some 35, none, (.indexAddr 24 (.tmp 33) (.tmp 34))⟩,
               ⟨some 36, none, (.load 3 (.tmp 35))⟩,
               ⟨some 37, none, (.binOp .quo 3 (.tmp 32) (.tmp 36) 3)⟩,
               ⟨some 1, none, (.assign (.tmp 37))⟩])))
           (.ops [⟨some 21, none, (.move (.tmp 6))⟩,
             ⟨some 22, none, (.binOp .sub 3 (.tmp 21) (.const (.int .i64 1)) 3)⟩,
             ⟨some 6, none, (.assign (.tmp 22))⟩]))))))
      (.seq
       (.ops [⟨some 38, none, (.move (.tmp 5))⟩,
         ⟨some 4, none, (.assign (.tmp 38))⟩])
       .ret)))))
theorem w82 {args : Array Value} {H : AH} {Φ : Value → AH → Prop} (h : rW Try.prog k82 [] (fin Try.prog [(.tmp 4)] Φ) (tm0 args) H) : CallsA Try.prog 82 args H Φ :=
  CallsA.w k82 [(.tmp 4)] (fun _ => []) Try.func82 rfl rfl (by kernel_rfl) (by kernel_rfl) h

/-- impl.ShapeOk -/
def k122 : KC :=
  (.seq
   (.ops [⟨some 2, none, (.assign (.const (.bool false)))⟩])
   (.seq
    (.ops [⟨some 3, none, (.move (.tmp 0))⟩,
      ⟨some 4, none, (.call ⟨(.value (.func 119)), #[(.tmp 3)], #[24]⟩)⟩,
      ⟨some 5, none, (.binOp .geq 3 (.tmp 4) (.const (.int .i64 0)) 3)⟩,
      ⟨some 2, none, (.assign (.tmp 5))⟩])
    .ret))
theorem w122 {args : Array Value} {H : AH} {Φ : Value → AH → Prop} (h : rW Try.prog k122 [] (fin Try.prog [(.tmp 2)] Φ) (tm0 args) H) : CallsA Try.prog 122 args H Φ :=
  CallsA.w k122 [(.tmp 2)] (fun _ => []) Try.func122 rfl rfl (by kernel_rfl) (by kernel_rfl) h

/-- impl.PlaceOf -/
def k83 : KC :=
  (.seq
   (.ops [⟨some 4, none, (.assign (.const (.int .i64 0)))⟩])
   (.seq
    (.seq
     (.ops [⟨some 8, none, (.move (.tmp 0))⟩,
       ⟨some 9, none, (.call ⟨(.value (.func 122)), #[(.tmp 8)], #[24]⟩)⟩,
       ⟨some 10, none, (.unOp .not 4 (.tmp 9))⟩,
       ⟨some 11, none, (.move (.tmp 10))⟩,
       ⟨some 12, (some (11, false)), (.move (.tmp 1))⟩,
       ⟨some 13, (some (11, false)), (.call ⟨(.builtin .len), #[(.tmp 12)], #[24]⟩)⟩,
       ⟨some 14, (some (11, false)), (.move (.tmp 0))⟩,
       ⟨some 15, (some (11, false)), (.call ⟨(.builtin .len), #[(.tmp 14)], #[24]⟩)⟩,
       ⟨some 16, (some (11, false)), (.binOp .neq 3 (.tmp 13) (.tmp 15) 3)⟩,
       ⟨some 17, none, (.pick (.tmp 11) (.const (.bool true)) (.tmp 16))⟩])
     (.cond (.tmp 17)
      (.seq
       (.ops [⟨some 4, none, (.assign (.const (.int .i64 (-1))))⟩])
       .ret)
      .skip))
    (.seq
     (.ops [⟨some 5, none, (.assign (.const (.int .i64 0)))⟩])
     (.seq
      (.seq
       (.ops [⟨some 18, none, (.move (.tmp 0))⟩,
         ⟨some 19, none, (.call ⟨(.builtin .len), #[(.tmp 18)], #[24]⟩)⟩,
         ⟨some 20, none, (.move (.const (.int .i64 0)))⟩])
       (.block 0
        (.loop
         (.seq
          (.ops [⟨some 21, none, (.binOp .lss 3 (.tmp 20) (.tmp 19) 3)⟩])
          (.seq
           (.cond (.tmp 21)
            .skip
            (.exit 0))
           (.seq
            (.block 1
             (.seq
              (.ops [⟨some 22, none, (.move (.tmp 20))⟩,
                ⟨some 23, none, (.indexAddr 24 (.tmp 18) (.tmp 20))⟩,
                ⟨some 24, none, (.load 3 (.tmp 23))⟩,
                ⟨some 6, none, (.assign (.tmp 22))⟩,
                ⟨some 7, none, (.assign (.tmp 24))⟩])
              (.seq
               (.seq
                (.ops [⟨some 25, none, (.move (.tmp 1))⟩,
                  ⟨some 26, none, (.move (.tmp 6))⟩,
                  ⟨some 27, none, (.indexAddr 24 (.tmp 25) (.tmp 26))⟩,
                  ⟨some 28, none, (.load 3 (.tmp 27))⟩,
                  ⟨some 29, none, (.move (.tmp 7))⟩,
                  ⟨some 30, none, (.binOp .sub 3 (.tmp 29) (.const (.int .i64 1)) 3)⟩,
                  ⟨some 31, none, (.call ⟨(.value (.func 91)), #[(.tmp 28), (.const (.int .i64 0)), (.tmp 30)], #[3, 3, 3]⟩)⟩,
                  ⟨some 32, none, (.unOp .not 4 (.tmp 31))⟩])
                (.cond (.tmp 32)
                 (.seq
                  (.ops [⟨some 4, none, (.assign (.const (.int .i64 (-1))))⟩])
                  .ret)
                 .skip))
               (.ops [⟨some 33, none, (.move (.tmp 5))⟩,
                 ⟨some 34, none, (.move (.tmp 7))⟩,
                 ⟨some 35, none, (.binOp .mul 3 (.tmp 33) (.tmp 34) 3)⟩,
                 ⟨some 36, none, (.move (.tmp 1))⟩,
                 ⟨some 37, none, (.move (.tmp 6))⟩,
                 ⟨some 38, none, (.indexAddr 24 (.tmp 36) (.tmp 37))⟩,
                 ⟨some 39, none, (.load 3 (.tmp 38))⟩,
                 ⟨some 40, none, (.binOp .add 3 (.tmp 35) (.tmp 39) 3)⟩,
                 ⟨some 5, none, (.assign (.tmp 40))⟩]))))
            (.ops [⟨some 41, none, (.binOp .add 3 (.tmp 20) (.const (.int .i64 1)) 3)⟩,
              ⟨some 20, none, (.move (.tmp 41))⟩])))))))
      (.seq
       (.ops [⟨some 42, none, (.move (.tmp 5))⟩,
         ⟨some 4, none, (.assign (.tmp 42))⟩])
       .ret)))))
theorem w83 {args : Array Value} {H : AH} {Φ : Value → AH → Prop} (h : rW Try.prog k83 [] (fin Try.prog [(.tmp 4)] Φ) (tm0 args) H) : CallsA Try.prog 83 args H Φ :=
  CallsA.w k83 [(.tmp 4)] (fun _ => []) Try.func83 rfl rfl (by kernel_rfl) (by kernel_rfl) h

/-- impl.Flip -/
def k23 : KC :=
  (.seq
   (.ops [⟨some 1, none, (.box 26 (.tmp 0))⟩,
     ⟨some 2, none, (.alloc 26)⟩,
     ⟨some 3, none, (.assign (.const (.int .i64 0)))⟩])
   (.seq
    (.seq
     (.ops [⟨some 8, none, (.load 26 (.tmp 1))⟩,
       ⟨some 9, none, (.call ⟨(.value (.func 56)), #[(.tmp 8)], #[26]⟩)⟩,
       ⟨some 10, none, (.unOp .not 4 (.tmp 9))⟩])
     (.cond (.tmp 10)
      (.seq
       (.ops [⟨some 11, none, (.build 26 #[])⟩,
         ⟨none, none, (.store 26 (.tmp 2) (.tmp 11))⟩,
         ⟨some 3, none, (.assign (.const (.int .i64 1)))⟩])
       .ret)
      .skip))
    (.seq
     (.ops [⟨some 12, none, (.load 26 (.tmp 1))⟩,
       ⟨some 13, none, (.call ⟨(.value (.func 78)), #[(.tmp 12)], #[26]⟩)⟩,
       ⟨some 4, none, (.alloc 26)⟩,
       ⟨none, none, (.store 26 (.tmp 4) (.tmp 13))⟩])
     (.seq
      (.ops [⟨some 14, none, (.fieldAddr 26 (.tmp 4) 0)⟩,
        ⟨some 15, none, (.load 24 (.tmp 14))⟩,
        ⟨some 16, none, (.call ⟨(.value (.func 81)), #[(.tmp 15)], #[24]⟩)⟩])
      (.seq
       (.seq
        (.ops [⟨some 17, none, (.fieldAddr 26 (.tmp 1) 1)⟩,
          ⟨some 18, none, (.load 24 (.tmp 17))⟩,
          ⟨some 19, none, (.call ⟨(.builtin .len), #[(.tmp 18)], #[24]⟩)⟩,
          ⟨some 20, none, (.move (.const (.int .i64 0)))⟩])
        (.block 0
         (.loop
          (.seq
           (.ops [⟨some 21, none, (.binOp .lss 3 (.tmp 20) (.tmp 19) 3)⟩])
           (.seq
            (.cond (.tmp 21)
             .skip
             (.exit 0))
            (.seq
             (.block 1
              (.seq
               (.ops [⟨some 22, none, (.move (.tmp 20))⟩,
                 ⟨some 23, none, (.indexAddr 24 (.tmp 18) (.tmp 20))⟩,
                 ⟨some 24, none, (.load 3 (.tmp 23))⟩,
                 ⟨some 5, none, (.assign (.tmp 22))⟩,
                 ⟨some 6, none, (.assign (.tmp 24))⟩])
               (.seq
                (.ops [⟨some 25, none, (.fieldAddr 26 (.tmp 1) 0)⟩,
                  ⟨some 26, none, (.load 24 (.tmp 25))⟩,
                  ⟨some 27, none, (.move (.tmp 5))⟩,
                  ⟨some 28, none, (.call ⟨(.value (.func 82)), #[(.tmp 26), (.tmp 27)], #[24, 3]⟩)⟩,
                  ⟨some 7, none, (.assign (.tmp 28))⟩])
                (.seq
                 (.ops [⟨some 29, none, (.move (.tmp 7))⟩,
                   ⟨some 30, none, (.call ⟨(.value (.func 81)), #[(.tmp 29)], #[24]⟩)⟩])
                 (.draw #[] [(1, 0), (1, 6), (3, 0)]
                   [⟨some 31, none, (.fieldAddr 26 (.tmp 4) 1)⟩,
                   ⟨some 32, none, (.load 24 (.tmp 31))⟩,
                   ⟨some 33, none, (.fieldAddr 26 (.tmp 4) 0)⟩,
                   ⟨some 34, none, (.load 24 (.tmp 33))⟩,
                   ⟨some 35, none, (.move (.tmp 7))⟩,
                   ⟨some 36, none, (.call ⟨(.value (.func 83)), #[(.tmp 34), (.tmp 35)], #[24, 24]⟩)⟩,
                   ⟨some 37, none, (.move (.tmp 6))⟩,
                   ⟨some 38, none, (.indexAddr 24 (.tmp 32) (.tmp 36))⟩,
                   ⟨none, none, (.store 3 (.tmp 38) (.tmp 37))⟩])))))
             (.ops [⟨some 39, none, (.binOp .add 3 (.tmp 20) (.const (.int .i64 1)) 3)⟩,
               ⟨some 20, none, (.move (.tmp 39))⟩])))))))
       (.seq
        (.ops [⟨some 40, none, (.load 26 (.tmp 4))⟩,
          ⟨none, none, (.store 26 (.tmp 2) (.tmp 40))⟩,
          ⟨some 3, none, (.assign (.const (.int .i64 0)))⟩])
        .ret))))))
theorem w23 {args : Array Value} {H : AH} {Φ : Value → AH → Prop} (h : rW Try.prog k23 [] (fin Try.prog [(.cell 2 26), (.tmp 3)] Φ) (tm0 args) H) : CallsA Try.prog 23 args H Φ :=
  CallsA.w k23 [(.cell 2 26), (.tmp 3)] (fun i => if i = 10 then [(1, 0), (1, 6), (3, 0)] else []) Try.func23 rfl rfl (by kernel_rfl) (by kernel_rfl) h

/-- laws.sameInts -/
def k21 : KC :=
  (.seq
   (.ops [⟨some 4, none, (.assign (.const (.bool false)))⟩])
   (.seq
    (.seq
     (.ops [⟨some 6, none, (.move (.tmp 0))⟩,
       ⟨some 7, none, (.call ⟨(.builtin .len), #[(.tmp 6)], #[24]⟩)⟩,
       ⟨some 8, none, (.move (.tmp 1))⟩,
       ⟨some 9, none, (.call ⟨(.builtin .len), #[(.tmp 8)], #[24]⟩)⟩,
       ⟨some 10, none, (.binOp .neq 3 (.tmp 7) (.tmp 9) 3)⟩])
     (.cond (.tmp 10)
      (.seq
       (.ops [⟨some 4, none, (.assign (.const (.bool false)))⟩])
       .ret)
      .skip))
    (.seq
     (.seq
      (.ops [⟨some 5, none, (.assign (.const (.int .i64 0)))⟩])
      (.block 0
       (.loop
        (.seq
         (.seq
          (.ops [⟨some 11, none, (.move (.tmp 5))⟩,
            ⟨some 12, none, (.move (.tmp 0))⟩,
            ⟨some 13, none, (.call ⟨(.builtin .len), #[(.tmp 12)], #[24]⟩)⟩,
            ⟨some 14, none, (.binOp .lss 3 (.tmp 11) (.tmp 13) 3)⟩])
          (.cond (.tmp 14)
           .skip
           (.exit 0)))
         (.seq
          (.block 1
           (.seq
            (.ops [⟨some 17, none, (.move (.tmp 0))⟩,
              ⟨some 18, none, (.move (.tmp 5))⟩,
              ⟨some 19, none, (.indexAddr 24 (.tmp 17) (.tmp 18))⟩,
              ⟨some 20, none, (.load 3 (.tmp 19))⟩,
              ⟨some 21, none, (.move (.tmp 1))⟩,
              ⟨some 22, none, (.move (.tmp 5))⟩,
              ⟨some 23, none, (.indexAddr 24 (.tmp 21) (.tmp 22))⟩,
              ⟨some 24, none, (.load 3 (.tmp 23))⟩,
              ⟨some 25, none, (.binOp .neq 3 (.tmp 20) (.tmp 24) 3)⟩])
            (.cond (.tmp 25)
             (.seq
              (.ops [⟨some 4, none, (.assign (.const (.bool false)))⟩])
              .ret)
             .skip)))
          (.ops [⟨some 15, none, (.move (.tmp 5))⟩,
            ⟨some 16, none, (.binOp .add 3 (.tmp 15) (.const (.int .i64 1)) 3)⟩,
            ⟨some 5, none, (.assign (.tmp 16))⟩]))))))
     (.seq
      (.ops [⟨some 4, none, (.assign (.const (.bool true)))⟩])
      .ret))))
theorem w21 {args : Array Value} {H : AH} {Φ : Value → AH → Prop} (h : rW Try.prog k21 [] (fin Try.prog [(.tmp 4)] Φ) (tm0 args) H) : CallsA Try.prog 21 args H Φ :=
  CallsA.w k21 [(.tmp 4)] (fun i => if i = 6 then [(3, 0), (7, 0)] else []) Try.func21 rfl rfl (by kernel_rfl) (by kernel_rfl) h

/-- laws.sameArray -/
def k29 : KC :=
  (.seq
   (.ops [⟨some 2, none, (.box 26 (.tmp 0))⟩,
     ⟨some 3, none, (.box 26 (.tmp 1))⟩,
     ⟨some 4, none, (.assign (.const (.bool false)))⟩])
   (.seq
    (.ops [⟨some 5, none, (.fieldAddr 26 (.tmp 2) 0)⟩,
      ⟨some 6, none, (.load 24 (.tmp 5))⟩,
      ⟨some 7, none, (.fieldAddr 26 (.tmp 3) 0)⟩,
      ⟨some 8, none, (.load 24 (.tmp 7))⟩,
      ⟨some 9, none, (.call ⟨(.value (.func 21)), #[(.tmp 6), (.tmp 8)], #[24, 24]⟩)⟩,
      ⟨some 10, none, (.move (.tmp 9))⟩,
      ⟨some 11, (some (10, true)), (.fieldAddr 26 (.tmp 2) 1)⟩,
      ⟨some 12, (some (10, true)), (.load 24 (.tmp 11))⟩,
      ⟨some 13, (some (10, true)), (.fieldAddr 26 (.tmp 3) 1)⟩,
      ⟨some 14, (some (10, true)), (.load 24 (.tmp 13))⟩,
      ⟨some 15, (some (10, true)), (.call ⟨(.value (.func 21)), #[(.tmp 12), (.tmp 14)], #[24, 24]⟩)⟩,
      ⟨some 16, none, (.pick (.tmp 10) (.tmp 15) (.const (.bool false)))⟩,
      ⟨some 4, none, (.assign (.tmp 16))⟩])
    .ret))
theorem w29 {args : Array Value} {H : AH} {Φ : Value → AH → Prop} (h : rW Try.prog k29 [] (fin Try.prog [(.tmp 4)] Φ) (tm0 args) H) : CallsA Try.prog 29 args H Φ :=
  CallsA.w k29 [(.tmp 4)] (fun _ => []) Try.func29 rfl rfl (by kernel_rfl) (by kernel_rfl) h

/-- spec.l1Byte -/
def k161 : KC :=
  (.seq
   (.ops [⟨some 2, none, (.assign (.const (.int .i64 0)))⟩])
   (.seq
    (.ops [⟨some 4, none, (.move (.tmp 0))⟩,
      ⟨some 5, none, (.move (.tmp 0))⟩,
      ⟨some 6, none, (.nilCheck (.tmp 5))⟩,
      ⟨some 7, none, (.fieldAddr 142 (.tmp 6) 2)⟩,
      ⟨some 8, none, (.load 3 (.tmp 7))⟩,
      ⟨some 9, none, (.binOp .mul 3 (.tmp 8) (.const (.int .i64 6364136223846793005)) 3)⟩,
      ⟨some 10, none, (.binOp .add 3 (.tmp 9) (.const (.int .i64 1442695040888963407)) 3)⟩,
      ⟨some 11, none, (.nilCheck (.tmp 4))⟩,
      ⟨some 12, none, (.fieldAddr 142 (.tmp 11) 2)⟩,
      ⟨none, none, (.store 3 (.tmp 12) (.tmp 10))⟩])
    (.seq
     (.ops [⟨some 13, none, (.move (.tmp 0))⟩,
       ⟨some 14, none, (.nilCheck (.tmp 13))⟩,
       ⟨some 15, none, (.fieldAddr 142 (.tmp 14) 2)⟩,
       ⟨some 16, none, (.load 3 (.tmp 15))⟩,
       ⟨some 17, none, (.binOp .shr 3 (.tmp 16) (.const (.int .u64 33)) 106)⟩,
       ⟨some 18, none, (.move (.tmp 0))⟩,
       ⟨some 19, none, (.nilCheck (.tmp 18))⟩,
       ⟨some 20, none, (.fieldAddr 142 (.tmp 19) 2)⟩,
       ⟨some 21, none, (.load 3 (.tmp 20))⟩,
       ⟨some 22, none, (.binOp .shr 3 (.tmp 21) (.const (.int .u64 45)) 106)⟩,
       ⟨some 23, none, (.binOp .xor 3 (.tmp 17) (.tmp 22) 3)⟩,
       ⟨some 24, none, (.binOp .and 3 (.tmp 23) (.const (.int .i64 255)) 3)⟩,
       ⟨some 3, none, (.assign (.tmp 24))⟩])
     (.seq
      (.seq
       (.ops [⟨some 25, none, (.move (.tmp 0))⟩,
         ⟨some 26, none, (.nilCheck (.tmp 25))⟩,
         ⟨some 27, none, (.fieldAddr 142 (.tmp 26) 1)⟩,
         ⟨some 28, none, (.load 3 (.tmp 27))⟩,
         ⟨some 29, none, (.move (.tmp 0))⟩,
         ⟨some 30, none, (.nilCheck (.tmp 29))⟩,
         ⟨some 31, none, (.fieldAddr 142 (.tmp 30) 0)⟩,
         ⟨some 32, none, (.load 22 (.tmp 31))⟩,
         ⟨some 33, none, (.call ⟨(.builtin .len), #[(.tmp 32)], #[22]⟩)⟩,
         ⟨some 34, none, (.binOp .lss 3 (.tmp 28) (.tmp 33) 3)⟩])
       (.cond (.tmp 34)
        (.seq
         (.ops [⟨some 35, none, (.move (.tmp 3))⟩,
           ⟨some 36, none, (.move (.tmp 0))⟩,
           ⟨some 37, none, (.nilCheck (.tmp 36))⟩,
           ⟨some 38, none, (.fieldAddr 142 (.tmp 37) 0)⟩,
           ⟨some 39, none, (.load 22 (.tmp 38))⟩,
           ⟨some 40, none, (.move (.tmp 0))⟩,
           ⟨some 41, none, (.nilCheck (.tmp 40))⟩,
           ⟨some 42, none, (.fieldAddr 142 (.tmp 41) 1)⟩,
           ⟨some 43, none, (.load 3 (.tmp 42))⟩,
           ⟨some 44, none, (.indexAddr 22 (.tmp 39) (.tmp 43))⟩,
           ⟨some 45, none, (.load 5 (.tmp 44))⟩,
           ⟨some 46, none, (.convert 5 3 (.tmp 45))⟩,
           ⟨some 47, none, (.binOp .add 3 (.tmp 35) (.tmp 46) 3)⟩,
           ⟨some 48, none, (.binOp .and 3 (.tmp 47) (.const (.int .i64 255)) 3)⟩,
           ⟨some 3, none, (.assign (.tmp 48))⟩])
         (.ops [⟨some 49, none, (.move (.tmp 0))⟩,
           ⟨some 50, none, (.move (.tmp 0))⟩,
           ⟨some 51, none, (.nilCheck (.tmp 50))⟩,
           ⟨some 52, none, (.fieldAddr 142 (.tmp 51) 1)⟩,
           ⟨some 53, none, (.load 3 (.tmp 52))⟩,
           ⟨some 54, none, (.binOp .add 3 (.tmp 53) (.const (.int .i64 1)) 3)⟩,
           ⟨some 55, none, (.nilCheck (.tmp 49))⟩,
           ⟨some 56, none, (.fieldAddr 142 (.tmp 55) 1)⟩,
           ⟨none, none, (.store 3 (.tmp 56) (.tmp 54))⟩]))
        .skip))
      (.seq
       (.ops [⟨some 57, none, (.move (.tmp 3))⟩,
         ⟨some 2, none, (.assign (.tmp 57))⟩])
       .ret)))))
theorem w161 {args : Array Value} {H : AH} {Φ : Value → AH → Prop} (h : rW Try.prog k161 [] (fin Try.prog [(.tmp 2)] Φ) (tm0 args) H) : CallsA Try.prog 161 args H Φ :=
  CallsA.w k161 [(.tmp 2)] (fun i => if i = 2 then [(3, 0), (8, 0)] else if i = 3 then [(3, 0), (7, 0)] else if i = 4 then [(4, 0), (8, 0), (10, 0), (11, 0)] else []) Try.func161 rfl rfl (by kernel_rfl) (by kernel_rfl) h

/-- spec.l1Below -/
def k101 : KC :=
  (.seq
   (.ops [⟨some 4, none, (.assign (.const (.int .i64 0)))⟩])
   (.seq
    (.seq
     (.ops [⟨some 9, none, (.move (.tmp 1))⟩,
       ⟨some 10, none, (.binOp .leq 3 (.tmp 9) (.const (.int .i64 0)) 3)⟩])
     (.cond (.tmp 10)
      (.seq
       (.ops [⟨some 4, none, (.assign (.const (.int .i64 0)))⟩])
       .ret)
      .skip))
    (.seq
     (.seq
      (.ops [⟨some 11, none, (.move (.tmp 1))⟩,
        ⟨some 12, none, (.binOp .leq 3 (.tmp 11) (.const (.int .i64 256)) 3)⟩])
      (.cond (.tmp 12)
       (.seq
        (.ops [⟨some 13, none, (.move (.tmp 0))⟩,
          ⟨some 14, none, (.call ⟨(.value (.func 161)), #[(.tmp 13)], #[80]⟩)⟩,
          ⟨some 15, none, (.move (.tmp 1))⟩,
          ⟨some 16, none, (.binOp .rem 3 (.tmp 14) (.tmp 15) 3)⟩,
          ⟨some 4, none, (.assign (.tmp 16))⟩])
        .ret)
       .skip))
     (.seq
      (.ops [⟨some 17, none, (.move (.tmp 0))⟩,
        ⟨some 18, none, (.call ⟨(.value (.func 161)), #[(.tmp 17)], #[80]⟩)⟩,
        ⟨some 5, none, (.assign (.tmp 18))⟩])
      (.seq
       (.ops [⟨some 19, none, (.move (.tmp 0))⟩,
         ⟨some 20, none, (.call ⟨(.value (.func 161)), #[(.tmp 19)], #[80]⟩)⟩,
         ⟨some 6, none, (.assign (.tmp 20))⟩])
       (.seq
        (.ops [⟨some 21, none, (.move (.tmp 0))⟩,
          ⟨some 22, none, (.call ⟨(.value (.func 161)), #[(.tmp 21)], #[80]⟩)⟩,
          ⟨some 7, none, (.assign (.tmp 22))⟩])
        (.seq
         (.ops [⟨some 23, none, (.move (.tmp 0))⟩,
           ⟨some 24, none, (.call ⟨(.value (.func 161)), #[(.tmp 23)], #[80]⟩)⟩,
           ⟨some 8, none, (.assign (.tmp 24))⟩])
         (.seq
          (.ops [⟨some 25, none, (.move (.tmp 5))⟩,
            ⟨some 26, none, (.binOp .mul 3 (.tmp 25) (.const (.int .i64 16777216)) 3)⟩,
            ⟨some 27, none, (.move (.tmp 6))⟩,
            ⟨some 28, none, (.binOp .mul 3 (.tmp 27) (.const (.int .i64 65536)) 3)⟩,
            ⟨some 29, none, (.binOp .add 3 (.tmp 26) (.tmp 28) 3)⟩,
            ⟨some 30, none, (.move (.tmp 7))⟩,
            ⟨some 31, none, (.binOp .mul 3 (.tmp 30) (.const (.int .i64 256)) 3)⟩,
            ⟨some 32, none, (.binOp .add 3 (.tmp 29) (.tmp 31) 3)⟩,
            ⟨some 33, none, (.move (.tmp 8))⟩,
            ⟨some 34, none, (.binOp .add 3 (.tmp 32) (.tmp 33) 3)⟩,
            ⟨some 35, none, (.move (.tmp 1))⟩,
            ⟨some 36, none, (.binOp .rem 3 (.tmp 34) (.tmp 35) 3)⟩,
            ⟨some 4, none, (.assign (.tmp 36))⟩])
          .ret))))))))
theorem w101 {args : Array Value} {H : AH} {Φ : Value → AH → Prop} (h : rW Try.prog k101 [] (fin Try.prog [(.tmp 4)] Φ) (tm0 args) H) : CallsA Try.prog 101 args H Φ :=
  CallsA.w k101 [(.tmp 4)] (fun _ => []) Try.func101 rfl rfl (by kernel_rfl) (by kernel_rfl) h

/-- spec.l1In -/
def k150 : KC :=
  (.seq
   (.ops [⟨some 6, none, (.assign (.const (.bool false)))⟩])
   (.seq
    (.ops [⟨some 7, none, (.move (.tmp 0))⟩,
      ⟨some 8, none, (.move (.tmp 1))⟩,
      ⟨some 9, none, (.binOp .geq 3 (.tmp 7) (.tmp 8) 3)⟩,
      ⟨some 10, none, (.move (.tmp 9))⟩,
      ⟨some 11, (some (10, true)), (.move (.tmp 0))⟩,
      ⟨some 12, (some (10, true)), (.move (.tmp 2))⟩,
      ⟨some 13, (some (10, true)), (.binOp .leq 3 (.tmp 11) (.tmp 12) 3)⟩,
      ⟨some 14, none, (.pick (.tmp 10) (.tmp 13) (.const (.bool false)))⟩,
      ⟨some 6, none, (.assign (.tmp 14))⟩])
    .ret))
theorem w150 {args : Array Value} {H : AH} {Φ : Value → AH → Prop} (h : rW Try.prog k150 [] (fin Try.prog [(.tmp 6)] Φ) (tm0 args) H) : CallsA Try.prog 150 args H Φ :=
  CallsA.w k150 [(.tmp 6)] (fun _ => []) Try.func150 rfl rfl (by kernel_rfl) (by kernel_rfl) h

/-- spec.SizeOf -/
def k136 : KC :=
  (.seq
   (.ops [⟨some 2, none, (.assign (.const (.int .i64 0)))⟩])
   (.seq
    (.seq
     (.ops [⟨some 7, none, (.move (.tmp 0))⟩,
       ⟨some 8, none, (.call ⟨(.builtin .len), #[(.tmp 7)], #[24]⟩)⟩,
       ⟨some 9, none, (.binOp .gtr 3 (.tmp 8) (.const (.int .i64 3)) 3)⟩])
     (.cond (.tmp 9)
      (.seq
       (.ops [⟨some 2, none, (.assign (.const (.int .i64 (-1))))⟩])
       .ret)
      .skip))
    (.seq
     (.ops [⟨some 3, none, (.assign (.const (.bool false)))⟩])
     (.seq
      (.seq
       (.ops [⟨some 4, none, (.assign (.const (.int .i64 0)))⟩])
       (.block 0
        (.loop
         (.seq
          (.seq
           (.ops [⟨some 10, none, (.move (.tmp 4))⟩,
             ⟨some 11, none, (.move (.tmp 0))⟩,
             ⟨some 12, none, (.call ⟨(.builtin .len), #[(.tmp 11)], #[24]⟩)⟩,
             ⟨some 13, none, (.binOp .lss 3 (.tmp 10) (.tmp 12) 3)⟩])
           (.cond (.tmp 13)
            .skip
            (.exit 0)))
          (.seq
           (.block 1
            (.seq
             (.seq
              (.ops [⟨some 16, none, (.move (.tmp 0))⟩,
                ⟨some 17, none, (.move (.tmp 4))⟩,
                ⟨some 18, none, (.indexAddr 24 (.tmp 16) (.tmp 17))⟩,
                ⟨some 19, none, (.load 3 (.tmp 18))⟩,
                ⟨some 20, none, (.call ⟨(.value (.func 150)), #[(.tmp 19), (.const (.int .i64 0)), (.const (.int .i64 300))], #[3, 3, 3]⟩)⟩,
                ⟨some 21, none, (.unOp .not 4 (.tmp 20))⟩])
              (.cond (.tmp 21)
               (.seq
                (.ops [⟨some 2, none, (.assign (.const (.int .i64 (-1))))⟩])
                .ret)
               .skip))
             (.ops [⟨some 22, none, (.move (.tmp 3))⟩,
               ⟨some 23, none, (.move (.tmp 22))⟩,
               ⟨some 24, (some (23, false)), (.move (.tmp 0))⟩,
               ⟨some 25, (some (23, false)), (.move (.tmp 4))⟩,
               ⟨some 26, (some (23, false)), (.indexAddr 24 (.tmp 24) (.tmp 25))⟩,
               ⟨some 27, (some (23, false)), (.load 3 (.tmp 26))⟩,
               ⟨some 28, (some (23, false)), (.binOp .eql 3 (.tmp 27) (.const (.int .i64 0)) 3)⟩,
               ⟨some 29, none, (.pick (.tmp 23) (.const (.bool true)) (.tmp 28))⟩,
               ⟨some 3, none, (.assign (.tmp 29))⟩])))
           (.ops [⟨some 14, none, (.move (.tmp 4))⟩,
             ⟨some 15, none, (.binOp .add 3 (.tmp 14) (.const (.int .i64 1)) 3)⟩,
             ⟨some 4, none, (.assign (.tmp 15))⟩]))))))
      (.seq
       (.ops [⟨some 5, none, (.assign (.const (.int .i64 1)))⟩])
       (.seq
        (.seq
         (.ops [⟨some 6, none, (.assign (.const (.int .i64 0)))⟩])
         (.block 2
          (.loop
           (.seq
            (.seq
             (.ops [⟨some 30, none, (.move (.tmp 6))⟩,
               ⟨some 31, none, (.move (.tmp 0))⟩,
               ⟨some 32, none, (.call ⟨(.builtin .len), #[(.tmp 31)], #[24]⟩)⟩,
               ⟨some 33, none, (.binOp .lss 3 (.tmp 30) (.tmp 32) 3)⟩])
             (.cond (.tmp 33)
              .skip
              (.exit 2)))
            (.seq
             (.block 3
              (.ops [⟨some 36, none, (.move (.tmp 5))⟩,
                ⟨some 37, none, (.move (.tmp 0))⟩,
                ⟨some 38, none, (.move (.tmp 6))⟩,
                ⟨some 39, none, (.indexAddr 24 (.tmp 37) (.tmp 38))⟩,
                ⟨some 40, none, (.load 3 (.tmp 39))⟩,
                ⟨some 41, none, (.binOp .mul 3 (.tmp 36) (.tmp 40) 3)⟩,
                ⟨some 5, none, (.assign (.tmp 41))⟩]))
             (.ops [⟨some 34, none, (.move (.tmp 6))⟩,
               ⟨some 35, none, (.binOp .add 3 (.tmp 34) (.const (.int .i64 1)) 3)⟩,
               ⟨some 6, none, (.assign (.tmp 35))⟩]))))))
        (.seq
         (.seq
          (.ops [⟨some 42, none, (.move (.tmp 5))⟩,
            ⟨some 43, none, (.binOp .gtr 3 (.tmp 42) (.const (.int .i64 300)) 3)⟩,
            ⟨some 44, none, (.move (.tmp 43))⟩,
            ⟨some 45, (some (44, true)), (.move (.tmp 3))⟩,
            ⟨some 46, (some (44, true)), (.unOp .not 4 (.tmp 45))⟩,
            ⟨some 47, none, (.pick (.tmp 44) (.tmp 46) (.const (.bool false)))⟩])
          (.cond (.tmp 47)
           (.seq
            (.ops [⟨some 2, none, (.assign (.const (.int .i64 (-1))))⟩])
            .ret)
           .skip))
         (.seq
          (.ops [⟨some 48, none, (.move (.tmp 5))⟩,
            ⟨some 2, none, (.assign (.tmp 48))⟩])
          .ret))))))))
theorem w136 {args : Array Value} {H : AH} {Φ : Value → AH → Prop} (h : rW Try.prog k136 [] (fin Try.prog [(.tmp 2)] Φ) (tm0 args) H) : CallsA Try.prog 136 args H Φ :=
  CallsA.w k136 [(.tmp 2)] (fun _ => []) Try.func136 rfl rfl (by kernel_rfl) (by kernel_rfl) h

/-- spec.l1PickInt -/
def k100 : KC :=
  (.seq
   (.ops [⟨some 4, none, (.assign (.const (.int .i64 0)))⟩])
   (.seq
    (.ops [⟨some 5, none, (.move (.tmp 1))⟩,
      ⟨some 6, none, (.move (.tmp 0))⟩,
      ⟨some 7, none, (.move (.tmp 1))⟩,
      ⟨some 8, none, (.call ⟨(.builtin .len), #[(.tmp 7)], #[24]⟩)⟩,
      ⟨some 9, none, (.call ⟨(.value (.func 101)), #[(.tmp 6), (.tmp 8)], #[80, 3]⟩)⟩,
      ⟨some 10, none, (.indexAddr 24 (.tmp 5) (.tmp 9))⟩,
      ⟨some 11, none, (.load 3 (.tmp 10))⟩,
      ⟨some 4, none, (.assign (.tmp 11))⟩])
    .ret))
theorem w100 {args : Array Value} {H : AH} {Φ : Value → AH → Prop} (h : rW Try.prog k100 [] (fin Try.prog [(.tmp 4)] Φ) (tm0 args) H) : CallsA Try.prog 100 args H Φ :=
  CallsA.w k100 [(.tmp 4)] (fun _ => []) Try.func100 rfl rfl (by kernel_rfl) (by kernel_rfl) h

/-- spec.l1Once -/
def k110 : KC :=
  (.seq
   (.ops [⟨some 4, none, (.assign (.const (.bool false)))⟩])
   (.seq
    (.ops [⟨some 5, none, (.move (.tmp 0))⟩,
      ⟨some 6, none, (.move (.tmp 1))⟩,
      ⟨some 7, none, (.call ⟨(.value (.func 101)), #[(.tmp 5), (.tmp 6)], #[80, 3]⟩)⟩,
      ⟨some 8, none, (.binOp .eql 3 (.tmp 7) (.const (.int .i64 0)) 3)⟩,
      ⟨some 4, none, (.assign (.tmp 8))⟩])
    .ret))
theorem w110 {args : Array Value} {H : AH} {Φ : Value → AH → Prop} (h : rW Try.prog k110 [] (fin Try.prog [(.tmp 4)] Φ) (tm0 args) H) : CallsA Try.prog 110 args H Φ :=
  CallsA.w k110 [(.tmp 4)] (fun _ => []) Try.func110 rfl rfl (by kernel_rfl) (by kernel_rfl) h

/-- spec.l1DrawNum -/
def k164 : KC :=
  (.seq
   (.ops [⟨some 2, none, (.assign (.const (.int .i64 0)))⟩])
   (.seq
    (.seq
     (.ops [⟨some 3, none, (.move (.tmp 0))⟩,
       ⟨some 4, none, (.call ⟨(.value (.func 110)), #[(.tmp 3), (.const (.int .i64 12))], #[80, 3]⟩)⟩])
     (.cond (.tmp 4)
      (.seq
       (.ops [⟨some 5, none, (.move (.tmp 0))⟩,
         ⟨some 6, none, (.buildSlice 24 7 #[(0, (.const (.int .i64 1000000000000))), (1, (.const (.int .i64 (-1000000000000)))), (2, (.const (.int .i64 999999999999))), (3, (.const (.int .i64 1000000))), (4, (.const (.int .i64 (-1000000)))), (5, (.const (.int .i64 1000001))), (6, (.const (.int .i64 999999999999)))])⟩,
         ⟨some 7, none, (.call ⟨(.value (.func 100)), #[(.tmp 5), (.tmp 6)], #[80, 24]⟩)⟩,
         ⟨some 2, none, (.assign (.tmp 7))⟩])
       .ret)
      .skip))
    (.seq
     (.ops [⟨some 8, none, (.move (.tmp 0))⟩,
       ⟨some 9, none, (.call ⟨(.value (.func 101)), #[(.tmp 8), (.const (.int .i64 20))], #[80, 3]⟩)⟩,
       ⟨some 10, none, (.binOp .sub 3 (.tmp 9) (.const (.int .i64 6)) 3)⟩,
       ⟨some 2, none, (.assign (.tmp 10))⟩])
     .ret)))
theorem w164 {args : Array Value} {H : AH} {Φ : Value → AH → Prop} (h : rW Try.prog k164 [] (fin Try.prog [(.tmp 2)] Φ) (tm0 args) H) : CallsA Try.prog 164 args H Φ :=
  CallsA.w k164 [(.tmp 2)] (fun _ => []) Try.func164 rfl rfl (by kernel_rfl) (by kernel_rfl) h

/-- spec.l3Fill -/
def k111 : KC :=
  (.seq
   (.ops [⟨some 4, none, (.alloc 26)⟩])
   (.seq
    (.ops [⟨some 7, none, (.buildSlice 24 0 #[])⟩,
      ⟨some 8, none, (.move (.tmp 1))⟩,
      ⟨some 9, none, (.call ⟨(.builtin .append), #[(.tmp 7), (.tmp 8)], #[24, 24]⟩)⟩,
      ⟨some 10, none, (.build 26 #[(0, (.tmp 9))])⟩,
      ⟨some 5, none, (.alloc 26)⟩,
      ⟨none, none, (.store 26 (.tmp 5) (.tmp 10))⟩])
    (.seq
     (.seq
      (.ops [⟨some 6, none, (.assign (.const (.int .i64 0)))⟩])
      (.block 0
       (.loop
        (.seq
         (.seq
          (.ops [⟨some 11, none, (.move (.tmp 6))⟩,
            ⟨some 12, none, (.move (.tmp 1))⟩,
            ⟨some 13, none, (.call ⟨(.value (.func 136)), #[(.tmp 12)], #[24]⟩)⟩,
            ⟨some 14, none, (.binOp .lss 3 (.tmp 11) (.tmp 13) 3)⟩])
          (.cond (.tmp 14)
           .skip
           (.exit 0)))
         (.seq
          (.block 1
           (.draw #[] [(1, 0), (1, 4)]
             [⟨some 17, none, (.fieldAddr 26 (.tmp 5) 1)⟩,
             ⟨some 18, none, (.load 24 (.tmp 17))⟩,
             ⟨some 19, none, (.move (.tmp 0))⟩,
             ⟨some 20, none, (.call ⟨(.value (.func 164)), #[(.tmp 19)], #[80]⟩)⟩,
             ⟨some 21, none, (.buildSlice 24 1 #[(0, (.tmp 20))])⟩,
             ⟨some 22, none, (.call ⟨(.builtin .append), #[(.tmp 18), (.tmp 21)], #[24, 24]⟩)⟩,
             ⟨some 23, none, (.fieldAddr 26 (.tmp 5) 1)⟩,
             ⟨none, none, (.store 24 (.tmp 23) (.tmp 22))⟩]))
          (.ops [⟨some 15, none, (.move (.tmp 6))⟩,
            ⟨some 16, none, (.binOp .add 3 (.tmp 15) (.const (.int .i64 1)) 3)⟩,
            ⟨some 6, none, (.assign (.tmp 16))⟩]))))))
     (.seq
      (.ops [⟨some 24, none, (.load 26 (.tmp 5))⟩,
        ⟨none, none, (.store 26 (.tmp 4) (.tmp 24))⟩])
      .ret))))
theorem w111 {args : Array Value} {H : AH} {Φ : Value → AH → Prop} (h : rW Try.prog k111 [] (fin Try.prog [(.cell 4 26)] Φ) (tm0 args) H) : CallsA Try.prog 111 args H Φ :=
  CallsA.w k111 [(.cell 4 26)] (fun i => if i = 5 then [(1, 0), (1, 4)] else []) Try.func111 rfl rfl (by kernel_rfl) (by kernel_rfl) h

/-- spec.l2DrawRight -/
def k181 : KC :=
  (.seq
   (.ops [⟨some 2, none, (.assign (.const (.slice none 0 0)))⟩])
   (.seq
    (.seq
     (.ops [⟨some 3, none, (.move (.tmp 0))⟩,
       ⟨some 4, none, (.call ⟨(.value (.func 101)), #[(.tmp 3), (.const (.int .i64 5))], #[80, 3]⟩)⟩])
     (.block 0
      (.seq
       (.ops [⟨some 6, none, (.binOp .eql 3 (.tmp 4) (.const (.int .i64 0)) 3)⟩,
         ⟨some 5, none, (.assign (.tmp 6))⟩])
       (.cond (.tmp 5)
        (.seq
         (.ops [⟨some 7, none, (.buildSlice 24 0 #[])⟩,
           ⟨some 2, none, (.assign (.tmp 7))⟩])
         .ret)
        (.seq
         (.seq
          (.ops [⟨some 9, none, (.binOp .eql 3 (.tmp 4) (.const (.int .i64 1)) 3)⟩,
            ⟨some 8, none, (.assign (.tmp 9))⟩])
          (.cond (.tmp 8)
           .skip
           (.ops [⟨some 10, none, (.binOp .eql 3 (.tmp 4) (.const (.int .i64 2)) 3)⟩,
             ⟨some 8, none, (.assign (.tmp 10))⟩])))
         (.cond (.tmp 8)
          (.seq
           (.ops [⟨some 11, none, (.move (.tmp 0))⟩,
             ⟨some 12, none, (.call ⟨(.value (.func 101)), #[(.tmp 11), (.const (.int .i64 6))], #[80, 3]⟩)⟩,
             ⟨some 13, none, (.buildSlice 24 1 #[(0, (.tmp 12))])⟩,
             ⟨some 2, none, (.assign (.tmp 13))⟩])
           .ret)
          (.seq
           (.ops [⟨some 15, none, (.binOp .eql 3 (.tmp 4) (.const (.int .i64 3)) 3)⟩,
             ⟨some 14, none, (.assign (.tmp 15))⟩])
           (.cond (.tmp 14)
            (.seq
             (.ops [⟨some 16, none, (.move (.tmp 0))⟩,
               ⟨some 17, none, (.call ⟨(.value (.func 101)), #[(.tmp 16), (.const (.int .i64 4))], #[80, 3]⟩)⟩,
               ⟨some 18, none, (.move (.tmp 0))⟩,
               ⟨some 19, none, (.call ⟨(.value (.func 101)), #[(.tmp 18), (.const (.int .i64 3))], #[80, 3]⟩)⟩,
               ⟨some 20, none, (.binOp .add 3 (.const (.int .i64 1)) (.tmp 19) 3)⟩,
               ⟨some 21, none, (.buildSlice 24 2 #[(0, (.tmp 17)), (1, (.tmp 20))])⟩,
               ⟨some 2, none, (.assign (.tmp 21))⟩])
             .ret)
            .skip))))))))
    (.seq
     (.ops [⟨some 22, none, (.move (.tmp 0))⟩,
       ⟨some 23, none, (.call ⟨(.value (.func 101)), #[(.tmp 22), (.const (.int .i64 3))], #[80, 3]⟩)⟩,
       ⟨some 24, none, (.binOp .add 3 (.const (.int .i64 1)) (.tmp 23) 3)⟩,
       ⟨some 25, none, (.move (.tmp 0))⟩,
       ⟨some 26, none, (.call ⟨(.value (.func 101)), #[(.tmp 25), (.const (.int .i64 2))], #[80, 3]⟩)⟩,
       ⟨some 27, none, (.binOp .add 3 (.const (.int .i64 1)) (.tmp 26) 3)⟩,
       ⟨some 28, none, (.move (.tmp 0))⟩,
       ⟨some 29, none, (.call ⟨(.value (.func 101)), #[(.tmp 28), (.const (.int .i64 4))], #[80, 3]⟩)⟩,
       ⟨some 30, none, (.buildSlice 24 3 #[(0, (.tmp 24)), (1, (.tmp 27)), (2, (.tmp 29))])⟩,
       ⟨some 2, none, (.assign (.tmp 30))⟩])
     .ret)))
theorem w181 {args : Array Value} {H : AH} {Φ : Value → AH → Prop} (h : rW Try.prog k181 [] (fin Try.prog [(.tmp 2)] Φ) (tm0 args) H) : CallsA Try.prog 181 args H Φ :=
  CallsA.w k181 [(.tmp 2)] (fun _ => []) Try.func181 rfl rfl (by kernel_rfl) (by kernel_rfl) h

/-- spec.l3DrawRight -/
def k145 : KC :=
  (.seq
   (.ops [⟨some 2, none, (.alloc 26)⟩])
   (.seq
    (.ops [⟨some 3, none, (.move (.tmp 0))⟩,
      ⟨some 4, none, (.move (.tmp 0))⟩,
      ⟨some 5, none, (.call ⟨(.value (.func 181)), #[(.tmp 4)], #[80]⟩)⟩,
      ⟨some 6, none, (.call ⟨(.value (.func 111)), #[(.tmp 3), (.tmp 5)], #[80, 24]⟩)⟩,
      ⟨none, none, (.store 26 (.tmp 2) (.tmp 6))⟩])
    .ret))
theorem w145 {args : Array Value} {H : AH} {Φ : Value → AH → Prop} (h : rW Try.prog k145 [] (fin Try.prog [(.cell 2 26)] Φ) (tm0 args) H) : CallsA Try.prog 145 args H Φ :=
  CallsA.w k145 [(.cell 2 26)] (fun _ => []) Try.func145 rfl rfl (by kernel_rfl) (by kernel_rfl) h

/-- spec.l2Draw -/
def k146 : KC :=
  (.seq
   (.ops [⟨some 2, none, (.assign (.const (.slice none 0 0)))⟩])
   (.seq
    (.ops [⟨some 4, none, (.move (.tmp 0))⟩,
      ⟨some 5, none, (.call ⟨(.value (.func 181)), #[(.tmp 4)], #[80]⟩)⟩,
      ⟨some 3, none, (.assign (.tmp 5))⟩])
    (.seq
     (.seq
      (.ops [⟨some 6, none, (.move (.tmp 0))⟩,
        ⟨some 7, none, (.call ⟨(.value (.func 101)), #[(.tmp 6), (.const (.int .i64 20))], #[80, 3]⟩)⟩])
      (.block 0
       (.seq
        (.ops [⟨some 9, none, (.binOp .eql 3 (.tmp 7) (.const (.int .i64 0)) 3)⟩,
          ⟨some 8, none, (.assign (.tmp 9))⟩])
        (.cond (.tmp 8)
         (.ops [⟨some 10, none, (.move (.tmp 3))⟩,
           ⟨some 11, none, (.move (.tmp 0))⟩,
           ⟨some 12, none, (.buildSlice 24 4 #[(0, (.const (.int .i64 (-1)))), (1, (.const (.int .i64 0))), (2, (.const (.int .i64 300))), (3, (.const (.int .i64 301)))])⟩,
           ⟨some 13, none, (.call ⟨(.value (.func 100)), #[(.tmp 11), (.tmp 12)], #[80, 24]⟩)⟩,
           ⟨some 14, none, (.buildSlice 24 1 #[(0, (.tmp 13))])⟩,
           ⟨some 15, none, (.call ⟨(.builtin .append), #[(.tmp 10), (.tmp 14)], #[24, 24]⟩)⟩,
           ⟨some 3, none, (.assign (.tmp 15))⟩])
         (.seq
          (.ops [⟨some 17, none, (.binOp .eql 3 (.tmp 7) (.const (.int .i64 1)) 3)⟩,
            ⟨some 16, none, (.assign (.tmp 17))⟩])
          (.cond (.tmp 16)
           (.ops [⟨some 18, none, (.buildSlice 24 4 #[(0, (.const (.int .i64 1))), (1, (.const (.int .i64 1))), (2, (.const (.int .i64 1))), (3, (.const (.int .i64 1)))])⟩,
             ⟨some 3, none, (.assign (.tmp 18))⟩])
           (.seq
            (.ops [⟨some 20, none, (.binOp .eql 3 (.tmp 7) (.const (.int .i64 2)) 3)⟩,
              ⟨some 19, none, (.assign (.tmp 20))⟩])
            (.cond (.tmp 19)
             (.ops [⟨some 21, none, (.move (.tmp 0))⟩,
               ⟨some 22, none, (.buildSlice 24 4 #[(0, (.const (.int .i64 17))), (1, (.const (.int .i64 20))), (2, (.const (.int .i64 15))), (3, (.const (.int .i64 300)))])⟩,
               ⟨some 23, none, (.call ⟨(.value (.func 100)), #[(.tmp 21), (.tmp 22)], #[80, 24]⟩)⟩,
               ⟨some 24, none, (.move (.tmp 0))⟩,
               ⟨some 25, none, (.buildSlice 24 4 #[(0, (.const (.int .i64 15))), (1, (.const (.int .i64 20))), (2, (.const (.int .i64 16))), (3, (.const (.int .i64 0)))])⟩,
               ⟨some 26, none, (.call ⟨(.value (.func 100)), #[(.tmp 24), (.tmp 25)], #[80, 24]⟩)⟩,
               ⟨some 27, none, (.buildSlice 24 2 #[(0, (.tmp 23)), (1, (.tmp 26))])⟩,
               ⟨some 3, none, (.assign (.tmp 27))⟩])
             .skip))))))))
     (.seq
      (.ops [⟨some 28, none, (.move (.tmp 3))⟩,
        ⟨some 2, none, (.assign (.tmp 28))⟩])
      .ret))))
theorem w146 {args : Array Value} {H : AH} {Φ : Value → AH → Prop} (h : rW Try.prog k146 [] (fin Try.prog [(.tmp 2)] Φ) (tm0 args) H) : CallsA Try.prog 146 args H Φ :=
  CallsA.w k146 [(.tmp 2)] (fun _ => []) Try.func146 rfl rfl (by kernel_rfl) (by kernel_rfl) h

/-- spec.l1DrawRaw -/
def k147 : KC :=
  (.seq
   (.ops [⟨some 2, none, (.assign (.const (.int .i64 0)))⟩])
   (.seq
    (.seq
     (.ops [⟨some 3, none, (.move (.tmp 0))⟩,
       ⟨some 4, none, (.call ⟨(.value (.func 110)), #[(.tmp 3), (.const (.int .i64 15))], #[80, 3]⟩)⟩])
     (.cond (.tmp 4)
      (.seq
       (.ops [⟨some 5, none, (.move (.tmp 0))⟩,
         ⟨some 6, none, (.buildSlice 24 4 #[(0, (.const (.int .i64 1000000000001))), (1, (.const (.int .i64 (-1000000000001)))), (2, (.const (.int .i64 9223372036854775807))), (3, (.const (.int .i64 (-9223372036854775808))))])⟩,
         ⟨some 7, none, (.call ⟨(.value (.func 100)), #[(.tmp 5), (.tmp 6)], #[80, 24]⟩)⟩,
         ⟨some 2, none, (.assign (.tmp 7))⟩])
       .ret)
      .skip))
    (.seq
     (.ops [⟨some 8, none, (.move (.tmp 0))⟩,
       ⟨some 9, none, (.call ⟨(.value (.func 164)), #[(.tmp 8)], #[80]⟩)⟩,
       ⟨some 2, none, (.assign (.tmp 9))⟩])
     .ret)))
theorem w147 {args : Array Value} {H : AH} {Φ : Value → AH → Prop} (h : rW Try.prog k147 [] (fin Try.prog [(.tmp 2)] Φ) (tm0 args) H) : CallsA Try.prog 147 args H Φ :=
  CallsA.w k147 [(.tmp 2)] (fun _ => []) Try.func147 rfl rfl (by kernel_rfl) (by kernel_rfl) h

/-- spec.l3Draw -/
def k73 : KC :=
  (.seq
   (.ops [⟨some 2, none, (.alloc 26)⟩])
   (.seq
    (.ops [⟨some 4, none, (.move (.tmp 0))⟩,
      ⟨some 5, none, (.call ⟨(.value (.func 145)), #[(.tmp 4)], #[80]⟩)⟩,
      ⟨some 3, none, (.alloc 26)⟩,
      ⟨none, none, (.store 26 (.tmp 3) (.tmp 5))⟩])
    (.seq
     (.seq
      (.ops [⟨some 6, none, (.move (.tmp 0))⟩,
        ⟨some 7, none, (.call ⟨(.value (.func 101)), #[(.tmp 6), (.const (.int .i64 20))], #[80, 3]⟩)⟩])
      (.block 0
       (.seq
        (.ops [⟨some 9, none, (.binOp .eql 3 (.tmp 7) (.const (.int .i64 0)) 3)⟩,
          ⟨some 8, none, (.assign (.tmp 9))⟩])
        (.cond (.tmp 8)
         (.ops [⟨some 10, none, (.fieldAddr 26 (.tmp 3) 1)⟩,
           ⟨some 11, none, (.load 24 (.tmp 10))⟩,
           ⟨some 12, none, (.buildSlice 24 1 #[(0, (.const (.int .i64 1)))])⟩,
           ⟨some 13, none, (.call ⟨(.builtin .append), #[(.tmp 11), (.tmp 12)], #[24, 24]⟩)⟩,
           ⟨some 14, none, (.fieldAddr 26 (.tmp 3) 1)⟩,
           ⟨none, none, (.store 24 (.tmp 14) (.tmp 13))⟩])
         (.seq
          (.ops [⟨some 16, none, (.binOp .eql 3 (.tmp 7) (.const (.int .i64 1)) 3)⟩,
            ⟨some 15, none, (.assign (.tmp 16))⟩])
          (.cond (.tmp 15)
           (.ops [⟨some 17, none, (.move (.tmp 0))⟩,
             ⟨some 18, none, (.call ⟨(.value (.func 146)), #[(.tmp 17)], #[80]⟩)⟩,
             ⟨some 19, none, (.fieldAddr 26 (.tmp 3) 0)⟩,
             ⟨none, none, (.store 24 (.tmp 19) (.tmp 18))⟩])
           (.seq
            (.ops [⟨some 21, none, (.binOp .eql 3 (.tmp 7) (.const (.int .i64 2)) 3)⟩,
              ⟨some 20, none, (.assign (.tmp 21))⟩])
            (.cond (.tmp 20)
             (.seq
              (.ops [⟨some 22, none, (.fieldAddr 26 (.tmp 3) 1)⟩,
                ⟨some 23, none, (.load 24 (.tmp 22))⟩,
                ⟨some 24, none, (.call ⟨(.builtin .len), #[(.tmp 23)], #[24]⟩)⟩,
                ⟨some 25, none, (.binOp .gtr 3 (.tmp 24) (.const (.int .i64 0)) 3)⟩])
              (.cond (.tmp 25)
               (.draw #[] [(1, 0), (1, 7), (1, 9), (4, 0)]
                 [⟨some 26, none, (.fieldAddr 26 (.tmp 3) 1)⟩,
                 ⟨some 27, none, (.load 24 (.tmp 26))⟩,
                 ⟨some 28, none, (.move (.tmp 0))⟩,
                 ⟨some 29, none, (.fieldAddr 26 (.tmp 3) 1)⟩,
                 ⟨some 30, none, (.load 24 (.tmp 29))⟩,
                 ⟨some 31, none, (.call ⟨(.builtin .len), #[(.tmp 30)], #[24]⟩)⟩,
                 ⟨some 32, none, (.call ⟨(.value (.func 101)), #[(.tmp 28), (.tmp 31)], #[80, 3]⟩)⟩,
                 ⟨some 33, none, (.move (.tmp 0))⟩,
                 ⟨some 34, none, (.call ⟨(.value (.func 147)), #[(.tmp 33)], #[80]⟩)⟩,
                 ⟨some 35, none, (.indexAddr 24 (.tmp 27) (.tmp 32))⟩,
                 ⟨none, none, (.store 3 (.tmp 35) (.tmp 34))⟩])
               .skip))
             (.seq
              (.ops [⟨some 37, none, (.binOp .eql 3 (.tmp 7) (.const (.int .i64 3)) 3)⟩,
                ⟨some 36, none, (.assign (.tmp 37))⟩])
              (.cond (.tmp 36)
               (.ops [⟨some 38, none, (.buildSlice 24 1 #[(0, (.const (.int .i64 300)))])⟩,
                 ⟨some 39, none, (.move (.tmp 0))⟩,
                 ⟨some 40, none, (.call ⟨(.value (.func 101)), #[(.tmp 39), (.const (.int .i64 2))], #[80, 3]⟩)⟩,
                 ⟨some 41, none, (.binOp .add 3 (.const (.int .i64 300)) (.tmp 40) 3)⟩,
                 ⟨some 42, none, (.makeSlice 24 (.tmp 41) (.tmp 41))⟩,
                 ⟨some 43, none, (.build 26 #[(0, (.tmp 38)), (1, (.tmp 42))])⟩,
                 ⟨none, none, (.store 26 (.tmp 3) (.tmp 43))⟩])
               .skip))))))))))
     (.seq
      (.ops [⟨some 44, none, (.load 26 (.tmp 3))⟩,
        ⟨none, none, (.store 26 (.tmp 2) (.tmp 44))⟩])
      .ret))))
theorem w73 {args : Array Value} {H : AH} {Φ : Value → AH → Prop} (h : rW Try.prog k73 [] (fin Try.prog [(.cell 2 26)] Φ) (tm0 args) H) : CallsA Try.prog 73 args H Φ :=
  CallsA.w k73 [(.cell 2 26)] (fun i => if i = 9 then [(1, 0), (1, 7), (1, 9), (4, 0)] else []) Try.func73 rfl rfl (by kernel_rfl) (by kernel_rfl) h

/-- spec.l1New -/
def k74 : KC :=
  (.seq
   (.ops [⟨some 2, none, (.assign (.const (.pointer none)))⟩])
   (.seq
    (.ops [⟨some 5, none, (.move (.tmp 0))⟩,
      ⟨some 6, none, (.call ⟨(.builtin .len), #[(.tmp 5)], #[22]⟩)⟩,
      ⟨some 7, none, (.binOp .add 3 (.const (.int .i64 18218)) (.tmp 6) 3)⟩,
      ⟨some 3, none, (.assign (.tmp 7))⟩])
    (.seq
     (.seq
      (.ops [⟨some 4, none, (.assign (.const (.int .i64 0)))⟩])
      (.block 0
       (.loop
        (.seq
         (.seq
          (.ops [⟨some 8, none, (.move (.tmp 4))⟩,
            ⟨some 9, none, (.move (.tmp 0))⟩,
            ⟨some 10, none, (.call ⟨(.builtin .len), #[(.tmp 9)], #[22]⟩)⟩,
            ⟨some 11, none, (.binOp .lss 3 (.tmp 8) (.tmp 10) 3)⟩,
            ⟨some 12, none, (.move (.tmp 11))⟩,
            ⟨some 13, (some (12, true)), (.move (.tmp 4))⟩,
            ⟨some 14, (some (12, true)), (.binOp .lss 3 (.tmp 13) (.const (.int .i64 4000)) 3)⟩,
            ⟨some 15, none, (.pick (.tmp 12) (.tmp 14) (.const (.bool false)))⟩])
          (.cond (.tmp 15)
           .skip
           (.exit 0)))
         (.seq
          (.block 1
           (.ops [⟨some 18, none, (.move (.tmp 3))⟩,
             ⟨some 19, none, (.binOp .mul 3 (.tmp 18) (.const (.int .i64 131)) 3)⟩,
             ⟨some 20, none, (.move (.tmp 0))⟩,
             ⟨some 21, none, (.move (.tmp 4))⟩,
             ⟨some 22, none, (.indexAddr 22 (.tmp 20) (.tmp 21))⟩,
             ⟨some 23, none, (.load 5 (.tmp 22))⟩,
             ⟨some 24, none, (.convert 5 3 (.tmp 23))⟩,
             ⟨some 25, none, (.binOp .add 3 (.tmp 19) (.tmp 24) 3)⟩,
             ⟨some 26, none, (.binOp .add 3 (.tmp 25) (.const (.int .i64 7)) 3)⟩,
             ⟨some 27, none, (.binOp .and 3 (.tmp 26) (.const (.int .i64 1073741823)) 3)⟩,
             ⟨some 3, none, (.assign (.tmp 27))⟩]))
          (.ops [⟨some 16, none, (.move (.tmp 4))⟩,
            ⟨some 17, none, (.binOp .add 3 (.tmp 16) (.const (.int .i64 1)) 3)⟩,
            ⟨some 4, none, (.assign (.tmp 17))⟩]))))))
     (.seq
      (.ops [⟨some 28, none, (.move (.tmp 0))⟩,
        ⟨some 29, none, (.move (.tmp 3))⟩,
        ⟨some 30, none, (.build 142 #[(0, (.tmp 28)), (2, (.tmp 29))])⟩,
        ⟨some 31, none, (.box 142 (.tmp 30))⟩,
        ⟨some 2, none, (.assign (.tmp 31))⟩])
      .ret))))
theorem w74 {args : Array Value} {H : AH} {Φ : Value → AH → Prop} (h : rW Try.prog k74 [] (fin Try.prog [(.tmp 2)] Φ) (tm0 args) H) : CallsA Try.prog 74 args H Φ :=
  CallsA.w k74 [(.tmp 2)] (fun _ => []) Try.func74 rfl rfl (by kernel_rfl) (by kernel_rfl) h

/-- spec.l1DrawSign -/
def k121 : KC :=
  (.seq
   (.ops [⟨some 2, none, (.assign (.const (.int .i64 0)))⟩])
   (.seq
    (.seq
     (.ops [⟨some 3, none, (.move (.tmp 0))⟩,
       ⟨some 4, none, (.call ⟨(.value (.func 110)), #[(.tmp 3), (.const (.int .i64 20))], #[80, 3]⟩)⟩])
     (.cond (.tmp 4)
      (.seq
       (.ops [⟨some 5, none, (.move (.tmp 0))⟩,
         ⟨some 6, none, (.buildSlice 24 5 #[(0, (.const (.int .i64 0))), (1, (.const (.int .i64 (-1)))), (2, (.const (.int .i64 105))), (3, (.const (.int .i64 300))), (4, (.const (.int .i64 47)))])⟩,
         ⟨some 7, none, (.call ⟨(.value (.func 100)), #[(.tmp 5), (.tmp 6)], #[80, 24]⟩)⟩,
         ⟨some 2, none, (.assign (.tmp 7))⟩])
       .ret)
      .skip))
    (.seq
     (.ops [⟨some 8, none, (.move (.tmp 0))⟩,
       ⟨some 9, none, (.buildSlice 24 11 #[(0, (.const (.int .i64 43))), (1, (.const (.int .i64 45))), (2, (.const (.int .i64 42))), (3, (.const (.int .i64 37))), (4, (.const (.int .i64 124))), (5, (.const (.int .i64 38))), (6, (.const (.int .i64 94))), (7, (.const (.int .i64 61))), (8, (.const (.int .i64 60))), (9, (.const (.int .i64 62))), (10, (.const (.int .i64 126)))])⟩,
       ⟨some 10, none, (.call ⟨(.value (.func 100)), #[(.tmp 8), (.tmp 9)], #[80, 24]⟩)⟩,
       ⟨some 2, none, (.assign (.tmp 10))⟩])
     .ret)))
theorem w121 {args : Array Value} {H : AH} {Φ : Value → AH → Prop} (h : rW Try.prog k121 [] (fin Try.prog [(.tmp 2)] Φ) (tm0 args) H) : CallsA Try.prog 121 args H Φ :=
  CallsA.w k121 [(.tmp 2)] (fun _ => []) Try.func121 rfl rfl (by kernel_rfl) (by kernel_rfl) h

/-- spec.DrawOuter -/
def k52 : KC :=
  (.seq
   (.ops [⟨some 2, none, (.assign (.const (.int .i64 0)))⟩,
     ⟨some 3, none, (.alloc 26)⟩,
     ⟨some 4, none, (.alloc 26)⟩])
   (.seq
    (.ops [⟨some 9, none, (.move (.tmp 0))⟩,
      ⟨some 10, none, (.call ⟨(.value (.func 74)), #[(.tmp 9)], #[22]⟩)⟩,
      ⟨some 5, none, (.assign (.tmp 10))⟩])
    (.seq
     (.ops [⟨some 11, none, (.move (.tmp 5))⟩,
       ⟨some 12, none, (.call ⟨(.value (.func 121)), #[(.tmp 11)], #[80]⟩)⟩,
       ⟨some 6, none, (.assign (.tmp 12))⟩])
     (.seq
      (.ops [⟨some 13, none, (.move (.tmp 5))⟩,
        ⟨some 14, none, (.call ⟨(.value (.func 73)), #[(.tmp 13)], #[80]⟩)⟩,
        ⟨some 7, none, (.alloc 26)⟩,
        ⟨none, none, (.store 26 (.tmp 7) (.tmp 14))⟩])
      (.seq
       (.ops [⟨some 15, none, (.move (.tmp 5))⟩,
         ⟨some 16, none, (.call ⟨(.value (.func 73)), #[(.tmp 15)], #[80]⟩)⟩,
         ⟨some 8, none, (.alloc 26)⟩,
         ⟨none, none, (.store 26 (.tmp 8) (.tmp 16))⟩])
       (.seq
        (.seq
         (.ops [⟨some 17, none, (.move (.tmp 5))⟩,
           ⟨some 18, none, (.call ⟨(.value (.func 110)), #[(.tmp 17), (.const (.int .i64 2))], #[80, 3]⟩)⟩])
         (.cond (.tmp 18)
          (.ops [⟨some 19, none, (.move (.tmp 5))⟩,
            ⟨some 20, none, (.move (.tmp 5))⟩,
            ⟨some 21, none, (.call ⟨(.value (.func 101)), #[(.tmp 20), (.const (.int .i64 5))], #[80, 3]⟩)⟩,
            ⟨some 22, none, (.buildSlice 24 1 #[(0, (.tmp 21))])⟩,
            ⟨some 23, none, (.call ⟨(.value (.func 111)), #[(.tmp 19), (.tmp 22)], #[80, 24]⟩)⟩,
            ⟨none, none, (.store 26 (.tmp 8) (.tmp 23))⟩])
          .skip))
        (.seq
         (.draw #[] [(1, 0), (2, 0), (2, 5)]
           [⟨some 24, none, (.move (.tmp 6))⟩,
           ⟨some 25, none, (.load 26 (.tmp 7))⟩,
           ⟨some 26, none, (.load 26 (.tmp 8))⟩,
           ⟨some 2, none, (.assign (.tmp 24))⟩,
           ⟨none, none, (.store 26 (.tmp 3) (.tmp 25))⟩,
           ⟨none, none, (.store 26 (.tmp 4) (.tmp 26))⟩])
         .ret)))))))
theorem w52 {args : Array Value} {H : AH} {Φ : Value → AH → Prop} (h : rW Try.prog k52 [] (fin Try.prog [(.tmp 2), (.cell 3 26), (.cell 4 26)] Φ) (tm0 args) H) : CallsA Try.prog 52 args H Φ :=
  CallsA.w k52 [(.tmp 2), (.cell 3 26), (.cell 4 26)] (fun i => if i = 7 then [(1, 0), (2, 0), (2, 5)] else []) Try.func52 rfl rfl (by kernel_rfl) (by kernel_rfl) h

/-- impl.hasSign -/
def k148 : KC :=
  (.seq
   (.ops [⟨some 4, none, (.assign (.const (.bool false)))⟩])
   (.seq
    (.seq
     (.ops [⟨some 5, none, (.assign (.const (.int .i64 0)))⟩])
     (.block 0
      (.loop
       (.seq
        (.seq
         (.ops [⟨some 6, none, (.move (.tmp 5))⟩,
           ⟨some 7, none, (.move (.tmp 0))⟩,
           ⟨some 8, none, (.call ⟨(.builtin .len), #[(.tmp 7)], #[9]⟩)⟩,
           ⟨some 9, none, (.binOp .lss 3 (.tmp 6) (.tmp 8) 3)⟩])
         (.cond (.tmp 9)
          .skip
          (.exit 0)))
        (.seq
         (.block 1
          (.seq
           (.ops [⟨some 12, none, (.move (.tmp 0))⟩,
             ⟨some 13, none, (.move (.tmp 5))⟩,
             ⟨some 14, none, (.index 9 (.tmp 12) (.tmp 13))⟩,
             ⟨some 15, none, (.convert 5 3 (.tmp 14))⟩,
             ⟨some 16, none, (.move (.tmp 1))⟩,
             ⟨some 17, none, (.binOp .eql 3 (.tmp 15) (.tmp 16) 3)⟩])
           (.cond (.tmp 17)
            (.seq
             (.ops [⟨some 4, none, (.assign (.const (.bool true)))⟩])
             .ret)
            .skip)))
         (.ops [⟨some 10, none, (.move (.tmp 5))⟩,
           ⟨some 11, none, (.binOp .add 3 (.tmp 10) (.const (.int .i64 1)) 3)⟩,
           ⟨some 5, none, (.assign (.tmp 11))⟩]))))))
    (.seq
     (.ops [⟨some 4, none, (.assign (.const (.bool false)))⟩])
     .ret)))
theorem w148 {args : Array Value} {H : AH} {Φ : Value → AH → Prop} (h : rW Try.prog k148 [] (fin Try.prog [(.tmp 4)] Φ) (tm0 args) H) : CallsA Try.prog 148 args H Φ :=
  CallsA.w k148 [(.tmp 4)] (fun _ => []) Try.func148 rfl rfl (by kernel_rfl) (by kernel_rfl) h

/-- impl.twoSign -/
def k77 : KC :=
  (.seq
   (.ops [⟨some 2, none, (.assign (.const (.bool false)))⟩])
   (.seq
    (.ops [⟨some 3, none, (.move (.tmp 0))⟩,
      ⟨some 4, none, (.call ⟨(.value (.func 148)), #[(.const (.string ⟨#[43, 45, 42, 37, 124, 38, 94, 61, 60, 62]⟩)), (.tmp 3)], #[9, 3]⟩)⟩,
      ⟨some 2, none, (.assign (.tmp 4))⟩])
    .ret))
theorem w77 {args : Array Value} {H : AH} {Φ : Value → AH → Prop} (h : rW Try.prog k77 [] (fin Try.prog [(.tmp 2)] Φ) (tm0 args) H) : CallsA Try.prog 77 args H Φ :=
  CallsA.w k77 [(.tmp 2)] (fun _ => []) Try.func77 rfl rfl (by kernel_rfl) (by kernel_rfl) h

/-- impl.product -/
def k125 : KC :=
  (.seq
   (.ops [⟨some 4, none, (.assign (.const (.int .i64 0)))⟩,
     ⟨some 5, none, (.assign (.const (.bool false)))⟩])
   (.seq
    (.seq
     (.ops [⟨some 6, none, (.move (.tmp 0))⟩,
       ⟨some 7, none, (.binOp .neq 3 (.tmp 6) (.const (.int .i64 0)) 3)⟩,
       ⟨some 8, none, (.move (.tmp 7))⟩,
       ⟨some 9, (some (8, true)), (.move (.tmp 1))⟩,
       ⟨some 10, (some (8, true)), (.move (.tmp 1))⟩,
       ⟨some 11, (some (8, true)), (.unOp .neg 3 (.tmp 10))⟩,
       ⟨some 12, (some (8, true)), (.call ⟨(.builtin .max), #[(.tmp 9), (.tmp 11)], #[3, 3]⟩)⟩,
       ⟨some 13, (some (8, true)), (.move (.tmp 0))⟩,
       ⟨some 14, (some (8, true)), (.move (.tmp 0))⟩,
       ⟨some 15, (some (8, true)), (.unOp .neg 3 (.tmp 14))⟩,
       ⟨some 16, (some (8, true)), (.call ⟨(.builtin .max), #[(.tmp 13), (.tmp 15)], #[3, 3]⟩)⟩,
       ⟨some 17, (some (8, true)), (.binOp .quo 3 (.const (.int .i64 1000000000000)) (.tmp 16) 3)⟩,
       ⟨some 18, (some (8, true)), (.binOp .gtr 3 (.tmp 12) (.tmp 17) 3)⟩,
       ⟨some 19, none, (.pick (.tmp 8) (.tmp 18) (.const (.bool false)))⟩])
     (.cond (.tmp 19)
      (.seq
       (.ops [⟨some 4, none, (.assign (.const (.int .i64 0)))⟩,
         ⟨some 5, none, (.assign (.const (.bool false)))⟩])
       .ret)
      .skip))
    (.seq
     (.ops [⟨some 20, none, (.move (.tmp 0))⟩,
       ⟨some 21, none, (.move (.tmp 1))⟩,
       ⟨some 22, none, (.binOp .mul 3 (.tmp 20) (.tmp 21) 3)⟩,
       ⟨some 4, none, (.assign (.tmp 22))⟩,
       ⟨some 5, none, (.assign (.const (.bool true)))⟩])
     .ret)))
theorem w125 {args : Array Value} {H : AH} {Φ : Value → AH → Prop} (h : rW Try.prog k125 [] (fin Try.prog [(.tmp 4), (.tmp 5)] Φ) (tm0 args) H) : CallsA Try.prog 125 args H Φ :=
  CallsA.w k125 [(.tmp 4), (.tmp 5)] (fun _ => []) Try.func125 rfl rfl (by kernel_rfl) (by kernel_rfl) h

/-- impl.floor -/
def k126 : KC :=
  (.seq
   (.ops [⟨some 4, none, (.assign (.const (.int .i64 0)))⟩])
   (.seq
    (.ops [⟨some 6, none, (.move (.tmp 0))⟩,
      ⟨some 7, none, (.move (.tmp 1))⟩,
      ⟨some 8, none, (.binOp .quo 3 (.tmp 6) (.tmp 7) 3)⟩,
      ⟨some 5, none, (.assign (.tmp 8))⟩])
    (.seq
     (.seq
      (.ops [⟨some 9, none, (.move (.tmp 0))⟩,
        ⟨some 10, none, (.move (.tmp 1))⟩,
        ⟨some 11, none, (.binOp .rem 3 (.tmp 9) (.tmp 10) 3)⟩,
        ⟨some 12, none, (.binOp .neq 3 (.tmp 11) (.const (.int .i64 0)) 3)⟩,
        ⟨some 13, none, (.move (.tmp 12))⟩,
        ⟨some 14, (some (13, true)), (.move (.tmp 0))⟩,
        ⟨some 15, (some (13, true)), (.binOp .lss 3 (.tmp 14) (.const (.int .i64 0)) 3)⟩,
        ⟨some 16, (some (13, true)), (.move (.tmp 1))⟩,
        ⟨some 17, (some (13, true)), (.binOp .lss 3 (.tmp 16) (.const (.int .i64 0)) 3)⟩,
        ⟨some 18, (some (13, true)), (.binOp .neq 4 (.tmp 15) (.tmp 17) 4)⟩,
        ⟨some 19, none, (.pick (.tmp 13) (.tmp 18) (.const (.bool false)))⟩])
      (.cond (.tmp 19)
       (.ops [⟨some 20, none, (.move (.tmp 5))⟩,
         ⟨some 21, none, (.binOp .sub 3 (.tmp 20) (.const (.int .i64 1)) 3)⟩,
         ⟨some 5, none, (.assign (.tmp 21))⟩])
       .skip))
     (.seq
      (.ops [⟨some 22, none, (.move (.tmp 5))⟩,
        ⟨some 4, none, (.assign (.tmp 22))⟩])
      .ret))))
theorem w126 {args : Array Value} {H : AH} {Φ : Value → AH → Prop} (h : rW Try.prog k126 [] (fin Try.prog [(.tmp 4)] Φ) (tm0 args) H) : CallsA Try.prog 126 args H Φ :=
  CallsA.w k126 [(.tmp 4)] (fun _ => []) Try.func126 rfl rfl (by kernel_rfl) (by kernel_rfl) h

/-- impl.truth -/
def k127 : KC :=
  (.seq
   (.ops [⟨some 2, none, (.assign (.const (.int .i64 0)))⟩])
   (.seq
    (.seq
     (.ops [⟨some 3, none, (.move (.tmp 0))⟩])
     (.cond (.tmp 3)
      (.seq
       (.ops [⟨some 2, none, (.assign (.const (.int .i64 1)))⟩])
       .ret)
      .skip))
    (.seq
     (.ops [⟨some 2, none, (.assign (.const (.int .i64 0)))⟩])
     .ret)))
theorem w127 {args : Array Value} {H : AH} {Φ : Value → AH → Prop} (h : rW Try.prog k127 [] (fin Try.prog [(.tmp 2)] Φ) (tm0 args) H) : CallsA Try.prog 127 args H Φ :=
  CallsA.w k127 [(.tmp 2)] (fun _ => []) Try.func127 rfl rfl (by kernel_rfl) (by kernel_rfl) h

/-- impl.Two -/
def k55 : KC :=
  (.seq
   (.ops [⟨some 6, none, (.assign (.const (.int .i64 0)))⟩,
     ⟨some 7, none, (.assign (.const (.int .i64 0)))⟩])
   (.seq
    (.seq
     (.ops [⟨some 10, none, (.move (.tmp 0))⟩,
       ⟨some 11, none, (.call ⟨(.value (.func 77)), #[(.tmp 10)], #[3]⟩)⟩,
       ⟨some 12, none, (.unOp .not 4 (.tmp 11))⟩,
       ⟨some 13, none, (.move (.tmp 12))⟩,
       ⟨some 14, (some (13, false)), (.move (.tmp 1))⟩,
       ⟨some 15, (some (13, false)), (.call ⟨(.value (.func 87)), #[(.tmp 14)], #[3]⟩)⟩,
       ⟨some 16, (some (13, false)), (.unOp .not 4 (.tmp 15))⟩,
       ⟨some 17, none, (.pick (.tmp 13) (.const (.bool true)) (.tmp 16))⟩,
       ⟨some 18, none, (.move (.tmp 17))⟩,
       ⟨some 19, (some (18, false)), (.move (.tmp 2))⟩,
       ⟨some 20, (some (18, false)), (.call ⟨(.value (.func 87)), #[(.tmp 19)], #[3]⟩)⟩,
       ⟨some 21, (some (18, false)), (.unOp .not 4 (.tmp 20))⟩,
       ⟨some 22, none, (.pick (.tmp 18) (.const (.bool true)) (.tmp 21))⟩])
     (.cond (.tmp 22)
      (.seq
       (.ops [⟨some 6, none, (.assign (.const (.int .i64 0)))⟩,
         ⟨some 7, none, (.assign (.const (.int .i64 1)))⟩])
       .ret)
      .skip))
    (.seq
     (.ops [⟨some 8, none, (.assign (.const (.int .i64 0)))⟩,
       ⟨some 9, none, (.assign (.const (.bool true)))⟩])
     (.seq
      (.seq
       (.ops [⟨some 23, none, (.move (.tmp 0))⟩])
       (.block 0
        (.seq
         (.ops [⟨some 29, none, (.binOp .eql 3 (.tmp 23) (.const (.int .i64 43)) 3)⟩,
           ⟨some 28, none, (.assign (.tmp 29))⟩])
         (.cond (.tmp 28)
          (.ops [⟨some 30, none, (.move (.tmp 1))⟩,
            ⟨some 31, none, (.move (.tmp 2))⟩,
            ⟨some 32, none, (.binOp .add 3 (.tmp 30) (.tmp 31) 3)⟩,
            ⟨some 8, none, (.assign (.tmp 32))⟩])
          (.seq
           (.ops [⟨some 34, none, (.binOp .eql 3 (.tmp 23) (.const (.int .i64 45)) 3)⟩,
             ⟨some 33, none, (.assign (.tmp 34))⟩])
           (.cond (.tmp 33)
            (.ops [⟨some 35, none, (.move (.tmp 1))⟩,
              ⟨some 36, none, (.move (.tmp 2))⟩,
              ⟨some 37, none, (.binOp .sub 3 (.tmp 35) (.tmp 36) 3)⟩,
              ⟨some 8, none, (.assign (.tmp 37))⟩])
            (.seq
             (.ops [⟨some 39, none, (.binOp .eql 3 (.tmp 23) (.const (.int .i64 42)) 3)⟩,
               ⟨some 38, none, (.assign (.tmp 39))⟩])
             (.cond (.tmp 38)
              (.ops [⟨some 41, none, (.move (.tmp 1))⟩,
                ⟨some 42, none, (.move (.tmp 2))⟩,
                ⟨some 43, none, (.call ⟨(.value (.func 125)), #[(.tmp 41), (.tmp 42)], #[3, 3]⟩)⟩,
                ⟨some 40, none, (.move (.tmp 43))⟩,
                ⟨some 44, none, (.extract (.tmp 40) 0)⟩,
                ⟨some 45, none, (.extract (.tmp 40) 1)⟩,
                ⟨some 8, none, (.assign (.tmp 44))⟩,
                ⟨some 9, none, (.assign (.tmp 45))⟩])
              (.seq
               (.ops [⟨some 47, none, (.binOp .eql 3 (.tmp 23) (.const (.int .i64 37)) 3)⟩,
                 ⟨some 46, none, (.assign (.tmp 47))⟩])
               (.cond (.tmp 46)
                (.seq
                 (.seq
                  (.ops [⟨some 48, none, (.move (.tmp 2))⟩,
                    ⟨some 49, none, (.binOp .eql 3 (.tmp 48) (.const (.int .i64 0)) 3)⟩])
                  (.cond (.tmp 49)
                   (.seq
                    (.ops [⟨some 6, none, (.assign (.const (.int .i64 0)))⟩,
                      ⟨some 7, none, (.assign (.const (.int .i64 2)))⟩])
                    .ret)
                   .skip))
                 (.ops [⟨some 50, none, (.move (.tmp 1))⟩,
                   ⟨some 51, none, (.move (.tmp 2))⟩,
                   ⟨some 52, none, (.call ⟨(.value (.func 126)), #[(.tmp 50), (.tmp 51)], #[3, 3]⟩)⟩,
                   ⟨some 8, none, (.assign (.tmp 52))⟩]))
                (.seq
                 (.ops [⟨some 54, none, (.binOp .eql 3 (.tmp 23) (.const (.int .i64 124)) 3)⟩,
                   ⟨some 53, none, (.assign (.tmp 54))⟩])
                 (.cond (.tmp 53)
                  (.seq
                   (.ops [⟨some 55, none, (.move (.tmp 2))⟩,
                     ⟨some 8, none, (.assign (.tmp 55))⟩])
                   (.seq
                    (.ops [⟨some 56, none, (.move (.tmp 1))⟩,
                      ⟨some 57, none, (.binOp .neq 3 (.tmp 56) (.const (.int .i64 0)) 3)⟩])
                    (.cond (.tmp 57)
                     (.ops [⟨some 58, none, (.move (.tmp 2))⟩,
                       ⟨some 59, none, (.move (.tmp 1))⟩,
                       ⟨some 60, none, (.move (.tmp 2))⟩,
                       ⟨some 61, none, (.move (.tmp 1))⟩,
                       ⟨some 62, none, (.call ⟨(.value (.func 126)), #[(.tmp 60), (.tmp 61)], #[3, 3]⟩)⟩,
                       ⟨some 63, none, (.binOp .mul 3 (.tmp 59) (.tmp 62) 3)⟩,
                       ⟨some 64, none, (.binOp .sub 3 (.tmp 58) (.tmp 63) 3)⟩,
                       ⟨some 8, none, (.assign (.tmp 64))⟩])
                     .skip)))
                  (.seq
                   (.ops [⟨some 66, none, (.binOp .eql 3 (.tmp 23) (.const (.int .i64 38)) 3)⟩,
                     ⟨some 65, none, (.assign (.tmp 66))⟩])
                   (.cond (.tmp 65)
                    (.ops [⟨some 67, none, (.move (.tmp 1))⟩,
                      ⟨some 68, none, (.move (.tmp 2))⟩,
                      ⟨some 69, none, (.call ⟨(.builtin .min), #[(.tmp 67), (.tmp 68)], #[3, 3]⟩)⟩,
                      ⟨some 8, none, (.assign (.tmp 69))⟩])
                    (.seq
                     (.ops [⟨some 71, none, (.binOp .eql 3 (.tmp 23) (.const (.int .i64 94)) 3)⟩,
                       ⟨some 70, none, (.assign (.tmp 71))⟩])
                     (.cond (.tmp 70)
                      (.ops [⟨some 72, none, (.move (.tmp 1))⟩,
                        ⟨some 73, none, (.move (.tmp 2))⟩,
                        ⟨some 74, none, (.call ⟨(.builtin .max), #[(.tmp 72), (.tmp 73)], #[3, 3]⟩)⟩,
                        ⟨some 8, none, (.assign (.tmp 74))⟩])
                      (.seq
                       (.ops [⟨some 76, none, (.binOp .eql 3 (.tmp 23) (.const (.int .i64 61)) 3)⟩,
                         ⟨some 75, none, (.assign (.tmp 76))⟩])
                       (.cond (.tmp 75)
                        (.ops [⟨some 77, none, (.move (.tmp 1))⟩,
                          ⟨some 78, none, (.move (.tmp 2))⟩,
                          ⟨some 79, none, (.binOp .eql 3 (.tmp 77) (.tmp 78) 3)⟩,
                          ⟨some 80, none, (.call ⟨(.value (.func 127)), #[(.tmp 79)], #[4]⟩)⟩,
                          ⟨some 8, none, (.assign (.tmp 80))⟩])
                        (.seq
                         (.ops [⟨some 82, none, (.binOp .eql 3 (.tmp 23) (.const (.int .i64 60)) 3)⟩,
                           ⟨some 81, none, (.assign (.tmp 82))⟩])
                         (.cond (.tmp 81)
                          (.ops [⟨some 83, none, (.move (.tmp 1))⟩,
                            ⟨some 84, none, (.move (.tmp 2))⟩,
                            ⟨some 85, none, (.binOp .lss 3 (.tmp 83) (.tmp 84) 3)⟩,
                            ⟨some 86, none, (.call ⟨(.value (.func 127)), #[(.tmp 85)], #[4]⟩)⟩,
                            ⟨some 8, none, (.assign (.tmp 86))⟩])
                          (.ops [⟨some 24, none, (.move (.tmp 1))⟩,
                            ⟨some 25, none, (.move (.tmp 2))⟩,
                            ⟨some 26, none, (.binOp .gtr 3 (.tmp 24) (.tmp 25) 3)⟩,
                            ⟨some 27, none, (.call ⟨(.value (.func 127)), #[(.tmp 26)], #[4]⟩)⟩,
                            ⟨some 8, none, (.assign (.tmp 27))⟩])))))))))))))))))))))
      (.seq
       (.seq
        (.ops [⟨some 87, none, (.move (.tmp 9))⟩,
          ⟨some 88, none, (.unOp .not 4 (.tmp 87))⟩,
          ⟨some 89, none, (.move (.tmp 88))⟩,
          ⟨some 90, (some (89, false)), (.move (.tmp 8))⟩,
          ⟨some 91, (some (89, false)), (.call ⟨(.value (.func 87)), #[(.tmp 90)], #[3]⟩)⟩,
          ⟨some 92, (some (89, false)), (.unOp .not 4 (.tmp 91))⟩,
          ⟨some 93, none, (.pick (.tmp 89) (.const (.bool true)) (.tmp 92))⟩])
        (.cond (.tmp 93)
         (.seq
          (.ops [⟨some 6, none, (.assign (.const (.int .i64 0)))⟩,
            ⟨some 7, none, (.assign (.const (.int .i64 6)))⟩])
          .ret)
         .skip))
       (.seq
        (.ops [⟨some 94, none, (.move (.tmp 8))⟩,
          ⟨some 6, none, (.assign (.tmp 94))⟩,
          ⟨some 7, none, (.assign (.const (.int .i64 0)))⟩])
        .ret))))))
theorem w55 {args : Array Value} {H : AH} {Φ : Value → AH → Prop} (h : rW Try.prog k55 [] (fin Try.prog [(.tmp 6), (.tmp 7)] Φ) (tm0 args) H) : CallsA Try.prog 55 args H Φ :=
  CallsA.w k55 [(.tmp 6), (.tmp 7)] (fun _ => []) Try.func55 rfl rfl (by kernel_rfl) (by kernel_rfl) h

/-- slices.Grow[[]int,int] -/
def k151 : KC :=
  (.seq
   (.ops [⟨some 4, none, (.assign (.const (.slice none 0 0)))⟩])
   (.seq
    (.seq
     (.ops [⟨some 5, none, (.move (.tmp 1))⟩,
       ⟨some 6, none, (.binOp .lss 3 (.tmp 5) (.const (.int .i64 0)) 3)⟩])
     (.cond (.tmp 6)
      (.ops [⟨some 7, none, (.makeInterface 9 (.const (.string ⟨#[99, 97, 110, 110, 111, 116, 32, 98, 101, 32, 110, 101, 103, 97, 116, 105, 118, 101]⟩)))⟩,
        ⟨none, none, (.panic (.tmp 7))⟩])
      .skip))
    (.seq
     (.seq
      (.ops [⟨some 8, none, (.move (.tmp 1))⟩,
        ⟨some 9, none, (.move (.tmp 0))⟩,
        ⟨some 10, none, (.call ⟨(.builtin .cap), #[(.tmp 9)], #[24]⟩)⟩,
        ⟨some 11, none, (.move (.tmp 0))⟩,
        ⟨some 12, none, (.call ⟨(.builtin .len), #[(.tmp 11)], #[24]⟩)⟩,
        ⟨some 13, none, (.binOp .sub 3 (.tmp 10) (.tmp 12) 3)⟩,
        ⟨some 14, none, (.binOp .sub 3 (.tmp 8) (.tmp 13) 3)⟩,
        ⟨some 1, none, (.assign (.tmp 14))⟩])
      (.seq
       (.ops [⟨some 15, none, (.move (.tmp 1))⟩,
         ⟨some 16, none, (.binOp .gtr 3 (.tmp 15) (.const (.int .i64 0)) 3)⟩])
       (.cond (.tmp 16)
        (.ops [⟨some 17, none, (.move (.tmp 0))⟩,
          ⟨some 18, none, (.move (.tmp 0))⟩,
          ⟨some 19, none, (.call ⟨(.builtin .cap), #[(.tmp 18)], #[24]⟩)⟩,
          ⟨some 20, none, (.slice 24 (.tmp 17) none (some (.tmp 19)) none)⟩,
          ⟨some 21, none, (.move (.tmp 1))⟩,
          ⟨some 22, none, (.call ⟨(.builtin .append), #[(.tmp 20), (.tmp 21)], #[24, 3]⟩)⟩,
          ⟨some 23, none, (.move (.tmp 0))⟩,
          ⟨some 24, none, (.call ⟨(.builtin .len), #[(.tmp 23)], #[24]⟩)⟩,
          ⟨some 25, none, (.slice 24 (.tmp 22) none (some (.tmp 24)) none)⟩,
          ⟨some 0, none, (.assign (.tmp 25))⟩])
        .skip)))
     (.seq
      (.ops [⟨some 26, none, (.move (.tmp 0))⟩,
        ⟨some 4, none, (.assign (.tmp 26))⟩])
      .ret))))
theorem w151 {args : Array Value} {H : AH} {Φ : Value → AH → Prop} (h : rW Try.prog k151 [] (fin Try.prog [(.tmp 4)] Φ) (tm0 args) H) : CallsA Try.prog 151 args H Φ :=
  CallsA.w k151 [(.tmp 4)] (fun _ => []) Try.func151 rfl rfl (by kernel_rfl) (by kernel_rfl) h

/-- slices.Concat[[]int,int] -/
def k90 : KC :=
  (.seq
   (.ops [⟨some 2, none, (.assign (.const (.slice none 0 0)))⟩])
   (.seq
    (.ops [⟨some 3, none, (.assign (.const (.int .i64 0)))⟩])
    (.seq
     (.seq
      (.ops [⟨some 9, none, (.move (.tmp 0))⟩,
        ⟨some 10, none, (.call ⟨(.builtin .len), #[(.tmp 9)], #[145]⟩)⟩,
        ⟨some 11, none, (.move (.const (.int .i64 0)))⟩])
      (.block 0
       (.loop
        (.seq
         (.ops [⟨some 12, none, (.binOp .lss 3 (.tmp 11) (.tmp 10) 3)⟩])
         (.seq
          (.cond (.tmp 12)
           .skip
           (.exit 0))
          (.seq
           (.block 1
            (.seq
             (.ops [⟨some 13, none, (.indexAddr 145 (.tmp 9) (.tmp 11))⟩,
               ⟨some 14, none, (.load 24 (.tmp 13))⟩,
               ⟨some 5, none, (.assign (.tmp 14))⟩])
             (.seq
              (.ops [⟨some 15, none, (.move (.tmp 3))⟩,
                ⟨some 16, none, (.move (.tmp 5))⟩,
                ⟨some 17, none, (.call ⟨(.builtin .len), #[(.tmp 16)], #[24]⟩)⟩,
                ⟨some 18, none, (.binOp .add 3 (.tmp 15) (.tmp 17) 3)⟩,
                ⟨some 3, none, (.assign (.tmp 18))⟩])
              (.seq
               (.ops [⟨some 19, none, (.move (.tmp 3))⟩,
                 ⟨some 20, none, (.binOp .lss 3 (.tmp 19) (.const (.int .i64 0)) 3)⟩])
               (.cond (.tmp 20)
                (.ops [⟨some 21, none, (.makeInterface 9 (.const (.string ⟨#[108, 101, 110, 32, 111, 117, 116, 32, 111, 102, 32, 114, 97, 110, 103, 101]⟩)))⟩,
                  ⟨none, none, (.panic (.tmp 21))⟩])
                .skip)))))
           (.ops [⟨some 22, none, (.binOp .add 3 (.tmp 11) (.const (.int .i64 1)) 3)⟩,
             ⟨some 11, none, (.move (.tmp 22))⟩])))))))
     (.seq
      (.ops [⟨some 23, none, (.move (.tmp 3))⟩,
        ⟨some 24, none, (.call ⟨(.value (.func 151)), #[(.const (.slice none 0 0)), (.tmp 23)], #[24, 3]⟩)⟩,
        ⟨some 6, none, (.assign (.tmp 24))⟩])
      (.seq
       (.seq
        (.ops [⟨some 25, none, (.move (.tmp 0))⟩,
          ⟨some 26, none, (.call ⟨(.builtin .len), #[(.tmp 25)], #[145]⟩)⟩,
          ⟨some 27, none, (.move (.const (.int .i64 0)))⟩])
        (.block 2
         (.loop
          (.seq
           (.ops [⟨some 28, none, (.binOp .lss 3 (.tmp 27) (.tmp 26) 3)⟩])
           (.seq
            (.cond (.tmp 28)
             .skip
             (.exit 2))
            (.seq
             (.block 3
              (.seq
               (.ops [⟨some 29, none, (.indexAddr 145 (.tmp 25) (.tmp 27))⟩,
                 ⟨some 30, none, (.load 24 (.tmp 29))⟩,
                 ⟨some 8, none, (.assign (.tmp 30))⟩])
               (.ops [⟨some 31, none, (.move (.tmp 6))⟩,
                 ⟨some 32, none, (.move (.tmp 8))⟩,
                 ⟨some 33, none, (.call ⟨(.builtin .append), #[(.tmp 31), (.tmp 32)], #[24, 24]⟩)⟩,
                 ⟨some 6, none, (.assign (.tmp 33))⟩])))
             (.ops [⟨some 34, none, (.binOp .add 3 (.tmp 27) (.const (.int .i64 1)) 3)⟩,
               ⟨some 27, none, (.move (.tmp 34))⟩])))))))
       (.seq
        (.ops [⟨some 35, none, (.move (.tmp 6))⟩,
          ⟨some 2, none, (.assign (.tmp 35))⟩])
        .ret))))))
theorem w90 {args : Array Value} {H : AH} {Φ : Value → AH → Prop} (h : rW Try.prog k90 [] (fin Try.prog [(.tmp 2)] Φ) (tm0 args) H) : CallsA Try.prog 90 args H Φ :=
  CallsA.w k90 [(.tmp 2)] (fun _ => []) Try.func90 rfl rfl (by kernel_rfl) (by kernel_rfl) h

/-- impl.Outer -/
def k53 : KC :=
  (.seq
   (.ops [⟨some 4, none, (.box 26 (.tmp 1))⟩,
     ⟨some 5, none, (.box 26 (.tmp 2))⟩,
     ⟨some 6, none, (.alloc 26)⟩,
     ⟨some 7, none, (.assign (.const (.int .i64 0)))⟩])
   (.seq
    (.ops [⟨some 15, none, (.fieldAddr 26 (.tmp 4) 0)⟩,
      ⟨some 16, none, (.load 24 (.tmp 15))⟩,
      ⟨some 17, none, (.fieldAddr 26 (.tmp 5) 0)⟩,
      ⟨some 18, none, (.load 24 (.tmp 17))⟩,
      ⟨some 19, none, (.buildSlice 145 2 #[(0, (.tmp 16)), (1, (.tmp 18))])⟩,
      ⟨some 20, none, (.call ⟨(.value (.func 90)), #[(.tmp 19)], #[145]⟩)⟩,
      ⟨some 21, none, (.build 26 #[(0, (.tmp 20))])⟩,
      ⟨some 8, none, (.alloc 26)⟩,
      ⟨none, none, (.store 26 (.tmp 8) (.tmp 21))⟩])
    (.seq
     (.block 0
      (.seq
       (.ops [⟨some 23, none, (.load 26 (.tmp 4))⟩,
         ⟨some 24, none, (.call ⟨(.value (.func 56)), #[(.tmp 23)], #[26]⟩)⟩,
         ⟨some 25, none, (.unOp .not 4 (.tmp 24))⟩,
         ⟨some 26, none, (.move (.tmp 25))⟩,
         ⟨some 27, (some (26, false)), (.load 26 (.tmp 5))⟩,
         ⟨some 28, (some (26, false)), (.call ⟨(.value (.func 56)), #[(.tmp 27)], #[26]⟩)⟩,
         ⟨some 29, (some (26, false)), (.unOp .not 4 (.tmp 28))⟩,
         ⟨some 30, none, (.pick (.tmp 26) (.const (.bool true)) (.tmp 29))⟩,
         ⟨some 31, none, (.move (.tmp 30))⟩,
         ⟨some 32, (some (31, false)), (.move (.tmp 0))⟩,
         ⟨some 33, (some (31, false)), (.call ⟨(.value (.func 77)), #[(.tmp 32)], #[3]⟩)⟩,
         ⟨some 34, (some (31, false)), (.unOp .not 4 (.tmp 33))⟩,
         ⟨some 35, none, (.pick (.tmp 31) (.const (.bool true)) (.tmp 34))⟩,
         ⟨some 22, none, (.assign (.tmp 35))⟩])
       (.cond (.tmp 22)
        (.seq
         (.ops [⟨some 36, none, (.build 26 #[])⟩,
           ⟨none, none, (.store 26 (.tmp 6) (.tmp 36))⟩,
           ⟨some 7, none, (.assign (.const (.int .i64 1)))⟩])
         .ret)
        (.seq
         (.ops [⟨some 38, none, (.fieldAddr 26 (.tmp 8) 0)⟩,
           ⟨some 39, none, (.load 24 (.tmp 38))⟩,
           ⟨some 40, none, (.call ⟨(.builtin .len), #[(.tmp 39)], #[24]⟩)⟩,
           ⟨some 41, none, (.binOp .gtr 3 (.tmp 40) (.const (.int .i64 3)) 3)⟩,
           ⟨some 37, none, (.assign (.tmp 41))⟩])
         (.cond (.tmp 37)
          (.seq
           (.ops [⟨some 42, none, (.build 26 #[])⟩,
             ⟨none, none, (.store 26 (.tmp 6) (.tmp 42))⟩,
             ⟨some 7, none, (.assign (.const (.int .i64 4)))⟩])
           .ret)
          (.seq
           (.ops [⟨some 44, none, (.fieldAddr 26 (.tmp 8) 0)⟩,
             ⟨some 45, none, (.load 24 (.tmp 44))⟩,
             ⟨some 46, none, (.call ⟨(.value (.func 122)), #[(.tmp 45)], #[24]⟩)⟩,
             ⟨some 47, none, (.unOp .not 4 (.tmp 46))⟩,
             ⟨some 43, none, (.assign (.tmp 47))⟩])
           (.cond (.tmp 43)
            (.seq
             (.ops [⟨some 48, none, (.build 26 #[])⟩,
               ⟨none, none, (.store 26 (.tmp 6) (.tmp 48))⟩,
               ⟨some 7, none, (.assign (.const (.int .i64 6)))⟩])
             .ret)
            .skip)))))))
     (.seq
      (.seq
       (.ops [⟨some 49, none, (.fieldAddr 26 (.tmp 4) 1)⟩,
         ⟨some 50, none, (.load 24 (.tmp 49))⟩,
         ⟨some 51, none, (.call ⟨(.builtin .len), #[(.tmp 50)], #[24]⟩)⟩,
         ⟨some 52, none, (.move (.const (.int .i64 0)))⟩])
       (.block 1
        (.loop
         (.seq
          (.ops [⟨some 53, none, (.binOp .lss 3 (.tmp 52) (.tmp 51) 3)⟩])
          (.seq
           (.cond (.tmp 53)
            .skip
            (.exit 1))
           (.seq
            (.block 2
             (.seq
              (.ops [⟨some 54, none, (.indexAddr 24 (.tmp 50) (.tmp 52))⟩,
                ⟨some 55, none, (.load 3 (.tmp 54))⟩,
                ⟨some 10, none, (.assign (.tmp 55))⟩])
              (.seq
               (.ops [⟨some 56, none, (.fieldAddr 26 (.tmp 5) 1)⟩,
                 ⟨some 57, none, (.load 24 (.tmp 56))⟩,
                 ⟨some 58, none, (.call ⟨(.builtin .len), #[(.tmp 57)], #[24]⟩)⟩,
                 ⟨some 59, none, (.move (.const (.int .i64 0)))⟩])
               (.block 3
                (.loop
                 (.seq
                  (.ops [⟨some 60, none, (.binOp .lss 3 (.tmp 59) (.tmp 58) 3)⟩])
                  (.seq
                   (.cond (.tmp 60)
                    .skip
                    (.exit 3))
                   (.seq
                    (.block 4
                     (.seq
                      (.ops [⟨some 61, none, (.indexAddr 24 (.tmp 57) (.tmp 59))⟩,
                        ⟨some 62, none, (.load 3 (.tmp 61))⟩,
                        ⟨some 12, none, (.assign (.tmp 62))⟩])
                      (.seq
                       (.ops [⟨some 64, none, (.move (.tmp 0))⟩,
                         ⟨some 65, none, (.move (.tmp 10))⟩,
                         ⟨some 66, none, (.move (.tmp 12))⟩,
                         ⟨some 67, none, (.call ⟨(.value (.func 55)), #[(.tmp 64), (.tmp 65), (.tmp 66)], #[3, 3, 3]⟩)⟩,
                         ⟨some 63, none, (.move (.tmp 67))⟩,
                         ⟨some 68, none, (.extract (.tmp 63) 0)⟩,
                         ⟨some 69, none, (.extract (.tmp 63) 1)⟩,
                         ⟨some 13, none, (.assign (.tmp 68))⟩,
                         ⟨some 14, none, (.assign (.tmp 69))⟩])
                       (.seq
                        (.seq
                         (.ops [⟨some 70, none, (.move (.tmp 14))⟩,
                           ⟨some 71, none, (.binOp .neq 3 (.tmp 70) (.const (.int .i64 0)) 3)⟩])
                         (.cond (.tmp 71)
                          (.seq
                           (.ops [⟨some 72, none, (.build 26 #[])⟩,
                             ⟨some 73, none, (.move (.tmp 14))⟩,
                             ⟨none, none, (.store 26 (.tmp 6) (.tmp 72))⟩,
                             ⟨some 7, none, (.assign (.tmp 73))⟩])
                           .ret)
                          .skip))
                        (.ops [⟨some 74, none, (.fieldAddr 26 (.tmp 8) 1)⟩,
                          ⟨some 75, none, (.load 24 (.tmp 74))⟩,
                          ⟨some 76, none, (.move (.tmp 13))⟩,
                          ⟨some 77, none, (.buildSlice 24 1 #[(0, (.tmp 76))])⟩,
                          ⟨some 78, none, (.call ⟨(.builtin .append), #[(.tmp 75), (.tmp 77)], #[24, 24]⟩)⟩,
                          ⟨some 79, none, (.fieldAddr 26 (.tmp 8) 1)⟩,
                          ⟨none, none, (.store 24 (.tmp 79) (.tmp 78))⟩])))))
                    (.ops [⟨some 80, none, (.binOp .add 3 (.tmp 59) (.const (.int .i64 1)) 3)⟩,
                      ⟨some 59, none, (.move (.tmp 80))⟩])))))))))
            (.ops [⟨some 81, none, (.binOp .add 3 (.tmp 52) (.const (.int .i64 1)) 3)⟩,
              ⟨some 52, none, (.move (.tmp 81))⟩])))))))
      (.seq
       (.ops [⟨some 82, none, (.load 26 (.tmp 8))⟩,
         ⟨none, none, (.store 26 (.tmp 6) (.tmp 82))⟩,
         ⟨some 7, none, (.assign (.const (.int .i64 0)))⟩])
       .ret)))))
theorem w53 {args : Array Value} {H : AH} {Φ : Value → AH → Prop} (h : rW Try.prog k53 [] (fin Try.prog [(.cell 6 26), (.tmp 7)] Φ) (tm0 args) H) : CallsA Try.prog 53 args H Φ :=
  CallsA.w k53 [(.cell 6 26), (.tmp 7)] (fun _ => []) Try.func53 rfl rfl (by kernel_rfl) (by kernel_rfl) h

/-- spec.NumOk -/
def k137 : KC :=
  (.seq
   (.ops [⟨some 2, none, (.assign (.const (.bool false)))⟩])
   (.seq
    (.ops [⟨some 3, none, (.move (.tmp 0))⟩,
      ⟨some 4, none, (.call ⟨(.value (.func 150)), #[(.tmp 3), (.const (.int .i64 (-1000000000000))), (.const (.int .i64 1000000000000))], #[3, 3, 3]⟩)⟩,
      ⟨some 2, none, (.assign (.tmp 4))⟩])
    .ret))
theorem w137 {args : Array Value} {H : AH} {Φ : Value → AH → Prop} (h : rW Try.prog k137 [] (fin Try.prog [(.tmp 2)] Φ) (tm0 args) H) : CallsA Try.prog 137 args H Φ :=
  CallsA.w k137 [(.tmp 2)] (fun _ => []) Try.func137 rfl rfl (by kernel_rfl) (by kernel_rfl) h

/-- spec.ArrayOk -/
def k65 : KC :=
  (.seq
   (.ops [⟨some 1, none, (.box 26 (.tmp 0))⟩,
     ⟨some 2, none, (.assign (.const (.bool false)))⟩])
   (.seq
    (.seq
     (.draw #[] [(1, 0), (4, 0), (4, 3)]
       [⟨some 4, none, (.fieldAddr 26 (.tmp 1) 0)⟩,
       ⟨some 5, none, (.load 24 (.tmp 4))⟩,
       ⟨some 6, none, (.call ⟨(.value (.func 136)), #[(.tmp 5)], #[24]⟩)⟩,
       ⟨some 7, none, (.fieldAddr 26 (.tmp 1) 1)⟩,
       ⟨some 8, none, (.load 24 (.tmp 7))⟩,
       ⟨some 9, none, (.call ⟨(.builtin .len), #[(.tmp 8)], #[24]⟩)⟩,
       ⟨some 10, none, (.binOp .neq 3 (.tmp 6) (.tmp 9) 3)⟩])
     (.cond (.tmp 10)
      (.seq
       (.ops [⟨some 2, none, (.assign (.const (.bool false)))⟩])
       .ret)
      .skip))
    (.seq
     (.seq
      (.ops [⟨some 3, none, (.assign (.const (.int .i64 0)))⟩])
      (.block 0
       (.loop
        (.seq
         (.seq
          (.ops [⟨some 11, none, (.move (.tmp 3))⟩,
            ⟨some 12, none, (.fieldAddr 26 (.tmp 1) 1)⟩,
            ⟨some 13, none, (.load 24 (.tmp 12))⟩,
            ⟨some 14, none, (.call ⟨(.builtin .len), #[(.tmp 13)], #[24]⟩)⟩,
            ⟨some 15, none, (.binOp .lss 3 (.tmp 11) (.tmp 14) 3)⟩])
          (.cond (.tmp 15)
           .skip
           (.exit 0)))
         (.seq
          (.block 1
           (.seq
            (.ops [⟨some 18, none, (.fieldAddr 26 (.tmp 1) 1)⟩,
              ⟨some 19, none, (.load 24 (.tmp 18))⟩,
              ⟨some 20, none, (.move (.tmp 3))⟩,
              ⟨some 21, none, (.indexAddr 24 (.tmp 19) (.tmp 20))⟩,
              ⟨some 22, none, (.load 3 (.tmp 21))⟩,
              ⟨some 23, none, (.call ⟨(.value (.func 137)), #[(.tmp 22)], #[3]⟩)⟩,
              ⟨some 24, none, (.unOp .not 4 (.tmp 23))⟩])
            (.cond (.tmp 24)
             (.seq
              (.ops [⟨some 2, none, (.assign (.const (.bool false)))⟩])
              .ret)
             .skip)))
          (.ops [⟨some 16, none, (.move (.tmp 3))⟩,
            ⟨some 17, none, (.binOp .add 3 (.tmp 16) (.const (.int .i64 1)) 3)⟩,
            ⟨some 3, none, (.assign (.tmp 17))⟩]))))))
     (.seq
      (.ops [⟨some 2, none, (.assign (.const (.bool true)))⟩])
      .ret))))
theorem w65 {args : Array Value} {H : AH} {Φ : Value → AH → Prop} (h : rW Try.prog k65 [] (fin Try.prog [(.tmp 2)] Φ) (tm0 args) H) : CallsA Try.prog 65 args H Φ :=
  CallsA.w k65 [(.tmp 2)] (fun i => if i = 1 then [(1, 0), (4, 0), (4, 3)] else []) Try.func65 rfl rfl (by kernel_rfl) (by kernel_rfl) h

/-- spec.ShapeOk -/
def k112 : KC :=
  (.seq
   (.ops [⟨some 2, none, (.assign (.const (.bool false)))⟩])
   (.seq
    (.ops [⟨some 3, none, (.move (.tmp 0))⟩,
      ⟨some 4, none, (.call ⟨(.value (.func 136)), #[(.tmp 3)], #[24]⟩)⟩,
      ⟨some 5, none, (.binOp .geq 3 (.tmp 4) (.const (.int .i64 0)) 3)⟩,
      ⟨some 2, none, (.assign (.tmp 5))⟩])
    .ret))
theorem w112 {args : Array Value} {H : AH} {Φ : Value → AH → Prop} (h : rW Try.prog k112 [] (fin Try.prog [(.tmp 2)] Φ) (tm0 args) H) : CallsA Try.prog 112 args H Φ :=
  CallsA.w k112 [(.tmp 2)] (fun _ => []) Try.func112 rfl rfl (by kernel_rfl) (by kernel_rfl) h

/-- spec.l1Sign2 -/
def k123 : KC :=
  (.seq
   (.ops [⟨some 2, none, (.assign (.const (.bool false)))⟩])
   (.seq
    (.ops [⟨some 3, none, (.move (.tmp 0))⟩,
      ⟨some 4, none, (.binOp .eql 3 (.tmp 3) (.const (.int .i64 43)) 3)⟩,
      ⟨some 5, none, (.move (.tmp 4))⟩,
      ⟨some 6, (some (5, false)), (.move (.tmp 0))⟩,
      ⟨some 7, (some (5, false)), (.binOp .eql 3 (.tmp 6) (.const (.int .i64 45)) 3)⟩,
      ⟨some 8, none, (.pick (.tmp 5) (.const (.bool true)) (.tmp 7))⟩,
      ⟨some 9, none, (.move (.tmp 8))⟩,
      ⟨some 10, (some (9, false)), (.move (.tmp 0))⟩,
      ⟨some 11, (some (9, false)), (.binOp .eql 3 (.tmp 10) (.const (.int .i64 42)) 3)⟩,
      ⟨some 12, none, (.pick (.tmp 9) (.const (.bool true)) (.tmp 11))⟩,
      ⟨some 13, none, (.move (.tmp 12))⟩,
      ⟨some 14, (some (13, false)), (.move (.tmp 0))⟩,
      ⟨some 15, (some (13, false)), (.binOp .eql 3 (.tmp 14) (.const (.int .i64 37)) 3)⟩,
      ⟨some 16, none, (.pick (.tmp 13) (.const (.bool true)) (.tmp 15))⟩,
      ⟨some 17, none, (.move (.tmp 16))⟩,
      ⟨some 18, (some (17, false)), (.move (.tmp 0))⟩,
      ⟨some 19, (some (17, false)), (.binOp .eql 3 (.tmp 18) (.const (.int .i64 124)) 3)⟩,
      ⟨some 20, none, (.pick (.tmp 17) (.const (.bool true)) (.tmp 19))⟩,
      ⟨some 21, none, (.move (.tmp 20))⟩,
      ⟨some 22, (some (21, false)), (.move (.tmp 0))⟩,
      ⟨some 23, (some (21, false)), (.binOp .eql 3 (.tmp 22) (.const (.int .i64 38)) 3)⟩,
      ⟨some 24, none, (.pick (.tmp 21) (.const (.bool true)) (.tmp 23))⟩,
      ⟨some 25, none, (.move (.tmp 24))⟩,
      ⟨some 26, (some (25, false)), (.move (.tmp 0))⟩,
      ⟨some 27, (some (25, false)), (.binOp .eql 3 (.tmp 26) (.const (.int .i64 94)) 3)⟩,
      ⟨some 28, none, (.pick (.tmp 25) (.const (.bool true)) (.tmp 27))⟩,
      ⟨some 29, none, (.move (.tmp 28))⟩,
      ⟨some 30, (some (29, false)), (.move (.tmp 0))⟩,
      ⟨some 31, (some (29, false)), (.binOp .eql 3 (.tmp 30) (.const (.int .i64 61)) 3)⟩,
      ⟨some 32, none, (.pick (.tmp 29) (.const (.bool true)) (.tmp 31))⟩,
      ⟨some 33, none, (.move (.tmp 32))⟩,
      ⟨some 34, (some (33, false)), (.move (.tmp 0))⟩,
      ⟨some 35, (some (33, false)), (.binOp .eql 3 (.tmp 34) (.const (.int .i64 60)) 3)⟩,
      ⟨some 36, none, (.pick (.tmp 33) (.const (.bool true)) (.tmp 35))⟩,
      ⟨some 37, none, (.move (.tmp 36))⟩,
      ⟨some 38, (some (37, false)), (.move (.tmp 0))⟩,
      ⟨some 39, (some (37, false)), (.binOp .eql 3 (.tmp 38) (.const (.int .i64 62)) 3)⟩,
      ⟨some 40, none, (.pick (.tmp 37) (.const (.bool true)) (.tmp 39))⟩,
      ⟨some 2, none, (.assign (.tmp 40))⟩])
    .ret))
theorem w123 {args : Array Value} {H : AH} {Φ : Value → AH → Prop} (h : rW Try.prog k123 [] (fin Try.prog [(.tmp 2)] Φ) (tm0 args) H) : CallsA Try.prog 123 args H Φ :=
  CallsA.w k123 [(.tmp 2)] (fun _ => []) Try.func123 rfl rfl (by kernel_rfl) (by kernel_rfl) h

/-- spec.l1Max -/
def k168 : KC :=
  (.seq
   (.ops [⟨some 4, none, (.assign (.const (.int .i64 0)))⟩])
   (.seq
    (.seq
     (.ops [⟨some 5, none, (.move (.tmp 0))⟩,
       ⟨some 6, none, (.move (.tmp 1))⟩,
       ⟨some 7, none, (.binOp .gtr 3 (.tmp 5) (.tmp 6) 3)⟩])
     (.cond (.tmp 7)
      (.seq
       (.ops [⟨some 8, none, (.move (.tmp 0))⟩,
         ⟨some 4, none, (.assign (.tmp 8))⟩])
       .ret)
      .skip))
    (.seq
     (.ops [⟨some 9, none, (.move (.tmp 1))⟩,
       ⟨some 4, none, (.assign (.tmp 9))⟩])
     .ret)))
theorem w168 {args : Array Value} {H : AH} {Φ : Value → AH → Prop} (h : rW Try.prog k168 [] (fin Try.prog [(.tmp 4)] Φ) (tm0 args) H) : CallsA Try.prog 168 args H Φ :=
  CallsA.w k168 [(.tmp 4)] (fun _ => []) Try.func168 rfl rfl (by kernel_rfl) (by kernel_rfl) h

/-- spec.l1Times -/
def k165 : KC :=
  (.seq
   (.ops [⟨some 4, none, (.assign (.const (.int .i64 0)))⟩,
     ⟨some 5, none, (.assign (.const (.bool false)))⟩])
   (.seq
    (.seq
     (.ops [⟨some 6, none, (.move (.tmp 0))⟩,
       ⟨some 7, none, (.binOp .eql 3 (.tmp 6) (.const (.int .i64 0)) 3)⟩,
       ⟨some 8, none, (.move (.tmp 7))⟩,
       ⟨some 9, (some (8, false)), (.move (.tmp 1))⟩,
       ⟨some 10, (some (8, false)), (.binOp .eql 3 (.tmp 9) (.const (.int .i64 0)) 3)⟩,
       ⟨some 11, none, (.pick (.tmp 8) (.const (.bool true)) (.tmp 10))⟩])
     (.cond (.tmp 11)
      (.seq
       (.ops [⟨some 4, none, (.assign (.const (.int .i64 0)))⟩,
         ⟨some 5, none, (.assign (.const (.bool true)))⟩])
       .ret)
      .skip))
    (.seq
     (.seq
      (.ops [⟨some 12, none, (.move (.tmp 0))⟩,
        ⟨some 13, none, (.move (.tmp 0))⟩,
        ⟨some 14, none, (.binOp .sub 3 (.const (.int .i64 0)) (.tmp 13) 3)⟩,
        ⟨some 15, none, (.call ⟨(.value (.func 168)), #[(.tmp 12), (.tmp 14)], #[3, 3]⟩)⟩,
        ⟨some 16, none, (.move (.tmp 1))⟩,
        ⟨some 17, none, (.move (.tmp 1))⟩,
        ⟨some 18, none, (.binOp .sub 3 (.const (.int .i64 0)) (.tmp 17) 3)⟩,
        ⟨some 19, none, (.call ⟨(.value (.func 168)), #[(.tmp 16), (.tmp 18)], #[3, 3]⟩)⟩,
        ⟨some 20, none, (.binOp .quo 3 (.const (.int .i64 1000000000000)) (.tmp 19) 3)⟩,
        ⟨some 21, none, (.binOp .gtr 3 (.tmp 15) (.tmp 20) 3)⟩])
      (.cond (.tmp 21)
       (.seq
        (.ops [⟨some 4, none, (.assign (.const (.int .i64 0)))⟩,
          ⟨some 5, none, (.assign (.const (.bool false)))⟩])
        .ret)
       .skip))
     (.seq
      (.ops [⟨some 22, none, (.move (.tmp 0))⟩,
        ⟨some 23, none, (.move (.tmp 1))⟩,
        ⟨some 24, none, (.binOp .mul 3 (.tmp 22) (.tmp 23) 3)⟩,
        ⟨some 4, none, (.assign (.tmp 24))⟩,
        ⟨some 5, none, (.assign (.const (.bool true)))⟩])
      .ret))))
theorem w165 {args : Array Value} {H : AH} {Φ : Value → AH → Prop} (h : rW Try.prog k165 [] (fin Try.prog [(.tmp 4), (.tmp 5)] Φ) (tm0 args) H) : CallsA Try.prog 165 args H Φ :=
  CallsA.w k165 [(.tmp 4), (.tmp 5)] (fun _ => []) Try.func165 rfl rfl (by kernel_rfl) (by kernel_rfl) h

/-- spec.l1Floor -/
def k166 : KC :=
  (.seq
   (.ops [⟨some 4, none, (.assign (.const (.int .i64 0)))⟩])
   (.seq
    (.ops [⟨some 6, none, (.move (.tmp 0))⟩,
      ⟨some 7, none, (.move (.tmp 1))⟩,
      ⟨some 8, none, (.binOp .quo 3 (.tmp 6) (.tmp 7) 3)⟩,
      ⟨some 5, none, (.assign (.tmp 8))⟩])
    (.seq
     (.seq
      (.ops [⟨some 9, none, (.move (.tmp 0))⟩,
        ⟨some 10, none, (.move (.tmp 1))⟩,
        ⟨some 11, none, (.binOp .rem 3 (.tmp 9) (.tmp 10) 3)⟩,
        ⟨some 12, none, (.binOp .neq 3 (.tmp 11) (.const (.int .i64 0)) 3)⟩,
        ⟨some 13, none, (.move (.tmp 12))⟩,
        ⟨some 14, (some (13, true)), (.move (.tmp 0))⟩,
        ⟨some 15, (some (13, true)), (.binOp .lss 3 (.tmp 14) (.const (.int .i64 0)) 3)⟩,
        ⟨some 16, (some (13, true)), (.move (.tmp 1))⟩,
        ⟨some 17, (some (13, true)), (.binOp .lss 3 (.tmp 16) (.const (.int .i64 0)) 3)⟩,
        ⟨some 18, (some (13, true)), (.binOp .neq 4 (.tmp 15) (.tmp 17) 4)⟩,
        ⟨some 19, none, (.pick (.tmp 13) (.tmp 18) (.const (.bool false)))⟩])
      (.cond (.tmp 19)
       (.ops [⟨some 20, none, (.move (.tmp 5))⟩,
         ⟨some 21, none, (.binOp .sub 3 (.tmp 20) (.const (.int .i64 1)) 3)⟩,
         ⟨some 5, none, (.assign (.tmp 21))⟩])
       .skip))
     (.seq
      (.ops [⟨some 22, none, (.move (.tmp 5))⟩,
        ⟨some 4, none, (.assign (.tmp 22))⟩])
      .ret))))
theorem w166 {args : Array Value} {H : AH} {Φ : Value → AH → Prop} (h : rW Try.prog k166 [] (fin Try.prog [(.tmp 4)] Φ) (tm0 args) H) : CallsA Try.prog 166 args H Φ :=
  CallsA.w k166 [(.tmp 4)] (fun _ => []) Try.func166 rfl rfl (by kernel_rfl) (by kernel_rfl) h

/-- spec.l1Min -/
def k167 : KC :=
  (.seq
   (.ops [⟨some 4, none, (.assign (.const (.int .i64 0)))⟩])
   (.seq
    (.seq
     (.ops [⟨some 5, none, (.move (.tmp 0))⟩,
       ⟨some 6, none, (.move (.tmp 1))⟩,
       ⟨some 7, none, (.binOp .lss 3 (.tmp 5) (.tmp 6) 3)⟩])
     (.cond (.tmp 7)
      (.seq
       (.ops [⟨some 8, none, (.move (.tmp 0))⟩,
         ⟨some 4, none, (.assign (.tmp 8))⟩])
       .ret)
      .skip))
    (.seq
     (.ops [⟨some 9, none, (.move (.tmp 1))⟩,
       ⟨some 4, none, (.assign (.tmp 9))⟩])
     .ret)))
theorem w167 {args : Array Value} {H : AH} {Φ : Value → AH → Prop} (h : rW Try.prog k167 [] (fin Try.prog [(.tmp 4)] Φ) (tm0 args) H) : CallsA Try.prog 167 args H Φ :=
  CallsA.w k167 [(.tmp 4)] (fun _ => []) Try.func167 rfl rfl (by kernel_rfl) (by kernel_rfl) h

/-- spec.l1Bit -/
def k169 : KC :=
  (.seq
   (.ops [⟨some 2, none, (.assign (.const (.int .i64 0)))⟩])
   (.seq
    (.seq
     (.ops [⟨some 3, none, (.move (.tmp 0))⟩])
     (.cond (.tmp 3)
      (.seq
       (.ops [⟨some 2, none, (.assign (.const (.int .i64 1)))⟩])
       .ret)
      .skip))
    (.seq
     (.ops [⟨some 2, none, (.assign (.const (.int .i64 0)))⟩])
     .ret)))
theorem w169 {args : Array Value} {H : AH} {Φ : Value → AH → Prop} (h : rW Try.prog k169 [] (fin Try.prog [(.tmp 2)] Φ) (tm0 args) H) : CallsA Try.prog 169 args H Φ :=
  CallsA.w k169 [(.tmp 2)] (fun _ => []) Try.func169 rfl rfl (by kernel_rfl) (by kernel_rfl) h

/-- spec.Two -/
def k124 : KC :=
  (.seq
   (.ops [⟨some 6, none, (.assign (.const (.int .i64 0)))⟩,
     ⟨some 7, none, (.assign (.const (.int .i64 0)))⟩])
   (.seq
    (.seq
     (.ops [⟨some 11, none, (.move (.tmp 0))⟩,
       ⟨some 12, none, (.call ⟨(.value (.func 123)), #[(.tmp 11)], #[3]⟩)⟩,
       ⟨some 13, none, (.unOp .not 4 (.tmp 12))⟩,
       ⟨some 14, none, (.move (.tmp 13))⟩,
       ⟨some 15, (some (14, false)), (.move (.tmp 1))⟩,
       ⟨some 16, (some (14, false)), (.call ⟨(.value (.func 137)), #[(.tmp 15)], #[3]⟩)⟩,
       ⟨some 17, (some (14, false)), (.unOp .not 4 (.tmp 16))⟩,
       ⟨some 18, none, (.pick (.tmp 14) (.const (.bool true)) (.tmp 17))⟩,
       ⟨some 19, none, (.move (.tmp 18))⟩,
       ⟨some 20, (some (19, false)), (.move (.tmp 2))⟩,
       ⟨some 21, (some (19, false)), (.call ⟨(.value (.func 137)), #[(.tmp 20)], #[3]⟩)⟩,
       ⟨some 22, (some (19, false)), (.unOp .not 4 (.tmp 21))⟩,
       ⟨some 23, none, (.pick (.tmp 19) (.const (.bool true)) (.tmp 22))⟩])
     (.cond (.tmp 23)
      (.seq
       (.ops [⟨some 6, none, (.assign (.const (.int .i64 0)))⟩,
         ⟨some 7, none, (.assign (.const (.int .i64 1)))⟩])
       .ret)
      .skip))
    (.seq
     (.ops [⟨some 8, none, (.assign (.const (.int .i64 0)))⟩])
     (.seq
      (.seq
       (.ops [⟨some 24, none, (.move (.tmp 0))⟩])
       (.block 0
        (.seq
         (.ops [⟨some 26, none, (.binOp .eql 3 (.tmp 24) (.const (.int .i64 43)) 3)⟩,
           ⟨some 25, none, (.assign (.tmp 26))⟩])
         (.cond (.tmp 25)
          (.ops [⟨some 27, none, (.move (.tmp 1))⟩,
            ⟨some 28, none, (.move (.tmp 2))⟩,
            ⟨some 29, none, (.binOp .add 3 (.tmp 27) (.tmp 28) 3)⟩,
            ⟨some 8, none, (.assign (.tmp 29))⟩])
          (.seq
           (.ops [⟨some 31, none, (.binOp .eql 3 (.tmp 24) (.const (.int .i64 45)) 3)⟩,
             ⟨some 30, none, (.assign (.tmp 31))⟩])
           (.cond (.tmp 30)
            (.ops [⟨some 32, none, (.move (.tmp 1))⟩,
              ⟨some 33, none, (.move (.tmp 2))⟩,
              ⟨some 34, none, (.binOp .sub 3 (.tmp 32) (.tmp 33) 3)⟩,
              ⟨some 8, none, (.assign (.tmp 34))⟩])
            (.seq
             (.ops [⟨some 36, none, (.binOp .eql 3 (.tmp 24) (.const (.int .i64 42)) 3)⟩,
               ⟨some 35, none, (.assign (.tmp 36))⟩])
             (.cond (.tmp 35)
              (.seq
               (.ops [⟨some 38, none, (.move (.tmp 1))⟩,
                 ⟨some 39, none, (.move (.tmp 2))⟩,
                 ⟨some 40, none, (.call ⟨(.value (.func 165)), #[(.tmp 38), (.tmp 39)], #[3, 3]⟩)⟩,
                 ⟨some 37, none, (.move (.tmp 40))⟩,
                 ⟨some 41, none, (.extract (.tmp 37) 0)⟩,
                 ⟨some 42, none, (.extract (.tmp 37) 1)⟩,
                 ⟨some 9, none, (.assign (.tmp 41))⟩,
                 ⟨some 10, none, (.assign (.tmp 42))⟩])
               (.seq
                (.seq
                 (.ops [⟨some 43, none, (.move (.tmp 10))⟩,
                   ⟨some 44, none, (.unOp .not 4 (.tmp 43))⟩])
                 (.cond (.tmp 44)
                  (.seq
                   (.ops [⟨some 6, none, (.assign (.const (.int .i64 0)))⟩,
                     ⟨some 7, none, (.assign (.const (.int .i64 6)))⟩])
                   .ret)
                  .skip))
                (.ops [⟨some 45, none, (.move (.tmp 9))⟩,
                  ⟨some 8, none, (.assign (.tmp 45))⟩])))
              (.seq
               (.ops [⟨some 47, none, (.binOp .eql 3 (.tmp 24) (.const (.int .i64 37)) 3)⟩,
                 ⟨some 46, none, (.assign (.tmp 47))⟩])
               (.cond (.tmp 46)
                (.seq
                 (.seq
                  (.ops [⟨some 48, none, (.move (.tmp 2))⟩,
                    ⟨some 49, none, (.binOp .eql 3 (.tmp 48) (.const (.int .i64 0)) 3)⟩])
                  (.cond (.tmp 49)
                   (.seq
                    (.ops [⟨some 6, none, (.assign (.const (.int .i64 0)))⟩,
                      ⟨some 7, none, (.assign (.const (.int .i64 2)))⟩])
                    .ret)
                   .skip))
                 (.ops [⟨some 50, none, (.move (.tmp 1))⟩,
                   ⟨some 51, none, (.move (.tmp 2))⟩,
                   ⟨some 52, none, (.call ⟨(.value (.func 166)), #[(.tmp 50), (.tmp 51)], #[3, 3]⟩)⟩,
                   ⟨some 8, none, (.assign (.tmp 52))⟩]))
                (.seq
                 (.ops [⟨some 54, none, (.binOp .eql 3 (.tmp 24) (.const (.int .i64 124)) 3)⟩,
                   ⟨some 53, none, (.assign (.tmp 54))⟩])
                 (.cond (.tmp 53)
                  (.seq
                   (.ops [⟨some 55, none, (.move (.tmp 2))⟩,
                     ⟨some 8, none, (.assign (.tmp 55))⟩])
                   (.seq
                    (.ops [⟨some 56, none, (.move (.tmp 1))⟩,
                      ⟨some 57, none, (.binOp .neq 3 (.tmp 56) (.const (.int .i64 0)) 3)⟩])
                    (.cond (.tmp 57)
                     (.ops [⟨some 58, none, (.move (.tmp 2))⟩,
                       ⟨some 59, none, (.move (.tmp 1))⟩,
                       ⟨some 60, none, (.move (.tmp 2))⟩,
                       ⟨some 61, none, (.move (.tmp 1))⟩,
                       ⟨some 62, none, (.call ⟨(.value (.func 166)), #[(.tmp 60), (.tmp 61)], #[3, 3]⟩)⟩,
                       ⟨some 63, none, (.binOp .mul 3 (.tmp 59) (.tmp 62) 3)⟩,
                       ⟨some 64, none, (.binOp .sub 3 (.tmp 58) (.tmp 63) 3)⟩,
                       ⟨some 8, none, (.assign (.tmp 64))⟩])
                     .skip)))
                  (.seq
                   (.ops [⟨some 66, none, (.binOp .eql 3 (.tmp 24) (.const (.int .i64 38)) 3)⟩,
                     ⟨some 65, none, (.assign (.tmp 66))⟩])
                   (.cond (.tmp 65)
                    (.ops [⟨some 67, none, (.move (.tmp 1))⟩,
                      ⟨some 68, none, (.move (.tmp 2))⟩,
                      ⟨some 69, none, (.call ⟨(.value (.func 167)), #[(.tmp 67), (.tmp 68)], #[3, 3]⟩)⟩,
                      ⟨some 8, none, (.assign (.tmp 69))⟩])
                    (.seq
                     (.ops [⟨some 71, none, (.binOp .eql 3 (.tmp 24) (.const (.int .i64 94)) 3)⟩,
                       ⟨some 70, none, (.assign (.tmp 71))⟩])
                     (.cond (.tmp 70)
                      (.ops [⟨some 72, none, (.move (.tmp 1))⟩,
                        ⟨some 73, none, (.move (.tmp 2))⟩,
                        ⟨some 74, none, (.call ⟨(.value (.func 168)), #[(.tmp 72), (.tmp 73)], #[3, 3]⟩)⟩,
                        ⟨some 8, none, (.assign (.tmp 74))⟩])
                      (.seq
                       (.ops [⟨some 76, none, (.binOp .eql 3 (.tmp 24) (.const (.int .i64 61)) 3)⟩,
                         ⟨some 75, none, (.assign (.tmp 76))⟩])
                       (.cond (.tmp 75)
                        (.ops [⟨some 77, none, (.move (.tmp 1))⟩,
                          ⟨some 78, none, (.move (.tmp 2))⟩,
                          ⟨some 79, none, (.binOp .eql 3 (.tmp 77) (.tmp 78) 3)⟩,
                          ⟨some 80, none, (.call ⟨(.value (.func 169)), #[(.tmp 79)], #[4]⟩)⟩,
                          ⟨some 8, none, (.assign (.tmp 80))⟩])
                        (.seq
                         (.ops [⟨some 82, none, (.binOp .eql 3 (.tmp 24) (.const (.int .i64 60)) 3)⟩,
                           ⟨some 81, none, (.assign (.tmp 82))⟩])
                         (.cond (.tmp 81)
                          (.ops [⟨some 83, none, (.move (.tmp 1))⟩,
                            ⟨some 84, none, (.move (.tmp 2))⟩,
                            ⟨some 85, none, (.binOp .lss 3 (.tmp 83) (.tmp 84) 3)⟩,
                            ⟨some 86, none, (.call ⟨(.value (.func 169)), #[(.tmp 85)], #[4]⟩)⟩,
                            ⟨some 8, none, (.assign (.tmp 86))⟩])
                          (.seq
                           (.ops [⟨some 88, none, (.binOp .eql 3 (.tmp 24) (.const (.int .i64 62)) 3)⟩,
                             ⟨some 87, none, (.assign (.tmp 88))⟩])
                           (.cond (.tmp 87)
                            (.ops [⟨some 89, none, (.move (.tmp 1))⟩,
                              ⟨some 90, none, (.move (.tmp 2))⟩,
                              ⟨some 91, none, (.binOp .gtr 3 (.tmp 89) (.tmp 90) 3)⟩,
                              ⟨some 92, none, (.call ⟨(.value (.func 169)), #[(.tmp 91)], #[4]⟩)⟩,
                              ⟨some 8, none, (.assign (.tmp 92))⟩])
                            .skip))))))))))))))))))))))
      (.seq
       (.seq
        (.ops [⟨some 93, none, (.move (.tmp 8))⟩,
          ⟨some 94, none, (.call ⟨(.value (.func 137)), #[(.tmp 93)], #[3]⟩)⟩,
          ⟨some 95, none, (.unOp .not 4 (.tmp 94))⟩])
        (.cond (.tmp 95)
         (.seq
          (.ops [⟨some 6, none, (.assign (.const (.int .i64 0)))⟩,
            ⟨some 7, none, (.assign (.const (.int .i64 6)))⟩])
          .ret)
         .skip))
       (.seq
        (.ops [⟨some 96, none, (.move (.tmp 8))⟩,
          ⟨some 6, none, (.assign (.tmp 96))⟩,
          ⟨some 7, none, (.assign (.const (.int .i64 0)))⟩])
        .ret))))))
theorem w124 {args : Array Value} {H : AH} {Φ : Value → AH → Prop} (h : rW Try.prog k124 [] (fin Try.prog [(.tmp 6), (.tmp 7)] Φ) (tm0 args) H) : CallsA Try.prog 124 args H Φ :=
  CallsA.w k124 [(.tmp 6), (.tmp 7)] (fun _ => []) Try.func124 rfl rfl (by kernel_rfl) (by kernel_rfl) h

/-- spec.Outer -/
def k54 : KC :=
  (.seq
   (.ops [⟨some 4, none, (.box 26 (.tmp 1))⟩,
     ⟨some 5, none, (.box 26 (.tmp 2))⟩,
     ⟨some 6, none, (.alloc 26)⟩,
     ⟨some 7, none, (.assign (.const (.int .i64 0)))⟩])
   (.seq
    (.ops [⟨some 14, none, (.build 26 #[])⟩,
      ⟨some 8, none, (.alloc 26)⟩,
      ⟨none, none, (.store 26 (.tmp 8) (.tmp 14))⟩])
    (.seq
     (.draw #[] [(2, 0), (5, 0), (5, 4)]
       [⟨some 15, none, (.buildSlice 24 0 #[])⟩,
       ⟨some 16, none, (.fieldAddr 26 (.tmp 4) 0)⟩,
       ⟨some 17, none, (.load 24 (.tmp 16))⟩,
       ⟨some 18, none, (.call ⟨(.builtin .append), #[(.tmp 15), (.tmp 17)], #[24, 24]⟩)⟩,
       ⟨some 19, none, (.fieldAddr 26 (.tmp 5) 0)⟩,
       ⟨some 20, none, (.load 24 (.tmp 19))⟩,
       ⟨some 21, none, (.call ⟨(.builtin .append), #[(.tmp 18), (.tmp 20)], #[24, 24]⟩)⟩,
       ⟨some 22, none, (.build 26 #[(0, (.tmp 21))])⟩,
       ⟨some 9, none, (.alloc 26)⟩,
       ⟨none, none, (.store 26 (.tmp 9) (.tmp 22))⟩])
     (.seq
      (.block 0
       (.seq
        (.ops [⟨some 24, none, (.load 26 (.tmp 4))⟩,
          ⟨some 25, none, (.call ⟨(.value (.func 65)), #[(.tmp 24)], #[26]⟩)⟩,
          ⟨some 26, none, (.unOp .not 4 (.tmp 25))⟩,
          ⟨some 27, none, (.move (.tmp 26))⟩,
          ⟨some 28, (some (27, false)), (.load 26 (.tmp 5))⟩,
          ⟨some 29, (some (27, false)), (.call ⟨(.value (.func 65)), #[(.tmp 28)], #[26]⟩)⟩,
          ⟨some 30, (some (27, false)), (.unOp .not 4 (.tmp 29))⟩,
          ⟨some 31, none, (.pick (.tmp 27) (.const (.bool true)) (.tmp 30))⟩,
          ⟨some 32, none, (.move (.tmp 31))⟩,
          ⟨some 33, (some (32, false)), (.move (.tmp 0))⟩,
          ⟨some 34, (some (32, false)), (.call ⟨(.value (.func 123)), #[(.tmp 33)], #[3]⟩)⟩,
          ⟨some 35, (some (32, false)), (.unOp .not 4 (.tmp 34))⟩,
          ⟨some 36, none, (.pick (.tmp 32) (.const (.bool true)) (.tmp 35))⟩,
          ⟨some 23, none, (.assign (.tmp 36))⟩])
        (.cond (.tmp 23)
         (.seq
          (.ops [⟨some 37, none, (.load 26 (.tmp 8))⟩,
            ⟨none, none, (.store 26 (.tmp 6) (.tmp 37))⟩,
            ⟨some 7, none, (.assign (.const (.int .i64 1)))⟩])
          .ret)
         (.seq
          (.ops [⟨some 39, none, (.fieldAddr 26 (.tmp 9) 0)⟩,
            ⟨some 40, none, (.load 24 (.tmp 39))⟩,
            ⟨some 41, none, (.call ⟨(.builtin .len), #[(.tmp 40)], #[24]⟩)⟩,
            ⟨some 42, none, (.binOp .gtr 3 (.tmp 41) (.const (.int .i64 3)) 3)⟩,
            ⟨some 38, none, (.assign (.tmp 42))⟩])
          (.cond (.tmp 38)
           (.seq
            (.ops [⟨some 43, none, (.load 26 (.tmp 8))⟩,
              ⟨none, none, (.store 26 (.tmp 6) (.tmp 43))⟩,
              ⟨some 7, none, (.assign (.const (.int .i64 4)))⟩])
            .ret)
           (.seq
            (.ops [⟨some 45, none, (.fieldAddr 26 (.tmp 9) 0)⟩,
              ⟨some 46, none, (.load 24 (.tmp 45))⟩,
              ⟨some 47, none, (.call ⟨(.value (.func 112)), #[(.tmp 46)], #[24]⟩)⟩,
              ⟨some 48, none, (.unOp .not 4 (.tmp 47))⟩,
              ⟨some 44, none, (.assign (.tmp 48))⟩])
            (.cond (.tmp 44)
             (.seq
              (.ops [⟨some 49, none, (.load 26 (.tmp 8))⟩,
                ⟨none, none, (.store 26 (.tmp 6) (.tmp 49))⟩,
                ⟨some 7, none, (.assign (.const (.int .i64 6)))⟩])
              .ret)
             .skip)))))))
      (.seq
       (.seq
        (.ops [⟨some 10, none, (.assign (.const (.int .i64 0)))⟩])
        (.block 1
         (.loop
          (.seq
           (.seq
            (.ops [⟨some 50, none, (.move (.tmp 10))⟩,
              ⟨some 51, none, (.fieldAddr 26 (.tmp 4) 1)⟩,
              ⟨some 52, none, (.load 24 (.tmp 51))⟩,
              ⟨some 53, none, (.call ⟨(.builtin .len), #[(.tmp 52)], #[24]⟩)⟩,
              ⟨some 54, none, (.binOp .lss 3 (.tmp 50) (.tmp 53) 3)⟩])
            (.cond (.tmp 54)
             .skip
             (.exit 1)))
           (.seq
            (.block 2
             (.seq
              (.ops [⟨some 11, none, (.assign (.const (.int .i64 0)))⟩])
              (.block 3
               (.loop
                (.seq
                 (.seq
                  (.ops [⟨some 57, none, (.move (.tmp 11))⟩,
                    ⟨some 58, none, (.fieldAddr 26 (.tmp 5) 1)⟩,
                    ⟨some 59, none, (.load 24 (.tmp 58))⟩,
                    ⟨some 60, none, (.call ⟨(.builtin .len), #[(.tmp 59)], #[24]⟩)⟩,
                    ⟨some 61, none, (.binOp .lss 3 (.tmp 57) (.tmp 60) 3)⟩])
                  (.cond (.tmp 61)
                   .skip
                   (.exit 3)))
                 (.seq
                  (.block 4
                   (.seq
                    (.draw #[] [(2, 0), (5, 0), (7, 0), (10, 0)]
                      [⟨some 65, none, (.move (.tmp 0))⟩,
                      ⟨some 66, none, (.fieldAddr 26 (.tmp 4) 1)⟩,
                      ⟨some 67, none, (.load 24 (.tmp 66))⟩,
                      ⟨some 68, none, (.move (.tmp 10))⟩,
                      ⟨some 69, none, (.indexAddr 24 (.tmp 67) (.tmp 68))⟩,
                      ⟨some 70, none, (.load 3 (.tmp 69))⟩,
                      ⟨some 71, none, (.fieldAddr 26 (.tmp 5) 1)⟩,
                      ⟨some 72, none, (.load 24 (.tmp 71))⟩,
                      ⟨some 73, none, (.move (.tmp 11))⟩,
                      ⟨some 74, none, (.indexAddr 24 (.tmp 72) (.tmp 73))⟩,
                      ⟨some 75, none, (.load 3 (.tmp 74))⟩,
                      ⟨some 76, none, (.call ⟨(.value (.func 124)), #[(.tmp 65), (.tmp 70), (.tmp 75)], #[3, 3, 3]⟩)⟩,
                      ⟨some 64, none, (.move (.tmp 76))⟩,
                      ⟨some 77, none, (.extract (.tmp 64) 0)⟩,
                      ⟨some 78, none, (.extract (.tmp 64) 1)⟩,
                      ⟨some 12, none, (.assign (.tmp 77))⟩,
                      ⟨some 13, none, (.assign (.tmp 78))⟩])
                    (.seq
                     (.seq
                      (.ops [⟨some 79, none, (.move (.tmp 13))⟩,
                        ⟨some 80, none, (.binOp .neq 3 (.tmp 79) (.const (.int .i64 0)) 3)⟩])
                      (.cond (.tmp 80)
                       (.seq
                        (.ops [⟨some 81, none, (.load 26 (.tmp 8))⟩,
                          ⟨some 82, none, (.move (.tmp 13))⟩,
                          ⟨none, none, (.store 26 (.tmp 6) (.tmp 81))⟩,
                          ⟨some 7, none, (.assign (.tmp 82))⟩])
                        .ret)
                       .skip))
                     (.ops [⟨some 83, none, (.fieldAddr 26 (.tmp 9) 1)⟩,
                       ⟨some 84, none, (.load 24 (.tmp 83))⟩,
                       ⟨some 85, none, (.move (.tmp 12))⟩,
                       ⟨some 86, none, (.buildSlice 24 1 #[(0, (.tmp 85))])⟩,
                       ⟨some 87, none, (.call ⟨(.builtin .append), #[(.tmp 84), (.tmp 86)], #[24, 24]⟩)⟩,
                       ⟨some 88, none, (.fieldAddr 26 (.tmp 9) 1)⟩,
                       ⟨none, none, (.store 24 (.tmp 88) (.tmp 87))⟩]))))
                  (.ops [⟨some 62, none, (.move (.tmp 11))⟩,
                    ⟨some 63, none, (.binOp .add 3 (.tmp 62) (.const (.int .i64 1)) 3)⟩,
                    ⟨some 11, none, (.assign (.tmp 63))⟩])))))))
            (.ops [⟨some 55, none, (.move (.tmp 10))⟩,
              ⟨some 56, none, (.binOp .add 3 (.tmp 55) (.const (.int .i64 1)) 3)⟩,
              ⟨some 10, none, (.assign (.tmp 56))⟩]))))))
       (.seq
        (.ops [⟨some 89, none, (.load 26 (.tmp 9))⟩,
          ⟨none, none, (.store 26 (.tmp 6) (.tmp 89))⟩,
          ⟨some 7, none, (.assign (.const (.int .i64 0)))⟩])
        .ret))))))
theorem w54 {args : Array Value} {H : AH} {Φ : Value → AH → Prop} (h : rW Try.prog k54 [] (fin Try.prog [(.cell 6 26), (.tmp 7)] Φ) (tm0 args) H) : CallsA Try.prog 54 args H Φ :=
  CallsA.w k54 [(.cell 6 26), (.tmp 7)] (fun i => if i = 2 then [(2, 0), (5, 0), (5, 4)] else if i = 15 then [(2, 0), (5, 0), (7, 0), (10, 0)] else []) Try.func54 rfl rfl (by kernel_rfl) (by kernel_rfl) h

/-- laws.FnOuter -/
def k10 : KC :=
  (.seq
   (.ops [⟨some 2, none, (.assign (.const (.bool false)))⟩])
   (.seq
    (.seq
     (.ops [⟨some 18, none, (.move (.tmp 0))⟩,
       ⟨some 19, none, (.call ⟨(.value (.func 15)), #[(.tmp 18)], #[22]⟩)⟩])
     (.cond (.tmp 19)
      (.seq
       (.ops [⟨some 2, none, (.assign (.const (.bool true)))⟩])
       .ret)
      .skip))
    (.seq
     (.ops [⟨some 21, none, (.move (.tmp 0))⟩,
       ⟨some 22, none, (.call ⟨(.value (.func 52)), #[(.tmp 21)], #[22]⟩)⟩,
       ⟨some 20, none, (.move (.tmp 22))⟩,
       ⟨some 23, none, (.extract (.tmp 20) 0)⟩,
       ⟨some 24, none, (.extract (.tmp 20) 1)⟩,
       ⟨some 25, none, (.extract (.tmp 20) 2)⟩,
       ⟨some 4, none, (.alloc 26)⟩,
       ⟨some 5, none, (.alloc 26)⟩,
       ⟨some 3, none, (.assign (.tmp 23))⟩,
       ⟨none, none, (.store 26 (.tmp 4) (.tmp 24))⟩,
       ⟨none, none, (.store 26 (.tmp 5) (.tmp 25))⟩])
     (.seq
      (.ops [⟨some 27, none, (.move (.tmp 3))⟩,
        ⟨some 28, none, (.load 26 (.tmp 4))⟩,
        ⟨some 29, none, (.load 26 (.tmp 5))⟩,
        ⟨some 30, none, (.call ⟨(.value (.func 53)), #[(.tmp 27), (.tmp 28), (.tmp 29)], #[3, 26, 26]⟩)⟩,
        ⟨some 26, none, (.move (.tmp 30))⟩,
        ⟨some 31, none, (.extract (.tmp 26) 0)⟩,
        ⟨some 32, none, (.extract (.tmp 26) 1)⟩,
        ⟨some 6, none, (.alloc 26)⟩,
        ⟨none, none, (.store 26 (.tmp 6) (.tmp 31))⟩,
        ⟨some 7, none, (.assign (.tmp 32))⟩])
      (.seq
       (.ops [⟨some 34, none, (.move (.tmp 3))⟩,
         ⟨some 35, none, (.load 26 (.tmp 4))⟩,
         ⟨some 36, none, (.load 26 (.tmp 5))⟩,
         ⟨some 37, none, (.call ⟨(.value (.func 54)), #[(.tmp 34), (.tmp 35), (.tmp 36)], #[3, 26, 26]⟩)⟩,
         ⟨some 33, none, (.move (.tmp 37))⟩,
         ⟨some 38, none, (.extract (.tmp 33) 0)⟩,
         ⟨some 39, none, (.extract (.tmp 33) 1)⟩,
         ⟨some 8, none, (.alloc 26)⟩,
         ⟨none, none, (.store 26 (.tmp 8) (.tmp 38))⟩,
         ⟨some 9, none, (.assign (.tmp 39))⟩])
       (.seq
        (.seq
         (.ops [⟨some 40, none, (.move (.tmp 7))⟩,
           ⟨some 41, none, (.move (.tmp 9))⟩,
           ⟨some 42, none, (.binOp .neq 3 (.tmp 40) (.tmp 41) 3)⟩])
         (.cond (.tmp 42)
          (.seq
           (.ops [⟨some 2, none, (.assign (.const (.bool false)))⟩])
           .ret)
          .skip))
        (.seq
         (.seq
          (.ops [⟨some 43, none, (.move (.tmp 7))⟩,
            ⟨some 44, none, (.binOp .neq 3 (.tmp 43) (.const (.int .i64 0)) 3)⟩])
          (.cond (.tmp 44)
           (.seq
            (.ops [⟨some 45, none, (.fieldAddr 26 (.tmp 6) 1)⟩,
              ⟨some 46, none, (.load 24 (.tmp 45))⟩,
              ⟨some 47, none, (.call ⟨(.builtin .len), #[(.tmp 46)], #[24]⟩)⟩,
              ⟨some 48, none, (.binOp .eql 3 (.tmp 47) (.const (.int .i64 0)) 3)⟩,
              ⟨some 2, none, (.assign (.tmp 48))⟩])
            .ret)
           .skip))
         (.seq
          (.seq
           (.ops [⟨some 10, none, (.assign (.const (.int .i64 0)))⟩])
           (.block 0
            (.loop
             (.seq
              (.seq
               (.ops [⟨some 49, none, (.move (.tmp 10))⟩,
                 ⟨some 50, none, (.fieldAddr 26 (.tmp 4) 1)⟩,
                 ⟨some 51, none, (.load 24 (.tmp 50))⟩,
                 ⟨some 52, none, (.call ⟨(.builtin .len), #[(.tmp 51)], #[24]⟩)⟩,
                 ⟨some 53, none, (.binOp .lss 3 (.tmp 49) (.tmp 52) 3)⟩])
               (.cond (.tmp 53)
                .skip
                (.exit 0)))
              (.seq
               (.block 1
                (.seq
                 (.ops [⟨some 11, none, (.assign (.const (.int .i64 0)))⟩])
                 (.block 2
                  (.loop
                   (.seq
                    (.seq
                     (.ops [⟨some 56, none, (.move (.tmp 11))⟩,
                       ⟨some 57, none, (.fieldAddr 26 (.tmp 5) 1)⟩,
                       ⟨some 58, none, (.load 24 (.tmp 57))⟩,
                       ⟨some 59, none, (.call ⟨(.builtin .len), #[(.tmp 58)], #[24]⟩)⟩,
                       ⟨some 60, none, (.binOp .lss 3 (.tmp 56) (.tmp 59) 3)⟩])
                     (.cond (.tmp 60)
                      .skip
                      (.exit 2)))
                    (.seq
                     (.block 3
                      (.seq
                       (.draw #[] [(2, 0), (5, 0), (7, 0), (10, 0)]
                         [⟨some 64, none, (.move (.tmp 3))⟩,
                         ⟨some 65, none, (.fieldAddr 26 (.tmp 4) 1)⟩,
                         ⟨some 66, none, (.load 24 (.tmp 65))⟩,
                         ⟨some 67, none, (.move (.tmp 10))⟩,
                         ⟨some 68, none, (.indexAddr 24 (.tmp 66) (.tmp 67))⟩,
                         ⟨some 69, none, (.load 3 (.tmp 68))⟩,
                         ⟨some 70, none, (.fieldAddr 26 (.tmp 5) 1)⟩,
                         ⟨some 71, none, (.load 24 (.tmp 70))⟩,
                         ⟨some 72, none, (.move (.tmp 11))⟩,
                         ⟨some 73, none, (.indexAddr 24 (.tmp 71) (.tmp 72))⟩,
                         ⟨some 74, none, (.load 3 (.tmp 73))⟩,
                         ⟨some 75, none, (.call ⟨(.value (.func 55)), #[(.tmp 64), (.tmp 69), (.tmp 74)], #[3, 3, 3]⟩)⟩,
                         ⟨some 63, none, (.move (.tmp 75))⟩,
                         ⟨some 76, none, (.extract (.tmp 63) 0)⟩,
                         ⟨some 77, none, (.extract (.tmp 63) 1)⟩,
                         ⟨some 12, none, (.assign (.tmp 76))⟩,
                         ⟨some 13, none, (.assign (.tmp 77))⟩])
                       (.seq
                        (.ops [⟨some 78, none, (.move (.tmp 13))⟩,
                          ⟨some 79, none, (.binOp .neq 3 (.tmp 78) (.const (.int .i64 0)) 3)⟩,
                          ⟨some 80, none, (.move (.tmp 79))⟩,
                          ⟨some 81, (some (80, false)), (.move (.tmp 12))⟩,
                          ⟨some 82, (some (80, false)), (.fieldAddr 26 (.tmp 6) 1)⟩,
                          ⟨some 83, (some (80, false)), (.load 24 (.tmp 82))⟩,
                          ⟨some 84, (some (80, false)), (.move (.tmp 10))⟩,
                          ⟨some 85, (some (80, false)), (.fieldAddr 26 (.tmp 5) 1)⟩,
                          ⟨some 86, (some (80, false)), (.load 24 (.tmp 85))⟩,
                          ⟨some 87, (some (80, false)), (.call ⟨(.builtin .len), #[(.tmp 86)], #[24]⟩)⟩,
                          ⟨some 88, (some (80, false)), (.binOp .mul 3 (.tmp 84) (.tmp 87) 3)⟩,
                          ⟨some 89, (some (80, false)), (.move (.tmp 11))⟩,
                          ⟨some 90, (some (80, false)), (.binOp .add 3 (.tmp 88) (.tmp 89) 3)⟩,
                          ⟨some 91, (some (80, false)), (.indexAddr 24 (.tmp 83) (.tmp 90))⟩,
                          ⟨some 92, (some (80, false)), (.load 3 (.tmp 91))⟩,
                          ⟨some 93, (some (80, false)), (.binOp .neq 3 (.tmp 81) (.tmp 92) 3)⟩,
                          ⟨some 94, none, (.pick (.tmp 80) (.const (.bool true)) (.tmp 93))⟩])
                        (.cond (.tmp 94)
                         (.seq
                          (.ops [⟨some 2, none, (.assign (.const (.bool false)))⟩])
                          .ret)
                         .skip))))
                     (.ops [⟨some 61, none, (.move (.tmp 11))⟩,
                       ⟨some 62, none, (.binOp .add 3 (.tmp 61) (.const (.int .i64 1)) 3)⟩,
                       ⟨some 11, none, (.assign (.tmp 62))⟩])))))))
               (.ops [⟨some 54, none, (.move (.tmp 10))⟩,
                 ⟨some 55, none, (.binOp .add 3 (.tmp 54) (.const (.int .i64 1)) 3)⟩,
                 ⟨some 10, none, (.assign (.tmp 55))⟩]))))))
          (.seq
           (.seq
            (.ops [⟨some 95, none, (.fieldAddr 26 (.tmp 4) 0)⟩,
              ⟨some 96, none, (.load 24 (.tmp 95))⟩,
              ⟨some 97, none, (.call ⟨(.builtin .len), #[(.tmp 96)], #[24]⟩)⟩,
              ⟨some 98, none, (.binOp .neq 3 (.tmp 97) (.const (.int .i64 1)) 3)⟩,
              ⟨some 99, none, (.move (.tmp 98))⟩,
              ⟨some 100, (some (99, false)), (.fieldAddr 26 (.tmp 5) 0)⟩,
              ⟨some 101, (some (99, false)), (.load 24 (.tmp 100))⟩,
              ⟨some 102, (some (99, false)), (.call ⟨(.builtin .len), #[(.tmp 101)], #[24]⟩)⟩,
              ⟨some 103, (some (99, false)), (.binOp .neq 3 (.tmp 102) (.const (.int .i64 1)) 3)⟩,
              ⟨some 104, none, (.pick (.tmp 99) (.const (.bool true)) (.tmp 103))⟩,
              ⟨some 105, none, (.move (.tmp 104))⟩,
              ⟨some 106, (some (105, false)), (.move (.tmp 3))⟩,
              ⟨some 107, (some (105, false)), (.binOp .neq 3 (.tmp 106) (.const (.int .i64 43)) 3)⟩,
              ⟨some 108, (some (105, false)), (.move (.tmp 107))⟩,
              ⟨some 109, (some (108, true)), (.move (.tmp 3))⟩,
              ⟨some 110, (some (108, true)), (.binOp .neq 3 (.tmp 109) (.const (.int .i64 42)) 3)⟩,
              ⟨some 111, (some (105, false)), (.pick (.tmp 108) (.tmp 110) (.const (.bool false)))⟩,
              ⟨some 112, (some (105, false)), (.move (.tmp 111))⟩,
              ⟨some 113, (some (112, true)), (.move (.tmp 3))⟩,
              ⟨some 114, (some (112, true)), (.binOp .neq 3 (.tmp 113) (.const (.int .i64 38)) 3)⟩,
              ⟨some 115, (some (105, false)), (.pick (.tmp 112) (.tmp 114) (.const (.bool false)))⟩,
              ⟨some 116, (some (105, false)), (.move (.tmp 115))⟩,
              ⟨some 117, (some (116, true)), (.move (.tmp 3))⟩,
              ⟨some 118, (some (116, true)), (.binOp .neq 3 (.tmp 117) (.const (.int .i64 94)) 3)⟩,
              ⟨some 119, (some (105, false)), (.pick (.tmp 116) (.tmp 118) (.const (.bool false)))⟩,
              ⟨some 120, (some (105, false)), (.move (.tmp 119))⟩,
              ⟨some 121, (some (120, true)), (.move (.tmp 3))⟩,
              ⟨some 122, (some (120, true)), (.binOp .neq 3 (.tmp 121) (.const (.int .i64 61)) 3)⟩,
              ⟨some 123, (some (105, false)), (.pick (.tmp 120) (.tmp 122) (.const (.bool false)))⟩,
              ⟨some 124, none, (.pick (.tmp 105) (.const (.bool true)) (.tmp 123))⟩])
            (.cond (.tmp 124)
             (.seq
              (.ops [⟨some 125, none, (.load 26 (.tmp 6))⟩,
                ⟨some 126, none, (.call ⟨(.value (.func 56)), #[(.tmp 125)], #[26]⟩)⟩,
                ⟨some 2, none, (.assign (.tmp 126))⟩])
              .ret)
             .skip))
           (.seq
            (.ops [⟨some 128, none, (.move (.tmp 3))⟩,
              ⟨some 129, none, (.load 26 (.tmp 5))⟩,
              ⟨some 130, none, (.load 26 (.tmp 4))⟩,
              ⟨some 131, none, (.call ⟨(.value (.func 53)), #[(.tmp 128), (.tmp 129), (.tmp 130)], #[3, 26, 26]⟩)⟩,
              ⟨some 127, none, (.move (.tmp 131))⟩,
              ⟨some 132, none, (.extract (.tmp 127) 0)⟩,
              ⟨some 133, none, (.extract (.tmp 127) 1)⟩,
              ⟨some 14, none, (.alloc 26)⟩,
              ⟨none, none, (.store 26 (.tmp 14) (.tmp 132))⟩,
              ⟨some 15, none, (.assign (.tmp 133))⟩])
            (.seq
             (.ops [⟨some 135, none, (.load 26 (.tmp 6))⟩,
               ⟨some 136, none, (.call ⟨(.value (.func 23)), #[(.tmp 135)], #[26]⟩)⟩,
               ⟨some 134, none, (.move (.tmp 136))⟩,
               ⟨some 137, none, (.extract (.tmp 134) 0)⟩,
               ⟨some 138, none, (.extract (.tmp 134) 1)⟩,
               ⟨some 16, none, (.alloc 26)⟩,
               ⟨none, none, (.store 26 (.tmp 16) (.tmp 137))⟩,
               ⟨some 17, none, (.assign (.tmp 138))⟩])
             (.seq
              (.ops [⟨some 139, none, (.move (.tmp 15))⟩,
                ⟨some 140, none, (.binOp .eql 3 (.tmp 139) (.const (.int .i64 0)) 3)⟩,
                ⟨some 141, none, (.move (.tmp 140))⟩,
                ⟨some 142, (some (141, true)), (.move (.tmp 17))⟩,
                ⟨some 143, (some (141, true)), (.binOp .eql 3 (.tmp 142) (.const (.int .i64 0)) 3)⟩,
                ⟨some 144, none, (.pick (.tmp 141) (.tmp 143) (.const (.bool false)))⟩,
                ⟨some 145, none, (.move (.tmp 144))⟩,
                ⟨some 146, (some (145, true)), (.load 26 (.tmp 14))⟩,
                ⟨some 147, (some (145, true)), (.load 26 (.tmp 16))⟩,
                ⟨some 148, (some (145, true)), (.call ⟨(.value (.func 29)), #[(.tmp 146), (.tmp 147)], #[26, 26]⟩)⟩,
                ⟨some 149, none, (.pick (.tmp 145) (.tmp 148) (.const (.bool false)))⟩,
                ⟨some 2, none, (.assign (.tmp 149))⟩])
              .ret))))))))))))
theorem w10 {args : Array Value} {H : AH} {Φ : Value → AH → Prop} (h : rW Try.prog k10 [] (fin Try.prog [(.tmp 2)] Φ) (tm0 args) H) : CallsA Try.prog 10 args H Φ :=
  CallsA.w k10 [(.tmp 2)] (fun i => if i = 16 then [(2, 0), (5, 0), (7, 0), (10, 0)] else []) Try.func10 rfl rfl (by kernel_rfl) (by kernel_rfl) h

end Go.Proofs.Ytockhdhilemfkaa.AM
