/- The code of the functions that the laws reach, made short; and facts on the types that they use. -/
import Derived.Test.YtgekbancaeabgaaA8
import Derived.KernelRfl
import Derived.Test.YtgekbancaeabgaaRows
set_option linter.unusedVariables false
set_option linter.unusedSimpArgs false
set_option linter.defProp false
set_option maxRecDepth 100000
/- The code of the functions that the laws reach, made short; and facts on the types that they use. -/
namespace Go.Proofs.Ytgekbancaeabgaa.AM
open Go Go.Proofs.Ytgekbancaeabgaa Go.Proofs

theorem al96 {ev : Operand → Value} : aMake Try.prog ev (.alloc 96) = some ([.int .i64 0, .int .i64 0], none) := by kernel_rfl
theorem ap35_35 {a a' : Option Addr} {n c n' c' : Nat} {H : AH} : aAppend Try.prog #[35, 35] #[.slice a n c, .slice a' n' c'] H = app 2 (.slice a n c) (.slice a' n' c') H := append_eq (z := .agg #[.int .i64 0, .int .i64 0]) (e := 96) (e' := 96) (by kernel_rfl) (by kernel_rfl) (by kernel_rfl) (by kernel_rfl) (by kernel_rfl) (by kernel_rfl)
theorem bd96 {ps : Array (Nat × Value)} : aBuild Try.prog 96 ps = (fillP [(0, 1), (1, 1)] [.int .i64 0, .int .i64 0] ps.toList).map fun cs => .agg cs.toArray := build_eq (z := .agg #[.int .i64 0, .int .i64 0]) Try.underlying96 (by kernel_rfl) (by kernel_rfl) (by kernel_rfl) rfl
theorem bs35_0 {ev : Operand → Value} : aMake Try.prog ev (.buildSlice 35 0 #[]) = (fillP [] [] []).map fun cs => (cs, some (0, 2)) := bslice_eq (z := .agg #[.int .i64 0, .int .i64 0]) (e := 96) (by kernel_rfl) (by kernel_rfl) (by kernel_rfl) (by decide) (by kernel_rfl) (by kernel_rfl) rfl rfl
theorem bs35_1 {ev : Operand → Value} {x0 : Operand} : aMake Try.prog ev (.buildSlice 35 1 #[(0, x0)]) = (fillP [(0, 2)] [.int .i64 0, .int .i64 0] [(0, ev x0)]).map fun cs => (cs, some (1, 2)) := bslice_eq (z := .agg #[.int .i64 0, .int .i64 0]) (e := 96) (by kernel_rfl) (by kernel_rfl) (by kernel_rfl) (by decide) (by kernel_rfl) (by kernel_rfl) rfl rfl
theorem cv5_3 {k : IntKind} {n : Int} {G : Hp} : aConv Try.prog 5 3 (.int k n) G = some (.int .i64 (IntKind.i64.wrap n)) := conv_int (e := .int .u8) (by kernel_rfl) (by kernel_rfl)
theorem fa96_0 {b o : Nat} : aFieldAddr Try.prog 96 (.pointer (some ⟨b, o, none⟩)) 0 = some (.pointer (some ⟨b, o + 0, none⟩)) := by kernel_rfl
theorem fa96_1 {b o : Nat} : aFieldAddr Try.prog 96 (.pointer (some ⟨b, o, none⟩)) 1 = some (.pointer (some ⟨b, o + 1, none⟩)) := by kernel_rfl
theorem ix35 {b o n c : Nat} {k : IntKind} {j : Int} : aIndexAddr Try.prog 35 (.slice (some ⟨b, o, none⟩) n c) (.int k j) = if 0 ≤ j ∧ j < n then some (.pointer (some ⟨b, o + j.toNat * 2, none⟩)) else none := by kernel_rfl
theorem us9 : Try.prog.underlying 9 = some .string := by kernel_rfl
theorem ld3 {o : Nat} {cs : List Value} : ld Try.prog 3 o cs = cs[o]? := ld_one (by kernel_rfl)
theorem ld96 {o : Nat} {cs : List Value} : ld Try.prog 96 o cs = aggAt 2 o cs := ld_agg (by kernel_rfl) (by kernel_rfl)
theorem ln9 {s : ByteArray} : aLen Try.prog #[9] #[.string s] = some (.int .i64 s.size) := by kernel_rfl
theorem ln35 {a : Option Addr} {n c : Nat} : aLen Try.prog #[35] #[.slice a n c] = some (.int .i64 n) := by kernel_rfl
theorem st3 {b o : Nat} {v : Value} {H : AH} : aStore Try.prog 3 (.pointer (some ⟨b, o, none⟩)) v H = sto 1 b o v H (wrt H b) := store_eq (by kernel_rfl)
theorem st96 {b o : Nat} {v : Value} {H : AH} : aStore Try.prog 96 (.pointer (some ⟨b, o, none⟩)) v H = sto 2 b o v H (wrt H b) := store_eq (by kernel_rfl)

/-- spec.l8Digit -/
def k82 : KC :=
  (.seq
   (.ops [⟨some 4, none, (.assign (.const (.bool false)))⟩])
   (.seq
    (.ops [⟨some 5, none, (.move (.tmp 1))⟩,
      ⟨some 6, none, (.move (.tmp 0))⟩,
      ⟨some 7, none, (.call ⟨(.builtin .len), #[(.tmp 6)], #[9]⟩)⟩,
      ⟨some 8, none, (.binOp .lss 3 (.tmp 5) (.tmp 7) 3)⟩,
      ⟨some 9, none, (.move (.tmp 8))⟩,
      ⟨some 10, (some (9, true)), (.move (.tmp 0))⟩,
      ⟨some 11, (some (9, true)), (.move (.tmp 1))⟩,
      ⟨some 12, (some (9, true)), (.index 9 (.tmp 10) (.tmp 11))⟩,
      ⟨some 13, (some (9, true)), (.binOp .geq 5 (.tmp 12) (.const (.int .u8 48)) 5)⟩,
      ⟨some 14, none, (.pick (.tmp 9) (.tmp 13) (.const (.bool false)))⟩,
      ⟨some 15, none, (.move (.tmp 14))⟩,
      ⟨some 16, (some (15, true)), (.move (.tmp 0))⟩,
      ⟨some 17, (some (15, true)), (.move (.tmp 1))⟩,
      ⟨some 18, (some (15, true)), (.index 9 (.tmp 16) (.tmp 17))⟩,
      ⟨some 19, (some (15, true)), (.binOp .leq 5 (.tmp 18) (.const (.int .u8 57)) 5)⟩,
      ⟨some 20, none, (.pick (.tmp 15) (.tmp 19) (.const (.bool false)))⟩,
      ⟨some 4, none, (.assign (.tmp 20))⟩])
    .ret))
theorem w82 {args : Array Value} {H : AH} {Φ : Value → AH → Prop} (h : rW Try.prog k82 [] (fin Try.prog [(.tmp 4)] Φ) (tm0 args) H) : CallsA Try.prog 82 args H Φ :=
  CallsA.w k82 [(.tmp 4)] (fun _ => []) Try.func82 rfl rfl (by kernel_rfl) (by kernel_rfl) h

/-- spec.l1Min -/
def k126 : KC :=
  (.seq
   (.ops [⟨some 4, none, (.assign (.const (.int .i64 0)))⟩])
   (.seq
    (.seq
     (.ops [⟨some 5, none, (.move (.tmp 0))⟩,
       ⟨some 6, none, (.move (.tmp 1))⟩,
       ⟨some 7, none, (.binOp .lss 3 (.tmp 5) (.tmp 6) 3)⟩])
     (.cond (.tmp 7)
      (.seq
       (.ops [⟨some 8, none, (.move (.tmp 0))⟩,
         ⟨some 4, none, (.assign (.tmp 8))⟩])
       .ret)
      .skip))
    (.seq
     (.ops [⟨some 9, none, (.move (.tmp 1))⟩,
       ⟨some 4, none, (.assign (.tmp 9))⟩])
     .ret)))
theorem w126 {args : Array Value} {H : AH} {Φ : Value → AH → Prop} (h : rW Try.prog k126 [] (fin Try.prog [(.tmp 4)] Φ) (tm0 args) H) : CallsA Try.prog 126 args H Φ :=
  CallsA.w k126 [(.tmp 4)] (fun _ => []) Try.func126 rfl rfl (by kernel_rfl) (by kernel_rfl) h

/-- spec.l1In -/
def k84 : KC :=
  (.seq
   (.ops [⟨some 6, none, (.assign (.const (.bool false)))⟩])
   (.seq
    (.ops [⟨some 7, none, (.move (.tmp 0))⟩,
      ⟨some 8, none, (.move (.tmp 1))⟩,
      ⟨some 9, none, (.binOp .geq 3 (.tmp 7) (.tmp 8) 3)⟩,
      ⟨some 10, none, (.move (.tmp 9))⟩,
      ⟨some 11, (some (10, true)), (.move (.tmp 0))⟩,
      ⟨some 12, (some (10, true)), (.move (.tmp 2))⟩,
      ⟨some 13, (some (10, true)), (.binOp .leq 3 (.tmp 11) (.tmp 12) 3)⟩,
      ⟨some 14, none, (.pick (.tmp 10) (.tmp 13) (.const (.bool false)))⟩,
      ⟨some 6, none, (.assign (.tmp 14))⟩])
    .ret))
theorem w84 {args : Array Value} {H : AH} {Φ : Value → AH → Prop} (h : rW Try.prog k84 [] (fin Try.prog [(.tmp 6)] Φ) (tm0 args) H) : CallsA Try.prog 84 args H Φ :=
  CallsA.w k84 [(.tmp 6)] (fun _ => []) Try.func84 rfl rfl (by kernel_rfl) (by kernel_rfl) h

/-- spec.NumOk -/
def k128 : KC :=
  (.seq
   (.ops [⟨some 2, none, (.assign (.const (.bool false)))⟩])
   (.seq
    (.ops [⟨some 3, none, (.move (.tmp 0))⟩,
      ⟨some 4, none, (.call ⟨(.value (.func 84)), #[(.tmp 3), (.const (.int .i64 (-1000000000000))), (.const (.int .i64 1000000000000))], #[3, 3, 3]⟩)⟩,
      ⟨some 2, none, (.assign (.tmp 4))⟩])
    .ret))
theorem w128 {args : Array Value} {H : AH} {Φ : Value → AH → Prop} (h : rW Try.prog k128 [] (fin Try.prog [(.tmp 2)] Φ) (tm0 args) H) : CallsA Try.prog 128 args H Φ :=
  CallsA.w k128 [(.tmp 2)] (fun _ => []) Try.func128 rfl rfl (by kernel_rfl) (by kernel_rfl) h

/-- spec.l8Num -/
def k83 : KC :=
  (.seq
   (.ops [⟨some 4, none, (.assign (.const (.int .i64 0)))⟩,
     ⟨some 5, none, (.assign (.const (.int .i64 0)))⟩,
     ⟨some 6, none, (.assign (.const (.int .i64 0)))⟩])
   (.seq
    (.ops [⟨some 9, none, (.move (.tmp 0))⟩,
      ⟨some 10, none, (.move (.tmp 1))⟩,
      ⟨some 11, none, (.index 9 (.tmp 9) (.tmp 10))⟩,
      ⟨some 12, none, (.binOp .eql 5 (.tmp 11) (.const (.int .u8 95)) 5)⟩,
      ⟨some 7, none, (.assign (.tmp 12))⟩])
    (.seq
     (.seq
      (.ops [⟨some 13, none, (.move (.tmp 7))⟩])
      (.cond (.tmp 13)
       (.ops [⟨some 14, none, (.move (.tmp 1))⟩,
         ⟨some 15, none, (.binOp .add 3 (.tmp 14) (.const (.int .i64 1)) 3)⟩,
         ⟨some 1, none, (.assign (.tmp 15))⟩])
       .skip))
     (.seq
      (.seq
       (.ops [⟨some 16, none, (.move (.tmp 0))⟩,
         ⟨some 17, none, (.move (.tmp 1))⟩,
         ⟨some 18, none, (.call ⟨(.value (.func 82)), #[(.tmp 16), (.tmp 17)], #[9, 3]⟩)⟩,
         ⟨some 19, none, (.unOp .not 4 (.tmp 18))⟩])
       (.cond (.tmp 19)
        (.seq
         (.ops [⟨some 20, none, (.move (.tmp 1))⟩,
           ⟨some 4, none, (.assign (.const (.int .i64 0)))⟩,
           ⟨some 5, none, (.assign (.tmp 20))⟩,
           ⟨some 6, none, (.assign (.const (.int .i64 8)))⟩])
         .ret)
        .skip))
      (.seq
       (.ops [⟨some 8, none, (.assign (.const (.int .i64 0)))⟩])
       (.seq
        (.block 0
         (.loop
          (.seq
           (.seq
            (.ops [⟨some 21, none, (.move (.tmp 0))⟩,
              ⟨some 22, none, (.move (.tmp 1))⟩,
              ⟨some 23, none, (.call ⟨(.value (.func 82)), #[(.tmp 21), (.tmp 22)], #[9, 3]⟩)⟩])
            (.cond (.tmp 23)
             .skip
             (.exit 0)))
           (.block 1
            (.seq
             (.ops [⟨some 24, none, (.move (.tmp 8))⟩,
               ⟨some 25, none, (.binOp .mul 3 (.const (.int .i64 10)) (.tmp 24) 3)⟩,
               ⟨some 26, none, (.move (.tmp 0))⟩,
               ⟨some 27, none, (.move (.tmp 1))⟩,
               ⟨some 28, none, (.index 9 (.tmp 26) (.tmp 27))⟩,
               ⟨some 29, none, (.convert 5 3 (.tmp 28))⟩,
               ⟨some 30, none, (.binOp .add 3 (.tmp 25) (.tmp 29) 3)⟩,
               ⟨some 31, none, (.binOp .sub 3 (.tmp 30) (.const (.int .i64 48)) 3)⟩,
               ⟨some 32, none, (.call ⟨(.value (.func 126)), #[(.tmp 31), (.const (.int .i64 1000000000001))], #[3, 3]⟩)⟩,
               ⟨some 8, none, (.assign (.tmp 32))⟩])
             (.ops [⟨some 33, none, (.move (.tmp 1))⟩,
               ⟨some 34, none, (.binOp .add 3 (.tmp 33) (.const (.int .i64 1)) 3)⟩,
               ⟨some 1, none, (.assign (.tmp 34))⟩]))))))
        (.seq
         (.seq
          (.ops [⟨some 35, none, (.move (.tmp 8))⟩,
            ⟨some 36, none, (.call ⟨(.value (.func 128)), #[(.tmp 35)], #[3]⟩)⟩,
            ⟨some 37, none, (.unOp .not 4 (.tmp 36))⟩])
          (.cond (.tmp 37)
           (.seq
            (.ops [⟨some 38, none, (.move (.tmp 1))⟩,
              ⟨some 4, none, (.assign (.const (.int .i64 0)))⟩,
              ⟨some 5, none, (.assign (.tmp 38))⟩,
              ⟨some 6, none, (.assign (.const (.int .i64 6)))⟩])
            .ret)
           .skip))
         (.seq
          (.seq
           (.ops [⟨some 39, none, (.move (.tmp 7))⟩])
           (.cond (.tmp 39)
            (.ops [⟨some 40, none, (.move (.tmp 8))⟩,
              ⟨some 41, none, (.binOp .sub 3 (.const (.int .i64 0)) (.tmp 40) 3)⟩,
              ⟨some 8, none, (.assign (.tmp 41))⟩])
            .skip))
          (.seq
           (.ops [⟨some 42, none, (.move (.tmp 8))⟩,
             ⟨some 43, none, (.move (.tmp 1))⟩,
             ⟨some 4, none, (.assign (.tmp 42))⟩,
             ⟨some 5, none, (.assign (.tmp 43))⟩,
             ⟨some 6, none, (.assign (.const (.int .i64 0)))⟩])
           .ret)))))))))
theorem w83 {args : Array Value} {H : AH} {Φ : Value → AH → Prop} (h : rW Try.prog k83 [] (fin Try.prog [(.tmp 4), (.tmp 5), (.tmp 6)] Φ) (tm0 args) H) : CallsA Try.prog 83 args H Φ :=
  CallsA.w k83 [(.tmp 4), (.tmp 5), (.tmp 6)] (fun _ => []) Try.func83 rfl rfl (by kernel_rfl) (by kernel_rfl) h

/-- spec.l8Sign -/
def k85 : KC :=
  (.seq
   (.ops [⟨some 2, none, (.assign (.const (.bool false)))⟩])
   (.seq
    (.ops [⟨some 3, none, (.assign (.const (.string ⟨#[43, 45, 42, 37, 124, 38, 94, 61, 60, 62, 126, 105, 35, 44, 116, 100, 114, 122, 64, 63, 103, 36, 101, 47, 92, 46, 111]⟩)))⟩])
    (.seq
     (.seq
      (.ops [⟨some 4, none, (.assign (.const (.int .i64 0)))⟩])
      (.block 0
       (.loop
        (.seq
         (.seq
          (.ops [⟨some 5, none, (.move (.tmp 4))⟩,
            ⟨some 6, none, (.move (.tmp 3))⟩,
            ⟨some 7, none, (.call ⟨(.builtin .len), #[(.tmp 6)], #[9]⟩)⟩,
            ⟨some 8, none, (.binOp .lss 3 (.tmp 5) (.tmp 7) 3)⟩])
          (.cond (.tmp 8)
           .skip
           (.exit 0)))
         (.seq
          (.block 1
           (.seq
            (.ops [⟨some 11, none, (.move (.tmp 3))⟩,
              ⟨some 12, none, (.move (.tmp 4))⟩,
              ⟨some 13, none, (.index 9 (.tmp 11) (.tmp 12))⟩,
              ⟨some 14, none, (.convert 5 3 (.tmp 13))⟩,
              ⟨some 15, none, (.move (.tmp 0))⟩,
              ⟨some 16, none, (.binOp .eql 3 (.tmp 14) (.tmp 15) 3)⟩])
            (.cond (.tmp 16)
             (.seq
              (.ops [⟨some 2, none, (.assign (.const (.bool true)))⟩])
              .ret)
             .skip)))
          (.ops [⟨some 9, none, (.move (.tmp 4))⟩,
            ⟨some 10, none, (.binOp .add 3 (.tmp 9) (.const (.int .i64 1)) 3)⟩,
            ⟨some 4, none, (.assign (.tmp 10))⟩]))))))
     (.seq
      (.ops [⟨some 2, none, (.assign (.const (.bool false)))⟩])
      .ret))))
theorem w85 {args : Array Value} {H : AH} {Φ : Value → AH → Prop} (h : rW Try.prog k85 [] (fin Try.prog [(.tmp 2)] Φ) (tm0 args) H) : CallsA Try.prog 85 args H Φ :=
  CallsA.w k85 [(.tmp 2)] (fun _ => []) Try.func85 rfl rfl (by kernel_rfl) (by kernel_rfl) h

/-- spec.Lex -/
def k24 : KC :=
  (.seq
   (.ops [⟨some 2, none, (.assign (.const (.slice none 0 0)))⟩,
     ⟨some 3, none, (.assign (.const (.int .i64 0)))⟩,
     ⟨some 4, none, (.assign (.const (.int .i64 0)))⟩])
   (.seq
    (.ops [⟨some 13, none, (.buildSlice 35 0 #[])⟩,
      ⟨some 5, none, (.assign (.tmp 13))⟩])
    (.seq
     (.seq
      (.ops [⟨some 14, none, (.move (.tmp 0))⟩,
        ⟨some 15, none, (.call ⟨(.builtin .len), #[(.tmp 14)], #[9]⟩)⟩,
        ⟨some 16, none, (.binOp .gtr 3 (.tmp 15) (.const (.int .i64 300)) 3)⟩])
      (.cond (.tmp 16)
       (.seq
        (.ops [⟨some 17, none, (.move (.tmp 5))⟩,
          ⟨some 2, none, (.assign (.tmp 17))⟩,
          ⟨some 3, none, (.assign (.const (.int .i64 6)))⟩,
          ⟨some 4, none, (.assign (.const (.int .i64 0)))⟩])
        .ret)
       .skip))
     (.seq
      (.ops [⟨some 6, none, (.assign (.const (.int .i64 0)))⟩])
      (.seq
       (.block 0
        (.loop
         (.seq
          (.seq
           (.ops [⟨some 18, none, (.move (.tmp 6))⟩,
             ⟨some 19, none, (.move (.tmp 0))⟩,
             ⟨some 20, none, (.call ⟨(.builtin .len), #[(.tmp 19)], #[9]⟩)⟩,
             ⟨some 21, none, (.binOp .lss 3 (.tmp 18) (.tmp 20) 3)⟩])
           (.cond (.tmp 21)
            .skip
            (.exit 0)))
          (.block 1
           (.seq
            (.ops [⟨some 22, none, (.move (.tmp 0))⟩,
              ⟨some 23, none, (.move (.tmp 6))⟩,
              ⟨some 24, none, (.index 9 (.tmp 22) (.tmp 23))⟩,
              ⟨some 25, none, (.convert 5 3 (.tmp 24))⟩,
              ⟨some 7, none, (.assign (.tmp 25))⟩])
            (.seq
             (.ops [⟨some 26, none, (.build 96 #[])⟩,
               ⟨some 8, none, (.alloc 96)⟩,
               ⟨none, none, (.store 96 (.tmp 8) (.tmp 26))⟩])
             (.seq
              (.ops [⟨some 27, none, (.move (.tmp 6))⟩,
                ⟨some 28, none, (.binOp .add 3 (.tmp 27) (.const (.int .i64 1)) 3)⟩,
                ⟨some 9, none, (.assign (.tmp 28))⟩])
              (.seq
               (.block 2
                (.seq
                 (.ops [⟨some 32, none, (.move (.tmp 7))⟩,
                   ⟨some 33, none, (.binOp .eql 3 (.tmp 32) (.const (.int .i64 32)) 3)⟩,
                   ⟨some 31, none, (.assign (.tmp 33))⟩])
                 (.cond (.tmp 31)
                  (.seq
                   (.ops [⟨some 34, none, (.move (.tmp 6))⟩,
                     ⟨some 35, none, (.binOp .add 3 (.tmp 34) (.const (.int .i64 1)) 3)⟩,
                     ⟨some 6, none, (.assign (.tmp 35))⟩])
                   (.exit 1))
                  (.seq
                   (.ops [⟨some 37, none, (.move (.tmp 0))⟩,
                     ⟨some 38, none, (.move (.tmp 6))⟩,
                     ⟨some 39, none, (.call ⟨(.value (.func 82)), #[(.tmp 37), (.tmp 38)], #[9, 3]⟩)⟩,
                     ⟨some 40, none, (.move (.tmp 39))⟩,
                     ⟨some 41, (some (40, false)), (.move (.tmp 7))⟩,
                     ⟨some 42, (some (40, false)), (.binOp .eql 3 (.tmp 41) (.const (.int .i64 95)) 3)⟩,
                     ⟨some 43, none, (.pick (.tmp 40) (.const (.bool true)) (.tmp 42))⟩,
                     ⟨some 36, none, (.assign (.tmp 43))⟩])
                   (.cond (.tmp 36)
                    (.seq
                     (.ops [⟨some 45, none, (.move (.tmp 0))⟩,
                       ⟨some 46, none, (.move (.tmp 6))⟩,
                       ⟨some 47, none, (.call ⟨(.value (.func 83)), #[(.tmp 45), (.tmp 46)], #[9, 3]⟩)⟩,
                       ⟨some 44, none, (.move (.tmp 47))⟩,
                       ⟨some 48, none, (.extract (.tmp 44) 0)⟩,
                       ⟨some 49, none, (.extract (.tmp 44) 1)⟩,
                       ⟨some 50, none, (.extract (.tmp 44) 2)⟩,
                       ⟨some 10, none, (.assign (.tmp 48))⟩,
                       ⟨some 11, none, (.assign (.tmp 49))⟩,
                       ⟨some 12, none, (.assign (.tmp 50))⟩])
                     (.seq
                      (.seq
                       (.ops [⟨some 51, none, (.move (.tmp 12))⟩,
                         ⟨some 52, none, (.binOp .neq 3 (.tmp 51) (.const (.int .i64 0)) 3)⟩])
                       (.cond (.tmp 52)
                        (.seq
                         (.ops [⟨some 53, none, (.buildSlice 35 0 #[])⟩,
                           ⟨some 54, none, (.move (.tmp 12))⟩,
                           ⟨some 55, none, (.move (.tmp 6))⟩,
                           ⟨some 2, none, (.assign (.tmp 53))⟩,
                           ⟨some 3, none, (.assign (.tmp 54))⟩,
                           ⟨some 4, none, (.assign (.tmp 55))⟩])
                         .ret)
                        .skip))
                      (.seq
                       (.ops [⟨some 56, none, (.move (.tmp 10))⟩,
                         ⟨some 57, none, (.build 96 #[(0, (.const (.int .i64 1))), (1, (.tmp 56))])⟩,
                         ⟨none, none, (.store 96 (.tmp 8) (.tmp 57))⟩])
                       (.ops [⟨some 58, none, (.move (.tmp 11))⟩,
                         ⟨some 9, none, (.assign (.tmp 58))⟩]))))
                    (.seq
                     (.ops [⟨some 60, none, (.move (.tmp 7))⟩,
                       ⟨some 61, none, (.call ⟨(.value (.func 84)), #[(.tmp 60), (.const (.int .i64 65)), (.const (.int .i64 90))], #[3, 3, 3]⟩)⟩,
                       ⟨some 59, none, (.assign (.tmp 61))⟩])
                     (.cond (.tmp 59)
                      (.ops [⟨some 62, none, (.move (.tmp 7))⟩,
                        ⟨some 63, none, (.binOp .sub 3 (.tmp 62) (.const (.int .i64 65)) 3)⟩,
                        ⟨some 64, none, (.build 96 #[(0, (.const (.int .i64 2))), (1, (.tmp 63))])⟩,
                        ⟨none, none, (.store 96 (.tmp 8) (.tmp 64))⟩])
                      (.seq
                       (.ops [⟨some 66, none, (.move (.tmp 7))⟩,
                         ⟨some 67, none, (.binOp .eql 3 (.tmp 66) (.const (.int .i64 40)) 3)⟩,
                         ⟨some 65, none, (.assign (.tmp 67))⟩])
                       (.cond (.tmp 65)
                        (.ops [⟨some 68, none, (.fieldAddr 96 (.tmp 8) 0)⟩,
                          ⟨none, none, (.store 3 (.tmp 68) (.const (.int .i64 4)))⟩])
                        (.seq
                         (.ops [⟨some 70, none, (.move (.tmp 7))⟩,
                           ⟨some 71, none, (.binOp .eql 3 (.tmp 70) (.const (.int .i64 41)) 3)⟩,
                           ⟨some 69, none, (.assign (.tmp 71))⟩])
                         (.cond (.tmp 69)
                          (.ops [⟨some 72, none, (.fieldAddr 96 (.tmp 8) 0)⟩,
                            ⟨none, none, (.store 3 (.tmp 72) (.const (.int .i64 5)))⟩])
                          (.seq
                           (.ops [⟨some 74, none, (.move (.tmp 7))⟩,
                             ⟨some 75, none, (.binOp .eql 3 (.tmp 74) (.const (.int .i64 58)) 3)⟩,
                             ⟨some 73, none, (.assign (.tmp 75))⟩])
                           (.cond (.tmp 73)
                            (.ops [⟨some 76, none, (.fieldAddr 96 (.tmp 8) 0)⟩,
                              ⟨none, none, (.store 3 (.tmp 76) (.const (.int .i64 6)))⟩])
                            (.seq
                             (.ops [⟨some 78, none, (.move (.tmp 7))⟩,
                               ⟨some 79, none, (.call ⟨(.value (.func 85)), #[(.tmp 78)], #[3]⟩)⟩,
                               ⟨some 77, none, (.assign (.tmp 79))⟩])
                             (.cond (.tmp 77)
                              (.ops [⟨some 80, none, (.move (.tmp 7))⟩,
                                ⟨some 81, none, (.build 96 #[(0, (.const (.int .i64 3))), (1, (.tmp 80))])⟩,
                                ⟨none, none, (.store 96 (.tmp 8) (.tmp 81))⟩])
                              (.seq
                               (.ops [⟨some 29, none, (.buildSlice 35 0 #[])⟩,
                                 ⟨some 30, none, (.move (.tmp 6))⟩,
                                 ⟨some 2, none, (.assign (.tmp 29))⟩,
                                 ⟨some 3, none, (.assign (.const (.int .i64 8)))⟩,
                                 ⟨some 4, none, (.assign (.tmp 30))⟩])
                               .ret))))))))))))))))
               (.seq
                (.ops [⟨some 82, none, (.move (.tmp 5))⟩,
                  ⟨some 83, none, (.load 96 (.tmp 8))⟩,
                  ⟨some 84, none, (.buildSlice 35 1 #[(0, (.tmp 83))])⟩,
                  ⟨some 85, none, (.call ⟨(.builtin .append), #[(.tmp 82), (.tmp 84)], #[35, 35]⟩)⟩,
                  ⟨some 5, none, (.assign (.tmp 85))⟩])
                (.ops [⟨some 86, none, (.move (.tmp 9))⟩,
                  ⟨some 6, none, (.assign (.tmp 86))⟩]))))))))))
       (.seq
        (.ops [⟨some 87, none, (.move (.tmp 5))⟩,
          ⟨some 88, none, (.move (.tmp 0))⟩,
          ⟨some 89, none, (.call ⟨(.builtin .len), #[(.tmp 88)], #[9]⟩)⟩,
          ⟨some 2, none, (.assign (.tmp 87))⟩,
          ⟨some 3, none, (.assign (.const (.int .i64 0)))⟩,
          ⟨some 4, none, (.assign (.tmp 89))⟩])
        .ret))))))
theorem w24 {args : Array Value} {H : AH} {Φ : Value → AH → Prop} (h : rW Try.prog k24 [] (fin Try.prog [(.tmp 2), (.tmp 3), (.tmp 4)] Φ) (tm0 args) H) : CallsA Try.prog 24 args H Φ :=
  CallsA.w k24 [(.tmp 2), (.tmp 3), (.tmp 4)] (fun _ => []) Try.func24 rfl rfl (by kernel_rfl) (by kernel_rfl) h

/-- impl.isDigit -/
def k150 : KC :=
  (.seq
   (.ops [⟨some 2, none, (.assign (.const (.bool false)))⟩])
   (.seq
    (.ops [⟨some 3, none, (.move (.tmp 0))⟩,
      ⟨some 4, none, (.binOp .geq 5 (.tmp 3) (.const (.int .u8 48)) 5)⟩,
      ⟨some 5, none, (.move (.tmp 4))⟩,
      ⟨some 6, (some (5, true)), (.move (.tmp 0))⟩,
      ⟨some 7, (some (5, true)), (.binOp .leq 5 (.tmp 6) (.const (.int .u8 57)) 5)⟩,
      ⟨some 8, none, (.pick (.tmp 5) (.tmp 7) (.const (.bool false)))⟩,
      ⟨some 2, none, (.assign (.tmp 8))⟩])
    .ret))
theorem w150 {args : Array Value} {H : AH} {Φ : Value → AH → Prop} (h : rW Try.prog k150 [] (fin Try.prog [(.tmp 2)] Φ) (tm0 args) H) : CallsA Try.prog 150 args H Φ :=
  CallsA.w k150 [(.tmp 2)] (fun _ => []) Try.func150 rfl rfl (by kernel_rfl) (by kernel_rfl) h

/-- impl.lexNum -/
def k151 : KC :=
  (.seq
   (.ops [⟨some 4, none, (.alloc 96)⟩,
     ⟨some 5, none, (.assign (.const (.int .i64 0)))⟩,
     ⟨some 6, none, (.assign (.const (.int .i64 0)))⟩])
   (.seq
    (.ops [⟨some 10, none, (.move (.tmp 1))⟩,
      ⟨some 7, none, (.assign (.tmp 10))⟩])
    (.seq
     (.seq
      (.ops [⟨some 11, none, (.move (.tmp 0))⟩,
        ⟨some 12, none, (.move (.tmp 1))⟩,
        ⟨some 13, none, (.index 9 (.tmp 11) (.tmp 12))⟩,
        ⟨some 14, none, (.binOp .eql 5 (.tmp 13) (.const (.int .u8 95)) 5)⟩])
      (.cond (.tmp 14)
       (.ops [⟨some 15, none, (.move (.tmp 7))⟩,
         ⟨some 16, none, (.binOp .add 3 (.tmp 15) (.const (.int .i64 1)) 3)⟩,
         ⟨some 7, none, (.assign (.tmp 16))⟩])
       .skip))
     (.seq
      (.ops [⟨some 17, none, (.move (.tmp 7))⟩,
        ⟨some 8, none, (.assign (.tmp 17))⟩])
      (.seq
       (.ops [⟨some 9, none, (.assign (.const (.int .i64 0)))⟩])
       (.seq
        (.block 0
         (.loop
          (.seq
           (.seq
            (.ops [⟨some 18, none, (.move (.tmp 8))⟩,
              ⟨some 19, none, (.move (.tmp 0))⟩,
              ⟨some 20, none, (.call ⟨(.builtin .len), #[(.tmp 19)], #[9]⟩)⟩,
              ⟨some 21, none, (.binOp .lss 3 (.tmp 18) (.tmp 20) 3)⟩,
              ⟨some 22, none, (.move (.tmp 21))⟩,
              ⟨some 23, (some (22, true)), (.move (.tmp 0))⟩,
              ⟨some 24, (some (22, true)), (.move (.tmp 8))⟩,
              ⟨some 25, (some (22, true)), (.index 9 (.tmp 23) (.tmp 24))⟩,
              ⟨some 26, (some (22, true)), (.call ⟨(.value (.func 150)), #[(.tmp 25)], #[5]⟩)⟩,
              ⟨some 27, none, (.pick (.tmp 22) (.tmp 26) (.const (.bool false)))⟩])
            (.cond (.tmp 27)
             .skip
             (.exit 0)))
           (.block 1
            (.seq
             (.ops [⟨some 28, none, (.move (.tmp 9))⟩,
               ⟨some 29, none, (.binOp .mul 3 (.const (.int .i64 10)) (.tmp 28) 3)⟩,
               ⟨some 30, none, (.move (.tmp 0))⟩,
               ⟨some 31, none, (.move (.tmp 8))⟩,
               ⟨some 32, none, (.index 9 (.tmp 30) (.tmp 31))⟩,
               ⟨some 33, none, (.binOp .sub 5 (.tmp 32) (.const (.int .u8 48)) 5)⟩,
               ⟨some 34, none, (.convert 5 3 (.tmp 33))⟩,
               ⟨some 35, none, (.binOp .add 3 (.tmp 29) (.tmp 34) 3)⟩,
               ⟨some 36, none, (.call ⟨(.builtin .min), #[(.tmp 35), (.const (.int .i64 1000000000001))], #[3, 3]⟩)⟩,
               ⟨some 9, none, (.assign (.tmp 36))⟩])
             (.ops [⟨some 37, none, (.move (.tmp 8))⟩,
               ⟨some 38, none, (.binOp .add 3 (.tmp 37) (.const (.int .i64 1)) 3)⟩,
               ⟨some 8, none, (.assign (.tmp 38))⟩]))))))
        (.seq
         (.block 2
          (.seq
           (.ops [⟨some 40, none, (.move (.tmp 8))⟩,
             ⟨some 41, none, (.move (.tmp 7))⟩,
             ⟨some 42, none, (.binOp .eql 3 (.tmp 40) (.tmp 41) 3)⟩,
             ⟨some 39, none, (.assign (.tmp 42))⟩])
           (.cond (.tmp 39)
            (.seq
             (.ops [⟨some 43, none, (.build 96 #[])⟩,
               ⟨some 44, none, (.move (.tmp 1))⟩,
               ⟨none, none, (.store 96 (.tmp 4) (.tmp 43))⟩,
               ⟨some 5, none, (.assign (.tmp 44))⟩,
               ⟨some 6, none, (.assign (.const (.int .i64 8)))⟩])
             .ret)
            (.seq
             (.ops [⟨some 46, none, (.move (.tmp 9))⟩,
               ⟨some 47, none, (.binOp .gtr 3 (.tmp 46) (.const (.int .i64 1000000000000)) 3)⟩,
               ⟨some 45, none, (.assign (.tmp 47))⟩])
             (.cond (.tmp 45)
              (.seq
               (.ops [⟨some 48, none, (.build 96 #[])⟩,
                 ⟨some 49, none, (.move (.tmp 1))⟩,
                 ⟨none, none, (.store 96 (.tmp 4) (.tmp 48))⟩,
                 ⟨some 5, none, (.assign (.tmp 49))⟩,
                 ⟨some 6, none, (.assign (.const (.int .i64 6)))⟩])
               .ret)
              (.seq
               (.ops [⟨some 51, none, (.move (.tmp 7))⟩,
                 ⟨some 52, none, (.move (.tmp 1))⟩,
                 ⟨some 53, none, (.binOp .gtr 3 (.tmp 51) (.tmp 52) 3)⟩,
                 ⟨some 50, none, (.assign (.tmp 53))⟩])
               (.cond (.tmp 50)
                (.ops [⟨some 54, none, (.move (.tmp 9))⟩,
                  ⟨some 55, none, (.unOp .neg 3 (.tmp 54))⟩,
                  ⟨some 9, none, (.assign (.tmp 55))⟩])
                .skip)))))))
         (.seq
          (.ops [⟨some 56, none, (.move (.tmp 9))⟩,
            ⟨some 57, none, (.build 96 #[(0, (.const (.int .i64 1))), (1, (.tmp 56))])⟩,
            ⟨some 58, none, (.move (.tmp 8))⟩,
            ⟨none, none, (.store 96 (.tmp 4) (.tmp 57))⟩,
            ⟨some 5, none, (.assign (.tmp 58))⟩,
            ⟨some 6, none, (.assign (.const (.int .i64 0)))⟩])
          .ret))))))))
theorem w151 {args : Array Value} {H : AH} {Φ : Value → AH → Prop} (h : rW Try.prog k151 [] (fin Try.prog [(.cell 4 96), (.tmp 5), (.tmp 6)] Φ) (tm0 args) H) : CallsA Try.prog 151 args H Φ :=
  CallsA.w k151 [(.cell 4 96), (.tmp 5), (.tmp 6)] (fun _ => []) Try.func151 rfl rfl (by kernel_rfl) (by kernel_rfl) h

/-- impl.hasSign -/
def k152 : KC :=
  (.seq
   (.ops [⟨some 4, none, (.assign (.const (.bool false)))⟩])
   (.seq
    (.seq
     (.ops [⟨some 5, none, (.assign (.const (.int .i64 0)))⟩])
     (.block 0
      (.loop
       (.seq
        (.seq
         (.ops [⟨some 6, none, (.move (.tmp 5))⟩,
           ⟨some 7, none, (.move (.tmp 0))⟩,
           ⟨some 8, none, (.call ⟨(.builtin .len), #[(.tmp 7)], #[9]⟩)⟩,
           ⟨some 9, none, (.binOp .lss 3 (.tmp 6) (.tmp 8) 3)⟩])
         (.cond (.tmp 9)
          .skip
          (.exit 0)))
        (.seq
         (.block 1
          (.seq
           (.ops [⟨some 12, none, (.move (.tmp 0))⟩,
             ⟨some 13, none, (.move (.tmp 5))⟩,
             ⟨some 14, none, (.index 9 (.tmp 12) (.tmp 13))⟩,
             ⟨some 15, none, (.convert 5 3 (.tmp 14))⟩,
             ⟨some 16, none, (.move (.tmp 1))⟩,
             ⟨some 17, none, (.binOp .eql 3 (.tmp 15) (.tmp 16) 3)⟩])
           (.cond (.tmp 17)
            (.seq
             (.ops [⟨some 4, none, (.assign (.const (.bool true)))⟩])
             .ret)
            .skip)))
         (.ops [⟨some 10, none, (.move (.tmp 5))⟩,
           ⟨some 11, none, (.binOp .add 3 (.tmp 10) (.const (.int .i64 1)) 3)⟩,
           ⟨some 5, none, (.assign (.tmp 11))⟩]))))))
    (.seq
     (.ops [⟨some 4, none, (.assign (.const (.bool false)))⟩])
     .ret)))
theorem w152 {args : Array Value} {H : AH} {Φ : Value → AH → Prop} (h : rW Try.prog k152 [] (fin Try.prog [(.tmp 4)] Φ) (tm0 args) H) : CallsA Try.prog 152 args H Φ :=
  CallsA.w k152 [(.tmp 4)] (fun _ => []) Try.func152 rfl rfl (by kernel_rfl) (by kernel_rfl) h

/-- impl.lexOne -/
def k86 : KC :=
  (.seq
   (.ops [⟨some 4, none, (.alloc 96)⟩,
     ⟨some 5, none, (.assign (.const (.int .i64 0)))⟩,
     ⟨some 6, none, (.assign (.const (.int .i64 0)))⟩])
   (.seq
    (.ops [⟨some 9, none, (.move (.tmp 0))⟩,
      ⟨some 10, none, (.move (.tmp 1))⟩,
      ⟨some 11, none, (.index 9 (.tmp 9) (.tmp 10))⟩,
      ⟨some 7, none, (.assign (.tmp 11))⟩])
    (.seq
     (.ops [⟨some 12, none, (.build 96 #[])⟩,
       ⟨some 8, none, (.alloc 96)⟩,
       ⟨none, none, (.store 96 (.tmp 8) (.tmp 12))⟩])
     (.seq
      (.block 0
       (.seq
        (.ops [⟨some 16, none, (.move (.tmp 7))⟩,
          ⟨some 17, none, (.call ⟨(.value (.func 150)), #[(.tmp 16)], #[5]⟩)⟩,
          ⟨some 18, none, (.move (.tmp 17))⟩,
          ⟨some 19, (some (18, false)), (.move (.tmp 7))⟩,
          ⟨some 20, (some (18, false)), (.binOp .eql 5 (.tmp 19) (.const (.int .u8 95)) 5)⟩,
          ⟨some 21, none, (.pick (.tmp 18) (.const (.bool true)) (.tmp 20))⟩,
          ⟨some 15, none, (.assign (.tmp 21))⟩])
        (.cond (.tmp 15)
         (.seq
          (.ops [⟨some 22, none, (.move (.tmp 0))⟩,
            ⟨some 23, none, (.move (.tmp 1))⟩,
            ⟨some 24, none, (.call ⟨(.value (.func 151)), #[(.tmp 22), (.tmp 23)], #[9, 3]⟩)⟩,
            ⟨some 25, none, (.extract (.tmp 24) 0)⟩,
            ⟨some 26, none, (.extract (.tmp 24) 1)⟩,
            ⟨some 27, none, (.extract (.tmp 24) 2)⟩,
            ⟨none, none, (.store 96 (.tmp 4) (.tmp 25))⟩,
            ⟨some 5, none, (.assign (.tmp 26))⟩,
            ⟨some 6, none, (.assign (.tmp 27))⟩])
          .ret)
         (.seq
          (.ops [⟨some 29, none, (.move (.tmp 7))⟩,
            ⟨some 30, none, (.binOp .geq 5 (.tmp 29) (.const (.int .u8 65)) 5)⟩,
            ⟨some 31, none, (.move (.tmp 30))⟩,
            ⟨some 32, (some (31, true)), (.move (.tmp 7))⟩,
            ⟨some 33, (some (31, true)), (.binOp .leq 5 (.tmp 32) (.const (.int .u8 90)) 5)⟩,
            ⟨some 34, none, (.pick (.tmp 31) (.tmp 33) (.const (.bool false)))⟩,
            ⟨some 28, none, (.assign (.tmp 34))⟩])
          (.cond (.tmp 28)
           (.ops [⟨some 35, none, (.move (.tmp 7))⟩,
             ⟨some 36, none, (.binOp .sub 5 (.tmp 35) (.const (.int .u8 65)) 5)⟩,
             ⟨some 37, none, (.convert 5 3 (.tmp 36))⟩,
             ⟨some 38, none, (.build 96 #[(0, (.const (.int .i64 2))), (1, (.tmp 37))])⟩,
             ⟨none, none, (.store 96 (.tmp 8) (.tmp 38))⟩])
           (.seq
            (.ops [⟨some 40, none, (.move (.tmp 7))⟩,
              ⟨some 41, none, (.binOp .eql 5 (.tmp 40) (.const (.int .u8 40)) 5)⟩,
              ⟨some 39, none, (.assign (.tmp 41))⟩])
            (.cond (.tmp 39)
             (.ops [⟨some 42, none, (.fieldAddr 96 (.tmp 8) 0)⟩,
               ⟨none, none, (.store 3 (.tmp 42) (.const (.int .i64 4)))⟩])
             (.seq
              (.ops [⟨some 44, none, (.move (.tmp 7))⟩,
                ⟨some 45, none, (.binOp .eql 5 (.tmp 44) (.const (.int .u8 41)) 5)⟩,
                ⟨some 43, none, (.assign (.tmp 45))⟩])
              (.cond (.tmp 43)
               (.ops [⟨some 46, none, (.fieldAddr 96 (.tmp 8) 0)⟩,
                 ⟨none, none, (.store 3 (.tmp 46) (.const (.int .i64 5)))⟩])
               (.seq
                (.ops [⟨some 48, none, (.move (.tmp 7))⟩,
                  ⟨some 49, none, (.binOp .eql 5 (.tmp 48) (.const (.int .u8 58)) 5)⟩,
                  ⟨some 47, none, (.assign (.tmp 49))⟩])
                (.cond (.tmp 47)
                 (.ops [⟨some 50, none, (.fieldAddr 96 (.tmp 8) 0)⟩,
                   ⟨none, none, (.store 3 (.tmp 50) (.const (.int .i64 6)))⟩])
                 (.seq
                  (.ops [⟨some 52, none, (.move (.tmp 7))⟩,
                    ⟨some 53, none, (.convert 5 3 (.tmp 52))⟩,
                    ⟨some 54, none, (.call ⟨(.value (.func 152)), #[(.const (.string ⟨#[43, 45, 42, 37, 124, 38, 94, 61, 60, 62, 126, 105, 35, 44, 116, 100, 114, 122, 64, 63, 103, 36, 101, 47, 92, 46, 111]⟩)), (.tmp 53)], #[9, 3]⟩)⟩,
                    ⟨some 51, none, (.assign (.tmp 54))⟩])
                  (.cond (.tmp 51)
                   (.ops [⟨some 55, none, (.move (.tmp 7))⟩,
                     ⟨some 56, none, (.convert 5 3 (.tmp 55))⟩,
                     ⟨some 57, none, (.build 96 #[(0, (.const (.int .i64 3))), (1, (.tmp 56))])⟩,
                     ⟨none, none, (.store 96 (.tmp 8) (.tmp 57))⟩])
                   (.seq
                    (.ops [⟨some 13, none, (.build 96 #[])⟩,
                      ⟨some 14, none, (.move (.tmp 1))⟩,
                      ⟨none, none, (.store 96 (.tmp 4) (.tmp 13))⟩,
                      ⟨some 5, none, (.assign (.tmp 14))⟩,
                      ⟨some 6, none, (.assign (.const (.int .i64 8)))⟩])
                    .ret))))))))))))))
      (.seq
       (.ops [⟨some 58, none, (.load 96 (.tmp 8))⟩,
         ⟨some 59, none, (.move (.tmp 1))⟩,
         ⟨some 60, none, (.binOp .add 3 (.tmp 59) (.const (.int .i64 1)) 3)⟩,
         ⟨none, none, (.store 96 (.tmp 4) (.tmp 58))⟩,
         ⟨some 5, none, (.assign (.tmp 60))⟩,
         ⟨some 6, none, (.assign (.const (.int .i64 0)))⟩])
       .ret)))))
theorem w86 {args : Array Value} {H : AH} {Φ : Value → AH → Prop} (h : rW Try.prog k86 [] (fin Try.prog [(.cell 4 96), (.tmp 5), (.tmp 6)] Φ) (tm0 args) H) : CallsA Try.prog 86 args H Φ :=
  CallsA.w k86 [(.cell 4 96), (.tmp 5), (.tmp 6)] (fun _ => []) Try.func86 rfl rfl (by kernel_rfl) (by kernel_rfl) h

/-- impl.Lex -/
def k25 : KC :=
  (.seq
   (.ops [⟨some 2, none, (.assign (.const (.slice none 0 0)))⟩,
     ⟨some 3, none, (.assign (.const (.int .i64 0)))⟩,
     ⟨some 4, none, (.assign (.const (.int .i64 0)))⟩])
   (.seq
    (.seq
     (.ops [⟨some 10, none, (.move (.tmp 0))⟩,
       ⟨some 11, none, (.call ⟨(.builtin .len), #[(.tmp 10)], #[9]⟩)⟩,
       ⟨some 12, none, (.binOp .gtr 3 (.tmp 11) (.const (.int .i64 300)) 3)⟩])
     (.cond (.tmp 12)
      (.seq
       (.ops [⟨some 2, none, (.assign (.const (.slice none 0 0)))⟩,
         ⟨some 3, none, (.assign (.const (.int .i64 6)))⟩,
         ⟨some 4, none, (.assign (.const (.int .i64 0)))⟩])
       .ret)
      .skip))
    (.seq
     (.ops [⟨some 5, none, (.assign (.const (.slice none 0 0)))⟩])
     (.seq
      (.seq
       (.ops [⟨some 6, none, (.assign (.const (.int .i64 0)))⟩])
       (.block 0
        (.loop
         (.seq
          (.seq
           (.ops [⟨some 13, none, (.move (.tmp 6))⟩,
             ⟨some 14, none, (.move (.tmp 0))⟩,
             ⟨some 15, none, (.call ⟨(.builtin .len), #[(.tmp 14)], #[9]⟩)⟩,
             ⟨some 16, none, (.binOp .lss 3 (.tmp 13) (.tmp 15) 3)⟩])
           (.cond (.tmp 16)
            .skip
            (.exit 0)))
          (.block 1
           (.seq
            (.seq
             (.ops [⟨some 17, none, (.move (.tmp 0))⟩,
               ⟨some 18, none, (.move (.tmp 6))⟩,
               ⟨some 19, none, (.index 9 (.tmp 17) (.tmp 18))⟩,
               ⟨some 20, none, (.binOp .eql 5 (.tmp 19) (.const (.int .u8 32)) 5)⟩])
             (.cond (.tmp 20)
              (.seq
               (.ops [⟨some 21, none, (.move (.tmp 6))⟩,
                 ⟨some 22, none, (.binOp .add 3 (.tmp 21) (.const (.int .i64 1)) 3)⟩,
                 ⟨some 6, none, (.assign (.tmp 22))⟩])
               (.exit 1))
              .skip))
            (.seq
             (.ops [⟨some 24, none, (.move (.tmp 0))⟩,
               ⟨some 25, none, (.move (.tmp 6))⟩,
               ⟨some 26, none, (.call ⟨(.value (.func 86)), #[(.tmp 24), (.tmp 25)], #[9, 3]⟩)⟩,
               ⟨some 23, none, (.move (.tmp 26))⟩,
               ⟨some 27, none, (.extract (.tmp 23) 0)⟩,
               ⟨some 28, none, (.extract (.tmp 23) 1)⟩,
               ⟨some 29, none, (.extract (.tmp 23) 2)⟩,
               ⟨some 7, none, (.alloc 96)⟩,
               ⟨none, none, (.store 96 (.tmp 7) (.tmp 27))⟩,
               ⟨some 8, none, (.assign (.tmp 28))⟩,
               ⟨some 9, none, (.assign (.tmp 29))⟩])
             (.seq
              (.seq
               (.ops [⟨some 30, none, (.move (.tmp 9))⟩,
                 ⟨some 31, none, (.binOp .neq 3 (.tmp 30) (.const (.int .i64 0)) 3)⟩])
               (.cond (.tmp 31)
                (.seq
                 (.ops [⟨some 32, none, (.move (.tmp 9))⟩,
                   ⟨some 33, none, (.move (.tmp 6))⟩,
                   ⟨some 2, none, (.assign (.const (.slice none 0 0)))⟩,
                   ⟨some 3, none, (.assign (.tmp 32))⟩,
                   ⟨some 4, none, (.assign (.tmp 33))⟩])
                 .ret)
                .skip))
              (.seq
               (.ops [⟨some 34, none, (.move (.tmp 5))⟩,
                 ⟨some 35, none, (.load 96 (.tmp 7))⟩,
                 ⟨some 36, none, (.buildSlice 35 1 #[(0, (.tmp 35))])⟩,
                 ⟨some 37, none, (.call ⟨(.builtin .append), #[(.tmp 34), (.tmp 36)], #[35, 35]⟩)⟩,
                 ⟨some 5, none, (.assign (.tmp 37))⟩])
               (.ops [⟨some 38, none, (.move (.tmp 8))⟩,
                 ⟨some 6, none, (.assign (.tmp 38))⟩]))))))))))
      (.seq
       (.ops [⟨some 39, none, (.move (.tmp 5))⟩,
         ⟨some 40, none, (.move (.tmp 0))⟩,
         ⟨some 41, none, (.call ⟨(.builtin .len), #[(.tmp 40)], #[9]⟩)⟩,
         ⟨some 2, none, (.assign (.tmp 39))⟩,
         ⟨some 3, none, (.assign (.const (.int .i64 0)))⟩,
         ⟨some 4, none, (.assign (.tmp 41))⟩])
       .ret)))))
theorem w25 {args : Array Value} {H : AH} {Φ : Value → AH → Prop} (h : rW Try.prog k25 [] (fin Try.prog [(.tmp 2), (.tmp 3), (.tmp 4)] Φ) (tm0 args) H) : CallsA Try.prog 25 args H Φ :=
  CallsA.w k25 [(.tmp 2), (.tmp 3), (.tmp 4)] (fun _ => []) Try.func25 rfl rfl (by kernel_rfl) (by kernel_rfl) h

/-- laws.eqToken -/
def k87 : KC :=
  (.seq
   (.ops [⟨some 2, none, (.box 96 (.tmp 0))⟩,
     ⟨some 3, none, (.box 96 (.tmp 1))⟩,
     ⟨some 4, none, (.assign (.const (.bool false)))⟩])
   (.seq
    (.seq
     (.ops [⟨some 5, none, (.fieldAddr 96 (.tmp 2) 0)⟩,
       ⟨some 6, none, (.load 3 (.tmp 5))⟩,
       ⟨some 7, none, (.fieldAddr 96 (.tmp 3) 0)⟩,
       ⟨some 8, none, (.load 3 (.tmp 7))⟩,
       ⟨some 9, none, (.binOp .neq 3 (.tmp 6) (.tmp 8) 3)⟩])
     (.cond (.tmp 9)
      (.seq
       (.ops [⟨some 4, none, (.assign (.const (.bool false)))⟩])
       .ret)
      .skip))
    (.seq
     (.seq
      (.ops [⟨some 10, none, (.fieldAddr 96 (.tmp 2) 1)⟩,
        ⟨some 11, none, (.load 3 (.tmp 10))⟩,
        ⟨some 12, none, (.fieldAddr 96 (.tmp 3) 1)⟩,
        ⟨some 13, none, (.load 3 (.tmp 12))⟩,
        ⟨some 14, none, (.binOp .neq 3 (.tmp 11) (.tmp 13) 3)⟩])
      (.cond (.tmp 14)
       (.seq
        (.ops [⟨some 4, none, (.assign (.const (.bool false)))⟩])
        .ret)
       .skip))
     (.seq
      (.ops [⟨some 4, none, (.assign (.const (.bool true)))⟩])
      .ret))))
theorem w87 {args : Array Value} {H : AH} {Φ : Value → AH → Prop} (h : rW Try.prog k87 [] (fin Try.prog [(.tmp 4)] Φ) (tm0 args) H) : CallsA Try.prog 87 args H Φ :=
  CallsA.w k87 [(.tmp 4)] (fun _ => []) Try.func87 rfl rfl (by kernel_rfl) (by kernel_rfl) h

/-- laws.eqTokenS -/
def k26 : KC :=
  (.seq
   (.ops [⟨some 4, none, (.assign (.const (.bool false)))⟩])
   (.seq
    (.seq
     (.ops [⟨some 6, none, (.move (.tmp 0))⟩,
       ⟨some 7, none, (.call ⟨(.builtin .len), #[(.tmp 6)], #[35]⟩)⟩,
       ⟨some 8, none, (.move (.tmp 1))⟩,
       ⟨some 9, none, (.call ⟨(.builtin .len), #[(.tmp 8)], #[35]⟩)⟩,
       ⟨some 10, none, (.binOp .neq 3 (.tmp 7) (.tmp 9) 3)⟩])
     (.cond (.tmp 10)
      (.seq
       (.ops [⟨some 4, none, (.assign (.const (.bool false)))⟩])
       .ret)
      .skip))
    (.seq
     (.seq
      (.ops [⟨some 5, none, (.assign (.const (.int .i64 0)))⟩])
      (.block 0
       (.loop
        (.seq
         (.seq
          (.ops [⟨some 11, none, (.move (.tmp 5))⟩,
            ⟨some 12, none, (.move (.tmp 0))⟩,
            ⟨some 13, none, (.call ⟨(.builtin .len), #[(.tmp 12)], #[35]⟩)⟩,
            ⟨some 14, none, (.binOp .lss 3 (.tmp 11) (.tmp 13) 3)⟩])
          (.cond (.tmp 14)
           .skip
           (.exit 0)))
         (.seq
          (.block 1
           (.seq
            (.draw #[] [(3, 0), (7, 0)]
              [⟨some 17, none, (.move (.tmp 0))⟩,
              ⟨some 18, none, (.move (.tmp 5))⟩,
              ⟨some 19, none, (.indexAddr 35 (.tmp 17) (.tmp 18))⟩,
              ⟨some 20, none, (.load 96 (.tmp 19))⟩,
              ⟨some 21, none, (.move (.tmp 1))⟩,
              ⟨some 22, none, (.move (.tmp 5))⟩,
              ⟨some 23, none, (.indexAddr 35 (.tmp 21) (.tmp 22))⟩,
              ⟨some 24, none, (.load 96 (.tmp 23))⟩,
              ⟨some 25, none, (.call ⟨(.value (.func 87)), #[(.tmp 20), (.tmp 24)], #[96, 96]⟩)⟩,
              ⟨some 26, none, (.unOp .not 4 (.tmp 25))⟩])
            (.cond (.tmp 26)
             (.seq
              (.ops [⟨some 4, none, (.assign (.const (.bool false)))⟩])
              .ret)
             .skip)))
          (.ops [⟨some 15, none, (.move (.tmp 5))⟩,
            ⟨some 16, none, (.binOp .add 3 (.tmp 15) (.const (.int .i64 1)) 3)⟩,
            ⟨some 5, none, (.assign (.tmp 16))⟩]))))))
     (.seq
      (.ops [⟨some 4, none, (.assign (.const (.bool true)))⟩])
      .ret))))
theorem w26 {args : Array Value} {H : AH} {Φ : Value → AH → Prop} (h : rW Try.prog k26 [] (fin Try.prog [(.tmp 4)] Φ) (tm0 args) H) : CallsA Try.prog 26 args H Φ :=
  CallsA.w k26 [(.tmp 4)] (fun i => if i = 6 then [(3, 0), (7, 0)] else []) Try.func26 rfl rfl (by kernel_rfl) (by kernel_rfl) h

/-- laws.markTokenS -/
def k27 : KC :=
  (.seq
   (.ops [⟨some 4, none, (.assign (.const (.int .i64 0)))⟩])
   (.seq
    (.seq
     (.ops [⟨some 5, none, (.assign (.const (.int .i64 0)))⟩])
     (.block 0
      (.loop
       (.seq
        (.seq
         (.ops [⟨some 6, none, (.move (.tmp 5))⟩,
           ⟨some 7, none, (.move (.tmp 0))⟩,
           ⟨some 8, none, (.call ⟨(.builtin .len), #[(.tmp 7)], #[35]⟩)⟩,
           ⟨some 9, none, (.binOp .lss 3 (.tmp 6) (.tmp 8) 3)⟩])
         (.cond (.tmp 9)
          .skip
          (.exit 0)))
        (.seq
         (.block 1
          (.seq
           (.ops [⟨some 12, none, (.move (.tmp 0))⟩,
             ⟨some 13, none, (.move (.tmp 5))⟩,
             ⟨some 14, none, (.move (.tmp 1))⟩,
             ⟨some 15, none, (.indexAddr 35 (.tmp 12) (.tmp 13))⟩,
             ⟨some 16, none, (.fieldAddr 96 (.tmp 15) 0)⟩,
             ⟨none, none, (.store 3 (.tmp 16) (.tmp 14))⟩])
           (.seq
            (.ops [⟨some 17, none, (.move (.tmp 1))⟩,
              ⟨some 18, none, (.binOp .add 3 (.tmp 17) (.const (.int .i64 1)) 3)⟩,
              ⟨some 1, none, (.assign (.tmp 18))⟩])
            (.seq
             (.ops [⟨some 19, none, (.move (.tmp 0))⟩,
               ⟨some 20, none, (.move (.tmp 5))⟩,
               ⟨some 21, none, (.move (.tmp 1))⟩,
               ⟨some 22, none, (.indexAddr 35 (.tmp 19) (.tmp 20))⟩,
               ⟨some 23, none, (.fieldAddr 96 (.tmp 22) 1)⟩,
               ⟨none, none, (.store 3 (.tmp 23) (.tmp 21))⟩])
             (.ops [⟨some 24, none, (.move (.tmp 1))⟩,
               ⟨some 25, none, (.binOp .add 3 (.tmp 24) (.const (.int .i64 1)) 3)⟩,
               ⟨some 1, none, (.assign (.tmp 25))⟩])))))
         (.ops [⟨some 10, none, (.move (.tmp 5))⟩,
           ⟨some 11, none, (.binOp .add 3 (.tmp 10) (.const (.int .i64 1)) 3)⟩,
           ⟨some 5, none, (.assign (.tmp 11))⟩]))))))
    (.seq
     (.ops [⟨some 26, none, (.move (.tmp 1))⟩,
       ⟨some 4, none, (.assign (.tmp 26))⟩])
     .ret)))
theorem w27 {args : Array Value} {H : AH} {Φ : Value → AH → Prop} (h : rW Try.prog k27 [] (fin Try.prog [(.tmp 4)] Φ) (tm0 args) H) : CallsA Try.prog 27 args H Φ :=
  CallsA.w k27 [(.tmp 4)] (fun _ => []) Try.func27 rfl rfl (by kernel_rfl) (by kernel_rfl) h

/-- laws.heldTokenS -/
def k28 : KC :=
  (.seq
   (.ops [⟨some 4, none, (.assign (.const (.int .i64 0)))⟩])
   (.seq
    (.seq
     (.ops [⟨some 5, none, (.assign (.const (.int .i64 0)))⟩])
     (.block 0
      (.loop
       (.seq
        (.seq
         (.ops [⟨some 6, none, (.move (.tmp 5))⟩,
           ⟨some 7, none, (.move (.tmp 0))⟩,
           ⟨some 8, none, (.call ⟨(.builtin .len), #[(.tmp 7)], #[35]⟩)⟩,
           ⟨some 9, none, (.binOp .lss 3 (.tmp 6) (.tmp 8) 3)⟩])
         (.cond (.tmp 9)
          .skip
          (.exit 0)))
        (.seq
         (.block 1
          (.seq
           (.seq
            (.ops [⟨some 12, none, (.move (.tmp 0))⟩,
              ⟨some 13, none, (.move (.tmp 5))⟩,
              ⟨some 14, none, (.indexAddr 35 (.tmp 12) (.tmp 13))⟩,
              ⟨some 15, none, (.fieldAddr 96 (.tmp 14) 0)⟩,
              ⟨some 16, none, (.load 3 (.tmp 15))⟩,
              ⟨some 17, none, (.move (.tmp 1))⟩,
              ⟨some 18, none, (.binOp .neq 3 (.tmp 16) (.tmp 17) 3)⟩])
            (.cond (.tmp 18)
             (.seq
              (.ops [⟨some 4, none, (.assign (.const (.int .i64 (-1))))⟩])
              .ret)
             .skip))
           (.seq
            (.ops [⟨some 19, none, (.move (.tmp 1))⟩,
              ⟨some 20, none, (.binOp .add 3 (.tmp 19) (.const (.int .i64 1)) 3)⟩,
              ⟨some 1, none, (.assign (.tmp 20))⟩])
            (.seq
             (.seq
              (.ops [⟨some 21, none, (.move (.tmp 0))⟩,
                ⟨some 22, none, (.move (.tmp 5))⟩,
                ⟨some 23, none, (.indexAddr 35 (.tmp 21) (.tmp 22))⟩,
                ⟨some 24, none, (.fieldAddr 96 (.tmp 23) 1)⟩,
                ⟨some 25, none, (.load 3 (.tmp 24))⟩,
                ⟨some 26, none, (.move (.tmp 1))⟩,
                ⟨some 27, none, (.binOp .neq 3 (.tmp 25) (.tmp 26) 3)⟩])
              (.cond (.tmp 27)
               (.seq
                (.ops [⟨some 4, none, (.assign (.const (.int .i64 (-1))))⟩])
                .ret)
               .skip))
             (.ops [⟨some 28, none, (.move (.tmp 1))⟩,
               ⟨some 29, none, (.binOp .add 3 (.tmp 28) (.const (.int .i64 1)) 3)⟩,
               ⟨some 1, none, (.assign (.tmp 29))⟩])))))
         (.ops [⟨some 10, none, (.move (.tmp 5))⟩,
           ⟨some 11, none, (.binOp .add 3 (.tmp 10) (.const (.int .i64 1)) 3)⟩,
           ⟨some 5, none, (.assign (.tmp 11))⟩]))))))
    (.seq
     (.ops [⟨some 30, none, (.move (.tmp 1))⟩,
       ⟨some 4, none, (.assign (.tmp 30))⟩])
     .ret)))
theorem w28 {args : Array Value} {H : AH} {Φ : Value → AH → Prop} (h : rW Try.prog k28 [] (fin Try.prog [(.tmp 4)] Φ) (tm0 args) H) : CallsA Try.prog 28 args H Φ :=
  CallsA.w k28 [(.tmp 4)] (fun _ => []) Try.func28 rfl rfl (by kernel_rfl) (by kernel_rfl) h

/-- laws.FnExactLex -/
def k4 : KC :=
  (.seq
   (.ops [⟨some 2, none, (.assign (.const (.bool false)))⟩])
   (.seq
    (.seq
     (.ops [⟨some 14, none, (.move (.tmp 0))⟩,
       ⟨some 15, none, (.call ⟨(.builtin .len), #[(.tmp 14)], #[9]⟩)⟩,
       ⟨some 16, none, (.binOp .gtr 3 (.tmp 15) (.const (.int .i64 1048576)) 3)⟩])
     (.cond (.tmp 16)
      (.seq
       (.ops [⟨some 2, none, (.assign (.const (.bool true)))⟩])
       .ret)
      .skip))
    (.seq
     (.ops [⟨some 18, none, (.move (.tmp 0))⟩,
       ⟨some 19, none, (.call ⟨(.value (.func 24)), #[(.tmp 18)], #[9]⟩)⟩,
       ⟨some 17, none, (.move (.tmp 19))⟩,
       ⟨some 20, none, (.extract (.tmp 17) 0)⟩,
       ⟨some 21, none, (.extract (.tmp 17) 1)⟩,
       ⟨some 22, none, (.extract (.tmp 17) 2)⟩,
       ⟨some 3, none, (.assign (.tmp 20))⟩,
       ⟨some 4, none, (.assign (.tmp 21))⟩,
       ⟨some 5, none, (.assign (.tmp 22))⟩])
     (.seq
      (.ops [⟨some 24, none, (.move (.tmp 0))⟩,
        ⟨some 25, none, (.call ⟨(.value (.func 25)), #[(.tmp 24)], #[9]⟩)⟩,
        ⟨some 23, none, (.move (.tmp 25))⟩,
        ⟨some 26, none, (.extract (.tmp 23) 0)⟩,
        ⟨some 27, none, (.extract (.tmp 23) 1)⟩,
        ⟨some 28, none, (.extract (.tmp 23) 2)⟩,
        ⟨some 6, none, (.assign (.tmp 26))⟩,
        ⟨some 7, none, (.assign (.tmp 27))⟩,
        ⟨some 8, none, (.assign (.tmp 28))⟩])
      (.seq
       (.seq
        (.ops [⟨some 29, none, (.move (.tmp 6))⟩,
          ⟨some 30, none, (.move (.tmp 3))⟩,
          ⟨some 31, none, (.call ⟨(.value (.func 26)), #[(.tmp 29), (.tmp 30)], #[35, 35]⟩)⟩,
          ⟨some 32, none, (.unOp .not 4 (.tmp 31))⟩,
          ⟨some 33, none, (.move (.tmp 32))⟩,
          ⟨some 34, (some (33, false)), (.move (.tmp 7))⟩,
          ⟨some 35, (some (33, false)), (.move (.tmp 4))⟩,
          ⟨some 36, (some (33, false)), (.binOp .neq 3 (.tmp 34) (.tmp 35) 3)⟩,
          ⟨some 37, none, (.pick (.tmp 33) (.const (.bool true)) (.tmp 36))⟩,
          ⟨some 38, none, (.move (.tmp 37))⟩,
          ⟨some 39, (some (38, false)), (.move (.tmp 8))⟩,
          ⟨some 40, (some (38, false)), (.move (.tmp 5))⟩,
          ⟨some 41, (some (38, false)), (.binOp .neq 3 (.tmp 39) (.tmp 40) 3)⟩,
          ⟨some 42, none, (.pick (.tmp 38) (.const (.bool true)) (.tmp 41))⟩])
        (.cond (.tmp 42)
         (.seq
          (.ops [⟨some 2, none, (.assign (.const (.bool false)))⟩])
          .ret)
         .skip))
       (.seq
        (.ops [⟨some 9, none, (.assign (.const (.int .i64 1)))⟩])
        (.seq
         (.ops [⟨some 43, none, (.move (.tmp 6))⟩,
           ⟨some 44, none, (.move (.tmp 9))⟩,
           ⟨some 45, none, (.call ⟨(.value (.func 27)), #[(.tmp 43), (.tmp 44)], #[35, 3]⟩)⟩,
           ⟨some 9, none, (.assign (.tmp 45))⟩])
         (.seq
          (.ops [⟨some 10, none, (.assign (.const (.int .i64 1)))⟩])
          (.seq
           (.ops [⟨some 46, none, (.move (.tmp 6))⟩,
             ⟨some 47, none, (.move (.tmp 10))⟩,
             ⟨some 48, none, (.call ⟨(.value (.func 28)), #[(.tmp 46), (.tmp 47)], #[35, 3]⟩)⟩,
             ⟨some 10, none, (.assign (.tmp 48))⟩])
           (.seq
            (.seq
             (.ops [⟨some 49, none, (.move (.tmp 10))⟩,
               ⟨some 50, none, (.binOp .lss 3 (.tmp 49) (.const (.int .i64 0)) 3)⟩])
             (.cond (.tmp 50)
              (.seq
               (.ops [⟨some 2, none, (.assign (.const (.bool false)))⟩])
               .ret)
              .skip))
            (.seq
             (.seq
              (.ops [⟨some 51, none, (.move (.tmp 10))⟩,
                ⟨some 52, none, (.move (.tmp 9))⟩,
                ⟨some 53, none, (.binOp .neq 3 (.tmp 51) (.tmp 52) 3)⟩])
              (.cond (.tmp 53)
               (.seq
                (.ops [⟨some 2, none, (.assign (.const (.bool false)))⟩])
                .ret)
               .skip))
             (.seq
              (.ops [⟨some 55, none, (.move (.tmp 0))⟩,
                ⟨some 56, none, (.call ⟨(.value (.func 25)), #[(.tmp 55)], #[9]⟩)⟩,
                ⟨some 54, none, (.move (.tmp 56))⟩,
                ⟨some 57, none, (.extract (.tmp 54) 0)⟩,
                ⟨some 58, none, (.extract (.tmp 54) 1)⟩,
                ⟨some 59, none, (.extract (.tmp 54) 2)⟩,
                ⟨some 11, none, (.assign (.tmp 57))⟩,
                ⟨some 12, none, (.assign (.tmp 58))⟩,
                ⟨some 13, none, (.assign (.tmp 59))⟩])
              (.seq
               (.seq
                (.ops [⟨some 60, none, (.move (.tmp 11))⟩,
                  ⟨some 61, none, (.move (.tmp 3))⟩,
                  ⟨some 62, none, (.call ⟨(.value (.func 26)), #[(.tmp 60), (.tmp 61)], #[35, 35]⟩)⟩,
                  ⟨some 63, none, (.unOp .not 4 (.tmp 62))⟩,
                  ⟨some 64, none, (.move (.tmp 63))⟩,
                  ⟨some 65, (some (64, false)), (.move (.tmp 12))⟩,
                  ⟨some 66, (some (64, false)), (.move (.tmp 4))⟩,
                  ⟨some 67, (some (64, false)), (.binOp .neq 3 (.tmp 65) (.tmp 66) 3)⟩,
                  ⟨some 68, none, (.pick (.tmp 64) (.const (.bool true)) (.tmp 67))⟩,
                  ⟨some 69, none, (.move (.tmp 68))⟩,
                  ⟨some 70, (some (69, false)), (.move (.tmp 13))⟩,
                  ⟨some 71, (some (69, false)), (.move (.tmp 5))⟩,
                  ⟨some 72, (some (69, false)), (.binOp .neq 3 (.tmp 70) (.tmp 71) 3)⟩,
                  ⟨some 73, none, (.pick (.tmp 69) (.const (.bool true)) (.tmp 72))⟩])
                (.cond (.tmp 73)
                 (.seq
                  (.ops [⟨some 2, none, (.assign (.const (.bool false)))⟩])
                  .ret)
                 .skip))
               (.seq
                (.ops [⟨some 10, none, (.assign (.const (.int .i64 1)))⟩])
                (.seq
                 (.ops [⟨some 74, none, (.move (.tmp 6))⟩,
                   ⟨some 75, none, (.move (.tmp 10))⟩,
                   ⟨some 76, none, (.call ⟨(.value (.func 28)), #[(.tmp 74), (.tmp 75)], #[35, 3]⟩)⟩,
                   ⟨some 10, none, (.assign (.tmp 76))⟩])
                 (.seq
                  (.seq
                   (.ops [⟨some 77, none, (.move (.tmp 10))⟩,
                     ⟨some 78, none, (.binOp .lss 3 (.tmp 77) (.const (.int .i64 0)) 3)⟩])
                   (.cond (.tmp 78)
                    (.seq
                     (.ops [⟨some 2, none, (.assign (.const (.bool false)))⟩])
                     .ret)
                    .skip))
                  (.seq
                   (.seq
                    (.ops [⟨some 79, none, (.move (.tmp 10))⟩,
                      ⟨some 80, none, (.move (.tmp 9))⟩,
                      ⟨some 81, none, (.binOp .neq 3 (.tmp 79) (.tmp 80) 3)⟩])
                    (.cond (.tmp 81)
                     (.seq
                      (.ops [⟨some 2, none, (.assign (.const (.bool false)))⟩])
                      .ret)
                     .skip))
                   (.seq
                    (.ops [⟨some 2, none, (.assign (.const (.bool true)))⟩])
                    .ret))))))))))))))))))
theorem w4 {args : Array Value} {H : AH} {Φ : Value → AH → Prop} (h : rW Try.prog k4 [] (fin Try.prog [(.tmp 2)] Φ) (tm0 args) H) : CallsA Try.prog 4 args H Φ :=
  CallsA.w k4 [(.tmp 2)] (fun _ => []) Try.func4 rfl rfl (by kernel_rfl) (by kernel_rfl) h

end Go.Proofs.Ytgekbancaeabgaa.AM
