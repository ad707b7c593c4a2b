/- The code of the functions that the laws reach, made short; and facts on the types that they use. -/
import Derived.Test.YtgekbancaeabgaaA7
import Derived.Test.YtgekbancaeabgaaA6
import Derived.KernelRfl
import Derived.Test.YtgekbancaeabgaaRows
set_option linter.unusedVariables false
set_option linter.unusedSimpArgs false
set_option maxRecDepth 100000
/- The code of the functions that the laws reach, made short; and facts on the types that they use. -/
namespace Go.Proofs.Ytgekbancaeabgaa.AM
open Go Go.Proofs.Ytgekbancaeabgaa Go.Proofs

theorem al45 {ev : Operand → Value} : aMake Try.prog ev (.alloc 45) = some ([.slice none 0 0, .slice none 0 0], none) := by kernel_rfl
theorem az43_3 {k : IntKind} {n : Int} {H : AH} : aAppend Try.prog #[43, 3] #[.slice none 0 0, .int k n] H = if 0 < n ∧ n ≤ 1073741824 then some (.slice (some ⟨H.length, 0, none⟩) n.toNat 1, H ++ [⟨(Builtin.zeroCells #[.int .i64 0] n.toNat).toList, .own⟩]) else none := append_zero_eq (z := .int .i64 0) (e := 3) (q := .i64) (by kernel_rfl) (by kernel_rfl) (by kernel_rfl) (by kernel_rfl) (by kernel_rfl) (by kernel_rfl) (by decide) (by kernel_rfl)
theorem ap43_43 {a a' : Option Addr} {n c n' c' : Nat} {H : AH} : aAppend Try.prog #[43, 43] #[.slice a n c, .slice a' n' c'] H = app 1 (.slice a n c) (.slice a' n' c') H := append_eq (z := .int .i64 0) (e := 3) (e' := 3) (by kernel_rfl) (by kernel_rfl) (by kernel_rfl) (by kernel_rfl) (by kernel_rfl) (by kernel_rfl)
theorem bd45 {ps : Array (Nat × Value)} : aBuild Try.prog 45 ps = (fillP [(0, 1), (1, 1)] [.slice none 0 0, .slice none 0 0] ps.toList).map fun cs => .agg cs.toArray := build_eq (z := .agg #[.slice none 0 0, .slice none 0 0]) Try.underlying45 (by kernel_rfl) (by kernel_rfl) (by kernel_rfl) rfl
theorem bs43_0 {ev : Operand → Value} : aMake Try.prog ev (.buildSlice 43 0 #[]) = (fillP [] [] []).map fun cs => (cs, some (0, 1)) := bslice_eq (z := .int .i64 0) (e := 3) (by kernel_rfl) (by kernel_rfl) (by kernel_rfl) (by decide) (by kernel_rfl) (by kernel_rfl) rfl rfl
theorem bs43_1 {ev : Operand → Value} {x0 : Operand} : aMake Try.prog ev (.buildSlice 43 1 #[(0, x0)]) = (fillP [(0, 1)] [.int .i64 0] [(0, ev x0)]).map fun cs => (cs, some (1, 1)) := bslice_eq (z := .int .i64 0) (e := 3) (by kernel_rfl) (by kernel_rfl) (by kernel_rfl) (by decide) (by kernel_rfl) (by kernel_rfl) rfl rfl
theorem bs163_2 {ev : Operand → Value} {x0 x1 : Operand} : aMake Try.prog ev (.buildSlice 163 2 #[(0, x0), (1, x1)]) = (fillP [(0, 1), (1, 1)] [.slice none 0 0, .slice none 0 0] [(0, ev x0), (1, ev x1)]).map fun cs => (cs, some (2, 1)) := bslice_eq (z := .slice none 0 0) (e := 43) (by kernel_rfl) (by kernel_rfl) (by kernel_rfl) (by decide) (by kernel_rfl) (by kernel_rfl) rfl rfl
theorem cp43 {n c : Nat} : aCap Try.prog #[43] #[.slice none n c] = some (.int .i64 0) := cap_nil (e := 3) (by kernel_rfl)
theorem cv5_3 {k : IntKind} {n : Int} {G : Hp} : aConv Try.prog 5 3 (.int k n) G = some (.int .i64 (IntKind.i64.wrap n)) := conv_int (e := .int .u8) (by kernel_rfl) (by kernel_rfl)
theorem fa45_0 {b o : Nat} : aFieldAddr Try.prog 45 (.pointer (some ⟨b, o, none⟩)) 0 = some (.pointer (some ⟨b, o + 0, none⟩)) := by kernel_rfl
theorem fa45_1 {b o : Nat} : aFieldAddr Try.prog 45 (.pointer (some ⟨b, o, none⟩)) 1 = some (.pointer (some ⟨b, o + 1, none⟩)) := by kernel_rfl
theorem fa77_0 {b o : Nat} : aFieldAddr Try.prog 77 (.pointer (some ⟨b, o, none⟩)) 0 = some (.pointer (some ⟨b, o + 0, none⟩)) := by kernel_rfl
theorem fa77_1 {b o : Nat} : aFieldAddr Try.prog 77 (.pointer (some ⟨b, o, none⟩)) 1 = some (.pointer (some ⟨b, o + 1, none⟩)) := by kernel_rfl
theorem ix43 {b o n c : Nat} {k : IntKind} {j : Int} : aIndexAddr Try.prog 43 (.slice (some ⟨b, o, none⟩) n c) (.int k j) = if 0 ≤ j ∧ j < n then some (.pointer (some ⟨b, o + j.toNat * 1, none⟩)) else none := by kernel_rfl
theorem ix163 {b o n c : Nat} {k : IntKind} {j : Int} : aIndexAddr Try.prog 163 (.slice (some ⟨b, o, none⟩) n c) (.int k j) = if 0 ≤ j ∧ j < n then some (.pointer (some ⟨b, o + j.toNat * 1, none⟩)) else none := by kernel_rfl
theorem us9 : Try.prog.underlying 9 = some .string := by kernel_rfl
theorem ld3 {o : Nat} {cs : List Value} : ld Try.prog 3 o cs = cs[o]? := ld_one (by kernel_rfl)
theorem ld43 {o : Nat} {cs : List Value} : ld Try.prog 43 o cs = cs[o]? := ld_one (by kernel_rfl)
theorem ld45 {o : Nat} {cs : List Value} : ld Try.prog 45 o cs = aggAt 2 o cs := ld_agg (by kernel_rfl) (by kernel_rfl)
theorem ld77 {o : Nat} {cs : List Value} : ld Try.prog 77 o cs = aggAt 2 o cs := ld_agg (by kernel_rfl) (by kernel_rfl)
theorem ln9 {s : ByteArray} : aLen Try.prog #[9] #[.string s] = some (.int .i64 s.size) := by kernel_rfl
theorem ln43 {a : Option Addr} {n c : Nat} : aLen Try.prog #[43] #[.slice a n c] = some (.int .i64 n) := by kernel_rfl
theorem ln163 {a : Option Addr} {n c : Nat} : aLen Try.prog #[163] #[.slice a n c] = some (.int .i64 n) := by kernel_rfl
theorem ms43 {k k' : IntKind} {n : Int} : mkS Try.prog 43 (.int k n) (.int k' n) = if 0 ≤ n ∧ n ≤ 1073741824 then some ((List.replicate n.toNat [.int .i64 0]).flatten, some (n.toNat, 1)) else none := mkS_eq (z := .int .i64 0) (e := 3) (by kernel_rfl) (by kernel_rfl) (by kernel_rfl) (by kernel_rfl) (by kernel_rfl) (by kernel_rfl) (by decide)
theorem sl43 {b o n : Nat} {lo hi : Option Value} : aSlice Try.prog 43 (.slice (some ⟨b, o, none⟩) n 1) lo hi = slc b o n 1 (optInt 0 lo) (optInt n hi) := slc_eq (e := 3) (by kernel_rfl) (by kernel_rfl)
theorem sn43 {n c : Nat} {lo hi : Option Value} : aSlice Try.prog 43 (.slice none n c) lo hi = slq n (optInt 0 lo) (optInt n hi) := sln_q (e := 3) (s := 1) (by kernel_rfl) (by kernel_rfl)
theorem st3 {b o : Nat} {v : Value} {H : AH} : aStore Try.prog 3 (.pointer (some ⟨b, o, none⟩)) v H = sto 1 b o v H (wrt H b) := store_eq (by kernel_rfl)
theorem st43 {b o : Nat} {v : Value} {H : AH} : aStore Try.prog 43 (.pointer (some ⟨b, o, none⟩)) v H = sto 1 b o v H (wrt H b) := store_eq (by kernel_rfl)
theorem st45 {b o : Nat} {v : Value} {H : AH} : aStore Try.prog 45 (.pointer (some ⟨b, o, none⟩)) v H = sto 2 b o v H (wrt H b) := store_eq (by kernel_rfl)
theorem ub4 : Try.prog.underlying 4 = some .bool := by kernel_rfl

/-- laws.szIntS -/
def k138 : KC :=
  (.seq
   (.ops [⟨some 4, none, (.assign (.const (.int .i64 0)))⟩])
   (.seq
    (.ops [⟨some 5, none, (.move (.tmp 1))⟩,
      ⟨some 6, none, (.move (.tmp 0))⟩,
      ⟨some 7, none, (.call ⟨(.builtin .len), #[(.tmp 6)], #[43]⟩)⟩,
      ⟨some 8, none, (.binOp .sub 3 (.tmp 5) (.tmp 7) 3)⟩,
      ⟨some 1, none, (.assign (.tmp 8))⟩])
    (.seq
     (.seq
      (.ops [⟨some 9, none, (.move (.tmp 1))⟩,
        ⟨some 10, none, (.binOp .lss 3 (.tmp 9) (.const (.int .i64 0)) 3)⟩])
      (.cond (.tmp 10)
       (.seq
        (.ops [⟨some 4, none, (.assign (.const (.int .i64 (-1))))⟩])
        .ret)
       .skip))
     (.seq
      (.ops [⟨some 11, none, (.move (.tmp 1))⟩,
        ⟨some 4, none, (.assign (.tmp 11))⟩])
      .ret))))
theorem w138 {args : Array Value} {H : AH} {Φ : Value → AH → Prop} (h : rW Try.prog k138 [] (fin Try.prog [(.tmp 4)] Φ) (tm0 args) H) : CallsA Try.prog 138 args H Φ :=
  CallsA.w k138 [(.tmp 4)] (fun _ => []) Try.func138 rfl rfl (by kernel_rfl) (by kernel_rfl) h

/-- laws.szArray -/
def k63 : KC :=
  (.seq
   (.ops [⟨some 2, none, (.box 77 (.tmp 0))⟩,
     ⟨some 4, none, (.assign (.const (.int .i64 0)))⟩])
   (.seq
    (.ops [⟨some 5, none, (.fieldAddr 77 (.tmp 2) 0)⟩,
      ⟨some 6, none, (.load 43 (.tmp 5))⟩,
      ⟨some 7, none, (.move (.tmp 1))⟩,
      ⟨some 8, none, (.call ⟨(.value (.func 138)), #[(.tmp 6), (.tmp 7)], #[43, 3]⟩)⟩,
      ⟨some 1, none, (.assign (.tmp 8))⟩])
    (.seq
     (.seq
      (.ops [⟨some 9, none, (.move (.tmp 1))⟩,
        ⟨some 10, none, (.binOp .lss 3 (.tmp 9) (.const (.int .i64 0)) 3)⟩])
      (.cond (.tmp 10)
       (.seq
        (.ops [⟨some 4, none, (.assign (.const (.int .i64 (-1))))⟩])
        .ret)
       .skip))
     (.seq
      (.ops [⟨some 11, none, (.fieldAddr 77 (.tmp 2) 1)⟩,
        ⟨some 12, none, (.load 43 (.tmp 11))⟩,
        ⟨some 13, none, (.move (.tmp 1))⟩,
        ⟨some 14, none, (.call ⟨(.value (.func 138)), #[(.tmp 12), (.tmp 13)], #[43, 3]⟩)⟩,
        ⟨some 1, none, (.assign (.tmp 14))⟩])
      (.seq
       (.seq
        (.ops [⟨some 15, none, (.move (.tmp 1))⟩,
          ⟨some 16, none, (.binOp .lss 3 (.tmp 15) (.const (.int .i64 0)) 3)⟩])
        (.cond (.tmp 16)
         (.seq
          (.ops [⟨some 4, none, (.assign (.const (.int .i64 (-1))))⟩])
          .ret)
         .skip))
       (.seq
        (.ops [⟨some 17, none, (.move (.tmp 1))⟩,
          ⟨some 4, none, (.assign (.tmp 17))⟩])
        .ret))))))
theorem w63 {args : Array Value} {H : AH} {Φ : Value → AH → Prop} (h : rW Try.prog k63 [] (fin Try.prog [(.tmp 4)] Φ) (tm0 args) H) : CallsA Try.prog 63 args H Φ :=
  CallsA.w k63 [(.tmp 4)] (fun _ => []) Try.func63 rfl rfl (by kernel_rfl) (by kernel_rfl) h

/-- laws.toIntS -/
def k139 : KC :=
  (.seq
   (.ops [⟨some 2, none, (.assign (.const (.slice none 0 0)))⟩])
   (.seq
    (.ops [⟨some 5, none, (.move (.tmp 0))⟩,
      ⟨some 6, none, (.call ⟨(.builtin .len), #[(.tmp 5)], #[43]⟩)⟩,
      ⟨some 7, none, (.makeSlice 43 (.tmp 6) (.tmp 6))⟩,
      ⟨some 3, none, (.assign (.tmp 7))⟩])
    (.seq
     (.seq
      (.ops [⟨some 4, none, (.assign (.const (.int .i64 0)))⟩])
      (.block 0
       (.loop
        (.seq
         (.seq
          (.ops [⟨some 8, none, (.move (.tmp 4))⟩,
            ⟨some 9, none, (.move (.tmp 0))⟩,
            ⟨some 10, none, (.call ⟨(.builtin .len), #[(.tmp 9)], #[43]⟩)⟩,
            ⟨some 11, none, (.binOp .lss 3 (.tmp 8) (.tmp 10) 3)⟩])
          (.cond (.tmp 11)
           .skip
           (.exit 0)))
         (.seq
          (.block 1
           (.ops [⟨some 14, none, (.move (.tmp 3))⟩,
             ⟨some 15, none, (.move (.tmp 4))⟩,
             ⟨some 16, none, (.move (.tmp 0))⟩,
             ⟨some 17, none, (.move (.tmp 4))⟩,
             ⟨some 18, none, (.indexAddr 43 (.tmp 16) (.tmp 17))⟩,
             ⟨some 19, none, (.load 3 (.tmp 18))⟩,
             ⟨some 20, none, (.indexAddr 43 (.tmp 14) (.tmp 15))⟩,
             ⟨none, none, (.store 3 (.tmp 20) (.tmp 19))⟩]))
          (.ops [⟨some 12, none, (.move (.tmp 4))⟩,
            ⟨some 13, none, (.binOp .add 3 (.tmp 12) (.const (.int .i64 1)) 3)⟩,
            ⟨some 4, none, (.assign (.tmp 13))⟩]))))))
     (.seq
      (.ops [⟨some 21, none, (.move (.tmp 3))⟩,
        ⟨some 2, none, (.assign (.tmp 21))⟩])
      .ret))))
theorem w139 {args : Array Value} {H : AH} {Φ : Value → AH → Prop} (h : rW Try.prog k139 [] (fin Try.prog [(.tmp 2)] Φ) (tm0 args) H) : CallsA Try.prog 139 args H Φ :=
  CallsA.w k139 [(.tmp 2)] (fun _ => []) Try.func139 rfl rfl (by kernel_rfl) (by kernel_rfl) h

/-- laws.toArray -/
def k65 : KC :=
  (.seq
   (.ops [⟨some 1, none, (.box 77 (.tmp 0))⟩,
     ⟨some 2, none, (.alloc 45)⟩])
   (.seq
    (.ops [⟨some 3, none, (.alloc 45)⟩])
    (.seq
     (.ops [⟨some 4, none, (.fieldAddr 77 (.tmp 1) 0)⟩,
       ⟨some 5, none, (.load 43 (.tmp 4))⟩,
       ⟨some 6, none, (.call ⟨(.value (.func 139)), #[(.tmp 5)], #[43]⟩)⟩,
       ⟨some 7, none, (.fieldAddr 45 (.tmp 3) 0)⟩,
       ⟨none, none, (.store 43 (.tmp 7) (.tmp 6))⟩])
     (.seq
      (.ops [⟨some 8, none, (.fieldAddr 77 (.tmp 1) 1)⟩,
        ⟨some 9, none, (.load 43 (.tmp 8))⟩,
        ⟨some 10, none, (.call ⟨(.value (.func 139)), #[(.tmp 9)], #[43]⟩)⟩,
        ⟨some 11, none, (.fieldAddr 45 (.tmp 3) 1)⟩,
        ⟨none, none, (.store 43 (.tmp 11) (.tmp 10))⟩])
      (.seq
       (.ops [⟨some 12, none, (.load 45 (.tmp 3))⟩,
         ⟨none, none, (.store 45 (.tmp 2) (.tmp 12))⟩])
       .ret)))))
theorem w65 {args : Array Value} {H : AH} {Φ : Value → AH → Prop} (h : rW Try.prog k65 [] (fin Try.prog [(.cell 2 45)] Φ) (tm0 args) H) : CallsA Try.prog 65 args H Φ :=
  CallsA.w k65 [(.cell 2 45)] (fun _ => []) Try.func65 rfl rfl (by kernel_rfl) (by kernel_rfl) h

/-- laws.eqIntS -/
def k143 : KC :=
  (.seq
   (.ops [⟨some 4, none, (.assign (.const (.bool false)))⟩])
   (.seq
    (.seq
     (.ops [⟨some 6, none, (.move (.tmp 0))⟩,
       ⟨some 7, none, (.call ⟨(.builtin .len), #[(.tmp 6)], #[43]⟩)⟩,
       ⟨some 8, none, (.move (.tmp 1))⟩,
       ⟨some 9, none, (.call ⟨(.builtin .len), #[(.tmp 8)], #[43]⟩)⟩,
       ⟨some 10, none, (.binOp .neq 3 (.tmp 7) (.tmp 9) 3)⟩])
     (.cond (.tmp 10)
      (.seq
       (.ops [⟨some 4, none, (.assign (.const (.bool false)))⟩])
       .ret)
      .skip))
    (.seq
     (.seq
      (.ops [⟨some 5, none, (.assign (.const (.int .i64 0)))⟩])
      (.block 0
       (.loop
        (.seq
         (.seq
          (.ops [⟨some 11, none, (.move (.tmp 5))⟩,
            ⟨some 12, none, (.move (.tmp 0))⟩,
            ⟨some 13, none, (.call ⟨(.builtin .len), #[(.tmp 12)], #[43]⟩)⟩,
            ⟨some 14, none, (.binOp .lss 3 (.tmp 11) (.tmp 13) 3)⟩])
          (.cond (.tmp 14)
           .skip
           (.exit 0)))
         (.seq
          (.block 1
           (.seq
            (.ops [⟨some 17, none, (.move (.tmp 0))⟩,
              ⟨some 18, none, (.move (.tmp 5))⟩,
              ⟨some 19, none, (.indexAddr 43 (.tmp 17) (.tmp 18))⟩,
              ⟨some 20, none, (.load 3 (.tmp 19))⟩,
              ⟨some 21, none, (.move (.tmp 1))⟩,
              ⟨some 22, none, (.move (.tmp 5))⟩,
              ⟨some 23, none, (.indexAddr 43 (.tmp 21) (.tmp 22))⟩,
              ⟨some 24, none, (.load 3 (.tmp 23))⟩,
              ⟨some 25, none, (.binOp .neq 3 (.tmp 20) (.tmp 24) 3)⟩])
            (.cond (.tmp 25)
             (.seq
              (.ops [⟨some 4, none, (.assign (.const (.bool false)))⟩])
              .ret)
             .skip)))
          (.ops [⟨some 15, none, (.move (.tmp 5))⟩,
            ⟨some 16, none, (.binOp .add 3 (.tmp 15) (.const (.int .i64 1)) 3)⟩,
            ⟨some 5, none, (.assign (.tmp 16))⟩]))))))
     (.seq
      (.ops [⟨some 4, none, (.assign (.const (.bool true)))⟩])
      .ret))))
theorem w143 {args : Array Value} {H : AH} {Φ : Value → AH → Prop} (h : rW Try.prog k143 [] (fin Try.prog [(.tmp 4)] Φ) (tm0 args) H) : CallsA Try.prog 143 args H Φ :=
  CallsA.w k143 [(.tmp 4)] (fun i => if i = 6 then [(3, 0), (7, 0)] else []) Try.func143 rfl rfl (by kernel_rfl) (by kernel_rfl) h

/-- laws.eqArray -/
def k67 : KC :=
  (.seq
   (.ops [⟨some 2, none, (.box 45 (.tmp 0))⟩,
     ⟨some 3, none, (.box 45 (.tmp 1))⟩,
     ⟨some 4, none, (.assign (.const (.bool false)))⟩])
   (.seq
    (.seq
     (.ops [⟨some 5, none, (.fieldAddr 45 (.tmp 2) 0)⟩,
       ⟨some 6, none, (.load 43 (.tmp 5))⟩,
       ⟨some 7, none, (.fieldAddr 45 (.tmp 3) 0)⟩,
       ⟨some 8, none, (.load 43 (.tmp 7))⟩,
       ⟨some 9, none, (.call ⟨(.value (.func 143)), #[(.tmp 6), (.tmp 8)], #[43, 43]⟩)⟩,
       ⟨some 10, none, (.unOp .not 4 (.tmp 9))⟩])
     (.cond (.tmp 10)
      (.seq
       (.ops [⟨some 4, none, (.assign (.const (.bool false)))⟩])
       .ret)
      .skip))
    (.seq
     (.seq
      (.ops [⟨some 11, none, (.fieldAddr 45 (.tmp 2) 1)⟩,
        ⟨some 12, none, (.load 43 (.tmp 11))⟩,
        ⟨some 13, none, (.fieldAddr 45 (.tmp 3) 1)⟩,
        ⟨some 14, none, (.load 43 (.tmp 13))⟩,
        ⟨some 15, none, (.call ⟨(.value (.func 143)), #[(.tmp 12), (.tmp 14)], #[43, 43]⟩)⟩,
        ⟨some 16, none, (.unOp .not 4 (.tmp 15))⟩])
      (.cond (.tmp 16)
       (.seq
        (.ops [⟨some 4, none, (.assign (.const (.bool false)))⟩])
        .ret)
       .skip))
     (.seq
      (.ops [⟨some 4, none, (.assign (.const (.bool true)))⟩])
      .ret))))
theorem w67 {args : Array Value} {H : AH} {Φ : Value → AH → Prop} (h : rW Try.prog k67 [] (fin Try.prog [(.tmp 4)] Φ) (tm0 args) H) : CallsA Try.prog 67 args H Φ :=
  CallsA.w k67 [(.tmp 4)] (fun _ => []) Try.func67 rfl rfl (by kernel_rfl) (by kernel_rfl) h

/-- laws.markIntS -/
def k78 : KC :=
  (.seq
   (.ops [⟨some 4, none, (.assign (.const (.int .i64 0)))⟩])
   (.seq
    (.seq
     (.ops [⟨some 5, none, (.assign (.const (.int .i64 0)))⟩])
     (.block 0
      (.loop
       (.seq
        (.seq
         (.ops [⟨some 6, none, (.move (.tmp 5))⟩,
           ⟨some 7, none, (.move (.tmp 0))⟩,
           ⟨some 8, none, (.call ⟨(.builtin .len), #[(.tmp 7)], #[43]⟩)⟩,
           ⟨some 9, none, (.binOp .lss 3 (.tmp 6) (.tmp 8) 3)⟩])
         (.cond (.tmp 9)
          .skip
          (.exit 0)))
        (.seq
         (.block 1
          (.seq
           (.ops [⟨some 12, none, (.move (.tmp 0))⟩,
             ⟨some 13, none, (.move (.tmp 5))⟩,
             ⟨some 14, none, (.move (.tmp 1))⟩,
             ⟨some 15, none, (.indexAddr 43 (.tmp 12) (.tmp 13))⟩,
             ⟨none, none, (.store 3 (.tmp 15) (.tmp 14))⟩])
           (.ops [⟨some 16, none, (.move (.tmp 1))⟩,
             ⟨some 17, none, (.binOp .add 3 (.tmp 16) (.const (.int .i64 1)) 3)⟩,
             ⟨some 1, none, (.assign (.tmp 17))⟩])))
         (.ops [⟨some 10, none, (.move (.tmp 5))⟩,
           ⟨some 11, none, (.binOp .add 3 (.tmp 10) (.const (.int .i64 1)) 3)⟩,
           ⟨some 5, none, (.assign (.tmp 11))⟩]))))))
    (.seq
     (.ops [⟨some 18, none, (.move (.tmp 1))⟩,
       ⟨some 4, none, (.assign (.tmp 18))⟩])
     .ret)))
theorem w78 {args : Array Value} {H : AH} {Φ : Value → AH → Prop} (h : rW Try.prog k78 [] (fin Try.prog [(.tmp 4)] Φ) (tm0 args) H) : CallsA Try.prog 78 args H Φ :=
  CallsA.w k78 [(.tmp 4)] (fun _ => []) Try.func78 rfl rfl (by kernel_rfl) (by kernel_rfl) h

/-- laws.markArray -/
def k68 : KC :=
  (.seq
   (.ops [⟨some 2, none, (.box 45 (.tmp 0))⟩,
     ⟨some 4, none, (.assign (.const (.int .i64 0)))⟩])
   (.seq
    (.ops [⟨some 5, none, (.fieldAddr 45 (.tmp 2) 0)⟩,
      ⟨some 6, none, (.load 43 (.tmp 5))⟩,
      ⟨some 7, none, (.move (.tmp 1))⟩,
      ⟨some 8, none, (.call ⟨(.value (.func 78)), #[(.tmp 6), (.tmp 7)], #[43, 3]⟩)⟩,
      ⟨some 1, none, (.assign (.tmp 8))⟩])
    (.seq
     (.ops [⟨some 9, none, (.fieldAddr 45 (.tmp 2) 1)⟩,
       ⟨some 10, none, (.load 43 (.tmp 9))⟩,
       ⟨some 11, none, (.move (.tmp 1))⟩,
       ⟨some 12, none, (.call ⟨(.value (.func 78)), #[(.tmp 10), (.tmp 11)], #[43, 3]⟩)⟩,
       ⟨some 1, none, (.assign (.tmp 12))⟩])
     (.seq
      (.ops [⟨some 13, none, (.move (.tmp 1))⟩,
        ⟨some 4, none, (.assign (.tmp 13))⟩])
      .ret))))
theorem w68 {args : Array Value} {H : AH} {Φ : Value → AH → Prop} (h : rW Try.prog k68 [] (fin Try.prog [(.tmp 4)] Φ) (tm0 args) H) : CallsA Try.prog 68 args H Φ :=
  CallsA.w k68 [(.tmp 4)] (fun _ => []) Try.func68 rfl rfl (by kernel_rfl) (by kernel_rfl) h

/-- laws.heldIntS -/
def k144 : KC :=
  (.seq
   (.ops [⟨some 4, none, (.assign (.const (.int .i64 0)))⟩])
   (.seq
    (.seq
     (.ops [⟨some 5, none, (.assign (.const (.int .i64 0)))⟩])
     (.block 0
      (.loop
       (.seq
        (.seq
         (.ops [⟨some 6, none, (.move (.tmp 5))⟩,
           ⟨some 7, none, (.move (.tmp 0))⟩,
           ⟨some 8, none, (.call ⟨(.builtin .len), #[(.tmp 7)], #[43]⟩)⟩,
           ⟨some 9, none, (.binOp .lss 3 (.tmp 6) (.tmp 8) 3)⟩])
         (.cond (.tmp 9)
          .skip
          (.exit 0)))
        (.seq
         (.block 1
          (.seq
           (.seq
            (.ops [⟨some 12, none, (.move (.tmp 0))⟩,
              ⟨some 13, none, (.move (.tmp 5))⟩,
              ⟨some 14, none, (.indexAddr 43 (.tmp 12) (.tmp 13))⟩,
              ⟨some 15, none, (.load 3 (.tmp 14))⟩,
              ⟨some 16, none, (.move (.tmp 1))⟩,
              ⟨some 17, none, (.binOp .neq 3 (.tmp 15) (.tmp 16) 3)⟩])
            (.cond (.tmp 17)
             (.seq
              (.ops [⟨some 4, none, (.assign (.const (.int .i64 (-1))))⟩])
              .ret)
             .skip))
           (.ops [⟨some 18, none, (.move (.tmp 1))⟩,
             ⟨some 19, none, (.binOp .add 3 (.tmp 18) (.const (.int .i64 1)) 3)⟩,
             ⟨some 1, none, (.assign (.tmp 19))⟩])))
         (.ops [⟨some 10, none, (.move (.tmp 5))⟩,
           ⟨some 11, none, (.binOp .add 3 (.tmp 10) (.const (.int .i64 1)) 3)⟩,
           ⟨some 5, none, (.assign (.tmp 11))⟩]))))))
    (.seq
     (.ops [⟨some 20, none, (.move (.tmp 1))⟩,
       ⟨some 4, none, (.assign (.tmp 20))⟩])
     .ret)))
theorem w144 {args : Array Value} {H : AH} {Φ : Value → AH → Prop} (h : rW Try.prog k144 [] (fin Try.prog [(.tmp 4)] Φ) (tm0 args) H) : CallsA Try.prog 144 args H Φ :=
  CallsA.w k144 [(.tmp 4)] (fun _ => []) Try.func144 rfl rfl (by kernel_rfl) (by kernel_rfl) h

/-- laws.heldArray -/
def k69 : KC :=
  (.seq
   (.ops [⟨some 2, none, (.box 45 (.tmp 0))⟩,
     ⟨some 4, none, (.assign (.const (.int .i64 0)))⟩])
   (.seq
    (.ops [⟨some 5, none, (.fieldAddr 45 (.tmp 2) 0)⟩,
      ⟨some 6, none, (.load 43 (.tmp 5))⟩,
      ⟨some 7, none, (.move (.tmp 1))⟩,
      ⟨some 8, none, (.call ⟨(.value (.func 144)), #[(.tmp 6), (.tmp 7)], #[43, 3]⟩)⟩,
      ⟨some 1, none, (.assign (.tmp 8))⟩])
    (.seq
     (.seq
      (.ops [⟨some 9, none, (.move (.tmp 1))⟩,
        ⟨some 10, none, (.binOp .lss 3 (.tmp 9) (.const (.int .i64 0)) 3)⟩])
      (.cond (.tmp 10)
       (.seq
        (.ops [⟨some 4, none, (.assign (.const (.int .i64 (-1))))⟩])
        .ret)
       .skip))
     (.seq
      (.ops [⟨some 11, none, (.fieldAddr 45 (.tmp 2) 1)⟩,
        ⟨some 12, none, (.load 43 (.tmp 11))⟩,
        ⟨some 13, none, (.move (.tmp 1))⟩,
        ⟨some 14, none, (.call ⟨(.value (.func 144)), #[(.tmp 12), (.tmp 13)], #[43, 3]⟩)⟩,
        ⟨some 1, none, (.assign (.tmp 14))⟩])
      (.seq
       (.seq
        (.ops [⟨some 15, none, (.move (.tmp 1))⟩,
          ⟨some 16, none, (.binOp .lss 3 (.tmp 15) (.const (.int .i64 0)) 3)⟩])
        (.cond (.tmp 16)
         (.seq
          (.ops [⟨some 4, none, (.assign (.const (.int .i64 (-1))))⟩])
          .ret)
         .skip))
       (.seq
        (.ops [⟨some 17, none, (.move (.tmp 1))⟩,
          ⟨some 4, none, (.assign (.tmp 17))⟩])
        .ret))))))
theorem w69 {args : Array Value} {H : AH} {Φ : Value → AH → Prop} (h : rW Try.prog k69 [] (fin Try.prog [(.tmp 4)] Φ) (tm0 args) H) : CallsA Try.prog 69 args H Φ :=
  CallsA.w k69 [(.tmp 4)] (fun _ => []) Try.func69 rfl rfl (by kernel_rfl) (by kernel_rfl) h

/-- spec.l1In -/
def k84 : KC :=
  (.seq
   (.ops [⟨some 6, none, (.assign (.const (.bool false)))⟩])
   (.seq
    (.ops [⟨some 7, none, (.move (.tmp 0))⟩,
      ⟨some 8, none, (.move (.tmp 1))⟩,
      ⟨some 9, none, (.binOp .geq 3 (.tmp 7) (.tmp 8) 3)⟩,
      ⟨some 10, none, (.move (.tmp 9))⟩,
      ⟨some 11, (some (10, true)), (.move (.tmp 0))⟩,
      ⟨some 12, (some (10, true)), (.move (.tmp 2))⟩,
      ⟨some 13, (some (10, true)), (.binOp .leq 3 (.tmp 11) (.tmp 12) 3)⟩,
      ⟨some 14, none, (.pick (.tmp 10) (.tmp 13) (.const (.bool false)))⟩,
      ⟨some 6, none, (.assign (.tmp 14))⟩])
    .ret))
theorem w84 {args : Array Value} {H : AH} {Φ : Value → AH → Prop} (h : rW Try.prog k84 [] (fin Try.prog [(.tmp 6)] Φ) (tm0 args) H) : CallsA Try.prog 84 args H Φ :=
  CallsA.w k84 [(.tmp 6)] (fun _ => []) Try.func84 rfl rfl (by kernel_rfl) (by kernel_rfl) h

/-- spec.SizeOf -/
def k127 : KC :=
  (.seq
   (.ops [⟨some 2, none, (.assign (.const (.int .i64 0)))⟩])
   (.seq
    (.seq
     (.ops [⟨some 7, none, (.move (.tmp 0))⟩,
       ⟨some 8, none, (.call ⟨(.builtin .len), #[(.tmp 7)], #[43]⟩)⟩,
       ⟨some 9, none, (.binOp .gtr 3 (.tmp 8) (.const (.int .i64 3)) 3)⟩])
     (.cond (.tmp 9)
      (.seq
       (.ops [⟨some 2, none, (.assign (.const (.int .i64 (-1))))⟩])
       .ret)
      .skip))
    (.seq
     (.ops [⟨some 3, none, (.assign (.const (.bool false)))⟩])
     (.seq
      (.seq
       (.ops [⟨some 4, none, (.assign (.const (.int .i64 0)))⟩])
       (.block 0
        (.loop
         (.seq
          (.seq
           (.ops [⟨some 10, none, (.move (.tmp 4))⟩,
             ⟨some 11, none, (.move (.tmp 0))⟩,
             ⟨some 12, none, (.call ⟨(.builtin .len), #[(.tmp 11)], #[43]⟩)⟩,
             ⟨some 13, none, (.binOp .lss 3 (.tmp 10) (.tmp 12) 3)⟩])
           (.cond (.tmp 13)
            .skip
            (.exit 0)))
          (.seq
           (.block 1
            (.seq
             (.seq
              (.ops [⟨some 16, none, (.move (.tmp 0))⟩,
                ⟨some 17, none, (.move (.tmp 4))⟩,
                ⟨some 18, none, (.indexAddr 43 (.tmp 16) (.tmp 17))⟩,
                ⟨some 19, none, (.load 3 (.tmp 18))⟩,
                ⟨some 20, none, (.call ⟨(.value (.func 84)), #[(.tmp 19), (.const (.int .i64 0)), (.const (.int .i64 300))], #[3, 3, 3]⟩)⟩,
                ⟨some 21, none, (.unOp .not 4 (.tmp 20))⟩])
              (.cond (.tmp 21)
               (.seq
                (.ops [⟨some 2, none, (.assign (.const (.int .i64 (-1))))⟩])
                .ret)
               .skip))
             (.ops [⟨some 22, none, (.move (.tmp 3))⟩,
               ⟨some 23, none, (.move (.tmp 22))⟩,
               ⟨some 24, (some (23, false)), (.move (.tmp 0))⟩,
               ⟨some 25, (some (23, false)), (.move (.tmp 4))⟩,
               ⟨some 26, (some (23, false)), (.indexAddr 43 (.tmp 24) (.tmp 25))⟩,
               ⟨some 27, (some (23, false)), (.load 3 (.tmp 26))⟩,
               ⟨some 28, (some (23, false)), (.binOp .eql 3 (.tmp 27) (.const (.int .i64 0)) 3)⟩,
               ⟨some 29, none, (.pick (.tmp 23) (.const (.bool true)) (.tmp 28))⟩,
               ⟨some 3, none, (.assign (.tmp 29))⟩])))
           (.ops [⟨some 14, none, (.move (.tmp 4))⟩,
             ⟨some 15, none, (.binOp .add 3 (.tmp 14) (.const (.int .i64 1)) 3)⟩,
             ⟨some 4, none, (.assign (.tmp 15))⟩]))))))
      (.seq
       (.ops [⟨some 5, none, (.assign (.const (.int .i64 1)))⟩])
       (.seq
        (.seq
         (.ops [⟨some 6, none, (.assign (.const (.int .i64 0)))⟩])
         (.block 2
          (.loop
           (.seq
            (.seq
             (.ops [⟨some 30, none, (.move (.tmp 6))⟩,
               ⟨some 31, none, (.move (.tmp 0))⟩,
               ⟨some 32, none, (.call ⟨(.builtin .len), #[(.tmp 31)], #[43]⟩)⟩,
               ⟨some 33, none, (.binOp .lss 3 (.tmp 30) (.tmp 32) 3)⟩])
             (.cond (.tmp 33)
              .skip
              (.exit 2)))
            (.seq
             (.block 3
              (.ops [⟨some 36, none, (.move (.tmp 5))⟩,
                ⟨some 37, none, (.move (.tmp 0))⟩,
                ⟨some 38, none, (.move (.tmp 6))⟩,
                ⟨some 39, none, (.indexAddr 43 (.tmp 37) (.tmp 38))⟩,
                ⟨some 40, none, (.load 3 (.tmp 39))⟩,
                ⟨some 41, none, (.binOp .mul 3 (.tmp 36) (.tmp 40) 3)⟩,
                ⟨some 5, none, (.assign (.tmp 41))⟩]))
             (.ops [⟨some 34, none, (.move (.tmp 6))⟩,
               ⟨some 35, none, (.binOp .add 3 (.tmp 34) (.const (.int .i64 1)) 3)⟩,
               ⟨some 6, none, (.assign (.tmp 35))⟩]))))))
        (.seq
         (.seq
          (.ops [⟨some 42, none, (.move (.tmp 5))⟩,
            ⟨some 43, none, (.binOp .gtr 3 (.tmp 42) (.const (.int .i64 300)) 3)⟩,
            ⟨some 44, none, (.move (.tmp 43))⟩,
            ⟨some 45, (some (44, true)), (.move (.tmp 3))⟩,
            ⟨some 46, (some (44, true)), (.unOp .not 4 (.tmp 45))⟩,
            ⟨some 47, none, (.pick (.tmp 44) (.tmp 46) (.const (.bool false)))⟩])
          (.cond (.tmp 47)
           (.seq
            (.ops [⟨some 2, none, (.assign (.const (.int .i64 (-1))))⟩])
            .ret)
           .skip))
         (.seq
          (.ops [⟨some 48, none, (.move (.tmp 5))⟩,
            ⟨some 2, none, (.assign (.tmp 48))⟩])
          .ret))))))))
theorem w127 {args : Array Value} {H : AH} {Φ : Value → AH → Prop} (h : rW Try.prog k127 [] (fin Try.prog [(.tmp 2)] Φ) (tm0 args) H) : CallsA Try.prog 127 args H Φ :=
  CallsA.w k127 [(.tmp 2)] (fun _ => []) Try.func127 rfl rfl (by kernel_rfl) (by kernel_rfl) h

/-- spec.NumOk -/
def k128 : KC :=
  (.seq
   (.ops [⟨some 2, none, (.assign (.const (.bool false)))⟩])
   (.seq
    (.ops [⟨some 3, none, (.move (.tmp 0))⟩,
      ⟨some 4, none, (.call ⟨(.value (.func 84)), #[(.tmp 3), (.const (.int .i64 (-1000000000000))), (.const (.int .i64 1000000000000))], #[3, 3, 3]⟩)⟩,
      ⟨some 2, none, (.assign (.tmp 4))⟩])
    .ret))
theorem w128 {args : Array Value} {H : AH} {Φ : Value → AH → Prop} (h : rW Try.prog k128 [] (fin Try.prog [(.tmp 2)] Φ) (tm0 args) H) : CallsA Try.prog 128 args H Φ :=
  CallsA.w k128 [(.tmp 2)] (fun _ => []) Try.func128 rfl rfl (by kernel_rfl) (by kernel_rfl) h

/-- spec.ArrayOk -/
def k54 : KC :=
  (.seq
   (.ops [⟨some 1, none, (.box 45 (.tmp 0))⟩,
     ⟨some 2, none, (.assign (.const (.bool false)))⟩])
   (.seq
    (.seq
     (.draw #[] [(1, 0), (4, 0), (4, 3)]
       [⟨some 4, none, (.fieldAddr 45 (.tmp 1) 0)⟩,
       ⟨some 5, none, (.load 43 (.tmp 4))⟩,
       ⟨some 6, none, (.call ⟨(.value (.func 127)), #[(.tmp 5)], #[43]⟩)⟩,
       ⟨some 7, none, (.fieldAddr 45 (.tmp 1) 1)⟩,
       ⟨some 8, none, (.load 43 (.tmp 7))⟩,
       ⟨some 9, none, (.call ⟨(.builtin .len), #[(.tmp 8)], #[43]⟩)⟩,
       ⟨some 10, none, (.binOp .neq 3 (.tmp 6) (.tmp 9) 3)⟩])
     (.cond (.tmp 10)
      (.seq
       (.ops [⟨some 2, none, (.assign (.const (.bool false)))⟩])
       .ret)
      .skip))
    (.seq
     (.seq
      (.ops [⟨some 3, none, (.assign (.const (.int .i64 0)))⟩])
      (.block 0
       (.loop
        (.seq
         (.seq
          (.ops [⟨some 11, none, (.move (.tmp 3))⟩,
            ⟨some 12, none, (.fieldAddr 45 (.tmp 1) 1)⟩,
            ⟨some 13, none, (.load 43 (.tmp 12))⟩,
            ⟨some 14, none, (.call ⟨(.builtin .len), #[(.tmp 13)], #[43]⟩)⟩,
            ⟨some 15, none, (.binOp .lss 3 (.tmp 11) (.tmp 14) 3)⟩])
          (.cond (.tmp 15)
           .skip
           (.exit 0)))
         (.seq
          (.block 1
           (.seq
            (.ops [⟨some 18, none, (.fieldAddr 45 (.tmp 1) 1)⟩,
              ⟨some 19, none, (.load 43 (.tmp 18))⟩,
              ⟨some 20, none, (.move (.tmp 3))⟩,
              ⟨some 21, none, (.indexAddr 43 (.tmp 19) (.tmp 20))⟩,
              ⟨some 22, none, (.load 3 (.tmp 21))⟩,
              ⟨some 23, none, (.call ⟨(.value (.func 128)), #[(.tmp 22)], #[3]⟩)⟩,
              ⟨some 24, none, (.unOp .not 4 (.tmp 23))⟩])
            (.cond (.tmp 24)
             (.seq
              (.ops [⟨some 2, none, (.assign (.const (.bool false)))⟩])
              .ret)
             .skip)))
          (.ops [⟨some 16, none, (.move (.tmp 3))⟩,
            ⟨some 17, none, (.binOp .add 3 (.tmp 16) (.const (.int .i64 1)) 3)⟩,
            ⟨some 3, none, (.assign (.tmp 17))⟩]))))))
     (.seq
      (.ops [⟨some 2, none, (.assign (.const (.bool true)))⟩])
      .ret))))
theorem w54 {args : Array Value} {H : AH} {Φ : Value → AH → Prop} (h : rW Try.prog k54 [] (fin Try.prog [(.tmp 2)] Φ) (tm0 args) H) : CallsA Try.prog 54 args H Φ :=
  CallsA.w k54 [(.tmp 2)] (fun i => if i = 1 then [(1, 0), (4, 0), (4, 3)] else []) Try.func54 rfl rfl (by kernel_rfl) (by kernel_rfl) h

/-- spec.ShapeOk -/
def k116 : KC :=
  (.seq
   (.ops [⟨some 2, none, (.assign (.const (.bool false)))⟩])
   (.seq
    (.ops [⟨some 3, none, (.move (.tmp 0))⟩,
      ⟨some 4, none, (.call ⟨(.value (.func 127)), #[(.tmp 3)], #[43]⟩)⟩,
      ⟨some 5, none, (.binOp .geq 3 (.tmp 4) (.const (.int .i64 0)) 3)⟩,
      ⟨some 2, none, (.assign (.tmp 5))⟩])
    .ret))
theorem w116 {args : Array Value} {H : AH} {Φ : Value → AH → Prop} (h : rW Try.prog k116 [] (fin Try.prog [(.tmp 2)] Φ) (tm0 args) H) : CallsA Try.prog 116 args H Φ :=
  CallsA.w k116 [(.tmp 2)] (fun _ => []) Try.func116 rfl rfl (by kernel_rfl) (by kernel_rfl) h

/-- spec.l1Sign2 -/
def k145 : KC :=
  (.seq
   (.ops [⟨some 2, none, (.assign (.const (.bool false)))⟩])
   (.seq
    (.ops [⟨some 3, none, (.move (.tmp 0))⟩,
      ⟨some 4, none, (.binOp .eql 3 (.tmp 3) (.const (.int .i64 43)) 3)⟩,
      ⟨some 5, none, (.move (.tmp 4))⟩,
      ⟨some 6, (some (5, false)), (.move (.tmp 0))⟩,
      ⟨some 7, (some (5, false)), (.binOp .eql 3 (.tmp 6) (.const (.int .i64 45)) 3)⟩,
      ⟨some 8, none, (.pick (.tmp 5) (.const (.bool true)) (.tmp 7))⟩,
      ⟨some 9, none, (.move (.tmp 8))⟩,
      ⟨some 10, (some (9, false)), (.move (.tmp 0))⟩,
      ⟨some 11, (some (9, false)), (.binOp .eql 3 (.tmp 10) (.const (.int .i64 42)) 3)⟩,
      ⟨some 12, none, (.pick (.tmp 9) (.const (.bool true)) (.tmp 11))⟩,
      ⟨some 13, none, (.move (.tmp 12))⟩,
      ⟨some 14, (some (13, false)), (.move (.tmp 0))⟩,
      ⟨some 15, (some (13, false)), (.binOp .eql 3 (.tmp 14) (.const (.int .i64 37)) 3)⟩,
      ⟨some 16, none, (.pick (.tmp 13) (.const (.bool true)) (.tmp 15))⟩,
      ⟨some 17, none, (.move (.tmp 16))⟩,
      ⟨some 18, (some (17, false)), (.move (.tmp 0))⟩,
      ⟨some 19, (some (17, false)), (.binOp .eql 3 (.tmp 18) (.const (.int .i64 124)) 3)⟩,
      ⟨some 20, none, (.pick (.tmp 17) (.const (.bool true)) (.tmp 19))⟩,
      ⟨some 21, none, (.move (.tmp 20))⟩,
      ⟨some 22, (some (21, false)), (.move (.tmp 0))⟩,
      ⟨some 23, (some (21, false)), (.binOp .eql 3 (.tmp 22) (.const (.int .i64 38)) 3)⟩,
      ⟨some 24, none, (.pick (.tmp 21) (.const (.bool true)) (.tmp 23))⟩,
      ⟨some 25, none, (.move (.tmp 24))⟩,
      ⟨some 26, (some (25, false)), (.move (.tmp 0))⟩,
      ⟨some 27, (some (25, false)), (.binOp .eql 3 (.tmp 26) (.const (.int .i64 94)) 3)⟩,
      ⟨some 28, none, (.pick (.tmp 25) (.const (.bool true)) (.tmp 27))⟩,
      ⟨some 29, none, (.move (.tmp 28))⟩,
      ⟨some 30, (some (29, false)), (.move (.tmp 0))⟩,
      ⟨some 31, (some (29, false)), (.binOp .eql 3 (.tmp 30) (.const (.int .i64 61)) 3)⟩,
      ⟨some 32, none, (.pick (.tmp 29) (.const (.bool true)) (.tmp 31))⟩,
      ⟨some 33, none, (.move (.tmp 32))⟩,
      ⟨some 34, (some (33, false)), (.move (.tmp 0))⟩,
      ⟨some 35, (some (33, false)), (.binOp .eql 3 (.tmp 34) (.const (.int .i64 60)) 3)⟩,
      ⟨some 36, none, (.pick (.tmp 33) (.const (.bool true)) (.tmp 35))⟩,
      ⟨some 37, none, (.move (.tmp 36))⟩,
      ⟨some 38, (some (37, false)), (.move (.tmp 0))⟩,
      ⟨some 39, (some (37, false)), (.binOp .eql 3 (.tmp 38) (.const (.int .i64 62)) 3)⟩,
      ⟨some 40, none, (.pick (.tmp 37) (.const (.bool true)) (.tmp 39))⟩,
      ⟨some 2, none, (.assign (.tmp 40))⟩])
    .ret))
theorem w145 {args : Array Value} {H : AH} {Φ : Value → AH → Prop} (h : rW Try.prog k145 [] (fin Try.prog [(.tmp 2)] Φ) (tm0 args) H) : CallsA Try.prog 145 args H Φ :=
  CallsA.w k145 [(.tmp 2)] (fun _ => []) Try.func145 rfl rfl (by kernel_rfl) (by kernel_rfl) h

/-- spec.l1Bit -/
def k100 : KC :=
  (.seq
   (.ops [⟨some 2, none, (.assign (.const (.int .i64 0)))⟩])
   (.seq
    (.seq
     (.ops [⟨some 3, none, (.move (.tmp 0))⟩])
     (.cond (.tmp 3)
      (.seq
       (.ops [⟨some 2, none, (.assign (.const (.int .i64 1)))⟩])
       .ret)
      .skip))
    (.seq
     (.ops [⟨some 2, none, (.assign (.const (.int .i64 0)))⟩])
     .ret)))
theorem w100 {args : Array Value} {H : AH} {Φ : Value → AH → Prop} (h : rW Try.prog k100 [] (fin Try.prog [(.tmp 2)] Φ) (tm0 args) H) : CallsA Try.prog 100 args H Φ :=
  CallsA.w k100 [(.tmp 2)] (fun _ => []) Try.func100 rfl rfl (by kernel_rfl) (by kernel_rfl) h

/-- spec.l1Max -/
def k112 : KC :=
  (.seq
   (.ops [⟨some 4, none, (.assign (.const (.int .i64 0)))⟩])
   (.seq
    (.seq
     (.ops [⟨some 5, none, (.move (.tmp 0))⟩,
       ⟨some 6, none, (.move (.tmp 1))⟩,
       ⟨some 7, none, (.binOp .gtr 3 (.tmp 5) (.tmp 6) 3)⟩])
     (.cond (.tmp 7)
      (.seq
       (.ops [⟨some 8, none, (.move (.tmp 0))⟩,
         ⟨some 4, none, (.assign (.tmp 8))⟩])
       .ret)
      .skip))
    (.seq
     (.ops [⟨some 9, none, (.move (.tmp 1))⟩,
       ⟨some 4, none, (.assign (.tmp 9))⟩])
     .ret)))
theorem w112 {args : Array Value} {H : AH} {Φ : Value → AH → Prop} (h : rW Try.prog k112 [] (fin Try.prog [(.tmp 4)] Φ) (tm0 args) H) : CallsA Try.prog 112 args H Φ :=
  CallsA.w k112 [(.tmp 4)] (fun _ => []) Try.func112 rfl rfl (by kernel_rfl) (by kernel_rfl) h

/-- spec.l1Min -/
def k126 : KC :=
  (.seq
   (.ops [⟨some 4, none, (.assign (.const (.int .i64 0)))⟩])
   (.seq
    (.seq
     (.ops [⟨some 5, none, (.move (.tmp 0))⟩,
       ⟨some 6, none, (.move (.tmp 1))⟩,
       ⟨some 7, none, (.binOp .lss 3 (.tmp 5) (.tmp 6) 3)⟩])
     (.cond (.tmp 7)
      (.seq
       (.ops [⟨some 8, none, (.move (.tmp 0))⟩,
         ⟨some 4, none, (.assign (.tmp 8))⟩])
       .ret)
      .skip))
    (.seq
     (.ops [⟨some 9, none, (.move (.tmp 1))⟩,
       ⟨some 4, none, (.assign (.tmp 9))⟩])
     .ret)))
theorem w126 {args : Array Value} {H : AH} {Φ : Value → AH → Prop} (h : rW Try.prog k126 [] (fin Try.prog [(.tmp 4)] Φ) (tm0 args) H) : CallsA Try.prog 126 args H Φ :=
  CallsA.w k126 [(.tmp 4)] (fun _ => []) Try.func126 rfl rfl (by kernel_rfl) (by kernel_rfl) h

/-- spec.l1Times -/
def k179 : KC :=
  (.seq
   (.ops [⟨some 4, none, (.assign (.const (.int .i64 0)))⟩,
     ⟨some 5, none, (.assign (.const (.bool false)))⟩])
   (.seq
    (.seq
     (.ops [⟨some 6, none, (.move (.tmp 0))⟩,
       ⟨some 7, none, (.binOp .eql 3 (.tmp 6) (.const (.int .i64 0)) 3)⟩,
       ⟨some 8, none, (.move (.tmp 7))⟩,
       ⟨some 9, (some (8, false)), (.move (.tmp 1))⟩,
       ⟨some 10, (some (8, false)), (.binOp .eql 3 (.tmp 9) (.const (.int .i64 0)) 3)⟩,
       ⟨some 11, none, (.pick (.tmp 8) (.const (.bool true)) (.tmp 10))⟩])
     (.cond (.tmp 11)
      (.seq
       (.ops [⟨some 4, none, (.assign (.const (.int .i64 0)))⟩,
         ⟨some 5, none, (.assign (.const (.bool true)))⟩])
       .ret)
      .skip))
    (.seq
     (.seq
      (.ops [⟨some 12, none, (.move (.tmp 0))⟩,
        ⟨some 13, none, (.move (.tmp 0))⟩,
        ⟨some 14, none, (.binOp .sub 3 (.const (.int .i64 0)) (.tmp 13) 3)⟩,
        ⟨some 15, none, (.call ⟨(.value (.func 112)), #[(.tmp 12), (.tmp 14)], #[3, 3]⟩)⟩,
        ⟨some 16, none, (.move (.tmp 1))⟩,
        ⟨some 17, none, (.move (.tmp 1))⟩,
        ⟨some 18, none, (.binOp .sub 3 (.const (.int .i64 0)) (.tmp 17) 3)⟩,
        ⟨some 19, none, (.call ⟨(.value (.func 112)), #[(.tmp 16), (.tmp 18)], #[3, 3]⟩)⟩,
        ⟨some 20, none, (.binOp .quo 3 (.const (.int .i64 1000000000000)) (.tmp 19) 3)⟩,
        ⟨some 21, none, (.binOp .gtr 3 (.tmp 15) (.tmp 20) 3)⟩])
      (.cond (.tmp 21)
       (.seq
        (.ops [⟨some 4, none, (.assign (.const (.int .i64 0)))⟩,
          ⟨some 5, none, (.assign (.const (.bool false)))⟩])
        .ret)
       .skip))
     (.seq
      (.ops [⟨some 22, none, (.move (.tmp 0))⟩,
        ⟨some 23, none, (.move (.tmp 1))⟩,
        ⟨some 24, none, (.binOp .mul 3 (.tmp 22) (.tmp 23) 3)⟩,
        ⟨some 4, none, (.assign (.tmp 24))⟩,
        ⟨some 5, none, (.assign (.const (.bool true)))⟩])
      .ret))))
theorem w179 {args : Array Value} {H : AH} {Φ : Value → AH → Prop} (h : rW Try.prog k179 [] (fin Try.prog [(.tmp 4), (.tmp 5)] Φ) (tm0 args) H) : CallsA Try.prog 179 args H Φ :=
  CallsA.w k179 [(.tmp 4), (.tmp 5)] (fun _ => []) Try.func179 rfl rfl (by kernel_rfl) (by kernel_rfl) h

/-- spec.l1Floor -/
def k180 : KC :=
  (.seq
   (.ops [⟨some 4, none, (.assign (.const (.int .i64 0)))⟩])
   (.seq
    (.ops [⟨some 6, none, (.move (.tmp 0))⟩,
      ⟨some 7, none, (.move (.tmp 1))⟩,
      ⟨some 8, none, (.binOp .quo 3 (.tmp 6) (.tmp 7) 3)⟩,
      ⟨some 5, none, (.assign (.tmp 8))⟩])
    (.seq
     (.seq
      (.ops [⟨some 9, none, (.move (.tmp 0))⟩,
        ⟨some 10, none, (.move (.tmp 1))⟩,
        ⟨some 11, none, (.binOp .rem 3 (.tmp 9) (.tmp 10) 3)⟩,
        ⟨some 12, none, (.binOp .neq 3 (.tmp 11) (.const (.int .i64 0)) 3)⟩,
        ⟨some 13, none, (.move (.tmp 12))⟩,
        ⟨some 14, (some (13, true)), (.move (.tmp 0))⟩,
        ⟨some 15, (some (13, true)), (.binOp .lss 3 (.tmp 14) (.const (.int .i64 0)) 3)⟩,
        ⟨some 16, (some (13, true)), (.move (.tmp 1))⟩,
        ⟨some 17, (some (13, true)), (.binOp .lss 3 (.tmp 16) (.const (.int .i64 0)) 3)⟩,
        ⟨some 18, (some (13, true)), (.binOp .neq 4 (.tmp 15) (.tmp 17) 4)⟩,
        ⟨some 19, none, (.pick (.tmp 13) (.tmp 18) (.const (.bool false)))⟩])
      (.cond (.tmp 19)
       (.ops [⟨some 20, none, (.move (.tmp 5))⟩,
         ⟨some 21, none, (.binOp .sub 3 (.tmp 20) (.const (.int .i64 1)) 3)⟩,
         ⟨some 5, none, (.assign (.tmp 21))⟩])
       .skip))
     (.seq
      (.ops [⟨some 22, none, (.move (.tmp 5))⟩,
        ⟨some 4, none, (.assign (.tmp 22))⟩])
      .ret))))
theorem w180 {args : Array Value} {H : AH} {Φ : Value → AH → Prop} (h : rW Try.prog k180 [] (fin Try.prog [(.tmp 4)] Φ) (tm0 args) H) : CallsA Try.prog 180 args H Φ :=
  CallsA.w k180 [(.tmp 4)] (fun _ => []) Try.func180 rfl rfl (by kernel_rfl) (by kernel_rfl) h

/-- spec.Two -/
def k146 : KC :=
  (.seq
   (.ops [⟨some 6, none, (.assign (.const (.int .i64 0)))⟩,
     ⟨some 7, none, (.assign (.const (.int .i64 0)))⟩])
   (.seq
    (.seq
     (.ops [⟨some 11, none, (.move (.tmp 0))⟩,
       ⟨some 12, none, (.call ⟨(.value (.func 145)), #[(.tmp 11)], #[3]⟩)⟩,
       ⟨some 13, none, (.unOp .not 4 (.tmp 12))⟩,
       ⟨some 14, none, (.move (.tmp 13))⟩,
       ⟨some 15, (some (14, false)), (.move (.tmp 1))⟩,
       ⟨some 16, (some (14, false)), (.call ⟨(.value (.func 128)), #[(.tmp 15)], #[3]⟩)⟩,
       ⟨some 17, (some (14, false)), (.unOp .not 4 (.tmp 16))⟩,
       ⟨some 18, none, (.pick (.tmp 14) (.const (.bool true)) (.tmp 17))⟩,
       ⟨some 19, none, (.move (.tmp 18))⟩,
       ⟨some 20, (some (19, false)), (.move (.tmp 2))⟩,
       ⟨some 21, (some (19, false)), (.call ⟨(.value (.func 128)), #[(.tmp 20)], #[3]⟩)⟩,
       ⟨some 22, (some (19, false)), (.unOp .not 4 (.tmp 21))⟩,
       ⟨some 23, none, (.pick (.tmp 19) (.const (.bool true)) (.tmp 22))⟩])
     (.cond (.tmp 23)
      (.seq
       (.ops [⟨some 6, none, (.assign (.const (.int .i64 0)))⟩,
         ⟨some 7, none, (.assign (.const (.int .i64 1)))⟩])
       .ret)
      .skip))
    (.seq
     (.ops [⟨some 8, none, (.assign (.const (.int .i64 0)))⟩])
     (.seq
      (.seq
       (.ops [⟨some 24, none, (.move (.tmp 0))⟩])
       (.block 0
        (.seq
         (.ops [⟨some 26, none, (.binOp .eql 3 (.tmp 24) (.const (.int .i64 43)) 3)⟩,
           ⟨some 25, none, (.assign (.tmp 26))⟩])
         (.cond (.tmp 25)
          (.ops [⟨some 27, none, (.move (.tmp 1))⟩,
            ⟨some 28, none, (.move (.tmp 2))⟩,
            ⟨some 29, none, (.binOp .add 3 (.tmp 27) (.tmp 28) 3)⟩,
            ⟨some 8, none, (.assign (.tmp 29))⟩])
          (.seq
           (.ops [⟨some 31, none, (.binOp .eql 3 (.tmp 24) (.const (.int .i64 45)) 3)⟩,
             ⟨some 30, none, (.assign (.tmp 31))⟩])
           (.cond (.tmp 30)
            (.ops [⟨some 32, none, (.move (.tmp 1))⟩,
              ⟨some 33, none, (.move (.tmp 2))⟩,
              ⟨some 34, none, (.binOp .sub 3 (.tmp 32) (.tmp 33) 3)⟩,
              ⟨some 8, none, (.assign (.tmp 34))⟩])
            (.seq
             (.ops [⟨some 36, none, (.binOp .eql 3 (.tmp 24) (.const (.int .i64 42)) 3)⟩,
               ⟨some 35, none, (.assign (.tmp 36))⟩])
             (.cond (.tmp 35)
              (.seq
               (.ops [⟨some 38, none, (.move (.tmp 1))⟩,
                 ⟨some 39, none, (.move (.tmp 2))⟩,
                 ⟨some 40, none, (.call ⟨(.value (.func 179)), #[(.tmp 38), (.tmp 39)], #[3, 3]⟩)⟩,
                 ⟨some 37, none, (.move (.tmp 40))⟩,
                 ⟨some 41, none, (.extract (.tmp 37) 0)⟩,
                 ⟨some 42, none, (.extract (.tmp 37) 1)⟩,
                 ⟨some 9, none, (.assign (.tmp 41))⟩,
                 ⟨some 10, none, (.assign (.tmp 42))⟩])
               (.seq
                (.seq
                 (.ops [⟨some 43, none, (.move (.tmp 10))⟩,
                   ⟨some 44, none, (.unOp .not 4 (.tmp 43))⟩])
                 (.cond (.tmp 44)
                  (.seq
                   (.ops [⟨some 6, none, (.assign (.const (.int .i64 0)))⟩,
                     ⟨some 7, none, (.assign (.const (.int .i64 6)))⟩])
                   .ret)
                  .skip))
                (.ops [⟨some 45, none, (.move (.tmp 9))⟩,
                  ⟨some 8, none, (.assign (.tmp 45))⟩])))
              (.seq
               (.ops [⟨some 47, none, (.binOp .eql 3 (.tmp 24) (.const (.int .i64 37)) 3)⟩,
                 ⟨some 46, none, (.assign (.tmp 47))⟩])
               (.cond (.tmp 46)
                (.seq
                 (.seq
                  (.ops [⟨some 48, none, (.move (.tmp 2))⟩,
                    ⟨some 49, none, (.binOp .eql 3 (.tmp 48) (.const (.int .i64 0)) 3)⟩])
                  (.cond (.tmp 49)
                   (.seq
                    (.ops [⟨some 6, none, (.assign (.const (.int .i64 0)))⟩,
                      ⟨some 7, none, (.assign (.const (.int .i64 2)))⟩])
                    .ret)
                   .skip))
                 (.ops [⟨some 50, none, (.move (.tmp 1))⟩,
                   ⟨some 51, none, (.move (.tmp 2))⟩,
                   ⟨some 52, none, (.call ⟨(.value (.func 180)), #[(.tmp 50), (.tmp 51)], #[3, 3]⟩)⟩,
                   ⟨some 8, none, (.assign (.tmp 52))⟩]))
                (.seq
                 (.ops [⟨some 54, none, (.binOp .eql 3 (.tmp 24) (.const (.int .i64 124)) 3)⟩,
                   ⟨some 53, none, (.assign (.tmp 54))⟩])
                 (.cond (.tmp 53)
                  (.seq
                   (.ops [⟨some 55, none, (.move (.tmp 2))⟩,
                     ⟨some 8, none, (.assign (.tmp 55))⟩])
                   (.seq
                    (.ops [⟨some 56, none, (.move (.tmp 1))⟩,
                      ⟨some 57, none, (.binOp .neq 3 (.tmp 56) (.const (.int .i64 0)) 3)⟩])
                    (.cond (.tmp 57)
                     (.ops [⟨some 58, none, (.move (.tmp 2))⟩,
                       ⟨some 59, none, (.move (.tmp 1))⟩,
                       ⟨some 60, none, (.move (.tmp 2))⟩,
                       ⟨some 61, none, (.move (.tmp 1))⟩,
                       ⟨some 62, none, (.call ⟨(.value (.func 180)), #[(.tmp 60), (.tmp 61)], #[3, 3]⟩)⟩,
                       ⟨some 63, none, (.binOp .mul 3 (.tmp 59) (.tmp 62) 3)⟩,
                       ⟨some 64, none, (.binOp .sub 3 (.tmp 58) (.tmp 63) 3)⟩,
                       ⟨some 8, none, (.assign (.tmp 64))⟩])
                     .skip)))
                  (.seq
                   (.ops [⟨some 66, none, (.binOp .eql 3 (.tmp 24) (.const (.int .i64 38)) 3)⟩,
                     ⟨some 65, none, (.assign (.tmp 66))⟩])
                   (.cond (.tmp 65)
                    (.ops [⟨some 67, none, (.move (.tmp 1))⟩,
                      ⟨some 68, none, (.move (.tmp 2))⟩,
                      ⟨some 69, none, (.call ⟨(.value (.func 126)), #[(.tmp 67), (.tmp 68)], #[3, 3]⟩)⟩,
                      ⟨some 8, none, (.assign (.tmp 69))⟩])
                    (.seq
                     (.ops [⟨some 71, none, (.binOp .eql 3 (.tmp 24) (.const (.int .i64 94)) 3)⟩,
                       ⟨some 70, none, (.assign (.tmp 71))⟩])
                     (.cond (.tmp 70)
                      (.ops [⟨some 72, none, (.move (.tmp 1))⟩,
                        ⟨some 73, none, (.move (.tmp 2))⟩,
                        ⟨some 74, none, (.call ⟨(.value (.func 112)), #[(.tmp 72), (.tmp 73)], #[3, 3]⟩)⟩,
                        ⟨some 8, none, (.assign (.tmp 74))⟩])
                      (.seq
                       (.ops [⟨some 76, none, (.binOp .eql 3 (.tmp 24) (.const (.int .i64 61)) 3)⟩,
                         ⟨some 75, none, (.assign (.tmp 76))⟩])
                       (.cond (.tmp 75)
                        (.ops [⟨some 77, none, (.move (.tmp 1))⟩,
                          ⟨some 78, none, (.move (.tmp 2))⟩,
                          ⟨some 79, none, (.binOp .eql 3 (.tmp 77) (.tmp 78) 3)⟩,
                          ⟨some 80, none, (.call ⟨(.value (.func 100)), #[(.tmp 79)], #[4]⟩)⟩,
                          ⟨some 8, none, (.assign (.tmp 80))⟩])
                        (.seq
                         (.ops [⟨some 82, none, (.binOp .eql 3 (.tmp 24) (.const (.int .i64 60)) 3)⟩,
                           ⟨some 81, none, (.assign (.tmp 82))⟩])
                         (.cond (.tmp 81)
                          (.ops [⟨some 83, none, (.move (.tmp 1))⟩,
                            ⟨some 84, none, (.move (.tmp 2))⟩,
                            ⟨some 85, none, (.binOp .lss 3 (.tmp 83) (.tmp 84) 3)⟩,
                            ⟨some 86, none, (.call ⟨(.value (.func 100)), #[(.tmp 85)], #[4]⟩)⟩,
                            ⟨some 8, none, (.assign (.tmp 86))⟩])
                          (.seq
                           (.ops [⟨some 88, none, (.binOp .eql 3 (.tmp 24) (.const (.int .i64 62)) 3)⟩,
                             ⟨some 87, none, (.assign (.tmp 88))⟩])
                           (.cond (.tmp 87)
                            (.ops [⟨some 89, none, (.move (.tmp 1))⟩,
                              ⟨some 90, none, (.move (.tmp 2))⟩,
                              ⟨some 91, none, (.binOp .gtr 3 (.tmp 89) (.tmp 90) 3)⟩,
                              ⟨some 92, none, (.call ⟨(.value (.func 100)), #[(.tmp 91)], #[4]⟩)⟩,
                              ⟨some 8, none, (.assign (.tmp 92))⟩])
                            .skip))))))))))))))))))))))
      (.seq
       (.seq
        (.ops [⟨some 93, none, (.move (.tmp 8))⟩,
          ⟨some 94, none, (.call ⟨(.value (.func 128)), #[(.tmp 93)], #[3]⟩)⟩,
          ⟨some 95, none, (.unOp .not 4 (.tmp 94))⟩])
        (.cond (.tmp 95)
         (.seq
          (.ops [⟨some 6, none, (.assign (.const (.int .i64 0)))⟩,
            ⟨some 7, none, (.assign (.const (.int .i64 6)))⟩])
          .ret)
         .skip))
       (.seq
        (.ops [⟨some 96, none, (.move (.tmp 8))⟩,
          ⟨some 6, none, (.assign (.tmp 96))⟩,
          ⟨some 7, none, (.assign (.const (.int .i64 0)))⟩])
        .ret))))))
theorem w146 {args : Array Value} {H : AH} {Φ : Value → AH → Prop} (h : rW Try.prog k146 [] (fin Try.prog [(.tmp 6), (.tmp 7)] Φ) (tm0 args) H) : CallsA Try.prog 146 args H Φ :=
  CallsA.w k146 [(.tmp 6), (.tmp 7)] (fun _ => []) Try.func146 rfl rfl (by kernel_rfl) (by kernel_rfl) h

/-- spec.Outer -/
def k70 : KC :=
  (.seq
   (.ops [⟨some 4, none, (.box 45 (.tmp 1))⟩,
     ⟨some 5, none, (.box 45 (.tmp 2))⟩,
     ⟨some 6, none, (.alloc 45)⟩,
     ⟨some 7, none, (.assign (.const (.int .i64 0)))⟩])
   (.seq
    (.ops [⟨some 14, none, (.build 45 #[])⟩,
      ⟨some 8, none, (.alloc 45)⟩,
      ⟨none, none, (.store 45 (.tmp 8) (.tmp 14))⟩])
    (.seq
     (.draw #[] [(2, 0), (5, 0), (5, 4)]
       [⟨some 15, none, (.buildSlice 43 0 #[])⟩,
       ⟨some 16, none, (.fieldAddr 45 (.tmp 4) 0)⟩,
       ⟨some 17, none, (.load 43 (.tmp 16))⟩,
       ⟨some 18, none, (.call ⟨(.builtin .append), #[(.tmp 15), (.tmp 17)], #[43, 43]⟩)⟩,
       ⟨some 19, none, (.fieldAddr 45 (.tmp 5) 0)⟩,
       ⟨some 20, none, (.load 43 (.tmp 19))⟩,
       ⟨some 21, none, (.call ⟨(.builtin .append), #[(.tmp 18), (.tmp 20)], #[43, 43]⟩)⟩,
       ⟨some 22, none, (.build 45 #[(0, (.tmp 21))])⟩,
       ⟨some 9, none, (.alloc 45)⟩,
       ⟨none, none, (.store 45 (.tmp 9) (.tmp 22))⟩])
     (.seq
      (.block 0
       (.seq
        (.ops [⟨some 24, none, (.load 45 (.tmp 4))⟩,
          ⟨some 25, none, (.call ⟨(.value (.func 54)), #[(.tmp 24)], #[45]⟩)⟩,
          ⟨some 26, none, (.unOp .not 4 (.tmp 25))⟩,
          ⟨some 27, none, (.move (.tmp 26))⟩,
          ⟨some 28, (some (27, false)), (.load 45 (.tmp 5))⟩,
          ⟨some 29, (some (27, false)), (.call ⟨(.value (.func 54)), #[(.tmp 28)], #[45]⟩)⟩,
          ⟨some 30, (some (27, false)), (.unOp .not 4 (.tmp 29))⟩,
          ⟨some 31, none, (.pick (.tmp 27) (.const (.bool true)) (.tmp 30))⟩,
          ⟨some 32, none, (.move (.tmp 31))⟩,
          ⟨some 33, (some (32, false)), (.move (.tmp 0))⟩,
          ⟨some 34, (some (32, false)), (.call ⟨(.value (.func 145)), #[(.tmp 33)], #[3]⟩)⟩,
          ⟨some 35, (some (32, false)), (.unOp .not 4 (.tmp 34))⟩,
          ⟨some 36, none, (.pick (.tmp 32) (.const (.bool true)) (.tmp 35))⟩,
          ⟨some 23, none, (.assign (.tmp 36))⟩])
        (.cond (.tmp 23)
         (.seq
          (.ops [⟨some 37, none, (.load 45 (.tmp 8))⟩,
            ⟨none, none, (.store 45 (.tmp 6) (.tmp 37))⟩,
            ⟨some 7, none, (.assign (.const (.int .i64 1)))⟩])
          .ret)
         (.seq
          (.ops [⟨some 39, none, (.fieldAddr 45 (.tmp 9) 0)⟩,
            ⟨some 40, none, (.load 43 (.tmp 39))⟩,
            ⟨some 41, none, (.call ⟨(.builtin .len), #[(.tmp 40)], #[43]⟩)⟩,
            ⟨some 42, none, (.binOp .gtr 3 (.tmp 41) (.const (.int .i64 3)) 3)⟩,
            ⟨some 38, none, (.assign (.tmp 42))⟩])
          (.cond (.tmp 38)
           (.seq
            (.ops [⟨some 43, none, (.load 45 (.tmp 8))⟩,
              ⟨none, none, (.store 45 (.tmp 6) (.tmp 43))⟩,
              ⟨some 7, none, (.assign (.const (.int .i64 4)))⟩])
            .ret)
           (.seq
            (.ops [⟨some 45, none, (.fieldAddr 45 (.tmp 9) 0)⟩,
              ⟨some 46, none, (.load 43 (.tmp 45))⟩,
              ⟨some 47, none, (.call ⟨(.value (.func 116)), #[(.tmp 46)], #[43]⟩)⟩,
              ⟨some 48, none, (.unOp .not 4 (.tmp 47))⟩,
              ⟨some 44, none, (.assign (.tmp 48))⟩])
            (.cond (.tmp 44)
             (.seq
              (.ops [⟨some 49, none, (.load 45 (.tmp 8))⟩,
                ⟨none, none, (.store 45 (.tmp 6) (.tmp 49))⟩,
                ⟨some 7, none, (.assign (.const (.int .i64 6)))⟩])
              .ret)
             .skip)))))))
      (.seq
       (.seq
        (.ops [⟨some 10, none, (.assign (.const (.int .i64 0)))⟩])
        (.block 1
         (.loop
          (.seq
           (.seq
            (.ops [⟨some 50, none, (.move (.tmp 10))⟩,
              ⟨some 51, none, (.fieldAddr 45 (.tmp 4) 1)⟩,
              ⟨some 52, none, (.load 43 (.tmp 51))⟩,
              ⟨some 53, none, (.call ⟨(.builtin .len), #[(.tmp 52)], #[43]⟩)⟩,
              ⟨some 54, none, (.binOp .lss 3 (.tmp 50) (.tmp 53) 3)⟩])
            (.cond (.tmp 54)
             .skip
             (.exit 1)))
           (.seq
            (.block 2
             (.seq
              (.ops [⟨some 11, none, (.assign (.const (.int .i64 0)))⟩])
              (.block 3
               (.loop
                (.seq
                 (.seq
                  (.ops [⟨some 57, none, (.move (.tmp 11))⟩,
                    ⟨some 58, none, (.fieldAddr 45 (.tmp 5) 1)⟩,
                    ⟨some 59, none, (.load 43 (.tmp 58))⟩,
                    ⟨some 60, none, (.call ⟨(.builtin .len), #[(.tmp 59)], #[43]⟩)⟩,
                    ⟨some 61, none, (.binOp .lss 3 (.tmp 57) (.tmp 60) 3)⟩])
                  (.cond (.tmp 61)
                   .skip
                   (.exit 3)))
                 (.seq
                  (.block 4
                   (.seq
                    (.draw #[] [(2, 0), (5, 0), (7, 0), (10, 0)]
                      [⟨some 65, none, (.move (.tmp 0))⟩,
                      ⟨some 66, none, (.fieldAddr 45 (.tmp 4) 1)⟩,
                      ⟨some 67, none, (.load 43 (.tmp 66))⟩,
                      ⟨some 68, none, (.move (.tmp 10))⟩,
                      ⟨some 69, none, (.indexAddr 43 (.tmp 67) (.tmp 68))⟩,
                      ⟨some 70, none, (.load 3 (.tmp 69))⟩,
                      ⟨some 71, none, (.fieldAddr 45 (.tmp 5) 1)⟩,
                      ⟨some 72, none, (.load 43 (.tmp 71))⟩,
                      ⟨some 73, none, (.move (.tmp 11))⟩,
                      ⟨some 74, none, (.indexAddr 43 (.tmp 72) (.tmp 73))⟩,
                      ⟨some 75, none, (.load 3 (.tmp 74))⟩,
                      ⟨some 76, none, (.call ⟨(.value (.func 146)), #[(.tmp 65), (.tmp 70), (.tmp 75)], #[3, 3, 3]⟩)⟩,
                      ⟨some 64, none, (.move (.tmp 76))⟩,
                      ⟨some 77, none, (.extract (.tmp 64) 0)⟩,
                      ⟨some 78, none, (.extract (.tmp 64) 1)⟩,
                      ⟨some 12, none, (.assign (.tmp 77))⟩,
                      ⟨some 13, none, (.assign (.tmp 78))⟩])
                    (.seq
                     (.seq
                      (.ops [⟨some 79, none, (.move (.tmp 13))⟩,
                        ⟨some 80, none, (.binOp .neq 3 (.tmp 79) (.const (.int .i64 0)) 3)⟩])
                      (.cond (.tmp 80)
                       (.seq
                        (.ops [⟨some 81, none, (.load 45 (.tmp 8))⟩,
                          ⟨some 82, none, (.move (.tmp 13))⟩,
                          ⟨none, none, (.store 45 (.tmp 6) (.tmp 81))⟩,
                          ⟨some 7, none, (.assign (.tmp 82))⟩])
                        .ret)
                       .skip))
                     (.ops [⟨some 83, none, (.fieldAddr 45 (.tmp 9) 1)⟩,
                       ⟨some 84, none, (.load 43 (.tmp 83))⟩,
                       ⟨some 85, none, (.move (.tmp 12))⟩,
                       ⟨some 86, none, (.buildSlice 43 1 #[(0, (.tmp 85))])⟩,
                       ⟨some 87, none, (.call ⟨(.builtin .append), #[(.tmp 84), (.tmp 86)], #[43, 43]⟩)⟩,
                       ⟨some 88, none, (.fieldAddr 45 (.tmp 9) 1)⟩,
                       ⟨none, none, (.store 43 (.tmp 88) (.tmp 87))⟩]))))
                  (.ops [⟨some 62, none, (.move (.tmp 11))⟩,
                    ⟨some 63, none, (.binOp .add 3 (.tmp 62) (.const (.int .i64 1)) 3)⟩,
                    ⟨some 11, none, (.assign (.tmp 63))⟩])))))))
            (.ops [⟨some 55, none, (.move (.tmp 10))⟩,
              ⟨some 56, none, (.binOp .add 3 (.tmp 55) (.const (.int .i64 1)) 3)⟩,
              ⟨some 10, none, (.assign (.tmp 56))⟩]))))))
       (.seq
        (.ops [⟨some 89, none, (.load 45 (.tmp 9))⟩,
          ⟨none, none, (.store 45 (.tmp 6) (.tmp 89))⟩,
          ⟨some 7, none, (.assign (.const (.int .i64 0)))⟩])
        .ret))))))
theorem w70 {args : Array Value} {H : AH} {Φ : Value → AH → Prop} (h : rW Try.prog k70 [] (fin Try.prog [(.cell 6 45), (.tmp 7)] Φ) (tm0 args) H) : CallsA Try.prog 70 args H Φ :=
  CallsA.w k70 [(.cell 6 45), (.tmp 7)] (fun i => if i = 2 then [(2, 0), (5, 0), (5, 4)] else if i = 15 then [(2, 0), (5, 0), (7, 0), (10, 0)] else []) Try.func70 rfl rfl (by kernel_rfl) (by kernel_rfl) h

/-- impl.within -/
def k106 : KC :=
  (.seq
   (.ops [⟨some 6, none, (.assign (.const (.bool false)))⟩])
   (.seq
    (.ops [⟨some 7, none, (.move (.tmp 0))⟩,
      ⟨some 8, none, (.move (.tmp 1))⟩,
      ⟨some 9, none, (.binOp .geq 3 (.tmp 7) (.tmp 8) 3)⟩,
      ⟨some 10, none, (.move (.tmp 9))⟩,
      ⟨some 11, (some (10, true)), (.move (.tmp 0))⟩,
      ⟨some 12, (some (10, true)), (.move (.tmp 2))⟩,
      ⟨some 13, (some (10, true)), (.binOp .leq 3 (.tmp 11) (.tmp 12) 3)⟩,
      ⟨some 14, none, (.pick (.tmp 10) (.tmp 13) (.const (.bool false)))⟩,
      ⟨some 6, none, (.assign (.tmp 14))⟩])
    .ret))
theorem w106 {args : Array Value} {H : AH} {Φ : Value → AH → Prop} (h : rW Try.prog k106 [] (fin Try.prog [(.tmp 6)] Φ) (tm0 args) H) : CallsA Try.prog 106 args H Φ :=
  CallsA.w k106 [(.tmp 6)] (fun _ => []) Try.func106 rfl rfl (by kernel_rfl) (by kernel_rfl) h

/-- impl.SizeOf -/
def k117 : KC :=
  (.seq
   (.ops [⟨some 2, none, (.assign (.const (.int .i64 0)))⟩])
   (.seq
    (.seq
     (.ops [⟨some 6, none, (.move (.tmp 0))⟩,
       ⟨some 7, none, (.call ⟨(.builtin .len), #[(.tmp 6)], #[43]⟩)⟩,
       ⟨some 8, none, (.binOp .gtr 3 (.tmp 7) (.const (.int .i64 3)) 3)⟩])
     (.cond (.tmp 8)
      (.seq
       (.ops [⟨some 2, none, (.assign (.const (.int .i64 (-1))))⟩])
       .ret)
      .skip))
    (.seq
     (.ops [⟨some 3, none, (.assign (.const (.int .i64 1)))⟩])
     (.seq
      (.seq
       (.ops [⟨some 9, none, (.move (.tmp 0))⟩,
         ⟨some 10, none, (.call ⟨(.builtin .len), #[(.tmp 9)], #[43]⟩)⟩,
         ⟨some 11, none, (.move (.const (.int .i64 0)))⟩])
       (.block 0
        (.loop
         (.seq
          (.ops [⟨some 12, none, (.binOp .lss 3 (.tmp 11) (.tmp 10) 3)⟩])
          (.seq
           (.cond (.tmp 12)
            .skip
            (.exit 0))
           (.seq
            (.block 1
             (.seq
              (.ops [⟨some 13, none, (.indexAddr 43 (.tmp 9) (.tmp 11))⟩,
                ⟨some 14, none, (.load 3 (.tmp 13))⟩,
                ⟨some 5, none, (.assign (.tmp 14))⟩])
              (.seq
               (.seq
                (.ops [⟨some 15, none, (.move (.tmp 5))⟩,
                  ⟨some 16, none, (.call ⟨(.value (.func 106)), #[(.tmp 15), (.const (.int .i64 0)), (.const (.int .i64 300))], #[3, 3, 3]⟩)⟩,
                  ⟨some 17, none, (.unOp .not 4 (.tmp 16))⟩])
                (.cond (.tmp 17)
                 (.seq
                  (.ops [⟨some 2, none, (.assign (.const (.int .i64 (-1))))⟩])
                  .ret)
                 .skip))
               (.ops [⟨some 18, none, (.move (.tmp 3))⟩,
                 ⟨some 19, none, (.move (.tmp 5))⟩,
                 ⟨some 20, none, (.binOp .mul 3 (.tmp 18) (.tmp 19) 3)⟩,
                 ⟨some 3, none, (.assign (.tmp 20))⟩]))))
            (.ops [⟨some 21, none, (.binOp .add 3 (.tmp 11) (.const (.int .i64 1)) 3)⟩,
              ⟨some 11, none, (.move (.tmp 21))⟩])))))))
      (.seq
       (.seq
        (.ops [⟨some 22, none, (.move (.tmp 3))⟩,
          ⟨some 23, none, (.binOp .gtr 3 (.tmp 22) (.const (.int .i64 300)) 3)⟩])
        (.cond (.tmp 23)
         (.seq
          (.ops [⟨some 2, none, (.assign (.const (.int .i64 (-1))))⟩])
          .ret)
         .skip))
       (.seq
        (.ops [⟨some 24, none, (.move (.tmp 3))⟩,
          ⟨some 2, none, (.assign (.tmp 24))⟩])
        .ret))))))
theorem w117 {args : Array Value} {H : AH} {Φ : Value → AH → Prop} (h : rW Try.prog k117 [] (fin Try.prog [(.tmp 2)] Φ) (tm0 args) H) : CallsA Try.prog 117 args H Φ :=
  CallsA.w k117 [(.tmp 2)] (fun _ => []) Try.func117 rfl rfl (by kernel_rfl) (by kernel_rfl) h

/-- slices.IndexFunc[[]int,int] -/
def k170 : KC :=
  (.seq
   (.ops [⟨some 4, none, (.assign (.const (.int .i64 0)))⟩])
   (.seq
    (.seq
     (.ops [⟨some 6, none, (.move (.tmp 0))⟩,
       ⟨some 7, none, (.call ⟨(.builtin .len), #[(.tmp 6)], #[43]⟩)⟩,
       ⟨some 8, none, (.move (.const (.int .i64 0)))⟩])
     (.block 0
      (.loop
       (.seq
        (.ops [⟨some 9, none, (.binOp .lss 3 (.tmp 8) (.tmp 7) 3)⟩])
        (.seq
         (.cond (.tmp 9)
          .skip
          (.exit 0))
         (.seq
          (.block 1
           (.seq
            (.ops [⟨some 10, none, (.move (.tmp 8))⟩,
              ⟨some 5, none, (.assign (.tmp 10))⟩])
            (.seq
             (.ops [⟨some 11, none, (.move (.tmp 1))⟩,
               ⟨some 12, none, (.move (.tmp 0))⟩,
               ⟨some 13, none, (.move (.tmp 5))⟩,
               ⟨some 14, none, (.indexAddr 43 (.tmp 12) (.tmp 13))⟩,
               ⟨some 15, none, (.load 3 (.tmp 14))⟩,
               ⟨some 16, none, (.call ⟨(.value (.tmp 11)), #[(.tmp 15)], #[3]⟩)⟩])
             (.cond (.tmp 16)
              (.seq
               (.ops [⟨some 17, none, (.move (.tmp 5))⟩,
                 ⟨some 4, none, (.assign (.tmp 17))⟩])
               .ret)
              .skip))))
          (.ops [⟨some 18, none, (.binOp .add 3 (.tmp 8) (.const (.int .i64 1)) 3)⟩,
            ⟨some 8, none, (.move (.tmp 18))⟩])))))))
    (.seq
     (.ops [⟨some 4, none, (.assign (.const (.int .i64 (-1))))⟩])
     .ret)))
theorem w170 {args : Array Value} {H : AH} {Φ : Value → AH → Prop} (h : rW Try.prog k170 [] (fin Try.prog [(.tmp 4)] Φ) (tm0 args) H) : CallsA Try.prog 170 args H Φ :=
  CallsA.w k170 [(.tmp 4)] (fun _ => []) Try.func170 rfl rfl (by kernel_rfl) (by kernel_rfl) h

/-- slices.ContainsFunc[[]int,int] -/
def k118 : KC :=
  (.seq
   (.ops [⟨some 4, none, (.assign (.const (.bool false)))⟩])
   (.seq
    (.ops [⟨some 5, none, (.move (.tmp 0))⟩,
      ⟨some 6, none, (.move (.tmp 1))⟩,
      ⟨some 7, none, (.call ⟨(.value (.func 170)), #[(.tmp 5), (.tmp 6)], #[43, 101]⟩)⟩,
      ⟨some 8, none, (.binOp .geq 3 (.tmp 7) (.const (.int .i64 0)) 3)⟩,
      ⟨some 4, none, (.assign (.tmp 8))⟩])
    .ret))
theorem w118 {args : Array Value} {H : AH} {Φ : Value → AH → Prop} (h : rW Try.prog k118 [] (fin Try.prog [(.tmp 4)] Φ) (tm0 args) H) : CallsA Try.prog 118 args H Φ :=
  CallsA.w k118 [(.tmp 4)] (fun _ => []) Try.func118 rfl rfl (by kernel_rfl) (by kernel_rfl) h

/-- impl.NumOk -/
def k120 : KC :=
  (.seq
   (.ops [⟨some 2, none, (.assign (.const (.bool false)))⟩])
   (.seq
    (.ops [⟨some 3, none, (.move (.tmp 0))⟩,
      ⟨some 4, none, (.call ⟨(.value (.func 106)), #[(.tmp 3), (.const (.int .i64 (-1000000000000))), (.const (.int .i64 1000000000000))], #[3, 3, 3]⟩)⟩,
      ⟨some 2, none, (.assign (.tmp 4))⟩])
    .ret))
theorem w120 {args : Array Value} {H : AH} {Φ : Value → AH → Prop} (h : rW Try.prog k120 [] (fin Try.prog [(.tmp 2)] Φ) (tm0 args) H) : CallsA Try.prog 120 args H Φ :=
  CallsA.w k120 [(.tmp 2)] (fun _ => []) Try.func120 rfl rfl (by kernel_rfl) (by kernel_rfl) h

/-- impl.ArrayOk$1 -/
def k119 : KC :=
  (.seq
   (.ops [⟨some 2, none, (.assign (.const (.bool false)))⟩])
   (.seq
    (.ops [⟨some 3, none, (.move (.tmp 0))⟩,
      ⟨some 4, none, (.call ⟨(.value (.func 120)), #[(.tmp 3)], #[3]⟩)⟩,
      ⟨some 5, none, (.unOp .not 4 (.tmp 4))⟩,
      ⟨some 2, none, (.assign (.tmp 5))⟩])
    .ret))
theorem w119 {args : Array Value} {H : AH} {Φ : Value → AH → Prop} (h : rW Try.prog k119 [] (fin Try.prog [(.tmp 2)] Φ) (tm0 args) H) : CallsA Try.prog 119 args H Φ :=
  CallsA.w k119 [(.tmp 2)] (fun _ => []) Try.func119 rfl rfl (by kernel_rfl) (by kernel_rfl) h

/-- impl.ArrayOk -/
def k47 : KC :=
  (.seq
   (.ops [⟨some 1, none, (.box 45 (.tmp 0))⟩,
     ⟨some 2, none, (.assign (.const (.bool false)))⟩])
   (.seq
    (.draw #[] [(1, 0), (1, 6), (4, 0), (9, 6)]
      [⟨some 3, none, (.fieldAddr 45 (.tmp 1) 1)⟩,
      ⟨some 4, none, (.load 43 (.tmp 3))⟩,
      ⟨some 5, none, (.call ⟨(.builtin .len), #[(.tmp 4)], #[43]⟩)⟩,
      ⟨some 6, none, (.fieldAddr 45 (.tmp 1) 0)⟩,
      ⟨some 7, none, (.load 43 (.tmp 6))⟩,
      ⟨some 8, none, (.call ⟨(.value (.func 117)), #[(.tmp 7)], #[43]⟩)⟩,
      ⟨some 9, none, (.binOp .eql 3 (.tmp 5) (.tmp 8) 3)⟩,
      ⟨some 10, none, (.move (.tmp 9))⟩,
      ⟨some 11, (some (10, true)), (.fieldAddr 45 (.tmp 1) 1)⟩,
      ⟨some 12, (some (10, true)), (.load 43 (.tmp 11))⟩,
      ⟨some 13, (some (10, true)), (.call ⟨(.value (.func 118)), #[(.tmp 12), (.func 119)], #[43, 101]⟩)⟩,
      ⟨some 14, (some (10, true)), (.unOp .not 4 (.tmp 13))⟩,
      ⟨some 15, none, (.pick (.tmp 10) (.tmp 14) (.const (.bool false)))⟩,
      ⟨some 2, none, (.assign (.tmp 15))⟩])
    .ret))
theorem w47 {args : Array Value} {H : AH} {Φ : Value → AH → Prop} (h : rW Try.prog k47 [] (fin Try.prog [(.tmp 2)] Φ) (tm0 args) H) : CallsA Try.prog 47 args H Φ :=
  CallsA.w k47 [(.tmp 2)] (fun i => if i = 1 then [(1, 0), (1, 6), (4, 0), (9, 6)] else []) Try.func47 rfl rfl (by kernel_rfl) (by kernel_rfl) h

/-- slices.Grow[[]int,int] -/
def k169 : KC :=
  (.seq
   (.ops [⟨some 4, none, (.assign (.const (.slice none 0 0)))⟩])
   (.seq
    (.seq
     (.ops [⟨some 5, none, (.move (.tmp 1))⟩,
       ⟨some 6, none, (.binOp .lss 3 (.tmp 5) (.const (.int .i64 0)) 3)⟩])
     (.cond (.tmp 6)
      (.ops [⟨some 7, none, (.makeInterface 9 (.const (.string ⟨#[99, 97, 110, 110, 111, 116, 32, 98, 101, 32, 110, 101, 103, 97, 116, 105, 118, 101]⟩)))⟩,
        ⟨none, none, (.panic (.tmp 7))⟩])
      .skip))
    (.seq
     (.seq
      (.ops [⟨some 8, none, (.move (.tmp 1))⟩,
        ⟨some 9, none, (.move (.tmp 0))⟩,
        ⟨some 10, none, (.call ⟨(.builtin .cap), #[(.tmp 9)], #[43]⟩)⟩,
        ⟨some 11, none, (.move (.tmp 0))⟩,
        ⟨some 12, none, (.call ⟨(.builtin .len), #[(.tmp 11)], #[43]⟩)⟩,
        ⟨some 13, none, (.binOp .sub 3 (.tmp 10) (.tmp 12) 3)⟩,
        ⟨some 14, none, (.binOp .sub 3 (.tmp 8) (.tmp 13) 3)⟩,
        ⟨some 1, none, (.assign (.tmp 14))⟩])
      (.seq
       (.ops [⟨some 15, none, (.move (.tmp 1))⟩,
         ⟨some 16, none, (.binOp .gtr 3 (.tmp 15) (.const (.int .i64 0)) 3)⟩])
       (.cond (.tmp 16)
        (.ops [⟨some 17, none, (.move (.tmp 0))⟩,
          ⟨some 18, none, (.move (.tmp 0))⟩,
          ⟨some 19, none, (.call ⟨(.builtin .cap), #[(.tmp 18)], #[43]⟩)⟩,
          ⟨some 20, none, (.slice 43 (.tmp 17) none (some (.tmp 19)) none)⟩,
          ⟨some 21, none, (.move (.tmp 1))⟩,
          ⟨some 22, none, (.call ⟨(.builtin .append), #[(.tmp 20), (.tmp 21)], #[43, 3]⟩)⟩,
          ⟨some 23, none, (.move (.tmp 0))⟩,
          ⟨some 24, none, (.call ⟨(.builtin .len), #[(.tmp 23)], #[43]⟩)⟩,
          ⟨some 25, none, (.slice 43 (.tmp 22) none (some (.tmp 24)) none)⟩,
          ⟨some 0, none, (.assign (.tmp 25))⟩])
        .skip)))
     (.seq
      (.ops [⟨some 26, none, (.move (.tmp 0))⟩,
        ⟨some 4, none, (.assign (.tmp 26))⟩])
      .ret))))
theorem w169 {args : Array Value} {H : AH} {Φ : Value → AH → Prop} (h : rW Try.prog k169 [] (fin Try.prog [(.tmp 4)] Φ) (tm0 args) H) : CallsA Try.prog 169 args H Φ :=
  CallsA.w k169 [(.tmp 4)] (fun _ => []) Try.func169 rfl rfl (by kernel_rfl) (by kernel_rfl) h

/-- slices.Concat[[]int,int] -/
def k114 : KC :=
  (.seq
   (.ops [⟨some 2, none, (.assign (.const (.slice none 0 0)))⟩])
   (.seq
    (.ops [⟨some 3, none, (.assign (.const (.int .i64 0)))⟩])
    (.seq
     (.seq
      (.ops [⟨some 9, none, (.move (.tmp 0))⟩,
        ⟨some 10, none, (.call ⟨(.builtin .len), #[(.tmp 9)], #[163]⟩)⟩,
        ⟨some 11, none, (.move (.const (.int .i64 0)))⟩])
      (.block 0
       (.loop
        (.seq
         (.ops [⟨some 12, none, (.binOp .lss 3 (.tmp 11) (.tmp 10) 3)⟩])
         (.seq
          (.cond (.tmp 12)
           .skip
           (.exit 0))
          (.seq
           (.block 1
            (.seq
             (.ops [⟨some 13, none, (.indexAddr 163 (.tmp 9) (.tmp 11))⟩,
               ⟨some 14, none, (.load 43 (.tmp 13))⟩,
               ⟨some 5, none, (.assign (.tmp 14))⟩])
             (.seq
              (.ops [⟨some 15, none, (.move (.tmp 3))⟩,
                ⟨some 16, none, (.move (.tmp 5))⟩,
                ⟨some 17, none, (.call ⟨(.builtin .len), #[(.tmp 16)], #[43]⟩)⟩,
                ⟨some 18, none, (.binOp .add 3 (.tmp 15) (.tmp 17) 3)⟩,
                ⟨some 3, none, (.assign (.tmp 18))⟩])
              (.seq
               (.ops [⟨some 19, none, (.move (.tmp 3))⟩,
                 ⟨some 20, none, (.binOp .lss 3 (.tmp 19) (.const (.int .i64 0)) 3)⟩])
               (.cond (.tmp 20)
                (.ops [⟨some 21, none, (.makeInterface 9 (.const (.string ⟨#[108, 101, 110, 32, 111, 117, 116, 32, 111, 102, 32, 114, 97, 110, 103, 101]⟩)))⟩,
                  ⟨none, none, (.panic (.tmp 21))⟩])
                .skip)))))
           (.ops [⟨some 22, none, (.binOp .add 3 (.tmp 11) (.const (.int .i64 1)) 3)⟩,
             ⟨some 11, none, (.move (.tmp 22))⟩])))))))
     (.seq
      (.ops [⟨some 23, none, (.move (.tmp 3))⟩,
        ⟨some 24, none, (.call ⟨(.value (.func 169)), #[(.const (.slice none 0 0)), (.tmp 23)], #[43, 3]⟩)⟩,
        ⟨some 6, none, (.assign (.tmp 24))⟩])
      (.seq
       (.seq
        (.ops [⟨some 25, none, (.move (.tmp 0))⟩,
          ⟨some 26, none, (.call ⟨(.builtin .len), #[(.tmp 25)], #[163]⟩)⟩,
          ⟨some 27, none, (.move (.const (.int .i64 0)))⟩])
        (.block 2
         (.loop
          (.seq
           (.ops [⟨some 28, none, (.binOp .lss 3 (.tmp 27) (.tmp 26) 3)⟩])
           (.seq
            (.cond (.tmp 28)
             .skip
             (.exit 2))
            (.seq
             (.block 3
              (.seq
               (.ops [⟨some 29, none, (.indexAddr 163 (.tmp 25) (.tmp 27))⟩,
                 ⟨some 30, none, (.load 43 (.tmp 29))⟩,
                 ⟨some 8, none, (.assign (.tmp 30))⟩])
               (.ops [⟨some 31, none, (.move (.tmp 6))⟩,
                 ⟨some 32, none, (.move (.tmp 8))⟩,
                 ⟨some 33, none, (.call ⟨(.builtin .append), #[(.tmp 31), (.tmp 32)], #[43, 43]⟩)⟩,
                 ⟨some 6, none, (.assign (.tmp 33))⟩])))
             (.ops [⟨some 34, none, (.binOp .add 3 (.tmp 27) (.const (.int .i64 1)) 3)⟩,
               ⟨some 27, none, (.move (.tmp 34))⟩])))))))
       (.seq
        (.ops [⟨some 35, none, (.move (.tmp 6))⟩,
          ⟨some 2, none, (.assign (.tmp 35))⟩])
        .ret))))))
theorem w114 {args : Array Value} {H : AH} {Φ : Value → AH → Prop} (h : rW Try.prog k114 [] (fin Try.prog [(.tmp 2)] Φ) (tm0 args) H) : CallsA Try.prog 114 args H Φ :=
  CallsA.w k114 [(.tmp 2)] (fun _ => []) Try.func114 rfl rfl (by kernel_rfl) (by kernel_rfl) h

/-- impl.hasSign -/
def k152 : KC :=
  (.seq
   (.ops [⟨some 4, none, (.assign (.const (.bool false)))⟩])
   (.seq
    (.seq
     (.ops [⟨some 5, none, (.assign (.const (.int .i64 0)))⟩])
     (.block 0
      (.loop
       (.seq
        (.seq
         (.ops [⟨some 6, none, (.move (.tmp 5))⟩,
           ⟨some 7, none, (.move (.tmp 0))⟩,
           ⟨some 8, none, (.call ⟨(.builtin .len), #[(.tmp 7)], #[9]⟩)⟩,
           ⟨some 9, none, (.binOp .lss 3 (.tmp 6) (.tmp 8) 3)⟩])
         (.cond (.tmp 9)
          .skip
          (.exit 0)))
        (.seq
         (.block 1
          (.seq
           (.ops [⟨some 12, none, (.move (.tmp 0))⟩,
             ⟨some 13, none, (.move (.tmp 5))⟩,
             ⟨some 14, none, (.index 9 (.tmp 12) (.tmp 13))⟩,
             ⟨some 15, none, (.convert 5 3 (.tmp 14))⟩,
             ⟨some 16, none, (.move (.tmp 1))⟩,
             ⟨some 17, none, (.binOp .eql 3 (.tmp 15) (.tmp 16) 3)⟩])
           (.cond (.tmp 17)
            (.seq
             (.ops [⟨some 4, none, (.assign (.const (.bool true)))⟩])
             .ret)
            .skip)))
         (.ops [⟨some 10, none, (.move (.tmp 5))⟩,
           ⟨some 11, none, (.binOp .add 3 (.tmp 10) (.const (.int .i64 1)) 3)⟩,
           ⟨some 5, none, (.assign (.tmp 11))⟩]))))))
    (.seq
     (.ops [⟨some 4, none, (.assign (.const (.bool false)))⟩])
     .ret)))
theorem w152 {args : Array Value} {H : AH} {Φ : Value → AH → Prop} (h : rW Try.prog k152 [] (fin Try.prog [(.tmp 4)] Φ) (tm0 args) H) : CallsA Try.prog 152 args H Φ :=
  CallsA.w k152 [(.tmp 4)] (fun _ => []) Try.func152 rfl rfl (by kernel_rfl) (by kernel_rfl) h

/-- impl.twoSign -/
def k147 : KC :=
  (.seq
   (.ops [⟨some 2, none, (.assign (.const (.bool false)))⟩])
   (.seq
    (.ops [⟨some 3, none, (.move (.tmp 0))⟩,
      ⟨some 4, none, (.call ⟨(.value (.func 152)), #[(.const (.string ⟨#[43, 45, 42, 37, 124, 38, 94, 61, 60, 62]⟩)), (.tmp 3)], #[9, 3]⟩)⟩,
      ⟨some 2, none, (.assign (.tmp 4))⟩])
    .ret))
theorem w147 {args : Array Value} {H : AH} {Φ : Value → AH → Prop} (h : rW Try.prog k147 [] (fin Try.prog [(.tmp 2)] Φ) (tm0 args) H) : CallsA Try.prog 147 args H Φ :=
  CallsA.w k147 [(.tmp 2)] (fun _ => []) Try.func147 rfl rfl (by kernel_rfl) (by kernel_rfl) h

/-- impl.ShapeOk -/
def k148 : KC :=
  (.seq
   (.ops [⟨some 2, none, (.assign (.const (.bool false)))⟩])
   (.seq
    (.ops [⟨some 3, none, (.move (.tmp 0))⟩,
      ⟨some 4, none, (.call ⟨(.value (.func 117)), #[(.tmp 3)], #[43]⟩)⟩,
      ⟨some 5, none, (.binOp .geq 3 (.tmp 4) (.const (.int .i64 0)) 3)⟩,
      ⟨some 2, none, (.assign (.tmp 5))⟩])
    .ret))
theorem w148 {args : Array Value} {H : AH} {Φ : Value → AH → Prop} (h : rW Try.prog k148 [] (fin Try.prog [(.tmp 2)] Φ) (tm0 args) H) : CallsA Try.prog 148 args H Φ :=
  CallsA.w k148 [(.tmp 2)] (fun _ => []) Try.func148 rfl rfl (by kernel_rfl) (by kernel_rfl) h

/-- impl.truth -/
def k97 : KC :=
  (.seq
   (.ops [⟨some 2, none, (.assign (.const (.int .i64 0)))⟩])
   (.seq
    (.seq
     (.ops [⟨some 3, none, (.move (.tmp 0))⟩])
     (.cond (.tmp 3)
      (.seq
       (.ops [⟨some 2, none, (.assign (.const (.int .i64 1)))⟩])
       .ret)
      .skip))
    (.seq
     (.ops [⟨some 2, none, (.assign (.const (.int .i64 0)))⟩])
     .ret)))
theorem w97 {args : Array Value} {H : AH} {Φ : Value → AH → Prop} (h : rW Try.prog k97 [] (fin Try.prog [(.tmp 2)] Φ) (tm0 args) H) : CallsA Try.prog 97 args H Φ :=
  CallsA.w k97 [(.tmp 2)] (fun _ => []) Try.func97 rfl rfl (by kernel_rfl) (by kernel_rfl) h

/-- impl.product -/
def k181 : KC :=
  (.seq
   (.ops [⟨some 4, none, (.assign (.const (.int .i64 0)))⟩,
     ⟨some 5, none, (.assign (.const (.bool false)))⟩])
   (.seq
    (.seq
     (.ops [⟨some 6, none, (.move (.tmp 0))⟩,
       ⟨some 7, none, (.binOp .neq 3 (.tmp 6) (.const (.int .i64 0)) 3)⟩,
       ⟨some 8, none, (.move (.tmp 7))⟩,
       ⟨some 9, (some (8, true)), (.move (.tmp 1))⟩,
       ⟨some 10, (some (8, true)), (.move (.tmp 1))⟩,
       ⟨some 11, (some (8, true)), (.unOp .neg 3 (.tmp 10))⟩,
       ⟨some 12, (some (8, true)), (.call ⟨(.builtin .max), #[(.tmp 9), (.tmp 11)], #[3, 3]⟩)⟩,
       ⟨some 13, (some (8, true)), (.move (.tmp 0))⟩,
       ⟨some 14, (some (8, true)), (.move (.tmp 0))⟩,
       ⟨some 15, (some (8, true)), (.unOp .neg 3 (.tmp 14))⟩,
       ⟨some 16, (some (8, true)), (.call ⟨(.builtin .max), #[(.tmp 13), (.tmp 15)], #[3, 3]⟩)⟩,
       ⟨some 17, (some (8, true)), (.binOp .quo 3 (.const (.int .i64 1000000000000)) (.tmp 16) 3)⟩,
       ⟨some 18, (some (8, true)), (.binOp .gtr 3 (.tmp 12) (.tmp 17) 3)⟩,
       ⟨some 19, none, (.pick (.tmp 8) (.tmp 18) (.const (.bool false)))⟩])
     (.cond (.tmp 19)
      (.seq
       (.ops [⟨some 4, none, (.assign (.const (.int .i64 0)))⟩,
         ⟨some 5, none, (.assign (.const (.bool false)))⟩])
       .ret)
      .skip))
    (.seq
     (.ops [⟨some 20, none, (.move (.tmp 0))⟩,
       ⟨some 21, none, (.move (.tmp 1))⟩,
       ⟨some 22, none, (.binOp .mul 3 (.tmp 20) (.tmp 21) 3)⟩,
       ⟨some 4, none, (.assign (.tmp 22))⟩,
       ⟨some 5, none, (.assign (.const (.bool true)))⟩])
     .ret)))
theorem w181 {args : Array Value} {H : AH} {Φ : Value → AH → Prop} (h : rW Try.prog k181 [] (fin Try.prog [(.tmp 4), (.tmp 5)] Φ) (tm0 args) H) : CallsA Try.prog 181 args H Φ :=
  CallsA.w k181 [(.tmp 4), (.tmp 5)] (fun _ => []) Try.func181 rfl rfl (by kernel_rfl) (by kernel_rfl) h

/-- impl.floor -/
def k182 : KC :=
  (.seq
   (.ops [⟨some 4, none, (.assign (.const (.int .i64 0)))⟩])
   (.seq
    (.ops [⟨some 6, none, (.move (.tmp 0))⟩,
      ⟨some 7, none, (.move (.tmp 1))⟩,
      ⟨some 8, none, (.binOp .quo 3 (.tmp 6) (.tmp 7) 3)⟩,
      ⟨some 5, none, (.assign (.tmp 8))⟩])
    (.seq
     (.seq
      (.ops [⟨some 9, none, (.move (.tmp 0))⟩,
        ⟨some 10, none, (.move (.tmp 1))⟩,
        ⟨some 11, none, (.binOp .rem 3 (.tmp 9) (.tmp 10) 3)⟩,
        ⟨some 12, none, (.binOp .neq 3 (.tmp 11) (.const (.int .i64 0)) 3)⟩,
        ⟨some 13, none, (.move (.tmp 12))⟩,
        ⟨some 14, (some (13, true)), (.move (.tmp 0))⟩,
        ⟨some 15, (some (13, true)), (.binOp .lss 3 (.tmp 14) (.const (.int .i64 0)) 3)⟩,
        ⟨some 16, (some (13, true)), (.move (.tmp 1))⟩,
        ⟨some 17, (some (13, true)), (.binOp .lss 3 (.tmp 16) (.const (.int .i64 0)) 3)⟩,
        ⟨some 18, (some (13, true)), (.binOp .neq 4 (.tmp 15) (.tmp 17) 4)⟩,
        ⟨some 19, none, (.pick (.tmp 13) (.tmp 18) (.const (.bool false)))⟩])
      (.cond (.tmp 19)
       (.ops [⟨some 20, none, (.move (.tmp 5))⟩,
         ⟨some 21, none, (.binOp .sub 3 (.tmp 20) (.const (.int .i64 1)) 3)⟩,
         ⟨some 5, none, (.assign (.tmp 21))⟩])
       .skip))
     (.seq
      (.ops [⟨some 22, none, (.move (.tmp 5))⟩,
        ⟨some 4, none, (.assign (.tmp 22))⟩])
      .ret))))
theorem w182 {args : Array Value} {H : AH} {Φ : Value → AH → Prop} (h : rW Try.prog k182 [] (fin Try.prog [(.tmp 4)] Φ) (tm0 args) H) : CallsA Try.prog 182 args H Φ :=
  CallsA.w k182 [(.tmp 4)] (fun _ => []) Try.func182 rfl rfl (by kernel_rfl) (by kernel_rfl) h

/-- impl.Two -/
def k149 : KC :=
  (.seq
   (.ops [⟨some 6, none, (.assign (.const (.int .i64 0)))⟩,
     ⟨some 7, none, (.assign (.const (.int .i64 0)))⟩])
   (.seq
    (.seq
     (.ops [⟨some 10, none, (.move (.tmp 0))⟩,
       ⟨some 11, none, (.call ⟨(.value (.func 147)), #[(.tmp 10)], #[3]⟩)⟩,
       ⟨some 12, none, (.unOp .not 4 (.tmp 11))⟩,
       ⟨some 13, none, (.move (.tmp 12))⟩,
       ⟨some 14, (some (13, false)), (.move (.tmp 1))⟩,
       ⟨some 15, (some (13, false)), (.call ⟨(.value (.func 120)), #[(.tmp 14)], #[3]⟩)⟩,
       ⟨some 16, (some (13, false)), (.unOp .not 4 (.tmp 15))⟩,
       ⟨some 17, none, (.pick (.tmp 13) (.const (.bool true)) (.tmp 16))⟩,
       ⟨some 18, none, (.move (.tmp 17))⟩,
       ⟨some 19, (some (18, false)), (.move (.tmp 2))⟩,
       ⟨some 20, (some (18, false)), (.call ⟨(.value (.func 120)), #[(.tmp 19)], #[3]⟩)⟩,
       ⟨some 21, (some (18, false)), (.unOp .not 4 (.tmp 20))⟩,
       ⟨some 22, none, (.pick (.tmp 18) (.const (.bool true)) (.tmp 21))⟩])
     (.cond (.tmp 22)
      (.seq
       (.ops [⟨some 6, none, (.assign (.const (.int .i64 0)))⟩,
         ⟨some 7, none, (.assign (.const (.int .i64 1)))⟩])
       .ret)
      .skip))
    (.seq
     (.ops [⟨some 8, none, (.assign (.const (.int .i64 0)))⟩,
       ⟨some 9, none, (.assign (.const (.bool true)))⟩])
     (.seq
      (.seq
       (.ops [⟨some 23, none, (.move (.tmp 0))⟩])
       (.block 0
        (.seq
         (.ops [⟨some 29, none, (.binOp .eql 3 (.tmp 23) (.const (.int .i64 43)) 3)⟩,
           ⟨some 28, none, (.assign (.tmp 29))⟩])
         (.cond (.tmp 28)
          (.ops [⟨some 30, none, (.move (.tmp 1))⟩,
            ⟨some 31, none, (.move (.tmp 2))⟩,
            ⟨some 32, none, (.binOp .add 3 (.tmp 30) (.tmp 31) 3)⟩,
            ⟨some 8, none, (.assign (.tmp 32))⟩])
          (.seq
           (.ops [⟨some 34, none, (.binOp .eql 3 (.tmp 23) (.const (.int .i64 45)) 3)⟩,
             ⟨some 33, none, (.assign (.tmp 34))⟩])
           (.cond (.tmp 33)
            (.ops [⟨some 35, none, (.move (.tmp 1))⟩,
              ⟨some 36, none, (.move (.tmp 2))⟩,
              ⟨some 37, none, (.binOp .sub 3 (.tmp 35) (.tmp 36) 3)⟩,
              ⟨some 8, none, (.assign (.tmp 37))⟩])
            (.seq
             (.ops [⟨some 39, none, (.binOp .eql 3 (.tmp 23) (.const (.int .i64 42)) 3)⟩,
               ⟨some 38, none, (.assign (.tmp 39))⟩])
             (.cond (.tmp 38)
              (.ops [⟨some 41, none, (.move (.tmp 1))⟩,
                ⟨some 42, none, (.move (.tmp 2))⟩,
                ⟨some 43, none, (.call ⟨(.value (.func 181)), #[(.tmp 41), (.tmp 42)], #[3, 3]⟩)⟩,
                ⟨some 40, none, (.move (.tmp 43))⟩,
                ⟨some 44, none, (.extract (.tmp 40) 0)⟩,
                ⟨some 45, none, (.extract (.tmp 40) 1)⟩,
                ⟨some 8, none, (.assign (.tmp 44))⟩,
                ⟨some 9, none, (.assign (.tmp 45))⟩])
              (.seq
               (.ops [⟨some 47, none, (.binOp .eql 3 (.tmp 23) (.const (.int .i64 37)) 3)⟩,
                 ⟨some 46, none, (.assign (.tmp 47))⟩])
               (.cond (.tmp 46)
                (.seq
                 (.seq
                  (.ops [⟨some 48, none, (.move (.tmp 2))⟩,
                    ⟨some 49, none, (.binOp .eql 3 (.tmp 48) (.const (.int .i64 0)) 3)⟩])
                  (.cond (.tmp 49)
                   (.seq
                    (.ops [⟨some 6, none, (.assign (.const (.int .i64 0)))⟩,
                      ⟨some 7, none, (.assign (.const (.int .i64 2)))⟩])
                    .ret)
                   .skip))
                 (.ops [⟨some 50, none, (.move (.tmp 1))⟩,
                   ⟨some 51, none, (.move (.tmp 2))⟩,
                   ⟨some 52, none, (.call ⟨(.value (.func 182)), #[(.tmp 50), (.tmp 51)], #[3, 3]⟩)⟩,
                   ⟨some 8, none, (.assign (.tmp 52))⟩]))
                (.seq
                 (.ops [⟨some 54, none, (.binOp .eql 3 (.tmp 23) (.const (.int .i64 124)) 3)⟩,
                   ⟨some 53, none, (.assign (.tmp 54))⟩])
                 (.cond (.tmp 53)
                  (.seq
                   (.ops [⟨some 55, none, (.move (.tmp 2))⟩,
                     ⟨some 8, none, (.assign (.tmp 55))⟩])
                   (.seq
                    (.ops [⟨some 56, none, (.move (.tmp 1))⟩,
                      ⟨some 57, none, (.binOp .neq 3 (.tmp 56) (.const (.int .i64 0)) 3)⟩])
                    (.cond (.tmp 57)
                     (.ops [⟨some 58, none, (.move (.tmp 2))⟩,
                       ⟨some 59, none, (.move (.tmp 1))⟩,
                       ⟨some 60, none, (.move (.tmp 2))⟩,
                       ⟨some 61, none, (.move (.tmp 1))⟩,
                       ⟨some 62, none, (.call ⟨(.value (.func 182)), #[(.tmp 60), (.tmp 61)], #[3, 3]⟩)⟩,
                       ⟨some 63, none, (.binOp .mul 3 (.tmp 59) (.tmp 62) 3)⟩,
                       ⟨some 64, none, (.binOp .sub 3 (.tmp 58) (.tmp 63) 3)⟩,
                       ⟨some 8, none, (.assign (.tmp 64))⟩])
                     .skip)))
                  (.seq
                   (.ops [⟨some 66, none, (.binOp .eql 3 (.tmp 23) (.const (.int .i64 38)) 3)⟩,
                     ⟨some 65, none, (.assign (.tmp 66))⟩])
                   (.cond (.tmp 65)
                    (.ops [⟨some 67, none, (.move (.tmp 1))⟩,
                      ⟨some 68, none, (.move (.tmp 2))⟩,
                      ⟨some 69, none, (.call ⟨(.builtin .min), #[(.tmp 67), (.tmp 68)], #[3, 3]⟩)⟩,
                      ⟨some 8, none, (.assign (.tmp 69))⟩])
                    (.seq
                     (.ops [⟨some 71, none, (.binOp .eql 3 (.tmp 23) (.const (.int .i64 94)) 3)⟩,
                       ⟨some 70, none, (.assign (.tmp 71))⟩])
                     (.cond (.tmp 70)
                      (.ops [⟨some 72, none, (.move (.tmp 1))⟩,
                        ⟨some 73, none, (.move (.tmp 2))⟩,
                        ⟨some 74, none, (.call ⟨(.builtin .max), #[(.tmp 72), (.tmp 73)], #[3, 3]⟩)⟩,
                        ⟨some 8, none, (.assign (.tmp 74))⟩])
                      (.seq
                       (.ops [⟨some 76, none, (.binOp .eql 3 (.tmp 23) (.const (.int .i64 61)) 3)⟩,
                         ⟨some 75, none, (.assign (.tmp 76))⟩])
                       (.cond (.tmp 75)
                        (.ops [⟨some 77, none, (.move (.tmp 1))⟩,
                          ⟨some 78, none, (.move (.tmp 2))⟩,
                          ⟨some 79, none, (.binOp .eql 3 (.tmp 77) (.tmp 78) 3)⟩,
                          ⟨some 80, none, (.call ⟨(.value (.func 97)), #[(.tmp 79)], #[4]⟩)⟩,
                          ⟨some 8, none, (.assign (.tmp 80))⟩])
                        (.seq
                         (.ops [⟨some 82, none, (.binOp .eql 3 (.tmp 23) (.const (.int .i64 60)) 3)⟩,
                           ⟨some 81, none, (.assign (.tmp 82))⟩])
                         (.cond (.tmp 81)
                          (.ops [⟨some 83, none, (.move (.tmp 1))⟩,
                            ⟨some 84, none, (.move (.tmp 2))⟩,
                            ⟨some 85, none, (.binOp .lss 3 (.tmp 83) (.tmp 84) 3)⟩,
                            ⟨some 86, none, (.call ⟨(.value (.func 97)), #[(.tmp 85)], #[4]⟩)⟩,
                            ⟨some 8, none, (.assign (.tmp 86))⟩])
                          (.ops [⟨some 24, none, (.move (.tmp 1))⟩,
                            ⟨some 25, none, (.move (.tmp 2))⟩,
                            ⟨some 26, none, (.binOp .gtr 3 (.tmp 24) (.tmp 25) 3)⟩,
                            ⟨some 27, none, (.call ⟨(.value (.func 97)), #[(.tmp 26)], #[4]⟩)⟩,
                            ⟨some 8, none, (.assign (.tmp 27))⟩])))))))))))))))))))))
      (.seq
       (.seq
        (.ops [⟨some 87, none, (.move (.tmp 9))⟩,
          ⟨some 88, none, (.unOp .not 4 (.tmp 87))⟩,
          ⟨some 89, none, (.move (.tmp 88))⟩,
          ⟨some 90, (some (89, false)), (.move (.tmp 8))⟩,
          ⟨some 91, (some (89, false)), (.call ⟨(.value (.func 120)), #[(.tmp 90)], #[3]⟩)⟩,
          ⟨some 92, (some (89, false)), (.unOp .not 4 (.tmp 91))⟩,
          ⟨some 93, none, (.pick (.tmp 89) (.const (.bool true)) (.tmp 92))⟩])
        (.cond (.tmp 93)
         (.seq
          (.ops [⟨some 6, none, (.assign (.const (.int .i64 0)))⟩,
            ⟨some 7, none, (.assign (.const (.int .i64 6)))⟩])
          .ret)
         .skip))
       (.seq
        (.ops [⟨some 94, none, (.move (.tmp 8))⟩,
          ⟨some 6, none, (.assign (.tmp 94))⟩,
          ⟨some 7, none, (.assign (.const (.int .i64 0)))⟩])
        .ret))))))
theorem w149 {args : Array Value} {H : AH} {Φ : Value → AH → Prop} (h : rW Try.prog k149 [] (fin Try.prog [(.tmp 6), (.tmp 7)] Φ) (tm0 args) H) : CallsA Try.prog 149 args H Φ :=
  CallsA.w k149 [(.tmp 6), (.tmp 7)] (fun _ => []) Try.func149 rfl rfl (by kernel_rfl) (by kernel_rfl) h

/-- impl.Outer -/
def k71 : KC :=
  (.seq
   (.ops [⟨some 4, none, (.box 45 (.tmp 1))⟩,
     ⟨some 5, none, (.box 45 (.tmp 2))⟩,
     ⟨some 6, none, (.alloc 45)⟩,
     ⟨some 7, none, (.assign (.const (.int .i64 0)))⟩])
   (.seq
    (.ops [⟨some 15, none, (.fieldAddr 45 (.tmp 4) 0)⟩,
      ⟨some 16, none, (.load 43 (.tmp 15))⟩,
      ⟨some 17, none, (.fieldAddr 45 (.tmp 5) 0)⟩,
      ⟨some 18, none, (.load 43 (.tmp 17))⟩,
      ⟨some 19, none, (.buildSlice 163 2 #[(0, (.tmp 16)), (1, (.tmp 18))])⟩,
      ⟨some 20, none, (.call ⟨(.value (.func 114)), #[(.tmp 19)], #[163]⟩)⟩,
      ⟨some 21, none, (.build 45 #[(0, (.tmp 20))])⟩,
      ⟨some 8, none, (.alloc 45)⟩,
      ⟨none, none, (.store 45 (.tmp 8) (.tmp 21))⟩])
    (.seq
     (.block 0
      (.seq
       (.ops [⟨some 23, none, (.load 45 (.tmp 4))⟩,
         ⟨some 24, none, (.call ⟨(.value (.func 47)), #[(.tmp 23)], #[45]⟩)⟩,
         ⟨some 25, none, (.unOp .not 4 (.tmp 24))⟩,
         ⟨some 26, none, (.move (.tmp 25))⟩,
         ⟨some 27, (some (26, false)), (.load 45 (.tmp 5))⟩,
         ⟨some 28, (some (26, false)), (.call ⟨(.value (.func 47)), #[(.tmp 27)], #[45]⟩)⟩,
         ⟨some 29, (some (26, false)), (.unOp .not 4 (.tmp 28))⟩,
         ⟨some 30, none, (.pick (.tmp 26) (.const (.bool true)) (.tmp 29))⟩,
         ⟨some 31, none, (.move (.tmp 30))⟩,
         ⟨some 32, (some (31, false)), (.move (.tmp 0))⟩,
         ⟨some 33, (some (31, false)), (.call ⟨(.value (.func 147)), #[(.tmp 32)], #[3]⟩)⟩,
         ⟨some 34, (some (31, false)), (.unOp .not 4 (.tmp 33))⟩,
         ⟨some 35, none, (.pick (.tmp 31) (.const (.bool true)) (.tmp 34))⟩,
         ⟨some 22, none, (.assign (.tmp 35))⟩])
       (.cond (.tmp 22)
        (.seq
         (.ops [⟨some 36, none, (.build 45 #[])⟩,
           ⟨none, none, (.store 45 (.tmp 6) (.tmp 36))⟩,
           ⟨some 7, none, (.assign (.const (.int .i64 1)))⟩])
         .ret)
        (.seq
         (.ops [⟨some 38, none, (.fieldAddr 45 (.tmp 8) 0)⟩,
           ⟨some 39, none, (.load 43 (.tmp 38))⟩,
           ⟨some 40, none, (.call ⟨(.builtin .len), #[(.tmp 39)], #[43]⟩)⟩,
           ⟨some 41, none, (.binOp .gtr 3 (.tmp 40) (.const (.int .i64 3)) 3)⟩,
           ⟨some 37, none, (.assign (.tmp 41))⟩])
         (.cond (.tmp 37)
          (.seq
           (.ops [⟨some 42, none, (.build 45 #[])⟩,
             ⟨none, none, (.store 45 (.tmp 6) (.tmp 42))⟩,
             ⟨some 7, none, (.assign (.const (.int .i64 4)))⟩])
           .ret)
          (.seq
           (.ops [⟨some 44, none, (.fieldAddr 45 (.tmp 8) 0)⟩,
             ⟨some 45, none, (.load 43 (.tmp 44))⟩,
             ⟨some 46, none, (.call ⟨(.value (.func 148)), #[(.tmp 45)], #[43]⟩)⟩,
             ⟨some 47, none, (.unOp .not 4 (.tmp 46))⟩,
             ⟨some 43, none, (.assign (.tmp 47))⟩])
           (.cond (.tmp 43)
            (.seq
             (.ops [⟨some 48, none, (.build 45 #[])⟩,
               ⟨none, none, (.store 45 (.tmp 6) (.tmp 48))⟩,
               ⟨some 7, none, (.assign (.const (.int .i64 6)))⟩])
             .ret)
            .skip)))))))
     (.seq
      (.seq
       (.ops [⟨some 49, none, (.fieldAddr 45 (.tmp 4) 1)⟩,
         ⟨some 50, none, (.load 43 (.tmp 49))⟩,
         ⟨some 51, none, (.call ⟨(.builtin .len), #[(.tmp 50)], #[43]⟩)⟩,
         ⟨some 52, none, (.move (.const (.int .i64 0)))⟩])
       (.block 1
        (.loop
         (.seq
          (.ops [⟨some 53, none, (.binOp .lss 3 (.tmp 52) (.tmp 51) 3)⟩])
          (.seq
           (.cond (.tmp 53)
            .skip
            (.exit 1))
           (.seq
            (.block 2
             (.seq
              (.ops [⟨some 54, none, (.indexAddr 43 (.tmp 50) (.tmp 52))⟩,
                ⟨some 55, none, (.load 3 (.tmp 54))⟩,
                ⟨some 10, none, (.assign (.tmp 55))⟩])
              (.seq
               (.ops [⟨some 56, none, (.fieldAddr 45 (.tmp 5) 1)⟩,
                 ⟨some 57, none, (.load 43 (.tmp 56))⟩,
                 ⟨some 58, none, (.call ⟨(.builtin .len), #[(.tmp 57)], #[43]⟩)⟩,
                 ⟨some 59, none, (.move (.const (.int .i64 0)))⟩])
               (.block 3
                (.loop
                 (.seq
                  (.ops [⟨some 60, none, (.binOp .lss 3 (.tmp 59) (.tmp 58) 3)⟩])
                  (.seq
                   (.cond (.tmp 60)
                    .skip
                    (.exit 3))
                   (.seq
                    (.block 4
                     (.seq
                      (.ops [⟨some 61, none, (.indexAddr 43 (.tmp 57) (.tmp 59))⟩,
                        ⟨some 62, none, (.load 3 (.tmp 61))⟩,
                        ⟨some 12, none, (.assign (.tmp 62))⟩])
                      (.seq
                       (.ops [⟨some 64, none, (.move (.tmp 0))⟩,
                         ⟨some 65, none, (.move (.tmp 10))⟩,
                         ⟨some 66, none, (.move (.tmp 12))⟩,
                         ⟨some 67, none, (.call ⟨(.value (.func 149)), #[(.tmp 64), (.tmp 65), (.tmp 66)], #[3, 3, 3]⟩)⟩,
                         ⟨some 63, none, (.move (.tmp 67))⟩,
                         ⟨some 68, none, (.extract (.tmp 63) 0)⟩,
                         ⟨some 69, none, (.extract (.tmp 63) 1)⟩,
                         ⟨some 13, none, (.assign (.tmp 68))⟩,
                         ⟨some 14, none, (.assign (.tmp 69))⟩])
                       (.seq
                        (.seq
                         (.ops [⟨some 70, none, (.move (.tmp 14))⟩,
                           ⟨some 71, none, (.binOp .neq 3 (.tmp 70) (.const (.int .i64 0)) 3)⟩])
                         (.cond (.tmp 71)
                          (.seq
                           (.ops [⟨some 72, none, (.build 45 #[])⟩,
                             ⟨some 73, none, (.move (.tmp 14))⟩,
                             ⟨none, none, (.store 45 (.tmp 6) (.tmp 72))⟩,
                             ⟨some 7, none, (.assign (.tmp 73))⟩])
                           .ret)
                          .skip))
                        (.ops [⟨some 74, none, (.fieldAddr 45 (.tmp 8) 1)⟩,
                          ⟨some 75, none, (.load 43 (.tmp 74))⟩,
                          ⟨some 76, none, (.move (.tmp 13))⟩,
                          ⟨some 77, none, (.buildSlice 43 1 #[(0, (.tmp 76))])⟩,
                          ⟨some 78, none, (.call ⟨(.builtin .append), #[(.tmp 75), (.tmp 77)], #[43, 43]⟩)⟩,
                          ⟨some 79, none, (.fieldAddr 45 (.tmp 8) 1)⟩,
                          ⟨none, none, (.store 43 (.tmp 79) (.tmp 78))⟩])))))
                    (.ops [⟨some 80, none, (.binOp .add 3 (.tmp 59) (.const (.int .i64 1)) 3)⟩,
                      ⟨some 59, none, (.move (.tmp 80))⟩])))))))))
            (.ops [⟨some 81, none, (.binOp .add 3 (.tmp 52) (.const (.int .i64 1)) 3)⟩,
              ⟨some 52, none, (.move (.tmp 81))⟩])))))))
      (.seq
       (.ops [⟨some 82, none, (.load 45 (.tmp 8))⟩,
         ⟨none, none, (.store 45 (.tmp 6) (.tmp 82))⟩,
         ⟨some 7, none, (.assign (.const (.int .i64 0)))⟩])
       .ret)))))
theorem w71 {args : Array Value} {H : AH} {Φ : Value → AH → Prop} (h : rW Try.prog k71 [] (fin Try.prog [(.cell 6 45), (.tmp 7)] Φ) (tm0 args) H) : CallsA Try.prog 71 args H Φ :=
  CallsA.w k71 [(.cell 6 45), (.tmp 7)] (fun _ => []) Try.func71 rfl rfl (by kernel_rfl) (by kernel_rfl) h

/-- laws.FnExactOuter -/
def k14 : KC :=
  (.seq
   (.ops [⟨some 4, none, (.box 77 (.tmp 1))⟩,
     ⟨some 5, none, (.box 77 (.tmp 2))⟩,
     ⟨some 6, none, (.assign (.const (.bool false)))⟩])
   (.seq
    (.ops [⟨some 7, none, (.assign (.const (.int .i64 1048576)))⟩])
    (.seq
     (.ops [⟨some 19, none, (.load 77 (.tmp 4))⟩,
       ⟨some 20, none, (.move (.tmp 7))⟩,
       ⟨some 21, none, (.call ⟨(.value (.func 63)), #[(.tmp 19), (.tmp 20)], #[77, 3]⟩)⟩,
       ⟨some 7, none, (.assign (.tmp 21))⟩])
     (.seq
      (.seq
       (.ops [⟨some 22, none, (.move (.tmp 7))⟩,
         ⟨some 23, none, (.binOp .lss 3 (.tmp 22) (.const (.int .i64 0)) 3)⟩])
       (.cond (.tmp 23)
        (.seq
         (.ops [⟨some 6, none, (.assign (.const (.bool true)))⟩])
         .ret)
        .skip))
      (.seq
       (.ops [⟨some 24, none, (.load 77 (.tmp 5))⟩,
         ⟨some 25, none, (.move (.tmp 7))⟩,
         ⟨some 26, none, (.call ⟨(.value (.func 63)), #[(.tmp 24), (.tmp 25)], #[77, 3]⟩)⟩,
         ⟨some 7, none, (.assign (.tmp 26))⟩])
       (.seq
        (.seq
         (.ops [⟨some 27, none, (.move (.tmp 7))⟩,
           ⟨some 28, none, (.binOp .lss 3 (.tmp 27) (.const (.int .i64 0)) 3)⟩])
         (.cond (.tmp 28)
          (.seq
           (.ops [⟨some 6, none, (.assign (.const (.bool true)))⟩])
           .ret)
          .skip))
        (.seq
         (.draw #[] [(1, 0), (3, 0), (3, 3)]
           [⟨some 30, none, (.move (.tmp 0))⟩,
           ⟨some 31, none, (.load 77 (.tmp 4))⟩,
           ⟨some 32, none, (.call ⟨(.value (.func 65)), #[(.tmp 31)], #[77]⟩)⟩,
           ⟨some 33, none, (.load 77 (.tmp 5))⟩,
           ⟨some 34, none, (.call ⟨(.value (.func 65)), #[(.tmp 33)], #[77]⟩)⟩,
           ⟨some 35, none, (.call ⟨(.value (.func 70)), #[(.tmp 30), (.tmp 32), (.tmp 34)], #[3, 45, 45]⟩)⟩,
           ⟨some 29, none, (.move (.tmp 35))⟩,
           ⟨some 36, none, (.extract (.tmp 29) 0)⟩,
           ⟨some 37, none, (.extract (.tmp 29) 1)⟩,
           ⟨some 8, none, (.alloc 45)⟩,
           ⟨none, none, (.store 45 (.tmp 8) (.tmp 36))⟩,
           ⟨some 9, none, (.assign (.tmp 37))⟩])
         (.seq
          (.ops [⟨some 38, none, (.load 77 (.tmp 4))⟩,
            ⟨some 39, none, (.call ⟨(.value (.func 65)), #[(.tmp 38)], #[77]⟩)⟩,
            ⟨some 10, none, (.alloc 45)⟩,
            ⟨none, none, (.store 45 (.tmp 10) (.tmp 39))⟩])
          (.seq
           (.ops [⟨some 40, none, (.load 77 (.tmp 5))⟩,
             ⟨some 41, none, (.call ⟨(.value (.func 65)), #[(.tmp 40)], #[77]⟩)⟩,
             ⟨some 11, none, (.alloc 45)⟩,
             ⟨none, none, (.store 45 (.tmp 11) (.tmp 41))⟩])
           (.seq
            (.ops [⟨some 43, none, (.move (.tmp 0))⟩,
              ⟨some 44, none, (.load 45 (.tmp 10))⟩,
              ⟨some 45, none, (.load 45 (.tmp 11))⟩,
              ⟨some 46, none, (.call ⟨(.value (.func 71)), #[(.tmp 43), (.tmp 44), (.tmp 45)], #[3, 45, 45]⟩)⟩,
              ⟨some 42, none, (.move (.tmp 46))⟩,
              ⟨some 47, none, (.extract (.tmp 42) 0)⟩,
              ⟨some 48, none, (.extract (.tmp 42) 1)⟩,
              ⟨some 12, none, (.alloc 45)⟩,
              ⟨none, none, (.store 45 (.tmp 12) (.tmp 47))⟩,
              ⟨some 13, none, (.assign (.tmp 48))⟩])
            (.seq
             (.seq
              (.ops [⟨some 49, none, (.load 45 (.tmp 12))⟩,
                ⟨some 50, none, (.load 45 (.tmp 8))⟩,
                ⟨some 51, none, (.call ⟨(.value (.func 67)), #[(.tmp 49), (.tmp 50)], #[45, 45]⟩)⟩,
                ⟨some 52, none, (.unOp .not 4 (.tmp 51))⟩,
                ⟨some 53, none, (.move (.tmp 52))⟩,
                ⟨some 54, (some (53, false)), (.move (.tmp 13))⟩,
                ⟨some 55, (some (53, false)), (.move (.tmp 9))⟩,
                ⟨some 56, (some (53, false)), (.binOp .neq 3 (.tmp 54) (.tmp 55) 3)⟩,
                ⟨some 57, none, (.pick (.tmp 53) (.const (.bool true)) (.tmp 56))⟩])
              (.cond (.tmp 57)
               (.seq
                (.ops [⟨some 6, none, (.assign (.const (.bool false)))⟩])
                .ret)
               .skip))
             (.seq
              (.seq
               (.draw #[] [(0, 0), (0, 3), (1, 0)]
                 [⟨some 58, none, (.load 45 (.tmp 10))⟩,
                 ⟨some 59, none, (.load 77 (.tmp 4))⟩,
                 ⟨some 60, none, (.call ⟨(.value (.func 65)), #[(.tmp 59)], #[77]⟩)⟩,
                 ⟨some 61, none, (.call ⟨(.value (.func 67)), #[(.tmp 58), (.tmp 60)], #[45, 45]⟩)⟩,
                 ⟨some 62, none, (.unOp .not 4 (.tmp 61))⟩])
               (.cond (.tmp 62)
                (.seq
                 (.ops [⟨some 6, none, (.assign (.const (.bool false)))⟩])
                 .ret)
                .skip))
              (.seq
               (.seq
                (.draw #[] [(0, 0), (0, 3), (1, 0)]
                  [⟨some 63, none, (.load 45 (.tmp 11))⟩,
                  ⟨some 64, none, (.load 77 (.tmp 5))⟩,
                  ⟨some 65, none, (.call ⟨(.value (.func 65)), #[(.tmp 64)], #[77]⟩)⟩,
                  ⟨some 66, none, (.call ⟨(.value (.func 67)), #[(.tmp 63), (.tmp 65)], #[45, 45]⟩)⟩,
                  ⟨some 67, none, (.unOp .not 4 (.tmp 66))⟩])
                (.cond (.tmp 67)
                 (.seq
                  (.ops [⟨some 6, none, (.assign (.const (.bool false)))⟩])
                  .ret)
                 .skip))
               (.seq
                (.ops [⟨some 14, none, (.assign (.const (.int .i64 1)))⟩])
                (.seq
                 (.ops [⟨some 68, none, (.load 45 (.tmp 10))⟩,
                   ⟨some 69, none, (.move (.tmp 14))⟩,
                   ⟨some 70, none, (.call ⟨(.value (.func 68)), #[(.tmp 68), (.tmp 69)], #[45, 3]⟩)⟩,
                   ⟨some 14, none, (.assign (.tmp 70))⟩])
                 (.seq
                  (.ops [⟨some 71, none, (.load 45 (.tmp 11))⟩,
                    ⟨some 72, none, (.move (.tmp 14))⟩,
                    ⟨some 73, none, (.call ⟨(.value (.func 68)), #[(.tmp 71), (.tmp 72)], #[45, 3]⟩)⟩,
                    ⟨some 14, none, (.assign (.tmp 73))⟩])
                  (.seq
                   (.seq
                    (.ops [⟨some 74, none, (.move (.tmp 14))⟩,
                      ⟨some 75, none, (.binOp .lss 3 (.tmp 74) (.const (.int .i64 0)) 3)⟩,
                      ⟨some 76, none, (.move (.tmp 75))⟩,
                      ⟨some 77, (some (76, false)), (.load 45 (.tmp 12))⟩,
                      ⟨some 78, (some (76, false)), (.load 45 (.tmp 8))⟩,
                      ⟨some 79, (some (76, false)), (.call ⟨(.value (.func 67)), #[(.tmp 77), (.tmp 78)], #[45, 45]⟩)⟩,
                      ⟨some 80, (some (76, false)), (.unOp .not 4 (.tmp 79))⟩,
                      ⟨some 81, none, (.pick (.tmp 76) (.const (.bool true)) (.tmp 80))⟩,
                      ⟨some 82, none, (.move (.tmp 81))⟩,
                      ⟨some 83, (some (82, false)), (.move (.tmp 13))⟩,
                      ⟨some 84, (some (82, false)), (.move (.tmp 9))⟩,
                      ⟨some 85, (some (82, false)), (.binOp .neq 3 (.tmp 83) (.tmp 84) 3)⟩,
                      ⟨some 86, none, (.pick (.tmp 82) (.const (.bool true)) (.tmp 85))⟩])
                    (.cond (.tmp 86)
                     (.seq
                      (.ops [⟨some 6, none, (.assign (.const (.bool false)))⟩])
                      .ret)
                     .skip))
                   (.seq
                    (.ops [⟨some 15, none, (.assign (.const (.int .i64 1)))⟩])
                    (.seq
                     (.ops [⟨some 87, none, (.load 45 (.tmp 12))⟩,
                       ⟨some 88, none, (.move (.tmp 15))⟩,
                       ⟨some 89, none, (.call ⟨(.value (.func 68)), #[(.tmp 87), (.tmp 88)], #[45, 3]⟩)⟩,
                       ⟨some 15, none, (.assign (.tmp 89))⟩])
                     (.seq
                      (.ops [⟨some 16, none, (.assign (.const (.int .i64 1)))⟩])
                      (.seq
                       (.ops [⟨some 90, none, (.load 45 (.tmp 12))⟩,
                         ⟨some 91, none, (.move (.tmp 16))⟩,
                         ⟨some 92, none, (.call ⟨(.value (.func 69)), #[(.tmp 90), (.tmp 91)], #[45, 3]⟩)⟩,
                         ⟨some 16, none, (.assign (.tmp 92))⟩])
                       (.seq
                        (.seq
                         (.ops [⟨some 93, none, (.move (.tmp 16))⟩,
                           ⟨some 94, none, (.binOp .lss 3 (.tmp 93) (.const (.int .i64 0)) 3)⟩])
                         (.cond (.tmp 94)
                          (.seq
                           (.ops [⟨some 6, none, (.assign (.const (.bool false)))⟩])
                           .ret)
                          .skip))
                        (.seq
                         (.seq
                          (.ops [⟨some 95, none, (.move (.tmp 16))⟩,
                            ⟨some 96, none, (.move (.tmp 15))⟩,
                            ⟨some 97, none, (.binOp .neq 3 (.tmp 95) (.tmp 96) 3)⟩])
                          (.cond (.tmp 97)
                           (.seq
                            (.ops [⟨some 6, none, (.assign (.const (.bool false)))⟩])
                            .ret)
                           .skip))
                         (.seq
                          (.draw #[] [(1, 0), (3, 0), (3, 3)]
                            [⟨some 99, none, (.move (.tmp 0))⟩,
                            ⟨some 100, none, (.load 77 (.tmp 4))⟩,
                            ⟨some 101, none, (.call ⟨(.value (.func 65)), #[(.tmp 100)], #[77]⟩)⟩,
                            ⟨some 102, none, (.load 77 (.tmp 5))⟩,
                            ⟨some 103, none, (.call ⟨(.value (.func 65)), #[(.tmp 102)], #[77]⟩)⟩,
                            ⟨some 104, none, (.call ⟨(.value (.func 71)), #[(.tmp 99), (.tmp 101), (.tmp 103)], #[3, 45, 45]⟩)⟩,
                            ⟨some 98, none, (.move (.tmp 104))⟩,
                            ⟨some 105, none, (.extract (.tmp 98) 0)⟩,
                            ⟨some 106, none, (.extract (.tmp 98) 1)⟩,
                            ⟨some 17, none, (.alloc 45)⟩,
                            ⟨none, none, (.store 45 (.tmp 17) (.tmp 105))⟩,
                            ⟨some 18, none, (.assign (.tmp 106))⟩])
                          (.seq
                           (.seq
                            (.ops [⟨some 107, none, (.load 45 (.tmp 17))⟩,
                              ⟨some 108, none, (.load 45 (.tmp 8))⟩,
                              ⟨some 109, none, (.call ⟨(.value (.func 67)), #[(.tmp 107), (.tmp 108)], #[45, 45]⟩)⟩,
                              ⟨some 110, none, (.unOp .not 4 (.tmp 109))⟩,
                              ⟨some 111, none, (.move (.tmp 110))⟩,
                              ⟨some 112, (some (111, false)), (.move (.tmp 18))⟩,
                              ⟨some 113, (some (111, false)), (.move (.tmp 9))⟩,
                              ⟨some 114, (some (111, false)), (.binOp .neq 3 (.tmp 112) (.tmp 113) 3)⟩,
                              ⟨some 115, none, (.pick (.tmp 111) (.const (.bool true)) (.tmp 114))⟩])
                            (.cond (.tmp 115)
                             (.seq
                              (.ops [⟨some 6, none, (.assign (.const (.bool false)))⟩])
                              .ret)
                             .skip))
                           (.seq
                            (.ops [⟨some 16, none, (.assign (.const (.int .i64 1)))⟩])
                            (.seq
                             (.ops [⟨some 116, none, (.load 45 (.tmp 12))⟩,
                               ⟨some 117, none, (.move (.tmp 16))⟩,
                               ⟨some 118, none, (.call ⟨(.value (.func 69)), #[(.tmp 116), (.tmp 117)], #[45, 3]⟩)⟩,
                               ⟨some 16, none, (.assign (.tmp 118))⟩])
                             (.seq
                              (.seq
                               (.ops [⟨some 119, none, (.move (.tmp 16))⟩,
                                 ⟨some 120, none, (.binOp .lss 3 (.tmp 119) (.const (.int .i64 0)) 3)⟩])
                               (.cond (.tmp 120)
                                (.seq
                                 (.ops [⟨some 6, none, (.assign (.const (.bool false)))⟩])
                                 .ret)
                                .skip))
                              (.seq
                               (.seq
                                (.ops [⟨some 121, none, (.move (.tmp 16))⟩,
                                  ⟨some 122, none, (.move (.tmp 15))⟩,
                                  ⟨some 123, none, (.binOp .neq 3 (.tmp 121) (.tmp 122) 3)⟩])
                                (.cond (.tmp 123)
                                 (.seq
                                  (.ops [⟨some 6, none, (.assign (.const (.bool false)))⟩])
                                  .ret)
                                 .skip))
                               (.seq
                                (.ops [⟨some 6, none, (.assign (.const (.bool true)))⟩])
                                .ret))))))))))))))))))))))))))))))
theorem w14 {args : Array Value} {H : AH} {Φ : Value → AH → Prop} (h : rW Try.prog k14 [] (fin Try.prog [(.tmp 6)] Φ) (tm0 args) H) : CallsA Try.prog 14 args H Φ :=
  CallsA.w k14 [(.tmp 6)] (fun i => if i = 8 then [(1, 0), (3, 0), (3, 3)] else if i = 14 then [(0, 0), (0, 3), (1, 0)] else if i = 16 then [(0, 0), (0, 3), (1, 0)] else if i = 31 then [(1, 0), (3, 0), (3, 3)] else []) Try.func14 rfl rfl (by kernel_rfl) (by kernel_rfl) h

end Go.Proofs.Ytgekbancaeabgaa.AM
