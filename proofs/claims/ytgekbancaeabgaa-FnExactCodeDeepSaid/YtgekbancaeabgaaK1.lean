/- The code of the functions that the laws reach, made short; and facts on the types that they use. -/
import Derived.Test.YtgekbancaeabgaaA7
import Derived.Test.YtgekbancaeabgaaA6
import Derived.KernelRfl
import Derived.Test.YtgekbancaeabgaaRows
set_option linter.unusedVariables false
set_option linter.unusedSimpArgs false
set_option maxRecDepth 100000
/- The code of the functions that the laws reach, made short; and facts on the types that they use. -/
namespace Go.Proofs.Ytgekbancaeabgaa.AM
open Go Go.Proofs.Ytgekbancaeabgaa Go.Proofs

theorem al121 {ev : Operand → Value} : aMake Try.prog ev (.alloc 121) = some ([.int .i64 0, .int .i64 0, .int .i64 0], none) := by kernel_rfl
theorem al123 {ev : Operand → Value} : aMake Try.prog ev (.alloc 123) = some ([.int .i64 0, .int .i64 0, .int .i64 0, .int .i64 0, .int .i64 0, .slice none 0 0], none) := by kernel_rfl
theorem ap43_43 {a a' : Option Addr} {n c n' c' : Nat} {H : AH} : aAppend Try.prog #[43, 43] #[.slice a n c, .slice a' n' c'] H = app 1 (.slice a n c) (.slice a' n' c') H := append_eq (z := .int .i64 0) (e := 3) (e' := 3) (by kernel_rfl) (by kernel_rfl) (by kernel_rfl) (by kernel_rfl) (by kernel_rfl) (by kernel_rfl)
theorem bd121 {ps : Array (Nat × Value)} : aBuild Try.prog 121 ps = (fillP [(0, 1), (1, 1), (2, 1)] [.int .i64 0, .int .i64 0, .int .i64 0] ps.toList).map fun cs => .agg cs.toArray := build_eq (z := .agg #[.int .i64 0, .int .i64 0, .int .i64 0]) Try.underlying121 (by kernel_rfl) (by kernel_rfl) (by kernel_rfl) rfl
theorem bs43_1 {ev : Operand → Value} {x0 : Operand} : aMake Try.prog ev (.buildSlice 43 1 #[(0, x0)]) = (fillP [(0, 1)] [.int .i64 0] [(0, ev x0)]).map fun cs => (cs, some (1, 1)) := bslice_eq (z := .int .i64 0) (e := 3) (by kernel_rfl) (by kernel_rfl) (by kernel_rfl) (by decide) (by kernel_rfl) (by kernel_rfl) rfl rfl
theorem cv5_3 {k : IntKind} {n : Int} {G : Hp} : aConv Try.prog 5 3 (.int k n) G = some (.int .i64 (IntKind.i64.wrap n)) := conv_int (e := .int .u8) (by kernel_rfl) (by kernel_rfl)
theorem ef121 {a0 b0 a1 b1 a2 b2 : Int} {x y : Operand} : aBin Try.prog .eql 121 x y (.agg #[.int .i64 a0, .int .i64 a1, .int .i64 a2]) (.agg #[.int .i64 b0, .int .i64 b1, .int .i64 b2]) = some (.bool (a0 == b0 && (a1 == b1 && (a2 == b2 && true)))) := by
  refine bin_eql_agg Try.underlying121 (by kernel_rfl) (by kernel_rfl) (by simp [scal1]) ?_
  rw [eqF_cons (k := .i64) (k' := .i64) (a := a0) (b := b0) (by decide) (by kernel_rfl) (by kernel_rfl) (by kernel_rfl)]
  rw [eqF_cons (k := .i64) (k' := .i64) (a := a1) (b := b1) (by decide) (by kernel_rfl) (by kernel_rfl) (by kernel_rfl)]
  rw [eqF_cons (k := .i64) (k' := .i64) (a := a2) (b := b2) (by decide) (by kernel_rfl) (by kernel_rfl) (by kernel_rfl)]
  simp only [ite_and, eqF_nil]
theorem eg121 {a0 b0 a1 b1 a2 b2 : Int} {x y : Operand} : aBin Try.prog .neq 121 x y (.agg #[.int .i64 a0, .int .i64 a1, .int .i64 a2]) (.agg #[.int .i64 b0, .int .i64 b1, .int .i64 b2]) = some (.bool (!(a0 == b0 && (a1 == b1 && (a2 == b2 && true))))) := by
  refine bin_neq_agg Try.underlying121 (by kernel_rfl) (by kernel_rfl) (by simp [scal1]) ?_
  rw [eqF_cons (k := .i64) (k' := .i64) (a := a0) (b := b0) (by decide) (by kernel_rfl) (by kernel_rfl) (by kernel_rfl)]
  rw [eqF_cons (k := .i64) (k' := .i64) (a := a1) (b := b1) (by decide) (by kernel_rfl) (by kernel_rfl) (by kernel_rfl)]
  rw [eqF_cons (k := .i64) (k' := .i64) (a := a2) (b := b2) (by decide) (by kernel_rfl) (by kernel_rfl) (by kernel_rfl)]
  simp only [ite_and, eqF_nil]
theorem fa117_0 {b o : Nat} : aFieldAddr Try.prog 117 (.pointer (some ⟨b, o, none⟩)) 0 = some (.pointer (some ⟨b, o + 0, none⟩)) := by kernel_rfl
theorem fa117_1 {b o : Nat} : aFieldAddr Try.prog 117 (.pointer (some ⟨b, o, none⟩)) 1 = some (.pointer (some ⟨b, o + 1, none⟩)) := by kernel_rfl
theorem fa117_2 {b o : Nat} : aFieldAddr Try.prog 117 (.pointer (some ⟨b, o, none⟩)) 2 = some (.pointer (some ⟨b, o + 2, none⟩)) := by kernel_rfl
theorem fa119_0 {b o : Nat} : aFieldAddr Try.prog 119 (.pointer (some ⟨b, o, none⟩)) 0 = some (.pointer (some ⟨b, o + 0, none⟩)) := by kernel_rfl
theorem fa119_1 {b o : Nat} : aFieldAddr Try.prog 119 (.pointer (some ⟨b, o, none⟩)) 1 = some (.pointer (some ⟨b, o + 1, none⟩)) := by kernel_rfl
theorem fa119_2 {b o : Nat} : aFieldAddr Try.prog 119 (.pointer (some ⟨b, o, none⟩)) 2 = some (.pointer (some ⟨b, o + 2, none⟩)) := by kernel_rfl
theorem fa119_3 {b o : Nat} : aFieldAddr Try.prog 119 (.pointer (some ⟨b, o, none⟩)) 3 = some (.pointer (some ⟨b, o + 5, none⟩)) := by kernel_rfl
theorem fa121_0 {b o : Nat} : aFieldAddr Try.prog 121 (.pointer (some ⟨b, o, none⟩)) 0 = some (.pointer (some ⟨b, o + 0, none⟩)) := by kernel_rfl
theorem fa121_1 {b o : Nat} : aFieldAddr Try.prog 121 (.pointer (some ⟨b, o, none⟩)) 1 = some (.pointer (some ⟨b, o + 1, none⟩)) := by kernel_rfl
theorem fa121_2 {b o : Nat} : aFieldAddr Try.prog 121 (.pointer (some ⟨b, o, none⟩)) 2 = some (.pointer (some ⟨b, o + 2, none⟩)) := by kernel_rfl
theorem fa123_0 {b o : Nat} : aFieldAddr Try.prog 123 (.pointer (some ⟨b, o, none⟩)) 0 = some (.pointer (some ⟨b, o + 0, none⟩)) := by kernel_rfl
theorem fa123_1 {b o : Nat} : aFieldAddr Try.prog 123 (.pointer (some ⟨b, o, none⟩)) 1 = some (.pointer (some ⟨b, o + 1, none⟩)) := by kernel_rfl
theorem fa123_2 {b o : Nat} : aFieldAddr Try.prog 123 (.pointer (some ⟨b, o, none⟩)) 2 = some (.pointer (some ⟨b, o + 2, none⟩)) := by kernel_rfl
theorem fa123_3 {b o : Nat} : aFieldAddr Try.prog 123 (.pointer (some ⟨b, o, none⟩)) 3 = some (.pointer (some ⟨b, o + 5, none⟩)) := by kernel_rfl
theorem ix43 {b o n c : Nat} {k : IntKind} {j : Int} : aIndexAddr Try.prog 43 (.slice (some ⟨b, o, none⟩) n c) (.int k j) = if 0 ≤ j ∧ j < n then some (.pointer (some ⟨b, o + j.toNat * 1, none⟩)) else none := by kernel_rfl
theorem ix52 {b o n c : Nat} {k : IntKind} {j : Int} : aIndexAddr Try.prog 52 (.slice (some ⟨b, o, none⟩) n c) (.int k j) = if 0 ≤ j ∧ j < n then some (.pointer (some ⟨b, o + j.toNat * 6, none⟩)) else none := by kernel_rfl
theorem ix55 {b o n c : Nat} {k : IntKind} {j : Int} : aIndexAddr Try.prog 55 (.slice (some ⟨b, o, none⟩) n c) (.int k j) = if 0 ≤ j ∧ j < n then some (.pointer (some ⟨b, o + j.toNat * 6, none⟩)) else none := by kernel_rfl
theorem us9 : Try.prog.underlying 9 = some .string := by kernel_rfl
theorem ld3 {o : Nat} {cs : List Value} : ld Try.prog 3 o cs = cs[o]? := ld_one (by kernel_rfl)
theorem ld43 {o : Nat} {cs : List Value} : ld Try.prog 43 o cs = cs[o]? := ld_one (by kernel_rfl)
theorem ld117 {o : Nat} {cs : List Value} : ld Try.prog 117 o cs = aggAt 3 o cs := ld_agg (by kernel_rfl) (by kernel_rfl)
theorem ld119 {o : Nat} {cs : List Value} : ld Try.prog 119 o cs = aggAt 6 o cs := ld_agg (by kernel_rfl) (by kernel_rfl)
theorem ld121 {o : Nat} {cs : List Value} : ld Try.prog 121 o cs = aggAt 3 o cs := ld_agg (by kernel_rfl) (by kernel_rfl)
theorem ld123 {o : Nat} {cs : List Value} : ld Try.prog 123 o cs = aggAt 6 o cs := ld_agg (by kernel_rfl) (by kernel_rfl)
theorem ln9 {s : ByteArray} : aLen Try.prog #[9] #[.string s] = some (.int .i64 s.size) := by kernel_rfl
theorem ln43 {a : Option Addr} {n c : Nat} : aLen Try.prog #[43] #[.slice a n c] = some (.int .i64 n) := by kernel_rfl
theorem ln52 {a : Option Addr} {n c : Nat} : aLen Try.prog #[52] #[.slice a n c] = some (.int .i64 n) := by kernel_rfl
theorem ln55 {a : Option Addr} {n c : Nat} : aLen Try.prog #[55] #[.slice a n c] = some (.int .i64 n) := by kernel_rfl
theorem ms43 {k k' : IntKind} {n : Int} : mkS Try.prog 43 (.int k n) (.int k' n) = if 0 ≤ n ∧ n ≤ 1073741824 then some ((List.replicate n.toNat [.int .i64 0]).flatten, some (n.toNat, 1)) else none := mkS_eq (z := .int .i64 0) (e := 3) (by kernel_rfl) (by kernel_rfl) (by kernel_rfl) (by kernel_rfl) (by kernel_rfl) (by kernel_rfl) (by decide)
theorem ms55 {k k' : IntKind} {n : Int} : mkS Try.prog 55 (.int k n) (.int k' n) = if 0 ≤ n ∧ n ≤ 1073741824 then some ((List.replicate n.toNat [.int .i64 0, .int .i64 0, .int .i64 0, .int .i64 0, .int .i64 0, .slice none 0 0]).flatten, some (n.toNat, 6)) else none := mkS_eq (z := .agg #[.int .i64 0, .int .i64 0, .int .i64 0, .int .i64 0, .int .i64 0, .slice none 0 0]) (e := 123) (by kernel_rfl) (by kernel_rfl) (by kernel_rfl) (by kernel_rfl) (by kernel_rfl) (by kernel_rfl) (by decide)
theorem st3 {b o : Nat} {v : Value} {H : AH} : aStore Try.prog 3 (.pointer (some ⟨b, o, none⟩)) v H = sto 1 b o v H (wrt H b) := store_eq (by kernel_rfl)
theorem st43 {b o : Nat} {v : Value} {H : AH} : aStore Try.prog 43 (.pointer (some ⟨b, o, none⟩)) v H = sto 1 b o v H (wrt H b) := store_eq (by kernel_rfl)
theorem st121 {b o : Nat} {v : Value} {H : AH} : aStore Try.prog 121 (.pointer (some ⟨b, o, none⟩)) v H = sto 3 b o v H (wrt H b) := store_eq (by kernel_rfl)
theorem st123 {b o : Nat} {v : Value} {H : AH} : aStore Try.prog 123 (.pointer (some ⟨b, o, none⟩)) v H = sto 6 b o v H (wrt H b) := store_eq (by kernel_rfl)

/-- laws.szIntS -/
def k138 : KC :=
  (.seq
   (.ops [⟨some 4, none, (.assign (.const (.int .i64 0)))⟩])
   (.seq
    (.ops [⟨some 5, none, (.move (.tmp 1))⟩,
      ⟨some 6, none, (.move (.tmp 0))⟩,
      ⟨some 7, none, (.call ⟨(.builtin .len), #[(.tmp 6)], #[43]⟩)⟩,
      ⟨some 8, none, (.binOp .sub 3 (.tmp 5) (.tmp 7) 3)⟩,
      ⟨some 1, none, (.assign (.tmp 8))⟩])
    (.seq
     (.seq
      (.ops [⟨some 9, none, (.move (.tmp 1))⟩,
        ⟨some 10, none, (.binOp .lss 3 (.tmp 9) (.const (.int .i64 0)) 3)⟩])
      (.cond (.tmp 10)
       (.seq
        (.ops [⟨some 4, none, (.assign (.const (.int .i64 (-1))))⟩])
        .ret)
       .skip))
     (.seq
      (.ops [⟨some 11, none, (.move (.tmp 1))⟩,
        ⟨some 4, none, (.assign (.tmp 11))⟩])
      .ret))))
theorem w138 {args : Array Value} {H : AH} {Φ : Value → AH → Prop} (h : rW Try.prog k138 [] (fin Try.prog [(.tmp 4)] Φ) (tm0 args) H) : CallsA Try.prog 138 args H Φ :=
  CallsA.w k138 [(.tmp 4)] (fun _ => []) Try.func138 rfl rfl (by kernel_rfl) (by kernel_rfl) h

/-- laws.szInstr -/
def k102 : KC :=
  (.seq
   (.ops [⟨some 2, none, (.box 119 (.tmp 0))⟩,
     ⟨some 4, none, (.assign (.const (.int .i64 0)))⟩])
   (.seq
    (.ops [⟨some 5, none, (.fieldAddr 119 (.tmp 2) 3)⟩,
      ⟨some 6, none, (.load 43 (.tmp 5))⟩,
      ⟨some 7, none, (.move (.tmp 1))⟩,
      ⟨some 8, none, (.call ⟨(.value (.func 138)), #[(.tmp 6), (.tmp 7)], #[43, 3]⟩)⟩,
      ⟨some 1, none, (.assign (.tmp 8))⟩])
    (.seq
     (.seq
      (.ops [⟨some 9, none, (.move (.tmp 1))⟩,
        ⟨some 10, none, (.binOp .lss 3 (.tmp 9) (.const (.int .i64 0)) 3)⟩])
      (.cond (.tmp 10)
       (.seq
        (.ops [⟨some 4, none, (.assign (.const (.int .i64 (-1))))⟩])
        .ret)
       .skip))
     (.seq
      (.ops [⟨some 11, none, (.move (.tmp 1))⟩,
        ⟨some 4, none, (.assign (.tmp 11))⟩])
      .ret))))
theorem w102 {args : Array Value} {H : AH} {Φ : Value → AH → Prop} (h : rW Try.prog k102 [] (fin Try.prog [(.tmp 4)] Φ) (tm0 args) H) : CallsA Try.prog 102 args H Φ :=
  CallsA.w k102 [(.tmp 4)] (fun _ => []) Try.func102 rfl rfl (by kernel_rfl) (by kernel_rfl) h

/-- laws.szInstrS -/
def k38 : KC :=
  (.seq
   (.ops [⟨some 4, none, (.assign (.const (.int .i64 0)))⟩])
   (.seq
    (.ops [⟨some 6, none, (.move (.tmp 1))⟩,
      ⟨some 7, none, (.move (.tmp 0))⟩,
      ⟨some 8, none, (.call ⟨(.builtin .len), #[(.tmp 7)], #[52]⟩)⟩,
      ⟨some 9, none, (.binOp .sub 3 (.tmp 6) (.tmp 8) 3)⟩,
      ⟨some 1, none, (.assign (.tmp 9))⟩])
    (.seq
     (.seq
      (.ops [⟨some 10, none, (.move (.tmp 1))⟩,
        ⟨some 11, none, (.binOp .lss 3 (.tmp 10) (.const (.int .i64 0)) 3)⟩])
      (.cond (.tmp 11)
       (.seq
        (.ops [⟨some 4, none, (.assign (.const (.int .i64 (-1))))⟩])
        .ret)
       .skip))
     (.seq
      (.seq
       (.ops [⟨some 5, none, (.assign (.const (.int .i64 0)))⟩])
       (.block 0
        (.loop
         (.seq
          (.seq
           (.ops [⟨some 12, none, (.move (.tmp 5))⟩,
             ⟨some 13, none, (.move (.tmp 0))⟩,
             ⟨some 14, none, (.call ⟨(.builtin .len), #[(.tmp 13)], #[52]⟩)⟩,
             ⟨some 15, none, (.binOp .lss 3 (.tmp 12) (.tmp 14) 3)⟩])
           (.cond (.tmp 15)
            .skip
            (.exit 0)))
          (.seq
           (.block 1
            (.seq
             (.ops [⟨some 18, none, (.move (.tmp 0))⟩,
               ⟨some 19, none, (.move (.tmp 5))⟩,
               ⟨some 20, none, (.indexAddr 52 (.tmp 18) (.tmp 19))⟩,
               ⟨some 21, none, (.load 119 (.tmp 20))⟩,
               ⟨some 22, none, (.move (.tmp 1))⟩,
               ⟨some 23, none, (.call ⟨(.value (.func 102)), #[(.tmp 21), (.tmp 22)], #[119, 3]⟩)⟩,
               ⟨some 1, none, (.assign (.tmp 23))⟩])
             (.seq
              (.ops [⟨some 24, none, (.move (.tmp 1))⟩,
                ⟨some 25, none, (.binOp .lss 3 (.tmp 24) (.const (.int .i64 0)) 3)⟩])
              (.cond (.tmp 25)
               (.seq
                (.ops [⟨some 4, none, (.assign (.const (.int .i64 (-1))))⟩])
                .ret)
               .skip))))
           (.ops [⟨some 16, none, (.move (.tmp 5))⟩,
             ⟨some 17, none, (.binOp .add 3 (.tmp 16) (.const (.int .i64 1)) 3)⟩,
             ⟨some 5, none, (.assign (.tmp 17))⟩]))))))
      (.seq
       (.ops [⟨some 26, none, (.move (.tmp 1))⟩,
         ⟨some 4, none, (.assign (.tmp 26))⟩])
       .ret)))))
theorem w38 {args : Array Value} {H : AH} {Φ : Value → AH → Prop} (h : rW Try.prog k38 [] (fin Try.prog [(.tmp 4)] Φ) (tm0 args) H) : CallsA Try.prog 38 args H Φ :=
  CallsA.w k38 [(.tmp 4)] (fun _ => []) Try.func38 rfl rfl (by kernel_rfl) (by kernel_rfl) h

/-- laws.toIntS -/
def k139 : KC :=
  (.seq
   (.ops [⟨some 2, none, (.assign (.const (.slice none 0 0)))⟩])
   (.seq
    (.ops [⟨some 5, none, (.move (.tmp 0))⟩,
      ⟨some 6, none, (.call ⟨(.builtin .len), #[(.tmp 5)], #[43]⟩)⟩,
      ⟨some 7, none, (.makeSlice 43 (.tmp 6) (.tmp 6))⟩,
      ⟨some 3, none, (.assign (.tmp 7))⟩])
    (.seq
     (.seq
      (.ops [⟨some 4, none, (.assign (.const (.int .i64 0)))⟩])
      (.block 0
       (.loop
        (.seq
         (.seq
          (.ops [⟨some 8, none, (.move (.tmp 4))⟩,
            ⟨some 9, none, (.move (.tmp 0))⟩,
            ⟨some 10, none, (.call ⟨(.builtin .len), #[(.tmp 9)], #[43]⟩)⟩,
            ⟨some 11, none, (.binOp .lss 3 (.tmp 8) (.tmp 10) 3)⟩])
          (.cond (.tmp 11)
           .skip
           (.exit 0)))
         (.seq
          (.block 1
           (.ops [⟨some 14, none, (.move (.tmp 3))⟩,
             ⟨some 15, none, (.move (.tmp 4))⟩,
             ⟨some 16, none, (.move (.tmp 0))⟩,
             ⟨some 17, none, (.move (.tmp 4))⟩,
             ⟨some 18, none, (.indexAddr 43 (.tmp 16) (.tmp 17))⟩,
             ⟨some 19, none, (.load 3 (.tmp 18))⟩,
             ⟨some 20, none, (.indexAddr 43 (.tmp 14) (.tmp 15))⟩,
             ⟨none, none, (.store 3 (.tmp 20) (.tmp 19))⟩]))
          (.ops [⟨some 12, none, (.move (.tmp 4))⟩,
            ⟨some 13, none, (.binOp .add 3 (.tmp 12) (.const (.int .i64 1)) 3)⟩,
            ⟨some 4, none, (.assign (.tmp 13))⟩]))))))
     (.seq
      (.ops [⟨some 21, none, (.move (.tmp 3))⟩,
        ⟨some 2, none, (.assign (.tmp 21))⟩])
      .ret))))
theorem w139 {args : Array Value} {H : AH} {Φ : Value → AH → Prop} (h : rW Try.prog k139 [] (fin Try.prog [(.tmp 2)] Φ) (tm0 args) H) : CallsA Try.prog 139 args H Φ :=
  CallsA.w k139 [(.tmp 2)] (fun _ => []) Try.func139 rfl rfl (by kernel_rfl) (by kernel_rfl) h

/-- laws.toFun -/
def k162 : KC :=
  (.seq
   (.ops [⟨some 1, none, (.box 117 (.tmp 0))⟩,
     ⟨some 2, none, (.alloc 121)⟩])
   (.seq
    (.ops [⟨some 3, none, (.alloc 121)⟩])
    (.seq
     (.ops [⟨some 4, none, (.fieldAddr 117 (.tmp 1) 0)⟩,
       ⟨some 5, none, (.load 3 (.tmp 4))⟩,
       ⟨some 6, none, (.fieldAddr 121 (.tmp 3) 0)⟩,
       ⟨none, none, (.store 3 (.tmp 6) (.tmp 5))⟩])
     (.seq
      (.ops [⟨some 7, none, (.fieldAddr 117 (.tmp 1) 1)⟩,
        ⟨some 8, none, (.load 3 (.tmp 7))⟩,
        ⟨some 9, none, (.fieldAddr 121 (.tmp 3) 1)⟩,
        ⟨none, none, (.store 3 (.tmp 9) (.tmp 8))⟩])
      (.seq
       (.ops [⟨some 10, none, (.fieldAddr 117 (.tmp 1) 2)⟩,
         ⟨some 11, none, (.load 3 (.tmp 10))⟩,
         ⟨some 12, none, (.fieldAddr 121 (.tmp 3) 2)⟩,
         ⟨none, none, (.store 3 (.tmp 12) (.tmp 11))⟩])
       (.seq
        (.ops [⟨some 13, none, (.load 121 (.tmp 3))⟩,
          ⟨none, none, (.store 121 (.tmp 2) (.tmp 13))⟩])
        .ret))))))
theorem w162 {args : Array Value} {H : AH} {Φ : Value → AH → Prop} (h : rW Try.prog k162 [] (fin Try.prog [(.cell 2 121)] Φ) (tm0 args) H) : CallsA Try.prog 162 args H Φ :=
  CallsA.w k162 [(.cell 2 121)] (fun _ => []) Try.func162 rfl rfl (by kernel_rfl) (by kernel_rfl) h

/-- laws.toInstr -/
def k105 : KC :=
  (.seq
   (.ops [⟨some 1, none, (.box 119 (.tmp 0))⟩,
     ⟨some 2, none, (.alloc 123)⟩])
   (.seq
    (.ops [⟨some 3, none, (.alloc 123)⟩])
    (.seq
     (.ops [⟨some 4, none, (.fieldAddr 119 (.tmp 1) 0)⟩,
       ⟨some 5, none, (.load 3 (.tmp 4))⟩,
       ⟨some 6, none, (.fieldAddr 123 (.tmp 3) 0)⟩,
       ⟨none, none, (.store 3 (.tmp 6) (.tmp 5))⟩])
     (.seq
      (.ops [⟨some 7, none, (.fieldAddr 119 (.tmp 1) 1)⟩,
        ⟨some 8, none, (.load 3 (.tmp 7))⟩,
        ⟨some 9, none, (.fieldAddr 123 (.tmp 3) 1)⟩,
        ⟨none, none, (.store 3 (.tmp 9) (.tmp 8))⟩])
      (.seq
       (.ops [⟨some 10, none, (.fieldAddr 119 (.tmp 1) 2)⟩,
         ⟨some 11, none, (.load 117 (.tmp 10))⟩,
         ⟨some 12, none, (.call ⟨(.value (.func 162)), #[(.tmp 11)], #[117]⟩)⟩,
         ⟨some 13, none, (.fieldAddr 123 (.tmp 3) 2)⟩,
         ⟨none, none, (.store 121 (.tmp 13) (.tmp 12))⟩])
       (.seq
        (.ops [⟨some 14, none, (.fieldAddr 119 (.tmp 1) 3)⟩,
          ⟨some 15, none, (.load 43 (.tmp 14))⟩,
          ⟨some 16, none, (.call ⟨(.value (.func 139)), #[(.tmp 15)], #[43]⟩)⟩,
          ⟨some 17, none, (.fieldAddr 123 (.tmp 3) 3)⟩,
          ⟨none, none, (.store 43 (.tmp 17) (.tmp 16))⟩])
        (.seq
         (.ops [⟨some 18, none, (.load 123 (.tmp 3))⟩,
           ⟨none, none, (.store 123 (.tmp 2) (.tmp 18))⟩])
         .ret)))))))
theorem w105 {args : Array Value} {H : AH} {Φ : Value → AH → Prop} (h : rW Try.prog k105 [] (fin Try.prog [(.cell 2 123)] Φ) (tm0 args) H) : CallsA Try.prog 105 args H Φ :=
  CallsA.w k105 [(.cell 2 123)] (fun _ => []) Try.func105 rfl rfl (by kernel_rfl) (by kernel_rfl) h

/-- laws.toInstrS -/
def k40 : KC :=
  (.seq
   (.ops [⟨some 2, none, (.assign (.const (.slice none 0 0)))⟩])
   (.seq
    (.ops [⟨some 5, none, (.move (.tmp 0))⟩,
      ⟨some 6, none, (.call ⟨(.builtin .len), #[(.tmp 5)], #[52]⟩)⟩,
      ⟨some 7, none, (.makeSlice 55 (.tmp 6) (.tmp 6))⟩,
      ⟨some 3, none, (.assign (.tmp 7))⟩])
    (.seq
     (.seq
      (.ops [⟨some 4, none, (.assign (.const (.int .i64 0)))⟩])
      (.block 0
       (.loop
        (.seq
         (.seq
          (.ops [⟨some 8, none, (.move (.tmp 4))⟩,
            ⟨some 9, none, (.move (.tmp 0))⟩,
            ⟨some 10, none, (.call ⟨(.builtin .len), #[(.tmp 9)], #[52]⟩)⟩,
            ⟨some 11, none, (.binOp .lss 3 (.tmp 8) (.tmp 10) 3)⟩])
          (.cond (.tmp 11)
           .skip
           (.exit 0)))
         (.seq
          (.block 1
           (.ops [⟨some 14, none, (.move (.tmp 3))⟩,
             ⟨some 15, none, (.move (.tmp 4))⟩,
             ⟨some 16, none, (.move (.tmp 0))⟩,
             ⟨some 17, none, (.move (.tmp 4))⟩,
             ⟨some 18, none, (.indexAddr 52 (.tmp 16) (.tmp 17))⟩,
             ⟨some 19, none, (.load 119 (.tmp 18))⟩,
             ⟨some 20, none, (.call ⟨(.value (.func 105)), #[(.tmp 19)], #[119]⟩)⟩,
             ⟨some 21, none, (.indexAddr 55 (.tmp 14) (.tmp 15))⟩,
             ⟨none, none, (.store 123 (.tmp 21) (.tmp 20))⟩]))
          (.ops [⟨some 12, none, (.move (.tmp 4))⟩,
            ⟨some 13, none, (.binOp .add 3 (.tmp 12) (.const (.int .i64 1)) 3)⟩,
            ⟨some 4, none, (.assign (.tmp 13))⟩]))))))
     (.seq
      (.ops [⟨some 22, none, (.move (.tmp 3))⟩,
        ⟨some 2, none, (.assign (.tmp 22))⟩])
      .ret))))
theorem w40 {args : Array Value} {H : AH} {Φ : Value → AH → Prop} (h : rW Try.prog k40 [] (fin Try.prog [(.tmp 2)] Φ) (tm0 args) H) : CallsA Try.prog 40 args H Φ :=
  CallsA.w k40 [(.tmp 2)] (fun _ => []) Try.func40 rfl rfl (by kernel_rfl) (by kernel_rfl) h

/-- laws.eqIntS -/
def k143 : KC :=
  (.seq
   (.ops [⟨some 4, none, (.assign (.const (.bool false)))⟩])
   (.seq
    (.seq
     (.ops [⟨some 6, none, (.move (.tmp 0))⟩,
       ⟨some 7, none, (.call ⟨(.builtin .len), #[(.tmp 6)], #[43]⟩)⟩,
       ⟨some 8, none, (.move (.tmp 1))⟩,
       ⟨some 9, none, (.call ⟨(.builtin .len), #[(.tmp 8)], #[43]⟩)⟩,
       ⟨some 10, none, (.binOp .neq 3 (.tmp 7) (.tmp 9) 3)⟩])
     (.cond (.tmp 10)
      (.seq
       (.ops [⟨some 4, none, (.assign (.const (.bool false)))⟩])
       .ret)
      .skip))
    (.seq
     (.seq
      (.ops [⟨some 5, none, (.assign (.const (.int .i64 0)))⟩])
      (.block 0
       (.loop
        (.seq
         (.seq
          (.ops [⟨some 11, none, (.move (.tmp 5))⟩,
            ⟨some 12, none, (.move (.tmp 0))⟩,
            ⟨some 13, none, (.call ⟨(.builtin .len), #[(.tmp 12)], #[43]⟩)⟩,
            ⟨some 14, none, (.binOp .lss 3 (.tmp 11) (.tmp 13) 3)⟩])
          (.cond (.tmp 14)
           .skip
           (.exit 0)))
         (.seq
          (.block 1
           (.seq
            (.ops [⟨some 17, none, (.move (.tmp 0))⟩,
              ⟨some 18, none, (.move (.tmp 5))⟩,
              ⟨some 19, none, (.indexAddr 43 (.tmp 17) (.tmp 18))⟩,
              ⟨some 20, none, (.load 3 (.tmp 19))⟩,
              ⟨some 21, none, (.move (.tmp 1))⟩,
              ⟨some 22, none, (.move (.tmp 5))⟩,
              ⟨some 23, none, (.indexAddr 43 (.tmp 21) (.tmp 22))⟩,
              ⟨some 24, none, (.load 3 (.tmp 23))⟩,
              ⟨some 25, none, (.binOp .neq 3 (.tmp 20) (.tmp 24) 3)⟩])
            (.cond (.tmp 25)
             (.seq
              (.ops [⟨some 4, none, (.assign (.const (.bool false)))⟩])
              .ret)
             .skip)))
          (.ops [⟨some 15, none, (.move (.tmp 5))⟩,
            ⟨some 16, none, (.binOp .add 3 (.tmp 15) (.const (.int .i64 1)) 3)⟩,
            ⟨some 5, none, (.assign (.tmp 16))⟩]))))))
     (.seq
      (.ops [⟨some 4, none, (.assign (.const (.bool true)))⟩])
      .ret))))
theorem w143 {args : Array Value} {H : AH} {Φ : Value → AH → Prop} (h : rW Try.prog k143 [] (fin Try.prog [(.tmp 4)] Φ) (tm0 args) H) : CallsA Try.prog 143 args H Φ :=
  CallsA.w k143 [(.tmp 4)] (fun i => if i = 6 then [(3, 0), (7, 0)] else []) Try.func143 rfl rfl (by kernel_rfl) (by kernel_rfl) h

/-- laws.eqFun -/
def k168 : KC :=
  (.seq
   (.ops [⟨some 2, none, (.box 121 (.tmp 0))⟩,
     ⟨some 3, none, (.box 121 (.tmp 1))⟩,
     ⟨some 4, none, (.assign (.const (.bool false)))⟩])
   (.seq
    (.seq
     (.ops [⟨some 5, none, (.fieldAddr 121 (.tmp 2) 0)⟩,
       ⟨some 6, none, (.load 3 (.tmp 5))⟩,
       ⟨some 7, none, (.fieldAddr 121 (.tmp 3) 0)⟩,
       ⟨some 8, none, (.load 3 (.tmp 7))⟩,
       ⟨some 9, none, (.binOp .neq 3 (.tmp 6) (.tmp 8) 3)⟩])
     (.cond (.tmp 9)
      (.seq
       (.ops [⟨some 4, none, (.assign (.const (.bool false)))⟩])
       .ret)
      .skip))
    (.seq
     (.seq
      (.ops [⟨some 10, none, (.fieldAddr 121 (.tmp 2) 1)⟩,
        ⟨some 11, none, (.load 3 (.tmp 10))⟩,
        ⟨some 12, none, (.fieldAddr 121 (.tmp 3) 1)⟩,
        ⟨some 13, none, (.load 3 (.tmp 12))⟩,
        ⟨some 14, none, (.binOp .neq 3 (.tmp 11) (.tmp 13) 3)⟩])
      (.cond (.tmp 14)
       (.seq
        (.ops [⟨some 4, none, (.assign (.const (.bool false)))⟩])
        .ret)
       .skip))
     (.seq
      (.seq
       (.ops [⟨some 15, none, (.fieldAddr 121 (.tmp 2) 2)⟩,
         ⟨some 16, none, (.load 3 (.tmp 15))⟩,
         ⟨some 17, none, (.fieldAddr 121 (.tmp 3) 2)⟩,
         ⟨some 18, none, (.load 3 (.tmp 17))⟩,
         ⟨some 19, none, (.binOp .neq 3 (.tmp 16) (.tmp 18) 3)⟩])
       (.cond (.tmp 19)
        (.seq
         (.ops [⟨some 4, none, (.assign (.const (.bool false)))⟩])
         .ret)
        .skip))
      (.seq
       (.ops [⟨some 4, none, (.assign (.const (.bool true)))⟩])
       .ret)))))
theorem w168 {args : Array Value} {H : AH} {Φ : Value → AH → Prop} (h : rW Try.prog k168 [] (fin Try.prog [(.tmp 4)] Φ) (tm0 args) H) : CallsA Try.prog 168 args H Φ :=
  CallsA.w k168 [(.tmp 4)] (fun _ => []) Try.func168 rfl rfl (by kernel_rfl) (by kernel_rfl) h

/-- laws.eqInstr -/
def k111 : KC :=
  (.seq
   (.ops [⟨some 2, none, (.box 123 (.tmp 0))⟩,
     ⟨some 3, none, (.box 123 (.tmp 1))⟩,
     ⟨some 4, none, (.assign (.const (.bool false)))⟩])
   (.seq
    (.seq
     (.ops [⟨some 5, none, (.fieldAddr 123 (.tmp 2) 0)⟩,
       ⟨some 6, none, (.load 3 (.tmp 5))⟩,
       ⟨some 7, none, (.fieldAddr 123 (.tmp 3) 0)⟩,
       ⟨some 8, none, (.load 3 (.tmp 7))⟩,
       ⟨some 9, none, (.binOp .neq 3 (.tmp 6) (.tmp 8) 3)⟩])
     (.cond (.tmp 9)
      (.seq
       (.ops [⟨some 4, none, (.assign (.const (.bool false)))⟩])
       .ret)
      .skip))
    (.seq
     (.seq
      (.ops [⟨some 10, none, (.fieldAddr 123 (.tmp 2) 1)⟩,
        ⟨some 11, none, (.load 3 (.tmp 10))⟩,
        ⟨some 12, none, (.fieldAddr 123 (.tmp 3) 1)⟩,
        ⟨some 13, none, (.load 3 (.tmp 12))⟩,
        ⟨some 14, none, (.binOp .neq 3 (.tmp 11) (.tmp 13) 3)⟩])
      (.cond (.tmp 14)
       (.seq
        (.ops [⟨some 4, none, (.assign (.const (.bool false)))⟩])
        .ret)
       .skip))
     (.seq
      (.seq
       (.ops [⟨some 15, none, (.fieldAddr 123 (.tmp 2) 2)⟩,
         ⟨some 16, none, (.load 121 (.tmp 15))⟩,
         ⟨some 17, none, (.fieldAddr 123 (.tmp 3) 2)⟩,
         ⟨some 18, none, (.load 121 (.tmp 17))⟩,
         ⟨some 19, none, (.call ⟨(.value (.func 168)), #[(.tmp 16), (.tmp 18)], #[121, 121]⟩)⟩,
         ⟨some 20, none, (.unOp .not 4 (.tmp 19))⟩])
       (.cond (.tmp 20)
        (.seq
         (.ops [⟨some 4, none, (.assign (.const (.bool false)))⟩])
         .ret)
        .skip))
      (.seq
       (.seq
        (.ops [⟨some 21, none, (.fieldAddr 123 (.tmp 2) 3)⟩,
          ⟨some 22, none, (.load 43 (.tmp 21))⟩,
          ⟨some 23, none, (.fieldAddr 123 (.tmp 3) 3)⟩,
          ⟨some 24, none, (.load 43 (.tmp 23))⟩,
          ⟨some 25, none, (.call ⟨(.value (.func 143)), #[(.tmp 22), (.tmp 24)], #[43, 43]⟩)⟩,
          ⟨some 26, none, (.unOp .not 4 (.tmp 25))⟩])
        (.cond (.tmp 26)
         (.seq
          (.ops [⟨some 4, none, (.assign (.const (.bool false)))⟩])
          .ret)
         .skip))
       (.seq
        (.ops [⟨some 4, none, (.assign (.const (.bool true)))⟩])
        .ret))))))
theorem w111 {args : Array Value} {H : AH} {Φ : Value → AH → Prop} (h : rW Try.prog k111 [] (fin Try.prog [(.tmp 4)] Φ) (tm0 args) H) : CallsA Try.prog 111 args H Φ :=
  CallsA.w k111 [(.tmp 4)] (fun _ => []) Try.func111 rfl rfl (by kernel_rfl) (by kernel_rfl) h

/-- laws.eqInstrS -/
def k42 : KC :=
  (.seq
   (.ops [⟨some 4, none, (.assign (.const (.bool false)))⟩])
   (.seq
    (.seq
     (.ops [⟨some 6, none, (.move (.tmp 0))⟩,
       ⟨some 7, none, (.call ⟨(.builtin .len), #[(.tmp 6)], #[55]⟩)⟩,
       ⟨some 8, none, (.move (.tmp 1))⟩,
       ⟨some 9, none, (.call ⟨(.builtin .len), #[(.tmp 8)], #[55]⟩)⟩,
       ⟨some 10, none, (.binOp .neq 3 (.tmp 7) (.tmp 9) 3)⟩])
     (.cond (.tmp 10)
      (.seq
       (.ops [⟨some 4, none, (.assign (.const (.bool false)))⟩])
       .ret)
      .skip))
    (.seq
     (.seq
      (.ops [⟨some 5, none, (.assign (.const (.int .i64 0)))⟩])
      (.block 0
       (.loop
        (.seq
         (.seq
          (.ops [⟨some 11, none, (.move (.tmp 5))⟩,
            ⟨some 12, none, (.move (.tmp 0))⟩,
            ⟨some 13, none, (.call ⟨(.builtin .len), #[(.tmp 12)], #[55]⟩)⟩,
            ⟨some 14, none, (.binOp .lss 3 (.tmp 11) (.tmp 13) 3)⟩])
          (.cond (.tmp 14)
           .skip
           (.exit 0)))
         (.seq
          (.block 1
           (.seq
            (.draw #[] [(3, 0), (7, 0)]
              [⟨some 17, none, (.move (.tmp 0))⟩,
              ⟨some 18, none, (.move (.tmp 5))⟩,
              ⟨some 19, none, (.indexAddr 55 (.tmp 17) (.tmp 18))⟩,
              ⟨some 20, none, (.load 123 (.tmp 19))⟩,
              ⟨some 21, none, (.move (.tmp 1))⟩,
              ⟨some 22, none, (.move (.tmp 5))⟩,
              ⟨some 23, none, (.indexAddr 55 (.tmp 21) (.tmp 22))⟩,
              ⟨some 24, none, (.load 123 (.tmp 23))⟩,
              ⟨some 25, none, (.call ⟨(.value (.func 111)), #[(.tmp 20), (.tmp 24)], #[123, 123]⟩)⟩,
              ⟨some 26, none, (.unOp .not 4 (.tmp 25))⟩])
            (.cond (.tmp 26)
             (.seq
              (.ops [⟨some 4, none, (.assign (.const (.bool false)))⟩])
              .ret)
             .skip)))
          (.ops [⟨some 15, none, (.move (.tmp 5))⟩,
            ⟨some 16, none, (.binOp .add 3 (.tmp 15) (.const (.int .i64 1)) 3)⟩,
            ⟨some 5, none, (.assign (.tmp 16))⟩]))))))
     (.seq
      (.ops [⟨some 4, none, (.assign (.const (.bool true)))⟩])
      .ret))))
theorem w42 {args : Array Value} {H : AH} {Φ : Value → AH → Prop} (h : rW Try.prog k42 [] (fin Try.prog [(.tmp 4)] Φ) (tm0 args) H) : CallsA Try.prog 42 args H Φ :=
  CallsA.w k42 [(.tmp 4)] (fun i => if i = 6 then [(3, 0), (7, 0)] else []) Try.func42 rfl rfl (by kernel_rfl) (by kernel_rfl) h

/-- spec.l1In -/
def k84 : KC :=
  (.seq
   (.ops [⟨some 6, none, (.assign (.const (.bool false)))⟩])
   (.seq
    (.ops [⟨some 7, none, (.move (.tmp 0))⟩,
      ⟨some 8, none, (.move (.tmp 1))⟩,
      ⟨some 9, none, (.binOp .geq 3 (.tmp 7) (.tmp 8) 3)⟩,
      ⟨some 10, none, (.move (.tmp 9))⟩,
      ⟨some 11, (some (10, true)), (.move (.tmp 0))⟩,
      ⟨some 12, (some (10, true)), (.move (.tmp 2))⟩,
      ⟨some 13, (some (10, true)), (.binOp .leq 3 (.tmp 11) (.tmp 12) 3)⟩,
      ⟨some 14, none, (.pick (.tmp 10) (.tmp 13) (.const (.bool false)))⟩,
      ⟨some 6, none, (.assign (.tmp 14))⟩])
    .ret))
theorem w84 {args : Array Value} {H : AH} {Φ : Value → AH → Prop} (h : rW Try.prog k84 [] (fin Try.prog [(.tmp 6)] Φ) (tm0 args) H) : CallsA Try.prog 84 args H Φ :=
  CallsA.w k84 [(.tmp 6)] (fun _ => []) Try.func84 rfl rfl (by kernel_rfl) (by kernel_rfl) h

/-- spec.NumOk -/
def k128 : KC :=
  (.seq
   (.ops [⟨some 2, none, (.assign (.const (.bool false)))⟩])
   (.seq
    (.ops [⟨some 3, none, (.move (.tmp 0))⟩,
      ⟨some 4, none, (.call ⟨(.value (.func 84)), #[(.tmp 3), (.const (.int .i64 (-1000000000000))), (.const (.int .i64 1000000000000))], #[3, 3, 3]⟩)⟩,
      ⟨some 2, none, (.assign (.tmp 4))⟩])
    .ret))
theorem w128 {args : Array Value} {H : AH} {Φ : Value → AH → Prop} (h : rW Try.prog k128 [] (fin Try.prog [(.tmp 2)] Φ) (tm0 args) H) : CallsA Try.prog 128 args H Φ :=
  CallsA.w k128 [(.tmp 2)] (fun _ => []) Try.func128 rfl rfl (by kernel_rfl) (by kernel_rfl) h

/-- spec.l9Nums -/
def k158 : KC :=
  (.seq
   (.ops [⟨some 2, none, (.assign (.const (.bool false)))⟩])
   (.seq
    (.seq
     (.ops [⟨some 3, none, (.assign (.const (.int .i64 0)))⟩])
     (.block 0
      (.loop
       (.seq
        (.seq
         (.ops [⟨some 4, none, (.move (.tmp 3))⟩,
           ⟨some 5, none, (.move (.tmp 0))⟩,
           ⟨some 6, none, (.call ⟨(.builtin .len), #[(.tmp 5)], #[43]⟩)⟩,
           ⟨some 7, none, (.binOp .lss 3 (.tmp 4) (.tmp 6) 3)⟩])
         (.cond (.tmp 7)
          .skip
          (.exit 0)))
        (.seq
         (.block 1
          (.seq
           (.ops [⟨some 10, none, (.move (.tmp 0))⟩,
             ⟨some 11, none, (.move (.tmp 3))⟩,
             ⟨some 12, none, (.indexAddr 43 (.tmp 10) (.tmp 11))⟩,
             ⟨some 13, none, (.load 3 (.tmp 12))⟩,
             ⟨some 14, none, (.call ⟨(.value (.func 128)), #[(.tmp 13)], #[3]⟩)⟩,
             ⟨some 15, none, (.unOp .not 4 (.tmp 14))⟩])
           (.cond (.tmp 15)
            (.seq
             (.ops [⟨some 2, none, (.assign (.const (.bool false)))⟩])
             .ret)
            .skip)))
         (.ops [⟨some 8, none, (.move (.tmp 3))⟩,
           ⟨some 9, none, (.binOp .add 3 (.tmp 8) (.const (.int .i64 1)) 3)⟩,
           ⟨some 3, none, (.assign (.tmp 9))⟩]))))))
    (.seq
     (.ops [⟨some 16, none, (.move (.tmp 0))⟩,
       ⟨some 17, none, (.call ⟨(.builtin .len), #[(.tmp 16)], #[43]⟩)⟩,
       ⟨some 18, none, (.call ⟨(.value (.func 84)), #[(.tmp 17), (.const (.int .i64 1)), (.const (.int .i64 300))], #[3, 3, 3]⟩)⟩,
       ⟨some 2, none, (.assign (.tmp 18))⟩])
     .ret)))
theorem w158 {args : Array Value} {H : AH} {Φ : Value → AH → Prop} (h : rW Try.prog k158 [] (fin Try.prog [(.tmp 2)] Φ) (tm0 args) H) : CallsA Try.prog 158 args H Φ :=
  CallsA.w k158 [(.tmp 2)] (fun _ => []) Try.func158 rfl rfl (by kernel_rfl) (by kernel_rfl) h

/-- spec.l1Sign2 -/
def k145 : KC :=
  (.seq
   (.ops [⟨some 2, none, (.assign (.const (.bool false)))⟩])
   (.seq
    (.ops [⟨some 3, none, (.move (.tmp 0))⟩,
      ⟨some 4, none, (.binOp .eql 3 (.tmp 3) (.const (.int .i64 43)) 3)⟩,
      ⟨some 5, none, (.move (.tmp 4))⟩,
      ⟨some 6, (some (5, false)), (.move (.tmp 0))⟩,
      ⟨some 7, (some (5, false)), (.binOp .eql 3 (.tmp 6) (.const (.int .i64 45)) 3)⟩,
      ⟨some 8, none, (.pick (.tmp 5) (.const (.bool true)) (.tmp 7))⟩,
      ⟨some 9, none, (.move (.tmp 8))⟩,
      ⟨some 10, (some (9, false)), (.move (.tmp 0))⟩,
      ⟨some 11, (some (9, false)), (.binOp .eql 3 (.tmp 10) (.const (.int .i64 42)) 3)⟩,
      ⟨some 12, none, (.pick (.tmp 9) (.const (.bool true)) (.tmp 11))⟩,
      ⟨some 13, none, (.move (.tmp 12))⟩,
      ⟨some 14, (some (13, false)), (.move (.tmp 0))⟩,
      ⟨some 15, (some (13, false)), (.binOp .eql 3 (.tmp 14) (.const (.int .i64 37)) 3)⟩,
      ⟨some 16, none, (.pick (.tmp 13) (.const (.bool true)) (.tmp 15))⟩,
      ⟨some 17, none, (.move (.tmp 16))⟩,
      ⟨some 18, (some (17, false)), (.move (.tmp 0))⟩,
      ⟨some 19, (some (17, false)), (.binOp .eql 3 (.tmp 18) (.const (.int .i64 124)) 3)⟩,
      ⟨some 20, none, (.pick (.tmp 17) (.const (.bool true)) (.tmp 19))⟩,
      ⟨some 21, none, (.move (.tmp 20))⟩,
      ⟨some 22, (some (21, false)), (.move (.tmp 0))⟩,
      ⟨some 23, (some (21, false)), (.binOp .eql 3 (.tmp 22) (.const (.int .i64 38)) 3)⟩,
      ⟨some 24, none, (.pick (.tmp 21) (.const (.bool true)) (.tmp 23))⟩,
      ⟨some 25, none, (.move (.tmp 24))⟩,
      ⟨some 26, (some (25, false)), (.move (.tmp 0))⟩,
      ⟨some 27, (some (25, false)), (.binOp .eql 3 (.tmp 26) (.const (.int .i64 94)) 3)⟩,
      ⟨some 28, none, (.pick (.tmp 25) (.const (.bool true)) (.tmp 27))⟩,
      ⟨some 29, none, (.move (.tmp 28))⟩,
      ⟨some 30, (some (29, false)), (.move (.tmp 0))⟩,
      ⟨some 31, (some (29, false)), (.binOp .eql 3 (.tmp 30) (.const (.int .i64 61)) 3)⟩,
      ⟨some 32, none, (.pick (.tmp 29) (.const (.bool true)) (.tmp 31))⟩,
      ⟨some 33, none, (.move (.tmp 32))⟩,
      ⟨some 34, (some (33, false)), (.move (.tmp 0))⟩,
      ⟨some 35, (some (33, false)), (.binOp .eql 3 (.tmp 34) (.const (.int .i64 60)) 3)⟩,
      ⟨some 36, none, (.pick (.tmp 33) (.const (.bool true)) (.tmp 35))⟩,
      ⟨some 37, none, (.move (.tmp 36))⟩,
      ⟨some 38, (some (37, false)), (.move (.tmp 0))⟩,
      ⟨some 39, (some (37, false)), (.binOp .eql 3 (.tmp 38) (.const (.int .i64 62)) 3)⟩,
      ⟨some 40, none, (.pick (.tmp 37) (.const (.bool true)) (.tmp 39))⟩,
      ⟨some 2, none, (.assign (.tmp 40))⟩])
    .ret))
theorem w145 {args : Array Value} {H : AH} {Φ : Value → AH → Prop} (h : rW Try.prog k145 [] (fin Try.prog [(.tmp 2)] Φ) (tm0 args) H) : CallsA Try.prog 145 args H Φ :=
  CallsA.w k145 [(.tmp 2)] (fun _ => []) Try.func145 rfl rfl (by kernel_rfl) (by kernel_rfl) h

/-- spec.l1Sign1 -/
def k184 : KC :=
  (.seq
   (.ops [⟨some 2, none, (.assign (.const (.bool false)))⟩])
   (.seq
    (.ops [⟨some 3, none, (.move (.tmp 0))⟩,
      ⟨some 4, none, (.binOp .eql 3 (.tmp 3) (.const (.int .i64 43)) 3)⟩,
      ⟨some 5, none, (.move (.tmp 4))⟩,
      ⟨some 6, (some (5, false)), (.move (.tmp 0))⟩,
      ⟨some 7, (some (5, false)), (.binOp .eql 3 (.tmp 6) (.const (.int .i64 45)) 3)⟩,
      ⟨some 8, none, (.pick (.tmp 5) (.const (.bool true)) (.tmp 7))⟩,
      ⟨some 9, none, (.move (.tmp 8))⟩,
      ⟨some 10, (some (9, false)), (.move (.tmp 0))⟩,
      ⟨some 11, (some (9, false)), (.binOp .eql 3 (.tmp 10) (.const (.int .i64 42)) 3)⟩,
      ⟨some 12, none, (.pick (.tmp 9) (.const (.bool true)) (.tmp 11))⟩,
      ⟨some 13, none, (.move (.tmp 12))⟩,
      ⟨some 14, (some (13, false)), (.move (.tmp 0))⟩,
      ⟨some 15, (some (13, false)), (.binOp .eql 3 (.tmp 14) (.const (.int .i64 124)) 3)⟩,
      ⟨some 16, none, (.pick (.tmp 13) (.const (.bool true)) (.tmp 15))⟩,
      ⟨some 17, none, (.move (.tmp 16))⟩,
      ⟨some 18, (some (17, false)), (.move (.tmp 0))⟩,
      ⟨some 19, (some (17, false)), (.binOp .eql 3 (.tmp 18) (.const (.int .i64 126)) 3)⟩,
      ⟨some 20, none, (.pick (.tmp 17) (.const (.bool true)) (.tmp 19))⟩,
      ⟨some 2, none, (.assign (.tmp 20))⟩])
    .ret))
theorem w184 {args : Array Value} {H : AH} {Φ : Value → AH → Prop} (h : rW Try.prog k184 [] (fin Try.prog [(.tmp 2)] Φ) (tm0 args) H) : CallsA Try.prog 184 args H Φ :=
  CallsA.w k184 [(.tmp 2)] (fun _ => []) Try.func184 rfl rfl (by kernel_rfl) (by kernel_rfl) h

/-- spec.FunOne -/
def k159 : KC :=
  (.seq
   (.ops [⟨some 1, none, (.box 121 (.tmp 0))⟩,
     ⟨some 2, none, (.assign (.const (.bool false)))⟩])
   (.seq
    (.block 0
     (.seq
      (.ops [⟨some 4, none, (.fieldAddr 121 (.tmp 1) 2)⟩,
        ⟨some 5, none, (.load 3 (.tmp 4))⟩,
        ⟨some 6, none, (.binOp .neq 3 (.tmp 5) (.const (.int .i64 0)) 3)⟩,
        ⟨some 3, none, (.assign (.tmp 6))⟩])
      (.cond (.tmp 3)
       (.seq
        (.ops [⟨some 2, none, (.assign (.const (.bool false)))⟩])
        .ret)
       (.seq
        (.ops [⟨some 8, none, (.fieldAddr 121 (.tmp 1) 1)⟩,
          ⟨some 9, none, (.load 3 (.tmp 8))⟩,
          ⟨some 10, none, (.binOp .eql 3 (.tmp 9) (.const (.int .i64 47)) 3)⟩,
          ⟨some 11, none, (.move (.tmp 10))⟩,
          ⟨some 12, (some (11, false)), (.fieldAddr 121 (.tmp 1) 1)⟩,
          ⟨some 13, (some (11, false)), (.load 3 (.tmp 12))⟩,
          ⟨some 14, (some (11, false)), (.binOp .eql 3 (.tmp 13) (.const (.int .i64 92)) 3)⟩,
          ⟨some 15, none, (.pick (.tmp 11) (.const (.bool true)) (.tmp 14))⟩,
          ⟨some 7, none, (.assign (.tmp 15))⟩])
        (.cond (.tmp 7)
         (.seq
          (.ops [⟨some 16, none, (.fieldAddr 121 (.tmp 1) 0)⟩,
            ⟨some 17, none, (.load 3 (.tmp 16))⟩,
            ⟨some 18, none, (.call ⟨(.value (.func 145)), #[(.tmp 17)], #[3]⟩)⟩,
            ⟨some 2, none, (.assign (.tmp 18))⟩])
          .ret)
         (.seq
          (.ops [⟨some 20, none, (.fieldAddr 121 (.tmp 1) 1)⟩,
            ⟨some 21, none, (.load 3 (.tmp 20))⟩,
            ⟨some 22, none, (.binOp .neq 3 (.tmp 21) (.const (.int .i64 0)) 3)⟩,
            ⟨some 19, none, (.assign (.tmp 22))⟩])
          (.cond (.tmp 19)
           (.seq
            (.ops [⟨some 2, none, (.assign (.const (.bool false)))⟩])
            .ret)
           .skip)))))))
    (.seq
     (.ops [⟨some 23, none, (.fieldAddr 121 (.tmp 1) 0)⟩,
       ⟨some 24, none, (.load 3 (.tmp 23))⟩,
       ⟨some 25, none, (.call ⟨(.value (.func 184)), #[(.tmp 24)], #[3]⟩)⟩,
       ⟨some 26, none, (.move (.tmp 25))⟩,
       ⟨some 27, (some (26, false)), (.fieldAddr 121 (.tmp 1) 0)⟩,
       ⟨some 28, (some (26, false)), (.load 3 (.tmp 27))⟩,
       ⟨some 29, (some (26, false)), (.binOp .eql 3 (.tmp 28) (.const (.int .i64 105)) 3)⟩,
       ⟨some 30, none, (.pick (.tmp 26) (.const (.bool true)) (.tmp 29))⟩,
       ⟨some 31, none, (.move (.tmp 30))⟩,
       ⟨some 32, (some (31, false)), (.fieldAddr 121 (.tmp 1) 0)⟩,
       ⟨some 33, (some (31, false)), (.load 3 (.tmp 32))⟩,
       ⟨some 34, (some (31, false)), (.binOp .eql 3 (.tmp 33) (.const (.int .i64 35)) 3)⟩,
       ⟨some 35, none, (.pick (.tmp 31) (.const (.bool true)) (.tmp 34))⟩,
       ⟨some 36, none, (.move (.tmp 35))⟩,
       ⟨some 37, (some (36, false)), (.fieldAddr 121 (.tmp 1) 0)⟩,
       ⟨some 38, (some (36, false)), (.load 3 (.tmp 37))⟩,
       ⟨some 39, (some (36, false)), (.binOp .eql 3 (.tmp 38) (.const (.int .i64 44)) 3)⟩,
       ⟨some 40, none, (.pick (.tmp 36) (.const (.bool true)) (.tmp 39))⟩,
       ⟨some 41, none, (.move (.tmp 40))⟩,
       ⟨some 42, (some (41, false)), (.fieldAddr 121 (.tmp 1) 0)⟩,
       ⟨some 43, (some (41, false)), (.load 3 (.tmp 42))⟩,
       ⟨some 44, (some (41, false)), (.binOp .eql 3 (.tmp 43) (.const (.int .i64 114)) 3)⟩,
       ⟨some 45, none, (.pick (.tmp 41) (.const (.bool true)) (.tmp 44))⟩,
       ⟨some 46, none, (.move (.tmp 45))⟩,
       ⟨some 47, (some (46, false)), (.fieldAddr 121 (.tmp 1) 0)⟩,
       ⟨some 48, (some (46, false)), (.load 3 (.tmp 47))⟩,
       ⟨some 49, (some (46, false)), (.binOp .eql 3 (.tmp 48) (.const (.int .i64 122)) 3)⟩,
       ⟨some 50, none, (.pick (.tmp 46) (.const (.bool true)) (.tmp 49))⟩,
       ⟨some 51, none, (.move (.tmp 50))⟩,
       ⟨some 52, (some (51, false)), (.fieldAddr 121 (.tmp 1) 0)⟩,
       ⟨some 53, (some (51, false)), (.load 3 (.tmp 52))⟩,
       ⟨some 54, (some (51, false)), (.binOp .eql 3 (.tmp 53) (.const (.int .i64 103)) 3)⟩,
       ⟨some 55, none, (.pick (.tmp 51) (.const (.bool true)) (.tmp 54))⟩,
       ⟨some 2, none, (.assign (.tmp 55))⟩])
     .ret)))
theorem w159 {args : Array Value} {H : AH} {Φ : Value → AH → Prop} (h : rW Try.prog k159 [] (fin Try.prog [(.tmp 2)] Φ) (tm0 args) H) : CallsA Try.prog 159 args H Φ :=
  CallsA.w k159 [(.tmp 2)] (fun _ => []) Try.func159 rfl rfl (by kernel_rfl) (by kernel_rfl) h

/-- spec.FunTwo -/
def k160 : KC :=
  (.seq
   (.ops [⟨some 1, none, (.box 121 (.tmp 0))⟩,
     ⟨some 2, none, (.assign (.const (.bool false)))⟩])
   (.seq
    (.seq
     (.ops [⟨some 3, none, (.fieldAddr 121 (.tmp 1) 1)⟩,
       ⟨some 4, none, (.load 3 (.tmp 3))⟩,
       ⟨some 5, none, (.binOp .eql 3 (.tmp 4) (.const (.int .i64 46)) 3)⟩])
     (.cond (.tmp 5)
      (.seq
       (.ops [⟨some 6, none, (.fieldAddr 121 (.tmp 1) 0)⟩,
         ⟨some 7, none, (.load 3 (.tmp 6))⟩,
         ⟨some 8, none, (.call ⟨(.value (.func 145)), #[(.tmp 7)], #[3]⟩)⟩,
         ⟨some 9, none, (.move (.tmp 8))⟩,
         ⟨some 10, (some (9, true)), (.fieldAddr 121 (.tmp 1) 2)⟩,
         ⟨some 11, (some (9, true)), (.load 3 (.tmp 10))⟩,
         ⟨some 12, (some (9, true)), (.call ⟨(.value (.func 145)), #[(.tmp 11)], #[3]⟩)⟩,
         ⟨some 13, none, (.pick (.tmp 9) (.tmp 12) (.const (.bool false)))⟩,
         ⟨some 2, none, (.assign (.tmp 13))⟩])
       .ret)
      .skip))
    (.seq
     (.block 0
      (.seq
       (.ops [⟨some 15, none, (.fieldAddr 121 (.tmp 1) 2)⟩,
         ⟨some 16, none, (.load 3 (.tmp 15))⟩,
         ⟨some 17, none, (.binOp .neq 3 (.tmp 16) (.const (.int .i64 0)) 3)⟩,
         ⟨some 14, none, (.assign (.tmp 17))⟩])
       (.cond (.tmp 14)
        (.seq
         (.ops [⟨some 2, none, (.assign (.const (.bool false)))⟩])
         .ret)
        (.seq
         (.ops [⟨some 19, none, (.fieldAddr 121 (.tmp 1) 1)⟩,
           ⟨some 20, none, (.load 3 (.tmp 19))⟩,
           ⟨some 21, none, (.binOp .eql 3 (.tmp 20) (.const (.int .i64 111)) 3)⟩,
           ⟨some 18, none, (.assign (.tmp 21))⟩])
         (.cond (.tmp 18)
          (.seq
           (.ops [⟨some 22, none, (.fieldAddr 121 (.tmp 1) 0)⟩,
             ⟨some 23, none, (.load 3 (.tmp 22))⟩,
             ⟨some 24, none, (.call ⟨(.value (.func 145)), #[(.tmp 23)], #[3]⟩)⟩,
             ⟨some 2, none, (.assign (.tmp 24))⟩])
           .ret)
          (.seq
           (.ops [⟨some 26, none, (.fieldAddr 121 (.tmp 1) 1)⟩,
             ⟨some 27, none, (.load 3 (.tmp 26))⟩,
             ⟨some 28, none, (.binOp .neq 3 (.tmp 27) (.const (.int .i64 0)) 3)⟩,
             ⟨some 25, none, (.assign (.tmp 28))⟩])
           (.cond (.tmp 25)
            (.seq
             (.ops [⟨some 2, none, (.assign (.const (.bool false)))⟩])
             .ret)
            .skip)))))))
     (.seq
      (.ops [⟨some 29, none, (.fieldAddr 121 (.tmp 1) 0)⟩,
        ⟨some 30, none, (.load 3 (.tmp 29))⟩,
        ⟨some 31, none, (.call ⟨(.value (.func 145)), #[(.tmp 30)], #[3]⟩)⟩,
        ⟨some 32, none, (.move (.tmp 31))⟩,
        ⟨some 33, (some (32, false)), (.fieldAddr 121 (.tmp 1) 0)⟩,
        ⟨some 34, (some (32, false)), (.load 3 (.tmp 33))⟩,
        ⟨some 35, (some (32, false)), (.binOp .eql 3 (.tmp 34) (.const (.int .i64 35)) 3)⟩,
        ⟨some 36, none, (.pick (.tmp 32) (.const (.bool true)) (.tmp 35))⟩,
        ⟨some 37, none, (.move (.tmp 36))⟩,
        ⟨some 38, (some (37, false)), (.fieldAddr 121 (.tmp 1) 0)⟩,
        ⟨some 39, (some (37, false)), (.load 3 (.tmp 38))⟩,
        ⟨some 40, (some (37, false)), (.binOp .eql 3 (.tmp 39) (.const (.int .i64 44)) 3)⟩,
        ⟨some 41, none, (.pick (.tmp 37) (.const (.bool true)) (.tmp 40))⟩,
        ⟨some 42, none, (.move (.tmp 41))⟩,
        ⟨some 43, (some (42, false)), (.fieldAddr 121 (.tmp 1) 0)⟩,
        ⟨some 44, (some (42, false)), (.load 3 (.tmp 43))⟩,
        ⟨some 45, (some (42, false)), (.binOp .eql 3 (.tmp 44) (.const (.int .i64 116)) 3)⟩,
        ⟨some 46, none, (.pick (.tmp 42) (.const (.bool true)) (.tmp 45))⟩,
        ⟨some 47, none, (.move (.tmp 46))⟩,
        ⟨some 48, (some (47, false)), (.fieldAddr 121 (.tmp 1) 0)⟩,
        ⟨some 49, (some (47, false)), (.load 3 (.tmp 48))⟩,
        ⟨some 50, (some (47, false)), (.binOp .eql 3 (.tmp 49) (.const (.int .i64 100)) 3)⟩,
        ⟨some 51, none, (.pick (.tmp 47) (.const (.bool true)) (.tmp 50))⟩,
        ⟨some 52, none, (.move (.tmp 51))⟩,
        ⟨some 53, (some (52, false)), (.fieldAddr 121 (.tmp 1) 0)⟩,
        ⟨some 54, (some (52, false)), (.load 3 (.tmp 53))⟩,
        ⟨some 55, (some (52, false)), (.binOp .eql 3 (.tmp 54) (.const (.int .i64 114)) 3)⟩,
        ⟨some 56, none, (.pick (.tmp 52) (.const (.bool true)) (.tmp 55))⟩,
        ⟨some 57, none, (.move (.tmp 56))⟩,
        ⟨some 58, (some (57, false)), (.fieldAddr 121 (.tmp 1) 0)⟩,
        ⟨some 59, (some (57, false)), (.load 3 (.tmp 58))⟩,
        ⟨some 60, (some (57, false)), (.binOp .eql 3 (.tmp 59) (.const (.int .i64 64)) 3)⟩,
        ⟨some 61, none, (.pick (.tmp 57) (.const (.bool true)) (.tmp 60))⟩,
        ⟨some 62, none, (.move (.tmp 61))⟩,
        ⟨some 63, (some (62, false)), (.fieldAddr 121 (.tmp 1) 0)⟩,
        ⟨some 64, (some (62, false)), (.load 3 (.tmp 63))⟩,
        ⟨some 65, (some (62, false)), (.binOp .eql 3 (.tmp 64) (.const (.int .i64 63)) 3)⟩,
        ⟨some 66, none, (.pick (.tmp 62) (.const (.bool true)) (.tmp 65))⟩,
        ⟨some 67, none, (.move (.tmp 66))⟩,
        ⟨some 68, (some (67, false)), (.fieldAddr 121 (.tmp 1) 0)⟩,
        ⟨some 69, (some (67, false)), (.load 3 (.tmp 68))⟩,
        ⟨some 70, (some (67, false)), (.binOp .eql 3 (.tmp 69) (.const (.int .i64 36)) 3)⟩,
        ⟨some 71, none, (.pick (.tmp 67) (.const (.bool true)) (.tmp 70))⟩,
        ⟨some 72, none, (.move (.tmp 71))⟩,
        ⟨some 73, (some (72, false)), (.fieldAddr 121 (.tmp 1) 0)⟩,
        ⟨some 74, (some (72, false)), (.load 3 (.tmp 73))⟩,
        ⟨some 75, (some (72, false)), (.binOp .eql 3 (.tmp 74) (.const (.int .i64 101)) 3)⟩,
        ⟨some 76, none, (.pick (.tmp 72) (.const (.bool true)) (.tmp 75))⟩,
        ⟨some 2, none, (.assign (.tmp 76))⟩])
      .ret))))
theorem w160 {args : Array Value} {H : AH} {Φ : Value → AH → Prop} (h : rW Try.prog k160 [] (fin Try.prog [(.tmp 2)] Φ) (tm0 args) H) : CallsA Try.prog 160 args H Φ :=
  CallsA.w k160 [(.tmp 2)] (fun _ => []) Try.func160 rfl rfl (by kernel_rfl) (by kernel_rfl) h

/-- spec.l11Instr -/
def k103 : KC :=
  (.seq
   (.ops [⟨some 1, none, (.box 123 (.tmp 0))⟩,
     ⟨some 2, none, (.assign (.const (.bool false)))⟩])
   (.seq
    (.ops [⟨some 4, none, (.build 121 #[])⟩,
      ⟨some 3, none, (.alloc 121)⟩,
      ⟨none, none, (.store 121 (.tmp 3) (.tmp 4))⟩])
    (.seq
     (.seq
      (.ops [⟨some 5, none, (.fieldAddr 123 (.tmp 1) 0)⟩,
        ⟨some 6, none, (.load 3 (.tmp 5))⟩])
      (.block 0
       (.seq
        (.ops [⟨some 8, none, (.binOp .eql 3 (.tmp 6) (.const (.int .i64 1)) 3)⟩,
          ⟨some 7, none, (.assign (.tmp 8))⟩])
        (.cond (.tmp 7)
         (.seq
          (.ops [⟨some 9, none, (.fieldAddr 123 (.tmp 1) 1)⟩,
            ⟨some 10, none, (.load 3 (.tmp 9))⟩,
            ⟨some 11, none, (.binOp .eql 3 (.tmp 10) (.const (.int .i64 0)) 3)⟩,
            ⟨some 12, none, (.move (.tmp 11))⟩,
            ⟨some 13, (some (12, true)), (.fieldAddr 123 (.tmp 1) 2)⟩,
            ⟨some 14, (some (12, true)), (.load 121 (.tmp 13))⟩,
            ⟨some 15, (some (12, true)), (.load 121 (.tmp 3))⟩,
            ⟨some 16, (some (12, true)), (.binOp .eql 121 (.tmp 14) (.tmp 15) 121)⟩,
            ⟨some 17, none, (.pick (.tmp 12) (.tmp 16) (.const (.bool false)))⟩,
            ⟨some 18, none, (.move (.tmp 17))⟩,
            ⟨some 19, (some (18, true)), (.fieldAddr 123 (.tmp 1) 3)⟩,
            ⟨some 20, (some (18, true)), (.load 43 (.tmp 19))⟩,
            ⟨some 21, (some (18, true)), (.call ⟨(.value (.func 158)), #[(.tmp 20)], #[43]⟩)⟩,
            ⟨some 22, none, (.pick (.tmp 18) (.tmp 21) (.const (.bool false)))⟩,
            ⟨some 2, none, (.assign (.tmp 22))⟩])
          .ret)
         (.seq
          (.seq
           (.ops [⟨some 24, none, (.binOp .eql 3 (.tmp 6) (.const (.int .i64 2)) 3)⟩,
             ⟨some 23, none, (.assign (.tmp 24))⟩])
           (.cond (.tmp 23)
            .skip
            (.ops [⟨some 25, none, (.binOp .eql 3 (.tmp 6) (.const (.int .i64 3)) 3)⟩,
              ⟨some 23, none, (.assign (.tmp 25))⟩])))
          (.cond (.tmp 23)
           (.seq
            (.ops [⟨some 26, none, (.fieldAddr 123 (.tmp 1) 1)⟩,
              ⟨some 27, none, (.load 3 (.tmp 26))⟩,
              ⟨some 28, none, (.call ⟨(.value (.func 84)), #[(.tmp 27), (.const (.int .i64 0)), (.const (.int .i64 25))], #[3, 3, 3]⟩)⟩,
              ⟨some 29, none, (.move (.tmp 28))⟩,
              ⟨some 30, (some (29, true)), (.fieldAddr 123 (.tmp 1) 2)⟩,
              ⟨some 31, (some (29, true)), (.load 121 (.tmp 30))⟩,
              ⟨some 32, (some (29, true)), (.load 121 (.tmp 3))⟩,
              ⟨some 33, (some (29, true)), (.binOp .eql 121 (.tmp 31) (.tmp 32) 121)⟩,
              ⟨some 34, none, (.pick (.tmp 29) (.tmp 33) (.const (.bool false)))⟩,
              ⟨some 35, none, (.move (.tmp 34))⟩,
              ⟨some 36, (some (35, true)), (.fieldAddr 123 (.tmp 1) 3)⟩,
              ⟨some 37, (some (35, true)), (.load 43 (.tmp 36))⟩,
              ⟨some 38, (some (35, true)), (.call ⟨(.builtin .len), #[(.tmp 37)], #[43]⟩)⟩,
              ⟨some 39, (some (35, true)), (.binOp .eql 3 (.tmp 38) (.const (.int .i64 0)) 3)⟩,
              ⟨some 40, none, (.pick (.tmp 35) (.tmp 39) (.const (.bool false)))⟩,
              ⟨some 2, none, (.assign (.tmp 40))⟩])
            .ret)
           (.seq
            (.ops [⟨some 42, none, (.binOp .eql 3 (.tmp 6) (.const (.int .i64 4)) 3)⟩,
              ⟨some 41, none, (.assign (.tmp 42))⟩])
            (.cond (.tmp 41)
             (.seq
              (.ops [⟨some 43, none, (.fieldAddr 123 (.tmp 1) 1)⟩,
                ⟨some 44, none, (.load 3 (.tmp 43))⟩,
                ⟨some 45, none, (.binOp .eql 3 (.tmp 44) (.const (.int .i64 0)) 3)⟩,
                ⟨some 46, none, (.move (.tmp 45))⟩,
                ⟨some 47, (some (46, true)), (.fieldAddr 123 (.tmp 1) 2)⟩,
                ⟨some 48, (some (46, true)), (.load 121 (.tmp 47))⟩,
                ⟨some 49, (some (46, true)), (.call ⟨(.value (.func 159)), #[(.tmp 48)], #[121]⟩)⟩,
                ⟨some 50, none, (.pick (.tmp 46) (.tmp 49) (.const (.bool false)))⟩,
                ⟨some 51, none, (.move (.tmp 50))⟩,
                ⟨some 52, (some (51, true)), (.fieldAddr 123 (.tmp 1) 3)⟩,
                ⟨some 53, (some (51, true)), (.load 43 (.tmp 52))⟩,
                ⟨some 54, (some (51, true)), (.call ⟨(.builtin .len), #[(.tmp 53)], #[43]⟩)⟩,
                ⟨some 55, (some (51, true)), (.binOp .eql 3 (.tmp 54) (.const (.int .i64 0)) 3)⟩,
                ⟨some 56, none, (.pick (.tmp 51) (.tmp 55) (.const (.bool false)))⟩,
                ⟨some 2, none, (.assign (.tmp 56))⟩])
              .ret)
             (.seq
              (.ops [⟨some 58, none, (.binOp .eql 3 (.tmp 6) (.const (.int .i64 5)) 3)⟩,
                ⟨some 57, none, (.assign (.tmp 58))⟩])
              (.cond (.tmp 57)
               (.seq
                (.ops [⟨some 59, none, (.fieldAddr 123 (.tmp 1) 1)⟩,
                  ⟨some 60, none, (.load 3 (.tmp 59))⟩,
                  ⟨some 61, none, (.binOp .eql 3 (.tmp 60) (.const (.int .i64 0)) 3)⟩,
                  ⟨some 62, none, (.move (.tmp 61))⟩,
                  ⟨some 63, (some (62, true)), (.fieldAddr 123 (.tmp 1) 2)⟩,
                  ⟨some 64, (some (62, true)), (.load 121 (.tmp 63))⟩,
                  ⟨some 65, (some (62, true)), (.call ⟨(.value (.func 160)), #[(.tmp 64)], #[121]⟩)⟩,
                  ⟨some 66, none, (.pick (.tmp 62) (.tmp 65) (.const (.bool false)))⟩,
                  ⟨some 67, none, (.move (.tmp 66))⟩,
                  ⟨some 68, (some (67, true)), (.fieldAddr 123 (.tmp 1) 3)⟩,
                  ⟨some 69, (some (67, true)), (.load 43 (.tmp 68))⟩,
                  ⟨some 70, (some (67, true)), (.call ⟨(.builtin .len), #[(.tmp 69)], #[43]⟩)⟩,
                  ⟨some 71, (some (67, true)), (.binOp .eql 3 (.tmp 70) (.const (.int .i64 0)) 3)⟩,
                  ⟨some 72, none, (.pick (.tmp 67) (.tmp 71) (.const (.bool false)))⟩,
                  ⟨some 2, none, (.assign (.tmp 72))⟩])
                .ret)
               .skip))))))))))
     (.seq
      (.ops [⟨some 2, none, (.assign (.const (.bool false)))⟩])
      .ret))))
theorem w103 {args : Array Value} {H : AH} {Φ : Value → AH → Prop} (h : rW Try.prog k103 [] (fin Try.prog [(.tmp 2)] Φ) (tm0 args) H) : CallsA Try.prog 103 args H Φ :=
  CallsA.w k103 [(.tmp 2)] (fun _ => []) Try.func103 rfl rfl (by kernel_rfl) (by kernel_rfl) h

/-- spec.l11Takes -/
def k161 : KC :=
  (.seq
   (.ops [⟨some 1, none, (.box 123 (.tmp 0))⟩,
     ⟨some 2, none, (.assign (.const (.int .i64 0)))⟩,
     ⟨some 3, none, (.assign (.const (.int .i64 0)))⟩])
   (.seq
    (.seq
     (.ops [⟨some 4, none, (.fieldAddr 123 (.tmp 1) 0)⟩,
       ⟨some 5, none, (.load 3 (.tmp 4))⟩])
     (.block 0
      (.seq
       (.seq
        (.ops [⟨some 7, none, (.binOp .eql 3 (.tmp 5) (.const (.int .i64 1)) 3)⟩,
          ⟨some 6, none, (.assign (.tmp 7))⟩])
        (.cond (.tmp 6)
         .skip
         (.ops [⟨some 8, none, (.binOp .eql 3 (.tmp 5) (.const (.int .i64 2)) 3)⟩,
           ⟨some 6, none, (.assign (.tmp 8))⟩])))
       (.cond (.tmp 6)
        (.seq
         (.ops [⟨some 2, none, (.assign (.const (.int .i64 0)))⟩,
           ⟨some 3, none, (.assign (.const (.int .i64 1)))⟩])
         .ret)
        (.seq
         (.ops [⟨some 10, none, (.binOp .eql 3 (.tmp 5) (.const (.int .i64 5)) 3)⟩,
           ⟨some 9, none, (.assign (.tmp 10))⟩])
         (.cond (.tmp 9)
          (.seq
           (.ops [⟨some 2, none, (.assign (.const (.int .i64 2)))⟩,
             ⟨some 3, none, (.assign (.const (.int .i64 (-1))))⟩])
           .ret)
          .skip))))))
    (.seq
     (.ops [⟨some 2, none, (.assign (.const (.int .i64 1)))⟩,
       ⟨some 3, none, (.assign (.const (.int .i64 0)))⟩])
     .ret)))
theorem w161 {args : Array Value} {H : AH} {Φ : Value → AH → Prop} (h : rW Try.prog k161 [] (fin Try.prog [(.tmp 2), (.tmp 3)] Φ) (tm0 args) H) : CallsA Try.prog 161 args H Φ :=
  CallsA.w k161 [(.tmp 2), (.tmp 3)] (fun _ => []) Try.func161 rfl rfl (by kernel_rfl) (by kernel_rfl) h

/-- spec.l11Depths -/
def k104 : KC :=
  (.seq
   (.ops [⟨some 2, none, (.assign (.const (.slice none 0 0)))⟩,
     ⟨some 3, none, (.assign (.const (.bool false)))⟩])
   (.seq
    (.ops [⟨some 9, none, (.buildSlice 43 1 #[(0, (.const (.int .i64 0)))])⟩,
      ⟨some 4, none, (.assign (.tmp 9))⟩])
    (.seq
     (.ops [⟨some 5, none, (.assign (.const (.int .i64 0)))⟩])
     (.seq
      (.seq
       (.ops [⟨some 6, none, (.assign (.const (.int .i64 0)))⟩])
       (.block 0
        (.loop
         (.seq
          (.seq
           (.ops [⟨some 10, none, (.move (.tmp 6))⟩,
             ⟨some 11, none, (.move (.tmp 0))⟩,
             ⟨some 12, none, (.call ⟨(.builtin .len), #[(.tmp 11)], #[55]⟩)⟩,
             ⟨some 13, none, (.binOp .lss 3 (.tmp 10) (.tmp 12) 3)⟩])
           (.cond (.tmp 13)
            .skip
            (.exit 0)))
          (.seq
           (.block 1
            (.seq
             (.ops [⟨some 17, none, (.move (.tmp 0))⟩,
               ⟨some 18, none, (.move (.tmp 6))⟩,
               ⟨some 19, none, (.indexAddr 55 (.tmp 17) (.tmp 18))⟩,
               ⟨some 20, none, (.load 123 (.tmp 19))⟩,
               ⟨some 21, none, (.call ⟨(.value (.func 161)), #[(.tmp 20)], #[123]⟩)⟩,
               ⟨some 16, none, (.move (.tmp 21))⟩,
               ⟨some 22, none, (.extract (.tmp 16) 0)⟩,
               ⟨some 23, none, (.extract (.tmp 16) 1)⟩,
               ⟨some 7, none, (.assign (.tmp 22))⟩,
               ⟨some 8, none, (.assign (.tmp 23))⟩])
             (.seq
              (.seq
               (.ops [⟨some 24, none, (.move (.tmp 5))⟩,
                 ⟨some 25, none, (.move (.tmp 7))⟩,
                 ⟨some 26, none, (.binOp .lss 3 (.tmp 24) (.tmp 25) 3)⟩])
               (.cond (.tmp 26)
                (.seq
                 (.ops [⟨some 27, none, (.move (.tmp 4))⟩,
                   ⟨some 2, none, (.assign (.tmp 27))⟩,
                   ⟨some 3, none, (.assign (.const (.bool false)))⟩])
                 .ret)
                .skip))
              (.seq
               (.ops [⟨some 28, none, (.move (.tmp 5))⟩,
                 ⟨some 29, none, (.move (.tmp 8))⟩,
                 ⟨some 30, none, (.binOp .add 3 (.tmp 28) (.tmp 29) 3)⟩,
                 ⟨some 5, none, (.assign (.tmp 30))⟩])
               (.ops [⟨some 31, none, (.move (.tmp 4))⟩,
                 ⟨some 32, none, (.move (.tmp 5))⟩,
                 ⟨some 33, none, (.buildSlice 43 1 #[(0, (.tmp 32))])⟩,
                 ⟨some 34, none, (.call ⟨(.builtin .append), #[(.tmp 31), (.tmp 33)], #[43, 43]⟩)⟩,
                 ⟨some 4, none, (.assign (.tmp 34))⟩])))))
           (.ops [⟨some 14, none, (.move (.tmp 6))⟩,
             ⟨some 15, none, (.binOp .add 3 (.tmp 14) (.const (.int .i64 1)) 3)⟩,
             ⟨some 6, none, (.assign (.tmp 15))⟩]))))))
      (.seq
       (.ops [⟨some 35, none, (.move (.tmp 4))⟩,
         ⟨some 2, none, (.assign (.tmp 35))⟩,
         ⟨some 3, none, (.assign (.const (.bool true)))⟩])
       .ret)))))
theorem w104 {args : Array Value} {H : AH} {Φ : Value → AH → Prop} (h : rW Try.prog k104 [] (fin Try.prog [(.tmp 2), (.tmp 3)] Φ) (tm0 args) H) : CallsA Try.prog 104 args H Φ :=
  CallsA.w k104 [(.tmp 2), (.tmp 3)] (fun _ => []) Try.func104 rfl rfl (by kernel_rfl) (by kernel_rfl) h

/-- spec.CodeOk -/
def k39 : KC :=
  (.seq
   (.ops [⟨some 2, none, (.assign (.const (.bool false)))⟩])
   (.seq
    (.seq
     (.ops [⟨some 6, none, (.move (.tmp 0))⟩,
       ⟨some 7, none, (.call ⟨(.builtin .len), #[(.tmp 6)], #[55]⟩)⟩,
       ⟨some 8, none, (.call ⟨(.value (.func 84)), #[(.tmp 7), (.const (.int .i64 1)), (.const (.int .i64 60))], #[3, 3, 3]⟩)⟩,
       ⟨some 9, none, (.unOp .not 4 (.tmp 8))⟩])
     (.cond (.tmp 9)
      (.seq
       (.ops [⟨some 2, none, (.assign (.const (.bool false)))⟩])
       .ret)
      .skip))
    (.seq
     (.seq
      (.ops [⟨some 3, none, (.assign (.const (.int .i64 0)))⟩])
      (.block 0
       (.loop
        (.seq
         (.seq
          (.ops [⟨some 10, none, (.move (.tmp 3))⟩,
            ⟨some 11, none, (.move (.tmp 0))⟩,
            ⟨some 12, none, (.call ⟨(.builtin .len), #[(.tmp 11)], #[55]⟩)⟩,
            ⟨some 13, none, (.binOp .lss 3 (.tmp 10) (.tmp 12) 3)⟩])
          (.cond (.tmp 13)
           .skip
           (.exit 0)))
         (.seq
          (.block 1
           (.seq
            (.ops [⟨some 16, none, (.move (.tmp 0))⟩,
              ⟨some 17, none, (.move (.tmp 3))⟩,
              ⟨some 18, none, (.indexAddr 55 (.tmp 16) (.tmp 17))⟩,
              ⟨some 19, none, (.load 123 (.tmp 18))⟩,
              ⟨some 20, none, (.call ⟨(.value (.func 103)), #[(.tmp 19)], #[123]⟩)⟩,
              ⟨some 21, none, (.unOp .not 4 (.tmp 20))⟩])
            (.cond (.tmp 21)
             (.seq
              (.ops [⟨some 2, none, (.assign (.const (.bool false)))⟩])
              .ret)
             .skip)))
          (.ops [⟨some 14, none, (.move (.tmp 3))⟩,
            ⟨some 15, none, (.binOp .add 3 (.tmp 14) (.const (.int .i64 1)) 3)⟩,
            ⟨some 3, none, (.assign (.tmp 15))⟩]))))))
     (.seq
      (.ops [⟨some 23, none, (.move (.tmp 0))⟩,
        ⟨some 24, none, (.call ⟨(.value (.func 104)), #[(.tmp 23)], #[55]⟩)⟩,
        ⟨some 22, none, (.move (.tmp 24))⟩,
        ⟨some 25, none, (.extract (.tmp 22) 0)⟩,
        ⟨some 26, none, (.extract (.tmp 22) 1)⟩,
        ⟨some 4, none, (.assign (.tmp 25))⟩,
        ⟨some 5, none, (.assign (.tmp 26))⟩])
      (.seq
       (.ops [⟨some 27, none, (.move (.tmp 5))⟩,
         ⟨some 28, none, (.move (.tmp 27))⟩,
         ⟨some 29, (some (28, true)), (.move (.tmp 4))⟩,
         ⟨some 30, (some (28, true)), (.move (.tmp 0))⟩,
         ⟨some 31, (some (28, true)), (.call ⟨(.builtin .len), #[(.tmp 30)], #[55]⟩)⟩,
         ⟨some 32, (some (28, true)), (.indexAddr 43 (.tmp 29) (.tmp 31))⟩,
         ⟨some 33, (some (28, true)), (.load 3 (.tmp 32))⟩,
         ⟨some 34, (some (28, true)), (.binOp .eql 3 (.tmp 33) (.const (.int .i64 1)) 3)⟩,
         ⟨some 35, none, (.pick (.tmp 28) (.tmp 34) (.const (.bool false)))⟩,
         ⟨some 2, none, (.assign (.tmp 35))⟩])
       .ret)))))
theorem w39 {args : Array Value} {H : AH} {Φ : Value → AH → Prop} (h : rW Try.prog k39 [] (fin Try.prog [(.tmp 2)] Φ) (tm0 args) H) : CallsA Try.prog 39 args H Φ :=
  CallsA.w k39 [(.tmp 2)] (fun _ => []) Try.func39 rfl rfl (by kernel_rfl) (by kernel_rfl) h

/-- spec.l1Max -/
def k112 : KC :=
  (.seq
   (.ops [⟨some 4, none, (.assign (.const (.int .i64 0)))⟩])
   (.seq
    (.seq
     (.ops [⟨some 5, none, (.move (.tmp 0))⟩,
       ⟨some 6, none, (.move (.tmp 1))⟩,
       ⟨some 7, none, (.binOp .gtr 3 (.tmp 5) (.tmp 6) 3)⟩])
     (.cond (.tmp 7)
      (.seq
       (.ops [⟨some 8, none, (.move (.tmp 0))⟩,
         ⟨some 4, none, (.assign (.tmp 8))⟩])
       .ret)
      .skip))
    (.seq
     (.ops [⟨some 9, none, (.move (.tmp 1))⟩,
       ⟨some 4, none, (.assign (.tmp 9))⟩])
     .ret)))
theorem w112 {args : Array Value} {H : AH} {Φ : Value → AH → Prop} (h : rW Try.prog k112 [] (fin Try.prog [(.tmp 4)] Φ) (tm0 args) H) : CallsA Try.prog 112 args H Φ :=
  CallsA.w k112 [(.tmp 4)] (fun _ => []) Try.func112 rfl rfl (by kernel_rfl) (by kernel_rfl) h

/-- spec.CodeDeep -/
def k61 : KC :=
  (.seq
   (.ops [⟨some 2, none, (.assign (.const (.int .i64 0)))⟩])
   (.seq
    (.seq
     (.ops [⟨some 7, none, (.move (.tmp 0))⟩,
       ⟨some 8, none, (.call ⟨(.value (.func 39)), #[(.tmp 7)], #[55]⟩)⟩,
       ⟨some 9, none, (.unOp .not 4 (.tmp 8))⟩])
     (.cond (.tmp 9)
      (.seq
       (.ops [⟨some 2, none, (.assign (.const (.int .i64 0)))⟩])
       .ret)
      .skip))
    (.seq
     (.ops [⟨some 11, none, (.move (.tmp 0))⟩,
       ⟨some 12, none, (.call ⟨(.value (.func 104)), #[(.tmp 11)], #[55]⟩)⟩,
       ⟨some 10, none, (.move (.tmp 12))⟩,
       ⟨some 13, none, (.extract (.tmp 10) 0)⟩,
       ⟨some 14, none, (.extract (.tmp 10) 1)⟩,
       ⟨some 3, none, (.assign (.tmp 13))⟩,
       ⟨some 4, none, (.assign (.tmp 14))⟩])
     (.seq
      (.ops [⟨some 5, none, (.assign (.const (.int .i64 0)))⟩])
      (.seq
       (.seq
        (.ops [⟨some 6, none, (.assign (.const (.int .i64 0)))⟩])
        (.block 0
         (.loop
          (.seq
           (.seq
            (.ops [⟨some 15, none, (.move (.tmp 6))⟩,
              ⟨some 16, none, (.move (.tmp 3))⟩,
              ⟨some 17, none, (.call ⟨(.builtin .len), #[(.tmp 16)], #[43]⟩)⟩,
              ⟨some 18, none, (.binOp .lss 3 (.tmp 15) (.tmp 17) 3)⟩])
            (.cond (.tmp 18)
             .skip
             (.exit 0)))
           (.seq
            (.block 1
             (.ops [⟨some 21, none, (.move (.tmp 5))⟩,
               ⟨some 22, none, (.move (.tmp 3))⟩,
               ⟨some 23, none, (.move (.tmp 6))⟩,
               ⟨some 24, none, (.indexAddr 43 (.tmp 22) (.tmp 23))⟩,
               ⟨some 25, none, (.load 3 (.tmp 24))⟩,
               ⟨some 26, none, (.call ⟨(.value (.func 112)), #[(.tmp 21), (.tmp 25)], #[3, 3]⟩)⟩,
               ⟨some 5, none, (.assign (.tmp 26))⟩]))
            (.ops [⟨some 19, none, (.move (.tmp 6))⟩,
              ⟨some 20, none, (.binOp .add 3 (.tmp 19) (.const (.int .i64 1)) 3)⟩,
              ⟨some 6, none, (.assign (.tmp 20))⟩]))))))
       (.seq
        (.ops [⟨some 27, none, (.move (.tmp 5))⟩,
          ⟨some 2, none, (.assign (.tmp 27))⟩])
        .ret))))))
theorem w61 {args : Array Value} {H : AH} {Φ : Value → AH → Prop} (h : rW Try.prog k61 [] (fin Try.prog [(.tmp 2)] Φ) (tm0 args) H) : CallsA Try.prog 61 args H Φ :=
  CallsA.w k61 [(.tmp 2)] (fun _ => []) Try.func61 rfl rfl (by kernel_rfl) (by kernel_rfl) h

/-- impl.within -/
def k106 : KC :=
  (.seq
   (.ops [⟨some 6, none, (.assign (.const (.bool false)))⟩])
   (.seq
    (.ops [⟨some 7, none, (.move (.tmp 0))⟩,
      ⟨some 8, none, (.move (.tmp 1))⟩,
      ⟨some 9, none, (.binOp .geq 3 (.tmp 7) (.tmp 8) 3)⟩,
      ⟨some 10, none, (.move (.tmp 9))⟩,
      ⟨some 11, (some (10, true)), (.move (.tmp 0))⟩,
      ⟨some 12, (some (10, true)), (.move (.tmp 2))⟩,
      ⟨some 13, (some (10, true)), (.binOp .leq 3 (.tmp 11) (.tmp 12) 3)⟩,
      ⟨some 14, none, (.pick (.tmp 10) (.tmp 13) (.const (.bool false)))⟩,
      ⟨some 6, none, (.assign (.tmp 14))⟩])
    .ret))
theorem w106 {args : Array Value} {H : AH} {Φ : Value → AH → Prop} (h : rW Try.prog k106 [] (fin Try.prog [(.tmp 6)] Φ) (tm0 args) H) : CallsA Try.prog 106 args H Φ :=
  CallsA.w k106 [(.tmp 6)] (fun _ => []) Try.func106 rfl rfl (by kernel_rfl) (by kernel_rfl) h

/-- slices.IndexFunc[[]impl.Instr,impl.Instr] -/
def k163 : KC :=
  (.seq
   (.ops [⟨some 4, none, (.assign (.const (.int .i64 0)))⟩])
   (.seq
    (.seq
     (.ops [⟨some 6, none, (.move (.tmp 0))⟩,
       ⟨some 7, none, (.call ⟨(.builtin .len), #[(.tmp 6)], #[55]⟩)⟩,
       ⟨some 8, none, (.move (.const (.int .i64 0)))⟩])
     (.block 0
      (.loop
       (.seq
        (.ops [⟨some 9, none, (.binOp .lss 3 (.tmp 8) (.tmp 7) 3)⟩])
        (.seq
         (.cond (.tmp 9)
          .skip
          (.exit 0))
         (.seq
          (.block 1
           (.seq
            (.ops [⟨some 10, none, (.move (.tmp 8))⟩,
              ⟨some 5, none, (.assign (.tmp 10))⟩])
            (.seq
             (.ops [⟨some 11, none, (.move (.tmp 1))⟩,
               ⟨some 12, none, (.move (.tmp 0))⟩,
               ⟨some 13, none, (.move (.tmp 5))⟩,
               ⟨some 14, none, (.indexAddr 55 (.tmp 12) (.tmp 13))⟩,
               ⟨some 15, none, (.load 123 (.tmp 14))⟩,
               ⟨some 16, none, (.call ⟨(.value (.tmp 11)), #[(.tmp 15)], #[123]⟩)⟩])
             (.cond (.tmp 16)
              (.seq
               (.ops [⟨some 17, none, (.move (.tmp 5))⟩,
                 ⟨some 4, none, (.assign (.tmp 17))⟩])
               .ret)
              .skip))))
          (.ops [⟨some 18, none, (.binOp .add 3 (.tmp 8) (.const (.int .i64 1)) 3)⟩,
            ⟨some 8, none, (.move (.tmp 18))⟩])))))))
    (.seq
     (.ops [⟨some 4, none, (.assign (.const (.int .i64 (-1))))⟩])
     .ret)))
theorem w163 {args : Array Value} {H : AH} {Φ : Value → AH → Prop} (h : rW Try.prog k163 [] (fin Try.prog [(.tmp 4)] Φ) (tm0 args) H) : CallsA Try.prog 163 args H Φ :=
  CallsA.w k163 [(.tmp 4)] (fun _ => []) Try.func163 rfl rfl (by kernel_rfl) (by kernel_rfl) h

/-- slices.ContainsFunc[[]impl.Instr,impl.Instr] -/
def k107 : KC :=
  (.seq
   (.ops [⟨some 4, none, (.assign (.const (.bool false)))⟩])
   (.seq
    (.ops [⟨some 5, none, (.move (.tmp 0))⟩,
      ⟨some 6, none, (.move (.tmp 1))⟩,
      ⟨some 7, none, (.call ⟨(.value (.func 163)), #[(.tmp 5), (.tmp 6)], #[55, 120]⟩)⟩,
      ⟨some 8, none, (.binOp .geq 3 (.tmp 7) (.const (.int .i64 0)) 3)⟩,
      ⟨some 4, none, (.assign (.tmp 8))⟩])
    .ret))
theorem w107 {args : Array Value} {H : AH} {Φ : Value → AH → Prop} (h : rW Try.prog k107 [] (fin Try.prog [(.tmp 4)] Φ) (tm0 args) H) : CallsA Try.prog 107 args H Φ :=
  CallsA.w k107 [(.tmp 4)] (fun _ => []) Try.func107 rfl rfl (by kernel_rfl) (by kernel_rfl) h

/-- slices.IndexFunc[[]int,int] -/
def k170 : KC :=
  (.seq
   (.ops [⟨some 4, none, (.assign (.const (.int .i64 0)))⟩])
   (.seq
    (.seq
     (.ops [⟨some 6, none, (.move (.tmp 0))⟩,
       ⟨some 7, none, (.call ⟨(.builtin .len), #[(.tmp 6)], #[43]⟩)⟩,
       ⟨some 8, none, (.move (.const (.int .i64 0)))⟩])
     (.block 0
      (.loop
       (.seq
        (.ops [⟨some 9, none, (.binOp .lss 3 (.tmp 8) (.tmp 7) 3)⟩])
        (.seq
         (.cond (.tmp 9)
          .skip
          (.exit 0))
         (.seq
          (.block 1
           (.seq
            (.ops [⟨some 10, none, (.move (.tmp 8))⟩,
              ⟨some 5, none, (.assign (.tmp 10))⟩])
            (.seq
             (.ops [⟨some 11, none, (.move (.tmp 1))⟩,
               ⟨some 12, none, (.move (.tmp 0))⟩,
               ⟨some 13, none, (.move (.tmp 5))⟩,
               ⟨some 14, none, (.indexAddr 43 (.tmp 12) (.tmp 13))⟩,
               ⟨some 15, none, (.load 3 (.tmp 14))⟩,
               ⟨some 16, none, (.call ⟨(.value (.tmp 11)), #[(.tmp 15)], #[3]⟩)⟩])
             (.cond (.tmp 16)
              (.seq
               (.ops [⟨some 17, none, (.move (.tmp 5))⟩,
                 ⟨some 4, none, (.assign (.tmp 17))⟩])
               .ret)
              .skip))))
          (.ops [⟨some 18, none, (.binOp .add 3 (.tmp 8) (.const (.int .i64 1)) 3)⟩,
            ⟨some 8, none, (.move (.tmp 18))⟩])))))))
    (.seq
     (.ops [⟨some 4, none, (.assign (.const (.int .i64 (-1))))⟩])
     .ret)))
theorem w170 {args : Array Value} {H : AH} {Φ : Value → AH → Prop} (h : rW Try.prog k170 [] (fin Try.prog [(.tmp 4)] Φ) (tm0 args) H) : CallsA Try.prog 170 args H Φ :=
  CallsA.w k170 [(.tmp 4)] (fun _ => []) Try.func170 rfl rfl (by kernel_rfl) (by kernel_rfl) h

/-- slices.ContainsFunc[[]int,int] -/
def k118 : KC :=
  (.seq
   (.ops [⟨some 4, none, (.assign (.const (.bool false)))⟩])
   (.seq
    (.ops [⟨some 5, none, (.move (.tmp 0))⟩,
      ⟨some 6, none, (.move (.tmp 1))⟩,
      ⟨some 7, none, (.call ⟨(.value (.func 170)), #[(.tmp 5), (.tmp 6)], #[43, 101]⟩)⟩,
      ⟨some 8, none, (.binOp .geq 3 (.tmp 7) (.const (.int .i64 0)) 3)⟩,
      ⟨some 4, none, (.assign (.tmp 8))⟩])
    .ret))
theorem w118 {args : Array Value} {H : AH} {Φ : Value → AH → Prop} (h : rW Try.prog k118 [] (fin Try.prog [(.tmp 4)] Φ) (tm0 args) H) : CallsA Try.prog 118 args H Φ :=
  CallsA.w k118 [(.tmp 4)] (fun _ => []) Try.func118 rfl rfl (by kernel_rfl) (by kernel_rfl) h

/-- impl.NumOk -/
def k120 : KC :=
  (.seq
   (.ops [⟨some 2, none, (.assign (.const (.bool false)))⟩])
   (.seq
    (.ops [⟨some 3, none, (.move (.tmp 0))⟩,
      ⟨some 4, none, (.call ⟨(.value (.func 106)), #[(.tmp 3), (.const (.int .i64 (-1000000000000))), (.const (.int .i64 1000000000000))], #[3, 3, 3]⟩)⟩,
      ⟨some 2, none, (.assign (.tmp 4))⟩])
    .ret))
theorem w120 {args : Array Value} {H : AH} {Φ : Value → AH → Prop} (h : rW Try.prog k120 [] (fin Try.prog [(.tmp 2)] Φ) (tm0 args) H) : CallsA Try.prog 120 args H Φ :=
  CallsA.w k120 [(.tmp 2)] (fun _ => []) Try.func120 rfl rfl (by kernel_rfl) (by kernel_rfl) h

/-- impl.numsOk$1 -/
def k185 : KC :=
  (.seq
   (.ops [⟨some 2, none, (.assign (.const (.bool false)))⟩])
   (.seq
    (.ops [⟨some 3, none, (.move (.tmp 0))⟩,
      ⟨some 4, none, (.call ⟨(.value (.func 120)), #[(.tmp 3)], #[3]⟩)⟩,
      ⟨some 5, none, (.unOp .not 4 (.tmp 4))⟩,
      ⟨some 2, none, (.assign (.tmp 5))⟩])
    .ret))
theorem w185 {args : Array Value} {H : AH} {Φ : Value → AH → Prop} (h : rW Try.prog k185 [] (fin Try.prog [(.tmp 2)] Φ) (tm0 args) H) : CallsA Try.prog 185 args H Φ :=
  CallsA.w k185 [(.tmp 2)] (fun _ => []) Try.func185 rfl rfl (by kernel_rfl) (by kernel_rfl) h

/-- impl.numsOk -/
def k164 : KC :=
  (.seq
   (.ops [⟨some 2, none, (.assign (.const (.bool false)))⟩])
   (.seq
    (.ops [⟨some 3, none, (.move (.tmp 0))⟩,
      ⟨some 4, none, (.call ⟨(.builtin .len), #[(.tmp 3)], #[43]⟩)⟩,
      ⟨some 5, none, (.call ⟨(.value (.func 106)), #[(.tmp 4), (.const (.int .i64 1)), (.const (.int .i64 300))], #[3, 3, 3]⟩)⟩,
      ⟨some 6, none, (.move (.tmp 5))⟩,
      ⟨some 7, (some (6, true)), (.move (.tmp 0))⟩,
      ⟨some 8, (some (6, true)), (.call ⟨(.value (.func 118)), #[(.tmp 7), (.func 185)], #[43, 101]⟩)⟩,
      ⟨some 9, (some (6, true)), (.unOp .not 4 (.tmp 8))⟩,
      ⟨some 10, none, (.pick (.tmp 6) (.tmp 9) (.const (.bool false)))⟩,
      ⟨some 2, none, (.assign (.tmp 10))⟩])
    .ret))
theorem w164 {args : Array Value} {H : AH} {Φ : Value → AH → Prop} (h : rW Try.prog k164 [] (fin Try.prog [(.tmp 2)] Φ) (tm0 args) H) : CallsA Try.prog 164 args H Φ :=
  CallsA.w k164 [(.tmp 2)] (fun _ => []) Try.func164 rfl rfl (by kernel_rfl) (by kernel_rfl) h

/-- impl.hasSign -/
def k152 : KC :=
  (.seq
   (.ops [⟨some 4, none, (.assign (.const (.bool false)))⟩])
   (.seq
    (.seq
     (.ops [⟨some 5, none, (.assign (.const (.int .i64 0)))⟩])
     (.block 0
      (.loop
       (.seq
        (.seq
         (.ops [⟨some 6, none, (.move (.tmp 5))⟩,
           ⟨some 7, none, (.move (.tmp 0))⟩,
           ⟨some 8, none, (.call ⟨(.builtin .len), #[(.tmp 7)], #[9]⟩)⟩,
           ⟨some 9, none, (.binOp .lss 3 (.tmp 6) (.tmp 8) 3)⟩])
         (.cond (.tmp 9)
          .skip
          (.exit 0)))
        (.seq
         (.block 1
          (.seq
           (.ops [⟨some 12, none, (.move (.tmp 0))⟩,
             ⟨some 13, none, (.move (.tmp 5))⟩,
             ⟨some 14, none, (.index 9 (.tmp 12) (.tmp 13))⟩,
             ⟨some 15, none, (.convert 5 3 (.tmp 14))⟩,
             ⟨some 16, none, (.move (.tmp 1))⟩,
             ⟨some 17, none, (.binOp .eql 3 (.tmp 15) (.tmp 16) 3)⟩])
           (.cond (.tmp 17)
            (.seq
             (.ops [⟨some 4, none, (.assign (.const (.bool true)))⟩])
             .ret)
            .skip)))
         (.ops [⟨some 10, none, (.move (.tmp 5))⟩,
           ⟨some 11, none, (.binOp .add 3 (.tmp 10) (.const (.int .i64 1)) 3)⟩,
           ⟨some 5, none, (.assign (.tmp 11))⟩]))))))
    (.seq
     (.ops [⟨some 4, none, (.assign (.const (.bool false)))⟩])
     .ret)))
theorem w152 {args : Array Value} {H : AH} {Φ : Value → AH → Prop} (h : rW Try.prog k152 [] (fin Try.prog [(.tmp 4)] Φ) (tm0 args) H) : CallsA Try.prog 152 args H Φ :=
  CallsA.w k152 [(.tmp 4)] (fun _ => []) Try.func152 rfl rfl (by kernel_rfl) (by kernel_rfl) h

/-- impl.twoSign -/
def k147 : KC :=
  (.seq
   (.ops [⟨some 2, none, (.assign (.const (.bool false)))⟩])
   (.seq
    (.ops [⟨some 3, none, (.move (.tmp 0))⟩,
      ⟨some 4, none, (.call ⟨(.value (.func 152)), #[(.const (.string ⟨#[43, 45, 42, 37, 124, 38, 94, 61, 60, 62]⟩)), (.tmp 3)], #[9, 3]⟩)⟩,
      ⟨some 2, none, (.assign (.tmp 4))⟩])
    .ret))
theorem w147 {args : Array Value} {H : AH} {Φ : Value → AH → Prop} (h : rW Try.prog k147 [] (fin Try.prog [(.tmp 2)] Φ) (tm0 args) H) : CallsA Try.prog 147 args H Φ :=
  CallsA.w k147 [(.tmp 2)] (fun _ => []) Try.func147 rfl rfl (by kernel_rfl) (by kernel_rfl) h

/-- impl.oneSign -/
def k186 : KC :=
  (.seq
   (.ops [⟨some 2, none, (.assign (.const (.bool false)))⟩])
   (.seq
    (.ops [⟨some 3, none, (.move (.tmp 0))⟩,
      ⟨some 4, none, (.call ⟨(.value (.func 152)), #[(.const (.string ⟨#[43, 45, 42, 124, 126]⟩)), (.tmp 3)], #[9, 3]⟩)⟩,
      ⟨some 2, none, (.assign (.tmp 4))⟩])
    .ret))
theorem w186 {args : Array Value} {H : AH} {Φ : Value → AH → Prop} (h : rW Try.prog k186 [] (fin Try.prog [(.tmp 2)] Φ) (tm0 args) H) : CallsA Try.prog 186 args H Φ :=
  CallsA.w k186 [(.tmp 2)] (fun _ => []) Try.func186 rfl rfl (by kernel_rfl) (by kernel_rfl) h

/-- impl.FunOne -/
def k165 : KC :=
  (.seq
   (.ops [⟨some 1, none, (.box 121 (.tmp 0))⟩,
     ⟨some 2, none, (.assign (.const (.bool false)))⟩])
   (.seq
    (.seq
     (.ops [⟨some 3, none, (.fieldAddr 121 (.tmp 1) 1)⟩,
       ⟨some 4, none, (.load 3 (.tmp 3))⟩])
     (.block 0
      (.seq
       (.ops [⟨some 6, none, (.binOp .eql 3 (.tmp 4) (.const (.int .i64 0)) 3)⟩,
         ⟨some 5, none, (.assign (.tmp 6))⟩])
       (.cond (.tmp 5)
        (.seq
         (.ops [⟨some 7, none, (.fieldAddr 121 (.tmp 1) 2)⟩,
           ⟨some 8, none, (.load 3 (.tmp 7))⟩,
           ⟨some 9, none, (.binOp .eql 3 (.tmp 8) (.const (.int .i64 0)) 3)⟩,
           ⟨some 10, none, (.move (.tmp 9))⟩,
           ⟨some 11, (some (10, true)), (.fieldAddr 121 (.tmp 1) 0)⟩,
           ⟨some 12, (some (10, true)), (.load 3 (.tmp 11))⟩,
           ⟨some 13, (some (10, true)), (.call ⟨(.value (.func 186)), #[(.tmp 12)], #[3]⟩)⟩,
           ⟨some 14, (some (10, true)), (.move (.tmp 13))⟩,
           ⟨some 15, (some (14, false)), (.fieldAddr 121 (.tmp 1) 0)⟩,
           ⟨some 16, (some (14, false)), (.load 3 (.tmp 15))⟩,
           ⟨some 17, (some (14, false)), (.call ⟨(.value (.func 152)), #[(.const (.string ⟨#[105, 35, 44, 114, 122, 103]⟩)), (.tmp 16)], #[9, 3]⟩)⟩,
           ⟨some 18, (some (10, true)), (.pick (.tmp 14) (.const (.bool true)) (.tmp 17))⟩,
           ⟨some 19, none, (.pick (.tmp 10) (.tmp 18) (.const (.bool false)))⟩,
           ⟨some 2, none, (.assign (.tmp 19))⟩])
         .ret)
        (.seq
         (.seq
          (.ops [⟨some 21, none, (.binOp .eql 3 (.tmp 4) (.const (.int .i64 47)) 3)⟩,
            ⟨some 20, none, (.assign (.tmp 21))⟩])
          (.cond (.tmp 20)
           .skip
           (.ops [⟨some 22, none, (.binOp .eql 3 (.tmp 4) (.const (.int .i64 92)) 3)⟩,
             ⟨some 20, none, (.assign (.tmp 22))⟩])))
         (.cond (.tmp 20)
          (.seq
           (.ops [⟨some 23, none, (.fieldAddr 121 (.tmp 1) 2)⟩,
             ⟨some 24, none, (.load 3 (.tmp 23))⟩,
             ⟨some 25, none, (.binOp .eql 3 (.tmp 24) (.const (.int .i64 0)) 3)⟩,
             ⟨some 26, none, (.move (.tmp 25))⟩,
             ⟨some 27, (some (26, true)), (.fieldAddr 121 (.tmp 1) 0)⟩,
             ⟨some 28, (some (26, true)), (.load 3 (.tmp 27))⟩,
             ⟨some 29, (some (26, true)), (.call ⟨(.value (.func 147)), #[(.tmp 28)], #[3]⟩)⟩,
             ⟨some 30, none, (.pick (.tmp 26) (.tmp 29) (.const (.bool false)))⟩,
             ⟨some 2, none, (.assign (.tmp 30))⟩])
           .ret)
          .skip))))))
    (.seq
     (.ops [⟨some 2, none, (.assign (.const (.bool false)))⟩])
     .ret)))
theorem w165 {args : Array Value} {H : AH} {Φ : Value → AH → Prop} (h : rW Try.prog k165 [] (fin Try.prog [(.tmp 2)] Φ) (tm0 args) H) : CallsA Try.prog 165 args H Φ :=
  CallsA.w k165 [(.tmp 2)] (fun _ => []) Try.func165 rfl rfl (by kernel_rfl) (by kernel_rfl) h

/-- impl.FunTwo -/
def k166 : KC :=
  (.seq
   (.ops [⟨some 1, none, (.box 121 (.tmp 0))⟩,
     ⟨some 2, none, (.assign (.const (.bool false)))⟩])
   (.seq
    (.seq
     (.ops [⟨some 3, none, (.fieldAddr 121 (.tmp 1) 1)⟩,
       ⟨some 4, none, (.load 3 (.tmp 3))⟩])
     (.block 0
      (.seq
       (.ops [⟨some 6, none, (.binOp .eql 3 (.tmp 4) (.const (.int .i64 0)) 3)⟩,
         ⟨some 5, none, (.assign (.tmp 6))⟩])
       (.cond (.tmp 5)
        (.seq
         (.ops [⟨some 7, none, (.fieldAddr 121 (.tmp 1) 2)⟩,
           ⟨some 8, none, (.load 3 (.tmp 7))⟩,
           ⟨some 9, none, (.binOp .eql 3 (.tmp 8) (.const (.int .i64 0)) 3)⟩,
           ⟨some 10, none, (.move (.tmp 9))⟩,
           ⟨some 11, (some (10, true)), (.fieldAddr 121 (.tmp 1) 0)⟩,
           ⟨some 12, (some (10, true)), (.load 3 (.tmp 11))⟩,
           ⟨some 13, (some (10, true)), (.call ⟨(.value (.func 147)), #[(.tmp 12)], #[3]⟩)⟩,
           ⟨some 14, (some (10, true)), (.move (.tmp 13))⟩,
           ⟨some 15, (some (14, false)), (.fieldAddr 121 (.tmp 1) 0)⟩,
           ⟨some 16, (some (14, false)), (.load 3 (.tmp 15))⟩,
           ⟨some 17, (some (14, false)), (.call ⟨(.value (.func 152)), #[(.const (.string ⟨#[35, 44, 116, 100, 114, 64, 63, 36, 101]⟩)), (.tmp 16)], #[9, 3]⟩)⟩,
           ⟨some 18, (some (10, true)), (.pick (.tmp 14) (.const (.bool true)) (.tmp 17))⟩,
           ⟨some 19, none, (.pick (.tmp 10) (.tmp 18) (.const (.bool false)))⟩,
           ⟨some 2, none, (.assign (.tmp 19))⟩])
         .ret)
        (.seq
         (.ops [⟨some 21, none, (.binOp .eql 3 (.tmp 4) (.const (.int .i64 111)) 3)⟩,
           ⟨some 20, none, (.assign (.tmp 21))⟩])
         (.cond (.tmp 20)
          (.seq
           (.ops [⟨some 22, none, (.fieldAddr 121 (.tmp 1) 2)⟩,
             ⟨some 23, none, (.load 3 (.tmp 22))⟩,
             ⟨some 24, none, (.binOp .eql 3 (.tmp 23) (.const (.int .i64 0)) 3)⟩,
             ⟨some 25, none, (.move (.tmp 24))⟩,
             ⟨some 26, (some (25, true)), (.fieldAddr 121 (.tmp 1) 0)⟩,
             ⟨some 27, (some (25, true)), (.load 3 (.tmp 26))⟩,
             ⟨some 28, (some (25, true)), (.call ⟨(.value (.func 147)), #[(.tmp 27)], #[3]⟩)⟩,
             ⟨some 29, none, (.pick (.tmp 25) (.tmp 28) (.const (.bool false)))⟩,
             ⟨some 2, none, (.assign (.tmp 29))⟩])
           .ret)
          (.seq
           (.ops [⟨some 31, none, (.binOp .eql 3 (.tmp 4) (.const (.int .i64 46)) 3)⟩,
             ⟨some 30, none, (.assign (.tmp 31))⟩])
           (.cond (.tmp 30)
            (.seq
             (.ops [⟨some 32, none, (.fieldAddr 121 (.tmp 1) 0)⟩,
               ⟨some 33, none, (.load 3 (.tmp 32))⟩,
               ⟨some 34, none, (.call ⟨(.value (.func 147)), #[(.tmp 33)], #[3]⟩)⟩,
               ⟨some 35, none, (.move (.tmp 34))⟩,
               ⟨some 36, (some (35, true)), (.fieldAddr 121 (.tmp 1) 2)⟩,
               ⟨some 37, (some (35, true)), (.load 3 (.tmp 36))⟩,
               ⟨some 38, (some (35, true)), (.call ⟨(.value (.func 147)), #[(.tmp 37)], #[3]⟩)⟩,
               ⟨some 39, none, (.pick (.tmp 35) (.tmp 38) (.const (.bool false)))⟩,
               ⟨some 2, none, (.assign (.tmp 39))⟩])
             .ret)
            .skip))))))))
    (.seq
     (.ops [⟨some 2, none, (.assign (.const (.bool false)))⟩])
     .ret)))
theorem w166 {args : Array Value} {H : AH} {Φ : Value → AH → Prop} (h : rW Try.prog k166 [] (fin Try.prog [(.tmp 2)] Φ) (tm0 args) H) : CallsA Try.prog 166 args H Φ :=
  CallsA.w k166 [(.tmp 2)] (fun _ => []) Try.func166 rfl rfl (by kernel_rfl) (by kernel_rfl) h

/-- impl.instrOk -/
def k109 : KC :=
  (.seq
   (.ops [⟨some 1, none, (.box 123 (.tmp 0))⟩,
     ⟨some 2, none, (.assign (.const (.bool false)))⟩])
   (.seq
    (.ops [⟨some 6, none, (.fieldAddr 123 (.tmp 1) 1)⟩,
      ⟨some 7, none, (.load 3 (.tmp 6))⟩,
      ⟨some 8, none, (.binOp .eql 3 (.tmp 7) (.const (.int .i64 0)) 3)⟩,
      ⟨some 9, none, (.fieldAddr 123 (.tmp 1) 2)⟩,
      ⟨some 10, none, (.load 121 (.tmp 9))⟩,
      ⟨some 11, none, (.build 121 #[])⟩,
      ⟨some 12, none, (.binOp .eql 121 (.tmp 10) (.tmp 11) 121)⟩,
      ⟨some 13, none, (.fieldAddr 123 (.tmp 1) 3)⟩,
      ⟨some 14, none, (.load 43 (.tmp 13))⟩,
      ⟨some 15, none, (.call ⟨(.builtin .len), #[(.tmp 14)], #[43]⟩)⟩,
      ⟨some 16, none, (.binOp .eql 3 (.tmp 15) (.const (.int .i64 0)) 3)⟩,
      ⟨some 3, none, (.assign (.tmp 8))⟩,
      ⟨some 4, none, (.assign (.tmp 12))⟩,
      ⟨some 5, none, (.assign (.tmp 16))⟩])
    (.seq
     (.seq
      (.ops [⟨some 17, none, (.fieldAddr 123 (.tmp 1) 0)⟩,
        ⟨some 18, none, (.load 3 (.tmp 17))⟩])
      (.block 0
       (.seq
        (.ops [⟨some 20, none, (.binOp .eql 3 (.tmp 18) (.const (.int .i64 1)) 3)⟩,
          ⟨some 19, none, (.assign (.tmp 20))⟩])
        (.cond (.tmp 19)
         (.ops [⟨some 21, none, (.fieldAddr 123 (.tmp 1) 3)⟩,
           ⟨some 22, none, (.load 43 (.tmp 21))⟩,
           ⟨some 23, none, (.call ⟨(.value (.func 164)), #[(.tmp 22)], #[43]⟩)⟩,
           ⟨some 5, none, (.assign (.tmp 23))⟩])
         (.seq
          (.seq
           (.ops [⟨some 25, none, (.binOp .eql 3 (.tmp 18) (.const (.int .i64 2)) 3)⟩,
             ⟨some 24, none, (.assign (.tmp 25))⟩])
           (.cond (.tmp 24)
            .skip
            (.ops [⟨some 26, none, (.binOp .eql 3 (.tmp 18) (.const (.int .i64 3)) 3)⟩,
              ⟨some 24, none, (.assign (.tmp 26))⟩])))
          (.cond (.tmp 24)
           (.ops [⟨some 27, none, (.fieldAddr 123 (.tmp 1) 1)⟩,
             ⟨some 28, none, (.load 3 (.tmp 27))⟩,
             ⟨some 29, none, (.call ⟨(.value (.func 106)), #[(.tmp 28), (.const (.int .i64 0)), (.const (.int .i64 25))], #[3, 3, 3]⟩)⟩,
             ⟨some 3, none, (.assign (.tmp 29))⟩])
           (.seq
            (.ops [⟨some 31, none, (.binOp .eql 3 (.tmp 18) (.const (.int .i64 4)) 3)⟩,
              ⟨some 30, none, (.assign (.tmp 31))⟩])
            (.cond (.tmp 30)
             (.ops [⟨some 32, none, (.fieldAddr 123 (.tmp 1) 2)⟩,
               ⟨some 33, none, (.load 121 (.tmp 32))⟩,
               ⟨some 34, none, (.call ⟨(.value (.func 165)), #[(.tmp 33)], #[121]⟩)⟩,
               ⟨some 4, none, (.assign (.tmp 34))⟩])
             (.seq
              (.ops [⟨some 36, none, (.binOp .eql 3 (.tmp 18) (.const (.int .i64 5)) 3)⟩,
                ⟨some 35, none, (.assign (.tmp 36))⟩])
              (.cond (.tmp 35)
               (.ops [⟨some 37, none, (.fieldAddr 123 (.tmp 1) 2)⟩,
                 ⟨some 38, none, (.load 121 (.tmp 37))⟩,
                 ⟨some 39, none, (.call ⟨(.value (.func 166)), #[(.tmp 38)], #[121]⟩)⟩,
                 ⟨some 4, none, (.assign (.tmp 39))⟩])
               (.seq
                (.ops [⟨some 2, none, (.assign (.const (.bool false)))⟩])
                .ret)))))))))))
     (.seq
      (.ops [⟨some 40, none, (.move (.tmp 3))⟩,
        ⟨some 41, none, (.move (.tmp 40))⟩,
        ⟨some 42, (some (41, true)), (.move (.tmp 4))⟩,
        ⟨some 43, none, (.pick (.tmp 41) (.tmp 42) (.const (.bool false)))⟩,
        ⟨some 44, none, (.move (.tmp 43))⟩,
        ⟨some 45, (some (44, true)), (.move (.tmp 5))⟩,
        ⟨some 46, none, (.pick (.tmp 44) (.tmp 45) (.const (.bool false)))⟩,
        ⟨some 2, none, (.assign (.tmp 46))⟩])
      .ret))))
theorem w109 {args : Array Value} {H : AH} {Φ : Value → AH → Prop} (h : rW Try.prog k109 [] (fin Try.prog [(.tmp 2)] Φ) (tm0 args) H) : CallsA Try.prog 109 args H Φ :=
  CallsA.w k109 [(.tmp 2)] (fun i => if i = 1 then [(1, 0), (4, 0), (8, 0)] else []) Try.func109 rfl rfl (by kernel_rfl) (by kernel_rfl) h

/-- impl.CodeOk$1 -/
def k108 : KC :=
  (.seq
   (.ops [⟨some 1, none, (.box 123 (.tmp 0))⟩,
     ⟨some 2, none, (.assign (.const (.bool false)))⟩])
   (.seq
    (.ops [⟨some 3, none, (.load 123 (.tmp 1))⟩,
      ⟨some 4, none, (.call ⟨(.value (.func 109)), #[(.tmp 3)], #[123]⟩)⟩,
      ⟨some 5, none, (.unOp .not 4 (.tmp 4))⟩,
      ⟨some 2, none, (.assign (.tmp 5))⟩])
    .ret))
theorem w108 {args : Array Value} {H : AH} {Φ : Value → AH → Prop} (h : rW Try.prog k108 [] (fin Try.prog [(.tmp 2)] Φ) (tm0 args) H) : CallsA Try.prog 108 args H Φ :=
  CallsA.w k108 [(.tmp 2)] (fun _ => []) Try.func108 rfl rfl (by kernel_rfl) (by kernel_rfl) h

/-- impl.takes -/
def k167 : KC :=
  (.seq
   (.ops [⟨some 1, none, (.box 123 (.tmp 0))⟩,
     ⟨some 2, none, (.assign (.const (.int .i64 0)))⟩])
   (.seq
    (.seq
     (.ops [⟨some 3, none, (.fieldAddr 123 (.tmp 1) 0)⟩,
       ⟨some 4, none, (.load 3 (.tmp 3))⟩])
     (.block 0
      (.seq
       (.seq
        (.ops [⟨some 6, none, (.binOp .eql 3 (.tmp 4) (.const (.int .i64 3)) 3)⟩,
          ⟨some 5, none, (.assign (.tmp 6))⟩])
        (.cond (.tmp 5)
         .skip
         (.ops [⟨some 7, none, (.binOp .eql 3 (.tmp 4) (.const (.int .i64 4)) 3)⟩,
           ⟨some 5, none, (.assign (.tmp 7))⟩])))
       (.cond (.tmp 5)
        (.seq
         (.ops [⟨some 2, none, (.assign (.const (.int .i64 1)))⟩])
         .ret)
        (.seq
         (.ops [⟨some 9, none, (.binOp .eql 3 (.tmp 4) (.const (.int .i64 5)) 3)⟩,
           ⟨some 8, none, (.assign (.tmp 9))⟩])
         (.cond (.tmp 8)
          (.seq
           (.ops [⟨some 2, none, (.assign (.const (.int .i64 2)))⟩])
           .ret)
          .skip))))))
    (.seq
     (.ops [⟨some 2, none, (.assign (.const (.int .i64 0)))⟩])
     .ret)))
theorem w167 {args : Array Value} {H : AH} {Φ : Value → AH → Prop} (h : rW Try.prog k167 [] (fin Try.prog [(.tmp 2)] Φ) (tm0 args) H) : CallsA Try.prog 167 args H Φ :=
  CallsA.w k167 [(.tmp 2)] (fun _ => []) Try.func167 rfl rfl (by kernel_rfl) (by kernel_rfl) h

/-- impl.deep -/
def k110 : KC :=
  (.seq
   (.ops [⟨some 2, none, (.assign (.const (.slice none 0 0)))⟩,
     ⟨some 3, none, (.assign (.const (.bool false)))⟩])
   (.seq
    (.ops [⟨some 7, none, (.buildSlice 43 1 #[(0, (.const (.int .i64 0)))])⟩,
      ⟨some 4, none, (.assign (.tmp 7))⟩])
    (.seq
     (.seq
      (.ops [⟨some 8, none, (.move (.tmp 0))⟩,
        ⟨some 9, none, (.call ⟨(.builtin .len), #[(.tmp 8)], #[55]⟩)⟩,
        ⟨some 10, none, (.move (.const (.int .i64 0)))⟩])
      (.block 0
       (.loop
        (.seq
         (.ops [⟨some 11, none, (.binOp .lss 3 (.tmp 10) (.tmp 9) 3)⟩])
         (.seq
          (.cond (.tmp 11)
           .skip
           (.exit 0))
          (.seq
           (.block 1
            (.seq
             (.ops [⟨some 12, none, (.move (.tmp 10))⟩,
               ⟨some 13, none, (.indexAddr 55 (.tmp 8) (.tmp 10))⟩,
               ⟨some 14, none, (.load 123 (.tmp 13))⟩,
               ⟨some 6, none, (.alloc 123)⟩,
               ⟨some 5, none, (.assign (.tmp 12))⟩,
               ⟨none, none, (.store 123 (.tmp 6) (.tmp 14))⟩])
             (.seq
              (.seq
               (.draw #[] [(3, 0), (3, 6), (4, 0)]
                 [⟨some 15, none, (.move (.tmp 4))⟩,
                 ⟨some 16, none, (.move (.tmp 5))⟩,
                 ⟨some 17, none, (.indexAddr 43 (.tmp 15) (.tmp 16))⟩,
                 ⟨some 18, none, (.load 3 (.tmp 17))⟩,
                 ⟨some 19, none, (.load 123 (.tmp 6))⟩,
                 ⟨some 20, none, (.call ⟨(.value (.func 167)), #[(.tmp 19)], #[123]⟩)⟩,
                 ⟨some 21, none, (.binOp .lss 3 (.tmp 18) (.tmp 20) 3)⟩])
               (.cond (.tmp 21)
                (.seq
                 (.ops [⟨some 2, none, (.assign (.const (.slice none 0 0)))⟩,
                   ⟨some 3, none, (.assign (.const (.bool false)))⟩])
                 .ret)
                .skip))
              (.draw #[] [(4, 0), (4, 7), (5, 0)]
                [⟨some 22, none, (.move (.tmp 4))⟩,
                ⟨some 23, none, (.move (.tmp 4))⟩,
                ⟨some 24, none, (.move (.tmp 5))⟩,
                ⟨some 25, none, (.indexAddr 43 (.tmp 23) (.tmp 24))⟩,
                ⟨some 26, none, (.load 3 (.tmp 25))⟩,
                ⟨some 27, none, (.load 123 (.tmp 6))⟩,
                ⟨some 28, none, (.call ⟨(.value (.func 167)), #[(.tmp 27)], #[123]⟩)⟩,
                ⟨some 29, none, (.binOp .sub 3 (.tmp 26) (.tmp 28) 3)⟩,
                ⟨some 30, none, (.binOp .add 3 (.tmp 29) (.const (.int .i64 1)) 3)⟩,
                ⟨some 31, none, (.buildSlice 43 1 #[(0, (.tmp 30))])⟩,
                ⟨some 32, none, (.call ⟨(.builtin .append), #[(.tmp 22), (.tmp 31)], #[43, 43]⟩)⟩,
                ⟨some 4, none, (.assign (.tmp 32))⟩]))))
           (.ops [⟨some 33, none, (.binOp .add 3 (.tmp 10) (.const (.int .i64 1)) 3)⟩,
             ⟨some 10, none, (.move (.tmp 33))⟩])))))))
     (.seq
      (.ops [⟨some 34, none, (.move (.tmp 4))⟩,
        ⟨some 2, none, (.assign (.tmp 34))⟩,
        ⟨some 3, none, (.assign (.const (.bool true)))⟩])
      .ret))))
theorem w110 {args : Array Value} {H : AH} {Φ : Value → AH → Prop} (h : rW Try.prog k110 [] (fin Try.prog [(.tmp 2), (.tmp 3)] Φ) (tm0 args) H) : CallsA Try.prog 110 args H Φ :=
  CallsA.w k110 [(.tmp 2), (.tmp 3)] (fun i => if i = 5 then [(3, 0), (3, 6), (4, 0)] else if i = 7 then [(4, 0), (4, 7), (5, 0)] else []) Try.func110 rfl rfl (by kernel_rfl) (by kernel_rfl) h

/-- impl.CodeOk -/
def k41 : KC :=
  (.seq
   (.ops [⟨some 2, none, (.assign (.const (.bool false)))⟩])
   (.seq
    (.seq
     (.ops [⟨some 5, none, (.move (.tmp 0))⟩,
       ⟨some 6, none, (.call ⟨(.builtin .len), #[(.tmp 5)], #[55]⟩)⟩,
       ⟨some 7, none, (.call ⟨(.value (.func 106)), #[(.tmp 6), (.const (.int .i64 1)), (.const (.int .i64 60))], #[3, 3, 3]⟩)⟩,
       ⟨some 8, none, (.unOp .not 4 (.tmp 7))⟩,
       ⟨some 9, none, (.move (.tmp 8))⟩,
       ⟨some 10, (some (9, false)), (.move (.tmp 0))⟩,
       ⟨some 11, (some (9, false)), (.call ⟨(.value (.func 107)), #[(.tmp 10), (.func 108)], #[55, 120]⟩)⟩,
       ⟨some 12, none, (.pick (.tmp 9) (.const (.bool true)) (.tmp 11))⟩])
     (.cond (.tmp 12)
      (.seq
       (.ops [⟨some 2, none, (.assign (.const (.bool false)))⟩])
       .ret)
      .skip))
    (.seq
     (.ops [⟨some 14, none, (.move (.tmp 0))⟩,
       ⟨some 15, none, (.call ⟨(.value (.func 110)), #[(.tmp 14)], #[55]⟩)⟩,
       ⟨some 13, none, (.move (.tmp 15))⟩,
       ⟨some 16, none, (.extract (.tmp 13) 0)⟩,
       ⟨some 17, none, (.extract (.tmp 13) 1)⟩,
       ⟨some 3, none, (.assign (.tmp 16))⟩,
       ⟨some 4, none, (.assign (.tmp 17))⟩])
     (.seq
      (.ops [⟨some 18, none, (.move (.tmp 4))⟩,
        ⟨some 19, none, (.move (.tmp 18))⟩,
        ⟨some 20, (some (19, true)), (.move (.tmp 3))⟩,
        ⟨some 21, (some (19, true)), (.move (.tmp 0))⟩,
        ⟨some 22, (some (19, true)), (.call ⟨(.builtin .len), #[(.tmp 21)], #[55]⟩)⟩,
        ⟨some 23, (some (19, true)), (.indexAddr 43 (.tmp 20) (.tmp 22))⟩,
        ⟨some 24, (some (19, true)), (.load 3 (.tmp 23))⟩,
        ⟨some 25, (some (19, true)), (.binOp .eql 3 (.tmp 24) (.const (.int .i64 1)) 3)⟩,
        ⟨some 26, none, (.pick (.tmp 19) (.tmp 25) (.const (.bool false)))⟩,
        ⟨some 2, none, (.assign (.tmp 26))⟩])
      .ret))))
theorem w41 {args : Array Value} {H : AH} {Φ : Value → AH → Prop} (h : rW Try.prog k41 [] (fin Try.prog [(.tmp 2)] Φ) (tm0 args) H) : CallsA Try.prog 41 args H Φ :=
  CallsA.w k41 [(.tmp 2)] (fun _ => []) Try.func41 rfl rfl (by kernel_rfl) (by kernel_rfl) h

/-- slices.Max[[]int,int] -/
def k137 : KC :=
  (.seq
   (.ops [⟨some 2, none, (.assign (.const (.int .i64 0)))⟩])
   (.seq
    (.seq
     (.ops [⟨some 5, none, (.move (.tmp 0))⟩,
       ⟨some 6, none, (.call ⟨(.builtin .len), #[(.tmp 5)], #[43]⟩)⟩,
       ⟨some 7, none, (.binOp .lss 3 (.tmp 6) (.const (.int .i64 1)) 3)⟩])
     (.cond (.tmp 7)
      (.ops [⟨some 8, none, (.makeInterface 9 (.const (.string ⟨#[115, 108, 105, 99, 101, 115, 46, 77, 97, 120, 58, 32, 101, 109, 112, 116, 121, 32, 108, 105, 115, 116]⟩)))⟩,
        ⟨none, none, (.panic (.tmp 8))⟩])
      .skip))
    (.seq
     (.ops [⟨some 9, none, (.move (.tmp 0))⟩,
       ⟨some 10, none, (.indexAddr 43 (.tmp 9) (.const (.int .i64 0)))⟩,
       ⟨some 11, none, (.load 3 (.tmp 10))⟩,
       ⟨some 3, none, (.assign (.tmp 11))⟩])
     (.seq
      (.seq
       (.ops [⟨some 4, none, (.assign (.const (.int .i64 1)))⟩])
       (.block 0
        (.loop
         (.seq
          (.seq
           (.ops [⟨some 12, none, (.move (.tmp 4))⟩,
             ⟨some 13, none, (.move (.tmp 0))⟩,
             ⟨some 14, none, (.call ⟨(.builtin .len), #[(.tmp 13)], #[43]⟩)⟩,
             ⟨some 15, none, (.binOp .lss 3 (.tmp 12) (.tmp 14) 3)⟩])
           (.cond (.tmp 15)
            .skip
            (.exit 0)))
          (.seq
           (.block 1
            (.ops [⟨some 18, none, (.move (.tmp 3))⟩,
              ⟨some 19, none, (.move (.tmp 0))⟩,
              ⟨some 20, none, (.move (.tmp 4))⟩,
              ⟨some 21, none, (.indexAddr 43 (.tmp 19) (.tmp 20))⟩,
              ⟨some 22, none, (.load 3 (.tmp 21))⟩,
              ⟨some 23, none, (.call ⟨(.builtin .max), #[(.tmp 18), (.tmp 22)], #[3, 3]⟩)⟩,
              ⟨some 3, none, (.assign (.tmp 23))⟩]))
           (.ops [⟨some 16, none, (.move (.tmp 4))⟩,
             ⟨some 17, none, (.binOp .add 3 (.tmp 16) (.const (.int .i64 1)) 3)⟩,
             ⟨some 4, none, (.assign (.tmp 17))⟩]))))))
      (.seq
       (.ops [⟨some 24, none, (.move (.tmp 3))⟩,
         ⟨some 2, none, (.assign (.tmp 24))⟩])
       .ret)))))
theorem w137 {args : Array Value} {H : AH} {Φ : Value → AH → Prop} (h : rW Try.prog k137 [] (fin Try.prog [(.tmp 2)] Φ) (tm0 args) H) : CallsA Try.prog 137 args H Φ :=
  CallsA.w k137 [(.tmp 2)] (fun _ => []) Try.func137 rfl rfl (by kernel_rfl) (by kernel_rfl) h

/-- impl.CodeDeep -/
def k62 : KC :=
  (.seq
   (.ops [⟨some 2, none, (.assign (.const (.int .i64 0)))⟩])
   (.seq
    (.seq
     (.ops [⟨some 5, none, (.move (.tmp 0))⟩,
       ⟨some 6, none, (.call ⟨(.value (.func 41)), #[(.tmp 5)], #[55]⟩)⟩,
       ⟨some 7, none, (.unOp .not 4 (.tmp 6))⟩])
     (.cond (.tmp 7)
      (.seq
       (.ops [⟨some 2, none, (.assign (.const (.int .i64 0)))⟩])
       .ret)
      .skip))
    (.seq
     (.ops [⟨some 9, none, (.move (.tmp 0))⟩,
       ⟨some 10, none, (.call ⟨(.value (.func 110)), #[(.tmp 9)], #[55]⟩)⟩,
       ⟨some 8, none, (.move (.tmp 10))⟩,
       ⟨some 11, none, (.extract (.tmp 8) 0)⟩,
       ⟨some 12, none, (.extract (.tmp 8) 1)⟩,
       ⟨some 3, none, (.assign (.tmp 11))⟩,
       ⟨some 4, none, (.assign (.tmp 12))⟩])
     (.seq
      (.ops [⟨some 13, none, (.move (.tmp 3))⟩,
        ⟨some 14, none, (.call ⟨(.value (.func 137)), #[(.tmp 13)], #[43]⟩)⟩,
        ⟨some 2, none, (.assign (.tmp 14))⟩])
      .ret))))
theorem w62 {args : Array Value} {H : AH} {Φ : Value → AH → Prop} (h : rW Try.prog k62 [] (fin Try.prog [(.tmp 2)] Φ) (tm0 args) H) : CallsA Try.prog 62 args H Φ :=
  CallsA.w k62 [(.tmp 2)] (fun _ => []) Try.func62 rfl rfl (by kernel_rfl) (by kernel_rfl) h

/-- laws.FnExactCodeDeep -/
def k12 : KC :=
  (.seq
   (.ops [⟨some 2, none, (.assign (.const (.bool false)))⟩])
   (.seq
    (.ops [⟨some 3, none, (.assign (.const (.int .i64 1048576)))⟩])
    (.seq
     (.ops [⟨some 7, none, (.move (.tmp 0))⟩,
       ⟨some 8, none, (.move (.tmp 3))⟩,
       ⟨some 9, none, (.call ⟨(.value (.func 38)), #[(.tmp 7), (.tmp 8)], #[52, 3]⟩)⟩,
       ⟨some 3, none, (.assign (.tmp 9))⟩])
     (.seq
      (.seq
       (.ops [⟨some 10, none, (.move (.tmp 3))⟩,
         ⟨some 11, none, (.binOp .lss 3 (.tmp 10) (.const (.int .i64 0)) 3)⟩])
       (.cond (.tmp 11)
        (.seq
         (.ops [⟨some 2, none, (.assign (.const (.bool true)))⟩])
         .ret)
        .skip))
      (.seq
       (.ops [⟨some 12, none, (.move (.tmp 0))⟩,
         ⟨some 13, none, (.call ⟨(.value (.func 40)), #[(.tmp 12)], #[52]⟩)⟩,
         ⟨some 14, none, (.call ⟨(.value (.func 61)), #[(.tmp 13)], #[55]⟩)⟩,
         ⟨some 4, none, (.assign (.tmp 14))⟩])
       (.seq
        (.ops [⟨some 15, none, (.move (.tmp 0))⟩,
          ⟨some 16, none, (.call ⟨(.value (.func 40)), #[(.tmp 15)], #[52]⟩)⟩,
          ⟨some 5, none, (.assign (.tmp 16))⟩])
        (.seq
         (.ops [⟨some 17, none, (.move (.tmp 5))⟩,
           ⟨some 18, none, (.call ⟨(.value (.func 62)), #[(.tmp 17)], #[55]⟩)⟩,
           ⟨some 6, none, (.assign (.tmp 18))⟩])
         (.seq
          (.seq
           (.ops [⟨some 19, none, (.move (.tmp 6))⟩,
             ⟨some 20, none, (.move (.tmp 4))⟩,
             ⟨some 21, none, (.binOp .neq 3 (.tmp 19) (.tmp 20) 3)⟩])
           (.cond (.tmp 21)
            (.seq
             (.ops [⟨some 2, none, (.assign (.const (.bool false)))⟩])
             .ret)
            .skip))
          (.seq
           (.seq
            (.ops [⟨some 22, none, (.move (.tmp 5))⟩,
              ⟨some 23, none, (.move (.tmp 0))⟩,
              ⟨some 24, none, (.call ⟨(.value (.func 40)), #[(.tmp 23)], #[52]⟩)⟩,
              ⟨some 25, none, (.call ⟨(.value (.func 42)), #[(.tmp 22), (.tmp 24)], #[55, 55]⟩)⟩,
              ⟨some 26, none, (.unOp .not 4 (.tmp 25))⟩])
            (.cond (.tmp 26)
             (.seq
              (.ops [⟨some 2, none, (.assign (.const (.bool false)))⟩])
              .ret)
             .skip))
           (.seq
            (.ops [⟨some 2, none, (.assign (.const (.bool true)))⟩])
            .ret))))))))))
theorem w12 {args : Array Value} {H : AH} {Φ : Value → AH → Prop} (h : rW Try.prog k12 [] (fin Try.prog [(.tmp 2)] Φ) (tm0 args) H) : CallsA Try.prog 12 args H Φ :=
  CallsA.w k12 [(.tmp 2)] (fun _ => []) Try.func12 rfl rfl (by kernel_rfl) (by kernel_rfl) h

end Go.Proofs.Ytgekbancaeabgaa.AM
