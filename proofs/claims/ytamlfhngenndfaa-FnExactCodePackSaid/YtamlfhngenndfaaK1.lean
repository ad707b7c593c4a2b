/- The code of the functions that the laws reach, made short; and facts on the types that they use. -/
import Derived.Test.YtamlfhngenndfaaA8
import Derived.KernelRfl
import Derived.Test.YtamlfhngenndfaaRows
set_option linter.unusedVariables false
set_option linter.unusedSimpArgs false
set_option linter.defProp false
set_option maxRecDepth 100000
/- The code of the functions that the laws reach, made short; and facts on the types that they use. -/
namespace Go.Proofs.Ytamlfhngenndfaa.AM
open Go Go.Proofs.Ytamlfhngenndfaa Go.Proofs

theorem al61 {ev : Operand → Value} : aMake Try.prog ev (.alloc 61) = some ([.int .i64 0, .int .i64 0, .int .i64 0], none) := by kernel_rfl
theorem al63 {ev : Operand → Value} : aMake Try.prog ev (.alloc 63) = some ([.int .i64 0, .int .i64 0, .int .i64 0, .int .i64 0, .int .i64 0, .slice none 0 0], none) := by kernel_rfl
theorem ap24_24 {a a' : Option Addr} {n c n' c' : Nat} {H : AH} : aAppend Try.prog #[24, 24] #[.slice a n c, .slice a' n' c'] H = app 1 (.slice a n c) (.slice a' n' c') H := append_eq (z := .int .u8 0) (e := 5) (e' := 5) (by kernel_rfl) (by kernel_rfl) (by kernel_rfl) (by kernel_rfl) (by kernel_rfl) (by kernel_rfl)
theorem ap58_58 {a a' : Option Addr} {n c n' c' : Nat} {H : AH} : aAppend Try.prog #[58, 58] #[.slice a n c, .slice a' n' c'] H = app 1 (.slice a n c) (.slice a' n' c') H := append_eq (z := .int .i64 0) (e := 3) (e' := 3) (by kernel_rfl) (by kernel_rfl) (by kernel_rfl) (by kernel_rfl) (by kernel_rfl) (by kernel_rfl)
theorem bd61 {ps : Array (Nat × Value)} : aBuild Try.prog 61 ps = (fillP [(0, 1), (1, 1), (2, 1)] [.int .i64 0, .int .i64 0, .int .i64 0] ps.toList).map fun cs => .agg cs.toArray := build_eq (z := .agg #[.int .i64 0, .int .i64 0, .int .i64 0]) Try.underlying61 (by kernel_rfl) (by kernel_rfl) (by kernel_rfl) rfl
theorem bs24_0 {ev : Operand → Value} : aMake Try.prog ev (.buildSlice 24 0 #[]) = (fillP [] [] []).map fun cs => (cs, some (0, 1)) := bslice_eq (z := .int .u8 0) (e := 5) (by kernel_rfl) (by kernel_rfl) (by kernel_rfl) (by decide) (by kernel_rfl) (by kernel_rfl) rfl rfl
theorem bs24_1 {ev : Operand → Value} {x0 : Operand} : aMake Try.prog ev (.buildSlice 24 1 #[(0, x0)]) = (fillP [(0, 1)] [.int .u8 0] [(0, ev x0)]).map fun cs => (cs, some (1, 1)) := bslice_eq (z := .int .u8 0) (e := 5) (by kernel_rfl) (by kernel_rfl) (by kernel_rfl) (by decide) (by kernel_rfl) (by kernel_rfl) rfl rfl
theorem bs24_2 {ev : Operand → Value} {x0 x1 : Operand} : aMake Try.prog ev (.buildSlice 24 2 #[(0, x0), (1, x1)]) = (fillP [(0, 1), (1, 1)] [.int .u8 0, .int .u8 0] [(0, ev x0), (1, ev x1)]).map fun cs => (cs, some (2, 1)) := bslice_eq (z := .int .u8 0) (e := 5) (by kernel_rfl) (by kernel_rfl) (by kernel_rfl) (by decide) (by kernel_rfl) (by kernel_rfl) rfl rfl
theorem bs24_5 {ev : Operand → Value} {x0 x1 x2 x3 x4 : Operand} : aMake Try.prog ev (.buildSlice 24 5 #[(0, x0), (1, x1), (2, x2), (3, x3), (4, x4)]) = (fillP [(0, 1), (1, 1), (2, 1), (3, 1), (4, 1)] [.int .u8 0, .int .u8 0, .int .u8 0, .int .u8 0, .int .u8 0] [(0, ev x0), (1, ev x1), (2, ev x2), (3, ev x3), (4, ev x4)]).map fun cs => (cs, some (5, 1)) := bslice_eq (z := .int .u8 0) (e := 5) (by kernel_rfl) (by kernel_rfl) (by kernel_rfl) (by decide) (by kernel_rfl) (by kernel_rfl) rfl rfl
theorem bs58_1 {ev : Operand → Value} {x0 : Operand} : aMake Try.prog ev (.buildSlice 58 1 #[(0, x0)]) = (fillP [(0, 1)] [.int .i64 0] [(0, ev x0)]).map fun cs => (cs, some (1, 1)) := bslice_eq (z := .int .i64 0) (e := 3) (by kernel_rfl) (by kernel_rfl) (by kernel_rfl) (by decide) (by kernel_rfl) (by kernel_rfl) rfl rfl
theorem cv3_5 {k : IntKind} {n : Int} {G : Hp} : aConv Try.prog 3 5 (.int k n) G = some (.int .u8 (IntKind.u8.wrap n)) := conv_int (e := .int .i64) (by kernel_rfl) (by kernel_rfl)
theorem cv5_3 {k : IntKind} {n : Int} {G : Hp} : aConv Try.prog 5 3 (.int k n) G = some (.int .i64 (IntKind.i64.wrap n)) := conv_int (e := .int .u8) (by kernel_rfl) (by kernel_rfl)
theorem ef61 {a0 b0 a1 b1 a2 b2 : Int} {x y : Operand} : aBin Try.prog .eql 61 x y (.agg #[.int .i64 a0, .int .i64 a1, .int .i64 a2]) (.agg #[.int .i64 b0, .int .i64 b1, .int .i64 b2]) = some (.bool (a0 == b0 && (a1 == b1 && (a2 == b2 && true)))) := by
  refine bin_eql_agg Try.underlying61 (by kernel_rfl) (by kernel_rfl) (by simp [scal1]) ?_
  rw [eqF_cons (k := .i64) (k' := .i64) (a := a0) (b := b0) (by decide) (by kernel_rfl) (by kernel_rfl) (by kernel_rfl)]
  rw [eqF_cons (k := .i64) (k' := .i64) (a := a1) (b := b1) (by decide) (by kernel_rfl) (by kernel_rfl) (by kernel_rfl)]
  rw [eqF_cons (k := .i64) (k' := .i64) (a := a2) (b := b2) (by decide) (by kernel_rfl) (by kernel_rfl) (by kernel_rfl)]
  simp only [ite_and, eqF_nil]
theorem eg61 {a0 b0 a1 b1 a2 b2 : Int} {x y : Operand} : aBin Try.prog .neq 61 x y (.agg #[.int .i64 a0, .int .i64 a1, .int .i64 a2]) (.agg #[.int .i64 b0, .int .i64 b1, .int .i64 b2]) = some (.bool (!(a0 == b0 && (a1 == b1 && (a2 == b2 && true))))) := by
  refine bin_neq_agg Try.underlying61 (by kernel_rfl) (by kernel_rfl) (by simp [scal1]) ?_
  rw [eqF_cons (k := .i64) (k' := .i64) (a := a0) (b := b0) (by decide) (by kernel_rfl) (by kernel_rfl) (by kernel_rfl)]
  rw [eqF_cons (k := .i64) (k' := .i64) (a := a1) (b := b1) (by decide) (by kernel_rfl) (by kernel_rfl) (by kernel_rfl)]
  rw [eqF_cons (k := .i64) (k' := .i64) (a := a2) (b := b2) (by decide) (by kernel_rfl) (by kernel_rfl) (by kernel_rfl)]
  simp only [ite_and, eqF_nil]
theorem fa57_0 {b o : Nat} : aFieldAddr Try.prog 57 (.pointer (some ⟨b, o, none⟩)) 0 = some (.pointer (some ⟨b, o + 0, none⟩)) := by kernel_rfl
theorem fa57_1 {b o : Nat} : aFieldAddr Try.prog 57 (.pointer (some ⟨b, o, none⟩)) 1 = some (.pointer (some ⟨b, o + 1, none⟩)) := by kernel_rfl
theorem fa57_2 {b o : Nat} : aFieldAddr Try.prog 57 (.pointer (some ⟨b, o, none⟩)) 2 = some (.pointer (some ⟨b, o + 2, none⟩)) := by kernel_rfl
theorem fa60_0 {b o : Nat} : aFieldAddr Try.prog 60 (.pointer (some ⟨b, o, none⟩)) 0 = some (.pointer (some ⟨b, o + 0, none⟩)) := by kernel_rfl
theorem fa60_1 {b o : Nat} : aFieldAddr Try.prog 60 (.pointer (some ⟨b, o, none⟩)) 1 = some (.pointer (some ⟨b, o + 1, none⟩)) := by kernel_rfl
theorem fa60_2 {b o : Nat} : aFieldAddr Try.prog 60 (.pointer (some ⟨b, o, none⟩)) 2 = some (.pointer (some ⟨b, o + 2, none⟩)) := by kernel_rfl
theorem fa60_3 {b o : Nat} : aFieldAddr Try.prog 60 (.pointer (some ⟨b, o, none⟩)) 3 = some (.pointer (some ⟨b, o + 5, none⟩)) := by kernel_rfl
theorem fa61_0 {b o : Nat} : aFieldAddr Try.prog 61 (.pointer (some ⟨b, o, none⟩)) 0 = some (.pointer (some ⟨b, o + 0, none⟩)) := by kernel_rfl
theorem fa61_1 {b o : Nat} : aFieldAddr Try.prog 61 (.pointer (some ⟨b, o, none⟩)) 1 = some (.pointer (some ⟨b, o + 1, none⟩)) := by kernel_rfl
theorem fa61_2 {b o : Nat} : aFieldAddr Try.prog 61 (.pointer (some ⟨b, o, none⟩)) 2 = some (.pointer (some ⟨b, o + 2, none⟩)) := by kernel_rfl
theorem fa63_0 {b o : Nat} : aFieldAddr Try.prog 63 (.pointer (some ⟨b, o, none⟩)) 0 = some (.pointer (some ⟨b, o + 0, none⟩)) := by kernel_rfl
theorem fa63_1 {b o : Nat} : aFieldAddr Try.prog 63 (.pointer (some ⟨b, o, none⟩)) 1 = some (.pointer (some ⟨b, o + 1, none⟩)) := by kernel_rfl
theorem fa63_2 {b o : Nat} : aFieldAddr Try.prog 63 (.pointer (some ⟨b, o, none⟩)) 2 = some (.pointer (some ⟨b, o + 2, none⟩)) := by kernel_rfl
theorem fa63_3 {b o : Nat} : aFieldAddr Try.prog 63 (.pointer (some ⟨b, o, none⟩)) 3 = some (.pointer (some ⟨b, o + 5, none⟩)) := by kernel_rfl
theorem ix22 {b o n c : Nat} {k : IntKind} {j : Int} : aIndexAddr Try.prog 22 (.slice (some ⟨b, o, none⟩) n c) (.int k j) = if 0 ≤ j ∧ j < n then some (.pointer (some ⟨b, o + j.toNat * 6, none⟩)) else none := by kernel_rfl
theorem ix24 {b o n c : Nat} {k : IntKind} {j : Int} : aIndexAddr Try.prog 24 (.slice (some ⟨b, o, none⟩) n c) (.int k j) = if 0 ≤ j ∧ j < n then some (.pointer (some ⟨b, o + j.toNat * 1, none⟩)) else none := by kernel_rfl
theorem ix27 {b o n c : Nat} {k : IntKind} {j : Int} : aIndexAddr Try.prog 27 (.slice (some ⟨b, o, none⟩) n c) (.int k j) = if 0 ≤ j ∧ j < n then some (.pointer (some ⟨b, o + j.toNat * 6, none⟩)) else none := by kernel_rfl
theorem ix58 {b o n c : Nat} {k : IntKind} {j : Int} : aIndexAddr Try.prog 58 (.slice (some ⟨b, o, none⟩) n c) (.int k j) = if 0 ≤ j ∧ j < n then some (.pointer (some ⟨b, o + j.toNat * 1, none⟩)) else none := by kernel_rfl
theorem us9 : Try.prog.underlying 9 = some .string := by kernel_rfl
theorem ld3 {o : Nat} {cs : List Value} : ld Try.prog 3 o cs = cs[o]? := ld_one (by kernel_rfl)
theorem ld5 {o : Nat} {cs : List Value} : ld Try.prog 5 o cs = cs[o]? := ld_one (by kernel_rfl)
theorem ld57 {o : Nat} {cs : List Value} : ld Try.prog 57 o cs = aggAt 3 o cs := ld_agg (by kernel_rfl) (by kernel_rfl)
theorem ld58 {o : Nat} {cs : List Value} : ld Try.prog 58 o cs = cs[o]? := ld_one (by kernel_rfl)
theorem ld60 {o : Nat} {cs : List Value} : ld Try.prog 60 o cs = aggAt 6 o cs := ld_agg (by kernel_rfl) (by kernel_rfl)
theorem ld61 {o : Nat} {cs : List Value} : ld Try.prog 61 o cs = aggAt 3 o cs := ld_agg (by kernel_rfl) (by kernel_rfl)
theorem ld63 {o : Nat} {cs : List Value} : ld Try.prog 63 o cs = aggAt 6 o cs := ld_agg (by kernel_rfl) (by kernel_rfl)
theorem ln9 {s : ByteArray} : aLen Try.prog #[9] #[.string s] = some (.int .i64 s.size) := by kernel_rfl
theorem ln22 {a : Option Addr} {n c : Nat} : aLen Try.prog #[22] #[.slice a n c] = some (.int .i64 n) := by kernel_rfl
theorem ln24 {a : Option Addr} {n c : Nat} : aLen Try.prog #[24] #[.slice a n c] = some (.int .i64 n) := by kernel_rfl
theorem ln27 {a : Option Addr} {n c : Nat} : aLen Try.prog #[27] #[.slice a n c] = some (.int .i64 n) := by kernel_rfl
theorem ln58 {a : Option Addr} {n c : Nat} : aLen Try.prog #[58] #[.slice a n c] = some (.int .i64 n) := by kernel_rfl
theorem ms27 {k k' : IntKind} {n : Int} : mkS Try.prog 27 (.int k n) (.int k' n) = if 0 ≤ n ∧ n ≤ 1073741824 then some ((List.replicate n.toNat [.int .i64 0, .int .i64 0, .int .i64 0, .int .i64 0, .int .i64 0, .slice none 0 0]).flatten, some (n.toNat, 6)) else none := mkS_eq (z := .agg #[.int .i64 0, .int .i64 0, .int .i64 0, .int .i64 0, .int .i64 0, .slice none 0 0]) (e := 63) (by kernel_rfl) (by kernel_rfl) (by kernel_rfl) (by kernel_rfl) (by kernel_rfl) (by kernel_rfl) (by decide)
theorem ms58 {k k' : IntKind} {n : Int} : mkS Try.prog 58 (.int k n) (.int k' n) = if 0 ≤ n ∧ n ≤ 1073741824 then some ((List.replicate n.toNat [.int .i64 0]).flatten, some (n.toNat, 1)) else none := mkS_eq (z := .int .i64 0) (e := 3) (by kernel_rfl) (by kernel_rfl) (by kernel_rfl) (by kernel_rfl) (by kernel_rfl) (by kernel_rfl) (by decide)
theorem st3 {b o : Nat} {v : Value} {H : AH} : aStore Try.prog 3 (.pointer (some ⟨b, o, none⟩)) v H = sto 1 b o v H (wrt H b) := store_eq (by kernel_rfl)
theorem st5 {b o : Nat} {v : Value} {H : AH} : aStore Try.prog 5 (.pointer (some ⟨b, o, none⟩)) v H = sto 1 b o v H (wrt H b) := store_eq (by kernel_rfl)
theorem st58 {b o : Nat} {v : Value} {H : AH} : aStore Try.prog 58 (.pointer (some ⟨b, o, none⟩)) v H = sto 1 b o v H (wrt H b) := store_eq (by kernel_rfl)
theorem st61 {b o : Nat} {v : Value} {H : AH} : aStore Try.prog 61 (.pointer (some ⟨b, o, none⟩)) v H = sto 3 b o v H (wrt H b) := store_eq (by kernel_rfl)
theorem st63 {b o : Nat} {v : Value} {H : AH} : aStore Try.prog 63 (.pointer (some ⟨b, o, none⟩)) v H = sto 6 b o v H (wrt H b) := store_eq (by kernel_rfl)
theorem ub4 : Try.prog.underlying 4 = some .bool := by kernel_rfl

/-- laws.szIntS -/
def k74 : KC :=
  (.seq
   (.ops [⟨some 4, none, (.assign (.const (.int .i64 0)))⟩])
   (.seq
    (.ops [⟨some 5, none, (.move (.tmp 1))⟩,
      ⟨some 6, none, (.move (.tmp 0))⟩,
      ⟨some 7, none, (.call ⟨(.builtin .len), #[(.tmp 6)], #[58]⟩)⟩,
      ⟨some 8, none, (.binOp .sub 3 (.tmp 5) (.tmp 7) 3)⟩,
      ⟨some 1, none, (.assign (.tmp 8))⟩])
    (.seq
     (.seq
      (.ops [⟨some 9, none, (.move (.tmp 1))⟩,
        ⟨some 10, none, (.binOp .lss 3 (.tmp 9) (.const (.int .i64 0)) 3)⟩])
      (.cond (.tmp 10)
       (.seq
        (.ops [⟨some 4, none, (.assign (.const (.int .i64 (-1))))⟩])
        .ret)
       .skip))
     (.seq
      (.ops [⟨some 11, none, (.move (.tmp 1))⟩,
        ⟨some 4, none, (.assign (.tmp 11))⟩])
      .ret))))
theorem w74 {args : Array Value} {H : AH} {Φ : Value → AH → Prop} (h : rW Try.prog k74 [] (fin Try.prog [(.tmp 4)] Φ) (tm0 args) H) : CallsA Try.prog 74 args H Φ :=
  CallsA.w k74 [(.tmp 4)] (fun _ => []) Try.func74 rfl rfl (by kernel_rfl) (by kernel_rfl) h

/-- laws.szInstr -/
def k38 : KC :=
  (.seq
   (.ops [⟨some 2, none, (.box 60 (.tmp 0))⟩,
     ⟨some 4, none, (.assign (.const (.int .i64 0)))⟩])
   (.seq
    (.ops [⟨some 5, none, (.fieldAddr 60 (.tmp 2) 3)⟩,
      ⟨some 6, none, (.load 58 (.tmp 5))⟩,
      ⟨some 7, none, (.move (.tmp 1))⟩,
      ⟨some 8, none, (.call ⟨(.value (.func 74)), #[(.tmp 6), (.tmp 7)], #[58, 3]⟩)⟩,
      ⟨some 1, none, (.assign (.tmp 8))⟩])
    (.seq
     (.seq
      (.ops [⟨some 9, none, (.move (.tmp 1))⟩,
        ⟨some 10, none, (.binOp .lss 3 (.tmp 9) (.const (.int .i64 0)) 3)⟩])
      (.cond (.tmp 10)
       (.seq
        (.ops [⟨some 4, none, (.assign (.const (.int .i64 (-1))))⟩])
        .ret)
       .skip))
     (.seq
      (.ops [⟨some 11, none, (.move (.tmp 1))⟩,
        ⟨some 4, none, (.assign (.tmp 11))⟩])
      .ret))))
theorem w38 {args : Array Value} {H : AH} {Φ : Value → AH → Prop} (h : rW Try.prog k38 [] (fin Try.prog [(.tmp 4)] Φ) (tm0 args) H) : CallsA Try.prog 38 args H Φ :=
  CallsA.w k38 [(.tmp 4)] (fun _ => []) Try.func38 rfl rfl (by kernel_rfl) (by kernel_rfl) h

/-- laws.szInstrS -/
def k8 : KC :=
  (.seq
   (.ops [⟨some 4, none, (.assign (.const (.int .i64 0)))⟩])
   (.seq
    (.ops [⟨some 6, none, (.move (.tmp 1))⟩,
      ⟨some 7, none, (.move (.tmp 0))⟩,
      ⟨some 8, none, (.call ⟨(.builtin .len), #[(.tmp 7)], #[22]⟩)⟩,
      ⟨some 9, none, (.binOp .sub 3 (.tmp 6) (.tmp 8) 3)⟩,
      ⟨some 1, none, (.assign (.tmp 9))⟩])
    (.seq
     (.seq
      (.ops [⟨some 10, none, (.move (.tmp 1))⟩,
        ⟨some 11, none, (.binOp .lss 3 (.tmp 10) (.const (.int .i64 0)) 3)⟩])
      (.cond (.tmp 11)
       (.seq
        (.ops [⟨some 4, none, (.assign (.const (.int .i64 (-1))))⟩])
        .ret)
       .skip))
     (.seq
      (.seq
       (.ops [⟨some 5, none, (.assign (.const (.int .i64 0)))⟩])
       (.block 0
        (.loop
         (.seq
          (.seq
           (.ops [⟨some 12, none, (.move (.tmp 5))⟩,
             ⟨some 13, none, (.move (.tmp 0))⟩,
             ⟨some 14, none, (.call ⟨(.builtin .len), #[(.tmp 13)], #[22]⟩)⟩,
             ⟨some 15, none, (.binOp .lss 3 (.tmp 12) (.tmp 14) 3)⟩])
           (.cond (.tmp 15)
            .skip
            (.exit 0)))
          (.seq
           (.block 1
            (.seq
             (.ops [⟨some 18, none, (.move (.tmp 0))⟩,
               ⟨some 19, none, (.move (.tmp 5))⟩,
               ⟨some 20, none, (.indexAddr 22 (.tmp 18) (.tmp 19))⟩,
               ⟨some 21, none, (.load 60 (.tmp 20))⟩,
               ⟨some 22, none, (.move (.tmp 1))⟩,
               ⟨some 23, none, (.call ⟨(.value (.func 38)), #[(.tmp 21), (.tmp 22)], #[60, 3]⟩)⟩,
               ⟨some 1, none, (.assign (.tmp 23))⟩])
             (.seq
              (.ops [⟨some 24, none, (.move (.tmp 1))⟩,
                ⟨some 25, none, (.binOp .lss 3 (.tmp 24) (.const (.int .i64 0)) 3)⟩])
              (.cond (.tmp 25)
               (.seq
                (.ops [⟨some 4, none, (.assign (.const (.int .i64 (-1))))⟩])
                .ret)
               .skip))))
           (.ops [⟨some 16, none, (.move (.tmp 5))⟩,
             ⟨some 17, none, (.binOp .add 3 (.tmp 16) (.const (.int .i64 1)) 3)⟩,
             ⟨some 5, none, (.assign (.tmp 17))⟩]))))))
      (.seq
       (.ops [⟨some 26, none, (.move (.tmp 1))⟩,
         ⟨some 4, none, (.assign (.tmp 26))⟩])
       .ret)))))
theorem w8 {args : Array Value} {H : AH} {Φ : Value → AH → Prop} (h : rW Try.prog k8 [] (fin Try.prog [(.tmp 4)] Φ) (tm0 args) H) : CallsA Try.prog 8 args H Φ :=
  CallsA.w k8 [(.tmp 4)] (fun _ => []) Try.func8 rfl rfl (by kernel_rfl) (by kernel_rfl) h

/-- spec.l1In -/
def k54 : KC :=
  (.seq
   (.ops [⟨some 6, none, (.assign (.const (.bool false)))⟩])
   (.seq
    (.ops [⟨some 7, none, (.move (.tmp 0))⟩,
      ⟨some 8, none, (.move (.tmp 1))⟩,
      ⟨some 9, none, (.binOp .geq 3 (.tmp 7) (.tmp 8) 3)⟩,
      ⟨some 10, none, (.move (.tmp 9))⟩,
      ⟨some 11, (some (10, true)), (.move (.tmp 0))⟩,
      ⟨some 12, (some (10, true)), (.move (.tmp 2))⟩,
      ⟨some 13, (some (10, true)), (.binOp .leq 3 (.tmp 11) (.tmp 12) 3)⟩,
      ⟨some 14, none, (.pick (.tmp 10) (.tmp 13) (.const (.bool false)))⟩,
      ⟨some 6, none, (.assign (.tmp 14))⟩])
    .ret))
theorem w54 {args : Array Value} {H : AH} {Φ : Value → AH → Prop} (h : rW Try.prog k54 [] (fin Try.prog [(.tmp 6)] Φ) (tm0 args) H) : CallsA Try.prog 54 args H Φ :=
  CallsA.w k54 [(.tmp 6)] (fun _ => []) Try.func54 rfl rfl (by kernel_rfl) (by kernel_rfl) h

/-- spec.l11Takes -/
def k93 : KC :=
  (.seq
   (.ops [⟨some 1, none, (.box 63 (.tmp 0))⟩,
     ⟨some 2, none, (.assign (.const (.int .i64 0)))⟩,
     ⟨some 3, none, (.assign (.const (.int .i64 0)))⟩])
   (.seq
    (.seq
     (.ops [⟨some 4, none, (.fieldAddr 63 (.tmp 1) 0)⟩,
       ⟨some 5, none, (.load 3 (.tmp 4))⟩])
     (.block 0
      (.seq
       (.seq
        (.ops [⟨some 7, none, (.binOp .eql 3 (.tmp 5) (.const (.int .i64 1)) 3)⟩,
          ⟨some 6, none, (.assign (.tmp 7))⟩])
        (.cond (.tmp 6)
         .skip
         (.ops [⟨some 8, none, (.binOp .eql 3 (.tmp 5) (.const (.int .i64 2)) 3)⟩,
           ⟨some 6, none, (.assign (.tmp 8))⟩])))
       (.cond (.tmp 6)
        (.seq
         (.ops [⟨some 2, none, (.assign (.const (.int .i64 0)))⟩,
           ⟨some 3, none, (.assign (.const (.int .i64 1)))⟩])
         .ret)
        (.seq
         (.ops [⟨some 10, none, (.binOp .eql 3 (.tmp 5) (.const (.int .i64 5)) 3)⟩,
           ⟨some 9, none, (.assign (.tmp 10))⟩])
         (.cond (.tmp 9)
          (.seq
           (.ops [⟨some 2, none, (.assign (.const (.int .i64 2)))⟩,
             ⟨some 3, none, (.assign (.const (.int .i64 (-1))))⟩])
           .ret)
          .skip))))))
    (.seq
     (.ops [⟨some 2, none, (.assign (.const (.int .i64 1)))⟩,
       ⟨some 3, none, (.assign (.const (.int .i64 0)))⟩])
     .ret)))
theorem w93 {args : Array Value} {H : AH} {Φ : Value → AH → Prop} (h : rW Try.prog k93 [] (fin Try.prog [(.tmp 2), (.tmp 3)] Φ) (tm0 args) H) : CallsA Try.prog 93 args H Φ :=
  CallsA.w k93 [(.tmp 2), (.tmp 3)] (fun _ => []) Try.func93 rfl rfl (by kernel_rfl) (by kernel_rfl) h

/-- spec.l11Depths -/
def k67 : KC :=
  (.seq
   (.ops [⟨some 2, none, (.assign (.const (.slice none 0 0)))⟩,
     ⟨some 3, none, (.assign (.const (.bool false)))⟩])
   (.seq
    (.ops [⟨some 9, none, (.buildSlice 58 1 #[(0, (.const (.int .i64 0)))])⟩,
      ⟨some 4, none, (.assign (.tmp 9))⟩])
    (.seq
     (.ops [⟨some 5, none, (.assign (.const (.int .i64 0)))⟩])
     (.seq
      (.seq
       (.ops [⟨some 6, none, (.assign (.const (.int .i64 0)))⟩])
       (.block 0
        (.loop
         (.seq
          (.seq
           (.ops [⟨some 10, none, (.move (.tmp 6))⟩,
             ⟨some 11, none, (.move (.tmp 0))⟩,
             ⟨some 12, none, (.call ⟨(.builtin .len), #[(.tmp 11)], #[27]⟩)⟩,
             ⟨some 13, none, (.binOp .lss 3 (.tmp 10) (.tmp 12) 3)⟩])
           (.cond (.tmp 13)
            .skip
            (.exit 0)))
          (.seq
           (.block 1
            (.seq
             (.ops [⟨some 17, none, (.move (.tmp 0))⟩,
               ⟨some 18, none, (.move (.tmp 6))⟩,
               ⟨some 19, none, (.indexAddr 27 (.tmp 17) (.tmp 18))⟩,
               ⟨some 20, none, (.load 63 (.tmp 19))⟩,
               ⟨some 21, none, (.call ⟨(.value (.func 93)), #[(.tmp 20)], #[63]⟩)⟩,
               ⟨some 16, none, (.move (.tmp 21))⟩,
               ⟨some 22, none, (.extract (.tmp 16) 0)⟩,
               ⟨some 23, none, (.extract (.tmp 16) 1)⟩,
               ⟨some 7, none, (.assign (.tmp 22))⟩,
               ⟨some 8, none, (.assign (.tmp 23))⟩])
             (.seq
              (.seq
               (.ops [⟨some 24, none, (.move (.tmp 5))⟩,
                 ⟨some 25, none, (.move (.tmp 7))⟩,
                 ⟨some 26, none, (.binOp .lss 3 (.tmp 24) (.tmp 25) 3)⟩])
               (.cond (.tmp 26)
                (.seq
                 (.ops [⟨some 27, none, (.move (.tmp 4))⟩,
                   ⟨some 2, none, (.assign (.tmp 27))⟩,
                   ⟨some 3, none, (.assign (.const (.bool false)))⟩])
                 .ret)
                .skip))
              (.seq
               (.ops [⟨some 28, none, (.move (.tmp 5))⟩,
                 ⟨some 29, none, (.move (.tmp 8))⟩,
                 ⟨some 30, none, (.binOp .add 3 (.tmp 28) (.tmp 29) 3)⟩,
                 ⟨some 5, none, (.assign (.tmp 30))⟩])
               (.ops [⟨some 31, none, (.move (.tmp 4))⟩,
                 ⟨some 32, none, (.move (.tmp 5))⟩,
                 ⟨some 33, none, (.buildSlice 58 1 #[(0, (.tmp 32))])⟩,
                 ⟨some 34, none, (.call ⟨(.builtin .append), #[(.tmp 31), (.tmp 33)], #[58, 58]⟩)⟩,
                 ⟨some 4, none, (.assign (.tmp 34))⟩])))))
           (.ops [⟨some 14, none, (.move (.tmp 6))⟩,
             ⟨some 15, none, (.binOp .add 3 (.tmp 14) (.const (.int .i64 1)) 3)⟩,
             ⟨some 6, none, (.assign (.tmp 15))⟩]))))))
      (.seq
       (.ops [⟨some 35, none, (.move (.tmp 4))⟩,
         ⟨some 2, none, (.assign (.tmp 35))⟩,
         ⟨some 3, none, (.assign (.const (.bool true)))⟩])
       .ret)))))
theorem w67 {args : Array Value} {H : AH} {Φ : Value → AH → Prop} (h : rW Try.prog k67 [] (fin Try.prog [(.tmp 2), (.tmp 3)] Φ) (tm0 args) H) : CallsA Try.prog 67 args H Φ :=
  CallsA.w k67 [(.tmp 2), (.tmp 3)] (fun _ => []) Try.func67 rfl rfl (by kernel_rfl) (by kernel_rfl) h

/-- spec.NumOk -/
def k100 : KC :=
  (.seq
   (.ops [⟨some 2, none, (.assign (.const (.bool false)))⟩])
   (.seq
    (.ops [⟨some 3, none, (.move (.tmp 0))⟩,
      ⟨some 4, none, (.call ⟨(.value (.func 54)), #[(.tmp 3), (.const (.int .i64 (-1000000000000))), (.const (.int .i64 1000000000000))], #[3, 3, 3]⟩)⟩,
      ⟨some 2, none, (.assign (.tmp 4))⟩])
    .ret))
theorem w100 {args : Array Value} {H : AH} {Φ : Value → AH → Prop} (h : rW Try.prog k100 [] (fin Try.prog [(.tmp 2)] Φ) (tm0 args) H) : CallsA Try.prog 100 args H Φ :=
  CallsA.w k100 [(.tmp 2)] (fun _ => []) Try.func100 rfl rfl (by kernel_rfl) (by kernel_rfl) h

/-- spec.l9Nums -/
def k84 : KC :=
  (.seq
   (.ops [⟨some 2, none, (.assign (.const (.bool false)))⟩])
   (.seq
    (.seq
     (.ops [⟨some 3, none, (.assign (.const (.int .i64 0)))⟩])
     (.block 0
      (.loop
       (.seq
        (.seq
         (.ops [⟨some 4, none, (.move (.tmp 3))⟩,
           ⟨some 5, none, (.move (.tmp 0))⟩,
           ⟨some 6, none, (.call ⟨(.builtin .len), #[(.tmp 5)], #[58]⟩)⟩,
           ⟨some 7, none, (.binOp .lss 3 (.tmp 4) (.tmp 6) 3)⟩])
         (.cond (.tmp 7)
          .skip
          (.exit 0)))
        (.seq
         (.block 1
          (.seq
           (.ops [⟨some 10, none, (.move (.tmp 0))⟩,
             ⟨some 11, none, (.move (.tmp 3))⟩,
             ⟨some 12, none, (.indexAddr 58 (.tmp 10) (.tmp 11))⟩,
             ⟨some 13, none, (.load 3 (.tmp 12))⟩,
             ⟨some 14, none, (.call ⟨(.value (.func 100)), #[(.tmp 13)], #[3]⟩)⟩,
             ⟨some 15, none, (.unOp .not 4 (.tmp 14))⟩])
           (.cond (.tmp 15)
            (.seq
             (.ops [⟨some 2, none, (.assign (.const (.bool false)))⟩])
             .ret)
            .skip)))
         (.ops [⟨some 8, none, (.move (.tmp 3))⟩,
           ⟨some 9, none, (.binOp .add 3 (.tmp 8) (.const (.int .i64 1)) 3)⟩,
           ⟨some 3, none, (.assign (.tmp 9))⟩]))))))
    (.seq
     (.ops [⟨some 16, none, (.move (.tmp 0))⟩,
       ⟨some 17, none, (.call ⟨(.builtin .len), #[(.tmp 16)], #[58]⟩)⟩,
       ⟨some 18, none, (.call ⟨(.value (.func 54)), #[(.tmp 17), (.const (.int .i64 1)), (.const (.int .i64 300))], #[3, 3, 3]⟩)⟩,
       ⟨some 2, none, (.assign (.tmp 18))⟩])
     .ret)))
theorem w84 {args : Array Value} {H : AH} {Φ : Value → AH → Prop} (h : rW Try.prog k84 [] (fin Try.prog [(.tmp 2)] Φ) (tm0 args) H) : CallsA Try.prog 84 args H Φ :=
  CallsA.w k84 [(.tmp 2)] (fun _ => []) Try.func84 rfl rfl (by kernel_rfl) (by kernel_rfl) h

/-- spec.l1Sign2 -/
def k101 : KC :=
  (.seq
   (.ops [⟨some 2, none, (.assign (.const (.bool false)))⟩])
   (.seq
    (.ops [⟨some 3, none, (.move (.tmp 0))⟩,
      ⟨some 4, none, (.binOp .eql 3 (.tmp 3) (.const (.int .i64 43)) 3)⟩,
      ⟨some 5, none, (.move (.tmp 4))⟩,
      ⟨some 6, (some (5, false)), (.move (.tmp 0))⟩,
      ⟨some 7, (some (5, false)), (.binOp .eql 3 (.tmp 6) (.const (.int .i64 45)) 3)⟩,
      ⟨some 8, none, (.pick (.tmp 5) (.const (.bool true)) (.tmp 7))⟩,
      ⟨some 9, none, (.move (.tmp 8))⟩,
      ⟨some 10, (some (9, false)), (.move (.tmp 0))⟩,
      ⟨some 11, (some (9, false)), (.binOp .eql 3 (.tmp 10) (.const (.int .i64 42)) 3)⟩,
      ⟨some 12, none, (.pick (.tmp 9) (.const (.bool true)) (.tmp 11))⟩,
      ⟨some 13, none, (.move (.tmp 12))⟩,
      ⟨some 14, (some (13, false)), (.move (.tmp 0))⟩,
      ⟨some 15, (some (13, false)), (.binOp .eql 3 (.tmp 14) (.const (.int .i64 37)) 3)⟩,
      ⟨some 16, none, (.pick (.tmp 13) (.const (.bool true)) (.tmp 15))⟩,
      ⟨some 17, none, (.move (.tmp 16))⟩,
      ⟨some 18, (some (17, false)), (.move (.tmp 0))⟩,
      ⟨some 19, (some (17, false)), (.binOp .eql 3 (.tmp 18) (.const (.int .i64 124)) 3)⟩,
      ⟨some 20, none, (.pick (.tmp 17) (.const (.bool true)) (.tmp 19))⟩,
      ⟨some 21, none, (.move (.tmp 20))⟩,
      ⟨some 22, (some (21, false)), (.move (.tmp 0))⟩,
      ⟨some 23, (some (21, false)), (.binOp .eql 3 (.tmp 22) (.const (.int .i64 38)) 3)⟩,
      ⟨some 24, none, (.pick (.tmp 21) (.const (.bool true)) (.tmp 23))⟩,
      ⟨some 25, none, (.move (.tmp 24))⟩,
      ⟨some 26, (some (25, false)), (.move (.tmp 0))⟩,
      ⟨some 27, (some (25, false)), (.binOp .eql 3 (.tmp 26) (.const (.int .i64 94)) 3)⟩,
      ⟨some 28, none, (.pick (.tmp 25) (.const (.bool true)) (.tmp 27))⟩,
      ⟨some 29, none, (.move (.tmp 28))⟩,
      ⟨some 30, (some (29, false)), (.move (.tmp 0))⟩,
      ⟨some 31, (some (29, false)), (.binOp .eql 3 (.tmp 30) (.const (.int .i64 61)) 3)⟩,
      ⟨some 32, none, (.pick (.tmp 29) (.const (.bool true)) (.tmp 31))⟩,
      ⟨some 33, none, (.move (.tmp 32))⟩,
      ⟨some 34, (some (33, false)), (.move (.tmp 0))⟩,
      ⟨some 35, (some (33, false)), (.binOp .eql 3 (.tmp 34) (.const (.int .i64 60)) 3)⟩,
      ⟨some 36, none, (.pick (.tmp 33) (.const (.bool true)) (.tmp 35))⟩,
      ⟨some 37, none, (.move (.tmp 36))⟩,
      ⟨some 38, (some (37, false)), (.move (.tmp 0))⟩,
      ⟨some 39, (some (37, false)), (.binOp .eql 3 (.tmp 38) (.const (.int .i64 62)) 3)⟩,
      ⟨some 40, none, (.pick (.tmp 37) (.const (.bool true)) (.tmp 39))⟩,
      ⟨some 2, none, (.assign (.tmp 40))⟩])
    .ret))
theorem w101 {args : Array Value} {H : AH} {Φ : Value → AH → Prop} (h : rW Try.prog k101 [] (fin Try.prog [(.tmp 2)] Φ) (tm0 args) H) : CallsA Try.prog 101 args H Φ :=
  CallsA.w k101 [(.tmp 2)] (fun _ => []) Try.func101 rfl rfl (by kernel_rfl) (by kernel_rfl) h

/-- spec.l1Sign1 -/
def k102 : KC :=
  (.seq
   (.ops [⟨some 2, none, (.assign (.const (.bool false)))⟩])
   (.seq
    (.ops [⟨some 3, none, (.move (.tmp 0))⟩,
      ⟨some 4, none, (.binOp .eql 3 (.tmp 3) (.const (.int .i64 43)) 3)⟩,
      ⟨some 5, none, (.move (.tmp 4))⟩,
      ⟨some 6, (some (5, false)), (.move (.tmp 0))⟩,
      ⟨some 7, (some (5, false)), (.binOp .eql 3 (.tmp 6) (.const (.int .i64 45)) 3)⟩,
      ⟨some 8, none, (.pick (.tmp 5) (.const (.bool true)) (.tmp 7))⟩,
      ⟨some 9, none, (.move (.tmp 8))⟩,
      ⟨some 10, (some (9, false)), (.move (.tmp 0))⟩,
      ⟨some 11, (some (9, false)), (.binOp .eql 3 (.tmp 10) (.const (.int .i64 42)) 3)⟩,
      ⟨some 12, none, (.pick (.tmp 9) (.const (.bool true)) (.tmp 11))⟩,
      ⟨some 13, none, (.move (.tmp 12))⟩,
      ⟨some 14, (some (13, false)), (.move (.tmp 0))⟩,
      ⟨some 15, (some (13, false)), (.binOp .eql 3 (.tmp 14) (.const (.int .i64 124)) 3)⟩,
      ⟨some 16, none, (.pick (.tmp 13) (.const (.bool true)) (.tmp 15))⟩,
      ⟨some 17, none, (.move (.tmp 16))⟩,
      ⟨some 18, (some (17, false)), (.move (.tmp 0))⟩,
      ⟨some 19, (some (17, false)), (.binOp .eql 3 (.tmp 18) (.const (.int .i64 126)) 3)⟩,
      ⟨some 20, none, (.pick (.tmp 17) (.const (.bool true)) (.tmp 19))⟩,
      ⟨some 2, none, (.assign (.tmp 20))⟩])
    .ret))
theorem w102 {args : Array Value} {H : AH} {Φ : Value → AH → Prop} (h : rW Try.prog k102 [] (fin Try.prog [(.tmp 2)] Φ) (tm0 args) H) : CallsA Try.prog 102 args H Φ :=
  CallsA.w k102 [(.tmp 2)] (fun _ => []) Try.func102 rfl rfl (by kernel_rfl) (by kernel_rfl) h

/-- spec.FunOne -/
def k85 : KC :=
  (.seq
   (.ops [⟨some 1, none, (.box 61 (.tmp 0))⟩,
     ⟨some 2, none, (.assign (.const (.bool false)))⟩])
   (.seq
    (.block 0
     (.seq
      (.ops [⟨some 4, none, (.fieldAddr 61 (.tmp 1) 2)⟩,
        ⟨some 5, none, (.load 3 (.tmp 4))⟩,
        ⟨some 6, none, (.binOp .neq 3 (.tmp 5) (.const (.int .i64 0)) 3)⟩,
        ⟨some 3, none, (.assign (.tmp 6))⟩])
      (.cond (.tmp 3)
       (.seq
        (.ops [⟨some 2, none, (.assign (.const (.bool false)))⟩])
        .ret)
       (.seq
        (.ops [⟨some 8, none, (.fieldAddr 61 (.tmp 1) 1)⟩,
          ⟨some 9, none, (.load 3 (.tmp 8))⟩,
          ⟨some 10, none, (.binOp .eql 3 (.tmp 9) (.const (.int .i64 47)) 3)⟩,
          ⟨some 11, none, (.move (.tmp 10))⟩,
          ⟨some 12, (some (11, false)), (.fieldAddr 61 (.tmp 1) 1)⟩,
          ⟨some 13, (some (11, false)), (.load 3 (.tmp 12))⟩,
          ⟨some 14, (some (11, false)), (.binOp .eql 3 (.tmp 13) (.const (.int .i64 92)) 3)⟩,
          ⟨some 15, none, (.pick (.tmp 11) (.const (.bool true)) (.tmp 14))⟩,
          ⟨some 7, none, (.assign (.tmp 15))⟩])
        (.cond (.tmp 7)
         (.seq
          (.ops [⟨some 16, none, (.fieldAddr 61 (.tmp 1) 0)⟩,
            ⟨some 17, none, (.load 3 (.tmp 16))⟩,
            ⟨some 18, none, (.call ⟨(.value (.func 101)), #[(.tmp 17)], #[3]⟩)⟩,
            ⟨some 2, none, (.assign (.tmp 18))⟩])
          .ret)
         (.seq
          (.ops [⟨some 20, none, (.fieldAddr 61 (.tmp 1) 1)⟩,
            ⟨some 21, none, (.load 3 (.tmp 20))⟩,
            ⟨some 22, none, (.binOp .neq 3 (.tmp 21) (.const (.int .i64 0)) 3)⟩,
            ⟨some 19, none, (.assign (.tmp 22))⟩])
          (.cond (.tmp 19)
           (.seq
            (.ops [⟨some 2, none, (.assign (.const (.bool false)))⟩])
            .ret)
           .skip)))))))
    (.seq
     (.ops [⟨some 23, none, (.fieldAddr 61 (.tmp 1) 0)⟩,
       ⟨some 24, none, (.load 3 (.tmp 23))⟩,
       ⟨some 25, none, (.call ⟨(.value (.func 102)), #[(.tmp 24)], #[3]⟩)⟩,
       ⟨some 26, none, (.move (.tmp 25))⟩,
       ⟨some 27, (some (26, false)), (.fieldAddr 61 (.tmp 1) 0)⟩,
       ⟨some 28, (some (26, false)), (.load 3 (.tmp 27))⟩,
       ⟨some 29, (some (26, false)), (.binOp .eql 3 (.tmp 28) (.const (.int .i64 105)) 3)⟩,
       ⟨some 30, none, (.pick (.tmp 26) (.const (.bool true)) (.tmp 29))⟩,
       ⟨some 31, none, (.move (.tmp 30))⟩,
       ⟨some 32, (some (31, false)), (.fieldAddr 61 (.tmp 1) 0)⟩,
       ⟨some 33, (some (31, false)), (.load 3 (.tmp 32))⟩,
       ⟨some 34, (some (31, false)), (.binOp .eql 3 (.tmp 33) (.const (.int .i64 35)) 3)⟩,
       ⟨some 35, none, (.pick (.tmp 31) (.const (.bool true)) (.tmp 34))⟩,
       ⟨some 36, none, (.move (.tmp 35))⟩,
       ⟨some 37, (some (36, false)), (.fieldAddr 61 (.tmp 1) 0)⟩,
       ⟨some 38, (some (36, false)), (.load 3 (.tmp 37))⟩,
       ⟨some 39, (some (36, false)), (.binOp .eql 3 (.tmp 38) (.const (.int .i64 44)) 3)⟩,
       ⟨some 40, none, (.pick (.tmp 36) (.const (.bool true)) (.tmp 39))⟩,
       ⟨some 41, none, (.move (.tmp 40))⟩,
       ⟨some 42, (some (41, false)), (.fieldAddr 61 (.tmp 1) 0)⟩,
       ⟨some 43, (some (41, false)), (.load 3 (.tmp 42))⟩,
       ⟨some 44, (some (41, false)), (.binOp .eql 3 (.tmp 43) (.const (.int .i64 114)) 3)⟩,
       ⟨some 45, none, (.pick (.tmp 41) (.const (.bool true)) (.tmp 44))⟩,
       ⟨some 46, none, (.move (.tmp 45))⟩,
       ⟨some 47, (some (46, false)), (.fieldAddr 61 (.tmp 1) 0)⟩,
       ⟨some 48, (some (46, false)), (.load 3 (.tmp 47))⟩,
       ⟨some 49, (some (46, false)), (.binOp .eql 3 (.tmp 48) (.const (.int .i64 122)) 3)⟩,
       ⟨some 50, none, (.pick (.tmp 46) (.const (.bool true)) (.tmp 49))⟩,
       ⟨some 51, none, (.move (.tmp 50))⟩,
       ⟨some 52, (some (51, false)), (.fieldAddr 61 (.tmp 1) 0)⟩,
       ⟨some 53, (some (51, false)), (.load 3 (.tmp 52))⟩,
       ⟨some 54, (some (51, false)), (.binOp .eql 3 (.tmp 53) (.const (.int .i64 103)) 3)⟩,
       ⟨some 55, none, (.pick (.tmp 51) (.const (.bool true)) (.tmp 54))⟩,
       ⟨some 2, none, (.assign (.tmp 55))⟩])
     .ret)))
theorem w85 {args : Array Value} {H : AH} {Φ : Value → AH → Prop} (h : rW Try.prog k85 [] (fin Try.prog [(.tmp 2)] Φ) (tm0 args) H) : CallsA Try.prog 85 args H Φ :=
  CallsA.w k85 [(.tmp 2)] (fun _ => []) Try.func85 rfl rfl (by kernel_rfl) (by kernel_rfl) h

/-- spec.FunTwo -/
def k86 : KC :=
  (.seq
   (.ops [⟨some 1, none, (.box 61 (.tmp 0))⟩,
     ⟨some 2, none, (.assign (.const (.bool false)))⟩])
   (.seq
    (.seq
     (.ops [⟨some 3, none, (.fieldAddr 61 (.tmp 1) 1)⟩,
       ⟨some 4, none, (.load 3 (.tmp 3))⟩,
       ⟨some 5, none, (.binOp .eql 3 (.tmp 4) (.const (.int .i64 46)) 3)⟩])
     (.cond (.tmp 5)
      (.seq
       (.ops [⟨some 6, none, (.fieldAddr 61 (.tmp 1) 0)⟩,
         ⟨some 7, none, (.load 3 (.tmp 6))⟩,
         ⟨some 8, none, (.call ⟨(.value (.func 101)), #[(.tmp 7)], #[3]⟩)⟩,
         ⟨some 9, none, (.move (.tmp 8))⟩,
         ⟨some 10, (some (9, true)), (.fieldAddr 61 (.tmp 1) 2)⟩,
         ⟨some 11, (some (9, true)), (.load 3 (.tmp 10))⟩,
         ⟨some 12, (some (9, true)), (.call ⟨(.value (.func 101)), #[(.tmp 11)], #[3]⟩)⟩,
         ⟨some 13, none, (.pick (.tmp 9) (.tmp 12) (.const (.bool false)))⟩,
         ⟨some 2, none, (.assign (.tmp 13))⟩])
       .ret)
      .skip))
    (.seq
     (.block 0
      (.seq
       (.ops [⟨some 15, none, (.fieldAddr 61 (.tmp 1) 2)⟩,
         ⟨some 16, none, (.load 3 (.tmp 15))⟩,
         ⟨some 17, none, (.binOp .neq 3 (.tmp 16) (.const (.int .i64 0)) 3)⟩,
         ⟨some 14, none, (.assign (.tmp 17))⟩])
       (.cond (.tmp 14)
        (.seq
         (.ops [⟨some 2, none, (.assign (.const (.bool false)))⟩])
         .ret)
        (.seq
         (.ops [⟨some 19, none, (.fieldAddr 61 (.tmp 1) 1)⟩,
           ⟨some 20, none, (.load 3 (.tmp 19))⟩,
           ⟨some 21, none, (.binOp .eql 3 (.tmp 20) (.const (.int .i64 111)) 3)⟩,
           ⟨some 18, none, (.assign (.tmp 21))⟩])
         (.cond (.tmp 18)
          (.seq
           (.ops [⟨some 22, none, (.fieldAddr 61 (.tmp 1) 0)⟩,
             ⟨some 23, none, (.load 3 (.tmp 22))⟩,
             ⟨some 24, none, (.call ⟨(.value (.func 101)), #[(.tmp 23)], #[3]⟩)⟩,
             ⟨some 2, none, (.assign (.tmp 24))⟩])
           .ret)
          (.seq
           (.ops [⟨some 26, none, (.fieldAddr 61 (.tmp 1) 1)⟩,
             ⟨some 27, none, (.load 3 (.tmp 26))⟩,
             ⟨some 28, none, (.binOp .neq 3 (.tmp 27) (.const (.int .i64 0)) 3)⟩,
             ⟨some 25, none, (.assign (.tmp 28))⟩])
           (.cond (.tmp 25)
            (.seq
             (.ops [⟨some 2, none, (.assign (.const (.bool false)))⟩])
             .ret)
            .skip)))))))
     (.seq
      (.ops [⟨some 29, none, (.fieldAddr 61 (.tmp 1) 0)⟩,
        ⟨some 30, none, (.load 3 (.tmp 29))⟩,
        ⟨some 31, none, (.call ⟨(.value (.func 101)), #[(.tmp 30)], #[3]⟩)⟩,
        ⟨some 32, none, (.move (.tmp 31))⟩,
        ⟨some 33, (some (32, false)), (.fieldAddr 61 (.tmp 1) 0)⟩,
        ⟨some 34, (some (32, false)), (.load 3 (.tmp 33))⟩,
        ⟨some 35, (some (32, false)), (.binOp .eql 3 (.tmp 34) (.const (.int .i64 35)) 3)⟩,
        ⟨some 36, none, (.pick (.tmp 32) (.const (.bool true)) (.tmp 35))⟩,
        ⟨some 37, none, (.move (.tmp 36))⟩,
        ⟨some 38, (some (37, false)), (.fieldAddr 61 (.tmp 1) 0)⟩,
        ⟨some 39, (some (37, false)), (.load 3 (.tmp 38))⟩,
        ⟨some 40, (some (37, false)), (.binOp .eql 3 (.tmp 39) (.const (.int .i64 44)) 3)⟩,
        ⟨some 41, none, (.pick (.tmp 37) (.const (.bool true)) (.tmp 40))⟩,
        ⟨some 42, none, (.move (.tmp 41))⟩,
        ⟨some 43, (some (42, false)), (.fieldAddr 61 (.tmp 1) 0)⟩,
        ⟨some 44, (some (42, false)), (.load 3 (.tmp 43))⟩,
        ⟨some 45, (some (42, false)), (.binOp .eql 3 (.tmp 44) (.const (.int .i64 116)) 3)⟩,
        ⟨some 46, none, (.pick (.tmp 42) (.const (.bool true)) (.tmp 45))⟩,
        ⟨some 47, none, (.move (.tmp 46))⟩,
        ⟨some 48, (some (47, false)), (.fieldAddr 61 (.tmp 1) 0)⟩,
        ⟨some 49, (some (47, false)), (.load 3 (.tmp 48))⟩,
        ⟨some 50, (some (47, false)), (.binOp .eql 3 (.tmp 49) (.const (.int .i64 100)) 3)⟩,
        ⟨some 51, none, (.pick (.tmp 47) (.const (.bool true)) (.tmp 50))⟩,
        ⟨some 52, none, (.move (.tmp 51))⟩,
        ⟨some 53, (some (52, false)), (.fieldAddr 61 (.tmp 1) 0)⟩,
        ⟨some 54, (some (52, false)), (.load 3 (.tmp 53))⟩,
        ⟨some 55, (some (52, false)), (.binOp .eql 3 (.tmp 54) (.const (.int .i64 114)) 3)⟩,
        ⟨some 56, none, (.pick (.tmp 52) (.const (.bool true)) (.tmp 55))⟩,
        ⟨some 57, none, (.move (.tmp 56))⟩,
        ⟨some 58, (some (57, false)), (.fieldAddr 61 (.tmp 1) 0)⟩,
        ⟨some 59, (some (57, false)), (.load 3 (.tmp 58))⟩,
        ⟨some 60, (some (57, false)), (.binOp .eql 3 (.tmp 59) (.const (.int .i64 64)) 3)⟩,
        ⟨some 61, none, (.pick (.tmp 57) (.const (.bool true)) (.tmp 60))⟩,
        ⟨some 62, none, (.move (.tmp 61))⟩,
        ⟨some 63, (some (62, false)), (.fieldAddr 61 (.tmp 1) 0)⟩,
        ⟨some 64, (some (62, false)), (.load 3 (.tmp 63))⟩,
        ⟨some 65, (some (62, false)), (.binOp .eql 3 (.tmp 64) (.const (.int .i64 63)) 3)⟩,
        ⟨some 66, none, (.pick (.tmp 62) (.const (.bool true)) (.tmp 65))⟩,
        ⟨some 67, none, (.move (.tmp 66))⟩,
        ⟨some 68, (some (67, false)), (.fieldAddr 61 (.tmp 1) 0)⟩,
        ⟨some 69, (some (67, false)), (.load 3 (.tmp 68))⟩,
        ⟨some 70, (some (67, false)), (.binOp .eql 3 (.tmp 69) (.const (.int .i64 36)) 3)⟩,
        ⟨some 71, none, (.pick (.tmp 67) (.const (.bool true)) (.tmp 70))⟩,
        ⟨some 72, none, (.move (.tmp 71))⟩,
        ⟨some 73, (some (72, false)), (.fieldAddr 61 (.tmp 1) 0)⟩,
        ⟨some 74, (some (72, false)), (.load 3 (.tmp 73))⟩,
        ⟨some 75, (some (72, false)), (.binOp .eql 3 (.tmp 74) (.const (.int .i64 101)) 3)⟩,
        ⟨some 76, none, (.pick (.tmp 72) (.const (.bool true)) (.tmp 75))⟩,
        ⟨some 2, none, (.assign (.tmp 76))⟩])
      .ret))))
theorem w86 {args : Array Value} {H : AH} {Φ : Value → AH → Prop} (h : rW Try.prog k86 [] (fin Try.prog [(.tmp 2)] Φ) (tm0 args) H) : CallsA Try.prog 86 args H Φ :=
  CallsA.w k86 [(.tmp 2)] (fun _ => []) Try.func86 rfl rfl (by kernel_rfl) (by kernel_rfl) h

/-- spec.l11Instr -/
def k70 : KC :=
  (.seq
   (.ops [⟨some 1, none, (.box 63 (.tmp 0))⟩,
     ⟨some 2, none, (.assign (.const (.bool false)))⟩])
   (.seq
    (.ops [⟨some 4, none, (.build 61 #[])⟩,
      ⟨some 3, none, (.alloc 61)⟩,
      ⟨none, none, (.store 61 (.tmp 3) (.tmp 4))⟩])
    (.seq
     (.seq
      (.ops [⟨some 5, none, (.fieldAddr 63 (.tmp 1) 0)⟩,
        ⟨some 6, none, (.load 3 (.tmp 5))⟩])
      (.block 0
       (.seq
        (.ops [⟨some 8, none, (.binOp .eql 3 (.tmp 6) (.const (.int .i64 1)) 3)⟩,
          ⟨some 7, none, (.assign (.tmp 8))⟩])
        (.cond (.tmp 7)
         (.seq
          (.ops [⟨some 9, none, (.fieldAddr 63 (.tmp 1) 1)⟩,
            ⟨some 10, none, (.load 3 (.tmp 9))⟩,
            ⟨some 11, none, (.binOp .eql 3 (.tmp 10) (.const (.int .i64 0)) 3)⟩,
            ⟨some 12, none, (.move (.tmp 11))⟩,
            ⟨some 13, (some (12, true)), (.fieldAddr 63 (.tmp 1) 2)⟩,
            ⟨some 14, (some (12, true)), (.load 61 (.tmp 13))⟩,
            ⟨some 15, (some (12, true)), (.load 61 (.tmp 3))⟩,
            ⟨some 16, (some (12, true)), (.binOp .eql 61 (.tmp 14) (.tmp 15) 61)⟩,
            ⟨some 17, none, (.pick (.tmp 12) (.tmp 16) (.const (.bool false)))⟩,
            ⟨some 18, none, (.move (.tmp 17))⟩,
            ⟨some 19, (some (18, true)), (.fieldAddr 63 (.tmp 1) 3)⟩,
            ⟨some 20, (some (18, true)), (.load 58 (.tmp 19))⟩,
            ⟨some 21, (some (18, true)), (.call ⟨(.value (.func 84)), #[(.tmp 20)], #[58]⟩)⟩,
            ⟨some 22, none, (.pick (.tmp 18) (.tmp 21) (.const (.bool false)))⟩,
            ⟨some 2, none, (.assign (.tmp 22))⟩])
          .ret)
         (.seq
          (.seq
           (.ops [⟨some 24, none, (.binOp .eql 3 (.tmp 6) (.const (.int .i64 2)) 3)⟩,
             ⟨some 23, none, (.assign (.tmp 24))⟩])
           (.cond (.tmp 23)
            .skip
            (.ops [⟨some 25, none, (.binOp .eql 3 (.tmp 6) (.const (.int .i64 3)) 3)⟩,
              ⟨some 23, none, (.assign (.tmp 25))⟩])))
          (.cond (.tmp 23)
           (.seq
            (.ops [⟨some 26, none, (.fieldAddr 63 (.tmp 1) 1)⟩,
              ⟨some 27, none, (.load 3 (.tmp 26))⟩,
              ⟨some 28, none, (.call ⟨(.value (.func 54)), #[(.tmp 27), (.const (.int .i64 0)), (.const (.int .i64 25))], #[3, 3, 3]⟩)⟩,
              ⟨some 29, none, (.move (.tmp 28))⟩,
              ⟨some 30, (some (29, true)), (.fieldAddr 63 (.tmp 1) 2)⟩,
              ⟨some 31, (some (29, true)), (.load 61 (.tmp 30))⟩,
              ⟨some 32, (some (29, true)), (.load 61 (.tmp 3))⟩,
              ⟨some 33, (some (29, true)), (.binOp .eql 61 (.tmp 31) (.tmp 32) 61)⟩,
              ⟨some 34, none, (.pick (.tmp 29) (.tmp 33) (.const (.bool false)))⟩,
              ⟨some 35, none, (.move (.tmp 34))⟩,
              ⟨some 36, (some (35, true)), (.fieldAddr 63 (.tmp 1) 3)⟩,
              ⟨some 37, (some (35, true)), (.load 58 (.tmp 36))⟩,
              ⟨some 38, (some (35, true)), (.call ⟨(.builtin .len), #[(.tmp 37)], #[58]⟩)⟩,
              ⟨some 39, (some (35, true)), (.binOp .eql 3 (.tmp 38) (.const (.int .i64 0)) 3)⟩,
              ⟨some 40, none, (.pick (.tmp 35) (.tmp 39) (.const (.bool false)))⟩,
              ⟨some 2, none, (.assign (.tmp 40))⟩])
            .ret)
           (.seq
            (.ops [⟨some 42, none, (.binOp .eql 3 (.tmp 6) (.const (.int .i64 4)) 3)⟩,
              ⟨some 41, none, (.assign (.tmp 42))⟩])
            (.cond (.tmp 41)
             (.seq
              (.ops [⟨some 43, none, (.fieldAddr 63 (.tmp 1) 1)⟩,
                ⟨some 44, none, (.load 3 (.tmp 43))⟩,
                ⟨some 45, none, (.binOp .eql 3 (.tmp 44) (.const (.int .i64 0)) 3)⟩,
                ⟨some 46, none, (.move (.tmp 45))⟩,
                ⟨some 47, (some (46, true)), (.fieldAddr 63 (.tmp 1) 2)⟩,
                ⟨some 48, (some (46, true)), (.load 61 (.tmp 47))⟩,
                ⟨some 49, (some (46, true)), (.call ⟨(.value (.func 85)), #[(.tmp 48)], #[61]⟩)⟩,
                ⟨some 50, none, (.pick (.tmp 46) (.tmp 49) (.const (.bool false)))⟩,
                ⟨some 51, none, (.move (.tmp 50))⟩,
                ⟨some 52, (some (51, true)), (.fieldAddr 63 (.tmp 1) 3)⟩,
                ⟨some 53, (some (51, true)), (.load 58 (.tmp 52))⟩,
                ⟨some 54, (some (51, true)), (.call ⟨(.builtin .len), #[(.tmp 53)], #[58]⟩)⟩,
                ⟨some 55, (some (51, true)), (.binOp .eql 3 (.tmp 54) (.const (.int .i64 0)) 3)⟩,
                ⟨some 56, none, (.pick (.tmp 51) (.tmp 55) (.const (.bool false)))⟩,
                ⟨some 2, none, (.assign (.tmp 56))⟩])
              .ret)
             (.seq
              (.ops [⟨some 58, none, (.binOp .eql 3 (.tmp 6) (.const (.int .i64 5)) 3)⟩,
                ⟨some 57, none, (.assign (.tmp 58))⟩])
              (.cond (.tmp 57)
               (.seq
                (.ops [⟨some 59, none, (.fieldAddr 63 (.tmp 1) 1)⟩,
                  ⟨some 60, none, (.load 3 (.tmp 59))⟩,
                  ⟨some 61, none, (.binOp .eql 3 (.tmp 60) (.const (.int .i64 0)) 3)⟩,
                  ⟨some 62, none, (.move (.tmp 61))⟩,
                  ⟨some 63, (some (62, true)), (.fieldAddr 63 (.tmp 1) 2)⟩,
                  ⟨some 64, (some (62, true)), (.load 61 (.tmp 63))⟩,
                  ⟨some 65, (some (62, true)), (.call ⟨(.value (.func 86)), #[(.tmp 64)], #[61]⟩)⟩,
                  ⟨some 66, none, (.pick (.tmp 62) (.tmp 65) (.const (.bool false)))⟩,
                  ⟨some 67, none, (.move (.tmp 66))⟩,
                  ⟨some 68, (some (67, true)), (.fieldAddr 63 (.tmp 1) 3)⟩,
                  ⟨some 69, (some (67, true)), (.load 58 (.tmp 68))⟩,
                  ⟨some 70, (some (67, true)), (.call ⟨(.builtin .len), #[(.tmp 69)], #[58]⟩)⟩,
                  ⟨some 71, (some (67, true)), (.binOp .eql 3 (.tmp 70) (.const (.int .i64 0)) 3)⟩,
                  ⟨some 72, none, (.pick (.tmp 67) (.tmp 71) (.const (.bool false)))⟩,
                  ⟨some 2, none, (.assign (.tmp 72))⟩])
                .ret)
               .skip))))))))))
     (.seq
      (.ops [⟨some 2, none, (.assign (.const (.bool false)))⟩])
      .ret))))
theorem w70 {args : Array Value} {H : AH} {Φ : Value → AH → Prop} (h : rW Try.prog k70 [] (fin Try.prog [(.tmp 2)] Φ) (tm0 args) H) : CallsA Try.prog 70 args H Φ :=
  CallsA.w k70 [(.tmp 2)] (fun _ => []) Try.func70 rfl rfl (by kernel_rfl) (by kernel_rfl) h

/-- spec.CodeOk -/
def k36 : KC :=
  (.seq
   (.ops [⟨some 2, none, (.assign (.const (.bool false)))⟩])
   (.seq
    (.seq
     (.ops [⟨some 6, none, (.move (.tmp 0))⟩,
       ⟨some 7, none, (.call ⟨(.builtin .len), #[(.tmp 6)], #[27]⟩)⟩,
       ⟨some 8, none, (.call ⟨(.value (.func 54)), #[(.tmp 7), (.const (.int .i64 1)), (.const (.int .i64 60))], #[3, 3, 3]⟩)⟩,
       ⟨some 9, none, (.unOp .not 4 (.tmp 8))⟩])
     (.cond (.tmp 9)
      (.seq
       (.ops [⟨some 2, none, (.assign (.const (.bool false)))⟩])
       .ret)
      .skip))
    (.seq
     (.seq
      (.ops [⟨some 3, none, (.assign (.const (.int .i64 0)))⟩])
      (.block 0
       (.loop
        (.seq
         (.seq
          (.ops [⟨some 10, none, (.move (.tmp 3))⟩,
            ⟨some 11, none, (.move (.tmp 0))⟩,
            ⟨some 12, none, (.call ⟨(.builtin .len), #[(.tmp 11)], #[27]⟩)⟩,
            ⟨some 13, none, (.binOp .lss 3 (.tmp 10) (.tmp 12) 3)⟩])
          (.cond (.tmp 13)
           .skip
           (.exit 0)))
         (.seq
          (.block 1
           (.seq
            (.ops [⟨some 16, none, (.move (.tmp 0))⟩,
              ⟨some 17, none, (.move (.tmp 3))⟩,
              ⟨some 18, none, (.indexAddr 27 (.tmp 16) (.tmp 17))⟩,
              ⟨some 19, none, (.load 63 (.tmp 18))⟩,
              ⟨some 20, none, (.call ⟨(.value (.func 70)), #[(.tmp 19)], #[63]⟩)⟩,
              ⟨some 21, none, (.unOp .not 4 (.tmp 20))⟩])
            (.cond (.tmp 21)
             (.seq
              (.ops [⟨some 2, none, (.assign (.const (.bool false)))⟩])
              .ret)
             .skip)))
          (.ops [⟨some 14, none, (.move (.tmp 3))⟩,
            ⟨some 15, none, (.binOp .add 3 (.tmp 14) (.const (.int .i64 1)) 3)⟩,
            ⟨some 3, none, (.assign (.tmp 15))⟩]))))))
     (.seq
      (.ops [⟨some 23, none, (.move (.tmp 0))⟩,
        ⟨some 24, none, (.call ⟨(.value (.func 67)), #[(.tmp 23)], #[27]⟩)⟩,
        ⟨some 22, none, (.move (.tmp 24))⟩,
        ⟨some 25, none, (.extract (.tmp 22) 0)⟩,
        ⟨some 26, none, (.extract (.tmp 22) 1)⟩,
        ⟨some 4, none, (.assign (.tmp 25))⟩,
        ⟨some 5, none, (.assign (.tmp 26))⟩])
      (.seq
       (.ops [⟨some 27, none, (.move (.tmp 5))⟩,
         ⟨some 28, none, (.move (.tmp 27))⟩,
         ⟨some 29, (some (28, true)), (.move (.tmp 4))⟩,
         ⟨some 30, (some (28, true)), (.move (.tmp 0))⟩,
         ⟨some 31, (some (28, true)), (.call ⟨(.builtin .len), #[(.tmp 30)], #[27]⟩)⟩,
         ⟨some 32, (some (28, true)), (.indexAddr 58 (.tmp 29) (.tmp 31))⟩,
         ⟨some 33, (some (28, true)), (.load 3 (.tmp 32))⟩,
         ⟨some 34, (some (28, true)), (.binOp .eql 3 (.tmp 33) (.const (.int .i64 1)) 3)⟩,
         ⟨some 35, none, (.pick (.tmp 28) (.tmp 34) (.const (.bool false)))⟩,
         ⟨some 2, none, (.assign (.tmp 35))⟩])
       .ret)))))
theorem w36 {args : Array Value} {H : AH} {Φ : Value → AH → Prop} (h : rW Try.prog k36 [] (fin Try.prog [(.tmp 2)] Φ) (tm0 args) H) : CallsA Try.prog 36 args H Φ :=
  CallsA.w k36 [(.tmp 2)] (fun _ => []) Try.func36 rfl rfl (by kernel_rfl) (by kernel_rfl) h

/-- spec.CodePack -/
def k9 : KC :=
  (.seq
   (.ops [⟨some 2, none, (.assign (.const (.slice none 0 0)))⟩,
     ⟨some 3, none, (.assign (.const (.bool false)))⟩])
   (.seq
    (.seq
     (.ops [⟨some 10, none, (.move (.tmp 0))⟩,
       ⟨some 11, none, (.call ⟨(.value (.func 36)), #[(.tmp 10)], #[27]⟩)⟩,
       ⟨some 12, none, (.unOp .not 4 (.tmp 11))⟩])
     (.cond (.tmp 12)
      (.seq
       (.ops [⟨some 13, none, (.buildSlice 24 0 #[])⟩,
         ⟨some 2, none, (.assign (.tmp 13))⟩,
         ⟨some 3, none, (.assign (.const (.bool false)))⟩])
       .ret)
      .skip))
    (.seq
     (.ops [⟨some 14, none, (.move (.tmp 0))⟩,
       ⟨some 15, none, (.call ⟨(.builtin .len), #[(.tmp 14)], #[27]⟩)⟩,
       ⟨some 16, none, (.convert 3 5 (.tmp 15))⟩,
       ⟨some 17, none, (.buildSlice 24 1 #[(0, (.tmp 16))])⟩,
       ⟨some 4, none, (.assign (.tmp 17))⟩])
     (.seq
      (.seq
       (.ops [⟨some 5, none, (.assign (.const (.int .i64 0)))⟩])
       (.block 0
        (.loop
         (.seq
          (.seq
           (.ops [⟨some 18, none, (.move (.tmp 5))⟩,
             ⟨some 19, none, (.move (.tmp 0))⟩,
             ⟨some 20, none, (.call ⟨(.builtin .len), #[(.tmp 19)], #[27]⟩)⟩,
             ⟨some 21, none, (.binOp .lss 3 (.tmp 18) (.tmp 20) 3)⟩])
           (.cond (.tmp 21)
            .skip
            (.exit 0)))
          (.seq
           (.block 1
            (.seq
             (.ops [⟨some 24, none, (.move (.tmp 0))⟩,
               ⟨some 25, none, (.move (.tmp 5))⟩,
               ⟨some 26, none, (.indexAddr 27 (.tmp 24) (.tmp 25))⟩,
               ⟨some 27, none, (.load 63 (.tmp 26))⟩,
               ⟨some 6, none, (.alloc 63)⟩,
               ⟨none, none, (.store 63 (.tmp 6) (.tmp 27))⟩])
             (.seq
              (.ops [⟨some 28, none, (.move (.tmp 4))⟩,
                ⟨some 29, none, (.fieldAddr 63 (.tmp 6) 0)⟩,
                ⟨some 30, none, (.load 3 (.tmp 29))⟩,
                ⟨some 31, none, (.convert 3 5 (.tmp 30))⟩,
                ⟨some 32, none, (.fieldAddr 63 (.tmp 6) 1)⟩,
                ⟨some 33, none, (.load 3 (.tmp 32))⟩,
                ⟨some 34, none, (.convert 3 5 (.tmp 33))⟩,
                ⟨some 35, none, (.fieldAddr 63 (.tmp 6) 2)⟩,
                ⟨some 36, none, (.fieldAddr 61 (.tmp 35) 0)⟩,
                ⟨some 37, none, (.load 3 (.tmp 36))⟩,
                ⟨some 38, none, (.convert 3 5 (.tmp 37))⟩,
                ⟨some 39, none, (.fieldAddr 63 (.tmp 6) 2)⟩,
                ⟨some 40, none, (.fieldAddr 61 (.tmp 39) 1)⟩,
                ⟨some 41, none, (.load 3 (.tmp 40))⟩,
                ⟨some 42, none, (.convert 3 5 (.tmp 41))⟩,
                ⟨some 43, none, (.fieldAddr 63 (.tmp 6) 2)⟩,
                ⟨some 44, none, (.fieldAddr 61 (.tmp 43) 2)⟩,
                ⟨some 45, none, (.load 3 (.tmp 44))⟩,
                ⟨some 46, none, (.convert 3 5 (.tmp 45))⟩,
                ⟨some 47, none, (.buildSlice 24 5 #[(0, (.tmp 31)), (1, (.tmp 34)), (2, (.tmp 38)), (3, (.tmp 42)), (4, (.tmp 46))])⟩,
                ⟨some 48, none, (.call ⟨(.builtin .append), #[(.tmp 28), (.tmp 47)], #[24, 24]⟩)⟩,
                ⟨some 4, none, (.assign (.tmp 48))⟩])
              (.seq
               (.seq
                (.ops [⟨some 49, none, (.fieldAddr 63 (.tmp 6) 0)⟩,
                  ⟨some 50, none, (.load 3 (.tmp 49))⟩,
                  ⟨some 51, none, (.binOp .neq 3 (.tmp 50) (.const (.int .i64 1)) 3)⟩])
                (.cond (.tmp 51)
                 (.exit 1)
                 .skip))
               (.seq
                (.ops [⟨some 52, none, (.move (.tmp 4))⟩,
                  ⟨some 53, none, (.fieldAddr 63 (.tmp 6) 3)⟩,
                  ⟨some 54, none, (.load 58 (.tmp 53))⟩,
                  ⟨some 55, none, (.call ⟨(.builtin .len), #[(.tmp 54)], #[58]⟩)⟩,
                  ⟨some 56, none, (.binOp .rem 3 (.tmp 55) (.const (.int .i64 256)) 3)⟩,
                  ⟨some 57, none, (.convert 3 5 (.tmp 56))⟩,
                  ⟨some 58, none, (.fieldAddr 63 (.tmp 6) 3)⟩,
                  ⟨some 59, none, (.load 58 (.tmp 58))⟩,
                  ⟨some 60, none, (.call ⟨(.builtin .len), #[(.tmp 59)], #[58]⟩)⟩,
                  ⟨some 61, none, (.binOp .quo 3 (.tmp 60) (.const (.int .i64 256)) 3)⟩,
                  ⟨some 62, none, (.convert 3 5 (.tmp 61))⟩,
                  ⟨some 63, none, (.buildSlice 24 2 #[(0, (.tmp 57)), (1, (.tmp 62))])⟩,
                  ⟨some 64, none, (.call ⟨(.builtin .append), #[(.tmp 52), (.tmp 63)], #[24, 24]⟩)⟩,
                  ⟨some 4, none, (.assign (.tmp 64))⟩])
                (.seq
                 (.ops [⟨some 7, none, (.assign (.const (.int .i64 0)))⟩])
                 (.block 2
                  (.loop
                   (.seq
                    (.seq
                     (.ops [⟨some 65, none, (.move (.tmp 7))⟩,
                       ⟨some 66, none, (.fieldAddr 63 (.tmp 6) 3)⟩,
                       ⟨some 67, none, (.load 58 (.tmp 66))⟩,
                       ⟨some 68, none, (.call ⟨(.builtin .len), #[(.tmp 67)], #[58]⟩)⟩,
                       ⟨some 69, none, (.binOp .lss 3 (.tmp 65) (.tmp 68) 3)⟩])
                     (.cond (.tmp 69)
                      .skip
                      (.exit 2)))
                    (.seq
                     (.block 3
                      (.seq
                       (.ops [⟨some 72, none, (.fieldAddr 63 (.tmp 6) 3)⟩,
                         ⟨some 73, none, (.load 58 (.tmp 72))⟩,
                         ⟨some 74, none, (.move (.tmp 7))⟩,
                         ⟨some 75, none, (.indexAddr 58 (.tmp 73) (.tmp 74))⟩,
                         ⟨some 76, none, (.load 3 (.tmp 75))⟩,
                         ⟨some 77, none, (.binOp .add 3 (.tmp 76) (.const (.int .i64 1000000000000)) 3)⟩,
                         ⟨some 8, none, (.assign (.tmp 77))⟩])
                       (.seq
                        (.ops [⟨some 9, none, (.assign (.const (.int .i64 0)))⟩])
                        (.block 4
                         (.loop
                          (.seq
                           (.seq
                            (.ops [⟨some 78, none, (.move (.tmp 9))⟩,
                              ⟨some 79, none, (.binOp .lss 3 (.tmp 78) (.const (.int .i64 8)) 3)⟩])
                            (.cond (.tmp 79)
                             .skip
                             (.exit 4)))
                           (.seq
                            (.block 5
                             (.ops [⟨some 82, none, (.move (.tmp 4))⟩,
                               ⟨some 83, none, (.move (.tmp 8))⟩,
                               ⟨some 84, none, (.move (.tmp 9))⟩,
                               ⟨some 85, none, (.binOp .mul 3 (.const (.int .i64 8)) (.tmp 84) 3)⟩,
                               ⟨some 86, none, (.binOp .shr 3 (.tmp 83) (.tmp 85) 3)⟩,
                               ⟨some 87, none, (.convert 3 5 (.tmp 86))⟩,
                               ⟨some 88, none, (.buildSlice 24 1 #[(0, (.tmp 87))])⟩,
                               ⟨some 89, none, (.call ⟨(.builtin .append), #[(.tmp 82), (.tmp 88)], #[24, 24]⟩)⟩,
                               ⟨some 4, none, (.assign (.tmp 89))⟩]))
                            (.ops [⟨some 80, none, (.move (.tmp 9))⟩,
                              ⟨some 81, none, (.binOp .add 3 (.tmp 80) (.const (.int .i64 1)) 3)⟩,
                              ⟨some 9, none, (.assign (.tmp 81))⟩]))))))))
                     (.ops [⟨some 70, none, (.move (.tmp 7))⟩,
                       ⟨some 71, none, (.binOp .add 3 (.tmp 70) (.const (.int .i64 1)) 3)⟩,
                       ⟨some 7, none, (.assign (.tmp 71))⟩])))))))))))
           (.ops [⟨some 22, none, (.move (.tmp 5))⟩,
             ⟨some 23, none, (.binOp .add 3 (.tmp 22) (.const (.int .i64 1)) 3)⟩,
             ⟨some 5, none, (.assign (.tmp 23))⟩]))))))
      (.seq
       (.ops [⟨some 90, none, (.move (.tmp 4))⟩,
         ⟨some 2, none, (.assign (.tmp 90))⟩,
         ⟨some 3, none, (.assign (.const (.bool true)))⟩])
       .ret)))))
theorem w9 {args : Array Value} {H : AH} {Φ : Value → AH → Prop} (h : rW Try.prog k9 [] (fin Try.prog [(.tmp 2), (.tmp 3)] Φ) (tm0 args) H) : CallsA Try.prog 9 args H Φ :=
  CallsA.w k9 [(.tmp 2), (.tmp 3)] (fun _ => []) Try.func9 rfl rfl (by kernel_rfl) (by kernel_rfl) h

/-- laws.toFun -/
def k75 : KC :=
  (.seq
   (.ops [⟨some 1, none, (.box 57 (.tmp 0))⟩,
     ⟨some 2, none, (.alloc 61)⟩])
   (.seq
    (.ops [⟨some 3, none, (.alloc 61)⟩])
    (.seq
     (.ops [⟨some 4, none, (.fieldAddr 57 (.tmp 1) 0)⟩,
       ⟨some 5, none, (.load 3 (.tmp 4))⟩,
       ⟨some 6, none, (.fieldAddr 61 (.tmp 3) 0)⟩,
       ⟨none, none, (.store 3 (.tmp 6) (.tmp 5))⟩])
     (.seq
      (.ops [⟨some 7, none, (.fieldAddr 57 (.tmp 1) 1)⟩,
        ⟨some 8, none, (.load 3 (.tmp 7))⟩,
        ⟨some 9, none, (.fieldAddr 61 (.tmp 3) 1)⟩,
        ⟨none, none, (.store 3 (.tmp 9) (.tmp 8))⟩])
      (.seq
       (.ops [⟨some 10, none, (.fieldAddr 57 (.tmp 1) 2)⟩,
         ⟨some 11, none, (.load 3 (.tmp 10))⟩,
         ⟨some 12, none, (.fieldAddr 61 (.tmp 3) 2)⟩,
         ⟨none, none, (.store 3 (.tmp 12) (.tmp 11))⟩])
       (.seq
        (.ops [⟨some 13, none, (.load 61 (.tmp 3))⟩,
          ⟨none, none, (.store 61 (.tmp 2) (.tmp 13))⟩])
        .ret))))))
theorem w75 {args : Array Value} {H : AH} {Φ : Value → AH → Prop} (h : rW Try.prog k75 [] (fin Try.prog [(.cell 2 61)] Φ) (tm0 args) H) : CallsA Try.prog 75 args H Φ :=
  CallsA.w k75 [(.cell 2 61)] (fun _ => []) Try.func75 rfl rfl (by kernel_rfl) (by kernel_rfl) h

/-- laws.toIntS -/
def k76 : KC :=
  (.seq
   (.ops [⟨some 2, none, (.assign (.const (.slice none 0 0)))⟩])
   (.seq
    (.ops [⟨some 5, none, (.move (.tmp 0))⟩,
      ⟨some 6, none, (.call ⟨(.builtin .len), #[(.tmp 5)], #[58]⟩)⟩,
      ⟨some 7, none, (.makeSlice 58 (.tmp 6) (.tmp 6))⟩,
      ⟨some 3, none, (.assign (.tmp 7))⟩])
    (.seq
     (.seq
      (.ops [⟨some 4, none, (.assign (.const (.int .i64 0)))⟩])
      (.block 0
       (.loop
        (.seq
         (.seq
          (.ops [⟨some 8, none, (.move (.tmp 4))⟩,
            ⟨some 9, none, (.move (.tmp 0))⟩,
            ⟨some 10, none, (.call ⟨(.builtin .len), #[(.tmp 9)], #[58]⟩)⟩,
            ⟨some 11, none, (.binOp .lss 3 (.tmp 8) (.tmp 10) 3)⟩])
          (.cond (.tmp 11)
           .skip
           (.exit 0)))
         (.seq
          (.block 1
           (.ops [⟨some 14, none, (.move (.tmp 3))⟩,
             ⟨some 15, none, (.move (.tmp 4))⟩,
             ⟨some 16, none, (.move (.tmp 0))⟩,
             ⟨some 17, none, (.move (.tmp 4))⟩,
             ⟨some 18, none, (.indexAddr 58 (.tmp 16) (.tmp 17))⟩,
             ⟨some 19, none, (.load 3 (.tmp 18))⟩,
             ⟨some 20, none, (.indexAddr 58 (.tmp 14) (.tmp 15))⟩,
             ⟨none, none, (.store 3 (.tmp 20) (.tmp 19))⟩]))
          (.ops [⟨some 12, none, (.move (.tmp 4))⟩,
            ⟨some 13, none, (.binOp .add 3 (.tmp 12) (.const (.int .i64 1)) 3)⟩,
            ⟨some 4, none, (.assign (.tmp 13))⟩]))))))
     (.seq
      (.ops [⟨some 21, none, (.move (.tmp 3))⟩,
        ⟨some 2, none, (.assign (.tmp 21))⟩])
      .ret))))
theorem w76 {args : Array Value} {H : AH} {Φ : Value → AH → Prop} (h : rW Try.prog k76 [] (fin Try.prog [(.tmp 2)] Φ) (tm0 args) H) : CallsA Try.prog 76 args H Φ :=
  CallsA.w k76 [(.tmp 2)] (fun _ => []) Try.func76 rfl rfl (by kernel_rfl) (by kernel_rfl) h

/-- laws.toInstr -/
def k39 : KC :=
  (.seq
   (.ops [⟨some 1, none, (.box 60 (.tmp 0))⟩,
     ⟨some 2, none, (.alloc 63)⟩])
   (.seq
    (.ops [⟨some 3, none, (.alloc 63)⟩])
    (.seq
     (.ops [⟨some 4, none, (.fieldAddr 60 (.tmp 1) 0)⟩,
       ⟨some 5, none, (.load 3 (.tmp 4))⟩,
       ⟨some 6, none, (.fieldAddr 63 (.tmp 3) 0)⟩,
       ⟨none, none, (.store 3 (.tmp 6) (.tmp 5))⟩])
     (.seq
      (.ops [⟨some 7, none, (.fieldAddr 60 (.tmp 1) 1)⟩,
        ⟨some 8, none, (.load 3 (.tmp 7))⟩,
        ⟨some 9, none, (.fieldAddr 63 (.tmp 3) 1)⟩,
        ⟨none, none, (.store 3 (.tmp 9) (.tmp 8))⟩])
      (.seq
       (.ops [⟨some 10, none, (.fieldAddr 60 (.tmp 1) 2)⟩,
         ⟨some 11, none, (.load 57 (.tmp 10))⟩,
         ⟨some 12, none, (.call ⟨(.value (.func 75)), #[(.tmp 11)], #[57]⟩)⟩,
         ⟨some 13, none, (.fieldAddr 63 (.tmp 3) 2)⟩,
         ⟨none, none, (.store 61 (.tmp 13) (.tmp 12))⟩])
       (.seq
        (.ops [⟨some 14, none, (.fieldAddr 60 (.tmp 1) 3)⟩,
          ⟨some 15, none, (.load 58 (.tmp 14))⟩,
          ⟨some 16, none, (.call ⟨(.value (.func 76)), #[(.tmp 15)], #[58]⟩)⟩,
          ⟨some 17, none, (.fieldAddr 63 (.tmp 3) 3)⟩,
          ⟨none, none, (.store 58 (.tmp 17) (.tmp 16))⟩])
        (.seq
         (.ops [⟨some 18, none, (.load 63 (.tmp 3))⟩,
           ⟨none, none, (.store 63 (.tmp 2) (.tmp 18))⟩])
         .ret)))))))
theorem w39 {args : Array Value} {H : AH} {Φ : Value → AH → Prop} (h : rW Try.prog k39 [] (fin Try.prog [(.cell 2 63)] Φ) (tm0 args) H) : CallsA Try.prog 39 args H Φ :=
  CallsA.w k39 [(.cell 2 63)] (fun _ => []) Try.func39 rfl rfl (by kernel_rfl) (by kernel_rfl) h

/-- laws.toInstrS -/
def k10 : KC :=
  (.seq
   (.ops [⟨some 2, none, (.assign (.const (.slice none 0 0)))⟩])
   (.seq
    (.ops [⟨some 5, none, (.move (.tmp 0))⟩,
      ⟨some 6, none, (.call ⟨(.builtin .len), #[(.tmp 5)], #[22]⟩)⟩,
      ⟨some 7, none, (.makeSlice 27 (.tmp 6) (.tmp 6))⟩,
      ⟨some 3, none, (.assign (.tmp 7))⟩])
    (.seq
     (.seq
      (.ops [⟨some 4, none, (.assign (.const (.int .i64 0)))⟩])
      (.block 0
       (.loop
        (.seq
         (.seq
          (.ops [⟨some 8, none, (.move (.tmp 4))⟩,
            ⟨some 9, none, (.move (.tmp 0))⟩,
            ⟨some 10, none, (.call ⟨(.builtin .len), #[(.tmp 9)], #[22]⟩)⟩,
            ⟨some 11, none, (.binOp .lss 3 (.tmp 8) (.tmp 10) 3)⟩])
          (.cond (.tmp 11)
           .skip
           (.exit 0)))
         (.seq
          (.block 1
           (.ops [⟨some 14, none, (.move (.tmp 3))⟩,
             ⟨some 15, none, (.move (.tmp 4))⟩,
             ⟨some 16, none, (.move (.tmp 0))⟩,
             ⟨some 17, none, (.move (.tmp 4))⟩,
             ⟨some 18, none, (.indexAddr 22 (.tmp 16) (.tmp 17))⟩,
             ⟨some 19, none, (.load 60 (.tmp 18))⟩,
             ⟨some 20, none, (.call ⟨(.value (.func 39)), #[(.tmp 19)], #[60]⟩)⟩,
             ⟨some 21, none, (.indexAddr 27 (.tmp 14) (.tmp 15))⟩,
             ⟨none, none, (.store 63 (.tmp 21) (.tmp 20))⟩]))
          (.ops [⟨some 12, none, (.move (.tmp 4))⟩,
            ⟨some 13, none, (.binOp .add 3 (.tmp 12) (.const (.int .i64 1)) 3)⟩,
            ⟨some 4, none, (.assign (.tmp 13))⟩]))))))
     (.seq
      (.ops [⟨some 22, none, (.move (.tmp 3))⟩,
        ⟨some 2, none, (.assign (.tmp 22))⟩])
      .ret))))
theorem w10 {args : Array Value} {H : AH} {Φ : Value → AH → Prop} (h : rW Try.prog k10 [] (fin Try.prog [(.tmp 2)] Φ) (tm0 args) H) : CallsA Try.prog 10 args H Φ :=
  CallsA.w k10 [(.tmp 2)] (fun _ => []) Try.func10 rfl rfl (by kernel_rfl) (by kernel_rfl) h

/-- impl.within -/
def k56 : KC :=
  (.seq
   (.ops [⟨some 6, none, (.assign (.const (.bool false)))⟩])
   (.seq
    (.ops [⟨some 7, none, (.move (.tmp 0))⟩,
      ⟨some 8, none, (.move (.tmp 1))⟩,
      ⟨some 9, none, (.binOp .geq 3 (.tmp 7) (.tmp 8) 3)⟩,
      ⟨some 10, none, (.move (.tmp 9))⟩,
      ⟨some 11, (some (10, true)), (.move (.tmp 0))⟩,
      ⟨some 12, (some (10, true)), (.move (.tmp 2))⟩,
      ⟨some 13, (some (10, true)), (.binOp .leq 3 (.tmp 11) (.tmp 12) 3)⟩,
      ⟨some 14, none, (.pick (.tmp 10) (.tmp 13) (.const (.bool false)))⟩,
      ⟨some 6, none, (.assign (.tmp 14))⟩])
    .ret))
theorem w56 {args : Array Value} {H : AH} {Φ : Value → AH → Prop} (h : rW Try.prog k56 [] (fin Try.prog [(.tmp 6)] Φ) (tm0 args) H) : CallsA Try.prog 56 args H Φ :=
  CallsA.w k56 [(.tmp 6)] (fun _ => []) Try.func56 rfl rfl (by kernel_rfl) (by kernel_rfl) h

/-- impl.takes -/
def k91 : KC :=
  (.seq
   (.ops [⟨some 1, none, (.box 63 (.tmp 0))⟩,
     ⟨some 2, none, (.assign (.const (.int .i64 0)))⟩])
   (.seq
    (.seq
     (.ops [⟨some 3, none, (.fieldAddr 63 (.tmp 1) 0)⟩,
       ⟨some 4, none, (.load 3 (.tmp 3))⟩])
     (.block 0
      (.seq
       (.seq
        (.ops [⟨some 6, none, (.binOp .eql 3 (.tmp 4) (.const (.int .i64 3)) 3)⟩,
          ⟨some 5, none, (.assign (.tmp 6))⟩])
        (.cond (.tmp 5)
         .skip
         (.ops [⟨some 7, none, (.binOp .eql 3 (.tmp 4) (.const (.int .i64 4)) 3)⟩,
           ⟨some 5, none, (.assign (.tmp 7))⟩])))
       (.cond (.tmp 5)
        (.seq
         (.ops [⟨some 2, none, (.assign (.const (.int .i64 1)))⟩])
         .ret)
        (.seq
         (.ops [⟨some 9, none, (.binOp .eql 3 (.tmp 4) (.const (.int .i64 5)) 3)⟩,
           ⟨some 8, none, (.assign (.tmp 9))⟩])
         (.cond (.tmp 8)
          (.seq
           (.ops [⟨some 2, none, (.assign (.const (.int .i64 2)))⟩])
           .ret)
          .skip))))))
    (.seq
     (.ops [⟨some 2, none, (.assign (.const (.int .i64 0)))⟩])
     .ret)))
theorem w91 {args : Array Value} {H : AH} {Φ : Value → AH → Prop} (h : rW Try.prog k91 [] (fin Try.prog [(.tmp 2)] Φ) (tm0 args) H) : CallsA Try.prog 91 args H Φ :=
  CallsA.w k91 [(.tmp 2)] (fun _ => []) Try.func91 rfl rfl (by kernel_rfl) (by kernel_rfl) h

/-- impl.deep -/
def k61 : KC :=
  (.seq
   (.ops [⟨some 2, none, (.assign (.const (.slice none 0 0)))⟩,
     ⟨some 3, none, (.assign (.const (.bool false)))⟩])
   (.seq
    (.ops [⟨some 7, none, (.buildSlice 58 1 #[(0, (.const (.int .i64 0)))])⟩,
      ⟨some 4, none, (.assign (.tmp 7))⟩])
    (.seq
     (.seq
      (.ops [⟨some 8, none, (.move (.tmp 0))⟩,
        ⟨some 9, none, (.call ⟨(.builtin .len), #[(.tmp 8)], #[27]⟩)⟩,
        ⟨some 10, none, (.move (.const (.int .i64 0)))⟩])
      (.block 0
       (.loop
        (.seq
         (.ops [⟨some 11, none, (.binOp .lss 3 (.tmp 10) (.tmp 9) 3)⟩])
         (.seq
          (.cond (.tmp 11)
           .skip
           (.exit 0))
          (.seq
           (.block 1
            (.seq
             (.ops [⟨some 12, none, (.move (.tmp 10))⟩,
               ⟨some 13, none, (.indexAddr 27 (.tmp 8) (.tmp 10))⟩,
               ⟨some 14, none, (.load 63 (.tmp 13))⟩,
               ⟨some 6, none, (.alloc 63)⟩,
               ⟨some 5, none, (.assign (.tmp 12))⟩,
               ⟨none, none, (.store 63 (.tmp 6) (.tmp 14))⟩])
             (.seq
              (.seq
               (.draw #[] [(3, 0), (3, 6), (4, 0)]
                 [⟨some 15, none, (.move (.tmp 4))⟩,
                 ⟨some 16, none, (.move (.tmp 5))⟩,
                 ⟨some 17, none, (.indexAddr 58 (.tmp 15) (.tmp 16))⟩,
                 ⟨some 18, none, (.load 3 (.tmp 17))⟩,
                 ⟨some 19, none, (.load 63 (.tmp 6))⟩,
                 ⟨some 20, none, (.call ⟨(.value (.func 91)), #[(.tmp 19)], #[63]⟩)⟩,
                 ⟨some 21, none, (.binOp .lss 3 (.tmp 18) (.tmp 20) 3)⟩])
               (.cond (.tmp 21)
                (.seq
                 (.ops [⟨some 2, none, (.assign (.const (.slice none 0 0)))⟩,
                   ⟨some 3, none, (.assign (.const (.bool false)))⟩])
                 .ret)
                .skip))
              (.draw #[] [(4, 0), (4, 7), (5, 0)]
                [⟨some 22, none, (.move (.tmp 4))⟩,
                ⟨some 23, none, (.move (.tmp 4))⟩,
                ⟨some 24, none, (.move (.tmp 5))⟩,
                ⟨some 25, none, (.indexAddr 58 (.tmp 23) (.tmp 24))⟩,
                ⟨some 26, none, (.load 3 (.tmp 25))⟩,
                ⟨some 27, none, (.load 63 (.tmp 6))⟩,
                ⟨some 28, none, (.call ⟨(.value (.func 91)), #[(.tmp 27)], #[63]⟩)⟩,
                ⟨some 29, none, (.binOp .sub 3 (.tmp 26) (.tmp 28) 3)⟩,
                ⟨some 30, none, (.binOp .add 3 (.tmp 29) (.const (.int .i64 1)) 3)⟩,
                ⟨some 31, none, (.buildSlice 58 1 #[(0, (.tmp 30))])⟩,
                ⟨some 32, none, (.call ⟨(.builtin .append), #[(.tmp 22), (.tmp 31)], #[58, 58]⟩)⟩,
                ⟨some 4, none, (.assign (.tmp 32))⟩]))))
           (.ops [⟨some 33, none, (.binOp .add 3 (.tmp 10) (.const (.int .i64 1)) 3)⟩,
             ⟨some 10, none, (.move (.tmp 33))⟩])))))))
     (.seq
      (.ops [⟨some 34, none, (.move (.tmp 4))⟩,
        ⟨some 2, none, (.assign (.tmp 34))⟩,
        ⟨some 3, none, (.assign (.const (.bool true)))⟩])
      .ret))))
theorem w61 {args : Array Value} {H : AH} {Φ : Value → AH → Prop} (h : rW Try.prog k61 [] (fin Try.prog [(.tmp 2), (.tmp 3)] Φ) (tm0 args) H) : CallsA Try.prog 61 args H Φ :=
  CallsA.w k61 [(.tmp 2), (.tmp 3)] (fun i => if i = 5 then [(3, 0), (3, 6), (4, 0)] else if i = 7 then [(4, 0), (4, 7), (5, 0)] else []) Try.func61 rfl rfl (by kernel_rfl) (by kernel_rfl) h

/-- slices.IndexFunc[[]impl.Instr,impl.Instr] -/
def k92 : KC :=
  (.seq
   (.ops [⟨some 4, none, (.assign (.const (.int .i64 0)))⟩])
   (.seq
    (.seq
     (.ops [⟨some 6, none, (.move (.tmp 0))⟩,
       ⟨some 7, none, (.call ⟨(.builtin .len), #[(.tmp 6)], #[27]⟩)⟩,
       ⟨some 8, none, (.move (.const (.int .i64 0)))⟩])
     (.block 0
      (.loop
       (.seq
        (.ops [⟨some 9, none, (.binOp .lss 3 (.tmp 8) (.tmp 7) 3)⟩])
        (.seq
         (.cond (.tmp 9)
          .skip
          (.exit 0))
         (.seq
          (.block 1
           (.seq
            (.ops [⟨some 10, none, (.move (.tmp 8))⟩,
              ⟨some 5, none, (.assign (.tmp 10))⟩])
            (.seq
             (.ops [⟨some 11, none, (.move (.tmp 1))⟩,
               ⟨some 12, none, (.move (.tmp 0))⟩,
               ⟨some 13, none, (.move (.tmp 5))⟩,
               ⟨some 14, none, (.indexAddr 27 (.tmp 12) (.tmp 13))⟩,
               ⟨some 15, none, (.load 63 (.tmp 14))⟩,
               ⟨some 16, none, (.call ⟨(.value (.tmp 11)), #[(.tmp 15)], #[63]⟩)⟩])
             (.cond (.tmp 16)
              (.seq
               (.ops [⟨some 17, none, (.move (.tmp 5))⟩,
                 ⟨some 4, none, (.assign (.tmp 17))⟩])
               .ret)
              .skip))))
          (.ops [⟨some 18, none, (.binOp .add 3 (.tmp 8) (.const (.int .i64 1)) 3)⟩,
            ⟨some 8, none, (.move (.tmp 18))⟩])))))))
    (.seq
     (.ops [⟨some 4, none, (.assign (.const (.int .i64 (-1))))⟩])
     .ret)))
theorem w92 {args : Array Value} {H : AH} {Φ : Value → AH → Prop} (h : rW Try.prog k92 [] (fin Try.prog [(.tmp 4)] Φ) (tm0 args) H) : CallsA Try.prog 92 args H Φ :=
  CallsA.w k92 [(.tmp 4)] (fun _ => []) Try.func92 rfl rfl (by kernel_rfl) (by kernel_rfl) h

/-- slices.ContainsFunc[[]impl.Instr,impl.Instr] -/
def k63 : KC :=
  (.seq
   (.ops [⟨some 4, none, (.assign (.const (.bool false)))⟩])
   (.seq
    (.ops [⟨some 5, none, (.move (.tmp 0))⟩,
      ⟨some 6, none, (.move (.tmp 1))⟩,
      ⟨some 7, none, (.call ⟨(.value (.func 92)), #[(.tmp 5), (.tmp 6)], #[27, 94]⟩)⟩,
      ⟨some 8, none, (.binOp .geq 3 (.tmp 7) (.const (.int .i64 0)) 3)⟩,
      ⟨some 4, none, (.assign (.tmp 8))⟩])
    .ret))
theorem w63 {args : Array Value} {H : AH} {Φ : Value → AH → Prop} (h : rW Try.prog k63 [] (fin Try.prog [(.tmp 4)] Φ) (tm0 args) H) : CallsA Try.prog 63 args H Φ :=
  CallsA.w k63 [(.tmp 4)] (fun _ => []) Try.func63 rfl rfl (by kernel_rfl) (by kernel_rfl) h

/-- slices.IndexFunc[[]int,int] -/
def k118 : KC :=
  (.seq
   (.ops [⟨some 4, none, (.assign (.const (.int .i64 0)))⟩])
   (.seq
    (.seq
     (.ops [⟨some 6, none, (.move (.tmp 0))⟩,
       ⟨some 7, none, (.call ⟨(.builtin .len), #[(.tmp 6)], #[58]⟩)⟩,
       ⟨some 8, none, (.move (.const (.int .i64 0)))⟩])
     (.block 0
      (.loop
       (.seq
        (.ops [⟨some 9, none, (.binOp .lss 3 (.tmp 8) (.tmp 7) 3)⟩])
        (.seq
         (.cond (.tmp 9)
          .skip
          (.exit 0))
         (.seq
          (.block 1
           (.seq
            (.ops [⟨some 10, none, (.move (.tmp 8))⟩,
              ⟨some 5, none, (.assign (.tmp 10))⟩])
            (.seq
             (.ops [⟨some 11, none, (.move (.tmp 1))⟩,
               ⟨some 12, none, (.move (.tmp 0))⟩,
               ⟨some 13, none, (.move (.tmp 5))⟩,
               ⟨some 14, none, (.indexAddr 58 (.tmp 12) (.tmp 13))⟩,
               ⟨some 15, none, (.load 3 (.tmp 14))⟩,
               ⟨some 16, none, (.call ⟨(.value (.tmp 11)), #[(.tmp 15)], #[3]⟩)⟩])
             (.cond (.tmp 16)
              (.seq
               (.ops [⟨some 17, none, (.move (.tmp 5))⟩,
                 ⟨some 4, none, (.assign (.tmp 17))⟩])
               .ret)
              .skip))))
          (.ops [⟨some 18, none, (.binOp .add 3 (.tmp 8) (.const (.int .i64 1)) 3)⟩,
            ⟨some 8, none, (.move (.tmp 18))⟩])))))))
    (.seq
     (.ops [⟨some 4, none, (.assign (.const (.int .i64 (-1))))⟩])
     .ret)))
theorem w118 {args : Array Value} {H : AH} {Φ : Value → AH → Prop} (h : rW Try.prog k118 [] (fin Try.prog [(.tmp 4)] Φ) (tm0 args) H) : CallsA Try.prog 118 args H Φ :=
  CallsA.w k118 [(.tmp 4)] (fun _ => []) Try.func118 rfl rfl (by kernel_rfl) (by kernel_rfl) h

/-- slices.ContainsFunc[[]int,int] -/
def k103 : KC :=
  (.seq
   (.ops [⟨some 4, none, (.assign (.const (.bool false)))⟩])
   (.seq
    (.ops [⟨some 5, none, (.move (.tmp 0))⟩,
      ⟨some 6, none, (.move (.tmp 1))⟩,
      ⟨some 7, none, (.call ⟨(.value (.func 118)), #[(.tmp 5), (.tmp 6)], #[58, 127]⟩)⟩,
      ⟨some 8, none, (.binOp .geq 3 (.tmp 7) (.const (.int .i64 0)) 3)⟩,
      ⟨some 4, none, (.assign (.tmp 8))⟩])
    .ret))
theorem w103 {args : Array Value} {H : AH} {Φ : Value → AH → Prop} (h : rW Try.prog k103 [] (fin Try.prog [(.tmp 4)] Φ) (tm0 args) H) : CallsA Try.prog 103 args H Φ :=
  CallsA.w k103 [(.tmp 4)] (fun _ => []) Try.func103 rfl rfl (by kernel_rfl) (by kernel_rfl) h

/-- impl.NumOk -/
def k105 : KC :=
  (.seq
   (.ops [⟨some 2, none, (.assign (.const (.bool false)))⟩])
   (.seq
    (.ops [⟨some 3, none, (.move (.tmp 0))⟩,
      ⟨some 4, none, (.call ⟨(.value (.func 56)), #[(.tmp 3), (.const (.int .i64 (-1000000000000))), (.const (.int .i64 1000000000000))], #[3, 3, 3]⟩)⟩,
      ⟨some 2, none, (.assign (.tmp 4))⟩])
    .ret))
theorem w105 {args : Array Value} {H : AH} {Φ : Value → AH → Prop} (h : rW Try.prog k105 [] (fin Try.prog [(.tmp 2)] Φ) (tm0 args) H) : CallsA Try.prog 105 args H Φ :=
  CallsA.w k105 [(.tmp 2)] (fun _ => []) Try.func105 rfl rfl (by kernel_rfl) (by kernel_rfl) h

/-- impl.numsOk$1 -/
def k104 : KC :=
  (.seq
   (.ops [⟨some 2, none, (.assign (.const (.bool false)))⟩])
   (.seq
    (.ops [⟨some 3, none, (.move (.tmp 0))⟩,
      ⟨some 4, none, (.call ⟨(.value (.func 105)), #[(.tmp 3)], #[3]⟩)⟩,
      ⟨some 5, none, (.unOp .not 4 (.tmp 4))⟩,
      ⟨some 2, none, (.assign (.tmp 5))⟩])
    .ret))
theorem w104 {args : Array Value} {H : AH} {Φ : Value → AH → Prop} (h : rW Try.prog k104 [] (fin Try.prog [(.tmp 2)] Φ) (tm0 args) H) : CallsA Try.prog 104 args H Φ :=
  CallsA.w k104 [(.tmp 2)] (fun _ => []) Try.func104 rfl rfl (by kernel_rfl) (by kernel_rfl) h

/-- impl.numsOk -/
def k88 : KC :=
  (.seq
   (.ops [⟨some 2, none, (.assign (.const (.bool false)))⟩])
   (.seq
    (.ops [⟨some 3, none, (.move (.tmp 0))⟩,
      ⟨some 4, none, (.call ⟨(.builtin .len), #[(.tmp 3)], #[58]⟩)⟩,
      ⟨some 5, none, (.call ⟨(.value (.func 56)), #[(.tmp 4), (.const (.int .i64 1)), (.const (.int .i64 300))], #[3, 3, 3]⟩)⟩,
      ⟨some 6, none, (.move (.tmp 5))⟩,
      ⟨some 7, (some (6, true)), (.move (.tmp 0))⟩,
      ⟨some 8, (some (6, true)), (.call ⟨(.value (.func 103)), #[(.tmp 7), (.func 104)], #[58, 127]⟩)⟩,
      ⟨some 9, (some (6, true)), (.unOp .not 4 (.tmp 8))⟩,
      ⟨some 10, none, (.pick (.tmp 6) (.tmp 9) (.const (.bool false)))⟩,
      ⟨some 2, none, (.assign (.tmp 10))⟩])
    .ret))
theorem w88 {args : Array Value} {H : AH} {Φ : Value → AH → Prop} (h : rW Try.prog k88 [] (fin Try.prog [(.tmp 2)] Φ) (tm0 args) H) : CallsA Try.prog 88 args H Φ :=
  CallsA.w k88 [(.tmp 2)] (fun _ => []) Try.func88 rfl rfl (by kernel_rfl) (by kernel_rfl) h

/-- impl.hasSign -/
def k107 : KC :=
  (.seq
   (.ops [⟨some 4, none, (.assign (.const (.bool false)))⟩])
   (.seq
    (.seq
     (.ops [⟨some 5, none, (.assign (.const (.int .i64 0)))⟩])
     (.block 0
      (.loop
       (.seq
        (.seq
         (.ops [⟨some 6, none, (.move (.tmp 5))⟩,
           ⟨some 7, none, (.move (.tmp 0))⟩,
           ⟨some 8, none, (.call ⟨(.builtin .len), #[(.tmp 7)], #[9]⟩)⟩,
           ⟨some 9, none, (.binOp .lss 3 (.tmp 6) (.tmp 8) 3)⟩])
         (.cond (.tmp 9)
          .skip
          (.exit 0)))
        (.seq
         (.block 1
          (.seq
           (.ops [⟨some 12, none, (.move (.tmp 0))⟩,
             ⟨some 13, none, (.move (.tmp 5))⟩,
             ⟨some 14, none, (.index 9 (.tmp 12) (.tmp 13))⟩,
             ⟨some 15, none, (.convert 5 3 (.tmp 14))⟩,
             ⟨some 16, none, (.move (.tmp 1))⟩,
             ⟨some 17, none, (.binOp .eql 3 (.tmp 15) (.tmp 16) 3)⟩])
           (.cond (.tmp 17)
            (.seq
             (.ops [⟨some 4, none, (.assign (.const (.bool true)))⟩])
             .ret)
            .skip)))
         (.ops [⟨some 10, none, (.move (.tmp 5))⟩,
           ⟨some 11, none, (.binOp .add 3 (.tmp 10) (.const (.int .i64 1)) 3)⟩,
           ⟨some 5, none, (.assign (.tmp 11))⟩]))))))
    (.seq
     (.ops [⟨some 4, none, (.assign (.const (.bool false)))⟩])
     .ret)))
theorem w107 {args : Array Value} {H : AH} {Φ : Value → AH → Prop} (h : rW Try.prog k107 [] (fin Try.prog [(.tmp 4)] Φ) (tm0 args) H) : CallsA Try.prog 107 args H Φ :=
  CallsA.w k107 [(.tmp 4)] (fun _ => []) Try.func107 rfl rfl (by kernel_rfl) (by kernel_rfl) h

/-- impl.oneSign -/
def k106 : KC :=
  (.seq
   (.ops [⟨some 2, none, (.assign (.const (.bool false)))⟩])
   (.seq
    (.ops [⟨some 3, none, (.move (.tmp 0))⟩,
      ⟨some 4, none, (.call ⟨(.value (.func 107)), #[(.const (.string ⟨#[43, 45, 42, 124, 126]⟩)), (.tmp 3)], #[9, 3]⟩)⟩,
      ⟨some 2, none, (.assign (.tmp 4))⟩])
    .ret))
theorem w106 {args : Array Value} {H : AH} {Φ : Value → AH → Prop} (h : rW Try.prog k106 [] (fin Try.prog [(.tmp 2)] Φ) (tm0 args) H) : CallsA Try.prog 106 args H Φ :=
  CallsA.w k106 [(.tmp 2)] (fun _ => []) Try.func106 rfl rfl (by kernel_rfl) (by kernel_rfl) h

/-- impl.twoSign -/
def k108 : KC :=
  (.seq
   (.ops [⟨some 2, none, (.assign (.const (.bool false)))⟩])
   (.seq
    (.ops [⟨some 3, none, (.move (.tmp 0))⟩,
      ⟨some 4, none, (.call ⟨(.value (.func 107)), #[(.const (.string ⟨#[43, 45, 42, 37, 124, 38, 94, 61, 60, 62]⟩)), (.tmp 3)], #[9, 3]⟩)⟩,
      ⟨some 2, none, (.assign (.tmp 4))⟩])
    .ret))
theorem w108 {args : Array Value} {H : AH} {Φ : Value → AH → Prop} (h : rW Try.prog k108 [] (fin Try.prog [(.tmp 2)] Φ) (tm0 args) H) : CallsA Try.prog 108 args H Φ :=
  CallsA.w k108 [(.tmp 2)] (fun _ => []) Try.func108 rfl rfl (by kernel_rfl) (by kernel_rfl) h

/-- impl.FunOne -/
def k89 : KC :=
  (.seq
   (.ops [⟨some 1, none, (.box 61 (.tmp 0))⟩,
     ⟨some 2, none, (.assign (.const (.bool false)))⟩])
   (.seq
    (.seq
     (.ops [⟨some 3, none, (.fieldAddr 61 (.tmp 1) 1)⟩,
       ⟨some 4, none, (.load 3 (.tmp 3))⟩])
     (.block 0
      (.seq
       (.ops [⟨some 6, none, (.binOp .eql 3 (.tmp 4) (.const (.int .i64 0)) 3)⟩,
         ⟨some 5, none, (.assign (.tmp 6))⟩])
       (.cond (.tmp 5)
        (.seq
         (.ops [⟨some 7, none, (.fieldAddr 61 (.tmp 1) 2)⟩,
           ⟨some 8, none, (.load 3 (.tmp 7))⟩,
           ⟨some 9, none, (.binOp .eql 3 (.tmp 8) (.const (.int .i64 0)) 3)⟩,
           ⟨some 10, none, (.move (.tmp 9))⟩,
           ⟨some 11, (some (10, true)), (.fieldAddr 61 (.tmp 1) 0)⟩,
           ⟨some 12, (some (10, true)), (.load 3 (.tmp 11))⟩,
           ⟨some 13, (some (10, true)), (.call ⟨(.value (.func 106)), #[(.tmp 12)], #[3]⟩)⟩,
           ⟨some 14, (some (10, true)), (.move (.tmp 13))⟩,
           ⟨some 15, (some (14, false)), (.fieldAddr 61 (.tmp 1) 0)⟩,
           ⟨some 16, (some (14, false)), (.load 3 (.tmp 15))⟩,
           ⟨some 17, (some (14, false)), (.call ⟨(.value (.func 107)), #[(.const (.string ⟨#[105, 35, 44, 114, 122, 103]⟩)), (.tmp 16)], #[9, 3]⟩)⟩,
           ⟨some 18, (some (10, true)), (.pick (.tmp 14) (.const (.bool true)) (.tmp 17))⟩,
           ⟨some 19, none, (.pick (.tmp 10) (.tmp 18) (.const (.bool false)))⟩,
           ⟨some 2, none, (.assign (.tmp 19))⟩])
         .ret)
        (.seq
         (.seq
          (.ops [⟨some 21, none, (.binOp .eql 3 (.tmp 4) (.const (.int .i64 47)) 3)⟩,
            ⟨some 20, none, (.assign (.tmp 21))⟩])
          (.cond (.tmp 20)
           .skip
           (.ops [⟨some 22, none, (.binOp .eql 3 (.tmp 4) (.const (.int .i64 92)) 3)⟩,
             ⟨some 20, none, (.assign (.tmp 22))⟩])))
         (.cond (.tmp 20)
          (.seq
           (.ops [⟨some 23, none, (.fieldAddr 61 (.tmp 1) 2)⟩,
             ⟨some 24, none, (.load 3 (.tmp 23))⟩,
             ⟨some 25, none, (.binOp .eql 3 (.tmp 24) (.const (.int .i64 0)) 3)⟩,
             ⟨some 26, none, (.move (.tmp 25))⟩,
             ⟨some 27, (some (26, true)), (.fieldAddr 61 (.tmp 1) 0)⟩,
             ⟨some 28, (some (26, true)), (.load 3 (.tmp 27))⟩,
             ⟨some 29, (some (26, true)), (.call ⟨(.value (.func 108)), #[(.tmp 28)], #[3]⟩)⟩,
             ⟨some 30, none, (.pick (.tmp 26) (.tmp 29) (.const (.bool false)))⟩,
             ⟨some 2, none, (.assign (.tmp 30))⟩])
           .ret)
          .skip))))))
    (.seq
     (.ops [⟨some 2, none, (.assign (.const (.bool false)))⟩])
     .ret)))
theorem w89 {args : Array Value} {H : AH} {Φ : Value → AH → Prop} (h : rW Try.prog k89 [] (fin Try.prog [(.tmp 2)] Φ) (tm0 args) H) : CallsA Try.prog 89 args H Φ :=
  CallsA.w k89 [(.tmp 2)] (fun _ => []) Try.func89 rfl rfl (by kernel_rfl) (by kernel_rfl) h

/-- impl.FunTwo -/
def k90 : KC :=
  (.seq
   (.ops [⟨some 1, none, (.box 61 (.tmp 0))⟩,
     ⟨some 2, none, (.assign (.const (.bool false)))⟩])
   (.seq
    (.seq
     (.ops [⟨some 3, none, (.fieldAddr 61 (.tmp 1) 1)⟩,
       ⟨some 4, none, (.load 3 (.tmp 3))⟩])
     (.block 0
      (.seq
       (.ops [⟨some 6, none, (.binOp .eql 3 (.tmp 4) (.const (.int .i64 0)) 3)⟩,
         ⟨some 5, none, (.assign (.tmp 6))⟩])
       (.cond (.tmp 5)
        (.seq
         (.ops [⟨some 7, none, (.fieldAddr 61 (.tmp 1) 2)⟩,
           ⟨some 8, none, (.load 3 (.tmp 7))⟩,
           ⟨some 9, none, (.binOp .eql 3 (.tmp 8) (.const (.int .i64 0)) 3)⟩,
           ⟨some 10, none, (.move (.tmp 9))⟩,
           ⟨some 11, (some (10, true)), (.fieldAddr 61 (.tmp 1) 0)⟩,
           ⟨some 12, (some (10, true)), (.load 3 (.tmp 11))⟩,
           ⟨some 13, (some (10, true)), (.call ⟨(.value (.func 108)), #[(.tmp 12)], #[3]⟩)⟩,
           ⟨some 14, (some (10, true)), (.move (.tmp 13))⟩,
           ⟨some 15, (some (14, false)), (.fieldAddr 61 (.tmp 1) 0)⟩,
           ⟨some 16, (some (14, false)), (.load 3 (.tmp 15))⟩,
           ⟨some 17, (some (14, false)), (.call ⟨(.value (.func 107)), #[(.const (.string ⟨#[35, 44, 116, 100, 114, 64, 63, 36, 101]⟩)), (.tmp 16)], #[9, 3]⟩)⟩,
           ⟨some 18, (some (10, true)), (.pick (.tmp 14) (.const (.bool true)) (.tmp 17))⟩,
           ⟨some 19, none, (.pick (.tmp 10) (.tmp 18) (.const (.bool false)))⟩,
           ⟨some 2, none, (.assign (.tmp 19))⟩])
         .ret)
        (.seq
         (.ops [⟨some 21, none, (.binOp .eql 3 (.tmp 4) (.const (.int .i64 111)) 3)⟩,
           ⟨some 20, none, (.assign (.tmp 21))⟩])
         (.cond (.tmp 20)
          (.seq
           (.ops [⟨some 22, none, (.fieldAddr 61 (.tmp 1) 2)⟩,
             ⟨some 23, none, (.load 3 (.tmp 22))⟩,
             ⟨some 24, none, (.binOp .eql 3 (.tmp 23) (.const (.int .i64 0)) 3)⟩,
             ⟨some 25, none, (.move (.tmp 24))⟩,
             ⟨some 26, (some (25, true)), (.fieldAddr 61 (.tmp 1) 0)⟩,
             ⟨some 27, (some (25, true)), (.load 3 (.tmp 26))⟩,
             ⟨some 28, (some (25, true)), (.call ⟨(.value (.func 108)), #[(.tmp 27)], #[3]⟩)⟩,
             ⟨some 29, none, (.pick (.tmp 25) (.tmp 28) (.const (.bool false)))⟩,
             ⟨some 2, none, (.assign (.tmp 29))⟩])
           .ret)
          (.seq
           (.ops [⟨some 31, none, (.binOp .eql 3 (.tmp 4) (.const (.int .i64 46)) 3)⟩,
             ⟨some 30, none, (.assign (.tmp 31))⟩])
           (.cond (.tmp 30)
            (.seq
             (.ops [⟨some 32, none, (.fieldAddr 61 (.tmp 1) 0)⟩,
               ⟨some 33, none, (.load 3 (.tmp 32))⟩,
               ⟨some 34, none, (.call ⟨(.value (.func 108)), #[(.tmp 33)], #[3]⟩)⟩,
               ⟨some 35, none, (.move (.tmp 34))⟩,
               ⟨some 36, (some (35, true)), (.fieldAddr 61 (.tmp 1) 2)⟩,
               ⟨some 37, (some (35, true)), (.load 3 (.tmp 36))⟩,
               ⟨some 38, (some (35, true)), (.call ⟨(.value (.func 108)), #[(.tmp 37)], #[3]⟩)⟩,
               ⟨some 39, none, (.pick (.tmp 35) (.tmp 38) (.const (.bool false)))⟩,
               ⟨some 2, none, (.assign (.tmp 39))⟩])
             .ret)
            .skip))))))))
    (.seq
     (.ops [⟨some 2, none, (.assign (.const (.bool false)))⟩])
     .ret)))
theorem w90 {args : Array Value} {H : AH} {Φ : Value → AH → Prop} (h : rW Try.prog k90 [] (fin Try.prog [(.tmp 2)] Φ) (tm0 args) H) : CallsA Try.prog 90 args H Φ :=
  CallsA.w k90 [(.tmp 2)] (fun _ => []) Try.func90 rfl rfl (by kernel_rfl) (by kernel_rfl) h

/-- impl.instrOk -/
def k65 : KC :=
  (.seq
   (.ops [⟨some 1, none, (.box 63 (.tmp 0))⟩,
     ⟨some 2, none, (.assign (.const (.bool false)))⟩])
   (.seq
    (.ops [⟨some 6, none, (.fieldAddr 63 (.tmp 1) 1)⟩,
      ⟨some 7, none, (.load 3 (.tmp 6))⟩,
      ⟨some 8, none, (.binOp .eql 3 (.tmp 7) (.const (.int .i64 0)) 3)⟩,
      ⟨some 9, none, (.fieldAddr 63 (.tmp 1) 2)⟩,
      ⟨some 10, none, (.load 61 (.tmp 9))⟩,
      ⟨some 11, none, (.build 61 #[])⟩,
      ⟨some 12, none, (.binOp .eql 61 (.tmp 10) (.tmp 11) 61)⟩,
      ⟨some 13, none, (.fieldAddr 63 (.tmp 1) 3)⟩,
      ⟨some 14, none, (.load 58 (.tmp 13))⟩,
      ⟨some 15, none, (.call ⟨(.builtin .len), #[(.tmp 14)], #[58]⟩)⟩,
      ⟨some 16, none, (.binOp .eql 3 (.tmp 15) (.const (.int .i64 0)) 3)⟩,
      ⟨some 3, none, (.assign (.tmp 8))⟩,
      ⟨some 4, none, (.assign (.tmp 12))⟩,
      ⟨some 5, none, (.assign (.tmp 16))⟩])
    (.seq
     (.seq
      (.ops [⟨some 17, none, (.fieldAddr 63 (.tmp 1) 0)⟩,
        ⟨some 18, none, (.load 3 (.tmp 17))⟩])
      (.block 0
       (.seq
        (.ops [⟨some 20, none, (.binOp .eql 3 (.tmp 18) (.const (.int .i64 1)) 3)⟩,
          ⟨some 19, none, (.assign (.tmp 20))⟩])
        (.cond (.tmp 19)
         (.ops [⟨some 21, none, (.fieldAddr 63 (.tmp 1) 3)⟩,
           ⟨some 22, none, (.load 58 (.tmp 21))⟩,
           ⟨some 23, none, (.call ⟨(.value (.func 88)), #[(.tmp 22)], #[58]⟩)⟩,
           ⟨some 5, none, (.assign (.tmp 23))⟩])
         (.seq
          (.seq
           (.ops [⟨some 25, none, (.binOp .eql 3 (.tmp 18) (.const (.int .i64 2)) 3)⟩,
             ⟨some 24, none, (.assign (.tmp 25))⟩])
           (.cond (.tmp 24)
            .skip
            (.ops [⟨some 26, none, (.binOp .eql 3 (.tmp 18) (.const (.int .i64 3)) 3)⟩,
              ⟨some 24, none, (.assign (.tmp 26))⟩])))
          (.cond (.tmp 24)
           (.ops [⟨some 27, none, (.fieldAddr 63 (.tmp 1) 1)⟩,
             ⟨some 28, none, (.load 3 (.tmp 27))⟩,
             ⟨some 29, none, (.call ⟨(.value (.func 56)), #[(.tmp 28), (.const (.int .i64 0)), (.const (.int .i64 25))], #[3, 3, 3]⟩)⟩,
             ⟨some 3, none, (.assign (.tmp 29))⟩])
           (.seq
            (.ops [⟨some 31, none, (.binOp .eql 3 (.tmp 18) (.const (.int .i64 4)) 3)⟩,
              ⟨some 30, none, (.assign (.tmp 31))⟩])
            (.cond (.tmp 30)
             (.ops [⟨some 32, none, (.fieldAddr 63 (.tmp 1) 2)⟩,
               ⟨some 33, none, (.load 61 (.tmp 32))⟩,
               ⟨some 34, none, (.call ⟨(.value (.func 89)), #[(.tmp 33)], #[61]⟩)⟩,
               ⟨some 4, none, (.assign (.tmp 34))⟩])
             (.seq
              (.ops [⟨some 36, none, (.binOp .eql 3 (.tmp 18) (.const (.int .i64 5)) 3)⟩,
                ⟨some 35, none, (.assign (.tmp 36))⟩])
              (.cond (.tmp 35)
               (.ops [⟨some 37, none, (.fieldAddr 63 (.tmp 1) 2)⟩,
                 ⟨some 38, none, (.load 61 (.tmp 37))⟩,
                 ⟨some 39, none, (.call ⟨(.value (.func 90)), #[(.tmp 38)], #[61]⟩)⟩,
                 ⟨some 4, none, (.assign (.tmp 39))⟩])
               (.seq
                (.ops [⟨some 2, none, (.assign (.const (.bool false)))⟩])
                .ret)))))))))))
     (.seq
      (.ops [⟨some 40, none, (.move (.tmp 3))⟩,
        ⟨some 41, none, (.move (.tmp 40))⟩,
        ⟨some 42, (some (41, true)), (.move (.tmp 4))⟩,
        ⟨some 43, none, (.pick (.tmp 41) (.tmp 42) (.const (.bool false)))⟩,
        ⟨some 44, none, (.move (.tmp 43))⟩,
        ⟨some 45, (some (44, true)), (.move (.tmp 5))⟩,
        ⟨some 46, none, (.pick (.tmp 44) (.tmp 45) (.const (.bool false)))⟩,
        ⟨some 2, none, (.assign (.tmp 46))⟩])
      .ret))))
theorem w65 {args : Array Value} {H : AH} {Φ : Value → AH → Prop} (h : rW Try.prog k65 [] (fin Try.prog [(.tmp 2)] Φ) (tm0 args) H) : CallsA Try.prog 65 args H Φ :=
  CallsA.w k65 [(.tmp 2)] (fun i => if i = 1 then [(1, 0), (4, 0), (8, 0)] else []) Try.func65 rfl rfl (by kernel_rfl) (by kernel_rfl) h

/-- impl.CodeOk$1 -/
def k64 : KC :=
  (.seq
   (.ops [⟨some 1, none, (.box 63 (.tmp 0))⟩,
     ⟨some 2, none, (.assign (.const (.bool false)))⟩])
   (.seq
    (.ops [⟨some 3, none, (.load 63 (.tmp 1))⟩,
      ⟨some 4, none, (.call ⟨(.value (.func 65)), #[(.tmp 3)], #[63]⟩)⟩,
      ⟨some 5, none, (.unOp .not 4 (.tmp 4))⟩,
      ⟨some 2, none, (.assign (.tmp 5))⟩])
    .ret))
theorem w64 {args : Array Value} {H : AH} {Φ : Value → AH → Prop} (h : rW Try.prog k64 [] (fin Try.prog [(.tmp 2)] Φ) (tm0 args) H) : CallsA Try.prog 64 args H Φ :=
  CallsA.w k64 [(.tmp 2)] (fun _ => []) Try.func64 rfl rfl (by kernel_rfl) (by kernel_rfl) h

/-- impl.CodeOk -/
def k32 : KC :=
  (.seq
   (.ops [⟨some 2, none, (.assign (.const (.bool false)))⟩])
   (.seq
    (.seq
     (.ops [⟨some 5, none, (.move (.tmp 0))⟩,
       ⟨some 6, none, (.call ⟨(.builtin .len), #[(.tmp 5)], #[27]⟩)⟩,
       ⟨some 7, none, (.call ⟨(.value (.func 56)), #[(.tmp 6), (.const (.int .i64 1)), (.const (.int .i64 60))], #[3, 3, 3]⟩)⟩,
       ⟨some 8, none, (.unOp .not 4 (.tmp 7))⟩,
       ⟨some 9, none, (.move (.tmp 8))⟩,
       ⟨some 10, (some (9, false)), (.move (.tmp 0))⟩,
       ⟨some 11, (some (9, false)), (.call ⟨(.value (.func 63)), #[(.tmp 10), (.func 64)], #[27, 94]⟩)⟩,
       ⟨some 12, none, (.pick (.tmp 9) (.const (.bool true)) (.tmp 11))⟩])
     (.cond (.tmp 12)
      (.seq
       (.ops [⟨some 2, none, (.assign (.const (.bool false)))⟩])
       .ret)
      .skip))
    (.seq
     (.ops [⟨some 14, none, (.move (.tmp 0))⟩,
       ⟨some 15, none, (.call ⟨(.value (.func 61)), #[(.tmp 14)], #[27]⟩)⟩,
       ⟨some 13, none, (.move (.tmp 15))⟩,
       ⟨some 16, none, (.extract (.tmp 13) 0)⟩,
       ⟨some 17, none, (.extract (.tmp 13) 1)⟩,
       ⟨some 3, none, (.assign (.tmp 16))⟩,
       ⟨some 4, none, (.assign (.tmp 17))⟩])
     (.seq
      (.ops [⟨some 18, none, (.move (.tmp 4))⟩,
        ⟨some 19, none, (.move (.tmp 18))⟩,
        ⟨some 20, (some (19, true)), (.move (.tmp 3))⟩,
        ⟨some 21, (some (19, true)), (.move (.tmp 0))⟩,
        ⟨some 22, (some (19, true)), (.call ⟨(.builtin .len), #[(.tmp 21)], #[27]⟩)⟩,
        ⟨some 23, (some (19, true)), (.indexAddr 58 (.tmp 20) (.tmp 22))⟩,
        ⟨some 24, (some (19, true)), (.load 3 (.tmp 23))⟩,
        ⟨some 25, (some (19, true)), (.binOp .eql 3 (.tmp 24) (.const (.int .i64 1)) 3)⟩,
        ⟨some 26, none, (.pick (.tmp 19) (.tmp 25) (.const (.bool false)))⟩,
        ⟨some 2, none, (.assign (.tmp 26))⟩])
      .ret))))
theorem w32 {args : Array Value} {H : AH} {Φ : Value → AH → Prop} (h : rW Try.prog k32 [] (fin Try.prog [(.tmp 2)] Φ) (tm0 args) H) : CallsA Try.prog 32 args H Φ :=
  CallsA.w k32 [(.tmp 2)] (fun _ => []) Try.func32 rfl rfl (by kernel_rfl) (by kernel_rfl) h

/-- impl.putNum -/
def k40 : KC :=
  (.seq
   (.ops [⟨some 4, none, (.assign (.const (.slice none 0 0)))⟩])
   (.seq
    (.ops [⟨some 7, none, (.move (.tmp 1))⟩,
      ⟨some 8, none, (.binOp .add 3 (.tmp 7) (.const (.int .i64 1000000000000)) 3)⟩,
      ⟨some 5, none, (.assign (.tmp 8))⟩])
    (.seq
     (.seq
      (.ops [⟨some 6, none, (.assign (.const (.int .i64 0)))⟩])
      (.block 0
       (.loop
        (.seq
         (.seq
          (.ops [⟨some 9, none, (.move (.tmp 6))⟩,
            ⟨some 10, none, (.binOp .lss 3 (.tmp 9) (.const (.int .i64 8)) 3)⟩])
          (.cond (.tmp 10)
           .skip
           (.exit 0)))
         (.seq
          (.block 1
           (.ops [⟨some 13, none, (.move (.tmp 0))⟩,
             ⟨some 14, none, (.move (.tmp 5))⟩,
             ⟨some 15, none, (.move (.tmp 6))⟩,
             ⟨some 16, none, (.binOp .mul 3 (.const (.int .i64 8)) (.tmp 15) 3)⟩,
             ⟨some 17, none, (.binOp .shr 3 (.tmp 14) (.tmp 16) 3)⟩,
             ⟨some 18, none, (.convert 3 5 (.tmp 17))⟩,
             ⟨some 19, none, (.buildSlice 24 1 #[(0, (.tmp 18))])⟩,
             ⟨some 20, none, (.call ⟨(.builtin .append), #[(.tmp 13), (.tmp 19)], #[24, 24]⟩)⟩,
             ⟨some 0, none, (.assign (.tmp 20))⟩]))
          (.ops [⟨some 11, none, (.move (.tmp 6))⟩,
            ⟨some 12, none, (.binOp .add 3 (.tmp 11) (.const (.int .i64 1)) 3)⟩,
            ⟨some 6, none, (.assign (.tmp 12))⟩]))))))
     (.seq
      (.ops [⟨some 21, none, (.move (.tmp 0))⟩,
        ⟨some 4, none, (.assign (.tmp 21))⟩])
      .ret))))
theorem w40 {args : Array Value} {H : AH} {Φ : Value → AH → Prop} (h : rW Try.prog k40 [] (fin Try.prog [(.tmp 4)] Φ) (tm0 args) H) : CallsA Try.prog 40 args H Φ :=
  CallsA.w k40 [(.tmp 4)] (fun _ => []) Try.func40 rfl rfl (by kernel_rfl) (by kernel_rfl) h

/-- impl.CodePack -/
def k11 : KC :=
  (.seq
   (.ops [⟨some 2, none, (.assign (.const (.slice none 0 0)))⟩,
     ⟨some 3, none, (.assign (.const (.bool false)))⟩])
   (.seq
    (.seq
     (.ops [⟨some 9, none, (.move (.tmp 0))⟩,
       ⟨some 10, none, (.call ⟨(.value (.func 32)), #[(.tmp 9)], #[27]⟩)⟩,
       ⟨some 11, none, (.unOp .not 4 (.tmp 10))⟩])
     (.cond (.tmp 11)
      (.seq
       (.ops [⟨some 2, none, (.assign (.const (.slice none 0 0)))⟩,
         ⟨some 3, none, (.assign (.const (.bool false)))⟩])
       .ret)
      .skip))
    (.seq
     (.ops [⟨some 12, none, (.move (.tmp 0))⟩,
       ⟨some 13, none, (.call ⟨(.builtin .len), #[(.tmp 12)], #[27]⟩)⟩,
       ⟨some 14, none, (.convert 3 5 (.tmp 13))⟩,
       ⟨some 15, none, (.buildSlice 24 1 #[(0, (.tmp 14))])⟩,
       ⟨some 4, none, (.assign (.tmp 15))⟩])
     (.seq
      (.seq
       (.ops [⟨some 16, none, (.move (.tmp 0))⟩,
         ⟨some 17, none, (.call ⟨(.builtin .len), #[(.tmp 16)], #[27]⟩)⟩,
         ⟨some 18, none, (.move (.const (.int .i64 0)))⟩])
       (.block 0
        (.loop
         (.seq
          (.ops [⟨some 19, none, (.binOp .lss 3 (.tmp 18) (.tmp 17) 3)⟩])
          (.seq
           (.cond (.tmp 19)
            .skip
            (.exit 0))
           (.seq
            (.block 1
             (.seq
              (.ops [⟨some 20, none, (.indexAddr 27 (.tmp 16) (.tmp 18))⟩,
                ⟨some 21, none, (.load 63 (.tmp 20))⟩,
                ⟨some 6, none, (.alloc 63)⟩,
                ⟨none, none, (.store 63 (.tmp 6) (.tmp 21))⟩])
              (.seq
               (.ops [⟨some 22, none, (.move (.tmp 4))⟩,
                 ⟨some 23, none, (.fieldAddr 63 (.tmp 6) 0)⟩,
                 ⟨some 24, none, (.load 3 (.tmp 23))⟩,
                 ⟨some 25, none, (.convert 3 5 (.tmp 24))⟩,
                 ⟨some 26, none, (.fieldAddr 63 (.tmp 6) 1)⟩,
                 ⟨some 27, none, (.load 3 (.tmp 26))⟩,
                 ⟨some 28, none, (.convert 3 5 (.tmp 27))⟩,
                 ⟨some 29, none, (.fieldAddr 63 (.tmp 6) 2)⟩,
                 ⟨some 30, none, (.fieldAddr 61 (.tmp 29) 0)⟩,
                 ⟨some 31, none, (.load 3 (.tmp 30))⟩,
                 ⟨some 32, none, (.convert 3 5 (.tmp 31))⟩,
                 ⟨some 33, none, (.fieldAddr 63 (.tmp 6) 2)⟩,
                 ⟨some 34, none, (.fieldAddr 61 (.tmp 33) 1)⟩,
                 ⟨some 35, none, (.load 3 (.tmp 34))⟩,
                 ⟨some 36, none, (.convert 3 5 (.tmp 35))⟩,
                 ⟨some 37, none, (.fieldAddr 63 (.tmp 6) 2)⟩,
                 ⟨some 38, none, (.fieldAddr 61 (.tmp 37) 2)⟩,
                 ⟨some 39, none, (.load 3 (.tmp 38))⟩,
                 ⟨some 40, none, (.convert 3 5 (.tmp 39))⟩,
                 ⟨some 41, none, (.buildSlice 24 5 #[(0, (.tmp 25)), (1, (.tmp 28)), (2, (.tmp 32)), (3, (.tmp 36)), (4, (.tmp 40))])⟩,
                 ⟨some 42, none, (.call ⟨(.builtin .append), #[(.tmp 22), (.tmp 41)], #[24, 24]⟩)⟩,
                 ⟨some 4, none, (.assign (.tmp 42))⟩])
               (.seq
                (.ops [⟨some 43, none, (.fieldAddr 63 (.tmp 6) 0)⟩,
                  ⟨some 44, none, (.load 3 (.tmp 43))⟩,
                  ⟨some 45, none, (.binOp .eql 3 (.tmp 44) (.const (.int .i64 1)) 3)⟩])
                (.cond (.tmp 45)
                 (.seq
                  (.ops [⟨some 46, none, (.move (.tmp 4))⟩,
                    ⟨some 47, none, (.fieldAddr 63 (.tmp 6) 3)⟩,
                    ⟨some 48, none, (.load 58 (.tmp 47))⟩,
                    ⟨some 49, none, (.call ⟨(.builtin .len), #[(.tmp 48)], #[58]⟩)⟩,
                    ⟨some 50, none, (.convert 3 5 (.tmp 49))⟩,
                    ⟨some 51, none, (.fieldAddr 63 (.tmp 6) 3)⟩,
                    ⟨some 52, none, (.load 58 (.tmp 51))⟩,
                    ⟨some 53, none, (.call ⟨(.builtin .len), #[(.tmp 52)], #[58]⟩)⟩,
                    ⟨some 54, none, (.binOp .shr 3 (.tmp 53) (.const (.int .u64 8)) 65)⟩,
                    ⟨some 55, none, (.convert 3 5 (.tmp 54))⟩,
                    ⟨some 56, none, (.buildSlice 24 2 #[(0, (.tmp 50)), (1, (.tmp 55))])⟩,
                    ⟨some 57, none, (.call ⟨(.builtin .append), #[(.tmp 46), (.tmp 56)], #[24, 24]⟩)⟩,
                    ⟨some 4, none, (.assign (.tmp 57))⟩])
                  (.seq
                   (.ops [⟨some 58, none, (.fieldAddr 63 (.tmp 6) 3)⟩,
                     ⟨some 59, none, (.load 58 (.tmp 58))⟩,
                     ⟨some 60, none, (.call ⟨(.builtin .len), #[(.tmp 59)], #[58]⟩)⟩,
                     ⟨some 61, none, (.move (.const (.int .i64 0)))⟩])
                   (.block 2
                    (.loop
                     (.seq
                      (.ops [⟨some 62, none, (.binOp .lss 3 (.tmp 61) (.tmp 60) 3)⟩])
                      (.seq
                       (.cond (.tmp 62)
                        .skip
                        (.exit 2))
                       (.seq
                        (.block 3
                         (.seq
                          (.ops [⟨some 63, none, (.indexAddr 58 (.tmp 59) (.tmp 61))⟩,
                            ⟨some 64, none, (.load 3 (.tmp 63))⟩,
                            ⟨some 8, none, (.assign (.tmp 64))⟩])
                          (.ops [⟨some 65, none, (.move (.tmp 4))⟩,
                            ⟨some 66, none, (.move (.tmp 8))⟩,
                            ⟨some 67, none, (.call ⟨(.value (.func 40)), #[(.tmp 65), (.tmp 66)], #[24, 3]⟩)⟩,
                            ⟨some 4, none, (.assign (.tmp 67))⟩])))
                        (.ops [⟨some 68, none, (.binOp .add 3 (.tmp 61) (.const (.int .i64 1)) 3)⟩,
                          ⟨some 61, none, (.move (.tmp 68))⟩]))))))))
                 .skip)))))
            (.ops [⟨some 69, none, (.binOp .add 3 (.tmp 18) (.const (.int .i64 1)) 3)⟩,
              ⟨some 18, none, (.move (.tmp 69))⟩])))))))
      (.seq
       (.ops [⟨some 70, none, (.move (.tmp 4))⟩,
         ⟨some 2, none, (.assign (.tmp 70))⟩,
         ⟨some 3, none, (.assign (.const (.bool true)))⟩])
       .ret)))))
theorem w11 {args : Array Value} {H : AH} {Φ : Value → AH → Prop} (h : rW Try.prog k11 [] (fin Try.prog [(.tmp 2), (.tmp 3)] Φ) (tm0 args) H) : CallsA Try.prog 11 args H Φ :=
  CallsA.w k11 [(.tmp 2), (.tmp 3)] (fun _ => []) Try.func11 rfl rfl (by kernel_rfl) (by kernel_rfl) h

/-- laws.eqByteS -/
def k12 : KC :=
  (.seq
   (.ops [⟨some 4, none, (.assign (.const (.bool false)))⟩])
   (.seq
    (.seq
     (.ops [⟨some 6, none, (.move (.tmp 0))⟩,
       ⟨some 7, none, (.call ⟨(.builtin .len), #[(.tmp 6)], #[24]⟩)⟩,
       ⟨some 8, none, (.move (.tmp 1))⟩,
       ⟨some 9, none, (.call ⟨(.builtin .len), #[(.tmp 8)], #[24]⟩)⟩,
       ⟨some 10, none, (.binOp .neq 3 (.tmp 7) (.tmp 9) 3)⟩])
     (.cond (.tmp 10)
      (.seq
       (.ops [⟨some 4, none, (.assign (.const (.bool false)))⟩])
       .ret)
      .skip))
    (.seq
     (.seq
      (.ops [⟨some 5, none, (.assign (.const (.int .i64 0)))⟩])
      (.block 0
       (.loop
        (.seq
         (.seq
          (.ops [⟨some 11, none, (.move (.tmp 5))⟩,
            ⟨some 12, none, (.move (.tmp 0))⟩,
            ⟨some 13, none, (.call ⟨(.builtin .len), #[(.tmp 12)], #[24]⟩)⟩,
            ⟨some 14, none, (.binOp .lss 3 (.tmp 11) (.tmp 13) 3)⟩])
          (.cond (.tmp 14)
           .skip
           (.exit 0)))
         (.seq
          (.block 1
           (.seq
            (.ops [⟨some 17, none, (.move (.tmp 0))⟩,
              ⟨some 18, none, (.move (.tmp 5))⟩,
              ⟨some 19, none, (.indexAddr 24 (.tmp 17) (.tmp 18))⟩,
              ⟨some 20, none, (.load 5 (.tmp 19))⟩,
              ⟨some 21, none, (.move (.tmp 1))⟩,
              ⟨some 22, none, (.move (.tmp 5))⟩,
              ⟨some 23, none, (.indexAddr 24 (.tmp 21) (.tmp 22))⟩,
              ⟨some 24, none, (.load 5 (.tmp 23))⟩,
              ⟨some 25, none, (.binOp .neq 5 (.tmp 20) (.tmp 24) 5)⟩])
            (.cond (.tmp 25)
             (.seq
              (.ops [⟨some 4, none, (.assign (.const (.bool false)))⟩])
              .ret)
             .skip)))
          (.ops [⟨some 15, none, (.move (.tmp 5))⟩,
            ⟨some 16, none, (.binOp .add 3 (.tmp 15) (.const (.int .i64 1)) 3)⟩,
            ⟨some 5, none, (.assign (.tmp 16))⟩]))))))
     (.seq
      (.ops [⟨some 4, none, (.assign (.const (.bool true)))⟩])
      .ret))))
theorem w12 {args : Array Value} {H : AH} {Φ : Value → AH → Prop} (h : rW Try.prog k12 [] (fin Try.prog [(.tmp 4)] Φ) (tm0 args) H) : CallsA Try.prog 12 args H Φ :=
  CallsA.w k12 [(.tmp 4)] (fun i => if i = 6 then [(3, 0), (7, 0)] else []) Try.func12 rfl rfl (by kernel_rfl) (by kernel_rfl) h

/-- laws.eqFun -/
def k77 : KC :=
  (.seq
   (.ops [⟨some 2, none, (.box 61 (.tmp 0))⟩,
     ⟨some 3, none, (.box 61 (.tmp 1))⟩,
     ⟨some 4, none, (.assign (.const (.bool false)))⟩])
   (.seq
    (.seq
     (.ops [⟨some 5, none, (.fieldAddr 61 (.tmp 2) 0)⟩,
       ⟨some 6, none, (.load 3 (.tmp 5))⟩,
       ⟨some 7, none, (.fieldAddr 61 (.tmp 3) 0)⟩,
       ⟨some 8, none, (.load 3 (.tmp 7))⟩,
       ⟨some 9, none, (.binOp .neq 3 (.tmp 6) (.tmp 8) 3)⟩])
     (.cond (.tmp 9)
      (.seq
       (.ops [⟨some 4, none, (.assign (.const (.bool false)))⟩])
       .ret)
      .skip))
    (.seq
     (.seq
      (.ops [⟨some 10, none, (.fieldAddr 61 (.tmp 2) 1)⟩,
        ⟨some 11, none, (.load 3 (.tmp 10))⟩,
        ⟨some 12, none, (.fieldAddr 61 (.tmp 3) 1)⟩,
        ⟨some 13, none, (.load 3 (.tmp 12))⟩,
        ⟨some 14, none, (.binOp .neq 3 (.tmp 11) (.tmp 13) 3)⟩])
      (.cond (.tmp 14)
       (.seq
        (.ops [⟨some 4, none, (.assign (.const (.bool false)))⟩])
        .ret)
       .skip))
     (.seq
      (.seq
       (.ops [⟨some 15, none, (.fieldAddr 61 (.tmp 2) 2)⟩,
         ⟨some 16, none, (.load 3 (.tmp 15))⟩,
         ⟨some 17, none, (.fieldAddr 61 (.tmp 3) 2)⟩,
         ⟨some 18, none, (.load 3 (.tmp 17))⟩,
         ⟨some 19, none, (.binOp .neq 3 (.tmp 16) (.tmp 18) 3)⟩])
       (.cond (.tmp 19)
        (.seq
         (.ops [⟨some 4, none, (.assign (.const (.bool false)))⟩])
         .ret)
        .skip))
      (.seq
       (.ops [⟨some 4, none, (.assign (.const (.bool true)))⟩])
       .ret)))))
theorem w77 {args : Array Value} {H : AH} {Φ : Value → AH → Prop} (h : rW Try.prog k77 [] (fin Try.prog [(.tmp 4)] Φ) (tm0 args) H) : CallsA Try.prog 77 args H Φ :=
  CallsA.w k77 [(.tmp 4)] (fun _ => []) Try.func77 rfl rfl (by kernel_rfl) (by kernel_rfl) h

/-- laws.eqIntS -/
def k78 : KC :=
  (.seq
   (.ops [⟨some 4, none, (.assign (.const (.bool false)))⟩])
   (.seq
    (.seq
     (.ops [⟨some 6, none, (.move (.tmp 0))⟩,
       ⟨some 7, none, (.call ⟨(.builtin .len), #[(.tmp 6)], #[58]⟩)⟩,
       ⟨some 8, none, (.move (.tmp 1))⟩,
       ⟨some 9, none, (.call ⟨(.builtin .len), #[(.tmp 8)], #[58]⟩)⟩,
       ⟨some 10, none, (.binOp .neq 3 (.tmp 7) (.tmp 9) 3)⟩])
     (.cond (.tmp 10)
      (.seq
       (.ops [⟨some 4, none, (.assign (.const (.bool false)))⟩])
       .ret)
      .skip))
    (.seq
     (.seq
      (.ops [⟨some 5, none, (.assign (.const (.int .i64 0)))⟩])
      (.block 0
       (.loop
        (.seq
         (.seq
          (.ops [⟨some 11, none, (.move (.tmp 5))⟩,
            ⟨some 12, none, (.move (.tmp 0))⟩,
            ⟨some 13, none, (.call ⟨(.builtin .len), #[(.tmp 12)], #[58]⟩)⟩,
            ⟨some 14, none, (.binOp .lss 3 (.tmp 11) (.tmp 13) 3)⟩])
          (.cond (.tmp 14)
           .skip
           (.exit 0)))
         (.seq
          (.block 1
           (.seq
            (.ops [⟨some 17, none, (.move (.tmp 0))⟩,
              ⟨some 18, none, (.move (.tmp 5))⟩,
              ⟨some 19, none, (.indexAddr 58 (.tmp 17) (.tmp 18))⟩,
              ⟨some 20, none, (.load 3 (.tmp 19))⟩,
              ⟨some 21, none, (.move (.tmp 1))⟩,
              ⟨some 22, none, (.move (.tmp 5))⟩,
              ⟨some 23, none, (.indexAddr 58 (.tmp 21) (.tmp 22))⟩,
              ⟨some 24, none, (.load 3 (.tmp 23))⟩,
              ⟨some 25, none, (.binOp .neq 3 (.tmp 20) (.tmp 24) 3)⟩])
            (.cond (.tmp 25)
             (.seq
              (.ops [⟨some 4, none, (.assign (.const (.bool false)))⟩])
              .ret)
             .skip)))
          (.ops [⟨some 15, none, (.move (.tmp 5))⟩,
            ⟨some 16, none, (.binOp .add 3 (.tmp 15) (.const (.int .i64 1)) 3)⟩,
            ⟨some 5, none, (.assign (.tmp 16))⟩]))))))
     (.seq
      (.ops [⟨some 4, none, (.assign (.const (.bool true)))⟩])
      .ret))))
theorem w78 {args : Array Value} {H : AH} {Φ : Value → AH → Prop} (h : rW Try.prog k78 [] (fin Try.prog [(.tmp 4)] Φ) (tm0 args) H) : CallsA Try.prog 78 args H Φ :=
  CallsA.w k78 [(.tmp 4)] (fun i => if i = 6 then [(3, 0), (7, 0)] else []) Try.func78 rfl rfl (by kernel_rfl) (by kernel_rfl) h

/-- laws.eqInstr -/
def k41 : KC :=
  (.seq
   (.ops [⟨some 2, none, (.box 63 (.tmp 0))⟩,
     ⟨some 3, none, (.box 63 (.tmp 1))⟩,
     ⟨some 4, none, (.assign (.const (.bool false)))⟩])
   (.seq
    (.seq
     (.ops [⟨some 5, none, (.fieldAddr 63 (.tmp 2) 0)⟩,
       ⟨some 6, none, (.load 3 (.tmp 5))⟩,
       ⟨some 7, none, (.fieldAddr 63 (.tmp 3) 0)⟩,
       ⟨some 8, none, (.load 3 (.tmp 7))⟩,
       ⟨some 9, none, (.binOp .neq 3 (.tmp 6) (.tmp 8) 3)⟩])
     (.cond (.tmp 9)
      (.seq
       (.ops [⟨some 4, none, (.assign (.const (.bool false)))⟩])
       .ret)
      .skip))
    (.seq
     (.seq
      (.ops [⟨some 10, none, (.fieldAddr 63 (.tmp 2) 1)⟩,
        ⟨some 11, none, (.load 3 (.tmp 10))⟩,
        ⟨some 12, none, (.fieldAddr 63 (.tmp 3) 1)⟩,
        ⟨some 13, none, (.load 3 (.tmp 12))⟩,
        ⟨some 14, none, (.binOp .neq 3 (.tmp 11) (.tmp 13) 3)⟩])
      (.cond (.tmp 14)
       (.seq
        (.ops [⟨some 4, none, (.assign (.const (.bool false)))⟩])
        .ret)
       .skip))
     (.seq
      (.seq
       (.ops [⟨some 15, none, (.fieldAddr 63 (.tmp 2) 2)⟩,
         ⟨some 16, none, (.load 61 (.tmp 15))⟩,
         ⟨some 17, none, (.fieldAddr 63 (.tmp 3) 2)⟩,
         ⟨some 18, none, (.load 61 (.tmp 17))⟩,
         ⟨some 19, none, (.call ⟨(.value (.func 77)), #[(.tmp 16), (.tmp 18)], #[61, 61]⟩)⟩,
         ⟨some 20, none, (.unOp .not 4 (.tmp 19))⟩])
       (.cond (.tmp 20)
        (.seq
         (.ops [⟨some 4, none, (.assign (.const (.bool false)))⟩])
         .ret)
        .skip))
      (.seq
       (.seq
        (.ops [⟨some 21, none, (.fieldAddr 63 (.tmp 2) 3)⟩,
          ⟨some 22, none, (.load 58 (.tmp 21))⟩,
          ⟨some 23, none, (.fieldAddr 63 (.tmp 3) 3)⟩,
          ⟨some 24, none, (.load 58 (.tmp 23))⟩,
          ⟨some 25, none, (.call ⟨(.value (.func 78)), #[(.tmp 22), (.tmp 24)], #[58, 58]⟩)⟩,
          ⟨some 26, none, (.unOp .not 4 (.tmp 25))⟩])
        (.cond (.tmp 26)
         (.seq
          (.ops [⟨some 4, none, (.assign (.const (.bool false)))⟩])
          .ret)
         .skip))
       (.seq
        (.ops [⟨some 4, none, (.assign (.const (.bool true)))⟩])
        .ret))))))
theorem w41 {args : Array Value} {H : AH} {Φ : Value → AH → Prop} (h : rW Try.prog k41 [] (fin Try.prog [(.tmp 4)] Φ) (tm0 args) H) : CallsA Try.prog 41 args H Φ :=
  CallsA.w k41 [(.tmp 4)] (fun _ => []) Try.func41 rfl rfl (by kernel_rfl) (by kernel_rfl) h

/-- laws.eqInstrS -/
def k13 : KC :=
  (.seq
   (.ops [⟨some 4, none, (.assign (.const (.bool false)))⟩])
   (.seq
    (.seq
     (.ops [⟨some 6, none, (.move (.tmp 0))⟩,
       ⟨some 7, none, (.call ⟨(.builtin .len), #[(.tmp 6)], #[27]⟩)⟩,
       ⟨some 8, none, (.move (.tmp 1))⟩,
       ⟨some 9, none, (.call ⟨(.builtin .len), #[(.tmp 8)], #[27]⟩)⟩,
       ⟨some 10, none, (.binOp .neq 3 (.tmp 7) (.tmp 9) 3)⟩])
     (.cond (.tmp 10)
      (.seq
       (.ops [⟨some 4, none, (.assign (.const (.bool false)))⟩])
       .ret)
      .skip))
    (.seq
     (.seq
      (.ops [⟨some 5, none, (.assign (.const (.int .i64 0)))⟩])
      (.block 0
       (.loop
        (.seq
         (.seq
          (.ops [⟨some 11, none, (.move (.tmp 5))⟩,
            ⟨some 12, none, (.move (.tmp 0))⟩,
            ⟨some 13, none, (.call ⟨(.builtin .len), #[(.tmp 12)], #[27]⟩)⟩,
            ⟨some 14, none, (.binOp .lss 3 (.tmp 11) (.tmp 13) 3)⟩])
          (.cond (.tmp 14)
           .skip
           (.exit 0)))
         (.seq
          (.block 1
           (.seq
            (.draw #[] [(3, 0), (7, 0)]
              [⟨some 17, none, (.move (.tmp 0))⟩,
              ⟨some 18, none, (.move (.tmp 5))⟩,
              ⟨some 19, none, (.indexAddr 27 (.tmp 17) (.tmp 18))⟩,
              ⟨some 20, none, (.load 63 (.tmp 19))⟩,
              ⟨some 21, none, (.move (.tmp 1))⟩,
              ⟨some 22, none, (.move (.tmp 5))⟩,
              ⟨some 23, none, (.indexAddr 27 (.tmp 21) (.tmp 22))⟩,
              ⟨some 24, none, (.load 63 (.tmp 23))⟩,
              ⟨some 25, none, (.call ⟨(.value (.func 41)), #[(.tmp 20), (.tmp 24)], #[63, 63]⟩)⟩,
              ⟨some 26, none, (.unOp .not 4 (.tmp 25))⟩])
            (.cond (.tmp 26)
             (.seq
              (.ops [⟨some 4, none, (.assign (.const (.bool false)))⟩])
              .ret)
             .skip)))
          (.ops [⟨some 15, none, (.move (.tmp 5))⟩,
            ⟨some 16, none, (.binOp .add 3 (.tmp 15) (.const (.int .i64 1)) 3)⟩,
            ⟨some 5, none, (.assign (.tmp 16))⟩]))))))
     (.seq
      (.ops [⟨some 4, none, (.assign (.const (.bool true)))⟩])
      .ret))))
theorem w13 {args : Array Value} {H : AH} {Φ : Value → AH → Prop} (h : rW Try.prog k13 [] (fin Try.prog [(.tmp 4)] Φ) (tm0 args) H) : CallsA Try.prog 13 args H Φ :=
  CallsA.w k13 [(.tmp 4)] (fun i => if i = 6 then [(3, 0), (7, 0)] else []) Try.func13 rfl rfl (by kernel_rfl) (by kernel_rfl) h

/-- laws.markIntS -/
def k42 : KC :=
  (.seq
   (.ops [⟨some 4, none, (.assign (.const (.int .i64 0)))⟩])
   (.seq
    (.seq
     (.ops [⟨some 5, none, (.assign (.const (.int .i64 0)))⟩])
     (.block 0
      (.loop
       (.seq
        (.seq
         (.ops [⟨some 6, none, (.move (.tmp 5))⟩,
           ⟨some 7, none, (.move (.tmp 0))⟩,
           ⟨some 8, none, (.call ⟨(.builtin .len), #[(.tmp 7)], #[58]⟩)⟩,
           ⟨some 9, none, (.binOp .lss 3 (.tmp 6) (.tmp 8) 3)⟩])
         (.cond (.tmp 9)
          .skip
          (.exit 0)))
        (.seq
         (.block 1
          (.seq
           (.ops [⟨some 12, none, (.move (.tmp 0))⟩,
             ⟨some 13, none, (.move (.tmp 5))⟩,
             ⟨some 14, none, (.move (.tmp 1))⟩,
             ⟨some 15, none, (.indexAddr 58 (.tmp 12) (.tmp 13))⟩,
             ⟨none, none, (.store 3 (.tmp 15) (.tmp 14))⟩])
           (.ops [⟨some 16, none, (.move (.tmp 1))⟩,
             ⟨some 17, none, (.binOp .add 3 (.tmp 16) (.const (.int .i64 1)) 3)⟩,
             ⟨some 1, none, (.assign (.tmp 17))⟩])))
         (.ops [⟨some 10, none, (.move (.tmp 5))⟩,
           ⟨some 11, none, (.binOp .add 3 (.tmp 10) (.const (.int .i64 1)) 3)⟩,
           ⟨some 5, none, (.assign (.tmp 11))⟩]))))))
    (.seq
     (.ops [⟨some 18, none, (.move (.tmp 1))⟩,
       ⟨some 4, none, (.assign (.tmp 18))⟩])
     .ret)))
theorem w42 {args : Array Value} {H : AH} {Φ : Value → AH → Prop} (h : rW Try.prog k42 [] (fin Try.prog [(.tmp 4)] Φ) (tm0 args) H) : CallsA Try.prog 42 args H Φ :=
  CallsA.w k42 [(.tmp 4)] (fun _ => []) Try.func42 rfl rfl (by kernel_rfl) (by kernel_rfl) h

/-- laws.markInstrS -/
def k14 : KC :=
  (.seq
   (.ops [⟨some 4, none, (.assign (.const (.int .i64 0)))⟩])
   (.seq
    (.seq
     (.ops [⟨some 5, none, (.assign (.const (.int .i64 0)))⟩])
     (.block 0
      (.loop
       (.seq
        (.seq
         (.ops [⟨some 6, none, (.move (.tmp 5))⟩,
           ⟨some 7, none, (.move (.tmp 0))⟩,
           ⟨some 8, none, (.call ⟨(.builtin .len), #[(.tmp 7)], #[27]⟩)⟩,
           ⟨some 9, none, (.binOp .lss 3 (.tmp 6) (.tmp 8) 3)⟩])
         (.cond (.tmp 9)
          .skip
          (.exit 0)))
        (.seq
         (.block 1
          (.seq
           (.ops [⟨some 12, none, (.move (.tmp 0))⟩,
             ⟨some 13, none, (.move (.tmp 5))⟩,
             ⟨some 14, none, (.move (.tmp 1))⟩,
             ⟨some 15, none, (.indexAddr 27 (.tmp 12) (.tmp 13))⟩,
             ⟨some 16, none, (.fieldAddr 63 (.tmp 15) 0)⟩,
             ⟨none, none, (.store 3 (.tmp 16) (.tmp 14))⟩])
           (.seq
            (.ops [⟨some 17, none, (.move (.tmp 1))⟩,
              ⟨some 18, none, (.binOp .add 3 (.tmp 17) (.const (.int .i64 1)) 3)⟩,
              ⟨some 1, none, (.assign (.tmp 18))⟩])
            (.seq
             (.ops [⟨some 19, none, (.move (.tmp 0))⟩,
               ⟨some 20, none, (.move (.tmp 5))⟩,
               ⟨some 21, none, (.move (.tmp 1))⟩,
               ⟨some 22, none, (.indexAddr 27 (.tmp 19) (.tmp 20))⟩,
               ⟨some 23, none, (.fieldAddr 63 (.tmp 22) 1)⟩,
               ⟨none, none, (.store 3 (.tmp 23) (.tmp 21))⟩])
             (.seq
              (.ops [⟨some 24, none, (.move (.tmp 1))⟩,
                ⟨some 25, none, (.binOp .add 3 (.tmp 24) (.const (.int .i64 1)) 3)⟩,
                ⟨some 1, none, (.assign (.tmp 25))⟩])
              (.seq
               (.ops [⟨some 26, none, (.move (.tmp 0))⟩,
                 ⟨some 27, none, (.move (.tmp 5))⟩,
                 ⟨some 28, none, (.move (.tmp 1))⟩,
                 ⟨some 29, none, (.indexAddr 27 (.tmp 26) (.tmp 27))⟩,
                 ⟨some 30, none, (.fieldAddr 63 (.tmp 29) 2)⟩,
                 ⟨some 31, none, (.fieldAddr 61 (.tmp 30) 0)⟩,
                 ⟨none, none, (.store 3 (.tmp 31) (.tmp 28))⟩])
               (.seq
                (.ops [⟨some 32, none, (.move (.tmp 1))⟩,
                  ⟨some 33, none, (.binOp .add 3 (.tmp 32) (.const (.int .i64 1)) 3)⟩,
                  ⟨some 1, none, (.assign (.tmp 33))⟩])
                (.seq
                 (.ops [⟨some 34, none, (.move (.tmp 0))⟩,
                   ⟨some 35, none, (.move (.tmp 5))⟩,
                   ⟨some 36, none, (.move (.tmp 1))⟩,
                   ⟨some 37, none, (.indexAddr 27 (.tmp 34) (.tmp 35))⟩,
                   ⟨some 38, none, (.fieldAddr 63 (.tmp 37) 2)⟩,
                   ⟨some 39, none, (.fieldAddr 61 (.tmp 38) 1)⟩,
                   ⟨none, none, (.store 3 (.tmp 39) (.tmp 36))⟩])
                 (.seq
                  (.ops [⟨some 40, none, (.move (.tmp 1))⟩,
                    ⟨some 41, none, (.binOp .add 3 (.tmp 40) (.const (.int .i64 1)) 3)⟩,
                    ⟨some 1, none, (.assign (.tmp 41))⟩])
                  (.seq
                   (.ops [⟨some 42, none, (.move (.tmp 0))⟩,
                     ⟨some 43, none, (.move (.tmp 5))⟩,
                     ⟨some 44, none, (.move (.tmp 1))⟩,
                     ⟨some 45, none, (.indexAddr 27 (.tmp 42) (.tmp 43))⟩,
                     ⟨some 46, none, (.fieldAddr 63 (.tmp 45) 2)⟩,
                     ⟨some 47, none, (.fieldAddr 61 (.tmp 46) 2)⟩,
                     ⟨none, none, (.store 3 (.tmp 47) (.tmp 44))⟩])
                   (.seq
                    (.ops [⟨some 48, none, (.move (.tmp 1))⟩,
                      ⟨some 49, none, (.binOp .add 3 (.tmp 48) (.const (.int .i64 1)) 3)⟩,
                      ⟨some 1, none, (.assign (.tmp 49))⟩])
                    (.ops [⟨some 50, none, (.move (.tmp 0))⟩,
                      ⟨some 51, none, (.move (.tmp 5))⟩,
                      ⟨some 52, none, (.indexAddr 27 (.tmp 50) (.tmp 51))⟩,
                      ⟨some 53, none, (.fieldAddr 63 (.tmp 52) 3)⟩,
                      ⟨some 54, none, (.load 58 (.tmp 53))⟩,
                      ⟨some 55, none, (.move (.tmp 1))⟩,
                      ⟨some 56, none, (.call ⟨(.value (.func 42)), #[(.tmp 54), (.tmp 55)], #[58, 3]⟩)⟩,
                      ⟨some 1, none, (.assign (.tmp 56))⟩]))))))))))))
         (.ops [⟨some 10, none, (.move (.tmp 5))⟩,
           ⟨some 11, none, (.binOp .add 3 (.tmp 10) (.const (.int .i64 1)) 3)⟩,
           ⟨some 5, none, (.assign (.tmp 11))⟩]))))))
    (.seq
     (.ops [⟨some 57, none, (.move (.tmp 1))⟩,
       ⟨some 4, none, (.assign (.tmp 57))⟩])
     .ret)))
theorem w14 {args : Array Value} {H : AH} {Φ : Value → AH → Prop} (h : rW Try.prog k14 [] (fin Try.prog [(.tmp 4)] Φ) (tm0 args) H) : CallsA Try.prog 14 args H Φ :=
  CallsA.w k14 [(.tmp 4)] (fun _ => []) Try.func14 rfl rfl (by kernel_rfl) (by kernel_rfl) h

/-- laws.markByteS -/
def k15 : KC :=
  (.seq
   (.ops [⟨some 4, none, (.assign (.const (.int .i64 0)))⟩])
   (.seq
    (.seq
     (.ops [⟨some 5, none, (.assign (.const (.int .i64 0)))⟩])
     (.block 0
      (.loop
       (.seq
        (.seq
         (.ops [⟨some 6, none, (.move (.tmp 5))⟩,
           ⟨some 7, none, (.move (.tmp 0))⟩,
           ⟨some 8, none, (.call ⟨(.builtin .len), #[(.tmp 7)], #[24]⟩)⟩,
           ⟨some 9, none, (.binOp .lss 3 (.tmp 6) (.tmp 8) 3)⟩])
         (.cond (.tmp 9)
          .skip
          (.exit 0)))
        (.seq
         (.block 1
          (.seq
           (.ops [⟨some 12, none, (.move (.tmp 0))⟩,
             ⟨some 13, none, (.move (.tmp 5))⟩,
             ⟨some 14, none, (.move (.tmp 1))⟩,
             ⟨some 15, none, (.convert 3 5 (.tmp 14))⟩,
             ⟨some 16, none, (.indexAddr 24 (.tmp 12) (.tmp 13))⟩,
             ⟨none, none, (.store 5 (.tmp 16) (.tmp 15))⟩])
           (.ops [⟨some 17, none, (.move (.tmp 1))⟩,
             ⟨some 18, none, (.binOp .add 3 (.tmp 17) (.const (.int .i64 1)) 3)⟩,
             ⟨some 1, none, (.assign (.tmp 18))⟩])))
         (.ops [⟨some 10, none, (.move (.tmp 5))⟩,
           ⟨some 11, none, (.binOp .add 3 (.tmp 10) (.const (.int .i64 1)) 3)⟩,
           ⟨some 5, none, (.assign (.tmp 11))⟩]))))))
    (.seq
     (.ops [⟨some 19, none, (.move (.tmp 1))⟩,
       ⟨some 4, none, (.assign (.tmp 19))⟩])
     .ret)))
theorem w15 {args : Array Value} {H : AH} {Φ : Value → AH → Prop} (h : rW Try.prog k15 [] (fin Try.prog [(.tmp 4)] Φ) (tm0 args) H) : CallsA Try.prog 15 args H Φ :=
  CallsA.w k15 [(.tmp 4)] (fun _ => []) Try.func15 rfl rfl (by kernel_rfl) (by kernel_rfl) h

/-- laws.heldByteS -/
def k16 : KC :=
  (.seq
   (.ops [⟨some 4, none, (.assign (.const (.int .i64 0)))⟩])
   (.seq
    (.seq
     (.ops [⟨some 5, none, (.assign (.const (.int .i64 0)))⟩])
     (.block 0
      (.loop
       (.seq
        (.seq
         (.ops [⟨some 6, none, (.move (.tmp 5))⟩,
           ⟨some 7, none, (.move (.tmp 0))⟩,
           ⟨some 8, none, (.call ⟨(.builtin .len), #[(.tmp 7)], #[24]⟩)⟩,
           ⟨some 9, none, (.binOp .lss 3 (.tmp 6) (.tmp 8) 3)⟩])
         (.cond (.tmp 9)
          .skip
          (.exit 0)))
        (.seq
         (.block 1
          (.seq
           (.seq
            (.ops [⟨some 12, none, (.move (.tmp 0))⟩,
              ⟨some 13, none, (.move (.tmp 5))⟩,
              ⟨some 14, none, (.indexAddr 24 (.tmp 12) (.tmp 13))⟩,
              ⟨some 15, none, (.load 5 (.tmp 14))⟩,
              ⟨some 16, none, (.move (.tmp 1))⟩,
              ⟨some 17, none, (.convert 3 5 (.tmp 16))⟩,
              ⟨some 18, none, (.binOp .neq 5 (.tmp 15) (.tmp 17) 5)⟩])
            (.cond (.tmp 18)
             (.seq
              (.ops [⟨some 4, none, (.assign (.const (.int .i64 (-1))))⟩])
              .ret)
             .skip))
           (.ops [⟨some 19, none, (.move (.tmp 1))⟩,
             ⟨some 20, none, (.binOp .add 3 (.tmp 19) (.const (.int .i64 1)) 3)⟩,
             ⟨some 1, none, (.assign (.tmp 20))⟩])))
         (.ops [⟨some 10, none, (.move (.tmp 5))⟩,
           ⟨some 11, none, (.binOp .add 3 (.tmp 10) (.const (.int .i64 1)) 3)⟩,
           ⟨some 5, none, (.assign (.tmp 11))⟩]))))))
    (.seq
     (.ops [⟨some 21, none, (.move (.tmp 1))⟩,
       ⟨some 4, none, (.assign (.tmp 21))⟩])
     .ret)))
theorem w16 {args : Array Value} {H : AH} {Φ : Value → AH → Prop} (h : rW Try.prog k16 [] (fin Try.prog [(.tmp 4)] Φ) (tm0 args) H) : CallsA Try.prog 16 args H Φ :=
  CallsA.w k16 [(.tmp 4)] (fun _ => []) Try.func16 rfl rfl (by kernel_rfl) (by kernel_rfl) h

/-- laws.FnExactCodePack -/
def k3 : KC :=
  (.seq
   (.ops [⟨some 2, none, (.assign (.const (.bool false)))⟩])
   (.seq
    (.ops [⟨some 3, none, (.assign (.const (.int .i64 1048576)))⟩])
    (.seq
     (.ops [⟨some 14, none, (.move (.tmp 0))⟩,
       ⟨some 15, none, (.move (.tmp 3))⟩,
       ⟨some 16, none, (.call ⟨(.value (.func 8)), #[(.tmp 14), (.tmp 15)], #[22, 3]⟩)⟩,
       ⟨some 3, none, (.assign (.tmp 16))⟩])
     (.seq
      (.seq
       (.ops [⟨some 17, none, (.move (.tmp 3))⟩,
         ⟨some 18, none, (.binOp .lss 3 (.tmp 17) (.const (.int .i64 0)) 3)⟩])
       (.cond (.tmp 18)
        (.seq
         (.ops [⟨some 2, none, (.assign (.const (.bool true)))⟩])
         .ret)
        .skip))
      (.seq
       (.ops [⟨some 20, none, (.move (.tmp 0))⟩,
         ⟨some 21, none, (.call ⟨(.value (.func 10)), #[(.tmp 20)], #[22]⟩)⟩,
         ⟨some 22, none, (.call ⟨(.value (.func 9)), #[(.tmp 21)], #[27]⟩)⟩,
         ⟨some 19, none, (.move (.tmp 22))⟩,
         ⟨some 23, none, (.extract (.tmp 19) 0)⟩,
         ⟨some 24, none, (.extract (.tmp 19) 1)⟩,
         ⟨some 4, none, (.assign (.tmp 23))⟩,
         ⟨some 5, none, (.assign (.tmp 24))⟩])
       (.seq
        (.ops [⟨some 25, none, (.move (.tmp 0))⟩,
          ⟨some 26, none, (.call ⟨(.value (.func 10)), #[(.tmp 25)], #[22]⟩)⟩,
          ⟨some 6, none, (.assign (.tmp 26))⟩])
        (.seq
         (.ops [⟨some 28, none, (.move (.tmp 6))⟩,
           ⟨some 29, none, (.call ⟨(.value (.func 11)), #[(.tmp 28)], #[27]⟩)⟩,
           ⟨some 27, none, (.move (.tmp 29))⟩,
           ⟨some 30, none, (.extract (.tmp 27) 0)⟩,
           ⟨some 31, none, (.extract (.tmp 27) 1)⟩,
           ⟨some 7, none, (.assign (.tmp 30))⟩,
           ⟨some 8, none, (.assign (.tmp 31))⟩])
         (.seq
          (.seq
           (.ops [⟨some 32, none, (.move (.tmp 7))⟩,
             ⟨some 33, none, (.move (.tmp 4))⟩,
             ⟨some 34, none, (.call ⟨(.value (.func 12)), #[(.tmp 32), (.tmp 33)], #[24, 24]⟩)⟩,
             ⟨some 35, none, (.unOp .not 4 (.tmp 34))⟩,
             ⟨some 36, none, (.move (.tmp 35))⟩,
             ⟨some 37, (some (36, false)), (.move (.tmp 8))⟩,
             ⟨some 38, (some (36, false)), (.move (.tmp 5))⟩,
             ⟨some 39, (some (36, false)), (.binOp .neq 4 (.tmp 37) (.tmp 38) 4)⟩,
             ⟨some 40, none, (.pick (.tmp 36) (.const (.bool true)) (.tmp 39))⟩])
           (.cond (.tmp 40)
            (.seq
             (.ops [⟨some 2, none, (.assign (.const (.bool false)))⟩])
             .ret)
            .skip))
          (.seq
           (.seq
            (.ops [⟨some 41, none, (.move (.tmp 6))⟩,
              ⟨some 42, none, (.move (.tmp 0))⟩,
              ⟨some 43, none, (.call ⟨(.value (.func 10)), #[(.tmp 42)], #[22]⟩)⟩,
              ⟨some 44, none, (.call ⟨(.value (.func 13)), #[(.tmp 41), (.tmp 43)], #[27, 27]⟩)⟩,
              ⟨some 45, none, (.unOp .not 4 (.tmp 44))⟩])
            (.cond (.tmp 45)
             (.seq
              (.ops [⟨some 2, none, (.assign (.const (.bool false)))⟩])
              .ret)
             .skip))
           (.seq
            (.ops [⟨some 9, none, (.assign (.const (.int .i64 1)))⟩])
            (.seq
             (.ops [⟨some 46, none, (.move (.tmp 6))⟩,
               ⟨some 47, none, (.move (.tmp 9))⟩,
               ⟨some 48, none, (.call ⟨(.value (.func 14)), #[(.tmp 46), (.tmp 47)], #[27, 3]⟩)⟩,
               ⟨some 9, none, (.assign (.tmp 48))⟩])
             (.seq
              (.seq
               (.ops [⟨some 49, none, (.move (.tmp 9))⟩,
                 ⟨some 50, none, (.binOp .lss 3 (.tmp 49) (.const (.int .i64 0)) 3)⟩,
                 ⟨some 51, none, (.move (.tmp 50))⟩,
                 ⟨some 52, (some (51, false)), (.move (.tmp 7))⟩,
                 ⟨some 53, (some (51, false)), (.move (.tmp 4))⟩,
                 ⟨some 54, (some (51, false)), (.call ⟨(.value (.func 12)), #[(.tmp 52), (.tmp 53)], #[24, 24]⟩)⟩,
                 ⟨some 55, (some (51, false)), (.unOp .not 4 (.tmp 54))⟩,
                 ⟨some 56, none, (.pick (.tmp 51) (.const (.bool true)) (.tmp 55))⟩,
                 ⟨some 57, none, (.move (.tmp 56))⟩,
                 ⟨some 58, (some (57, false)), (.move (.tmp 8))⟩,
                 ⟨some 59, (some (57, false)), (.move (.tmp 5))⟩,
                 ⟨some 60, (some (57, false)), (.binOp .neq 4 (.tmp 58) (.tmp 59) 4)⟩,
                 ⟨some 61, none, (.pick (.tmp 57) (.const (.bool true)) (.tmp 60))⟩])
               (.cond (.tmp 61)
                (.seq
                 (.ops [⟨some 2, none, (.assign (.const (.bool false)))⟩])
                 .ret)
                .skip))
              (.seq
               (.ops [⟨some 10, none, (.assign (.const (.int .i64 1)))⟩])
               (.seq
                (.ops [⟨some 62, none, (.move (.tmp 7))⟩,
                  ⟨some 63, none, (.move (.tmp 10))⟩,
                  ⟨some 64, none, (.call ⟨(.value (.func 15)), #[(.tmp 62), (.tmp 63)], #[24, 3]⟩)⟩,
                  ⟨some 10, none, (.assign (.tmp 64))⟩])
                (.seq
                 (.ops [⟨some 11, none, (.assign (.const (.int .i64 1)))⟩])
                 (.seq
                  (.ops [⟨some 65, none, (.move (.tmp 7))⟩,
                    ⟨some 66, none, (.move (.tmp 11))⟩,
                    ⟨some 67, none, (.call ⟨(.value (.func 16)), #[(.tmp 65), (.tmp 66)], #[24, 3]⟩)⟩,
                    ⟨some 11, none, (.assign (.tmp 67))⟩])
                  (.seq
                   (.seq
                    (.ops [⟨some 68, none, (.move (.tmp 11))⟩,
                      ⟨some 69, none, (.binOp .lss 3 (.tmp 68) (.const (.int .i64 0)) 3)⟩])
                    (.cond (.tmp 69)
                     (.seq
                      (.ops [⟨some 2, none, (.assign (.const (.bool false)))⟩])
                      .ret)
                     .skip))
                   (.seq
                    (.seq
                     (.ops [⟨some 70, none, (.move (.tmp 11))⟩,
                       ⟨some 71, none, (.move (.tmp 10))⟩,
                       ⟨some 72, none, (.binOp .neq 3 (.tmp 70) (.tmp 71) 3)⟩])
                     (.cond (.tmp 72)
                      (.seq
                       (.ops [⟨some 2, none, (.assign (.const (.bool false)))⟩])
                       .ret)
                      .skip))
                    (.seq
                     (.ops [⟨some 74, none, (.move (.tmp 0))⟩,
                       ⟨some 75, none, (.call ⟨(.value (.func 10)), #[(.tmp 74)], #[22]⟩)⟩,
                       ⟨some 76, none, (.call ⟨(.value (.func 11)), #[(.tmp 75)], #[27]⟩)⟩,
                       ⟨some 73, none, (.move (.tmp 76))⟩,
                       ⟨some 77, none, (.extract (.tmp 73) 0)⟩,
                       ⟨some 78, none, (.extract (.tmp 73) 1)⟩,
                       ⟨some 12, none, (.assign (.tmp 77))⟩,
                       ⟨some 13, none, (.assign (.tmp 78))⟩])
                     (.seq
                      (.seq
                       (.ops [⟨some 79, none, (.move (.tmp 12))⟩,
                         ⟨some 80, none, (.move (.tmp 4))⟩,
                         ⟨some 81, none, (.call ⟨(.value (.func 12)), #[(.tmp 79), (.tmp 80)], #[24, 24]⟩)⟩,
                         ⟨some 82, none, (.unOp .not 4 (.tmp 81))⟩,
                         ⟨some 83, none, (.move (.tmp 82))⟩,
                         ⟨some 84, (some (83, false)), (.move (.tmp 13))⟩,
                         ⟨some 85, (some (83, false)), (.move (.tmp 5))⟩,
                         ⟨some 86, (some (83, false)), (.binOp .neq 4 (.tmp 84) (.tmp 85) 4)⟩,
                         ⟨some 87, none, (.pick (.tmp 83) (.const (.bool true)) (.tmp 86))⟩])
                       (.cond (.tmp 87)
                        (.seq
                         (.ops [⟨some 2, none, (.assign (.const (.bool false)))⟩])
                         .ret)
                        .skip))
                      (.seq
                       (.ops [⟨some 11, none, (.assign (.const (.int .i64 1)))⟩])
                       (.seq
                        (.ops [⟨some 88, none, (.move (.tmp 7))⟩,
                          ⟨some 89, none, (.move (.tmp 11))⟩,
                          ⟨some 90, none, (.call ⟨(.value (.func 16)), #[(.tmp 88), (.tmp 89)], #[24, 3]⟩)⟩,
                          ⟨some 11, none, (.assign (.tmp 90))⟩])
                        (.seq
                         (.seq
                          (.ops [⟨some 91, none, (.move (.tmp 11))⟩,
                            ⟨some 92, none, (.binOp .lss 3 (.tmp 91) (.const (.int .i64 0)) 3)⟩])
                          (.cond (.tmp 92)
                           (.seq
                            (.ops [⟨some 2, none, (.assign (.const (.bool false)))⟩])
                            .ret)
                           .skip))
                         (.seq
                          (.seq
                           (.ops [⟨some 93, none, (.move (.tmp 11))⟩,
                             ⟨some 94, none, (.move (.tmp 10))⟩,
                             ⟨some 95, none, (.binOp .neq 3 (.tmp 93) (.tmp 94) 3)⟩])
                           (.cond (.tmp 95)
                            (.seq
                             (.ops [⟨some 2, none, (.assign (.const (.bool false)))⟩])
                             .ret)
                            .skip))
                          (.seq
                           (.ops [⟨some 2, none, (.assign (.const (.bool true)))⟩])
                           .ret)))))))))))))))))))))))))
theorem w3 {args : Array Value} {H : AH} {Φ : Value → AH → Prop} (h : rW Try.prog k3 [] (fin Try.prog [(.tmp 2)] Φ) (tm0 args) H) : CallsA Try.prog 3 args H Φ :=
  CallsA.w k3 [(.tmp 2)] (fun _ => []) Try.func3 rfl rfl (by kernel_rfl) (by kernel_rfl) h

end Go.Proofs.Ytamlfhngenndfaa.AM
