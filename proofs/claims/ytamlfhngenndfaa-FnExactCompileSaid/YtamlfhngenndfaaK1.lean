/- The code of the functions that the laws reach, made short; and facts on the types that they use. -/
import Derived.Test.YtamlfhngenndfaaA8
import Derived.KernelRfl
import Derived.Test.YtamlfhngenndfaaRows
set_option linter.unusedVariables false
set_option linter.unusedSimpArgs false
set_option linter.defProp false
set_option maxRecDepth 100000
/- The code of the functions that the laws reach, made short; and facts on the types that they use. -/
namespace Go.Proofs.Ytamlfhngenndfaa.AM
open Go Go.Proofs.Ytamlfhngenndfaa Go.Proofs

theorem al45 {ev : Operand → Value} : aMake Try.prog ev (.alloc 45) = some ([.slice none 0 0], none) := by kernel_rfl
theorem al61 {ev : Operand → Value} : aMake Try.prog ev (.alloc 61) = some ([.int .i64 0, .int .i64 0, .int .i64 0], none) := by kernel_rfl
theorem al63 {ev : Operand → Value} : aMake Try.prog ev (.alloc 63) = some ([.int .i64 0, .int .i64 0, .int .i64 0, .int .i64 0, .int .i64 0, .slice none 0 0], none) := by kernel_rfl
theorem al77 {ev : Operand → Value} : aMake Try.prog ev (.alloc 77) = some ([.int .i64 0, .int .i64 0, .int .i64 0, .int .i64 0, .int .i64 0, .int .i64 0, .slice none 0 0], none) := by kernel_rfl
theorem ap27_27 {a a' : Option Addr} {n c n' c' : Nat} {H : AH} : aAppend Try.prog #[27, 27] #[.slice a n c, .slice a' n' c'] H = app 6 (.slice a n c) (.slice a' n' c') H := append_eq (z := .agg #[.int .i64 0, .int .i64 0, .int .i64 0, .int .i64 0, .int .i64 0, .slice none 0 0]) (e := 63) (e' := 63) (by kernel_rfl) (by kernel_rfl) (by kernel_rfl) (by kernel_rfl) (by kernel_rfl) (by kernel_rfl)
theorem ap58_58 {a a' : Option Addr} {n c n' c' : Nat} {H : AH} : aAppend Try.prog #[58, 58] #[.slice a n c, .slice a' n' c'] H = app 1 (.slice a n c) (.slice a' n' c') H := append_eq (z := .int .i64 0) (e := 3) (e' := 3) (by kernel_rfl) (by kernel_rfl) (by kernel_rfl) (by kernel_rfl) (by kernel_rfl) (by kernel_rfl)
theorem bd61 {ps : Array (Nat × Value)} : aBuild Try.prog 61 ps = (fillP [(0, 1), (1, 1), (2, 1)] [.int .i64 0, .int .i64 0, .int .i64 0] ps.toList).map fun cs => .agg cs.toArray := build_eq (z := .agg #[.int .i64 0, .int .i64 0, .int .i64 0]) Try.underlying61 (by kernel_rfl) (by kernel_rfl) (by kernel_rfl) rfl
theorem bd63 {ps : Array (Nat × Value)} : aBuild Try.prog 63 ps = (fillP [(0, 1), (1, 1), (2, 3), (5, 1)] [.int .i64 0, .int .i64 0, .int .i64 0, .int .i64 0, .int .i64 0, .slice none 0 0] ps.toList).map fun cs => .agg cs.toArray := build_eq (z := .agg #[.int .i64 0, .int .i64 0, .int .i64 0, .int .i64 0, .int .i64 0, .slice none 0 0]) Try.underlying63 (by kernel_rfl) (by kernel_rfl) (by kernel_rfl) rfl
theorem bs27_0 {ev : Operand → Value} : aMake Try.prog ev (.buildSlice 27 0 #[]) = (fillP [] [] []).map fun cs => (cs, some (0, 6)) := bslice_eq (z := .agg #[.int .i64 0, .int .i64 0, .int .i64 0, .int .i64 0, .int .i64 0, .slice none 0 0]) (e := 63) (by kernel_rfl) (by kernel_rfl) (by kernel_rfl) (by decide) (by kernel_rfl) (by kernel_rfl) rfl rfl
theorem bs27_1 {ev : Operand → Value} {x0 : Operand} : aMake Try.prog ev (.buildSlice 27 1 #[(0, x0)]) = (fillP [(0, 6)] [.int .i64 0, .int .i64 0, .int .i64 0, .int .i64 0, .int .i64 0, .slice none 0 0] [(0, ev x0)]).map fun cs => (cs, some (1, 6)) := bslice_eq (z := .agg #[.int .i64 0, .int .i64 0, .int .i64 0, .int .i64 0, .int .i64 0, .slice none 0 0]) (e := 63) (by kernel_rfl) (by kernel_rfl) (by kernel_rfl) (by decide) (by kernel_rfl) (by kernel_rfl) rfl rfl
theorem bs58_0 {ev : Operand → Value} : aMake Try.prog ev (.buildSlice 58 0 #[]) = (fillP [] [] []).map fun cs => (cs, some (0, 1)) := bslice_eq (z := .int .i64 0) (e := 3) (by kernel_rfl) (by kernel_rfl) (by kernel_rfl) (by decide) (by kernel_rfl) (by kernel_rfl) rfl rfl
theorem bs58_1 {ev : Operand → Value} {x0 : Operand} : aMake Try.prog ev (.buildSlice 58 1 #[(0, x0)]) = (fillP [(0, 1)] [.int .i64 0] [(0, ev x0)]).map fun cs => (cs, some (1, 1)) := bslice_eq (z := .int .i64 0) (e := 3) (by kernel_rfl) (by kernel_rfl) (by kernel_rfl) (by decide) (by kernel_rfl) (by kernel_rfl) rfl rfl
theorem cv5_3 {k : IntKind} {n : Int} {G : Hp} : aConv Try.prog 5 3 (.int k n) G = some (.int .i64 (IntKind.i64.wrap n)) := conv_int (e := .int .u8) (by kernel_rfl) (by kernel_rfl)
theorem ef61 {a0 b0 a1 b1 a2 b2 : Int} {x y : Operand} : aBin Try.prog .eql 61 x y (.agg #[.int .i64 a0, .int .i64 a1, .int .i64 a2]) (.agg #[.int .i64 b0, .int .i64 b1, .int .i64 b2]) = some (.bool (a0 == b0 && (a1 == b1 && (a2 == b2 && true)))) := by
  refine bin_eql_agg Try.underlying61 (by kernel_rfl) (by kernel_rfl) (by simp [scal1]) ?_
  rw [eqF_cons (k := .i64) (k' := .i64) (a := a0) (b := b0) (by decide) (by kernel_rfl) (by kernel_rfl) (by kernel_rfl)]
  rw [eqF_cons (k := .i64) (k' := .i64) (a := a1) (b := b1) (by decide) (by kernel_rfl) (by kernel_rfl) (by kernel_rfl)]
  rw [eqF_cons (k := .i64) (k' := .i64) (a := a2) (b := b2) (by decide) (by kernel_rfl) (by kernel_rfl) (by kernel_rfl)]
  simp only [ite_and, eqF_nil]
theorem eg61 {a0 b0 a1 b1 a2 b2 : Int} {x y : Operand} : aBin Try.prog .neq 61 x y (.agg #[.int .i64 a0, .int .i64 a1, .int .i64 a2]) (.agg #[.int .i64 b0, .int .i64 b1, .int .i64 b2]) = some (.bool (!(a0 == b0 && (a1 == b1 && (a2 == b2 && true))))) := by
  refine bin_neq_agg Try.underlying61 (by kernel_rfl) (by kernel_rfl) (by simp [scal1]) ?_
  rw [eqF_cons (k := .i64) (k' := .i64) (a := a0) (b := b0) (by decide) (by kernel_rfl) (by kernel_rfl) (by kernel_rfl)]
  rw [eqF_cons (k := .i64) (k' := .i64) (a := a1) (b := b1) (by decide) (by kernel_rfl) (by kernel_rfl) (by kernel_rfl)]
  rw [eqF_cons (k := .i64) (k' := .i64) (a := a2) (b := b2) (by decide) (by kernel_rfl) (by kernel_rfl) (by kernel_rfl)]
  simp only [ite_and, eqF_nil]
theorem fa40_0 {b o : Nat} : aFieldAddr Try.prog 40 (.pointer (some ⟨b, o, none⟩)) 0 = some (.pointer (some ⟨b, o + 0, none⟩)) := by kernel_rfl
theorem fa45_0 {b o : Nat} : aFieldAddr Try.prog 45 (.pointer (some ⟨b, o, none⟩)) 0 = some (.pointer (some ⟨b, o + 0, none⟩)) := by kernel_rfl
theorem fa57_0 {b o : Nat} : aFieldAddr Try.prog 57 (.pointer (some ⟨b, o, none⟩)) 0 = some (.pointer (some ⟨b, o + 0, none⟩)) := by kernel_rfl
theorem fa57_1 {b o : Nat} : aFieldAddr Try.prog 57 (.pointer (some ⟨b, o, none⟩)) 1 = some (.pointer (some ⟨b, o + 1, none⟩)) := by kernel_rfl
theorem fa57_2 {b o : Nat} : aFieldAddr Try.prog 57 (.pointer (some ⟨b, o, none⟩)) 2 = some (.pointer (some ⟨b, o + 2, none⟩)) := by kernel_rfl
theorem fa61_0 {b o : Nat} : aFieldAddr Try.prog 61 (.pointer (some ⟨b, o, none⟩)) 0 = some (.pointer (some ⟨b, o + 0, none⟩)) := by kernel_rfl
theorem fa61_1 {b o : Nat} : aFieldAddr Try.prog 61 (.pointer (some ⟨b, o, none⟩)) 1 = some (.pointer (some ⟨b, o + 1, none⟩)) := by kernel_rfl
theorem fa61_2 {b o : Nat} : aFieldAddr Try.prog 61 (.pointer (some ⟨b, o, none⟩)) 2 = some (.pointer (some ⟨b, o + 2, none⟩)) := by kernel_rfl
theorem fa63_0 {b o : Nat} : aFieldAddr Try.prog 63 (.pointer (some ⟨b, o, none⟩)) 0 = some (.pointer (some ⟨b, o + 0, none⟩)) := by kernel_rfl
theorem fa63_1 {b o : Nat} : aFieldAddr Try.prog 63 (.pointer (some ⟨b, o, none⟩)) 1 = some (.pointer (some ⟨b, o + 1, none⟩)) := by kernel_rfl
theorem fa63_2 {b o : Nat} : aFieldAddr Try.prog 63 (.pointer (some ⟨b, o, none⟩)) 2 = some (.pointer (some ⟨b, o + 2, none⟩)) := by kernel_rfl
theorem fa63_3 {b o : Nat} : aFieldAddr Try.prog 63 (.pointer (some ⟨b, o, none⟩)) 3 = some (.pointer (some ⟨b, o + 5, none⟩)) := by kernel_rfl
theorem fa77_0 {b o : Nat} : aFieldAddr Try.prog 77 (.pointer (some ⟨b, o, none⟩)) 0 = some (.pointer (some ⟨b, o + 0, none⟩)) := by kernel_rfl
theorem fa77_1 {b o : Nat} : aFieldAddr Try.prog 77 (.pointer (some ⟨b, o, none⟩)) 1 = some (.pointer (some ⟨b, o + 1, none⟩)) := by kernel_rfl
theorem fa77_2 {b o : Nat} : aFieldAddr Try.prog 77 (.pointer (some ⟨b, o, none⟩)) 2 = some (.pointer (some ⟨b, o + 2, none⟩)) := by kernel_rfl
theorem fa77_3 {b o : Nat} : aFieldAddr Try.prog 77 (.pointer (some ⟨b, o, none⟩)) 3 = some (.pointer (some ⟨b, o + 3, none⟩)) := by kernel_rfl
theorem fa77_4 {b o : Nat} : aFieldAddr Try.prog 77 (.pointer (some ⟨b, o, none⟩)) 4 = some (.pointer (some ⟨b, o + 6, none⟩)) := by kernel_rfl
theorem fa106_0 {b o : Nat} : aFieldAddr Try.prog 106 (.pointer (some ⟨b, o, none⟩)) 0 = some (.pointer (some ⟨b, o + 0, none⟩)) := by kernel_rfl
theorem fa106_1 {b o : Nat} : aFieldAddr Try.prog 106 (.pointer (some ⟨b, o, none⟩)) 1 = some (.pointer (some ⟨b, o + 1, none⟩)) := by kernel_rfl
theorem fa106_2 {b o : Nat} : aFieldAddr Try.prog 106 (.pointer (some ⟨b, o, none⟩)) 2 = some (.pointer (some ⟨b, o + 2, none⟩)) := by kernel_rfl
theorem fa106_3 {b o : Nat} : aFieldAddr Try.prog 106 (.pointer (some ⟨b, o, none⟩)) 3 = some (.pointer (some ⟨b, o + 3, none⟩)) := by kernel_rfl
theorem fa106_4 {b o : Nat} : aFieldAddr Try.prog 106 (.pointer (some ⟨b, o, none⟩)) 4 = some (.pointer (some ⟨b, o + 6, none⟩)) := by kernel_rfl
theorem ix27 {b o n c : Nat} {k : IntKind} {j : Int} : aIndexAddr Try.prog 27 (.slice (some ⟨b, o, none⟩) n c) (.int k j) = if 0 ≤ j ∧ j < n then some (.pointer (some ⟨b, o + j.toNat * 6, none⟩)) else none := by kernel_rfl
theorem ix38 {b o n c : Nat} {k : IntKind} {j : Int} : aIndexAddr Try.prog 38 (.slice (some ⟨b, o, none⟩) n c) (.int k j) = if 0 ≤ j ∧ j < n then some (.pointer (some ⟨b, o + j.toNat * 7, none⟩)) else none := by kernel_rfl
theorem ix43 {b o n c : Nat} {k : IntKind} {j : Int} : aIndexAddr Try.prog 43 (.slice (some ⟨b, o, none⟩) n c) (.int k j) = if 0 ≤ j ∧ j < n then some (.pointer (some ⟨b, o + j.toNat * 7, none⟩)) else none := by kernel_rfl
theorem ix58 {b o n c : Nat} {k : IntKind} {j : Int} : aIndexAddr Try.prog 58 (.slice (some ⟨b, o, none⟩) n c) (.int k j) = if 0 ≤ j ∧ j < n then some (.pointer (some ⟨b, o + j.toNat * 1, none⟩)) else none := by kernel_rfl
theorem us9 : Try.prog.underlying 9 = some .string := by kernel_rfl
theorem ld3 {o : Nat} {cs : List Value} : ld Try.prog 3 o cs = cs[o]? := ld_one (by kernel_rfl)
theorem ld38 {o : Nat} {cs : List Value} : ld Try.prog 38 o cs = cs[o]? := ld_one (by kernel_rfl)
theorem ld40 {o : Nat} {cs : List Value} : ld Try.prog 40 o cs = aggAt 1 o cs := ld_agg (by kernel_rfl) (by kernel_rfl)
theorem ld43 {o : Nat} {cs : List Value} : ld Try.prog 43 o cs = cs[o]? := ld_one (by kernel_rfl)
theorem ld45 {o : Nat} {cs : List Value} : ld Try.prog 45 o cs = aggAt 1 o cs := ld_agg (by kernel_rfl) (by kernel_rfl)
theorem ld57 {o : Nat} {cs : List Value} : ld Try.prog 57 o cs = aggAt 3 o cs := ld_agg (by kernel_rfl) (by kernel_rfl)
theorem ld58 {o : Nat} {cs : List Value} : ld Try.prog 58 o cs = cs[o]? := ld_one (by kernel_rfl)
theorem ld61 {o : Nat} {cs : List Value} : ld Try.prog 61 o cs = aggAt 3 o cs := ld_agg (by kernel_rfl) (by kernel_rfl)
theorem ld63 {o : Nat} {cs : List Value} : ld Try.prog 63 o cs = aggAt 6 o cs := ld_agg (by kernel_rfl) (by kernel_rfl)
theorem ld77 {o : Nat} {cs : List Value} : ld Try.prog 77 o cs = aggAt 7 o cs := ld_agg (by kernel_rfl) (by kernel_rfl)
theorem ld106 {o : Nat} {cs : List Value} : ld Try.prog 106 o cs = aggAt 7 o cs := ld_agg (by kernel_rfl) (by kernel_rfl)
theorem ln9 {s : ByteArray} : aLen Try.prog #[9] #[.string s] = some (.int .i64 s.size) := by kernel_rfl
theorem ln27 {a : Option Addr} {n c : Nat} : aLen Try.prog #[27] #[.slice a n c] = some (.int .i64 n) := by kernel_rfl
theorem ln38 {a : Option Addr} {n c : Nat} : aLen Try.prog #[38] #[.slice a n c] = some (.int .i64 n) := by kernel_rfl
theorem ln43 {a : Option Addr} {n c : Nat} : aLen Try.prog #[43] #[.slice a n c] = some (.int .i64 n) := by kernel_rfl
theorem ln58 {a : Option Addr} {n c : Nat} : aLen Try.prog #[58] #[.slice a n c] = some (.int .i64 n) := by kernel_rfl
theorem ms43 {k k' : IntKind} {n : Int} : mkS Try.prog 43 (.int k n) (.int k' n) = if 0 ≤ n ∧ n ≤ 1073741824 then some ((List.replicate n.toNat [.int .i64 0, .int .i64 0, .int .i64 0, .int .i64 0, .int .i64 0, .int .i64 0, .slice none 0 0]).flatten, some (n.toNat, 7)) else none := mkS_eq (z := .agg #[.int .i64 0, .int .i64 0, .int .i64 0, .int .i64 0, .int .i64 0, .int .i64 0, .slice none 0 0]) (e := 77) (by kernel_rfl) (by kernel_rfl) (by kernel_rfl) (by kernel_rfl) (by kernel_rfl) (by kernel_rfl) (by decide)
theorem ms58 {k k' : IntKind} {n : Int} : mkS Try.prog 58 (.int k n) (.int k' n) = if 0 ≤ n ∧ n ≤ 1073741824 then some ((List.replicate n.toNat [.int .i64 0]).flatten, some (n.toNat, 1)) else none := mkS_eq (z := .int .i64 0) (e := 3) (by kernel_rfl) (by kernel_rfl) (by kernel_rfl) (by kernel_rfl) (by kernel_rfl) (by kernel_rfl) (by decide)
theorem st3 {b o : Nat} {v : Value} {H : AH} : aStore Try.prog 3 (.pointer (some ⟨b, o, none⟩)) v H = sto 1 b o v H (wrt H b) := store_eq (by kernel_rfl)
theorem st43 {b o : Nat} {v : Value} {H : AH} : aStore Try.prog 43 (.pointer (some ⟨b, o, none⟩)) v H = sto 1 b o v H (wrt H b) := store_eq (by kernel_rfl)
theorem st45 {b o : Nat} {v : Value} {H : AH} : aStore Try.prog 45 (.pointer (some ⟨b, o, none⟩)) v H = sto 1 b o v H (wrt H b) := store_eq (by kernel_rfl)
theorem st58 {b o : Nat} {v : Value} {H : AH} : aStore Try.prog 58 (.pointer (some ⟨b, o, none⟩)) v H = sto 1 b o v H (wrt H b) := store_eq (by kernel_rfl)
theorem st61 {b o : Nat} {v : Value} {H : AH} : aStore Try.prog 61 (.pointer (some ⟨b, o, none⟩)) v H = sto 3 b o v H (wrt H b) := store_eq (by kernel_rfl)
theorem st63 {b o : Nat} {v : Value} {H : AH} : aStore Try.prog 63 (.pointer (some ⟨b, o, none⟩)) v H = sto 6 b o v H (wrt H b) := store_eq (by kernel_rfl)
theorem st77 {b o : Nat} {v : Value} {H : AH} : aStore Try.prog 77 (.pointer (some ⟨b, o, none⟩)) v H = sto 7 b o v H (wrt H b) := store_eq (by kernel_rfl)
theorem ub4 : Try.prog.underlying 4 = some .bool := by kernel_rfl

/-- laws.eqFun -/
def k77 : KC :=
  (.seq
   (.ops [⟨some 2, none, (.box 61 (.tmp 0))⟩,
     ⟨some 3, none, (.box 61 (.tmp 1))⟩,
     ⟨some 4, none, (.assign (.const (.bool false)))⟩])
   (.seq
    (.seq
     (.ops [⟨some 5, none, (.fieldAddr 61 (.tmp 2) 0)⟩,
       ⟨some 6, none, (.load 3 (.tmp 5))⟩,
       ⟨some 7, none, (.fieldAddr 61 (.tmp 3) 0)⟩,
       ⟨some 8, none, (.load 3 (.tmp 7))⟩,
       ⟨some 9, none, (.binOp .neq 3 (.tmp 6) (.tmp 8) 3)⟩])
     (.cond (.tmp 9)
      (.seq
       (.ops [⟨some 4, none, (.assign (.const (.bool false)))⟩])
       .ret)
      .skip))
    (.seq
     (.seq
      (.ops [⟨some 10, none, (.fieldAddr 61 (.tmp 2) 1)⟩,
        ⟨some 11, none, (.load 3 (.tmp 10))⟩,
        ⟨some 12, none, (.fieldAddr 61 (.tmp 3) 1)⟩,
        ⟨some 13, none, (.load 3 (.tmp 12))⟩,
        ⟨some 14, none, (.binOp .neq 3 (.tmp 11) (.tmp 13) 3)⟩])
      (.cond (.tmp 14)
       (.seq
        (.ops [⟨some 4, none, (.assign (.const (.bool false)))⟩])
        .ret)
       .skip))
     (.seq
      (.seq
       (.ops [⟨some 15, none, (.fieldAddr 61 (.tmp 2) 2)⟩,
         ⟨some 16, none, (.load 3 (.tmp 15))⟩,
         ⟨some 17, none, (.fieldAddr 61 (.tmp 3) 2)⟩,
         ⟨some 18, none, (.load 3 (.tmp 17))⟩,
         ⟨some 19, none, (.binOp .neq 3 (.tmp 16) (.tmp 18) 3)⟩])
       (.cond (.tmp 19)
        (.seq
         (.ops [⟨some 4, none, (.assign (.const (.bool false)))⟩])
         .ret)
        .skip))
      (.seq
       (.ops [⟨some 4, none, (.assign (.const (.bool true)))⟩])
       .ret)))))
theorem w77 {args : Array Value} {H : AH} {Φ : Value → AH → Prop} (h : rW Try.prog k77 [] (fin Try.prog [(.tmp 4)] Φ) (tm0 args) H) : CallsA Try.prog 77 args H Φ :=
  CallsA.w k77 [(.tmp 4)] (fun _ => []) Try.func77 rfl rfl (by kernel_rfl) (by kernel_rfl) h

/-- laws.eqIntS -/
def k78 : KC :=
  (.seq
   (.ops [⟨some 4, none, (.assign (.const (.bool false)))⟩])
   (.seq
    (.seq
     (.ops [⟨some 6, none, (.move (.tmp 0))⟩,
       ⟨some 7, none, (.call ⟨(.builtin .len), #[(.tmp 6)], #[58]⟩)⟩,
       ⟨some 8, none, (.move (.tmp 1))⟩,
       ⟨some 9, none, (.call ⟨(.builtin .len), #[(.tmp 8)], #[58]⟩)⟩,
       ⟨some 10, none, (.binOp .neq 3 (.tmp 7) (.tmp 9) 3)⟩])
     (.cond (.tmp 10)
      (.seq
       (.ops [⟨some 4, none, (.assign (.const (.bool false)))⟩])
       .ret)
      .skip))
    (.seq
     (.seq
      (.ops [⟨some 5, none, (.assign (.const (.int .i64 0)))⟩])
      (.block 0
       (.loop
        (.seq
         (.seq
          (.ops [⟨some 11, none, (.move (.tmp 5))⟩,
            ⟨some 12, none, (.move (.tmp 0))⟩,
            ⟨some 13, none, (.call ⟨(.builtin .len), #[(.tmp 12)], #[58]⟩)⟩,
            ⟨some 14, none, (.binOp .lss 3 (.tmp 11) (.tmp 13) 3)⟩])
          (.cond (.tmp 14)
           .skip
           (.exit 0)))
         (.seq
          (.block 1
           (.seq
            (.ops [⟨some 17, none, (.move (.tmp 0))⟩,
              ⟨some 18, none, (.move (.tmp 5))⟩,
              ⟨some 19, none, (.indexAddr 58 (.tmp 17) (.tmp 18))⟩,
              ⟨some 20, none, (.load 3 (.tmp 19))⟩,
              ⟨some 21, none, (.move (.tmp 1))⟩,
              ⟨some 22, none, (.move (.tmp 5))⟩,
              ⟨some 23, none, (.indexAddr 58 (.tmp 21) (.tmp 22))⟩,
              ⟨some 24, none, (.load 3 (.tmp 23))⟩,
              ⟨some 25, none, (.binOp .neq 3 (.tmp 20) (.tmp 24) 3)⟩])
            (.cond (.tmp 25)
             (.seq
              (.ops [⟨some 4, none, (.assign (.const (.bool false)))⟩])
              .ret)
             .skip)))
          (.ops [⟨some 15, none, (.move (.tmp 5))⟩,
            ⟨some 16, none, (.binOp .add 3 (.tmp 15) (.const (.int .i64 1)) 3)⟩,
            ⟨some 5, none, (.assign (.tmp 16))⟩]))))))
     (.seq
      (.ops [⟨some 4, none, (.assign (.const (.bool true)))⟩])
      .ret))))
theorem w78 {args : Array Value} {H : AH} {Φ : Value → AH → Prop} (h : rW Try.prog k78 [] (fin Try.prog [(.tmp 4)] Φ) (tm0 args) H) : CallsA Try.prog 78 args H Φ :=
  CallsA.w k78 [(.tmp 4)] (fun i => if i = 6 then [(3, 0), (7, 0)] else []) Try.func78 rfl rfl (by kernel_rfl) (by kernel_rfl) h

/-- laws.eqInstr -/
def k41 : KC :=
  (.seq
   (.ops [⟨some 2, none, (.box 63 (.tmp 0))⟩,
     ⟨some 3, none, (.box 63 (.tmp 1))⟩,
     ⟨some 4, none, (.assign (.const (.bool false)))⟩])
   (.seq
    (.seq
     (.ops [⟨some 5, none, (.fieldAddr 63 (.tmp 2) 0)⟩,
       ⟨some 6, none, (.load 3 (.tmp 5))⟩,
       ⟨some 7, none, (.fieldAddr 63 (.tmp 3) 0)⟩,
       ⟨some 8, none, (.load 3 (.tmp 7))⟩,
       ⟨some 9, none, (.binOp .neq 3 (.tmp 6) (.tmp 8) 3)⟩])
     (.cond (.tmp 9)
      (.seq
       (.ops [⟨some 4, none, (.assign (.const (.bool false)))⟩])
       .ret)
      .skip))
    (.seq
     (.seq
      (.ops [⟨some 10, none, (.fieldAddr 63 (.tmp 2) 1)⟩,
        ⟨some 11, none, (.load 3 (.tmp 10))⟩,
        ⟨some 12, none, (.fieldAddr 63 (.tmp 3) 1)⟩,
        ⟨some 13, none, (.load 3 (.tmp 12))⟩,
        ⟨some 14, none, (.binOp .neq 3 (.tmp 11) (.tmp 13) 3)⟩])
      (.cond (.tmp 14)
       (.seq
        (.ops [⟨some 4, none, (.assign (.const (.bool false)))⟩])
        .ret)
       .skip))
     (.seq
      (.seq
       (.ops [⟨some 15, none, (.fieldAddr 63 (.tmp 2) 2)⟩,
         ⟨some 16, none, (.load 61 (.tmp 15))⟩,
         ⟨some 17, none, (.fieldAddr 63 (.tmp 3) 2)⟩,
         ⟨some 18, none, (.load 61 (.tmp 17))⟩,
         ⟨some 19, none, (.call ⟨(.value (.func 77)), #[(.tmp 16), (.tmp 18)], #[61, 61]⟩)⟩,
         ⟨some 20, none, (.unOp .not 4 (.tmp 19))⟩])
       (.cond (.tmp 20)
        (.seq
         (.ops [⟨some 4, none, (.assign (.const (.bool false)))⟩])
         .ret)
        .skip))
      (.seq
       (.seq
        (.ops [⟨some 21, none, (.fieldAddr 63 (.tmp 2) 3)⟩,
          ⟨some 22, none, (.load 58 (.tmp 21))⟩,
          ⟨some 23, none, (.fieldAddr 63 (.tmp 3) 3)⟩,
          ⟨some 24, none, (.load 58 (.tmp 23))⟩,
          ⟨some 25, none, (.call ⟨(.value (.func 78)), #[(.tmp 22), (.tmp 24)], #[58, 58]⟩)⟩,
          ⟨some 26, none, (.unOp .not 4 (.tmp 25))⟩])
        (.cond (.tmp 26)
         (.seq
          (.ops [⟨some 4, none, (.assign (.const (.bool false)))⟩])
          .ret)
         .skip))
       (.seq
        (.ops [⟨some 4, none, (.assign (.const (.bool true)))⟩])
        .ret))))))
theorem w41 {args : Array Value} {H : AH} {Φ : Value → AH → Prop} (h : rW Try.prog k41 [] (fin Try.prog [(.tmp 4)] Φ) (tm0 args) H) : CallsA Try.prog 41 args H Φ :=
  CallsA.w k41 [(.tmp 4)] (fun _ => []) Try.func41 rfl rfl (by kernel_rfl) (by kernel_rfl) h

/-- laws.eqInstrS -/
def k13 : KC :=
  (.seq
   (.ops [⟨some 4, none, (.assign (.const (.bool false)))⟩])
   (.seq
    (.seq
     (.ops [⟨some 6, none, (.move (.tmp 0))⟩,
       ⟨some 7, none, (.call ⟨(.builtin .len), #[(.tmp 6)], #[27]⟩)⟩,
       ⟨some 8, none, (.move (.tmp 1))⟩,
       ⟨some 9, none, (.call ⟨(.builtin .len), #[(.tmp 8)], #[27]⟩)⟩,
       ⟨some 10, none, (.binOp .neq 3 (.tmp 7) (.tmp 9) 3)⟩])
     (.cond (.tmp 10)
      (.seq
       (.ops [⟨some 4, none, (.assign (.const (.bool false)))⟩])
       .ret)
      .skip))
    (.seq
     (.seq
      (.ops [⟨some 5, none, (.assign (.const (.int .i64 0)))⟩])
      (.block 0
       (.loop
        (.seq
         (.seq
          (.ops [⟨some 11, none, (.move (.tmp 5))⟩,
            ⟨some 12, none, (.move (.tmp 0))⟩,
            ⟨some 13, none, (.call ⟨(.builtin .len), #[(.tmp 12)], #[27]⟩)⟩,
            ⟨some 14, none, (.binOp .lss 3 (.tmp 11) (.tmp 13) 3)⟩])
          (.cond (.tmp 14)
           .skip
           (.exit 0)))
         (.seq
          (.block 1
           (.seq
            (.draw #[] [(3, 0), (7, 0)]
              [⟨some 17, none, (.move (.tmp 0))⟩,
              ⟨some 18, none, (.move (.tmp 5))⟩,
              ⟨some 19, none, (.indexAddr 27 (.tmp 17) (.tmp 18))⟩,
              ⟨some 20, none, (.load 63 (.tmp 19))⟩,
              ⟨some 21, none, (.move (.tmp 1))⟩,
              ⟨some 22, none, (.move (.tmp 5))⟩,
              ⟨some 23, none, (.indexAddr 27 (.tmp 21) (.tmp 22))⟩,
              ⟨some 24, none, (.load 63 (.tmp 23))⟩,
              ⟨some 25, none, (.call ⟨(.value (.func 41)), #[(.tmp 20), (.tmp 24)], #[63, 63]⟩)⟩,
              ⟨some 26, none, (.unOp .not 4 (.tmp 25))⟩])
            (.cond (.tmp 26)
             (.seq
              (.ops [⟨some 4, none, (.assign (.const (.bool false)))⟩])
              .ret)
             .skip)))
          (.ops [⟨some 15, none, (.move (.tmp 5))⟩,
            ⟨some 16, none, (.binOp .add 3 (.tmp 15) (.const (.int .i64 1)) 3)⟩,
            ⟨some 5, none, (.assign (.tmp 16))⟩]))))))
     (.seq
      (.ops [⟨some 4, none, (.assign (.const (.bool true)))⟩])
      .ret))))
theorem w13 {args : Array Value} {H : AH} {Φ : Value → AH → Prop} (h : rW Try.prog k13 [] (fin Try.prog [(.tmp 4)] Φ) (tm0 args) H) : CallsA Try.prog 13 args H Φ :=
  CallsA.w k13 [(.tmp 4)] (fun i => if i = 6 then [(3, 0), (7, 0)] else []) Try.func13 rfl rfl (by kernel_rfl) (by kernel_rfl) h

/-- laws.markIntS -/
def k42 : KC :=
  (.seq
   (.ops [⟨some 4, none, (.assign (.const (.int .i64 0)))⟩])
   (.seq
    (.seq
     (.ops [⟨some 5, none, (.assign (.const (.int .i64 0)))⟩])
     (.block 0
      (.loop
       (.seq
        (.seq
         (.ops [⟨some 6, none, (.move (.tmp 5))⟩,
           ⟨some 7, none, (.move (.tmp 0))⟩,
           ⟨some 8, none, (.call ⟨(.builtin .len), #[(.tmp 7)], #[58]⟩)⟩,
           ⟨some 9, none, (.binOp .lss 3 (.tmp 6) (.tmp 8) 3)⟩])
         (.cond (.tmp 9)
          .skip
          (.exit 0)))
        (.seq
         (.block 1
          (.seq
           (.ops [⟨some 12, none, (.move (.tmp 0))⟩,
             ⟨some 13, none, (.move (.tmp 5))⟩,
             ⟨some 14, none, (.move (.tmp 1))⟩,
             ⟨some 15, none, (.indexAddr 58 (.tmp 12) (.tmp 13))⟩,
             ⟨none, none, (.store 3 (.tmp 15) (.tmp 14))⟩])
           (.ops [⟨some 16, none, (.move (.tmp 1))⟩,
             ⟨some 17, none, (.binOp .add 3 (.tmp 16) (.const (.int .i64 1)) 3)⟩,
             ⟨some 1, none, (.assign (.tmp 17))⟩])))
         (.ops [⟨some 10, none, (.move (.tmp 5))⟩,
           ⟨some 11, none, (.binOp .add 3 (.tmp 10) (.const (.int .i64 1)) 3)⟩,
           ⟨some 5, none, (.assign (.tmp 11))⟩]))))))
    (.seq
     (.ops [⟨some 18, none, (.move (.tmp 1))⟩,
       ⟨some 4, none, (.assign (.tmp 18))⟩])
     .ret)))
theorem w42 {args : Array Value} {H : AH} {Φ : Value → AH → Prop} (h : rW Try.prog k42 [] (fin Try.prog [(.tmp 4)] Φ) (tm0 args) H) : CallsA Try.prog 42 args H Φ :=
  CallsA.w k42 [(.tmp 4)] (fun _ => []) Try.func42 rfl rfl (by kernel_rfl) (by kernel_rfl) h

/-- laws.markInstrS -/
def k14 : KC :=
  (.seq
   (.ops [⟨some 4, none, (.assign (.const (.int .i64 0)))⟩])
   (.seq
    (.seq
     (.ops [⟨some 5, none, (.assign (.const (.int .i64 0)))⟩])
     (.block 0
      (.loop
       (.seq
        (.seq
         (.ops [⟨some 6, none, (.move (.tmp 5))⟩,
           ⟨some 7, none, (.move (.tmp 0))⟩,
           ⟨some 8, none, (.call ⟨(.builtin .len), #[(.tmp 7)], #[27]⟩)⟩,
           ⟨some 9, none, (.binOp .lss 3 (.tmp 6) (.tmp 8) 3)⟩])
         (.cond (.tmp 9)
          .skip
          (.exit 0)))
        (.seq
         (.block 1
          (.seq
           (.ops [⟨some 12, none, (.move (.tmp 0))⟩,
             ⟨some 13, none, (.move (.tmp 5))⟩,
             ⟨some 14, none, (.move (.tmp 1))⟩,
             ⟨some 15, none, (.indexAddr 27 (.tmp 12) (.tmp 13))⟩,
             ⟨some 16, none, (.fieldAddr 63 (.tmp 15) 0)⟩,
             ⟨none, none, (.store 3 (.tmp 16) (.tmp 14))⟩])
           (.seq
            (.ops [⟨some 17, none, (.move (.tmp 1))⟩,
              ⟨some 18, none, (.binOp .add 3 (.tmp 17) (.const (.int .i64 1)) 3)⟩,
              ⟨some 1, none, (.assign (.tmp 18))⟩])
            (.seq
             (.ops [⟨some 19, none, (.move (.tmp 0))⟩,
               ⟨some 20, none, (.move (.tmp 5))⟩,
               ⟨some 21, none, (.move (.tmp 1))⟩,
               ⟨some 22, none, (.indexAddr 27 (.tmp 19) (.tmp 20))⟩,
               ⟨some 23, none, (.fieldAddr 63 (.tmp 22) 1)⟩,
               ⟨none, none, (.store 3 (.tmp 23) (.tmp 21))⟩])
             (.seq
              (.ops [⟨some 24, none, (.move (.tmp 1))⟩,
                ⟨some 25, none, (.binOp .add 3 (.tmp 24) (.const (.int .i64 1)) 3)⟩,
                ⟨some 1, none, (.assign (.tmp 25))⟩])
              (.seq
               (.ops [⟨some 26, none, (.move (.tmp 0))⟩,
                 ⟨some 27, none, (.move (.tmp 5))⟩,
                 ⟨some 28, none, (.move (.tmp 1))⟩,
                 ⟨some 29, none, (.indexAddr 27 (.tmp 26) (.tmp 27))⟩,
                 ⟨some 30, none, (.fieldAddr 63 (.tmp 29) 2)⟩,
                 ⟨some 31, none, (.fieldAddr 61 (.tmp 30) 0)⟩,
                 ⟨none, none, (.store 3 (.tmp 31) (.tmp 28))⟩])
               (.seq
                (.ops [⟨some 32, none, (.move (.tmp 1))⟩,
                  ⟨some 33, none, (.binOp .add 3 (.tmp 32) (.const (.int .i64 1)) 3)⟩,
                  ⟨some 1, none, (.assign (.tmp 33))⟩])
                (.seq
                 (.ops [⟨some 34, none, (.move (.tmp 0))⟩,
                   ⟨some 35, none, (.move (.tmp 5))⟩,
                   ⟨some 36, none, (.move (.tmp 1))⟩,
                   ⟨some 37, none, (.indexAddr 27 (.tmp 34) (.tmp 35))⟩,
                   ⟨some 38, none, (.fieldAddr 63 (.tmp 37) 2)⟩,
                   ⟨some 39, none, (.fieldAddr 61 (.tmp 38) 1)⟩,
                   ⟨none, none, (.store 3 (.tmp 39) (.tmp 36))⟩])
                 (.seq
                  (.ops [⟨some 40, none, (.move (.tmp 1))⟩,
                    ⟨some 41, none, (.binOp .add 3 (.tmp 40) (.const (.int .i64 1)) 3)⟩,
                    ⟨some 1, none, (.assign (.tmp 41))⟩])
                  (.seq
                   (.ops [⟨some 42, none, (.move (.tmp 0))⟩,
                     ⟨some 43, none, (.move (.tmp 5))⟩,
                     ⟨some 44, none, (.move (.tmp 1))⟩,
                     ⟨some 45, none, (.indexAddr 27 (.tmp 42) (.tmp 43))⟩,
                     ⟨some 46, none, (.fieldAddr 63 (.tmp 45) 2)⟩,
                     ⟨some 47, none, (.fieldAddr 61 (.tmp 46) 2)⟩,
                     ⟨none, none, (.store 3 (.tmp 47) (.tmp 44))⟩])
                   (.seq
                    (.ops [⟨some 48, none, (.move (.tmp 1))⟩,
                      ⟨some 49, none, (.binOp .add 3 (.tmp 48) (.const (.int .i64 1)) 3)⟩,
                      ⟨some 1, none, (.assign (.tmp 49))⟩])
                    (.ops [⟨some 50, none, (.move (.tmp 0))⟩,
                      ⟨some 51, none, (.move (.tmp 5))⟩,
                      ⟨some 52, none, (.indexAddr 27 (.tmp 50) (.tmp 51))⟩,
                      ⟨some 53, none, (.fieldAddr 63 (.tmp 52) 3)⟩,
                      ⟨some 54, none, (.load 58 (.tmp 53))⟩,
                      ⟨some 55, none, (.move (.tmp 1))⟩,
                      ⟨some 56, none, (.call ⟨(.value (.func 42)), #[(.tmp 54), (.tmp 55)], #[58, 3]⟩)⟩,
                      ⟨some 1, none, (.assign (.tmp 56))⟩]))))))))))))
         (.ops [⟨some 10, none, (.move (.tmp 5))⟩,
           ⟨some 11, none, (.binOp .add 3 (.tmp 10) (.const (.int .i64 1)) 3)⟩,
           ⟨some 5, none, (.assign (.tmp 11))⟩]))))))
    (.seq
     (.ops [⟨some 57, none, (.move (.tmp 1))⟩,
       ⟨some 4, none, (.assign (.tmp 57))⟩])
     .ret)))
theorem w14 {args : Array Value} {H : AH} {Φ : Value → AH → Prop} (h : rW Try.prog k14 [] (fin Try.prog [(.tmp 4)] Φ) (tm0 args) H) : CallsA Try.prog 14 args H Φ :=
  CallsA.w k14 [(.tmp 4)] (fun _ => []) Try.func14 rfl rfl (by kernel_rfl) (by kernel_rfl) h

/-- laws.heldIntS -/
def k47 : KC :=
  (.seq
   (.ops [⟨some 4, none, (.assign (.const (.int .i64 0)))⟩])
   (.seq
    (.seq
     (.ops [⟨some 5, none, (.assign (.const (.int .i64 0)))⟩])
     (.block 0
      (.loop
       (.seq
        (.seq
         (.ops [⟨some 6, none, (.move (.tmp 5))⟩,
           ⟨some 7, none, (.move (.tmp 0))⟩,
           ⟨some 8, none, (.call ⟨(.builtin .len), #[(.tmp 7)], #[58]⟩)⟩,
           ⟨some 9, none, (.binOp .lss 3 (.tmp 6) (.tmp 8) 3)⟩])
         (.cond (.tmp 9)
          .skip
          (.exit 0)))
        (.seq
         (.block 1
          (.seq
           (.seq
            (.ops [⟨some 12, none, (.move (.tmp 0))⟩,
              ⟨some 13, none, (.move (.tmp 5))⟩,
              ⟨some 14, none, (.indexAddr 58 (.tmp 12) (.tmp 13))⟩,
              ⟨some 15, none, (.load 3 (.tmp 14))⟩,
              ⟨some 16, none, (.move (.tmp 1))⟩,
              ⟨some 17, none, (.binOp .neq 3 (.tmp 15) (.tmp 16) 3)⟩])
            (.cond (.tmp 17)
             (.seq
              (.ops [⟨some 4, none, (.assign (.const (.int .i64 (-1))))⟩])
              .ret)
             .skip))
           (.ops [⟨some 18, none, (.move (.tmp 1))⟩,
             ⟨some 19, none, (.binOp .add 3 (.tmp 18) (.const (.int .i64 1)) 3)⟩,
             ⟨some 1, none, (.assign (.tmp 19))⟩])))
         (.ops [⟨some 10, none, (.move (.tmp 5))⟩,
           ⟨some 11, none, (.binOp .add 3 (.tmp 10) (.const (.int .i64 1)) 3)⟩,
           ⟨some 5, none, (.assign (.tmp 11))⟩]))))))
    (.seq
     (.ops [⟨some 20, none, (.move (.tmp 1))⟩,
       ⟨some 4, none, (.assign (.tmp 20))⟩])
     .ret)))
theorem w47 {args : Array Value} {H : AH} {Φ : Value → AH → Prop} (h : rW Try.prog k47 [] (fin Try.prog [(.tmp 4)] Φ) (tm0 args) H) : CallsA Try.prog 47 args H Φ :=
  CallsA.w k47 [(.tmp 4)] (fun _ => []) Try.func47 rfl rfl (by kernel_rfl) (by kernel_rfl) h

/-- laws.heldInstrS -/
def k20 : KC :=
  (.seq
   (.ops [⟨some 4, none, (.assign (.const (.int .i64 0)))⟩])
   (.seq
    (.seq
     (.ops [⟨some 5, none, (.assign (.const (.int .i64 0)))⟩])
     (.block 0
      (.loop
       (.seq
        (.seq
         (.ops [⟨some 6, none, (.move (.tmp 5))⟩,
           ⟨some 7, none, (.move (.tmp 0))⟩,
           ⟨some 8, none, (.call ⟨(.builtin .len), #[(.tmp 7)], #[27]⟩)⟩,
           ⟨some 9, none, (.binOp .lss 3 (.tmp 6) (.tmp 8) 3)⟩])
         (.cond (.tmp 9)
          .skip
          (.exit 0)))
        (.seq
         (.block 1
          (.seq
           (.seq
            (.ops [⟨some 12, none, (.move (.tmp 0))⟩,
              ⟨some 13, none, (.move (.tmp 5))⟩,
              ⟨some 14, none, (.indexAddr 27 (.tmp 12) (.tmp 13))⟩,
              ⟨some 15, none, (.fieldAddr 63 (.tmp 14) 0)⟩,
              ⟨some 16, none, (.load 3 (.tmp 15))⟩,
              ⟨some 17, none, (.move (.tmp 1))⟩,
              ⟨some 18, none, (.binOp .neq 3 (.tmp 16) (.tmp 17) 3)⟩])
            (.cond (.tmp 18)
             (.seq
              (.ops [⟨some 4, none, (.assign (.const (.int .i64 (-1))))⟩])
              .ret)
             .skip))
           (.seq
            (.ops [⟨some 19, none, (.move (.tmp 1))⟩,
              ⟨some 20, none, (.binOp .add 3 (.tmp 19) (.const (.int .i64 1)) 3)⟩,
              ⟨some 1, none, (.assign (.tmp 20))⟩])
            (.seq
             (.seq
              (.ops [⟨some 21, none, (.move (.tmp 0))⟩,
                ⟨some 22, none, (.move (.tmp 5))⟩,
                ⟨some 23, none, (.indexAddr 27 (.tmp 21) (.tmp 22))⟩,
                ⟨some 24, none, (.fieldAddr 63 (.tmp 23) 1)⟩,
                ⟨some 25, none, (.load 3 (.tmp 24))⟩,
                ⟨some 26, none, (.move (.tmp 1))⟩,
                ⟨some 27, none, (.binOp .neq 3 (.tmp 25) (.tmp 26) 3)⟩])
              (.cond (.tmp 27)
               (.seq
                (.ops [⟨some 4, none, (.assign (.const (.int .i64 (-1))))⟩])
                .ret)
               .skip))
             (.seq
              (.ops [⟨some 28, none, (.move (.tmp 1))⟩,
                ⟨some 29, none, (.binOp .add 3 (.tmp 28) (.const (.int .i64 1)) 3)⟩,
                ⟨some 1, none, (.assign (.tmp 29))⟩])
              (.seq
               (.seq
                (.ops [⟨some 30, none, (.move (.tmp 0))⟩,
                  ⟨some 31, none, (.move (.tmp 5))⟩,
                  ⟨some 32, none, (.indexAddr 27 (.tmp 30) (.tmp 31))⟩,
                  ⟨some 33, none, (.fieldAddr 63 (.tmp 32) 2)⟩,
                  ⟨some 34, none, (.fieldAddr 61 (.tmp 33) 0)⟩,
                  ⟨some 35, none, (.load 3 (.tmp 34))⟩,
                  ⟨some 36, none, (.move (.tmp 1))⟩,
                  ⟨some 37, none, (.binOp .neq 3 (.tmp 35) (.tmp 36) 3)⟩])
                (.cond (.tmp 37)
                 (.seq
                  (.ops [⟨some 4, none, (.assign (.const (.int .i64 (-1))))⟩])
                  .ret)
                 .skip))
               (.seq
                (.ops [⟨some 38, none, (.move (.tmp 1))⟩,
                  ⟨some 39, none, (.binOp .add 3 (.tmp 38) (.const (.int .i64 1)) 3)⟩,
                  ⟨some 1, none, (.assign (.tmp 39))⟩])
                (.seq
                 (.seq
                  (.ops [⟨some 40, none, (.move (.tmp 0))⟩,
                    ⟨some 41, none, (.move (.tmp 5))⟩,
                    ⟨some 42, none, (.indexAddr 27 (.tmp 40) (.tmp 41))⟩,
                    ⟨some 43, none, (.fieldAddr 63 (.tmp 42) 2)⟩,
                    ⟨some 44, none, (.fieldAddr 61 (.tmp 43) 1)⟩,
                    ⟨some 45, none, (.load 3 (.tmp 44))⟩,
                    ⟨some 46, none, (.move (.tmp 1))⟩,
                    ⟨some 47, none, (.binOp .neq 3 (.tmp 45) (.tmp 46) 3)⟩])
                  (.cond (.tmp 47)
                   (.seq
                    (.ops [⟨some 4, none, (.assign (.const (.int .i64 (-1))))⟩])
                    .ret)
                   .skip))
                 (.seq
                  (.ops [⟨some 48, none, (.move (.tmp 1))⟩,
                    ⟨some 49, none, (.binOp .add 3 (.tmp 48) (.const (.int .i64 1)) 3)⟩,
                    ⟨some 1, none, (.assign (.tmp 49))⟩])
                  (.seq
                   (.seq
                    (.ops [⟨some 50, none, (.move (.tmp 0))⟩,
                      ⟨some 51, none, (.move (.tmp 5))⟩,
                      ⟨some 52, none, (.indexAddr 27 (.tmp 50) (.tmp 51))⟩,
                      ⟨some 53, none, (.fieldAddr 63 (.tmp 52) 2)⟩,
                      ⟨some 54, none, (.fieldAddr 61 (.tmp 53) 2)⟩,
                      ⟨some 55, none, (.load 3 (.tmp 54))⟩,
                      ⟨some 56, none, (.move (.tmp 1))⟩,
                      ⟨some 57, none, (.binOp .neq 3 (.tmp 55) (.tmp 56) 3)⟩])
                    (.cond (.tmp 57)
                     (.seq
                      (.ops [⟨some 4, none, (.assign (.const (.int .i64 (-1))))⟩])
                      .ret)
                     .skip))
                   (.seq
                    (.ops [⟨some 58, none, (.move (.tmp 1))⟩,
                      ⟨some 59, none, (.binOp .add 3 (.tmp 58) (.const (.int .i64 1)) 3)⟩,
                      ⟨some 1, none, (.assign (.tmp 59))⟩])
                    (.seq
                     (.ops [⟨some 60, none, (.move (.tmp 0))⟩,
                       ⟨some 61, none, (.move (.tmp 5))⟩,
                       ⟨some 62, none, (.indexAddr 27 (.tmp 60) (.tmp 61))⟩,
                       ⟨some 63, none, (.fieldAddr 63 (.tmp 62) 3)⟩,
                       ⟨some 64, none, (.load 58 (.tmp 63))⟩,
                       ⟨some 65, none, (.move (.tmp 1))⟩,
                       ⟨some 66, none, (.call ⟨(.value (.func 47)), #[(.tmp 64), (.tmp 65)], #[58, 3]⟩)⟩,
                       ⟨some 1, none, (.assign (.tmp 66))⟩])
                     (.seq
                      (.ops [⟨some 67, none, (.move (.tmp 1))⟩,
                        ⟨some 68, none, (.binOp .lss 3 (.tmp 67) (.const (.int .i64 0)) 3)⟩])
                      (.cond (.tmp 68)
                       (.seq
                        (.ops [⟨some 4, none, (.assign (.const (.int .i64 (-1))))⟩])
                        .ret)
                       .skip))))))))))))))
         (.ops [⟨some 10, none, (.move (.tmp 5))⟩,
           ⟨some 11, none, (.binOp .add 3 (.tmp 10) (.const (.int .i64 1)) 3)⟩,
           ⟨some 5, none, (.assign (.tmp 11))⟩]))))))
    (.seq
     (.ops [⟨some 69, none, (.move (.tmp 1))⟩,
       ⟨some 4, none, (.assign (.tmp 69))⟩])
     .ret)))
theorem w20 {args : Array Value} {H : AH} {Φ : Value → AH → Prop} (h : rW Try.prog k20 [] (fin Try.prog [(.tmp 4)] Φ) (tm0 args) H) : CallsA Try.prog 20 args H Φ :=
  CallsA.w k20 [(.tmp 4)] (fun _ => []) Try.func20 rfl rfl (by kernel_rfl) (by kernel_rfl) h

/-- laws.szIntS -/
def k74 : KC :=
  (.seq
   (.ops [⟨some 4, none, (.assign (.const (.int .i64 0)))⟩])
   (.seq
    (.ops [⟨some 5, none, (.move (.tmp 1))⟩,
      ⟨some 6, none, (.move (.tmp 0))⟩,
      ⟨some 7, none, (.call ⟨(.builtin .len), #[(.tmp 6)], #[58]⟩)⟩,
      ⟨some 8, none, (.binOp .sub 3 (.tmp 5) (.tmp 7) 3)⟩,
      ⟨some 1, none, (.assign (.tmp 8))⟩])
    (.seq
     (.seq
      (.ops [⟨some 9, none, (.move (.tmp 1))⟩,
        ⟨some 10, none, (.binOp .lss 3 (.tmp 9) (.const (.int .i64 0)) 3)⟩])
      (.cond (.tmp 10)
       (.seq
        (.ops [⟨some 4, none, (.assign (.const (.int .i64 (-1))))⟩])
        .ret)
       .skip))
     (.seq
      (.ops [⟨some 11, none, (.move (.tmp 1))⟩,
        ⟨some 4, none, (.assign (.tmp 11))⟩])
      .ret))))
theorem w74 {args : Array Value} {H : AH} {Φ : Value → AH → Prop} (h : rW Try.prog k74 [] (fin Try.prog [(.tmp 4)] Φ) (tm0 args) H) : CallsA Try.prog 74 args H Φ :=
  CallsA.w k74 [(.tmp 4)] (fun _ => []) Try.func74 rfl rfl (by kernel_rfl) (by kernel_rfl) h

/-- laws.szExpr -/
def k79 : KC :=
  (.seq
   (.ops [⟨some 2, none, (.box 106 (.tmp 0))⟩,
     ⟨some 4, none, (.assign (.const (.int .i64 0)))⟩])
   (.seq
    (.ops [⟨some 5, none, (.fieldAddr 106 (.tmp 2) 4)⟩,
      ⟨some 6, none, (.load 58 (.tmp 5))⟩,
      ⟨some 7, none, (.move (.tmp 1))⟩,
      ⟨some 8, none, (.call ⟨(.value (.func 74)), #[(.tmp 6), (.tmp 7)], #[58, 3]⟩)⟩,
      ⟨some 1, none, (.assign (.tmp 8))⟩])
    (.seq
     (.seq
      (.ops [⟨some 9, none, (.move (.tmp 1))⟩,
        ⟨some 10, none, (.binOp .lss 3 (.tmp 9) (.const (.int .i64 0)) 3)⟩])
      (.cond (.tmp 10)
       (.seq
        (.ops [⟨some 4, none, (.assign (.const (.int .i64 (-1))))⟩])
        .ret)
       .skip))
     (.seq
      (.ops [⟨some 11, none, (.move (.tmp 1))⟩,
        ⟨some 4, none, (.assign (.tmp 11))⟩])
      .ret))))
theorem w79 {args : Array Value} {H : AH} {Φ : Value → AH → Prop} (h : rW Try.prog k79 [] (fin Try.prog [(.tmp 4)] Φ) (tm0 args) H) : CallsA Try.prog 79 args H Φ :=
  CallsA.w k79 [(.tmp 4)] (fun _ => []) Try.func79 rfl rfl (by kernel_rfl) (by kernel_rfl) h

/-- laws.szExprS -/
def k48 : KC :=
  (.seq
   (.ops [⟨some 4, none, (.assign (.const (.int .i64 0)))⟩])
   (.seq
    (.ops [⟨some 6, none, (.move (.tmp 1))⟩,
      ⟨some 7, none, (.move (.tmp 0))⟩,
      ⟨some 8, none, (.call ⟨(.builtin .len), #[(.tmp 7)], #[38]⟩)⟩,
      ⟨some 9, none, (.binOp .sub 3 (.tmp 6) (.tmp 8) 3)⟩,
      ⟨some 1, none, (.assign (.tmp 9))⟩])
    (.seq
     (.seq
      (.ops [⟨some 10, none, (.move (.tmp 1))⟩,
        ⟨some 11, none, (.binOp .lss 3 (.tmp 10) (.const (.int .i64 0)) 3)⟩])
      (.cond (.tmp 11)
       (.seq
        (.ops [⟨some 4, none, (.assign (.const (.int .i64 (-1))))⟩])
        .ret)
       .skip))
     (.seq
      (.seq
       (.ops [⟨some 5, none, (.assign (.const (.int .i64 0)))⟩])
       (.block 0
        (.loop
         (.seq
          (.seq
           (.ops [⟨some 12, none, (.move (.tmp 5))⟩,
             ⟨some 13, none, (.move (.tmp 0))⟩,
             ⟨some 14, none, (.call ⟨(.builtin .len), #[(.tmp 13)], #[38]⟩)⟩,
             ⟨some 15, none, (.binOp .lss 3 (.tmp 12) (.tmp 14) 3)⟩])
           (.cond (.tmp 15)
            .skip
            (.exit 0)))
          (.seq
           (.block 1
            (.seq
             (.ops [⟨some 18, none, (.move (.tmp 0))⟩,
               ⟨some 19, none, (.move (.tmp 5))⟩,
               ⟨some 20, none, (.indexAddr 38 (.tmp 18) (.tmp 19))⟩,
               ⟨some 21, none, (.load 106 (.tmp 20))⟩,
               ⟨some 22, none, (.move (.tmp 1))⟩,
               ⟨some 23, none, (.call ⟨(.value (.func 79)), #[(.tmp 21), (.tmp 22)], #[106, 3]⟩)⟩,
               ⟨some 1, none, (.assign (.tmp 23))⟩])
             (.seq
              (.ops [⟨some 24, none, (.move (.tmp 1))⟩,
                ⟨some 25, none, (.binOp .lss 3 (.tmp 24) (.const (.int .i64 0)) 3)⟩])
              (.cond (.tmp 25)
               (.seq
                (.ops [⟨some 4, none, (.assign (.const (.int .i64 (-1))))⟩])
                .ret)
               .skip))))
           (.ops [⟨some 16, none, (.move (.tmp 5))⟩,
             ⟨some 17, none, (.binOp .add 3 (.tmp 16) (.const (.int .i64 1)) 3)⟩,
             ⟨some 5, none, (.assign (.tmp 17))⟩]))))))
      (.seq
       (.ops [⟨some 26, none, (.move (.tmp 1))⟩,
         ⟨some 4, none, (.assign (.tmp 26))⟩])
       .ret)))))
theorem w48 {args : Array Value} {H : AH} {Φ : Value → AH → Prop} (h : rW Try.prog k48 [] (fin Try.prog [(.tmp 4)] Φ) (tm0 args) H) : CallsA Try.prog 48 args H Φ :=
  CallsA.w k48 [(.tmp 4)] (fun _ => []) Try.func48 rfl rfl (by kernel_rfl) (by kernel_rfl) h

/-- laws.szTree -/
def k21 : KC :=
  (.seq
   (.ops [⟨some 2, none, (.box 40 (.tmp 0))⟩,
     ⟨some 4, none, (.assign (.const (.int .i64 0)))⟩])
   (.seq
    (.ops [⟨some 5, none, (.fieldAddr 40 (.tmp 2) 0)⟩,
      ⟨some 6, none, (.load 38 (.tmp 5))⟩,
      ⟨some 7, none, (.move (.tmp 1))⟩,
      ⟨some 8, none, (.call ⟨(.value (.func 48)), #[(.tmp 6), (.tmp 7)], #[38, 3]⟩)⟩,
      ⟨some 1, none, (.assign (.tmp 8))⟩])
    (.seq
     (.seq
      (.ops [⟨some 9, none, (.move (.tmp 1))⟩,
        ⟨some 10, none, (.binOp .lss 3 (.tmp 9) (.const (.int .i64 0)) 3)⟩])
      (.cond (.tmp 10)
       (.seq
        (.ops [⟨some 4, none, (.assign (.const (.int .i64 (-1))))⟩])
        .ret)
       .skip))
     (.seq
      (.ops [⟨some 11, none, (.move (.tmp 1))⟩,
        ⟨some 4, none, (.assign (.tmp 11))⟩])
      .ret))))
theorem w21 {args : Array Value} {H : AH} {Φ : Value → AH → Prop} (h : rW Try.prog k21 [] (fin Try.prog [(.tmp 4)] Φ) (tm0 args) H) : CallsA Try.prog 21 args H Φ :=
  CallsA.w k21 [(.tmp 4)] (fun _ => []) Try.func21 rfl rfl (by kernel_rfl) (by kernel_rfl) h

/-- spec.l1In -/
def k54 : KC :=
  (.seq
   (.ops [⟨some 6, none, (.assign (.const (.bool false)))⟩])
   (.seq
    (.ops [⟨some 7, none, (.move (.tmp 0))⟩,
      ⟨some 8, none, (.move (.tmp 1))⟩,
      ⟨some 9, none, (.binOp .geq 3 (.tmp 7) (.tmp 8) 3)⟩,
      ⟨some 10, none, (.move (.tmp 9))⟩,
      ⟨some 11, (some (10, true)), (.move (.tmp 0))⟩,
      ⟨some 12, (some (10, true)), (.move (.tmp 2))⟩,
      ⟨some 13, (some (10, true)), (.binOp .leq 3 (.tmp 11) (.tmp 12) 3)⟩,
      ⟨some 14, none, (.pick (.tmp 10) (.tmp 13) (.const (.bool false)))⟩,
      ⟨some 6, none, (.assign (.tmp 14))⟩])
    .ret))
theorem w54 {args : Array Value} {H : AH} {Φ : Value → AH → Prop} (h : rW Try.prog k54 [] (fin Try.prog [(.tmp 6)] Φ) (tm0 args) H) : CallsA Try.prog 54 args H Φ :=
  CallsA.w k54 [(.tmp 6)] (fun _ => []) Try.func54 rfl rfl (by kernel_rfl) (by kernel_rfl) h

/-- spec.NumOk -/
def k100 : KC :=
  (.seq
   (.ops [⟨some 2, none, (.assign (.const (.bool false)))⟩])
   (.seq
    (.ops [⟨some 3, none, (.move (.tmp 0))⟩,
      ⟨some 4, none, (.call ⟨(.value (.func 54)), #[(.tmp 3), (.const (.int .i64 (-1000000000000))), (.const (.int .i64 1000000000000))], #[3, 3, 3]⟩)⟩,
      ⟨some 2, none, (.assign (.tmp 4))⟩])
    .ret))
theorem w100 {args : Array Value} {H : AH} {Φ : Value → AH → Prop} (h : rW Try.prog k100 [] (fin Try.prog [(.tmp 2)] Φ) (tm0 args) H) : CallsA Try.prog 100 args H Φ :=
  CallsA.w k100 [(.tmp 2)] (fun _ => []) Try.func100 rfl rfl (by kernel_rfl) (by kernel_rfl) h

/-- spec.l9Nums -/
def k84 : KC :=
  (.seq
   (.ops [⟨some 2, none, (.assign (.const (.bool false)))⟩])
   (.seq
    (.seq
     (.ops [⟨some 3, none, (.assign (.const (.int .i64 0)))⟩])
     (.block 0
      (.loop
       (.seq
        (.seq
         (.ops [⟨some 4, none, (.move (.tmp 3))⟩,
           ⟨some 5, none, (.move (.tmp 0))⟩,
           ⟨some 6, none, (.call ⟨(.builtin .len), #[(.tmp 5)], #[58]⟩)⟩,
           ⟨some 7, none, (.binOp .lss 3 (.tmp 4) (.tmp 6) 3)⟩])
         (.cond (.tmp 7)
          .skip
          (.exit 0)))
        (.seq
         (.block 1
          (.seq
           (.ops [⟨some 10, none, (.move (.tmp 0))⟩,
             ⟨some 11, none, (.move (.tmp 3))⟩,
             ⟨some 12, none, (.indexAddr 58 (.tmp 10) (.tmp 11))⟩,
             ⟨some 13, none, (.load 3 (.tmp 12))⟩,
             ⟨some 14, none, (.call ⟨(.value (.func 100)), #[(.tmp 13)], #[3]⟩)⟩,
             ⟨some 15, none, (.unOp .not 4 (.tmp 14))⟩])
           (.cond (.tmp 15)
            (.seq
             (.ops [⟨some 2, none, (.assign (.const (.bool false)))⟩])
             .ret)
            .skip)))
         (.ops [⟨some 8, none, (.move (.tmp 3))⟩,
           ⟨some 9, none, (.binOp .add 3 (.tmp 8) (.const (.int .i64 1)) 3)⟩,
           ⟨some 3, none, (.assign (.tmp 9))⟩]))))))
    (.seq
     (.ops [⟨some 16, none, (.move (.tmp 0))⟩,
       ⟨some 17, none, (.call ⟨(.builtin .len), #[(.tmp 16)], #[58]⟩)⟩,
       ⟨some 18, none, (.call ⟨(.value (.func 54)), #[(.tmp 17), (.const (.int .i64 1)), (.const (.int .i64 300))], #[3, 3, 3]⟩)⟩,
       ⟨some 2, none, (.assign (.tmp 18))⟩])
     .ret)))
theorem w84 {args : Array Value} {H : AH} {Φ : Value → AH → Prop} (h : rW Try.prog k84 [] (fin Try.prog [(.tmp 2)] Φ) (tm0 args) H) : CallsA Try.prog 84 args H Φ :=
  CallsA.w k84 [(.tmp 2)] (fun _ => []) Try.func84 rfl rfl (by kernel_rfl) (by kernel_rfl) h

/-- spec.l1Sign2 -/
def k101 : KC :=
  (.seq
   (.ops [⟨some 2, none, (.assign (.const (.bool false)))⟩])
   (.seq
    (.ops [⟨some 3, none, (.move (.tmp 0))⟩,
      ⟨some 4, none, (.binOp .eql 3 (.tmp 3) (.const (.int .i64 43)) 3)⟩,
      ⟨some 5, none, (.move (.tmp 4))⟩,
      ⟨some 6, (some (5, false)), (.move (.tmp 0))⟩,
      ⟨some 7, (some (5, false)), (.binOp .eql 3 (.tmp 6) (.const (.int .i64 45)) 3)⟩,
      ⟨some 8, none, (.pick (.tmp 5) (.const (.bool true)) (.tmp 7))⟩,
      ⟨some 9, none, (.move (.tmp 8))⟩,
      ⟨some 10, (some (9, false)), (.move (.tmp 0))⟩,
      ⟨some 11, (some (9, false)), (.binOp .eql 3 (.tmp 10) (.const (.int .i64 42)) 3)⟩,
      ⟨some 12, none, (.pick (.tmp 9) (.const (.bool true)) (.tmp 11))⟩,
      ⟨some 13, none, (.move (.tmp 12))⟩,
      ⟨some 14, (some (13, false)), (.move (.tmp 0))⟩,
      ⟨some 15, (some (13, false)), (.binOp .eql 3 (.tmp 14) (.const (.int .i64 37)) 3)⟩,
      ⟨some 16, none, (.pick (.tmp 13) (.const (.bool true)) (.tmp 15))⟩,
      ⟨some 17, none, (.move (.tmp 16))⟩,
      ⟨some 18, (some (17, false)), (.move (.tmp 0))⟩,
      ⟨some 19, (some (17, false)), (.binOp .eql 3 (.tmp 18) (.const (.int .i64 124)) 3)⟩,
      ⟨some 20, none, (.pick (.tmp 17) (.const (.bool true)) (.tmp 19))⟩,
      ⟨some 21, none, (.move (.tmp 20))⟩,
      ⟨some 22, (some (21, false)), (.move (.tmp 0))⟩,
      ⟨some 23, (some (21, false)), (.binOp .eql 3 (.tmp 22) (.const (.int .i64 38)) 3)⟩,
      ⟨some 24, none, (.pick (.tmp 21) (.const (.bool true)) (.tmp 23))⟩,
      ⟨some 25, none, (.move (.tmp 24))⟩,
      ⟨some 26, (some (25, false)), (.move (.tmp 0))⟩,
      ⟨some 27, (some (25, false)), (.binOp .eql 3 (.tmp 26) (.const (.int .i64 94)) 3)⟩,
      ⟨some 28, none, (.pick (.tmp 25) (.const (.bool true)) (.tmp 27))⟩,
      ⟨some 29, none, (.move (.tmp 28))⟩,
      ⟨some 30, (some (29, false)), (.move (.tmp 0))⟩,
      ⟨some 31, (some (29, false)), (.binOp .eql 3 (.tmp 30) (.const (.int .i64 61)) 3)⟩,
      ⟨some 32, none, (.pick (.tmp 29) (.const (.bool true)) (.tmp 31))⟩,
      ⟨some 33, none, (.move (.tmp 32))⟩,
      ⟨some 34, (some (33, false)), (.move (.tmp 0))⟩,
      ⟨some 35, (some (33, false)), (.binOp .eql 3 (.tmp 34) (.const (.int .i64 60)) 3)⟩,
      ⟨some 36, none, (.pick (.tmp 33) (.const (.bool true)) (.tmp 35))⟩,
      ⟨some 37, none, (.move (.tmp 36))⟩,
      ⟨some 38, (some (37, false)), (.move (.tmp 0))⟩,
      ⟨some 39, (some (37, false)), (.binOp .eql 3 (.tmp 38) (.const (.int .i64 62)) 3)⟩,
      ⟨some 40, none, (.pick (.tmp 37) (.const (.bool true)) (.tmp 39))⟩,
      ⟨some 2, none, (.assign (.tmp 40))⟩])
    .ret))
theorem w101 {args : Array Value} {H : AH} {Φ : Value → AH → Prop} (h : rW Try.prog k101 [] (fin Try.prog [(.tmp 2)] Φ) (tm0 args) H) : CallsA Try.prog 101 args H Φ :=
  CallsA.w k101 [(.tmp 2)] (fun _ => []) Try.func101 rfl rfl (by kernel_rfl) (by kernel_rfl) h

/-- spec.l1Sign1 -/
def k102 : KC :=
  (.seq
   (.ops [⟨some 2, none, (.assign (.const (.bool false)))⟩])
   (.seq
    (.ops [⟨some 3, none, (.move (.tmp 0))⟩,
      ⟨some 4, none, (.binOp .eql 3 (.tmp 3) (.const (.int .i64 43)) 3)⟩,
      ⟨some 5, none, (.move (.tmp 4))⟩,
      ⟨some 6, (some (5, false)), (.move (.tmp 0))⟩,
      ⟨some 7, (some (5, false)), (.binOp .eql 3 (.tmp 6) (.const (.int .i64 45)) 3)⟩,
      ⟨some 8, none, (.pick (.tmp 5) (.const (.bool true)) (.tmp 7))⟩,
      ⟨some 9, none, (.move (.tmp 8))⟩,
      ⟨some 10, (some (9, false)), (.move (.tmp 0))⟩,
      ⟨some 11, (some (9, false)), (.binOp .eql 3 (.tmp 10) (.const (.int .i64 42)) 3)⟩,
      ⟨some 12, none, (.pick (.tmp 9) (.const (.bool true)) (.tmp 11))⟩,
      ⟨some 13, none, (.move (.tmp 12))⟩,
      ⟨some 14, (some (13, false)), (.move (.tmp 0))⟩,
      ⟨some 15, (some (13, false)), (.binOp .eql 3 (.tmp 14) (.const (.int .i64 124)) 3)⟩,
      ⟨some 16, none, (.pick (.tmp 13) (.const (.bool true)) (.tmp 15))⟩,
      ⟨some 17, none, (.move (.tmp 16))⟩,
      ⟨some 18, (some (17, false)), (.move (.tmp 0))⟩,
      ⟨some 19, (some (17, false)), (.binOp .eql 3 (.tmp 18) (.const (.int .i64 126)) 3)⟩,
      ⟨some 20, none, (.pick (.tmp 17) (.const (.bool true)) (.tmp 19))⟩,
      ⟨some 2, none, (.assign (.tmp 20))⟩])
    .ret))
theorem w102 {args : Array Value} {H : AH} {Φ : Value → AH → Prop} (h : rW Try.prog k102 [] (fin Try.prog [(.tmp 2)] Φ) (tm0 args) H) : CallsA Try.prog 102 args H Φ :=
  CallsA.w k102 [(.tmp 2)] (fun _ => []) Try.func102 rfl rfl (by kernel_rfl) (by kernel_rfl) h

/-- spec.FunOne -/
def k85 : KC :=
  (.seq
   (.ops [⟨some 1, none, (.box 61 (.tmp 0))⟩,
     ⟨some 2, none, (.assign (.const (.bool false)))⟩])
   (.seq
    (.block 0
     (.seq
      (.ops [⟨some 4, none, (.fieldAddr 61 (.tmp 1) 2)⟩,
        ⟨some 5, none, (.load 3 (.tmp 4))⟩,
        ⟨some 6, none, (.binOp .neq 3 (.tmp 5) (.const (.int .i64 0)) 3)⟩,
        ⟨some 3, none, (.assign (.tmp 6))⟩])
      (.cond (.tmp 3)
       (.seq
        (.ops [⟨some 2, none, (.assign (.const (.bool false)))⟩])
        .ret)
       (.seq
        (.ops [⟨some 8, none, (.fieldAddr 61 (.tmp 1) 1)⟩,
          ⟨some 9, none, (.load 3 (.tmp 8))⟩,
          ⟨some 10, none, (.binOp .eql 3 (.tmp 9) (.const (.int .i64 47)) 3)⟩,
          ⟨some 11, none, (.move (.tmp 10))⟩,
          ⟨some 12, (some (11, false)), (.fieldAddr 61 (.tmp 1) 1)⟩,
          ⟨some 13, (some (11, false)), (.load 3 (.tmp 12))⟩,
          ⟨some 14, (some (11, false)), (.binOp .eql 3 (.tmp 13) (.const (.int .i64 92)) 3)⟩,
          ⟨some 15, none, (.pick (.tmp 11) (.const (.bool true)) (.tmp 14))⟩,
          ⟨some 7, none, (.assign (.tmp 15))⟩])
        (.cond (.tmp 7)
         (.seq
          (.ops [⟨some 16, none, (.fieldAddr 61 (.tmp 1) 0)⟩,
            ⟨some 17, none, (.load 3 (.tmp 16))⟩,
            ⟨some 18, none, (.call ⟨(.value (.func 101)), #[(.tmp 17)], #[3]⟩)⟩,
            ⟨some 2, none, (.assign (.tmp 18))⟩])
          .ret)
         (.seq
          (.ops [⟨some 20, none, (.fieldAddr 61 (.tmp 1) 1)⟩,
            ⟨some 21, none, (.load 3 (.tmp 20))⟩,
            ⟨some 22, none, (.binOp .neq 3 (.tmp 21) (.const (.int .i64 0)) 3)⟩,
            ⟨some 19, none, (.assign (.tmp 22))⟩])
          (.cond (.tmp 19)
           (.seq
            (.ops [⟨some 2, none, (.assign (.const (.bool false)))⟩])
            .ret)
           .skip)))))))
    (.seq
     (.ops [⟨some 23, none, (.fieldAddr 61 (.tmp 1) 0)⟩,
       ⟨some 24, none, (.load 3 (.tmp 23))⟩,
       ⟨some 25, none, (.call ⟨(.value (.func 102)), #[(.tmp 24)], #[3]⟩)⟩,
       ⟨some 26, none, (.move (.tmp 25))⟩,
       ⟨some 27, (some (26, false)), (.fieldAddr 61 (.tmp 1) 0)⟩,
       ⟨some 28, (some (26, false)), (.load 3 (.tmp 27))⟩,
       ⟨some 29, (some (26, false)), (.binOp .eql 3 (.tmp 28) (.const (.int .i64 105)) 3)⟩,
       ⟨some 30, none, (.pick (.tmp 26) (.const (.bool true)) (.tmp 29))⟩,
       ⟨some 31, none, (.move (.tmp 30))⟩,
       ⟨some 32, (some (31, false)), (.fieldAddr 61 (.tmp 1) 0)⟩,
       ⟨some 33, (some (31, false)), (.load 3 (.tmp 32))⟩,
       ⟨some 34, (some (31, false)), (.binOp .eql 3 (.tmp 33) (.const (.int .i64 35)) 3)⟩,
       ⟨some 35, none, (.pick (.tmp 31) (.const (.bool true)) (.tmp 34))⟩,
       ⟨some 36, none, (.move (.tmp 35))⟩,
       ⟨some 37, (some (36, false)), (.fieldAddr 61 (.tmp 1) 0)⟩,
       ⟨some 38, (some (36, false)), (.load 3 (.tmp 37))⟩,
       ⟨some 39, (some (36, false)), (.binOp .eql 3 (.tmp 38) (.const (.int .i64 44)) 3)⟩,
       ⟨some 40, none, (.pick (.tmp 36) (.const (.bool true)) (.tmp 39))⟩,
       ⟨some 41, none, (.move (.tmp 40))⟩,
       ⟨some 42, (some (41, false)), (.fieldAddr 61 (.tmp 1) 0)⟩,
       ⟨some 43, (some (41, false)), (.load 3 (.tmp 42))⟩,
       ⟨some 44, (some (41, false)), (.binOp .eql 3 (.tmp 43) (.const (.int .i64 114)) 3)⟩,
       ⟨some 45, none, (.pick (.tmp 41) (.const (.bool true)) (.tmp 44))⟩,
       ⟨some 46, none, (.move (.tmp 45))⟩,
       ⟨some 47, (some (46, false)), (.fieldAddr 61 (.tmp 1) 0)⟩,
       ⟨some 48, (some (46, false)), (.load 3 (.tmp 47))⟩,
       ⟨some 49, (some (46, false)), (.binOp .eql 3 (.tmp 48) (.const (.int .i64 122)) 3)⟩,
       ⟨some 50, none, (.pick (.tmp 46) (.const (.bool true)) (.tmp 49))⟩,
       ⟨some 51, none, (.move (.tmp 50))⟩,
       ⟨some 52, (some (51, false)), (.fieldAddr 61 (.tmp 1) 0)⟩,
       ⟨some 53, (some (51, false)), (.load 3 (.tmp 52))⟩,
       ⟨some 54, (some (51, false)), (.binOp .eql 3 (.tmp 53) (.const (.int .i64 103)) 3)⟩,
       ⟨some 55, none, (.pick (.tmp 51) (.const (.bool true)) (.tmp 54))⟩,
       ⟨some 2, none, (.assign (.tmp 55))⟩])
     .ret)))
theorem w85 {args : Array Value} {H : AH} {Φ : Value → AH → Prop} (h : rW Try.prog k85 [] (fin Try.prog [(.tmp 2)] Φ) (tm0 args) H) : CallsA Try.prog 85 args H Φ :=
  CallsA.w k85 [(.tmp 2)] (fun _ => []) Try.func85 rfl rfl (by kernel_rfl) (by kernel_rfl) h

/-- spec.FunTwo -/
def k86 : KC :=
  (.seq
   (.ops [⟨some 1, none, (.box 61 (.tmp 0))⟩,
     ⟨some 2, none, (.assign (.const (.bool false)))⟩])
   (.seq
    (.seq
     (.ops [⟨some 3, none, (.fieldAddr 61 (.tmp 1) 1)⟩,
       ⟨some 4, none, (.load 3 (.tmp 3))⟩,
       ⟨some 5, none, (.binOp .eql 3 (.tmp 4) (.const (.int .i64 46)) 3)⟩])
     (.cond (.tmp 5)
      (.seq
       (.ops [⟨some 6, none, (.fieldAddr 61 (.tmp 1) 0)⟩,
         ⟨some 7, none, (.load 3 (.tmp 6))⟩,
         ⟨some 8, none, (.call ⟨(.value (.func 101)), #[(.tmp 7)], #[3]⟩)⟩,
         ⟨some 9, none, (.move (.tmp 8))⟩,
         ⟨some 10, (some (9, true)), (.fieldAddr 61 (.tmp 1) 2)⟩,
         ⟨some 11, (some (9, true)), (.load 3 (.tmp 10))⟩,
         ⟨some 12, (some (9, true)), (.call ⟨(.value (.func 101)), #[(.tmp 11)], #[3]⟩)⟩,
         ⟨some 13, none, (.pick (.tmp 9) (.tmp 12) (.const (.bool false)))⟩,
         ⟨some 2, none, (.assign (.tmp 13))⟩])
       .ret)
      .skip))
    (.seq
     (.block 0
      (.seq
       (.ops [⟨some 15, none, (.fieldAddr 61 (.tmp 1) 2)⟩,
         ⟨some 16, none, (.load 3 (.tmp 15))⟩,
         ⟨some 17, none, (.binOp .neq 3 (.tmp 16) (.const (.int .i64 0)) 3)⟩,
         ⟨some 14, none, (.assign (.tmp 17))⟩])
       (.cond (.tmp 14)
        (.seq
         (.ops [⟨some 2, none, (.assign (.const (.bool false)))⟩])
         .ret)
        (.seq
         (.ops [⟨some 19, none, (.fieldAddr 61 (.tmp 1) 1)⟩,
           ⟨some 20, none, (.load 3 (.tmp 19))⟩,
           ⟨some 21, none, (.binOp .eql 3 (.tmp 20) (.const (.int .i64 111)) 3)⟩,
           ⟨some 18, none, (.assign (.tmp 21))⟩])
         (.cond (.tmp 18)
          (.seq
           (.ops [⟨some 22, none, (.fieldAddr 61 (.tmp 1) 0)⟩,
             ⟨some 23, none, (.load 3 (.tmp 22))⟩,
             ⟨some 24, none, (.call ⟨(.value (.func 101)), #[(.tmp 23)], #[3]⟩)⟩,
             ⟨some 2, none, (.assign (.tmp 24))⟩])
           .ret)
          (.seq
           (.ops [⟨some 26, none, (.fieldAddr 61 (.tmp 1) 1)⟩,
             ⟨some 27, none, (.load 3 (.tmp 26))⟩,
             ⟨some 28, none, (.binOp .neq 3 (.tmp 27) (.const (.int .i64 0)) 3)⟩,
             ⟨some 25, none, (.assign (.tmp 28))⟩])
           (.cond (.tmp 25)
            (.seq
             (.ops [⟨some 2, none, (.assign (.const (.bool false)))⟩])
             .ret)
            .skip)))))))
     (.seq
      (.ops [⟨some 29, none, (.fieldAddr 61 (.tmp 1) 0)⟩,
        ⟨some 30, none, (.load 3 (.tmp 29))⟩,
        ⟨some 31, none, (.call ⟨(.value (.func 101)), #[(.tmp 30)], #[3]⟩)⟩,
        ⟨some 32, none, (.move (.tmp 31))⟩,
        ⟨some 33, (some (32, false)), (.fieldAddr 61 (.tmp 1) 0)⟩,
        ⟨some 34, (some (32, false)), (.load 3 (.tmp 33))⟩,
        ⟨some 35, (some (32, false)), (.binOp .eql 3 (.tmp 34) (.const (.int .i64 35)) 3)⟩,
        ⟨some 36, none, (.pick (.tmp 32) (.const (.bool true)) (.tmp 35))⟩,
        ⟨some 37, none, (.move (.tmp 36))⟩,
        ⟨some 38, (some (37, false)), (.fieldAddr 61 (.tmp 1) 0)⟩,
        ⟨some 39, (some (37, false)), (.load 3 (.tmp 38))⟩,
        ⟨some 40, (some (37, false)), (.binOp .eql 3 (.tmp 39) (.const (.int .i64 44)) 3)⟩,
        ⟨some 41, none, (.pick (.tmp 37) (.const (.bool true)) (.tmp 40))⟩,
        ⟨some 42, none, (.move (.tmp 41))⟩,
        ⟨some 43, (some (42, false)), (.fieldAddr 61 (.tmp 1) 0)⟩,
        ⟨some 44, (some (42, false)), (.load 3 (.tmp 43))⟩,
        ⟨some 45, (some (42, false)), (.binOp .eql 3 (.tmp 44) (.const (.int .i64 116)) 3)⟩,
        ⟨some 46, none, (.pick (.tmp 42) (.const (.bool true)) (.tmp 45))⟩,
        ⟨some 47, none, (.move (.tmp 46))⟩,
        ⟨some 48, (some (47, false)), (.fieldAddr 61 (.tmp 1) 0)⟩,
        ⟨some 49, (some (47, false)), (.load 3 (.tmp 48))⟩,
        ⟨some 50, (some (47, false)), (.binOp .eql 3 (.tmp 49) (.const (.int .i64 100)) 3)⟩,
        ⟨some 51, none, (.pick (.tmp 47) (.const (.bool true)) (.tmp 50))⟩,
        ⟨some 52, none, (.move (.tmp 51))⟩,
        ⟨some 53, (some (52, false)), (.fieldAddr 61 (.tmp 1) 0)⟩,
        ⟨some 54, (some (52, false)), (.load 3 (.tmp 53))⟩,
        ⟨some 55, (some (52, false)), (.binOp .eql 3 (.tmp 54) (.const (.int .i64 114)) 3)⟩,
        ⟨some 56, none, (.pick (.tmp 52) (.const (.bool true)) (.tmp 55))⟩,
        ⟨some 57, none, (.move (.tmp 56))⟩,
        ⟨some 58, (some (57, false)), (.fieldAddr 61 (.tmp 1) 0)⟩,
        ⟨some 59, (some (57, false)), (.load 3 (.tmp 58))⟩,
        ⟨some 60, (some (57, false)), (.binOp .eql 3 (.tmp 59) (.const (.int .i64 64)) 3)⟩,
        ⟨some 61, none, (.pick (.tmp 57) (.const (.bool true)) (.tmp 60))⟩,
        ⟨some 62, none, (.move (.tmp 61))⟩,
        ⟨some 63, (some (62, false)), (.fieldAddr 61 (.tmp 1) 0)⟩,
        ⟨some 64, (some (62, false)), (.load 3 (.tmp 63))⟩,
        ⟨some 65, (some (62, false)), (.binOp .eql 3 (.tmp 64) (.const (.int .i64 63)) 3)⟩,
        ⟨some 66, none, (.pick (.tmp 62) (.const (.bool true)) (.tmp 65))⟩,
        ⟨some 67, none, (.move (.tmp 66))⟩,
        ⟨some 68, (some (67, false)), (.fieldAddr 61 (.tmp 1) 0)⟩,
        ⟨some 69, (some (67, false)), (.load 3 (.tmp 68))⟩,
        ⟨some 70, (some (67, false)), (.binOp .eql 3 (.tmp 69) (.const (.int .i64 36)) 3)⟩,
        ⟨some 71, none, (.pick (.tmp 67) (.const (.bool true)) (.tmp 70))⟩,
        ⟨some 72, none, (.move (.tmp 71))⟩,
        ⟨some 73, (some (72, false)), (.fieldAddr 61 (.tmp 1) 0)⟩,
        ⟨some 74, (some (72, false)), (.load 3 (.tmp 73))⟩,
        ⟨some 75, (some (72, false)), (.binOp .eql 3 (.tmp 74) (.const (.int .i64 101)) 3)⟩,
        ⟨some 76, none, (.pick (.tmp 72) (.const (.bool true)) (.tmp 75))⟩,
        ⟨some 2, none, (.assign (.tmp 76))⟩])
      .ret))))
theorem w86 {args : Array Value} {H : AH} {Φ : Value → AH → Prop} (h : rW Try.prog k86 [] (fin Try.prog [(.tmp 2)] Φ) (tm0 args) H) : CallsA Try.prog 86 args H Φ :=
  CallsA.w k86 [(.tmp 2)] (fun _ => []) Try.func86 rfl rfl (by kernel_rfl) (by kernel_rfl) h

/-- spec.l9Node -/
def k55 : KC :=
  (.seq
   (.ops [⟨some 3, none, (.box 77 (.tmp 0))⟩,
     ⟨some 6, none, (.assign (.const (.int .i64 0)))⟩,
     ⟨some 7, none, (.assign (.const (.bool false)))⟩])
   (.seq
    (.ops [⟨some 9, none, (.build 61 #[])⟩,
      ⟨some 8, none, (.alloc 61)⟩,
      ⟨none, none, (.store 61 (.tmp 8) (.tmp 9))⟩])
    (.seq
     (.seq
      (.ops [⟨some 10, none, (.fieldAddr 77 (.tmp 3) 0)⟩,
        ⟨some 11, none, (.load 3 (.tmp 10))⟩])
      (.block 0
       (.seq
        (.ops [⟨some 13, none, (.binOp .eql 3 (.tmp 11) (.const (.int .i64 1)) 3)⟩,
          ⟨some 12, none, (.assign (.tmp 13))⟩])
        (.cond (.tmp 12)
         (.seq
          (.ops [⟨some 14, none, (.fieldAddr 77 (.tmp 3) 1)⟩,
            ⟨some 15, none, (.load 3 (.tmp 14))⟩,
            ⟨some 16, none, (.binOp .eql 3 (.tmp 15) (.const (.int .i64 0)) 3)⟩,
            ⟨some 17, none, (.move (.tmp 16))⟩,
            ⟨some 18, (some (17, true)), (.fieldAddr 77 (.tmp 3) 2)⟩,
            ⟨some 19, (some (17, true)), (.load 3 (.tmp 18))⟩,
            ⟨some 20, (some (17, true)), (.binOp .eql 3 (.tmp 19) (.const (.int .i64 0)) 3)⟩,
            ⟨some 21, none, (.pick (.tmp 17) (.tmp 20) (.const (.bool false)))⟩,
            ⟨some 22, none, (.move (.tmp 21))⟩,
            ⟨some 23, (some (22, true)), (.fieldAddr 77 (.tmp 3) 3)⟩,
            ⟨some 24, (some (22, true)), (.load 61 (.tmp 23))⟩,
            ⟨some 25, (some (22, true)), (.load 61 (.tmp 8))⟩,
            ⟨some 26, (some (22, true)), (.binOp .eql 61 (.tmp 24) (.tmp 25) 61)⟩,
            ⟨some 27, none, (.pick (.tmp 22) (.tmp 26) (.const (.bool false)))⟩,
            ⟨some 28, none, (.move (.tmp 27))⟩,
            ⟨some 29, (some (28, true)), (.fieldAddr 77 (.tmp 3) 4)⟩,
            ⟨some 30, (some (28, true)), (.load 58 (.tmp 29))⟩,
            ⟨some 31, (some (28, true)), (.call ⟨(.value (.func 84)), #[(.tmp 30)], #[58]⟩)⟩,
            ⟨some 32, none, (.pick (.tmp 28) (.tmp 31) (.const (.bool false)))⟩,
            ⟨some 6, none, (.assign (.const (.int .i64 1)))⟩,
            ⟨some 7, none, (.assign (.tmp 32))⟩])
          .ret)
         (.seq
          (.ops [⟨some 34, none, (.binOp .eql 3 (.tmp 11) (.const (.int .i64 2)) 3)⟩,
            ⟨some 33, none, (.assign (.tmp 34))⟩])
          (.cond (.tmp 33)
           (.seq
            (.draw #[] [(1, 0), (5, 3), (10, 3), (11, 3), (16, 3)]
              [⟨some 35, none, (.fieldAddr 77 (.tmp 3) 1)⟩,
              ⟨some 36, none, (.load 3 (.tmp 35))⟩,
              ⟨some 37, none, (.call ⟨(.value (.func 54)), #[(.tmp 36), (.const (.int .i64 0)), (.const (.int .i64 25))], #[3, 3, 3]⟩)⟩,
              ⟨some 38, none, (.move (.tmp 37))⟩,
              ⟨some 39, (some (38, true)), (.fieldAddr 77 (.tmp 3) 2)⟩,
              ⟨some 40, (some (38, true)), (.load 3 (.tmp 39))⟩,
              ⟨some 41, (some (38, true)), (.binOp .eql 3 (.tmp 40) (.const (.int .i64 0)) 3)⟩,
              ⟨some 42, none, (.pick (.tmp 38) (.tmp 41) (.const (.bool false)))⟩,
              ⟨some 43, none, (.move (.tmp 42))⟩,
              ⟨some 44, (some (43, true)), (.fieldAddr 77 (.tmp 3) 3)⟩,
              ⟨some 45, (some (43, true)), (.load 61 (.tmp 44))⟩,
              ⟨some 46, (some (43, true)), (.load 61 (.tmp 8))⟩,
              ⟨some 47, (some (43, true)), (.binOp .eql 61 (.tmp 45) (.tmp 46) 61)⟩,
              ⟨some 48, none, (.pick (.tmp 43) (.tmp 47) (.const (.bool false)))⟩,
              ⟨some 49, none, (.move (.tmp 48))⟩,
              ⟨some 50, (some (49, true)), (.fieldAddr 77 (.tmp 3) 4)⟩,
              ⟨some 51, (some (49, true)), (.load 58 (.tmp 50))⟩,
              ⟨some 52, (some (49, true)), (.call ⟨(.builtin .len), #[(.tmp 51)], #[58]⟩)⟩,
              ⟨some 53, (some (49, true)), (.binOp .eql 3 (.tmp 52) (.const (.int .i64 0)) 3)⟩,
              ⟨some 54, none, (.pick (.tmp 49) (.tmp 53) (.const (.bool false)))⟩,
              ⟨some 6, none, (.assign (.const (.int .i64 1)))⟩,
              ⟨some 7, none, (.assign (.tmp 54))⟩])
            .ret)
           (.seq
            (.ops [⟨some 56, none, (.binOp .eql 3 (.tmp 11) (.const (.int .i64 3)) 3)⟩,
              ⟨some 55, none, (.assign (.tmp 56))⟩])
            (.cond (.tmp 55)
             (.seq
              (.seq
               (.ops [⟨some 57, none, (.move (.tmp 1))⟩,
                 ⟨some 58, none, (.binOp .lss 3 (.tmp 57) (.const (.int .i64 1)) 3)⟩,
                 ⟨some 59, none, (.move (.tmp 58))⟩,
                 ⟨some 60, (some (59, false)), (.fieldAddr 77 (.tmp 3) 2)⟩,
                 ⟨some 61, (some (59, false)), (.load 3 (.tmp 60))⟩,
                 ⟨some 62, (some (59, false)), (.move (.tmp 1))⟩,
                 ⟨some 63, (some (59, false)), (.binOp .sub 3 (.tmp 62) (.const (.int .i64 1)) 3)⟩,
                 ⟨some 64, (some (59, false)), (.binOp .neq 3 (.tmp 61) (.tmp 63) 3)⟩,
                 ⟨some 65, none, (.pick (.tmp 59) (.const (.bool true)) (.tmp 64))⟩])
               (.cond (.tmp 65)
                (.seq
                 (.ops [⟨some 6, none, (.assign (.const (.int .i64 0)))⟩,
                   ⟨some 7, none, (.assign (.const (.bool false)))⟩])
                 .ret)
                .skip))
              (.seq
               (.draw #[] [(4, 0), (4, 9), (7, 0), (11, 9), (12, 9), (17, 9)]
                 [⟨some 66, none, (.move (.tmp 2))⟩,
                 ⟨some 67, none, (.move (.tmp 1))⟩,
                 ⟨some 68, none, (.binOp .sub 3 (.tmp 67) (.const (.int .i64 1)) 3)⟩,
                 ⟨some 69, none, (.indexAddr 58 (.tmp 66) (.tmp 68))⟩,
                 ⟨some 70, none, (.load 3 (.tmp 69))⟩,
                 ⟨some 71, none, (.binOp .add 3 (.tmp 70) (.const (.int .i64 1)) 3)⟩,
                 ⟨some 72, none, (.fieldAddr 77 (.tmp 3) 1)⟩,
                 ⟨some 73, none, (.load 3 (.tmp 72))⟩,
                 ⟨some 74, none, (.call ⟨(.value (.func 54)), #[(.tmp 73), (.const (.int .i64 0)), (.const (.int .i64 25))], #[3, 3, 3]⟩)⟩,
                 ⟨some 75, none, (.move (.tmp 74))⟩,
                 ⟨some 76, (some (75, true)), (.fieldAddr 77 (.tmp 3) 3)⟩,
                 ⟨some 77, (some (75, true)), (.load 61 (.tmp 76))⟩,
                 ⟨some 78, (some (75, true)), (.load 61 (.tmp 8))⟩,
                 ⟨some 79, (some (75, true)), (.binOp .eql 61 (.tmp 77) (.tmp 78) 61)⟩,
                 ⟨some 80, none, (.pick (.tmp 75) (.tmp 79) (.const (.bool false)))⟩,
                 ⟨some 81, none, (.move (.tmp 80))⟩,
                 ⟨some 82, (some (81, true)), (.fieldAddr 77 (.tmp 3) 4)⟩,
                 ⟨some 83, (some (81, true)), (.load 58 (.tmp 82))⟩,
                 ⟨some 84, (some (81, true)), (.call ⟨(.builtin .len), #[(.tmp 83)], #[58]⟩)⟩,
                 ⟨some 85, (some (81, true)), (.binOp .eql 3 (.tmp 84) (.const (.int .i64 0)) 3)⟩,
                 ⟨some 86, none, (.pick (.tmp 81) (.tmp 85) (.const (.bool false)))⟩,
                 ⟨some 6, none, (.assign (.tmp 71))⟩,
                 ⟨some 7, none, (.assign (.tmp 86))⟩])
               .ret))
             (.seq
              (.ops [⟨some 88, none, (.binOp .eql 3 (.tmp 11) (.const (.int .i64 4)) 3)⟩,
                ⟨some 87, none, (.assign (.tmp 88))⟩])
              (.cond (.tmp 87)
               (.seq
                (.seq
                 (.ops [⟨some 89, none, (.move (.tmp 1))⟩,
                   ⟨some 90, none, (.binOp .lss 3 (.tmp 89) (.const (.int .i64 1)) 3)⟩,
                   ⟨some 91, none, (.move (.tmp 90))⟩,
                   ⟨some 92, (some (91, false)), (.fieldAddr 77 (.tmp 3) 2)⟩,
                   ⟨some 93, (some (91, false)), (.load 3 (.tmp 92))⟩,
                   ⟨some 94, (some (91, false)), (.move (.tmp 1))⟩,
                   ⟨some 95, (some (91, false)), (.binOp .sub 3 (.tmp 94) (.const (.int .i64 1)) 3)⟩,
                   ⟨some 96, (some (91, false)), (.binOp .neq 3 (.tmp 93) (.tmp 95) 3)⟩,
                   ⟨some 97, none, (.pick (.tmp 91) (.const (.bool true)) (.tmp 96))⟩])
                 (.cond (.tmp 97)
                  (.seq
                   (.ops [⟨some 6, none, (.assign (.const (.int .i64 0)))⟩,
                     ⟨some 7, none, (.assign (.const (.bool false)))⟩])
                   .ret)
                  .skip))
                (.seq
                 (.draw #[] [(4, 0), (4, 13), (7, 0), (11, 0), (16, 13)]
                   [⟨some 98, none, (.move (.tmp 2))⟩,
                   ⟨some 99, none, (.move (.tmp 1))⟩,
                   ⟨some 100, none, (.binOp .sub 3 (.tmp 99) (.const (.int .i64 1)) 3)⟩,
                   ⟨some 101, none, (.indexAddr 58 (.tmp 98) (.tmp 100))⟩,
                   ⟨some 102, none, (.load 3 (.tmp 101))⟩,
                   ⟨some 103, none, (.binOp .add 3 (.tmp 102) (.const (.int .i64 1)) 3)⟩,
                   ⟨some 104, none, (.fieldAddr 77 (.tmp 3) 1)⟩,
                   ⟨some 105, none, (.load 3 (.tmp 104))⟩,
                   ⟨some 106, none, (.binOp .eql 3 (.tmp 105) (.const (.int .i64 0)) 3)⟩,
                   ⟨some 107, none, (.move (.tmp 106))⟩,
                   ⟨some 108, (some (107, true)), (.fieldAddr 77 (.tmp 3) 3)⟩,
                   ⟨some 109, (some (107, true)), (.load 61 (.tmp 108))⟩,
                   ⟨some 110, (some (107, true)), (.call ⟨(.value (.func 85)), #[(.tmp 109)], #[61]⟩)⟩,
                   ⟨some 111, none, (.pick (.tmp 107) (.tmp 110) (.const (.bool false)))⟩,
                   ⟨some 112, none, (.move (.tmp 111))⟩,
                   ⟨some 113, (some (112, true)), (.fieldAddr 77 (.tmp 3) 4)⟩,
                   ⟨some 114, (some (112, true)), (.load 58 (.tmp 113))⟩,
                   ⟨some 115, (some (112, true)), (.call ⟨(.builtin .len), #[(.tmp 114)], #[58]⟩)⟩,
                   ⟨some 116, (some (112, true)), (.binOp .eql 3 (.tmp 115) (.const (.int .i64 0)) 3)⟩,
                   ⟨some 117, none, (.pick (.tmp 112) (.tmp 116) (.const (.bool false)))⟩,
                   ⟨some 6, none, (.assign (.tmp 103))⟩,
                   ⟨some 7, none, (.assign (.tmp 117))⟩])
                 .ret))
               (.seq
                (.ops [⟨some 119, none, (.binOp .eql 3 (.tmp 11) (.const (.int .i64 5)) 3)⟩,
                  ⟨some 118, none, (.assign (.tmp 119))⟩])
                (.cond (.tmp 118)
                 (.seq
                  (.seq
                   (.ops [⟨some 120, none, (.move (.tmp 1))⟩,
                     ⟨some 121, none, (.binOp .lss 3 (.tmp 120) (.const (.int .i64 2)) 3)⟩,
                     ⟨some 122, none, (.move (.tmp 121))⟩,
                     ⟨some 123, (some (122, false)), (.fieldAddr 77 (.tmp 3) 1)⟩,
                     ⟨some 124, (some (122, false)), (.load 3 (.tmp 123))⟩,
                     ⟨some 125, (some (122, false)), (.move (.tmp 1))⟩,
                     ⟨some 126, (some (122, false)), (.binOp .sub 3 (.tmp 125) (.const (.int .i64 1)) 3)⟩,
                     ⟨some 127, (some (122, false)), (.binOp .neq 3 (.tmp 124) (.tmp 126) 3)⟩,
                     ⟨some 128, none, (.pick (.tmp 122) (.const (.bool true)) (.tmp 127))⟩,
                     ⟨some 129, none, (.move (.tmp 128))⟩,
                     ⟨some 130, (some (129, false)), (.fieldAddr 77 (.tmp 3) 2)⟩,
                     ⟨some 131, (some (129, false)), (.load 3 (.tmp 130))⟩,
                     ⟨some 132, (some (129, false)), (.move (.tmp 1))⟩,
                     ⟨some 133, (some (129, false)), (.binOp .sub 3 (.tmp 132) (.const (.int .i64 1)) 3)⟩,
                     ⟨some 134, (some (129, false)), (.move (.tmp 2))⟩,
                     ⟨some 135, (some (129, false)), (.move (.tmp 1))⟩,
                     ⟨some 136, (some (129, false)), (.binOp .sub 3 (.tmp 135) (.const (.int .i64 1)) 3)⟩,
                     ⟨some 137, (some (129, false)), (.indexAddr 58 (.tmp 134) (.tmp 136))⟩,
                     ⟨some 138, (some (129, false)), (.load 3 (.tmp 137))⟩,
                     ⟨some 139, (some (129, false)), (.binOp .sub 3 (.tmp 133) (.tmp 138) 3)⟩,
                     ⟨some 140, (some (129, false)), (.binOp .neq 3 (.tmp 131) (.tmp 139) 3)⟩,
                     ⟨some 141, none, (.pick (.tmp 129) (.const (.bool true)) (.tmp 140))⟩,
                     ⟨some 142, none, (.move (.tmp 141))⟩,
                     ⟨some 143, (some (142, false)), (.fieldAddr 77 (.tmp 3) 2)⟩,
                     ⟨some 144, (some (142, false)), (.load 3 (.tmp 143))⟩,
                     ⟨some 145, (some (142, false)), (.binOp .lss 3 (.tmp 144) (.const (.int .i64 0)) 3)⟩,
                     ⟨some 146, none, (.pick (.tmp 142) (.const (.bool true)) (.tmp 145))⟩])
                   (.cond (.tmp 146)
                    (.seq
                     (.ops [⟨some 6, none, (.assign (.const (.int .i64 0)))⟩,
                       ⟨some 7, none, (.assign (.const (.bool false)))⟩])
                     .ret)
                    .skip))
                  (.seq
                   (.draw #[] [(2, 0), (2, 15), (4, 0), (4, 15), (7, 0), (7, 15), (9, 0), (9, 15), (13, 0), (17, 15)]
                     [⟨some 147, none, (.move (.tmp 2))⟩,
                     ⟨some 148, none, (.fieldAddr 77 (.tmp 3) 1)⟩,
                     ⟨some 149, none, (.load 3 (.tmp 148))⟩,
                     ⟨some 150, none, (.indexAddr 58 (.tmp 147) (.tmp 149))⟩,
                     ⟨some 151, none, (.load 3 (.tmp 150))⟩,
                     ⟨some 152, none, (.move (.tmp 2))⟩,
                     ⟨some 153, none, (.fieldAddr 77 (.tmp 3) 2)⟩,
                     ⟨some 154, none, (.load 3 (.tmp 153))⟩,
                     ⟨some 155, none, (.indexAddr 58 (.tmp 152) (.tmp 154))⟩,
                     ⟨some 156, none, (.load 3 (.tmp 155))⟩,
                     ⟨some 157, none, (.binOp .add 3 (.tmp 151) (.tmp 156) 3)⟩,
                     ⟨some 158, none, (.binOp .add 3 (.tmp 157) (.const (.int .i64 1)) 3)⟩,
                     ⟨some 159, none, (.fieldAddr 77 (.tmp 3) 3)⟩,
                     ⟨some 160, none, (.load 61 (.tmp 159))⟩,
                     ⟨some 161, none, (.call ⟨(.value (.func 86)), #[(.tmp 160)], #[61]⟩)⟩,
                     ⟨some 162, none, (.move (.tmp 161))⟩,
                     ⟨some 163, (some (162, true)), (.fieldAddr 77 (.tmp 3) 4)⟩,
                     ⟨some 164, (some (162, true)), (.load 58 (.tmp 163))⟩,
                     ⟨some 165, (some (162, true)), (.call ⟨(.builtin .len), #[(.tmp 164)], #[58]⟩)⟩,
                     ⟨some 166, (some (162, true)), (.binOp .eql 3 (.tmp 165) (.const (.int .i64 0)) 3)⟩,
                     ⟨some 167, none, (.pick (.tmp 162) (.tmp 166) (.const (.bool false)))⟩,
                     ⟨some 6, none, (.assign (.tmp 158))⟩,
                     ⟨some 7, none, (.assign (.tmp 167))⟩])
                   .ret))
                 .skip))))))))))))
     (.seq
      (.ops [⟨some 6, none, (.assign (.const (.int .i64 0)))⟩,
        ⟨some 7, none, (.assign (.const (.bool false)))⟩])
      .ret))))
theorem w55 {args : Array Value} {H : AH} {Φ : Value → AH → Prop} (h : rW Try.prog k55 [] (fin Try.prog [(.tmp 6), (.tmp 7)] Φ) (tm0 args) H) : CallsA Try.prog 55 args H Φ :=
  CallsA.w k55 [(.tmp 6), (.tmp 7)] (fun i => if i = 6 then [(1, 0), (5, 3), (10, 3), (11, 3), (16, 3)] else if i = 10 then [(4, 0), (4, 9), (7, 0), (11, 9), (12, 9), (17, 9)] else if i = 14 then [(4, 0), (4, 13), (7, 0), (11, 0), (16, 13)] else if i = 16 then [(4, 0), (11, 0), (18, 0), (24, 0)] else if i = 18 then [(2, 0), (2, 15), (4, 0), (4, 15), (7, 0), (7, 15), (9, 0), (9, 15), (13, 0), (17, 15)] else []) Try.func55 rfl rfl (by kernel_rfl) (by kernel_rfl) h

/-- spec.TreeOk -/
def k29 : KC :=
  (.seq
   (.ops [⟨some 1, none, (.box 45 (.tmp 0))⟩,
     ⟨some 2, none, (.assign (.const (.bool false)))⟩])
   (.seq
    (.ops [⟨some 8, none, (.fieldAddr 45 (.tmp 1) 0)⟩,
      ⟨some 9, none, (.load 43 (.tmp 8))⟩,
      ⟨some 10, none, (.call ⟨(.builtin .len), #[(.tmp 9)], #[43]⟩)⟩,
      ⟨some 3, none, (.assign (.tmp 10))⟩])
    (.seq
     (.seq
      (.ops [⟨some 11, none, (.move (.tmp 3))⟩,
        ⟨some 12, none, (.call ⟨(.value (.func 54)), #[(.tmp 11), (.const (.int .i64 1)), (.const (.int .i64 60))], #[3, 3, 3]⟩)⟩,
        ⟨some 13, none, (.unOp .not 4 (.tmp 12))⟩])
      (.cond (.tmp 13)
       (.seq
        (.ops [⟨some 2, none, (.assign (.const (.bool false)))⟩])
        .ret)
       .skip))
     (.seq
      (.ops [⟨some 14, none, (.buildSlice 58 0 #[])⟩,
        ⟨some 4, none, (.assign (.tmp 14))⟩])
      (.seq
       (.seq
        (.ops [⟨some 5, none, (.assign (.const (.int .i64 0)))⟩])
        (.block 0
         (.loop
          (.seq
           (.seq
            (.ops [⟨some 15, none, (.move (.tmp 5))⟩,
              ⟨some 16, none, (.move (.tmp 3))⟩,
              ⟨some 17, none, (.binOp .lss 3 (.tmp 15) (.tmp 16) 3)⟩])
            (.cond (.tmp 17)
             .skip
             (.exit 0)))
           (.seq
            (.block 1
             (.seq
              (.ops [⟨some 21, none, (.fieldAddr 45 (.tmp 1) 0)⟩,
                ⟨some 22, none, (.load 43 (.tmp 21))⟩,
                ⟨some 23, none, (.move (.tmp 5))⟩,
                ⟨some 24, none, (.indexAddr 43 (.tmp 22) (.tmp 23))⟩,
                ⟨some 25, none, (.load 77 (.tmp 24))⟩,
                ⟨some 26, none, (.move (.tmp 5))⟩,
                ⟨some 27, none, (.move (.tmp 4))⟩,
                ⟨some 28, none, (.call ⟨(.value (.func 55)), #[(.tmp 25), (.tmp 26), (.tmp 27)], #[77, 3, 58]⟩)⟩,
                ⟨some 20, none, (.move (.tmp 28))⟩,
                ⟨some 29, none, (.extract (.tmp 20) 0)⟩,
                ⟨some 30, none, (.extract (.tmp 20) 1)⟩,
                ⟨some 6, none, (.assign (.tmp 29))⟩,
                ⟨some 7, none, (.assign (.tmp 30))⟩])
              (.seq
               (.seq
                (.ops [⟨some 31, none, (.move (.tmp 7))⟩,
                  ⟨some 32, none, (.unOp .not 4 (.tmp 31))⟩])
                (.cond (.tmp 32)
                 (.seq
                  (.ops [⟨some 2, none, (.assign (.const (.bool false)))⟩])
                  .ret)
                 .skip))
               (.ops [⟨some 33, none, (.move (.tmp 4))⟩,
                 ⟨some 34, none, (.move (.tmp 6))⟩,
                 ⟨some 35, none, (.buildSlice 58 1 #[(0, (.tmp 34))])⟩,
                 ⟨some 36, none, (.call ⟨(.builtin .append), #[(.tmp 33), (.tmp 35)], #[58, 58]⟩)⟩,
                 ⟨some 4, none, (.assign (.tmp 36))⟩]))))
            (.ops [⟨some 18, none, (.move (.tmp 5))⟩,
              ⟨some 19, none, (.binOp .add 3 (.tmp 18) (.const (.int .i64 1)) 3)⟩,
              ⟨some 5, none, (.assign (.tmp 19))⟩]))))))
       (.seq
        (.ops [⟨some 37, none, (.move (.tmp 4))⟩,
          ⟨some 38, none, (.move (.tmp 3))⟩,
          ⟨some 39, none, (.binOp .sub 3 (.tmp 38) (.const (.int .i64 1)) 3)⟩,
          ⟨some 40, none, (.indexAddr 58 (.tmp 37) (.tmp 39))⟩,
          ⟨some 41, none, (.load 3 (.tmp 40))⟩,
          ⟨some 42, none, (.move (.tmp 3))⟩,
          ⟨some 43, none, (.binOp .eql 3 (.tmp 41) (.tmp 42) 3)⟩,
          ⟨some 2, none, (.assign (.tmp 43))⟩])
        .ret))))))
theorem w29 {args : Array Value} {H : AH} {Φ : Value → AH → Prop} (h : rW Try.prog k29 [] (fin Try.prog [(.tmp 2)] Φ) (tm0 args) H) : CallsA Try.prog 29 args H Φ :=
  CallsA.w k29 [(.tmp 2)] (fun _ => []) Try.func29 rfl rfl (by kernel_rfl) (by kernel_rfl) h

/-- spec.Compile -/
def k22 : KC :=
  (.seq
   (.ops [⟨some 1, none, (.box 45 (.tmp 0))⟩,
     ⟨some 2, none, (.assign (.const (.slice none 0 0)))⟩,
     ⟨some 3, none, (.assign (.const (.bool false)))⟩])
   (.seq
    (.ops [⟨some 7, none, (.buildSlice 27 0 #[])⟩,
      ⟨some 4, none, (.assign (.tmp 7))⟩])
    (.seq
     (.seq
      (.ops [⟨some 8, none, (.load 45 (.tmp 1))⟩,
        ⟨some 9, none, (.call ⟨(.value (.func 29)), #[(.tmp 8)], #[45]⟩)⟩,
        ⟨some 10, none, (.unOp .not 4 (.tmp 9))⟩])
      (.cond (.tmp 10)
       (.seq
        (.ops [⟨some 11, none, (.move (.tmp 4))⟩,
          ⟨some 2, none, (.assign (.tmp 11))⟩,
          ⟨some 3, none, (.assign (.const (.bool false)))⟩])
        .ret)
       .skip))
     (.seq
      (.seq
       (.ops [⟨some 5, none, (.assign (.const (.int .i64 0)))⟩])
       (.block 0
        (.loop
         (.seq
          (.seq
           (.ops [⟨some 12, none, (.move (.tmp 5))⟩,
             ⟨some 13, none, (.fieldAddr 45 (.tmp 1) 0)⟩,
             ⟨some 14, none, (.load 43 (.tmp 13))⟩,
             ⟨some 15, none, (.call ⟨(.builtin .len), #[(.tmp 14)], #[43]⟩)⟩,
             ⟨some 16, none, (.binOp .lss 3 (.tmp 12) (.tmp 15) 3)⟩])
           (.cond (.tmp 16)
            .skip
            (.exit 0)))
          (.seq
           (.block 1
            (.seq
             (.ops [⟨some 19, none, (.fieldAddr 45 (.tmp 1) 0)⟩,
               ⟨some 20, none, (.load 43 (.tmp 19))⟩,
               ⟨some 21, none, (.move (.tmp 5))⟩,
               ⟨some 22, none, (.indexAddr 43 (.tmp 20) (.tmp 21))⟩,
               ⟨some 23, none, (.load 77 (.tmp 22))⟩,
               ⟨some 6, none, (.alloc 77)⟩,
               ⟨none, none, (.store 77 (.tmp 6) (.tmp 23))⟩])
             (.seq
              (.ops [⟨some 24, none, (.fieldAddr 77 (.tmp 6) 0)⟩,
                ⟨some 25, none, (.load 3 (.tmp 24))⟩])
              (.block 2
               (.seq
                (.ops [⟨some 27, none, (.binOp .eql 3 (.tmp 25) (.const (.int .i64 1)) 3)⟩,
                  ⟨some 26, none, (.assign (.tmp 27))⟩])
                (.cond (.tmp 26)
                 (.ops [⟨some 28, none, (.move (.tmp 4))⟩,
                   ⟨some 29, none, (.buildSlice 58 0 #[])⟩,
                   ⟨some 30, none, (.fieldAddr 77 (.tmp 6) 4)⟩,
                   ⟨some 31, none, (.load 58 (.tmp 30))⟩,
                   ⟨some 32, none, (.call ⟨(.builtin .append), #[(.tmp 29), (.tmp 31)], #[58, 58]⟩)⟩,
                   ⟨some 33, none, (.build 63 #[(0, (.const (.int .i64 1))), (3, (.tmp 32))])⟩,
                   ⟨some 34, none, (.buildSlice 27 1 #[(0, (.tmp 33))])⟩,
                   ⟨some 35, none, (.call ⟨(.builtin .append), #[(.tmp 28), (.tmp 34)], #[27, 27]⟩)⟩,
                   ⟨some 4, none, (.assign (.tmp 35))⟩])
                 (.seq
                  (.ops [⟨some 37, none, (.binOp .eql 3 (.tmp 25) (.const (.int .i64 2)) 3)⟩,
                    ⟨some 36, none, (.assign (.tmp 37))⟩])
                  (.cond (.tmp 36)
                   (.ops [⟨some 38, none, (.move (.tmp 4))⟩,
                     ⟨some 39, none, (.fieldAddr 77 (.tmp 6) 1)⟩,
                     ⟨some 40, none, (.load 3 (.tmp 39))⟩,
                     ⟨some 41, none, (.build 63 #[(0, (.const (.int .i64 2))), (1, (.tmp 40))])⟩,
                     ⟨some 42, none, (.buildSlice 27 1 #[(0, (.tmp 41))])⟩,
                     ⟨some 43, none, (.call ⟨(.builtin .append), #[(.tmp 38), (.tmp 42)], #[27, 27]⟩)⟩,
                     ⟨some 4, none, (.assign (.tmp 43))⟩])
                   (.seq
                    (.ops [⟨some 45, none, (.binOp .eql 3 (.tmp 25) (.const (.int .i64 3)) 3)⟩,
                      ⟨some 44, none, (.assign (.tmp 45))⟩])
                    (.cond (.tmp 44)
                     (.ops [⟨some 46, none, (.move (.tmp 4))⟩,
                       ⟨some 47, none, (.fieldAddr 77 (.tmp 6) 1)⟩,
                       ⟨some 48, none, (.load 3 (.tmp 47))⟩,
                       ⟨some 49, none, (.build 63 #[(0, (.const (.int .i64 3))), (1, (.tmp 48))])⟩,
                       ⟨some 50, none, (.buildSlice 27 1 #[(0, (.tmp 49))])⟩,
                       ⟨some 51, none, (.call ⟨(.builtin .append), #[(.tmp 46), (.tmp 50)], #[27, 27]⟩)⟩,
                       ⟨some 4, none, (.assign (.tmp 51))⟩])
                     (.seq
                      (.ops [⟨some 53, none, (.binOp .eql 3 (.tmp 25) (.const (.int .i64 4)) 3)⟩,
                        ⟨some 52, none, (.assign (.tmp 53))⟩])
                      (.cond (.tmp 52)
                       (.ops [⟨some 54, none, (.move (.tmp 4))⟩,
                         ⟨some 55, none, (.fieldAddr 77 (.tmp 6) 3)⟩,
                         ⟨some 56, none, (.load 61 (.tmp 55))⟩,
                         ⟨some 57, none, (.build 63 #[(0, (.const (.int .i64 4))), (2, (.tmp 56))])⟩,
                         ⟨some 58, none, (.buildSlice 27 1 #[(0, (.tmp 57))])⟩,
                         ⟨some 59, none, (.call ⟨(.builtin .append), #[(.tmp 54), (.tmp 58)], #[27, 27]⟩)⟩,
                         ⟨some 4, none, (.assign (.tmp 59))⟩])
                       (.seq
                        (.ops [⟨some 61, none, (.binOp .eql 3 (.tmp 25) (.const (.int .i64 5)) 3)⟩,
                          ⟨some 60, none, (.assign (.tmp 61))⟩])
                        (.cond (.tmp 60)
                         (.ops [⟨some 62, none, (.move (.tmp 4))⟩,
                           ⟨some 63, none, (.fieldAddr 77 (.tmp 6) 3)⟩,
                           ⟨some 64, none, (.load 61 (.tmp 63))⟩,
                           ⟨some 65, none, (.build 63 #[(0, (.const (.int .i64 5))), (2, (.tmp 64))])⟩,
                           ⟨some 66, none, (.buildSlice 27 1 #[(0, (.tmp 65))])⟩,
                           ⟨some 67, none, (.call ⟨(.builtin .append), #[(.tmp 62), (.tmp 66)], #[27, 27]⟩)⟩,
                           ⟨some 4, none, (.assign (.tmp 67))⟩])
                         .skip))))))))))))))
           (.ops [⟨some 17, none, (.move (.tmp 5))⟩,
             ⟨some 18, none, (.binOp .add 3 (.tmp 17) (.const (.int .i64 1)) 3)⟩,
             ⟨some 5, none, (.assign (.tmp 18))⟩]))))))
      (.seq
       (.ops [⟨some 68, none, (.move (.tmp 4))⟩,
         ⟨some 2, none, (.assign (.tmp 68))⟩,
         ⟨some 3, none, (.assign (.const (.bool true)))⟩])
       .ret)))))
theorem w22 {args : Array Value} {H : AH} {Φ : Value → AH → Prop} (h : rW Try.prog k22 [] (fin Try.prog [(.tmp 2), (.tmp 3)] Φ) (tm0 args) H) : CallsA Try.prog 22 args H Φ :=
  CallsA.w k22 [(.tmp 2), (.tmp 3)] (fun _ => []) Try.func22 rfl rfl (by kernel_rfl) (by kernel_rfl) h

/-- laws.toFun -/
def k75 : KC :=
  (.seq
   (.ops [⟨some 1, none, (.box 57 (.tmp 0))⟩,
     ⟨some 2, none, (.alloc 61)⟩])
   (.seq
    (.ops [⟨some 3, none, (.alloc 61)⟩])
    (.seq
     (.ops [⟨some 4, none, (.fieldAddr 57 (.tmp 1) 0)⟩,
       ⟨some 5, none, (.load 3 (.tmp 4))⟩,
       ⟨some 6, none, (.fieldAddr 61 (.tmp 3) 0)⟩,
       ⟨none, none, (.store 3 (.tmp 6) (.tmp 5))⟩])
     (.seq
      (.ops [⟨some 7, none, (.fieldAddr 57 (.tmp 1) 1)⟩,
        ⟨some 8, none, (.load 3 (.tmp 7))⟩,
        ⟨some 9, none, (.fieldAddr 61 (.tmp 3) 1)⟩,
        ⟨none, none, (.store 3 (.tmp 9) (.tmp 8))⟩])
      (.seq
       (.ops [⟨some 10, none, (.fieldAddr 57 (.tmp 1) 2)⟩,
         ⟨some 11, none, (.load 3 (.tmp 10))⟩,
         ⟨some 12, none, (.fieldAddr 61 (.tmp 3) 2)⟩,
         ⟨none, none, (.store 3 (.tmp 12) (.tmp 11))⟩])
       (.seq
        (.ops [⟨some 13, none, (.load 61 (.tmp 3))⟩,
          ⟨none, none, (.store 61 (.tmp 2) (.tmp 13))⟩])
        .ret))))))
theorem w75 {args : Array Value} {H : AH} {Φ : Value → AH → Prop} (h : rW Try.prog k75 [] (fin Try.prog [(.cell 2 61)] Φ) (tm0 args) H) : CallsA Try.prog 75 args H Φ :=
  CallsA.w k75 [(.cell 2 61)] (fun _ => []) Try.func75 rfl rfl (by kernel_rfl) (by kernel_rfl) h

/-- laws.toIntS -/
def k76 : KC :=
  (.seq
   (.ops [⟨some 2, none, (.assign (.const (.slice none 0 0)))⟩])
   (.seq
    (.ops [⟨some 5, none, (.move (.tmp 0))⟩,
      ⟨some 6, none, (.call ⟨(.builtin .len), #[(.tmp 5)], #[58]⟩)⟩,
      ⟨some 7, none, (.makeSlice 58 (.tmp 6) (.tmp 6))⟩,
      ⟨some 3, none, (.assign (.tmp 7))⟩])
    (.seq
     (.seq
      (.ops [⟨some 4, none, (.assign (.const (.int .i64 0)))⟩])
      (.block 0
       (.loop
        (.seq
         (.seq
          (.ops [⟨some 8, none, (.move (.tmp 4))⟩,
            ⟨some 9, none, (.move (.tmp 0))⟩,
            ⟨some 10, none, (.call ⟨(.builtin .len), #[(.tmp 9)], #[58]⟩)⟩,
            ⟨some 11, none, (.binOp .lss 3 (.tmp 8) (.tmp 10) 3)⟩])
          (.cond (.tmp 11)
           .skip
           (.exit 0)))
         (.seq
          (.block 1
           (.ops [⟨some 14, none, (.move (.tmp 3))⟩,
             ⟨some 15, none, (.move (.tmp 4))⟩,
             ⟨some 16, none, (.move (.tmp 0))⟩,
             ⟨some 17, none, (.move (.tmp 4))⟩,
             ⟨some 18, none, (.indexAddr 58 (.tmp 16) (.tmp 17))⟩,
             ⟨some 19, none, (.load 3 (.tmp 18))⟩,
             ⟨some 20, none, (.indexAddr 58 (.tmp 14) (.tmp 15))⟩,
             ⟨none, none, (.store 3 (.tmp 20) (.tmp 19))⟩]))
          (.ops [⟨some 12, none, (.move (.tmp 4))⟩,
            ⟨some 13, none, (.binOp .add 3 (.tmp 12) (.const (.int .i64 1)) 3)⟩,
            ⟨some 4, none, (.assign (.tmp 13))⟩]))))))
     (.seq
      (.ops [⟨some 21, none, (.move (.tmp 3))⟩,
        ⟨some 2, none, (.assign (.tmp 21))⟩])
      .ret))))
theorem w76 {args : Array Value} {H : AH} {Φ : Value → AH → Prop} (h : rW Try.prog k76 [] (fin Try.prog [(.tmp 2)] Φ) (tm0 args) H) : CallsA Try.prog 76 args H Φ :=
  CallsA.w k76 [(.tmp 2)] (fun _ => []) Try.func76 rfl rfl (by kernel_rfl) (by kernel_rfl) h

/-- laws.toExpr -/
def k80 : KC :=
  (.seq
   (.ops [⟨some 1, none, (.box 106 (.tmp 0))⟩,
     ⟨some 2, none, (.alloc 77)⟩])
   (.seq
    (.ops [⟨some 3, none, (.alloc 77)⟩])
    (.seq
     (.ops [⟨some 4, none, (.fieldAddr 106 (.tmp 1) 0)⟩,
       ⟨some 5, none, (.load 3 (.tmp 4))⟩,
       ⟨some 6, none, (.fieldAddr 77 (.tmp 3) 0)⟩,
       ⟨none, none, (.store 3 (.tmp 6) (.tmp 5))⟩])
     (.seq
      (.ops [⟨some 7, none, (.fieldAddr 106 (.tmp 1) 1)⟩,
        ⟨some 8, none, (.load 3 (.tmp 7))⟩,
        ⟨some 9, none, (.fieldAddr 77 (.tmp 3) 1)⟩,
        ⟨none, none, (.store 3 (.tmp 9) (.tmp 8))⟩])
      (.seq
       (.ops [⟨some 10, none, (.fieldAddr 106 (.tmp 1) 2)⟩,
         ⟨some 11, none, (.load 3 (.tmp 10))⟩,
         ⟨some 12, none, (.fieldAddr 77 (.tmp 3) 2)⟩,
         ⟨none, none, (.store 3 (.tmp 12) (.tmp 11))⟩])
       (.seq
        (.ops [⟨some 13, none, (.fieldAddr 106 (.tmp 1) 3)⟩,
          ⟨some 14, none, (.load 57 (.tmp 13))⟩,
          ⟨some 15, none, (.call ⟨(.value (.func 75)), #[(.tmp 14)], #[57]⟩)⟩,
          ⟨some 16, none, (.fieldAddr 77 (.tmp 3) 3)⟩,
          ⟨none, none, (.store 61 (.tmp 16) (.tmp 15))⟩])
        (.seq
         (.ops [⟨some 17, none, (.fieldAddr 106 (.tmp 1) 4)⟩,
           ⟨some 18, none, (.load 58 (.tmp 17))⟩,
           ⟨some 19, none, (.call ⟨(.value (.func 76)), #[(.tmp 18)], #[58]⟩)⟩,
           ⟨some 20, none, (.fieldAddr 77 (.tmp 3) 4)⟩,
           ⟨none, none, (.store 58 (.tmp 20) (.tmp 19))⟩])
         (.seq
          (.ops [⟨some 21, none, (.load 77 (.tmp 3))⟩,
            ⟨none, none, (.store 77 (.tmp 2) (.tmp 21))⟩])
          .ret))))))))
theorem w80 {args : Array Value} {H : AH} {Φ : Value → AH → Prop} (h : rW Try.prog k80 [] (fin Try.prog [(.cell 2 77)] Φ) (tm0 args) H) : CallsA Try.prog 80 args H Φ :=
  CallsA.w k80 [(.cell 2 77)] (fun _ => []) Try.func80 rfl rfl (by kernel_rfl) (by kernel_rfl) h

/-- laws.toExprS -/
def k49 : KC :=
  (.seq
   (.ops [⟨some 2, none, (.assign (.const (.slice none 0 0)))⟩])
   (.seq
    (.ops [⟨some 5, none, (.move (.tmp 0))⟩,
      ⟨some 6, none, (.call ⟨(.builtin .len), #[(.tmp 5)], #[38]⟩)⟩,
      ⟨some 7, none, (.makeSlice 43 (.tmp 6) (.tmp 6))⟩,
      ⟨some 3, none, (.assign (.tmp 7))⟩])
    (.seq
     (.seq
      (.ops [⟨some 4, none, (.assign (.const (.int .i64 0)))⟩])
      (.block 0
       (.loop
        (.seq
         (.seq
          (.ops [⟨some 8, none, (.move (.tmp 4))⟩,
            ⟨some 9, none, (.move (.tmp 0))⟩,
            ⟨some 10, none, (.call ⟨(.builtin .len), #[(.tmp 9)], #[38]⟩)⟩,
            ⟨some 11, none, (.binOp .lss 3 (.tmp 8) (.tmp 10) 3)⟩])
          (.cond (.tmp 11)
           .skip
           (.exit 0)))
         (.seq
          (.block 1
           (.ops [⟨some 14, none, (.move (.tmp 3))⟩,
             ⟨some 15, none, (.move (.tmp 4))⟩,
             ⟨some 16, none, (.move (.tmp 0))⟩,
             ⟨some 17, none, (.move (.tmp 4))⟩,
             ⟨some 18, none, (.indexAddr 38 (.tmp 16) (.tmp 17))⟩,
             ⟨some 19, none, (.load 106 (.tmp 18))⟩,
             ⟨some 20, none, (.call ⟨(.value (.func 80)), #[(.tmp 19)], #[106]⟩)⟩,
             ⟨some 21, none, (.indexAddr 43 (.tmp 14) (.tmp 15))⟩,
             ⟨none, none, (.store 77 (.tmp 21) (.tmp 20))⟩]))
          (.ops [⟨some 12, none, (.move (.tmp 4))⟩,
            ⟨some 13, none, (.binOp .add 3 (.tmp 12) (.const (.int .i64 1)) 3)⟩,
            ⟨some 4, none, (.assign (.tmp 13))⟩]))))))
     (.seq
      (.ops [⟨some 22, none, (.move (.tmp 3))⟩,
        ⟨some 2, none, (.assign (.tmp 22))⟩])
      .ret))))
theorem w49 {args : Array Value} {H : AH} {Φ : Value → AH → Prop} (h : rW Try.prog k49 [] (fin Try.prog [(.tmp 2)] Φ) (tm0 args) H) : CallsA Try.prog 49 args H Φ :=
  CallsA.w k49 [(.tmp 2)] (fun _ => []) Try.func49 rfl rfl (by kernel_rfl) (by kernel_rfl) h

/-- laws.toTree -/
def k23 : KC :=
  (.seq
   (.ops [⟨some 1, none, (.box 40 (.tmp 0))⟩,
     ⟨some 2, none, (.alloc 45)⟩])
   (.seq
    (.ops [⟨some 3, none, (.alloc 45)⟩])
    (.seq
     (.ops [⟨some 4, none, (.fieldAddr 40 (.tmp 1) 0)⟩,
       ⟨some 5, none, (.load 38 (.tmp 4))⟩,
       ⟨some 6, none, (.call ⟨(.value (.func 49)), #[(.tmp 5)], #[38]⟩)⟩,
       ⟨some 7, none, (.fieldAddr 45 (.tmp 3) 0)⟩,
       ⟨none, none, (.store 43 (.tmp 7) (.tmp 6))⟩])
     (.seq
      (.ops [⟨some 8, none, (.load 45 (.tmp 3))⟩,
        ⟨none, none, (.store 45 (.tmp 2) (.tmp 8))⟩])
      .ret))))
theorem w23 {args : Array Value} {H : AH} {Φ : Value → AH → Prop} (h : rW Try.prog k23 [] (fin Try.prog [(.cell 2 45)] Φ) (tm0 args) H) : CallsA Try.prog 23 args H Φ :=
  CallsA.w k23 [(.cell 2 45)] (fun _ => []) Try.func23 rfl rfl (by kernel_rfl) (by kernel_rfl) h

/-- impl.within -/
def k56 : KC :=
  (.seq
   (.ops [⟨some 6, none, (.assign (.const (.bool false)))⟩])
   (.seq
    (.ops [⟨some 7, none, (.move (.tmp 0))⟩,
      ⟨some 8, none, (.move (.tmp 1))⟩,
      ⟨some 9, none, (.binOp .geq 3 (.tmp 7) (.tmp 8) 3)⟩,
      ⟨some 10, none, (.move (.tmp 9))⟩,
      ⟨some 11, (some (10, true)), (.move (.tmp 0))⟩,
      ⟨some 12, (some (10, true)), (.move (.tmp 2))⟩,
      ⟨some 13, (some (10, true)), (.binOp .leq 3 (.tmp 11) (.tmp 12) 3)⟩,
      ⟨some 14, none, (.pick (.tmp 10) (.tmp 13) (.const (.bool false)))⟩,
      ⟨some 6, none, (.assign (.tmp 14))⟩])
    .ret))
theorem w56 {args : Array Value} {H : AH} {Φ : Value → AH → Prop} (h : rW Try.prog k56 [] (fin Try.prog [(.tmp 6)] Φ) (tm0 args) H) : CallsA Try.prog 56 args H Φ :=
  CallsA.w k56 [(.tmp 6)] (fun _ => []) Try.func56 rfl rfl (by kernel_rfl) (by kernel_rfl) h

/-- slices.IndexFunc[[]impl.Expr,impl.Expr] -/
def k87 : KC :=
  (.seq
   (.ops [⟨some 4, none, (.assign (.const (.int .i64 0)))⟩])
   (.seq
    (.seq
     (.ops [⟨some 6, none, (.move (.tmp 0))⟩,
       ⟨some 7, none, (.call ⟨(.builtin .len), #[(.tmp 6)], #[43]⟩)⟩,
       ⟨some 8, none, (.move (.const (.int .i64 0)))⟩])
     (.block 0
      (.loop
       (.seq
        (.ops [⟨some 9, none, (.binOp .lss 3 (.tmp 8) (.tmp 7) 3)⟩])
        (.seq
         (.cond (.tmp 9)
          .skip
          (.exit 0))
         (.seq
          (.block 1
           (.seq
            (.ops [⟨some 10, none, (.move (.tmp 8))⟩,
              ⟨some 5, none, (.assign (.tmp 10))⟩])
            (.seq
             (.ops [⟨some 11, none, (.move (.tmp 1))⟩,
               ⟨some 12, none, (.move (.tmp 0))⟩,
               ⟨some 13, none, (.move (.tmp 5))⟩,
               ⟨some 14, none, (.indexAddr 43 (.tmp 12) (.tmp 13))⟩,
               ⟨some 15, none, (.load 77 (.tmp 14))⟩,
               ⟨some 16, none, (.call ⟨(.value (.tmp 11)), #[(.tmp 15)], #[77]⟩)⟩])
             (.cond (.tmp 16)
              (.seq
               (.ops [⟨some 17, none, (.move (.tmp 5))⟩,
                 ⟨some 4, none, (.assign (.tmp 17))⟩])
               .ret)
              .skip))))
          (.ops [⟨some 18, none, (.binOp .add 3 (.tmp 8) (.const (.int .i64 1)) 3)⟩,
            ⟨some 8, none, (.move (.tmp 18))⟩])))))))
    (.seq
     (.ops [⟨some 4, none, (.assign (.const (.int .i64 (-1))))⟩])
     .ret)))
theorem w87 {args : Array Value} {H : AH} {Φ : Value → AH → Prop} (h : rW Try.prog k87 [] (fin Try.prog [(.tmp 4)] Φ) (tm0 args) H) : CallsA Try.prog 87 args H Φ :=
  CallsA.w k87 [(.tmp 4)] (fun _ => []) Try.func87 rfl rfl (by kernel_rfl) (by kernel_rfl) h

/-- slices.ContainsFunc[[]impl.Expr,impl.Expr] -/
def k57 : KC :=
  (.seq
   (.ops [⟨some 4, none, (.assign (.const (.bool false)))⟩])
   (.seq
    (.ops [⟨some 5, none, (.move (.tmp 0))⟩,
      ⟨some 6, none, (.move (.tmp 1))⟩,
      ⟨some 7, none, (.call ⟨(.value (.func 87)), #[(.tmp 5), (.tmp 6)], #[43, 88]⟩)⟩,
      ⟨some 8, none, (.binOp .geq 3 (.tmp 7) (.const (.int .i64 0)) 3)⟩,
      ⟨some 4, none, (.assign (.tmp 8))⟩])
    .ret))
theorem w57 {args : Array Value} {H : AH} {Φ : Value → AH → Prop} (h : rW Try.prog k57 [] (fin Try.prog [(.tmp 4)] Φ) (tm0 args) H) : CallsA Try.prog 57 args H Φ :=
  CallsA.w k57 [(.tmp 4)] (fun _ => []) Try.func57 rfl rfl (by kernel_rfl) (by kernel_rfl) h

/-- slices.IndexFunc[[]int,int] -/
def k118 : KC :=
  (.seq
   (.ops [⟨some 4, none, (.assign (.const (.int .i64 0)))⟩])
   (.seq
    (.seq
     (.ops [⟨some 6, none, (.move (.tmp 0))⟩,
       ⟨some 7, none, (.call ⟨(.builtin .len), #[(.tmp 6)], #[58]⟩)⟩,
       ⟨some 8, none, (.move (.const (.int .i64 0)))⟩])
     (.block 0
      (.loop
       (.seq
        (.ops [⟨some 9, none, (.binOp .lss 3 (.tmp 8) (.tmp 7) 3)⟩])
        (.seq
         (.cond (.tmp 9)
          .skip
          (.exit 0))
         (.seq
          (.block 1
           (.seq
            (.ops [⟨some 10, none, (.move (.tmp 8))⟩,
              ⟨some 5, none, (.assign (.tmp 10))⟩])
            (.seq
             (.ops [⟨some 11, none, (.move (.tmp 1))⟩,
               ⟨some 12, none, (.move (.tmp 0))⟩,
               ⟨some 13, none, (.move (.tmp 5))⟩,
               ⟨some 14, none, (.indexAddr 58 (.tmp 12) (.tmp 13))⟩,
               ⟨some 15, none, (.load 3 (.tmp 14))⟩,
               ⟨some 16, none, (.call ⟨(.value (.tmp 11)), #[(.tmp 15)], #[3]⟩)⟩])
             (.cond (.tmp 16)
              (.seq
               (.ops [⟨some 17, none, (.move (.tmp 5))⟩,
                 ⟨some 4, none, (.assign (.tmp 17))⟩])
               .ret)
              .skip))))
          (.ops [⟨some 18, none, (.binOp .add 3 (.tmp 8) (.const (.int .i64 1)) 3)⟩,
            ⟨some 8, none, (.move (.tmp 18))⟩])))))))
    (.seq
     (.ops [⟨some 4, none, (.assign (.const (.int .i64 (-1))))⟩])
     .ret)))
theorem w118 {args : Array Value} {H : AH} {Φ : Value → AH → Prop} (h : rW Try.prog k118 [] (fin Try.prog [(.tmp 4)] Φ) (tm0 args) H) : CallsA Try.prog 118 args H Φ :=
  CallsA.w k118 [(.tmp 4)] (fun _ => []) Try.func118 rfl rfl (by kernel_rfl) (by kernel_rfl) h

/-- slices.ContainsFunc[[]int,int] -/
def k103 : KC :=
  (.seq
   (.ops [⟨some 4, none, (.assign (.const (.bool false)))⟩])
   (.seq
    (.ops [⟨some 5, none, (.move (.tmp 0))⟩,
      ⟨some 6, none, (.move (.tmp 1))⟩,
      ⟨some 7, none, (.call ⟨(.value (.func 118)), #[(.tmp 5), (.tmp 6)], #[58, 127]⟩)⟩,
      ⟨some 8, none, (.binOp .geq 3 (.tmp 7) (.const (.int .i64 0)) 3)⟩,
      ⟨some 4, none, (.assign (.tmp 8))⟩])
    .ret))
theorem w103 {args : Array Value} {H : AH} {Φ : Value → AH → Prop} (h : rW Try.prog k103 [] (fin Try.prog [(.tmp 4)] Φ) (tm0 args) H) : CallsA Try.prog 103 args H Φ :=
  CallsA.w k103 [(.tmp 4)] (fun _ => []) Try.func103 rfl rfl (by kernel_rfl) (by kernel_rfl) h

/-- impl.NumOk -/
def k105 : KC :=
  (.seq
   (.ops [⟨some 2, none, (.assign (.const (.bool false)))⟩])
   (.seq
    (.ops [⟨some 3, none, (.move (.tmp 0))⟩,
      ⟨some 4, none, (.call ⟨(.value (.func 56)), #[(.tmp 3), (.const (.int .i64 (-1000000000000))), (.const (.int .i64 1000000000000))], #[3, 3, 3]⟩)⟩,
      ⟨some 2, none, (.assign (.tmp 4))⟩])
    .ret))
theorem w105 {args : Array Value} {H : AH} {Φ : Value → AH → Prop} (h : rW Try.prog k105 [] (fin Try.prog [(.tmp 2)] Φ) (tm0 args) H) : CallsA Try.prog 105 args H Φ :=
  CallsA.w k105 [(.tmp 2)] (fun _ => []) Try.func105 rfl rfl (by kernel_rfl) (by kernel_rfl) h

/-- impl.numsOk$1 -/
def k104 : KC :=
  (.seq
   (.ops [⟨some 2, none, (.assign (.const (.bool false)))⟩])
   (.seq
    (.ops [⟨some 3, none, (.move (.tmp 0))⟩,
      ⟨some 4, none, (.call ⟨(.value (.func 105)), #[(.tmp 3)], #[3]⟩)⟩,
      ⟨some 5, none, (.unOp .not 4 (.tmp 4))⟩,
      ⟨some 2, none, (.assign (.tmp 5))⟩])
    .ret))
theorem w104 {args : Array Value} {H : AH} {Φ : Value → AH → Prop} (h : rW Try.prog k104 [] (fin Try.prog [(.tmp 2)] Φ) (tm0 args) H) : CallsA Try.prog 104 args H Φ :=
  CallsA.w k104 [(.tmp 2)] (fun _ => []) Try.func104 rfl rfl (by kernel_rfl) (by kernel_rfl) h

/-- impl.numsOk -/
def k88 : KC :=
  (.seq
   (.ops [⟨some 2, none, (.assign (.const (.bool false)))⟩])
   (.seq
    (.ops [⟨some 3, none, (.move (.tmp 0))⟩,
      ⟨some 4, none, (.call ⟨(.builtin .len), #[(.tmp 3)], #[58]⟩)⟩,
      ⟨some 5, none, (.call ⟨(.value (.func 56)), #[(.tmp 4), (.const (.int .i64 1)), (.const (.int .i64 300))], #[3, 3, 3]⟩)⟩,
      ⟨some 6, none, (.move (.tmp 5))⟩,
      ⟨some 7, (some (6, true)), (.move (.tmp 0))⟩,
      ⟨some 8, (some (6, true)), (.call ⟨(.value (.func 103)), #[(.tmp 7), (.func 104)], #[58, 127]⟩)⟩,
      ⟨some 9, (some (6, true)), (.unOp .not 4 (.tmp 8))⟩,
      ⟨some 10, none, (.pick (.tmp 6) (.tmp 9) (.const (.bool false)))⟩,
      ⟨some 2, none, (.assign (.tmp 10))⟩])
    .ret))
theorem w88 {args : Array Value} {H : AH} {Φ : Value → AH → Prop} (h : rW Try.prog k88 [] (fin Try.prog [(.tmp 2)] Φ) (tm0 args) H) : CallsA Try.prog 88 args H Φ :=
  CallsA.w k88 [(.tmp 2)] (fun _ => []) Try.func88 rfl rfl (by kernel_rfl) (by kernel_rfl) h

/-- impl.hasSign -/
def k107 : KC :=
  (.seq
   (.ops [⟨some 4, none, (.assign (.const (.bool false)))⟩])
   (.seq
    (.seq
     (.ops [⟨some 5, none, (.assign (.const (.int .i64 0)))⟩])
     (.block 0
      (.loop
       (.seq
        (.seq
         (.ops [⟨some 6, none, (.move (.tmp 5))⟩,
           ⟨some 7, none, (.move (.tmp 0))⟩,
           ⟨some 8, none, (.call ⟨(.builtin .len), #[(.tmp 7)], #[9]⟩)⟩,
           ⟨some 9, none, (.binOp .lss 3 (.tmp 6) (.tmp 8) 3)⟩])
         (.cond (.tmp 9)
          .skip
          (.exit 0)))
        (.seq
         (.block 1
          (.seq
           (.ops [⟨some 12, none, (.move (.tmp 0))⟩,
             ⟨some 13, none, (.move (.tmp 5))⟩,
             ⟨some 14, none, (.index 9 (.tmp 12) (.tmp 13))⟩,
             ⟨some 15, none, (.convert 5 3 (.tmp 14))⟩,
             ⟨some 16, none, (.move (.tmp 1))⟩,
             ⟨some 17, none, (.binOp .eql 3 (.tmp 15) (.tmp 16) 3)⟩])
           (.cond (.tmp 17)
            (.seq
             (.ops [⟨some 4, none, (.assign (.const (.bool true)))⟩])
             .ret)
            .skip)))
         (.ops [⟨some 10, none, (.move (.tmp 5))⟩,
           ⟨some 11, none, (.binOp .add 3 (.tmp 10) (.const (.int .i64 1)) 3)⟩,
           ⟨some 5, none, (.assign (.tmp 11))⟩]))))))
    (.seq
     (.ops [⟨some 4, none, (.assign (.const (.bool false)))⟩])
     .ret)))
theorem w107 {args : Array Value} {H : AH} {Φ : Value → AH → Prop} (h : rW Try.prog k107 [] (fin Try.prog [(.tmp 4)] Φ) (tm0 args) H) : CallsA Try.prog 107 args H Φ :=
  CallsA.w k107 [(.tmp 4)] (fun _ => []) Try.func107 rfl rfl (by kernel_rfl) (by kernel_rfl) h

/-- impl.oneSign -/
def k106 : KC :=
  (.seq
   (.ops [⟨some 2, none, (.assign (.const (.bool false)))⟩])
   (.seq
    (.ops [⟨some 3, none, (.move (.tmp 0))⟩,
      ⟨some 4, none, (.call ⟨(.value (.func 107)), #[(.const (.string ⟨#[43, 45, 42, 124, 126]⟩)), (.tmp 3)], #[9, 3]⟩)⟩,
      ⟨some 2, none, (.assign (.tmp 4))⟩])
    .ret))
theorem w106 {args : Array Value} {H : AH} {Φ : Value → AH → Prop} (h : rW Try.prog k106 [] (fin Try.prog [(.tmp 2)] Φ) (tm0 args) H) : CallsA Try.prog 106 args H Φ :=
  CallsA.w k106 [(.tmp 2)] (fun _ => []) Try.func106 rfl rfl (by kernel_rfl) (by kernel_rfl) h

/-- impl.twoSign -/
def k108 : KC :=
  (.seq
   (.ops [⟨some 2, none, (.assign (.const (.bool false)))⟩])
   (.seq
    (.ops [⟨some 3, none, (.move (.tmp 0))⟩,
      ⟨some 4, none, (.call ⟨(.value (.func 107)), #[(.const (.string ⟨#[43, 45, 42, 37, 124, 38, 94, 61, 60, 62]⟩)), (.tmp 3)], #[9, 3]⟩)⟩,
      ⟨some 2, none, (.assign (.tmp 4))⟩])
    .ret))
theorem w108 {args : Array Value} {H : AH} {Φ : Value → AH → Prop} (h : rW Try.prog k108 [] (fin Try.prog [(.tmp 2)] Φ) (tm0 args) H) : CallsA Try.prog 108 args H Φ :=
  CallsA.w k108 [(.tmp 2)] (fun _ => []) Try.func108 rfl rfl (by kernel_rfl) (by kernel_rfl) h

/-- impl.FunOne -/
def k89 : KC :=
  (.seq
   (.ops [⟨some 1, none, (.box 61 (.tmp 0))⟩,
     ⟨some 2, none, (.assign (.const (.bool false)))⟩])
   (.seq
    (.seq
     (.ops [⟨some 3, none, (.fieldAddr 61 (.tmp 1) 1)⟩,
       ⟨some 4, none, (.load 3 (.tmp 3))⟩])
     (.block 0
      (.seq
       (.ops [⟨some 6, none, (.binOp .eql 3 (.tmp 4) (.const (.int .i64 0)) 3)⟩,
         ⟨some 5, none, (.assign (.tmp 6))⟩])
       (.cond (.tmp 5)
        (.seq
         (.ops [⟨some 7, none, (.fieldAddr 61 (.tmp 1) 2)⟩,
           ⟨some 8, none, (.load 3 (.tmp 7))⟩,
           ⟨some 9, none, (.binOp .eql 3 (.tmp 8) (.const (.int .i64 0)) 3)⟩,
           ⟨some 10, none, (.move (.tmp 9))⟩,
           ⟨some 11, (some (10, true)), (.fieldAddr 61 (.tmp 1) 0)⟩,
           ⟨some 12, (some (10, true)), (.load 3 (.tmp 11))⟩,
           ⟨some 13, (some (10, true)), (.call ⟨(.value (.func 106)), #[(.tmp 12)], #[3]⟩)⟩,
           ⟨some 14, (some (10, true)), (.move (.tmp 13))⟩,
           ⟨some 15, (some (14, false)), (.fieldAddr 61 (.tmp 1) 0)⟩,
           ⟨some 16, (some (14, false)), (.load 3 (.tmp 15))⟩,
           ⟨some 17, (some (14, false)), (.call ⟨(.value (.func 107)), #[(.const (.string ⟨#[105, 35, 44, 114, 122, 103]⟩)), (.tmp 16)], #[9, 3]⟩)⟩,
           ⟨some 18, (some (10, true)), (.pick (.tmp 14) (.const (.bool true)) (.tmp 17))⟩,
           ⟨some 19, none, (.pick (.tmp 10) (.tmp 18) (.const (.bool false)))⟩,
           ⟨some 2, none, (.assign (.tmp 19))⟩])
         .ret)
        (.seq
         (.seq
          (.ops [⟨some 21, none, (.binOp .eql 3 (.tmp 4) (.const (.int .i64 47)) 3)⟩,
            ⟨some 20, none, (.assign (.tmp 21))⟩])
          (.cond (.tmp 20)
           .skip
           (.ops [⟨some 22, none, (.binOp .eql 3 (.tmp 4) (.const (.int .i64 92)) 3)⟩,
             ⟨some 20, none, (.assign (.tmp 22))⟩])))
         (.cond (.tmp 20)
          (.seq
           (.ops [⟨some 23, none, (.fieldAddr 61 (.tmp 1) 2)⟩,
             ⟨some 24, none, (.load 3 (.tmp 23))⟩,
             ⟨some 25, none, (.binOp .eql 3 (.tmp 24) (.const (.int .i64 0)) 3)⟩,
             ⟨some 26, none, (.move (.tmp 25))⟩,
             ⟨some 27, (some (26, true)), (.fieldAddr 61 (.tmp 1) 0)⟩,
             ⟨some 28, (some (26, true)), (.load 3 (.tmp 27))⟩,
             ⟨some 29, (some (26, true)), (.call ⟨(.value (.func 108)), #[(.tmp 28)], #[3]⟩)⟩,
             ⟨some 30, none, (.pick (.tmp 26) (.tmp 29) (.const (.bool false)))⟩,
             ⟨some 2, none, (.assign (.tmp 30))⟩])
           .ret)
          .skip))))))
    (.seq
     (.ops [⟨some 2, none, (.assign (.const (.bool false)))⟩])
     .ret)))
theorem w89 {args : Array Value} {H : AH} {Φ : Value → AH → Prop} (h : rW Try.prog k89 [] (fin Try.prog [(.tmp 2)] Φ) (tm0 args) H) : CallsA Try.prog 89 args H Φ :=
  CallsA.w k89 [(.tmp 2)] (fun _ => []) Try.func89 rfl rfl (by kernel_rfl) (by kernel_rfl) h

/-- impl.FunTwo -/
def k90 : KC :=
  (.seq
   (.ops [⟨some 1, none, (.box 61 (.tmp 0))⟩,
     ⟨some 2, none, (.assign (.const (.bool false)))⟩])
   (.seq
    (.seq
     (.ops [⟨some 3, none, (.fieldAddr 61 (.tmp 1) 1)⟩,
       ⟨some 4, none, (.load 3 (.tmp 3))⟩])
     (.block 0
      (.seq
       (.ops [⟨some 6, none, (.binOp .eql 3 (.tmp 4) (.const (.int .i64 0)) 3)⟩,
         ⟨some 5, none, (.assign (.tmp 6))⟩])
       (.cond (.tmp 5)
        (.seq
         (.ops [⟨some 7, none, (.fieldAddr 61 (.tmp 1) 2)⟩,
           ⟨some 8, none, (.load 3 (.tmp 7))⟩,
           ⟨some 9, none, (.binOp .eql 3 (.tmp 8) (.const (.int .i64 0)) 3)⟩,
           ⟨some 10, none, (.move (.tmp 9))⟩,
           ⟨some 11, (some (10, true)), (.fieldAddr 61 (.tmp 1) 0)⟩,
           ⟨some 12, (some (10, true)), (.load 3 (.tmp 11))⟩,
           ⟨some 13, (some (10, true)), (.call ⟨(.value (.func 108)), #[(.tmp 12)], #[3]⟩)⟩,
           ⟨some 14, (some (10, true)), (.move (.tmp 13))⟩,
           ⟨some 15, (some (14, false)), (.fieldAddr 61 (.tmp 1) 0)⟩,
           ⟨some 16, (some (14, false)), (.load 3 (.tmp 15))⟩,
           ⟨some 17, (some (14, false)), (.call ⟨(.value (.func 107)), #[(.const (.string ⟨#[35, 44, 116, 100, 114, 64, 63, 36, 101]⟩)), (.tmp 16)], #[9, 3]⟩)⟩,
           ⟨some 18, (some (10, true)), (.pick (.tmp 14) (.const (.bool true)) (.tmp 17))⟩,
           ⟨some 19, none, (.pick (.tmp 10) (.tmp 18) (.const (.bool false)))⟩,
           ⟨some 2, none, (.assign (.tmp 19))⟩])
         .ret)
        (.seq
         (.ops [⟨some 21, none, (.binOp .eql 3 (.tmp 4) (.const (.int .i64 111)) 3)⟩,
           ⟨some 20, none, (.assign (.tmp 21))⟩])
         (.cond (.tmp 20)
          (.seq
           (.ops [⟨some 22, none, (.fieldAddr 61 (.tmp 1) 2)⟩,
             ⟨some 23, none, (.load 3 (.tmp 22))⟩,
             ⟨some 24, none, (.binOp .eql 3 (.tmp 23) (.const (.int .i64 0)) 3)⟩,
             ⟨some 25, none, (.move (.tmp 24))⟩,
             ⟨some 26, (some (25, true)), (.fieldAddr 61 (.tmp 1) 0)⟩,
             ⟨some 27, (some (25, true)), (.load 3 (.tmp 26))⟩,
             ⟨some 28, (some (25, true)), (.call ⟨(.value (.func 108)), #[(.tmp 27)], #[3]⟩)⟩,
             ⟨some 29, none, (.pick (.tmp 25) (.tmp 28) (.const (.bool false)))⟩,
             ⟨some 2, none, (.assign (.tmp 29))⟩])
           .ret)
          (.seq
           (.ops [⟨some 31, none, (.binOp .eql 3 (.tmp 4) (.const (.int .i64 46)) 3)⟩,
             ⟨some 30, none, (.assign (.tmp 31))⟩])
           (.cond (.tmp 30)
            (.seq
             (.ops [⟨some 32, none, (.fieldAddr 61 (.tmp 1) 0)⟩,
               ⟨some 33, none, (.load 3 (.tmp 32))⟩,
               ⟨some 34, none, (.call ⟨(.value (.func 108)), #[(.tmp 33)], #[3]⟩)⟩,
               ⟨some 35, none, (.move (.tmp 34))⟩,
               ⟨some 36, (some (35, true)), (.fieldAddr 61 (.tmp 1) 2)⟩,
               ⟨some 37, (some (35, true)), (.load 3 (.tmp 36))⟩,
               ⟨some 38, (some (35, true)), (.call ⟨(.value (.func 108)), #[(.tmp 37)], #[3]⟩)⟩,
               ⟨some 39, none, (.pick (.tmp 35) (.tmp 38) (.const (.bool false)))⟩,
               ⟨some 2, none, (.assign (.tmp 39))⟩])
             .ret)
            .skip))))))))
    (.seq
     (.ops [⟨some 2, none, (.assign (.const (.bool false)))⟩])
     .ret)))
theorem w90 {args : Array Value} {H : AH} {Φ : Value → AH → Prop} (h : rW Try.prog k90 [] (fin Try.prog [(.tmp 2)] Φ) (tm0 args) H) : CallsA Try.prog 90 args H Φ :=
  CallsA.w k90 [(.tmp 2)] (fun _ => []) Try.func90 rfl rfl (by kernel_rfl) (by kernel_rfl) h

/-- impl.nodeOk -/
def k59 : KC :=
  (.seq
   (.ops [⟨some 1, none, (.box 77 (.tmp 0))⟩,
     ⟨some 2, none, (.assign (.const (.bool false)))⟩])
   (.seq
    (.ops [⟨some 7, none, (.fieldAddr 77 (.tmp 1) 1)⟩,
      ⟨some 8, none, (.load 3 (.tmp 7))⟩,
      ⟨some 9, none, (.binOp .eql 3 (.tmp 8) (.const (.int .i64 0)) 3)⟩,
      ⟨some 10, none, (.fieldAddr 77 (.tmp 1) 2)⟩,
      ⟨some 11, none, (.load 3 (.tmp 10))⟩,
      ⟨some 12, none, (.binOp .eql 3 (.tmp 11) (.const (.int .i64 0)) 3)⟩,
      ⟨some 13, none, (.fieldAddr 77 (.tmp 1) 3)⟩,
      ⟨some 14, none, (.load 61 (.tmp 13))⟩,
      ⟨some 15, none, (.build 61 #[])⟩,
      ⟨some 16, none, (.binOp .eql 61 (.tmp 14) (.tmp 15) 61)⟩,
      ⟨some 17, none, (.fieldAddr 77 (.tmp 1) 4)⟩,
      ⟨some 18, none, (.load 58 (.tmp 17))⟩,
      ⟨some 19, none, (.call ⟨(.builtin .len), #[(.tmp 18)], #[58]⟩)⟩,
      ⟨some 20, none, (.binOp .eql 3 (.tmp 19) (.const (.int .i64 0)) 3)⟩,
      ⟨some 3, none, (.assign (.tmp 9))⟩,
      ⟨some 4, none, (.assign (.tmp 12))⟩,
      ⟨some 5, none, (.assign (.tmp 16))⟩,
      ⟨some 6, none, (.assign (.tmp 20))⟩])
    (.seq
     (.seq
      (.ops [⟨some 21, none, (.fieldAddr 77 (.tmp 1) 0)⟩,
        ⟨some 22, none, (.load 3 (.tmp 21))⟩])
      (.block 0
       (.seq
        (.ops [⟨some 24, none, (.binOp .eql 3 (.tmp 22) (.const (.int .i64 1)) 3)⟩,
          ⟨some 23, none, (.assign (.tmp 24))⟩])
        (.cond (.tmp 23)
         (.ops [⟨some 25, none, (.fieldAddr 77 (.tmp 1) 4)⟩,
           ⟨some 26, none, (.load 58 (.tmp 25))⟩,
           ⟨some 27, none, (.call ⟨(.value (.func 88)), #[(.tmp 26)], #[58]⟩)⟩,
           ⟨some 6, none, (.assign (.tmp 27))⟩])
         (.seq
          (.ops [⟨some 29, none, (.binOp .eql 3 (.tmp 22) (.const (.int .i64 2)) 3)⟩,
            ⟨some 28, none, (.assign (.tmp 29))⟩])
          (.cond (.tmp 28)
           (.ops [⟨some 30, none, (.fieldAddr 77 (.tmp 1) 1)⟩,
             ⟨some 31, none, (.load 3 (.tmp 30))⟩,
             ⟨some 32, none, (.call ⟨(.value (.func 56)), #[(.tmp 31), (.const (.int .i64 0)), (.const (.int .i64 25))], #[3, 3, 3]⟩)⟩,
             ⟨some 3, none, (.assign (.tmp 32))⟩])
           (.seq
            (.ops [⟨some 34, none, (.binOp .eql 3 (.tmp 22) (.const (.int .i64 3)) 3)⟩,
              ⟨some 33, none, (.assign (.tmp 34))⟩])
            (.cond (.tmp 33)
             (.ops [⟨some 35, none, (.fieldAddr 77 (.tmp 1) 1)⟩,
               ⟨some 36, none, (.load 3 (.tmp 35))⟩,
               ⟨some 37, none, (.call ⟨(.value (.func 56)), #[(.tmp 36), (.const (.int .i64 0)), (.const (.int .i64 25))], #[3, 3, 3]⟩)⟩,
               ⟨some 3, none, (.assign (.tmp 37))⟩,
               ⟨some 4, none, (.assign (.const (.bool true)))⟩])
             (.seq
              (.ops [⟨some 39, none, (.binOp .eql 3 (.tmp 22) (.const (.int .i64 4)) 3)⟩,
                ⟨some 38, none, (.assign (.tmp 39))⟩])
              (.cond (.tmp 38)
               (.ops [⟨some 40, none, (.fieldAddr 77 (.tmp 1) 3)⟩,
                 ⟨some 41, none, (.load 61 (.tmp 40))⟩,
                 ⟨some 42, none, (.call ⟨(.value (.func 89)), #[(.tmp 41)], #[61]⟩)⟩,
                 ⟨some 4, none, (.assign (.const (.bool true)))⟩,
                 ⟨some 5, none, (.assign (.tmp 42))⟩])
               (.seq
                (.ops [⟨some 44, none, (.binOp .eql 3 (.tmp 22) (.const (.int .i64 5)) 3)⟩,
                  ⟨some 43, none, (.assign (.tmp 44))⟩])
                (.cond (.tmp 43)
                 (.ops [⟨some 45, none, (.fieldAddr 77 (.tmp 1) 3)⟩,
                   ⟨some 46, none, (.load 61 (.tmp 45))⟩,
                   ⟨some 47, none, (.call ⟨(.value (.func 90)), #[(.tmp 46)], #[61]⟩)⟩,
                   ⟨some 3, none, (.assign (.const (.bool true)))⟩,
                   ⟨some 4, none, (.assign (.const (.bool true)))⟩,
                   ⟨some 5, none, (.assign (.tmp 47))⟩])
                 (.seq
                  (.ops [⟨some 2, none, (.assign (.const (.bool false)))⟩])
                  .ret)))))))))))))
     (.seq
      (.ops [⟨some 48, none, (.move (.tmp 3))⟩,
        ⟨some 49, none, (.move (.tmp 48))⟩,
        ⟨some 50, (some (49, true)), (.move (.tmp 4))⟩,
        ⟨some 51, none, (.pick (.tmp 49) (.tmp 50) (.const (.bool false)))⟩,
        ⟨some 52, none, (.move (.tmp 51))⟩,
        ⟨some 53, (some (52, true)), (.move (.tmp 5))⟩,
        ⟨some 54, none, (.pick (.tmp 52) (.tmp 53) (.const (.bool false)))⟩,
        ⟨some 55, none, (.move (.tmp 54))⟩,
        ⟨some 56, (some (55, true)), (.move (.tmp 6))⟩,
        ⟨some 57, none, (.pick (.tmp 55) (.tmp 56) (.const (.bool false)))⟩,
        ⟨some 2, none, (.assign (.tmp 57))⟩])
      .ret))))
theorem w59 {args : Array Value} {H : AH} {Φ : Value → AH → Prop} (h : rW Try.prog k59 [] (fin Try.prog [(.tmp 2)] Φ) (tm0 args) H) : CallsA Try.prog 59 args H Φ :=
  CallsA.w k59 [(.tmp 2)] (fun i => if i = 1 then [(1, 0), (4, 0), (7, 0), (11, 0)] else []) Try.func59 rfl rfl (by kernel_rfl) (by kernel_rfl) h

/-- impl.TreeOk$1 -/
def k58 : KC :=
  (.seq
   (.ops [⟨some 1, none, (.box 77 (.tmp 0))⟩,
     ⟨some 2, none, (.assign (.const (.bool false)))⟩])
   (.seq
    (.ops [⟨some 3, none, (.load 77 (.tmp 1))⟩,
      ⟨some 4, none, (.call ⟨(.value (.func 59)), #[(.tmp 3)], #[77]⟩)⟩,
      ⟨some 5, none, (.unOp .not 4 (.tmp 4))⟩,
      ⟨some 2, none, (.assign (.tmp 5))⟩])
    .ret))
theorem w58 {args : Array Value} {H : AH} {Φ : Value → AH → Prop} (h : rW Try.prog k58 [] (fin Try.prog [(.tmp 2)] Φ) (tm0 args) H) : CallsA Try.prog 58 args H Φ :=
  CallsA.w k58 [(.tmp 2)] (fun _ => []) Try.func58 rfl rfl (by kernel_rfl) (by kernel_rfl) h

/-- impl.owned -/
def k60 : KC :=
  (.seq
   (.ops [⟨some 1, none, (.box 45 (.tmp 0))⟩,
     ⟨some 2, none, (.assign (.const (.slice none 0 0)))⟩,
     ⟨some 3, none, (.assign (.const (.bool false)))⟩])
   (.seq
    (.ops [⟨some 4, none, (.assign (.const (.slice none 0 0)))⟩])
    (.seq
     (.seq
      (.ops [⟨some 10, none, (.fieldAddr 45 (.tmp 1) 0)⟩,
        ⟨some 11, none, (.load 43 (.tmp 10))⟩,
        ⟨some 12, none, (.call ⟨(.builtin .len), #[(.tmp 11)], #[43]⟩)⟩,
        ⟨some 13, none, (.move (.const (.int .i64 0)))⟩])
      (.block 0
       (.loop
        (.seq
         (.ops [⟨some 14, none, (.binOp .lss 3 (.tmp 13) (.tmp 12) 3)⟩])
         (.seq
          (.cond (.tmp 14)
           .skip
           (.exit 0))
          (.seq
           (.block 1
            (.seq
             (.ops [⟨some 15, none, (.move (.tmp 13))⟩,
               ⟨some 16, none, (.indexAddr 43 (.tmp 11) (.tmp 13))⟩,
               ⟨some 17, none, (.load 77 (.tmp 16))⟩,
               ⟨some 6, none, (.alloc 77)⟩,
               ⟨some 5, none, (.assign (.tmp 15))⟩,
               ⟨none, none, (.store 77 (.tmp 6) (.tmp 17))⟩])
             (.seq
              (.ops [⟨some 7, none, (.assign (.const (.int .i64 1)))⟩])
              (.seq
               (.seq
                (.ops [⟨some 18, none, (.fieldAddr 77 (.tmp 6) 0)⟩,
                  ⟨some 19, none, (.load 3 (.tmp 18))⟩,
                  ⟨some 20, none, (.binOp .geq 3 (.tmp 19) (.const (.int .i64 3)) 3)⟩])
                (.cond (.tmp 20)
                 (.seq
                  (.ops [⟨some 21, none, (.fieldAddr 77 (.tmp 6) 2)⟩,
                    ⟨some 22, none, (.load 3 (.tmp 21))⟩,
                    ⟨some 8, none, (.assign (.tmp 22))⟩])
                  (.seq
                   (.seq
                    (.ops [⟨some 23, none, (.fieldAddr 77 (.tmp 6) 0)⟩,
                      ⟨some 24, none, (.load 3 (.tmp 23))⟩,
                      ⟨some 25, none, (.binOp .eql 3 (.tmp 24) (.const (.int .i64 5)) 3)⟩])
                    (.cond (.tmp 25)
                     (.ops [⟨some 26, none, (.fieldAddr 77 (.tmp 6) 1)⟩,
                       ⟨some 27, none, (.load 3 (.tmp 26))⟩,
                       ⟨some 8, none, (.assign (.tmp 27))⟩])
                     .skip))
                   (.seq
                    (.seq
                     (.ops [⟨some 28, none, (.move (.tmp 8))⟩,
                       ⟨some 29, none, (.move (.tmp 5))⟩,
                       ⟨some 30, none, (.binOp .sub 3 (.tmp 29) (.const (.int .i64 1)) 3)⟩,
                       ⟨some 31, none, (.binOp .neq 3 (.tmp 28) (.tmp 30) 3)⟩,
                       ⟨some 32, none, (.move (.tmp 31))⟩,
                       ⟨some 33, (some (32, false)), (.move (.tmp 5))⟩,
                       ⟨some 34, (some (32, false)), (.binOp .eql 3 (.tmp 33) (.const (.int .i64 0)) 3)⟩,
                       ⟨some 35, none, (.pick (.tmp 32) (.const (.bool true)) (.tmp 34))⟩])
                     (.cond (.tmp 35)
                      (.seq
                       (.ops [⟨some 2, none, (.assign (.const (.slice none 0 0)))⟩,
                         ⟨some 3, none, (.assign (.const (.bool false)))⟩])
                       .ret)
                      .skip))
                    (.ops [⟨some 36, none, (.move (.tmp 7))⟩,
                      ⟨some 37, none, (.move (.tmp 4))⟩,
                      ⟨some 38, none, (.move (.tmp 8))⟩,
                      ⟨some 39, none, (.indexAddr 58 (.tmp 37) (.tmp 38))⟩,
                      ⟨some 40, none, (.load 3 (.tmp 39))⟩,
                      ⟨some 41, none, (.binOp .add 3 (.tmp 36) (.tmp 40) 3)⟩,
                      ⟨some 7, none, (.assign (.tmp 41))⟩]))))
                 .skip))
               (.seq
                (.seq
                 (.ops [⟨some 42, none, (.fieldAddr 77 (.tmp 6) 0)⟩,
                   ⟨some 43, none, (.load 3 (.tmp 42))⟩,
                   ⟨some 44, none, (.binOp .eql 3 (.tmp 43) (.const (.int .i64 5)) 3)⟩])
                 (.cond (.tmp 44)
                  (.seq
                   (.ops [⟨some 45, none, (.move (.tmp 5))⟩,
                     ⟨some 46, none, (.binOp .sub 3 (.tmp 45) (.const (.int .i64 1)) 3)⟩,
                     ⟨some 47, none, (.move (.tmp 4))⟩,
                     ⟨some 48, none, (.fieldAddr 77 (.tmp 6) 1)⟩,
                     ⟨some 49, none, (.load 3 (.tmp 48))⟩,
                     ⟨some 50, none, (.indexAddr 58 (.tmp 47) (.tmp 49))⟩,
                     ⟨some 51, none, (.load 3 (.tmp 50))⟩,
                     ⟨some 52, none, (.binOp .sub 3 (.tmp 46) (.tmp 51) 3)⟩,
                     ⟨some 9, none, (.assign (.tmp 52))⟩])
                   (.seq
                    (.seq
                     (.ops [⟨some 53, none, (.move (.tmp 9))⟩,
                       ⟨some 54, none, (.binOp .lss 3 (.tmp 53) (.const (.int .i64 0)) 3)⟩,
                       ⟨some 55, none, (.move (.tmp 54))⟩,
                       ⟨some 56, (some (55, false)), (.fieldAddr 77 (.tmp 6) 2)⟩,
                       ⟨some 57, (some (55, false)), (.load 3 (.tmp 56))⟩,
                       ⟨some 58, (some (55, false)), (.move (.tmp 9))⟩,
                       ⟨some 59, (some (55, false)), (.binOp .neq 3 (.tmp 57) (.tmp 58) 3)⟩,
                       ⟨some 60, none, (.pick (.tmp 55) (.const (.bool true)) (.tmp 59))⟩])
                     (.cond (.tmp 60)
                      (.seq
                       (.ops [⟨some 2, none, (.assign (.const (.slice none 0 0)))⟩,
                         ⟨some 3, none, (.assign (.const (.bool false)))⟩])
                       .ret)
                      .skip))
                    (.ops [⟨some 61, none, (.move (.tmp 7))⟩,
                      ⟨some 62, none, (.move (.tmp 4))⟩,
                      ⟨some 63, none, (.move (.tmp 9))⟩,
                      ⟨some 64, none, (.indexAddr 58 (.tmp 62) (.tmp 63))⟩,
                      ⟨some 65, none, (.load 3 (.tmp 64))⟩,
                      ⟨some 66, none, (.binOp .add 3 (.tmp 61) (.tmp 65) 3)⟩,
                      ⟨some 7, none, (.assign (.tmp 66))⟩])))
                  .skip))
                (.ops [⟨some 67, none, (.move (.tmp 4))⟩,
                  ⟨some 68, none, (.move (.tmp 7))⟩,
                  ⟨some 69, none, (.buildSlice 58 1 #[(0, (.tmp 68))])⟩,
                  ⟨some 70, none, (.call ⟨(.builtin .append), #[(.tmp 67), (.tmp 69)], #[58, 58]⟩)⟩,
                  ⟨some 4, none, (.assign (.tmp 70))⟩]))))))
           (.ops [⟨some 71, none, (.binOp .add 3 (.tmp 13) (.const (.int .i64 1)) 3)⟩,
             ⟨some 13, none, (.move (.tmp 71))⟩])))))))
     (.seq
      (.ops [⟨some 72, none, (.move (.tmp 4))⟩,
        ⟨some 2, none, (.assign (.tmp 72))⟩,
        ⟨some 3, none, (.assign (.const (.bool true)))⟩])
      .ret))))
theorem w60 {args : Array Value} {H : AH} {Φ : Value → AH → Prop} (h : rW Try.prog k60 [] (fin Try.prog [(.tmp 2), (.tmp 3)] Φ) (tm0 args) H) : CallsA Try.prog 60 args H Φ :=
  CallsA.w k60 [(.tmp 2), (.tmp 3)] (fun _ => []) Try.func60 rfl rfl (by kernel_rfl) (by kernel_rfl) h

/-- impl.TreeOk -/
def k30 : KC :=
  (.seq
   (.ops [⟨some 1, none, (.box 45 (.tmp 0))⟩,
     ⟨some 2, none, (.assign (.const (.bool false)))⟩])
   (.seq
    (.ops [⟨some 6, none, (.fieldAddr 45 (.tmp 1) 0)⟩,
      ⟨some 7, none, (.load 43 (.tmp 6))⟩,
      ⟨some 8, none, (.call ⟨(.builtin .len), #[(.tmp 7)], #[43]⟩)⟩,
      ⟨some 3, none, (.assign (.tmp 8))⟩])
    (.seq
     (.seq
      (.ops [⟨some 9, none, (.move (.tmp 3))⟩,
        ⟨some 10, none, (.call ⟨(.value (.func 56)), #[(.tmp 9), (.const (.int .i64 1)), (.const (.int .i64 60))], #[3, 3, 3]⟩)⟩,
        ⟨some 11, none, (.unOp .not 4 (.tmp 10))⟩,
        ⟨some 12, none, (.move (.tmp 11))⟩,
        ⟨some 13, (some (12, false)), (.fieldAddr 45 (.tmp 1) 0)⟩,
        ⟨some 14, (some (12, false)), (.load 43 (.tmp 13))⟩,
        ⟨some 15, (some (12, false)), (.call ⟨(.value (.func 57)), #[(.tmp 14), (.func 58)], #[43, 88]⟩)⟩,
        ⟨some 16, none, (.pick (.tmp 12) (.const (.bool true)) (.tmp 15))⟩])
      (.cond (.tmp 16)
       (.seq
        (.ops [⟨some 2, none, (.assign (.const (.bool false)))⟩])
        .ret)
       .skip))
     (.seq
      (.ops [⟨some 18, none, (.load 45 (.tmp 1))⟩,
        ⟨some 19, none, (.call ⟨(.value (.func 60)), #[(.tmp 18)], #[45]⟩)⟩,
        ⟨some 17, none, (.move (.tmp 19))⟩,
        ⟨some 20, none, (.extract (.tmp 17) 0)⟩,
        ⟨some 21, none, (.extract (.tmp 17) 1)⟩,
        ⟨some 4, none, (.assign (.tmp 20))⟩,
        ⟨some 5, none, (.assign (.tmp 21))⟩])
      (.seq
       (.ops [⟨some 22, none, (.move (.tmp 5))⟩,
         ⟨some 23, none, (.move (.tmp 22))⟩,
         ⟨some 24, (some (23, true)), (.move (.tmp 4))⟩,
         ⟨some 25, (some (23, true)), (.move (.tmp 3))⟩,
         ⟨some 26, (some (23, true)), (.binOp .sub 3 (.tmp 25) (.const (.int .i64 1)) 3)⟩,
         ⟨some 27, (some (23, true)), (.indexAddr 58 (.tmp 24) (.tmp 26))⟩,
         ⟨some 28, (some (23, true)), (.load 3 (.tmp 27))⟩,
         ⟨some 29, (some (23, true)), (.move (.tmp 3))⟩,
         ⟨some 30, (some (23, true)), (.binOp .eql 3 (.tmp 28) (.tmp 29) 3)⟩,
         ⟨some 31, none, (.pick (.tmp 23) (.tmp 30) (.const (.bool false)))⟩,
         ⟨some 2, none, (.assign (.tmp 31))⟩])
       .ret)))))
theorem w30 {args : Array Value} {H : AH} {Φ : Value → AH → Prop} (h : rW Try.prog k30 [] (fin Try.prog [(.tmp 2)] Φ) (tm0 args) H) : CallsA Try.prog 30 args H Φ :=
  CallsA.w k30 [(.tmp 2)] (fun _ => []) Try.func30 rfl rfl (by kernel_rfl) (by kernel_rfl) h

/-- impl.Compile -/
def k24 : KC :=
  (.seq
   (.ops [⟨some 1, none, (.box 45 (.tmp 0))⟩,
     ⟨some 2, none, (.assign (.const (.slice none 0 0)))⟩,
     ⟨some 3, none, (.assign (.const (.bool false)))⟩])
   (.seq
    (.seq
     (.ops [⟨some 8, none, (.load 45 (.tmp 1))⟩,
       ⟨some 9, none, (.call ⟨(.value (.func 30)), #[(.tmp 8)], #[45]⟩)⟩,
       ⟨some 10, none, (.unOp .not 4 (.tmp 9))⟩])
     (.cond (.tmp 10)
      (.seq
       (.ops [⟨some 2, none, (.assign (.const (.slice none 0 0)))⟩,
         ⟨some 3, none, (.assign (.const (.bool false)))⟩])
       .ret)
      .skip))
    (.seq
     (.ops [⟨some 4, none, (.assign (.const (.slice none 0 0)))⟩])
     (.seq
      (.seq
       (.ops [⟨some 11, none, (.fieldAddr 45 (.tmp 1) 0)⟩,
         ⟨some 12, none, (.load 43 (.tmp 11))⟩,
         ⟨some 13, none, (.call ⟨(.builtin .len), #[(.tmp 12)], #[43]⟩)⟩,
         ⟨some 14, none, (.move (.const (.int .i64 0)))⟩])
       (.block 0
        (.loop
         (.seq
          (.ops [⟨some 15, none, (.binOp .lss 3 (.tmp 14) (.tmp 13) 3)⟩])
          (.seq
           (.cond (.tmp 15)
            .skip
            (.exit 0))
           (.seq
            (.block 1
             (.seq
              (.ops [⟨some 16, none, (.indexAddr 43 (.tmp 12) (.tmp 14))⟩,
                ⟨some 17, none, (.load 77 (.tmp 16))⟩,
                ⟨some 6, none, (.alloc 77)⟩,
                ⟨none, none, (.store 77 (.tmp 6) (.tmp 17))⟩])
              (.seq
               (.draw #[] [(1, 0), (1, 7), (3, 0), (3, 7), (5, 0)]
                 [⟨some 18, none, (.fieldAddr 77 (.tmp 6) 0)⟩,
                 ⟨some 19, none, (.load 3 (.tmp 18))⟩,
                 ⟨some 20, none, (.fieldAddr 77 (.tmp 6) 3)⟩,
                 ⟨some 21, none, (.load 61 (.tmp 20))⟩,
                 ⟨some 22, none, (.fieldAddr 77 (.tmp 6) 4)⟩,
                 ⟨some 23, none, (.load 58 (.tmp 22))⟩,
                 ⟨some 24, none, (.call ⟨(.builtin .append), #[(.const (.slice none 0 0)), (.tmp 23)], #[58, 58]⟩)⟩,
                 ⟨some 25, none, (.build 63 #[(0, (.tmp 19)), (2, (.tmp 21)), (3, (.tmp 24))])⟩,
                 ⟨some 7, none, (.alloc 63)⟩,
                 ⟨none, none, (.store 63 (.tmp 7) (.tmp 25))⟩])
               (.seq
                (.seq
                 (.ops [⟨some 26, none, (.fieldAddr 77 (.tmp 6) 0)⟩,
                   ⟨some 27, none, (.load 3 (.tmp 26))⟩,
                   ⟨some 28, none, (.binOp .eql 3 (.tmp 27) (.const (.int .i64 2)) 3)⟩,
                   ⟨some 29, none, (.move (.tmp 28))⟩,
                   ⟨some 30, (some (29, false)), (.fieldAddr 77 (.tmp 6) 0)⟩,
                   ⟨some 31, (some (29, false)), (.load 3 (.tmp 30))⟩,
                   ⟨some 32, (some (29, false)), (.binOp .eql 3 (.tmp 31) (.const (.int .i64 3)) 3)⟩,
                   ⟨some 33, none, (.pick (.tmp 29) (.const (.bool true)) (.tmp 32))⟩])
                 (.cond (.tmp 33)
                  (.ops [⟨some 34, none, (.fieldAddr 77 (.tmp 6) 1)⟩,
                    ⟨some 35, none, (.load 3 (.tmp 34))⟩,
                    ⟨some 36, none, (.fieldAddr 63 (.tmp 7) 1)⟩,
                    ⟨none, none, (.store 3 (.tmp 36) (.tmp 35))⟩])
                  .skip))
                (.ops [⟨some 37, none, (.move (.tmp 4))⟩,
                  ⟨some 38, none, (.load 63 (.tmp 7))⟩,
                  ⟨some 39, none, (.buildSlice 27 1 #[(0, (.tmp 38))])⟩,
                  ⟨some 40, none, (.call ⟨(.builtin .append), #[(.tmp 37), (.tmp 39)], #[27, 27]⟩)⟩,
                  ⟨some 4, none, (.assign (.tmp 40))⟩])))))
            (.ops [⟨some 41, none, (.binOp .add 3 (.tmp 14) (.const (.int .i64 1)) 3)⟩,
              ⟨some 14, none, (.move (.tmp 41))⟩])))))))
      (.seq
       (.ops [⟨some 42, none, (.move (.tmp 4))⟩,
         ⟨some 2, none, (.assign (.tmp 42))⟩,
         ⟨some 3, none, (.assign (.const (.bool true)))⟩])
       .ret)))))
theorem w24 {args : Array Value} {H : AH} {Φ : Value → AH → Prop} (h : rW Try.prog k24 [] (fin Try.prog [(.tmp 2), (.tmp 3)] Φ) (tm0 args) H) : CallsA Try.prog 24 args H Φ :=
  CallsA.w k24 [(.tmp 2), (.tmp 3)] (fun i => if i = 7 then [(1, 0), (1, 7), (3, 0), (3, 7), (5, 0)] else []) Try.func24 rfl rfl (by kernel_rfl) (by kernel_rfl) h

/-- laws.eqExpr -/
def k81 : KC :=
  (.seq
   (.ops [⟨some 2, none, (.box 77 (.tmp 0))⟩,
     ⟨some 3, none, (.box 77 (.tmp 1))⟩,
     ⟨some 4, none, (.assign (.const (.bool false)))⟩])
   (.seq
    (.seq
     (.ops [⟨some 5, none, (.fieldAddr 77 (.tmp 2) 0)⟩,
       ⟨some 6, none, (.load 3 (.tmp 5))⟩,
       ⟨some 7, none, (.fieldAddr 77 (.tmp 3) 0)⟩,
       ⟨some 8, none, (.load 3 (.tmp 7))⟩,
       ⟨some 9, none, (.binOp .neq 3 (.tmp 6) (.tmp 8) 3)⟩])
     (.cond (.tmp 9)
      (.seq
       (.ops [⟨some 4, none, (.assign (.const (.bool false)))⟩])
       .ret)
      .skip))
    (.seq
     (.seq
      (.ops [⟨some 10, none, (.fieldAddr 77 (.tmp 2) 1)⟩,
        ⟨some 11, none, (.load 3 (.tmp 10))⟩,
        ⟨some 12, none, (.fieldAddr 77 (.tmp 3) 1)⟩,
        ⟨some 13, none, (.load 3 (.tmp 12))⟩,
        ⟨some 14, none, (.binOp .neq 3 (.tmp 11) (.tmp 13) 3)⟩])
      (.cond (.tmp 14)
       (.seq
        (.ops [⟨some 4, none, (.assign (.const (.bool false)))⟩])
        .ret)
       .skip))
     (.seq
      (.seq
       (.ops [⟨some 15, none, (.fieldAddr 77 (.tmp 2) 2)⟩,
         ⟨some 16, none, (.load 3 (.tmp 15))⟩,
         ⟨some 17, none, (.fieldAddr 77 (.tmp 3) 2)⟩,
         ⟨some 18, none, (.load 3 (.tmp 17))⟩,
         ⟨some 19, none, (.binOp .neq 3 (.tmp 16) (.tmp 18) 3)⟩])
       (.cond (.tmp 19)
        (.seq
         (.ops [⟨some 4, none, (.assign (.const (.bool false)))⟩])
         .ret)
        .skip))
      (.seq
       (.seq
        (.ops [⟨some 20, none, (.fieldAddr 77 (.tmp 2) 3)⟩,
          ⟨some 21, none, (.load 61 (.tmp 20))⟩,
          ⟨some 22, none, (.fieldAddr 77 (.tmp 3) 3)⟩,
          ⟨some 23, none, (.load 61 (.tmp 22))⟩,
          ⟨some 24, none, (.call ⟨(.value (.func 77)), #[(.tmp 21), (.tmp 23)], #[61, 61]⟩)⟩,
          ⟨some 25, none, (.unOp .not 4 (.tmp 24))⟩])
        (.cond (.tmp 25)
         (.seq
          (.ops [⟨some 4, none, (.assign (.const (.bool false)))⟩])
          .ret)
         .skip))
       (.seq
        (.seq
         (.ops [⟨some 26, none, (.fieldAddr 77 (.tmp 2) 4)⟩,
           ⟨some 27, none, (.load 58 (.tmp 26))⟩,
           ⟨some 28, none, (.fieldAddr 77 (.tmp 3) 4)⟩,
           ⟨some 29, none, (.load 58 (.tmp 28))⟩,
           ⟨some 30, none, (.call ⟨(.value (.func 78)), #[(.tmp 27), (.tmp 29)], #[58, 58]⟩)⟩,
           ⟨some 31, none, (.unOp .not 4 (.tmp 30))⟩])
         (.cond (.tmp 31)
          (.seq
           (.ops [⟨some 4, none, (.assign (.const (.bool false)))⟩])
           .ret)
          .skip))
        (.seq
         (.ops [⟨some 4, none, (.assign (.const (.bool true)))⟩])
         .ret)))))))
theorem w81 {args : Array Value} {H : AH} {Φ : Value → AH → Prop} (h : rW Try.prog k81 [] (fin Try.prog [(.tmp 4)] Φ) (tm0 args) H) : CallsA Try.prog 81 args H Φ :=
  CallsA.w k81 [(.tmp 4)] (fun _ => []) Try.func81 rfl rfl (by kernel_rfl) (by kernel_rfl) h

/-- laws.eqExprS -/
def k50 : KC :=
  (.seq
   (.ops [⟨some 4, none, (.assign (.const (.bool false)))⟩])
   (.seq
    (.seq
     (.ops [⟨some 6, none, (.move (.tmp 0))⟩,
       ⟨some 7, none, (.call ⟨(.builtin .len), #[(.tmp 6)], #[43]⟩)⟩,
       ⟨some 8, none, (.move (.tmp 1))⟩,
       ⟨some 9, none, (.call ⟨(.builtin .len), #[(.tmp 8)], #[43]⟩)⟩,
       ⟨some 10, none, (.binOp .neq 3 (.tmp 7) (.tmp 9) 3)⟩])
     (.cond (.tmp 10)
      (.seq
       (.ops [⟨some 4, none, (.assign (.const (.bool false)))⟩])
       .ret)
      .skip))
    (.seq
     (.seq
      (.ops [⟨some 5, none, (.assign (.const (.int .i64 0)))⟩])
      (.block 0
       (.loop
        (.seq
         (.seq
          (.ops [⟨some 11, none, (.move (.tmp 5))⟩,
            ⟨some 12, none, (.move (.tmp 0))⟩,
            ⟨some 13, none, (.call ⟨(.builtin .len), #[(.tmp 12)], #[43]⟩)⟩,
            ⟨some 14, none, (.binOp .lss 3 (.tmp 11) (.tmp 13) 3)⟩])
          (.cond (.tmp 14)
           .skip
           (.exit 0)))
         (.seq
          (.block 1
           (.seq
            (.draw #[] [(3, 0), (7, 0)]
              [⟨some 17, none, (.move (.tmp 0))⟩,
              ⟨some 18, none, (.move (.tmp 5))⟩,
              ⟨some 19, none, (.indexAddr 43 (.tmp 17) (.tmp 18))⟩,
              ⟨some 20, none, (.load 77 (.tmp 19))⟩,
              ⟨some 21, none, (.move (.tmp 1))⟩,
              ⟨some 22, none, (.move (.tmp 5))⟩,
              ⟨some 23, none, (.indexAddr 43 (.tmp 21) (.tmp 22))⟩,
              ⟨some 24, none, (.load 77 (.tmp 23))⟩,
              ⟨some 25, none, (.call ⟨(.value (.func 81)), #[(.tmp 20), (.tmp 24)], #[77, 77]⟩)⟩,
              ⟨some 26, none, (.unOp .not 4 (.tmp 25))⟩])
            (.cond (.tmp 26)
             (.seq
              (.ops [⟨some 4, none, (.assign (.const (.bool false)))⟩])
              .ret)
             .skip)))
          (.ops [⟨some 15, none, (.move (.tmp 5))⟩,
            ⟨some 16, none, (.binOp .add 3 (.tmp 15) (.const (.int .i64 1)) 3)⟩,
            ⟨some 5, none, (.assign (.tmp 16))⟩]))))))
     (.seq
      (.ops [⟨some 4, none, (.assign (.const (.bool true)))⟩])
      .ret))))
theorem w50 {args : Array Value} {H : AH} {Φ : Value → AH → Prop} (h : rW Try.prog k50 [] (fin Try.prog [(.tmp 4)] Φ) (tm0 args) H) : CallsA Try.prog 50 args H Φ :=
  CallsA.w k50 [(.tmp 4)] (fun i => if i = 6 then [(3, 0), (7, 0)] else []) Try.func50 rfl rfl (by kernel_rfl) (by kernel_rfl) h

/-- laws.eqTree -/
def k25 : KC :=
  (.seq
   (.ops [⟨some 2, none, (.box 45 (.tmp 0))⟩,
     ⟨some 3, none, (.box 45 (.tmp 1))⟩,
     ⟨some 4, none, (.assign (.const (.bool false)))⟩])
   (.seq
    (.seq
     (.ops [⟨some 5, none, (.fieldAddr 45 (.tmp 2) 0)⟩,
       ⟨some 6, none, (.load 43 (.tmp 5))⟩,
       ⟨some 7, none, (.fieldAddr 45 (.tmp 3) 0)⟩,
       ⟨some 8, none, (.load 43 (.tmp 7))⟩,
       ⟨some 9, none, (.call ⟨(.value (.func 50)), #[(.tmp 6), (.tmp 8)], #[43, 43]⟩)⟩,
       ⟨some 10, none, (.unOp .not 4 (.tmp 9))⟩])
     (.cond (.tmp 10)
      (.seq
       (.ops [⟨some 4, none, (.assign (.const (.bool false)))⟩])
       .ret)
      .skip))
    (.seq
     (.ops [⟨some 4, none, (.assign (.const (.bool true)))⟩])
     .ret)))
theorem w25 {args : Array Value} {H : AH} {Φ : Value → AH → Prop} (h : rW Try.prog k25 [] (fin Try.prog [(.tmp 4)] Φ) (tm0 args) H) : CallsA Try.prog 25 args H Φ :=
  CallsA.w k25 [(.tmp 4)] (fun _ => []) Try.func25 rfl rfl (by kernel_rfl) (by kernel_rfl) h

/-- laws.markExprS -/
def k51 : KC :=
  (.seq
   (.ops [⟨some 4, none, (.assign (.const (.int .i64 0)))⟩])
   (.seq
    (.seq
     (.ops [⟨some 5, none, (.assign (.const (.int .i64 0)))⟩])
     (.block 0
      (.loop
       (.seq
        (.seq
         (.ops [⟨some 6, none, (.move (.tmp 5))⟩,
           ⟨some 7, none, (.move (.tmp 0))⟩,
           ⟨some 8, none, (.call ⟨(.builtin .len), #[(.tmp 7)], #[43]⟩)⟩,
           ⟨some 9, none, (.binOp .lss 3 (.tmp 6) (.tmp 8) 3)⟩])
         (.cond (.tmp 9)
          .skip
          (.exit 0)))
        (.seq
         (.block 1
          (.seq
           (.ops [⟨some 12, none, (.move (.tmp 0))⟩,
             ⟨some 13, none, (.move (.tmp 5))⟩,
             ⟨some 14, none, (.move (.tmp 1))⟩,
             ⟨some 15, none, (.indexAddr 43 (.tmp 12) (.tmp 13))⟩,
             ⟨some 16, none, (.fieldAddr 77 (.tmp 15) 0)⟩,
             ⟨none, none, (.store 3 (.tmp 16) (.tmp 14))⟩])
           (.seq
            (.ops [⟨some 17, none, (.move (.tmp 1))⟩,
              ⟨some 18, none, (.binOp .add 3 (.tmp 17) (.const (.int .i64 1)) 3)⟩,
              ⟨some 1, none, (.assign (.tmp 18))⟩])
            (.seq
             (.ops [⟨some 19, none, (.move (.tmp 0))⟩,
               ⟨some 20, none, (.move (.tmp 5))⟩,
               ⟨some 21, none, (.move (.tmp 1))⟩,
               ⟨some 22, none, (.indexAddr 43 (.tmp 19) (.tmp 20))⟩,
               ⟨some 23, none, (.fieldAddr 77 (.tmp 22) 1)⟩,
               ⟨none, none, (.store 3 (.tmp 23) (.tmp 21))⟩])
             (.seq
              (.ops [⟨some 24, none, (.move (.tmp 1))⟩,
                ⟨some 25, none, (.binOp .add 3 (.tmp 24) (.const (.int .i64 1)) 3)⟩,
                ⟨some 1, none, (.assign (.tmp 25))⟩])
              (.seq
               (.ops [⟨some 26, none, (.move (.tmp 0))⟩,
                 ⟨some 27, none, (.move (.tmp 5))⟩,
                 ⟨some 28, none, (.move (.tmp 1))⟩,
                 ⟨some 29, none, (.indexAddr 43 (.tmp 26) (.tmp 27))⟩,
                 ⟨some 30, none, (.fieldAddr 77 (.tmp 29) 2)⟩,
                 ⟨none, none, (.store 3 (.tmp 30) (.tmp 28))⟩])
               (.seq
                (.ops [⟨some 31, none, (.move (.tmp 1))⟩,
                  ⟨some 32, none, (.binOp .add 3 (.tmp 31) (.const (.int .i64 1)) 3)⟩,
                  ⟨some 1, none, (.assign (.tmp 32))⟩])
                (.seq
                 (.ops [⟨some 33, none, (.move (.tmp 0))⟩,
                   ⟨some 34, none, (.move (.tmp 5))⟩,
                   ⟨some 35, none, (.move (.tmp 1))⟩,
                   ⟨some 36, none, (.indexAddr 43 (.tmp 33) (.tmp 34))⟩,
                   ⟨some 37, none, (.fieldAddr 77 (.tmp 36) 3)⟩,
                   ⟨some 38, none, (.fieldAddr 61 (.tmp 37) 0)⟩,
                   ⟨none, none, (.store 3 (.tmp 38) (.tmp 35))⟩])
                 (.seq
                  (.ops [⟨some 39, none, (.move (.tmp 1))⟩,
                    ⟨some 40, none, (.binOp .add 3 (.tmp 39) (.const (.int .i64 1)) 3)⟩,
                    ⟨some 1, none, (.assign (.tmp 40))⟩])
                  (.seq
                   (.ops [⟨some 41, none, (.move (.tmp 0))⟩,
                     ⟨some 42, none, (.move (.tmp 5))⟩,
                     ⟨some 43, none, (.move (.tmp 1))⟩,
                     ⟨some 44, none, (.indexAddr 43 (.tmp 41) (.tmp 42))⟩,
                     ⟨some 45, none, (.fieldAddr 77 (.tmp 44) 3)⟩,
                     ⟨some 46, none, (.fieldAddr 61 (.tmp 45) 1)⟩,
                     ⟨none, none, (.store 3 (.tmp 46) (.tmp 43))⟩])
                   (.seq
                    (.ops [⟨some 47, none, (.move (.tmp 1))⟩,
                      ⟨some 48, none, (.binOp .add 3 (.tmp 47) (.const (.int .i64 1)) 3)⟩,
                      ⟨some 1, none, (.assign (.tmp 48))⟩])
                    (.seq
                     (.ops [⟨some 49, none, (.move (.tmp 0))⟩,
                       ⟨some 50, none, (.move (.tmp 5))⟩,
                       ⟨some 51, none, (.move (.tmp 1))⟩,
                       ⟨some 52, none, (.indexAddr 43 (.tmp 49) (.tmp 50))⟩,
                       ⟨some 53, none, (.fieldAddr 77 (.tmp 52) 3)⟩,
                       ⟨some 54, none, (.fieldAddr 61 (.tmp 53) 2)⟩,
                       ⟨none, none, (.store 3 (.tmp 54) (.tmp 51))⟩])
                     (.seq
                      (.ops [⟨some 55, none, (.move (.tmp 1))⟩,
                        ⟨some 56, none, (.binOp .add 3 (.tmp 55) (.const (.int .i64 1)) 3)⟩,
                        ⟨some 1, none, (.assign (.tmp 56))⟩])
                      (.ops [⟨some 57, none, (.move (.tmp 0))⟩,
                        ⟨some 58, none, (.move (.tmp 5))⟩,
                        ⟨some 59, none, (.indexAddr 43 (.tmp 57) (.tmp 58))⟩,
                        ⟨some 60, none, (.fieldAddr 77 (.tmp 59) 4)⟩,
                        ⟨some 61, none, (.load 58 (.tmp 60))⟩,
                        ⟨some 62, none, (.move (.tmp 1))⟩,
                        ⟨some 63, none, (.call ⟨(.value (.func 42)), #[(.tmp 61), (.tmp 62)], #[58, 3]⟩)⟩,
                        ⟨some 1, none, (.assign (.tmp 63))⟩]))))))))))))))
         (.ops [⟨some 10, none, (.move (.tmp 5))⟩,
           ⟨some 11, none, (.binOp .add 3 (.tmp 10) (.const (.int .i64 1)) 3)⟩,
           ⟨some 5, none, (.assign (.tmp 11))⟩]))))))
    (.seq
     (.ops [⟨some 64, none, (.move (.tmp 1))⟩,
       ⟨some 4, none, (.assign (.tmp 64))⟩])
     .ret)))
theorem w51 {args : Array Value} {H : AH} {Φ : Value → AH → Prop} (h : rW Try.prog k51 [] (fin Try.prog [(.tmp 4)] Φ) (tm0 args) H) : CallsA Try.prog 51 args H Φ :=
  CallsA.w k51 [(.tmp 4)] (fun _ => []) Try.func51 rfl rfl (by kernel_rfl) (by kernel_rfl) h

/-- laws.markTree -/
def k26 : KC :=
  (.seq
   (.ops [⟨some 2, none, (.box 45 (.tmp 0))⟩,
     ⟨some 4, none, (.assign (.const (.int .i64 0)))⟩])
   (.seq
    (.ops [⟨some 5, none, (.fieldAddr 45 (.tmp 2) 0)⟩,
      ⟨some 6, none, (.load 43 (.tmp 5))⟩,
      ⟨some 7, none, (.move (.tmp 1))⟩,
      ⟨some 8, none, (.call ⟨(.value (.func 51)), #[(.tmp 6), (.tmp 7)], #[43, 3]⟩)⟩,
      ⟨some 1, none, (.assign (.tmp 8))⟩])
    (.seq
     (.ops [⟨some 9, none, (.move (.tmp 1))⟩,
       ⟨some 4, none, (.assign (.tmp 9))⟩])
     .ret)))
theorem w26 {args : Array Value} {H : AH} {Φ : Value → AH → Prop} (h : rW Try.prog k26 [] (fin Try.prog [(.tmp 4)] Φ) (tm0 args) H) : CallsA Try.prog 26 args H Φ :=
  CallsA.w k26 [(.tmp 4)] (fun _ => []) Try.func26 rfl rfl (by kernel_rfl) (by kernel_rfl) h

/-- laws.FnExactCompile -/
def k5 : KC :=
  (.seq
   (.ops [⟨some 1, none, (.box 40 (.tmp 0))⟩,
     ⟨some 2, none, (.assign (.const (.bool false)))⟩])
   (.seq
    (.ops [⟨some 3, none, (.assign (.const (.int .i64 1048576)))⟩])
    (.seq
     (.ops [⟨some 14, none, (.load 40 (.tmp 1))⟩,
       ⟨some 15, none, (.move (.tmp 3))⟩,
       ⟨some 16, none, (.call ⟨(.value (.func 21)), #[(.tmp 14), (.tmp 15)], #[40, 3]⟩)⟩,
       ⟨some 3, none, (.assign (.tmp 16))⟩])
     (.seq
      (.seq
       (.ops [⟨some 17, none, (.move (.tmp 3))⟩,
         ⟨some 18, none, (.binOp .lss 3 (.tmp 17) (.const (.int .i64 0)) 3)⟩])
       (.cond (.tmp 18)
        (.seq
         (.ops [⟨some 2, none, (.assign (.const (.bool true)))⟩])
         .ret)
        .skip))
      (.seq
       (.ops [⟨some 20, none, (.load 40 (.tmp 1))⟩,
         ⟨some 21, none, (.call ⟨(.value (.func 23)), #[(.tmp 20)], #[40]⟩)⟩,
         ⟨some 22, none, (.call ⟨(.value (.func 22)), #[(.tmp 21)], #[45]⟩)⟩,
         ⟨some 19, none, (.move (.tmp 22))⟩,
         ⟨some 23, none, (.extract (.tmp 19) 0)⟩,
         ⟨some 24, none, (.extract (.tmp 19) 1)⟩,
         ⟨some 4, none, (.assign (.tmp 23))⟩,
         ⟨some 5, none, (.assign (.tmp 24))⟩])
       (.seq
        (.ops [⟨some 25, none, (.load 40 (.tmp 1))⟩,
          ⟨some 26, none, (.call ⟨(.value (.func 23)), #[(.tmp 25)], #[40]⟩)⟩,
          ⟨some 6, none, (.alloc 45)⟩,
          ⟨none, none, (.store 45 (.tmp 6) (.tmp 26))⟩])
        (.seq
         (.ops [⟨some 28, none, (.load 45 (.tmp 6))⟩,
           ⟨some 29, none, (.call ⟨(.value (.func 24)), #[(.tmp 28)], #[45]⟩)⟩,
           ⟨some 27, none, (.move (.tmp 29))⟩,
           ⟨some 30, none, (.extract (.tmp 27) 0)⟩,
           ⟨some 31, none, (.extract (.tmp 27) 1)⟩,
           ⟨some 7, none, (.assign (.tmp 30))⟩,
           ⟨some 8, none, (.assign (.tmp 31))⟩])
         (.seq
          (.seq
           (.ops [⟨some 32, none, (.move (.tmp 7))⟩,
             ⟨some 33, none, (.move (.tmp 4))⟩,
             ⟨some 34, none, (.call ⟨(.value (.func 13)), #[(.tmp 32), (.tmp 33)], #[27, 27]⟩)⟩,
             ⟨some 35, none, (.unOp .not 4 (.tmp 34))⟩,
             ⟨some 36, none, (.move (.tmp 35))⟩,
             ⟨some 37, (some (36, false)), (.move (.tmp 8))⟩,
             ⟨some 38, (some (36, false)), (.move (.tmp 5))⟩,
             ⟨some 39, (some (36, false)), (.binOp .neq 4 (.tmp 37) (.tmp 38) 4)⟩,
             ⟨some 40, none, (.pick (.tmp 36) (.const (.bool true)) (.tmp 39))⟩])
           (.cond (.tmp 40)
            (.seq
             (.ops [⟨some 2, none, (.assign (.const (.bool false)))⟩])
             .ret)
            .skip))
          (.seq
           (.seq
            (.draw #[] [(0, 0), (0, 3), (1, 0)]
              [⟨some 41, none, (.load 45 (.tmp 6))⟩,
              ⟨some 42, none, (.load 40 (.tmp 1))⟩,
              ⟨some 43, none, (.call ⟨(.value (.func 23)), #[(.tmp 42)], #[40]⟩)⟩,
              ⟨some 44, none, (.call ⟨(.value (.func 25)), #[(.tmp 41), (.tmp 43)], #[45, 45]⟩)⟩,
              ⟨some 45, none, (.unOp .not 4 (.tmp 44))⟩])
            (.cond (.tmp 45)
             (.seq
              (.ops [⟨some 2, none, (.assign (.const (.bool false)))⟩])
              .ret)
             .skip))
           (.seq
            (.ops [⟨some 9, none, (.assign (.const (.int .i64 1)))⟩])
            (.seq
             (.ops [⟨some 46, none, (.load 45 (.tmp 6))⟩,
               ⟨some 47, none, (.move (.tmp 9))⟩,
               ⟨some 48, none, (.call ⟨(.value (.func 26)), #[(.tmp 46), (.tmp 47)], #[45, 3]⟩)⟩,
               ⟨some 9, none, (.assign (.tmp 48))⟩])
             (.seq
              (.seq
               (.ops [⟨some 49, none, (.move (.tmp 9))⟩,
                 ⟨some 50, none, (.binOp .lss 3 (.tmp 49) (.const (.int .i64 0)) 3)⟩,
                 ⟨some 51, none, (.move (.tmp 50))⟩,
                 ⟨some 52, (some (51, false)), (.move (.tmp 7))⟩,
                 ⟨some 53, (some (51, false)), (.move (.tmp 4))⟩,
                 ⟨some 54, (some (51, false)), (.call ⟨(.value (.func 13)), #[(.tmp 52), (.tmp 53)], #[27, 27]⟩)⟩,
                 ⟨some 55, (some (51, false)), (.unOp .not 4 (.tmp 54))⟩,
                 ⟨some 56, none, (.pick (.tmp 51) (.const (.bool true)) (.tmp 55))⟩,
                 ⟨some 57, none, (.move (.tmp 56))⟩,
                 ⟨some 58, (some (57, false)), (.move (.tmp 8))⟩,
                 ⟨some 59, (some (57, false)), (.move (.tmp 5))⟩,
                 ⟨some 60, (some (57, false)), (.binOp .neq 4 (.tmp 58) (.tmp 59) 4)⟩,
                 ⟨some 61, none, (.pick (.tmp 57) (.const (.bool true)) (.tmp 60))⟩])
               (.cond (.tmp 61)
                (.seq
                 (.ops [⟨some 2, none, (.assign (.const (.bool false)))⟩])
                 .ret)
                .skip))
              (.seq
               (.ops [⟨some 10, none, (.assign (.const (.int .i64 1)))⟩])
               (.seq
                (.ops [⟨some 62, none, (.move (.tmp 7))⟩,
                  ⟨some 63, none, (.move (.tmp 10))⟩,
                  ⟨some 64, none, (.call ⟨(.value (.func 14)), #[(.tmp 62), (.tmp 63)], #[27, 3]⟩)⟩,
                  ⟨some 10, none, (.assign (.tmp 64))⟩])
                (.seq
                 (.ops [⟨some 11, none, (.assign (.const (.int .i64 1)))⟩])
                 (.seq
                  (.ops [⟨some 65, none, (.move (.tmp 7))⟩,
                    ⟨some 66, none, (.move (.tmp 11))⟩,
                    ⟨some 67, none, (.call ⟨(.value (.func 20)), #[(.tmp 65), (.tmp 66)], #[27, 3]⟩)⟩,
                    ⟨some 11, none, (.assign (.tmp 67))⟩])
                  (.seq
                   (.seq
                    (.ops [⟨some 68, none, (.move (.tmp 11))⟩,
                      ⟨some 69, none, (.binOp .lss 3 (.tmp 68) (.const (.int .i64 0)) 3)⟩])
                    (.cond (.tmp 69)
                     (.seq
                      (.ops [⟨some 2, none, (.assign (.const (.bool false)))⟩])
                      .ret)
                     .skip))
                   (.seq
                    (.seq
                     (.ops [⟨some 70, none, (.move (.tmp 11))⟩,
                       ⟨some 71, none, (.move (.tmp 10))⟩,
                       ⟨some 72, none, (.binOp .neq 3 (.tmp 70) (.tmp 71) 3)⟩])
                     (.cond (.tmp 72)
                      (.seq
                       (.ops [⟨some 2, none, (.assign (.const (.bool false)))⟩])
                       .ret)
                      .skip))
                    (.seq
                     (.ops [⟨some 74, none, (.load 40 (.tmp 1))⟩,
                       ⟨some 75, none, (.call ⟨(.value (.func 23)), #[(.tmp 74)], #[40]⟩)⟩,
                       ⟨some 76, none, (.call ⟨(.value (.func 24)), #[(.tmp 75)], #[45]⟩)⟩,
                       ⟨some 73, none, (.move (.tmp 76))⟩,
                       ⟨some 77, none, (.extract (.tmp 73) 0)⟩,
                       ⟨some 78, none, (.extract (.tmp 73) 1)⟩,
                       ⟨some 12, none, (.assign (.tmp 77))⟩,
                       ⟨some 13, none, (.assign (.tmp 78))⟩])
                     (.seq
                      (.seq
                       (.ops [⟨some 79, none, (.move (.tmp 12))⟩,
                         ⟨some 80, none, (.move (.tmp 4))⟩,
                         ⟨some 81, none, (.call ⟨(.value (.func 13)), #[(.tmp 79), (.tmp 80)], #[27, 27]⟩)⟩,
                         ⟨some 82, none, (.unOp .not 4 (.tmp 81))⟩,
                         ⟨some 83, none, (.move (.tmp 82))⟩,
                         ⟨some 84, (some (83, false)), (.move (.tmp 13))⟩,
                         ⟨some 85, (some (83, false)), (.move (.tmp 5))⟩,
                         ⟨some 86, (some (83, false)), (.binOp .neq 4 (.tmp 84) (.tmp 85) 4)⟩,
                         ⟨some 87, none, (.pick (.tmp 83) (.const (.bool true)) (.tmp 86))⟩])
                       (.cond (.tmp 87)
                        (.seq
                         (.ops [⟨some 2, none, (.assign (.const (.bool false)))⟩])
                         .ret)
                        .skip))
                      (.seq
                       (.ops [⟨some 11, none, (.assign (.const (.int .i64 1)))⟩])
                       (.seq
                        (.ops [⟨some 88, none, (.move (.tmp 7))⟩,
                          ⟨some 89, none, (.move (.tmp 11))⟩,
                          ⟨some 90, none, (.call ⟨(.value (.func 20)), #[(.tmp 88), (.tmp 89)], #[27, 3]⟩)⟩,
                          ⟨some 11, none, (.assign (.tmp 90))⟩])
                        (.seq
                         (.seq
                          (.ops [⟨some 91, none, (.move (.tmp 11))⟩,
                            ⟨some 92, none, (.binOp .lss 3 (.tmp 91) (.const (.int .i64 0)) 3)⟩])
                          (.cond (.tmp 92)
                           (.seq
                            (.ops [⟨some 2, none, (.assign (.const (.bool false)))⟩])
                            .ret)
                           .skip))
                         (.seq
                          (.seq
                           (.ops [⟨some 93, none, (.move (.tmp 11))⟩,
                             ⟨some 94, none, (.move (.tmp 10))⟩,
                             ⟨some 95, none, (.binOp .neq 3 (.tmp 93) (.tmp 94) 3)⟩])
                           (.cond (.tmp 95)
                            (.seq
                             (.ops [⟨some 2, none, (.assign (.const (.bool false)))⟩])
                             .ret)
                            .skip))
                          (.seq
                           (.ops [⟨some 2, none, (.assign (.const (.bool true)))⟩])
                           .ret)))))))))))))))))))))))))
theorem w5 {args : Array Value} {H : AH} {Φ : Value → AH → Prop} (h : rW Try.prog k5 [] (fin Try.prog [(.tmp 2)] Φ) (tm0 args) H) : CallsA Try.prog 5 args H Φ :=
  CallsA.w k5 [(.tmp 2)] (fun i => if i = 10 then [(0, 0), (0, 3), (1, 0)] else []) Try.func5 rfl rfl (by kernel_rfl) (by kernel_rfl) h

end Go.Proofs.Ytamlfhngenndfaa.AM
