/- The code of the functions that the laws reach, made short; and facts on the types that they use. -/
import Derived.Test.YtpclegiocblpmaaA8
import Derived.KernelRfl
import Derived.Test.YtpclegiocblpmaaRows
set_option linter.unusedVariables false
set_option linter.unusedSimpArgs false
set_option linter.defProp false
set_option maxRecDepth 100000
/- The code of the functions that the laws reach, made short; and facts on the types that they use. -/
namespace Go.Proofs.Ytpclegiocblpmaa.AM
open Go Go.Proofs.Ytpclegiocblpmaa Go.Proofs

theorem al26 {ev : Operand → Value} : aMake Try.prog ev (.alloc 26) = some ([.slice none 0 0, .slice none 0 0], none) := by kernel_rfl
theorem al43 {ev : Operand → Value} : aMake Try.prog ev (.alloc 43) = some ([.int .i64 0, .int .i64 0, .int .i64 0, .int .i64 0, .int .i64 0, .int .i64 0, .slice none 0 0], none) := by kernel_rfl
theorem al49 {ev : Operand → Value} : aMake Try.prog ev (.alloc 49) = some ([.bool false, .slice none 0 0, .slice none 0 0], none) := by kernel_rfl
theorem ap24_24 {a a' : Option Addr} {n c n' c' : Nat} {H : AH} : aAppend Try.prog #[24, 24] #[.slice a n c, .slice a' n' c'] H = app 1 (.slice a n c) (.slice a' n' c') H := append_eq (z := .int .i64 0) (e := 3) (e' := 3) (by kernel_rfl) (by kernel_rfl) (by kernel_rfl) (by kernel_rfl) (by kernel_rfl) (by kernel_rfl)
theorem ap35_35 {a a' : Option Addr} {n c n' c' : Nat} {H : AH} : aAppend Try.prog #[35, 35] #[.slice a n c, .slice a' n' c'] H = app 3 (.slice a n c) (.slice a' n' c') H := append_eq (z := .agg #[.bool false, .slice none 0 0, .slice none 0 0]) (e := 49) (e' := 49) (by kernel_rfl) (by kernel_rfl) (by kernel_rfl) (by kernel_rfl) (by kernel_rfl) (by kernel_rfl)
theorem ap62_62 {a a' : Option Addr} {n c n' c' : Nat} {H : AH} : aAppend Try.prog #[62, 62] #[.slice a n c, .slice a' n' c'] H = app 2 (.slice a n c) (.slice a' n' c') H := append_eq (z := .agg #[.slice none 0 0, .slice none 0 0]) (e := 26) (e' := 26) (by kernel_rfl) (by kernel_rfl) (by kernel_rfl) (by kernel_rfl) (by kernel_rfl) (by kernel_rfl)
theorem bd26 {ps : Array (Nat × Value)} : aBuild Try.prog 26 ps = (fillP [(0, 1), (1, 1)] [.slice none 0 0, .slice none 0 0] ps.toList).map fun cs => .agg cs.toArray := build_eq (z := .agg #[.slice none 0 0, .slice none 0 0]) Try.underlying26 (by kernel_rfl) (by kernel_rfl) (by kernel_rfl) rfl
theorem bd41 {ps : Array (Nat × Value)} : aBuild Try.prog 41 ps = (fillP [(0, 1), (1, 1), (2, 1)] [.int .i64 0, .int .i64 0, .int .i64 0] ps.toList).map fun cs => .agg cs.toArray := build_eq (z := .agg #[.int .i64 0, .int .i64 0, .int .i64 0]) Try.underlying41 (by kernel_rfl) (by kernel_rfl) (by kernel_rfl) rfl
theorem bd43 {ps : Array (Nat × Value)} : aBuild Try.prog 43 ps = (fillP [(0, 1), (1, 1), (2, 1), (3, 3), (6, 1)] [.int .i64 0, .int .i64 0, .int .i64 0, .int .i64 0, .int .i64 0, .int .i64 0, .slice none 0 0] ps.toList).map fun cs => .agg cs.toArray := build_eq (z := .agg #[.int .i64 0, .int .i64 0, .int .i64 0, .int .i64 0, .int .i64 0, .int .i64 0, .slice none 0 0]) Try.underlying43 (by kernel_rfl) (by kernel_rfl) (by kernel_rfl) rfl
theorem bd46 {ps : Array (Nat × Value)} : aBuild Try.prog 46 ps = (fillP [(0, 1)] [.slice none 0 0] ps.toList).map fun cs => .agg cs.toArray := build_eq (z := .agg #[.slice none 0 0]) Try.underlying46 (by kernel_rfl) (by kernel_rfl) (by kernel_rfl) rfl
theorem bd49 {ps : Array (Nat × Value)} : aBuild Try.prog 49 ps = (fillP [(0, 1), (1, 2)] [.bool false, .slice none 0 0, .slice none 0 0] ps.toList).map fun cs => .agg cs.toArray := build_eq (z := .agg #[.bool false, .slice none 0 0, .slice none 0 0]) Try.underlying49 (by kernel_rfl) (by kernel_rfl) (by kernel_rfl) rfl
theorem bs24_1 {ev : Operand → Value} {x0 : Operand} : aMake Try.prog ev (.buildSlice 24 1 #[(0, x0)]) = (fillP [(0, 1)] [.int .i64 0] [(0, ev x0)]).map fun cs => (cs, some (1, 1)) := bslice_eq (z := .int .i64 0) (e := 3) (by kernel_rfl) (by kernel_rfl) (by kernel_rfl) (by decide) (by kernel_rfl) (by kernel_rfl) rfl rfl
theorem bs35_1 {ev : Operand → Value} {x0 : Operand} : aMake Try.prog ev (.buildSlice 35 1 #[(0, x0)]) = (fillP [(0, 3)] [.bool false, .slice none 0 0, .slice none 0 0] [(0, ev x0)]).map fun cs => (cs, some (1, 3)) := bslice_eq (z := .agg #[.bool false, .slice none 0 0, .slice none 0 0]) (e := 49) (by kernel_rfl) (by kernel_rfl) (by kernel_rfl) (by decide) (by kernel_rfl) (by kernel_rfl) rfl rfl
theorem bs44_1 {ev : Operand → Value} {x0 : Operand} : aMake Try.prog ev (.buildSlice 44 1 #[(0, x0)]) = (fillP [(0, 7)] [.int .i64 0, .int .i64 0, .int .i64 0, .int .i64 0, .int .i64 0, .int .i64 0, .slice none 0 0] [(0, ev x0)]).map fun cs => (cs, some (1, 7)) := bslice_eq (z := .agg #[.int .i64 0, .int .i64 0, .int .i64 0, .int .i64 0, .int .i64 0, .int .i64 0, .slice none 0 0]) (e := 43) (by kernel_rfl) (by kernel_rfl) (by kernel_rfl) (by decide) (by kernel_rfl) (by kernel_rfl) rfl rfl
theorem bs62_1 {ev : Operand → Value} {x0 : Operand} : aMake Try.prog ev (.buildSlice 62 1 #[(0, x0)]) = (fillP [(0, 2)] [.slice none 0 0, .slice none 0 0] [(0, ev x0)]).map fun cs => (cs, some (1, 2)) := bslice_eq (z := .agg #[.slice none 0 0, .slice none 0 0]) (e := 26) (by kernel_rfl) (by kernel_rfl) (by kernel_rfl) (by decide) (by kernel_rfl) (by kernel_rfl) rfl rfl
theorem cv5_3 {k : IntKind} {n : Int} {G : Hp} : aConv Try.prog 5 3 (.int k n) G = some (.int .i64 (IntKind.i64.wrap n)) := conv_int (e := .int .u8) (by kernel_rfl) (by kernel_rfl)
theorem ef41 {a0 b0 a1 b1 a2 b2 : Int} {x y : Operand} : aBin Try.prog .eql 41 x y (.agg #[.int .i64 a0, .int .i64 a1, .int .i64 a2]) (.agg #[.int .i64 b0, .int .i64 b1, .int .i64 b2]) = some (.bool (a0 == b0 && (a1 == b1 && (a2 == b2 && true)))) := by
  refine bin_eql_agg Try.underlying41 (by kernel_rfl) (by kernel_rfl) (by simp [scal1]) ?_
  rw [eqF_cons (k := .i64) (k' := .i64) (a := a0) (b := b0) (by decide) (by kernel_rfl) (by kernel_rfl) (by kernel_rfl)]
  rw [eqF_cons (k := .i64) (k' := .i64) (a := a1) (b := b1) (by decide) (by kernel_rfl) (by kernel_rfl) (by kernel_rfl)]
  rw [eqF_cons (k := .i64) (k' := .i64) (a := a2) (b := b2) (by decide) (by kernel_rfl) (by kernel_rfl) (by kernel_rfl)]
  simp only [ite_and, eqF_nil]
theorem eg41 {a0 b0 a1 b1 a2 b2 : Int} {x y : Operand} : aBin Try.prog .neq 41 x y (.agg #[.int .i64 a0, .int .i64 a1, .int .i64 a2]) (.agg #[.int .i64 b0, .int .i64 b1, .int .i64 b2]) = some (.bool (!(a0 == b0 && (a1 == b1 && (a2 == b2 && true))))) := by
  refine bin_neq_agg Try.underlying41 (by kernel_rfl) (by kernel_rfl) (by simp [scal1]) ?_
  rw [eqF_cons (k := .i64) (k' := .i64) (a := a0) (b := b0) (by decide) (by kernel_rfl) (by kernel_rfl) (by kernel_rfl)]
  rw [eqF_cons (k := .i64) (k' := .i64) (a := a1) (b := b1) (by decide) (by kernel_rfl) (by kernel_rfl) (by kernel_rfl)]
  rw [eqF_cons (k := .i64) (k' := .i64) (a := a2) (b := b2) (by decide) (by kernel_rfl) (by kernel_rfl) (by kernel_rfl)]
  simp only [ite_and, eqF_nil]
theorem fa26_0 {b o : Nat} : aFieldAddr Try.prog 26 (.pointer (some ⟨b, o, none⟩)) 0 = some (.pointer (some ⟨b, o + 0, none⟩)) := by kernel_rfl
theorem fa26_1 {b o : Nat} : aFieldAddr Try.prog 26 (.pointer (some ⟨b, o, none⟩)) 1 = some (.pointer (some ⟨b, o + 1, none⟩)) := by kernel_rfl
theorem fa41_0 {b o : Nat} : aFieldAddr Try.prog 41 (.pointer (some ⟨b, o, none⟩)) 0 = some (.pointer (some ⟨b, o + 0, none⟩)) := by kernel_rfl
theorem fa41_1 {b o : Nat} : aFieldAddr Try.prog 41 (.pointer (some ⟨b, o, none⟩)) 1 = some (.pointer (some ⟨b, o + 1, none⟩)) := by kernel_rfl
theorem fa41_2 {b o : Nat} : aFieldAddr Try.prog 41 (.pointer (some ⟨b, o, none⟩)) 2 = some (.pointer (some ⟨b, o + 2, none⟩)) := by kernel_rfl
theorem fa43_0 {b o : Nat} : aFieldAddr Try.prog 43 (.pointer (some ⟨b, o, none⟩)) 0 = some (.pointer (some ⟨b, o + 0, none⟩)) := by kernel_rfl
theorem fa43_1 {b o : Nat} : aFieldAddr Try.prog 43 (.pointer (some ⟨b, o, none⟩)) 1 = some (.pointer (some ⟨b, o + 1, none⟩)) := by kernel_rfl
theorem fa43_2 {b o : Nat} : aFieldAddr Try.prog 43 (.pointer (some ⟨b, o, none⟩)) 2 = some (.pointer (some ⟨b, o + 2, none⟩)) := by kernel_rfl
theorem fa43_3 {b o : Nat} : aFieldAddr Try.prog 43 (.pointer (some ⟨b, o, none⟩)) 3 = some (.pointer (some ⟨b, o + 3, none⟩)) := by kernel_rfl
theorem fa43_4 {b o : Nat} : aFieldAddr Try.prog 43 (.pointer (some ⟨b, o, none⟩)) 4 = some (.pointer (some ⟨b, o + 6, none⟩)) := by kernel_rfl
theorem fa46_0 {b o : Nat} : aFieldAddr Try.prog 46 (.pointer (some ⟨b, o, none⟩)) 0 = some (.pointer (some ⟨b, o + 0, none⟩)) := by kernel_rfl
theorem fa49_0 {b o : Nat} : aFieldAddr Try.prog 49 (.pointer (some ⟨b, o, none⟩)) 0 = some (.pointer (some ⟨b, o + 0, none⟩)) := by kernel_rfl
theorem fa49_1 {b o : Nat} : aFieldAddr Try.prog 49 (.pointer (some ⟨b, o, none⟩)) 1 = some (.pointer (some ⟨b, o + 1, none⟩)) := by kernel_rfl
theorem ix22 {b o n c : Nat} {k : IntKind} {j : Int} : aIndexAddr Try.prog 22 (.slice (some ⟨b, o, none⟩) n c) (.int k j) = if 0 ≤ j ∧ j < n then some (.pointer (some ⟨b, o + j.toNat * 1, none⟩)) else none := by kernel_rfl
theorem ix24 {b o n c : Nat} {k : IntKind} {j : Int} : aIndexAddr Try.prog 24 (.slice (some ⟨b, o, none⟩) n c) (.int k j) = if 0 ≤ j ∧ j < n then some (.pointer (some ⟨b, o + j.toNat * 1, none⟩)) else none := by kernel_rfl
theorem ix35 {b o n c : Nat} {k : IntKind} {j : Int} : aIndexAddr Try.prog 35 (.slice (some ⟨b, o, none⟩) n c) (.int k j) = if 0 ≤ j ∧ j < n then some (.pointer (some ⟨b, o + j.toNat * 3, none⟩)) else none := by kernel_rfl
theorem ix44 {b o n c : Nat} {k : IntKind} {j : Int} : aIndexAddr Try.prog 44 (.slice (some ⟨b, o, none⟩) n c) (.int k j) = if 0 ≤ j ∧ j < n then some (.pointer (some ⟨b, o + j.toNat * 7, none⟩)) else none := by kernel_rfl
theorem ix62 {b o n c : Nat} {k : IntKind} {j : Int} : aIndexAddr Try.prog 62 (.slice (some ⟨b, o, none⟩) n c) (.int k j) = if 0 ≤ j ∧ j < n then some (.pointer (some ⟨b, o + j.toNat * 2, none⟩)) else none := by kernel_rfl
theorem us9 : Try.prog.underlying 9 = some .string := by kernel_rfl
theorem ld3 {o : Nat} {cs : List Value} : ld Try.prog 3 o cs = cs[o]? := ld_one (by kernel_rfl)
theorem ld4 {o : Nat} {cs : List Value} : ld Try.prog 4 o cs = cs[o]? := ld_one (by kernel_rfl)
theorem ld5 {o : Nat} {cs : List Value} : ld Try.prog 5 o cs = cs[o]? := ld_one (by kernel_rfl)
theorem ld24 {o : Nat} {cs : List Value} : ld Try.prog 24 o cs = cs[o]? := ld_one (by kernel_rfl)
theorem ld26 {o : Nat} {cs : List Value} : ld Try.prog 26 o cs = aggAt 2 o cs := ld_agg (by kernel_rfl) (by kernel_rfl)
theorem ld41 {o : Nat} {cs : List Value} : ld Try.prog 41 o cs = aggAt 3 o cs := ld_agg (by kernel_rfl) (by kernel_rfl)
theorem ld43 {o : Nat} {cs : List Value} : ld Try.prog 43 o cs = aggAt 7 o cs := ld_agg (by kernel_rfl) (by kernel_rfl)
theorem ld44 {o : Nat} {cs : List Value} : ld Try.prog 44 o cs = cs[o]? := ld_one (by kernel_rfl)
theorem ld46 {o : Nat} {cs : List Value} : ld Try.prog 46 o cs = aggAt 1 o cs := ld_agg (by kernel_rfl) (by kernel_rfl)
theorem ld49 {o : Nat} {cs : List Value} : ld Try.prog 49 o cs = aggAt 3 o cs := ld_agg (by kernel_rfl) (by kernel_rfl)
theorem ln9 {s : ByteArray} : aLen Try.prog #[9] #[.string s] = some (.int .i64 s.size) := by kernel_rfl
theorem ln22 {a : Option Addr} {n c : Nat} : aLen Try.prog #[22] #[.slice a n c] = some (.int .i64 n) := by kernel_rfl
theorem ln24 {a : Option Addr} {n c : Nat} : aLen Try.prog #[24] #[.slice a n c] = some (.int .i64 n) := by kernel_rfl
theorem ln35 {a : Option Addr} {n c : Nat} : aLen Try.prog #[35] #[.slice a n c] = some (.int .i64 n) := by kernel_rfl
theorem ln44 {a : Option Addr} {n c : Nat} : aLen Try.prog #[44] #[.slice a n c] = some (.int .i64 n) := by kernel_rfl
theorem ln62 {a : Option Addr} {n c : Nat} : aLen Try.prog #[62] #[.slice a n c] = some (.int .i64 n) := by kernel_rfl
theorem ms35 {k k' : IntKind} {n : Int} : mkS Try.prog 35 (.int k n) (.int k' n) = if 0 ≤ n ∧ n ≤ 1073741824 then some ((List.replicate n.toNat [.bool false, .slice none 0 0, .slice none 0 0]).flatten, some (n.toNat, 3)) else none := mkS_eq (z := .agg #[.bool false, .slice none 0 0, .slice none 0 0]) (e := 49) (by kernel_rfl) (by kernel_rfl) (by kernel_rfl) (by kernel_rfl) (by kernel_rfl) (by kernel_rfl) (by decide)
theorem st26 {b o : Nat} {v : Value} {H : AH} : aStore Try.prog 26 (.pointer (some ⟨b, o, none⟩)) v H = sto 2 b o v H (wrt H b) := store_eq (by kernel_rfl)
theorem st43 {b o : Nat} {v : Value} {H : AH} : aStore Try.prog 43 (.pointer (some ⟨b, o, none⟩)) v H = sto 7 b o v H (wrt H b) := store_eq (by kernel_rfl)
theorem st49 {b o : Nat} {v : Value} {H : AH} : aStore Try.prog 49 (.pointer (some ⟨b, o, none⟩)) v H = sto 3 b o v H (wrt H b) := store_eq (by kernel_rfl)
theorem ub4 : Try.prog.underlying 4 = some .bool := by kernel_rfl

/-- laws.big -/
def k7 : KC :=
  (.seq
   (.ops [⟨some 2, none, (.assign (.const (.bool false)))⟩])
   (.seq
    (.ops [⟨some 3, none, (.move (.tmp 0))⟩,
      ⟨some 4, none, (.call ⟨(.builtin .len), #[(.tmp 3)], #[22]⟩)⟩,
      ⟨some 5, none, (.binOp .gtr 3 (.tmp 4) (.const (.int .i64 1048576)) 3)⟩,
      ⟨some 2, none, (.assign (.tmp 5))⟩])
    .ret))
theorem w7 {args : Array Value} {H : AH} {Φ : Value → AH → Prop} (h : rW Try.prog k7 [] (fin Try.prog [(.tmp 2)] Φ) (tm0 args) H) : CallsA Try.prog 7 args H Φ :=
  CallsA.w k7 [(.tmp 2)] (fun _ => []) Try.func7 rfl rfl (by kernel_rfl) (by kernel_rfl) h

/-- impl.VarsNew -/
def k21 : KC :=
  (.seq
   (.ops [⟨some 0, none, (.assign (.const (.slice none 0 0)))⟩])
   (.seq
    (.ops [⟨some 1, none, (.makeSlice 35 (.const (.int .i64 26)) (.const (.int .i64 26)))⟩,
      ⟨some 0, none, (.assign (.tmp 1))⟩])
    .ret))
theorem w21 {args : Array Value} {H : AH} {Φ : Value → AH → Prop} (h : rW Try.prog k21 [] (fin Try.prog [(.tmp 0)] Φ) (tm0 args) H) : CallsA Try.prog 21 args H Φ :=
  CallsA.w k21 [(.tmp 0)] (fun _ => []) Try.func21 rfl rfl (by kernel_rfl) (by kernel_rfl) h

/-- laws.at -/
def k22 : KC :=
  (.seq
   (.ops [⟨some 4, none, (.assign (.const (.int .i64 0)))⟩])
   (.seq
    (.seq
     (.ops [⟨some 5, none, (.move (.tmp 1))⟩,
       ⟨some 6, none, (.move (.tmp 0))⟩,
       ⟨some 7, none, (.call ⟨(.builtin .len), #[(.tmp 6)], #[22]⟩)⟩,
       ⟨some 8, none, (.binOp .lss 3 (.tmp 5) (.tmp 7) 3)⟩])
     (.cond (.tmp 8)
      (.seq
       (.ops [⟨some 9, none, (.move (.tmp 0))⟩,
         ⟨some 10, none, (.move (.tmp 1))⟩,
         ⟨some 11, none, (.indexAddr 22 (.tmp 9) (.tmp 10))⟩,
         ⟨some 12, none, (.load 5 (.tmp 11))⟩,
         ⟨some 13, none, (.convert 5 3 (.tmp 12))⟩,
         ⟨some 4, none, (.assign (.tmp 13))⟩])
       .ret)
      .skip))
    (.seq
     (.ops [⟨some 14, none, (.move (.tmp 1))⟩,
       ⟨some 15, none, (.binOp .mul 3 (.tmp 14) (.const (.int .i64 7)) 3)⟩,
       ⟨some 16, none, (.move (.tmp 0))⟩,
       ⟨some 17, none, (.call ⟨(.builtin .len), #[(.tmp 16)], #[22]⟩)⟩,
       ⟨some 18, none, (.binOp .add 3 (.tmp 15) (.tmp 17) 3)⟩,
       ⟨some 19, none, (.binOp .rem 3 (.tmp 18) (.const (.int .i64 256)) 3)⟩,
       ⟨some 4, none, (.assign (.tmp 19))⟩])
     .ret)))
theorem w22 {args : Array Value} {H : AH} {Φ : Value → AH → Prop} (h : rW Try.prog k22 [] (fin Try.prog [(.tmp 4)] Φ) (tm0 args) H) : CallsA Try.prog 22 args H Φ :=
  CallsA.w k22 [(.tmp 4)] (fun _ => []) Try.func22 rfl rfl (by kernel_rfl) (by kernel_rfl) h

/-- slices.IndexFunc[[]impl.Var,impl.Var] -/
def k100 : KC :=
  (.seq
   (.ops [⟨some 4, none, (.assign (.const (.int .i64 0)))⟩])
   (.seq
    (.seq
     (.ops [⟨some 6, none, (.move (.tmp 0))⟩,
       ⟨some 7, none, (.call ⟨(.builtin .len), #[(.tmp 6)], #[35]⟩)⟩,
       ⟨some 8, none, (.move (.const (.int .i64 0)))⟩])
     (.block 0
      (.loop
       (.seq
        (.ops [⟨some 9, none, (.binOp .lss 3 (.tmp 8) (.tmp 7) 3)⟩])
        (.seq
         (.cond (.tmp 9)
          .skip
          (.exit 0))
         (.seq
          (.block 1
           (.seq
            (.ops [⟨some 10, none, (.move (.tmp 8))⟩,
              ⟨some 5, none, (.assign (.tmp 10))⟩])
            (.seq
             (.ops [⟨some 11, none, (.move (.tmp 1))⟩,
               ⟨some 12, none, (.move (.tmp 0))⟩,
               ⟨some 13, none, (.move (.tmp 5))⟩,
               ⟨some 14, none, (.indexAddr 35 (.tmp 12) (.tmp 13))⟩,
               ⟨some 15, none, (.load 49 (.tmp 14))⟩,
               ⟨some 16, none, (.call ⟨(.value (.tmp 11)), #[(.tmp 15)], #[49]⟩)⟩])
             (.cond (.tmp 16)
              (.seq
               (.ops [⟨some 17, none, (.move (.tmp 5))⟩,
                 ⟨some 4, none, (.assign (.tmp 17))⟩])
               .ret)
              .skip))))
          (.ops [⟨some 18, none, (.binOp .add 3 (.tmp 8) (.const (.int .i64 1)) 3)⟩,
            ⟨some 8, none, (.move (.tmp 18))⟩])))))))
    (.seq
     (.ops [⟨some 4, none, (.assign (.const (.int .i64 (-1))))⟩])
     .ret)))
theorem w100 {args : Array Value} {H : AH} {Φ : Value → AH → Prop} (h : rW Try.prog k100 [] (fin Try.prog [(.tmp 4)] Φ) (tm0 args) H) : CallsA Try.prog 100 args H Φ :=
  CallsA.w k100 [(.tmp 4)] (fun _ => []) Try.func100 rfl rfl (by kernel_rfl) (by kernel_rfl) h

/-- slices.ContainsFunc[[]impl.Var,impl.Var] -/
def k59 : KC :=
  (.seq
   (.ops [⟨some 4, none, (.assign (.const (.bool false)))⟩])
   (.seq
    (.ops [⟨some 5, none, (.move (.tmp 0))⟩,
      ⟨some 6, none, (.move (.tmp 1))⟩,
      ⟨some 7, none, (.call ⟨(.value (.func 100)), #[(.tmp 5), (.tmp 6)], #[35, 81]⟩)⟩,
      ⟨some 8, none, (.binOp .geq 3 (.tmp 7) (.const (.int .i64 0)) 3)⟩,
      ⟨some 4, none, (.assign (.tmp 8))⟩])
    .ret))
theorem w59 {args : Array Value} {H : AH} {Φ : Value → AH → Prop} (h : rW Try.prog k59 [] (fin Try.prog [(.tmp 4)] Φ) (tm0 args) H) : CallsA Try.prog 59 args H Φ :=
  CallsA.w k59 [(.tmp 4)] (fun _ => []) Try.func59 rfl rfl (by kernel_rfl) (by kernel_rfl) h

/-- impl.within -/
def k43 : KC :=
  (.seq
   (.ops [⟨some 6, none, (.assign (.const (.bool false)))⟩])
   (.seq
    (.ops [⟨some 7, none, (.move (.tmp 0))⟩,
      ⟨some 8, none, (.move (.tmp 1))⟩,
      ⟨some 9, none, (.binOp .geq 3 (.tmp 7) (.tmp 8) 3)⟩,
      ⟨some 10, none, (.move (.tmp 9))⟩,
      ⟨some 11, (some (10, true)), (.move (.tmp 0))⟩,
      ⟨some 12, (some (10, true)), (.move (.tmp 2))⟩,
      ⟨some 13, (some (10, true)), (.binOp .leq 3 (.tmp 11) (.tmp 12) 3)⟩,
      ⟨some 14, none, (.pick (.tmp 10) (.tmp 13) (.const (.bool false)))⟩,
      ⟨some 6, none, (.assign (.tmp 14))⟩])
    .ret))
theorem w43 {args : Array Value} {H : AH} {Φ : Value → AH → Prop} (h : rW Try.prog k43 [] (fin Try.prog [(.tmp 6)] Φ) (tm0 args) H) : CallsA Try.prog 43 args H Φ :=
  CallsA.w k43 [(.tmp 6)] (fun _ => []) Try.func43 rfl rfl (by kernel_rfl) (by kernel_rfl) h

/-- impl.SizeOf -/
def k64 : KC :=
  (.seq
   (.ops [⟨some 2, none, (.assign (.const (.int .i64 0)))⟩])
   (.seq
    (.seq
     (.ops [⟨some 6, none, (.move (.tmp 0))⟩,
       ⟨some 7, none, (.call ⟨(.builtin .len), #[(.tmp 6)], #[24]⟩)⟩,
       ⟨some 8, none, (.binOp .gtr 3 (.tmp 7) (.const (.int .i64 3)) 3)⟩])
     (.cond (.tmp 8)
      (.seq
       (.ops [⟨some 2, none, (.assign (.const (.int .i64 (-1))))⟩])
       .ret)
      .skip))
    (.seq
     (.ops [⟨some 3, none, (.assign (.const (.int .i64 1)))⟩])
     (.seq
      (.seq
       (.ops [⟨some 9, none, (.move (.tmp 0))⟩,
         ⟨some 10, none, (.call ⟨(.builtin .len), #[(.tmp 9)], #[24]⟩)⟩,
         ⟨some 11, none, (.move (.const (.int .i64 0)))⟩])
       (.block 0
        (.loop
         (.seq
          (.ops [⟨some 12, none, (.binOp .lss 3 (.tmp 11) (.tmp 10) 3)⟩])
          (.seq
           (.cond (.tmp 12)
            .skip
            (.exit 0))
           (.seq
            (.block 1
             (.seq
              (.ops [⟨some 13, none, (.indexAddr 24 (.tmp 9) (.tmp 11))⟩,
                ⟨some 14, none, (.load 3 (.tmp 13))⟩,
                ⟨some 5, none, (.assign (.tmp 14))⟩])
              (.seq
               (.seq
                (.ops [⟨some 15, none, (.move (.tmp 5))⟩,
                  ⟨some 16, none, (.call ⟨(.value (.func 43)), #[(.tmp 15), (.const (.int .i64 0)), (.const (.int .i64 300))], #[3, 3, 3]⟩)⟩,
                  ⟨some 17, none, (.unOp .not 4 (.tmp 16))⟩])
                (.cond (.tmp 17)
                 (.seq
                  (.ops [⟨some 2, none, (.assign (.const (.int .i64 (-1))))⟩])
                  .ret)
                 .skip))
               (.ops [⟨some 18, none, (.move (.tmp 3))⟩,
                 ⟨some 19, none, (.move (.tmp 5))⟩,
                 ⟨some 20, none, (.binOp .mul 3 (.tmp 18) (.tmp 19) 3)⟩,
                 ⟨some 3, none, (.assign (.tmp 20))⟩]))))
            (.ops [⟨some 21, none, (.binOp .add 3 (.tmp 11) (.const (.int .i64 1)) 3)⟩,
              ⟨some 11, none, (.move (.tmp 21))⟩])))))))
      (.seq
       (.seq
        (.ops [⟨some 22, none, (.move (.tmp 3))⟩,
          ⟨some 23, none, (.binOp .gtr 3 (.tmp 22) (.const (.int .i64 300)) 3)⟩])
        (.cond (.tmp 23)
         (.seq
          (.ops [⟨some 2, none, (.assign (.const (.int .i64 (-1))))⟩])
          .ret)
         .skip))
       (.seq
        (.ops [⟨some 24, none, (.move (.tmp 3))⟩,
          ⟨some 2, none, (.assign (.tmp 24))⟩])
        .ret))))))
theorem w64 {args : Array Value} {H : AH} {Φ : Value → AH → Prop} (h : rW Try.prog k64 [] (fin Try.prog [(.tmp 2)] Φ) (tm0 args) H) : CallsA Try.prog 64 args H Φ :=
  CallsA.w k64 [(.tmp 2)] (fun _ => []) Try.func64 rfl rfl (by kernel_rfl) (by kernel_rfl) h

/-- slices.IndexFunc[[]int,int] -/
def k102 : KC :=
  (.seq
   (.ops [⟨some 4, none, (.assign (.const (.int .i64 0)))⟩])
   (.seq
    (.seq
     (.ops [⟨some 6, none, (.move (.tmp 0))⟩,
       ⟨some 7, none, (.call ⟨(.builtin .len), #[(.tmp 6)], #[24]⟩)⟩,
       ⟨some 8, none, (.move (.const (.int .i64 0)))⟩])
     (.block 0
      (.loop
       (.seq
        (.ops [⟨some 9, none, (.binOp .lss 3 (.tmp 8) (.tmp 7) 3)⟩])
        (.seq
         (.cond (.tmp 9)
          .skip
          (.exit 0))
         (.seq
          (.block 1
           (.seq
            (.ops [⟨some 10, none, (.move (.tmp 8))⟩,
              ⟨some 5, none, (.assign (.tmp 10))⟩])
            (.seq
             (.ops [⟨some 11, none, (.move (.tmp 1))⟩,
               ⟨some 12, none, (.move (.tmp 0))⟩,
               ⟨some 13, none, (.move (.tmp 5))⟩,
               ⟨some 14, none, (.indexAddr 24 (.tmp 12) (.tmp 13))⟩,
               ⟨some 15, none, (.load 3 (.tmp 14))⟩,
               ⟨some 16, none, (.call ⟨(.value (.tmp 11)), #[(.tmp 15)], #[3]⟩)⟩])
             (.cond (.tmp 16)
              (.seq
               (.ops [⟨some 17, none, (.move (.tmp 5))⟩,
                 ⟨some 4, none, (.assign (.tmp 17))⟩])
               .ret)
              .skip))))
          (.ops [⟨some 18, none, (.binOp .add 3 (.tmp 8) (.const (.int .i64 1)) 3)⟩,
            ⟨some 8, none, (.move (.tmp 18))⟩])))))))
    (.seq
     (.ops [⟨some 4, none, (.assign (.const (.int .i64 (-1))))⟩])
     .ret)))
theorem w102 {args : Array Value} {H : AH} {Φ : Value → AH → Prop} (h : rW Try.prog k102 [] (fin Try.prog [(.tmp 4)] Φ) (tm0 args) H) : CallsA Try.prog 102 args H Φ :=
  CallsA.w k102 [(.tmp 4)] (fun _ => []) Try.func102 rfl rfl (by kernel_rfl) (by kernel_rfl) h

/-- slices.ContainsFunc[[]int,int] -/
def k65 : KC :=
  (.seq
   (.ops [⟨some 4, none, (.assign (.const (.bool false)))⟩])
   (.seq
    (.ops [⟨some 5, none, (.move (.tmp 0))⟩,
      ⟨some 6, none, (.move (.tmp 1))⟩,
      ⟨some 7, none, (.call ⟨(.value (.func 102)), #[(.tmp 5), (.tmp 6)], #[24, 60]⟩)⟩,
      ⟨some 8, none, (.binOp .geq 3 (.tmp 7) (.const (.int .i64 0)) 3)⟩,
      ⟨some 4, none, (.assign (.tmp 8))⟩])
    .ret))
theorem w65 {args : Array Value} {H : AH} {Φ : Value → AH → Prop} (h : rW Try.prog k65 [] (fin Try.prog [(.tmp 4)] Φ) (tm0 args) H) : CallsA Try.prog 65 args H Φ :=
  CallsA.w k65 [(.tmp 4)] (fun _ => []) Try.func65 rfl rfl (by kernel_rfl) (by kernel_rfl) h

/-- impl.NumOk -/
def k37 : KC :=
  (.seq
   (.ops [⟨some 2, none, (.assign (.const (.bool false)))⟩])
   (.seq
    (.ops [⟨some 3, none, (.move (.tmp 0))⟩,
      ⟨some 4, none, (.call ⟨(.value (.func 43)), #[(.tmp 3), (.const (.int .i64 (-1000000000000))), (.const (.int .i64 1000000000000))], #[3, 3, 3]⟩)⟩,
      ⟨some 2, none, (.assign (.tmp 4))⟩])
    .ret))
theorem w37 {args : Array Value} {H : AH} {Φ : Value → AH → Prop} (h : rW Try.prog k37 [] (fin Try.prog [(.tmp 2)] Φ) (tm0 args) H) : CallsA Try.prog 37 args H Φ :=
  CallsA.w k37 [(.tmp 2)] (fun _ => []) Try.func37 rfl rfl (by kernel_rfl) (by kernel_rfl) h

/-- impl.ArrayOk$1 -/
def k66 : KC :=
  (.seq
   (.ops [⟨some 2, none, (.assign (.const (.bool false)))⟩])
   (.seq
    (.ops [⟨some 3, none, (.move (.tmp 0))⟩,
      ⟨some 4, none, (.call ⟨(.value (.func 37)), #[(.tmp 3)], #[3]⟩)⟩,
      ⟨some 5, none, (.unOp .not 4 (.tmp 4))⟩,
      ⟨some 2, none, (.assign (.tmp 5))⟩])
    .ret))
theorem w66 {args : Array Value} {H : AH} {Φ : Value → AH → Prop} (h : rW Try.prog k66 [] (fin Try.prog [(.tmp 2)] Φ) (tm0 args) H) : CallsA Try.prog 66 args H Φ :=
  CallsA.w k66 [(.tmp 2)] (fun _ => []) Try.func66 rfl rfl (by kernel_rfl) (by kernel_rfl) h

/-- impl.ArrayOk -/
def k28 : KC :=
  (.seq
   (.ops [⟨some 1, none, (.box 26 (.tmp 0))⟩,
     ⟨some 2, none, (.assign (.const (.bool false)))⟩])
   (.seq
    (.draw #[] [(1, 0), (1, 6), (4, 0), (9, 6)]
      [⟨some 3, none, (.fieldAddr 26 (.tmp 1) 1)⟩,
      ⟨some 4, none, (.load 24 (.tmp 3))⟩,
      ⟨some 5, none, (.call ⟨(.builtin .len), #[(.tmp 4)], #[24]⟩)⟩,
      ⟨some 6, none, (.fieldAddr 26 (.tmp 1) 0)⟩,
      ⟨some 7, none, (.load 24 (.tmp 6))⟩,
      ⟨some 8, none, (.call ⟨(.value (.func 64)), #[(.tmp 7)], #[24]⟩)⟩,
      ⟨some 9, none, (.binOp .eql 3 (.tmp 5) (.tmp 8) 3)⟩,
      ⟨some 10, none, (.move (.tmp 9))⟩,
      ⟨some 11, (some (10, true)), (.fieldAddr 26 (.tmp 1) 1)⟩,
      ⟨some 12, (some (10, true)), (.load 24 (.tmp 11))⟩,
      ⟨some 13, (some (10, true)), (.call ⟨(.value (.func 65)), #[(.tmp 12), (.func 66)], #[24, 60]⟩)⟩,
      ⟨some 14, (some (10, true)), (.unOp .not 4 (.tmp 13))⟩,
      ⟨some 15, none, (.pick (.tmp 10) (.tmp 14) (.const (.bool false)))⟩,
      ⟨some 2, none, (.assign (.tmp 15))⟩])
    .ret))
theorem w28 {args : Array Value} {H : AH} {Φ : Value → AH → Prop} (h : rW Try.prog k28 [] (fin Try.prog [(.tmp 2)] Φ) (tm0 args) H) : CallsA Try.prog 28 args H Φ :=
  CallsA.w k28 [(.tmp 2)] (fun i => if i = 1 then [(1, 0), (1, 6), (4, 0), (9, 6)] else []) Try.func28 rfl rfl (by kernel_rfl) (by kernel_rfl) h

/-- impl.VarsOk$1 -/
def k60 : KC :=
  (.seq
   (.ops [⟨some 1, none, (.box 49 (.tmp 0))⟩,
     ⟨some 2, none, (.assign (.const (.bool false)))⟩])
   (.seq
    (.ops [⟨some 3, none, (.fieldAddr 49 (.tmp 1) 0)⟩,
      ⟨some 4, none, (.load 4 (.tmp 3))⟩,
      ⟨some 5, none, (.move (.tmp 4))⟩,
      ⟨some 6, (some (5, true)), (.fieldAddr 49 (.tmp 1) 1)⟩,
      ⟨some 7, (some (5, true)), (.load 26 (.tmp 6))⟩,
      ⟨some 8, (some (5, true)), (.call ⟨(.value (.func 28)), #[(.tmp 7)], #[26]⟩)⟩,
      ⟨some 9, (some (5, true)), (.unOp .not 4 (.tmp 8))⟩,
      ⟨some 10, none, (.pick (.tmp 5) (.tmp 9) (.const (.bool false)))⟩,
      ⟨some 11, none, (.move (.tmp 10))⟩,
      ⟨some 12, (some (11, false)), (.fieldAddr 49 (.tmp 1) 0)⟩,
      ⟨some 13, (some (11, false)), (.load 4 (.tmp 12))⟩,
      ⟨some 14, (some (11, false)), (.unOp .not 4 (.tmp 13))⟩,
      ⟨some 15, (some (11, false)), (.move (.tmp 14))⟩,
      ⟨some 16, (some (15, true)), (.fieldAddr 49 (.tmp 1) 1)⟩,
      ⟨some 17, (some (15, true)), (.fieldAddr 26 (.tmp 16) 0)⟩,
      ⟨some 18, (some (15, true)), (.load 24 (.tmp 17))⟩,
      ⟨some 19, (some (15, true)), (.call ⟨(.builtin .len), #[(.tmp 18)], #[24]⟩)⟩,
      ⟨some 20, (some (15, true)), (.fieldAddr 49 (.tmp 1) 1)⟩,
      ⟨some 21, (some (15, true)), (.fieldAddr 26 (.tmp 20) 1)⟩,
      ⟨some 22, (some (15, true)), (.load 24 (.tmp 21))⟩,
      ⟨some 23, (some (15, true)), (.call ⟨(.builtin .len), #[(.tmp 22)], #[24]⟩)⟩,
      ⟨some 24, (some (15, true)), (.binOp .add 3 (.tmp 19) (.tmp 23) 3)⟩,
      ⟨some 25, (some (15, true)), (.binOp .gtr 3 (.tmp 24) (.const (.int .i64 0)) 3)⟩,
      ⟨some 26, (some (11, false)), (.pick (.tmp 15) (.tmp 25) (.const (.bool false)))⟩,
      ⟨some 27, none, (.pick (.tmp 11) (.const (.bool true)) (.tmp 26))⟩,
      ⟨some 2, none, (.assign (.tmp 27))⟩])
    .ret))
theorem w60 {args : Array Value} {H : AH} {Φ : Value → AH → Prop} (h : rW Try.prog k60 [] (fin Try.prog [(.tmp 2)] Φ) (tm0 args) H) : CallsA Try.prog 60 args H Φ :=
  CallsA.w k60 [(.tmp 2)] (fun _ => []) Try.func60 rfl rfl (by kernel_rfl) (by kernel_rfl) h

/-- impl.VarsOk -/
def k24 : KC :=
  (.seq
   (.ops [⟨some 2, none, (.assign (.const (.bool false)))⟩])
   (.seq
    (.ops [⟨some 3, none, (.move (.tmp 0))⟩,
      ⟨some 4, none, (.call ⟨(.builtin .len), #[(.tmp 3)], #[35]⟩)⟩,
      ⟨some 5, none, (.binOp .eql 3 (.tmp 4) (.const (.int .i64 26)) 3)⟩,
      ⟨some 6, none, (.move (.tmp 5))⟩,
      ⟨some 7, (some (6, true)), (.move (.tmp 0))⟩,
      ⟨some 8, (some (6, true)), (.call ⟨(.value (.func 59)), #[(.tmp 7), (.func 60)], #[35, 81]⟩)⟩,
      ⟨some 9, (some (6, true)), (.unOp .not 4 (.tmp 8))⟩,
      ⟨some 10, none, (.pick (.tmp 6) (.tmp 9) (.const (.bool false)))⟩,
      ⟨some 2, none, (.assign (.tmp 10))⟩])
    .ret))
theorem w24 {args : Array Value} {H : AH} {Φ : Value → AH → Prop} (h : rW Try.prog k24 [] (fin Try.prog [(.tmp 2)] Φ) (tm0 args) H) : CallsA Try.prog 24 args H Φ :=
  CallsA.w k24 [(.tmp 2)] (fun _ => []) Try.func24 rfl rfl (by kernel_rfl) (by kernel_rfl) h

/-- impl.copyArray -/
def k29 : KC :=
  (.seq
   (.ops [⟨some 1, none, (.box 26 (.tmp 0))⟩,
     ⟨some 2, none, (.alloc 26)⟩])
   (.seq
    (.draw #[] [(1, 0), (4, 0), (4, 3)]
      [⟨some 3, none, (.fieldAddr 26 (.tmp 1) 0)⟩,
      ⟨some 4, none, (.load 24 (.tmp 3))⟩,
      ⟨some 5, none, (.call ⟨(.builtin .append), #[(.const (.slice none 0 0)), (.tmp 4)], #[24, 24]⟩)⟩,
      ⟨some 6, none, (.fieldAddr 26 (.tmp 1) 1)⟩,
      ⟨some 7, none, (.load 24 (.tmp 6))⟩,
      ⟨some 8, none, (.call ⟨(.builtin .append), #[(.const (.slice none 0 0)), (.tmp 7)], #[24, 24]⟩)⟩,
      ⟨some 9, none, (.build 26 #[(0, (.tmp 5)), (1, (.tmp 8))])⟩,
      ⟨none, none, (.store 26 (.tmp 2) (.tmp 9))⟩])
    .ret))
theorem w29 {args : Array Value} {H : AH} {Φ : Value → AH → Prop} (h : rW Try.prog k29 [] (fin Try.prog [(.cell 2 26)] Φ) (tm0 args) H) : CallsA Try.prog 29 args H Φ :=
  CallsA.w k29 [(.cell 2 26)] (fun i => if i = 1 then [(1, 0), (4, 0), (4, 3)] else []) Try.func29 rfl rfl (by kernel_rfl) (by kernel_rfl) h

/-- slices.IndexFunc[[]impl.Expr,impl.Expr] -/
def k105 : KC :=
  (.seq
   (.ops [⟨some 4, none, (.assign (.const (.int .i64 0)))⟩])
   (.seq
    (.seq
     (.ops [⟨some 6, none, (.move (.tmp 0))⟩,
       ⟨some 7, none, (.call ⟨(.builtin .len), #[(.tmp 6)], #[44]⟩)⟩,
       ⟨some 8, none, (.move (.const (.int .i64 0)))⟩])
     (.block 0
      (.loop
       (.seq
        (.ops [⟨some 9, none, (.binOp .lss 3 (.tmp 8) (.tmp 7) 3)⟩])
        (.seq
         (.cond (.tmp 9)
          .skip
          (.exit 0))
         (.seq
          (.block 1
           (.seq
            (.ops [⟨some 10, none, (.move (.tmp 8))⟩,
              ⟨some 5, none, (.assign (.tmp 10))⟩])
            (.seq
             (.ops [⟨some 11, none, (.move (.tmp 1))⟩,
               ⟨some 12, none, (.move (.tmp 0))⟩,
               ⟨some 13, none, (.move (.tmp 5))⟩,
               ⟨some 14, none, (.indexAddr 44 (.tmp 12) (.tmp 13))⟩,
               ⟨some 15, none, (.load 43 (.tmp 14))⟩,
               ⟨some 16, none, (.call ⟨(.value (.tmp 11)), #[(.tmp 15)], #[43]⟩)⟩])
             (.cond (.tmp 16)
              (.seq
               (.ops [⟨some 17, none, (.move (.tmp 5))⟩,
                 ⟨some 4, none, (.assign (.tmp 17))⟩])
               .ret)
              .skip))))
          (.ops [⟨some 18, none, (.binOp .add 3 (.tmp 8) (.const (.int .i64 1)) 3)⟩,
            ⟨some 8, none, (.move (.tmp 18))⟩])))))))
    (.seq
     (.ops [⟨some 4, none, (.assign (.const (.int .i64 (-1))))⟩])
     .ret)))
theorem w105 {args : Array Value} {H : AH} {Φ : Value → AH → Prop} (h : rW Try.prog k105 [] (fin Try.prog [(.tmp 4)] Φ) (tm0 args) H) : CallsA Try.prog 105 args H Φ :=
  CallsA.w k105 [(.tmp 4)] (fun _ => []) Try.func105 rfl rfl (by kernel_rfl) (by kernel_rfl) h

/-- slices.ContainsFunc[[]impl.Expr,impl.Expr] -/
def k78 : KC :=
  (.seq
   (.ops [⟨some 4, none, (.assign (.const (.bool false)))⟩])
   (.seq
    (.ops [⟨some 5, none, (.move (.tmp 0))⟩,
      ⟨some 6, none, (.move (.tmp 1))⟩,
      ⟨some 7, none, (.call ⟨(.value (.func 105)), #[(.tmp 5), (.tmp 6)], #[44, 93]⟩)⟩,
      ⟨some 8, none, (.binOp .geq 3 (.tmp 7) (.const (.int .i64 0)) 3)⟩,
      ⟨some 4, none, (.assign (.tmp 8))⟩])
    .ret))
theorem w78 {args : Array Value} {H : AH} {Φ : Value → AH → Prop} (h : rW Try.prog k78 [] (fin Try.prog [(.tmp 4)] Φ) (tm0 args) H) : CallsA Try.prog 78 args H Φ :=
  CallsA.w k78 [(.tmp 4)] (fun _ => []) Try.func78 rfl rfl (by kernel_rfl) (by kernel_rfl) h

/-- impl.hasSign -/
def k108 : KC :=
  (.seq
   (.ops [⟨some 4, none, (.assign (.const (.bool false)))⟩])
   (.seq
    (.seq
     (.ops [⟨some 5, none, (.assign (.const (.int .i64 0)))⟩])
     (.block 0
      (.loop
       (.seq
        (.seq
         (.ops [⟨some 6, none, (.move (.tmp 5))⟩,
           ⟨some 7, none, (.move (.tmp 0))⟩,
           ⟨some 8, none, (.call ⟨(.builtin .len), #[(.tmp 7)], #[9]⟩)⟩,
           ⟨some 9, none, (.binOp .lss 3 (.tmp 6) (.tmp 8) 3)⟩])
         (.cond (.tmp 9)
          .skip
          (.exit 0)))
        (.seq
         (.block 1
          (.seq
           (.ops [⟨some 12, none, (.move (.tmp 0))⟩,
             ⟨some 13, none, (.move (.tmp 5))⟩,
             ⟨some 14, none, (.index 9 (.tmp 12) (.tmp 13))⟩,
             ⟨some 15, none, (.convert 5 3 (.tmp 14))⟩,
             ⟨some 16, none, (.move (.tmp 1))⟩,
             ⟨some 17, none, (.binOp .eql 3 (.tmp 15) (.tmp 16) 3)⟩])
           (.cond (.tmp 17)
            (.seq
             (.ops [⟨some 4, none, (.assign (.const (.bool true)))⟩])
             .ret)
            .skip)))
         (.ops [⟨some 10, none, (.move (.tmp 5))⟩,
           ⟨some 11, none, (.binOp .add 3 (.tmp 10) (.const (.int .i64 1)) 3)⟩,
           ⟨some 5, none, (.assign (.tmp 11))⟩]))))))
    (.seq
     (.ops [⟨some 4, none, (.assign (.const (.bool false)))⟩])
     .ret)))
theorem w108 {args : Array Value} {H : AH} {Φ : Value → AH → Prop} (h : rW Try.prog k108 [] (fin Try.prog [(.tmp 4)] Φ) (tm0 args) H) : CallsA Try.prog 108 args H Φ :=
  CallsA.w k108 [(.tmp 4)] (fun _ => []) Try.func108 rfl rfl (by kernel_rfl) (by kernel_rfl) h

/-- impl.oneSign -/
def k107 : KC :=
  (.seq
   (.ops [⟨some 2, none, (.assign (.const (.bool false)))⟩])
   (.seq
    (.ops [⟨some 3, none, (.move (.tmp 0))⟩,
      ⟨some 4, none, (.call ⟨(.value (.func 108)), #[(.const (.string ⟨#[43, 45, 42, 124, 126]⟩)), (.tmp 3)], #[9, 3]⟩)⟩,
      ⟨some 2, none, (.assign (.tmp 4))⟩])
    .ret))
theorem w107 {args : Array Value} {H : AH} {Φ : Value → AH → Prop} (h : rW Try.prog k107 [] (fin Try.prog [(.tmp 2)] Φ) (tm0 args) H) : CallsA Try.prog 107 args H Φ :=
  CallsA.w k107 [(.tmp 2)] (fun _ => []) Try.func107 rfl rfl (by kernel_rfl) (by kernel_rfl) h

/-- impl.twoSign -/
def k109 : KC :=
  (.seq
   (.ops [⟨some 2, none, (.assign (.const (.bool false)))⟩])
   (.seq
    (.ops [⟨some 3, none, (.move (.tmp 0))⟩,
      ⟨some 4, none, (.call ⟨(.value (.func 108)), #[(.const (.string ⟨#[43, 45, 42, 37, 124, 38, 94, 61, 60, 62]⟩)), (.tmp 3)], #[9, 3]⟩)⟩,
      ⟨some 2, none, (.assign (.tmp 4))⟩])
    .ret))
theorem w109 {args : Array Value} {H : AH} {Φ : Value → AH → Prop} (h : rW Try.prog k109 [] (fin Try.prog [(.tmp 2)] Φ) (tm0 args) H) : CallsA Try.prog 109 args H Φ :=
  CallsA.w k109 [(.tmp 2)] (fun _ => []) Try.func109 rfl rfl (by kernel_rfl) (by kernel_rfl) h

/-- impl.FunOne -/
def k82 : KC :=
  (.seq
   (.ops [⟨some 1, none, (.box 41 (.tmp 0))⟩,
     ⟨some 2, none, (.assign (.const (.bool false)))⟩])
   (.seq
    (.seq
     (.ops [⟨some 3, none, (.fieldAddr 41 (.tmp 1) 1)⟩,
       ⟨some 4, none, (.load 3 (.tmp 3))⟩])
     (.block 0
      (.seq
       (.ops [⟨some 6, none, (.binOp .eql 3 (.tmp 4) (.const (.int .i64 0)) 3)⟩,
         ⟨some 5, none, (.assign (.tmp 6))⟩])
       (.cond (.tmp 5)
        (.seq
         (.ops [⟨some 7, none, (.fieldAddr 41 (.tmp 1) 2)⟩,
           ⟨some 8, none, (.load 3 (.tmp 7))⟩,
           ⟨some 9, none, (.binOp .eql 3 (.tmp 8) (.const (.int .i64 0)) 3)⟩,
           ⟨some 10, none, (.move (.tmp 9))⟩,
           ⟨some 11, (some (10, true)), (.fieldAddr 41 (.tmp 1) 0)⟩,
           ⟨some 12, (some (10, true)), (.load 3 (.tmp 11))⟩,
           ⟨some 13, (some (10, true)), (.call ⟨(.value (.func 107)), #[(.tmp 12)], #[3]⟩)⟩,
           ⟨some 14, (some (10, true)), (.move (.tmp 13))⟩,
           ⟨some 15, (some (14, false)), (.fieldAddr 41 (.tmp 1) 0)⟩,
           ⟨some 16, (some (14, false)), (.load 3 (.tmp 15))⟩,
           ⟨some 17, (some (14, false)), (.call ⟨(.value (.func 108)), #[(.const (.string ⟨#[105, 35, 44, 114, 122, 103]⟩)), (.tmp 16)], #[9, 3]⟩)⟩,
           ⟨some 18, (some (10, true)), (.pick (.tmp 14) (.const (.bool true)) (.tmp 17))⟩,
           ⟨some 19, none, (.pick (.tmp 10) (.tmp 18) (.const (.bool false)))⟩,
           ⟨some 2, none, (.assign (.tmp 19))⟩])
         .ret)
        (.seq
         (.seq
          (.ops [⟨some 21, none, (.binOp .eql 3 (.tmp 4) (.const (.int .i64 47)) 3)⟩,
            ⟨some 20, none, (.assign (.tmp 21))⟩])
          (.cond (.tmp 20)
           .skip
           (.ops [⟨some 22, none, (.binOp .eql 3 (.tmp 4) (.const (.int .i64 92)) 3)⟩,
             ⟨some 20, none, (.assign (.tmp 22))⟩])))
         (.cond (.tmp 20)
          (.seq
           (.ops [⟨some 23, none, (.fieldAddr 41 (.tmp 1) 2)⟩,
             ⟨some 24, none, (.load 3 (.tmp 23))⟩,
             ⟨some 25, none, (.binOp .eql 3 (.tmp 24) (.const (.int .i64 0)) 3)⟩,
             ⟨some 26, none, (.move (.tmp 25))⟩,
             ⟨some 27, (some (26, true)), (.fieldAddr 41 (.tmp 1) 0)⟩,
             ⟨some 28, (some (26, true)), (.load 3 (.tmp 27))⟩,
             ⟨some 29, (some (26, true)), (.call ⟨(.value (.func 109)), #[(.tmp 28)], #[3]⟩)⟩,
             ⟨some 30, none, (.pick (.tmp 26) (.tmp 29) (.const (.bool false)))⟩,
             ⟨some 2, none, (.assign (.tmp 30))⟩])
           .ret)
          .skip))))))
    (.seq
     (.ops [⟨some 2, none, (.assign (.const (.bool false)))⟩])
     .ret)))
theorem w82 {args : Array Value} {H : AH} {Φ : Value → AH → Prop} (h : rW Try.prog k82 [] (fin Try.prog [(.tmp 2)] Φ) (tm0 args) H) : CallsA Try.prog 82 args H Φ :=
  CallsA.w k82 [(.tmp 2)] (fun _ => []) Try.func82 rfl rfl (by kernel_rfl) (by kernel_rfl) h

/-- impl.FunTwo -/
def k88 : KC :=
  (.seq
   (.ops [⟨some 1, none, (.box 41 (.tmp 0))⟩,
     ⟨some 2, none, (.assign (.const (.bool false)))⟩])
   (.seq
    (.seq
     (.ops [⟨some 3, none, (.fieldAddr 41 (.tmp 1) 1)⟩,
       ⟨some 4, none, (.load 3 (.tmp 3))⟩])
     (.block 0
      (.seq
       (.ops [⟨some 6, none, (.binOp .eql 3 (.tmp 4) (.const (.int .i64 0)) 3)⟩,
         ⟨some 5, none, (.assign (.tmp 6))⟩])
       (.cond (.tmp 5)
        (.seq
         (.ops [⟨some 7, none, (.fieldAddr 41 (.tmp 1) 2)⟩,
           ⟨some 8, none, (.load 3 (.tmp 7))⟩,
           ⟨some 9, none, (.binOp .eql 3 (.tmp 8) (.const (.int .i64 0)) 3)⟩,
           ⟨some 10, none, (.move (.tmp 9))⟩,
           ⟨some 11, (some (10, true)), (.fieldAddr 41 (.tmp 1) 0)⟩,
           ⟨some 12, (some (10, true)), (.load 3 (.tmp 11))⟩,
           ⟨some 13, (some (10, true)), (.call ⟨(.value (.func 109)), #[(.tmp 12)], #[3]⟩)⟩,
           ⟨some 14, (some (10, true)), (.move (.tmp 13))⟩,
           ⟨some 15, (some (14, false)), (.fieldAddr 41 (.tmp 1) 0)⟩,
           ⟨some 16, (some (14, false)), (.load 3 (.tmp 15))⟩,
           ⟨some 17, (some (14, false)), (.call ⟨(.value (.func 108)), #[(.const (.string ⟨#[35, 44, 116, 100, 114, 64, 63, 36, 101]⟩)), (.tmp 16)], #[9, 3]⟩)⟩,
           ⟨some 18, (some (10, true)), (.pick (.tmp 14) (.const (.bool true)) (.tmp 17))⟩,
           ⟨some 19, none, (.pick (.tmp 10) (.tmp 18) (.const (.bool false)))⟩,
           ⟨some 2, none, (.assign (.tmp 19))⟩])
         .ret)
        (.seq
         (.ops [⟨some 21, none, (.binOp .eql 3 (.tmp 4) (.const (.int .i64 111)) 3)⟩,
           ⟨some 20, none, (.assign (.tmp 21))⟩])
         (.cond (.tmp 20)
          (.seq
           (.ops [⟨some 22, none, (.fieldAddr 41 (.tmp 1) 2)⟩,
             ⟨some 23, none, (.load 3 (.tmp 22))⟩,
             ⟨some 24, none, (.binOp .eql 3 (.tmp 23) (.const (.int .i64 0)) 3)⟩,
             ⟨some 25, none, (.move (.tmp 24))⟩,
             ⟨some 26, (some (25, true)), (.fieldAddr 41 (.tmp 1) 0)⟩,
             ⟨some 27, (some (25, true)), (.load 3 (.tmp 26))⟩,
             ⟨some 28, (some (25, true)), (.call ⟨(.value (.func 109)), #[(.tmp 27)], #[3]⟩)⟩,
             ⟨some 29, none, (.pick (.tmp 25) (.tmp 28) (.const (.bool false)))⟩,
             ⟨some 2, none, (.assign (.tmp 29))⟩])
           .ret)
          (.seq
           (.ops [⟨some 31, none, (.binOp .eql 3 (.tmp 4) (.const (.int .i64 46)) 3)⟩,
             ⟨some 30, none, (.assign (.tmp 31))⟩])
           (.cond (.tmp 30)
            (.seq
             (.ops [⟨some 32, none, (.fieldAddr 41 (.tmp 1) 0)⟩,
               ⟨some 33, none, (.load 3 (.tmp 32))⟩,
               ⟨some 34, none, (.call ⟨(.value (.func 109)), #[(.tmp 33)], #[3]⟩)⟩,
               ⟨some 35, none, (.move (.tmp 34))⟩,
               ⟨some 36, (some (35, true)), (.fieldAddr 41 (.tmp 1) 2)⟩,
               ⟨some 37, (some (35, true)), (.load 3 (.tmp 36))⟩,
               ⟨some 38, (some (35, true)), (.call ⟨(.value (.func 109)), #[(.tmp 37)], #[3]⟩)⟩,
               ⟨some 39, none, (.pick (.tmp 35) (.tmp 38) (.const (.bool false)))⟩,
               ⟨some 2, none, (.assign (.tmp 39))⟩])
             .ret)
            .skip))))))))
    (.seq
     (.ops [⟨some 2, none, (.assign (.const (.bool false)))⟩])
     .ret)))
theorem w88 {args : Array Value} {H : AH} {Φ : Value → AH → Prop} (h : rW Try.prog k88 [] (fin Try.prog [(.tmp 2)] Φ) (tm0 args) H) : CallsA Try.prog 88 args H Φ :=
  CallsA.w k88 [(.tmp 2)] (fun _ => []) Try.func88 rfl rfl (by kernel_rfl) (by kernel_rfl) h

/-- impl.numsOk$1 -/
def k125 : KC :=
  (.seq
   (.ops [⟨some 2, none, (.assign (.const (.bool false)))⟩])
   (.seq
    (.ops [⟨some 3, none, (.move (.tmp 0))⟩,
      ⟨some 4, none, (.call ⟨(.value (.func 37)), #[(.tmp 3)], #[3]⟩)⟩,
      ⟨some 5, none, (.unOp .not 4 (.tmp 4))⟩,
      ⟨some 2, none, (.assign (.tmp 5))⟩])
    .ret))
theorem w125 {args : Array Value} {H : AH} {Φ : Value → AH → Prop} (h : rW Try.prog k125 [] (fin Try.prog [(.tmp 2)] Φ) (tm0 args) H) : CallsA Try.prog 125 args H Φ :=
  CallsA.w k125 [(.tmp 2)] (fun _ => []) Try.func125 rfl rfl (by kernel_rfl) (by kernel_rfl) h

/-- impl.numsOk -/
def k106 : KC :=
  (.seq
   (.ops [⟨some 2, none, (.assign (.const (.bool false)))⟩])
   (.seq
    (.ops [⟨some 3, none, (.move (.tmp 0))⟩,
      ⟨some 4, none, (.call ⟨(.builtin .len), #[(.tmp 3)], #[24]⟩)⟩,
      ⟨some 5, none, (.call ⟨(.value (.func 43)), #[(.tmp 4), (.const (.int .i64 1)), (.const (.int .i64 300))], #[3, 3, 3]⟩)⟩,
      ⟨some 6, none, (.move (.tmp 5))⟩,
      ⟨some 7, (some (6, true)), (.move (.tmp 0))⟩,
      ⟨some 8, (some (6, true)), (.call ⟨(.value (.func 65)), #[(.tmp 7), (.func 125)], #[24, 60]⟩)⟩,
      ⟨some 9, (some (6, true)), (.unOp .not 4 (.tmp 8))⟩,
      ⟨some 10, none, (.pick (.tmp 6) (.tmp 9) (.const (.bool false)))⟩,
      ⟨some 2, none, (.assign (.tmp 10))⟩])
    .ret))
theorem w106 {args : Array Value} {H : AH} {Φ : Value → AH → Prop} (h : rW Try.prog k106 [] (fin Try.prog [(.tmp 2)] Φ) (tm0 args) H) : CallsA Try.prog 106 args H Φ :=
  CallsA.w k106 [(.tmp 2)] (fun _ => []) Try.func106 rfl rfl (by kernel_rfl) (by kernel_rfl) h

/-- impl.nodeOk -/
def k80 : KC :=
  (.seq
   (.ops [⟨some 1, none, (.box 43 (.tmp 0))⟩,
     ⟨some 2, none, (.assign (.const (.bool false)))⟩])
   (.seq
    (.ops [⟨some 7, none, (.fieldAddr 43 (.tmp 1) 1)⟩,
      ⟨some 8, none, (.load 3 (.tmp 7))⟩,
      ⟨some 9, none, (.binOp .eql 3 (.tmp 8) (.const (.int .i64 0)) 3)⟩,
      ⟨some 10, none, (.fieldAddr 43 (.tmp 1) 2)⟩,
      ⟨some 11, none, (.load 3 (.tmp 10))⟩,
      ⟨some 12, none, (.binOp .eql 3 (.tmp 11) (.const (.int .i64 0)) 3)⟩,
      ⟨some 13, none, (.fieldAddr 43 (.tmp 1) 3)⟩,
      ⟨some 14, none, (.load 41 (.tmp 13))⟩,
      ⟨some 15, none, (.build 41 #[])⟩,
      ⟨some 16, none, (.binOp .eql 41 (.tmp 14) (.tmp 15) 41)⟩,
      ⟨some 17, none, (.fieldAddr 43 (.tmp 1) 4)⟩,
      ⟨some 18, none, (.load 24 (.tmp 17))⟩,
      ⟨some 19, none, (.call ⟨(.builtin .len), #[(.tmp 18)], #[24]⟩)⟩,
      ⟨some 20, none, (.binOp .eql 3 (.tmp 19) (.const (.int .i64 0)) 3)⟩,
      ⟨some 3, none, (.assign (.tmp 9))⟩,
      ⟨some 4, none, (.assign (.tmp 12))⟩,
      ⟨some 5, none, (.assign (.tmp 16))⟩,
      ⟨some 6, none, (.assign (.tmp 20))⟩])
    (.seq
     (.seq
      (.ops [⟨some 21, none, (.fieldAddr 43 (.tmp 1) 0)⟩,
        ⟨some 22, none, (.load 3 (.tmp 21))⟩])
      (.block 0
       (.seq
        (.ops [⟨some 24, none, (.binOp .eql 3 (.tmp 22) (.const (.int .i64 1)) 3)⟩,
          ⟨some 23, none, (.assign (.tmp 24))⟩])
        (.cond (.tmp 23)
         (.ops [⟨some 25, none, (.fieldAddr 43 (.tmp 1) 4)⟩,
           ⟨some 26, none, (.load 24 (.tmp 25))⟩,
           ⟨some 27, none, (.call ⟨(.value (.func 106)), #[(.tmp 26)], #[24]⟩)⟩,
           ⟨some 6, none, (.assign (.tmp 27))⟩])
         (.seq
          (.ops [⟨some 29, none, (.binOp .eql 3 (.tmp 22) (.const (.int .i64 2)) 3)⟩,
            ⟨some 28, none, (.assign (.tmp 29))⟩])
          (.cond (.tmp 28)
           (.ops [⟨some 30, none, (.fieldAddr 43 (.tmp 1) 1)⟩,
             ⟨some 31, none, (.load 3 (.tmp 30))⟩,
             ⟨some 32, none, (.call ⟨(.value (.func 43)), #[(.tmp 31), (.const (.int .i64 0)), (.const (.int .i64 25))], #[3, 3, 3]⟩)⟩,
             ⟨some 3, none, (.assign (.tmp 32))⟩])
           (.seq
            (.ops [⟨some 34, none, (.binOp .eql 3 (.tmp 22) (.const (.int .i64 3)) 3)⟩,
              ⟨some 33, none, (.assign (.tmp 34))⟩])
            (.cond (.tmp 33)
             (.ops [⟨some 35, none, (.fieldAddr 43 (.tmp 1) 1)⟩,
               ⟨some 36, none, (.load 3 (.tmp 35))⟩,
               ⟨some 37, none, (.call ⟨(.value (.func 43)), #[(.tmp 36), (.const (.int .i64 0)), (.const (.int .i64 25))], #[3, 3, 3]⟩)⟩,
               ⟨some 3, none, (.assign (.tmp 37))⟩,
               ⟨some 4, none, (.assign (.const (.bool true)))⟩])
             (.seq
              (.ops [⟨some 39, none, (.binOp .eql 3 (.tmp 22) (.const (.int .i64 4)) 3)⟩,
                ⟨some 38, none, (.assign (.tmp 39))⟩])
              (.cond (.tmp 38)
               (.ops [⟨some 40, none, (.fieldAddr 43 (.tmp 1) 3)⟩,
                 ⟨some 41, none, (.load 41 (.tmp 40))⟩,
                 ⟨some 42, none, (.call ⟨(.value (.func 82)), #[(.tmp 41)], #[41]⟩)⟩,
                 ⟨some 4, none, (.assign (.const (.bool true)))⟩,
                 ⟨some 5, none, (.assign (.tmp 42))⟩])
               (.seq
                (.ops [⟨some 44, none, (.binOp .eql 3 (.tmp 22) (.const (.int .i64 5)) 3)⟩,
                  ⟨some 43, none, (.assign (.tmp 44))⟩])
                (.cond (.tmp 43)
                 (.ops [⟨some 45, none, (.fieldAddr 43 (.tmp 1) 3)⟩,
                   ⟨some 46, none, (.load 41 (.tmp 45))⟩,
                   ⟨some 47, none, (.call ⟨(.value (.func 88)), #[(.tmp 46)], #[41]⟩)⟩,
                   ⟨some 3, none, (.assign (.const (.bool true)))⟩,
                   ⟨some 4, none, (.assign (.const (.bool true)))⟩,
                   ⟨some 5, none, (.assign (.tmp 47))⟩])
                 (.seq
                  (.ops [⟨some 2, none, (.assign (.const (.bool false)))⟩])
                  .ret)))))))))))))
     (.seq
      (.ops [⟨some 48, none, (.move (.tmp 3))⟩,
        ⟨some 49, none, (.move (.tmp 48))⟩,
        ⟨some 50, (some (49, true)), (.move (.tmp 4))⟩,
        ⟨some 51, none, (.pick (.tmp 49) (.tmp 50) (.const (.bool false)))⟩,
        ⟨some 52, none, (.move (.tmp 51))⟩,
        ⟨some 53, (some (52, true)), (.move (.tmp 5))⟩,
        ⟨some 54, none, (.pick (.tmp 52) (.tmp 53) (.const (.bool false)))⟩,
        ⟨some 55, none, (.move (.tmp 54))⟩,
        ⟨some 56, (some (55, true)), (.move (.tmp 6))⟩,
        ⟨some 57, none, (.pick (.tmp 55) (.tmp 56) (.const (.bool false)))⟩,
        ⟨some 2, none, (.assign (.tmp 57))⟩])
      .ret))))
theorem w80 {args : Array Value} {H : AH} {Φ : Value → AH → Prop} (h : rW Try.prog k80 [] (fin Try.prog [(.tmp 2)] Φ) (tm0 args) H) : CallsA Try.prog 80 args H Φ :=
  CallsA.w k80 [(.tmp 2)] (fun i => if i = 1 then [(1, 0), (4, 0), (7, 0), (11, 0)] else []) Try.func80 rfl rfl (by kernel_rfl) (by kernel_rfl) h

/-- impl.TreeOk$1 -/
def k79 : KC :=
  (.seq
   (.ops [⟨some 1, none, (.box 43 (.tmp 0))⟩,
     ⟨some 2, none, (.assign (.const (.bool false)))⟩])
   (.seq
    (.ops [⟨some 3, none, (.load 43 (.tmp 1))⟩,
      ⟨some 4, none, (.call ⟨(.value (.func 80)), #[(.tmp 3)], #[43]⟩)⟩,
      ⟨some 5, none, (.unOp .not 4 (.tmp 4))⟩,
      ⟨some 2, none, (.assign (.tmp 5))⟩])
    .ret))
theorem w79 {args : Array Value} {H : AH} {Φ : Value → AH → Prop} (h : rW Try.prog k79 [] (fin Try.prog [(.tmp 2)] Φ) (tm0 args) H) : CallsA Try.prog 79 args H Φ :=
  CallsA.w k79 [(.tmp 2)] (fun _ => []) Try.func79 rfl rfl (by kernel_rfl) (by kernel_rfl) h

/-- impl.owned -/
def k81 : KC :=
  (.seq
   (.ops [⟨some 1, none, (.box 46 (.tmp 0))⟩,
     ⟨some 2, none, (.assign (.const (.slice none 0 0)))⟩,
     ⟨some 3, none, (.assign (.const (.bool false)))⟩])
   (.seq
    (.ops [⟨some 4, none, (.assign (.const (.slice none 0 0)))⟩])
    (.seq
     (.seq
      (.ops [⟨some 10, none, (.fieldAddr 46 (.tmp 1) 0)⟩,
        ⟨some 11, none, (.load 44 (.tmp 10))⟩,
        ⟨some 12, none, (.call ⟨(.builtin .len), #[(.tmp 11)], #[44]⟩)⟩,
        ⟨some 13, none, (.move (.const (.int .i64 0)))⟩])
      (.block 0
       (.loop
        (.seq
         (.ops [⟨some 14, none, (.binOp .lss 3 (.tmp 13) (.tmp 12) 3)⟩])
         (.seq
          (.cond (.tmp 14)
           .skip
           (.exit 0))
          (.seq
           (.block 1
            (.seq
             (.ops [⟨some 15, none, (.move (.tmp 13))⟩,
               ⟨some 16, none, (.indexAddr 44 (.tmp 11) (.tmp 13))⟩,
               ⟨some 17, none, (.load 43 (.tmp 16))⟩,
               ⟨some 6, none, (.alloc 43)⟩,
               ⟨some 5, none, (.assign (.tmp 15))⟩,
               ⟨none, none, (.store 43 (.tmp 6) (.tmp 17))⟩])
             (.seq
              (.ops [⟨some 7, none, (.assign (.const (.int .i64 1)))⟩])
              (.seq
               (.seq
                (.ops [⟨some 18, none, (.fieldAddr 43 (.tmp 6) 0)⟩,
                  ⟨some 19, none, (.load 3 (.tmp 18))⟩,
                  ⟨some 20, none, (.binOp .geq 3 (.tmp 19) (.const (.int .i64 3)) 3)⟩])
                (.cond (.tmp 20)
                 (.seq
                  (.ops [⟨some 21, none, (.fieldAddr 43 (.tmp 6) 2)⟩,
                    ⟨some 22, none, (.load 3 (.tmp 21))⟩,
                    ⟨some 8, none, (.assign (.tmp 22))⟩])
                  (.seq
                   (.seq
                    (.ops [⟨some 23, none, (.fieldAddr 43 (.tmp 6) 0)⟩,
                      ⟨some 24, none, (.load 3 (.tmp 23))⟩,
                      ⟨some 25, none, (.binOp .eql 3 (.tmp 24) (.const (.int .i64 5)) 3)⟩])
                    (.cond (.tmp 25)
                     (.ops [⟨some 26, none, (.fieldAddr 43 (.tmp 6) 1)⟩,
                       ⟨some 27, none, (.load 3 (.tmp 26))⟩,
                       ⟨some 8, none, (.assign (.tmp 27))⟩])
                     .skip))
                   (.seq
                    (.seq
                     (.ops [⟨some 28, none, (.move (.tmp 8))⟩,
                       ⟨some 29, none, (.move (.tmp 5))⟩,
                       ⟨some 30, none, (.binOp .sub 3 (.tmp 29) (.const (.int .i64 1)) 3)⟩,
                       ⟨some 31, none, (.binOp .neq 3 (.tmp 28) (.tmp 30) 3)⟩,
                       ⟨some 32, none, (.move (.tmp 31))⟩,
                       ⟨some 33, (some (32, false)), (.move (.tmp 5))⟩,
                       ⟨some 34, (some (32, false)), (.binOp .eql 3 (.tmp 33) (.const (.int .i64 0)) 3)⟩,
                       ⟨some 35, none, (.pick (.tmp 32) (.const (.bool true)) (.tmp 34))⟩])
                     (.cond (.tmp 35)
                      (.seq
                       (.ops [⟨some 2, none, (.assign (.const (.slice none 0 0)))⟩,
                         ⟨some 3, none, (.assign (.const (.bool false)))⟩])
                       .ret)
                      .skip))
                    (.ops [⟨some 36, none, (.move (.tmp 7))⟩,
                      ⟨some 37, none, (.move (.tmp 4))⟩,
                      ⟨some 38, none, (.move (.tmp 8))⟩,
                      ⟨some 39, none, (.indexAddr 24 (.tmp 37) (.tmp 38))⟩,
                      ⟨some 40, none, (.load 3 (.tmp 39))⟩,
                      ⟨some 41, none, (.binOp .add 3 (.tmp 36) (.tmp 40) 3)⟩,
                      ⟨some 7, none, (.assign (.tmp 41))⟩]))))
                 .skip))
               (.seq
                (.seq
                 (.ops [⟨some 42, none, (.fieldAddr 43 (.tmp 6) 0)⟩,
                   ⟨some 43, none, (.load 3 (.tmp 42))⟩,
                   ⟨some 44, none, (.binOp .eql 3 (.tmp 43) (.const (.int .i64 5)) 3)⟩])
                 (.cond (.tmp 44)
                  (.seq
                   (.ops [⟨some 45, none, (.move (.tmp 5))⟩,
                     ⟨some 46, none, (.binOp .sub 3 (.tmp 45) (.const (.int .i64 1)) 3)⟩,
                     ⟨some 47, none, (.move (.tmp 4))⟩,
                     ⟨some 48, none, (.fieldAddr 43 (.tmp 6) 1)⟩,
                     ⟨some 49, none, (.load 3 (.tmp 48))⟩,
                     ⟨some 50, none, (.indexAddr 24 (.tmp 47) (.tmp 49))⟩,
                     ⟨some 51, none, (.load 3 (.tmp 50))⟩,
                     ⟨some 52, none, (.binOp .sub 3 (.tmp 46) (.tmp 51) 3)⟩,
                     ⟨some 9, none, (.assign (.tmp 52))⟩])
                   (.seq
                    (.seq
                     (.ops [⟨some 53, none, (.move (.tmp 9))⟩,
                       ⟨some 54, none, (.binOp .lss 3 (.tmp 53) (.const (.int .i64 0)) 3)⟩,
                       ⟨some 55, none, (.move (.tmp 54))⟩,
                       ⟨some 56, (some (55, false)), (.fieldAddr 43 (.tmp 6) 2)⟩,
                       ⟨some 57, (some (55, false)), (.load 3 (.tmp 56))⟩,
                       ⟨some 58, (some (55, false)), (.move (.tmp 9))⟩,
                       ⟨some 59, (some (55, false)), (.binOp .neq 3 (.tmp 57) (.tmp 58) 3)⟩,
                       ⟨some 60, none, (.pick (.tmp 55) (.const (.bool true)) (.tmp 59))⟩])
                     (.cond (.tmp 60)
                      (.seq
                       (.ops [⟨some 2, none, (.assign (.const (.slice none 0 0)))⟩,
                         ⟨some 3, none, (.assign (.const (.bool false)))⟩])
                       .ret)
                      .skip))
                    (.ops [⟨some 61, none, (.move (.tmp 7))⟩,
                      ⟨some 62, none, (.move (.tmp 4))⟩,
                      ⟨some 63, none, (.move (.tmp 9))⟩,
                      ⟨some 64, none, (.indexAddr 24 (.tmp 62) (.tmp 63))⟩,
                      ⟨some 65, none, (.load 3 (.tmp 64))⟩,
                      ⟨some 66, none, (.binOp .add 3 (.tmp 61) (.tmp 65) 3)⟩,
                      ⟨some 7, none, (.assign (.tmp 66))⟩])))
                  .skip))
                (.ops [⟨some 67, none, (.move (.tmp 4))⟩,
                  ⟨some 68, none, (.move (.tmp 7))⟩,
                  ⟨some 69, none, (.buildSlice 24 1 #[(0, (.tmp 68))])⟩,
                  ⟨some 70, none, (.call ⟨(.builtin .append), #[(.tmp 67), (.tmp 69)], #[24, 24]⟩)⟩,
                  ⟨some 4, none, (.assign (.tmp 70))⟩]))))))
           (.ops [⟨some 71, none, (.binOp .add 3 (.tmp 13) (.const (.int .i64 1)) 3)⟩,
             ⟨some 13, none, (.move (.tmp 71))⟩])))))))
     (.seq
      (.ops [⟨some 72, none, (.move (.tmp 4))⟩,
        ⟨some 2, none, (.assign (.tmp 72))⟩,
        ⟨some 3, none, (.assign (.const (.bool true)))⟩])
      .ret))))
theorem w81 {args : Array Value} {H : AH} {Φ : Value → AH → Prop} (h : rW Try.prog k81 [] (fin Try.prog [(.tmp 2), (.tmp 3)] Φ) (tm0 args) H) : CallsA Try.prog 81 args H Φ :=
  CallsA.w k81 [(.tmp 2), (.tmp 3)] (fun _ => []) Try.func81 rfl rfl (by kernel_rfl) (by kernel_rfl) h

/-- impl.TreeOk -/
def k54 : KC :=
  (.seq
   (.ops [⟨some 1, none, (.box 46 (.tmp 0))⟩,
     ⟨some 2, none, (.assign (.const (.bool false)))⟩])
   (.seq
    (.ops [⟨some 6, none, (.fieldAddr 46 (.tmp 1) 0)⟩,
      ⟨some 7, none, (.load 44 (.tmp 6))⟩,
      ⟨some 8, none, (.call ⟨(.builtin .len), #[(.tmp 7)], #[44]⟩)⟩,
      ⟨some 3, none, (.assign (.tmp 8))⟩])
    (.seq
     (.seq
      (.ops [⟨some 9, none, (.move (.tmp 3))⟩,
        ⟨some 10, none, (.call ⟨(.value (.func 43)), #[(.tmp 9), (.const (.int .i64 1)), (.const (.int .i64 60))], #[3, 3, 3]⟩)⟩,
        ⟨some 11, none, (.unOp .not 4 (.tmp 10))⟩,
        ⟨some 12, none, (.move (.tmp 11))⟩,
        ⟨some 13, (some (12, false)), (.fieldAddr 46 (.tmp 1) 0)⟩,
        ⟨some 14, (some (12, false)), (.load 44 (.tmp 13))⟩,
        ⟨some 15, (some (12, false)), (.call ⟨(.value (.func 78)), #[(.tmp 14), (.func 79)], #[44, 93]⟩)⟩,
        ⟨some 16, none, (.pick (.tmp 12) (.const (.bool true)) (.tmp 15))⟩])
      (.cond (.tmp 16)
       (.seq
        (.ops [⟨some 2, none, (.assign (.const (.bool false)))⟩])
        .ret)
       .skip))
     (.seq
      (.ops [⟨some 18, none, (.load 46 (.tmp 1))⟩,
        ⟨some 19, none, (.call ⟨(.value (.func 81)), #[(.tmp 18)], #[46]⟩)⟩,
        ⟨some 17, none, (.move (.tmp 19))⟩,
        ⟨some 20, none, (.extract (.tmp 17) 0)⟩,
        ⟨some 21, none, (.extract (.tmp 17) 1)⟩,
        ⟨some 4, none, (.assign (.tmp 20))⟩,
        ⟨some 5, none, (.assign (.tmp 21))⟩])
      (.seq
       (.ops [⟨some 22, none, (.move (.tmp 5))⟩,
         ⟨some 23, none, (.move (.tmp 22))⟩,
         ⟨some 24, (some (23, true)), (.move (.tmp 4))⟩,
         ⟨some 25, (some (23, true)), (.move (.tmp 3))⟩,
         ⟨some 26, (some (23, true)), (.binOp .sub 3 (.tmp 25) (.const (.int .i64 1)) 3)⟩,
         ⟨some 27, (some (23, true)), (.indexAddr 24 (.tmp 24) (.tmp 26))⟩,
         ⟨some 28, (some (23, true)), (.load 3 (.tmp 27))⟩,
         ⟨some 29, (some (23, true)), (.move (.tmp 3))⟩,
         ⟨some 30, (some (23, true)), (.binOp .eql 3 (.tmp 28) (.tmp 29) 3)⟩,
         ⟨some 31, none, (.pick (.tmp 23) (.tmp 30) (.const (.bool false)))⟩,
         ⟨some 2, none, (.assign (.tmp 31))⟩])
       .ret)))))
theorem w54 {args : Array Value} {H : AH} {Φ : Value → AH → Prop} (h : rW Try.prog k54 [] (fin Try.prog [(.tmp 2)] Φ) (tm0 args) H) : CallsA Try.prog 54 args H Φ :=
  CallsA.w k54 [(.tmp 2)] (fun _ => []) Try.func54 rfl rfl (by kernel_rfl) (by kernel_rfl) h

/-- impl.copyVars -/
def k55 : KC :=
  (.seq
   (.ops [⟨some 2, none, (.assign (.const (.slice none 0 0)))⟩])
   (.seq
    (.ops [⟨some 3, none, (.assign (.const (.slice none 0 0)))⟩])
    (.seq
     (.seq
      (.ops [⟨some 6, none, (.move (.tmp 0))⟩,
        ⟨some 7, none, (.call ⟨(.builtin .len), #[(.tmp 6)], #[35]⟩)⟩,
        ⟨some 8, none, (.move (.const (.int .i64 0)))⟩])
      (.block 0
       (.loop
        (.seq
         (.ops [⟨some 9, none, (.binOp .lss 3 (.tmp 8) (.tmp 7) 3)⟩])
         (.seq
          (.cond (.tmp 9)
           .skip
           (.exit 0))
          (.seq
           (.block 1
            (.seq
             (.ops [⟨some 10, none, (.indexAddr 35 (.tmp 6) (.tmp 8))⟩,
               ⟨some 11, none, (.load 49 (.tmp 10))⟩,
               ⟨some 5, none, (.alloc 49)⟩,
               ⟨none, none, (.store 49 (.tmp 5) (.tmp 11))⟩])
             (.draw #[] [(2, 0), (2, 6), (4, 0)]
               [⟨some 12, none, (.move (.tmp 3))⟩,
               ⟨some 13, none, (.fieldAddr 49 (.tmp 5) 0)⟩,
               ⟨some 14, none, (.load 4 (.tmp 13))⟩,
               ⟨some 15, none, (.fieldAddr 49 (.tmp 5) 1)⟩,
               ⟨some 16, none, (.load 26 (.tmp 15))⟩,
               ⟨some 17, none, (.call ⟨(.value (.func 29)), #[(.tmp 16)], #[26]⟩)⟩,
               ⟨some 18, none, (.build 49 #[(0, (.tmp 14)), (1, (.tmp 17))])⟩,
               ⟨some 19, none, (.buildSlice 35 1 #[(0, (.tmp 18))])⟩,
               ⟨some 20, none, (.call ⟨(.builtin .append), #[(.tmp 12), (.tmp 19)], #[35, 35]⟩)⟩,
               ⟨some 3, none, (.assign (.tmp 20))⟩])))
           (.ops [⟨some 21, none, (.binOp .add 3 (.tmp 8) (.const (.int .i64 1)) 3)⟩,
             ⟨some 8, none, (.move (.tmp 21))⟩])))))))
     (.seq
      (.ops [⟨some 22, none, (.move (.tmp 3))⟩,
        ⟨some 2, none, (.assign (.tmp 22))⟩])
      .ret))))
theorem w55 {args : Array Value} {H : AH} {Φ : Value → AH → Prop} (h : rW Try.prog k55 [] (fin Try.prog [(.tmp 2)] Φ) (tm0 args) H) : CallsA Try.prog 55 args H Φ :=
  CallsA.w k55 [(.tmp 2)] (fun i => if i = 5 then [(2, 0), (2, 6), (4, 0)] else []) Try.func55 rfl rfl (by kernel_rfl) (by kernel_rfl) h

/-- impl.Eval -/
def k23 : KC :=
  (.seq
   (.ops [⟨some 3, none, (.box 46 (.tmp 0))⟩,
     ⟨some 6, none, (.alloc 26)⟩,
     ⟨some 7, none, (.assign (.const (.slice none 0 0)))⟩,
     ⟨some 8, none, (.assign (.const (.int .i64 0)))⟩,
     ⟨some 9, none, (.assign (.const (.int .i64 0)))⟩])
   (.seq
    (.seq
     (.ops [⟨some 16, none, (.load 46 (.tmp 3))⟩,
       ⟨some 17, none, (.call ⟨(.value (.func 54)), #[(.tmp 16)], #[46]⟩)⟩,
       ⟨some 18, none, (.unOp .not 4 (.tmp 17))⟩,
       ⟨some 19, none, (.move (.tmp 18))⟩,
       ⟨some 20, (some (19, false)), (.move (.tmp 1))⟩,
       ⟨some 21, (some (19, false)), (.call ⟨(.value (.func 24)), #[(.tmp 20)], #[35]⟩)⟩,
       ⟨some 22, (some (19, false)), (.unOp .not 4 (.tmp 21))⟩,
       ⟨some 23, none, (.pick (.tmp 19) (.const (.bool true)) (.tmp 22))⟩,
       ⟨some 24, none, (.move (.tmp 23))⟩,
       ⟨some 25, (some (24, false)), (.move (.tmp 2))⟩,
       ⟨some 26, (some (24, false)), (.binOp .lss 3 (.tmp 25) (.const (.int .i64 0)) 3)⟩,
       ⟨some 27, none, (.pick (.tmp 24) (.const (.bool true)) (.tmp 26))⟩])
     (.cond (.tmp 27)
      (.seq
       (.ops [⟨some 28, none, (.build 26 #[])⟩,
         ⟨none, none, (.store 26 (.tmp 6) (.tmp 28))⟩,
         ⟨some 7, none, (.assign (.const (.slice none 0 0)))⟩,
         ⟨some 8, none, (.assign (.const (.int .i64 1)))⟩,
         ⟨some 9, none, (.assign (.const (.int .i64 0)))⟩])
       .ret)
      .skip))
    (.seq
     (.ops [⟨some 29, none, (.move (.tmp 1))⟩,
       ⟨some 30, none, (.call ⟨(.value (.func 55)), #[(.tmp 29)], #[35]⟩)⟩,
       ⟨some 10, none, (.assign (.tmp 30))⟩])
     (.seq
      (.ops [⟨some 11, none, (.assign (.const (.slice none 0 0)))⟩])
      (.seq
       (.seq
        (.ops [⟨some 31, none, (.fieldAddr 46 (.tmp 3) 0)⟩,
          ⟨some 32, none, (.load 44 (.tmp 31))⟩,
          ⟨some 33, none, (.call ⟨(.builtin .len), #[(.tmp 32)], #[44]⟩)⟩,
          ⟨some 34, none, (.move (.const (.int .i64 0)))⟩])
        (.block 0
         (.loop
          (.seq
           (.ops [⟨some 35, none, (.binOp .lss 3 (.tmp 34) (.tmp 33) 3)⟩])
           (.seq
            (.cond (.tmp 35)
             .skip
             (.exit 0))
            (.seq
             (.block 1
              (.seq
               (.ops [⟨some 36, none, (.indexAddr 44 (.tmp 32) (.tmp 34))⟩,
                 ⟨some 37, none, (.load 43 (.tmp 36))⟩,
                 ⟨some 13, none, (.alloc 43)⟩,
                 ⟨none, none, (.store 43 (.tmp 13) (.tmp 37))⟩])
               (.seq
                (.seq
                 (.ops [⟨some 38, none, (.move (.tmp 2))⟩,
                   ⟨some 39, none, (.binOp .eql 3 (.tmp 38) (.const (.int .i64 0)) 3)⟩])
                 (.cond (.tmp 39)
                  (.seq
                   (.ops [⟨some 40, none, (.build 26 #[])⟩,
                     ⟨some 41, none, (.move (.tmp 1))⟩,
                     ⟨some 42, none, (.call ⟨(.value (.func 55)), #[(.tmp 41)], #[35]⟩)⟩,
                     ⟨none, none, (.store 26 (.tmp 6) (.tmp 40))⟩,
                     ⟨some 7, none, (.assign (.tmp 42))⟩,
                     ⟨some 8, none, (.assign (.const (.int .i64 10)))⟩,
                     ⟨some 9, none, (.assign (.const (.int .i64 0)))⟩])
                   .ret)
                  .skip))
                (.seq
                 (.ops [⟨some 43, none, (.move (.tmp 2))⟩,
                   ⟨some 44, none, (.binOp .sub 3 (.tmp 43) (.const (.int .i64 1)) 3)⟩,
                   ⟨some 2, none, (.assign (.tmp 44))⟩])
                 (.seq
                  (.ops [⟨some 45, none, (.build 26 #[])⟩,
                    ⟨some 14, none, (.alloc 26)⟩,
                    ⟨none, none, (.store 26 (.tmp 14) (.tmp 45))⟩,
                    ⟨some 15, none, (.assign (.const (.int .i64 0)))⟩])
                  (.seq
                   (.seq
                    (.ops [⟨some 46, none, (.fieldAddr 43 (.tmp 13) 0)⟩,
                      ⟨some 47, none, (.load 3 (.tmp 46))⟩])
                    (.block 2
                     (.seq
                      (.ops [⟨some 65, none, (.binOp .eql 3 (.tmp 47) (.const (.int .i64 1)) 3)⟩,
                        ⟨some 64, none, (.assign (.tmp 65))⟩])
                      (.cond (.tmp 64)
                       (.ops [⟨some 66, none, (.fieldAddr 43 (.tmp 13) 4)⟩,
                         ⟨some 67, none, (.load 24 (.tmp 66))⟩,
                         ⟨some 68, none, (.call ⟨(.value (.func 56)), #[(.tmp 67)], #[24]⟩)⟩,
                         ⟨none, none, (.store 26 (.tmp 14) (.tmp 68))⟩])
                       (.seq
                        (.ops [⟨some 70, none, (.binOp .eql 3 (.tmp 47) (.const (.int .i64 2)) 3)⟩,
                          ⟨some 69, none, (.assign (.tmp 70))⟩])
                        (.cond (.tmp 69)
                         (.seq
                          (.ops [⟨some 71, none, (.move (.tmp 10))⟩,
                            ⟨some 72, none, (.fieldAddr 43 (.tmp 13) 1)⟩,
                            ⟨some 73, none, (.load 3 (.tmp 72))⟩,
                            ⟨some 74, none, (.indexAddr 35 (.tmp 71) (.tmp 73))⟩,
                            ⟨some 75, none, (.fieldAddr 49 (.tmp 74) 1)⟩,
                            ⟨some 76, none, (.load 26 (.tmp 75))⟩,
                            ⟨none, none, (.store 26 (.tmp 14) (.tmp 76))⟩])
                          (.seq
                           (.ops [⟨some 77, none, (.move (.tmp 10))⟩,
                             ⟨some 78, none, (.fieldAddr 43 (.tmp 13) 1)⟩,
                             ⟨some 79, none, (.load 3 (.tmp 78))⟩,
                             ⟨some 80, none, (.indexAddr 35 (.tmp 77) (.tmp 79))⟩,
                             ⟨some 81, none, (.fieldAddr 49 (.tmp 80) 0)⟩,
                             ⟨some 82, none, (.load 4 (.tmp 81))⟩,
                             ⟨some 83, none, (.unOp .not 4 (.tmp 82))⟩])
                           (.cond (.tmp 83)
                            (.ops [⟨some 15, none, (.assign (.const (.int .i64 7)))⟩])
                            .skip)))
                         (.seq
                          (.ops [⟨some 85, none, (.binOp .eql 3 (.tmp 47) (.const (.int .i64 3)) 3)⟩,
                            ⟨some 84, none, (.assign (.tmp 85))⟩])
                          (.cond (.tmp 84)
                           (.seq
                            (.ops [⟨some 86, none, (.move (.tmp 11))⟩,
                              ⟨some 87, none, (.fieldAddr 43 (.tmp 13) 2)⟩,
                              ⟨some 88, none, (.load 3 (.tmp 87))⟩,
                              ⟨some 89, none, (.indexAddr 62 (.tmp 86) (.tmp 88))⟩,
                              ⟨some 90, none, (.load 26 (.tmp 89))⟩,
                              ⟨none, none, (.store 26 (.tmp 14) (.tmp 90))⟩])
                            (.ops [⟨some 91, none, (.move (.tmp 10))⟩,
                              ⟨some 92, none, (.fieldAddr 43 (.tmp 13) 1)⟩,
                              ⟨some 93, none, (.load 3 (.tmp 92))⟩,
                              ⟨some 94, none, (.load 26 (.tmp 14))⟩,
                              ⟨some 95, none, (.build 49 #[(0, (.const (.bool true))), (1, (.tmp 94))])⟩,
                              ⟨some 96, none, (.indexAddr 35 (.tmp 91) (.tmp 93))⟩,
                              ⟨none, none, (.store 49 (.tmp 96) (.tmp 95))⟩]))
                           (.seq
                            (.ops [⟨some 98, none, (.binOp .eql 3 (.tmp 47) (.const (.int .i64 4)) 3)⟩,
                              ⟨some 97, none, (.assign (.tmp 98))⟩])
                            (.cond (.tmp 97)
                             (.draw #[] [(1, 0), (4, 0), (6, 0)]
                               [⟨some 100, none, (.fieldAddr 43 (.tmp 13) 3)⟩,
                               ⟨some 101, none, (.load 41 (.tmp 100))⟩,
                               ⟨some 102, none, (.move (.tmp 11))⟩,
                               ⟨some 103, none, (.fieldAddr 43 (.tmp 13) 2)⟩,
                               ⟨some 104, none, (.load 3 (.tmp 103))⟩,
                               ⟨some 105, none, (.indexAddr 62 (.tmp 102) (.tmp 104))⟩,
                               ⟨some 106, none, (.load 26 (.tmp 105))⟩,
                               ⟨some 107, none, (.call ⟨(.value (.func 57)), #[(.tmp 101), (.tmp 106)], #[41, 26]⟩)⟩,
                               ⟨some 99, none, (.move (.tmp 107))⟩,
                               ⟨some 108, none, (.extract (.tmp 99) 0)⟩,
                               ⟨some 109, none, (.extract (.tmp 99) 1)⟩,
                               ⟨none, none, (.store 26 (.tmp 14) (.tmp 108))⟩,
                               ⟨some 15, none, (.assign (.tmp 109))⟩])
                             (.draw #[] [(1, 0), (4, 0), (6, 0), (9, 0), (11, 0)]
                               [⟨some 49, none, (.fieldAddr 43 (.tmp 13) 3)⟩,
                               ⟨some 50, none, (.load 41 (.tmp 49))⟩,
                               ⟨some 51, none, (.move (.tmp 11))⟩,
                               ⟨some 52, none, (.fieldAddr 43 (.tmp 13) 1)⟩,
                               ⟨some 53, none, (.load 3 (.tmp 52))⟩,
                               ⟨some 54, none, (.indexAddr 62 (.tmp 51) (.tmp 53))⟩,
                               ⟨some 55, none, (.load 26 (.tmp 54))⟩,
                               ⟨some 56, none, (.move (.tmp 11))⟩,
                               ⟨some 57, none, (.fieldAddr 43 (.tmp 13) 2)⟩,
                               ⟨some 58, none, (.load 3 (.tmp 57))⟩,
                               ⟨some 59, none, (.indexAddr 62 (.tmp 56) (.tmp 58))⟩,
                               ⟨some 60, none, (.load 26 (.tmp 59))⟩,
                               ⟨some 61, none, (.call ⟨(.value (.func 58)), #[(.tmp 50), (.tmp 55), (.tmp 60)], #[41, 26, 26]⟩)⟩,
                               ⟨some 48, none, (.move (.tmp 61))⟩,
                               ⟨some 62, none, (.extract (.tmp 48) 0)⟩,
                               ⟨some 63, none, (.extract (.tmp 48) 1)⟩,
                               ⟨none, none, (.store 26 (.tmp 14) (.tmp 62))⟩,
                               ⟨some 15, none, (.assign (.tmp 63))⟩])))))))))))
                   (.seq
                    (.seq
                     (.ops [⟨some 110, none, (.move (.tmp 15))⟩,
                       ⟨some 111, none, (.binOp .neq 3 (.tmp 110) (.const (.int .i64 0)) 3)⟩])
                     (.cond (.tmp 111)
                      (.seq
                       (.ops [⟨some 112, none, (.build 26 #[])⟩,
                         ⟨some 113, none, (.move (.tmp 1))⟩,
                         ⟨some 114, none, (.call ⟨(.value (.func 55)), #[(.tmp 113)], #[35]⟩)⟩,
                         ⟨some 115, none, (.move (.tmp 15))⟩,
                         ⟨some 116, none, (.move (.tmp 2))⟩,
                         ⟨none, none, (.store 26 (.tmp 6) (.tmp 112))⟩,
                         ⟨some 7, none, (.assign (.tmp 114))⟩,
                         ⟨some 8, none, (.assign (.tmp 115))⟩,
                         ⟨some 9, none, (.assign (.tmp 116))⟩])
                       .ret)
                      .skip))
                    (.ops [⟨some 117, none, (.move (.tmp 11))⟩,
                      ⟨some 118, none, (.load 26 (.tmp 14))⟩,
                      ⟨some 119, none, (.buildSlice 62 1 #[(0, (.tmp 118))])⟩,
                      ⟨some 120, none, (.call ⟨(.builtin .append), #[(.tmp 117), (.tmp 119)], #[62, 62]⟩)⟩,
                      ⟨some 11, none, (.assign (.tmp 120))⟩]))))))))
             (.ops [⟨some 121, none, (.binOp .add 3 (.tmp 34) (.const (.int .i64 1)) 3)⟩,
               ⟨some 34, none, (.move (.tmp 121))⟩])))))))
       (.seq
        (.ops [⟨some 122, none, (.move (.tmp 11))⟩,
          ⟨some 123, none, (.move (.tmp 11))⟩,
          ⟨some 124, none, (.call ⟨(.builtin .len), #[(.tmp 123)], #[62]⟩)⟩,
          ⟨some 125, none, (.binOp .sub 3 (.tmp 124) (.const (.int .i64 1)) 3)⟩,
          ⟨some 126, none, (.indexAddr 62 (.tmp 122) (.tmp 125))⟩,
          ⟨some 127, none, (.load 26 (.tmp 126))⟩,
          ⟨some 128, none, (.call ⟨(.value (.func 29)), #[(.tmp 127)], #[26]⟩)⟩,
          ⟨some 129, none, (.move (.tmp 10))⟩,
          ⟨some 130, none, (.call ⟨(.value (.func 55)), #[(.tmp 129)], #[35]⟩)⟩,
          ⟨some 131, none, (.move (.tmp 2))⟩,
          ⟨none, none, (.store 26 (.tmp 6) (.tmp 128))⟩,
          ⟨some 7, none, (.assign (.tmp 130))⟩,
          ⟨some 8, none, (.assign (.const (.int .i64 0)))⟩,
          ⟨some 9, none, (.assign (.tmp 131))⟩])
        .ret))))))
theorem w23 {args : Array Value} {H : AH} {Φ : Value → AH → Prop} (h : rW Try.prog k23 [] (fin Try.prog [(.cell 6 26), (.tmp 7), (.tmp 8), (.tmp 9)] Φ) (tm0 args) H) : CallsA Try.prog 23 args H Φ :=
  CallsA.w k23 [(.cell 6 26), (.tmp 7), (.tmp 8), (.tmp 9)] (fun i => if i = 24 then [(1, 0), (4, 0), (6, 0)] else if i = 13 then [(1, 0), (4, 0), (6, 0), (9, 0), (11, 0)] else []) Try.func23 rfl rfl (by kernel_rfl) (by kernel_rfl) h

/-- laws.sameInts -/
def k44 : KC :=
  (.seq
   (.ops [⟨some 4, none, (.assign (.const (.bool false)))⟩])
   (.seq
    (.seq
     (.ops [⟨some 6, none, (.move (.tmp 0))⟩,
       ⟨some 7, none, (.call ⟨(.builtin .len), #[(.tmp 6)], #[24]⟩)⟩,
       ⟨some 8, none, (.move (.tmp 1))⟩,
       ⟨some 9, none, (.call ⟨(.builtin .len), #[(.tmp 8)], #[24]⟩)⟩,
       ⟨some 10, none, (.binOp .neq 3 (.tmp 7) (.tmp 9) 3)⟩])
     (.cond (.tmp 10)
      (.seq
       (.ops [⟨some 4, none, (.assign (.const (.bool false)))⟩])
       .ret)
      .skip))
    (.seq
     (.seq
      (.ops [⟨some 5, none, (.assign (.const (.int .i64 0)))⟩])
      (.block 0
       (.loop
        (.seq
         (.seq
          (.ops [⟨some 11, none, (.move (.tmp 5))⟩,
            ⟨some 12, none, (.move (.tmp 0))⟩,
            ⟨some 13, none, (.call ⟨(.builtin .len), #[(.tmp 12)], #[24]⟩)⟩,
            ⟨some 14, none, (.binOp .lss 3 (.tmp 11) (.tmp 13) 3)⟩])
          (.cond (.tmp 14)
           .skip
           (.exit 0)))
         (.seq
          (.block 1
           (.seq
            (.ops [⟨some 17, none, (.move (.tmp 0))⟩,
              ⟨some 18, none, (.move (.tmp 5))⟩,
              ⟨some 19, none, (.indexAddr 24 (.tmp 17) (.tmp 18))⟩,
              ⟨some 20, none, (.load 3 (.tmp 19))⟩,
              ⟨some 21, none, (.move (.tmp 1))⟩,
              ⟨some 22, none, (.move (.tmp 5))⟩,
              ⟨some 23, none, (.indexAddr 24 (.tmp 21) (.tmp 22))⟩,
              ⟨some 24, none, (.load 3 (.tmp 23))⟩,
              ⟨some 25, none, (.binOp .neq 3 (.tmp 20) (.tmp 24) 3)⟩])
            (.cond (.tmp 25)
             (.seq
              (.ops [⟨some 4, none, (.assign (.const (.bool false)))⟩])
              .ret)
             .skip)))
          (.ops [⟨some 15, none, (.move (.tmp 5))⟩,
            ⟨some 16, none, (.binOp .add 3 (.tmp 15) (.const (.int .i64 1)) 3)⟩,
            ⟨some 5, none, (.assign (.tmp 16))⟩]))))))
     (.seq
      (.ops [⟨some 4, none, (.assign (.const (.bool true)))⟩])
      .ret))))
theorem w44 {args : Array Value} {H : AH} {Φ : Value → AH → Prop} (h : rW Try.prog k44 [] (fin Try.prog [(.tmp 4)] Φ) (tm0 args) H) : CallsA Try.prog 44 args H Φ :=
  CallsA.w k44 [(.tmp 4)] (fun i => if i = 6 then [(3, 0), (7, 0)] else []) Try.func44 rfl rfl (by kernel_rfl) (by kernel_rfl) h

/-- laws.sameArray -/
def k15 : KC :=
  (.seq
   (.ops [⟨some 2, none, (.box 26 (.tmp 0))⟩,
     ⟨some 3, none, (.box 26 (.tmp 1))⟩,
     ⟨some 4, none, (.assign (.const (.bool false)))⟩])
   (.seq
    (.ops [⟨some 5, none, (.fieldAddr 26 (.tmp 2) 0)⟩,
      ⟨some 6, none, (.load 24 (.tmp 5))⟩,
      ⟨some 7, none, (.fieldAddr 26 (.tmp 3) 0)⟩,
      ⟨some 8, none, (.load 24 (.tmp 7))⟩,
      ⟨some 9, none, (.call ⟨(.value (.func 44)), #[(.tmp 6), (.tmp 8)], #[24, 24]⟩)⟩,
      ⟨some 10, none, (.move (.tmp 9))⟩,
      ⟨some 11, (some (10, true)), (.fieldAddr 26 (.tmp 2) 1)⟩,
      ⟨some 12, (some (10, true)), (.load 24 (.tmp 11))⟩,
      ⟨some 13, (some (10, true)), (.fieldAddr 26 (.tmp 3) 1)⟩,
      ⟨some 14, (some (10, true)), (.load 24 (.tmp 13))⟩,
      ⟨some 15, (some (10, true)), (.call ⟨(.value (.func 44)), #[(.tmp 12), (.tmp 14)], #[24, 24]⟩)⟩,
      ⟨some 16, none, (.pick (.tmp 10) (.tmp 15) (.const (.bool false)))⟩,
      ⟨some 4, none, (.assign (.tmp 16))⟩])
    .ret))
theorem w15 {args : Array Value} {H : AH} {Φ : Value → AH → Prop} (h : rW Try.prog k15 [] (fin Try.prog [(.tmp 4)] Φ) (tm0 args) H) : CallsA Try.prog 15 args H Φ :=
  CallsA.w k15 [(.tmp 4)] (fun _ => []) Try.func15 rfl rfl (by kernel_rfl) (by kernel_rfl) h

/-- laws.sameVars -/
def k25 : KC :=
  (.seq
   (.ops [⟨some 4, none, (.assign (.const (.bool false)))⟩])
   (.seq
    (.seq
     (.ops [⟨some 6, none, (.move (.tmp 0))⟩,
       ⟨some 7, none, (.call ⟨(.builtin .len), #[(.tmp 6)], #[35]⟩)⟩,
       ⟨some 8, none, (.move (.tmp 1))⟩,
       ⟨some 9, none, (.call ⟨(.builtin .len), #[(.tmp 8)], #[35]⟩)⟩,
       ⟨some 10, none, (.binOp .neq 3 (.tmp 7) (.tmp 9) 3)⟩])
     (.cond (.tmp 10)
      (.seq
       (.ops [⟨some 4, none, (.assign (.const (.bool false)))⟩])
       .ret)
      .skip))
    (.seq
     (.seq
      (.ops [⟨some 5, none, (.assign (.const (.int .i64 0)))⟩])
      (.block 0
       (.loop
        (.seq
         (.seq
          (.ops [⟨some 11, none, (.move (.tmp 5))⟩,
            ⟨some 12, none, (.move (.tmp 0))⟩,
            ⟨some 13, none, (.call ⟨(.builtin .len), #[(.tmp 12)], #[35]⟩)⟩,
            ⟨some 14, none, (.binOp .lss 3 (.tmp 11) (.tmp 13) 3)⟩])
          (.cond (.tmp 14)
           .skip
           (.exit 0)))
         (.seq
          (.block 1
           (.seq
            (.draw #[] [(4, 0), (9, 0), (16, 0), (21, 0)]
              [⟨some 17, none, (.move (.tmp 0))⟩,
              ⟨some 18, none, (.move (.tmp 5))⟩,
              ⟨some 19, none, (.indexAddr 35 (.tmp 17) (.tmp 18))⟩,
              ⟨some 20, none, (.fieldAddr 49 (.tmp 19) 0)⟩,
              ⟨some 21, none, (.load 4 (.tmp 20))⟩,
              ⟨some 22, none, (.move (.tmp 1))⟩,
              ⟨some 23, none, (.move (.tmp 5))⟩,
              ⟨some 24, none, (.indexAddr 35 (.tmp 22) (.tmp 23))⟩,
              ⟨some 25, none, (.fieldAddr 49 (.tmp 24) 0)⟩,
              ⟨some 26, none, (.load 4 (.tmp 25))⟩,
              ⟨some 27, none, (.binOp .neq 4 (.tmp 21) (.tmp 26) 4)⟩,
              ⟨some 28, none, (.move (.tmp 27))⟩,
              ⟨some 29, (some (28, false)), (.move (.tmp 0))⟩,
              ⟨some 30, (some (28, false)), (.move (.tmp 5))⟩,
              ⟨some 31, (some (28, false)), (.indexAddr 35 (.tmp 29) (.tmp 30))⟩,
              ⟨some 32, (some (28, false)), (.fieldAddr 49 (.tmp 31) 1)⟩,
              ⟨some 33, (some (28, false)), (.load 26 (.tmp 32))⟩,
              ⟨some 34, (some (28, false)), (.move (.tmp 1))⟩,
              ⟨some 35, (some (28, false)), (.move (.tmp 5))⟩,
              ⟨some 36, (some (28, false)), (.indexAddr 35 (.tmp 34) (.tmp 35))⟩,
              ⟨some 37, (some (28, false)), (.fieldAddr 49 (.tmp 36) 1)⟩,
              ⟨some 38, (some (28, false)), (.load 26 (.tmp 37))⟩,
              ⟨some 39, (some (28, false)), (.call ⟨(.value (.func 15)), #[(.tmp 33), (.tmp 38)], #[26, 26]⟩)⟩,
              ⟨some 40, (some (28, false)), (.unOp .not 4 (.tmp 39))⟩,
              ⟨some 41, none, (.pick (.tmp 28) (.const (.bool true)) (.tmp 40))⟩])
            (.cond (.tmp 41)
             (.seq
              (.ops [⟨some 4, none, (.assign (.const (.bool false)))⟩])
              .ret)
             .skip)))
          (.ops [⟨some 15, none, (.move (.tmp 5))⟩,
            ⟨some 16, none, (.binOp .add 3 (.tmp 15) (.const (.int .i64 1)) 3)⟩,
            ⟨some 5, none, (.assign (.tmp 16))⟩]))))))
     (.seq
      (.ops [⟨some 4, none, (.assign (.const (.bool true)))⟩])
      .ret))))
theorem w25 {args : Array Value} {H : AH} {Φ : Value → AH → Prop} (h : rW Try.prog k25 [] (fin Try.prog [(.tmp 4)] Φ) (tm0 args) H) : CallsA Try.prog 25 args H Φ :=
  CallsA.w k25 [(.tmp 4)] (fun i => if i = 6 then [(4, 0), (9, 0), (16, 0), (21, 0)] else []) Try.func25 rfl rfl (by kernel_rfl) (by kernel_rfl) h

/-- laws.FnNewVars -/
def k6 : KC :=
  (.seq
   (.ops [⟨some 2, none, (.assign (.const (.bool false)))⟩])
   (.seq
    (.seq
     (.ops [⟨some 9, none, (.move (.tmp 0))⟩,
       ⟨some 10, none, (.call ⟨(.value (.func 7)), #[(.tmp 9)], #[22]⟩)⟩])
     (.cond (.tmp 10)
      (.seq
       (.ops [⟨some 2, none, (.assign (.const (.bool true)))⟩])
       .ret)
      .skip))
    (.seq
     (.ops [⟨some 11, none, (.call ⟨(.value (.func 21)), #[], #[]⟩)⟩,
       ⟨some 3, none, (.assign (.tmp 11))⟩])
     (.seq
      (.ops [⟨some 12, none, (.move (.tmp 0))⟩,
        ⟨some 13, none, (.call ⟨(.value (.func 22)), #[(.tmp 12), (.const (.int .i64 1))], #[22, 3]⟩)⟩,
        ⟨some 14, none, (.binOp .rem 3 (.tmp 13) (.const (.int .i64 26)) 3)⟩,
        ⟨some 4, none, (.assign (.tmp 14))⟩])
      (.seq
       (.ops [⟨some 16, none, (.move (.tmp 4))⟩,
         ⟨some 17, none, (.build 43 #[(0, (.const (.int .i64 2))), (1, (.tmp 16))])⟩,
         ⟨some 18, none, (.buildSlice 44 1 #[(0, (.tmp 17))])⟩,
         ⟨some 19, none, (.build 46 #[(0, (.tmp 18))])⟩,
         ⟨some 20, none, (.move (.tmp 3))⟩,
         ⟨some 21, none, (.call ⟨(.value (.func 23)), #[(.tmp 19), (.tmp 20), (.const (.int .i64 2))], #[46, 35, 3]⟩)⟩,
         ⟨some 15, none, (.move (.tmp 21))⟩,
         ⟨some 22, none, (.extract (.tmp 15) 0)⟩,
         ⟨some 23, none, (.extract (.tmp 15) 1)⟩,
         ⟨some 24, none, (.extract (.tmp 15) 2)⟩,
         ⟨some 25, none, (.extract (.tmp 15) 3)⟩,
         ⟨some 5, none, (.alloc 26)⟩,
         ⟨none, none, (.store 26 (.tmp 5) (.tmp 22))⟩,
         ⟨some 6, none, (.assign (.tmp 23))⟩,
         ⟨some 7, none, (.assign (.tmp 24))⟩,
         ⟨some 8, none, (.assign (.tmp 25))⟩])
       (.seq
        (.ops [⟨some 26, none, (.move (.tmp 3))⟩,
          ⟨some 27, none, (.call ⟨(.value (.func 24)), #[(.tmp 26)], #[35]⟩)⟩,
          ⟨some 28, none, (.move (.tmp 27))⟩,
          ⟨some 29, (some (28, true)), (.move (.tmp 3))⟩,
          ⟨some 30, (some (28, true)), (.call ⟨(.builtin .len), #[(.tmp 29)], #[35]⟩)⟩,
          ⟨some 31, (some (28, true)), (.binOp .eql 3 (.tmp 30) (.const (.int .i64 26)) 3)⟩,
          ⟨some 32, none, (.pick (.tmp 28) (.tmp 31) (.const (.bool false)))⟩,
          ⟨some 33, none, (.move (.tmp 32))⟩,
          ⟨some 34, (some (33, true)), (.move (.tmp 3))⟩,
          ⟨some 35, (some (33, true)), (.move (.tmp 4))⟩,
          ⟨some 36, (some (33, true)), (.indexAddr 35 (.tmp 34) (.tmp 35))⟩,
          ⟨some 37, (some (33, true)), (.fieldAddr 49 (.tmp 36) 0)⟩,
          ⟨some 38, (some (33, true)), (.load 4 (.tmp 37))⟩,
          ⟨some 39, (some (33, true)), (.unOp .not 4 (.tmp 38))⟩,
          ⟨some 40, none, (.pick (.tmp 33) (.tmp 39) (.const (.bool false)))⟩,
          ⟨some 41, none, (.move (.tmp 40))⟩,
          ⟨some 42, (some (41, true)), (.move (.tmp 7))⟩,
          ⟨some 43, (some (41, true)), (.binOp .eql 3 (.tmp 42) (.const (.int .i64 7)) 3)⟩,
          ⟨some 44, none, (.pick (.tmp 41) (.tmp 43) (.const (.bool false)))⟩,
          ⟨some 45, none, (.move (.tmp 44))⟩,
          ⟨some 46, (some (45, true)), (.move (.tmp 8))⟩,
          ⟨some 47, (some (45, true)), (.binOp .eql 3 (.tmp 46) (.const (.int .i64 1)) 3)⟩,
          ⟨some 48, none, (.pick (.tmp 45) (.tmp 47) (.const (.bool false)))⟩,
          ⟨some 49, none, (.move (.tmp 48))⟩,
          ⟨some 50, (some (49, true)), (.move (.tmp 6))⟩,
          ⟨some 51, (some (49, true)), (.move (.tmp 3))⟩,
          ⟨some 52, (some (49, true)), (.call ⟨(.value (.func 25)), #[(.tmp 50), (.tmp 51)], #[35, 35]⟩)⟩,
          ⟨some 53, none, (.pick (.tmp 49) (.tmp 52) (.const (.bool false)))⟩,
          ⟨some 2, none, (.assign (.tmp 53))⟩])
        .ret))))))
theorem w6 {args : Array Value} {H : AH} {Φ : Value → AH → Prop} (h : rW Try.prog k6 [] (fin Try.prog [(.tmp 2)] Φ) (tm0 args) H) : CallsA Try.prog 6 args H Φ :=
  CallsA.w k6 [(.tmp 2)] (fun _ => []) Try.func6 rfl rfl (by kernel_rfl) (by kernel_rfl) h

end Go.Proofs.Ytpclegiocblpmaa.AM
