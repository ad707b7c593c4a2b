/- The code of the functions that the laws reach, made short; and facts on the types that they use. -/
import Derived.Test.YtgekbancaeabgaaA8
import Derived.KernelRfl
import Derived.Test.YtgekbancaeabgaaRows
set_option linter.unusedVariables false
set_option linter.unusedSimpArgs false
set_option linter.defProp false
set_option maxRecDepth 100000
/- The code of the functions that the laws reach, made short; and facts on the types that they use. -/
namespace Go.Proofs.Ytgekbancaeabgaa.AM
open Go Go.Proofs.Ytgekbancaeabgaa Go.Proofs

theorem al72 {ev : Operand → Value} : aMake Try.prog ev (.alloc 72) = some ([.slice none 0 0], none) := by kernel_rfl
theorem al121 {ev : Operand → Value} : aMake Try.prog ev (.alloc 121) = some ([.int .i64 0, .int .i64 0, .int .i64 0], none) := by kernel_rfl
theorem al142 {ev : Operand → Value} : aMake Try.prog ev (.alloc 142) = some ([.int .i64 0, .int .i64 0, .int .i64 0, .int .i64 0, .int .i64 0, .int .i64 0, .slice none 0 0], none) := by kernel_rfl
theorem ap43_43 {a a' : Option Addr} {n c n' c' : Nat} {H : AH} : aAppend Try.prog #[43, 43] #[.slice a n c, .slice a' n' c'] H = app 1 (.slice a n c) (.slice a' n' c') H := append_eq (z := .int .i64 0) (e := 3) (e' := 3) (by kernel_rfl) (by kernel_rfl) (by kernel_rfl) (by kernel_rfl) (by kernel_rfl) (by kernel_rfl)
theorem bd121 {ps : Array (Nat × Value)} : aBuild Try.prog 121 ps = (fillP [(0, 1), (1, 1), (2, 1)] [.int .i64 0, .int .i64 0, .int .i64 0] ps.toList).map fun cs => .agg cs.toArray := build_eq (z := .agg #[.int .i64 0, .int .i64 0, .int .i64 0]) Try.underlying121 (by kernel_rfl) (by kernel_rfl) (by kernel_rfl) rfl
theorem bs43_0 {ev : Operand → Value} : aMake Try.prog ev (.buildSlice 43 0 #[]) = (fillP [] [] []).map fun cs => (cs, some (0, 1)) := bslice_eq (z := .int .i64 0) (e := 3) (by kernel_rfl) (by kernel_rfl) (by kernel_rfl) (by decide) (by kernel_rfl) (by kernel_rfl) rfl rfl
theorem bs43_1 {ev : Operand → Value} {x0 : Operand} : aMake Try.prog ev (.buildSlice 43 1 #[(0, x0)]) = (fillP [(0, 1)] [.int .i64 0] [(0, ev x0)]).map fun cs => (cs, some (1, 1)) := bslice_eq (z := .int .i64 0) (e := 3) (by kernel_rfl) (by kernel_rfl) (by kernel_rfl) (by decide) (by kernel_rfl) (by kernel_rfl) rfl rfl
theorem cv5_3 {k : IntKind} {n : Int} {G : Hp} : aConv Try.prog 5 3 (.int k n) G = some (.int .i64 (IntKind.i64.wrap n)) := conv_int (e := .int .u8) (by kernel_rfl) (by kernel_rfl)
theorem ef121 {a0 b0 a1 b1 a2 b2 : Int} {x y : Operand} : aBin Try.prog .eql 121 x y (.agg #[.int .i64 a0, .int .i64 a1, .int .i64 a2]) (.agg #[.int .i64 b0, .int .i64 b1, .int .i64 b2]) = some (.bool (a0 == b0 && (a1 == b1 && (a2 == b2 && true)))) := by
  refine bin_eql_agg Try.underlying121 (by kernel_rfl) (by kernel_rfl) (by simp [scal1]) ?_
  rw [eqF_cons (k := .i64) (k' := .i64) (a := a0) (b := b0) (by decide) (by kernel_rfl) (by kernel_rfl) (by kernel_rfl)]
  rw [eqF_cons (k := .i64) (k' := .i64) (a := a1) (b := b1) (by decide) (by kernel_rfl) (by kernel_rfl) (by kernel_rfl)]
  rw [eqF_cons (k := .i64) (k' := .i64) (a := a2) (b := b2) (by decide) (by kernel_rfl) (by kernel_rfl) (by kernel_rfl)]
  simp only [ite_and, eqF_nil]
theorem eg121 {a0 b0 a1 b1 a2 b2 : Int} {x y : Operand} : aBin Try.prog .neq 121 x y (.agg #[.int .i64 a0, .int .i64 a1, .int .i64 a2]) (.agg #[.int .i64 b0, .int .i64 b1, .int .i64 b2]) = some (.bool (!(a0 == b0 && (a1 == b1 && (a2 == b2 && true))))) := by
  refine bin_neq_agg Try.underlying121 (by kernel_rfl) (by kernel_rfl) (by simp [scal1]) ?_
  rw [eqF_cons (k := .i64) (k' := .i64) (a := a0) (b := b0) (by decide) (by kernel_rfl) (by kernel_rfl) (by kernel_rfl)]
  rw [eqF_cons (k := .i64) (k' := .i64) (a := a1) (b := b1) (by decide) (by kernel_rfl) (by kernel_rfl) (by kernel_rfl)]
  rw [eqF_cons (k := .i64) (k' := .i64) (a := a2) (b := b2) (by decide) (by kernel_rfl) (by kernel_rfl) (by kernel_rfl)]
  simp only [ite_and, eqF_nil]
theorem fa67_0 {b o : Nat} : aFieldAddr Try.prog 67 (.pointer (some ⟨b, o, none⟩)) 0 = some (.pointer (some ⟨b, o + 0, none⟩)) := by kernel_rfl
theorem fa72_0 {b o : Nat} : aFieldAddr Try.prog 72 (.pointer (some ⟨b, o, none⟩)) 0 = some (.pointer (some ⟨b, o + 0, none⟩)) := by kernel_rfl
theorem fa117_0 {b o : Nat} : aFieldAddr Try.prog 117 (.pointer (some ⟨b, o, none⟩)) 0 = some (.pointer (some ⟨b, o + 0, none⟩)) := by kernel_rfl
theorem fa117_1 {b o : Nat} : aFieldAddr Try.prog 117 (.pointer (some ⟨b, o, none⟩)) 1 = some (.pointer (some ⟨b, o + 1, none⟩)) := by kernel_rfl
theorem fa117_2 {b o : Nat} : aFieldAddr Try.prog 117 (.pointer (some ⟨b, o, none⟩)) 2 = some (.pointer (some ⟨b, o + 2, none⟩)) := by kernel_rfl
theorem fa121_0 {b o : Nat} : aFieldAddr Try.prog 121 (.pointer (some ⟨b, o, none⟩)) 0 = some (.pointer (some ⟨b, o + 0, none⟩)) := by kernel_rfl
theorem fa121_1 {b o : Nat} : aFieldAddr Try.prog 121 (.pointer (some ⟨b, o, none⟩)) 1 = some (.pointer (some ⟨b, o + 1, none⟩)) := by kernel_rfl
theorem fa121_2 {b o : Nat} : aFieldAddr Try.prog 121 (.pointer (some ⟨b, o, none⟩)) 2 = some (.pointer (some ⟨b, o + 2, none⟩)) := by kernel_rfl
theorem fa142_0 {b o : Nat} : aFieldAddr Try.prog 142 (.pointer (some ⟨b, o, none⟩)) 0 = some (.pointer (some ⟨b, o + 0, none⟩)) := by kernel_rfl
theorem fa142_1 {b o : Nat} : aFieldAddr Try.prog 142 (.pointer (some ⟨b, o, none⟩)) 1 = some (.pointer (some ⟨b, o + 1, none⟩)) := by kernel_rfl
theorem fa142_2 {b o : Nat} : aFieldAddr Try.prog 142 (.pointer (some ⟨b, o, none⟩)) 2 = some (.pointer (some ⟨b, o + 2, none⟩)) := by kernel_rfl
theorem fa142_3 {b o : Nat} : aFieldAddr Try.prog 142 (.pointer (some ⟨b, o, none⟩)) 3 = some (.pointer (some ⟨b, o + 3, none⟩)) := by kernel_rfl
theorem fa142_4 {b o : Nat} : aFieldAddr Try.prog 142 (.pointer (some ⟨b, o, none⟩)) 4 = some (.pointer (some ⟨b, o + 6, none⟩)) := by kernel_rfl
theorem fa171_0 {b o : Nat} : aFieldAddr Try.prog 171 (.pointer (some ⟨b, o, none⟩)) 0 = some (.pointer (some ⟨b, o + 0, none⟩)) := by kernel_rfl
theorem fa171_1 {b o : Nat} : aFieldAddr Try.prog 171 (.pointer (some ⟨b, o, none⟩)) 1 = some (.pointer (some ⟨b, o + 1, none⟩)) := by kernel_rfl
theorem fa171_2 {b o : Nat} : aFieldAddr Try.prog 171 (.pointer (some ⟨b, o, none⟩)) 2 = some (.pointer (some ⟨b, o + 2, none⟩)) := by kernel_rfl
theorem fa171_3 {b o : Nat} : aFieldAddr Try.prog 171 (.pointer (some ⟨b, o, none⟩)) 3 = some (.pointer (some ⟨b, o + 3, none⟩)) := by kernel_rfl
theorem fa171_4 {b o : Nat} : aFieldAddr Try.prog 171 (.pointer (some ⟨b, o, none⟩)) 4 = some (.pointer (some ⟨b, o + 6, none⟩)) := by kernel_rfl
theorem ix43 {b o n c : Nat} {k : IntKind} {j : Int} : aIndexAddr Try.prog 43 (.slice (some ⟨b, o, none⟩) n c) (.int k j) = if 0 ≤ j ∧ j < n then some (.pointer (some ⟨b, o + j.toNat * 1, none⟩)) else none := by kernel_rfl
theorem ix65 {b o n c : Nat} {k : IntKind} {j : Int} : aIndexAddr Try.prog 65 (.slice (some ⟨b, o, none⟩) n c) (.int k j) = if 0 ≤ j ∧ j < n then some (.pointer (some ⟨b, o + j.toNat * 7, none⟩)) else none := by kernel_rfl
theorem ix70 {b o n c : Nat} {k : IntKind} {j : Int} : aIndexAddr Try.prog 70 (.slice (some ⟨b, o, none⟩) n c) (.int k j) = if 0 ≤ j ∧ j < n then some (.pointer (some ⟨b, o + j.toNat * 7, none⟩)) else none := by kernel_rfl
theorem us9 : Try.prog.underlying 9 = some .string := by kernel_rfl
theorem ld3 {o : Nat} {cs : List Value} : ld Try.prog 3 o cs = cs[o]? := ld_one (by kernel_rfl)
theorem ld43 {o : Nat} {cs : List Value} : ld Try.prog 43 o cs = cs[o]? := ld_one (by kernel_rfl)
theorem ld65 {o : Nat} {cs : List Value} : ld Try.prog 65 o cs = cs[o]? := ld_one (by kernel_rfl)
theorem ld67 {o : Nat} {cs : List Value} : ld Try.prog 67 o cs = aggAt 1 o cs := ld_agg (by kernel_rfl) (by kernel_rfl)
theorem ld70 {o : Nat} {cs : List Value} : ld Try.prog 70 o cs = cs[o]? := ld_one (by kernel_rfl)
theorem ld72 {o : Nat} {cs : List Value} : ld Try.prog 72 o cs = aggAt 1 o cs := ld_agg (by kernel_rfl) (by kernel_rfl)
theorem ld117 {o : Nat} {cs : List Value} : ld Try.prog 117 o cs = aggAt 3 o cs := ld_agg (by kernel_rfl) (by kernel_rfl)
theorem ld121 {o : Nat} {cs : List Value} : ld Try.prog 121 o cs = aggAt 3 o cs := ld_agg (by kernel_rfl) (by kernel_rfl)
theorem ld142 {o : Nat} {cs : List Value} : ld Try.prog 142 o cs = aggAt 7 o cs := ld_agg (by kernel_rfl) (by kernel_rfl)
theorem ld171 {o : Nat} {cs : List Value} : ld Try.prog 171 o cs = aggAt 7 o cs := ld_agg (by kernel_rfl) (by kernel_rfl)
theorem ln9 {s : ByteArray} : aLen Try.prog #[9] #[.string s] = some (.int .i64 s.size) := by kernel_rfl
theorem ln43 {a : Option Addr} {n c : Nat} : aLen Try.prog #[43] #[.slice a n c] = some (.int .i64 n) := by kernel_rfl
theorem ln65 {a : Option Addr} {n c : Nat} : aLen Try.prog #[65] #[.slice a n c] = some (.int .i64 n) := by kernel_rfl
theorem ln70 {a : Option Addr} {n c : Nat} : aLen Try.prog #[70] #[.slice a n c] = some (.int .i64 n) := by kernel_rfl
theorem ms43 {k k' : IntKind} {n : Int} : mkS Try.prog 43 (.int k n) (.int k' n) = if 0 ≤ n ∧ n ≤ 1073741824 then some ((List.replicate n.toNat [.int .i64 0]).flatten, some (n.toNat, 1)) else none := mkS_eq (z := .int .i64 0) (e := 3) (by kernel_rfl) (by kernel_rfl) (by kernel_rfl) (by kernel_rfl) (by kernel_rfl) (by kernel_rfl) (by decide)
theorem ms70 {k k' : IntKind} {n : Int} : mkS Try.prog 70 (.int k n) (.int k' n) = if 0 ≤ n ∧ n ≤ 1073741824 then some ((List.replicate n.toNat [.int .i64 0, .int .i64 0, .int .i64 0, .int .i64 0, .int .i64 0, .int .i64 0, .slice none 0 0]).flatten, some (n.toNat, 7)) else none := mkS_eq (z := .agg #[.int .i64 0, .int .i64 0, .int .i64 0, .int .i64 0, .int .i64 0, .int .i64 0, .slice none 0 0]) (e := 142) (by kernel_rfl) (by kernel_rfl) (by kernel_rfl) (by kernel_rfl) (by kernel_rfl) (by kernel_rfl) (by decide)
theorem st3 {b o : Nat} {v : Value} {H : AH} : aStore Try.prog 3 (.pointer (some ⟨b, o, none⟩)) v H = sto 1 b o v H (wrt H b) := store_eq (by kernel_rfl)
theorem st43 {b o : Nat} {v : Value} {H : AH} : aStore Try.prog 43 (.pointer (some ⟨b, o, none⟩)) v H = sto 1 b o v H (wrt H b) := store_eq (by kernel_rfl)
theorem st70 {b o : Nat} {v : Value} {H : AH} : aStore Try.prog 70 (.pointer (some ⟨b, o, none⟩)) v H = sto 1 b o v H (wrt H b) := store_eq (by kernel_rfl)
theorem st72 {b o : Nat} {v : Value} {H : AH} : aStore Try.prog 72 (.pointer (some ⟨b, o, none⟩)) v H = sto 1 b o v H (wrt H b) := store_eq (by kernel_rfl)
theorem st121 {b o : Nat} {v : Value} {H : AH} : aStore Try.prog 121 (.pointer (some ⟨b, o, none⟩)) v H = sto 3 b o v H (wrt H b) := store_eq (by kernel_rfl)
theorem st142 {b o : Nat} {v : Value} {H : AH} : aStore Try.prog 142 (.pointer (some ⟨b, o, none⟩)) v H = sto 7 b o v H (wrt H b) := store_eq (by kernel_rfl)
theorem ub4 : Try.prog.underlying 4 = some .bool := by kernel_rfl

/-- laws.szIntS -/
def k138 : KC :=
  (.seq
   (.ops [⟨some 4, none, (.assign (.const (.int .i64 0)))⟩])
   (.seq
    (.ops [⟨some 5, none, (.move (.tmp 1))⟩,
      ⟨some 6, none, (.move (.tmp 0))⟩,
      ⟨some 7, none, (.call ⟨(.builtin .len), #[(.tmp 6)], #[43]⟩)⟩,
      ⟨some 8, none, (.binOp .sub 3 (.tmp 5) (.tmp 7) 3)⟩,
      ⟨some 1, none, (.assign (.tmp 8))⟩])
    (.seq
     (.seq
      (.ops [⟨some 9, none, (.move (.tmp 1))⟩,
        ⟨some 10, none, (.binOp .lss 3 (.tmp 9) (.const (.int .i64 0)) 3)⟩])
      (.cond (.tmp 10)
       (.seq
        (.ops [⟨some 4, none, (.assign (.const (.int .i64 (-1))))⟩])
        .ret)
       .skip))
     (.seq
      (.ops [⟨some 11, none, (.move (.tmp 1))⟩,
        ⟨some 4, none, (.assign (.tmp 11))⟩])
      .ret))))
theorem w138 {args : Array Value} {H : AH} {Φ : Value → AH → Prop} (h : rW Try.prog k138 [] (fin Try.prog [(.tmp 4)] Φ) (tm0 args) H) : CallsA Try.prog 138 args H Φ :=
  CallsA.w k138 [(.tmp 4)] (fun _ => []) Try.func138 rfl rfl (by kernel_rfl) (by kernel_rfl) h

/-- laws.szExpr -/
def k173 : KC :=
  (.seq
   (.ops [⟨some 2, none, (.box 171 (.tmp 0))⟩,
     ⟨some 4, none, (.assign (.const (.int .i64 0)))⟩])
   (.seq
    (.ops [⟨some 5, none, (.fieldAddr 171 (.tmp 2) 4)⟩,
      ⟨some 6, none, (.load 43 (.tmp 5))⟩,
      ⟨some 7, none, (.move (.tmp 1))⟩,
      ⟨some 8, none, (.call ⟨(.value (.func 138)), #[(.tmp 6), (.tmp 7)], #[43, 3]⟩)⟩,
      ⟨some 1, none, (.assign (.tmp 8))⟩])
    (.seq
     (.seq
      (.ops [⟨some 9, none, (.move (.tmp 1))⟩,
        ⟨some 10, none, (.binOp .lss 3 (.tmp 9) (.const (.int .i64 0)) 3)⟩])
      (.cond (.tmp 10)
       (.seq
        (.ops [⟨some 4, none, (.assign (.const (.int .i64 (-1))))⟩])
        .ret)
       .skip))
     (.seq
      (.ops [⟨some 11, none, (.move (.tmp 1))⟩,
        ⟨some 4, none, (.assign (.tmp 11))⟩])
      .ret))))
theorem w173 {args : Array Value} {H : AH} {Φ : Value → AH → Prop} (h : rW Try.prog k173 [] (fin Try.prog [(.tmp 4)] Φ) (tm0 args) H) : CallsA Try.prog 173 args H Φ :=
  CallsA.w k173 [(.tmp 4)] (fun _ => []) Try.func173 rfl rfl (by kernel_rfl) (by kernel_rfl) h

/-- laws.szExprS -/
def k129 : KC :=
  (.seq
   (.ops [⟨some 4, none, (.assign (.const (.int .i64 0)))⟩])
   (.seq
    (.ops [⟨some 6, none, (.move (.tmp 1))⟩,
      ⟨some 7, none, (.move (.tmp 0))⟩,
      ⟨some 8, none, (.call ⟨(.builtin .len), #[(.tmp 7)], #[65]⟩)⟩,
      ⟨some 9, none, (.binOp .sub 3 (.tmp 6) (.tmp 8) 3)⟩,
      ⟨some 1, none, (.assign (.tmp 9))⟩])
    (.seq
     (.seq
      (.ops [⟨some 10, none, (.move (.tmp 1))⟩,
        ⟨some 11, none, (.binOp .lss 3 (.tmp 10) (.const (.int .i64 0)) 3)⟩])
      (.cond (.tmp 11)
       (.seq
        (.ops [⟨some 4, none, (.assign (.const (.int .i64 (-1))))⟩])
        .ret)
       .skip))
     (.seq
      (.seq
       (.ops [⟨some 5, none, (.assign (.const (.int .i64 0)))⟩])
       (.block 0
        (.loop
         (.seq
          (.seq
           (.ops [⟨some 12, none, (.move (.tmp 5))⟩,
             ⟨some 13, none, (.move (.tmp 0))⟩,
             ⟨some 14, none, (.call ⟨(.builtin .len), #[(.tmp 13)], #[65]⟩)⟩,
             ⟨some 15, none, (.binOp .lss 3 (.tmp 12) (.tmp 14) 3)⟩])
           (.cond (.tmp 15)
            .skip
            (.exit 0)))
          (.seq
           (.block 1
            (.seq
             (.ops [⟨some 18, none, (.move (.tmp 0))⟩,
               ⟨some 19, none, (.move (.tmp 5))⟩,
               ⟨some 20, none, (.indexAddr 65 (.tmp 18) (.tmp 19))⟩,
               ⟨some 21, none, (.load 171 (.tmp 20))⟩,
               ⟨some 22, none, (.move (.tmp 1))⟩,
               ⟨some 23, none, (.call ⟨(.value (.func 173)), #[(.tmp 21), (.tmp 22)], #[171, 3]⟩)⟩,
               ⟨some 1, none, (.assign (.tmp 23))⟩])
             (.seq
              (.ops [⟨some 24, none, (.move (.tmp 1))⟩,
                ⟨some 25, none, (.binOp .lss 3 (.tmp 24) (.const (.int .i64 0)) 3)⟩])
              (.cond (.tmp 25)
               (.seq
                (.ops [⟨some 4, none, (.assign (.const (.int .i64 (-1))))⟩])
                .ret)
               .skip))))
           (.ops [⟨some 16, none, (.move (.tmp 5))⟩,
             ⟨some 17, none, (.binOp .add 3 (.tmp 16) (.const (.int .i64 1)) 3)⟩,
             ⟨some 5, none, (.assign (.tmp 17))⟩]))))))
      (.seq
       (.ops [⟨some 26, none, (.move (.tmp 1))⟩,
         ⟨some 4, none, (.assign (.tmp 26))⟩])
       .ret)))))
theorem w129 {args : Array Value} {H : AH} {Φ : Value → AH → Prop} (h : rW Try.prog k129 [] (fin Try.prog [(.tmp 4)] Φ) (tm0 args) H) : CallsA Try.prog 129 args H Φ :=
  CallsA.w k129 [(.tmp 4)] (fun _ => []) Try.func129 rfl rfl (by kernel_rfl) (by kernel_rfl) h

/-- laws.szTree -/
def k56 : KC :=
  (.seq
   (.ops [⟨some 2, none, (.box 67 (.tmp 0))⟩,
     ⟨some 4, none, (.assign (.const (.int .i64 0)))⟩])
   (.seq
    (.ops [⟨some 5, none, (.fieldAddr 67 (.tmp 2) 0)⟩,
      ⟨some 6, none, (.load 65 (.tmp 5))⟩,
      ⟨some 7, none, (.move (.tmp 1))⟩,
      ⟨some 8, none, (.call ⟨(.value (.func 129)), #[(.tmp 6), (.tmp 7)], #[65, 3]⟩)⟩,
      ⟨some 1, none, (.assign (.tmp 8))⟩])
    (.seq
     (.seq
      (.ops [⟨some 9, none, (.move (.tmp 1))⟩,
        ⟨some 10, none, (.binOp .lss 3 (.tmp 9) (.const (.int .i64 0)) 3)⟩])
      (.cond (.tmp 10)
       (.seq
        (.ops [⟨some 4, none, (.assign (.const (.int .i64 (-1))))⟩])
        .ret)
       .skip))
     (.seq
      (.ops [⟨some 11, none, (.move (.tmp 1))⟩,
        ⟨some 4, none, (.assign (.tmp 11))⟩])
      .ret))))
theorem w56 {args : Array Value} {H : AH} {Φ : Value → AH → Prop} (h : rW Try.prog k56 [] (fin Try.prog [(.tmp 4)] Φ) (tm0 args) H) : CallsA Try.prog 56 args H Φ :=
  CallsA.w k56 [(.tmp 4)] (fun _ => []) Try.func56 rfl rfl (by kernel_rfl) (by kernel_rfl) h

/-- spec.l1In -/
def k84 : KC :=
  (.seq
   (.ops [⟨some 6, none, (.assign (.const (.bool false)))⟩])
   (.seq
    (.ops [⟨some 7, none, (.move (.tmp 0))⟩,
      ⟨some 8, none, (.move (.tmp 1))⟩,
      ⟨some 9, none, (.binOp .geq 3 (.tmp 7) (.tmp 8) 3)⟩,
      ⟨some 10, none, (.move (.tmp 9))⟩,
      ⟨some 11, (some (10, true)), (.move (.tmp 0))⟩,
      ⟨some 12, (some (10, true)), (.move (.tmp 2))⟩,
      ⟨some 13, (some (10, true)), (.binOp .leq 3 (.tmp 11) (.tmp 12) 3)⟩,
      ⟨some 14, none, (.pick (.tmp 10) (.tmp 13) (.const (.bool false)))⟩,
      ⟨some 6, none, (.assign (.tmp 14))⟩])
    .ret))
theorem w84 {args : Array Value} {H : AH} {Φ : Value → AH → Prop} (h : rW Try.prog k84 [] (fin Try.prog [(.tmp 6)] Φ) (tm0 args) H) : CallsA Try.prog 84 args H Φ :=
  CallsA.w k84 [(.tmp 6)] (fun _ => []) Try.func84 rfl rfl (by kernel_rfl) (by kernel_rfl) h

/-- spec.NumOk -/
def k128 : KC :=
  (.seq
   (.ops [⟨some 2, none, (.assign (.const (.bool false)))⟩])
   (.seq
    (.ops [⟨some 3, none, (.move (.tmp 0))⟩,
      ⟨some 4, none, (.call ⟨(.value (.func 84)), #[(.tmp 3), (.const (.int .i64 (-1000000000000))), (.const (.int .i64 1000000000000))], #[3, 3, 3]⟩)⟩,
      ⟨some 2, none, (.assign (.tmp 4))⟩])
    .ret))
theorem w128 {args : Array Value} {H : AH} {Φ : Value → AH → Prop} (h : rW Try.prog k128 [] (fin Try.prog [(.tmp 2)] Φ) (tm0 args) H) : CallsA Try.prog 128 args H Φ :=
  CallsA.w k128 [(.tmp 2)] (fun _ => []) Try.func128 rfl rfl (by kernel_rfl) (by kernel_rfl) h

/-- spec.l9Nums -/
def k158 : KC :=
  (.seq
   (.ops [⟨some 2, none, (.assign (.const (.bool false)))⟩])
   (.seq
    (.seq
     (.ops [⟨some 3, none, (.assign (.const (.int .i64 0)))⟩])
     (.block 0
      (.loop
       (.seq
        (.seq
         (.ops [⟨some 4, none, (.move (.tmp 3))⟩,
           ⟨some 5, none, (.move (.tmp 0))⟩,
           ⟨some 6, none, (.call ⟨(.builtin .len), #[(.tmp 5)], #[43]⟩)⟩,
           ⟨some 7, none, (.binOp .lss 3 (.tmp 4) (.tmp 6) 3)⟩])
         (.cond (.tmp 7)
          .skip
          (.exit 0)))
        (.seq
         (.block 1
          (.seq
           (.ops [⟨some 10, none, (.move (.tmp 0))⟩,
             ⟨some 11, none, (.move (.tmp 3))⟩,
             ⟨some 12, none, (.indexAddr 43 (.tmp 10) (.tmp 11))⟩,
             ⟨some 13, none, (.load 3 (.tmp 12))⟩,
             ⟨some 14, none, (.call ⟨(.value (.func 128)), #[(.tmp 13)], #[3]⟩)⟩,
             ⟨some 15, none, (.unOp .not 4 (.tmp 14))⟩])
           (.cond (.tmp 15)
            (.seq
             (.ops [⟨some 2, none, (.assign (.const (.bool false)))⟩])
             .ret)
            .skip)))
         (.ops [⟨some 8, none, (.move (.tmp 3))⟩,
           ⟨some 9, none, (.binOp .add 3 (.tmp 8) (.const (.int .i64 1)) 3)⟩,
           ⟨some 3, none, (.assign (.tmp 9))⟩]))))))
    (.seq
     (.ops [⟨some 16, none, (.move (.tmp 0))⟩,
       ⟨some 17, none, (.call ⟨(.builtin .len), #[(.tmp 16)], #[43]⟩)⟩,
       ⟨some 18, none, (.call ⟨(.value (.func 84)), #[(.tmp 17), (.const (.int .i64 1)), (.const (.int .i64 300))], #[3, 3, 3]⟩)⟩,
       ⟨some 2, none, (.assign (.tmp 18))⟩])
     .ret)))
theorem w158 {args : Array Value} {H : AH} {Φ : Value → AH → Prop} (h : rW Try.prog k158 [] (fin Try.prog [(.tmp 2)] Φ) (tm0 args) H) : CallsA Try.prog 158 args H Φ :=
  CallsA.w k158 [(.tmp 2)] (fun _ => []) Try.func158 rfl rfl (by kernel_rfl) (by kernel_rfl) h

/-- spec.l1Sign2 -/
def k145 : KC :=
  (.seq
   (.ops [⟨some 2, none, (.assign (.const (.bool false)))⟩])
   (.seq
    (.ops [⟨some 3, none, (.move (.tmp 0))⟩,
      ⟨some 4, none, (.binOp .eql 3 (.tmp 3) (.const (.int .i64 43)) 3)⟩,
      ⟨some 5, none, (.move (.tmp 4))⟩,
      ⟨some 6, (some (5, false)), (.move (.tmp 0))⟩,
      ⟨some 7, (some (5, false)), (.binOp .eql 3 (.tmp 6) (.const (.int .i64 45)) 3)⟩,
      ⟨some 8, none, (.pick (.tmp 5) (.const (.bool true)) (.tmp 7))⟩,
      ⟨some 9, none, (.move (.tmp 8))⟩,
      ⟨some 10, (some (9, false)), (.move (.tmp 0))⟩,
      ⟨some 11, (some (9, false)), (.binOp .eql 3 (.tmp 10) (.const (.int .i64 42)) 3)⟩,
      ⟨some 12, none, (.pick (.tmp 9) (.const (.bool true)) (.tmp 11))⟩,
      ⟨some 13, none, (.move (.tmp 12))⟩,
      ⟨some 14, (some (13, false)), (.move (.tmp 0))⟩,
      ⟨some 15, (some (13, false)), (.binOp .eql 3 (.tmp 14) (.const (.int .i64 37)) 3)⟩,
      ⟨some 16, none, (.pick (.tmp 13) (.const (.bool true)) (.tmp 15))⟩,
      ⟨some 17, none, (.move (.tmp 16))⟩,
      ⟨some 18, (some (17, false)), (.move (.tmp 0))⟩,
      ⟨some 19, (some (17, false)), (.binOp .eql 3 (.tmp 18) (.const (.int .i64 124)) 3)⟩,
      ⟨some 20, none, (.pick (.tmp 17) (.const (.bool true)) (.tmp 19))⟩,
      ⟨some 21, none, (.move (.tmp 20))⟩,
      ⟨some 22, (some (21, false)), (.move (.tmp 0))⟩,
      ⟨some 23, (some (21, false)), (.binOp .eql 3 (.tmp 22) (.const (.int .i64 38)) 3)⟩,
      ⟨some 24, none, (.pick (.tmp 21) (.const (.bool true)) (.tmp 23))⟩,
      ⟨some 25, none, (.move (.tmp 24))⟩,
      ⟨some 26, (some (25, false)), (.move (.tmp 0))⟩,
      ⟨some 27, (some (25, false)), (.binOp .eql 3 (.tmp 26) (.const (.int .i64 94)) 3)⟩,
      ⟨some 28, none, (.pick (.tmp 25) (.const (.bool true)) (.tmp 27))⟩,
      ⟨some 29, none, (.move (.tmp 28))⟩,
      ⟨some 30, (some (29, false)), (.move (.tmp 0))⟩,
      ⟨some 31, (some (29, false)), (.binOp .eql 3 (.tmp 30) (.const (.int .i64 61)) 3)⟩,
      ⟨some 32, none, (.pick (.tmp 29) (.const (.bool true)) (.tmp 31))⟩,
      ⟨some 33, none, (.move (.tmp 32))⟩,
      ⟨some 34, (some (33, false)), (.move (.tmp 0))⟩,
      ⟨some 35, (some (33, false)), (.binOp .eql 3 (.tmp 34) (.const (.int .i64 60)) 3)⟩,
      ⟨some 36, none, (.pick (.tmp 33) (.const (.bool true)) (.tmp 35))⟩,
      ⟨some 37, none, (.move (.tmp 36))⟩,
      ⟨some 38, (some (37, false)), (.move (.tmp 0))⟩,
      ⟨some 39, (some (37, false)), (.binOp .eql 3 (.tmp 38) (.const (.int .i64 62)) 3)⟩,
      ⟨some 40, none, (.pick (.tmp 37) (.const (.bool true)) (.tmp 39))⟩,
      ⟨some 2, none, (.assign (.tmp 40))⟩])
    .ret))
theorem w145 {args : Array Value} {H : AH} {Φ : Value → AH → Prop} (h : rW Try.prog k145 [] (fin Try.prog [(.tmp 2)] Φ) (tm0 args) H) : CallsA Try.prog 145 args H Φ :=
  CallsA.w k145 [(.tmp 2)] (fun _ => []) Try.func145 rfl rfl (by kernel_rfl) (by kernel_rfl) h

/-- spec.l1Sign1 -/
def k184 : KC :=
  (.seq
   (.ops [⟨some 2, none, (.assign (.const (.bool false)))⟩])
   (.seq
    (.ops [⟨some 3, none, (.move (.tmp 0))⟩,
      ⟨some 4, none, (.binOp .eql 3 (.tmp 3) (.const (.int .i64 43)) 3)⟩,
      ⟨some 5, none, (.move (.tmp 4))⟩,
      ⟨some 6, (some (5, false)), (.move (.tmp 0))⟩,
      ⟨some 7, (some (5, false)), (.binOp .eql 3 (.tmp 6) (.const (.int .i64 45)) 3)⟩,
      ⟨some 8, none, (.pick (.tmp 5) (.const (.bool true)) (.tmp 7))⟩,
      ⟨some 9, none, (.move (.tmp 8))⟩,
      ⟨some 10, (some (9, false)), (.move (.tmp 0))⟩,
      ⟨some 11, (some (9, false)), (.binOp .eql 3 (.tmp 10) (.const (.int .i64 42)) 3)⟩,
      ⟨some 12, none, (.pick (.tmp 9) (.const (.bool true)) (.tmp 11))⟩,
      ⟨some 13, none, (.move (.tmp 12))⟩,
      ⟨some 14, (some (13, false)), (.move (.tmp 0))⟩,
      ⟨some 15, (some (13, false)), (.binOp .eql 3 (.tmp 14) (.const (.int .i64 124)) 3)⟩,
      ⟨some 16, none, (.pick (.tmp 13) (.const (.bool true)) (.tmp 15))⟩,
      ⟨some 17, none, (.move (.tmp 16))⟩,
      ⟨some 18, (some (17, false)), (.move (.tmp 0))⟩,
      ⟨some 19, (some (17, false)), (.binOp .eql 3 (.tmp 18) (.const (.int .i64 126)) 3)⟩,
      ⟨some 20, none, (.pick (.tmp 17) (.const (.bool true)) (.tmp 19))⟩,
      ⟨some 2, none, (.assign (.tmp 20))⟩])
    .ret))
theorem w184 {args : Array Value} {H : AH} {Φ : Value → AH → Prop} (h : rW Try.prog k184 [] (fin Try.prog [(.tmp 2)] Φ) (tm0 args) H) : CallsA Try.prog 184 args H Φ :=
  CallsA.w k184 [(.tmp 2)] (fun _ => []) Try.func184 rfl rfl (by kernel_rfl) (by kernel_rfl) h

/-- spec.FunOne -/
def k159 : KC :=
  (.seq
   (.ops [⟨some 1, none, (.box 121 (.tmp 0))⟩,
     ⟨some 2, none, (.assign (.const (.bool false)))⟩])
   (.seq
    (.block 0
     (.seq
      (.ops [⟨some 4, none, (.fieldAddr 121 (.tmp 1) 2)⟩,
        ⟨some 5, none, (.load 3 (.tmp 4))⟩,
        ⟨some 6, none, (.binOp .neq 3 (.tmp 5) (.const (.int .i64 0)) 3)⟩,
        ⟨some 3, none, (.assign (.tmp 6))⟩])
      (.cond (.tmp 3)
       (.seq
        (.ops [⟨some 2, none, (.assign (.const (.bool false)))⟩])
        .ret)
       (.seq
        (.ops [⟨some 8, none, (.fieldAddr 121 (.tmp 1) 1)⟩,
          ⟨some 9, none, (.load 3 (.tmp 8))⟩,
          ⟨some 10, none, (.binOp .eql 3 (.tmp 9) (.const (.int .i64 47)) 3)⟩,
          ⟨some 11, none, (.move (.tmp 10))⟩,
          ⟨some 12, (some (11, false)), (.fieldAddr 121 (.tmp 1) 1)⟩,
          ⟨some 13, (some (11, false)), (.load 3 (.tmp 12))⟩,
          ⟨some 14, (some (11, false)), (.binOp .eql 3 (.tmp 13) (.const (.int .i64 92)) 3)⟩,
          ⟨some 15, none, (.pick (.tmp 11) (.const (.bool true)) (.tmp 14))⟩,
          ⟨some 7, none, (.assign (.tmp 15))⟩])
        (.cond (.tmp 7)
         (.seq
          (.ops [⟨some 16, none, (.fieldAddr 121 (.tmp 1) 0)⟩,
            ⟨some 17, none, (.load 3 (.tmp 16))⟩,
            ⟨some 18, none, (.call ⟨(.value (.func 145)), #[(.tmp 17)], #[3]⟩)⟩,
            ⟨some 2, none, (.assign (.tmp 18))⟩])
          .ret)
         (.seq
          (.ops [⟨some 20, none, (.fieldAddr 121 (.tmp 1) 1)⟩,
            ⟨some 21, none, (.load 3 (.tmp 20))⟩,
            ⟨some 22, none, (.binOp .neq 3 (.tmp 21) (.const (.int .i64 0)) 3)⟩,
            ⟨some 19, none, (.assign (.tmp 22))⟩])
          (.cond (.tmp 19)
           (.seq
            (.ops [⟨some 2, none, (.assign (.const (.bool false)))⟩])
            .ret)
           .skip)))))))
    (.seq
     (.ops [⟨some 23, none, (.fieldAddr 121 (.tmp 1) 0)⟩,
       ⟨some 24, none, (.load 3 (.tmp 23))⟩,
       ⟨some 25, none, (.call ⟨(.value (.func 184)), #[(.tmp 24)], #[3]⟩)⟩,
       ⟨some 26, none, (.move (.tmp 25))⟩,
       ⟨some 27, (some (26, false)), (.fieldAddr 121 (.tmp 1) 0)⟩,
       ⟨some 28, (some (26, false)), (.load 3 (.tmp 27))⟩,
       ⟨some 29, (some (26, false)), (.binOp .eql 3 (.tmp 28) (.const (.int .i64 105)) 3)⟩,
       ⟨some 30, none, (.pick (.tmp 26) (.const (.bool true)) (.tmp 29))⟩,
       ⟨some 31, none, (.move (.tmp 30))⟩,
       ⟨some 32, (some (31, false)), (.fieldAddr 121 (.tmp 1) 0)⟩,
       ⟨some 33, (some (31, false)), (.load 3 (.tmp 32))⟩,
       ⟨some 34, (some (31, false)), (.binOp .eql 3 (.tmp 33) (.const (.int .i64 35)) 3)⟩,
       ⟨some 35, none, (.pick (.tmp 31) (.const (.bool true)) (.tmp 34))⟩,
       ⟨some 36, none, (.move (.tmp 35))⟩,
       ⟨some 37, (some (36, false)), (.fieldAddr 121 (.tmp 1) 0)⟩,
       ⟨some 38, (some (36, false)), (.load 3 (.tmp 37))⟩,
       ⟨some 39, (some (36, false)), (.binOp .eql 3 (.tmp 38) (.const (.int .i64 44)) 3)⟩,
       ⟨some 40, none, (.pick (.tmp 36) (.const (.bool true)) (.tmp 39))⟩,
       ⟨some 41, none, (.move (.tmp 40))⟩,
       ⟨some 42, (some (41, false)), (.fieldAddr 121 (.tmp 1) 0)⟩,
       ⟨some 43, (some (41, false)), (.load 3 (.tmp 42))⟩,
       ⟨some 44, (some (41, false)), (.binOp .eql 3 (.tmp 43) (.const (.int .i64 114)) 3)⟩,
       ⟨some 45, none, (.pick (.tmp 41) (.const (.bool true)) (.tmp 44))⟩,
       ⟨some 46, none, (.move (.tmp 45))⟩,
       ⟨some 47, (some (46, false)), (.fieldAddr 121 (.tmp 1) 0)⟩,
       ⟨some 48, (some (46, false)), (.load 3 (.tmp 47))⟩,
       ⟨some 49, (some (46, false)), (.binOp .eql 3 (.tmp 48) (.const (.int .i64 122)) 3)⟩,
       ⟨some 50, none, (.pick (.tmp 46) (.const (.bool true)) (.tmp 49))⟩,
       ⟨some 51, none, (.move (.tmp 50))⟩,
       ⟨some 52, (some (51, false)), (.fieldAddr 121 (.tmp 1) 0)⟩,
       ⟨some 53, (some (51, false)), (.load 3 (.tmp 52))⟩,
       ⟨some 54, (some (51, false)), (.binOp .eql 3 (.tmp 53) (.const (.int .i64 103)) 3)⟩,
       ⟨some 55, none, (.pick (.tmp 51) (.const (.bool true)) (.tmp 54))⟩,
       ⟨some 2, none, (.assign (.tmp 55))⟩])
     .ret)))
theorem w159 {args : Array Value} {H : AH} {Φ : Value → AH → Prop} (h : rW Try.prog k159 [] (fin Try.prog [(.tmp 2)] Φ) (tm0 args) H) : CallsA Try.prog 159 args H Φ :=
  CallsA.w k159 [(.tmp 2)] (fun _ => []) Try.func159 rfl rfl (by kernel_rfl) (by kernel_rfl) h

/-- spec.FunTwo -/
def k160 : KC :=
  (.seq
   (.ops [⟨some 1, none, (.box 121 (.tmp 0))⟩,
     ⟨some 2, none, (.assign (.const (.bool false)))⟩])
   (.seq
    (.seq
     (.ops [⟨some 3, none, (.fieldAddr 121 (.tmp 1) 1)⟩,
       ⟨some 4, none, (.load 3 (.tmp 3))⟩,
       ⟨some 5, none, (.binOp .eql 3 (.tmp 4) (.const (.int .i64 46)) 3)⟩])
     (.cond (.tmp 5)
      (.seq
       (.ops [⟨some 6, none, (.fieldAddr 121 (.tmp 1) 0)⟩,
         ⟨some 7, none, (.load 3 (.tmp 6))⟩,
         ⟨some 8, none, (.call ⟨(.value (.func 145)), #[(.tmp 7)], #[3]⟩)⟩,
         ⟨some 9, none, (.move (.tmp 8))⟩,
         ⟨some 10, (some (9, true)), (.fieldAddr 121 (.tmp 1) 2)⟩,
         ⟨some 11, (some (9, true)), (.load 3 (.tmp 10))⟩,
         ⟨some 12, (some (9, true)), (.call ⟨(.value (.func 145)), #[(.tmp 11)], #[3]⟩)⟩,
         ⟨some 13, none, (.pick (.tmp 9) (.tmp 12) (.const (.bool false)))⟩,
         ⟨some 2, none, (.assign (.tmp 13))⟩])
       .ret)
      .skip))
    (.seq
     (.block 0
      (.seq
       (.ops [⟨some 15, none, (.fieldAddr 121 (.tmp 1) 2)⟩,
         ⟨some 16, none, (.load 3 (.tmp 15))⟩,
         ⟨some 17, none, (.binOp .neq 3 (.tmp 16) (.const (.int .i64 0)) 3)⟩,
         ⟨some 14, none, (.assign (.tmp 17))⟩])
       (.cond (.tmp 14)
        (.seq
         (.ops [⟨some 2, none, (.assign (.const (.bool false)))⟩])
         .ret)
        (.seq
         (.ops [⟨some 19, none, (.fieldAddr 121 (.tmp 1) 1)⟩,
           ⟨some 20, none, (.load 3 (.tmp 19))⟩,
           ⟨some 21, none, (.binOp .eql 3 (.tmp 20) (.const (.int .i64 111)) 3)⟩,
           ⟨some 18, none, (.assign (.tmp 21))⟩])
         (.cond (.tmp 18)
          (.seq
           (.ops [⟨some 22, none, (.fieldAddr 121 (.tmp 1) 0)⟩,
             ⟨some 23, none, (.load 3 (.tmp 22))⟩,
             ⟨some 24, none, (.call ⟨(.value (.func 145)), #[(.tmp 23)], #[3]⟩)⟩,
             ⟨some 2, none, (.assign (.tmp 24))⟩])
           .ret)
          (.seq
           (.ops [⟨some 26, none, (.fieldAddr 121 (.tmp 1) 1)⟩,
             ⟨some 27, none, (.load 3 (.tmp 26))⟩,
             ⟨some 28, none, (.binOp .neq 3 (.tmp 27) (.const (.int .i64 0)) 3)⟩,
             ⟨some 25, none, (.assign (.tmp 28))⟩])
           (.cond (.tmp 25)
            (.seq
             (.ops [⟨some 2, none, (.assign (.const (.bool false)))⟩])
             .ret)
            .skip)))))))
     (.seq
      (.ops [⟨some 29, none, (.fieldAddr 121 (.tmp 1) 0)⟩,
        ⟨some 30, none, (.load 3 (.tmp 29))⟩,
        ⟨some 31, none, (.call ⟨(.value (.func 145)), #[(.tmp 30)], #[3]⟩)⟩,
        ⟨some 32, none, (.move (.tmp 31))⟩,
        ⟨some 33, (some (32, false)), (.fieldAddr 121 (.tmp 1) 0)⟩,
        ⟨some 34, (some (32, false)), (.load 3 (.tmp 33))⟩,
        ⟨some 35, (some (32, false)), (.binOp .eql 3 (.tmp 34) (.const (.int .i64 35)) 3)⟩,
        ⟨some 36, none, (.pick (.tmp 32) (.const (.bool true)) (.tmp 35))⟩,
        ⟨some 37, none, (.move (.tmp 36))⟩,
        ⟨some 38, (some (37, false)), (.fieldAddr 121 (.tmp 1) 0)⟩,
        ⟨some 39, (some (37, false)), (.load 3 (.tmp 38))⟩,
        ⟨some 40, (some (37, false)), (.binOp .eql 3 (.tmp 39) (.const (.int .i64 44)) 3)⟩,
        ⟨some 41, none, (.pick (.tmp 37) (.const (.bool true)) (.tmp 40))⟩,
        ⟨some 42, none, (.move (.tmp 41))⟩,
        ⟨some 43, (some (42, false)), (.fieldAddr 121 (.tmp 1) 0)⟩,
        ⟨some 44, (some (42, false)), (.load 3 (.tmp 43))⟩,
        ⟨some 45, (some (42, false)), (.binOp .eql 3 (.tmp 44) (.const (.int .i64 116)) 3)⟩,
        ⟨some 46, none, (.pick (.tmp 42) (.const (.bool true)) (.tmp 45))⟩,
        ⟨some 47, none, (.move (.tmp 46))⟩,
        ⟨some 48, (some (47, false)), (.fieldAddr 121 (.tmp 1) 0)⟩,
        ⟨some 49, (some (47, false)), (.load 3 (.tmp 48))⟩,
        ⟨some 50, (some (47, false)), (.binOp .eql 3 (.tmp 49) (.const (.int .i64 100)) 3)⟩,
        ⟨some 51, none, (.pick (.tmp 47) (.const (.bool true)) (.tmp 50))⟩,
        ⟨some 52, none, (.move (.tmp 51))⟩,
        ⟨some 53, (some (52, false)), (.fieldAddr 121 (.tmp 1) 0)⟩,
        ⟨some 54, (some (52, false)), (.load 3 (.tmp 53))⟩,
        ⟨some 55, (some (52, false)), (.binOp .eql 3 (.tmp 54) (.const (.int .i64 114)) 3)⟩,
        ⟨some 56, none, (.pick (.tmp 52) (.const (.bool true)) (.tmp 55))⟩,
        ⟨some 57, none, (.move (.tmp 56))⟩,
        ⟨some 58, (some (57, false)), (.fieldAddr 121 (.tmp 1) 0)⟩,
        ⟨some 59, (some (57, false)), (.load 3 (.tmp 58))⟩,
        ⟨some 60, (some (57, false)), (.binOp .eql 3 (.tmp 59) (.const (.int .i64 64)) 3)⟩,
        ⟨some 61, none, (.pick (.tmp 57) (.const (.bool true)) (.tmp 60))⟩,
        ⟨some 62, none, (.move (.tmp 61))⟩,
        ⟨some 63, (some (62, false)), (.fieldAddr 121 (.tmp 1) 0)⟩,
        ⟨some 64, (some (62, false)), (.load 3 (.tmp 63))⟩,
        ⟨some 65, (some (62, false)), (.binOp .eql 3 (.tmp 64) (.const (.int .i64 63)) 3)⟩,
        ⟨some 66, none, (.pick (.tmp 62) (.const (.bool true)) (.tmp 65))⟩,
        ⟨some 67, none, (.move (.tmp 66))⟩,
        ⟨some 68, (some (67, false)), (.fieldAddr 121 (.tmp 1) 0)⟩,
        ⟨some 69, (some (67, false)), (.load 3 (.tmp 68))⟩,
        ⟨some 70, (some (67, false)), (.binOp .eql 3 (.tmp 69) (.const (.int .i64 36)) 3)⟩,
        ⟨some 71, none, (.pick (.tmp 67) (.const (.bool true)) (.tmp 70))⟩,
        ⟨some 72, none, (.move (.tmp 71))⟩,
        ⟨some 73, (some (72, false)), (.fieldAddr 121 (.tmp 1) 0)⟩,
        ⟨some 74, (some (72, false)), (.load 3 (.tmp 73))⟩,
        ⟨some 75, (some (72, false)), (.binOp .eql 3 (.tmp 74) (.const (.int .i64 101)) 3)⟩,
        ⟨some 76, none, (.pick (.tmp 72) (.const (.bool true)) (.tmp 75))⟩,
        ⟨some 2, none, (.assign (.tmp 76))⟩])
      .ret))))
theorem w160 {args : Array Value} {H : AH} {Φ : Value → AH → Prop} (h : rW Try.prog k160 [] (fin Try.prog [(.tmp 2)] Φ) (tm0 args) H) : CallsA Try.prog 160 args H Φ :=
  CallsA.w k160 [(.tmp 2)] (fun _ => []) Try.func160 rfl rfl (by kernel_rfl) (by kernel_rfl) h

/-- spec.l9Node -/
def k130 : KC :=
  (.seq
   (.ops [⟨some 3, none, (.box 142 (.tmp 0))⟩,
     ⟨some 6, none, (.assign (.const (.int .i64 0)))⟩,
     ⟨some 7, none, (.assign (.const (.bool false)))⟩])
   (.seq
    (.ops [⟨some 9, none, (.build 121 #[])⟩,
      ⟨some 8, none, (.alloc 121)⟩,
      ⟨none, none, (.store 121 (.tmp 8) (.tmp 9))⟩])
    (.seq
     (.seq
      (.ops [⟨some 10, none, (.fieldAddr 142 (.tmp 3) 0)⟩,
        ⟨some 11, none, (.load 3 (.tmp 10))⟩])
      (.block 0
       (.seq
        (.ops [⟨some 13, none, (.binOp .eql 3 (.tmp 11) (.const (.int .i64 1)) 3)⟩,
          ⟨some 12, none, (.assign (.tmp 13))⟩])
        (.cond (.tmp 12)
         (.seq
          (.ops [⟨some 14, none, (.fieldAddr 142 (.tmp 3) 1)⟩,
            ⟨some 15, none, (.load 3 (.tmp 14))⟩,
            ⟨some 16, none, (.binOp .eql 3 (.tmp 15) (.const (.int .i64 0)) 3)⟩,
            ⟨some 17, none, (.move (.tmp 16))⟩,
            ⟨some 18, (some (17, true)), (.fieldAddr 142 (.tmp 3) 2)⟩,
            ⟨some 19, (some (17, true)), (.load 3 (.tmp 18))⟩,
            ⟨some 20, (some (17, true)), (.binOp .eql 3 (.tmp 19) (.const (.int .i64 0)) 3)⟩,
            ⟨some 21, none, (.pick (.tmp 17) (.tmp 20) (.const (.bool false)))⟩,
            ⟨some 22, none, (.move (.tmp 21))⟩,
            ⟨some 23, (some (22, true)), (.fieldAddr 142 (.tmp 3) 3)⟩,
            ⟨some 24, (some (22, true)), (.load 121 (.tmp 23))⟩,
            ⟨some 25, (some (22, true)), (.load 121 (.tmp 8))⟩,
            ⟨some 26, (some (22, true)), (.binOp .eql 121 (.tmp 24) (.tmp 25) 121)⟩,
            ⟨some 27, none, (.pick (.tmp 22) (.tmp 26) (.const (.bool false)))⟩,
            ⟨some 28, none, (.move (.tmp 27))⟩,
            ⟨some 29, (some (28, true)), (.fieldAddr 142 (.tmp 3) 4)⟩,
            ⟨some 30, (some (28, true)), (.load 43 (.tmp 29))⟩,
            ⟨some 31, (some (28, true)), (.call ⟨(.value (.func 158)), #[(.tmp 30)], #[43]⟩)⟩,
            ⟨some 32, none, (.pick (.tmp 28) (.tmp 31) (.const (.bool false)))⟩,
            ⟨some 6, none, (.assign (.const (.int .i64 1)))⟩,
            ⟨some 7, none, (.assign (.tmp 32))⟩])
          .ret)
         (.seq
          (.ops [⟨some 34, none, (.binOp .eql 3 (.tmp 11) (.const (.int .i64 2)) 3)⟩,
            ⟨some 33, none, (.assign (.tmp 34))⟩])
          (.cond (.tmp 33)
           (.seq
            (.draw #[] [(1, 0), (5, 3), (10, 3), (11, 3), (16, 3)]
              [⟨some 35, none, (.fieldAddr 142 (.tmp 3) 1)⟩,
              ⟨some 36, none, (.load 3 (.tmp 35))⟩,
              ⟨some 37, none, (.call ⟨(.value (.func 84)), #[(.tmp 36), (.const (.int .i64 0)), (.const (.int .i64 25))], #[3, 3, 3]⟩)⟩,
              ⟨some 38, none, (.move (.tmp 37))⟩,
              ⟨some 39, (some (38, true)), (.fieldAddr 142 (.tmp 3) 2)⟩,
              ⟨some 40, (some (38, true)), (.load 3 (.tmp 39))⟩,
              ⟨some 41, (some (38, true)), (.binOp .eql 3 (.tmp 40) (.const (.int .i64 0)) 3)⟩,
              ⟨some 42, none, (.pick (.tmp 38) (.tmp 41) (.const (.bool false)))⟩,
              ⟨some 43, none, (.move (.tmp 42))⟩,
              ⟨some 44, (some (43, true)), (.fieldAddr 142 (.tmp 3) 3)⟩,
              ⟨some 45, (some (43, true)), (.load 121 (.tmp 44))⟩,
              ⟨some 46, (some (43, true)), (.load 121 (.tmp 8))⟩,
              ⟨some 47, (some (43, true)), (.binOp .eql 121 (.tmp 45) (.tmp 46) 121)⟩,
              ⟨some 48, none, (.pick (.tmp 43) (.tmp 47) (.const (.bool false)))⟩,
              ⟨some 49, none, (.move (.tmp 48))⟩,
              ⟨some 50, (some (49, true)), (.fieldAddr 142 (.tmp 3) 4)⟩,
              ⟨some 51, (some (49, true)), (.load 43 (.tmp 50))⟩,
              ⟨some 52, (some (49, true)), (.call ⟨(.builtin .len), #[(.tmp 51)], #[43]⟩)⟩,
              ⟨some 53, (some (49, true)), (.binOp .eql 3 (.tmp 52) (.const (.int .i64 0)) 3)⟩,
              ⟨some 54, none, (.pick (.tmp 49) (.tmp 53) (.const (.bool false)))⟩,
              ⟨some 6, none, (.assign (.const (.int .i64 1)))⟩,
              ⟨some 7, none, (.assign (.tmp 54))⟩])
            .ret)
           (.seq
            (.ops [⟨some 56, none, (.binOp .eql 3 (.tmp 11) (.const (.int .i64 3)) 3)⟩,
              ⟨some 55, none, (.assign (.tmp 56))⟩])
            (.cond (.tmp 55)
             (.seq
              (.seq
               (.ops [⟨some 57, none, (.move (.tmp 1))⟩,
                 ⟨some 58, none, (.binOp .lss 3 (.tmp 57) (.const (.int .i64 1)) 3)⟩,
                 ⟨some 59, none, (.move (.tmp 58))⟩,
                 ⟨some 60, (some (59, false)), (.fieldAddr 142 (.tmp 3) 2)⟩,
                 ⟨some 61, (some (59, false)), (.load 3 (.tmp 60))⟩,
                 ⟨some 62, (some (59, false)), (.move (.tmp 1))⟩,
                 ⟨some 63, (some (59, false)), (.binOp .sub 3 (.tmp 62) (.const (.int .i64 1)) 3)⟩,
                 ⟨some 64, (some (59, false)), (.binOp .neq 3 (.tmp 61) (.tmp 63) 3)⟩,
                 ⟨some 65, none, (.pick (.tmp 59) (.const (.bool true)) (.tmp 64))⟩])
               (.cond (.tmp 65)
                (.seq
                 (.ops [⟨some 6, none, (.assign (.const (.int .i64 0)))⟩,
                   ⟨some 7, none, (.assign (.const (.bool false)))⟩])
                 .ret)
                .skip))
              (.seq
               (.draw #[] [(4, 0), (4, 9), (7, 0), (11, 9), (12, 9), (17, 9)]
                 [⟨some 66, none, (.move (.tmp 2))⟩,
                 ⟨some 67, none, (.move (.tmp 1))⟩,
                 ⟨some 68, none, (.binOp .sub 3 (.tmp 67) (.const (.int .i64 1)) 3)⟩,
                 ⟨some 69, none, (.indexAddr 43 (.tmp 66) (.tmp 68))⟩,
                 ⟨some 70, none, (.load 3 (.tmp 69))⟩,
                 ⟨some 71, none, (.binOp .add 3 (.tmp 70) (.const (.int .i64 1)) 3)⟩,
                 ⟨some 72, none, (.fieldAddr 142 (.tmp 3) 1)⟩,
                 ⟨some 73, none, (.load 3 (.tmp 72))⟩,
                 ⟨some 74, none, (.call ⟨(.value (.func 84)), #[(.tmp 73), (.const (.int .i64 0)), (.const (.int .i64 25))], #[3, 3, 3]⟩)⟩,
                 ⟨some 75, none, (.move (.tmp 74))⟩,
                 ⟨some 76, (some (75, true)), (.fieldAddr 142 (.tmp 3) 3)⟩,
                 ⟨some 77, (some (75, true)), (.load 121 (.tmp 76))⟩,
                 ⟨some 78, (some (75, true)), (.load 121 (.tmp 8))⟩,
                 ⟨some 79, (some (75, true)), (.binOp .eql 121 (.tmp 77) (.tmp 78) 121)⟩,
                 ⟨some 80, none, (.pick (.tmp 75) (.tmp 79) (.const (.bool false)))⟩,
                 ⟨some 81, none, (.move (.tmp 80))⟩,
                 ⟨some 82, (some (81, true)), (.fieldAddr 142 (.tmp 3) 4)⟩,
                 ⟨some 83, (some (81, true)), (.load 43 (.tmp 82))⟩,
                 ⟨some 84, (some (81, true)), (.call ⟨(.builtin .len), #[(.tmp 83)], #[43]⟩)⟩,
                 ⟨some 85, (some (81, true)), (.binOp .eql 3 (.tmp 84) (.const (.int .i64 0)) 3)⟩,
                 ⟨some 86, none, (.pick (.tmp 81) (.tmp 85) (.const (.bool false)))⟩,
                 ⟨some 6, none, (.assign (.tmp 71))⟩,
                 ⟨some 7, none, (.assign (.tmp 86))⟩])
               .ret))
             (.seq
              (.ops [⟨some 88, none, (.binOp .eql 3 (.tmp 11) (.const (.int .i64 4)) 3)⟩,
                ⟨some 87, none, (.assign (.tmp 88))⟩])
              (.cond (.tmp 87)
               (.seq
                (.seq
                 (.ops [⟨some 89, none, (.move (.tmp 1))⟩,
                   ⟨some 90, none, (.binOp .lss 3 (.tmp 89) (.const (.int .i64 1)) 3)⟩,
                   ⟨some 91, none, (.move (.tmp 90))⟩,
                   ⟨some 92, (some (91, false)), (.fieldAddr 142 (.tmp 3) 2)⟩,
                   ⟨some 93, (some (91, false)), (.load 3 (.tmp 92))⟩,
                   ⟨some 94, (some (91, false)), (.move (.tmp 1))⟩,
                   ⟨some 95, (some (91, false)), (.binOp .sub 3 (.tmp 94) (.const (.int .i64 1)) 3)⟩,
                   ⟨some 96, (some (91, false)), (.binOp .neq 3 (.tmp 93) (.tmp 95) 3)⟩,
                   ⟨some 97, none, (.pick (.tmp 91) (.const (.bool true)) (.tmp 96))⟩])
                 (.cond (.tmp 97)
                  (.seq
                   (.ops [⟨some 6, none, (.assign (.const (.int .i64 0)))⟩,
                     ⟨some 7, none, (.assign (.const (.bool false)))⟩])
                   .ret)
                  .skip))
                (.seq
                 (.draw #[] [(4, 0), (4, 13), (7, 0), (11, 0), (16, 13)]
                   [⟨some 98, none, (.move (.tmp 2))⟩,
                   ⟨some 99, none, (.move (.tmp 1))⟩,
                   ⟨some 100, none, (.binOp .sub 3 (.tmp 99) (.const (.int .i64 1)) 3)⟩,
                   ⟨some 101, none, (.indexAddr 43 (.tmp 98) (.tmp 100))⟩,
                   ⟨some 102, none, (.load 3 (.tmp 101))⟩,
                   ⟨some 103, none, (.binOp .add 3 (.tmp 102) (.const (.int .i64 1)) 3)⟩,
                   ⟨some 104, none, (.fieldAddr 142 (.tmp 3) 1)⟩,
                   ⟨some 105, none, (.load 3 (.tmp 104))⟩,
                   ⟨some 106, none, (.binOp .eql 3 (.tmp 105) (.const (.int .i64 0)) 3)⟩,
                   ⟨some 107, none, (.move (.tmp 106))⟩,
                   ⟨some 108, (some (107, true)), (.fieldAddr 142 (.tmp 3) 3)⟩,
                   ⟨some 109, (some (107, true)), (.load 121 (.tmp 108))⟩,
                   ⟨some 110, (some (107, true)), (.call ⟨(.value (.func 159)), #[(.tmp 109)], #[121]⟩)⟩,
                   ⟨some 111, none, (.pick (.tmp 107) (.tmp 110) (.const (.bool false)))⟩,
                   ⟨some 112, none, (.move (.tmp 111))⟩,
                   ⟨some 113, (some (112, true)), (.fieldAddr 142 (.tmp 3) 4)⟩,
                   ⟨some 114, (some (112, true)), (.load 43 (.tmp 113))⟩,
                   ⟨some 115, (some (112, true)), (.call ⟨(.builtin .len), #[(.tmp 114)], #[43]⟩)⟩,
                   ⟨some 116, (some (112, true)), (.binOp .eql 3 (.tmp 115) (.const (.int .i64 0)) 3)⟩,
                   ⟨some 117, none, (.pick (.tmp 112) (.tmp 116) (.const (.bool false)))⟩,
                   ⟨some 6, none, (.assign (.tmp 103))⟩,
                   ⟨some 7, none, (.assign (.tmp 117))⟩])
                 .ret))
               (.seq
                (.ops [⟨some 119, none, (.binOp .eql 3 (.tmp 11) (.const (.int .i64 5)) 3)⟩,
                  ⟨some 118, none, (.assign (.tmp 119))⟩])
                (.cond (.tmp 118)
                 (.seq
                  (.seq
                   (.ops [⟨some 120, none, (.move (.tmp 1))⟩,
                     ⟨some 121, none, (.binOp .lss 3 (.tmp 120) (.const (.int .i64 2)) 3)⟩,
                     ⟨some 122, none, (.move (.tmp 121))⟩,
                     ⟨some 123, (some (122, false)), (.fieldAddr 142 (.tmp 3) 1)⟩,
                     ⟨some 124, (some (122, false)), (.load 3 (.tmp 123))⟩,
                     ⟨some 125, (some (122, false)), (.move (.tmp 1))⟩,
                     ⟨some 126, (some (122, false)), (.binOp .sub 3 (.tmp 125) (.const (.int .i64 1)) 3)⟩,
                     ⟨some 127, (some (122, false)), (.binOp .neq 3 (.tmp 124) (.tmp 126) 3)⟩,
                     ⟨some 128, none, (.pick (.tmp 122) (.const (.bool true)) (.tmp 127))⟩,
                     ⟨some 129, none, (.move (.tmp 128))⟩,
                     ⟨some 130, (some (129, false)), (.fieldAddr 142 (.tmp 3) 2)⟩,
                     ⟨some 131, (some (129, false)), (.load 3 (.tmp 130))⟩,
                     ⟨some 132, (some (129, false)), (.move (.tmp 1))⟩,
                     ⟨some 133, (some (129, false)), (.binOp .sub 3 (.tmp 132) (.const (.int .i64 1)) 3)⟩,
                     ⟨some 134, (some (129, false)), (.move (.tmp 2))⟩,
                     ⟨some 135, (some (129, false)), (.move (.tmp 1))⟩,
                     ⟨some 136, (some (129, false)), (.binOp .sub 3 (.tmp 135) (.const (.int .i64 1)) 3)⟩,
                     ⟨some 137, (some (129, false)), (.indexAddr 43 (.tmp 134) (.tmp 136))⟩,
                     ⟨some 138, (some (129, false)), (.load 3 (.tmp 137))⟩,
                     ⟨some 139, (some (129, false)), (.binOp .sub 3 (.tmp 133) (.tmp 138) 3)⟩,
                     ⟨some 140, (some (129, false)), (.binOp .neq 3 (.tmp 131) (.tmp 139) 3)⟩,
                     ⟨some 141, none, (.pick (.tmp 129) (.const (.bool true)) (.tmp 140))⟩,
                     ⟨some 142, none, (.move (.tmp 141))⟩,
                     ⟨some 143, (some (142, false)), (.fieldAddr 142 (.tmp 3) 2)⟩,
                     ⟨some 144, (some (142, false)), (.load 3 (.tmp 143))⟩,
                     ⟨some 145, (some (142, false)), (.binOp .lss 3 (.tmp 144) (.const (.int .i64 0)) 3)⟩,
                     ⟨some 146, none, (.pick (.tmp 142) (.const (.bool true)) (.tmp 145))⟩])
                   (.cond (.tmp 146)
                    (.seq
                     (.ops [⟨some 6, none, (.assign (.const (.int .i64 0)))⟩,
                       ⟨some 7, none, (.assign (.const (.bool false)))⟩])
                     .ret)
                    .skip))
                  (.seq
                   (.draw #[] [(2, 0), (2, 15), (4, 0), (4, 15), (7, 0), (7, 15), (9, 0), (9, 15), (13, 0), (17, 15)]
                     [⟨some 147, none, (.move (.tmp 2))⟩,
                     ⟨some 148, none, (.fieldAddr 142 (.tmp 3) 1)⟩,
                     ⟨some 149, none, (.load 3 (.tmp 148))⟩,
                     ⟨some 150, none, (.indexAddr 43 (.tmp 147) (.tmp 149))⟩,
                     ⟨some 151, none, (.load 3 (.tmp 150))⟩,
                     ⟨some 152, none, (.move (.tmp 2))⟩,
                     ⟨some 153, none, (.fieldAddr 142 (.tmp 3) 2)⟩,
                     ⟨some 154, none, (.load 3 (.tmp 153))⟩,
                     ⟨some 155, none, (.indexAddr 43 (.tmp 152) (.tmp 154))⟩,
                     ⟨some 156, none, (.load 3 (.tmp 155))⟩,
                     ⟨some 157, none, (.binOp .add 3 (.tmp 151) (.tmp 156) 3)⟩,
                     ⟨some 158, none, (.binOp .add 3 (.tmp 157) (.const (.int .i64 1)) 3)⟩,
                     ⟨some 159, none, (.fieldAddr 142 (.tmp 3) 3)⟩,
                     ⟨some 160, none, (.load 121 (.tmp 159))⟩,
                     ⟨some 161, none, (.call ⟨(.value (.func 160)), #[(.tmp 160)], #[121]⟩)⟩,
                     ⟨some 162, none, (.move (.tmp 161))⟩,
                     ⟨some 163, (some (162, true)), (.fieldAddr 142 (.tmp 3) 4)⟩,
                     ⟨some 164, (some (162, true)), (.load 43 (.tmp 163))⟩,
                     ⟨some 165, (some (162, true)), (.call ⟨(.builtin .len), #[(.tmp 164)], #[43]⟩)⟩,
                     ⟨some 166, (some (162, true)), (.binOp .eql 3 (.tmp 165) (.const (.int .i64 0)) 3)⟩,
                     ⟨some 167, none, (.pick (.tmp 162) (.tmp 166) (.const (.bool false)))⟩,
                     ⟨some 6, none, (.assign (.tmp 158))⟩,
                     ⟨some 7, none, (.assign (.tmp 167))⟩])
                   .ret))
                 .skip))))))))))))
     (.seq
      (.ops [⟨some 6, none, (.assign (.const (.int .i64 0)))⟩,
        ⟨some 7, none, (.assign (.const (.bool false)))⟩])
      .ret))))
theorem w130 {args : Array Value} {H : AH} {Φ : Value → AH → Prop} (h : rW Try.prog k130 [] (fin Try.prog [(.tmp 6), (.tmp 7)] Φ) (tm0 args) H) : CallsA Try.prog 130 args H Φ :=
  CallsA.w k130 [(.tmp 6), (.tmp 7)] (fun i => if i = 6 then [(1, 0), (5, 3), (10, 3), (11, 3), (16, 3)] else if i = 10 then [(4, 0), (4, 9), (7, 0), (11, 9), (12, 9), (17, 9)] else if i = 14 then [(4, 0), (4, 13), (7, 0), (11, 0), (16, 13)] else if i = 16 then [(4, 0), (11, 0), (18, 0), (24, 0)] else if i = 18 then [(2, 0), (2, 15), (4, 0), (4, 15), (7, 0), (7, 15), (9, 0), (9, 15), (13, 0), (17, 15)] else []) Try.func130 rfl rfl (by kernel_rfl) (by kernel_rfl) h

/-- spec.TreeOk -/
def k57 : KC :=
  (.seq
   (.ops [⟨some 1, none, (.box 72 (.tmp 0))⟩,
     ⟨some 2, none, (.assign (.const (.bool false)))⟩])
   (.seq
    (.ops [⟨some 8, none, (.fieldAddr 72 (.tmp 1) 0)⟩,
      ⟨some 9, none, (.load 70 (.tmp 8))⟩,
      ⟨some 10, none, (.call ⟨(.builtin .len), #[(.tmp 9)], #[70]⟩)⟩,
      ⟨some 3, none, (.assign (.tmp 10))⟩])
    (.seq
     (.seq
      (.ops [⟨some 11, none, (.move (.tmp 3))⟩,
        ⟨some 12, none, (.call ⟨(.value (.func 84)), #[(.tmp 11), (.const (.int .i64 1)), (.const (.int .i64 60))], #[3, 3, 3]⟩)⟩,
        ⟨some 13, none, (.unOp .not 4 (.tmp 12))⟩])
      (.cond (.tmp 13)
       (.seq
        (.ops [⟨some 2, none, (.assign (.const (.bool false)))⟩])
        .ret)
       .skip))
     (.seq
      (.ops [⟨some 14, none, (.buildSlice 43 0 #[])⟩,
        ⟨some 4, none, (.assign (.tmp 14))⟩])
      (.seq
       (.seq
        (.ops [⟨some 5, none, (.assign (.const (.int .i64 0)))⟩])
        (.block 0
         (.loop
          (.seq
           (.seq
            (.ops [⟨some 15, none, (.move (.tmp 5))⟩,
              ⟨some 16, none, (.move (.tmp 3))⟩,
              ⟨some 17, none, (.binOp .lss 3 (.tmp 15) (.tmp 16) 3)⟩])
            (.cond (.tmp 17)
             .skip
             (.exit 0)))
           (.seq
            (.block 1
             (.seq
              (.ops [⟨some 21, none, (.fieldAddr 72 (.tmp 1) 0)⟩,
                ⟨some 22, none, (.load 70 (.tmp 21))⟩,
                ⟨some 23, none, (.move (.tmp 5))⟩,
                ⟨some 24, none, (.indexAddr 70 (.tmp 22) (.tmp 23))⟩,
                ⟨some 25, none, (.load 142 (.tmp 24))⟩,
                ⟨some 26, none, (.move (.tmp 5))⟩,
                ⟨some 27, none, (.move (.tmp 4))⟩,
                ⟨some 28, none, (.call ⟨(.value (.func 130)), #[(.tmp 25), (.tmp 26), (.tmp 27)], #[142, 3, 43]⟩)⟩,
                ⟨some 20, none, (.move (.tmp 28))⟩,
                ⟨some 29, none, (.extract (.tmp 20) 0)⟩,
                ⟨some 30, none, (.extract (.tmp 20) 1)⟩,
                ⟨some 6, none, (.assign (.tmp 29))⟩,
                ⟨some 7, none, (.assign (.tmp 30))⟩])
              (.seq
               (.seq
                (.ops [⟨some 31, none, (.move (.tmp 7))⟩,
                  ⟨some 32, none, (.unOp .not 4 (.tmp 31))⟩])
                (.cond (.tmp 32)
                 (.seq
                  (.ops [⟨some 2, none, (.assign (.const (.bool false)))⟩])
                  .ret)
                 .skip))
               (.ops [⟨some 33, none, (.move (.tmp 4))⟩,
                 ⟨some 34, none, (.move (.tmp 6))⟩,
                 ⟨some 35, none, (.buildSlice 43 1 #[(0, (.tmp 34))])⟩,
                 ⟨some 36, none, (.call ⟨(.builtin .append), #[(.tmp 33), (.tmp 35)], #[43, 43]⟩)⟩,
                 ⟨some 4, none, (.assign (.tmp 36))⟩]))))
            (.ops [⟨some 18, none, (.move (.tmp 5))⟩,
              ⟨some 19, none, (.binOp .add 3 (.tmp 18) (.const (.int .i64 1)) 3)⟩,
              ⟨some 5, none, (.assign (.tmp 19))⟩]))))))
       (.seq
        (.ops [⟨some 37, none, (.move (.tmp 4))⟩,
          ⟨some 38, none, (.move (.tmp 3))⟩,
          ⟨some 39, none, (.binOp .sub 3 (.tmp 38) (.const (.int .i64 1)) 3)⟩,
          ⟨some 40, none, (.indexAddr 43 (.tmp 37) (.tmp 39))⟩,
          ⟨some 41, none, (.load 3 (.tmp 40))⟩,
          ⟨some 42, none, (.move (.tmp 3))⟩,
          ⟨some 43, none, (.binOp .eql 3 (.tmp 41) (.tmp 42) 3)⟩,
          ⟨some 2, none, (.assign (.tmp 43))⟩])
        .ret))))))
theorem w57 {args : Array Value} {H : AH} {Φ : Value → AH → Prop} (h : rW Try.prog k57 [] (fin Try.prog [(.tmp 2)] Φ) (tm0 args) H) : CallsA Try.prog 57 args H Φ :=
  CallsA.w k57 [(.tmp 2)] (fun _ => []) Try.func57 rfl rfl (by kernel_rfl) (by kernel_rfl) h

/-- laws.toIntS -/
def k139 : KC :=
  (.seq
   (.ops [⟨some 2, none, (.assign (.const (.slice none 0 0)))⟩])
   (.seq
    (.ops [⟨some 5, none, (.move (.tmp 0))⟩,
      ⟨some 6, none, (.call ⟨(.builtin .len), #[(.tmp 5)], #[43]⟩)⟩,
      ⟨some 7, none, (.makeSlice 43 (.tmp 6) (.tmp 6))⟩,
      ⟨some 3, none, (.assign (.tmp 7))⟩])
    (.seq
     (.seq
      (.ops [⟨some 4, none, (.assign (.const (.int .i64 0)))⟩])
      (.block 0
       (.loop
        (.seq
         (.seq
          (.ops [⟨some 8, none, (.move (.tmp 4))⟩,
            ⟨some 9, none, (.move (.tmp 0))⟩,
            ⟨some 10, none, (.call ⟨(.builtin .len), #[(.tmp 9)], #[43]⟩)⟩,
            ⟨some 11, none, (.binOp .lss 3 (.tmp 8) (.tmp 10) 3)⟩])
          (.cond (.tmp 11)
           .skip
           (.exit 0)))
         (.seq
          (.block 1
           (.ops [⟨some 14, none, (.move (.tmp 3))⟩,
             ⟨some 15, none, (.move (.tmp 4))⟩,
             ⟨some 16, none, (.move (.tmp 0))⟩,
             ⟨some 17, none, (.move (.tmp 4))⟩,
             ⟨some 18, none, (.indexAddr 43 (.tmp 16) (.tmp 17))⟩,
             ⟨some 19, none, (.load 3 (.tmp 18))⟩,
             ⟨some 20, none, (.indexAddr 43 (.tmp 14) (.tmp 15))⟩,
             ⟨none, none, (.store 3 (.tmp 20) (.tmp 19))⟩]))
          (.ops [⟨some 12, none, (.move (.tmp 4))⟩,
            ⟨some 13, none, (.binOp .add 3 (.tmp 12) (.const (.int .i64 1)) 3)⟩,
            ⟨some 4, none, (.assign (.tmp 13))⟩]))))))
     (.seq
      (.ops [⟨some 21, none, (.move (.tmp 3))⟩,
        ⟨some 2, none, (.assign (.tmp 21))⟩])
      .ret))))
theorem w139 {args : Array Value} {H : AH} {Φ : Value → AH → Prop} (h : rW Try.prog k139 [] (fin Try.prog [(.tmp 2)] Φ) (tm0 args) H) : CallsA Try.prog 139 args H Φ :=
  CallsA.w k139 [(.tmp 2)] (fun _ => []) Try.func139 rfl rfl (by kernel_rfl) (by kernel_rfl) h

/-- laws.toFun -/
def k162 : KC :=
  (.seq
   (.ops [⟨some 1, none, (.box 117 (.tmp 0))⟩,
     ⟨some 2, none, (.alloc 121)⟩])
   (.seq
    (.ops [⟨some 3, none, (.alloc 121)⟩])
    (.seq
     (.ops [⟨some 4, none, (.fieldAddr 117 (.tmp 1) 0)⟩,
       ⟨some 5, none, (.load 3 (.tmp 4))⟩,
       ⟨some 6, none, (.fieldAddr 121 (.tmp 3) 0)⟩,
       ⟨none, none, (.store 3 (.tmp 6) (.tmp 5))⟩])
     (.seq
      (.ops [⟨some 7, none, (.fieldAddr 117 (.tmp 1) 1)⟩,
        ⟨some 8, none, (.load 3 (.tmp 7))⟩,
        ⟨some 9, none, (.fieldAddr 121 (.tmp 3) 1)⟩,
        ⟨none, none, (.store 3 (.tmp 9) (.tmp 8))⟩])
      (.seq
       (.ops [⟨some 10, none, (.fieldAddr 117 (.tmp 1) 2)⟩,
         ⟨some 11, none, (.load 3 (.tmp 10))⟩,
         ⟨some 12, none, (.fieldAddr 121 (.tmp 3) 2)⟩,
         ⟨none, none, (.store 3 (.tmp 12) (.tmp 11))⟩])
       (.seq
        (.ops [⟨some 13, none, (.load 121 (.tmp 3))⟩,
          ⟨none, none, (.store 121 (.tmp 2) (.tmp 13))⟩])
        .ret))))))
theorem w162 {args : Array Value} {H : AH} {Φ : Value → AH → Prop} (h : rW Try.prog k162 [] (fin Try.prog [(.cell 2 121)] Φ) (tm0 args) H) : CallsA Try.prog 162 args H Φ :=
  CallsA.w k162 [(.cell 2 121)] (fun _ => []) Try.func162 rfl rfl (by kernel_rfl) (by kernel_rfl) h

/-- laws.toExpr -/
def k174 : KC :=
  (.seq
   (.ops [⟨some 1, none, (.box 171 (.tmp 0))⟩,
     ⟨some 2, none, (.alloc 142)⟩])
   (.seq
    (.ops [⟨some 3, none, (.alloc 142)⟩])
    (.seq
     (.ops [⟨some 4, none, (.fieldAddr 171 (.tmp 1) 0)⟩,
       ⟨some 5, none, (.load 3 (.tmp 4))⟩,
       ⟨some 6, none, (.fieldAddr 142 (.tmp 3) 0)⟩,
       ⟨none, none, (.store 3 (.tmp 6) (.tmp 5))⟩])
     (.seq
      (.ops [⟨some 7, none, (.fieldAddr 171 (.tmp 1) 1)⟩,
        ⟨some 8, none, (.load 3 (.tmp 7))⟩,
        ⟨some 9, none, (.fieldAddr 142 (.tmp 3) 1)⟩,
        ⟨none, none, (.store 3 (.tmp 9) (.tmp 8))⟩])
      (.seq
       (.ops [⟨some 10, none, (.fieldAddr 171 (.tmp 1) 2)⟩,
         ⟨some 11, none, (.load 3 (.tmp 10))⟩,
         ⟨some 12, none, (.fieldAddr 142 (.tmp 3) 2)⟩,
         ⟨none, none, (.store 3 (.tmp 12) (.tmp 11))⟩])
       (.seq
        (.ops [⟨some 13, none, (.fieldAddr 171 (.tmp 1) 3)⟩,
          ⟨some 14, none, (.load 117 (.tmp 13))⟩,
          ⟨some 15, none, (.call ⟨(.value (.func 162)), #[(.tmp 14)], #[117]⟩)⟩,
          ⟨some 16, none, (.fieldAddr 142 (.tmp 3) 3)⟩,
          ⟨none, none, (.store 121 (.tmp 16) (.tmp 15))⟩])
        (.seq
         (.ops [⟨some 17, none, (.fieldAddr 171 (.tmp 1) 4)⟩,
           ⟨some 18, none, (.load 43 (.tmp 17))⟩,
           ⟨some 19, none, (.call ⟨(.value (.func 139)), #[(.tmp 18)], #[43]⟩)⟩,
           ⟨some 20, none, (.fieldAddr 142 (.tmp 3) 4)⟩,
           ⟨none, none, (.store 43 (.tmp 20) (.tmp 19))⟩])
         (.seq
          (.ops [⟨some 21, none, (.load 142 (.tmp 3))⟩,
            ⟨none, none, (.store 142 (.tmp 2) (.tmp 21))⟩])
          .ret))))))))
theorem w174 {args : Array Value} {H : AH} {Φ : Value → AH → Prop} (h : rW Try.prog k174 [] (fin Try.prog [(.cell 2 142)] Φ) (tm0 args) H) : CallsA Try.prog 174 args H Φ :=
  CallsA.w k174 [(.cell 2 142)] (fun _ => []) Try.func174 rfl rfl (by kernel_rfl) (by kernel_rfl) h

/-- laws.toExprS -/
def k131 : KC :=
  (.seq
   (.ops [⟨some 2, none, (.assign (.const (.slice none 0 0)))⟩])
   (.seq
    (.ops [⟨some 5, none, (.move (.tmp 0))⟩,
      ⟨some 6, none, (.call ⟨(.builtin .len), #[(.tmp 5)], #[65]⟩)⟩,
      ⟨some 7, none, (.makeSlice 70 (.tmp 6) (.tmp 6))⟩,
      ⟨some 3, none, (.assign (.tmp 7))⟩])
    (.seq
     (.seq
      (.ops [⟨some 4, none, (.assign (.const (.int .i64 0)))⟩])
      (.block 0
       (.loop
        (.seq
         (.seq
          (.ops [⟨some 8, none, (.move (.tmp 4))⟩,
            ⟨some 9, none, (.move (.tmp 0))⟩,
            ⟨some 10, none, (.call ⟨(.builtin .len), #[(.tmp 9)], #[65]⟩)⟩,
            ⟨some 11, none, (.binOp .lss 3 (.tmp 8) (.tmp 10) 3)⟩])
          (.cond (.tmp 11)
           .skip
           (.exit 0)))
         (.seq
          (.block 1
           (.ops [⟨some 14, none, (.move (.tmp 3))⟩,
             ⟨some 15, none, (.move (.tmp 4))⟩,
             ⟨some 16, none, (.move (.tmp 0))⟩,
             ⟨some 17, none, (.move (.tmp 4))⟩,
             ⟨some 18, none, (.indexAddr 65 (.tmp 16) (.tmp 17))⟩,
             ⟨some 19, none, (.load 171 (.tmp 18))⟩,
             ⟨some 20, none, (.call ⟨(.value (.func 174)), #[(.tmp 19)], #[171]⟩)⟩,
             ⟨some 21, none, (.indexAddr 70 (.tmp 14) (.tmp 15))⟩,
             ⟨none, none, (.store 142 (.tmp 21) (.tmp 20))⟩]))
          (.ops [⟨some 12, none, (.move (.tmp 4))⟩,
            ⟨some 13, none, (.binOp .add 3 (.tmp 12) (.const (.int .i64 1)) 3)⟩,
            ⟨some 4, none, (.assign (.tmp 13))⟩]))))))
     (.seq
      (.ops [⟨some 22, none, (.move (.tmp 3))⟩,
        ⟨some 2, none, (.assign (.tmp 22))⟩])
      .ret))))
theorem w131 {args : Array Value} {H : AH} {Φ : Value → AH → Prop} (h : rW Try.prog k131 [] (fin Try.prog [(.tmp 2)] Φ) (tm0 args) H) : CallsA Try.prog 131 args H Φ :=
  CallsA.w k131 [(.tmp 2)] (fun _ => []) Try.func131 rfl rfl (by kernel_rfl) (by kernel_rfl) h

/-- laws.toTree -/
def k58 : KC :=
  (.seq
   (.ops [⟨some 1, none, (.box 67 (.tmp 0))⟩,
     ⟨some 2, none, (.alloc 72)⟩])
   (.seq
    (.ops [⟨some 3, none, (.alloc 72)⟩])
    (.seq
     (.ops [⟨some 4, none, (.fieldAddr 67 (.tmp 1) 0)⟩,
       ⟨some 5, none, (.load 65 (.tmp 4))⟩,
       ⟨some 6, none, (.call ⟨(.value (.func 131)), #[(.tmp 5)], #[65]⟩)⟩,
       ⟨some 7, none, (.fieldAddr 72 (.tmp 3) 0)⟩,
       ⟨none, none, (.store 70 (.tmp 7) (.tmp 6))⟩])
     (.seq
      (.ops [⟨some 8, none, (.load 72 (.tmp 3))⟩,
        ⟨none, none, (.store 72 (.tmp 2) (.tmp 8))⟩])
      .ret))))
theorem w58 {args : Array Value} {H : AH} {Φ : Value → AH → Prop} (h : rW Try.prog k58 [] (fin Try.prog [(.cell 2 72)] Φ) (tm0 args) H) : CallsA Try.prog 58 args H Φ :=
  CallsA.w k58 [(.cell 2 72)] (fun _ => []) Try.func58 rfl rfl (by kernel_rfl) (by kernel_rfl) h

/-- impl.within -/
def k106 : KC :=
  (.seq
   (.ops [⟨some 6, none, (.assign (.const (.bool false)))⟩])
   (.seq
    (.ops [⟨some 7, none, (.move (.tmp 0))⟩,
      ⟨some 8, none, (.move (.tmp 1))⟩,
      ⟨some 9, none, (.binOp .geq 3 (.tmp 7) (.tmp 8) 3)⟩,
      ⟨some 10, none, (.move (.tmp 9))⟩,
      ⟨some 11, (some (10, true)), (.move (.tmp 0))⟩,
      ⟨some 12, (some (10, true)), (.move (.tmp 2))⟩,
      ⟨some 13, (some (10, true)), (.binOp .leq 3 (.tmp 11) (.tmp 12) 3)⟩,
      ⟨some 14, none, (.pick (.tmp 10) (.tmp 13) (.const (.bool false)))⟩,
      ⟨some 6, none, (.assign (.tmp 14))⟩])
    .ret))
theorem w106 {args : Array Value} {H : AH} {Φ : Value → AH → Prop} (h : rW Try.prog k106 [] (fin Try.prog [(.tmp 6)] Φ) (tm0 args) H) : CallsA Try.prog 106 args H Φ :=
  CallsA.w k106 [(.tmp 6)] (fun _ => []) Try.func106 rfl rfl (by kernel_rfl) (by kernel_rfl) h

/-- slices.IndexFunc[[]impl.Expr,impl.Expr] -/
def k175 : KC :=
  (.seq
   (.ops [⟨some 4, none, (.assign (.const (.int .i64 0)))⟩])
   (.seq
    (.seq
     (.ops [⟨some 6, none, (.move (.tmp 0))⟩,
       ⟨some 7, none, (.call ⟨(.builtin .len), #[(.tmp 6)], #[70]⟩)⟩,
       ⟨some 8, none, (.move (.const (.int .i64 0)))⟩])
     (.block 0
      (.loop
       (.seq
        (.ops [⟨some 9, none, (.binOp .lss 3 (.tmp 8) (.tmp 7) 3)⟩])
        (.seq
         (.cond (.tmp 9)
          .skip
          (.exit 0))
         (.seq
          (.block 1
           (.seq
            (.ops [⟨some 10, none, (.move (.tmp 8))⟩,
              ⟨some 5, none, (.assign (.tmp 10))⟩])
            (.seq
             (.ops [⟨some 11, none, (.move (.tmp 1))⟩,
               ⟨some 12, none, (.move (.tmp 0))⟩,
               ⟨some 13, none, (.move (.tmp 5))⟩,
               ⟨some 14, none, (.indexAddr 70 (.tmp 12) (.tmp 13))⟩,
               ⟨some 15, none, (.load 142 (.tmp 14))⟩,
               ⟨some 16, none, (.call ⟨(.value (.tmp 11)), #[(.tmp 15)], #[142]⟩)⟩])
             (.cond (.tmp 16)
              (.seq
               (.ops [⟨some 17, none, (.move (.tmp 5))⟩,
                 ⟨some 4, none, (.assign (.tmp 17))⟩])
               .ret)
              .skip))))
          (.ops [⟨some 18, none, (.binOp .add 3 (.tmp 8) (.const (.int .i64 1)) 3)⟩,
            ⟨some 8, none, (.move (.tmp 18))⟩])))))))
    (.seq
     (.ops [⟨some 4, none, (.assign (.const (.int .i64 (-1))))⟩])
     .ret)))
theorem w175 {args : Array Value} {H : AH} {Φ : Value → AH → Prop} (h : rW Try.prog k175 [] (fin Try.prog [(.tmp 4)] Φ) (tm0 args) H) : CallsA Try.prog 175 args H Φ :=
  CallsA.w k175 [(.tmp 4)] (fun _ => []) Try.func175 rfl rfl (by kernel_rfl) (by kernel_rfl) h

/-- slices.ContainsFunc[[]impl.Expr,impl.Expr] -/
def k132 : KC :=
  (.seq
   (.ops [⟨some 4, none, (.assign (.const (.bool false)))⟩])
   (.seq
    (.ops [⟨some 5, none, (.move (.tmp 0))⟩,
      ⟨some 6, none, (.move (.tmp 1))⟩,
      ⟨some 7, none, (.call ⟨(.value (.func 175)), #[(.tmp 5), (.tmp 6)], #[70, 145]⟩)⟩,
      ⟨some 8, none, (.binOp .geq 3 (.tmp 7) (.const (.int .i64 0)) 3)⟩,
      ⟨some 4, none, (.assign (.tmp 8))⟩])
    .ret))
theorem w132 {args : Array Value} {H : AH} {Φ : Value → AH → Prop} (h : rW Try.prog k132 [] (fin Try.prog [(.tmp 4)] Φ) (tm0 args) H) : CallsA Try.prog 132 args H Φ :=
  CallsA.w k132 [(.tmp 4)] (fun _ => []) Try.func132 rfl rfl (by kernel_rfl) (by kernel_rfl) h

/-- slices.IndexFunc[[]int,int] -/
def k170 : KC :=
  (.seq
   (.ops [⟨some 4, none, (.assign (.const (.int .i64 0)))⟩])
   (.seq
    (.seq
     (.ops [⟨some 6, none, (.move (.tmp 0))⟩,
       ⟨some 7, none, (.call ⟨(.builtin .len), #[(.tmp 6)], #[43]⟩)⟩,
       ⟨some 8, none, (.move (.const (.int .i64 0)))⟩])
     (.block 0
      (.loop
       (.seq
        (.ops [⟨some 9, none, (.binOp .lss 3 (.tmp 8) (.tmp 7) 3)⟩])
        (.seq
         (.cond (.tmp 9)
          .skip
          (.exit 0))
         (.seq
          (.block 1
           (.seq
            (.ops [⟨some 10, none, (.move (.tmp 8))⟩,
              ⟨some 5, none, (.assign (.tmp 10))⟩])
            (.seq
             (.ops [⟨some 11, none, (.move (.tmp 1))⟩,
               ⟨some 12, none, (.move (.tmp 0))⟩,
               ⟨some 13, none, (.move (.tmp 5))⟩,
               ⟨some 14, none, (.indexAddr 43 (.tmp 12) (.tmp 13))⟩,
               ⟨some 15, none, (.load 3 (.tmp 14))⟩,
               ⟨some 16, none, (.call ⟨(.value (.tmp 11)), #[(.tmp 15)], #[3]⟩)⟩])
             (.cond (.tmp 16)
              (.seq
               (.ops [⟨some 17, none, (.move (.tmp 5))⟩,
                 ⟨some 4, none, (.assign (.tmp 17))⟩])
               .ret)
              .skip))))
          (.ops [⟨some 18, none, (.binOp .add 3 (.tmp 8) (.const (.int .i64 1)) 3)⟩,
            ⟨some 8, none, (.move (.tmp 18))⟩])))))))
    (.seq
     (.ops [⟨some 4, none, (.assign (.const (.int .i64 (-1))))⟩])
     .ret)))
theorem w170 {args : Array Value} {H : AH} {Φ : Value → AH → Prop} (h : rW Try.prog k170 [] (fin Try.prog [(.tmp 4)] Φ) (tm0 args) H) : CallsA Try.prog 170 args H Φ :=
  CallsA.w k170 [(.tmp 4)] (fun _ => []) Try.func170 rfl rfl (by kernel_rfl) (by kernel_rfl) h

/-- slices.ContainsFunc[[]int,int] -/
def k118 : KC :=
  (.seq
   (.ops [⟨some 4, none, (.assign (.const (.bool false)))⟩])
   (.seq
    (.ops [⟨some 5, none, (.move (.tmp 0))⟩,
      ⟨some 6, none, (.move (.tmp 1))⟩,
      ⟨some 7, none, (.call ⟨(.value (.func 170)), #[(.tmp 5), (.tmp 6)], #[43, 101]⟩)⟩,
      ⟨some 8, none, (.binOp .geq 3 (.tmp 7) (.const (.int .i64 0)) 3)⟩,
      ⟨some 4, none, (.assign (.tmp 8))⟩])
    .ret))
theorem w118 {args : Array Value} {H : AH} {Φ : Value → AH → Prop} (h : rW Try.prog k118 [] (fin Try.prog [(.tmp 4)] Φ) (tm0 args) H) : CallsA Try.prog 118 args H Φ :=
  CallsA.w k118 [(.tmp 4)] (fun _ => []) Try.func118 rfl rfl (by kernel_rfl) (by kernel_rfl) h

/-- impl.NumOk -/
def k120 : KC :=
  (.seq
   (.ops [⟨some 2, none, (.assign (.const (.bool false)))⟩])
   (.seq
    (.ops [⟨some 3, none, (.move (.tmp 0))⟩,
      ⟨some 4, none, (.call ⟨(.value (.func 106)), #[(.tmp 3), (.const (.int .i64 (-1000000000000))), (.const (.int .i64 1000000000000))], #[3, 3, 3]⟩)⟩,
      ⟨some 2, none, (.assign (.tmp 4))⟩])
    .ret))
theorem w120 {args : Array Value} {H : AH} {Φ : Value → AH → Prop} (h : rW Try.prog k120 [] (fin Try.prog [(.tmp 2)] Φ) (tm0 args) H) : CallsA Try.prog 120 args H Φ :=
  CallsA.w k120 [(.tmp 2)] (fun _ => []) Try.func120 rfl rfl (by kernel_rfl) (by kernel_rfl) h

/-- impl.numsOk$1 -/
def k185 : KC :=
  (.seq
   (.ops [⟨some 2, none, (.assign (.const (.bool false)))⟩])
   (.seq
    (.ops [⟨some 3, none, (.move (.tmp 0))⟩,
      ⟨some 4, none, (.call ⟨(.value (.func 120)), #[(.tmp 3)], #[3]⟩)⟩,
      ⟨some 5, none, (.unOp .not 4 (.tmp 4))⟩,
      ⟨some 2, none, (.assign (.tmp 5))⟩])
    .ret))
theorem w185 {args : Array Value} {H : AH} {Φ : Value → AH → Prop} (h : rW Try.prog k185 [] (fin Try.prog [(.tmp 2)] Φ) (tm0 args) H) : CallsA Try.prog 185 args H Φ :=
  CallsA.w k185 [(.tmp 2)] (fun _ => []) Try.func185 rfl rfl (by kernel_rfl) (by kernel_rfl) h

/-- impl.numsOk -/
def k164 : KC :=
  (.seq
   (.ops [⟨some 2, none, (.assign (.const (.bool false)))⟩])
   (.seq
    (.ops [⟨some 3, none, (.move (.tmp 0))⟩,
      ⟨some 4, none, (.call ⟨(.builtin .len), #[(.tmp 3)], #[43]⟩)⟩,
      ⟨some 5, none, (.call ⟨(.value (.func 106)), #[(.tmp 4), (.const (.int .i64 1)), (.const (.int .i64 300))], #[3, 3, 3]⟩)⟩,
      ⟨some 6, none, (.move (.tmp 5))⟩,
      ⟨some 7, (some (6, true)), (.move (.tmp 0))⟩,
      ⟨some 8, (some (6, true)), (.call ⟨(.value (.func 118)), #[(.tmp 7), (.func 185)], #[43, 101]⟩)⟩,
      ⟨some 9, (some (6, true)), (.unOp .not 4 (.tmp 8))⟩,
      ⟨some 10, none, (.pick (.tmp 6) (.tmp 9) (.const (.bool false)))⟩,
      ⟨some 2, none, (.assign (.tmp 10))⟩])
    .ret))
theorem w164 {args : Array Value} {H : AH} {Φ : Value → AH → Prop} (h : rW Try.prog k164 [] (fin Try.prog [(.tmp 2)] Φ) (tm0 args) H) : CallsA Try.prog 164 args H Φ :=
  CallsA.w k164 [(.tmp 2)] (fun _ => []) Try.func164 rfl rfl (by kernel_rfl) (by kernel_rfl) h

/-- impl.hasSign -/
def k152 : KC :=
  (.seq
   (.ops [⟨some 4, none, (.assign (.const (.bool false)))⟩])
   (.seq
    (.seq
     (.ops [⟨some 5, none, (.assign (.const (.int .i64 0)))⟩])
     (.block 0
      (.loop
       (.seq
        (.seq
         (.ops [⟨some 6, none, (.move (.tmp 5))⟩,
           ⟨some 7, none, (.move (.tmp 0))⟩,
           ⟨some 8, none, (.call ⟨(.builtin .len), #[(.tmp 7)], #[9]⟩)⟩,
           ⟨some 9, none, (.binOp .lss 3 (.tmp 6) (.tmp 8) 3)⟩])
         (.cond (.tmp 9)
          .skip
          (.exit 0)))
        (.seq
         (.block 1
          (.seq
           (.ops [⟨some 12, none, (.move (.tmp 0))⟩,
             ⟨some 13, none, (.move (.tmp 5))⟩,
             ⟨some 14, none, (.index 9 (.tmp 12) (.tmp 13))⟩,
             ⟨some 15, none, (.convert 5 3 (.tmp 14))⟩,
             ⟨some 16, none, (.move (.tmp 1))⟩,
             ⟨some 17, none, (.binOp .eql 3 (.tmp 15) (.tmp 16) 3)⟩])
           (.cond (.tmp 17)
            (.seq
             (.ops [⟨some 4, none, (.assign (.const (.bool true)))⟩])
             .ret)
            .skip)))
         (.ops [⟨some 10, none, (.move (.tmp 5))⟩,
           ⟨some 11, none, (.binOp .add 3 (.tmp 10) (.const (.int .i64 1)) 3)⟩,
           ⟨some 5, none, (.assign (.tmp 11))⟩]))))))
    (.seq
     (.ops [⟨some 4, none, (.assign (.const (.bool false)))⟩])
     .ret)))
theorem w152 {args : Array Value} {H : AH} {Φ : Value → AH → Prop} (h : rW Try.prog k152 [] (fin Try.prog [(.tmp 4)] Φ) (tm0 args) H) : CallsA Try.prog 152 args H Φ :=
  CallsA.w k152 [(.tmp 4)] (fun _ => []) Try.func152 rfl rfl (by kernel_rfl) (by kernel_rfl) h

/-- impl.twoSign -/
def k147 : KC :=
  (.seq
   (.ops [⟨some 2, none, (.assign (.const (.bool false)))⟩])
   (.seq
    (.ops [⟨some 3, none, (.move (.tmp 0))⟩,
      ⟨some 4, none, (.call ⟨(.value (.func 152)), #[(.const (.string ⟨#[43, 45, 42, 37, 124, 38, 94, 61, 60, 62]⟩)), (.tmp 3)], #[9, 3]⟩)⟩,
      ⟨some 2, none, (.assign (.tmp 4))⟩])
    .ret))
theorem w147 {args : Array Value} {H : AH} {Φ : Value → AH → Prop} (h : rW Try.prog k147 [] (fin Try.prog [(.tmp 2)] Φ) (tm0 args) H) : CallsA Try.prog 147 args H Φ :=
  CallsA.w k147 [(.tmp 2)] (fun _ => []) Try.func147 rfl rfl (by kernel_rfl) (by kernel_rfl) h

/-- impl.oneSign -/
def k186 : KC :=
  (.seq
   (.ops [⟨some 2, none, (.assign (.const (.bool false)))⟩])
   (.seq
    (.ops [⟨some 3, none, (.move (.tmp 0))⟩,
      ⟨some 4, none, (.call ⟨(.value (.func 152)), #[(.const (.string ⟨#[43, 45, 42, 124, 126]⟩)), (.tmp 3)], #[9, 3]⟩)⟩,
      ⟨some 2, none, (.assign (.tmp 4))⟩])
    .ret))
theorem w186 {args : Array Value} {H : AH} {Φ : Value → AH → Prop} (h : rW Try.prog k186 [] (fin Try.prog [(.tmp 2)] Φ) (tm0 args) H) : CallsA Try.prog 186 args H Φ :=
  CallsA.w k186 [(.tmp 2)] (fun _ => []) Try.func186 rfl rfl (by kernel_rfl) (by kernel_rfl) h

/-- impl.FunOne -/
def k165 : KC :=
  (.seq
   (.ops [⟨some 1, none, (.box 121 (.tmp 0))⟩,
     ⟨some 2, none, (.assign (.const (.bool false)))⟩])
   (.seq
    (.seq
     (.ops [⟨some 3, none, (.fieldAddr 121 (.tmp 1) 1)⟩,
       ⟨some 4, none, (.load 3 (.tmp 3))⟩])
     (.block 0
      (.seq
       (.ops [⟨some 6, none, (.binOp .eql 3 (.tmp 4) (.const (.int .i64 0)) 3)⟩,
         ⟨some 5, none, (.assign (.tmp 6))⟩])
       (.cond (.tmp 5)
        (.seq
         (.ops [⟨some 7, none, (.fieldAddr 121 (.tmp 1) 2)⟩,
           ⟨some 8, none, (.load 3 (.tmp 7))⟩,
           ⟨some 9, none, (.binOp .eql 3 (.tmp 8) (.const (.int .i64 0)) 3)⟩,
           ⟨some 10, none, (.move (.tmp 9))⟩,
           ⟨some 11, (some (10, true)), (.fieldAddr 121 (.tmp 1) 0)⟩,
           ⟨some 12, (some (10, true)), (.load 3 (.tmp 11))⟩,
           ⟨some 13, (some (10, true)), (.call ⟨(.value (.func 186)), #[(.tmp 12)], #[3]⟩)⟩,
           ⟨some 14, (some (10, true)), (.move (.tmp 13))⟩,
           ⟨some 15, (some (14, false)), (.fieldAddr 121 (.tmp 1) 0)⟩,
           ⟨some 16, (some (14, false)), (.load 3 (.tmp 15))⟩,
           ⟨some 17, (some (14, false)), (.call ⟨(.value (.func 152)), #[(.const (.string ⟨#[105, 35, 44, 114, 122, 103]⟩)), (.tmp 16)], #[9, 3]⟩)⟩,
           ⟨some 18, (some (10, true)), (.pick (.tmp 14) (.const (.bool true)) (.tmp 17))⟩,
           ⟨some 19, none, (.pick (.tmp 10) (.tmp 18) (.const (.bool false)))⟩,
           ⟨some 2, none, (.assign (.tmp 19))⟩])
         .ret)
        (.seq
         (.seq
          (.ops [⟨some 21, none, (.binOp .eql 3 (.tmp 4) (.const (.int .i64 47)) 3)⟩,
            ⟨some 20, none, (.assign (.tmp 21))⟩])
          (.cond (.tmp 20)
           .skip
           (.ops [⟨some 22, none, (.binOp .eql 3 (.tmp 4) (.const (.int .i64 92)) 3)⟩,
             ⟨some 20, none, (.assign (.tmp 22))⟩])))
         (.cond (.tmp 20)
          (.seq
           (.ops [⟨some 23, none, (.fieldAddr 121 (.tmp 1) 2)⟩,
             ⟨some 24, none, (.load 3 (.tmp 23))⟩,
             ⟨some 25, none, (.binOp .eql 3 (.tmp 24) (.const (.int .i64 0)) 3)⟩,
             ⟨some 26, none, (.move (.tmp 25))⟩,
             ⟨some 27, (some (26, true)), (.fieldAddr 121 (.tmp 1) 0)⟩,
             ⟨some 28, (some (26, true)), (.load 3 (.tmp 27))⟩,
             ⟨some 29, (some (26, true)), (.call ⟨(.value (.func 147)), #[(.tmp 28)], #[3]⟩)⟩,
             ⟨some 30, none, (.pick (.tmp 26) (.tmp 29) (.const (.bool false)))⟩,
             ⟨some 2, none, (.assign (.tmp 30))⟩])
           .ret)
          .skip))))))
    (.seq
     (.ops [⟨some 2, none, (.assign (.const (.bool false)))⟩])
     .ret)))
theorem w165 {args : Array Value} {H : AH} {Φ : Value → AH → Prop} (h : rW Try.prog k165 [] (fin Try.prog [(.tmp 2)] Φ) (tm0 args) H) : CallsA Try.prog 165 args H Φ :=
  CallsA.w k165 [(.tmp 2)] (fun _ => []) Try.func165 rfl rfl (by kernel_rfl) (by kernel_rfl) h

/-- impl.FunTwo -/
def k166 : KC :=
  (.seq
   (.ops [⟨some 1, none, (.box 121 (.tmp 0))⟩,
     ⟨some 2, none, (.assign (.const (.bool false)))⟩])
   (.seq
    (.seq
     (.ops [⟨some 3, none, (.fieldAddr 121 (.tmp 1) 1)⟩,
       ⟨some 4, none, (.load 3 (.tmp 3))⟩])
     (.block 0
      (.seq
       (.ops [⟨some 6, none, (.binOp .eql 3 (.tmp 4) (.const (.int .i64 0)) 3)⟩,
         ⟨some 5, none, (.assign (.tmp 6))⟩])
       (.cond (.tmp 5)
        (.seq
         (.ops [⟨some 7, none, (.fieldAddr 121 (.tmp 1) 2)⟩,
           ⟨some 8, none, (.load 3 (.tmp 7))⟩,
           ⟨some 9, none, (.binOp .eql 3 (.tmp 8) (.const (.int .i64 0)) 3)⟩,
           ⟨some 10, none, (.move (.tmp 9))⟩,
           ⟨some 11, (some (10, true)), (.fieldAddr 121 (.tmp 1) 0)⟩,
           ⟨some 12, (some (10, true)), (.load 3 (.tmp 11))⟩,
           ⟨some 13, (some (10, true)), (.call ⟨(.value (.func 147)), #[(.tmp 12)], #[3]⟩)⟩,
           ⟨some 14, (some (10, true)), (.move (.tmp 13))⟩,
           ⟨some 15, (some (14, false)), (.fieldAddr 121 (.tmp 1) 0)⟩,
           ⟨some 16, (some (14, false)), (.load 3 (.tmp 15))⟩,
           ⟨some 17, (some (14, false)), (.call ⟨(.value (.func 152)), #[(.const (.string ⟨#[35, 44, 116, 100, 114, 64, 63, 36, 101]⟩)), (.tmp 16)], #[9, 3]⟩)⟩,
           ⟨some 18, (some (10, true)), (.pick (.tmp 14) (.const (.bool true)) (.tmp 17))⟩,
           ⟨some 19, none, (.pick (.tmp 10) (.tmp 18) (.const (.bool false)))⟩,
           ⟨some 2, none, (.assign (.tmp 19))⟩])
         .ret)
        (.seq
         (.ops [⟨some 21, none, (.binOp .eql 3 (.tmp 4) (.const (.int .i64 111)) 3)⟩,
           ⟨some 20, none, (.assign (.tmp 21))⟩])
         (.cond (.tmp 20)
          (.seq
           (.ops [⟨some 22, none, (.fieldAddr 121 (.tmp 1) 2)⟩,
             ⟨some 23, none, (.load 3 (.tmp 22))⟩,
             ⟨some 24, none, (.binOp .eql 3 (.tmp 23) (.const (.int .i64 0)) 3)⟩,
             ⟨some 25, none, (.move (.tmp 24))⟩,
             ⟨some 26, (some (25, true)), (.fieldAddr 121 (.tmp 1) 0)⟩,
             ⟨some 27, (some (25, true)), (.load 3 (.tmp 26))⟩,
             ⟨some 28, (some (25, true)), (.call ⟨(.value (.func 147)), #[(.tmp 27)], #[3]⟩)⟩,
             ⟨some 29, none, (.pick (.tmp 25) (.tmp 28) (.const (.bool false)))⟩,
             ⟨some 2, none, (.assign (.tmp 29))⟩])
           .ret)
          (.seq
           (.ops [⟨some 31, none, (.binOp .eql 3 (.tmp 4) (.const (.int .i64 46)) 3)⟩,
             ⟨some 30, none, (.assign (.tmp 31))⟩])
           (.cond (.tmp 30)
            (.seq
             (.ops [⟨some 32, none, (.fieldAddr 121 (.tmp 1) 0)⟩,
               ⟨some 33, none, (.load 3 (.tmp 32))⟩,
               ⟨some 34, none, (.call ⟨(.value (.func 147)), #[(.tmp 33)], #[3]⟩)⟩,
               ⟨some 35, none, (.move (.tmp 34))⟩,
               ⟨some 36, (some (35, true)), (.fieldAddr 121 (.tmp 1) 2)⟩,
               ⟨some 37, (some (35, true)), (.load 3 (.tmp 36))⟩,
               ⟨some 38, (some (35, true)), (.call ⟨(.value (.func 147)), #[(.tmp 37)], #[3]⟩)⟩,
               ⟨some 39, none, (.pick (.tmp 35) (.tmp 38) (.const (.bool false)))⟩,
               ⟨some 2, none, (.assign (.tmp 39))⟩])
             .ret)
            .skip))))))))
    (.seq
     (.ops [⟨some 2, none, (.assign (.const (.bool false)))⟩])
     .ret)))
theorem w166 {args : Array Value} {H : AH} {Φ : Value → AH → Prop} (h : rW Try.prog k166 [] (fin Try.prog [(.tmp 2)] Φ) (tm0 args) H) : CallsA Try.prog 166 args H Φ :=
  CallsA.w k166 [(.tmp 2)] (fun _ => []) Try.func166 rfl rfl (by kernel_rfl) (by kernel_rfl) h

/-- impl.nodeOk -/
def k134 : KC :=
  (.seq
   (.ops [⟨some 1, none, (.box 142 (.tmp 0))⟩,
     ⟨some 2, none, (.assign (.const (.bool false)))⟩])
   (.seq
    (.ops [⟨some 7, none, (.fieldAddr 142 (.tmp 1) 1)⟩,
      ⟨some 8, none, (.load 3 (.tmp 7))⟩,
      ⟨some 9, none, (.binOp .eql 3 (.tmp 8) (.const (.int .i64 0)) 3)⟩,
      ⟨some 10, none, (.fieldAddr 142 (.tmp 1) 2)⟩,
      ⟨some 11, none, (.load 3 (.tmp 10))⟩,
      ⟨some 12, none, (.binOp .eql 3 (.tmp 11) (.const (.int .i64 0)) 3)⟩,
      ⟨some 13, none, (.fieldAddr 142 (.tmp 1) 3)⟩,
      ⟨some 14, none, (.load 121 (.tmp 13))⟩,
      ⟨some 15, none, (.build 121 #[])⟩,
      ⟨some 16, none, (.binOp .eql 121 (.tmp 14) (.tmp 15) 121)⟩,
      ⟨some 17, none, (.fieldAddr 142 (.tmp 1) 4)⟩,
      ⟨some 18, none, (.load 43 (.tmp 17))⟩,
      ⟨some 19, none, (.call ⟨(.builtin .len), #[(.tmp 18)], #[43]⟩)⟩,
      ⟨some 20, none, (.binOp .eql 3 (.tmp 19) (.const (.int .i64 0)) 3)⟩,
      ⟨some 3, none, (.assign (.tmp 9))⟩,
      ⟨some 4, none, (.assign (.tmp 12))⟩,
      ⟨some 5, none, (.assign (.tmp 16))⟩,
      ⟨some 6, none, (.assign (.tmp 20))⟩])
    (.seq
     (.seq
      (.ops [⟨some 21, none, (.fieldAddr 142 (.tmp 1) 0)⟩,
        ⟨some 22, none, (.load 3 (.tmp 21))⟩])
      (.block 0
       (.seq
        (.ops [⟨some 24, none, (.binOp .eql 3 (.tmp 22) (.const (.int .i64 1)) 3)⟩,
          ⟨some 23, none, (.assign (.tmp 24))⟩])
        (.cond (.tmp 23)
         (.ops [⟨some 25, none, (.fieldAddr 142 (.tmp 1) 4)⟩,
           ⟨some 26, none, (.load 43 (.tmp 25))⟩,
           ⟨some 27, none, (.call ⟨(.value (.func 164)), #[(.tmp 26)], #[43]⟩)⟩,
           ⟨some 6, none, (.assign (.tmp 27))⟩])
         (.seq
          (.ops [⟨some 29, none, (.binOp .eql 3 (.tmp 22) (.const (.int .i64 2)) 3)⟩,
            ⟨some 28, none, (.assign (.tmp 29))⟩])
          (.cond (.tmp 28)
           (.ops [⟨some 30, none, (.fieldAddr 142 (.tmp 1) 1)⟩,
             ⟨some 31, none, (.load 3 (.tmp 30))⟩,
             ⟨some 32, none, (.call ⟨(.value (.func 106)), #[(.tmp 31), (.const (.int .i64 0)), (.const (.int .i64 25))], #[3, 3, 3]⟩)⟩,
             ⟨some 3, none, (.assign (.tmp 32))⟩])
           (.seq
            (.ops [⟨some 34, none, (.binOp .eql 3 (.tmp 22) (.const (.int .i64 3)) 3)⟩,
              ⟨some 33, none, (.assign (.tmp 34))⟩])
            (.cond (.tmp 33)
             (.ops [⟨some 35, none, (.fieldAddr 142 (.tmp 1) 1)⟩,
               ⟨some 36, none, (.load 3 (.tmp 35))⟩,
               ⟨some 37, none, (.call ⟨(.value (.func 106)), #[(.tmp 36), (.const (.int .i64 0)), (.const (.int .i64 25))], #[3, 3, 3]⟩)⟩,
               ⟨some 3, none, (.assign (.tmp 37))⟩,
               ⟨some 4, none, (.assign (.const (.bool true)))⟩])
             (.seq
              (.ops [⟨some 39, none, (.binOp .eql 3 (.tmp 22) (.const (.int .i64 4)) 3)⟩,
                ⟨some 38, none, (.assign (.tmp 39))⟩])
              (.cond (.tmp 38)
               (.ops [⟨some 40, none, (.fieldAddr 142 (.tmp 1) 3)⟩,
                 ⟨some 41, none, (.load 121 (.tmp 40))⟩,
                 ⟨some 42, none, (.call ⟨(.value (.func 165)), #[(.tmp 41)], #[121]⟩)⟩,
                 ⟨some 4, none, (.assign (.const (.bool true)))⟩,
                 ⟨some 5, none, (.assign (.tmp 42))⟩])
               (.seq
                (.ops [⟨some 44, none, (.binOp .eql 3 (.tmp 22) (.const (.int .i64 5)) 3)⟩,
                  ⟨some 43, none, (.assign (.tmp 44))⟩])
                (.cond (.tmp 43)
                 (.ops [⟨some 45, none, (.fieldAddr 142 (.tmp 1) 3)⟩,
                   ⟨some 46, none, (.load 121 (.tmp 45))⟩,
                   ⟨some 47, none, (.call ⟨(.value (.func 166)), #[(.tmp 46)], #[121]⟩)⟩,
                   ⟨some 3, none, (.assign (.const (.bool true)))⟩,
                   ⟨some 4, none, (.assign (.const (.bool true)))⟩,
                   ⟨some 5, none, (.assign (.tmp 47))⟩])
                 (.seq
                  (.ops [⟨some 2, none, (.assign (.const (.bool false)))⟩])
                  .ret)))))))))))))
     (.seq
      (.ops [⟨some 48, none, (.move (.tmp 3))⟩,
        ⟨some 49, none, (.move (.tmp 48))⟩,
        ⟨some 50, (some (49, true)), (.move (.tmp 4))⟩,
        ⟨some 51, none, (.pick (.tmp 49) (.tmp 50) (.const (.bool false)))⟩,
        ⟨some 52, none, (.move (.tmp 51))⟩,
        ⟨some 53, (some (52, true)), (.move (.tmp 5))⟩,
        ⟨some 54, none, (.pick (.tmp 52) (.tmp 53) (.const (.bool false)))⟩,
        ⟨some 55, none, (.move (.tmp 54))⟩,
        ⟨some 56, (some (55, true)), (.move (.tmp 6))⟩,
        ⟨some 57, none, (.pick (.tmp 55) (.tmp 56) (.const (.bool false)))⟩,
        ⟨some 2, none, (.assign (.tmp 57))⟩])
      .ret))))
theorem w134 {args : Array Value} {H : AH} {Φ : Value → AH → Prop} (h : rW Try.prog k134 [] (fin Try.prog [(.tmp 2)] Φ) (tm0 args) H) : CallsA Try.prog 134 args H Φ :=
  CallsA.w k134 [(.tmp 2)] (fun i => if i = 1 then [(1, 0), (4, 0), (7, 0), (11, 0)] else []) Try.func134 rfl rfl (by kernel_rfl) (by kernel_rfl) h

/-- impl.TreeOk$1 -/
def k133 : KC :=
  (.seq
   (.ops [⟨some 1, none, (.box 142 (.tmp 0))⟩,
     ⟨some 2, none, (.assign (.const (.bool false)))⟩])
   (.seq
    (.ops [⟨some 3, none, (.load 142 (.tmp 1))⟩,
      ⟨some 4, none, (.call ⟨(.value (.func 134)), #[(.tmp 3)], #[142]⟩)⟩,
      ⟨some 5, none, (.unOp .not 4 (.tmp 4))⟩,
      ⟨some 2, none, (.assign (.tmp 5))⟩])
    .ret))
theorem w133 {args : Array Value} {H : AH} {Φ : Value → AH → Prop} (h : rW Try.prog k133 [] (fin Try.prog [(.tmp 2)] Φ) (tm0 args) H) : CallsA Try.prog 133 args H Φ :=
  CallsA.w k133 [(.tmp 2)] (fun _ => []) Try.func133 rfl rfl (by kernel_rfl) (by kernel_rfl) h

/-- impl.owned -/
def k135 : KC :=
  (.seq
   (.ops [⟨some 1, none, (.box 72 (.tmp 0))⟩,
     ⟨some 2, none, (.assign (.const (.slice none 0 0)))⟩,
     ⟨some 3, none, (.assign (.const (.bool false)))⟩])
   (.seq
    (.ops [⟨some 4, none, (.assign (.const (.slice none 0 0)))⟩])
    (.seq
     (.seq
      (.ops [⟨some 10, none, (.fieldAddr 72 (.tmp 1) 0)⟩,
        ⟨some 11, none, (.load 70 (.tmp 10))⟩,
        ⟨some 12, none, (.call ⟨(.builtin .len), #[(.tmp 11)], #[70]⟩)⟩,
        ⟨some 13, none, (.move (.const (.int .i64 0)))⟩])
      (.block 0
       (.loop
        (.seq
         (.ops [⟨some 14, none, (.binOp .lss 3 (.tmp 13) (.tmp 12) 3)⟩])
         (.seq
          (.cond (.tmp 14)
           .skip
           (.exit 0))
          (.seq
           (.block 1
            (.seq
             (.ops [⟨some 15, none, (.move (.tmp 13))⟩,
               ⟨some 16, none, (.indexAddr 70 (.tmp 11) (.tmp 13))⟩,
               ⟨some 17, none, (.load 142 (.tmp 16))⟩,
               ⟨some 6, none, (.alloc 142)⟩,
               ⟨some 5, none, (.assign (.tmp 15))⟩,
               ⟨none, none, (.store 142 (.tmp 6) (.tmp 17))⟩])
             (.seq
              (.ops [⟨some 7, none, (.assign (.const (.int .i64 1)))⟩])
              (.seq
               (.seq
                (.ops [⟨some 18, none, (.fieldAddr 142 (.tmp 6) 0)⟩,
                  ⟨some 19, none, (.load 3 (.tmp 18))⟩,
                  ⟨some 20, none, (.binOp .geq 3 (.tmp 19) (.const (.int .i64 3)) 3)⟩])
                (.cond (.tmp 20)
                 (.seq
                  (.ops [⟨some 21, none, (.fieldAddr 142 (.tmp 6) 2)⟩,
                    ⟨some 22, none, (.load 3 (.tmp 21))⟩,
                    ⟨some 8, none, (.assign (.tmp 22))⟩])
                  (.seq
                   (.seq
                    (.ops [⟨some 23, none, (.fieldAddr 142 (.tmp 6) 0)⟩,
                      ⟨some 24, none, (.load 3 (.tmp 23))⟩,
                      ⟨some 25, none, (.binOp .eql 3 (.tmp 24) (.const (.int .i64 5)) 3)⟩])
                    (.cond (.tmp 25)
                     (.ops [⟨some 26, none, (.fieldAddr 142 (.tmp 6) 1)⟩,
                       ⟨some 27, none, (.load 3 (.tmp 26))⟩,
                       ⟨some 8, none, (.assign (.tmp 27))⟩])
                     .skip))
                   (.seq
                    (.seq
                     (.ops [⟨some 28, none, (.move (.tmp 8))⟩,
                       ⟨some 29, none, (.move (.tmp 5))⟩,
                       ⟨some 30, none, (.binOp .sub 3 (.tmp 29) (.const (.int .i64 1)) 3)⟩,
                       ⟨some 31, none, (.binOp .neq 3 (.tmp 28) (.tmp 30) 3)⟩,
                       ⟨some 32, none, (.move (.tmp 31))⟩,
                       ⟨some 33, (some (32, false)), (.move (.tmp 5))⟩,
                       ⟨some 34, (some (32, false)), (.binOp .eql 3 (.tmp 33) (.const (.int .i64 0)) 3)⟩,
                       ⟨some 35, none, (.pick (.tmp 32) (.const (.bool true)) (.tmp 34))⟩])
                     (.cond (.tmp 35)
                      (.seq
                       (.ops [⟨some 2, none, (.assign (.const (.slice none 0 0)))⟩,
                         ⟨some 3, none, (.assign (.const (.bool false)))⟩])
                       .ret)
                      .skip))
                    (.ops [⟨some 36, none, (.move (.tmp 7))⟩,
                      ⟨some 37, none, (.move (.tmp 4))⟩,
                      ⟨some 38, none, (.move (.tmp 8))⟩,
                      ⟨some 39, none, (.indexAddr 43 (.tmp 37) (.tmp 38))⟩,
                      ⟨some 40, none, (.load 3 (.tmp 39))⟩,
                      ⟨some 41, none, (.binOp .add 3 (.tmp 36) (.tmp 40) 3)⟩,
                      ⟨some 7, none, (.assign (.tmp 41))⟩]))))
                 .skip))
               (.seq
                (.seq
                 (.ops [⟨some 42, none, (.fieldAddr 142 (.tmp 6) 0)⟩,
                   ⟨some 43, none, (.load 3 (.tmp 42))⟩,
                   ⟨some 44, none, (.binOp .eql 3 (.tmp 43) (.const (.int .i64 5)) 3)⟩])
                 (.cond (.tmp 44)
                  (.seq
                   (.ops [⟨some 45, none, (.move (.tmp 5))⟩,
                     ⟨some 46, none, (.binOp .sub 3 (.tmp 45) (.const (.int .i64 1)) 3)⟩,
                     ⟨some 47, none, (.move (.tmp 4))⟩,
                     ⟨some 48, none, (.fieldAddr 142 (.tmp 6) 1)⟩,
                     ⟨some 49, none, (.load 3 (.tmp 48))⟩,
                     ⟨some 50, none, (.indexAddr 43 (.tmp 47) (.tmp 49))⟩,
                     ⟨some 51, none, (.load 3 (.tmp 50))⟩,
                     ⟨some 52, none, (.binOp .sub 3 (.tmp 46) (.tmp 51) 3)⟩,
                     ⟨some 9, none, (.assign (.tmp 52))⟩])
                   (.seq
                    (.seq
                     (.ops [⟨some 53, none, (.move (.tmp 9))⟩,
                       ⟨some 54, none, (.binOp .lss 3 (.tmp 53) (.const (.int .i64 0)) 3)⟩,
                       ⟨some 55, none, (.move (.tmp 54))⟩,
                       ⟨some 56, (some (55, false)), (.fieldAddr 142 (.tmp 6) 2)⟩,
                       ⟨some 57, (some (55, false)), (.load 3 (.tmp 56))⟩,
                       ⟨some 58, (some (55, false)), (.move (.tmp 9))⟩,
                       ⟨some 59, (some (55, false)), (.binOp .neq 3 (.tmp 57) (.tmp 58) 3)⟩,
                       ⟨some 60, none, (.pick (.tmp 55) (.const (.bool true)) (.tmp 59))⟩])
                     (.cond (.tmp 60)
                      (.seq
                       (.ops [⟨some 2, none, (.assign (.const (.slice none 0 0)))⟩,
                         ⟨some 3, none, (.assign (.const (.bool false)))⟩])
                       .ret)
                      .skip))
                    (.ops [⟨some 61, none, (.move (.tmp 7))⟩,
                      ⟨some 62, none, (.move (.tmp 4))⟩,
                      ⟨some 63, none, (.move (.tmp 9))⟩,
                      ⟨some 64, none, (.indexAddr 43 (.tmp 62) (.tmp 63))⟩,
                      ⟨some 65, none, (.load 3 (.tmp 64))⟩,
                      ⟨some 66, none, (.binOp .add 3 (.tmp 61) (.tmp 65) 3)⟩,
                      ⟨some 7, none, (.assign (.tmp 66))⟩])))
                  .skip))
                (.ops [⟨some 67, none, (.move (.tmp 4))⟩,
                  ⟨some 68, none, (.move (.tmp 7))⟩,
                  ⟨some 69, none, (.buildSlice 43 1 #[(0, (.tmp 68))])⟩,
                  ⟨some 70, none, (.call ⟨(.builtin .append), #[(.tmp 67), (.tmp 69)], #[43, 43]⟩)⟩,
                  ⟨some 4, none, (.assign (.tmp 70))⟩]))))))
           (.ops [⟨some 71, none, (.binOp .add 3 (.tmp 13) (.const (.int .i64 1)) 3)⟩,
             ⟨some 13, none, (.move (.tmp 71))⟩])))))))
     (.seq
      (.ops [⟨some 72, none, (.move (.tmp 4))⟩,
        ⟨some 2, none, (.assign (.tmp 72))⟩,
        ⟨some 3, none, (.assign (.const (.bool true)))⟩])
      .ret))))
theorem w135 {args : Array Value} {H : AH} {Φ : Value → AH → Prop} (h : rW Try.prog k135 [] (fin Try.prog [(.tmp 2), (.tmp 3)] Φ) (tm0 args) H) : CallsA Try.prog 135 args H Φ :=
  CallsA.w k135 [(.tmp 2), (.tmp 3)] (fun _ => []) Try.func135 rfl rfl (by kernel_rfl) (by kernel_rfl) h

/-- impl.TreeOk -/
def k59 : KC :=
  (.seq
   (.ops [⟨some 1, none, (.box 72 (.tmp 0))⟩,
     ⟨some 2, none, (.assign (.const (.bool false)))⟩])
   (.seq
    (.ops [⟨some 6, none, (.fieldAddr 72 (.tmp 1) 0)⟩,
      ⟨some 7, none, (.load 70 (.tmp 6))⟩,
      ⟨some 8, none, (.call ⟨(.builtin .len), #[(.tmp 7)], #[70]⟩)⟩,
      ⟨some 3, none, (.assign (.tmp 8))⟩])
    (.seq
     (.seq
      (.ops [⟨some 9, none, (.move (.tmp 3))⟩,
        ⟨some 10, none, (.call ⟨(.value (.func 106)), #[(.tmp 9), (.const (.int .i64 1)), (.const (.int .i64 60))], #[3, 3, 3]⟩)⟩,
        ⟨some 11, none, (.unOp .not 4 (.tmp 10))⟩,
        ⟨some 12, none, (.move (.tmp 11))⟩,
        ⟨some 13, (some (12, false)), (.fieldAddr 72 (.tmp 1) 0)⟩,
        ⟨some 14, (some (12, false)), (.load 70 (.tmp 13))⟩,
        ⟨some 15, (some (12, false)), (.call ⟨(.value (.func 132)), #[(.tmp 14), (.func 133)], #[70, 145]⟩)⟩,
        ⟨some 16, none, (.pick (.tmp 12) (.const (.bool true)) (.tmp 15))⟩])
      (.cond (.tmp 16)
       (.seq
        (.ops [⟨some 2, none, (.assign (.const (.bool false)))⟩])
        .ret)
       .skip))
     (.seq
      (.ops [⟨some 18, none, (.load 72 (.tmp 1))⟩,
        ⟨some 19, none, (.call ⟨(.value (.func 135)), #[(.tmp 18)], #[72]⟩)⟩,
        ⟨some 17, none, (.move (.tmp 19))⟩,
        ⟨some 20, none, (.extract (.tmp 17) 0)⟩,
        ⟨some 21, none, (.extract (.tmp 17) 1)⟩,
        ⟨some 4, none, (.assign (.tmp 20))⟩,
        ⟨some 5, none, (.assign (.tmp 21))⟩])
      (.seq
       (.ops [⟨some 22, none, (.move (.tmp 5))⟩,
         ⟨some 23, none, (.move (.tmp 22))⟩,
         ⟨some 24, (some (23, true)), (.move (.tmp 4))⟩,
         ⟨some 25, (some (23, true)), (.move (.tmp 3))⟩,
         ⟨some 26, (some (23, true)), (.binOp .sub 3 (.tmp 25) (.const (.int .i64 1)) 3)⟩,
         ⟨some 27, (some (23, true)), (.indexAddr 43 (.tmp 24) (.tmp 26))⟩,
         ⟨some 28, (some (23, true)), (.load 3 (.tmp 27))⟩,
         ⟨some 29, (some (23, true)), (.move (.tmp 3))⟩,
         ⟨some 30, (some (23, true)), (.binOp .eql 3 (.tmp 28) (.tmp 29) 3)⟩,
         ⟨some 31, none, (.pick (.tmp 23) (.tmp 30) (.const (.bool false)))⟩,
         ⟨some 2, none, (.assign (.tmp 31))⟩])
       .ret)))))
theorem w59 {args : Array Value} {H : AH} {Φ : Value → AH → Prop} (h : rW Try.prog k59 [] (fin Try.prog [(.tmp 2)] Φ) (tm0 args) H) : CallsA Try.prog 59 args H Φ :=
  CallsA.w k59 [(.tmp 2)] (fun _ => []) Try.func59 rfl rfl (by kernel_rfl) (by kernel_rfl) h

/-- laws.eqIntS -/
def k143 : KC :=
  (.seq
   (.ops [⟨some 4, none, (.assign (.const (.bool false)))⟩])
   (.seq
    (.seq
     (.ops [⟨some 6, none, (.move (.tmp 0))⟩,
       ⟨some 7, none, (.call ⟨(.builtin .len), #[(.tmp 6)], #[43]⟩)⟩,
       ⟨some 8, none, (.move (.tmp 1))⟩,
       ⟨some 9, none, (.call ⟨(.builtin .len), #[(.tmp 8)], #[43]⟩)⟩,
       ⟨some 10, none, (.binOp .neq 3 (.tmp 7) (.tmp 9) 3)⟩])
     (.cond (.tmp 10)
      (.seq
       (.ops [⟨some 4, none, (.assign (.const (.bool false)))⟩])
       .ret)
      .skip))
    (.seq
     (.seq
      (.ops [⟨some 5, none, (.assign (.const (.int .i64 0)))⟩])
      (.block 0
       (.loop
        (.seq
         (.seq
          (.ops [⟨some 11, none, (.move (.tmp 5))⟩,
            ⟨some 12, none, (.move (.tmp 0))⟩,
            ⟨some 13, none, (.call ⟨(.builtin .len), #[(.tmp 12)], #[43]⟩)⟩,
            ⟨some 14, none, (.binOp .lss 3 (.tmp 11) (.tmp 13) 3)⟩])
          (.cond (.tmp 14)
           .skip
           (.exit 0)))
         (.seq
          (.block 1
           (.seq
            (.ops [⟨some 17, none, (.move (.tmp 0))⟩,
              ⟨some 18, none, (.move (.tmp 5))⟩,
              ⟨some 19, none, (.indexAddr 43 (.tmp 17) (.tmp 18))⟩,
              ⟨some 20, none, (.load 3 (.tmp 19))⟩,
              ⟨some 21, none, (.move (.tmp 1))⟩,
              ⟨some 22, none, (.move (.tmp 5))⟩,
              ⟨some 23, none, (.indexAddr 43 (.tmp 21) (.tmp 22))⟩,
              ⟨some 24, none, (.load 3 (.tmp 23))⟩,
              ⟨some 25, none, (.binOp .neq 3 (.tmp 20) (.tmp 24) 3)⟩])
            (.cond (.tmp 25)
             (.seq
              (.ops [⟨some 4, none, (.assign (.const (.bool false)))⟩])
              .ret)
             .skip)))
          (.ops [⟨some 15, none, (.move (.tmp 5))⟩,
            ⟨some 16, none, (.binOp .add 3 (.tmp 15) (.const (.int .i64 1)) 3)⟩,
            ⟨some 5, none, (.assign (.tmp 16))⟩]))))))
     (.seq
      (.ops [⟨some 4, none, (.assign (.const (.bool true)))⟩])
      .ret))))
theorem w143 {args : Array Value} {H : AH} {Φ : Value → AH → Prop} (h : rW Try.prog k143 [] (fin Try.prog [(.tmp 4)] Φ) (tm0 args) H) : CallsA Try.prog 143 args H Φ :=
  CallsA.w k143 [(.tmp 4)] (fun i => if i = 6 then [(3, 0), (7, 0)] else []) Try.func143 rfl rfl (by kernel_rfl) (by kernel_rfl) h

/-- laws.eqFun -/
def k168 : KC :=
  (.seq
   (.ops [⟨some 2, none, (.box 121 (.tmp 0))⟩,
     ⟨some 3, none, (.box 121 (.tmp 1))⟩,
     ⟨some 4, none, (.assign (.const (.bool false)))⟩])
   (.seq
    (.seq
     (.ops [⟨some 5, none, (.fieldAddr 121 (.tmp 2) 0)⟩,
       ⟨some 6, none, (.load 3 (.tmp 5))⟩,
       ⟨some 7, none, (.fieldAddr 121 (.tmp 3) 0)⟩,
       ⟨some 8, none, (.load 3 (.tmp 7))⟩,
       ⟨some 9, none, (.binOp .neq 3 (.tmp 6) (.tmp 8) 3)⟩])
     (.cond (.tmp 9)
      (.seq
       (.ops [⟨some 4, none, (.assign (.const (.bool false)))⟩])
       .ret)
      .skip))
    (.seq
     (.seq
      (.ops [⟨some 10, none, (.fieldAddr 121 (.tmp 2) 1)⟩,
        ⟨some 11, none, (.load 3 (.tmp 10))⟩,
        ⟨some 12, none, (.fieldAddr 121 (.tmp 3) 1)⟩,
        ⟨some 13, none, (.load 3 (.tmp 12))⟩,
        ⟨some 14, none, (.binOp .neq 3 (.tmp 11) (.tmp 13) 3)⟩])
      (.cond (.tmp 14)
       (.seq
        (.ops [⟨some 4, none, (.assign (.const (.bool false)))⟩])
        .ret)
       .skip))
     (.seq
      (.seq
       (.ops [⟨some 15, none, (.fieldAddr 121 (.tmp 2) 2)⟩,
         ⟨some 16, none, (.load 3 (.tmp 15))⟩,
         ⟨some 17, none, (.fieldAddr 121 (.tmp 3) 2)⟩,
         ⟨some 18, none, (.load 3 (.tmp 17))⟩,
         ⟨some 19, none, (.binOp .neq 3 (.tmp 16) (.tmp 18) 3)⟩])
       (.cond (.tmp 19)
        (.seq
         (.ops [⟨some 4, none, (.assign (.const (.bool false)))⟩])
         .ret)
        .skip))
      (.seq
       (.ops [⟨some 4, none, (.assign (.const (.bool true)))⟩])
       .ret)))))
theorem w168 {args : Array Value} {H : AH} {Φ : Value → AH → Prop} (h : rW Try.prog k168 [] (fin Try.prog [(.tmp 4)] Φ) (tm0 args) H) : CallsA Try.prog 168 args H Φ :=
  CallsA.w k168 [(.tmp 4)] (fun _ => []) Try.func168 rfl rfl (by kernel_rfl) (by kernel_rfl) h

/-- laws.eqExpr -/
def k176 : KC :=
  (.seq
   (.ops [⟨some 2, none, (.box 142 (.tmp 0))⟩,
     ⟨some 3, none, (.box 142 (.tmp 1))⟩,
     ⟨some 4, none, (.assign (.const (.bool false)))⟩])
   (.seq
    (.seq
     (.ops [⟨some 5, none, (.fieldAddr 142 (.tmp 2) 0)⟩,
       ⟨some 6, none, (.load 3 (.tmp 5))⟩,
       ⟨some 7, none, (.fieldAddr 142 (.tmp 3) 0)⟩,
       ⟨some 8, none, (.load 3 (.tmp 7))⟩,
       ⟨some 9, none, (.binOp .neq 3 (.tmp 6) (.tmp 8) 3)⟩])
     (.cond (.tmp 9)
      (.seq
       (.ops [⟨some 4, none, (.assign (.const (.bool false)))⟩])
       .ret)
      .skip))
    (.seq
     (.seq
      (.ops [⟨some 10, none, (.fieldAddr 142 (.tmp 2) 1)⟩,
        ⟨some 11, none, (.load 3 (.tmp 10))⟩,
        ⟨some 12, none, (.fieldAddr 142 (.tmp 3) 1)⟩,
        ⟨some 13, none, (.load 3 (.tmp 12))⟩,
        ⟨some 14, none, (.binOp .neq 3 (.tmp 11) (.tmp 13) 3)⟩])
      (.cond (.tmp 14)
       (.seq
        (.ops [⟨some 4, none, (.assign (.const (.bool false)))⟩])
        .ret)
       .skip))
     (.seq
      (.seq
       (.ops [⟨some 15, none, (.fieldAddr 142 (.tmp 2) 2)⟩,
         ⟨some 16, none, (.load 3 (.tmp 15))⟩,
         ⟨some 17, none, (.fieldAddr 142 (.tmp 3) 2)⟩,
         ⟨some 18, none, (.load 3 (.tmp 17))⟩,
         ⟨some 19, none, (.binOp .neq 3 (.tmp 16) (.tmp 18) 3)⟩])
       (.cond (.tmp 19)
        (.seq
         (.ops [⟨some 4, none, (.assign (.const (.bool false)))⟩])
         .ret)
        .skip))
      (.seq
       (.seq
        (.ops [⟨some 20, none, (.fieldAddr 142 (.tmp 2) 3)⟩,
          ⟨some 21, none, (.load 121 (.tmp 20))⟩,
          ⟨some 22, none, (.fieldAddr 142 (.tmp 3) 3)⟩,
          ⟨some 23, none, (.load 121 (.tmp 22))⟩,
          ⟨some 24, none, (.call ⟨(.value (.func 168)), #[(.tmp 21), (.tmp 23)], #[121, 121]⟩)⟩,
          ⟨some 25, none, (.unOp .not 4 (.tmp 24))⟩])
        (.cond (.tmp 25)
         (.seq
          (.ops [⟨some 4, none, (.assign (.const (.bool false)))⟩])
          .ret)
         .skip))
       (.seq
        (.seq
         (.ops [⟨some 26, none, (.fieldAddr 142 (.tmp 2) 4)⟩,
           ⟨some 27, none, (.load 43 (.tmp 26))⟩,
           ⟨some 28, none, (.fieldAddr 142 (.tmp 3) 4)⟩,
           ⟨some 29, none, (.load 43 (.tmp 28))⟩,
           ⟨some 30, none, (.call ⟨(.value (.func 143)), #[(.tmp 27), (.tmp 29)], #[43, 43]⟩)⟩,
           ⟨some 31, none, (.unOp .not 4 (.tmp 30))⟩])
         (.cond (.tmp 31)
          (.seq
           (.ops [⟨some 4, none, (.assign (.const (.bool false)))⟩])
           .ret)
          .skip))
        (.seq
         (.ops [⟨some 4, none, (.assign (.const (.bool true)))⟩])
         .ret)))))))
theorem w176 {args : Array Value} {H : AH} {Φ : Value → AH → Prop} (h : rW Try.prog k176 [] (fin Try.prog [(.tmp 4)] Φ) (tm0 args) H) : CallsA Try.prog 176 args H Φ :=
  CallsA.w k176 [(.tmp 4)] (fun _ => []) Try.func176 rfl rfl (by kernel_rfl) (by kernel_rfl) h

/-- laws.eqExprS -/
def k136 : KC :=
  (.seq
   (.ops [⟨some 4, none, (.assign (.const (.bool false)))⟩])
   (.seq
    (.seq
     (.ops [⟨some 6, none, (.move (.tmp 0))⟩,
       ⟨some 7, none, (.call ⟨(.builtin .len), #[(.tmp 6)], #[70]⟩)⟩,
       ⟨some 8, none, (.move (.tmp 1))⟩,
       ⟨some 9, none, (.call ⟨(.builtin .len), #[(.tmp 8)], #[70]⟩)⟩,
       ⟨some 10, none, (.binOp .neq 3 (.tmp 7) (.tmp 9) 3)⟩])
     (.cond (.tmp 10)
      (.seq
       (.ops [⟨some 4, none, (.assign (.const (.bool false)))⟩])
       .ret)
      .skip))
    (.seq
     (.seq
      (.ops [⟨some 5, none, (.assign (.const (.int .i64 0)))⟩])
      (.block 0
       (.loop
        (.seq
         (.seq
          (.ops [⟨some 11, none, (.move (.tmp 5))⟩,
            ⟨some 12, none, (.move (.tmp 0))⟩,
            ⟨some 13, none, (.call ⟨(.builtin .len), #[(.tmp 12)], #[70]⟩)⟩,
            ⟨some 14, none, (.binOp .lss 3 (.tmp 11) (.tmp 13) 3)⟩])
          (.cond (.tmp 14)
           .skip
           (.exit 0)))
         (.seq
          (.block 1
           (.seq
            (.draw #[] [(3, 0), (7, 0)]
              [⟨some 17, none, (.move (.tmp 0))⟩,
              ⟨some 18, none, (.move (.tmp 5))⟩,
              ⟨some 19, none, (.indexAddr 70 (.tmp 17) (.tmp 18))⟩,
              ⟨some 20, none, (.load 142 (.tmp 19))⟩,
              ⟨some 21, none, (.move (.tmp 1))⟩,
              ⟨some 22, none, (.move (.tmp 5))⟩,
              ⟨some 23, none, (.indexAddr 70 (.tmp 21) (.tmp 22))⟩,
              ⟨some 24, none, (.load 142 (.tmp 23))⟩,
              ⟨some 25, none, (.call ⟨(.value (.func 176)), #[(.tmp 20), (.tmp 24)], #[142, 142]⟩)⟩,
              ⟨some 26, none, (.unOp .not 4 (.tmp 25))⟩])
            (.cond (.tmp 26)
             (.seq
              (.ops [⟨some 4, none, (.assign (.const (.bool false)))⟩])
              .ret)
             .skip)))
          (.ops [⟨some 15, none, (.move (.tmp 5))⟩,
            ⟨some 16, none, (.binOp .add 3 (.tmp 15) (.const (.int .i64 1)) 3)⟩,
            ⟨some 5, none, (.assign (.tmp 16))⟩]))))))
     (.seq
      (.ops [⟨some 4, none, (.assign (.const (.bool true)))⟩])
      .ret))))
theorem w136 {args : Array Value} {H : AH} {Φ : Value → AH → Prop} (h : rW Try.prog k136 [] (fin Try.prog [(.tmp 4)] Φ) (tm0 args) H) : CallsA Try.prog 136 args H Φ :=
  CallsA.w k136 [(.tmp 4)] (fun i => if i = 6 then [(3, 0), (7, 0)] else []) Try.func136 rfl rfl (by kernel_rfl) (by kernel_rfl) h

/-- laws.eqTree -/
def k60 : KC :=
  (.seq
   (.ops [⟨some 2, none, (.box 72 (.tmp 0))⟩,
     ⟨some 3, none, (.box 72 (.tmp 1))⟩,
     ⟨some 4, none, (.assign (.const (.bool false)))⟩])
   (.seq
    (.seq
     (.ops [⟨some 5, none, (.fieldAddr 72 (.tmp 2) 0)⟩,
       ⟨some 6, none, (.load 70 (.tmp 5))⟩,
       ⟨some 7, none, (.fieldAddr 72 (.tmp 3) 0)⟩,
       ⟨some 8, none, (.load 70 (.tmp 7))⟩,
       ⟨some 9, none, (.call ⟨(.value (.func 136)), #[(.tmp 6), (.tmp 8)], #[70, 70]⟩)⟩,
       ⟨some 10, none, (.unOp .not 4 (.tmp 9))⟩])
     (.cond (.tmp 10)
      (.seq
       (.ops [⟨some 4, none, (.assign (.const (.bool false)))⟩])
       .ret)
      .skip))
    (.seq
     (.ops [⟨some 4, none, (.assign (.const (.bool true)))⟩])
     .ret)))
theorem w60 {args : Array Value} {H : AH} {Φ : Value → AH → Prop} (h : rW Try.prog k60 [] (fin Try.prog [(.tmp 4)] Φ) (tm0 args) H) : CallsA Try.prog 60 args H Φ :=
  CallsA.w k60 [(.tmp 4)] (fun _ => []) Try.func60 rfl rfl (by kernel_rfl) (by kernel_rfl) h

/-- laws.FnExactTreeOk -/
def k11 : KC :=
  (.seq
   (.ops [⟨some 1, none, (.box 67 (.tmp 0))⟩,
     ⟨some 2, none, (.assign (.const (.bool false)))⟩])
   (.seq
    (.ops [⟨some 3, none, (.assign (.const (.int .i64 1048576)))⟩])
    (.seq
     (.ops [⟨some 7, none, (.load 67 (.tmp 1))⟩,
       ⟨some 8, none, (.move (.tmp 3))⟩,
       ⟨some 9, none, (.call ⟨(.value (.func 56)), #[(.tmp 7), (.tmp 8)], #[67, 3]⟩)⟩,
       ⟨some 3, none, (.assign (.tmp 9))⟩])
     (.seq
      (.seq
       (.ops [⟨some 10, none, (.move (.tmp 3))⟩,
         ⟨some 11, none, (.binOp .lss 3 (.tmp 10) (.const (.int .i64 0)) 3)⟩])
       (.cond (.tmp 11)
        (.seq
         (.ops [⟨some 2, none, (.assign (.const (.bool true)))⟩])
         .ret)
        .skip))
      (.seq
       (.ops [⟨some 12, none, (.load 67 (.tmp 1))⟩,
         ⟨some 13, none, (.call ⟨(.value (.func 58)), #[(.tmp 12)], #[67]⟩)⟩,
         ⟨some 14, none, (.call ⟨(.value (.func 57)), #[(.tmp 13)], #[72]⟩)⟩,
         ⟨some 4, none, (.assign (.tmp 14))⟩])
       (.seq
        (.ops [⟨some 15, none, (.load 67 (.tmp 1))⟩,
          ⟨some 16, none, (.call ⟨(.value (.func 58)), #[(.tmp 15)], #[67]⟩)⟩,
          ⟨some 5, none, (.alloc 72)⟩,
          ⟨none, none, (.store 72 (.tmp 5) (.tmp 16))⟩])
        (.seq
         (.ops [⟨some 17, none, (.load 72 (.tmp 5))⟩,
           ⟨some 18, none, (.call ⟨(.value (.func 59)), #[(.tmp 17)], #[72]⟩)⟩,
           ⟨some 6, none, (.assign (.tmp 18))⟩])
         (.seq
          (.seq
           (.ops [⟨some 19, none, (.move (.tmp 6))⟩,
             ⟨some 20, none, (.move (.tmp 4))⟩,
             ⟨some 21, none, (.binOp .neq 4 (.tmp 19) (.tmp 20) 4)⟩])
           (.cond (.tmp 21)
            (.seq
             (.ops [⟨some 2, none, (.assign (.const (.bool false)))⟩])
             .ret)
            .skip))
          (.seq
           (.seq
            (.draw #[] [(0, 0), (0, 3), (1, 0)]
              [⟨some 22, none, (.load 72 (.tmp 5))⟩,
              ⟨some 23, none, (.load 67 (.tmp 1))⟩,
              ⟨some 24, none, (.call ⟨(.value (.func 58)), #[(.tmp 23)], #[67]⟩)⟩,
              ⟨some 25, none, (.call ⟨(.value (.func 60)), #[(.tmp 22), (.tmp 24)], #[72, 72]⟩)⟩,
              ⟨some 26, none, (.unOp .not 4 (.tmp 25))⟩])
            (.cond (.tmp 26)
             (.seq
              (.ops [⟨some 2, none, (.assign (.const (.bool false)))⟩])
              .ret)
             .skip))
           (.seq
            (.ops [⟨some 2, none, (.assign (.const (.bool true)))⟩])
            .ret))))))))))
theorem w11 {args : Array Value} {H : AH} {Φ : Value → AH → Prop} (h : rW Try.prog k11 [] (fin Try.prog [(.tmp 2)] Φ) (tm0 args) H) : CallsA Try.prog 11 args H Φ :=
  CallsA.w k11 [(.tmp 2)] (fun i => if i = 10 then [(0, 0), (0, 3), (1, 0)] else []) Try.func11 rfl rfl (by kernel_rfl) (by kernel_rfl) h

end Go.Proofs.Ytgekbancaeabgaa.AM
