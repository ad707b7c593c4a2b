/- The code of the functions that the laws reach, made short; and facts on the types that they use. -/
import Derived.Test.YtdagncfnkenbfaaA8
import Derived.KernelRfl
import Derived.Test.YtdagncfnkenbfaaRows
set_option linter.unusedVariables false
set_option linter.unusedSimpArgs false
set_option linter.defProp false
set_option maxRecDepth 100000
/- The code of the functions that the laws reach, made short; and facts on the types that they use. -/
namespace Go.Proofs.Ytdagncfnkenbfaa.AM
open Go Go.Proofs.Ytdagncfnkenbfaa Go.Proofs

theorem al54 {ev : Operand → Value} : aMake Try.prog ev (.alloc 54) = some ([.int .i64 0, .int .i64 0], none) := by kernel_rfl
theorem ap25_25 {a a' : Option Addr} {n c n' c' : Nat} {H : AH} : aAppend Try.prog #[25, 25] #[.slice a n c, .slice a' n' c'] H = app 2 (.slice a n c) (.slice a' n' c') H := append_eq (z := .agg #[.int .i64 0, .int .i64 0]) (e := 54) (e' := 54) (by kernel_rfl) (by kernel_rfl) (by kernel_rfl) (by kernel_rfl) (by kernel_rfl) (by kernel_rfl)
theorem bd54 {ps : Array (Nat × Value)} : aBuild Try.prog 54 ps = (fillP [(0, 1), (1, 1)] [.int .i64 0, .int .i64 0] ps.toList).map fun cs => .agg cs.toArray := build_eq (z := .agg #[.int .i64 0, .int .i64 0]) Try.underlying54 (by kernel_rfl) (by kernel_rfl) (by kernel_rfl) rfl
theorem bd95 {ps : Array (Nat × Value)} : aBuild Try.prog 95 ps = (fillP [(0, 1), (1, 1), (2, 1)] [.slice none 0 0, .int .i64 0, .int .i64 0] ps.toList).map fun cs => .agg cs.toArray := build_eq (z := .agg #[.slice none 0 0, .int .i64 0, .int .i64 0]) Try.underlying95 (by kernel_rfl) (by kernel_rfl) (by kernel_rfl) rfl
theorem bs22_1 {ev : Operand → Value} {x0 : Operand} : aMake Try.prog ev (.buildSlice 22 1 #[(0, x0)]) = (fillP [(0, 1)] [.int .u8 0] [(0, ev x0)]).map fun cs => (cs, some (1, 1)) := bslice_eq (z := .int .u8 0) (e := 5) (by kernel_rfl) (by kernel_rfl) (by kernel_rfl) (by decide) (by kernel_rfl) (by kernel_rfl) rfl rfl
theorem bs25_0 {ev : Operand → Value} : aMake Try.prog ev (.buildSlice 25 0 #[]) = (fillP [] [] []).map fun cs => (cs, some (0, 2)) := bslice_eq (z := .agg #[.int .i64 0, .int .i64 0]) (e := 54) (by kernel_rfl) (by kernel_rfl) (by kernel_rfl) (by decide) (by kernel_rfl) (by kernel_rfl) rfl rfl
theorem bs25_1 {ev : Operand → Value} {x0 : Operand} : aMake Try.prog ev (.buildSlice 25 1 #[(0, x0)]) = (fillP [(0, 2)] [.int .i64 0, .int .i64 0] [(0, ev x0)]).map fun cs => (cs, some (1, 2)) := bslice_eq (z := .agg #[.int .i64 0, .int .i64 0]) (e := 54) (by kernel_rfl) (by kernel_rfl) (by kernel_rfl) (by decide) (by kernel_rfl) (by kernel_rfl) rfl rfl
theorem bs64_7 {ev : Operand → Value} {x0 x1 x2 x3 x4 x5 x6 : Operand} : aMake Try.prog ev (.buildSlice 64 7 #[(0, x0), (1, x1), (2, x2), (3, x3), (4, x4), (5, x5), (6, x6)]) = (fillP [(0, 1), (1, 1), (2, 1), (3, 1), (4, 1), (5, 1), (6, 1)] [.int .i64 0, .int .i64 0, .int .i64 0, .int .i64 0, .int .i64 0, .int .i64 0, .int .i64 0] [(0, ev x0), (1, ev x1), (2, ev x2), (3, ev x3), (4, ev x4), (5, ev x5), (6, ev x6)]).map fun cs => (cs, some (7, 1)) := bslice_eq (z := .int .i64 0) (e := 3) (by kernel_rfl) (by kernel_rfl) (by kernel_rfl) (by decide) (by kernel_rfl) (by kernel_rfl) rfl rfl
theorem bs98_2 {ev : Operand → Value} {x0 x1 : Operand} : aMake Try.prog ev (.buildSlice 98 2 #[(0, x0), (1, x1)]) = (fillP [(0, 1), (1, 1)] [.string ⟨#[]⟩, .string ⟨#[]⟩] [(0, ev x0), (1, ev x1)]).map fun cs => (cs, some (2, 1)) := bslice_eq (z := .string ⟨#[]⟩) (e := 9) (by kernel_rfl) (by kernel_rfl) (by kernel_rfl) (by decide) (by kernel_rfl) (by kernel_rfl) rfl rfl
theorem bs98_3 {ev : Operand → Value} {x0 x1 x2 : Operand} : aMake Try.prog ev (.buildSlice 98 3 #[(0, x0), (1, x1), (2, x2)]) = (fillP [(0, 1), (1, 1), (2, 1)] [.string ⟨#[]⟩, .string ⟨#[]⟩, .string ⟨#[]⟩] [(0, ev x0), (1, ev x1), (2, ev x2)]).map fun cs => (cs, some (3, 1)) := bslice_eq (z := .string ⟨#[]⟩) (e := 9) (by kernel_rfl) (by kernel_rfl) (by kernel_rfl) (by decide) (by kernel_rfl) (by kernel_rfl) rfl rfl
theorem bs98_6 {ev : Operand → Value} {x0 x1 x2 x3 x4 x5 : Operand} : aMake Try.prog ev (.buildSlice 98 6 #[(0, x0), (1, x1), (2, x2), (3, x3), (4, x4), (5, x5)]) = (fillP [(0, 1), (1, 1), (2, 1), (3, 1), (4, 1), (5, 1)] [.string ⟨#[]⟩, .string ⟨#[]⟩, .string ⟨#[]⟩, .string ⟨#[]⟩, .string ⟨#[]⟩, .string ⟨#[]⟩] [(0, ev x0), (1, ev x1), (2, ev x2), (3, ev x3), (4, ev x4), (5, ev x5)]).map fun cs => (cs, some (6, 1)) := bslice_eq (z := .string ⟨#[]⟩) (e := 9) (by kernel_rfl) (by kernel_rfl) (by kernel_rfl) (by decide) (by kernel_rfl) (by kernel_rfl) rfl rfl
theorem bs98_9 {ev : Operand → Value} {x0 x1 x2 x3 x4 x5 x6 x7 x8 : Operand} : aMake Try.prog ev (.buildSlice 98 9 #[(0, x0), (1, x1), (2, x2), (3, x3), (4, x4), (5, x5), (6, x6), (7, x7), (8, x8)]) = (fillP [(0, 1), (1, 1), (2, 1), (3, 1), (4, 1), (5, 1), (6, 1), (7, 1), (8, 1)] [.string ⟨#[]⟩, .string ⟨#[]⟩, .string ⟨#[]⟩, .string ⟨#[]⟩, .string ⟨#[]⟩, .string ⟨#[]⟩, .string ⟨#[]⟩, .string ⟨#[]⟩, .string ⟨#[]⟩] [(0, ev x0), (1, ev x1), (2, ev x2), (3, ev x3), (4, ev x4), (5, ev x5), (6, ev x6), (7, ev x7), (8, ev x8)]).map fun cs => (cs, some (9, 1)) := bslice_eq (z := .string ⟨#[]⟩) (e := 9) (by kernel_rfl) (by kernel_rfl) (by kernel_rfl) (by decide) (by kernel_rfl) (by kernel_rfl) rfl rfl
theorem bs98_10 {ev : Operand → Value} {x0 x1 x2 x3 x4 x5 x6 x7 x8 x9 : Operand} : aMake Try.prog ev (.buildSlice 98 10 #[(0, x0), (1, x1), (2, x2), (3, x3), (4, x4), (5, x5), (6, x6), (7, x7), (8, x8), (9, x9)]) = (fillP [(0, 1), (1, 1), (2, 1), (3, 1), (4, 1), (5, 1), (6, 1), (7, 1), (8, 1), (9, 1)] [.string ⟨#[]⟩, .string ⟨#[]⟩, .string ⟨#[]⟩, .string ⟨#[]⟩, .string ⟨#[]⟩, .string ⟨#[]⟩, .string ⟨#[]⟩, .string ⟨#[]⟩, .string ⟨#[]⟩, .string ⟨#[]⟩] [(0, ev x0), (1, ev x1), (2, ev x2), (3, ev x3), (4, ev x4), (5, ev x5), (6, ev x6), (7, ev x7), (8, ev x8), (9, ev x9)]).map fun cs => (cs, some (10, 1)) := bslice_eq (z := .string ⟨#[]⟩) (e := 9) (by kernel_rfl) (by kernel_rfl) (by kernel_rfl) (by decide) (by kernel_rfl) (by kernel_rfl) rfl rfl
theorem bs98_11 {ev : Operand → Value} {x0 x1 x2 x3 x4 x5 x6 x7 x8 x9 x10 : Operand} : aMake Try.prog ev (.buildSlice 98 11 #[(0, x0), (1, x1), (2, x2), (3, x3), (4, x4), (5, x5), (6, x6), (7, x7), (8, x8), (9, x9), (10, x10)]) = (fillP [(0, 1), (1, 1), (2, 1), (3, 1), (4, 1), (5, 1), (6, 1), (7, 1), (8, 1), (9, 1), (10, 1)] [.string ⟨#[]⟩, .string ⟨#[]⟩, .string ⟨#[]⟩, .string ⟨#[]⟩, .string ⟨#[]⟩, .string ⟨#[]⟩, .string ⟨#[]⟩, .string ⟨#[]⟩, .string ⟨#[]⟩, .string ⟨#[]⟩, .string ⟨#[]⟩] [(0, ev x0), (1, ev x1), (2, ev x2), (3, ev x3), (4, ev x4), (5, ev x5), (6, ev x6), (7, ev x7), (8, ev x8), (9, ev x9), (10, ev x10)]).map fun cs => (cs, some (11, 1)) := bslice_eq (z := .string ⟨#[]⟩) (e := 9) (by kernel_rfl) (by kernel_rfl) (by kernel_rfl) (by decide) (by kernel_rfl) (by kernel_rfl) rfl rfl
theorem bs98_12 {ev : Operand → Value} {x0 x1 x2 x3 x4 x5 x6 x7 x8 x9 x10 x11 : Operand} : aMake Try.prog ev (.buildSlice 98 12 #[(0, x0), (1, x1), (2, x2), (3, x3), (4, x4), (5, x5), (6, x6), (7, x7), (8, x8), (9, x9), (10, x10), (11, x11)]) = (fillP [(0, 1), (1, 1), (2, 1), (3, 1), (4, 1), (5, 1), (6, 1), (7, 1), (8, 1), (9, 1), (10, 1), (11, 1)] [.string ⟨#[]⟩, .string ⟨#[]⟩, .string ⟨#[]⟩, .string ⟨#[]⟩, .string ⟨#[]⟩, .string ⟨#[]⟩, .string ⟨#[]⟩, .string ⟨#[]⟩, .string ⟨#[]⟩, .string ⟨#[]⟩, .string ⟨#[]⟩, .string ⟨#[]⟩] [(0, ev x0), (1, ev x1), (2, ev x2), (3, ev x3), (4, ev x4), (5, ev x5), (6, ev x6), (7, ev x7), (8, ev x8), (9, ev x9), (10, ev x10), (11, ev x11)]).map fun cs => (cs, some (12, 1)) := bslice_eq (z := .string ⟨#[]⟩) (e := 9) (by kernel_rfl) (by kernel_rfl) (by kernel_rfl) (by decide) (by kernel_rfl) (by kernel_rfl) rfl rfl
theorem bs98_15 {ev : Operand → Value} {x0 x1 x2 x3 x4 x5 x6 x7 x8 x9 x10 x11 x12 x13 x14 : Operand} : aMake Try.prog ev (.buildSlice 98 15 #[(0, x0), (1, x1), (2, x2), (3, x3), (4, x4), (5, x5), (6, x6), (7, x7), (8, x8), (9, x9), (10, x10), (11, x11), (12, x12), (13, x13), (14, x14)]) = (fillP [(0, 1), (1, 1), (2, 1), (3, 1), (4, 1), (5, 1), (6, 1), (7, 1), (8, 1), (9, 1), (10, 1), (11, 1), (12, 1), (13, 1), (14, 1)] [.string ⟨#[]⟩, .string ⟨#[]⟩, .string ⟨#[]⟩, .string ⟨#[]⟩, .string ⟨#[]⟩, .string ⟨#[]⟩, .string ⟨#[]⟩, .string ⟨#[]⟩, .string ⟨#[]⟩, .string ⟨#[]⟩, .string ⟨#[]⟩, .string ⟨#[]⟩, .string ⟨#[]⟩, .string ⟨#[]⟩, .string ⟨#[]⟩] [(0, ev x0), (1, ev x1), (2, ev x2), (3, ev x3), (4, ev x4), (5, ev x5), (6, ev x6), (7, ev x7), (8, ev x8), (9, ev x9), (10, ev x10), (11, ev x11), (12, ev x12), (13, ev x13), (14, ev x14)]).map fun cs => (cs, some (15, 1)) := bslice_eq (z := .string ⟨#[]⟩) (e := 9) (by kernel_rfl) (by kernel_rfl) (by kernel_rfl) (by decide) (by kernel_rfl) (by kernel_rfl) rfl rfl
theorem cv3_5 {k : IntKind} {n : Int} {G : Hp} : aConv Try.prog 3 5 (.int k n) G = some (.int .u8 (IntKind.u8.wrap n)) := conv_int (e := .int .i64) (by kernel_rfl) (by kernel_rfl)
theorem cv5_3 {k : IntKind} {n : Int} {G : Hp} : aConv Try.prog 5 3 (.int k n) G = some (.int .i64 (IntKind.i64.wrap n)) := conv_int (e := .int .u8) (by kernel_rfl) (by kernel_rfl)
theorem ef54 {a0 b0 a1 b1 : Int} {x y : Operand} : aBin Try.prog .eql 54 x y (.agg #[.int .i64 a0, .int .i64 a1]) (.agg #[.int .i64 b0, .int .i64 b1]) = some (.bool (a0 == b0 && (a1 == b1 && true))) := by
  refine bin_eql_agg Try.underlying54 (by kernel_rfl) (by kernel_rfl) (by simp [scal1]) ?_
  rw [eqF_cons (k := .i64) (k' := .i64) (a := a0) (b := b0) (by decide) (by kernel_rfl) (by kernel_rfl) (by kernel_rfl)]
  rw [eqF_cons (k := .i64) (k' := .i64) (a := a1) (b := b1) (by decide) (by kernel_rfl) (by kernel_rfl) (by kernel_rfl)]
  simp only [ite_and, eqF_nil]
theorem eg54 {a0 b0 a1 b1 : Int} {x y : Operand} : aBin Try.prog .neq 54 x y (.agg #[.int .i64 a0, .int .i64 a1]) (.agg #[.int .i64 b0, .int .i64 b1]) = some (.bool (!(a0 == b0 && (a1 == b1 && true)))) := by
  refine bin_neq_agg Try.underlying54 (by kernel_rfl) (by kernel_rfl) (by simp [scal1]) ?_
  rw [eqF_cons (k := .i64) (k' := .i64) (a := a0) (b := b0) (by decide) (by kernel_rfl) (by kernel_rfl) (by kernel_rfl)]
  rw [eqF_cons (k := .i64) (k' := .i64) (a := a1) (b := b1) (by decide) (by kernel_rfl) (by kernel_rfl) (by kernel_rfl)]
  simp only [ite_and, eqF_nil]
theorem fa54_0 {b o : Nat} : aFieldAddr Try.prog 54 (.pointer (some ⟨b, o, none⟩)) 0 = some (.pointer (some ⟨b, o + 0, none⟩)) := by kernel_rfl
theorem fa95_0 {b o : Nat} : aFieldAddr Try.prog 95 (.pointer (some ⟨b, o, none⟩)) 0 = some (.pointer (some ⟨b, o + 0, none⟩)) := by kernel_rfl
theorem fa95_1 {b o : Nat} : aFieldAddr Try.prog 95 (.pointer (some ⟨b, o, none⟩)) 1 = some (.pointer (some ⟨b, o + 1, none⟩)) := by kernel_rfl
theorem fa95_2 {b o : Nat} : aFieldAddr Try.prog 95 (.pointer (some ⟨b, o, none⟩)) 2 = some (.pointer (some ⟨b, o + 2, none⟩)) := by kernel_rfl
theorem ix22 {b o n c : Nat} {k : IntKind} {j : Int} : aIndexAddr Try.prog 22 (.slice (some ⟨b, o, none⟩) n c) (.int k j) = if 0 ≤ j ∧ j < n then some (.pointer (some ⟨b, o + j.toNat * 1, none⟩)) else none := by kernel_rfl
theorem ix25 {b o n c : Nat} {k : IntKind} {j : Int} : aIndexAddr Try.prog 25 (.slice (some ⟨b, o, none⟩) n c) (.int k j) = if 0 ≤ j ∧ j < n then some (.pointer (some ⟨b, o + j.toNat * 2, none⟩)) else none := by kernel_rfl
theorem ix64 {b o n c : Nat} {k : IntKind} {j : Int} : aIndexAddr Try.prog 64 (.slice (some ⟨b, o, none⟩) n c) (.int k j) = if 0 ≤ j ∧ j < n then some (.pointer (some ⟨b, o + j.toNat * 1, none⟩)) else none := by kernel_rfl
theorem ix98 {b o n c : Nat} {k : IntKind} {j : Int} : aIndexAddr Try.prog 98 (.slice (some ⟨b, o, none⟩) n c) (.int k j) = if 0 ≤ j ∧ j < n then some (.pointer (some ⟨b, o + j.toNat * 1, none⟩)) else none := by kernel_rfl
theorem us9 : Try.prog.underlying 9 = some .string := by kernel_rfl
theorem ld3 {o : Nat} {cs : List Value} : ld Try.prog 3 o cs = cs[o]? := ld_one (by kernel_rfl)
theorem ld5 {o : Nat} {cs : List Value} : ld Try.prog 5 o cs = cs[o]? := ld_one (by kernel_rfl)
theorem ld9 {o : Nat} {cs : List Value} : ld Try.prog 9 o cs = cs[o]? := ld_one (by kernel_rfl)
theorem ld22 {o : Nat} {cs : List Value} : ld Try.prog 22 o cs = cs[o]? := ld_one (by kernel_rfl)
theorem ld54 {o : Nat} {cs : List Value} : ld Try.prog 54 o cs = aggAt 2 o cs := ld_agg (by kernel_rfl) (by kernel_rfl)
theorem ln9 {s : ByteArray} : aLen Try.prog #[9] #[.string s] = some (.int .i64 s.size) := by kernel_rfl
theorem ln22 {a : Option Addr} {n c : Nat} : aLen Try.prog #[22] #[.slice a n c] = some (.int .i64 n) := by kernel_rfl
theorem ln25 {a : Option Addr} {n c : Nat} : aLen Try.prog #[25] #[.slice a n c] = some (.int .i64 n) := by kernel_rfl
theorem ln64 {a : Option Addr} {n c : Nat} : aLen Try.prog #[64] #[.slice a n c] = some (.int .i64 n) := by kernel_rfl
theorem ln98 {a : Option Addr} {n c : Nat} : aLen Try.prog #[98] #[.slice a n c] = some (.int .i64 n) := by kernel_rfl
theorem sl9 {s : ByteArray} {lo hi : Option Value} : aSlice Try.prog 9 (.string s) lo hi = sls s (optInt 0 lo) (optInt s.size hi) := sls_eq (by kernel_rfl)
theorem st3 {b o : Nat} {v : Value} {H : AH} : aStore Try.prog 3 (.pointer (some ⟨b, o, none⟩)) v H = sto 1 b o v H (wrt H b) := store_eq (by kernel_rfl)
theorem st54 {b o : Nat} {v : Value} {H : AH} : aStore Try.prog 54 (.pointer (some ⟨b, o, none⟩)) v H = sto 2 b o v H (wrt H b) := store_eq (by kernel_rfl)

/-- laws.big -/
def k7 : KC :=
  (.seq
   (.ops [⟨some 2, none, (.assign (.const (.bool false)))⟩])
   (.seq
    (.ops [⟨some 3, none, (.move (.tmp 0))⟩,
      ⟨some 4, none, (.call ⟨(.builtin .len), #[(.tmp 3)], #[22]⟩)⟩,
      ⟨some 5, none, (.binOp .gtr 3 (.tmp 4) (.const (.int .i64 1048576)) 3)⟩,
      ⟨some 2, none, (.assign (.tmp 5))⟩])
    .ret))
theorem w7 {args : Array Value} {H : AH} {Φ : Value → AH → Prop} (h : rW Try.prog k7 [] (fin Try.prog [(.tmp 2)] Φ) (tm0 args) H) : CallsA Try.prog 7 args H Φ :=
  CallsA.w k7 [(.tmp 2)] (fun _ => []) Try.func7 rfl rfl (by kernel_rfl) (by kernel_rfl) h

/-- spec.l1New -/
def k32 : KC :=
  (.seq
   (.ops [⟨some 2, none, (.assign (.const (.pointer none)))⟩])
   (.seq
    (.ops [⟨some 5, none, (.move (.tmp 0))⟩,
      ⟨some 6, none, (.call ⟨(.builtin .len), #[(.tmp 5)], #[22]⟩)⟩,
      ⟨some 7, none, (.binOp .add 3 (.const (.int .i64 18218)) (.tmp 6) 3)⟩,
      ⟨some 3, none, (.assign (.tmp 7))⟩])
    (.seq
     (.seq
      (.ops [⟨some 4, none, (.assign (.const (.int .i64 0)))⟩])
      (.block 0
       (.loop
        (.seq
         (.seq
          (.ops [⟨some 8, none, (.move (.tmp 4))⟩,
            ⟨some 9, none, (.move (.tmp 0))⟩,
            ⟨some 10, none, (.call ⟨(.builtin .len), #[(.tmp 9)], #[22]⟩)⟩,
            ⟨some 11, none, (.binOp .lss 3 (.tmp 8) (.tmp 10) 3)⟩,
            ⟨some 12, none, (.move (.tmp 11))⟩,
            ⟨some 13, (some (12, true)), (.move (.tmp 4))⟩,
            ⟨some 14, (some (12, true)), (.binOp .lss 3 (.tmp 13) (.const (.int .i64 4000)) 3)⟩,
            ⟨some 15, none, (.pick (.tmp 12) (.tmp 14) (.const (.bool false)))⟩])
          (.cond (.tmp 15)
           .skip
           (.exit 0)))
         (.seq
          (.block 1
           (.ops [⟨some 18, none, (.move (.tmp 3))⟩,
             ⟨some 19, none, (.binOp .mul 3 (.tmp 18) (.const (.int .i64 131)) 3)⟩,
             ⟨some 20, none, (.move (.tmp 0))⟩,
             ⟨some 21, none, (.move (.tmp 4))⟩,
             ⟨some 22, none, (.indexAddr 22 (.tmp 20) (.tmp 21))⟩,
             ⟨some 23, none, (.load 5 (.tmp 22))⟩,
             ⟨some 24, none, (.convert 5 3 (.tmp 23))⟩,
             ⟨some 25, none, (.binOp .add 3 (.tmp 19) (.tmp 24) 3)⟩,
             ⟨some 26, none, (.binOp .add 3 (.tmp 25) (.const (.int .i64 7)) 3)⟩,
             ⟨some 27, none, (.binOp .and 3 (.tmp 26) (.const (.int .i64 1073741823)) 3)⟩,
             ⟨some 3, none, (.assign (.tmp 27))⟩]))
          (.ops [⟨some 16, none, (.move (.tmp 4))⟩,
            ⟨some 17, none, (.binOp .add 3 (.tmp 16) (.const (.int .i64 1)) 3)⟩,
            ⟨some 4, none, (.assign (.tmp 17))⟩]))))))
     (.seq
      (.ops [⟨some 28, none, (.move (.tmp 0))⟩,
        ⟨some 29, none, (.move (.tmp 3))⟩,
        ⟨some 30, none, (.build 95 #[(0, (.tmp 28)), (2, (.tmp 29))])⟩,
        ⟨some 31, none, (.box 95 (.tmp 30))⟩,
        ⟨some 2, none, (.assign (.tmp 31))⟩])
      .ret))))
theorem w32 {args : Array Value} {H : AH} {Φ : Value → AH → Prop} (h : rW Try.prog k32 [] (fin Try.prog [(.tmp 2)] Φ) (tm0 args) H) : CallsA Try.prog 32 args H Φ :=
  CallsA.w k32 [(.tmp 2)] (fun _ => []) Try.func32 rfl rfl (by kernel_rfl) (by kernel_rfl) h

/-- spec.l1Byte -/
def k71 : KC :=
  (.seq
   (.ops [⟨some 2, none, (.assign (.const (.int .i64 0)))⟩])
   (.seq
    (.ops [⟨some 4, none, (.move (.tmp 0))⟩,
      ⟨some 5, none, (.move (.tmp 0))⟩,
      ⟨some 6, none, (.nilCheck (.tmp 5))⟩,
      ⟨some 7, none, (.fieldAddr 95 (.tmp 6) 2)⟩,
      ⟨some 8, none, (.load 3 (.tmp 7))⟩,
      ⟨some 9, none, (.binOp .mul 3 (.tmp 8) (.const (.int .i64 6364136223846793005)) 3)⟩,
      ⟨some 10, none, (.binOp .add 3 (.tmp 9) (.const (.int .i64 1442695040888963407)) 3)⟩,
      ⟨some 11, none, (.nilCheck (.tmp 4))⟩,
      ⟨some 12, none, (.fieldAddr 95 (.tmp 11) 2)⟩,
      ⟨none, none, (.store 3 (.tmp 12) (.tmp 10))⟩])
    (.seq
     (.ops [⟨some 13, none, (.move (.tmp 0))⟩,
       ⟨some 14, none, (.nilCheck (.tmp 13))⟩,
       ⟨some 15, none, (.fieldAddr 95 (.tmp 14) 2)⟩,
       ⟨some 16, none, (.load 3 (.tmp 15))⟩,
       ⟨some 17, none, (.binOp .shr 3 (.tmp 16) (.const (.int .u64 33)) 84)⟩,
       ⟨some 18, none, (.move (.tmp 0))⟩,
       ⟨some 19, none, (.nilCheck (.tmp 18))⟩,
       ⟨some 20, none, (.fieldAddr 95 (.tmp 19) 2)⟩,
       ⟨some 21, none, (.load 3 (.tmp 20))⟩,
       ⟨some 22, none, (.binOp .shr 3 (.tmp 21) (.const (.int .u64 45)) 84)⟩,
       ⟨some 23, none, (.binOp .xor 3 (.tmp 17) (.tmp 22) 3)⟩,
       ⟨some 24, none, (.binOp .and 3 (.tmp 23) (.const (.int .i64 255)) 3)⟩,
       ⟨some 3, none, (.assign (.tmp 24))⟩])
     (.seq
      (.seq
       (.ops [⟨some 25, none, (.move (.tmp 0))⟩,
         ⟨some 26, none, (.nilCheck (.tmp 25))⟩,
         ⟨some 27, none, (.fieldAddr 95 (.tmp 26) 1)⟩,
         ⟨some 28, none, (.load 3 (.tmp 27))⟩,
         ⟨some 29, none, (.move (.tmp 0))⟩,
         ⟨some 30, none, (.nilCheck (.tmp 29))⟩,
         ⟨some 31, none, (.fieldAddr 95 (.tmp 30) 0)⟩,
         ⟨some 32, none, (.load 22 (.tmp 31))⟩,
         ⟨some 33, none, (.call ⟨(.builtin .len), #[(.tmp 32)], #[22]⟩)⟩,
         ⟨some 34, none, (.binOp .lss 3 (.tmp 28) (.tmp 33) 3)⟩])
       (.cond (.tmp 34)
        (.seq
         (.ops [⟨some 35, none, (.move (.tmp 3))⟩,
           ⟨some 36, none, (.move (.tmp 0))⟩,
           ⟨some 37, none, (.nilCheck (.tmp 36))⟩,
           ⟨some 38, none, (.fieldAddr 95 (.tmp 37) 0)⟩,
           ⟨some 39, none, (.load 22 (.tmp 38))⟩,
           ⟨some 40, none, (.move (.tmp 0))⟩,
           ⟨some 41, none, (.nilCheck (.tmp 40))⟩,
           ⟨some 42, none, (.fieldAddr 95 (.tmp 41) 1)⟩,
           ⟨some 43, none, (.load 3 (.tmp 42))⟩,
           ⟨some 44, none, (.indexAddr 22 (.tmp 39) (.tmp 43))⟩,
           ⟨some 45, none, (.load 5 (.tmp 44))⟩,
           ⟨some 46, none, (.convert 5 3 (.tmp 45))⟩,
           ⟨some 47, none, (.binOp .add 3 (.tmp 35) (.tmp 46) 3)⟩,
           ⟨some 48, none, (.binOp .and 3 (.tmp 47) (.const (.int .i64 255)) 3)⟩,
           ⟨some 3, none, (.assign (.tmp 48))⟩])
         (.ops [⟨some 49, none, (.move (.tmp 0))⟩,
           ⟨some 50, none, (.move (.tmp 0))⟩,
           ⟨some 51, none, (.nilCheck (.tmp 50))⟩,
           ⟨some 52, none, (.fieldAddr 95 (.tmp 51) 1)⟩,
           ⟨some 53, none, (.load 3 (.tmp 52))⟩,
           ⟨some 54, none, (.binOp .add 3 (.tmp 53) (.const (.int .i64 1)) 3)⟩,
           ⟨some 55, none, (.nilCheck (.tmp 49))⟩,
           ⟨some 56, none, (.fieldAddr 95 (.tmp 55) 1)⟩,
           ⟨none, none, (.store 3 (.tmp 56) (.tmp 54))⟩]))
        .skip))
      (.seq
       (.ops [⟨some 57, none, (.move (.tmp 3))⟩,
         ⟨some 2, none, (.assign (.tmp 57))⟩])
       .ret)))))
theorem w71 {args : Array Value} {H : AH} {Φ : Value → AH → Prop} (h : rW Try.prog k71 [] (fin Try.prog [(.tmp 2)] Φ) (tm0 args) H) : CallsA Try.prog 71 args H Φ :=
  CallsA.w k71 [(.tmp 2)] (fun i => if i = 2 then [(3, 0), (8, 0)] else if i = 3 then [(3, 0), (7, 0)] else if i = 4 then [(4, 0), (8, 0), (10, 0), (11, 0)] else []) Try.func71 rfl rfl (by kernel_rfl) (by kernel_rfl) h

/-- spec.l1Below -/
def k35 : KC :=
  (.seq
   (.ops [⟨some 4, none, (.assign (.const (.int .i64 0)))⟩])
   (.seq
    (.seq
     (.ops [⟨some 9, none, (.move (.tmp 1))⟩,
       ⟨some 10, none, (.binOp .leq 3 (.tmp 9) (.const (.int .i64 0)) 3)⟩])
     (.cond (.tmp 10)
      (.seq
       (.ops [⟨some 4, none, (.assign (.const (.int .i64 0)))⟩])
       .ret)
      .skip))
    (.seq
     (.seq
      (.ops [⟨some 11, none, (.move (.tmp 1))⟩,
        ⟨some 12, none, (.binOp .leq 3 (.tmp 11) (.const (.int .i64 256)) 3)⟩])
      (.cond (.tmp 12)
       (.seq
        (.ops [⟨some 13, none, (.move (.tmp 0))⟩,
          ⟨some 14, none, (.call ⟨(.value (.func 71)), #[(.tmp 13)], #[48]⟩)⟩,
          ⟨some 15, none, (.move (.tmp 1))⟩,
          ⟨some 16, none, (.binOp .rem 3 (.tmp 14) (.tmp 15) 3)⟩,
          ⟨some 4, none, (.assign (.tmp 16))⟩])
        .ret)
       .skip))
     (.seq
      (.ops [⟨some 17, none, (.move (.tmp 0))⟩,
        ⟨some 18, none, (.call ⟨(.value (.func 71)), #[(.tmp 17)], #[48]⟩)⟩,
        ⟨some 5, none, (.assign (.tmp 18))⟩])
      (.seq
       (.ops [⟨some 19, none, (.move (.tmp 0))⟩,
         ⟨some 20, none, (.call ⟨(.value (.func 71)), #[(.tmp 19)], #[48]⟩)⟩,
         ⟨some 6, none, (.assign (.tmp 20))⟩])
       (.seq
        (.ops [⟨some 21, none, (.move (.tmp 0))⟩,
          ⟨some 22, none, (.call ⟨(.value (.func 71)), #[(.tmp 21)], #[48]⟩)⟩,
          ⟨some 7, none, (.assign (.tmp 22))⟩])
        (.seq
         (.ops [⟨some 23, none, (.move (.tmp 0))⟩,
           ⟨some 24, none, (.call ⟨(.value (.func 71)), #[(.tmp 23)], #[48]⟩)⟩,
           ⟨some 8, none, (.assign (.tmp 24))⟩])
         (.seq
          (.ops [⟨some 25, none, (.move (.tmp 5))⟩,
            ⟨some 26, none, (.binOp .mul 3 (.tmp 25) (.const (.int .i64 16777216)) 3)⟩,
            ⟨some 27, none, (.move (.tmp 6))⟩,
            ⟨some 28, none, (.binOp .mul 3 (.tmp 27) (.const (.int .i64 65536)) 3)⟩,
            ⟨some 29, none, (.binOp .add 3 (.tmp 26) (.tmp 28) 3)⟩,
            ⟨some 30, none, (.move (.tmp 7))⟩,
            ⟨some 31, none, (.binOp .mul 3 (.tmp 30) (.const (.int .i64 256)) 3)⟩,
            ⟨some 32, none, (.binOp .add 3 (.tmp 29) (.tmp 31) 3)⟩,
            ⟨some 33, none, (.move (.tmp 8))⟩,
            ⟨some 34, none, (.binOp .add 3 (.tmp 32) (.tmp 33) 3)⟩,
            ⟨some 35, none, (.move (.tmp 1))⟩,
            ⟨some 36, none, (.binOp .rem 3 (.tmp 34) (.tmp 35) 3)⟩,
            ⟨some 4, none, (.assign (.tmp 36))⟩])
          .ret))))))))
theorem w35 {args : Array Value} {H : AH} {Φ : Value → AH → Prop} (h : rW Try.prog k35 [] (fin Try.prog [(.tmp 4)] Φ) (tm0 args) H) : CallsA Try.prog 35 args H Φ :=
  CallsA.w k35 [(.tmp 4)] (fun _ => []) Try.func35 rfl rfl (by kernel_rfl) (by kernel_rfl) h

/-- spec.l1Once -/
def k34 : KC :=
  (.seq
   (.ops [⟨some 4, none, (.assign (.const (.bool false)))⟩])
   (.seq
    (.ops [⟨some 5, none, (.move (.tmp 0))⟩,
      ⟨some 6, none, (.move (.tmp 1))⟩,
      ⟨some 7, none, (.call ⟨(.value (.func 35)), #[(.tmp 5), (.tmp 6)], #[48, 3]⟩)⟩,
      ⟨some 8, none, (.binOp .eql 3 (.tmp 7) (.const (.int .i64 0)) 3)⟩,
      ⟨some 4, none, (.assign (.tmp 8))⟩])
    .ret))
theorem w34 {args : Array Value} {H : AH} {Φ : Value → AH → Prop} (h : rW Try.prog k34 [] (fin Try.prog [(.tmp 4)] Φ) (tm0 args) H) : CallsA Try.prog 34 args H Φ :=
  CallsA.w k34 [(.tmp 4)] (fun _ => []) Try.func34 rfl rfl (by kernel_rfl) (by kernel_rfl) h

/-- spec.l1Pick -/
def k94 : KC :=
  (.seq
   (.ops [⟨some 4, none, (.assign (.const (.string ⟨#[]⟩)))⟩])
   (.seq
    (.ops [⟨some 5, none, (.move (.tmp 1))⟩,
      ⟨some 6, none, (.move (.tmp 0))⟩,
      ⟨some 7, none, (.move (.tmp 1))⟩,
      ⟨some 8, none, (.call ⟨(.builtin .len), #[(.tmp 7)], #[98]⟩)⟩,
      ⟨some 9, none, (.call ⟨(.value (.func 35)), #[(.tmp 6), (.tmp 8)], #[48, 3]⟩)⟩,
      ⟨some 10, none, (.indexAddr 98 (.tmp 5) (.tmp 9))⟩,
      ⟨some 11, none, (.load 9 (.tmp 10))⟩,
      ⟨some 4, none, (.assign (.tmp 11))⟩])
    .ret))
theorem w94 {args : Array Value} {H : AH} {Φ : Value → AH → Prop} (h : rW Try.prog k94 [] (fin Try.prog [(.tmp 4)] Φ) (tm0 args) H) : CallsA Try.prog 94 args H Φ :=
  CallsA.w k94 [(.tmp 4)] (fun _ => []) Try.func94 rfl rfl (by kernel_rfl) (by kernel_rfl) h

/-- spec.l1PickInt -/
def k68 : KC :=
  (.seq
   (.ops [⟨some 4, none, (.assign (.const (.int .i64 0)))⟩])
   (.seq
    (.ops [⟨some 5, none, (.move (.tmp 1))⟩,
      ⟨some 6, none, (.move (.tmp 0))⟩,
      ⟨some 7, none, (.move (.tmp 1))⟩,
      ⟨some 8, none, (.call ⟨(.builtin .len), #[(.tmp 7)], #[64]⟩)⟩,
      ⟨some 9, none, (.call ⟨(.value (.func 35)), #[(.tmp 6), (.tmp 8)], #[48, 3]⟩)⟩,
      ⟨some 10, none, (.indexAddr 64 (.tmp 5) (.tmp 9))⟩,
      ⟨some 11, none, (.load 3 (.tmp 10))⟩,
      ⟨some 4, none, (.assign (.tmp 11))⟩])
    .ret))
theorem w68 {args : Array Value} {H : AH} {Φ : Value → AH → Prop} (h : rW Try.prog k68 [] (fin Try.prog [(.tmp 4)] Φ) (tm0 args) H) : CallsA Try.prog 68 args H Φ :=
  CallsA.w k68 [(.tmp 4)] (fun _ => []) Try.func68 rfl rfl (by kernel_rfl) (by kernel_rfl) h

/-- spec.l1DrawNum -/
def k104 : KC :=
  (.seq
   (.ops [⟨some 2, none, (.assign (.const (.int .i64 0)))⟩])
   (.seq
    (.seq
     (.ops [⟨some 3, none, (.move (.tmp 0))⟩,
       ⟨some 4, none, (.call ⟨(.value (.func 34)), #[(.tmp 3), (.const (.int .i64 12))], #[48, 3]⟩)⟩])
     (.cond (.tmp 4)
      (.seq
       (.ops [⟨some 5, none, (.move (.tmp 0))⟩,
         ⟨some 6, none, (.buildSlice 64 7 #[(0, (.const (.int .i64 1000000000000))), (1, (.const (.int .i64 (-1000000000000)))), (2, (.const (.int .i64 999999999999))), (3, (.const (.int .i64 1000000))), (4, (.const (.int .i64 (-1000000)))), (5, (.const (.int .i64 1000001))), (6, (.const (.int .i64 999999999999)))])⟩,
         ⟨some 7, none, (.call ⟨(.value (.func 68)), #[(.tmp 5), (.tmp 6)], #[48, 64]⟩)⟩,
         ⟨some 2, none, (.assign (.tmp 7))⟩])
       .ret)
      .skip))
    (.seq
     (.ops [⟨some 8, none, (.move (.tmp 0))⟩,
       ⟨some 9, none, (.call ⟨(.value (.func 35)), #[(.tmp 8), (.const (.int .i64 20))], #[48, 3]⟩)⟩,
       ⟨some 10, none, (.binOp .sub 3 (.tmp 9) (.const (.int .i64 6)) 3)⟩,
       ⟨some 2, none, (.assign (.tmp 10))⟩])
     .ret)))
theorem w104 {args : Array Value} {H : AH} {Φ : Value → AH → Prop} (h : rW Try.prog k104 [] (fin Try.prog [(.tmp 2)] Φ) (tm0 args) H) : CallsA Try.prog 104 args H Φ :=
  CallsA.w k104 [(.tmp 2)] (fun _ => []) Try.func104 rfl rfl (by kernel_rfl) (by kernel_rfl) h

/-- spec.l8Digits -/
def k105 : KC :=
  (.seq
   (.ops [⟨some 2, none, (.assign (.const (.string ⟨#[]⟩)))⟩])
   (.seq
    (.seq
     (.ops [⟨some 4, none, (.move (.tmp 0))⟩,
       ⟨some 5, none, (.binOp .lss 3 (.tmp 4) (.const (.int .i64 0)) 3)⟩])
     (.cond (.tmp 5)
      (.seq
       (.ops [⟨some 6, none, (.move (.tmp 0))⟩,
         ⟨some 7, none, (.binOp .sub 3 (.const (.int .i64 0)) (.tmp 6) 3)⟩,
         ⟨some 8, none, (.call ⟨(.value (.func 105)), #[(.tmp 7)], #[3]⟩)⟩,
         ⟨some 9, none, (.binOp .add 9 (.const (.string ⟨#[95]⟩)) (.tmp 8) 9)⟩,
         ⟨some 2, none, (.assign (.tmp 9))⟩])
       .ret)
      .skip))
    (.seq
     (.seq
      (.ops [⟨some 10, none, (.move (.tmp 0))⟩,
        ⟨some 11, none, (.binOp .eql 3 (.tmp 10) (.const (.int .i64 0)) 3)⟩])
      (.cond (.tmp 11)
       (.seq
        (.ops [⟨some 2, none, (.assign (.const (.string ⟨#[48]⟩)))⟩])
        .ret)
       .skip))
     (.seq
      (.ops [⟨some 3, none, (.assign (.const (.string ⟨#[]⟩)))⟩])
      (.seq
       (.block 0
        (.loop
         (.seq
          (.seq
           (.ops [⟨some 12, none, (.move (.tmp 0))⟩,
             ⟨some 13, none, (.binOp .gtr 3 (.tmp 12) (.const (.int .i64 0)) 3)⟩])
           (.cond (.tmp 13)
            .skip
            (.exit 0)))
          (.block 1
           (.seq
            (.ops [⟨some 14, none, (.move (.tmp 0))⟩,
              ⟨some 15, none, (.binOp .rem 3 (.tmp 14) (.const (.int .i64 10)) 3)⟩,
              ⟨some 16, none, (.binOp .add 3 (.const (.int .i64 48)) (.tmp 15) 3)⟩,
              ⟨some 17, none, (.convert 3 5 (.tmp 16))⟩,
              ⟨some 18, none, (.buildSlice 22 1 #[(0, (.tmp 17))])⟩,
              ⟨some 19, none, (.convert 22 9 (.tmp 18))⟩,
              ⟨some 20, none, (.move (.tmp 3))⟩,
              ⟨some 21, none, (.binOp .add 9 (.tmp 19) (.tmp 20) 9)⟩,
              ⟨some 3, none, (.assign (.tmp 21))⟩])
            (.ops [⟨some 22, none, (.move (.tmp 0))⟩,
              ⟨some 23, none, (.binOp .quo 3 (.tmp 22) (.const (.int .i64 10)) 3)⟩,
              ⟨some 0, none, (.assign (.tmp 23))⟩]))))))
       (.seq
        (.ops [⟨some 24, none, (.move (.tmp 3))⟩,
          ⟨some 2, none, (.assign (.tmp 24))⟩])
        .ret))))))
theorem w105 {args : Array Value} {H : AH} {Φ : Value → AH → Prop} (h : rW Try.prog k105 [] (fin Try.prog [(.tmp 2)] Φ) (tm0 args) H) : CallsA Try.prog 105 args H Φ :=
  CallsA.w k105 [(.tmp 2)] (fun _ => []) Try.func105 rfl rfl (by kernel_rfl) (by kernel_rfl) h

/-- spec.l8DrawOperand -/
def k93 : KC :=
  (.seq
   (.ops [⟨some 4, none, (.assign (.const (.string ⟨#[]⟩)))⟩])
   (.seq
    (.seq
     (.ops [⟨some 7, none, (.move (.tmp 1))⟩,
       ⟨some 8, none, (.binOp .gtr 3 (.tmp 7) (.const (.int .i64 0)) 3)⟩,
       ⟨some 9, none, (.move (.tmp 8))⟩,
       ⟨some 10, (some (9, true)), (.move (.tmp 0))⟩,
       ⟨some 11, (some (9, true)), (.call ⟨(.value (.func 34)), #[(.tmp 10), (.const (.int .i64 4))], #[48, 3]⟩)⟩,
       ⟨some 12, none, (.pick (.tmp 9) (.tmp 11) (.const (.bool false)))⟩])
     (.cond (.tmp 12)
      (.seq
       (.ops [⟨some 13, none, (.move (.tmp 0))⟩,
         ⟨some 14, none, (.move (.tmp 1))⟩,
         ⟨some 15, none, (.binOp .sub 3 (.tmp 14) (.const (.int .i64 1)) 3)⟩,
         ⟨some 16, none, (.call ⟨(.value (.func 69)), #[(.tmp 13), (.tmp 15)], #[48, 3]⟩)⟩,
         ⟨some 17, none, (.binOp .add 9 (.const (.string ⟨#[40, 32]⟩)) (.tmp 16) 9)⟩,
         ⟨some 18, none, (.binOp .add 9 (.tmp 17) (.const (.string ⟨#[32, 41]⟩)) 9)⟩,
         ⟨some 4, none, (.assign (.tmp 18))⟩])
       .ret)
      .skip))
    (.seq
     (.seq
      (.ops [⟨some 19, none, (.move (.tmp 0))⟩,
        ⟨some 20, none, (.call ⟨(.value (.func 34)), #[(.tmp 19), (.const (.int .i64 3))], #[48, 3]⟩)⟩])
      (.cond (.tmp 20)
       (.seq
        (.ops [⟨some 21, none, (.move (.tmp 0))⟩,
          ⟨some 22, none, (.buildSlice 98 3 #[(0, (.const (.string ⟨#[65]⟩))), (1, (.const (.string ⟨#[66]⟩))), (2, (.const (.string ⟨#[67]⟩)))])⟩,
          ⟨some 23, none, (.call ⟨(.value (.func 94)), #[(.tmp 21), (.tmp 22)], #[48, 98]⟩)⟩,
          ⟨some 4, none, (.assign (.tmp 23))⟩])
        .ret)
       .skip))
     (.seq
      (.ops [⟨some 24, none, (.move (.tmp 0))⟩,
        ⟨some 25, none, (.call ⟨(.value (.func 104)), #[(.tmp 24)], #[48]⟩)⟩,
        ⟨some 26, none, (.call ⟨(.value (.func 105)), #[(.tmp 25)], #[3]⟩)⟩,
        ⟨some 5, none, (.assign (.tmp 26))⟩])
      (.seq
       (.seq
        (.ops [⟨some 6, none, (.assign (.const (.int .i64 0)))⟩])
        (.block 0
         (.loop
          (.seq
           (.seq
            (.ops [⟨some 27, none, (.move (.tmp 6))⟩,
              ⟨some 28, none, (.move (.tmp 0))⟩,
              ⟨some 29, none, (.call ⟨(.value (.func 35)), #[(.tmp 28), (.const (.int .i64 4))], #[48, 3]⟩)⟩,
              ⟨some 30, none, (.binOp .lss 3 (.tmp 27) (.tmp 29) 3)⟩])
            (.cond (.tmp 30)
             .skip
             (.exit 0)))
           (.seq
            (.block 1
             (.ops [⟨some 33, none, (.move (.tmp 5))⟩,
               ⟨some 34, none, (.binOp .add 9 (.tmp 33) (.const (.string ⟨#[32]⟩)) 9)⟩,
               ⟨some 35, none, (.move (.tmp 0))⟩,
               ⟨some 36, none, (.call ⟨(.value (.func 35)), #[(.tmp 35), (.const (.int .i64 9))], #[48, 3]⟩)⟩,
               ⟨some 37, none, (.binOp .sub 3 (.tmp 36) (.const (.int .i64 2)) 3)⟩,
               ⟨some 38, none, (.call ⟨(.value (.func 105)), #[(.tmp 37)], #[3]⟩)⟩,
               ⟨some 39, none, (.binOp .add 9 (.tmp 34) (.tmp 38) 9)⟩,
               ⟨some 5, none, (.assign (.tmp 39))⟩]))
            (.ops [⟨some 31, none, (.move (.tmp 6))⟩,
              ⟨some 32, none, (.binOp .add 3 (.tmp 31) (.const (.int .i64 1)) 3)⟩,
              ⟨some 6, none, (.assign (.tmp 32))⟩]))))))
       (.seq
        (.seq
         (.ops [⟨some 40, none, (.move (.tmp 0))⟩,
           ⟨some 41, none, (.call ⟨(.value (.func 34)), #[(.tmp 40), (.const (.int .i64 4))], #[48, 3]⟩)⟩])
         (.cond (.tmp 41)
          (.seq
           (.ops [⟨some 42, none, (.move (.tmp 0))⟩,
             ⟨some 43, none, (.buildSlice 98 6 #[(0, (.const (.string ⟨#[50]⟩))), (1, (.const (.string ⟨#[51]⟩))), (2, (.const (.string ⟨#[49]⟩))), (3, (.const (.string ⟨#[48]⟩))), (4, (.const (.string ⟨#[50, 32, 50]⟩))), (5, (.const (.string ⟨#[50, 32, 51]⟩)))])⟩,
             ⟨some 44, none, (.call ⟨(.value (.func 94)), #[(.tmp 42), (.tmp 43)], #[48, 98]⟩)⟩,
             ⟨some 4, none, (.assign (.tmp 44))⟩])
           .ret)
          .skip))
        (.seq
         (.ops [⟨some 45, none, (.move (.tmp 5))⟩,
           ⟨some 4, none, (.assign (.tmp 45))⟩])
         .ret)))))))
theorem w93 {args : Array Value} {H : AH} {Φ : Value → AH → Prop} (h : rW Try.prog k93 [] (fin Try.prog [(.tmp 4)] Φ) (tm0 args) H) : CallsA Try.prog 93 args H Φ :=
  CallsA.w k93 [(.tmp 4)] (fun _ => []) Try.func93 rfl rfl (by kernel_rfl) (by kernel_rfl) h

/-- spec.l8DrawFun -/
def k95 : KC :=
  (.seq
   (.ops [⟨some 4, none, (.assign (.const (.string ⟨#[]⟩)))⟩])
   (.seq
    (.ops [⟨some 6, none, (.move (.tmp 0))⟩,
      ⟨some 7, none, (.buildSlice 98 10 #[(0, (.const (.string ⟨#[43]⟩))), (1, (.const (.string ⟨#[45]⟩))), (2, (.const (.string ⟨#[42]⟩))), (3, (.const (.string ⟨#[37]⟩))), (4, (.const (.string ⟨#[124]⟩))), (5, (.const (.string ⟨#[38]⟩))), (6, (.const (.string ⟨#[94]⟩))), (7, (.const (.string ⟨#[61]⟩))), (8, (.const (.string ⟨#[60]⟩))), (9, (.const (.string ⟨#[62]⟩)))])⟩,
      ⟨some 8, none, (.call ⟨(.value (.func 94)), #[(.tmp 6), (.tmp 7)], #[48, 98]⟩)⟩,
      ⟨some 5, none, (.assign (.tmp 8))⟩])
    (.seq
     (.block 0
      (.seq
       (.ops [⟨some 10, none, (.move (.tmp 1))⟩,
         ⟨some 11, none, (.move (.tmp 10))⟩,
         ⟨some 12, (some (11, true)), (.move (.tmp 0))⟩,
         ⟨some 13, (some (11, true)), (.call ⟨(.value (.func 34)), #[(.tmp 12), (.const (.int .i64 6))], #[48, 3]⟩)⟩,
         ⟨some 14, none, (.pick (.tmp 11) (.tmp 13) (.const (.bool false)))⟩,
         ⟨some 9, none, (.assign (.tmp 14))⟩])
       (.cond (.tmp 9)
        (.seq
         (.ops [⟨some 15, none, (.move (.tmp 5))⟩,
           ⟨some 16, none, (.binOp .add 9 (.const (.string ⟨#[111, 32]⟩)) (.tmp 15) 9)⟩,
           ⟨some 4, none, (.assign (.tmp 16))⟩])
         .ret)
        (.seq
         (.ops [⟨some 18, none, (.move (.tmp 1))⟩,
           ⟨some 19, none, (.move (.tmp 18))⟩,
           ⟨some 20, (some (19, true)), (.move (.tmp 0))⟩,
           ⟨some 21, (some (19, true)), (.call ⟨(.value (.func 34)), #[(.tmp 20), (.const (.int .i64 7))], #[48, 3]⟩)⟩,
           ⟨some 22, none, (.pick (.tmp 19) (.tmp 21) (.const (.bool false)))⟩,
           ⟨some 17, none, (.assign (.tmp 22))⟩])
         (.cond (.tmp 17)
          (.seq
           (.ops [⟨some 23, none, (.move (.tmp 5))⟩,
             ⟨some 24, none, (.binOp .add 9 (.tmp 23) (.const (.string ⟨#[32, 46, 32]⟩)) 9)⟩,
             ⟨some 25, none, (.move (.tmp 0))⟩,
             ⟨some 26, none, (.buildSlice 98 6 #[(0, (.const (.string ⟨#[43]⟩))), (1, (.const (.string ⟨#[45]⟩))), (2, (.const (.string ⟨#[42]⟩))), (3, (.const (.string ⟨#[38]⟩))), (4, (.const (.string ⟨#[94]⟩))), (5, (.const (.string ⟨#[61]⟩)))])⟩,
             ⟨some 27, none, (.call ⟨(.value (.func 94)), #[(.tmp 25), (.tmp 26)], #[48, 98]⟩)⟩,
             ⟨some 28, none, (.binOp .add 9 (.tmp 24) (.tmp 27) 9)⟩,
             ⟨some 4, none, (.assign (.tmp 28))⟩])
           .ret)
          (.seq
           (.ops [⟨some 30, none, (.move (.tmp 1))⟩,
             ⟨some 31, none, (.move (.tmp 30))⟩,
             ⟨some 32, (some (31, true)), (.move (.tmp 0))⟩,
             ⟨some 33, (some (31, true)), (.call ⟨(.value (.func 34)), #[(.tmp 32), (.const (.int .i64 2))], #[48, 3]⟩)⟩,
             ⟨some 34, none, (.pick (.tmp 31) (.tmp 33) (.const (.bool false)))⟩,
             ⟨some 29, none, (.assign (.tmp 34))⟩])
           (.cond (.tmp 29)
            (.seq
             (.ops [⟨some 35, none, (.move (.tmp 5))⟩,
               ⟨some 4, none, (.assign (.tmp 35))⟩])
             .ret)
            (.seq
             (.ops [⟨some 37, none, (.move (.tmp 1))⟩,
               ⟨some 36, none, (.assign (.tmp 37))⟩])
             (.cond (.tmp 36)
              (.seq
               (.ops [⟨some 38, none, (.move (.tmp 0))⟩,
                 ⟨some 39, none, (.buildSlice 98 9 #[(0, (.const (.string ⟨#[35]⟩))), (1, (.const (.string ⟨#[44]⟩))), (2, (.const (.string ⟨#[116]⟩))), (3, (.const (.string ⟨#[100]⟩))), (4, (.const (.string ⟨#[114]⟩))), (5, (.const (.string ⟨#[64]⟩))), (6, (.const (.string ⟨#[63]⟩))), (7, (.const (.string ⟨#[36]⟩))), (8, (.const (.string ⟨#[101]⟩)))])⟩,
                 ⟨some 40, none, (.call ⟨(.value (.func 94)), #[(.tmp 38), (.tmp 39)], #[48, 98]⟩)⟩,
                 ⟨some 4, none, (.assign (.tmp 40))⟩])
               .ret)
              (.seq
               (.ops [⟨some 42, none, (.move (.tmp 0))⟩,
                 ⟨some 43, none, (.call ⟨(.value (.func 34)), #[(.tmp 42), (.const (.int .i64 4))], #[48, 3]⟩)⟩,
                 ⟨some 41, none, (.assign (.tmp 43))⟩])
               (.cond (.tmp 41)
                (.seq
                 (.ops [⟨some 44, none, (.move (.tmp 5))⟩,
                   ⟨some 45, none, (.binOp .add 9 (.tmp 44) (.const (.string ⟨#[32]⟩)) 9)⟩,
                   ⟨some 46, none, (.move (.tmp 0))⟩,
                   ⟨some 47, none, (.buildSlice 98 2 #[(0, (.const (.string ⟨#[47]⟩))), (1, (.const (.string ⟨#[92]⟩)))])⟩,
                   ⟨some 48, none, (.call ⟨(.value (.func 94)), #[(.tmp 46), (.tmp 47)], #[48, 98]⟩)⟩,
                   ⟨some 49, none, (.binOp .add 9 (.tmp 45) (.tmp 48) 9)⟩,
                   ⟨some 4, none, (.assign (.tmp 49))⟩])
                 .ret)
                .skip)))))))))))
     (.seq
      (.ops [⟨some 50, none, (.move (.tmp 0))⟩,
        ⟨some 51, none, (.buildSlice 98 11 #[(0, (.const (.string ⟨#[105]⟩))), (1, (.const (.string ⟨#[35]⟩))), (2, (.const (.string ⟨#[44]⟩))), (3, (.const (.string ⟨#[114]⟩))), (4, (.const (.string ⟨#[122]⟩))), (5, (.const (.string ⟨#[103]⟩))), (6, (.const (.string ⟨#[43]⟩))), (7, (.const (.string ⟨#[45]⟩))), (8, (.const (.string ⟨#[42]⟩))), (9, (.const (.string ⟨#[124]⟩))), (10, (.const (.string ⟨#[126]⟩)))])⟩,
        ⟨some 52, none, (.call ⟨(.value (.func 94)), #[(.tmp 50), (.tmp 51)], #[48, 98]⟩)⟩,
        ⟨some 4, none, (.assign (.tmp 52))⟩])
      .ret))))
theorem w95 {args : Array Value} {H : AH} {Φ : Value → AH → Prop} (h : rW Try.prog k95 [] (fin Try.prog [(.tmp 4)] Φ) (tm0 args) H) : CallsA Try.prog 95 args H Φ :=
  CallsA.w k95 [(.tmp 4)] (fun _ => []) Try.func95 rfl rfl (by kernel_rfl) (by kernel_rfl) h

/-- spec.l8DrawLine -/
def k69 : KC :=
  (.seq
   (.ops [⟨some 4, none, (.assign (.const (.string ⟨#[]⟩)))⟩])
   (.seq
    (.seq
     (.ops [⟨some 5, none, (.move (.tmp 1))⟩,
       ⟨some 6, none, (.binOp .leq 3 (.tmp 5) (.const (.int .i64 0)) 3)⟩])
     (.cond (.tmp 6)
      (.seq
       (.ops [⟨some 7, none, (.move (.tmp 0))⟩,
         ⟨some 8, none, (.call ⟨(.value (.func 93)), #[(.tmp 7), (.const (.int .i64 0))], #[48, 3]⟩)⟩,
         ⟨some 4, none, (.assign (.tmp 8))⟩])
       .ret)
      .skip))
    (.seq
     (.seq
      (.ops [⟨some 9, none, (.move (.tmp 0))⟩,
        ⟨some 10, none, (.call ⟨(.value (.func 35)), #[(.tmp 9), (.const (.int .i64 8))], #[48, 3]⟩)⟩])
      (.block 0
       (.seq
        (.ops [⟨some 12, none, (.binOp .eql 3 (.tmp 10) (.const (.int .i64 0)) 3)⟩,
          ⟨some 11, none, (.assign (.tmp 12))⟩])
        (.cond (.tmp 11)
         (.seq
          (.ops [⟨some 13, none, (.move (.tmp 0))⟩,
            ⟨some 14, none, (.buildSlice 98 3 #[(0, (.const (.string ⟨#[65]⟩))), (1, (.const (.string ⟨#[66]⟩))), (2, (.const (.string ⟨#[67]⟩)))])⟩,
            ⟨some 15, none, (.call ⟨(.value (.func 94)), #[(.tmp 13), (.tmp 14)], #[48, 98]⟩)⟩,
            ⟨some 16, none, (.binOp .add 9 (.tmp 15) (.const (.string ⟨#[32, 58, 32]⟩)) 9)⟩,
            ⟨some 17, none, (.move (.tmp 0))⟩,
            ⟨some 18, none, (.move (.tmp 1))⟩,
            ⟨some 19, none, (.binOp .sub 3 (.tmp 18) (.const (.int .i64 1)) 3)⟩,
            ⟨some 20, none, (.call ⟨(.value (.func 69)), #[(.tmp 17), (.tmp 19)], #[48, 3]⟩)⟩,
            ⟨some 21, none, (.binOp .add 9 (.tmp 16) (.tmp 20) 9)⟩,
            ⟨some 4, none, (.assign (.tmp 21))⟩])
          .ret)
         (.seq
          (.seq
           (.ops [⟨some 23, none, (.binOp .eql 3 (.tmp 10) (.const (.int .i64 1)) 3)⟩,
             ⟨some 22, none, (.assign (.tmp 23))⟩])
           (.cond (.tmp 22)
            .skip
            (.ops [⟨some 24, none, (.binOp .eql 3 (.tmp 10) (.const (.int .i64 2)) 3)⟩,
              ⟨some 22, none, (.assign (.tmp 24))⟩])))
          (.cond (.tmp 22)
           (.seq
            (.ops [⟨some 25, none, (.move (.tmp 0))⟩,
              ⟨some 26, none, (.call ⟨(.value (.func 95)), #[(.tmp 25), (.const (.bool false))], #[48, 4]⟩)⟩,
              ⟨some 27, none, (.binOp .add 9 (.tmp 26) (.const (.string ⟨#[32]⟩)) 9)⟩,
              ⟨some 28, none, (.move (.tmp 0))⟩,
              ⟨some 29, none, (.move (.tmp 1))⟩,
              ⟨some 30, none, (.binOp .sub 3 (.tmp 29) (.const (.int .i64 1)) 3)⟩,
              ⟨some 31, none, (.call ⟨(.value (.func 69)), #[(.tmp 28), (.tmp 30)], #[48, 3]⟩)⟩,
              ⟨some 32, none, (.binOp .add 9 (.tmp 27) (.tmp 31) 9)⟩,
              ⟨some 4, none, (.assign (.tmp 32))⟩])
            .ret)
           (.seq
            (.seq
             (.ops [⟨some 34, none, (.binOp .eql 3 (.tmp 10) (.const (.int .i64 3)) 3)⟩,
               ⟨some 33, none, (.assign (.tmp 34))⟩])
             (.cond (.tmp 33)
              .skip
              (.seq
               (.ops [⟨some 35, none, (.binOp .eql 3 (.tmp 10) (.const (.int .i64 4)) 3)⟩,
                 ⟨some 33, none, (.assign (.tmp 35))⟩])
               (.cond (.tmp 33)
                .skip
                (.ops [⟨some 36, none, (.binOp .eql 3 (.tmp 10) (.const (.int .i64 5)) 3)⟩,
                  ⟨some 33, none, (.assign (.tmp 36))⟩])))))
            (.cond (.tmp 33)
             (.seq
              (.ops [⟨some 37, none, (.move (.tmp 0))⟩,
                ⟨some 38, none, (.move (.tmp 1))⟩,
                ⟨some 39, none, (.binOp .sub 3 (.tmp 38) (.const (.int .i64 1)) 3)⟩,
                ⟨some 40, none, (.call ⟨(.value (.func 93)), #[(.tmp 37), (.tmp 39)], #[48, 3]⟩)⟩,
                ⟨some 41, none, (.binOp .add 9 (.tmp 40) (.const (.string ⟨#[32]⟩)) 9)⟩,
                ⟨some 42, none, (.move (.tmp 0))⟩,
                ⟨some 43, none, (.call ⟨(.value (.func 95)), #[(.tmp 42), (.const (.bool true))], #[48, 4]⟩)⟩,
                ⟨some 44, none, (.binOp .add 9 (.tmp 41) (.tmp 43) 9)⟩,
                ⟨some 45, none, (.binOp .add 9 (.tmp 44) (.const (.string ⟨#[32]⟩)) 9)⟩,
                ⟨some 46, none, (.move (.tmp 0))⟩,
                ⟨some 47, none, (.move (.tmp 1))⟩,
                ⟨some 48, none, (.binOp .sub 3 (.tmp 47) (.const (.int .i64 1)) 3)⟩,
                ⟨some 49, none, (.call ⟨(.value (.func 69)), #[(.tmp 46), (.tmp 48)], #[48, 3]⟩)⟩,
                ⟨some 50, none, (.binOp .add 9 (.tmp 45) (.tmp 49) 9)⟩,
                ⟨some 4, none, (.assign (.tmp 50))⟩])
              .ret)
             (.seq
              (.ops [⟨some 52, none, (.binOp .eql 3 (.tmp 10) (.const (.int .i64 6)) 3)⟩,
                ⟨some 51, none, (.assign (.tmp 52))⟩])
              (.cond (.tmp 51)
               (.seq
                (.ops [⟨some 53, none, (.move (.tmp 0))⟩,
                  ⟨some 54, none, (.buildSlice 98 12 #[(0, (.const (.string ⟨#[43, 32, 47, 32, 105, 32, 53]⟩))), (1, (.const (.string ⟨#[50, 32, 51, 32, 35, 32, 105, 32, 54]⟩))), (2, (.const (.string ⟨#[65, 32, 58, 32, 105, 32, 52]⟩))), (3, (.const (.string ⟨#[65, 32, 43, 32, 65, 32, 58, 32, 105, 32, 51]⟩))), (4, (.const (.string ⟨#[40, 32, 105, 32, 51, 32, 41, 32, 111, 32, 42, 32, 105, 32, 52]⟩))), (5, (.const (.string ⟨#[65, 32, 43, 32, 46, 32, 42, 32, 66]⟩))), (6, (.const (.string ⟨#[66, 32, 58, 32, 50, 32, 50, 32, 35, 32, 105, 32, 52]⟩))), (7, (.const (.string ⟨#[103, 32, 51, 32, 49, 32, 50]⟩))), (8, (.const (.string ⟨#[43, 32, 92, 32, 105, 32, 54]⟩))), (9, (.const (.string ⟨#[49, 32, 43, 32, 65, 32, 42, 32, 50, 32, 45, 32, 65]⟩))), (10, (.const (.string ⟨#[126, 32, 65, 32, 61, 32, 66]⟩))), (11, (.const (.string ⟨#[65, 32, 64, 32, 66]⟩)))])⟩,
                  ⟨some 55, none, (.call ⟨(.value (.func 94)), #[(.tmp 53), (.tmp 54)], #[48, 98]⟩)⟩,
                  ⟨some 4, none, (.assign (.tmp 55))⟩])
                .ret)
               .skip))))))))))
     (.seq
      (.ops [⟨some 56, none, (.move (.tmp 0))⟩,
        ⟨some 57, none, (.move (.tmp 1))⟩,
        ⟨some 58, none, (.binOp .sub 3 (.tmp 57) (.const (.int .i64 1)) 3)⟩,
        ⟨some 59, none, (.call ⟨(.value (.func 93)), #[(.tmp 56), (.tmp 58)], #[48, 3]⟩)⟩,
        ⟨some 4, none, (.assign (.tmp 59))⟩])
      .ret))))
theorem w69 {args : Array Value} {H : AH} {Φ : Value → AH → Prop} (h : rW Try.prog k69 [] (fin Try.prog [(.tmp 4)] Φ) (tm0 args) H) : CallsA Try.prog 69 args H Φ :=
  CallsA.w k69 [(.tmp 4)] (fun _ => []) Try.func69 rfl rfl (by kernel_rfl) (by kernel_rfl) h

/-- spec.l1Min -/
def k75 : KC :=
  (.seq
   (.ops [⟨some 4, none, (.assign (.const (.int .i64 0)))⟩])
   (.seq
    (.seq
     (.ops [⟨some 5, none, (.move (.tmp 0))⟩,
       ⟨some 6, none, (.move (.tmp 1))⟩,
       ⟨some 7, none, (.binOp .lss 3 (.tmp 5) (.tmp 6) 3)⟩])
     (.cond (.tmp 7)
      (.seq
       (.ops [⟨some 8, none, (.move (.tmp 0))⟩,
         ⟨some 4, none, (.assign (.tmp 8))⟩])
       .ret)
      .skip))
    (.seq
     (.ops [⟨some 9, none, (.move (.tmp 1))⟩,
       ⟨some 4, none, (.assign (.tmp 9))⟩])
     .ret)))
theorem w75 {args : Array Value} {H : AH} {Φ : Value → AH → Prop} (h : rW Try.prog k75 [] (fin Try.prog [(.tmp 4)] Φ) (tm0 args) H) : CallsA Try.prog 75 args H Φ :=
  CallsA.w k75 [(.tmp 4)] (fun _ => []) Try.func75 rfl rfl (by kernel_rfl) (by kernel_rfl) h

/-- spec.l8Dent -/
def k70 : KC :=
  (.seq
   (.ops [⟨some 6, none, (.assign (.const (.string ⟨#[]⟩)))⟩])
   (.seq
    (.ops [⟨some 8, none, (.move (.tmp 0))⟩,
      ⟨some 9, none, (.move (.tmp 1))⟩,
      ⟨some 10, none, (.call ⟨(.builtin .len), #[(.tmp 9)], #[9]⟩)⟩,
      ⟨some 11, none, (.binOp .add 3 (.tmp 10) (.const (.int .i64 1)) 3)⟩,
      ⟨some 12, none, (.call ⟨(.value (.func 35)), #[(.tmp 8), (.tmp 11)], #[48, 3]⟩)⟩,
      ⟨some 7, none, (.assign (.tmp 12))⟩])
    (.seq
     (.seq
      (.ops [⟨some 13, none, (.move (.tmp 0))⟩,
        ⟨some 14, none, (.call ⟨(.value (.func 35)), #[(.tmp 13), (.const (.int .i64 3))], #[48, 3]⟩)⟩])
      (.block 0
       (.seq
        (.ops [⟨some 16, none, (.binOp .eql 3 (.tmp 14) (.const (.int .i64 0)) 3)⟩,
          ⟨some 15, none, (.assign (.tmp 16))⟩])
        (.cond (.tmp 15)
         (.seq
          (.ops [⟨some 17, none, (.move (.tmp 1))⟩,
            ⟨some 18, none, (.move (.tmp 7))⟩,
            ⟨some 19, none, (.slice 9 (.tmp 17) none (some (.tmp 18)) none)⟩,
            ⟨some 6, none, (.assign (.tmp 19))⟩])
          .ret)
         (.seq
          (.ops [⟨some 21, none, (.binOp .eql 3 (.tmp 14) (.const (.int .i64 1)) 3)⟩,
            ⟨some 20, none, (.assign (.tmp 21))⟩])
          (.cond (.tmp 20)
           (.seq
            (.draw #[] []
              [⟨some 22, none, (.move (.tmp 1))⟩,
              ⟨some 23, none, (.move (.tmp 7))⟩,
              ⟨some 24, none, (.slice 9 (.tmp 22) none (some (.tmp 23)) none)⟩,
              ⟨some 25, none, (.move (.tmp 0))⟩,
              ⟨some 26, none, (.move (.tmp 2))⟩,
              ⟨some 27, none, (.call ⟨(.value (.func 94)), #[(.tmp 25), (.tmp 26)], #[48, 98]⟩)⟩,
              ⟨some 28, none, (.binOp .add 9 (.tmp 24) (.tmp 27) 9)⟩,
              ⟨some 29, none, (.move (.tmp 1))⟩,
              ⟨some 30, none, (.move (.tmp 7))⟩,
              ⟨some 31, none, (.binOp .add 3 (.tmp 30) (.const (.int .i64 1)) 3)⟩,
              ⟨some 32, none, (.move (.tmp 1))⟩,
              ⟨some 33, none, (.call ⟨(.builtin .len), #[(.tmp 32)], #[9]⟩)⟩,
              ⟨some 34, none, (.call ⟨(.value (.func 75)), #[(.tmp 31), (.tmp 33)], #[3, 3]⟩)⟩,
              ⟨some 35, none, (.slice 9 (.tmp 29) (some (.tmp 34)) none none)⟩,
              ⟨some 36, none, (.binOp .add 9 (.tmp 28) (.tmp 35) 9)⟩,
              ⟨some 6, none, (.assign (.tmp 36))⟩])
            .ret)
           .skip))))))
     (.seq
      (.draw #[] []
        [⟨some 37, none, (.move (.tmp 1))⟩,
        ⟨some 38, none, (.move (.tmp 7))⟩,
        ⟨some 39, none, (.slice 9 (.tmp 37) none (some (.tmp 38)) none)⟩,
        ⟨some 40, none, (.move (.tmp 0))⟩,
        ⟨some 41, none, (.move (.tmp 2))⟩,
        ⟨some 42, none, (.call ⟨(.value (.func 94)), #[(.tmp 40), (.tmp 41)], #[48, 98]⟩)⟩,
        ⟨some 43, none, (.binOp .add 9 (.tmp 39) (.tmp 42) 9)⟩,
        ⟨some 44, none, (.move (.tmp 1))⟩,
        ⟨some 45, none, (.move (.tmp 7))⟩,
        ⟨some 46, none, (.slice 9 (.tmp 44) (some (.tmp 45)) none none)⟩,
        ⟨some 47, none, (.binOp .add 9 (.tmp 43) (.tmp 46) 9)⟩,
        ⟨some 6, none, (.assign (.tmp 47))⟩])
      .ret))))
theorem w70 {args : Array Value} {H : AH} {Φ : Value → AH → Prop} (h : rW Try.prog k70 [] (fin Try.prog [(.tmp 6)] Φ) (tm0 args) H) : CallsA Try.prog 70 args H Φ :=
  CallsA.w k70 [(.tmp 6)] (fun i => if i = 6 then [] else if i = 7 then [] else []) Try.func70 rfl rfl (by kernel_rfl) (by kernel_rfl) h

/-- spec.l8DrawText -/
def k33 : KC :=
  (.seq
   (.ops [⟨some 2, none, (.assign (.const (.string ⟨#[]⟩)))⟩])
   (.seq
    (.ops [⟨some 4, none, (.move (.tmp 0))⟩,
      ⟨some 5, none, (.call ⟨(.value (.func 69)), #[(.tmp 4), (.const (.int .i64 4))], #[48, 3]⟩)⟩,
      ⟨some 3, none, (.assign (.tmp 5))⟩])
    (.seq
     (.seq
      (.ops [⟨some 6, none, (.move (.tmp 0))⟩,
        ⟨some 7, none, (.call ⟨(.value (.func 34)), #[(.tmp 6), (.const (.int .i64 3))], #[48, 3]⟩)⟩])
      (.cond (.tmp 7)
       (.ops [⟨some 8, none, (.move (.tmp 0))⟩,
         ⟨some 9, none, (.move (.tmp 3))⟩,
         ⟨some 10, none, (.buildSlice 98 15 #[(0, (.const (.string ⟨#[43]⟩))), (1, (.const (.string ⟨#[45]⟩))), (2, (.const (.string ⟨#[47]⟩))), (3, (.const (.string ⟨#[40]⟩))), (4, (.const (.string ⟨#[41]⟩))), (5, (.const (.string ⟨#[58]⟩))), (6, (.const (.string ⟨#[65]⟩))), (7, (.const (.string ⟨#[53]⟩))), (8, (.const (.string ⟨#[32]⟩))), (9, (.const (.string ⟨#[95]⟩))), (10, (.const (.string ⟨#[111]⟩))), (11, (.const (.string ⟨#[46]⟩))), (12, (.const (.string ⟨#[120]⟩))), (13, (.const (.string ⟨#[35]⟩))), (14, (.const (.string ⟨#[49, 48, 48, 48, 48, 48, 48, 48, 48, 48, 48, 48, 49]⟩)))])⟩,
         ⟨some 11, none, (.call ⟨(.value (.func 70)), #[(.tmp 8), (.tmp 9), (.tmp 10)], #[48, 9, 98]⟩)⟩,
         ⟨some 3, none, (.assign (.tmp 11))⟩])
       .skip))
     (.seq
      (.ops [⟨some 12, none, (.move (.tmp 3))⟩,
        ⟨some 2, none, (.assign (.tmp 12))⟩])
      .ret))))
theorem w33 {args : Array Value} {H : AH} {Φ : Value → AH → Prop} (h : rW Try.prog k33 [] (fin Try.prog [(.tmp 2)] Φ) (tm0 args) H) : CallsA Try.prog 33 args H Φ :=
  CallsA.w k33 [(.tmp 2)] (fun _ => []) Try.func33 rfl rfl (by kernel_rfl) (by kernel_rfl) h

/-- spec.DrawLex -/
def k8 : KC :=
  (.seq
   (.ops [⟨some 2, none, (.assign (.const (.string ⟨#[]⟩)))⟩])
   (.seq
    (.ops [⟨some 5, none, (.move (.tmp 0))⟩,
      ⟨some 6, none, (.call ⟨(.value (.func 32)), #[(.tmp 5)], #[22]⟩)⟩,
      ⟨some 3, none, (.assign (.tmp 6))⟩])
    (.seq
     (.ops [⟨some 7, none, (.move (.tmp 3))⟩,
       ⟨some 8, none, (.call ⟨(.value (.func 33)), #[(.tmp 7)], #[48]⟩)⟩,
       ⟨some 4, none, (.assign (.tmp 8))⟩])
     (.seq
      (.seq
       (.ops [⟨some 9, none, (.move (.tmp 3))⟩,
         ⟨some 10, none, (.call ⟨(.value (.func 34)), #[(.tmp 9), (.const (.int .i64 40))], #[48, 3]⟩)⟩])
       (.cond (.tmp 10)
        (.seq
         (.ops [⟨some 4, none, (.assign (.const (.string ⟨#[]⟩)))⟩])
         (.block 0
          (.loop
           (.seq
            (.seq
             (.ops [⟨some 11, none, (.move (.tmp 4))⟩,
               ⟨some 12, none, (.call ⟨(.builtin .len), #[(.tmp 11)], #[9]⟩)⟩,
               ⟨some 13, none, (.move (.tmp 3))⟩,
               ⟨some 14, none, (.call ⟨(.value (.func 35)), #[(.tmp 13), (.const (.int .i64 2))], #[48, 3]⟩)⟩,
               ⟨some 15, none, (.binOp .add 3 (.const (.int .i64 300)) (.tmp 14) 3)⟩,
               ⟨some 16, none, (.binOp .lss 3 (.tmp 12) (.tmp 15) 3)⟩])
             (.cond (.tmp 16)
              .skip
              (.exit 0)))
            (.block 1
             (.ops [⟨some 17, none, (.move (.tmp 4))⟩,
               ⟨some 18, none, (.binOp .add 9 (.tmp 17) (.const (.string ⟨#[49]⟩)) 9)⟩,
               ⟨some 4, none, (.assign (.tmp 18))⟩]))))))
        .skip))
      (.seq
       (.ops [⟨some 19, none, (.move (.tmp 4))⟩,
         ⟨some 2, none, (.assign (.tmp 19))⟩])
       .ret)))))
theorem w8 {args : Array Value} {H : AH} {Φ : Value → AH → Prop} (h : rW Try.prog k8 [] (fin Try.prog [(.tmp 2)] Φ) (tm0 args) H) : CallsA Try.prog 8 args H Φ :=
  CallsA.w k8 [(.tmp 2)] (fun _ => []) Try.func8 rfl rfl (by kernel_rfl) (by kernel_rfl) h

/-- impl.isDigit -/
def k72 : KC :=
  (.seq
   (.ops [⟨some 2, none, (.assign (.const (.bool false)))⟩])
   (.seq
    (.ops [⟨some 3, none, (.move (.tmp 0))⟩,
      ⟨some 4, none, (.binOp .geq 5 (.tmp 3) (.const (.int .u8 48)) 5)⟩,
      ⟨some 5, none, (.move (.tmp 4))⟩,
      ⟨some 6, (some (5, true)), (.move (.tmp 0))⟩,
      ⟨some 7, (some (5, true)), (.binOp .leq 5 (.tmp 6) (.const (.int .u8 57)) 5)⟩,
      ⟨some 8, none, (.pick (.tmp 5) (.tmp 7) (.const (.bool false)))⟩,
      ⟨some 2, none, (.assign (.tmp 8))⟩])
    .ret))
theorem w72 {args : Array Value} {H : AH} {Φ : Value → AH → Prop} (h : rW Try.prog k72 [] (fin Try.prog [(.tmp 2)] Φ) (tm0 args) H) : CallsA Try.prog 72 args H Φ :=
  CallsA.w k72 [(.tmp 2)] (fun _ => []) Try.func72 rfl rfl (by kernel_rfl) (by kernel_rfl) h

/-- impl.lexNum -/
def k73 : KC :=
  (.seq
   (.ops [⟨some 4, none, (.alloc 54)⟩,
     ⟨some 5, none, (.assign (.const (.int .i64 0)))⟩,
     ⟨some 6, none, (.assign (.const (.int .i64 0)))⟩])
   (.seq
    (.ops [⟨some 10, none, (.move (.tmp 1))⟩,
      ⟨some 7, none, (.assign (.tmp 10))⟩])
    (.seq
     (.seq
      (.ops [⟨some 11, none, (.move (.tmp 0))⟩,
        ⟨some 12, none, (.move (.tmp 1))⟩,
        ⟨some 13, none, (.index 9 (.tmp 11) (.tmp 12))⟩,
        ⟨some 14, none, (.binOp .eql 5 (.tmp 13) (.const (.int .u8 95)) 5)⟩])
      (.cond (.tmp 14)
       (.ops [⟨some 15, none, (.move (.tmp 7))⟩,
         ⟨some 16, none, (.binOp .add 3 (.tmp 15) (.const (.int .i64 1)) 3)⟩,
         ⟨some 7, none, (.assign (.tmp 16))⟩])
       .skip))
     (.seq
      (.ops [⟨some 17, none, (.move (.tmp 7))⟩,
        ⟨some 8, none, (.assign (.tmp 17))⟩])
      (.seq
       (.ops [⟨some 9, none, (.assign (.const (.int .i64 0)))⟩])
       (.seq
        (.block 0
         (.loop
          (.seq
           (.seq
            (.ops [⟨some 18, none, (.move (.tmp 8))⟩,
              ⟨some 19, none, (.move (.tmp 0))⟩,
              ⟨some 20, none, (.call ⟨(.builtin .len), #[(.tmp 19)], #[9]⟩)⟩,
              ⟨some 21, none, (.binOp .lss 3 (.tmp 18) (.tmp 20) 3)⟩,
              ⟨some 22, none, (.move (.tmp 21))⟩,
              ⟨some 23, (some (22, true)), (.move (.tmp 0))⟩,
              ⟨some 24, (some (22, true)), (.move (.tmp 8))⟩,
              ⟨some 25, (some (22, true)), (.index 9 (.tmp 23) (.tmp 24))⟩,
              ⟨some 26, (some (22, true)), (.call ⟨(.value (.func 72)), #[(.tmp 25)], #[5]⟩)⟩,
              ⟨some 27, none, (.pick (.tmp 22) (.tmp 26) (.const (.bool false)))⟩])
            (.cond (.tmp 27)
             .skip
             (.exit 0)))
           (.block 1
            (.seq
             (.ops [⟨some 28, none, (.move (.tmp 9))⟩,
               ⟨some 29, none, (.binOp .mul 3 (.const (.int .i64 10)) (.tmp 28) 3)⟩,
               ⟨some 30, none, (.move (.tmp 0))⟩,
               ⟨some 31, none, (.move (.tmp 8))⟩,
               ⟨some 32, none, (.index 9 (.tmp 30) (.tmp 31))⟩,
               ⟨some 33, none, (.binOp .sub 5 (.tmp 32) (.const (.int .u8 48)) 5)⟩,
               ⟨some 34, none, (.convert 5 3 (.tmp 33))⟩,
               ⟨some 35, none, (.binOp .add 3 (.tmp 29) (.tmp 34) 3)⟩,
               ⟨some 36, none, (.call ⟨(.builtin .min), #[(.tmp 35), (.const (.int .i64 1000000000001))], #[3, 3]⟩)⟩,
               ⟨some 9, none, (.assign (.tmp 36))⟩])
             (.ops [⟨some 37, none, (.move (.tmp 8))⟩,
               ⟨some 38, none, (.binOp .add 3 (.tmp 37) (.const (.int .i64 1)) 3)⟩,
               ⟨some 8, none, (.assign (.tmp 38))⟩]))))))
        (.seq
         (.block 2
          (.seq
           (.ops [⟨some 40, none, (.move (.tmp 8))⟩,
             ⟨some 41, none, (.move (.tmp 7))⟩,
             ⟨some 42, none, (.binOp .eql 3 (.tmp 40) (.tmp 41) 3)⟩,
             ⟨some 39, none, (.assign (.tmp 42))⟩])
           (.cond (.tmp 39)
            (.seq
             (.ops [⟨some 43, none, (.build 54 #[])⟩,
               ⟨some 44, none, (.move (.tmp 1))⟩,
               ⟨none, none, (.store 54 (.tmp 4) (.tmp 43))⟩,
               ⟨some 5, none, (.assign (.tmp 44))⟩,
               ⟨some 6, none, (.assign (.const (.int .i64 8)))⟩])
             .ret)
            (.seq
             (.ops [⟨some 46, none, (.move (.tmp 9))⟩,
               ⟨some 47, none, (.binOp .gtr 3 (.tmp 46) (.const (.int .i64 1000000000000)) 3)⟩,
               ⟨some 45, none, (.assign (.tmp 47))⟩])
             (.cond (.tmp 45)
              (.seq
               (.ops [⟨some 48, none, (.build 54 #[])⟩,
                 ⟨some 49, none, (.move (.tmp 1))⟩,
                 ⟨none, none, (.store 54 (.tmp 4) (.tmp 48))⟩,
                 ⟨some 5, none, (.assign (.tmp 49))⟩,
                 ⟨some 6, none, (.assign (.const (.int .i64 6)))⟩])
               .ret)
              (.seq
               (.ops [⟨some 51, none, (.move (.tmp 7))⟩,
                 ⟨some 52, none, (.move (.tmp 1))⟩,
                 ⟨some 53, none, (.binOp .gtr 3 (.tmp 51) (.tmp 52) 3)⟩,
                 ⟨some 50, none, (.assign (.tmp 53))⟩])
               (.cond (.tmp 50)
                (.ops [⟨some 54, none, (.move (.tmp 9))⟩,
                  ⟨some 55, none, (.unOp .neg 3 (.tmp 54))⟩,
                  ⟨some 9, none, (.assign (.tmp 55))⟩])
                .skip)))))))
         (.seq
          (.ops [⟨some 56, none, (.move (.tmp 9))⟩,
            ⟨some 57, none, (.build 54 #[(0, (.const (.int .i64 1))), (1, (.tmp 56))])⟩,
            ⟨some 58, none, (.move (.tmp 8))⟩,
            ⟨none, none, (.store 54 (.tmp 4) (.tmp 57))⟩,
            ⟨some 5, none, (.assign (.tmp 58))⟩,
            ⟨some 6, none, (.assign (.const (.int .i64 0)))⟩])
          .ret))))))))
theorem w73 {args : Array Value} {H : AH} {Φ : Value → AH → Prop} (h : rW Try.prog k73 [] (fin Try.prog [(.cell 4 54), (.tmp 5), (.tmp 6)] Φ) (tm0 args) H) : CallsA Try.prog 73 args H Φ :=
  CallsA.w k73 [(.cell 4 54), (.tmp 5), (.tmp 6)] (fun _ => []) Try.func73 rfl rfl (by kernel_rfl) (by kernel_rfl) h

/-- impl.hasSign -/
def k74 : KC :=
  (.seq
   (.ops [⟨some 4, none, (.assign (.const (.bool false)))⟩])
   (.seq
    (.seq
     (.ops [⟨some 5, none, (.assign (.const (.int .i64 0)))⟩])
     (.block 0
      (.loop
       (.seq
        (.seq
         (.ops [⟨some 6, none, (.move (.tmp 5))⟩,
           ⟨some 7, none, (.move (.tmp 0))⟩,
           ⟨some 8, none, (.call ⟨(.builtin .len), #[(.tmp 7)], #[9]⟩)⟩,
           ⟨some 9, none, (.binOp .lss 3 (.tmp 6) (.tmp 8) 3)⟩])
         (.cond (.tmp 9)
          .skip
          (.exit 0)))
        (.seq
         (.block 1
          (.seq
           (.ops [⟨some 12, none, (.move (.tmp 0))⟩,
             ⟨some 13, none, (.move (.tmp 5))⟩,
             ⟨some 14, none, (.index 9 (.tmp 12) (.tmp 13))⟩,
             ⟨some 15, none, (.convert 5 3 (.tmp 14))⟩,
             ⟨some 16, none, (.move (.tmp 1))⟩,
             ⟨some 17, none, (.binOp .eql 3 (.tmp 15) (.tmp 16) 3)⟩])
           (.cond (.tmp 17)
            (.seq
             (.ops [⟨some 4, none, (.assign (.const (.bool true)))⟩])
             .ret)
            .skip)))
         (.ops [⟨some 10, none, (.move (.tmp 5))⟩,
           ⟨some 11, none, (.binOp .add 3 (.tmp 10) (.const (.int .i64 1)) 3)⟩,
           ⟨some 5, none, (.assign (.tmp 11))⟩]))))))
    (.seq
     (.ops [⟨some 4, none, (.assign (.const (.bool false)))⟩])
     .ret)))
theorem w74 {args : Array Value} {H : AH} {Φ : Value → AH → Prop} (h : rW Try.prog k74 [] (fin Try.prog [(.tmp 4)] Φ) (tm0 args) H) : CallsA Try.prog 74 args H Φ :=
  CallsA.w k74 [(.tmp 4)] (fun _ => []) Try.func74 rfl rfl (by kernel_rfl) (by kernel_rfl) h

/-- impl.lexOne -/
def k36 : KC :=
  (.seq
   (.ops [⟨some 4, none, (.alloc 54)⟩,
     ⟨some 5, none, (.assign (.const (.int .i64 0)))⟩,
     ⟨some 6, none, (.assign (.const (.int .i64 0)))⟩])
   (.seq
    (.ops [⟨some 9, none, (.move (.tmp 0))⟩,
      ⟨some 10, none, (.move (.tmp 1))⟩,
      ⟨some 11, none, (.index 9 (.tmp 9) (.tmp 10))⟩,
      ⟨some 7, none, (.assign (.tmp 11))⟩])
    (.seq
     (.ops [⟨some 12, none, (.build 54 #[])⟩,
       ⟨some 8, none, (.alloc 54)⟩,
       ⟨none, none, (.store 54 (.tmp 8) (.tmp 12))⟩])
     (.seq
      (.block 0
       (.seq
        (.ops [⟨some 16, none, (.move (.tmp 7))⟩,
          ⟨some 17, none, (.call ⟨(.value (.func 72)), #[(.tmp 16)], #[5]⟩)⟩,
          ⟨some 18, none, (.move (.tmp 17))⟩,
          ⟨some 19, (some (18, false)), (.move (.tmp 7))⟩,
          ⟨some 20, (some (18, false)), (.binOp .eql 5 (.tmp 19) (.const (.int .u8 95)) 5)⟩,
          ⟨some 21, none, (.pick (.tmp 18) (.const (.bool true)) (.tmp 20))⟩,
          ⟨some 15, none, (.assign (.tmp 21))⟩])
        (.cond (.tmp 15)
         (.seq
          (.ops [⟨some 22, none, (.move (.tmp 0))⟩,
            ⟨some 23, none, (.move (.tmp 1))⟩,
            ⟨some 24, none, (.call ⟨(.value (.func 73)), #[(.tmp 22), (.tmp 23)], #[9, 3]⟩)⟩,
            ⟨some 25, none, (.extract (.tmp 24) 0)⟩,
            ⟨some 26, none, (.extract (.tmp 24) 1)⟩,
            ⟨some 27, none, (.extract (.tmp 24) 2)⟩,
            ⟨none, none, (.store 54 (.tmp 4) (.tmp 25))⟩,
            ⟨some 5, none, (.assign (.tmp 26))⟩,
            ⟨some 6, none, (.assign (.tmp 27))⟩])
          .ret)
         (.seq
          (.ops [⟨some 29, none, (.move (.tmp 7))⟩,
            ⟨some 30, none, (.binOp .geq 5 (.tmp 29) (.const (.int .u8 65)) 5)⟩,
            ⟨some 31, none, (.move (.tmp 30))⟩,
            ⟨some 32, (some (31, true)), (.move (.tmp 7))⟩,
            ⟨some 33, (some (31, true)), (.binOp .leq 5 (.tmp 32) (.const (.int .u8 90)) 5)⟩,
            ⟨some 34, none, (.pick (.tmp 31) (.tmp 33) (.const (.bool false)))⟩,
            ⟨some 28, none, (.assign (.tmp 34))⟩])
          (.cond (.tmp 28)
           (.ops [⟨some 35, none, (.move (.tmp 7))⟩,
             ⟨some 36, none, (.binOp .sub 5 (.tmp 35) (.const (.int .u8 65)) 5)⟩,
             ⟨some 37, none, (.convert 5 3 (.tmp 36))⟩,
             ⟨some 38, none, (.build 54 #[(0, (.const (.int .i64 2))), (1, (.tmp 37))])⟩,
             ⟨none, none, (.store 54 (.tmp 8) (.tmp 38))⟩])
           (.seq
            (.ops [⟨some 40, none, (.move (.tmp 7))⟩,
              ⟨some 41, none, (.binOp .eql 5 (.tmp 40) (.const (.int .u8 40)) 5)⟩,
              ⟨some 39, none, (.assign (.tmp 41))⟩])
            (.cond (.tmp 39)
             (.ops [⟨some 42, none, (.fieldAddr 54 (.tmp 8) 0)⟩,
               ⟨none, none, (.store 3 (.tmp 42) (.const (.int .i64 4)))⟩])
             (.seq
              (.ops [⟨some 44, none, (.move (.tmp 7))⟩,
                ⟨some 45, none, (.binOp .eql 5 (.tmp 44) (.const (.int .u8 41)) 5)⟩,
                ⟨some 43, none, (.assign (.tmp 45))⟩])
              (.cond (.tmp 43)
               (.ops [⟨some 46, none, (.fieldAddr 54 (.tmp 8) 0)⟩,
                 ⟨none, none, (.store 3 (.tmp 46) (.const (.int .i64 5)))⟩])
               (.seq
                (.ops [⟨some 48, none, (.move (.tmp 7))⟩,
                  ⟨some 49, none, (.binOp .eql 5 (.tmp 48) (.const (.int .u8 58)) 5)⟩,
                  ⟨some 47, none, (.assign (.tmp 49))⟩])
                (.cond (.tmp 47)
                 (.ops [⟨some 50, none, (.fieldAddr 54 (.tmp 8) 0)⟩,
                   ⟨none, none, (.store 3 (.tmp 50) (.const (.int .i64 6)))⟩])
                 (.seq
                  (.ops [⟨some 52, none, (.move (.tmp 7))⟩,
                    ⟨some 53, none, (.convert 5 3 (.tmp 52))⟩,
                    ⟨some 54, none, (.call ⟨(.value (.func 74)), #[(.const (.string ⟨#[43, 45, 42, 37, 124, 38, 94, 61, 60, 62, 126, 105, 35, 44, 116, 100, 114, 122, 64, 63, 103, 36, 101, 47, 92, 46, 111]⟩)), (.tmp 53)], #[9, 3]⟩)⟩,
                    ⟨some 51, none, (.assign (.tmp 54))⟩])
                  (.cond (.tmp 51)
                   (.ops [⟨some 55, none, (.move (.tmp 7))⟩,
                     ⟨some 56, none, (.convert 5 3 (.tmp 55))⟩,
                     ⟨some 57, none, (.build 54 #[(0, (.const (.int .i64 3))), (1, (.tmp 56))])⟩,
                     ⟨none, none, (.store 54 (.tmp 8) (.tmp 57))⟩])
                   (.seq
                    (.ops [⟨some 13, none, (.build 54 #[])⟩,
                      ⟨some 14, none, (.move (.tmp 1))⟩,
                      ⟨none, none, (.store 54 (.tmp 4) (.tmp 13))⟩,
                      ⟨some 5, none, (.assign (.tmp 14))⟩,
                      ⟨some 6, none, (.assign (.const (.int .i64 8)))⟩])
                    .ret))))))))))))))
      (.seq
       (.ops [⟨some 58, none, (.load 54 (.tmp 8))⟩,
         ⟨some 59, none, (.move (.tmp 1))⟩,
         ⟨some 60, none, (.binOp .add 3 (.tmp 59) (.const (.int .i64 1)) 3)⟩,
         ⟨none, none, (.store 54 (.tmp 4) (.tmp 58))⟩,
         ⟨some 5, none, (.assign (.tmp 60))⟩,
         ⟨some 6, none, (.assign (.const (.int .i64 0)))⟩])
       .ret)))))
theorem w36 {args : Array Value} {H : AH} {Φ : Value → AH → Prop} (h : rW Try.prog k36 [] (fin Try.prog [(.cell 4 54), (.tmp 5), (.tmp 6)] Φ) (tm0 args) H) : CallsA Try.prog 36 args H Φ :=
  CallsA.w k36 [(.cell 4 54), (.tmp 5), (.tmp 6)] (fun _ => []) Try.func36 rfl rfl (by kernel_rfl) (by kernel_rfl) h

/-- impl.Lex -/
def k9 : KC :=
  (.seq
   (.ops [⟨some 2, none, (.assign (.const (.slice none 0 0)))⟩,
     ⟨some 3, none, (.assign (.const (.int .i64 0)))⟩,
     ⟨some 4, none, (.assign (.const (.int .i64 0)))⟩])
   (.seq
    (.seq
     (.ops [⟨some 10, none, (.move (.tmp 0))⟩,
       ⟨some 11, none, (.call ⟨(.builtin .len), #[(.tmp 10)], #[9]⟩)⟩,
       ⟨some 12, none, (.binOp .gtr 3 (.tmp 11) (.const (.int .i64 300)) 3)⟩])
     (.cond (.tmp 12)
      (.seq
       (.ops [⟨some 2, none, (.assign (.const (.slice none 0 0)))⟩,
         ⟨some 3, none, (.assign (.const (.int .i64 6)))⟩,
         ⟨some 4, none, (.assign (.const (.int .i64 0)))⟩])
       .ret)
      .skip))
    (.seq
     (.ops [⟨some 5, none, (.assign (.const (.slice none 0 0)))⟩])
     (.seq
      (.seq
       (.ops [⟨some 6, none, (.assign (.const (.int .i64 0)))⟩])
       (.block 0
        (.loop
         (.seq
          (.seq
           (.ops [⟨some 13, none, (.move (.tmp 6))⟩,
             ⟨some 14, none, (.move (.tmp 0))⟩,
             ⟨some 15, none, (.call ⟨(.builtin .len), #[(.tmp 14)], #[9]⟩)⟩,
             ⟨some 16, none, (.binOp .lss 3 (.tmp 13) (.tmp 15) 3)⟩])
           (.cond (.tmp 16)
            .skip
            (.exit 0)))
          (.block 1
           (.seq
            (.seq
             (.ops [⟨some 17, none, (.move (.tmp 0))⟩,
               ⟨some 18, none, (.move (.tmp 6))⟩,
               ⟨some 19, none, (.index 9 (.tmp 17) (.tmp 18))⟩,
               ⟨some 20, none, (.binOp .eql 5 (.tmp 19) (.const (.int .u8 32)) 5)⟩])
             (.cond (.tmp 20)
              (.seq
               (.ops [⟨some 21, none, (.move (.tmp 6))⟩,
                 ⟨some 22, none, (.binOp .add 3 (.tmp 21) (.const (.int .i64 1)) 3)⟩,
                 ⟨some 6, none, (.assign (.tmp 22))⟩])
               (.exit 1))
              .skip))
            (.seq
             (.ops [⟨some 24, none, (.move (.tmp 0))⟩,
               ⟨some 25, none, (.move (.tmp 6))⟩,
               ⟨some 26, none, (.call ⟨(.value (.func 36)), #[(.tmp 24), (.tmp 25)], #[9, 3]⟩)⟩,
               ⟨some 23, none, (.move (.tmp 26))⟩,
               ⟨some 27, none, (.extract (.tmp 23) 0)⟩,
               ⟨some 28, none, (.extract (.tmp 23) 1)⟩,
               ⟨some 29, none, (.extract (.tmp 23) 2)⟩,
               ⟨some 7, none, (.alloc 54)⟩,
               ⟨none, none, (.store 54 (.tmp 7) (.tmp 27))⟩,
               ⟨some 8, none, (.assign (.tmp 28))⟩,
               ⟨some 9, none, (.assign (.tmp 29))⟩])
             (.seq
              (.seq
               (.ops [⟨some 30, none, (.move (.tmp 9))⟩,
                 ⟨some 31, none, (.binOp .neq 3 (.tmp 30) (.const (.int .i64 0)) 3)⟩])
               (.cond (.tmp 31)
                (.seq
                 (.ops [⟨some 32, none, (.move (.tmp 9))⟩,
                   ⟨some 33, none, (.move (.tmp 6))⟩,
                   ⟨some 2, none, (.assign (.const (.slice none 0 0)))⟩,
                   ⟨some 3, none, (.assign (.tmp 32))⟩,
                   ⟨some 4, none, (.assign (.tmp 33))⟩])
                 .ret)
                .skip))
              (.seq
               (.ops [⟨some 34, none, (.move (.tmp 5))⟩,
                 ⟨some 35, none, (.load 54 (.tmp 7))⟩,
                 ⟨some 36, none, (.buildSlice 25 1 #[(0, (.tmp 35))])⟩,
                 ⟨some 37, none, (.call ⟨(.builtin .append), #[(.tmp 34), (.tmp 36)], #[25, 25]⟩)⟩,
                 ⟨some 5, none, (.assign (.tmp 37))⟩])
               (.ops [⟨some 38, none, (.move (.tmp 8))⟩,
                 ⟨some 6, none, (.assign (.tmp 38))⟩]))))))))))
      (.seq
       (.ops [⟨some 39, none, (.move (.tmp 5))⟩,
         ⟨some 40, none, (.move (.tmp 0))⟩,
         ⟨some 41, none, (.call ⟨(.builtin .len), #[(.tmp 40)], #[9]⟩)⟩,
         ⟨some 2, none, (.assign (.tmp 39))⟩,
         ⟨some 3, none, (.assign (.const (.int .i64 0)))⟩,
         ⟨some 4, none, (.assign (.tmp 41))⟩])
       .ret)))))
theorem w9 {args : Array Value} {H : AH} {Φ : Value → AH → Prop} (h : rW Try.prog k9 [] (fin Try.prog [(.tmp 2), (.tmp 3), (.tmp 4)] Φ) (tm0 args) H) : CallsA Try.prog 9 args H Φ :=
  CallsA.w k9 [(.tmp 2), (.tmp 3), (.tmp 4)] (fun _ => []) Try.func9 rfl rfl (by kernel_rfl) (by kernel_rfl) h

/-- spec.l8Digit -/
def k37 : KC :=
  (.seq
   (.ops [⟨some 4, none, (.assign (.const (.bool false)))⟩])
   (.seq
    (.ops [⟨some 5, none, (.move (.tmp 1))⟩,
      ⟨some 6, none, (.move (.tmp 0))⟩,
      ⟨some 7, none, (.call ⟨(.builtin .len), #[(.tmp 6)], #[9]⟩)⟩,
      ⟨some 8, none, (.binOp .lss 3 (.tmp 5) (.tmp 7) 3)⟩,
      ⟨some 9, none, (.move (.tmp 8))⟩,
      ⟨some 10, (some (9, true)), (.move (.tmp 0))⟩,
      ⟨some 11, (some (9, true)), (.move (.tmp 1))⟩,
      ⟨some 12, (some (9, true)), (.index 9 (.tmp 10) (.tmp 11))⟩,
      ⟨some 13, (some (9, true)), (.binOp .geq 5 (.tmp 12) (.const (.int .u8 48)) 5)⟩,
      ⟨some 14, none, (.pick (.tmp 9) (.tmp 13) (.const (.bool false)))⟩,
      ⟨some 15, none, (.move (.tmp 14))⟩,
      ⟨some 16, (some (15, true)), (.move (.tmp 0))⟩,
      ⟨some 17, (some (15, true)), (.move (.tmp 1))⟩,
      ⟨some 18, (some (15, true)), (.index 9 (.tmp 16) (.tmp 17))⟩,
      ⟨some 19, (some (15, true)), (.binOp .leq 5 (.tmp 18) (.const (.int .u8 57)) 5)⟩,
      ⟨some 20, none, (.pick (.tmp 15) (.tmp 19) (.const (.bool false)))⟩,
      ⟨some 4, none, (.assign (.tmp 20))⟩])
    .ret))
theorem w37 {args : Array Value} {H : AH} {Φ : Value → AH → Prop} (h : rW Try.prog k37 [] (fin Try.prog [(.tmp 4)] Φ) (tm0 args) H) : CallsA Try.prog 37 args H Φ :=
  CallsA.w k37 [(.tmp 4)] (fun _ => []) Try.func37 rfl rfl (by kernel_rfl) (by kernel_rfl) h

/-- spec.l1In -/
def k39 : KC :=
  (.seq
   (.ops [⟨some 6, none, (.assign (.const (.bool false)))⟩])
   (.seq
    (.ops [⟨some 7, none, (.move (.tmp 0))⟩,
      ⟨some 8, none, (.move (.tmp 1))⟩,
      ⟨some 9, none, (.binOp .geq 3 (.tmp 7) (.tmp 8) 3)⟩,
      ⟨some 10, none, (.move (.tmp 9))⟩,
      ⟨some 11, (some (10, true)), (.move (.tmp 0))⟩,
      ⟨some 12, (some (10, true)), (.move (.tmp 2))⟩,
      ⟨some 13, (some (10, true)), (.binOp .leq 3 (.tmp 11) (.tmp 12) 3)⟩,
      ⟨some 14, none, (.pick (.tmp 10) (.tmp 13) (.const (.bool false)))⟩,
      ⟨some 6, none, (.assign (.tmp 14))⟩])
    .ret))
theorem w39 {args : Array Value} {H : AH} {Φ : Value → AH → Prop} (h : rW Try.prog k39 [] (fin Try.prog [(.tmp 6)] Φ) (tm0 args) H) : CallsA Try.prog 39 args H Φ :=
  CallsA.w k39 [(.tmp 6)] (fun _ => []) Try.func39 rfl rfl (by kernel_rfl) (by kernel_rfl) h

/-- spec.NumOk -/
def k76 : KC :=
  (.seq
   (.ops [⟨some 2, none, (.assign (.const (.bool false)))⟩])
   (.seq
    (.ops [⟨some 3, none, (.move (.tmp 0))⟩,
      ⟨some 4, none, (.call ⟨(.value (.func 39)), #[(.tmp 3), (.const (.int .i64 (-1000000000000))), (.const (.int .i64 1000000000000))], #[3, 3, 3]⟩)⟩,
      ⟨some 2, none, (.assign (.tmp 4))⟩])
    .ret))
theorem w76 {args : Array Value} {H : AH} {Φ : Value → AH → Prop} (h : rW Try.prog k76 [] (fin Try.prog [(.tmp 2)] Φ) (tm0 args) H) : CallsA Try.prog 76 args H Φ :=
  CallsA.w k76 [(.tmp 2)] (fun _ => []) Try.func76 rfl rfl (by kernel_rfl) (by kernel_rfl) h

/-- spec.l8Num -/
def k38 : KC :=
  (.seq
   (.ops [⟨some 4, none, (.assign (.const (.int .i64 0)))⟩,
     ⟨some 5, none, (.assign (.const (.int .i64 0)))⟩,
     ⟨some 6, none, (.assign (.const (.int .i64 0)))⟩])
   (.seq
    (.ops [⟨some 9, none, (.move (.tmp 0))⟩,
      ⟨some 10, none, (.move (.tmp 1))⟩,
      ⟨some 11, none, (.index 9 (.tmp 9) (.tmp 10))⟩,
      ⟨some 12, none, (.binOp .eql 5 (.tmp 11) (.const (.int .u8 95)) 5)⟩,
      ⟨some 7, none, (.assign (.tmp 12))⟩])
    (.seq
     (.seq
      (.ops [⟨some 13, none, (.move (.tmp 7))⟩])
      (.cond (.tmp 13)
       (.ops [⟨some 14, none, (.move (.tmp 1))⟩,
         ⟨some 15, none, (.binOp .add 3 (.tmp 14) (.const (.int .i64 1)) 3)⟩,
         ⟨some 1, none, (.assign (.tmp 15))⟩])
       .skip))
     (.seq
      (.seq
       (.ops [⟨some 16, none, (.move (.tmp 0))⟩,
         ⟨some 17, none, (.move (.tmp 1))⟩,
         ⟨some 18, none, (.call ⟨(.value (.func 37)), #[(.tmp 16), (.tmp 17)], #[9, 3]⟩)⟩,
         ⟨some 19, none, (.unOp .not 4 (.tmp 18))⟩])
       (.cond (.tmp 19)
        (.seq
         (.ops [⟨some 20, none, (.move (.tmp 1))⟩,
           ⟨some 4, none, (.assign (.const (.int .i64 0)))⟩,
           ⟨some 5, none, (.assign (.tmp 20))⟩,
           ⟨some 6, none, (.assign (.const (.int .i64 8)))⟩])
         .ret)
        .skip))
      (.seq
       (.ops [⟨some 8, none, (.assign (.const (.int .i64 0)))⟩])
       (.seq
        (.block 0
         (.loop
          (.seq
           (.seq
            (.ops [⟨some 21, none, (.move (.tmp 0))⟩,
              ⟨some 22, none, (.move (.tmp 1))⟩,
              ⟨some 23, none, (.call ⟨(.value (.func 37)), #[(.tmp 21), (.tmp 22)], #[9, 3]⟩)⟩])
            (.cond (.tmp 23)
             .skip
             (.exit 0)))
           (.block 1
            (.seq
             (.ops [⟨some 24, none, (.move (.tmp 8))⟩,
               ⟨some 25, none, (.binOp .mul 3 (.const (.int .i64 10)) (.tmp 24) 3)⟩,
               ⟨some 26, none, (.move (.tmp 0))⟩,
               ⟨some 27, none, (.move (.tmp 1))⟩,
               ⟨some 28, none, (.index 9 (.tmp 26) (.tmp 27))⟩,
               ⟨some 29, none, (.convert 5 3 (.tmp 28))⟩,
               ⟨some 30, none, (.binOp .add 3 (.tmp 25) (.tmp 29) 3)⟩,
               ⟨some 31, none, (.binOp .sub 3 (.tmp 30) (.const (.int .i64 48)) 3)⟩,
               ⟨some 32, none, (.call ⟨(.value (.func 75)), #[(.tmp 31), (.const (.int .i64 1000000000001))], #[3, 3]⟩)⟩,
               ⟨some 8, none, (.assign (.tmp 32))⟩])
             (.ops [⟨some 33, none, (.move (.tmp 1))⟩,
               ⟨some 34, none, (.binOp .add 3 (.tmp 33) (.const (.int .i64 1)) 3)⟩,
               ⟨some 1, none, (.assign (.tmp 34))⟩]))))))
        (.seq
         (.seq
          (.ops [⟨some 35, none, (.move (.tmp 8))⟩,
            ⟨some 36, none, (.call ⟨(.value (.func 76)), #[(.tmp 35)], #[3]⟩)⟩,
            ⟨some 37, none, (.unOp .not 4 (.tmp 36))⟩])
          (.cond (.tmp 37)
           (.seq
            (.ops [⟨some 38, none, (.move (.tmp 1))⟩,
              ⟨some 4, none, (.assign (.const (.int .i64 0)))⟩,
              ⟨some 5, none, (.assign (.tmp 38))⟩,
              ⟨some 6, none, (.assign (.const (.int .i64 6)))⟩])
            .ret)
           .skip))
         (.seq
          (.seq
           (.ops [⟨some 39, none, (.move (.tmp 7))⟩])
           (.cond (.tmp 39)
            (.ops [⟨some 40, none, (.move (.tmp 8))⟩,
              ⟨some 41, none, (.binOp .sub 3 (.const (.int .i64 0)) (.tmp 40) 3)⟩,
              ⟨some 8, none, (.assign (.tmp 41))⟩])
            .skip))
          (.seq
           (.ops [⟨some 42, none, (.move (.tmp 8))⟩,
             ⟨some 43, none, (.move (.tmp 1))⟩,
             ⟨some 4, none, (.assign (.tmp 42))⟩,
             ⟨some 5, none, (.assign (.tmp 43))⟩,
             ⟨some 6, none, (.assign (.const (.int .i64 0)))⟩])
           .ret)))))))))
theorem w38 {args : Array Value} {H : AH} {Φ : Value → AH → Prop} (h : rW Try.prog k38 [] (fin Try.prog [(.tmp 4), (.tmp 5), (.tmp 6)] Φ) (tm0 args) H) : CallsA Try.prog 38 args H Φ :=
  CallsA.w k38 [(.tmp 4), (.tmp 5), (.tmp 6)] (fun _ => []) Try.func38 rfl rfl (by kernel_rfl) (by kernel_rfl) h

/-- spec.l8Sign -/
def k40 : KC :=
  (.seq
   (.ops [⟨some 2, none, (.assign (.const (.bool false)))⟩])
   (.seq
    (.ops [⟨some 3, none, (.assign (.const (.string ⟨#[43, 45, 42, 37, 124, 38, 94, 61, 60, 62, 126, 105, 35, 44, 116, 100, 114, 122, 64, 63, 103, 36, 101, 47, 92, 46, 111]⟩)))⟩])
    (.seq
     (.seq
      (.ops [⟨some 4, none, (.assign (.const (.int .i64 0)))⟩])
      (.block 0
       (.loop
        (.seq
         (.seq
          (.ops [⟨some 5, none, (.move (.tmp 4))⟩,
            ⟨some 6, none, (.move (.tmp 3))⟩,
            ⟨some 7, none, (.call ⟨(.builtin .len), #[(.tmp 6)], #[9]⟩)⟩,
            ⟨some 8, none, (.binOp .lss 3 (.tmp 5) (.tmp 7) 3)⟩])
          (.cond (.tmp 8)
           .skip
           (.exit 0)))
         (.seq
          (.block 1
           (.seq
            (.ops [⟨some 11, none, (.move (.tmp 3))⟩,
              ⟨some 12, none, (.move (.tmp 4))⟩,
              ⟨some 13, none, (.index 9 (.tmp 11) (.tmp 12))⟩,
              ⟨some 14, none, (.convert 5 3 (.tmp 13))⟩,
              ⟨some 15, none, (.move (.tmp 0))⟩,
              ⟨some 16, none, (.binOp .eql 3 (.tmp 14) (.tmp 15) 3)⟩])
            (.cond (.tmp 16)
             (.seq
              (.ops [⟨some 2, none, (.assign (.const (.bool true)))⟩])
              .ret)
             .skip)))
          (.ops [⟨some 9, none, (.move (.tmp 4))⟩,
            ⟨some 10, none, (.binOp .add 3 (.tmp 9) (.const (.int .i64 1)) 3)⟩,
            ⟨some 4, none, (.assign (.tmp 10))⟩]))))))
     (.seq
      (.ops [⟨some 2, none, (.assign (.const (.bool false)))⟩])
      .ret))))
theorem w40 {args : Array Value} {H : AH} {Φ : Value → AH → Prop} (h : rW Try.prog k40 [] (fin Try.prog [(.tmp 2)] Φ) (tm0 args) H) : CallsA Try.prog 40 args H Φ :=
  CallsA.w k40 [(.tmp 2)] (fun _ => []) Try.func40 rfl rfl (by kernel_rfl) (by kernel_rfl) h

/-- spec.Lex -/
def k10 : KC :=
  (.seq
   (.ops [⟨some 2, none, (.assign (.const (.slice none 0 0)))⟩,
     ⟨some 3, none, (.assign (.const (.int .i64 0)))⟩,
     ⟨some 4, none, (.assign (.const (.int .i64 0)))⟩])
   (.seq
    (.ops [⟨some 13, none, (.buildSlice 25 0 #[])⟩,
      ⟨some 5, none, (.assign (.tmp 13))⟩])
    (.seq
     (.seq
      (.ops [⟨some 14, none, (.move (.tmp 0))⟩,
        ⟨some 15, none, (.call ⟨(.builtin .len), #[(.tmp 14)], #[9]⟩)⟩,
        ⟨some 16, none, (.binOp .gtr 3 (.tmp 15) (.const (.int .i64 300)) 3)⟩])
      (.cond (.tmp 16)
       (.seq
        (.ops [⟨some 17, none, (.move (.tmp 5))⟩,
          ⟨some 2, none, (.assign (.tmp 17))⟩,
          ⟨some 3, none, (.assign (.const (.int .i64 6)))⟩,
          ⟨some 4, none, (.assign (.const (.int .i64 0)))⟩])
        .ret)
       .skip))
     (.seq
      (.ops [⟨some 6, none, (.assign (.const (.int .i64 0)))⟩])
      (.seq
       (.block 0
        (.loop
         (.seq
          (.seq
           (.ops [⟨some 18, none, (.move (.tmp 6))⟩,
             ⟨some 19, none, (.move (.tmp 0))⟩,
             ⟨some 20, none, (.call ⟨(.builtin .len), #[(.tmp 19)], #[9]⟩)⟩,
             ⟨some 21, none, (.binOp .lss 3 (.tmp 18) (.tmp 20) 3)⟩])
           (.cond (.tmp 21)
            .skip
            (.exit 0)))
          (.block 1
           (.seq
            (.ops [⟨some 22, none, (.move (.tmp 0))⟩,
              ⟨some 23, none, (.move (.tmp 6))⟩,
              ⟨some 24, none, (.index 9 (.tmp 22) (.tmp 23))⟩,
              ⟨some 25, none, (.convert 5 3 (.tmp 24))⟩,
              ⟨some 7, none, (.assign (.tmp 25))⟩])
            (.seq
             (.ops [⟨some 26, none, (.build 54 #[])⟩,
               ⟨some 8, none, (.alloc 54)⟩,
               ⟨none, none, (.store 54 (.tmp 8) (.tmp 26))⟩])
             (.seq
              (.ops [⟨some 27, none, (.move (.tmp 6))⟩,
                ⟨some 28, none, (.binOp .add 3 (.tmp 27) (.const (.int .i64 1)) 3)⟩,
                ⟨some 9, none, (.assign (.tmp 28))⟩])
              (.seq
               (.block 2
                (.seq
                 (.ops [⟨some 32, none, (.move (.tmp 7))⟩,
                   ⟨some 33, none, (.binOp .eql 3 (.tmp 32) (.const (.int .i64 32)) 3)⟩,
                   ⟨some 31, none, (.assign (.tmp 33))⟩])
                 (.cond (.tmp 31)
                  (.seq
                   (.ops [⟨some 34, none, (.move (.tmp 6))⟩,
                     ⟨some 35, none, (.binOp .add 3 (.tmp 34) (.const (.int .i64 1)) 3)⟩,
                     ⟨some 6, none, (.assign (.tmp 35))⟩])
                   (.exit 1))
                  (.seq
                   (.ops [⟨some 37, none, (.move (.tmp 0))⟩,
                     ⟨some 38, none, (.move (.tmp 6))⟩,
                     ⟨some 39, none, (.call ⟨(.value (.func 37)), #[(.tmp 37), (.tmp 38)], #[9, 3]⟩)⟩,
                     ⟨some 40, none, (.move (.tmp 39))⟩,
                     ⟨some 41, (some (40, false)), (.move (.tmp 7))⟩,
                     ⟨some 42, (some (40, false)), (.binOp .eql 3 (.tmp 41) (.const (.int .i64 95)) 3)⟩,
                     ⟨some 43, none, (.pick (.tmp 40) (.const (.bool true)) (.tmp 42))⟩,
                     ⟨some 36, none, (.assign (.tmp 43))⟩])
                   (.cond (.tmp 36)
                    (.seq
                     (.ops [⟨some 45, none, (.move (.tmp 0))⟩,
                       ⟨some 46, none, (.move (.tmp 6))⟩,
                       ⟨some 47, none, (.call ⟨(.value (.func 38)), #[(.tmp 45), (.tmp 46)], #[9, 3]⟩)⟩,
                       ⟨some 44, none, (.move (.tmp 47))⟩,
                       ⟨some 48, none, (.extract (.tmp 44) 0)⟩,
                       ⟨some 49, none, (.extract (.tmp 44) 1)⟩,
                       ⟨some 50, none, (.extract (.tmp 44) 2)⟩,
                       ⟨some 10, none, (.assign (.tmp 48))⟩,
                       ⟨some 11, none, (.assign (.tmp 49))⟩,
                       ⟨some 12, none, (.assign (.tmp 50))⟩])
                     (.seq
                      (.seq
                       (.ops [⟨some 51, none, (.move (.tmp 12))⟩,
                         ⟨some 52, none, (.binOp .neq 3 (.tmp 51) (.const (.int .i64 0)) 3)⟩])
                       (.cond (.tmp 52)
                        (.seq
                         (.ops [⟨some 53, none, (.buildSlice 25 0 #[])⟩,
                           ⟨some 54, none, (.move (.tmp 12))⟩,
                           ⟨some 55, none, (.move (.tmp 6))⟩,
                           ⟨some 2, none, (.assign (.tmp 53))⟩,
                           ⟨some 3, none, (.assign (.tmp 54))⟩,
                           ⟨some 4, none, (.assign (.tmp 55))⟩])
                         .ret)
                        .skip))
                      (.seq
                       (.ops [⟨some 56, none, (.move (.tmp 10))⟩,
                         ⟨some 57, none, (.build 54 #[(0, (.const (.int .i64 1))), (1, (.tmp 56))])⟩,
                         ⟨none, none, (.store 54 (.tmp 8) (.tmp 57))⟩])
                       (.ops [⟨some 58, none, (.move (.tmp 11))⟩,
                         ⟨some 9, none, (.assign (.tmp 58))⟩]))))
                    (.seq
                     (.ops [⟨some 60, none, (.move (.tmp 7))⟩,
                       ⟨some 61, none, (.call ⟨(.value (.func 39)), #[(.tmp 60), (.const (.int .i64 65)), (.const (.int .i64 90))], #[3, 3, 3]⟩)⟩,
                       ⟨some 59, none, (.assign (.tmp 61))⟩])
                     (.cond (.tmp 59)
                      (.ops [⟨some 62, none, (.move (.tmp 7))⟩,
                        ⟨some 63, none, (.binOp .sub 3 (.tmp 62) (.const (.int .i64 65)) 3)⟩,
                        ⟨some 64, none, (.build 54 #[(0, (.const (.int .i64 2))), (1, (.tmp 63))])⟩,
                        ⟨none, none, (.store 54 (.tmp 8) (.tmp 64))⟩])
                      (.seq
                       (.ops [⟨some 66, none, (.move (.tmp 7))⟩,
                         ⟨some 67, none, (.binOp .eql 3 (.tmp 66) (.const (.int .i64 40)) 3)⟩,
                         ⟨some 65, none, (.assign (.tmp 67))⟩])
                       (.cond (.tmp 65)
                        (.ops [⟨some 68, none, (.fieldAddr 54 (.tmp 8) 0)⟩,
                          ⟨none, none, (.store 3 (.tmp 68) (.const (.int .i64 4)))⟩])
                        (.seq
                         (.ops [⟨some 70, none, (.move (.tmp 7))⟩,
                           ⟨some 71, none, (.binOp .eql 3 (.tmp 70) (.const (.int .i64 41)) 3)⟩,
                           ⟨some 69, none, (.assign (.tmp 71))⟩])
                         (.cond (.tmp 69)
                          (.ops [⟨some 72, none, (.fieldAddr 54 (.tmp 8) 0)⟩,
                            ⟨none, none, (.store 3 (.tmp 72) (.const (.int .i64 5)))⟩])
                          (.seq
                           (.ops [⟨some 74, none, (.move (.tmp 7))⟩,
                             ⟨some 75, none, (.binOp .eql 3 (.tmp 74) (.const (.int .i64 58)) 3)⟩,
                             ⟨some 73, none, (.assign (.tmp 75))⟩])
                           (.cond (.tmp 73)
                            (.ops [⟨some 76, none, (.fieldAddr 54 (.tmp 8) 0)⟩,
                              ⟨none, none, (.store 3 (.tmp 76) (.const (.int .i64 6)))⟩])
                            (.seq
                             (.ops [⟨some 78, none, (.move (.tmp 7))⟩,
                               ⟨some 79, none, (.call ⟨(.value (.func 40)), #[(.tmp 78)], #[3]⟩)⟩,
                               ⟨some 77, none, (.assign (.tmp 79))⟩])
                             (.cond (.tmp 77)
                              (.ops [⟨some 80, none, (.move (.tmp 7))⟩,
                                ⟨some 81, none, (.build 54 #[(0, (.const (.int .i64 3))), (1, (.tmp 80))])⟩,
                                ⟨none, none, (.store 54 (.tmp 8) (.tmp 81))⟩])
                              (.seq
                               (.ops [⟨some 29, none, (.buildSlice 25 0 #[])⟩,
                                 ⟨some 30, none, (.move (.tmp 6))⟩,
                                 ⟨some 2, none, (.assign (.tmp 29))⟩,
                                 ⟨some 3, none, (.assign (.const (.int .i64 8)))⟩,
                                 ⟨some 4, none, (.assign (.tmp 30))⟩])
                               .ret))))))))))))))))
               (.seq
                (.ops [⟨some 82, none, (.move (.tmp 5))⟩,
                  ⟨some 83, none, (.load 54 (.tmp 8))⟩,
                  ⟨some 84, none, (.buildSlice 25 1 #[(0, (.tmp 83))])⟩,
                  ⟨some 85, none, (.call ⟨(.builtin .append), #[(.tmp 82), (.tmp 84)], #[25, 25]⟩)⟩,
                  ⟨some 5, none, (.assign (.tmp 85))⟩])
                (.ops [⟨some 86, none, (.move (.tmp 9))⟩,
                  ⟨some 6, none, (.assign (.tmp 86))⟩]))))))))))
       (.seq
        (.ops [⟨some 87, none, (.move (.tmp 5))⟩,
          ⟨some 88, none, (.move (.tmp 0))⟩,
          ⟨some 89, none, (.call ⟨(.builtin .len), #[(.tmp 88)], #[9]⟩)⟩,
          ⟨some 2, none, (.assign (.tmp 87))⟩,
          ⟨some 3, none, (.assign (.const (.int .i64 0)))⟩,
          ⟨some 4, none, (.assign (.tmp 89))⟩])
        .ret))))))
theorem w10 {args : Array Value} {H : AH} {Φ : Value → AH → Prop} (h : rW Try.prog k10 [] (fin Try.prog [(.tmp 2), (.tmp 3), (.tmp 4)] Φ) (tm0 args) H) : CallsA Try.prog 10 args H Φ :=
  CallsA.w k10 [(.tmp 2), (.tmp 3), (.tmp 4)] (fun _ => []) Try.func10 rfl rfl (by kernel_rfl) (by kernel_rfl) h

/-- laws.sameTokens -/
def k11 : KC :=
  (.seq
   (.ops [⟨some 4, none, (.assign (.const (.bool false)))⟩])
   (.seq
    (.seq
     (.ops [⟨some 6, none, (.move (.tmp 0))⟩,
       ⟨some 7, none, (.call ⟨(.builtin .len), #[(.tmp 6)], #[25]⟩)⟩,
       ⟨some 8, none, (.move (.tmp 1))⟩,
       ⟨some 9, none, (.call ⟨(.builtin .len), #[(.tmp 8)], #[25]⟩)⟩,
       ⟨some 10, none, (.binOp .neq 3 (.tmp 7) (.tmp 9) 3)⟩])
     (.cond (.tmp 10)
      (.seq
       (.ops [⟨some 4, none, (.assign (.const (.bool false)))⟩])
       .ret)
      .skip))
    (.seq
     (.seq
      (.ops [⟨some 5, none, (.assign (.const (.int .i64 0)))⟩])
      (.block 0
       (.loop
        (.seq
         (.seq
          (.ops [⟨some 11, none, (.move (.tmp 5))⟩,
            ⟨some 12, none, (.move (.tmp 0))⟩,
            ⟨some 13, none, (.call ⟨(.builtin .len), #[(.tmp 12)], #[25]⟩)⟩,
            ⟨some 14, none, (.binOp .lss 3 (.tmp 11) (.tmp 13) 3)⟩])
          (.cond (.tmp 14)
           .skip
           (.exit 0)))
         (.seq
          (.block 1
           (.seq
            (.ops [⟨some 17, none, (.move (.tmp 0))⟩,
              ⟨some 18, none, (.move (.tmp 5))⟩,
              ⟨some 19, none, (.indexAddr 25 (.tmp 17) (.tmp 18))⟩,
              ⟨some 20, none, (.load 54 (.tmp 19))⟩,
              ⟨some 21, none, (.move (.tmp 1))⟩,
              ⟨some 22, none, (.move (.tmp 5))⟩,
              ⟨some 23, none, (.indexAddr 25 (.tmp 21) (.tmp 22))⟩,
              ⟨some 24, none, (.load 54 (.tmp 23))⟩,
              ⟨some 25, none, (.binOp .neq 54 (.tmp 20) (.tmp 24) 54)⟩])
            (.cond (.tmp 25)
             (.seq
              (.ops [⟨some 4, none, (.assign (.const (.bool false)))⟩])
              .ret)
             .skip)))
          (.ops [⟨some 15, none, (.move (.tmp 5))⟩,
            ⟨some 16, none, (.binOp .add 3 (.tmp 15) (.const (.int .i64 1)) 3)⟩,
            ⟨some 5, none, (.assign (.tmp 16))⟩]))))))
     (.seq
      (.ops [⟨some 4, none, (.assign (.const (.bool true)))⟩])
      .ret))))
theorem w11 {args : Array Value} {H : AH} {Φ : Value → AH → Prop} (h : rW Try.prog k11 [] (fin Try.prog [(.tmp 4)] Φ) (tm0 args) H) : CallsA Try.prog 11 args H Φ :=
  CallsA.w k11 [(.tmp 4)] (fun i => if i = 6 then [(3, 0), (7, 0)] else []) Try.func11 rfl rfl (by kernel_rfl) (by kernel_rfl) h

/-- laws.FnSpaces -/
def k3 : KC :=
  (.seq
   (.ops [⟨some 2, none, (.assign (.const (.bool false)))⟩])
   (.seq
    (.seq
     (.ops [⟨some 13, none, (.move (.tmp 0))⟩,
       ⟨some 14, none, (.call ⟨(.value (.func 7)), #[(.tmp 13)], #[22]⟩)⟩])
     (.cond (.tmp 14)
      (.seq
       (.ops [⟨some 2, none, (.assign (.const (.bool true)))⟩])
       .ret)
      .skip))
    (.seq
     (.ops [⟨some 15, none, (.move (.tmp 0))⟩,
       ⟨some 16, none, (.call ⟨(.value (.func 8)), #[(.tmp 15)], #[22]⟩)⟩,
       ⟨some 3, none, (.assign (.tmp 16))⟩])
     (.seq
      (.ops [⟨some 18, none, (.move (.tmp 3))⟩,
        ⟨some 19, none, (.call ⟨(.value (.func 9)), #[(.tmp 18)], #[9]⟩)⟩,
        ⟨some 17, none, (.move (.tmp 19))⟩,
        ⟨some 20, none, (.extract (.tmp 17) 0)⟩,
        ⟨some 21, none, (.extract (.tmp 17) 1)⟩,
        ⟨some 22, none, (.extract (.tmp 17) 2)⟩,
        ⟨some 4, none, (.assign (.tmp 20))⟩,
        ⟨some 5, none, (.assign (.tmp 21))⟩,
        ⟨some 6, none, (.assign (.tmp 22))⟩])
      (.seq
       (.ops [⟨some 24, none, (.move (.tmp 3))⟩,
         ⟨some 25, none, (.call ⟨(.value (.func 10)), #[(.tmp 24)], #[9]⟩)⟩,
         ⟨some 23, none, (.move (.tmp 25))⟩,
         ⟨some 26, none, (.extract (.tmp 23) 0)⟩,
         ⟨some 27, none, (.extract (.tmp 23) 1)⟩,
         ⟨some 28, none, (.extract (.tmp 23) 2)⟩,
         ⟨some 7, none, (.assign (.tmp 26))⟩,
         ⟨some 8, none, (.assign (.tmp 27))⟩,
         ⟨some 9, none, (.assign (.tmp 28))⟩])
       (.seq
        (.seq
         (.ops [⟨some 29, none, (.move (.tmp 5))⟩,
           ⟨some 30, none, (.move (.tmp 8))⟩,
           ⟨some 31, none, (.binOp .neq 3 (.tmp 29) (.tmp 30) 3)⟩,
           ⟨some 32, none, (.move (.tmp 31))⟩,
           ⟨some 33, (some (32, false)), (.move (.tmp 6))⟩,
           ⟨some 34, (some (32, false)), (.move (.tmp 9))⟩,
           ⟨some 35, (some (32, false)), (.binOp .neq 3 (.tmp 33) (.tmp 34) 3)⟩,
           ⟨some 36, none, (.pick (.tmp 32) (.const (.bool true)) (.tmp 35))⟩])
         (.cond (.tmp 36)
          (.seq
           (.ops [⟨some 2, none, (.assign (.const (.bool false)))⟩])
           .ret)
          .skip))
        (.seq
         (.seq
          (.ops [⟨some 37, none, (.move (.tmp 5))⟩,
            ⟨some 38, none, (.binOp .neq 3 (.tmp 37) (.const (.int .i64 0)) 3)⟩,
            ⟨some 39, none, (.move (.tmp 38))⟩,
            ⟨some 40, (some (39, false)), (.move (.tmp 3))⟩,
            ⟨some 41, (some (39, false)), (.call ⟨(.builtin .len), #[(.tmp 40)], #[9]⟩)⟩,
            ⟨some 42, (some (39, false)), (.binOp .gtr 3 (.tmp 41) (.const (.int .i64 296)) 3)⟩,
            ⟨some 43, none, (.pick (.tmp 39) (.const (.bool true)) (.tmp 42))⟩])
          (.cond (.tmp 43)
           (.seq
            (.ops [⟨some 44, none, (.move (.tmp 5))⟩,
              ⟨some 45, none, (.binOp .eql 3 (.tmp 44) (.const (.int .i64 0)) 3)⟩,
              ⟨some 46, none, (.move (.tmp 45))⟩,
              ⟨some 47, (some (46, false)), (.move (.tmp 4))⟩,
              ⟨some 48, (some (46, false)), (.call ⟨(.builtin .len), #[(.tmp 47)], #[25]⟩)⟩,
              ⟨some 49, (some (46, false)), (.binOp .eql 3 (.tmp 48) (.const (.int .i64 0)) 3)⟩,
              ⟨some 50, none, (.pick (.tmp 46) (.const (.bool true)) (.tmp 49))⟩,
              ⟨some 2, none, (.assign (.tmp 50))⟩])
            .ret)
           .skip))
         (.seq
          (.ops [⟨some 52, none, (.move (.tmp 3))⟩,
            ⟨some 53, none, (.binOp .add 9 (.const (.string ⟨#[32, 32]⟩)) (.tmp 52) 9)⟩,
            ⟨some 54, none, (.binOp .add 9 (.tmp 53) (.const (.string ⟨#[32, 32]⟩)) 9)⟩,
            ⟨some 55, none, (.call ⟨(.value (.func 9)), #[(.tmp 54)], #[9]⟩)⟩,
            ⟨some 51, none, (.move (.tmp 55))⟩,
            ⟨some 56, none, (.extract (.tmp 51) 0)⟩,
            ⟨some 57, none, (.extract (.tmp 51) 1)⟩,
            ⟨some 58, none, (.extract (.tmp 51) 2)⟩,
            ⟨some 10, none, (.assign (.tmp 56))⟩,
            ⟨some 11, none, (.assign (.tmp 57))⟩,
            ⟨some 12, none, (.assign (.tmp 58))⟩])
          (.seq
           (.ops [⟨some 59, none, (.move (.tmp 11))⟩,
             ⟨some 60, none, (.binOp .eql 3 (.tmp 59) (.const (.int .i64 0)) 3)⟩,
             ⟨some 61, none, (.move (.tmp 60))⟩,
             ⟨some 62, (some (61, true)), (.move (.tmp 12))⟩,
             ⟨some 63, (some (61, true)), (.move (.tmp 3))⟩,
             ⟨some 64, (some (61, true)), (.call ⟨(.builtin .len), #[(.tmp 63)], #[9]⟩)⟩,
             ⟨some 65, (some (61, true)), (.binOp .add 3 (.tmp 64) (.const (.int .i64 4)) 3)⟩,
             ⟨some 66, (some (61, true)), (.binOp .eql 3 (.tmp 62) (.tmp 65) 3)⟩,
             ⟨some 67, none, (.pick (.tmp 61) (.tmp 66) (.const (.bool false)))⟩,
             ⟨some 68, none, (.move (.tmp 67))⟩,
             ⟨some 69, (some (68, true)), (.move (.tmp 4))⟩,
             ⟨some 70, (some (68, true)), (.move (.tmp 10))⟩,
             ⟨some 71, (some (68, true)), (.call ⟨(.value (.func 11)), #[(.tmp 69), (.tmp 70)], #[25, 25]⟩)⟩,
             ⟨some 72, none, (.pick (.tmp 68) (.tmp 71) (.const (.bool false)))⟩,
             ⟨some 2, none, (.assign (.tmp 72))⟩])
           .ret)))))))))
theorem w3 {args : Array Value} {H : AH} {Φ : Value → AH → Prop} (h : rW Try.prog k3 [] (fin Try.prog [(.tmp 2)] Φ) (tm0 args) H) : CallsA Try.prog 3 args H Φ :=
  CallsA.w k3 [(.tmp 2)] (fun _ => []) Try.func3 rfl rfl (by kernel_rfl) (by kernel_rfl) h

end Go.Proofs.Ytdagncfnkenbfaa.AM
