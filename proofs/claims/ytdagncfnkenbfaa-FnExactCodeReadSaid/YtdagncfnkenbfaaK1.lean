/- The code of the functions that the laws reach, made short; and facts on the types that they use. -/
import Derived.Test.YtdagncfnkenbfaaA8
import Derived.KernelRfl
import Derived.Test.YtdagncfnkenbfaaRows
set_option linter.unusedVariables false
set_option linter.unusedSimpArgs false
set_option linter.defProp false
set_option maxRecDepth 100000
/- The code of the functions that the laws reach, made short; and facts on the types that they use. -/
namespace Go.Proofs.Ytdagncfnkenbfaa.AM
open Go Go.Proofs.Ytdagncfnkenbfaa Go.Proofs

theorem al63 {ev : Operand → Value} : aMake Try.prog ev (.alloc 63) = some ([.int .i64 0, .int .i64 0, .int .i64 0], none) := by kernel_rfl
theorem al66 {ev : Operand → Value} : aMake Try.prog ev (.alloc 66) = some ([.int .i64 0, .int .i64 0, .int .i64 0, .int .i64 0, .int .i64 0, .slice none 0 0], none) := by kernel_rfl
theorem ap22_22 {a a' : Option Addr} {n c n' c' : Nat} {H : AH} : aAppend Try.prog #[22, 22] #[.slice a n c, .slice a' n' c'] H = app 1 (.slice a n c) (.slice a' n' c') H := append_eq (z := .int .u8 0) (e := 5) (e' := 5) (by kernel_rfl) (by kernel_rfl) (by kernel_rfl) (by kernel_rfl) (by kernel_rfl) (by kernel_rfl)
theorem ap29_29 {a a' : Option Addr} {n c n' c' : Nat} {H : AH} : aAppend Try.prog #[29, 29] #[.slice a n c, .slice a' n' c'] H = app 6 (.slice a n c) (.slice a' n' c') H := append_eq (z := .agg #[.int .i64 0, .int .i64 0, .int .i64 0, .int .i64 0, .int .i64 0, .slice none 0 0]) (e := 66) (e' := 66) (by kernel_rfl) (by kernel_rfl) (by kernel_rfl) (by kernel_rfl) (by kernel_rfl) (by kernel_rfl)
theorem ap64_64 {a a' : Option Addr} {n c n' c' : Nat} {H : AH} : aAppend Try.prog #[64, 64] #[.slice a n c, .slice a' n' c'] H = app 1 (.slice a n c) (.slice a' n' c') H := append_eq (z := .int .i64 0) (e := 3) (e' := 3) (by kernel_rfl) (by kernel_rfl) (by kernel_rfl) (by kernel_rfl) (by kernel_rfl) (by kernel_rfl)
theorem bd63 {ps : Array (Nat × Value)} : aBuild Try.prog 63 ps = (fillP [(0, 1), (1, 1), (2, 1)] [.int .i64 0, .int .i64 0, .int .i64 0] ps.toList).map fun cs => .agg cs.toArray := build_eq (z := .agg #[.int .i64 0, .int .i64 0, .int .i64 0]) Try.underlying63 (by kernel_rfl) (by kernel_rfl) (by kernel_rfl) rfl
theorem bd66 {ps : Array (Nat × Value)} : aBuild Try.prog 66 ps = (fillP [(0, 1), (1, 1), (2, 3), (5, 1)] [.int .i64 0, .int .i64 0, .int .i64 0, .int .i64 0, .int .i64 0, .slice none 0 0] ps.toList).map fun cs => .agg cs.toArray := build_eq (z := .agg #[.int .i64 0, .int .i64 0, .int .i64 0, .int .i64 0, .int .i64 0, .slice none 0 0]) Try.underlying66 (by kernel_rfl) (by kernel_rfl) (by kernel_rfl) rfl
theorem bd71 {ps : Array (Nat × Value)} : aBuild Try.prog 71 ps = (fillP [(0, 1), (1, 1)] [.slice none 0 0, .bool false] ps.toList).map fun cs => .agg cs.toArray := build_eq (z := .agg #[.slice none 0 0, .bool false]) Try.underlying71 (by kernel_rfl) (by kernel_rfl) (by kernel_rfl) rfl
theorem bs22_0 {ev : Operand → Value} : aMake Try.prog ev (.buildSlice 22 0 #[]) = (fillP [] [] []).map fun cs => (cs, some (0, 1)) := bslice_eq (z := .int .u8 0) (e := 5) (by kernel_rfl) (by kernel_rfl) (by kernel_rfl) (by decide) (by kernel_rfl) (by kernel_rfl) rfl rfl
theorem bs22_1 {ev : Operand → Value} {x0 : Operand} : aMake Try.prog ev (.buildSlice 22 1 #[(0, x0)]) = (fillP [(0, 1)] [.int .u8 0] [(0, ev x0)]).map fun cs => (cs, some (1, 1)) := bslice_eq (z := .int .u8 0) (e := 5) (by kernel_rfl) (by kernel_rfl) (by kernel_rfl) (by decide) (by kernel_rfl) (by kernel_rfl) rfl rfl
theorem bs22_2 {ev : Operand → Value} {x0 x1 : Operand} : aMake Try.prog ev (.buildSlice 22 2 #[(0, x0), (1, x1)]) = (fillP [(0, 1), (1, 1)] [.int .u8 0, .int .u8 0] [(0, ev x0), (1, ev x1)]).map fun cs => (cs, some (2, 1)) := bslice_eq (z := .int .u8 0) (e := 5) (by kernel_rfl) (by kernel_rfl) (by kernel_rfl) (by decide) (by kernel_rfl) (by kernel_rfl) rfl rfl
theorem bs22_5 {ev : Operand → Value} {x0 x1 x2 x3 x4 : Operand} : aMake Try.prog ev (.buildSlice 22 5 #[(0, x0), (1, x1), (2, x2), (3, x3), (4, x4)]) = (fillP [(0, 1), (1, 1), (2, 1), (3, 1), (4, 1)] [.int .u8 0, .int .u8 0, .int .u8 0, .int .u8 0, .int .u8 0] [(0, ev x0), (1, ev x1), (2, ev x2), (3, ev x3), (4, ev x4)]).map fun cs => (cs, some (5, 1)) := bslice_eq (z := .int .u8 0) (e := 5) (by kernel_rfl) (by kernel_rfl) (by kernel_rfl) (by decide) (by kernel_rfl) (by kernel_rfl) rfl rfl
theorem bs29_0 {ev : Operand → Value} : aMake Try.prog ev (.buildSlice 29 0 #[]) = (fillP [] [] []).map fun cs => (cs, some (0, 6)) := bslice_eq (z := .agg #[.int .i64 0, .int .i64 0, .int .i64 0, .int .i64 0, .int .i64 0, .slice none 0 0]) (e := 66) (by kernel_rfl) (by kernel_rfl) (by kernel_rfl) (by decide) (by kernel_rfl) (by kernel_rfl) rfl rfl
theorem bs29_1 {ev : Operand → Value} {x0 : Operand} : aMake Try.prog ev (.buildSlice 29 1 #[(0, x0)]) = (fillP [(0, 6)] [.int .i64 0, .int .i64 0, .int .i64 0, .int .i64 0, .int .i64 0, .slice none 0 0] [(0, ev x0)]).map fun cs => (cs, some (1, 6)) := bslice_eq (z := .agg #[.int .i64 0, .int .i64 0, .int .i64 0, .int .i64 0, .int .i64 0, .slice none 0 0]) (e := 66) (by kernel_rfl) (by kernel_rfl) (by kernel_rfl) (by decide) (by kernel_rfl) (by kernel_rfl) rfl rfl
theorem bs64_1 {ev : Operand → Value} {x0 : Operand} : aMake Try.prog ev (.buildSlice 64 1 #[(0, x0)]) = (fillP [(0, 1)] [.int .i64 0] [(0, ev x0)]).map fun cs => (cs, some (1, 1)) := bslice_eq (z := .int .i64 0) (e := 3) (by kernel_rfl) (by kernel_rfl) (by kernel_rfl) (by decide) (by kernel_rfl) (by kernel_rfl) rfl rfl
theorem cv3_5 {k : IntKind} {n : Int} {G : Hp} : aConv Try.prog 3 5 (.int k n) G = some (.int .u8 (IntKind.u8.wrap n)) := conv_int (e := .int .i64) (by kernel_rfl) (by kernel_rfl)
theorem cv3_101 {k : IntKind} {n : Int} {G : Hp} : aConv Try.prog 3 101 (.int k n) G = some (.int .u64 (IntKind.u64.wrap n)) := conv_int (e := .int .i64) (by kernel_rfl) (by kernel_rfl)
theorem cv5_3 {k : IntKind} {n : Int} {G : Hp} : aConv Try.prog 5 3 (.int k n) G = some (.int .i64 (IntKind.i64.wrap n)) := conv_int (e := .int .u8) (by kernel_rfl) (by kernel_rfl)
theorem cv101_3 {k : IntKind} {n : Int} {G : Hp} : aConv Try.prog 101 3 (.int k n) G = some (.int .i64 (IntKind.i64.wrap n)) := conv_int (e := .int .u64) (by kernel_rfl) (by kernel_rfl)
theorem ef63 {a0 b0 a1 b1 a2 b2 : Int} {x y : Operand} : aBin Try.prog .eql 63 x y (.agg #[.int .i64 a0, .int .i64 a1, .int .i64 a2]) (.agg #[.int .i64 b0, .int .i64 b1, .int .i64 b2]) = some (.bool (a0 == b0 && (a1 == b1 && (a2 == b2 && true)))) := by
  refine bin_eql_agg Try.underlying63 (by kernel_rfl) (by kernel_rfl) (by simp [scal1]) ?_
  rw [eqF_cons (k := .i64) (k' := .i64) (a := a0) (b := b0) (by decide) (by kernel_rfl) (by kernel_rfl) (by kernel_rfl)]
  rw [eqF_cons (k := .i64) (k' := .i64) (a := a1) (b := b1) (by decide) (by kernel_rfl) (by kernel_rfl) (by kernel_rfl)]
  rw [eqF_cons (k := .i64) (k' := .i64) (a := a2) (b := b2) (by decide) (by kernel_rfl) (by kernel_rfl) (by kernel_rfl)]
  simp only [ite_and, eqF_nil]
theorem eg63 {a0 b0 a1 b1 a2 b2 : Int} {x y : Operand} : aBin Try.prog .neq 63 x y (.agg #[.int .i64 a0, .int .i64 a1, .int .i64 a2]) (.agg #[.int .i64 b0, .int .i64 b1, .int .i64 b2]) = some (.bool (!(a0 == b0 && (a1 == b1 && (a2 == b2 && true))))) := by
  refine bin_neq_agg Try.underlying63 (by kernel_rfl) (by kernel_rfl) (by simp [scal1]) ?_
  rw [eqF_cons (k := .i64) (k' := .i64) (a := a0) (b := b0) (by decide) (by kernel_rfl) (by kernel_rfl) (by kernel_rfl)]
  rw [eqF_cons (k := .i64) (k' := .i64) (a := a1) (b := b1) (by decide) (by kernel_rfl) (by kernel_rfl) (by kernel_rfl)]
  rw [eqF_cons (k := .i64) (k' := .i64) (a := a2) (b := b2) (by decide) (by kernel_rfl) (by kernel_rfl) (by kernel_rfl)]
  simp only [ite_and, eqF_nil]
theorem fa63_0 {b o : Nat} : aFieldAddr Try.prog 63 (.pointer (some ⟨b, o, none⟩)) 0 = some (.pointer (some ⟨b, o + 0, none⟩)) := by kernel_rfl
theorem fa63_1 {b o : Nat} : aFieldAddr Try.prog 63 (.pointer (some ⟨b, o, none⟩)) 1 = some (.pointer (some ⟨b, o + 1, none⟩)) := by kernel_rfl
theorem fa63_2 {b o : Nat} : aFieldAddr Try.prog 63 (.pointer (some ⟨b, o, none⟩)) 2 = some (.pointer (some ⟨b, o + 2, none⟩)) := by kernel_rfl
theorem fa66_0 {b o : Nat} : aFieldAddr Try.prog 66 (.pointer (some ⟨b, o, none⟩)) 0 = some (.pointer (some ⟨b, o + 0, none⟩)) := by kernel_rfl
theorem fa66_1 {b o : Nat} : aFieldAddr Try.prog 66 (.pointer (some ⟨b, o, none⟩)) 1 = some (.pointer (some ⟨b, o + 1, none⟩)) := by kernel_rfl
theorem fa66_2 {b o : Nat} : aFieldAddr Try.prog 66 (.pointer (some ⟨b, o, none⟩)) 2 = some (.pointer (some ⟨b, o + 2, none⟩)) := by kernel_rfl
theorem fa66_3 {b o : Nat} : aFieldAddr Try.prog 66 (.pointer (some ⟨b, o, none⟩)) 3 = some (.pointer (some ⟨b, o + 5, none⟩)) := by kernel_rfl
theorem fa71_0 {b o : Nat} : aFieldAddr Try.prog 71 (.pointer (some ⟨b, o, none⟩)) 0 = some (.pointer (some ⟨b, o + 0, none⟩)) := by kernel_rfl
theorem fa71_1 {b o : Nat} : aFieldAddr Try.prog 71 (.pointer (some ⟨b, o, none⟩)) 1 = some (.pointer (some ⟨b, o + 1, none⟩)) := by kernel_rfl
theorem ix22 {b o n c : Nat} {k : IntKind} {j : Int} : aIndexAddr Try.prog 22 (.slice (some ⟨b, o, none⟩) n c) (.int k j) = if 0 ≤ j ∧ j < n then some (.pointer (some ⟨b, o + j.toNat * 1, none⟩)) else none := by kernel_rfl
theorem ix29 {b o n c : Nat} {k : IntKind} {j : Int} : aIndexAddr Try.prog 29 (.slice (some ⟨b, o, none⟩) n c) (.int k j) = if 0 ≤ j ∧ j < n then some (.pointer (some ⟨b, o + j.toNat * 6, none⟩)) else none := by kernel_rfl
theorem ix64 {b o n c : Nat} {k : IntKind} {j : Int} : aIndexAddr Try.prog 64 (.slice (some ⟨b, o, none⟩) n c) (.int k j) = if 0 ≤ j ∧ j < n then some (.pointer (some ⟨b, o + j.toNat * 1, none⟩)) else none := by kernel_rfl
theorem us9 : Try.prog.underlying 9 = some .string := by kernel_rfl
theorem ld3 {o : Nat} {cs : List Value} : ld Try.prog 3 o cs = cs[o]? := ld_one (by kernel_rfl)
theorem ld4 {o : Nat} {cs : List Value} : ld Try.prog 4 o cs = cs[o]? := ld_one (by kernel_rfl)
theorem ld5 {o : Nat} {cs : List Value} : ld Try.prog 5 o cs = cs[o]? := ld_one (by kernel_rfl)
theorem ld22 {o : Nat} {cs : List Value} : ld Try.prog 22 o cs = cs[o]? := ld_one (by kernel_rfl)
theorem ld63 {o : Nat} {cs : List Value} : ld Try.prog 63 o cs = aggAt 3 o cs := ld_agg (by kernel_rfl) (by kernel_rfl)
theorem ld64 {o : Nat} {cs : List Value} : ld Try.prog 64 o cs = cs[o]? := ld_one (by kernel_rfl)
theorem ld66 {o : Nat} {cs : List Value} : ld Try.prog 66 o cs = aggAt 6 o cs := ld_agg (by kernel_rfl) (by kernel_rfl)
theorem ln9 {s : ByteArray} : aLen Try.prog #[9] #[.string s] = some (.int .i64 s.size) := by kernel_rfl
theorem ln22 {a : Option Addr} {n c : Nat} : aLen Try.prog #[22] #[.slice a n c] = some (.int .i64 n) := by kernel_rfl
theorem ln29 {a : Option Addr} {n c : Nat} : aLen Try.prog #[29] #[.slice a n c] = some (.int .i64 n) := by kernel_rfl
theorem ln64 {a : Option Addr} {n c : Nat} : aLen Try.prog #[64] #[.slice a n c] = some (.int .i64 n) := by kernel_rfl
theorem ms22 {k k' : IntKind} {n : Int} : mkS Try.prog 22 (.int k n) (.int k' n) = if 0 ≤ n ∧ n ≤ 1073741824 then some ((List.replicate n.toNat [.int .u8 0]).flatten, some (n.toNat, 1)) else none := mkS_eq (z := .int .u8 0) (e := 5) (by kernel_rfl) (by kernel_rfl) (by kernel_rfl) (by kernel_rfl) (by kernel_rfl) (by kernel_rfl) (by decide)
theorem sl22 {b o n : Nat} {lo hi : Option Value} : aSlice Try.prog 22 (.slice (some ⟨b, o, none⟩) n 1) lo hi = slc b o n 1 (optInt 0 lo) (optInt n hi) := slc_eq (e := 5) (by kernel_rfl) (by kernel_rfl)
theorem sn22 {n c : Nat} {lo hi : Option Value} : aSlice Try.prog 22 (.slice none n c) lo hi = slq n (optInt 0 lo) (optInt n hi) := sln_q (e := 5) (s := 1) (by kernel_rfl) (by kernel_rfl)
theorem st3 {b o : Nat} {v : Value} {H : AH} : aStore Try.prog 3 (.pointer (some ⟨b, o, none⟩)) v H = sto 1 b o v H (wrt H b) := store_eq (by kernel_rfl)
theorem st4 {b o : Nat} {v : Value} {H : AH} : aStore Try.prog 4 (.pointer (some ⟨b, o, none⟩)) v H = sto 1 b o v H (wrt H b) := store_eq (by kernel_rfl)
theorem st5 {b o : Nat} {v : Value} {H : AH} : aStore Try.prog 5 (.pointer (some ⟨b, o, none⟩)) v H = sto 1 b o v H (wrt H b) := store_eq (by kernel_rfl)
theorem st22 {b o : Nat} {v : Value} {H : AH} : aStore Try.prog 22 (.pointer (some ⟨b, o, none⟩)) v H = sto 1 b o v H (wrt H b) := store_eq (by kernel_rfl)
theorem st63 {b o : Nat} {v : Value} {H : AH} : aStore Try.prog 63 (.pointer (some ⟨b, o, none⟩)) v H = sto 3 b o v H (wrt H b) := store_eq (by kernel_rfl)
theorem st64 {b o : Nat} {v : Value} {H : AH} : aStore Try.prog 64 (.pointer (some ⟨b, o, none⟩)) v H = sto 1 b o v H (wrt H b) := store_eq (by kernel_rfl)
theorem st66 {b o : Nat} {v : Value} {H : AH} : aStore Try.prog 66 (.pointer (some ⟨b, o, none⟩)) v H = sto 6 b o v H (wrt H b) := store_eq (by kernel_rfl)
theorem ub4 : Try.prog.underlying 4 = some .bool := by kernel_rfl

/-- spec.l11Read -/
def k41 : KC :=
  (.seq
   (.ops [⟨some 4, none, (.alloc 66)⟩,
     ⟨some 5, none, (.assign (.const (.int .i64 0)))⟩])
   (.seq
    (.seq
     (.ops [⟨some 11, none, (.move (.tmp 0))⟩,
       ⟨some 12, none, (.call ⟨(.builtin .len), #[(.tmp 11)], #[22]⟩)⟩,
       ⟨some 13, none, (.move (.tmp 1))⟩,
       ⟨some 14, none, (.binOp .sub 3 (.tmp 12) (.tmp 13) 3)⟩,
       ⟨some 15, none, (.binOp .lss 3 (.tmp 14) (.const (.int .i64 5)) 3)⟩])
     (.cond (.tmp 15)
      (.seq
       (.ops [⟨some 16, none, (.build 66 #[])⟩,
         ⟨none, none, (.store 66 (.tmp 4) (.tmp 16))⟩,
         ⟨some 5, none, (.assign (.const (.int .i64 (-1))))⟩])
       .ret)
      .skip))
    (.seq
     (.draw #[] [(3, 0), (4, 0), (9, 0), (10, 0), (15, 0), (16, 0), (21, 0), (22, 0), (27, 0), (28, 0)]
       [⟨some 17, none, (.move (.tmp 0))⟩,
       ⟨some 18, none, (.move (.tmp 1))⟩,
       ⟨some 19, none, (.indexAddr 22 (.tmp 17) (.tmp 18))⟩,
       ⟨some 20, none, (.load 5 (.tmp 19))⟩,
       ⟨some 21, none, (.convert 5 3 (.tmp 20))⟩,
       ⟨some 22, none, (.move (.tmp 0))⟩,
       ⟨some 23, none, (.move (.tmp 1))⟩,
       ⟨some 24, none, (.binOp .add 3 (.tmp 23) (.const (.int .i64 1)) 3)⟩,
       ⟨some 25, none, (.indexAddr 22 (.tmp 22) (.tmp 24))⟩,
       ⟨some 26, none, (.load 5 (.tmp 25))⟩,
       ⟨some 27, none, (.convert 5 3 (.tmp 26))⟩,
       ⟨some 28, none, (.move (.tmp 0))⟩,
       ⟨some 29, none, (.move (.tmp 1))⟩,
       ⟨some 30, none, (.binOp .add 3 (.tmp 29) (.const (.int .i64 2)) 3)⟩,
       ⟨some 31, none, (.indexAddr 22 (.tmp 28) (.tmp 30))⟩,
       ⟨some 32, none, (.load 5 (.tmp 31))⟩,
       ⟨some 33, none, (.convert 5 3 (.tmp 32))⟩,
       ⟨some 34, none, (.move (.tmp 0))⟩,
       ⟨some 35, none, (.move (.tmp 1))⟩,
       ⟨some 36, none, (.binOp .add 3 (.tmp 35) (.const (.int .i64 3)) 3)⟩,
       ⟨some 37, none, (.indexAddr 22 (.tmp 34) (.tmp 36))⟩,
       ⟨some 38, none, (.load 5 (.tmp 37))⟩,
       ⟨some 39, none, (.convert 5 3 (.tmp 38))⟩,
       ⟨some 40, none, (.move (.tmp 0))⟩,
       ⟨some 41, none, (.move (.tmp 1))⟩,
       ⟨some 42, none, (.binOp .add 3 (.tmp 41) (.const (.int .i64 4)) 3)⟩,
       ⟨some 43, none, (.indexAddr 22 (.tmp 40) (.tmp 42))⟩,
       ⟨some 44, none, (.load 5 (.tmp 43))⟩,
       ⟨some 45, none, (.convert 5 3 (.tmp 44))⟩,
       ⟨some 46, none, (.build 63 #[(0, (.tmp 33)), (1, (.tmp 39)), (2, (.tmp 45))])⟩,
       ⟨some 47, none, (.build 66 #[(0, (.tmp 21)), (1, (.tmp 27)), (2, (.tmp 46))])⟩,
       ⟨some 6, none, (.alloc 66)⟩,
       ⟨none, none, (.store 66 (.tmp 6) (.tmp 47))⟩])
     (.seq
      (.ops [⟨some 48, none, (.move (.tmp 1))⟩,
        ⟨some 49, none, (.binOp .add 3 (.tmp 48) (.const (.int .i64 5)) 3)⟩,
        ⟨some 1, none, (.assign (.tmp 49))⟩])
      (.seq
       (.seq
        (.ops [⟨some 50, none, (.fieldAddr 66 (.tmp 6) 0)⟩,
          ⟨some 51, none, (.load 3 (.tmp 50))⟩,
          ⟨some 52, none, (.binOp .neq 3 (.tmp 51) (.const (.int .i64 1)) 3)⟩])
        (.cond (.tmp 52)
         (.seq
          (.ops [⟨some 53, none, (.load 66 (.tmp 6))⟩,
            ⟨some 54, none, (.move (.tmp 1))⟩,
            ⟨none, none, (.store 66 (.tmp 4) (.tmp 53))⟩,
            ⟨some 5, none, (.assign (.tmp 54))⟩])
          .ret)
         .skip))
       (.seq
        (.seq
         (.ops [⟨some 55, none, (.move (.tmp 0))⟩,
           ⟨some 56, none, (.call ⟨(.builtin .len), #[(.tmp 55)], #[22]⟩)⟩,
           ⟨some 57, none, (.move (.tmp 1))⟩,
           ⟨some 58, none, (.binOp .sub 3 (.tmp 56) (.tmp 57) 3)⟩,
           ⟨some 59, none, (.binOp .lss 3 (.tmp 58) (.const (.int .i64 2)) 3)⟩])
         (.cond (.tmp 59)
          (.seq
           (.ops [⟨some 60, none, (.build 66 #[])⟩,
             ⟨none, none, (.store 66 (.tmp 4) (.tmp 60))⟩,
             ⟨some 5, none, (.assign (.const (.int .i64 (-1))))⟩])
           .ret)
          .skip))
        (.seq
         (.ops [⟨some 61, none, (.move (.tmp 0))⟩,
           ⟨some 62, none, (.move (.tmp 1))⟩,
           ⟨some 63, none, (.indexAddr 22 (.tmp 61) (.tmp 62))⟩,
           ⟨some 64, none, (.load 5 (.tmp 63))⟩,
           ⟨some 65, none, (.convert 5 3 (.tmp 64))⟩,
           ⟨some 66, none, (.move (.tmp 0))⟩,
           ⟨some 67, none, (.move (.tmp 1))⟩,
           ⟨some 68, none, (.binOp .add 3 (.tmp 67) (.const (.int .i64 1)) 3)⟩,
           ⟨some 69, none, (.indexAddr 22 (.tmp 66) (.tmp 68))⟩,
           ⟨some 70, none, (.load 5 (.tmp 69))⟩,
           ⟨some 71, none, (.convert 5 3 (.tmp 70))⟩,
           ⟨some 72, none, (.binOp .mul 3 (.const (.int .i64 256)) (.tmp 71) 3)⟩,
           ⟨some 73, none, (.binOp .add 3 (.tmp 65) (.tmp 72) 3)⟩,
           ⟨some 7, none, (.assign (.tmp 73))⟩])
         (.seq
          (.ops [⟨some 74, none, (.move (.tmp 1))⟩,
            ⟨some 75, none, (.binOp .add 3 (.tmp 74) (.const (.int .i64 2)) 3)⟩,
            ⟨some 1, none, (.assign (.tmp 75))⟩])
          (.seq
           (.seq
            (.ops [⟨some 76, none, (.move (.tmp 0))⟩,
              ⟨some 77, none, (.call ⟨(.builtin .len), #[(.tmp 76)], #[22]⟩)⟩,
              ⟨some 78, none, (.move (.tmp 1))⟩,
              ⟨some 79, none, (.binOp .sub 3 (.tmp 77) (.tmp 78) 3)⟩,
              ⟨some 80, none, (.move (.tmp 7))⟩,
              ⟨some 81, none, (.binOp .mul 3 (.const (.int .i64 8)) (.tmp 80) 3)⟩,
              ⟨some 82, none, (.binOp .lss 3 (.tmp 79) (.tmp 81) 3)⟩])
            (.cond (.tmp 82)
             (.seq
              (.ops [⟨some 83, none, (.build 66 #[])⟩,
                ⟨none, none, (.store 66 (.tmp 4) (.tmp 83))⟩,
                ⟨some 5, none, (.assign (.const (.int .i64 (-1))))⟩])
              .ret)
             .skip))
           (.seq
            (.seq
             (.ops [⟨some 8, none, (.assign (.const (.int .i64 0)))⟩])
             (.block 0
              (.loop
               (.seq
                (.seq
                 (.ops [⟨some 84, none, (.move (.tmp 8))⟩,
                   ⟨some 85, none, (.move (.tmp 7))⟩,
                   ⟨some 86, none, (.binOp .lss 3 (.tmp 84) (.tmp 85) 3)⟩])
                 (.cond (.tmp 86)
                  .skip
                  (.exit 0)))
                (.seq
                 (.block 1
                  (.seq
                   (.ops [⟨some 9, none, (.assign (.const (.int .i64 0)))⟩])
                   (.seq
                    (.seq
                     (.ops [⟨some 10, none, (.assign (.const (.int .i64 7)))⟩])
                     (.block 2
                      (.loop
                       (.seq
                        (.seq
                         (.ops [⟨some 89, none, (.move (.tmp 10))⟩,
                           ⟨some 90, none, (.binOp .geq 3 (.tmp 89) (.const (.int .i64 0)) 3)⟩])
                         (.cond (.tmp 90)
                          .skip
                          (.exit 2)))
                        (.seq
                         (.block 3
                          (.ops [⟨some 93, none, (.move (.tmp 9))⟩,
                            ⟨some 94, none, (.binOp .shl 3 (.tmp 93) (.const (.int .u64 8)) 84)⟩,
                            ⟨some 95, none, (.move (.tmp 0))⟩,
                            ⟨some 96, none, (.move (.tmp 1))⟩,
                            ⟨some 97, none, (.move (.tmp 10))⟩,
                            ⟨some 98, none, (.binOp .add 3 (.tmp 96) (.tmp 97) 3)⟩,
                            ⟨some 99, none, (.indexAddr 22 (.tmp 95) (.tmp 98))⟩,
                            ⟨some 100, none, (.load 5 (.tmp 99))⟩,
                            ⟨some 101, none, (.convert 5 3 (.tmp 100))⟩,
                            ⟨some 102, none, (.binOp .or 3 (.tmp 94) (.tmp 101) 3)⟩,
                            ⟨some 9, none, (.assign (.tmp 102))⟩]))
                         (.ops [⟨some 91, none, (.move (.tmp 10))⟩,
                           ⟨some 92, none, (.binOp .sub 3 (.tmp 91) (.const (.int .i64 1)) 3)⟩,
                           ⟨some 10, none, (.assign (.tmp 92))⟩]))))))
                    (.seq
                     (.ops [⟨some 103, none, (.fieldAddr 66 (.tmp 6) 3)⟩,
                       ⟨some 104, none, (.load 64 (.tmp 103))⟩,
                       ⟨some 105, none, (.move (.tmp 9))⟩,
                       ⟨some 106, none, (.binOp .sub 3 (.tmp 105) (.const (.int .i64 1000000000000)) 3)⟩,
                       ⟨some 107, none, (.buildSlice 64 1 #[(0, (.tmp 106))])⟩,
                       ⟨some 108, none, (.call ⟨(.builtin .append), #[(.tmp 104), (.tmp 107)], #[64, 64]⟩)⟩,
                       ⟨some 109, none, (.fieldAddr 66 (.tmp 6) 3)⟩,
                       ⟨none, none, (.store 64 (.tmp 109) (.tmp 108))⟩])
                     (.ops [⟨some 110, none, (.move (.tmp 1))⟩,
                       ⟨some 111, none, (.binOp .add 3 (.tmp 110) (.const (.int .i64 8)) 3)⟩,
                       ⟨some 1, none, (.assign (.tmp 111))⟩])))))
                 (.ops [⟨some 87, none, (.move (.tmp 8))⟩,
                   ⟨some 88, none, (.binOp .add 3 (.tmp 87) (.const (.int .i64 1)) 3)⟩,
                   ⟨some 8, none, (.assign (.tmp 88))⟩]))))))
            (.seq
             (.ops [⟨some 112, none, (.load 66 (.tmp 6))⟩,
               ⟨some 113, none, (.move (.tmp 1))⟩,
               ⟨none, none, (.store 66 (.tmp 4) (.tmp 112))⟩,
               ⟨some 5, none, (.assign (.tmp 113))⟩])
             .ret)))))))))))
theorem w41 {args : Array Value} {H : AH} {Φ : Value → AH → Prop} (h : rW Try.prog k41 [] (fin Try.prog [(.cell 4 66), (.tmp 5)] Φ) (tm0 args) H) : CallsA Try.prog 41 args H Φ :=
  CallsA.w k41 [(.cell 4 66), (.tmp 5)] (fun i => if i = 3 then [(3, 0), (4, 0), (9, 0), (10, 0), (15, 0), (16, 0), (21, 0), (22, 0), (27, 0), (28, 0)] else if i = 9 then [(3, 0), (4, 0), (9, 0), (10, 0)] else []) Try.func41 rfl rfl (by kernel_rfl) (by kernel_rfl) h

/-- spec.l1In -/
def k39 : KC :=
  (.seq
   (.ops [⟨some 6, none, (.assign (.const (.bool false)))⟩])
   (.seq
    (.ops [⟨some 7, none, (.move (.tmp 0))⟩,
      ⟨some 8, none, (.move (.tmp 1))⟩,
      ⟨some 9, none, (.binOp .geq 3 (.tmp 7) (.tmp 8) 3)⟩,
      ⟨some 10, none, (.move (.tmp 9))⟩,
      ⟨some 11, (some (10, true)), (.move (.tmp 0))⟩,
      ⟨some 12, (some (10, true)), (.move (.tmp 2))⟩,
      ⟨some 13, (some (10, true)), (.binOp .leq 3 (.tmp 11) (.tmp 12) 3)⟩,
      ⟨some 14, none, (.pick (.tmp 10) (.tmp 13) (.const (.bool false)))⟩,
      ⟨some 6, none, (.assign (.tmp 14))⟩])
    .ret))
theorem w39 {args : Array Value} {H : AH} {Φ : Value → AH → Prop} (h : rW Try.prog k39 [] (fin Try.prog [(.tmp 6)] Φ) (tm0 args) H) : CallsA Try.prog 39 args H Φ :=
  CallsA.w k39 [(.tmp 6)] (fun _ => []) Try.func39 rfl rfl (by kernel_rfl) (by kernel_rfl) h

/-- spec.l11Takes -/
def k90 : KC :=
  (.seq
   (.ops [⟨some 1, none, (.box 66 (.tmp 0))⟩,
     ⟨some 2, none, (.assign (.const (.int .i64 0)))⟩,
     ⟨some 3, none, (.assign (.const (.int .i64 0)))⟩])
   (.seq
    (.seq
     (.ops [⟨some 4, none, (.fieldAddr 66 (.tmp 1) 0)⟩,
       ⟨some 5, none, (.load 3 (.tmp 4))⟩])
     (.block 0
      (.seq
       (.seq
        (.ops [⟨some 7, none, (.binOp .eql 3 (.tmp 5) (.const (.int .i64 1)) 3)⟩,
          ⟨some 6, none, (.assign (.tmp 7))⟩])
        (.cond (.tmp 6)
         .skip
         (.ops [⟨some 8, none, (.binOp .eql 3 (.tmp 5) (.const (.int .i64 2)) 3)⟩,
           ⟨some 6, none, (.assign (.tmp 8))⟩])))
       (.cond (.tmp 6)
        (.seq
         (.ops [⟨some 2, none, (.assign (.const (.int .i64 0)))⟩,
           ⟨some 3, none, (.assign (.const (.int .i64 1)))⟩])
         .ret)
        (.seq
         (.ops [⟨some 10, none, (.binOp .eql 3 (.tmp 5) (.const (.int .i64 5)) 3)⟩,
           ⟨some 9, none, (.assign (.tmp 10))⟩])
         (.cond (.tmp 9)
          (.seq
           (.ops [⟨some 2, none, (.assign (.const (.int .i64 2)))⟩,
             ⟨some 3, none, (.assign (.const (.int .i64 (-1))))⟩])
           .ret)
          .skip))))))
    (.seq
     (.ops [⟨some 2, none, (.assign (.const (.int .i64 1)))⟩,
       ⟨some 3, none, (.assign (.const (.int .i64 0)))⟩])
     .ret)))
theorem w90 {args : Array Value} {H : AH} {Φ : Value → AH → Prop} (h : rW Try.prog k90 [] (fin Try.prog [(.tmp 2), (.tmp 3)] Φ) (tm0 args) H) : CallsA Try.prog 90 args H Φ :=
  CallsA.w k90 [(.tmp 2), (.tmp 3)] (fun _ => []) Try.func90 rfl rfl (by kernel_rfl) (by kernel_rfl) h

/-- spec.l11Depths -/
def k63 : KC :=
  (.seq
   (.ops [⟨some 2, none, (.assign (.const (.slice none 0 0)))⟩,
     ⟨some 3, none, (.assign (.const (.bool false)))⟩])
   (.seq
    (.ops [⟨some 9, none, (.buildSlice 64 1 #[(0, (.const (.int .i64 0)))])⟩,
      ⟨some 4, none, (.assign (.tmp 9))⟩])
    (.seq
     (.ops [⟨some 5, none, (.assign (.const (.int .i64 0)))⟩])
     (.seq
      (.seq
       (.ops [⟨some 6, none, (.assign (.const (.int .i64 0)))⟩])
       (.block 0
        (.loop
         (.seq
          (.seq
           (.ops [⟨some 10, none, (.move (.tmp 6))⟩,
             ⟨some 11, none, (.move (.tmp 0))⟩,
             ⟨some 12, none, (.call ⟨(.builtin .len), #[(.tmp 11)], #[29]⟩)⟩,
             ⟨some 13, none, (.binOp .lss 3 (.tmp 10) (.tmp 12) 3)⟩])
           (.cond (.tmp 13)
            .skip
            (.exit 0)))
          (.seq
           (.block 1
            (.seq
             (.ops [⟨some 17, none, (.move (.tmp 0))⟩,
               ⟨some 18, none, (.move (.tmp 6))⟩,
               ⟨some 19, none, (.indexAddr 29 (.tmp 17) (.tmp 18))⟩,
               ⟨some 20, none, (.load 66 (.tmp 19))⟩,
               ⟨some 21, none, (.call ⟨(.value (.func 90)), #[(.tmp 20)], #[66]⟩)⟩,
               ⟨some 16, none, (.move (.tmp 21))⟩,
               ⟨some 22, none, (.extract (.tmp 16) 0)⟩,
               ⟨some 23, none, (.extract (.tmp 16) 1)⟩,
               ⟨some 7, none, (.assign (.tmp 22))⟩,
               ⟨some 8, none, (.assign (.tmp 23))⟩])
             (.seq
              (.seq
               (.ops [⟨some 24, none, (.move (.tmp 5))⟩,
                 ⟨some 25, none, (.move (.tmp 7))⟩,
                 ⟨some 26, none, (.binOp .lss 3 (.tmp 24) (.tmp 25) 3)⟩])
               (.cond (.tmp 26)
                (.seq
                 (.ops [⟨some 27, none, (.move (.tmp 4))⟩,
                   ⟨some 2, none, (.assign (.tmp 27))⟩,
                   ⟨some 3, none, (.assign (.const (.bool false)))⟩])
                 .ret)
                .skip))
              (.seq
               (.ops [⟨some 28, none, (.move (.tmp 5))⟩,
                 ⟨some 29, none, (.move (.tmp 8))⟩,
                 ⟨some 30, none, (.binOp .add 3 (.tmp 28) (.tmp 29) 3)⟩,
                 ⟨some 5, none, (.assign (.tmp 30))⟩])
               (.ops [⟨some 31, none, (.move (.tmp 4))⟩,
                 ⟨some 32, none, (.move (.tmp 5))⟩,
                 ⟨some 33, none, (.buildSlice 64 1 #[(0, (.tmp 32))])⟩,
                 ⟨some 34, none, (.call ⟨(.builtin .append), #[(.tmp 31), (.tmp 33)], #[64, 64]⟩)⟩,
                 ⟨some 4, none, (.assign (.tmp 34))⟩])))))
           (.ops [⟨some 14, none, (.move (.tmp 6))⟩,
             ⟨some 15, none, (.binOp .add 3 (.tmp 14) (.const (.int .i64 1)) 3)⟩,
             ⟨some 6, none, (.assign (.tmp 15))⟩]))))))
      (.seq
       (.ops [⟨some 35, none, (.move (.tmp 4))⟩,
         ⟨some 2, none, (.assign (.tmp 35))⟩,
         ⟨some 3, none, (.assign (.const (.bool true)))⟩])
       .ret)))))
theorem w63 {args : Array Value} {H : AH} {Φ : Value → AH → Prop} (h : rW Try.prog k63 [] (fin Try.prog [(.tmp 2), (.tmp 3)] Φ) (tm0 args) H) : CallsA Try.prog 63 args H Φ :=
  CallsA.w k63 [(.tmp 2), (.tmp 3)] (fun _ => []) Try.func63 rfl rfl (by kernel_rfl) (by kernel_rfl) h

/-- spec.NumOk -/
def k76 : KC :=
  (.seq
   (.ops [⟨some 2, none, (.assign (.const (.bool false)))⟩])
   (.seq
    (.ops [⟨some 3, none, (.move (.tmp 0))⟩,
      ⟨some 4, none, (.call ⟨(.value (.func 39)), #[(.tmp 3), (.const (.int .i64 (-1000000000000))), (.const (.int .i64 1000000000000))], #[3, 3, 3]⟩)⟩,
      ⟨some 2, none, (.assign (.tmp 4))⟩])
    .ret))
theorem w76 {args : Array Value} {H : AH} {Φ : Value → AH → Prop} (h : rW Try.prog k76 [] (fin Try.prog [(.tmp 2)] Φ) (tm0 args) H) : CallsA Try.prog 76 args H Φ :=
  CallsA.w k76 [(.tmp 2)] (fun _ => []) Try.func76 rfl rfl (by kernel_rfl) (by kernel_rfl) h

/-- spec.l9Nums -/
def k81 : KC :=
  (.seq
   (.ops [⟨some 2, none, (.assign (.const (.bool false)))⟩])
   (.seq
    (.seq
     (.ops [⟨some 3, none, (.assign (.const (.int .i64 0)))⟩])
     (.block 0
      (.loop
       (.seq
        (.seq
         (.ops [⟨some 4, none, (.move (.tmp 3))⟩,
           ⟨some 5, none, (.move (.tmp 0))⟩,
           ⟨some 6, none, (.call ⟨(.builtin .len), #[(.tmp 5)], #[64]⟩)⟩,
           ⟨some 7, none, (.binOp .lss 3 (.tmp 4) (.tmp 6) 3)⟩])
         (.cond (.tmp 7)
          .skip
          (.exit 0)))
        (.seq
         (.block 1
          (.seq
           (.ops [⟨some 10, none, (.move (.tmp 0))⟩,
             ⟨some 11, none, (.move (.tmp 3))⟩,
             ⟨some 12, none, (.indexAddr 64 (.tmp 10) (.tmp 11))⟩,
             ⟨some 13, none, (.load 3 (.tmp 12))⟩,
             ⟨some 14, none, (.call ⟨(.value (.func 76)), #[(.tmp 13)], #[3]⟩)⟩,
             ⟨some 15, none, (.unOp .not 4 (.tmp 14))⟩])
           (.cond (.tmp 15)
            (.seq
             (.ops [⟨some 2, none, (.assign (.const (.bool false)))⟩])
             .ret)
            .skip)))
         (.ops [⟨some 8, none, (.move (.tmp 3))⟩,
           ⟨some 9, none, (.binOp .add 3 (.tmp 8) (.const (.int .i64 1)) 3)⟩,
           ⟨some 3, none, (.assign (.tmp 9))⟩]))))))
    (.seq
     (.ops [⟨some 16, none, (.move (.tmp 0))⟩,
       ⟨some 17, none, (.call ⟨(.builtin .len), #[(.tmp 16)], #[64]⟩)⟩,
       ⟨some 18, none, (.call ⟨(.value (.func 39)), #[(.tmp 17), (.const (.int .i64 1)), (.const (.int .i64 300))], #[3, 3, 3]⟩)⟩,
       ⟨some 2, none, (.assign (.tmp 18))⟩])
     .ret)))
theorem w81 {args : Array Value} {H : AH} {Φ : Value → AH → Prop} (h : rW Try.prog k81 [] (fin Try.prog [(.tmp 2)] Φ) (tm0 args) H) : CallsA Try.prog 81 args H Φ :=
  CallsA.w k81 [(.tmp 2)] (fun _ => []) Try.func81 rfl rfl (by kernel_rfl) (by kernel_rfl) h

/-- spec.l1Sign2 -/
def k97 : KC :=
  (.seq
   (.ops [⟨some 2, none, (.assign (.const (.bool false)))⟩])
   (.seq
    (.ops [⟨some 3, none, (.move (.tmp 0))⟩,
      ⟨some 4, none, (.binOp .eql 3 (.tmp 3) (.const (.int .i64 43)) 3)⟩,
      ⟨some 5, none, (.move (.tmp 4))⟩,
      ⟨some 6, (some (5, false)), (.move (.tmp 0))⟩,
      ⟨some 7, (some (5, false)), (.binOp .eql 3 (.tmp 6) (.const (.int .i64 45)) 3)⟩,
      ⟨some 8, none, (.pick (.tmp 5) (.const (.bool true)) (.tmp 7))⟩,
      ⟨some 9, none, (.move (.tmp 8))⟩,
      ⟨some 10, (some (9, false)), (.move (.tmp 0))⟩,
      ⟨some 11, (some (9, false)), (.binOp .eql 3 (.tmp 10) (.const (.int .i64 42)) 3)⟩,
      ⟨some 12, none, (.pick (.tmp 9) (.const (.bool true)) (.tmp 11))⟩,
      ⟨some 13, none, (.move (.tmp 12))⟩,
      ⟨some 14, (some (13, false)), (.move (.tmp 0))⟩,
      ⟨some 15, (some (13, false)), (.binOp .eql 3 (.tmp 14) (.const (.int .i64 37)) 3)⟩,
      ⟨some 16, none, (.pick (.tmp 13) (.const (.bool true)) (.tmp 15))⟩,
      ⟨some 17, none, (.move (.tmp 16))⟩,
      ⟨some 18, (some (17, false)), (.move (.tmp 0))⟩,
      ⟨some 19, (some (17, false)), (.binOp .eql 3 (.tmp 18) (.const (.int .i64 124)) 3)⟩,
      ⟨some 20, none, (.pick (.tmp 17) (.const (.bool true)) (.tmp 19))⟩,
      ⟨some 21, none, (.move (.tmp 20))⟩,
      ⟨some 22, (some (21, false)), (.move (.tmp 0))⟩,
      ⟨some 23, (some (21, false)), (.binOp .eql 3 (.tmp 22) (.const (.int .i64 38)) 3)⟩,
      ⟨some 24, none, (.pick (.tmp 21) (.const (.bool true)) (.tmp 23))⟩,
      ⟨some 25, none, (.move (.tmp 24))⟩,
      ⟨some 26, (some (25, false)), (.move (.tmp 0))⟩,
      ⟨some 27, (some (25, false)), (.binOp .eql 3 (.tmp 26) (.const (.int .i64 94)) 3)⟩,
      ⟨some 28, none, (.pick (.tmp 25) (.const (.bool true)) (.tmp 27))⟩,
      ⟨some 29, none, (.move (.tmp 28))⟩,
      ⟨some 30, (some (29, false)), (.move (.tmp 0))⟩,
      ⟨some 31, (some (29, false)), (.binOp .eql 3 (.tmp 30) (.const (.int .i64 61)) 3)⟩,
      ⟨some 32, none, (.pick (.tmp 29) (.const (.bool true)) (.tmp 31))⟩,
      ⟨some 33, none, (.move (.tmp 32))⟩,
      ⟨some 34, (some (33, false)), (.move (.tmp 0))⟩,
      ⟨some 35, (some (33, false)), (.binOp .eql 3 (.tmp 34) (.const (.int .i64 60)) 3)⟩,
      ⟨some 36, none, (.pick (.tmp 33) (.const (.bool true)) (.tmp 35))⟩,
      ⟨some 37, none, (.move (.tmp 36))⟩,
      ⟨some 38, (some (37, false)), (.move (.tmp 0))⟩,
      ⟨some 39, (some (37, false)), (.binOp .eql 3 (.tmp 38) (.const (.int .i64 62)) 3)⟩,
      ⟨some 40, none, (.pick (.tmp 37) (.const (.bool true)) (.tmp 39))⟩,
      ⟨some 2, none, (.assign (.tmp 40))⟩])
    .ret))
theorem w97 {args : Array Value} {H : AH} {Φ : Value → AH → Prop} (h : rW Try.prog k97 [] (fin Try.prog [(.tmp 2)] Φ) (tm0 args) H) : CallsA Try.prog 97 args H Φ :=
  CallsA.w k97 [(.tmp 2)] (fun _ => []) Try.func97 rfl rfl (by kernel_rfl) (by kernel_rfl) h

/-- spec.l1Sign1 -/
def k98 : KC :=
  (.seq
   (.ops [⟨some 2, none, (.assign (.const (.bool false)))⟩])
   (.seq
    (.ops [⟨some 3, none, (.move (.tmp 0))⟩,
      ⟨some 4, none, (.binOp .eql 3 (.tmp 3) (.const (.int .i64 43)) 3)⟩,
      ⟨some 5, none, (.move (.tmp 4))⟩,
      ⟨some 6, (some (5, false)), (.move (.tmp 0))⟩,
      ⟨some 7, (some (5, false)), (.binOp .eql 3 (.tmp 6) (.const (.int .i64 45)) 3)⟩,
      ⟨some 8, none, (.pick (.tmp 5) (.const (.bool true)) (.tmp 7))⟩,
      ⟨some 9, none, (.move (.tmp 8))⟩,
      ⟨some 10, (some (9, false)), (.move (.tmp 0))⟩,
      ⟨some 11, (some (9, false)), (.binOp .eql 3 (.tmp 10) (.const (.int .i64 42)) 3)⟩,
      ⟨some 12, none, (.pick (.tmp 9) (.const (.bool true)) (.tmp 11))⟩,
      ⟨some 13, none, (.move (.tmp 12))⟩,
      ⟨some 14, (some (13, false)), (.move (.tmp 0))⟩,
      ⟨some 15, (some (13, false)), (.binOp .eql 3 (.tmp 14) (.const (.int .i64 124)) 3)⟩,
      ⟨some 16, none, (.pick (.tmp 13) (.const (.bool true)) (.tmp 15))⟩,
      ⟨some 17, none, (.move (.tmp 16))⟩,
      ⟨some 18, (some (17, false)), (.move (.tmp 0))⟩,
      ⟨some 19, (some (17, false)), (.binOp .eql 3 (.tmp 18) (.const (.int .i64 126)) 3)⟩,
      ⟨some 20, none, (.pick (.tmp 17) (.const (.bool true)) (.tmp 19))⟩,
      ⟨some 2, none, (.assign (.tmp 20))⟩])
    .ret))
theorem w98 {args : Array Value} {H : AH} {Φ : Value → AH → Prop} (h : rW Try.prog k98 [] (fin Try.prog [(.tmp 2)] Φ) (tm0 args) H) : CallsA Try.prog 98 args H Φ :=
  CallsA.w k98 [(.tmp 2)] (fun _ => []) Try.func98 rfl rfl (by kernel_rfl) (by kernel_rfl) h

/-- spec.FunOne -/
def k82 : KC :=
  (.seq
   (.ops [⟨some 1, none, (.box 63 (.tmp 0))⟩,
     ⟨some 2, none, (.assign (.const (.bool false)))⟩])
   (.seq
    (.block 0
     (.seq
      (.ops [⟨some 4, none, (.fieldAddr 63 (.tmp 1) 2)⟩,
        ⟨some 5, none, (.load 3 (.tmp 4))⟩,
        ⟨some 6, none, (.binOp .neq 3 (.tmp 5) (.const (.int .i64 0)) 3)⟩,
        ⟨some 3, none, (.assign (.tmp 6))⟩])
      (.cond (.tmp 3)
       (.seq
        (.ops [⟨some 2, none, (.assign (.const (.bool false)))⟩])
        .ret)
       (.seq
        (.ops [⟨some 8, none, (.fieldAddr 63 (.tmp 1) 1)⟩,
          ⟨some 9, none, (.load 3 (.tmp 8))⟩,
          ⟨some 10, none, (.binOp .eql 3 (.tmp 9) (.const (.int .i64 47)) 3)⟩,
          ⟨some 11, none, (.move (.tmp 10))⟩,
          ⟨some 12, (some (11, false)), (.fieldAddr 63 (.tmp 1) 1)⟩,
          ⟨some 13, (some (11, false)), (.load 3 (.tmp 12))⟩,
          ⟨some 14, (some (11, false)), (.binOp .eql 3 (.tmp 13) (.const (.int .i64 92)) 3)⟩,
          ⟨some 15, none, (.pick (.tmp 11) (.const (.bool true)) (.tmp 14))⟩,
          ⟨some 7, none, (.assign (.tmp 15))⟩])
        (.cond (.tmp 7)
         (.seq
          (.ops [⟨some 16, none, (.fieldAddr 63 (.tmp 1) 0)⟩,
            ⟨some 17, none, (.load 3 (.tmp 16))⟩,
            ⟨some 18, none, (.call ⟨(.value (.func 97)), #[(.tmp 17)], #[3]⟩)⟩,
            ⟨some 2, none, (.assign (.tmp 18))⟩])
          .ret)
         (.seq
          (.ops [⟨some 20, none, (.fieldAddr 63 (.tmp 1) 1)⟩,
            ⟨some 21, none, (.load 3 (.tmp 20))⟩,
            ⟨some 22, none, (.binOp .neq 3 (.tmp 21) (.const (.int .i64 0)) 3)⟩,
            ⟨some 19, none, (.assign (.tmp 22))⟩])
          (.cond (.tmp 19)
           (.seq
            (.ops [⟨some 2, none, (.assign (.const (.bool false)))⟩])
            .ret)
           .skip)))))))
    (.seq
     (.ops [⟨some 23, none, (.fieldAddr 63 (.tmp 1) 0)⟩,
       ⟨some 24, none, (.load 3 (.tmp 23))⟩,
       ⟨some 25, none, (.call ⟨(.value (.func 98)), #[(.tmp 24)], #[3]⟩)⟩,
       ⟨some 26, none, (.move (.tmp 25))⟩,
       ⟨some 27, (some (26, false)), (.fieldAddr 63 (.tmp 1) 0)⟩,
       ⟨some 28, (some (26, false)), (.load 3 (.tmp 27))⟩,
       ⟨some 29, (some (26, false)), (.binOp .eql 3 (.tmp 28) (.const (.int .i64 105)) 3)⟩,
       ⟨some 30, none, (.pick (.tmp 26) (.const (.bool true)) (.tmp 29))⟩,
       ⟨some 31, none, (.move (.tmp 30))⟩,
       ⟨some 32, (some (31, false)), (.fieldAddr 63 (.tmp 1) 0)⟩,
       ⟨some 33, (some (31, false)), (.load 3 (.tmp 32))⟩,
       ⟨some 34, (some (31, false)), (.binOp .eql 3 (.tmp 33) (.const (.int .i64 35)) 3)⟩,
       ⟨some 35, none, (.pick (.tmp 31) (.const (.bool true)) (.tmp 34))⟩,
       ⟨some 36, none, (.move (.tmp 35))⟩,
       ⟨some 37, (some (36, false)), (.fieldAddr 63 (.tmp 1) 0)⟩,
       ⟨some 38, (some (36, false)), (.load 3 (.tmp 37))⟩,
       ⟨some 39, (some (36, false)), (.binOp .eql 3 (.tmp 38) (.const (.int .i64 44)) 3)⟩,
       ⟨some 40, none, (.pick (.tmp 36) (.const (.bool true)) (.tmp 39))⟩,
       ⟨some 41, none, (.move (.tmp 40))⟩,
       ⟨some 42, (some (41, false)), (.fieldAddr 63 (.tmp 1) 0)⟩,
       ⟨some 43, (some (41, false)), (.load 3 (.tmp 42))⟩,
       ⟨some 44, (some (41, false)), (.binOp .eql 3 (.tmp 43) (.const (.int .i64 114)) 3)⟩,
       ⟨some 45, none, (.pick (.tmp 41) (.const (.bool true)) (.tmp 44))⟩,
       ⟨some 46, none, (.move (.tmp 45))⟩,
       ⟨some 47, (some (46, false)), (.fieldAddr 63 (.tmp 1) 0)⟩,
       ⟨some 48, (some (46, false)), (.load 3 (.tmp 47))⟩,
       ⟨some 49, (some (46, false)), (.binOp .eql 3 (.tmp 48) (.const (.int .i64 122)) 3)⟩,
       ⟨some 50, none, (.pick (.tmp 46) (.const (.bool true)) (.tmp 49))⟩,
       ⟨some 51, none, (.move (.tmp 50))⟩,
       ⟨some 52, (some (51, false)), (.fieldAddr 63 (.tmp 1) 0)⟩,
       ⟨some 53, (some (51, false)), (.load 3 (.tmp 52))⟩,
       ⟨some 54, (some (51, false)), (.binOp .eql 3 (.tmp 53) (.const (.int .i64 103)) 3)⟩,
       ⟨some 55, none, (.pick (.tmp 51) (.const (.bool true)) (.tmp 54))⟩,
       ⟨some 2, none, (.assign (.tmp 55))⟩])
     .ret)))
theorem w82 {args : Array Value} {H : AH} {Φ : Value → AH → Prop} (h : rW Try.prog k82 [] (fin Try.prog [(.tmp 2)] Φ) (tm0 args) H) : CallsA Try.prog 82 args H Φ :=
  CallsA.w k82 [(.tmp 2)] (fun _ => []) Try.func82 rfl rfl (by kernel_rfl) (by kernel_rfl) h

/-- spec.FunTwo -/
def k83 : KC :=
  (.seq
   (.ops [⟨some 1, none, (.box 63 (.tmp 0))⟩,
     ⟨some 2, none, (.assign (.const (.bool false)))⟩])
   (.seq
    (.seq
     (.ops [⟨some 3, none, (.fieldAddr 63 (.tmp 1) 1)⟩,
       ⟨some 4, none, (.load 3 (.tmp 3))⟩,
       ⟨some 5, none, (.binOp .eql 3 (.tmp 4) (.const (.int .i64 46)) 3)⟩])
     (.cond (.tmp 5)
      (.seq
       (.ops [⟨some 6, none, (.fieldAddr 63 (.tmp 1) 0)⟩,
         ⟨some 7, none, (.load 3 (.tmp 6))⟩,
         ⟨some 8, none, (.call ⟨(.value (.func 97)), #[(.tmp 7)], #[3]⟩)⟩,
         ⟨some 9, none, (.move (.tmp 8))⟩,
         ⟨some 10, (some (9, true)), (.fieldAddr 63 (.tmp 1) 2)⟩,
         ⟨some 11, (some (9, true)), (.load 3 (.tmp 10))⟩,
         ⟨some 12, (some (9, true)), (.call ⟨(.value (.func 97)), #[(.tmp 11)], #[3]⟩)⟩,
         ⟨some 13, none, (.pick (.tmp 9) (.tmp 12) (.const (.bool false)))⟩,
         ⟨some 2, none, (.assign (.tmp 13))⟩])
       .ret)
      .skip))
    (.seq
     (.block 0
      (.seq
       (.ops [⟨some 15, none, (.fieldAddr 63 (.tmp 1) 2)⟩,
         ⟨some 16, none, (.load 3 (.tmp 15))⟩,
         ⟨some 17, none, (.binOp .neq 3 (.tmp 16) (.const (.int .i64 0)) 3)⟩,
         ⟨some 14, none, (.assign (.tmp 17))⟩])
       (.cond (.tmp 14)
        (.seq
         (.ops [⟨some 2, none, (.assign (.const (.bool false)))⟩])
         .ret)
        (.seq
         (.ops [⟨some 19, none, (.fieldAddr 63 (.tmp 1) 1)⟩,
           ⟨some 20, none, (.load 3 (.tmp 19))⟩,
           ⟨some 21, none, (.binOp .eql 3 (.tmp 20) (.const (.int .i64 111)) 3)⟩,
           ⟨some 18, none, (.assign (.tmp 21))⟩])
         (.cond (.tmp 18)
          (.seq
           (.ops [⟨some 22, none, (.fieldAddr 63 (.tmp 1) 0)⟩,
             ⟨some 23, none, (.load 3 (.tmp 22))⟩,
             ⟨some 24, none, (.call ⟨(.value (.func 97)), #[(.tmp 23)], #[3]⟩)⟩,
             ⟨some 2, none, (.assign (.tmp 24))⟩])
           .ret)
          (.seq
           (.ops [⟨some 26, none, (.fieldAddr 63 (.tmp 1) 1)⟩,
             ⟨some 27, none, (.load 3 (.tmp 26))⟩,
             ⟨some 28, none, (.binOp .neq 3 (.tmp 27) (.const (.int .i64 0)) 3)⟩,
             ⟨some 25, none, (.assign (.tmp 28))⟩])
           (.cond (.tmp 25)
            (.seq
             (.ops [⟨some 2, none, (.assign (.const (.bool false)))⟩])
             .ret)
            .skip)))))))
     (.seq
      (.ops [⟨some 29, none, (.fieldAddr 63 (.tmp 1) 0)⟩,
        ⟨some 30, none, (.load 3 (.tmp 29))⟩,
        ⟨some 31, none, (.call ⟨(.value (.func 97)), #[(.tmp 30)], #[3]⟩)⟩,
        ⟨some 32, none, (.move (.tmp 31))⟩,
        ⟨some 33, (some (32, false)), (.fieldAddr 63 (.tmp 1) 0)⟩,
        ⟨some 34, (some (32, false)), (.load 3 (.tmp 33))⟩,
        ⟨some 35, (some (32, false)), (.binOp .eql 3 (.tmp 34) (.const (.int .i64 35)) 3)⟩,
        ⟨some 36, none, (.pick (.tmp 32) (.const (.bool true)) (.tmp 35))⟩,
        ⟨some 37, none, (.move (.tmp 36))⟩,
        ⟨some 38, (some (37, false)), (.fieldAddr 63 (.tmp 1) 0)⟩,
        ⟨some 39, (some (37, false)), (.load 3 (.tmp 38))⟩,
        ⟨some 40, (some (37, false)), (.binOp .eql 3 (.tmp 39) (.const (.int .i64 44)) 3)⟩,
        ⟨some 41, none, (.pick (.tmp 37) (.const (.bool true)) (.tmp 40))⟩,
        ⟨some 42, none, (.move (.tmp 41))⟩,
        ⟨some 43, (some (42, false)), (.fieldAddr 63 (.tmp 1) 0)⟩,
        ⟨some 44, (some (42, false)), (.load 3 (.tmp 43))⟩,
        ⟨some 45, (some (42, false)), (.binOp .eql 3 (.tmp 44) (.const (.int .i64 116)) 3)⟩,
        ⟨some 46, none, (.pick (.tmp 42) (.const (.bool true)) (.tmp 45))⟩,
        ⟨some 47, none, (.move (.tmp 46))⟩,
        ⟨some 48, (some (47, false)), (.fieldAddr 63 (.tmp 1) 0)⟩,
        ⟨some 49, (some (47, false)), (.load 3 (.tmp 48))⟩,
        ⟨some 50, (some (47, false)), (.binOp .eql 3 (.tmp 49) (.const (.int .i64 100)) 3)⟩,
        ⟨some 51, none, (.pick (.tmp 47) (.const (.bool true)) (.tmp 50))⟩,
        ⟨some 52, none, (.move (.tmp 51))⟩,
        ⟨some 53, (some (52, false)), (.fieldAddr 63 (.tmp 1) 0)⟩,
        ⟨some 54, (some (52, false)), (.load 3 (.tmp 53))⟩,
        ⟨some 55, (some (52, false)), (.binOp .eql 3 (.tmp 54) (.const (.int .i64 114)) 3)⟩,
        ⟨some 56, none, (.pick (.tmp 52) (.const (.bool true)) (.tmp 55))⟩,
        ⟨some 57, none, (.move (.tmp 56))⟩,
        ⟨some 58, (some (57, false)), (.fieldAddr 63 (.tmp 1) 0)⟩,
        ⟨some 59, (some (57, false)), (.load 3 (.tmp 58))⟩,
        ⟨some 60, (some (57, false)), (.binOp .eql 3 (.tmp 59) (.const (.int .i64 64)) 3)⟩,
        ⟨some 61, none, (.pick (.tmp 57) (.const (.bool true)) (.tmp 60))⟩,
        ⟨some 62, none, (.move (.tmp 61))⟩,
        ⟨some 63, (some (62, false)), (.fieldAddr 63 (.tmp 1) 0)⟩,
        ⟨some 64, (some (62, false)), (.load 3 (.tmp 63))⟩,
        ⟨some 65, (some (62, false)), (.binOp .eql 3 (.tmp 64) (.const (.int .i64 63)) 3)⟩,
        ⟨some 66, none, (.pick (.tmp 62) (.const (.bool true)) (.tmp 65))⟩,
        ⟨some 67, none, (.move (.tmp 66))⟩,
        ⟨some 68, (some (67, false)), (.fieldAddr 63 (.tmp 1) 0)⟩,
        ⟨some 69, (some (67, false)), (.load 3 (.tmp 68))⟩,
        ⟨some 70, (some (67, false)), (.binOp .eql 3 (.tmp 69) (.const (.int .i64 36)) 3)⟩,
        ⟨some 71, none, (.pick (.tmp 67) (.const (.bool true)) (.tmp 70))⟩,
        ⟨some 72, none, (.move (.tmp 71))⟩,
        ⟨some 73, (some (72, false)), (.fieldAddr 63 (.tmp 1) 0)⟩,
        ⟨some 74, (some (72, false)), (.load 3 (.tmp 73))⟩,
        ⟨some 75, (some (72, false)), (.binOp .eql 3 (.tmp 74) (.const (.int .i64 101)) 3)⟩,
        ⟨some 76, none, (.pick (.tmp 72) (.const (.bool true)) (.tmp 75))⟩,
        ⟨some 2, none, (.assign (.tmp 76))⟩])
      .ret))))
theorem w83 {args : Array Value} {H : AH} {Φ : Value → AH → Prop} (h : rW Try.prog k83 [] (fin Try.prog [(.tmp 2)] Φ) (tm0 args) H) : CallsA Try.prog 83 args H Φ :=
  CallsA.w k83 [(.tmp 2)] (fun _ => []) Try.func83 rfl rfl (by kernel_rfl) (by kernel_rfl) h

/-- spec.l11Instr -/
def k66 : KC :=
  (.seq
   (.ops [⟨some 1, none, (.box 66 (.tmp 0))⟩,
     ⟨some 2, none, (.assign (.const (.bool false)))⟩])
   (.seq
    (.ops [⟨some 4, none, (.build 63 #[])⟩,
      ⟨some 3, none, (.alloc 63)⟩,
      ⟨none, none, (.store 63 (.tmp 3) (.tmp 4))⟩])
    (.seq
     (.seq
      (.ops [⟨some 5, none, (.fieldAddr 66 (.tmp 1) 0)⟩,
        ⟨some 6, none, (.load 3 (.tmp 5))⟩])
      (.block 0
       (.seq
        (.ops [⟨some 8, none, (.binOp .eql 3 (.tmp 6) (.const (.int .i64 1)) 3)⟩,
          ⟨some 7, none, (.assign (.tmp 8))⟩])
        (.cond (.tmp 7)
         (.seq
          (.ops [⟨some 9, none, (.fieldAddr 66 (.tmp 1) 1)⟩,
            ⟨some 10, none, (.load 3 (.tmp 9))⟩,
            ⟨some 11, none, (.binOp .eql 3 (.tmp 10) (.const (.int .i64 0)) 3)⟩,
            ⟨some 12, none, (.move (.tmp 11))⟩,
            ⟨some 13, (some (12, true)), (.fieldAddr 66 (.tmp 1) 2)⟩,
            ⟨some 14, (some (12, true)), (.load 63 (.tmp 13))⟩,
            ⟨some 15, (some (12, true)), (.load 63 (.tmp 3))⟩,
            ⟨some 16, (some (12, true)), (.binOp .eql 63 (.tmp 14) (.tmp 15) 63)⟩,
            ⟨some 17, none, (.pick (.tmp 12) (.tmp 16) (.const (.bool false)))⟩,
            ⟨some 18, none, (.move (.tmp 17))⟩,
            ⟨some 19, (some (18, true)), (.fieldAddr 66 (.tmp 1) 3)⟩,
            ⟨some 20, (some (18, true)), (.load 64 (.tmp 19))⟩,
            ⟨some 21, (some (18, true)), (.call ⟨(.value (.func 81)), #[(.tmp 20)], #[64]⟩)⟩,
            ⟨some 22, none, (.pick (.tmp 18) (.tmp 21) (.const (.bool false)))⟩,
            ⟨some 2, none, (.assign (.tmp 22))⟩])
          .ret)
         (.seq
          (.seq
           (.ops [⟨some 24, none, (.binOp .eql 3 (.tmp 6) (.const (.int .i64 2)) 3)⟩,
             ⟨some 23, none, (.assign (.tmp 24))⟩])
           (.cond (.tmp 23)
            .skip
            (.ops [⟨some 25, none, (.binOp .eql 3 (.tmp 6) (.const (.int .i64 3)) 3)⟩,
              ⟨some 23, none, (.assign (.tmp 25))⟩])))
          (.cond (.tmp 23)
           (.seq
            (.ops [⟨some 26, none, (.fieldAddr 66 (.tmp 1) 1)⟩,
              ⟨some 27, none, (.load 3 (.tmp 26))⟩,
              ⟨some 28, none, (.call ⟨(.value (.func 39)), #[(.tmp 27), (.const (.int .i64 0)), (.const (.int .i64 25))], #[3, 3, 3]⟩)⟩,
              ⟨some 29, none, (.move (.tmp 28))⟩,
              ⟨some 30, (some (29, true)), (.fieldAddr 66 (.tmp 1) 2)⟩,
              ⟨some 31, (some (29, true)), (.load 63 (.tmp 30))⟩,
              ⟨some 32, (some (29, true)), (.load 63 (.tmp 3))⟩,
              ⟨some 33, (some (29, true)), (.binOp .eql 63 (.tmp 31) (.tmp 32) 63)⟩,
              ⟨some 34, none, (.pick (.tmp 29) (.tmp 33) (.const (.bool false)))⟩,
              ⟨some 35, none, (.move (.tmp 34))⟩,
              ⟨some 36, (some (35, true)), (.fieldAddr 66 (.tmp 1) 3)⟩,
              ⟨some 37, (some (35, true)), (.load 64 (.tmp 36))⟩,
              ⟨some 38, (some (35, true)), (.call ⟨(.builtin .len), #[(.tmp 37)], #[64]⟩)⟩,
              ⟨some 39, (some (35, true)), (.binOp .eql 3 (.tmp 38) (.const (.int .i64 0)) 3)⟩,
              ⟨some 40, none, (.pick (.tmp 35) (.tmp 39) (.const (.bool false)))⟩,
              ⟨some 2, none, (.assign (.tmp 40))⟩])
            .ret)
           (.seq
            (.ops [⟨some 42, none, (.binOp .eql 3 (.tmp 6) (.const (.int .i64 4)) 3)⟩,
              ⟨some 41, none, (.assign (.tmp 42))⟩])
            (.cond (.tmp 41)
             (.seq
              (.ops [⟨some 43, none, (.fieldAddr 66 (.tmp 1) 1)⟩,
                ⟨some 44, none, (.load 3 (.tmp 43))⟩,
                ⟨some 45, none, (.binOp .eql 3 (.tmp 44) (.const (.int .i64 0)) 3)⟩,
                ⟨some 46, none, (.move (.tmp 45))⟩,
                ⟨some 47, (some (46, true)), (.fieldAddr 66 (.tmp 1) 2)⟩,
                ⟨some 48, (some (46, true)), (.load 63 (.tmp 47))⟩,
                ⟨some 49, (some (46, true)), (.call ⟨(.value (.func 82)), #[(.tmp 48)], #[63]⟩)⟩,
                ⟨some 50, none, (.pick (.tmp 46) (.tmp 49) (.const (.bool false)))⟩,
                ⟨some 51, none, (.move (.tmp 50))⟩,
                ⟨some 52, (some (51, true)), (.fieldAddr 66 (.tmp 1) 3)⟩,
                ⟨some 53, (some (51, true)), (.load 64 (.tmp 52))⟩,
                ⟨some 54, (some (51, true)), (.call ⟨(.builtin .len), #[(.tmp 53)], #[64]⟩)⟩,
                ⟨some 55, (some (51, true)), (.binOp .eql 3 (.tmp 54) (.const (.int .i64 0)) 3)⟩,
                ⟨some 56, none, (.pick (.tmp 51) (.tmp 55) (.const (.bool false)))⟩,
                ⟨some 2, none, (.assign (.tmp 56))⟩])
              .ret)
             (.seq
              (.ops [⟨some 58, none, (.binOp .eql 3 (.tmp 6) (.const (.int .i64 5)) 3)⟩,
                ⟨some 57, none, (.assign (.tmp 58))⟩])
              (.cond (.tmp 57)
               (.seq
                (.ops [⟨some 59, none, (.fieldAddr 66 (.tmp 1) 1)⟩,
                  ⟨some 60, none, (.load 3 (.tmp 59))⟩,
                  ⟨some 61, none, (.binOp .eql 3 (.tmp 60) (.const (.int .i64 0)) 3)⟩,
                  ⟨some 62, none, (.move (.tmp 61))⟩,
                  ⟨some 63, (some (62, true)), (.fieldAddr 66 (.tmp 1) 2)⟩,
                  ⟨some 64, (some (62, true)), (.load 63 (.tmp 63))⟩,
                  ⟨some 65, (some (62, true)), (.call ⟨(.value (.func 83)), #[(.tmp 64)], #[63]⟩)⟩,
                  ⟨some 66, none, (.pick (.tmp 62) (.tmp 65) (.const (.bool false)))⟩,
                  ⟨some 67, none, (.move (.tmp 66))⟩,
                  ⟨some 68, (some (67, true)), (.fieldAddr 66 (.tmp 1) 3)⟩,
                  ⟨some 69, (some (67, true)), (.load 64 (.tmp 68))⟩,
                  ⟨some 70, (some (67, true)), (.call ⟨(.builtin .len), #[(.tmp 69)], #[64]⟩)⟩,
                  ⟨some 71, (some (67, true)), (.binOp .eql 3 (.tmp 70) (.const (.int .i64 0)) 3)⟩,
                  ⟨some 72, none, (.pick (.tmp 67) (.tmp 71) (.const (.bool false)))⟩,
                  ⟨some 2, none, (.assign (.tmp 72))⟩])
                .ret)
               .skip))))))))))
     (.seq
      (.ops [⟨some 2, none, (.assign (.const (.bool false)))⟩])
      .ret))))
theorem w66 {args : Array Value} {H : AH} {Φ : Value → AH → Prop} (h : rW Try.prog k66 [] (fin Try.prog [(.tmp 2)] Φ) (tm0 args) H) : CallsA Try.prog 66 args H Φ :=
  CallsA.w k66 [(.tmp 2)] (fun _ => []) Try.func66 rfl rfl (by kernel_rfl) (by kernel_rfl) h

/-- spec.CodeOk -/
def k30 : KC :=
  (.seq
   (.ops [⟨some 2, none, (.assign (.const (.bool false)))⟩])
   (.seq
    (.seq
     (.ops [⟨some 6, none, (.move (.tmp 0))⟩,
       ⟨some 7, none, (.call ⟨(.builtin .len), #[(.tmp 6)], #[29]⟩)⟩,
       ⟨some 8, none, (.call ⟨(.value (.func 39)), #[(.tmp 7), (.const (.int .i64 1)), (.const (.int .i64 60))], #[3, 3, 3]⟩)⟩,
       ⟨some 9, none, (.unOp .not 4 (.tmp 8))⟩])
     (.cond (.tmp 9)
      (.seq
       (.ops [⟨some 2, none, (.assign (.const (.bool false)))⟩])
       .ret)
      .skip))
    (.seq
     (.seq
      (.ops [⟨some 3, none, (.assign (.const (.int .i64 0)))⟩])
      (.block 0
       (.loop
        (.seq
         (.seq
          (.ops [⟨some 10, none, (.move (.tmp 3))⟩,
            ⟨some 11, none, (.move (.tmp 0))⟩,
            ⟨some 12, none, (.call ⟨(.builtin .len), #[(.tmp 11)], #[29]⟩)⟩,
            ⟨some 13, none, (.binOp .lss 3 (.tmp 10) (.tmp 12) 3)⟩])
          (.cond (.tmp 13)
           .skip
           (.exit 0)))
         (.seq
          (.block 1
           (.seq
            (.ops [⟨some 16, none, (.move (.tmp 0))⟩,
              ⟨some 17, none, (.move (.tmp 3))⟩,
              ⟨some 18, none, (.indexAddr 29 (.tmp 16) (.tmp 17))⟩,
              ⟨some 19, none, (.load 66 (.tmp 18))⟩,
              ⟨some 20, none, (.call ⟨(.value (.func 66)), #[(.tmp 19)], #[66]⟩)⟩,
              ⟨some 21, none, (.unOp .not 4 (.tmp 20))⟩])
            (.cond (.tmp 21)
             (.seq
              (.ops [⟨some 2, none, (.assign (.const (.bool false)))⟩])
              .ret)
             .skip)))
          (.ops [⟨some 14, none, (.move (.tmp 3))⟩,
            ⟨some 15, none, (.binOp .add 3 (.tmp 14) (.const (.int .i64 1)) 3)⟩,
            ⟨some 3, none, (.assign (.tmp 15))⟩]))))))
     (.seq
      (.ops [⟨some 23, none, (.move (.tmp 0))⟩,
        ⟨some 24, none, (.call ⟨(.value (.func 63)), #[(.tmp 23)], #[29]⟩)⟩,
        ⟨some 22, none, (.move (.tmp 24))⟩,
        ⟨some 25, none, (.extract (.tmp 22) 0)⟩,
        ⟨some 26, none, (.extract (.tmp 22) 1)⟩,
        ⟨some 4, none, (.assign (.tmp 25))⟩,
        ⟨some 5, none, (.assign (.tmp 26))⟩])
      (.seq
       (.ops [⟨some 27, none, (.move (.tmp 5))⟩,
         ⟨some 28, none, (.move (.tmp 27))⟩,
         ⟨some 29, (some (28, true)), (.move (.tmp 4))⟩,
         ⟨some 30, (some (28, true)), (.move (.tmp 0))⟩,
         ⟨some 31, (some (28, true)), (.call ⟨(.builtin .len), #[(.tmp 30)], #[29]⟩)⟩,
         ⟨some 32, (some (28, true)), (.indexAddr 64 (.tmp 29) (.tmp 31))⟩,
         ⟨some 33, (some (28, true)), (.load 3 (.tmp 32))⟩,
         ⟨some 34, (some (28, true)), (.binOp .eql 3 (.tmp 33) (.const (.int .i64 1)) 3)⟩,
         ⟨some 35, none, (.pick (.tmp 28) (.tmp 34) (.const (.bool false)))⟩,
         ⟨some 2, none, (.assign (.tmp 35))⟩])
       .ret)))))
theorem w30 {args : Array Value} {H : AH} {Φ : Value → AH → Prop} (h : rW Try.prog k30 [] (fin Try.prog [(.tmp 2)] Φ) (tm0 args) H) : CallsA Try.prog 30 args H Φ :=
  CallsA.w k30 [(.tmp 2)] (fun _ => []) Try.func30 rfl rfl (by kernel_rfl) (by kernel_rfl) h

/-- spec.CodePack -/
def k42 : KC :=
  (.seq
   (.ops [⟨some 2, none, (.assign (.const (.slice none 0 0)))⟩,
     ⟨some 3, none, (.assign (.const (.bool false)))⟩])
   (.seq
    (.seq
     (.ops [⟨some 10, none, (.move (.tmp 0))⟩,
       ⟨some 11, none, (.call ⟨(.value (.func 30)), #[(.tmp 10)], #[29]⟩)⟩,
       ⟨some 12, none, (.unOp .not 4 (.tmp 11))⟩])
     (.cond (.tmp 12)
      (.seq
       (.ops [⟨some 13, none, (.buildSlice 22 0 #[])⟩,
         ⟨some 2, none, (.assign (.tmp 13))⟩,
         ⟨some 3, none, (.assign (.const (.bool false)))⟩])
       .ret)
      .skip))
    (.seq
     (.ops [⟨some 14, none, (.move (.tmp 0))⟩,
       ⟨some 15, none, (.call ⟨(.builtin .len), #[(.tmp 14)], #[29]⟩)⟩,
       ⟨some 16, none, (.convert 3 5 (.tmp 15))⟩,
       ⟨some 17, none, (.buildSlice 22 1 #[(0, (.tmp 16))])⟩,
       ⟨some 4, none, (.assign (.tmp 17))⟩])
     (.seq
      (.seq
       (.ops [⟨some 5, none, (.assign (.const (.int .i64 0)))⟩])
       (.block 0
        (.loop
         (.seq
          (.seq
           (.ops [⟨some 18, none, (.move (.tmp 5))⟩,
             ⟨some 19, none, (.move (.tmp 0))⟩,
             ⟨some 20, none, (.call ⟨(.builtin .len), #[(.tmp 19)], #[29]⟩)⟩,
             ⟨some 21, none, (.binOp .lss 3 (.tmp 18) (.tmp 20) 3)⟩])
           (.cond (.tmp 21)
            .skip
            (.exit 0)))
          (.seq
           (.block 1
            (.seq
             (.ops [⟨some 24, none, (.move (.tmp 0))⟩,
               ⟨some 25, none, (.move (.tmp 5))⟩,
               ⟨some 26, none, (.indexAddr 29 (.tmp 24) (.tmp 25))⟩,
               ⟨some 27, none, (.load 66 (.tmp 26))⟩,
               ⟨some 6, none, (.alloc 66)⟩,
               ⟨none, none, (.store 66 (.tmp 6) (.tmp 27))⟩])
             (.seq
              (.ops [⟨some 28, none, (.move (.tmp 4))⟩,
                ⟨some 29, none, (.fieldAddr 66 (.tmp 6) 0)⟩,
                ⟨some 30, none, (.load 3 (.tmp 29))⟩,
                ⟨some 31, none, (.convert 3 5 (.tmp 30))⟩,
                ⟨some 32, none, (.fieldAddr 66 (.tmp 6) 1)⟩,
                ⟨some 33, none, (.load 3 (.tmp 32))⟩,
                ⟨some 34, none, (.convert 3 5 (.tmp 33))⟩,
                ⟨some 35, none, (.fieldAddr 66 (.tmp 6) 2)⟩,
                ⟨some 36, none, (.fieldAddr 63 (.tmp 35) 0)⟩,
                ⟨some 37, none, (.load 3 (.tmp 36))⟩,
                ⟨some 38, none, (.convert 3 5 (.tmp 37))⟩,
                ⟨some 39, none, (.fieldAddr 66 (.tmp 6) 2)⟩,
                ⟨some 40, none, (.fieldAddr 63 (.tmp 39) 1)⟩,
                ⟨some 41, none, (.load 3 (.tmp 40))⟩,
                ⟨some 42, none, (.convert 3 5 (.tmp 41))⟩,
                ⟨some 43, none, (.fieldAddr 66 (.tmp 6) 2)⟩,
                ⟨some 44, none, (.fieldAddr 63 (.tmp 43) 2)⟩,
                ⟨some 45, none, (.load 3 (.tmp 44))⟩,
                ⟨some 46, none, (.convert 3 5 (.tmp 45))⟩,
                ⟨some 47, none, (.buildSlice 22 5 #[(0, (.tmp 31)), (1, (.tmp 34)), (2, (.tmp 38)), (3, (.tmp 42)), (4, (.tmp 46))])⟩,
                ⟨some 48, none, (.call ⟨(.builtin .append), #[(.tmp 28), (.tmp 47)], #[22, 22]⟩)⟩,
                ⟨some 4, none, (.assign (.tmp 48))⟩])
              (.seq
               (.seq
                (.ops [⟨some 49, none, (.fieldAddr 66 (.tmp 6) 0)⟩,
                  ⟨some 50, none, (.load 3 (.tmp 49))⟩,
                  ⟨some 51, none, (.binOp .neq 3 (.tmp 50) (.const (.int .i64 1)) 3)⟩])
                (.cond (.tmp 51)
                 (.exit 1)
                 .skip))
               (.seq
                (.ops [⟨some 52, none, (.move (.tmp 4))⟩,
                  ⟨some 53, none, (.fieldAddr 66 (.tmp 6) 3)⟩,
                  ⟨some 54, none, (.load 64 (.tmp 53))⟩,
                  ⟨some 55, none, (.call ⟨(.builtin .len), #[(.tmp 54)], #[64]⟩)⟩,
                  ⟨some 56, none, (.binOp .rem 3 (.tmp 55) (.const (.int .i64 256)) 3)⟩,
                  ⟨some 57, none, (.convert 3 5 (.tmp 56))⟩,
                  ⟨some 58, none, (.fieldAddr 66 (.tmp 6) 3)⟩,
                  ⟨some 59, none, (.load 64 (.tmp 58))⟩,
                  ⟨some 60, none, (.call ⟨(.builtin .len), #[(.tmp 59)], #[64]⟩)⟩,
                  ⟨some 61, none, (.binOp .quo 3 (.tmp 60) (.const (.int .i64 256)) 3)⟩,
                  ⟨some 62, none, (.convert 3 5 (.tmp 61))⟩,
                  ⟨some 63, none, (.buildSlice 22 2 #[(0, (.tmp 57)), (1, (.tmp 62))])⟩,
                  ⟨some 64, none, (.call ⟨(.builtin .append), #[(.tmp 52), (.tmp 63)], #[22, 22]⟩)⟩,
                  ⟨some 4, none, (.assign (.tmp 64))⟩])
                (.seq
                 (.ops [⟨some 7, none, (.assign (.const (.int .i64 0)))⟩])
                 (.block 2
                  (.loop
                   (.seq
                    (.seq
                     (.ops [⟨some 65, none, (.move (.tmp 7))⟩,
                       ⟨some 66, none, (.fieldAddr 66 (.tmp 6) 3)⟩,
                       ⟨some 67, none, (.load 64 (.tmp 66))⟩,
                       ⟨some 68, none, (.call ⟨(.builtin .len), #[(.tmp 67)], #[64]⟩)⟩,
                       ⟨some 69, none, (.binOp .lss 3 (.tmp 65) (.tmp 68) 3)⟩])
                     (.cond (.tmp 69)
                      .skip
                      (.exit 2)))
                    (.seq
                     (.block 3
                      (.seq
                       (.ops [⟨some 72, none, (.fieldAddr 66 (.tmp 6) 3)⟩,
                         ⟨some 73, none, (.load 64 (.tmp 72))⟩,
                         ⟨some 74, none, (.move (.tmp 7))⟩,
                         ⟨some 75, none, (.indexAddr 64 (.tmp 73) (.tmp 74))⟩,
                         ⟨some 76, none, (.load 3 (.tmp 75))⟩,
                         ⟨some 77, none, (.binOp .add 3 (.tmp 76) (.const (.int .i64 1000000000000)) 3)⟩,
                         ⟨some 8, none, (.assign (.tmp 77))⟩])
                       (.seq
                        (.ops [⟨some 9, none, (.assign (.const (.int .i64 0)))⟩])
                        (.block 4
                         (.loop
                          (.seq
                           (.seq
                            (.ops [⟨some 78, none, (.move (.tmp 9))⟩,
                              ⟨some 79, none, (.binOp .lss 3 (.tmp 78) (.const (.int .i64 8)) 3)⟩])
                            (.cond (.tmp 79)
                             .skip
                             (.exit 4)))
                           (.seq
                            (.block 5
                             (.ops [⟨some 82, none, (.move (.tmp 4))⟩,
                               ⟨some 83, none, (.move (.tmp 8))⟩,
                               ⟨some 84, none, (.move (.tmp 9))⟩,
                               ⟨some 85, none, (.binOp .mul 3 (.const (.int .i64 8)) (.tmp 84) 3)⟩,
                               ⟨some 86, none, (.binOp .shr 3 (.tmp 83) (.tmp 85) 3)⟩,
                               ⟨some 87, none, (.convert 3 5 (.tmp 86))⟩,
                               ⟨some 88, none, (.buildSlice 22 1 #[(0, (.tmp 87))])⟩,
                               ⟨some 89, none, (.call ⟨(.builtin .append), #[(.tmp 82), (.tmp 88)], #[22, 22]⟩)⟩,
                               ⟨some 4, none, (.assign (.tmp 89))⟩]))
                            (.ops [⟨some 80, none, (.move (.tmp 9))⟩,
                              ⟨some 81, none, (.binOp .add 3 (.tmp 80) (.const (.int .i64 1)) 3)⟩,
                              ⟨some 9, none, (.assign (.tmp 81))⟩]))))))))
                     (.ops [⟨some 70, none, (.move (.tmp 7))⟩,
                       ⟨some 71, none, (.binOp .add 3 (.tmp 70) (.const (.int .i64 1)) 3)⟩,
                       ⟨some 7, none, (.assign (.tmp 71))⟩])))))))))))
           (.ops [⟨some 22, none, (.move (.tmp 5))⟩,
             ⟨some 23, none, (.binOp .add 3 (.tmp 22) (.const (.int .i64 1)) 3)⟩,
             ⟨some 5, none, (.assign (.tmp 23))⟩]))))))
      (.seq
       (.ops [⟨some 90, none, (.move (.tmp 4))⟩,
         ⟨some 2, none, (.assign (.tmp 90))⟩,
         ⟨some 3, none, (.assign (.const (.bool true)))⟩])
       .ret)))))
theorem w42 {args : Array Value} {H : AH} {Φ : Value → AH → Prop} (h : rW Try.prog k42 [] (fin Try.prog [(.tmp 2), (.tmp 3)] Φ) (tm0 args) H) : CallsA Try.prog 42 args H Φ :=
  CallsA.w k42 [(.tmp 2), (.tmp 3)] (fun _ => []) Try.func42 rfl rfl (by kernel_rfl) (by kernel_rfl) h

/-- spec.CodeRead -/
def k12 : KC :=
  (.seq
   (.ops [⟨some 2, none, (.assign (.const (.slice none 0 0)))⟩,
     ⟨some 3, none, (.assign (.const (.bool false)))⟩])
   (.seq
    (.ops [⟨some 12, none, (.buildSlice 29 0 #[])⟩,
      ⟨some 4, none, (.assign (.tmp 12))⟩])
    (.seq
     (.seq
      (.ops [⟨some 13, none, (.move (.tmp 0))⟩,
        ⟨some 14, none, (.call ⟨(.builtin .len), #[(.tmp 13)], #[22]⟩)⟩,
        ⟨some 15, none, (.binOp .eql 3 (.tmp 14) (.const (.int .i64 0)) 3)⟩])
      (.cond (.tmp 15)
       (.seq
        (.ops [⟨some 16, none, (.move (.tmp 4))⟩,
          ⟨some 2, none, (.assign (.tmp 16))⟩,
          ⟨some 3, none, (.assign (.const (.bool false)))⟩])
        .ret)
       .skip))
     (.seq
      (.ops [⟨some 17, none, (.buildSlice 29 0 #[])⟩,
        ⟨some 5, none, (.assign (.tmp 17))⟩])
      (.seq
       (.ops [⟨some 6, none, (.assign (.const (.int .i64 1)))⟩])
       (.seq
        (.seq
         (.ops [⟨some 7, none, (.assign (.const (.int .i64 0)))⟩])
         (.block 0
          (.loop
           (.seq
            (.seq
             (.ops [⟨some 18, none, (.move (.tmp 7))⟩,
               ⟨some 19, none, (.move (.tmp 0))⟩,
               ⟨some 20, none, (.indexAddr 22 (.tmp 19) (.const (.int .i64 0)))⟩,
               ⟨some 21, none, (.load 5 (.tmp 20))⟩,
               ⟨some 22, none, (.convert 5 3 (.tmp 21))⟩,
               ⟨some 23, none, (.binOp .lss 3 (.tmp 18) (.tmp 22) 3)⟩])
             (.cond (.tmp 23)
              .skip
              (.exit 0)))
            (.seq
             (.block 1
              (.seq
               (.ops [⟨some 27, none, (.move (.tmp 0))⟩,
                 ⟨some 28, none, (.move (.tmp 6))⟩,
                 ⟨some 29, none, (.call ⟨(.value (.func 41)), #[(.tmp 27), (.tmp 28)], #[22, 3]⟩)⟩,
                 ⟨some 26, none, (.move (.tmp 29))⟩,
                 ⟨some 30, none, (.extract (.tmp 26) 0)⟩,
                 ⟨some 31, none, (.extract (.tmp 26) 1)⟩,
                 ⟨some 8, none, (.alloc 66)⟩,
                 ⟨none, none, (.store 66 (.tmp 8) (.tmp 30))⟩,
                 ⟨some 9, none, (.assign (.tmp 31))⟩])
               (.seq
                (.seq
                 (.ops [⟨some 32, none, (.move (.tmp 9))⟩,
                   ⟨some 33, none, (.binOp .lss 3 (.tmp 32) (.const (.int .i64 0)) 3)⟩])
                 (.cond (.tmp 33)
                  (.seq
                   (.ops [⟨some 34, none, (.move (.tmp 4))⟩,
                     ⟨some 2, none, (.assign (.tmp 34))⟩,
                     ⟨some 3, none, (.assign (.const (.bool false)))⟩])
                   .ret)
                  .skip))
                (.seq
                 (.ops [⟨some 35, none, (.move (.tmp 5))⟩,
                   ⟨some 36, none, (.load 66 (.tmp 8))⟩,
                   ⟨some 37, none, (.buildSlice 29 1 #[(0, (.tmp 36))])⟩,
                   ⟨some 38, none, (.call ⟨(.builtin .append), #[(.tmp 35), (.tmp 37)], #[29, 29]⟩)⟩,
                   ⟨some 5, none, (.assign (.tmp 38))⟩])
                 (.ops [⟨some 39, none, (.move (.tmp 9))⟩,
                   ⟨some 6, none, (.assign (.tmp 39))⟩])))))
             (.ops [⟨some 24, none, (.move (.tmp 7))⟩,
               ⟨some 25, none, (.binOp .add 3 (.tmp 24) (.const (.int .i64 1)) 3)⟩,
               ⟨some 7, none, (.assign (.tmp 25))⟩]))))))
        (.seq
         (.ops [⟨some 41, none, (.move (.tmp 5))⟩,
           ⟨some 42, none, (.call ⟨(.value (.func 42)), #[(.tmp 41)], #[29]⟩)⟩,
           ⟨some 40, none, (.move (.tmp 42))⟩,
           ⟨some 43, none, (.extract (.tmp 40) 0)⟩,
           ⟨some 44, none, (.extract (.tmp 40) 1)⟩,
           ⟨some 10, none, (.assign (.tmp 43))⟩,
           ⟨some 11, none, (.assign (.tmp 44))⟩])
         (.seq
          (.seq
           (.ops [⟨some 45, none, (.move (.tmp 11))⟩,
             ⟨some 46, none, (.unOp .not 4 (.tmp 45))⟩,
             ⟨some 47, none, (.move (.tmp 46))⟩,
             ⟨some 48, (some (47, false)), (.move (.tmp 10))⟩,
             ⟨some 49, (some (47, false)), (.convert 22 9 (.tmp 48))⟩,
             ⟨some 50, (some (47, false)), (.move (.tmp 0))⟩,
             ⟨some 51, (some (47, false)), (.convert 22 9 (.tmp 50))⟩,
             ⟨some 52, (some (47, false)), (.binOp .neq 9 (.tmp 49) (.tmp 51) 9)⟩,
             ⟨some 53, none, (.pick (.tmp 47) (.const (.bool true)) (.tmp 52))⟩])
           (.cond (.tmp 53)
            (.seq
             (.ops [⟨some 54, none, (.move (.tmp 4))⟩,
               ⟨some 2, none, (.assign (.tmp 54))⟩,
               ⟨some 3, none, (.assign (.const (.bool false)))⟩])
             .ret)
            .skip))
          (.seq
           (.ops [⟨some 55, none, (.move (.tmp 5))⟩,
             ⟨some 2, none, (.assign (.tmp 55))⟩,
             ⟨some 3, none, (.assign (.const (.bool true)))⟩])
           .ret)))))))))
theorem w12 {args : Array Value} {H : AH} {Φ : Value → AH → Prop} (h : rW Try.prog k12 [] (fin Try.prog [(.tmp 2), (.tmp 3)] Φ) (tm0 args) H) : CallsA Try.prog 12 args H Φ :=
  CallsA.w k12 [(.tmp 2), (.tmp 3)] (fun _ => []) Try.func12 rfl rfl (by kernel_rfl) (by kernel_rfl) h

/-- laws.toByteS -/
def k13 : KC :=
  (.seq
   (.ops [⟨some 2, none, (.assign (.const (.slice none 0 0)))⟩])
   (.seq
    (.ops [⟨some 5, none, (.move (.tmp 0))⟩,
      ⟨some 6, none, (.call ⟨(.builtin .len), #[(.tmp 5)], #[22]⟩)⟩,
      ⟨some 7, none, (.makeSlice 22 (.tmp 6) (.tmp 6))⟩,
      ⟨some 3, none, (.assign (.tmp 7))⟩])
    (.seq
     (.seq
      (.ops [⟨some 4, none, (.assign (.const (.int .i64 0)))⟩])
      (.block 0
       (.loop
        (.seq
         (.seq
          (.ops [⟨some 8, none, (.move (.tmp 4))⟩,
            ⟨some 9, none, (.move (.tmp 0))⟩,
            ⟨some 10, none, (.call ⟨(.builtin .len), #[(.tmp 9)], #[22]⟩)⟩,
            ⟨some 11, none, (.binOp .lss 3 (.tmp 8) (.tmp 10) 3)⟩])
          (.cond (.tmp 11)
           .skip
           (.exit 0)))
         (.seq
          (.block 1
           (.ops [⟨some 14, none, (.move (.tmp 3))⟩,
             ⟨some 15, none, (.move (.tmp 4))⟩,
             ⟨some 16, none, (.move (.tmp 0))⟩,
             ⟨some 17, none, (.move (.tmp 4))⟩,
             ⟨some 18, none, (.indexAddr 22 (.tmp 16) (.tmp 17))⟩,
             ⟨some 19, none, (.load 5 (.tmp 18))⟩,
             ⟨some 20, none, (.indexAddr 22 (.tmp 14) (.tmp 15))⟩,
             ⟨none, none, (.store 5 (.tmp 20) (.tmp 19))⟩]))
          (.ops [⟨some 12, none, (.move (.tmp 4))⟩,
            ⟨some 13, none, (.binOp .add 3 (.tmp 12) (.const (.int .i64 1)) 3)⟩,
            ⟨some 4, none, (.assign (.tmp 13))⟩]))))))
     (.seq
      (.ops [⟨some 21, none, (.move (.tmp 3))⟩,
        ⟨some 2, none, (.assign (.tmp 21))⟩])
      .ret))))
theorem w13 {args : Array Value} {H : AH} {Φ : Value → AH → Prop} (h : rW Try.prog k13 [] (fin Try.prog [(.tmp 2)] Φ) (tm0 args) H) : CallsA Try.prog 13 args H Φ :=
  CallsA.w k13 [(.tmp 2)] (fun _ => []) Try.func13 rfl rfl (by kernel_rfl) (by kernel_rfl) h

/-- impl.within -/
def k51 : KC :=
  (.seq
   (.ops [⟨some 6, none, (.assign (.const (.bool false)))⟩])
   (.seq
    (.ops [⟨some 7, none, (.move (.tmp 0))⟩,
      ⟨some 8, none, (.move (.tmp 1))⟩,
      ⟨some 9, none, (.binOp .geq 3 (.tmp 7) (.tmp 8) 3)⟩,
      ⟨some 10, none, (.move (.tmp 9))⟩,
      ⟨some 11, (some (10, true)), (.move (.tmp 0))⟩,
      ⟨some 12, (some (10, true)), (.move (.tmp 2))⟩,
      ⟨some 13, (some (10, true)), (.binOp .leq 3 (.tmp 11) (.tmp 12) 3)⟩,
      ⟨some 14, none, (.pick (.tmp 10) (.tmp 13) (.const (.bool false)))⟩,
      ⟨some 6, none, (.assign (.tmp 14))⟩])
    .ret))
theorem w51 {args : Array Value} {H : AH} {Φ : Value → AH → Prop} (h : rW Try.prog k51 [] (fin Try.prog [(.tmp 6)] Φ) (tm0 args) H) : CallsA Try.prog 51 args H Φ :=
  CallsA.w k51 [(.tmp 6)] (fun _ => []) Try.func51 rfl rfl (by kernel_rfl) (by kernel_rfl) h

/-- impl.takes -/
def k88 : KC :=
  (.seq
   (.ops [⟨some 1, none, (.box 66 (.tmp 0))⟩,
     ⟨some 2, none, (.assign (.const (.int .i64 0)))⟩])
   (.seq
    (.seq
     (.ops [⟨some 3, none, (.fieldAddr 66 (.tmp 1) 0)⟩,
       ⟨some 4, none, (.load 3 (.tmp 3))⟩])
     (.block 0
      (.seq
       (.seq
        (.ops [⟨some 6, none, (.binOp .eql 3 (.tmp 4) (.const (.int .i64 3)) 3)⟩,
          ⟨some 5, none, (.assign (.tmp 6))⟩])
        (.cond (.tmp 5)
         .skip
         (.ops [⟨some 7, none, (.binOp .eql 3 (.tmp 4) (.const (.int .i64 4)) 3)⟩,
           ⟨some 5, none, (.assign (.tmp 7))⟩])))
       (.cond (.tmp 5)
        (.seq
         (.ops [⟨some 2, none, (.assign (.const (.int .i64 1)))⟩])
         .ret)
        (.seq
         (.ops [⟨some 9, none, (.binOp .eql 3 (.tmp 4) (.const (.int .i64 5)) 3)⟩,
           ⟨some 8, none, (.assign (.tmp 9))⟩])
         (.cond (.tmp 8)
          (.seq
           (.ops [⟨some 2, none, (.assign (.const (.int .i64 2)))⟩])
           .ret)
          .skip))))))
    (.seq
     (.ops [⟨some 2, none, (.assign (.const (.int .i64 0)))⟩])
     .ret)))
theorem w88 {args : Array Value} {H : AH} {Φ : Value → AH → Prop} (h : rW Try.prog k88 [] (fin Try.prog [(.tmp 2)] Φ) (tm0 args) H) : CallsA Try.prog 88 args H Φ :=
  CallsA.w k88 [(.tmp 2)] (fun _ => []) Try.func88 rfl rfl (by kernel_rfl) (by kernel_rfl) h

/-- impl.deep -/
def k57 : KC :=
  (.seq
   (.ops [⟨some 2, none, (.assign (.const (.slice none 0 0)))⟩,
     ⟨some 3, none, (.assign (.const (.bool false)))⟩])
   (.seq
    (.ops [⟨some 7, none, (.buildSlice 64 1 #[(0, (.const (.int .i64 0)))])⟩,
      ⟨some 4, none, (.assign (.tmp 7))⟩])
    (.seq
     (.seq
      (.ops [⟨some 8, none, (.move (.tmp 0))⟩,
        ⟨some 9, none, (.call ⟨(.builtin .len), #[(.tmp 8)], #[29]⟩)⟩,
        ⟨some 10, none, (.move (.const (.int .i64 0)))⟩])
      (.block 0
       (.loop
        (.seq
         (.ops [⟨some 11, none, (.binOp .lss 3 (.tmp 10) (.tmp 9) 3)⟩])
         (.seq
          (.cond (.tmp 11)
           .skip
           (.exit 0))
          (.seq
           (.block 1
            (.seq
             (.ops [⟨some 12, none, (.move (.tmp 10))⟩,
               ⟨some 13, none, (.indexAddr 29 (.tmp 8) (.tmp 10))⟩,
               ⟨some 14, none, (.load 66 (.tmp 13))⟩,
               ⟨some 6, none, (.alloc 66)⟩,
               ⟨some 5, none, (.assign (.tmp 12))⟩,
               ⟨none, none, (.store 66 (.tmp 6) (.tmp 14))⟩])
             (.seq
              (.seq
               (.draw #[] [(3, 0), (3, 6), (4, 0)]
                 [⟨some 15, none, (.move (.tmp 4))⟩,
                 ⟨some 16, none, (.move (.tmp 5))⟩,
                 ⟨some 17, none, (.indexAddr 64 (.tmp 15) (.tmp 16))⟩,
                 ⟨some 18, none, (.load 3 (.tmp 17))⟩,
                 ⟨some 19, none, (.load 66 (.tmp 6))⟩,
                 ⟨some 20, none, (.call ⟨(.value (.func 88)), #[(.tmp 19)], #[66]⟩)⟩,
                 ⟨some 21, none, (.binOp .lss 3 (.tmp 18) (.tmp 20) 3)⟩])
               (.cond (.tmp 21)
                (.seq
                 (.ops [⟨some 2, none, (.assign (.const (.slice none 0 0)))⟩,
                   ⟨some 3, none, (.assign (.const (.bool false)))⟩])
                 .ret)
                .skip))
              (.draw #[] [(4, 0), (4, 7), (5, 0)]
                [⟨some 22, none, (.move (.tmp 4))⟩,
                ⟨some 23, none, (.move (.tmp 4))⟩,
                ⟨some 24, none, (.move (.tmp 5))⟩,
                ⟨some 25, none, (.indexAddr 64 (.tmp 23) (.tmp 24))⟩,
                ⟨some 26, none, (.load 3 (.tmp 25))⟩,
                ⟨some 27, none, (.load 66 (.tmp 6))⟩,
                ⟨some 28, none, (.call ⟨(.value (.func 88)), #[(.tmp 27)], #[66]⟩)⟩,
                ⟨some 29, none, (.binOp .sub 3 (.tmp 26) (.tmp 28) 3)⟩,
                ⟨some 30, none, (.binOp .add 3 (.tmp 29) (.const (.int .i64 1)) 3)⟩,
                ⟨some 31, none, (.buildSlice 64 1 #[(0, (.tmp 30))])⟩,
                ⟨some 32, none, (.call ⟨(.builtin .append), #[(.tmp 22), (.tmp 31)], #[64, 64]⟩)⟩,
                ⟨some 4, none, (.assign (.tmp 32))⟩]))))
           (.ops [⟨some 33, none, (.binOp .add 3 (.tmp 10) (.const (.int .i64 1)) 3)⟩,
             ⟨some 10, none, (.move (.tmp 33))⟩])))))))
     (.seq
      (.ops [⟨some 34, none, (.move (.tmp 4))⟩,
        ⟨some 2, none, (.assign (.tmp 34))⟩,
        ⟨some 3, none, (.assign (.const (.bool true)))⟩])
      .ret))))
theorem w57 {args : Array Value} {H : AH} {Φ : Value → AH → Prop} (h : rW Try.prog k57 [] (fin Try.prog [(.tmp 2), (.tmp 3)] Φ) (tm0 args) H) : CallsA Try.prog 57 args H Φ :=
  CallsA.w k57 [(.tmp 2), (.tmp 3)] (fun i => if i = 5 then [(3, 0), (3, 6), (4, 0)] else if i = 7 then [(4, 0), (4, 7), (5, 0)] else []) Try.func57 rfl rfl (by kernel_rfl) (by kernel_rfl) h

/-- slices.IndexFunc[[]impl.Instr,impl.Instr] -/
def k89 : KC :=
  (.seq
   (.ops [⟨some 4, none, (.assign (.const (.int .i64 0)))⟩])
   (.seq
    (.seq
     (.ops [⟨some 6, none, (.move (.tmp 0))⟩,
       ⟨some 7, none, (.call ⟨(.builtin .len), #[(.tmp 6)], #[29]⟩)⟩,
       ⟨some 8, none, (.move (.const (.int .i64 0)))⟩])
     (.block 0
      (.loop
       (.seq
        (.ops [⟨some 9, none, (.binOp .lss 3 (.tmp 8) (.tmp 7) 3)⟩])
        (.seq
         (.cond (.tmp 9)
          .skip
          (.exit 0))
         (.seq
          (.block 1
           (.seq
            (.ops [⟨some 10, none, (.move (.tmp 8))⟩,
              ⟨some 5, none, (.assign (.tmp 10))⟩])
            (.seq
             (.ops [⟨some 11, none, (.move (.tmp 1))⟩,
               ⟨some 12, none, (.move (.tmp 0))⟩,
               ⟨some 13, none, (.move (.tmp 5))⟩,
               ⟨some 14, none, (.indexAddr 29 (.tmp 12) (.tmp 13))⟩,
               ⟨some 15, none, (.load 66 (.tmp 14))⟩,
               ⟨some 16, none, (.call ⟨(.value (.tmp 11)), #[(.tmp 15)], #[66]⟩)⟩])
             (.cond (.tmp 16)
              (.seq
               (.ops [⟨some 17, none, (.move (.tmp 5))⟩,
                 ⟨some 4, none, (.assign (.tmp 17))⟩])
               .ret)
              .skip))))
          (.ops [⟨some 18, none, (.binOp .add 3 (.tmp 8) (.const (.int .i64 1)) 3)⟩,
            ⟨some 8, none, (.move (.tmp 18))⟩])))))))
    (.seq
     (.ops [⟨some 4, none, (.assign (.const (.int .i64 (-1))))⟩])
     .ret)))
theorem w89 {args : Array Value} {H : AH} {Φ : Value → AH → Prop} (h : rW Try.prog k89 [] (fin Try.prog [(.tmp 4)] Φ) (tm0 args) H) : CallsA Try.prog 89 args H Φ :=
  CallsA.w k89 [(.tmp 4)] (fun _ => []) Try.func89 rfl rfl (by kernel_rfl) (by kernel_rfl) h

/-- slices.ContainsFunc[[]impl.Instr,impl.Instr] -/
def k59 : KC :=
  (.seq
   (.ops [⟨some 4, none, (.assign (.const (.bool false)))⟩])
   (.seq
    (.ops [⟨some 5, none, (.move (.tmp 0))⟩,
      ⟨some 6, none, (.move (.tmp 1))⟩,
      ⟨some 7, none, (.call ⟨(.value (.func 89)), #[(.tmp 5), (.tmp 6)], #[29, 89]⟩)⟩,
      ⟨some 8, none, (.binOp .geq 3 (.tmp 7) (.const (.int .i64 0)) 3)⟩,
      ⟨some 4, none, (.assign (.tmp 8))⟩])
    .ret))
theorem w59 {args : Array Value} {H : AH} {Φ : Value → AH → Prop} (h : rW Try.prog k59 [] (fin Try.prog [(.tmp 4)] Φ) (tm0 args) H) : CallsA Try.prog 59 args H Φ :=
  CallsA.w k59 [(.tmp 4)] (fun _ => []) Try.func59 rfl rfl (by kernel_rfl) (by kernel_rfl) h

/-- slices.IndexFunc[[]int,int] -/
def k108 : KC :=
  (.seq
   (.ops [⟨some 4, none, (.assign (.const (.int .i64 0)))⟩])
   (.seq
    (.seq
     (.ops [⟨some 6, none, (.move (.tmp 0))⟩,
       ⟨some 7, none, (.call ⟨(.builtin .len), #[(.tmp 6)], #[64]⟩)⟩,
       ⟨some 8, none, (.move (.const (.int .i64 0)))⟩])
     (.block 0
      (.loop
       (.seq
        (.ops [⟨some 9, none, (.binOp .lss 3 (.tmp 8) (.tmp 7) 3)⟩])
        (.seq
         (.cond (.tmp 9)
          .skip
          (.exit 0))
         (.seq
          (.block 1
           (.seq
            (.ops [⟨some 10, none, (.move (.tmp 8))⟩,
              ⟨some 5, none, (.assign (.tmp 10))⟩])
            (.seq
             (.ops [⟨some 11, none, (.move (.tmp 1))⟩,
               ⟨some 12, none, (.move (.tmp 0))⟩,
               ⟨some 13, none, (.move (.tmp 5))⟩,
               ⟨some 14, none, (.indexAddr 64 (.tmp 12) (.tmp 13))⟩,
               ⟨some 15, none, (.load 3 (.tmp 14))⟩,
               ⟨some 16, none, (.call ⟨(.value (.tmp 11)), #[(.tmp 15)], #[3]⟩)⟩])
             (.cond (.tmp 16)
              (.seq
               (.ops [⟨some 17, none, (.move (.tmp 5))⟩,
                 ⟨some 4, none, (.assign (.tmp 17))⟩])
               .ret)
              .skip))))
          (.ops [⟨some 18, none, (.binOp .add 3 (.tmp 8) (.const (.int .i64 1)) 3)⟩,
            ⟨some 8, none, (.move (.tmp 18))⟩])))))))
    (.seq
     (.ops [⟨some 4, none, (.assign (.const (.int .i64 (-1))))⟩])
     .ret)))
theorem w108 {args : Array Value} {H : AH} {Φ : Value → AH → Prop} (h : rW Try.prog k108 [] (fin Try.prog [(.tmp 4)] Φ) (tm0 args) H) : CallsA Try.prog 108 args H Φ :=
  CallsA.w k108 [(.tmp 4)] (fun _ => []) Try.func108 rfl rfl (by kernel_rfl) (by kernel_rfl) h

/-- slices.ContainsFunc[[]int,int] -/
def k99 : KC :=
  (.seq
   (.ops [⟨some 4, none, (.assign (.const (.bool false)))⟩])
   (.seq
    (.ops [⟨some 5, none, (.move (.tmp 0))⟩,
      ⟨some 6, none, (.move (.tmp 1))⟩,
      ⟨some 7, none, (.call ⟨(.value (.func 108)), #[(.tmp 5), (.tmp 6)], #[64, 61]⟩)⟩,
      ⟨some 8, none, (.binOp .geq 3 (.tmp 7) (.const (.int .i64 0)) 3)⟩,
      ⟨some 4, none, (.assign (.tmp 8))⟩])
    .ret))
theorem w99 {args : Array Value} {H : AH} {Φ : Value → AH → Prop} (h : rW Try.prog k99 [] (fin Try.prog [(.tmp 4)] Φ) (tm0 args) H) : CallsA Try.prog 99 args H Φ :=
  CallsA.w k99 [(.tmp 4)] (fun _ => []) Try.func99 rfl rfl (by kernel_rfl) (by kernel_rfl) h

/-- impl.NumOk -/
def k101 : KC :=
  (.seq
   (.ops [⟨some 2, none, (.assign (.const (.bool false)))⟩])
   (.seq
    (.ops [⟨some 3, none, (.move (.tmp 0))⟩,
      ⟨some 4, none, (.call ⟨(.value (.func 51)), #[(.tmp 3), (.const (.int .i64 (-1000000000000))), (.const (.int .i64 1000000000000))], #[3, 3, 3]⟩)⟩,
      ⟨some 2, none, (.assign (.tmp 4))⟩])
    .ret))
theorem w101 {args : Array Value} {H : AH} {Φ : Value → AH → Prop} (h : rW Try.prog k101 [] (fin Try.prog [(.tmp 2)] Φ) (tm0 args) H) : CallsA Try.prog 101 args H Φ :=
  CallsA.w k101 [(.tmp 2)] (fun _ => []) Try.func101 rfl rfl (by kernel_rfl) (by kernel_rfl) h

/-- impl.numsOk$1 -/
def k100 : KC :=
  (.seq
   (.ops [⟨some 2, none, (.assign (.const (.bool false)))⟩])
   (.seq
    (.ops [⟨some 3, none, (.move (.tmp 0))⟩,
      ⟨some 4, none, (.call ⟨(.value (.func 101)), #[(.tmp 3)], #[3]⟩)⟩,
      ⟨some 5, none, (.unOp .not 4 (.tmp 4))⟩,
      ⟨some 2, none, (.assign (.tmp 5))⟩])
    .ret))
theorem w100 {args : Array Value} {H : AH} {Φ : Value → AH → Prop} (h : rW Try.prog k100 [] (fin Try.prog [(.tmp 2)] Φ) (tm0 args) H) : CallsA Try.prog 100 args H Φ :=
  CallsA.w k100 [(.tmp 2)] (fun _ => []) Try.func100 rfl rfl (by kernel_rfl) (by kernel_rfl) h

/-- impl.numsOk -/
def k85 : KC :=
  (.seq
   (.ops [⟨some 2, none, (.assign (.const (.bool false)))⟩])
   (.seq
    (.ops [⟨some 3, none, (.move (.tmp 0))⟩,
      ⟨some 4, none, (.call ⟨(.builtin .len), #[(.tmp 3)], #[64]⟩)⟩,
      ⟨some 5, none, (.call ⟨(.value (.func 51)), #[(.tmp 4), (.const (.int .i64 1)), (.const (.int .i64 300))], #[3, 3, 3]⟩)⟩,
      ⟨some 6, none, (.move (.tmp 5))⟩,
      ⟨some 7, (some (6, true)), (.move (.tmp 0))⟩,
      ⟨some 8, (some (6, true)), (.call ⟨(.value (.func 99)), #[(.tmp 7), (.func 100)], #[64, 61]⟩)⟩,
      ⟨some 9, (some (6, true)), (.unOp .not 4 (.tmp 8))⟩,
      ⟨some 10, none, (.pick (.tmp 6) (.tmp 9) (.const (.bool false)))⟩,
      ⟨some 2, none, (.assign (.tmp 10))⟩])
    .ret))
theorem w85 {args : Array Value} {H : AH} {Φ : Value → AH → Prop} (h : rW Try.prog k85 [] (fin Try.prog [(.tmp 2)] Φ) (tm0 args) H) : CallsA Try.prog 85 args H Φ :=
  CallsA.w k85 [(.tmp 2)] (fun _ => []) Try.func85 rfl rfl (by kernel_rfl) (by kernel_rfl) h

/-- impl.hasSign -/
def k74 : KC :=
  (.seq
   (.ops [⟨some 4, none, (.assign (.const (.bool false)))⟩])
   (.seq
    (.seq
     (.ops [⟨some 5, none, (.assign (.const (.int .i64 0)))⟩])
     (.block 0
      (.loop
       (.seq
        (.seq
         (.ops [⟨some 6, none, (.move (.tmp 5))⟩,
           ⟨some 7, none, (.move (.tmp 0))⟩,
           ⟨some 8, none, (.call ⟨(.builtin .len), #[(.tmp 7)], #[9]⟩)⟩,
           ⟨some 9, none, (.binOp .lss 3 (.tmp 6) (.tmp 8) 3)⟩])
         (.cond (.tmp 9)
          .skip
          (.exit 0)))
        (.seq
         (.block 1
          (.seq
           (.ops [⟨some 12, none, (.move (.tmp 0))⟩,
             ⟨some 13, none, (.move (.tmp 5))⟩,
             ⟨some 14, none, (.index 9 (.tmp 12) (.tmp 13))⟩,
             ⟨some 15, none, (.convert 5 3 (.tmp 14))⟩,
             ⟨some 16, none, (.move (.tmp 1))⟩,
             ⟨some 17, none, (.binOp .eql 3 (.tmp 15) (.tmp 16) 3)⟩])
           (.cond (.tmp 17)
            (.seq
             (.ops [⟨some 4, none, (.assign (.const (.bool true)))⟩])
             .ret)
            .skip)))
         (.ops [⟨some 10, none, (.move (.tmp 5))⟩,
           ⟨some 11, none, (.binOp .add 3 (.tmp 10) (.const (.int .i64 1)) 3)⟩,
           ⟨some 5, none, (.assign (.tmp 11))⟩]))))))
    (.seq
     (.ops [⟨some 4, none, (.assign (.const (.bool false)))⟩])
     .ret)))
theorem w74 {args : Array Value} {H : AH} {Φ : Value → AH → Prop} (h : rW Try.prog k74 [] (fin Try.prog [(.tmp 4)] Φ) (tm0 args) H) : CallsA Try.prog 74 args H Φ :=
  CallsA.w k74 [(.tmp 4)] (fun _ => []) Try.func74 rfl rfl (by kernel_rfl) (by kernel_rfl) h

/-- impl.oneSign -/
def k102 : KC :=
  (.seq
   (.ops [⟨some 2, none, (.assign (.const (.bool false)))⟩])
   (.seq
    (.ops [⟨some 3, none, (.move (.tmp 0))⟩,
      ⟨some 4, none, (.call ⟨(.value (.func 74)), #[(.const (.string ⟨#[43, 45, 42, 124, 126]⟩)), (.tmp 3)], #[9, 3]⟩)⟩,
      ⟨some 2, none, (.assign (.tmp 4))⟩])
    .ret))
theorem w102 {args : Array Value} {H : AH} {Φ : Value → AH → Prop} (h : rW Try.prog k102 [] (fin Try.prog [(.tmp 2)] Φ) (tm0 args) H) : CallsA Try.prog 102 args H Φ :=
  CallsA.w k102 [(.tmp 2)] (fun _ => []) Try.func102 rfl rfl (by kernel_rfl) (by kernel_rfl) h

/-- impl.twoSign -/
def k103 : KC :=
  (.seq
   (.ops [⟨some 2, none, (.assign (.const (.bool false)))⟩])
   (.seq
    (.ops [⟨some 3, none, (.move (.tmp 0))⟩,
      ⟨some 4, none, (.call ⟨(.value (.func 74)), #[(.const (.string ⟨#[43, 45, 42, 37, 124, 38, 94, 61, 60, 62]⟩)), (.tmp 3)], #[9, 3]⟩)⟩,
      ⟨some 2, none, (.assign (.tmp 4))⟩])
    .ret))
theorem w103 {args : Array Value} {H : AH} {Φ : Value → AH → Prop} (h : rW Try.prog k103 [] (fin Try.prog [(.tmp 2)] Φ) (tm0 args) H) : CallsA Try.prog 103 args H Φ :=
  CallsA.w k103 [(.tmp 2)] (fun _ => []) Try.func103 rfl rfl (by kernel_rfl) (by kernel_rfl) h

/-- impl.FunOne -/
def k86 : KC :=
  (.seq
   (.ops [⟨some 1, none, (.box 63 (.tmp 0))⟩,
     ⟨some 2, none, (.assign (.const (.bool false)))⟩])
   (.seq
    (.seq
     (.ops [⟨some 3, none, (.fieldAddr 63 (.tmp 1) 1)⟩,
       ⟨some 4, none, (.load 3 (.tmp 3))⟩])
     (.block 0
      (.seq
       (.ops [⟨some 6, none, (.binOp .eql 3 (.tmp 4) (.const (.int .i64 0)) 3)⟩,
         ⟨some 5, none, (.assign (.tmp 6))⟩])
       (.cond (.tmp 5)
        (.seq
         (.ops [⟨some 7, none, (.fieldAddr 63 (.tmp 1) 2)⟩,
           ⟨some 8, none, (.load 3 (.tmp 7))⟩,
           ⟨some 9, none, (.binOp .eql 3 (.tmp 8) (.const (.int .i64 0)) 3)⟩,
           ⟨some 10, none, (.move (.tmp 9))⟩,
           ⟨some 11, (some (10, true)), (.fieldAddr 63 (.tmp 1) 0)⟩,
           ⟨some 12, (some (10, true)), (.load 3 (.tmp 11))⟩,
           ⟨some 13, (some (10, true)), (.call ⟨(.value (.func 102)), #[(.tmp 12)], #[3]⟩)⟩,
           ⟨some 14, (some (10, true)), (.move (.tmp 13))⟩,
           ⟨some 15, (some (14, false)), (.fieldAddr 63 (.tmp 1) 0)⟩,
           ⟨some 16, (some (14, false)), (.load 3 (.tmp 15))⟩,
           ⟨some 17, (some (14, false)), (.call ⟨(.value (.func 74)), #[(.const (.string ⟨#[105, 35, 44, 114, 122, 103]⟩)), (.tmp 16)], #[9, 3]⟩)⟩,
           ⟨some 18, (some (10, true)), (.pick (.tmp 14) (.const (.bool true)) (.tmp 17))⟩,
           ⟨some 19, none, (.pick (.tmp 10) (.tmp 18) (.const (.bool false)))⟩,
           ⟨some 2, none, (.assign (.tmp 19))⟩])
         .ret)
        (.seq
         (.seq
          (.ops [⟨some 21, none, (.binOp .eql 3 (.tmp 4) (.const (.int .i64 47)) 3)⟩,
            ⟨some 20, none, (.assign (.tmp 21))⟩])
          (.cond (.tmp 20)
           .skip
           (.ops [⟨some 22, none, (.binOp .eql 3 (.tmp 4) (.const (.int .i64 92)) 3)⟩,
             ⟨some 20, none, (.assign (.tmp 22))⟩])))
         (.cond (.tmp 20)
          (.seq
           (.ops [⟨some 23, none, (.fieldAddr 63 (.tmp 1) 2)⟩,
             ⟨some 24, none, (.load 3 (.tmp 23))⟩,
             ⟨some 25, none, (.binOp .eql 3 (.tmp 24) (.const (.int .i64 0)) 3)⟩,
             ⟨some 26, none, (.move (.tmp 25))⟩,
             ⟨some 27, (some (26, true)), (.fieldAddr 63 (.tmp 1) 0)⟩,
             ⟨some 28, (some (26, true)), (.load 3 (.tmp 27))⟩,
             ⟨some 29, (some (26, true)), (.call ⟨(.value (.func 103)), #[(.tmp 28)], #[3]⟩)⟩,
             ⟨some 30, none, (.pick (.tmp 26) (.tmp 29) (.const (.bool false)))⟩,
             ⟨some 2, none, (.assign (.tmp 30))⟩])
           .ret)
          .skip))))))
    (.seq
     (.ops [⟨some 2, none, (.assign (.const (.bool false)))⟩])
     .ret)))
theorem w86 {args : Array Value} {H : AH} {Φ : Value → AH → Prop} (h : rW Try.prog k86 [] (fin Try.prog [(.tmp 2)] Φ) (tm0 args) H) : CallsA Try.prog 86 args H Φ :=
  CallsA.w k86 [(.tmp 2)] (fun _ => []) Try.func86 rfl rfl (by kernel_rfl) (by kernel_rfl) h

/-- impl.FunTwo -/
def k87 : KC :=
  (.seq
   (.ops [⟨some 1, none, (.box 63 (.tmp 0))⟩,
     ⟨some 2, none, (.assign (.const (.bool false)))⟩])
   (.seq
    (.seq
     (.ops [⟨some 3, none, (.fieldAddr 63 (.tmp 1) 1)⟩,
       ⟨some 4, none, (.load 3 (.tmp 3))⟩])
     (.block 0
      (.seq
       (.ops [⟨some 6, none, (.binOp .eql 3 (.tmp 4) (.const (.int .i64 0)) 3)⟩,
         ⟨some 5, none, (.assign (.tmp 6))⟩])
       (.cond (.tmp 5)
        (.seq
         (.ops [⟨some 7, none, (.fieldAddr 63 (.tmp 1) 2)⟩,
           ⟨some 8, none, (.load 3 (.tmp 7))⟩,
           ⟨some 9, none, (.binOp .eql 3 (.tmp 8) (.const (.int .i64 0)) 3)⟩,
           ⟨some 10, none, (.move (.tmp 9))⟩,
           ⟨some 11, (some (10, true)), (.fieldAddr 63 (.tmp 1) 0)⟩,
           ⟨some 12, (some (10, true)), (.load 3 (.tmp 11))⟩,
           ⟨some 13, (some (10, true)), (.call ⟨(.value (.func 103)), #[(.tmp 12)], #[3]⟩)⟩,
           ⟨some 14, (some (10, true)), (.move (.tmp 13))⟩,
           ⟨some 15, (some (14, false)), (.fieldAddr 63 (.tmp 1) 0)⟩,
           ⟨some 16, (some (14, false)), (.load 3 (.tmp 15))⟩,
           ⟨some 17, (some (14, false)), (.call ⟨(.value (.func 74)), #[(.const (.string ⟨#[35, 44, 116, 100, 114, 64, 63, 36, 101]⟩)), (.tmp 16)], #[9, 3]⟩)⟩,
           ⟨some 18, (some (10, true)), (.pick (.tmp 14) (.const (.bool true)) (.tmp 17))⟩,
           ⟨some 19, none, (.pick (.tmp 10) (.tmp 18) (.const (.bool false)))⟩,
           ⟨some 2, none, (.assign (.tmp 19))⟩])
         .ret)
        (.seq
         (.ops [⟨some 21, none, (.binOp .eql 3 (.tmp 4) (.const (.int .i64 111)) 3)⟩,
           ⟨some 20, none, (.assign (.tmp 21))⟩])
         (.cond (.tmp 20)
          (.seq
           (.ops [⟨some 22, none, (.fieldAddr 63 (.tmp 1) 2)⟩,
             ⟨some 23, none, (.load 3 (.tmp 22))⟩,
             ⟨some 24, none, (.binOp .eql 3 (.tmp 23) (.const (.int .i64 0)) 3)⟩,
             ⟨some 25, none, (.move (.tmp 24))⟩,
             ⟨some 26, (some (25, true)), (.fieldAddr 63 (.tmp 1) 0)⟩,
             ⟨some 27, (some (25, true)), (.load 3 (.tmp 26))⟩,
             ⟨some 28, (some (25, true)), (.call ⟨(.value (.func 103)), #[(.tmp 27)], #[3]⟩)⟩,
             ⟨some 29, none, (.pick (.tmp 25) (.tmp 28) (.const (.bool false)))⟩,
             ⟨some 2, none, (.assign (.tmp 29))⟩])
           .ret)
          (.seq
           (.ops [⟨some 31, none, (.binOp .eql 3 (.tmp 4) (.const (.int .i64 46)) 3)⟩,
             ⟨some 30, none, (.assign (.tmp 31))⟩])
           (.cond (.tmp 30)
            (.seq
             (.ops [⟨some 32, none, (.fieldAddr 63 (.tmp 1) 0)⟩,
               ⟨some 33, none, (.load 3 (.tmp 32))⟩,
               ⟨some 34, none, (.call ⟨(.value (.func 103)), #[(.tmp 33)], #[3]⟩)⟩,
               ⟨some 35, none, (.move (.tmp 34))⟩,
               ⟨some 36, (some (35, true)), (.fieldAddr 63 (.tmp 1) 2)⟩,
               ⟨some 37, (some (35, true)), (.load 3 (.tmp 36))⟩,
               ⟨some 38, (some (35, true)), (.call ⟨(.value (.func 103)), #[(.tmp 37)], #[3]⟩)⟩,
               ⟨some 39, none, (.pick (.tmp 35) (.tmp 38) (.const (.bool false)))⟩,
               ⟨some 2, none, (.assign (.tmp 39))⟩])
             .ret)
            .skip))))))))
    (.seq
     (.ops [⟨some 2, none, (.assign (.const (.bool false)))⟩])
     .ret)))
theorem w87 {args : Array Value} {H : AH} {Φ : Value → AH → Prop} (h : rW Try.prog k87 [] (fin Try.prog [(.tmp 2)] Φ) (tm0 args) H) : CallsA Try.prog 87 args H Φ :=
  CallsA.w k87 [(.tmp 2)] (fun _ => []) Try.func87 rfl rfl (by kernel_rfl) (by kernel_rfl) h

/-- impl.instrOk -/
def k61 : KC :=
  (.seq
   (.ops [⟨some 1, none, (.box 66 (.tmp 0))⟩,
     ⟨some 2, none, (.assign (.const (.bool false)))⟩])
   (.seq
    (.ops [⟨some 6, none, (.fieldAddr 66 (.tmp 1) 1)⟩,
      ⟨some 7, none, (.load 3 (.tmp 6))⟩,
      ⟨some 8, none, (.binOp .eql 3 (.tmp 7) (.const (.int .i64 0)) 3)⟩,
      ⟨some 9, none, (.fieldAddr 66 (.tmp 1) 2)⟩,
      ⟨some 10, none, (.load 63 (.tmp 9))⟩,
      ⟨some 11, none, (.build 63 #[])⟩,
      ⟨some 12, none, (.binOp .eql 63 (.tmp 10) (.tmp 11) 63)⟩,
      ⟨some 13, none, (.fieldAddr 66 (.tmp 1) 3)⟩,
      ⟨some 14, none, (.load 64 (.tmp 13))⟩,
      ⟨some 15, none, (.call ⟨(.builtin .len), #[(.tmp 14)], #[64]⟩)⟩,
      ⟨some 16, none, (.binOp .eql 3 (.tmp 15) (.const (.int .i64 0)) 3)⟩,
      ⟨some 3, none, (.assign (.tmp 8))⟩,
      ⟨some 4, none, (.assign (.tmp 12))⟩,
      ⟨some 5, none, (.assign (.tmp 16))⟩])
    (.seq
     (.seq
      (.ops [⟨some 17, none, (.fieldAddr 66 (.tmp 1) 0)⟩,
        ⟨some 18, none, (.load 3 (.tmp 17))⟩])
      (.block 0
       (.seq
        (.ops [⟨some 20, none, (.binOp .eql 3 (.tmp 18) (.const (.int .i64 1)) 3)⟩,
          ⟨some 19, none, (.assign (.tmp 20))⟩])
        (.cond (.tmp 19)
         (.ops [⟨some 21, none, (.fieldAddr 66 (.tmp 1) 3)⟩,
           ⟨some 22, none, (.load 64 (.tmp 21))⟩,
           ⟨some 23, none, (.call ⟨(.value (.func 85)), #[(.tmp 22)], #[64]⟩)⟩,
           ⟨some 5, none, (.assign (.tmp 23))⟩])
         (.seq
          (.seq
           (.ops [⟨some 25, none, (.binOp .eql 3 (.tmp 18) (.const (.int .i64 2)) 3)⟩,
             ⟨some 24, none, (.assign (.tmp 25))⟩])
           (.cond (.tmp 24)
            .skip
            (.ops [⟨some 26, none, (.binOp .eql 3 (.tmp 18) (.const (.int .i64 3)) 3)⟩,
              ⟨some 24, none, (.assign (.tmp 26))⟩])))
          (.cond (.tmp 24)
           (.ops [⟨some 27, none, (.fieldAddr 66 (.tmp 1) 1)⟩,
             ⟨some 28, none, (.load 3 (.tmp 27))⟩,
             ⟨some 29, none, (.call ⟨(.value (.func 51)), #[(.tmp 28), (.const (.int .i64 0)), (.const (.int .i64 25))], #[3, 3, 3]⟩)⟩,
             ⟨some 3, none, (.assign (.tmp 29))⟩])
           (.seq
            (.ops [⟨some 31, none, (.binOp .eql 3 (.tmp 18) (.const (.int .i64 4)) 3)⟩,
              ⟨some 30, none, (.assign (.tmp 31))⟩])
            (.cond (.tmp 30)
             (.ops [⟨some 32, none, (.fieldAddr 66 (.tmp 1) 2)⟩,
               ⟨some 33, none, (.load 63 (.tmp 32))⟩,
               ⟨some 34, none, (.call ⟨(.value (.func 86)), #[(.tmp 33)], #[63]⟩)⟩,
               ⟨some 4, none, (.assign (.tmp 34))⟩])
             (.seq
              (.ops [⟨some 36, none, (.binOp .eql 3 (.tmp 18) (.const (.int .i64 5)) 3)⟩,
                ⟨some 35, none, (.assign (.tmp 36))⟩])
              (.cond (.tmp 35)
               (.ops [⟨some 37, none, (.fieldAddr 66 (.tmp 1) 2)⟩,
                 ⟨some 38, none, (.load 63 (.tmp 37))⟩,
                 ⟨some 39, none, (.call ⟨(.value (.func 87)), #[(.tmp 38)], #[63]⟩)⟩,
                 ⟨some 4, none, (.assign (.tmp 39))⟩])
               (.seq
                (.ops [⟨some 2, none, (.assign (.const (.bool false)))⟩])
                .ret)))))))))))
     (.seq
      (.ops [⟨some 40, none, (.move (.tmp 3))⟩,
        ⟨some 41, none, (.move (.tmp 40))⟩,
        ⟨some 42, (some (41, true)), (.move (.tmp 4))⟩,
        ⟨some 43, none, (.pick (.tmp 41) (.tmp 42) (.const (.bool false)))⟩,
        ⟨some 44, none, (.move (.tmp 43))⟩,
        ⟨some 45, (some (44, true)), (.move (.tmp 5))⟩,
        ⟨some 46, none, (.pick (.tmp 44) (.tmp 45) (.const (.bool false)))⟩,
        ⟨some 2, none, (.assign (.tmp 46))⟩])
      .ret))))
theorem w61 {args : Array Value} {H : AH} {Φ : Value → AH → Prop} (h : rW Try.prog k61 [] (fin Try.prog [(.tmp 2)] Φ) (tm0 args) H) : CallsA Try.prog 61 args H Φ :=
  CallsA.w k61 [(.tmp 2)] (fun i => if i = 1 then [(1, 0), (4, 0), (8, 0)] else []) Try.func61 rfl rfl (by kernel_rfl) (by kernel_rfl) h

/-- impl.CodeOk$1 -/
def k60 : KC :=
  (.seq
   (.ops [⟨some 1, none, (.box 66 (.tmp 0))⟩,
     ⟨some 2, none, (.assign (.const (.bool false)))⟩])
   (.seq
    (.ops [⟨some 3, none, (.load 66 (.tmp 1))⟩,
      ⟨some 4, none, (.call ⟨(.value (.func 61)), #[(.tmp 3)], #[66]⟩)⟩,
      ⟨some 5, none, (.unOp .not 4 (.tmp 4))⟩,
      ⟨some 2, none, (.assign (.tmp 5))⟩])
    .ret))
theorem w60 {args : Array Value} {H : AH} {Φ : Value → AH → Prop} (h : rW Try.prog k60 [] (fin Try.prog [(.tmp 2)] Φ) (tm0 args) H) : CallsA Try.prog 60 args H Φ :=
  CallsA.w k60 [(.tmp 2)] (fun _ => []) Try.func60 rfl rfl (by kernel_rfl) (by kernel_rfl) h

/-- impl.CodeOk -/
def k26 : KC :=
  (.seq
   (.ops [⟨some 2, none, (.assign (.const (.bool false)))⟩])
   (.seq
    (.seq
     (.ops [⟨some 5, none, (.move (.tmp 0))⟩,
       ⟨some 6, none, (.call ⟨(.builtin .len), #[(.tmp 5)], #[29]⟩)⟩,
       ⟨some 7, none, (.call ⟨(.value (.func 51)), #[(.tmp 6), (.const (.int .i64 1)), (.const (.int .i64 60))], #[3, 3, 3]⟩)⟩,
       ⟨some 8, none, (.unOp .not 4 (.tmp 7))⟩,
       ⟨some 9, none, (.move (.tmp 8))⟩,
       ⟨some 10, (some (9, false)), (.move (.tmp 0))⟩,
       ⟨some 11, (some (9, false)), (.call ⟨(.value (.func 59)), #[(.tmp 10), (.func 60)], #[29, 89]⟩)⟩,
       ⟨some 12, none, (.pick (.tmp 9) (.const (.bool true)) (.tmp 11))⟩])
     (.cond (.tmp 12)
      (.seq
       (.ops [⟨some 2, none, (.assign (.const (.bool false)))⟩])
       .ret)
      .skip))
    (.seq
     (.ops [⟨some 14, none, (.move (.tmp 0))⟩,
       ⟨some 15, none, (.call ⟨(.value (.func 57)), #[(.tmp 14)], #[29]⟩)⟩,
       ⟨some 13, none, (.move (.tmp 15))⟩,
       ⟨some 16, none, (.extract (.tmp 13) 0)⟩,
       ⟨some 17, none, (.extract (.tmp 13) 1)⟩,
       ⟨some 3, none, (.assign (.tmp 16))⟩,
       ⟨some 4, none, (.assign (.tmp 17))⟩])
     (.seq
      (.ops [⟨some 18, none, (.move (.tmp 4))⟩,
        ⟨some 19, none, (.move (.tmp 18))⟩,
        ⟨some 20, (some (19, true)), (.move (.tmp 3))⟩,
        ⟨some 21, (some (19, true)), (.move (.tmp 0))⟩,
        ⟨some 22, (some (19, true)), (.call ⟨(.builtin .len), #[(.tmp 21)], #[29]⟩)⟩,
        ⟨some 23, (some (19, true)), (.indexAddr 64 (.tmp 20) (.tmp 22))⟩,
        ⟨some 24, (some (19, true)), (.load 3 (.tmp 23))⟩,
        ⟨some 25, (some (19, true)), (.binOp .eql 3 (.tmp 24) (.const (.int .i64 1)) 3)⟩,
        ⟨some 26, none, (.pick (.tmp 19) (.tmp 25) (.const (.bool false)))⟩,
        ⟨some 2, none, (.assign (.tmp 26))⟩])
      .ret))))
theorem w26 {args : Array Value} {H : AH} {Φ : Value → AH → Prop} (h : rW Try.prog k26 [] (fin Try.prog [(.tmp 2)] Φ) (tm0 args) H) : CallsA Try.prog 26 args H Φ :=
  CallsA.w k26 [(.tmp 2)] (fun _ => []) Try.func26 rfl rfl (by kernel_rfl) (by kernel_rfl) h

/-- (*impl.byteReader).one -/
def k43 : KC :=
  (.seq
   (.ops [⟨some 2, none, (.assign (.const (.int .i64 0)))⟩])
   (.seq
    (.seq
     (.ops [⟨some 4, none, (.move (.tmp 0))⟩,
       ⟨some 5, none, (.nilCheck (.tmp 4))⟩,
       ⟨some 6, none, (.fieldAddr 71 (.tmp 5) 0)⟩,
       ⟨some 7, none, (.load 22 (.tmp 6))⟩,
       ⟨some 8, none, (.call ⟨(.builtin .len), #[(.tmp 7)], #[22]⟩)⟩,
       ⟨some 9, none, (.binOp .eql 3 (.tmp 8) (.const (.int .i64 0)) 3)⟩])
     (.cond (.tmp 9)
      (.seq
       (.ops [⟨some 10, none, (.move (.tmp 0))⟩,
         ⟨some 11, none, (.nilCheck (.tmp 10))⟩,
         ⟨some 12, none, (.fieldAddr 71 (.tmp 11) 1)⟩,
         ⟨none, none, (.store 4 (.tmp 12) (.const (.bool true)))⟩])
       (.seq
        (.ops [⟨some 2, none, (.assign (.const (.int .i64 0)))⟩])
        .ret))
      .skip))
    (.seq
     (.ops [⟨some 13, none, (.move (.tmp 0))⟩,
       ⟨some 14, none, (.nilCheck (.tmp 13))⟩,
       ⟨some 15, none, (.fieldAddr 71 (.tmp 14) 0)⟩,
       ⟨some 16, none, (.load 22 (.tmp 15))⟩,
       ⟨some 17, none, (.indexAddr 22 (.tmp 16) (.const (.int .i64 0)))⟩,
       ⟨some 18, none, (.load 5 (.tmp 17))⟩,
       ⟨some 3, none, (.assign (.tmp 18))⟩])
     (.seq
      (.ops [⟨some 19, none, (.move (.tmp 0))⟩,
        ⟨some 20, none, (.move (.tmp 0))⟩,
        ⟨some 21, none, (.nilCheck (.tmp 20))⟩,
        ⟨some 22, none, (.fieldAddr 71 (.tmp 21) 0)⟩,
        ⟨some 23, none, (.load 22 (.tmp 22))⟩,
        ⟨some 24, none, (.slice 22 (.tmp 23) (some (.const (.int .i64 1))) none none)⟩,
        ⟨some 25, none, (.nilCheck (.tmp 19))⟩,
        ⟨some 26, none, (.fieldAddr 71 (.tmp 25) 0)⟩,
        ⟨none, none, (.store 22 (.tmp 26) (.tmp 24))⟩])
      (.seq
       (.ops [⟨some 27, none, (.move (.tmp 3))⟩,
         ⟨some 28, none, (.convert 5 3 (.tmp 27))⟩,
         ⟨some 2, none, (.assign (.tmp 28))⟩])
       .ret)))))
theorem w43 {args : Array Value} {H : AH} {Φ : Value → AH → Prop} (h : rW Try.prog k43 [] (fin Try.prog [(.tmp 2)] Φ) (tm0 args) H) : CallsA Try.prog 43 args H Φ :=
  CallsA.w k43 [(.tmp 2)] (fun _ => []) Try.func43 rfl rfl (by kernel_rfl) (by kernel_rfl) h

/-- (*impl.byteReader).two -/
def k44 : KC :=
  (.seq
   (.ops [⟨some 2, none, (.assign (.const (.int .i64 0)))⟩])
   (.seq
    (.ops [⟨some 4, none, (.move (.tmp 0))⟩,
      ⟨some 5, none, (.call ⟨(.value (.func 43)), #[(.tmp 4)], #[69]⟩)⟩,
      ⟨some 3, none, (.assign (.tmp 5))⟩])
    (.seq
     (.ops [⟨some 6, none, (.move (.tmp 3))⟩,
       ⟨some 7, none, (.move (.tmp 0))⟩,
       ⟨some 8, none, (.call ⟨(.value (.func 43)), #[(.tmp 7)], #[69]⟩)⟩,
       ⟨some 9, none, (.binOp .mul 3 (.const (.int .i64 256)) (.tmp 8) 3)⟩,
       ⟨some 10, none, (.binOp .add 3 (.tmp 6) (.tmp 9) 3)⟩,
       ⟨some 2, none, (.assign (.tmp 10))⟩])
     .ret)))
theorem w44 {args : Array Value} {H : AH} {Φ : Value → AH → Prop} (h : rW Try.prog k44 [] (fin Try.prog [(.tmp 2)] Φ) (tm0 args) H) : CallsA Try.prog 44 args H Φ :=
  CallsA.w k44 [(.tmp 2)] (fun _ => []) Try.func44 rfl rfl (by kernel_rfl) (by kernel_rfl) h

/-- (*impl.byteReader).num -/
def k45 : KC :=
  (.seq
   (.ops [⟨some 2, none, (.assign (.const (.int .i64 0)))⟩])
   (.seq
    (.ops [⟨some 3, none, (.assign (.const (.int .u64 0)))⟩])
    (.seq
     (.seq
      (.ops [⟨some 4, none, (.assign (.const (.int .i64 0)))⟩])
      (.block 0
       (.loop
        (.seq
         (.seq
          (.ops [⟨some 5, none, (.move (.tmp 4))⟩,
            ⟨some 6, none, (.binOp .lss 3 (.tmp 5) (.const (.int .i64 8)) 3)⟩])
          (.cond (.tmp 6)
           .skip
           (.exit 0)))
         (.seq
          (.block 1
           (.ops [⟨some 9, none, (.move (.tmp 3))⟩,
             ⟨some 10, none, (.move (.tmp 0))⟩,
             ⟨some 11, none, (.call ⟨(.value (.func 43)), #[(.tmp 10)], #[69]⟩)⟩,
             ⟨some 12, none, (.convert 3 101 (.tmp 11))⟩,
             ⟨some 13, none, (.move (.tmp 4))⟩,
             ⟨some 14, none, (.binOp .mul 3 (.const (.int .i64 8)) (.tmp 13) 3)⟩,
             ⟨some 15, none, (.binOp .shl 101 (.tmp 12) (.tmp 14) 3)⟩,
             ⟨some 16, none, (.binOp .or 101 (.tmp 9) (.tmp 15) 101)⟩,
             ⟨some 3, none, (.assign (.tmp 16))⟩]))
          (.ops [⟨some 7, none, (.move (.tmp 4))⟩,
            ⟨some 8, none, (.binOp .add 3 (.tmp 7) (.const (.int .i64 1)) 3)⟩,
            ⟨some 4, none, (.assign (.tmp 8))⟩]))))))
     (.seq
      (.seq
       (.ops [⟨some 17, none, (.move (.tmp 3))⟩,
         ⟨some 18, none, (.binOp .gtr 101 (.tmp 17) (.const (.int .u64 2000000000000)) 101)⟩])
       (.cond (.tmp 18)
        (.seq
         (.ops [⟨some 19, none, (.move (.tmp 0))⟩,
           ⟨some 20, none, (.nilCheck (.tmp 19))⟩,
           ⟨some 21, none, (.fieldAddr 71 (.tmp 20) 1)⟩,
           ⟨none, none, (.store 4 (.tmp 21) (.const (.bool true)))⟩])
         (.seq
          (.ops [⟨some 2, none, (.assign (.const (.int .i64 0)))⟩])
          .ret))
        .skip))
      (.seq
       (.ops [⟨some 22, none, (.move (.tmp 3))⟩,
         ⟨some 23, none, (.convert 101 3 (.tmp 22))⟩,
         ⟨some 24, none, (.binOp .sub 3 (.tmp 23) (.const (.int .i64 1000000000000)) 3)⟩,
         ⟨some 2, none, (.assign (.tmp 24))⟩])
       .ret)))))
theorem w45 {args : Array Value} {H : AH} {Φ : Value → AH → Prop} (h : rW Try.prog k45 [] (fin Try.prog [(.tmp 2)] Φ) (tm0 args) H) : CallsA Try.prog 45 args H Φ :=
  CallsA.w k45 [(.tmp 2)] (fun _ => []) Try.func45 rfl rfl (by kernel_rfl) (by kernel_rfl) h

/-- impl.CodeRead -/
def k14 : KC :=
  (.seq
   (.ops [⟨some 2, none, (.assign (.const (.slice none 0 0)))⟩,
     ⟨some 3, none, (.assign (.const (.bool false)))⟩])
   (.seq
    (.ops [⟨some 9, none, (.move (.tmp 0))⟩,
      ⟨some 10, none, (.build 71 #[(0, (.tmp 9))])⟩,
      ⟨some 11, none, (.box 71 (.tmp 10))⟩,
      ⟨some 4, none, (.assign (.tmp 11))⟩])
    (.seq
     (.ops [⟨some 5, none, (.assign (.const (.slice none 0 0)))⟩])
     (.seq
      (.seq
       (.ops [⟨some 12, none, (.move (.tmp 4))⟩,
         ⟨some 13, none, (.call ⟨(.value (.func 43)), #[(.tmp 12)], #[69]⟩)⟩,
         ⟨some 6, none, (.assign (.tmp 13))⟩])
       (.block 0
        (.loop
         (.seq
          (.seq
           (.ops [⟨some 14, none, (.move (.tmp 6))⟩,
             ⟨some 15, none, (.binOp .gtr 3 (.tmp 14) (.const (.int .i64 0)) 3)⟩,
             ⟨some 16, none, (.move (.tmp 15))⟩,
             ⟨some 17, (some (16, true)), (.move (.tmp 4))⟩,
             ⟨some 18, (some (16, true)), (.nilCheck (.tmp 17))⟩,
             ⟨some 19, (some (16, true)), (.fieldAddr 71 (.tmp 18) 1)⟩,
             ⟨some 20, (some (16, true)), (.load 4 (.tmp 19))⟩,
             ⟨some 21, (some (16, true)), (.unOp .not 4 (.tmp 20))⟩,
             ⟨some 22, none, (.pick (.tmp 16) (.tmp 21) (.const (.bool false)))⟩])
           (.cond (.tmp 22)
            .skip
            (.exit 0)))
          (.seq
           (.block 1
            (.seq
             (.ops [⟨some 25, none, (.move (.tmp 4))⟩,
               ⟨some 26, none, (.call ⟨(.value (.func 43)), #[(.tmp 25)], #[69]⟩)⟩,
               ⟨some 27, none, (.move (.tmp 4))⟩,
               ⟨some 28, none, (.call ⟨(.value (.func 43)), #[(.tmp 27)], #[69]⟩)⟩,
               ⟨some 29, none, (.build 66 #[(0, (.tmp 26)), (1, (.tmp 28))])⟩,
               ⟨some 7, none, (.alloc 66)⟩,
               ⟨none, none, (.store 66 (.tmp 7) (.tmp 29))⟩])
             (.seq
              (.ops [⟨some 30, none, (.move (.tmp 4))⟩,
                ⟨some 31, none, (.call ⟨(.value (.func 43)), #[(.tmp 30)], #[69]⟩)⟩,
                ⟨some 32, none, (.fieldAddr 66 (.tmp 7) 2)⟩,
                ⟨some 33, none, (.fieldAddr 63 (.tmp 32) 0)⟩,
                ⟨none, none, (.store 3 (.tmp 33) (.tmp 31))⟩])
              (.seq
               (.ops [⟨some 34, none, (.move (.tmp 4))⟩,
                 ⟨some 35, none, (.call ⟨(.value (.func 43)), #[(.tmp 34)], #[69]⟩)⟩,
                 ⟨some 36, none, (.fieldAddr 66 (.tmp 7) 2)⟩,
                 ⟨some 37, none, (.fieldAddr 63 (.tmp 36) 1)⟩,
                 ⟨none, none, (.store 3 (.tmp 37) (.tmp 35))⟩])
               (.seq
                (.ops [⟨some 38, none, (.move (.tmp 4))⟩,
                  ⟨some 39, none, (.call ⟨(.value (.func 43)), #[(.tmp 38)], #[69]⟩)⟩,
                  ⟨some 40, none, (.fieldAddr 66 (.tmp 7) 2)⟩,
                  ⟨some 41, none, (.fieldAddr 63 (.tmp 40) 2)⟩,
                  ⟨none, none, (.store 3 (.tmp 41) (.tmp 39))⟩])
                (.seq
                 (.seq
                  (.ops [⟨some 42, none, (.fieldAddr 66 (.tmp 7) 0)⟩,
                    ⟨some 43, none, (.load 3 (.tmp 42))⟩,
                    ⟨some 44, none, (.binOp .eql 3 (.tmp 43) (.const (.int .i64 1)) 3)⟩])
                  (.cond (.tmp 44)
                   (.seq
                    (.ops [⟨some 45, none, (.move (.tmp 4))⟩,
                      ⟨some 46, none, (.call ⟨(.value (.func 44)), #[(.tmp 45)], #[69]⟩)⟩,
                      ⟨some 8, none, (.assign (.tmp 46))⟩])
                    (.block 2
                     (.loop
                      (.seq
                       (.seq
                        (.ops [⟨some 47, none, (.move (.tmp 8))⟩,
                          ⟨some 48, none, (.binOp .gtr 3 (.tmp 47) (.const (.int .i64 0)) 3)⟩,
                          ⟨some 49, none, (.move (.tmp 48))⟩,
                          ⟨some 50, (some (49, true)), (.move (.tmp 4))⟩,
                          ⟨some 51, (some (49, true)), (.nilCheck (.tmp 50))⟩,
                          ⟨some 52, (some (49, true)), (.fieldAddr 71 (.tmp 51) 1)⟩,
                          ⟨some 53, (some (49, true)), (.load 4 (.tmp 52))⟩,
                          ⟨some 54, (some (49, true)), (.unOp .not 4 (.tmp 53))⟩,
                          ⟨some 55, none, (.pick (.tmp 49) (.tmp 54) (.const (.bool false)))⟩])
                        (.cond (.tmp 55)
                         .skip
                         (.exit 2)))
                       (.seq
                        (.block 3
                         (.draw #[] [(1, 0), (1, 4)]
                           [⟨some 58, none, (.fieldAddr 66 (.tmp 7) 3)⟩,
                           ⟨some 59, none, (.load 64 (.tmp 58))⟩,
                           ⟨some 60, none, (.move (.tmp 4))⟩,
                           ⟨some 61, none, (.call ⟨(.value (.func 45)), #[(.tmp 60)], #[69]⟩)⟩,
                           ⟨some 62, none, (.buildSlice 64 1 #[(0, (.tmp 61))])⟩,
                           ⟨some 63, none, (.call ⟨(.builtin .append), #[(.tmp 59), (.tmp 62)], #[64, 64]⟩)⟩,
                           ⟨some 64, none, (.fieldAddr 66 (.tmp 7) 3)⟩,
                           ⟨none, none, (.store 64 (.tmp 64) (.tmp 63))⟩]))
                        (.ops [⟨some 56, none, (.move (.tmp 8))⟩,
                          ⟨some 57, none, (.binOp .sub 3 (.tmp 56) (.const (.int .i64 1)) 3)⟩,
                          ⟨some 8, none, (.assign (.tmp 57))⟩]))))))
                   .skip))
                 (.ops [⟨some 65, none, (.move (.tmp 5))⟩,
                   ⟨some 66, none, (.load 66 (.tmp 7))⟩,
                   ⟨some 67, none, (.buildSlice 29 1 #[(0, (.tmp 66))])⟩,
                   ⟨some 68, none, (.call ⟨(.builtin .append), #[(.tmp 65), (.tmp 67)], #[29, 29]⟩)⟩,
                   ⟨some 5, none, (.assign (.tmp 68))⟩])))))))
           (.ops [⟨some 23, none, (.move (.tmp 6))⟩,
             ⟨some 24, none, (.binOp .sub 3 (.tmp 23) (.const (.int .i64 1)) 3)⟩,
             ⟨some 6, none, (.assign (.tmp 24))⟩]))))))
      (.seq
       (.seq
        (.ops [⟨some 69, none, (.move (.tmp 4))⟩,
          ⟨some 70, none, (.nilCheck (.tmp 69))⟩,
          ⟨some 71, none, (.fieldAddr 71 (.tmp 70) 1)⟩,
          ⟨some 72, none, (.load 4 (.tmp 71))⟩,
          ⟨some 73, none, (.move (.tmp 72))⟩,
          ⟨some 74, (some (73, false)), (.move (.tmp 4))⟩,
          ⟨some 75, (some (73, false)), (.nilCheck (.tmp 74))⟩,
          ⟨some 76, (some (73, false)), (.fieldAddr 71 (.tmp 75) 0)⟩,
          ⟨some 77, (some (73, false)), (.load 22 (.tmp 76))⟩,
          ⟨some 78, (some (73, false)), (.call ⟨(.builtin .len), #[(.tmp 77)], #[22]⟩)⟩,
          ⟨some 79, (some (73, false)), (.binOp .gtr 3 (.tmp 78) (.const (.int .i64 0)) 3)⟩,
          ⟨some 80, none, (.pick (.tmp 73) (.const (.bool true)) (.tmp 79))⟩,
          ⟨some 81, none, (.move (.tmp 80))⟩,
          ⟨some 82, (some (81, false)), (.move (.tmp 5))⟩,
          ⟨some 83, (some (81, false)), (.call ⟨(.value (.func 26)), #[(.tmp 82)], #[29]⟩)⟩,
          ⟨some 84, (some (81, false)), (.unOp .not 4 (.tmp 83))⟩,
          ⟨some 85, none, (.pick (.tmp 81) (.const (.bool true)) (.tmp 84))⟩])
        (.cond (.tmp 85)
         (.seq
          (.ops [⟨some 2, none, (.assign (.const (.slice none 0 0)))⟩,
            ⟨some 3, none, (.assign (.const (.bool false)))⟩])
          .ret)
         .skip))
       (.seq
        (.ops [⟨some 86, none, (.move (.tmp 5))⟩,
          ⟨some 2, none, (.assign (.tmp 86))⟩,
          ⟨some 3, none, (.assign (.const (.bool true)))⟩])
        .ret))))))
theorem w14 {args : Array Value} {H : AH} {Φ : Value → AH → Prop} (h : rW Try.prog k14 [] (fin Try.prog [(.tmp 2), (.tmp 3)] Φ) (tm0 args) H) : CallsA Try.prog 14 args H Φ :=
  CallsA.w k14 [(.tmp 2), (.tmp 3)] (fun i => if i = 14 then [(1, 0), (1, 4)] else []) Try.func14 rfl rfl (by kernel_rfl) (by kernel_rfl) h

/-- laws.eqFun -/
def k77 : KC :=
  (.seq
   (.ops [⟨some 2, none, (.box 63 (.tmp 0))⟩,
     ⟨some 3, none, (.box 63 (.tmp 1))⟩,
     ⟨some 4, none, (.assign (.const (.bool false)))⟩])
   (.seq
    (.seq
     (.ops [⟨some 5, none, (.fieldAddr 63 (.tmp 2) 0)⟩,
       ⟨some 6, none, (.load 3 (.tmp 5))⟩,
       ⟨some 7, none, (.fieldAddr 63 (.tmp 3) 0)⟩,
       ⟨some 8, none, (.load 3 (.tmp 7))⟩,
       ⟨some 9, none, (.binOp .neq 3 (.tmp 6) (.tmp 8) 3)⟩])
     (.cond (.tmp 9)
      (.seq
       (.ops [⟨some 4, none, (.assign (.const (.bool false)))⟩])
       .ret)
      .skip))
    (.seq
     (.seq
      (.ops [⟨some 10, none, (.fieldAddr 63 (.tmp 2) 1)⟩,
        ⟨some 11, none, (.load 3 (.tmp 10))⟩,
        ⟨some 12, none, (.fieldAddr 63 (.tmp 3) 1)⟩,
        ⟨some 13, none, (.load 3 (.tmp 12))⟩,
        ⟨some 14, none, (.binOp .neq 3 (.tmp 11) (.tmp 13) 3)⟩])
      (.cond (.tmp 14)
       (.seq
        (.ops [⟨some 4, none, (.assign (.const (.bool false)))⟩])
        .ret)
       .skip))
     (.seq
      (.seq
       (.ops [⟨some 15, none, (.fieldAddr 63 (.tmp 2) 2)⟩,
         ⟨some 16, none, (.load 3 (.tmp 15))⟩,
         ⟨some 17, none, (.fieldAddr 63 (.tmp 3) 2)⟩,
         ⟨some 18, none, (.load 3 (.tmp 17))⟩,
         ⟨some 19, none, (.binOp .neq 3 (.tmp 16) (.tmp 18) 3)⟩])
       (.cond (.tmp 19)
        (.seq
         (.ops [⟨some 4, none, (.assign (.const (.bool false)))⟩])
         .ret)
        .skip))
      (.seq
       (.ops [⟨some 4, none, (.assign (.const (.bool true)))⟩])
       .ret)))))
theorem w77 {args : Array Value} {H : AH} {Φ : Value → AH → Prop} (h : rW Try.prog k77 [] (fin Try.prog [(.tmp 4)] Φ) (tm0 args) H) : CallsA Try.prog 77 args H Φ :=
  CallsA.w k77 [(.tmp 4)] (fun _ => []) Try.func77 rfl rfl (by kernel_rfl) (by kernel_rfl) h

/-- laws.eqIntS -/
def k78 : KC :=
  (.seq
   (.ops [⟨some 4, none, (.assign (.const (.bool false)))⟩])
   (.seq
    (.seq
     (.ops [⟨some 6, none, (.move (.tmp 0))⟩,
       ⟨some 7, none, (.call ⟨(.builtin .len), #[(.tmp 6)], #[64]⟩)⟩,
       ⟨some 8, none, (.move (.tmp 1))⟩,
       ⟨some 9, none, (.call ⟨(.builtin .len), #[(.tmp 8)], #[64]⟩)⟩,
       ⟨some 10, none, (.binOp .neq 3 (.tmp 7) (.tmp 9) 3)⟩])
     (.cond (.tmp 10)
      (.seq
       (.ops [⟨some 4, none, (.assign (.const (.bool false)))⟩])
       .ret)
      .skip))
    (.seq
     (.seq
      (.ops [⟨some 5, none, (.assign (.const (.int .i64 0)))⟩])
      (.block 0
       (.loop
        (.seq
         (.seq
          (.ops [⟨some 11, none, (.move (.tmp 5))⟩,
            ⟨some 12, none, (.move (.tmp 0))⟩,
            ⟨some 13, none, (.call ⟨(.builtin .len), #[(.tmp 12)], #[64]⟩)⟩,
            ⟨some 14, none, (.binOp .lss 3 (.tmp 11) (.tmp 13) 3)⟩])
          (.cond (.tmp 14)
           .skip
           (.exit 0)))
         (.seq
          (.block 1
           (.seq
            (.ops [⟨some 17, none, (.move (.tmp 0))⟩,
              ⟨some 18, none, (.move (.tmp 5))⟩,
              ⟨some 19, none, (.indexAddr 64 (.tmp 17) (.tmp 18))⟩,
              ⟨some 20, none, (.load 3 (.tmp 19))⟩,
              ⟨some 21, none, (.move (.tmp 1))⟩,
              ⟨some 22, none, (.move (.tmp 5))⟩,
              ⟨some 23, none, (.indexAddr 64 (.tmp 21) (.tmp 22))⟩,
              ⟨some 24, none, (.load 3 (.tmp 23))⟩,
              ⟨some 25, none, (.binOp .neq 3 (.tmp 20) (.tmp 24) 3)⟩])
            (.cond (.tmp 25)
             (.seq
              (.ops [⟨some 4, none, (.assign (.const (.bool false)))⟩])
              .ret)
             .skip)))
          (.ops [⟨some 15, none, (.move (.tmp 5))⟩,
            ⟨some 16, none, (.binOp .add 3 (.tmp 15) (.const (.int .i64 1)) 3)⟩,
            ⟨some 5, none, (.assign (.tmp 16))⟩]))))))
     (.seq
      (.ops [⟨some 4, none, (.assign (.const (.bool true)))⟩])
      .ret))))
theorem w78 {args : Array Value} {H : AH} {Φ : Value → AH → Prop} (h : rW Try.prog k78 [] (fin Try.prog [(.tmp 4)] Φ) (tm0 args) H) : CallsA Try.prog 78 args H Φ :=
  CallsA.w k78 [(.tmp 4)] (fun i => if i = 6 then [(3, 0), (7, 0)] else []) Try.func78 rfl rfl (by kernel_rfl) (by kernel_rfl) h

/-- laws.eqInstr -/
def k46 : KC :=
  (.seq
   (.ops [⟨some 2, none, (.box 66 (.tmp 0))⟩,
     ⟨some 3, none, (.box 66 (.tmp 1))⟩,
     ⟨some 4, none, (.assign (.const (.bool false)))⟩])
   (.seq
    (.seq
     (.ops [⟨some 5, none, (.fieldAddr 66 (.tmp 2) 0)⟩,
       ⟨some 6, none, (.load 3 (.tmp 5))⟩,
       ⟨some 7, none, (.fieldAddr 66 (.tmp 3) 0)⟩,
       ⟨some 8, none, (.load 3 (.tmp 7))⟩,
       ⟨some 9, none, (.binOp .neq 3 (.tmp 6) (.tmp 8) 3)⟩])
     (.cond (.tmp 9)
      (.seq
       (.ops [⟨some 4, none, (.assign (.const (.bool false)))⟩])
       .ret)
      .skip))
    (.seq
     (.seq
      (.ops [⟨some 10, none, (.fieldAddr 66 (.tmp 2) 1)⟩,
        ⟨some 11, none, (.load 3 (.tmp 10))⟩,
        ⟨some 12, none, (.fieldAddr 66 (.tmp 3) 1)⟩,
        ⟨some 13, none, (.load 3 (.tmp 12))⟩,
        ⟨some 14, none, (.binOp .neq 3 (.tmp 11) (.tmp 13) 3)⟩])
      (.cond (.tmp 14)
       (.seq
        (.ops [⟨some 4, none, (.assign (.const (.bool false)))⟩])
        .ret)
       .skip))
     (.seq
      (.seq
       (.ops [⟨some 15, none, (.fieldAddr 66 (.tmp 2) 2)⟩,
         ⟨some 16, none, (.load 63 (.tmp 15))⟩,
         ⟨some 17, none, (.fieldAddr 66 (.tmp 3) 2)⟩,
         ⟨some 18, none, (.load 63 (.tmp 17))⟩,
         ⟨some 19, none, (.call ⟨(.value (.func 77)), #[(.tmp 16), (.tmp 18)], #[63, 63]⟩)⟩,
         ⟨some 20, none, (.unOp .not 4 (.tmp 19))⟩])
       (.cond (.tmp 20)
        (.seq
         (.ops [⟨some 4, none, (.assign (.const (.bool false)))⟩])
         .ret)
        .skip))
      (.seq
       (.seq
        (.ops [⟨some 21, none, (.fieldAddr 66 (.tmp 2) 3)⟩,
          ⟨some 22, none, (.load 64 (.tmp 21))⟩,
          ⟨some 23, none, (.fieldAddr 66 (.tmp 3) 3)⟩,
          ⟨some 24, none, (.load 64 (.tmp 23))⟩,
          ⟨some 25, none, (.call ⟨(.value (.func 78)), #[(.tmp 22), (.tmp 24)], #[64, 64]⟩)⟩,
          ⟨some 26, none, (.unOp .not 4 (.tmp 25))⟩])
        (.cond (.tmp 26)
         (.seq
          (.ops [⟨some 4, none, (.assign (.const (.bool false)))⟩])
          .ret)
         .skip))
       (.seq
        (.ops [⟨some 4, none, (.assign (.const (.bool true)))⟩])
        .ret))))))
theorem w46 {args : Array Value} {H : AH} {Φ : Value → AH → Prop} (h : rW Try.prog k46 [] (fin Try.prog [(.tmp 4)] Φ) (tm0 args) H) : CallsA Try.prog 46 args H Φ :=
  CallsA.w k46 [(.tmp 4)] (fun _ => []) Try.func46 rfl rfl (by kernel_rfl) (by kernel_rfl) h

/-- laws.eqInstrS -/
def k15 : KC :=
  (.seq
   (.ops [⟨some 4, none, (.assign (.const (.bool false)))⟩])
   (.seq
    (.seq
     (.ops [⟨some 6, none, (.move (.tmp 0))⟩,
       ⟨some 7, none, (.call ⟨(.builtin .len), #[(.tmp 6)], #[29]⟩)⟩,
       ⟨some 8, none, (.move (.tmp 1))⟩,
       ⟨some 9, none, (.call ⟨(.builtin .len), #[(.tmp 8)], #[29]⟩)⟩,
       ⟨some 10, none, (.binOp .neq 3 (.tmp 7) (.tmp 9) 3)⟩])
     (.cond (.tmp 10)
      (.seq
       (.ops [⟨some 4, none, (.assign (.const (.bool false)))⟩])
       .ret)
      .skip))
    (.seq
     (.seq
      (.ops [⟨some 5, none, (.assign (.const (.int .i64 0)))⟩])
      (.block 0
       (.loop
        (.seq
         (.seq
          (.ops [⟨some 11, none, (.move (.tmp 5))⟩,
            ⟨some 12, none, (.move (.tmp 0))⟩,
            ⟨some 13, none, (.call ⟨(.builtin .len), #[(.tmp 12)], #[29]⟩)⟩,
            ⟨some 14, none, (.binOp .lss 3 (.tmp 11) (.tmp 13) 3)⟩])
          (.cond (.tmp 14)
           .skip
           (.exit 0)))
         (.seq
          (.block 1
           (.seq
            (.draw #[] [(3, 0), (7, 0)]
              [⟨some 17, none, (.move (.tmp 0))⟩,
              ⟨some 18, none, (.move (.tmp 5))⟩,
              ⟨some 19, none, (.indexAddr 29 (.tmp 17) (.tmp 18))⟩,
              ⟨some 20, none, (.load 66 (.tmp 19))⟩,
              ⟨some 21, none, (.move (.tmp 1))⟩,
              ⟨some 22, none, (.move (.tmp 5))⟩,
              ⟨some 23, none, (.indexAddr 29 (.tmp 21) (.tmp 22))⟩,
              ⟨some 24, none, (.load 66 (.tmp 23))⟩,
              ⟨some 25, none, (.call ⟨(.value (.func 46)), #[(.tmp 20), (.tmp 24)], #[66, 66]⟩)⟩,
              ⟨some 26, none, (.unOp .not 4 (.tmp 25))⟩])
            (.cond (.tmp 26)
             (.seq
              (.ops [⟨some 4, none, (.assign (.const (.bool false)))⟩])
              .ret)
             .skip)))
          (.ops [⟨some 15, none, (.move (.tmp 5))⟩,
            ⟨some 16, none, (.binOp .add 3 (.tmp 15) (.const (.int .i64 1)) 3)⟩,
            ⟨some 5, none, (.assign (.tmp 16))⟩]))))))
     (.seq
      (.ops [⟨some 4, none, (.assign (.const (.bool true)))⟩])
      .ret))))
theorem w15 {args : Array Value} {H : AH} {Φ : Value → AH → Prop} (h : rW Try.prog k15 [] (fin Try.prog [(.tmp 4)] Φ) (tm0 args) H) : CallsA Try.prog 15 args H Φ :=
  CallsA.w k15 [(.tmp 4)] (fun i => if i = 6 then [(3, 0), (7, 0)] else []) Try.func15 rfl rfl (by kernel_rfl) (by kernel_rfl) h

/-- laws.eqByteS -/
def k16 : KC :=
  (.seq
   (.ops [⟨some 4, none, (.assign (.const (.bool false)))⟩])
   (.seq
    (.seq
     (.ops [⟨some 6, none, (.move (.tmp 0))⟩,
       ⟨some 7, none, (.call ⟨(.builtin .len), #[(.tmp 6)], #[22]⟩)⟩,
       ⟨some 8, none, (.move (.tmp 1))⟩,
       ⟨some 9, none, (.call ⟨(.builtin .len), #[(.tmp 8)], #[22]⟩)⟩,
       ⟨some 10, none, (.binOp .neq 3 (.tmp 7) (.tmp 9) 3)⟩])
     (.cond (.tmp 10)
      (.seq
       (.ops [⟨some 4, none, (.assign (.const (.bool false)))⟩])
       .ret)
      .skip))
    (.seq
     (.seq
      (.ops [⟨some 5, none, (.assign (.const (.int .i64 0)))⟩])
      (.block 0
       (.loop
        (.seq
         (.seq
          (.ops [⟨some 11, none, (.move (.tmp 5))⟩,
            ⟨some 12, none, (.move (.tmp 0))⟩,
            ⟨some 13, none, (.call ⟨(.builtin .len), #[(.tmp 12)], #[22]⟩)⟩,
            ⟨some 14, none, (.binOp .lss 3 (.tmp 11) (.tmp 13) 3)⟩])
          (.cond (.tmp 14)
           .skip
           (.exit 0)))
         (.seq
          (.block 1
           (.seq
            (.ops [⟨some 17, none, (.move (.tmp 0))⟩,
              ⟨some 18, none, (.move (.tmp 5))⟩,
              ⟨some 19, none, (.indexAddr 22 (.tmp 17) (.tmp 18))⟩,
              ⟨some 20, none, (.load 5 (.tmp 19))⟩,
              ⟨some 21, none, (.move (.tmp 1))⟩,
              ⟨some 22, none, (.move (.tmp 5))⟩,
              ⟨some 23, none, (.indexAddr 22 (.tmp 21) (.tmp 22))⟩,
              ⟨some 24, none, (.load 5 (.tmp 23))⟩,
              ⟨some 25, none, (.binOp .neq 5 (.tmp 20) (.tmp 24) 5)⟩])
            (.cond (.tmp 25)
             (.seq
              (.ops [⟨some 4, none, (.assign (.const (.bool false)))⟩])
              .ret)
             .skip)))
          (.ops [⟨some 15, none, (.move (.tmp 5))⟩,
            ⟨some 16, none, (.binOp .add 3 (.tmp 15) (.const (.int .i64 1)) 3)⟩,
            ⟨some 5, none, (.assign (.tmp 16))⟩]))))))
     (.seq
      (.ops [⟨some 4, none, (.assign (.const (.bool true)))⟩])
      .ret))))
theorem w16 {args : Array Value} {H : AH} {Φ : Value → AH → Prop} (h : rW Try.prog k16 [] (fin Try.prog [(.tmp 4)] Φ) (tm0 args) H) : CallsA Try.prog 16 args H Φ :=
  CallsA.w k16 [(.tmp 4)] (fun i => if i = 6 then [(3, 0), (7, 0)] else []) Try.func16 rfl rfl (by kernel_rfl) (by kernel_rfl) h

/-- laws.markByteS -/
def k17 : KC :=
  (.seq
   (.ops [⟨some 4, none, (.assign (.const (.int .i64 0)))⟩])
   (.seq
    (.seq
     (.ops [⟨some 5, none, (.assign (.const (.int .i64 0)))⟩])
     (.block 0
      (.loop
       (.seq
        (.seq
         (.ops [⟨some 6, none, (.move (.tmp 5))⟩,
           ⟨some 7, none, (.move (.tmp 0))⟩,
           ⟨some 8, none, (.call ⟨(.builtin .len), #[(.tmp 7)], #[22]⟩)⟩,
           ⟨some 9, none, (.binOp .lss 3 (.tmp 6) (.tmp 8) 3)⟩])
         (.cond (.tmp 9)
          .skip
          (.exit 0)))
        (.seq
         (.block 1
          (.seq
           (.ops [⟨some 12, none, (.move (.tmp 0))⟩,
             ⟨some 13, none, (.move (.tmp 5))⟩,
             ⟨some 14, none, (.move (.tmp 1))⟩,
             ⟨some 15, none, (.convert 3 5 (.tmp 14))⟩,
             ⟨some 16, none, (.indexAddr 22 (.tmp 12) (.tmp 13))⟩,
             ⟨none, none, (.store 5 (.tmp 16) (.tmp 15))⟩])
           (.ops [⟨some 17, none, (.move (.tmp 1))⟩,
             ⟨some 18, none, (.binOp .add 3 (.tmp 17) (.const (.int .i64 1)) 3)⟩,
             ⟨some 1, none, (.assign (.tmp 18))⟩])))
         (.ops [⟨some 10, none, (.move (.tmp 5))⟩,
           ⟨some 11, none, (.binOp .add 3 (.tmp 10) (.const (.int .i64 1)) 3)⟩,
           ⟨some 5, none, (.assign (.tmp 11))⟩]))))))
    (.seq
     (.ops [⟨some 19, none, (.move (.tmp 1))⟩,
       ⟨some 4, none, (.assign (.tmp 19))⟩])
     .ret)))
theorem w17 {args : Array Value} {H : AH} {Φ : Value → AH → Prop} (h : rW Try.prog k17 [] (fin Try.prog [(.tmp 4)] Φ) (tm0 args) H) : CallsA Try.prog 17 args H Φ :=
  CallsA.w k17 [(.tmp 4)] (fun _ => []) Try.func17 rfl rfl (by kernel_rfl) (by kernel_rfl) h

/-- laws.markIntS -/
def k47 : KC :=
  (.seq
   (.ops [⟨some 4, none, (.assign (.const (.int .i64 0)))⟩])
   (.seq
    (.seq
     (.ops [⟨some 5, none, (.assign (.const (.int .i64 0)))⟩])
     (.block 0
      (.loop
       (.seq
        (.seq
         (.ops [⟨some 6, none, (.move (.tmp 5))⟩,
           ⟨some 7, none, (.move (.tmp 0))⟩,
           ⟨some 8, none, (.call ⟨(.builtin .len), #[(.tmp 7)], #[64]⟩)⟩,
           ⟨some 9, none, (.binOp .lss 3 (.tmp 6) (.tmp 8) 3)⟩])
         (.cond (.tmp 9)
          .skip
          (.exit 0)))
        (.seq
         (.block 1
          (.seq
           (.ops [⟨some 12, none, (.move (.tmp 0))⟩,
             ⟨some 13, none, (.move (.tmp 5))⟩,
             ⟨some 14, none, (.move (.tmp 1))⟩,
             ⟨some 15, none, (.indexAddr 64 (.tmp 12) (.tmp 13))⟩,
             ⟨none, none, (.store 3 (.tmp 15) (.tmp 14))⟩])
           (.ops [⟨some 16, none, (.move (.tmp 1))⟩,
             ⟨some 17, none, (.binOp .add 3 (.tmp 16) (.const (.int .i64 1)) 3)⟩,
             ⟨some 1, none, (.assign (.tmp 17))⟩])))
         (.ops [⟨some 10, none, (.move (.tmp 5))⟩,
           ⟨some 11, none, (.binOp .add 3 (.tmp 10) (.const (.int .i64 1)) 3)⟩,
           ⟨some 5, none, (.assign (.tmp 11))⟩]))))))
    (.seq
     (.ops [⟨some 18, none, (.move (.tmp 1))⟩,
       ⟨some 4, none, (.assign (.tmp 18))⟩])
     .ret)))
theorem w47 {args : Array Value} {H : AH} {Φ : Value → AH → Prop} (h : rW Try.prog k47 [] (fin Try.prog [(.tmp 4)] Φ) (tm0 args) H) : CallsA Try.prog 47 args H Φ :=
  CallsA.w k47 [(.tmp 4)] (fun _ => []) Try.func47 rfl rfl (by kernel_rfl) (by kernel_rfl) h

/-- laws.markInstrS -/
def k18 : KC :=
  (.seq
   (.ops [⟨some 4, none, (.assign (.const (.int .i64 0)))⟩])
   (.seq
    (.seq
     (.ops [⟨some 5, none, (.assign (.const (.int .i64 0)))⟩])
     (.block 0
      (.loop
       (.seq
        (.seq
         (.ops [⟨some 6, none, (.move (.tmp 5))⟩,
           ⟨some 7, none, (.move (.tmp 0))⟩,
           ⟨some 8, none, (.call ⟨(.builtin .len), #[(.tmp 7)], #[29]⟩)⟩,
           ⟨some 9, none, (.binOp .lss 3 (.tmp 6) (.tmp 8) 3)⟩])
         (.cond (.tmp 9)
          .skip
          (.exit 0)))
        (.seq
         (.block 1
          (.seq
           (.ops [⟨some 12, none, (.move (.tmp 0))⟩,
             ⟨some 13, none, (.move (.tmp 5))⟩,
             ⟨some 14, none, (.move (.tmp 1))⟩,
             ⟨some 15, none, (.indexAddr 29 (.tmp 12) (.tmp 13))⟩,
             ⟨some 16, none, (.fieldAddr 66 (.tmp 15) 0)⟩,
             ⟨none, none, (.store 3 (.tmp 16) (.tmp 14))⟩])
           (.seq
            (.ops [⟨some 17, none, (.move (.tmp 1))⟩,
              ⟨some 18, none, (.binOp .add 3 (.tmp 17) (.const (.int .i64 1)) 3)⟩,
              ⟨some 1, none, (.assign (.tmp 18))⟩])
            (.seq
             (.ops [⟨some 19, none, (.move (.tmp 0))⟩,
               ⟨some 20, none, (.move (.tmp 5))⟩,
               ⟨some 21, none, (.move (.tmp 1))⟩,
               ⟨some 22, none, (.indexAddr 29 (.tmp 19) (.tmp 20))⟩,
               ⟨some 23, none, (.fieldAddr 66 (.tmp 22) 1)⟩,
               ⟨none, none, (.store 3 (.tmp 23) (.tmp 21))⟩])
             (.seq
              (.ops [⟨some 24, none, (.move (.tmp 1))⟩,
                ⟨some 25, none, (.binOp .add 3 (.tmp 24) (.const (.int .i64 1)) 3)⟩,
                ⟨some 1, none, (.assign (.tmp 25))⟩])
              (.seq
               (.ops [⟨some 26, none, (.move (.tmp 0))⟩,
                 ⟨some 27, none, (.move (.tmp 5))⟩,
                 ⟨some 28, none, (.move (.tmp 1))⟩,
                 ⟨some 29, none, (.indexAddr 29 (.tmp 26) (.tmp 27))⟩,
                 ⟨some 30, none, (.fieldAddr 66 (.tmp 29) 2)⟩,
                 ⟨some 31, none, (.fieldAddr 63 (.tmp 30) 0)⟩,
                 ⟨none, none, (.store 3 (.tmp 31) (.tmp 28))⟩])
               (.seq
                (.ops [⟨some 32, none, (.move (.tmp 1))⟩,
                  ⟨some 33, none, (.binOp .add 3 (.tmp 32) (.const (.int .i64 1)) 3)⟩,
                  ⟨some 1, none, (.assign (.tmp 33))⟩])
                (.seq
                 (.ops [⟨some 34, none, (.move (.tmp 0))⟩,
                   ⟨some 35, none, (.move (.tmp 5))⟩,
                   ⟨some 36, none, (.move (.tmp 1))⟩,
                   ⟨some 37, none, (.indexAddr 29 (.tmp 34) (.tmp 35))⟩,
                   ⟨some 38, none, (.fieldAddr 66 (.tmp 37) 2)⟩,
                   ⟨some 39, none, (.fieldAddr 63 (.tmp 38) 1)⟩,
                   ⟨none, none, (.store 3 (.tmp 39) (.tmp 36))⟩])
                 (.seq
                  (.ops [⟨some 40, none, (.move (.tmp 1))⟩,
                    ⟨some 41, none, (.binOp .add 3 (.tmp 40) (.const (.int .i64 1)) 3)⟩,
                    ⟨some 1, none, (.assign (.tmp 41))⟩])
                  (.seq
                   (.ops [⟨some 42, none, (.move (.tmp 0))⟩,
                     ⟨some 43, none, (.move (.tmp 5))⟩,
                     ⟨some 44, none, (.move (.tmp 1))⟩,
                     ⟨some 45, none, (.indexAddr 29 (.tmp 42) (.tmp 43))⟩,
                     ⟨some 46, none, (.fieldAddr 66 (.tmp 45) 2)⟩,
                     ⟨some 47, none, (.fieldAddr 63 (.tmp 46) 2)⟩,
                     ⟨none, none, (.store 3 (.tmp 47) (.tmp 44))⟩])
                   (.seq
                    (.ops [⟨some 48, none, (.move (.tmp 1))⟩,
                      ⟨some 49, none, (.binOp .add 3 (.tmp 48) (.const (.int .i64 1)) 3)⟩,
                      ⟨some 1, none, (.assign (.tmp 49))⟩])
                    (.ops [⟨some 50, none, (.move (.tmp 0))⟩,
                      ⟨some 51, none, (.move (.tmp 5))⟩,
                      ⟨some 52, none, (.indexAddr 29 (.tmp 50) (.tmp 51))⟩,
                      ⟨some 53, none, (.fieldAddr 66 (.tmp 52) 3)⟩,
                      ⟨some 54, none, (.load 64 (.tmp 53))⟩,
                      ⟨some 55, none, (.move (.tmp 1))⟩,
                      ⟨some 56, none, (.call ⟨(.value (.func 47)), #[(.tmp 54), (.tmp 55)], #[64, 3]⟩)⟩,
                      ⟨some 1, none, (.assign (.tmp 56))⟩]))))))))))))
         (.ops [⟨some 10, none, (.move (.tmp 5))⟩,
           ⟨some 11, none, (.binOp .add 3 (.tmp 10) (.const (.int .i64 1)) 3)⟩,
           ⟨some 5, none, (.assign (.tmp 11))⟩]))))))
    (.seq
     (.ops [⟨some 57, none, (.move (.tmp 1))⟩,
       ⟨some 4, none, (.assign (.tmp 57))⟩])
     .ret)))
theorem w18 {args : Array Value} {H : AH} {Φ : Value → AH → Prop} (h : rW Try.prog k18 [] (fin Try.prog [(.tmp 4)] Φ) (tm0 args) H) : CallsA Try.prog 18 args H Φ :=
  CallsA.w k18 [(.tmp 4)] (fun _ => []) Try.func18 rfl rfl (by kernel_rfl) (by kernel_rfl) h

/-- laws.heldIntS -/
def k48 : KC :=
  (.seq
   (.ops [⟨some 4, none, (.assign (.const (.int .i64 0)))⟩])
   (.seq
    (.seq
     (.ops [⟨some 5, none, (.assign (.const (.int .i64 0)))⟩])
     (.block 0
      (.loop
       (.seq
        (.seq
         (.ops [⟨some 6, none, (.move (.tmp 5))⟩,
           ⟨some 7, none, (.move (.tmp 0))⟩,
           ⟨some 8, none, (.call ⟨(.builtin .len), #[(.tmp 7)], #[64]⟩)⟩,
           ⟨some 9, none, (.binOp .lss 3 (.tmp 6) (.tmp 8) 3)⟩])
         (.cond (.tmp 9)
          .skip
          (.exit 0)))
        (.seq
         (.block 1
          (.seq
           (.seq
            (.ops [⟨some 12, none, (.move (.tmp 0))⟩,
              ⟨some 13, none, (.move (.tmp 5))⟩,
              ⟨some 14, none, (.indexAddr 64 (.tmp 12) (.tmp 13))⟩,
              ⟨some 15, none, (.load 3 (.tmp 14))⟩,
              ⟨some 16, none, (.move (.tmp 1))⟩,
              ⟨some 17, none, (.binOp .neq 3 (.tmp 15) (.tmp 16) 3)⟩])
            (.cond (.tmp 17)
             (.seq
              (.ops [⟨some 4, none, (.assign (.const (.int .i64 (-1))))⟩])
              .ret)
             .skip))
           (.ops [⟨some 18, none, (.move (.tmp 1))⟩,
             ⟨some 19, none, (.binOp .add 3 (.tmp 18) (.const (.int .i64 1)) 3)⟩,
             ⟨some 1, none, (.assign (.tmp 19))⟩])))
         (.ops [⟨some 10, none, (.move (.tmp 5))⟩,
           ⟨some 11, none, (.binOp .add 3 (.tmp 10) (.const (.int .i64 1)) 3)⟩,
           ⟨some 5, none, (.assign (.tmp 11))⟩]))))))
    (.seq
     (.ops [⟨some 20, none, (.move (.tmp 1))⟩,
       ⟨some 4, none, (.assign (.tmp 20))⟩])
     .ret)))
theorem w48 {args : Array Value} {H : AH} {Φ : Value → AH → Prop} (h : rW Try.prog k48 [] (fin Try.prog [(.tmp 4)] Φ) (tm0 args) H) : CallsA Try.prog 48 args H Φ :=
  CallsA.w k48 [(.tmp 4)] (fun _ => []) Try.func48 rfl rfl (by kernel_rfl) (by kernel_rfl) h

/-- laws.heldInstrS -/
def k19 : KC :=
  (.seq
   (.ops [⟨some 4, none, (.assign (.const (.int .i64 0)))⟩])
   (.seq
    (.seq
     (.ops [⟨some 5, none, (.assign (.const (.int .i64 0)))⟩])
     (.block 0
      (.loop
       (.seq
        (.seq
         (.ops [⟨some 6, none, (.move (.tmp 5))⟩,
           ⟨some 7, none, (.move (.tmp 0))⟩,
           ⟨some 8, none, (.call ⟨(.builtin .len), #[(.tmp 7)], #[29]⟩)⟩,
           ⟨some 9, none, (.binOp .lss 3 (.tmp 6) (.tmp 8) 3)⟩])
         (.cond (.tmp 9)
          .skip
          (.exit 0)))
        (.seq
         (.block 1
          (.seq
           (.seq
            (.ops [⟨some 12, none, (.move (.tmp 0))⟩,
              ⟨some 13, none, (.move (.tmp 5))⟩,
              ⟨some 14, none, (.indexAddr 29 (.tmp 12) (.tmp 13))⟩,
              ⟨some 15, none, (.fieldAddr 66 (.tmp 14) 0)⟩,
              ⟨some 16, none, (.load 3 (.tmp 15))⟩,
              ⟨some 17, none, (.move (.tmp 1))⟩,
              ⟨some 18, none, (.binOp .neq 3 (.tmp 16) (.tmp 17) 3)⟩])
            (.cond (.tmp 18)
             (.seq
              (.ops [⟨some 4, none, (.assign (.const (.int .i64 (-1))))⟩])
              .ret)
             .skip))
           (.seq
            (.ops [⟨some 19, none, (.move (.tmp 1))⟩,
              ⟨some 20, none, (.binOp .add 3 (.tmp 19) (.const (.int .i64 1)) 3)⟩,
              ⟨some 1, none, (.assign (.tmp 20))⟩])
            (.seq
             (.seq
              (.ops [⟨some 21, none, (.move (.tmp 0))⟩,
                ⟨some 22, none, (.move (.tmp 5))⟩,
                ⟨some 23, none, (.indexAddr 29 (.tmp 21) (.tmp 22))⟩,
                ⟨some 24, none, (.fieldAddr 66 (.tmp 23) 1)⟩,
                ⟨some 25, none, (.load 3 (.tmp 24))⟩,
                ⟨some 26, none, (.move (.tmp 1))⟩,
                ⟨some 27, none, (.binOp .neq 3 (.tmp 25) (.tmp 26) 3)⟩])
              (.cond (.tmp 27)
               (.seq
                (.ops [⟨some 4, none, (.assign (.const (.int .i64 (-1))))⟩])
                .ret)
               .skip))
             (.seq
              (.ops [⟨some 28, none, (.move (.tmp 1))⟩,
                ⟨some 29, none, (.binOp .add 3 (.tmp 28) (.const (.int .i64 1)) 3)⟩,
                ⟨some 1, none, (.assign (.tmp 29))⟩])
              (.seq
               (.seq
                (.ops [⟨some 30, none, (.move (.tmp 0))⟩,
                  ⟨some 31, none, (.move (.tmp 5))⟩,
                  ⟨some 32, none, (.indexAddr 29 (.tmp 30) (.tmp 31))⟩,
                  ⟨some 33, none, (.fieldAddr 66 (.tmp 32) 2)⟩,
                  ⟨some 34, none, (.fieldAddr 63 (.tmp 33) 0)⟩,
                  ⟨some 35, none, (.load 3 (.tmp 34))⟩,
                  ⟨some 36, none, (.move (.tmp 1))⟩,
                  ⟨some 37, none, (.binOp .neq 3 (.tmp 35) (.tmp 36) 3)⟩])
                (.cond (.tmp 37)
                 (.seq
                  (.ops [⟨some 4, none, (.assign (.const (.int .i64 (-1))))⟩])
                  .ret)
                 .skip))
               (.seq
                (.ops [⟨some 38, none, (.move (.tmp 1))⟩,
                  ⟨some 39, none, (.binOp .add 3 (.tmp 38) (.const (.int .i64 1)) 3)⟩,
                  ⟨some 1, none, (.assign (.tmp 39))⟩])
                (.seq
                 (.seq
                  (.ops [⟨some 40, none, (.move (.tmp 0))⟩,
                    ⟨some 41, none, (.move (.tmp 5))⟩,
                    ⟨some 42, none, (.indexAddr 29 (.tmp 40) (.tmp 41))⟩,
                    ⟨some 43, none, (.fieldAddr 66 (.tmp 42) 2)⟩,
                    ⟨some 44, none, (.fieldAddr 63 (.tmp 43) 1)⟩,
                    ⟨some 45, none, (.load 3 (.tmp 44))⟩,
                    ⟨some 46, none, (.move (.tmp 1))⟩,
                    ⟨some 47, none, (.binOp .neq 3 (.tmp 45) (.tmp 46) 3)⟩])
                  (.cond (.tmp 47)
                   (.seq
                    (.ops [⟨some 4, none, (.assign (.const (.int .i64 (-1))))⟩])
                    .ret)
                   .skip))
                 (.seq
                  (.ops [⟨some 48, none, (.move (.tmp 1))⟩,
                    ⟨some 49, none, (.binOp .add 3 (.tmp 48) (.const (.int .i64 1)) 3)⟩,
                    ⟨some 1, none, (.assign (.tmp 49))⟩])
                  (.seq
                   (.seq
                    (.ops [⟨some 50, none, (.move (.tmp 0))⟩,
                      ⟨some 51, none, (.move (.tmp 5))⟩,
                      ⟨some 52, none, (.indexAddr 29 (.tmp 50) (.tmp 51))⟩,
                      ⟨some 53, none, (.fieldAddr 66 (.tmp 52) 2)⟩,
                      ⟨some 54, none, (.fieldAddr 63 (.tmp 53) 2)⟩,
                      ⟨some 55, none, (.load 3 (.tmp 54))⟩,
                      ⟨some 56, none, (.move (.tmp 1))⟩,
                      ⟨some 57, none, (.binOp .neq 3 (.tmp 55) (.tmp 56) 3)⟩])
                    (.cond (.tmp 57)
                     (.seq
                      (.ops [⟨some 4, none, (.assign (.const (.int .i64 (-1))))⟩])
                      .ret)
                     .skip))
                   (.seq
                    (.ops [⟨some 58, none, (.move (.tmp 1))⟩,
                      ⟨some 59, none, (.binOp .add 3 (.tmp 58) (.const (.int .i64 1)) 3)⟩,
                      ⟨some 1, none, (.assign (.tmp 59))⟩])
                    (.seq
                     (.ops [⟨some 60, none, (.move (.tmp 0))⟩,
                       ⟨some 61, none, (.move (.tmp 5))⟩,
                       ⟨some 62, none, (.indexAddr 29 (.tmp 60) (.tmp 61))⟩,
                       ⟨some 63, none, (.fieldAddr 66 (.tmp 62) 3)⟩,
                       ⟨some 64, none, (.load 64 (.tmp 63))⟩,
                       ⟨some 65, none, (.move (.tmp 1))⟩,
                       ⟨some 66, none, (.call ⟨(.value (.func 48)), #[(.tmp 64), (.tmp 65)], #[64, 3]⟩)⟩,
                       ⟨some 1, none, (.assign (.tmp 66))⟩])
                     (.seq
                      (.ops [⟨some 67, none, (.move (.tmp 1))⟩,
                        ⟨some 68, none, (.binOp .lss 3 (.tmp 67) (.const (.int .i64 0)) 3)⟩])
                      (.cond (.tmp 68)
                       (.seq
                        (.ops [⟨some 4, none, (.assign (.const (.int .i64 (-1))))⟩])
                        .ret)
                       .skip))))))))))))))
         (.ops [⟨some 10, none, (.move (.tmp 5))⟩,
           ⟨some 11, none, (.binOp .add 3 (.tmp 10) (.const (.int .i64 1)) 3)⟩,
           ⟨some 5, none, (.assign (.tmp 11))⟩]))))))
    (.seq
     (.ops [⟨some 69, none, (.move (.tmp 1))⟩,
       ⟨some 4, none, (.assign (.tmp 69))⟩])
     .ret)))
theorem w19 {args : Array Value} {H : AH} {Φ : Value → AH → Prop} (h : rW Try.prog k19 [] (fin Try.prog [(.tmp 4)] Φ) (tm0 args) H) : CallsA Try.prog 19 args H Φ :=
  CallsA.w k19 [(.tmp 4)] (fun _ => []) Try.func19 rfl rfl (by kernel_rfl) (by kernel_rfl) h

/-- laws.FnExactCodeRead -/
def k4 : KC :=
  (.seq
   (.ops [⟨some 2, none, (.assign (.const (.bool false)))⟩])
   (.seq
    (.seq
     (.ops [⟨some 13, none, (.move (.tmp 0))⟩,
       ⟨some 14, none, (.call ⟨(.builtin .len), #[(.tmp 13)], #[22]⟩)⟩,
       ⟨some 15, none, (.binOp .gtr 3 (.tmp 14) (.const (.int .i64 1048576)) 3)⟩])
     (.cond (.tmp 15)
      (.seq
       (.ops [⟨some 2, none, (.assign (.const (.bool true)))⟩])
       .ret)
      .skip))
    (.seq
     (.ops [⟨some 17, none, (.move (.tmp 0))⟩,
       ⟨some 18, none, (.call ⟨(.value (.func 13)), #[(.tmp 17)], #[22]⟩)⟩,
       ⟨some 19, none, (.call ⟨(.value (.func 12)), #[(.tmp 18)], #[22]⟩)⟩,
       ⟨some 16, none, (.move (.tmp 19))⟩,
       ⟨some 20, none, (.extract (.tmp 16) 0)⟩,
       ⟨some 21, none, (.extract (.tmp 16) 1)⟩,
       ⟨some 3, none, (.assign (.tmp 20))⟩,
       ⟨some 4, none, (.assign (.tmp 21))⟩])
     (.seq
      (.ops [⟨some 22, none, (.move (.tmp 0))⟩,
        ⟨some 23, none, (.call ⟨(.value (.func 13)), #[(.tmp 22)], #[22]⟩)⟩,
        ⟨some 5, none, (.assign (.tmp 23))⟩])
      (.seq
       (.ops [⟨some 25, none, (.move (.tmp 5))⟩,
         ⟨some 26, none, (.call ⟨(.value (.func 14)), #[(.tmp 25)], #[22]⟩)⟩,
         ⟨some 24, none, (.move (.tmp 26))⟩,
         ⟨some 27, none, (.extract (.tmp 24) 0)⟩,
         ⟨some 28, none, (.extract (.tmp 24) 1)⟩,
         ⟨some 6, none, (.assign (.tmp 27))⟩,
         ⟨some 7, none, (.assign (.tmp 28))⟩])
       (.seq
        (.seq
         (.ops [⟨some 29, none, (.move (.tmp 6))⟩,
           ⟨some 30, none, (.move (.tmp 3))⟩,
           ⟨some 31, none, (.call ⟨(.value (.func 15)), #[(.tmp 29), (.tmp 30)], #[29, 29]⟩)⟩,
           ⟨some 32, none, (.unOp .not 4 (.tmp 31))⟩,
           ⟨some 33, none, (.move (.tmp 32))⟩,
           ⟨some 34, (some (33, false)), (.move (.tmp 7))⟩,
           ⟨some 35, (some (33, false)), (.move (.tmp 4))⟩,
           ⟨some 36, (some (33, false)), (.binOp .neq 4 (.tmp 34) (.tmp 35) 4)⟩,
           ⟨some 37, none, (.pick (.tmp 33) (.const (.bool true)) (.tmp 36))⟩])
         (.cond (.tmp 37)
          (.seq
           (.ops [⟨some 2, none, (.assign (.const (.bool false)))⟩])
           .ret)
          .skip))
        (.seq
         (.seq
          (.ops [⟨some 38, none, (.move (.tmp 5))⟩,
            ⟨some 39, none, (.move (.tmp 0))⟩,
            ⟨some 40, none, (.call ⟨(.value (.func 13)), #[(.tmp 39)], #[22]⟩)⟩,
            ⟨some 41, none, (.call ⟨(.value (.func 16)), #[(.tmp 38), (.tmp 40)], #[22, 22]⟩)⟩,
            ⟨some 42, none, (.unOp .not 4 (.tmp 41))⟩])
          (.cond (.tmp 42)
           (.seq
            (.ops [⟨some 2, none, (.assign (.const (.bool false)))⟩])
            .ret)
           .skip))
         (.seq
          (.ops [⟨some 8, none, (.assign (.const (.int .i64 1)))⟩])
          (.seq
           (.ops [⟨some 43, none, (.move (.tmp 5))⟩,
             ⟨some 44, none, (.move (.tmp 8))⟩,
             ⟨some 45, none, (.call ⟨(.value (.func 17)), #[(.tmp 43), (.tmp 44)], #[22, 3]⟩)⟩,
             ⟨some 8, none, (.assign (.tmp 45))⟩])
           (.seq
            (.seq
             (.ops [⟨some 46, none, (.move (.tmp 8))⟩,
               ⟨some 47, none, (.binOp .lss 3 (.tmp 46) (.const (.int .i64 0)) 3)⟩,
               ⟨some 48, none, (.move (.tmp 47))⟩,
               ⟨some 49, (some (48, false)), (.move (.tmp 6))⟩,
               ⟨some 50, (some (48, false)), (.move (.tmp 3))⟩,
               ⟨some 51, (some (48, false)), (.call ⟨(.value (.func 15)), #[(.tmp 49), (.tmp 50)], #[29, 29]⟩)⟩,
               ⟨some 52, (some (48, false)), (.unOp .not 4 (.tmp 51))⟩,
               ⟨some 53, none, (.pick (.tmp 48) (.const (.bool true)) (.tmp 52))⟩,
               ⟨some 54, none, (.move (.tmp 53))⟩,
               ⟨some 55, (some (54, false)), (.move (.tmp 7))⟩,
               ⟨some 56, (some (54, false)), (.move (.tmp 4))⟩,
               ⟨some 57, (some (54, false)), (.binOp .neq 4 (.tmp 55) (.tmp 56) 4)⟩,
               ⟨some 58, none, (.pick (.tmp 54) (.const (.bool true)) (.tmp 57))⟩])
             (.cond (.tmp 58)
              (.seq
               (.ops [⟨some 2, none, (.assign (.const (.bool false)))⟩])
               .ret)
              .skip))
            (.seq
             (.ops [⟨some 9, none, (.assign (.const (.int .i64 1)))⟩])
             (.seq
              (.ops [⟨some 59, none, (.move (.tmp 6))⟩,
                ⟨some 60, none, (.move (.tmp 9))⟩,
                ⟨some 61, none, (.call ⟨(.value (.func 18)), #[(.tmp 59), (.tmp 60)], #[29, 3]⟩)⟩,
                ⟨some 9, none, (.assign (.tmp 61))⟩])
              (.seq
               (.ops [⟨some 10, none, (.assign (.const (.int .i64 1)))⟩])
               (.seq
                (.ops [⟨some 62, none, (.move (.tmp 6))⟩,
                  ⟨some 63, none, (.move (.tmp 10))⟩,
                  ⟨some 64, none, (.call ⟨(.value (.func 19)), #[(.tmp 62), (.tmp 63)], #[29, 3]⟩)⟩,
                  ⟨some 10, none, (.assign (.tmp 64))⟩])
                (.seq
                 (.seq
                  (.ops [⟨some 65, none, (.move (.tmp 10))⟩,
                    ⟨some 66, none, (.binOp .lss 3 (.tmp 65) (.const (.int .i64 0)) 3)⟩])
                  (.cond (.tmp 66)
                   (.seq
                    (.ops [⟨some 2, none, (.assign (.const (.bool false)))⟩])
                    .ret)
                   .skip))
                 (.seq
                  (.seq
                   (.ops [⟨some 67, none, (.move (.tmp 10))⟩,
                     ⟨some 68, none, (.move (.tmp 9))⟩,
                     ⟨some 69, none, (.binOp .neq 3 (.tmp 67) (.tmp 68) 3)⟩])
                   (.cond (.tmp 69)
                    (.seq
                     (.ops [⟨some 2, none, (.assign (.const (.bool false)))⟩])
                     .ret)
                    .skip))
                  (.seq
                   (.ops [⟨some 71, none, (.move (.tmp 0))⟩,
                     ⟨some 72, none, (.call ⟨(.value (.func 13)), #[(.tmp 71)], #[22]⟩)⟩,
                     ⟨some 73, none, (.call ⟨(.value (.func 14)), #[(.tmp 72)], #[22]⟩)⟩,
                     ⟨some 70, none, (.move (.tmp 73))⟩,
                     ⟨some 74, none, (.extract (.tmp 70) 0)⟩,
                     ⟨some 75, none, (.extract (.tmp 70) 1)⟩,
                     ⟨some 11, none, (.assign (.tmp 74))⟩,
                     ⟨some 12, none, (.assign (.tmp 75))⟩])
                   (.seq
                    (.seq
                     (.ops [⟨some 76, none, (.move (.tmp 11))⟩,
                       ⟨some 77, none, (.move (.tmp 3))⟩,
                       ⟨some 78, none, (.call ⟨(.value (.func 15)), #[(.tmp 76), (.tmp 77)], #[29, 29]⟩)⟩,
                       ⟨some 79, none, (.unOp .not 4 (.tmp 78))⟩,
                       ⟨some 80, none, (.move (.tmp 79))⟩,
                       ⟨some 81, (some (80, false)), (.move (.tmp 12))⟩,
                       ⟨some 82, (some (80, false)), (.move (.tmp 4))⟩,
                       ⟨some 83, (some (80, false)), (.binOp .neq 4 (.tmp 81) (.tmp 82) 4)⟩,
                       ⟨some 84, none, (.pick (.tmp 80) (.const (.bool true)) (.tmp 83))⟩])
                     (.cond (.tmp 84)
                      (.seq
                       (.ops [⟨some 2, none, (.assign (.const (.bool false)))⟩])
                       .ret)
                      .skip))
                    (.seq
                     (.ops [⟨some 10, none, (.assign (.const (.int .i64 1)))⟩])
                     (.seq
                      (.ops [⟨some 85, none, (.move (.tmp 6))⟩,
                        ⟨some 86, none, (.move (.tmp 10))⟩,
                        ⟨some 87, none, (.call ⟨(.value (.func 19)), #[(.tmp 85), (.tmp 86)], #[29, 3]⟩)⟩,
                        ⟨some 10, none, (.assign (.tmp 87))⟩])
                      (.seq
                       (.seq
                        (.ops [⟨some 88, none, (.move (.tmp 10))⟩,
                          ⟨some 89, none, (.binOp .lss 3 (.tmp 88) (.const (.int .i64 0)) 3)⟩])
                        (.cond (.tmp 89)
                         (.seq
                          (.ops [⟨some 2, none, (.assign (.const (.bool false)))⟩])
                          .ret)
                         .skip))
                       (.seq
                        (.seq
                         (.ops [⟨some 90, none, (.move (.tmp 10))⟩,
                           ⟨some 91, none, (.move (.tmp 9))⟩,
                           ⟨some 92, none, (.binOp .neq 3 (.tmp 90) (.tmp 91) 3)⟩])
                         (.cond (.tmp 92)
                          (.seq
                           (.ops [⟨some 2, none, (.assign (.const (.bool false)))⟩])
                           .ret)
                          .skip))
                        (.seq
                         (.ops [⟨some 2, none, (.assign (.const (.bool true)))⟩])
                         .ret)))))))))))))))))))))))
theorem w4 {args : Array Value} {H : AH} {Φ : Value → AH → Prop} (h : rW Try.prog k4 [] (fin Try.prog [(.tmp 2)] Φ) (tm0 args) H) : CallsA Try.prog 4 args H Φ :=
  CallsA.w k4 [(.tmp 2)] (fun _ => []) Try.func4 rfl rfl (by kernel_rfl) (by kernel_rfl) h

end Go.Proofs.Ytdagncfnkenbfaa.AM
