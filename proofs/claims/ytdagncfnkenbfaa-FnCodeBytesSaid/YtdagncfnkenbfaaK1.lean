/- The code of the functions that the laws reach, made short; and facts on the types that they use. -/
import Derived.Test.YtdagncfnkenbfaaA8
import Derived.KernelRfl
import Derived.Test.YtdagncfnkenbfaaRows
set_option linter.unusedVariables false
set_option linter.unusedSimpArgs false
set_option linter.defProp false
set_option maxRecDepth 100000
/- The code of the functions that the laws reach, made short; and facts on the types that they use. -/
namespace Go.Proofs.Ytdagncfnkenbfaa.AM
open Go Go.Proofs.Ytdagncfnkenbfaa Go.Proofs

theorem al39 {ev : Operand → Value} : aMake Try.prog ev (.alloc 39) = some ([.slice none 0 0], none) := by kernel_rfl
theorem al54 {ev : Operand → Value} : aMake Try.prog ev (.alloc 54) = some ([.int .i64 0, .int .i64 0], none) := by kernel_rfl
theorem al63 {ev : Operand → Value} : aMake Try.prog ev (.alloc 63) = some ([.int .i64 0, .int .i64 0, .int .i64 0], none) := by kernel_rfl
theorem al66 {ev : Operand → Value} : aMake Try.prog ev (.alloc 66) = some ([.int .i64 0, .int .i64 0, .int .i64 0, .int .i64 0, .int .i64 0, .slice none 0 0], none) := by kernel_rfl
theorem al77 {ev : Operand → Value} : aMake Try.prog ev (.alloc 77) = some ([.int .i64 0, .int .i64 0, .int .i64 0, .int .i64 0, .int .i64 0, .int .i64 0, .slice none 0 0], none) := by kernel_rfl
theorem ap22_22 {a a' : Option Addr} {n c n' c' : Nat} {H : AH} : aAppend Try.prog #[22, 22] #[.slice a n c, .slice a' n' c'] H = app 1 (.slice a n c) (.slice a' n' c') H := append_eq (z := .int .u8 0) (e := 5) (e' := 5) (by kernel_rfl) (by kernel_rfl) (by kernel_rfl) (by kernel_rfl) (by kernel_rfl) (by kernel_rfl)
theorem ap25_25 {a a' : Option Addr} {n c n' c' : Nat} {H : AH} : aAppend Try.prog #[25, 25] #[.slice a n c, .slice a' n' c'] H = app 2 (.slice a n c) (.slice a' n' c') H := append_eq (z := .agg #[.int .i64 0, .int .i64 0]) (e := 54) (e' := 54) (by kernel_rfl) (by kernel_rfl) (by kernel_rfl) (by kernel_rfl) (by kernel_rfl) (by kernel_rfl)
theorem ap29_29 {a a' : Option Addr} {n c n' c' : Nat} {H : AH} : aAppend Try.prog #[29, 29] #[.slice a n c, .slice a' n' c'] H = app 6 (.slice a n c) (.slice a' n' c') H := append_eq (z := .agg #[.int .i64 0, .int .i64 0, .int .i64 0, .int .i64 0, .int .i64 0, .slice none 0 0]) (e := 66) (e' := 66) (by kernel_rfl) (by kernel_rfl) (by kernel_rfl) (by kernel_rfl) (by kernel_rfl) (by kernel_rfl)
theorem ap37_37 {a a' : Option Addr} {n c n' c' : Nat} {H : AH} : aAppend Try.prog #[37, 37] #[.slice a n c, .slice a' n' c'] H = app 7 (.slice a n c) (.slice a' n' c') H := append_eq (z := .agg #[.int .i64 0, .int .i64 0, .int .i64 0, .int .i64 0, .int .i64 0, .int .i64 0, .slice none 0 0]) (e := 77) (e' := 77) (by kernel_rfl) (by kernel_rfl) (by kernel_rfl) (by kernel_rfl) (by kernel_rfl) (by kernel_rfl)
theorem ap64_64 {a a' : Option Addr} {n c n' c' : Nat} {H : AH} : aAppend Try.prog #[64, 64] #[.slice a n c, .slice a' n' c'] H = app 1 (.slice a n c) (.slice a' n' c') H := append_eq (z := .int .i64 0) (e := 3) (e' := 3) (by kernel_rfl) (by kernel_rfl) (by kernel_rfl) (by kernel_rfl) (by kernel_rfl) (by kernel_rfl)
theorem bd39 {ps : Array (Nat × Value)} : aBuild Try.prog 39 ps = (fillP [(0, 1)] [.slice none 0 0] ps.toList).map fun cs => .agg cs.toArray := build_eq (z := .agg #[.slice none 0 0]) Try.underlying39 (by kernel_rfl) (by kernel_rfl) (by kernel_rfl) rfl
theorem bd54 {ps : Array (Nat × Value)} : aBuild Try.prog 54 ps = (fillP [(0, 1), (1, 1)] [.int .i64 0, .int .i64 0] ps.toList).map fun cs => .agg cs.toArray := build_eq (z := .agg #[.int .i64 0, .int .i64 0]) Try.underlying54 (by kernel_rfl) (by kernel_rfl) (by kernel_rfl) rfl
theorem bd63 {ps : Array (Nat × Value)} : aBuild Try.prog 63 ps = (fillP [(0, 1), (1, 1), (2, 1)] [.int .i64 0, .int .i64 0, .int .i64 0] ps.toList).map fun cs => .agg cs.toArray := build_eq (z := .agg #[.int .i64 0, .int .i64 0, .int .i64 0]) Try.underlying63 (by kernel_rfl) (by kernel_rfl) (by kernel_rfl) rfl
theorem bd66 {ps : Array (Nat × Value)} : aBuild Try.prog 66 ps = (fillP [(0, 1), (1, 1), (2, 3), (5, 1)] [.int .i64 0, .int .i64 0, .int .i64 0, .int .i64 0, .int .i64 0, .slice none 0 0] ps.toList).map fun cs => .agg cs.toArray := build_eq (z := .agg #[.int .i64 0, .int .i64 0, .int .i64 0, .int .i64 0, .int .i64 0, .slice none 0 0]) Try.underlying66 (by kernel_rfl) (by kernel_rfl) (by kernel_rfl) rfl
theorem bd71 {ps : Array (Nat × Value)} : aBuild Try.prog 71 ps = (fillP [(0, 1), (1, 1)] [.slice none 0 0, .bool false] ps.toList).map fun cs => .agg cs.toArray := build_eq (z := .agg #[.slice none 0 0, .bool false]) Try.underlying71 (by kernel_rfl) (by kernel_rfl) (by kernel_rfl) rfl
theorem bd77 {ps : Array (Nat × Value)} : aBuild Try.prog 77 ps = (fillP [(0, 1), (1, 1), (2, 1), (3, 3), (6, 1)] [.int .i64 0, .int .i64 0, .int .i64 0, .int .i64 0, .int .i64 0, .int .i64 0, .slice none 0 0] ps.toList).map fun cs => .agg cs.toArray := build_eq (z := .agg #[.int .i64 0, .int .i64 0, .int .i64 0, .int .i64 0, .int .i64 0, .int .i64 0, .slice none 0 0]) Try.underlying77 (by kernel_rfl) (by kernel_rfl) (by kernel_rfl) rfl
theorem bd95 {ps : Array (Nat × Value)} : aBuild Try.prog 95 ps = (fillP [(0, 1), (1, 1), (2, 1)] [.slice none 0 0, .int .i64 0, .int .i64 0] ps.toList).map fun cs => .agg cs.toArray := build_eq (z := .agg #[.slice none 0 0, .int .i64 0, .int .i64 0]) Try.underlying95 (by kernel_rfl) (by kernel_rfl) (by kernel_rfl) rfl
theorem bd120 {ps : Array (Nat × Value)} : aBuild Try.prog 120 ps = (fillP [(0, 1), (1, 1), (2, 1)] [.slice none 0 0, .int .i64 0, .slice none 0 0] ps.toList).map fun cs => .agg cs.toArray := build_eq (z := .agg #[.slice none 0 0, .int .i64 0, .slice none 0 0]) Try.underlying120 (by kernel_rfl) (by kernel_rfl) (by kernel_rfl) rfl
theorem bs22_0 {ev : Operand → Value} : aMake Try.prog ev (.buildSlice 22 0 #[]) = (fillP [] [] []).map fun cs => (cs, some (0, 1)) := bslice_eq (z := .int .u8 0) (e := 5) (by kernel_rfl) (by kernel_rfl) (by kernel_rfl) (by decide) (by kernel_rfl) (by kernel_rfl) rfl rfl
theorem bs22_1 {ev : Operand → Value} {x0 : Operand} : aMake Try.prog ev (.buildSlice 22 1 #[(0, x0)]) = (fillP [(0, 1)] [.int .u8 0] [(0, ev x0)]).map fun cs => (cs, some (1, 1)) := bslice_eq (z := .int .u8 0) (e := 5) (by kernel_rfl) (by kernel_rfl) (by kernel_rfl) (by decide) (by kernel_rfl) (by kernel_rfl) rfl rfl
theorem bs22_2 {ev : Operand → Value} {x0 x1 : Operand} : aMake Try.prog ev (.buildSlice 22 2 #[(0, x0), (1, x1)]) = (fillP [(0, 1), (1, 1)] [.int .u8 0, .int .u8 0] [(0, ev x0), (1, ev x1)]).map fun cs => (cs, some (2, 1)) := bslice_eq (z := .int .u8 0) (e := 5) (by kernel_rfl) (by kernel_rfl) (by kernel_rfl) (by decide) (by kernel_rfl) (by kernel_rfl) rfl rfl
theorem bs22_5 {ev : Operand → Value} {x0 x1 x2 x3 x4 : Operand} : aMake Try.prog ev (.buildSlice 22 5 #[(0, x0), (1, x1), (2, x2), (3, x3), (4, x4)]) = (fillP [(0, 1), (1, 1), (2, 1), (3, 1), (4, 1)] [.int .u8 0, .int .u8 0, .int .u8 0, .int .u8 0, .int .u8 0] [(0, ev x0), (1, ev x1), (2, ev x2), (3, ev x3), (4, ev x4)]).map fun cs => (cs, some (5, 1)) := bslice_eq (z := .int .u8 0) (e := 5) (by kernel_rfl) (by kernel_rfl) (by kernel_rfl) (by decide) (by kernel_rfl) (by kernel_rfl) rfl rfl
theorem bs25_0 {ev : Operand → Value} : aMake Try.prog ev (.buildSlice 25 0 #[]) = (fillP [] [] []).map fun cs => (cs, some (0, 2)) := bslice_eq (z := .agg #[.int .i64 0, .int .i64 0]) (e := 54) (by kernel_rfl) (by kernel_rfl) (by kernel_rfl) (by decide) (by kernel_rfl) (by kernel_rfl) rfl rfl
theorem bs25_1 {ev : Operand → Value} {x0 : Operand} : aMake Try.prog ev (.buildSlice 25 1 #[(0, x0)]) = (fillP [(0, 2)] [.int .i64 0, .int .i64 0] [(0, ev x0)]).map fun cs => (cs, some (1, 2)) := bslice_eq (z := .agg #[.int .i64 0, .int .i64 0]) (e := 54) (by kernel_rfl) (by kernel_rfl) (by kernel_rfl) (by decide) (by kernel_rfl) (by kernel_rfl) rfl rfl
theorem bs29_0 {ev : Operand → Value} : aMake Try.prog ev (.buildSlice 29 0 #[]) = (fillP [] [] []).map fun cs => (cs, some (0, 6)) := bslice_eq (z := .agg #[.int .i64 0, .int .i64 0, .int .i64 0, .int .i64 0, .int .i64 0, .slice none 0 0]) (e := 66) (by kernel_rfl) (by kernel_rfl) (by kernel_rfl) (by decide) (by kernel_rfl) (by kernel_rfl) rfl rfl
theorem bs29_1 {ev : Operand → Value} {x0 : Operand} : aMake Try.prog ev (.buildSlice 29 1 #[(0, x0)]) = (fillP [(0, 6)] [.int .i64 0, .int .i64 0, .int .i64 0, .int .i64 0, .int .i64 0, .slice none 0 0] [(0, ev x0)]).map fun cs => (cs, some (1, 6)) := bslice_eq (z := .agg #[.int .i64 0, .int .i64 0, .int .i64 0, .int .i64 0, .int .i64 0, .slice none 0 0]) (e := 66) (by kernel_rfl) (by kernel_rfl) (by kernel_rfl) (by decide) (by kernel_rfl) (by kernel_rfl) rfl rfl
theorem bs37_1 {ev : Operand → Value} {x0 : Operand} : aMake Try.prog ev (.buildSlice 37 1 #[(0, x0)]) = (fillP [(0, 7)] [.int .i64 0, .int .i64 0, .int .i64 0, .int .i64 0, .int .i64 0, .int .i64 0, .slice none 0 0] [(0, ev x0)]).map fun cs => (cs, some (1, 7)) := bslice_eq (z := .agg #[.int .i64 0, .int .i64 0, .int .i64 0, .int .i64 0, .int .i64 0, .int .i64 0, .slice none 0 0]) (e := 77) (by kernel_rfl) (by kernel_rfl) (by kernel_rfl) (by decide) (by kernel_rfl) (by kernel_rfl) rfl rfl
theorem bs64_0 {ev : Operand → Value} : aMake Try.prog ev (.buildSlice 64 0 #[]) = (fillP [] [] []).map fun cs => (cs, some (0, 1)) := bslice_eq (z := .int .i64 0) (e := 3) (by kernel_rfl) (by kernel_rfl) (by kernel_rfl) (by decide) (by kernel_rfl) (by kernel_rfl) rfl rfl
theorem bs64_1 {ev : Operand → Value} {x0 : Operand} : aMake Try.prog ev (.buildSlice 64 1 #[(0, x0)]) = (fillP [(0, 1)] [.int .i64 0] [(0, ev x0)]).map fun cs => (cs, some (1, 1)) := bslice_eq (z := .int .i64 0) (e := 3) (by kernel_rfl) (by kernel_rfl) (by kernel_rfl) (by decide) (by kernel_rfl) (by kernel_rfl) rfl rfl
theorem bs64_2 {ev : Operand → Value} {x0 x1 : Operand} : aMake Try.prog ev (.buildSlice 64 2 #[(0, x0), (1, x1)]) = (fillP [(0, 1), (1, 1)] [.int .i64 0, .int .i64 0] [(0, ev x0), (1, ev x1)]).map fun cs => (cs, some (2, 1)) := bslice_eq (z := .int .i64 0) (e := 3) (by kernel_rfl) (by kernel_rfl) (by kernel_rfl) (by decide) (by kernel_rfl) (by kernel_rfl) rfl rfl
theorem bs64_4 {ev : Operand → Value} {x0 x1 x2 x3 : Operand} : aMake Try.prog ev (.buildSlice 64 4 #[(0, x0), (1, x1), (2, x2), (3, x3)]) = (fillP [(0, 1), (1, 1), (2, 1), (3, 1)] [.int .i64 0, .int .i64 0, .int .i64 0, .int .i64 0] [(0, ev x0), (1, ev x1), (2, ev x2), (3, ev x3)]).map fun cs => (cs, some (4, 1)) := bslice_eq (z := .int .i64 0) (e := 3) (by kernel_rfl) (by kernel_rfl) (by kernel_rfl) (by decide) (by kernel_rfl) (by kernel_rfl) rfl rfl
theorem bs64_5 {ev : Operand → Value} {x0 x1 x2 x3 x4 : Operand} : aMake Try.prog ev (.buildSlice 64 5 #[(0, x0), (1, x1), (2, x2), (3, x3), (4, x4)]) = (fillP [(0, 1), (1, 1), (2, 1), (3, 1), (4, 1)] [.int .i64 0, .int .i64 0, .int .i64 0, .int .i64 0, .int .i64 0] [(0, ev x0), (1, ev x1), (2, ev x2), (3, ev x3), (4, ev x4)]).map fun cs => (cs, some (5, 1)) := bslice_eq (z := .int .i64 0) (e := 3) (by kernel_rfl) (by kernel_rfl) (by kernel_rfl) (by decide) (by kernel_rfl) (by kernel_rfl) rfl rfl
theorem bs64_6 {ev : Operand → Value} {x0 x1 x2 x3 x4 x5 : Operand} : aMake Try.prog ev (.buildSlice 64 6 #[(0, x0), (1, x1), (2, x2), (3, x3), (4, x4), (5, x5)]) = (fillP [(0, 1), (1, 1), (2, 1), (3, 1), (4, 1), (5, 1)] [.int .i64 0, .int .i64 0, .int .i64 0, .int .i64 0, .int .i64 0, .int .i64 0] [(0, ev x0), (1, ev x1), (2, ev x2), (3, ev x3), (4, ev x4), (5, ev x5)]).map fun cs => (cs, some (6, 1)) := bslice_eq (z := .int .i64 0) (e := 3) (by kernel_rfl) (by kernel_rfl) (by kernel_rfl) (by decide) (by kernel_rfl) (by kernel_rfl) rfl rfl
theorem bs64_7 {ev : Operand → Value} {x0 x1 x2 x3 x4 x5 x6 : Operand} : aMake Try.prog ev (.buildSlice 64 7 #[(0, x0), (1, x1), (2, x2), (3, x3), (4, x4), (5, x5), (6, x6)]) = (fillP [(0, 1), (1, 1), (2, 1), (3, 1), (4, 1), (5, 1), (6, 1)] [.int .i64 0, .int .i64 0, .int .i64 0, .int .i64 0, .int .i64 0, .int .i64 0, .int .i64 0] [(0, ev x0), (1, ev x1), (2, ev x2), (3, ev x3), (4, ev x4), (5, ev x5), (6, ev x6)]).map fun cs => (cs, some (7, 1)) := bslice_eq (z := .int .i64 0) (e := 3) (by kernel_rfl) (by kernel_rfl) (by kernel_rfl) (by decide) (by kernel_rfl) (by kernel_rfl) rfl rfl
theorem bs64_22 {ev : Operand → Value} {x0 x1 x2 x3 x4 x5 x6 x7 x8 x9 x10 x11 x12 x13 x14 x15 x16 x17 x18 x19 x20 x21 : Operand} : aMake Try.prog ev (.buildSlice 64 22 #[(0, x0), (1, x1), (2, x2), (3, x3), (4, x4), (5, x5), (6, x6), (7, x7), (8, x8), (9, x9), (10, x10), (11, x11), (12, x12), (13, x13), (14, x14), (15, x15), (16, x16), (17, x17), (18, x18), (19, x19), (20, x20), (21, x21)]) = (fillP [(0, 1), (1, 1), (2, 1), (3, 1), (4, 1), (5, 1), (6, 1), (7, 1), (8, 1), (9, 1), (10, 1), (11, 1), (12, 1), (13, 1), (14, 1), (15, 1), (16, 1), (17, 1), (18, 1), (19, 1), (20, 1), (21, 1)] [.int .i64 0, .int .i64 0, .int .i64 0, .int .i64 0, .int .i64 0, .int .i64 0, .int .i64 0, .int .i64 0, .int .i64 0, .int .i64 0, .int .i64 0, .int .i64 0, .int .i64 0, .int .i64 0, .int .i64 0, .int .i64 0, .int .i64 0, .int .i64 0, .int .i64 0, .int .i64 0, .int .i64 0, .int .i64 0] [(0, ev x0), (1, ev x1), (2, ev x2), (3, ev x3), (4, ev x4), (5, ev x5), (6, ev x6), (7, ev x7), (8, ev x8), (9, ev x9), (10, ev x10), (11, ev x11), (12, ev x12), (13, ev x13), (14, ev x14), (15, ev x15), (16, ev x16), (17, ev x17), (18, ev x18), (19, ev x19), (20, ev x20), (21, ev x21)]).map fun cs => (cs, some (22, 1)) := bslice_eq (z := .int .i64 0) (e := 3) (by kernel_rfl) (by kernel_rfl) (by kernel_rfl) (by decide) (by kernel_rfl) (by kernel_rfl) rfl rfl
theorem bs98_2 {ev : Operand → Value} {x0 x1 : Operand} : aMake Try.prog ev (.buildSlice 98 2 #[(0, x0), (1, x1)]) = (fillP [(0, 1), (1, 1)] [.string ⟨#[]⟩, .string ⟨#[]⟩] [(0, ev x0), (1, ev x1)]).map fun cs => (cs, some (2, 1)) := bslice_eq (z := .string ⟨#[]⟩) (e := 9) (by kernel_rfl) (by kernel_rfl) (by kernel_rfl) (by decide) (by kernel_rfl) (by kernel_rfl) rfl rfl
theorem bs98_3 {ev : Operand → Value} {x0 x1 x2 : Operand} : aMake Try.prog ev (.buildSlice 98 3 #[(0, x0), (1, x1), (2, x2)]) = (fillP [(0, 1), (1, 1), (2, 1)] [.string ⟨#[]⟩, .string ⟨#[]⟩, .string ⟨#[]⟩] [(0, ev x0), (1, ev x1), (2, ev x2)]).map fun cs => (cs, some (3, 1)) := bslice_eq (z := .string ⟨#[]⟩) (e := 9) (by kernel_rfl) (by kernel_rfl) (by kernel_rfl) (by decide) (by kernel_rfl) (by kernel_rfl) rfl rfl
theorem bs98_6 {ev : Operand → Value} {x0 x1 x2 x3 x4 x5 : Operand} : aMake Try.prog ev (.buildSlice 98 6 #[(0, x0), (1, x1), (2, x2), (3, x3), (4, x4), (5, x5)]) = (fillP [(0, 1), (1, 1), (2, 1), (3, 1), (4, 1), (5, 1)] [.string ⟨#[]⟩, .string ⟨#[]⟩, .string ⟨#[]⟩, .string ⟨#[]⟩, .string ⟨#[]⟩, .string ⟨#[]⟩] [(0, ev x0), (1, ev x1), (2, ev x2), (3, ev x3), (4, ev x4), (5, ev x5)]).map fun cs => (cs, some (6, 1)) := bslice_eq (z := .string ⟨#[]⟩) (e := 9) (by kernel_rfl) (by kernel_rfl) (by kernel_rfl) (by decide) (by kernel_rfl) (by kernel_rfl) rfl rfl
theorem bs98_9 {ev : Operand → Value} {x0 x1 x2 x3 x4 x5 x6 x7 x8 : Operand} : aMake Try.prog ev (.buildSlice 98 9 #[(0, x0), (1, x1), (2, x2), (3, x3), (4, x4), (5, x5), (6, x6), (7, x7), (8, x8)]) = (fillP [(0, 1), (1, 1), (2, 1), (3, 1), (4, 1), (5, 1), (6, 1), (7, 1), (8, 1)] [.string ⟨#[]⟩, .string ⟨#[]⟩, .string ⟨#[]⟩, .string ⟨#[]⟩, .string ⟨#[]⟩, .string ⟨#[]⟩, .string ⟨#[]⟩, .string ⟨#[]⟩, .string ⟨#[]⟩] [(0, ev x0), (1, ev x1), (2, ev x2), (3, ev x3), (4, ev x4), (5, ev x5), (6, ev x6), (7, ev x7), (8, ev x8)]).map fun cs => (cs, some (9, 1)) := bslice_eq (z := .string ⟨#[]⟩) (e := 9) (by kernel_rfl) (by kernel_rfl) (by kernel_rfl) (by decide) (by kernel_rfl) (by kernel_rfl) rfl rfl
theorem bs98_10 {ev : Operand → Value} {x0 x1 x2 x3 x4 x5 x6 x7 x8 x9 : Operand} : aMake Try.prog ev (.buildSlice 98 10 #[(0, x0), (1, x1), (2, x2), (3, x3), (4, x4), (5, x5), (6, x6), (7, x7), (8, x8), (9, x9)]) = (fillP [(0, 1), (1, 1), (2, 1), (3, 1), (4, 1), (5, 1), (6, 1), (7, 1), (8, 1), (9, 1)] [.string ⟨#[]⟩, .string ⟨#[]⟩, .string ⟨#[]⟩, .string ⟨#[]⟩, .string ⟨#[]⟩, .string ⟨#[]⟩, .string ⟨#[]⟩, .string ⟨#[]⟩, .string ⟨#[]⟩, .string ⟨#[]⟩] [(0, ev x0), (1, ev x1), (2, ev x2), (3, ev x3), (4, ev x4), (5, ev x5), (6, ev x6), (7, ev x7), (8, ev x8), (9, ev x9)]).map fun cs => (cs, some (10, 1)) := bslice_eq (z := .string ⟨#[]⟩) (e := 9) (by kernel_rfl) (by kernel_rfl) (by kernel_rfl) (by decide) (by kernel_rfl) (by kernel_rfl) rfl rfl
theorem bs98_11 {ev : Operand → Value} {x0 x1 x2 x3 x4 x5 x6 x7 x8 x9 x10 : Operand} : aMake Try.prog ev (.buildSlice 98 11 #[(0, x0), (1, x1), (2, x2), (3, x3), (4, x4), (5, x5), (6, x6), (7, x7), (8, x8), (9, x9), (10, x10)]) = (fillP [(0, 1), (1, 1), (2, 1), (3, 1), (4, 1), (5, 1), (6, 1), (7, 1), (8, 1), (9, 1), (10, 1)] [.string ⟨#[]⟩, .string ⟨#[]⟩, .string ⟨#[]⟩, .string ⟨#[]⟩, .string ⟨#[]⟩, .string ⟨#[]⟩, .string ⟨#[]⟩, .string ⟨#[]⟩, .string ⟨#[]⟩, .string ⟨#[]⟩, .string ⟨#[]⟩] [(0, ev x0), (1, ev x1), (2, ev x2), (3, ev x3), (4, ev x4), (5, ev x5), (6, ev x6), (7, ev x7), (8, ev x8), (9, ev x9), (10, ev x10)]).map fun cs => (cs, some (11, 1)) := bslice_eq (z := .string ⟨#[]⟩) (e := 9) (by kernel_rfl) (by kernel_rfl) (by kernel_rfl) (by decide) (by kernel_rfl) (by kernel_rfl) rfl rfl
theorem bs98_12 {ev : Operand → Value} {x0 x1 x2 x3 x4 x5 x6 x7 x8 x9 x10 x11 : Operand} : aMake Try.prog ev (.buildSlice 98 12 #[(0, x0), (1, x1), (2, x2), (3, x3), (4, x4), (5, x5), (6, x6), (7, x7), (8, x8), (9, x9), (10, x10), (11, x11)]) = (fillP [(0, 1), (1, 1), (2, 1), (3, 1), (4, 1), (5, 1), (6, 1), (7, 1), (8, 1), (9, 1), (10, 1), (11, 1)] [.string ⟨#[]⟩, .string ⟨#[]⟩, .string ⟨#[]⟩, .string ⟨#[]⟩, .string ⟨#[]⟩, .string ⟨#[]⟩, .string ⟨#[]⟩, .string ⟨#[]⟩, .string ⟨#[]⟩, .string ⟨#[]⟩, .string ⟨#[]⟩, .string ⟨#[]⟩] [(0, ev x0), (1, ev x1), (2, ev x2), (3, ev x3), (4, ev x4), (5, ev x5), (6, ev x6), (7, ev x7), (8, ev x8), (9, ev x9), (10, ev x10), (11, ev x11)]).map fun cs => (cs, some (12, 1)) := bslice_eq (z := .string ⟨#[]⟩) (e := 9) (by kernel_rfl) (by kernel_rfl) (by kernel_rfl) (by decide) (by kernel_rfl) (by kernel_rfl) rfl rfl
theorem cv3_5 {k : IntKind} {n : Int} {G : Hp} : aConv Try.prog 3 5 (.int k n) G = some (.int .u8 (IntKind.u8.wrap n)) := conv_int (e := .int .i64) (by kernel_rfl) (by kernel_rfl)
theorem cv3_101 {k : IntKind} {n : Int} {G : Hp} : aConv Try.prog 3 101 (.int k n) G = some (.int .u64 (IntKind.u64.wrap n)) := conv_int (e := .int .i64) (by kernel_rfl) (by kernel_rfl)
theorem cv5_3 {k : IntKind} {n : Int} {G : Hp} : aConv Try.prog 5 3 (.int k n) G = some (.int .i64 (IntKind.i64.wrap n)) := conv_int (e := .int .u8) (by kernel_rfl) (by kernel_rfl)
theorem cv101_3 {k : IntKind} {n : Int} {G : Hp} : aConv Try.prog 101 3 (.int k n) G = some (.int .i64 (IntKind.i64.wrap n)) := conv_int (e := .int .u64) (by kernel_rfl) (by kernel_rfl)
theorem ef63 {a0 b0 a1 b1 a2 b2 : Int} {x y : Operand} : aBin Try.prog .eql 63 x y (.agg #[.int .i64 a0, .int .i64 a1, .int .i64 a2]) (.agg #[.int .i64 b0, .int .i64 b1, .int .i64 b2]) = some (.bool (a0 == b0 && (a1 == b1 && (a2 == b2 && true)))) := by
  refine bin_eql_agg Try.underlying63 (by kernel_rfl) (by kernel_rfl) (by simp [scal1]) ?_
  rw [eqF_cons (k := .i64) (k' := .i64) (a := a0) (b := b0) (by decide) (by kernel_rfl) (by kernel_rfl) (by kernel_rfl)]
  rw [eqF_cons (k := .i64) (k' := .i64) (a := a1) (b := b1) (by decide) (by kernel_rfl) (by kernel_rfl) (by kernel_rfl)]
  rw [eqF_cons (k := .i64) (k' := .i64) (a := a2) (b := b2) (by decide) (by kernel_rfl) (by kernel_rfl) (by kernel_rfl)]
  simp only [ite_and, eqF_nil]
theorem eg63 {a0 b0 a1 b1 a2 b2 : Int} {x y : Operand} : aBin Try.prog .neq 63 x y (.agg #[.int .i64 a0, .int .i64 a1, .int .i64 a2]) (.agg #[.int .i64 b0, .int .i64 b1, .int .i64 b2]) = some (.bool (!(a0 == b0 && (a1 == b1 && (a2 == b2 && true))))) := by
  refine bin_neq_agg Try.underlying63 (by kernel_rfl) (by kernel_rfl) (by simp [scal1]) ?_
  rw [eqF_cons (k := .i64) (k' := .i64) (a := a0) (b := b0) (by decide) (by kernel_rfl) (by kernel_rfl) (by kernel_rfl)]
  rw [eqF_cons (k := .i64) (k' := .i64) (a := a1) (b := b1) (by decide) (by kernel_rfl) (by kernel_rfl) (by kernel_rfl)]
  rw [eqF_cons (k := .i64) (k' := .i64) (a := a2) (b := b2) (by decide) (by kernel_rfl) (by kernel_rfl) (by kernel_rfl)]
  simp only [ite_and, eqF_nil]
theorem fa39_0 {b o : Nat} : aFieldAddr Try.prog 39 (.pointer (some ⟨b, o, none⟩)) 0 = some (.pointer (some ⟨b, o + 0, none⟩)) := by kernel_rfl
theorem fa54_0 {b o : Nat} : aFieldAddr Try.prog 54 (.pointer (some ⟨b, o, none⟩)) 0 = some (.pointer (some ⟨b, o + 0, none⟩)) := by kernel_rfl
theorem fa54_1 {b o : Nat} : aFieldAddr Try.prog 54 (.pointer (some ⟨b, o, none⟩)) 1 = some (.pointer (some ⟨b, o + 1, none⟩)) := by kernel_rfl
theorem fa63_0 {b o : Nat} : aFieldAddr Try.prog 63 (.pointer (some ⟨b, o, none⟩)) 0 = some (.pointer (some ⟨b, o + 0, none⟩)) := by kernel_rfl
theorem fa63_1 {b o : Nat} : aFieldAddr Try.prog 63 (.pointer (some ⟨b, o, none⟩)) 1 = some (.pointer (some ⟨b, o + 1, none⟩)) := by kernel_rfl
theorem fa63_2 {b o : Nat} : aFieldAddr Try.prog 63 (.pointer (some ⟨b, o, none⟩)) 2 = some (.pointer (some ⟨b, o + 2, none⟩)) := by kernel_rfl
theorem fa66_0 {b o : Nat} : aFieldAddr Try.prog 66 (.pointer (some ⟨b, o, none⟩)) 0 = some (.pointer (some ⟨b, o + 0, none⟩)) := by kernel_rfl
theorem fa66_1 {b o : Nat} : aFieldAddr Try.prog 66 (.pointer (some ⟨b, o, none⟩)) 1 = some (.pointer (some ⟨b, o + 1, none⟩)) := by kernel_rfl
theorem fa66_2 {b o : Nat} : aFieldAddr Try.prog 66 (.pointer (some ⟨b, o, none⟩)) 2 = some (.pointer (some ⟨b, o + 2, none⟩)) := by kernel_rfl
theorem fa66_3 {b o : Nat} : aFieldAddr Try.prog 66 (.pointer (some ⟨b, o, none⟩)) 3 = some (.pointer (some ⟨b, o + 5, none⟩)) := by kernel_rfl
theorem fa71_0 {b o : Nat} : aFieldAddr Try.prog 71 (.pointer (some ⟨b, o, none⟩)) 0 = some (.pointer (some ⟨b, o + 0, none⟩)) := by kernel_rfl
theorem fa71_1 {b o : Nat} : aFieldAddr Try.prog 71 (.pointer (some ⟨b, o, none⟩)) 1 = some (.pointer (some ⟨b, o + 1, none⟩)) := by kernel_rfl
theorem fa77_0 {b o : Nat} : aFieldAddr Try.prog 77 (.pointer (some ⟨b, o, none⟩)) 0 = some (.pointer (some ⟨b, o + 0, none⟩)) := by kernel_rfl
theorem fa77_1 {b o : Nat} : aFieldAddr Try.prog 77 (.pointer (some ⟨b, o, none⟩)) 1 = some (.pointer (some ⟨b, o + 1, none⟩)) := by kernel_rfl
theorem fa77_2 {b o : Nat} : aFieldAddr Try.prog 77 (.pointer (some ⟨b, o, none⟩)) 2 = some (.pointer (some ⟨b, o + 2, none⟩)) := by kernel_rfl
theorem fa77_3 {b o : Nat} : aFieldAddr Try.prog 77 (.pointer (some ⟨b, o, none⟩)) 3 = some (.pointer (some ⟨b, o + 3, none⟩)) := by kernel_rfl
theorem fa77_4 {b o : Nat} : aFieldAddr Try.prog 77 (.pointer (some ⟨b, o, none⟩)) 4 = some (.pointer (some ⟨b, o + 6, none⟩)) := by kernel_rfl
theorem fa95_0 {b o : Nat} : aFieldAddr Try.prog 95 (.pointer (some ⟨b, o, none⟩)) 0 = some (.pointer (some ⟨b, o + 0, none⟩)) := by kernel_rfl
theorem fa95_1 {b o : Nat} : aFieldAddr Try.prog 95 (.pointer (some ⟨b, o, none⟩)) 1 = some (.pointer (some ⟨b, o + 1, none⟩)) := by kernel_rfl
theorem fa95_2 {b o : Nat} : aFieldAddr Try.prog 95 (.pointer (some ⟨b, o, none⟩)) 2 = some (.pointer (some ⟨b, o + 2, none⟩)) := by kernel_rfl
theorem fa120_0 {b o : Nat} : aFieldAddr Try.prog 120 (.pointer (some ⟨b, o, none⟩)) 0 = some (.pointer (some ⟨b, o + 0, none⟩)) := by kernel_rfl
theorem fa120_1 {b o : Nat} : aFieldAddr Try.prog 120 (.pointer (some ⟨b, o, none⟩)) 1 = some (.pointer (some ⟨b, o + 1, none⟩)) := by kernel_rfl
theorem fa120_2 {b o : Nat} : aFieldAddr Try.prog 120 (.pointer (some ⟨b, o, none⟩)) 2 = some (.pointer (some ⟨b, o + 2, none⟩)) := by kernel_rfl
theorem ix22 {b o n c : Nat} {k : IntKind} {j : Int} : aIndexAddr Try.prog 22 (.slice (some ⟨b, o, none⟩) n c) (.int k j) = if 0 ≤ j ∧ j < n then some (.pointer (some ⟨b, o + j.toNat * 1, none⟩)) else none := by kernel_rfl
theorem ix25 {b o n c : Nat} {k : IntKind} {j : Int} : aIndexAddr Try.prog 25 (.slice (some ⟨b, o, none⟩) n c) (.int k j) = if 0 ≤ j ∧ j < n then some (.pointer (some ⟨b, o + j.toNat * 2, none⟩)) else none := by kernel_rfl
theorem ix29 {b o n c : Nat} {k : IntKind} {j : Int} : aIndexAddr Try.prog 29 (.slice (some ⟨b, o, none⟩) n c) (.int k j) = if 0 ≤ j ∧ j < n then some (.pointer (some ⟨b, o + j.toNat * 6, none⟩)) else none := by kernel_rfl
theorem ix37 {b o n c : Nat} {k : IntKind} {j : Int} : aIndexAddr Try.prog 37 (.slice (some ⟨b, o, none⟩) n c) (.int k j) = if 0 ≤ j ∧ j < n then some (.pointer (some ⟨b, o + j.toNat * 7, none⟩)) else none := by kernel_rfl
theorem ix64 {b o n c : Nat} {k : IntKind} {j : Int} : aIndexAddr Try.prog 64 (.slice (some ⟨b, o, none⟩) n c) (.int k j) = if 0 ≤ j ∧ j < n then some (.pointer (some ⟨b, o + j.toNat * 1, none⟩)) else none := by kernel_rfl
theorem ix98 {b o n c : Nat} {k : IntKind} {j : Int} : aIndexAddr Try.prog 98 (.slice (some ⟨b, o, none⟩) n c) (.int k j) = if 0 ≤ j ∧ j < n then some (.pointer (some ⟨b, o + j.toNat * 1, none⟩)) else none := by kernel_rfl
theorem us9 : Try.prog.underlying 9 = some .string := by kernel_rfl
theorem ld3 {o : Nat} {cs : List Value} : ld Try.prog 3 o cs = cs[o]? := ld_one (by kernel_rfl)
theorem ld4 {o : Nat} {cs : List Value} : ld Try.prog 4 o cs = cs[o]? := ld_one (by kernel_rfl)
theorem ld5 {o : Nat} {cs : List Value} : ld Try.prog 5 o cs = cs[o]? := ld_one (by kernel_rfl)
theorem ld9 {o : Nat} {cs : List Value} : ld Try.prog 9 o cs = cs[o]? := ld_one (by kernel_rfl)
theorem ld22 {o : Nat} {cs : List Value} : ld Try.prog 22 o cs = cs[o]? := ld_one (by kernel_rfl)
theorem ld25 {o : Nat} {cs : List Value} : ld Try.prog 25 o cs = cs[o]? := ld_one (by kernel_rfl)
theorem ld37 {o : Nat} {cs : List Value} : ld Try.prog 37 o cs = cs[o]? := ld_one (by kernel_rfl)
theorem ld39 {o : Nat} {cs : List Value} : ld Try.prog 39 o cs = aggAt 1 o cs := ld_agg (by kernel_rfl) (by kernel_rfl)
theorem ld54 {o : Nat} {cs : List Value} : ld Try.prog 54 o cs = aggAt 2 o cs := ld_agg (by kernel_rfl) (by kernel_rfl)
theorem ld63 {o : Nat} {cs : List Value} : ld Try.prog 63 o cs = aggAt 3 o cs := ld_agg (by kernel_rfl) (by kernel_rfl)
theorem ld64 {o : Nat} {cs : List Value} : ld Try.prog 64 o cs = cs[o]? := ld_one (by kernel_rfl)
theorem ld66 {o : Nat} {cs : List Value} : ld Try.prog 66 o cs = aggAt 6 o cs := ld_agg (by kernel_rfl) (by kernel_rfl)
theorem ld77 {o : Nat} {cs : List Value} : ld Try.prog 77 o cs = aggAt 7 o cs := ld_agg (by kernel_rfl) (by kernel_rfl)
theorem ln9 {s : ByteArray} : aLen Try.prog #[9] #[.string s] = some (.int .i64 s.size) := by kernel_rfl
theorem ln22 {a : Option Addr} {n c : Nat} : aLen Try.prog #[22] #[.slice a n c] = some (.int .i64 n) := by kernel_rfl
theorem ln25 {a : Option Addr} {n c : Nat} : aLen Try.prog #[25] #[.slice a n c] = some (.int .i64 n) := by kernel_rfl
theorem ln29 {a : Option Addr} {n c : Nat} : aLen Try.prog #[29] #[.slice a n c] = some (.int .i64 n) := by kernel_rfl
theorem ln37 {a : Option Addr} {n c : Nat} : aLen Try.prog #[37] #[.slice a n c] = some (.int .i64 n) := by kernel_rfl
theorem ln64 {a : Option Addr} {n c : Nat} : aLen Try.prog #[64] #[.slice a n c] = some (.int .i64 n) := by kernel_rfl
theorem ln98 {a : Option Addr} {n c : Nat} : aLen Try.prog #[98] #[.slice a n c] = some (.int .i64 n) := by kernel_rfl
theorem sl22 {b o n : Nat} {lo hi : Option Value} : aSlice Try.prog 22 (.slice (some ⟨b, o, none⟩) n 1) lo hi = slc b o n 1 (optInt 0 lo) (optInt n hi) := slc_eq (e := 5) (by kernel_rfl) (by kernel_rfl)
theorem sn22 {n c : Nat} {lo hi : Option Value} : aSlice Try.prog 22 (.slice none n c) lo hi = slq n (optInt 0 lo) (optInt n hi) := sln_q (e := 5) (s := 1) (by kernel_rfl) (by kernel_rfl)
theorem sl29 {b o n : Nat} {lo hi : Option Value} : aSlice Try.prog 29 (.slice (some ⟨b, o, none⟩) n 6) lo hi = slc b o n 6 (optInt 0 lo) (optInt n hi) := slc_eq (e := 66) (by kernel_rfl) (by kernel_rfl)
theorem sn29 {n c : Nat} {lo hi : Option Value} : aSlice Try.prog 29 (.slice none n c) lo hi = slq n (optInt 0 lo) (optInt n hi) := sln_q (e := 66) (s := 6) (by kernel_rfl) (by kernel_rfl)
theorem st3 {b o : Nat} {v : Value} {H : AH} : aStore Try.prog 3 (.pointer (some ⟨b, o, none⟩)) v H = sto 1 b o v H (wrt H b) := store_eq (by kernel_rfl)
theorem st4 {b o : Nat} {v : Value} {H : AH} : aStore Try.prog 4 (.pointer (some ⟨b, o, none⟩)) v H = sto 1 b o v H (wrt H b) := store_eq (by kernel_rfl)
theorem st5 {b o : Nat} {v : Value} {H : AH} : aStore Try.prog 5 (.pointer (some ⟨b, o, none⟩)) v H = sto 1 b o v H (wrt H b) := store_eq (by kernel_rfl)
theorem st22 {b o : Nat} {v : Value} {H : AH} : aStore Try.prog 22 (.pointer (some ⟨b, o, none⟩)) v H = sto 1 b o v H (wrt H b) := store_eq (by kernel_rfl)
theorem st37 {b o : Nat} {v : Value} {H : AH} : aStore Try.prog 37 (.pointer (some ⟨b, o, none⟩)) v H = sto 1 b o v H (wrt H b) := store_eq (by kernel_rfl)
theorem st39 {b o : Nat} {v : Value} {H : AH} : aStore Try.prog 39 (.pointer (some ⟨b, o, none⟩)) v H = sto 1 b o v H (wrt H b) := store_eq (by kernel_rfl)
theorem st54 {b o : Nat} {v : Value} {H : AH} : aStore Try.prog 54 (.pointer (some ⟨b, o, none⟩)) v H = sto 2 b o v H (wrt H b) := store_eq (by kernel_rfl)
theorem st63 {b o : Nat} {v : Value} {H : AH} : aStore Try.prog 63 (.pointer (some ⟨b, o, none⟩)) v H = sto 3 b o v H (wrt H b) := store_eq (by kernel_rfl)
theorem st64 {b o : Nat} {v : Value} {H : AH} : aStore Try.prog 64 (.pointer (some ⟨b, o, none⟩)) v H = sto 1 b o v H (wrt H b) := store_eq (by kernel_rfl)
theorem st66 {b o : Nat} {v : Value} {H : AH} : aStore Try.prog 66 (.pointer (some ⟨b, o, none⟩)) v H = sto 6 b o v H (wrt H b) := store_eq (by kernel_rfl)
theorem st77 {b o : Nat} {v : Value} {H : AH} : aStore Try.prog 77 (.pointer (some ⟨b, o, none⟩)) v H = sto 7 b o v H (wrt H b) := store_eq (by kernel_rfl)
theorem ub4 : Try.prog.underlying 4 = some .bool := by kernel_rfl

/-- laws.big -/
def k7 : KC :=
 (.seq
 (.ops [⟨some 2, none, (.assign (.const (.bool false)))⟩])
 (.seq
 (.ops [⟨some 3, none, (.move (.tmp 0))⟩,
 ⟨some 4, none, (.call ⟨(.builtin .len), #[(.tmp 3)], #[22]⟩)⟩,
 ⟨some 5, none, (.binOp .gtr 3 (.tmp 4) (.const (.int .i64 1048576)) 3)⟩,
 ⟨some 2, none, (.assign (.tmp 5))⟩])
 .ret))
theorem w7 {args : Array Value} {H : AH} {Φ : Value → AH → Prop} (h : rW Try.prog k7 [] (fin Try.prog [(.tmp 2)] Φ) (tm0 args) H) : CallsA Try.prog 7 args H Φ :=
  CallsA.w k7 [(.tmp 2)] (fun _ => []) Try.func7 rfl rfl (by kernel_rfl) (by kernel_rfl) h

/-- spec.l11Read -/
def k41 : KC :=
 (.seq
 (.ops [⟨some 4, none, (.alloc 66)⟩,
 ⟨some 5, none, (.assign (.const (.int .i64 0)))⟩])
 (.seq
 (.seq
 (.ops [⟨some 11, none, (.move (.tmp 0))⟩,
 ⟨some 12, none, (.call ⟨(.builtin .len), #[(.tmp 11)], #[22]⟩)⟩,
 ⟨some 13, none, (.move (.tmp 1))⟩,
 ⟨some 14, none, (.binOp .sub 3 (.tmp 12) (.tmp 13) 3)⟩,
 ⟨some 15, none, (.binOp .lss 3 (.tmp 14) (.const (.int .i64 5)) 3)⟩])
 (.cond (.tmp 15)
 (.seq
 (.ops [⟨some 16, none, (.build 66 #[])⟩,
 ⟨none, none, (.store 66 (.tmp 4) (.tmp 16))⟩,
 ⟨some 5, none, (.assign (.const (.int .i64 (-1))))⟩])
 .ret)
 .skip))
 (.seq
 (.draw #[] [(3, 0), (4, 0), (9, 0), (10, 0), (15, 0), (16, 0), (21, 0), (22, 0), (27, 0), (28, 0)]
 [⟨some 17, none, (.move (.tmp 0))⟩,
 ⟨some 18, none, (.move (.tmp 1))⟩,
 ⟨some 19, none, (.indexAddr 22 (.tmp 17) (.tmp 18))⟩,
 ⟨some 20, none, (.load 5 (.tmp 19))⟩,
 ⟨some 21, none, (.convert 5 3 (.tmp 20))⟩,
 ⟨some 22, none, (.move (.tmp 0))⟩,
 ⟨some 23, none, (.move (.tmp 1))⟩,
 ⟨some 24, none, (.binOp .add 3 (.tmp 23) (.const (.int .i64 1)) 3)⟩,
 ⟨some 25, none, (.indexAddr 22 (.tmp 22) (.tmp 24))⟩,
 ⟨some 26, none, (.load 5 (.tmp 25))⟩,
 ⟨some 27, none, (.convert 5 3 (.tmp 26))⟩,
 ⟨some 28, none, (.move (.tmp 0))⟩,
 ⟨some 29, none, (.move (.tmp 1))⟩,
 ⟨some 30, none, (.binOp .add 3 (.tmp 29) (.const (.int .i64 2)) 3)⟩,
 ⟨some 31, none, (.indexAddr 22 (.tmp 28) (.tmp 30))⟩,
 ⟨some 32, none, (.load 5 (.tmp 31))⟩,
 ⟨some 33, none, (.convert 5 3 (.tmp 32))⟩,
 ⟨some 34, none, (.move (.tmp 0))⟩,
 ⟨some 35, none, (.move (.tmp 1))⟩,
 ⟨some 36, none, (.binOp .add 3 (.tmp 35) (.const (.int .i64 3)) 3)⟩,
 ⟨some 37, none, (.indexAddr 22 (.tmp 34) (.tmp 36))⟩,
 ⟨some 38, none, (.load 5 (.tmp 37))⟩,
 ⟨some 39, none, (.convert 5 3 (.tmp 38))⟩,
 ⟨some 40, none, (.move (.tmp 0))⟩,
 ⟨some 41, none, (.move (.tmp 1))⟩,
 ⟨some 42, none, (.binOp .add 3 (.tmp 41) (.const (.int .i64 4)) 3)⟩,
 ⟨some 43, none, (.indexAddr 22 (.tmp 40) (.tmp 42))⟩,
 ⟨some 44, none, (.load 5 (.tmp 43))⟩,
 ⟨some 45, none, (.convert 5 3 (.tmp 44))⟩,
 ⟨some 46, none, (.build 63 #[(0, (.tmp 33)), (1, (.tmp 39)), (2, (.tmp 45))])⟩,
 ⟨some 47, none, (.build 66 #[(0, (.tmp 21)), (1, (.tmp 27)), (2, (.tmp 46))])⟩,
 ⟨some 6, none, (.alloc 66)⟩,
 ⟨none, none, (.store 66 (.tmp 6) (.tmp 47))⟩])
 (.seq
 (.ops [⟨some 48, none, (.move (.tmp 1))⟩,
 ⟨some 49, none, (.binOp .add 3 (.tmp 48) (.const (.int .i64 5)) 3)⟩,
 ⟨some 1, none, (.assign (.tmp 49))⟩])
 (.seq
 (.seq
 (.ops [⟨some 50, none, (.fieldAddr 66 (.tmp 6) 0)⟩,
 ⟨some 51, none, (.load 3 (.tmp 50))⟩,
 ⟨some 52, none, (.binOp .neq 3 (.tmp 51) (.const (.int .i64 1)) 3)⟩])
 (.cond (.tmp 52)
 (.seq
 (.ops [⟨some 53, none, (.load 66 (.tmp 6))⟩,
 ⟨some 54, none, (.move (.tmp 1))⟩,
 ⟨none, none, (.store 66 (.tmp 4) (.tmp 53))⟩,
 ⟨some 5, none, (.assign (.tmp 54))⟩])
 .ret)
 .skip))
 (.seq
 (.seq
 (.ops [⟨some 55, none, (.move (.tmp 0))⟩,
 ⟨some 56, none, (.call ⟨(.builtin .len), #[(.tmp 55)], #[22]⟩)⟩,
 ⟨some 57, none, (.move (.tmp 1))⟩,
 ⟨some 58, none, (.binOp .sub 3 (.tmp 56) (.tmp 57) 3)⟩,
 ⟨some 59, none, (.binOp .lss 3 (.tmp 58) (.const (.int .i64 2)) 3)⟩])
 (.cond (.tmp 59)
 (.seq
 (.ops [⟨some 60, none, (.build 66 #[])⟩,
 ⟨none, none, (.store 66 (.tmp 4) (.tmp 60))⟩,
 ⟨some 5, none, (.assign (.const (.int .i64 (-1))))⟩])
 .ret)
 .skip))
 (.seq
 (.ops [⟨some 61, none, (.move (.tmp 0))⟩,
 ⟨some 62, none, (.move (.tmp 1))⟩,
 ⟨some 63, none, (.indexAddr 22 (.tmp 61) (.tmp 62))⟩,
 ⟨some 64, none, (.load 5 (.tmp 63))⟩,
 ⟨some 65, none, (.convert 5 3 (.tmp 64))⟩,
 ⟨some 66, none, (.move (.tmp 0))⟩,
 ⟨some 67, none, (.move (.tmp 1))⟩,
 ⟨some 68, none, (.binOp .add 3 (.tmp 67) (.const (.int .i64 1)) 3)⟩,
 ⟨some 69, none, (.indexAddr 22 (.tmp 66) (.tmp 68))⟩,
 ⟨some 70, none, (.load 5 (.tmp 69))⟩,
 ⟨some 71, none, (.convert 5 3 (.tmp 70))⟩,
 ⟨some 72, none, (.binOp .mul 3 (.const (.int .i64 256)) (.tmp 71) 3)⟩,
 ⟨some 73, none, (.binOp .add 3 (.tmp 65) (.tmp 72) 3)⟩,
 ⟨some 7, none, (.assign (.tmp 73))⟩])
 (.seq
 (.ops [⟨some 74, none, (.move (.tmp 1))⟩,
 ⟨some 75, none, (.binOp .add 3 (.tmp 74) (.const (.int .i64 2)) 3)⟩,
 ⟨some 1, none, (.assign (.tmp 75))⟩])
 (.seq
 (.seq
 (.ops [⟨some 76, none, (.move (.tmp 0))⟩,
 ⟨some 77, none, (.call ⟨(.builtin .len), #[(.tmp 76)], #[22]⟩)⟩,
 ⟨some 78, none, (.move (.tmp 1))⟩,
 ⟨some 79, none, (.binOp .sub 3 (.tmp 77) (.tmp 78) 3)⟩,
 ⟨some 80, none, (.move (.tmp 7))⟩,
 ⟨some 81, none, (.binOp .mul 3 (.const (.int .i64 8)) (.tmp 80) 3)⟩,
 ⟨some 82, none, (.binOp .lss 3 (.tmp 79) (.tmp 81) 3)⟩])
 (.cond (.tmp 82)
 (.seq
 (.ops [⟨some 83, none, (.build 66 #[])⟩,
 ⟨none, none, (.store 66 (.tmp 4) (.tmp 83))⟩,
 ⟨some 5, none, (.assign (.const (.int .i64 (-1))))⟩])
 .ret)
 .skip))
 (.seq
 (.seq
 (.ops [⟨some 8, none, (.assign (.const (.int .i64 0)))⟩])
 (.block 0
 (.loop
 (.seq
 (.seq
 (.ops [⟨some 84, none, (.move (.tmp 8))⟩,
 ⟨some 85, none, (.move (.tmp 7))⟩,
 ⟨some 86, none, (.binOp .lss 3 (.tmp 84) (.tmp 85) 3)⟩])
 (.cond (.tmp 86)
 .skip
 (.exit 0)))
 (.seq
 (.block 1
 (.seq
 (.ops [⟨some 9, none, (.assign (.const (.int .i64 0)))⟩])
 (.seq
 (.seq
 (.ops [⟨some 10, none, (.assign (.const (.int .i64 7)))⟩])
 (.block 2
 (.loop
 (.seq
 (.seq
 (.ops [⟨some 89, none, (.move (.tmp 10))⟩,
 ⟨some 90, none, (.binOp .geq 3 (.tmp 89) (.const (.int .i64 0)) 3)⟩])
 (.cond (.tmp 90)
 .skip
 (.exit 2)))
 (.seq
 (.block 3
 (.ops [⟨some 93, none, (.move (.tmp 9))⟩,
 ⟨some 94, none, (.binOp .shl 3 (.tmp 93) (.const (.int .u64 8)) 84)⟩,
 ⟨some 95, none, (.move (.tmp 0))⟩,
 ⟨some 96, none, (.move (.tmp 1))⟩,
 ⟨some 97, none, (.move (.tmp 10))⟩,
 ⟨some 98, none, (.binOp .add 3 (.tmp 96) (.tmp 97) 3)⟩,
 ⟨some 99, none, (.indexAddr 22 (.tmp 95) (.tmp 98))⟩,
 ⟨some 100, none, (.load 5 (.tmp 99))⟩,
 ⟨some 101, none, (.convert 5 3 (.tmp 100))⟩,
 ⟨some 102, none, (.binOp .or 3 (.tmp 94) (.tmp 101) 3)⟩,
 ⟨some 9, none, (.assign (.tmp 102))⟩]))
 (.ops [⟨some 91, none, (.move (.tmp 10))⟩,
 ⟨some 92, none, (.binOp .sub 3 (.tmp 91) (.const (.int .i64 1)) 3)⟩,
 ⟨some 10, none, (.assign (.tmp 92))⟩]))))))
 (.seq
 (.ops [⟨some 103, none, (.fieldAddr 66 (.tmp 6) 3)⟩,
 ⟨some 104, none, (.load 64 (.tmp 103))⟩,
 ⟨some 105, none, (.move (.tmp 9))⟩,
 ⟨some 106, none, (.binOp .sub 3 (.tmp 105) (.const (.int .i64 1000000000000)) 3)⟩,
 ⟨some 107, none, (.buildSlice 64 1 #[(0, (.tmp 106))])⟩,
 ⟨some 108, none, (.call ⟨(.builtin .append), #[(.tmp 104), (.tmp 107)], #[64, 64]⟩)⟩,
 ⟨some 109, none, (.fieldAddr 66 (.tmp 6) 3)⟩,
 ⟨none, none, (.store 64 (.tmp 109) (.tmp 108))⟩])
 (.ops [⟨some 110, none, (.move (.tmp 1))⟩,
 ⟨some 111, none, (.binOp .add 3 (.tmp 110) (.const (.int .i64 8)) 3)⟩,
 ⟨some 1, none, (.assign (.tmp 111))⟩])))))
 (.ops [⟨some 87, none, (.move (.tmp 8))⟩,
 ⟨some 88, none, (.binOp .add 3 (.tmp 87) (.const (.int .i64 1)) 3)⟩,
 ⟨some 8, none, (.assign (.tmp 88))⟩]))))))
 (.seq
 (.ops [⟨some 112, none, (.load 66 (.tmp 6))⟩,
 ⟨some 113, none, (.move (.tmp 1))⟩,
 ⟨none, none, (.store 66 (.tmp 4) (.tmp 112))⟩,
 ⟨some 5, none, (.assign (.tmp 113))⟩])
 .ret)))))))))))
theorem w41 {args : Array Value} {H : AH} {Φ : Value → AH → Prop} (h : rW Try.prog k41 [] (fin Try.prog [(.cell 4 66), (.tmp 5)] Φ) (tm0 args) H) : CallsA Try.prog 41 args H Φ :=
  CallsA.w k41 [(.cell 4 66), (.tmp 5)] (fun i => if i = 3 then [(3, 0), (4, 0), (9, 0), (10, 0), (15, 0), (16, 0), (21, 0), (22, 0), (27, 0), (28, 0)] else if i = 9 then [(3, 0), (4, 0), (9, 0), (10, 0)] else []) Try.func41 rfl rfl (by kernel_rfl) (by kernel_rfl) h

/-- spec.l1In -/
def k39 : KC :=
 (.seq
 (.ops [⟨some 6, none, (.assign (.const (.bool false)))⟩])
 (.seq
 (.ops [⟨some 7, none, (.move (.tmp 0))⟩,
 ⟨some 8, none, (.move (.tmp 1))⟩,
 ⟨some 9, none, (.binOp .geq 3 (.tmp 7) (.tmp 8) 3)⟩,
 ⟨some 10, none, (.move (.tmp 9))⟩,
 ⟨some 11, (some (10, true)), (.move (.tmp 0))⟩,
 ⟨some 12, (some (10, true)), (.move (.tmp 2))⟩,
 ⟨some 13, (some (10, true)), (.binOp .leq 3 (.tmp 11) (.tmp 12) 3)⟩,
 ⟨some 14, none, (.pick (.tmp 10) (.tmp 13) (.const (.bool false)))⟩,
 ⟨some 6, none, (.assign (.tmp 14))⟩])
 .ret))
theorem w39 {args : Array Value} {H : AH} {Φ : Value → AH → Prop} (h : rW Try.prog k39 [] (fin Try.prog [(.tmp 6)] Φ) (tm0 args) H) : CallsA Try.prog 39 args H Φ :=
  CallsA.w k39 [(.tmp 6)] (fun _ => []) Try.func39 rfl rfl (by kernel_rfl) (by kernel_rfl) h

/-- spec.l11Takes -/
def k90 : KC :=
 (.seq
 (.ops [⟨some 1, none, (.box 66 (.tmp 0))⟩,
 ⟨some 2, none, (.assign (.const (.int .i64 0)))⟩,
 ⟨some 3, none, (.assign (.const (.int .i64 0)))⟩])
 (.seq
 (.seq
 (.ops [⟨some 4, none, (.fieldAddr 66 (.tmp 1) 0)⟩,
 ⟨some 5, none, (.load 3 (.tmp 4))⟩])
 (.block 0
 (.seq
 (.seq
 (.ops [⟨some 7, none, (.binOp .eql 3 (.tmp 5) (.const (.int .i64 1)) 3)⟩,
 ⟨some 6, none, (.assign (.tmp 7))⟩])
 (.cond (.tmp 6)
 .skip
 (.ops [⟨some 8, none, (.binOp .eql 3 (.tmp 5) (.const (.int .i64 2)) 3)⟩,
 ⟨some 6, none, (.assign (.tmp 8))⟩])))
 (.cond (.tmp 6)
 (.seq
 (.ops [⟨some 2, none, (.assign (.const (.int .i64 0)))⟩,
 ⟨some 3, none, (.assign (.const (.int .i64 1)))⟩])
 .ret)
 (.seq
 (.ops [⟨some 10, none, (.binOp .eql 3 (.tmp 5) (.const (.int .i64 5)) 3)⟩,
 ⟨some 9, none, (.assign (.tmp 10))⟩])
 (.cond (.tmp 9)
 (.seq
 (.ops [⟨some 2, none, (.assign (.const (.int .i64 2)))⟩,
 ⟨some 3, none, (.assign (.const (.int .i64 (-1))))⟩])
 .ret)
 .skip))))))
 (.seq
 (.ops [⟨some 2, none, (.assign (.const (.int .i64 1)))⟩,
 ⟨some 3, none, (.assign (.const (.int .i64 0)))⟩])
 .ret)))
theorem w90 {args : Array Value} {H : AH} {Φ : Value → AH → Prop} (h : rW Try.prog k90 [] (fin Try.prog [(.tmp 2), (.tmp 3)] Φ) (tm0 args) H) : CallsA Try.prog 90 args H Φ :=
  CallsA.w k90 [(.tmp 2), (.tmp 3)] (fun _ => []) Try.func90 rfl rfl (by kernel_rfl) (by kernel_rfl) h

/-- spec.l11Depths -/
def k63 : KC :=
 (.seq
 (.ops [⟨some 2, none, (.assign (.const (.slice none 0 0)))⟩,
 ⟨some 3, none, (.assign (.const (.bool false)))⟩])
 (.seq
 (.ops [⟨some 9, none, (.buildSlice 64 1 #[(0, (.const (.int .i64 0)))])⟩,
 ⟨some 4, none, (.assign (.tmp 9))⟩])
 (.seq
 (.ops [⟨some 5, none, (.assign (.const (.int .i64 0)))⟩])
 (.seq
 (.seq
 (.ops [⟨some 6, none, (.assign (.const (.int .i64 0)))⟩])
 (.block 0
 (.loop
 (.seq
 (.seq
 (.ops [⟨some 10, none, (.move (.tmp 6))⟩,
 ⟨some 11, none, (.move (.tmp 0))⟩,
 ⟨some 12, none, (.call ⟨(.builtin .len), #[(.tmp 11)], #[29]⟩)⟩,
 ⟨some 13, none, (.binOp .lss 3 (.tmp 10) (.tmp 12) 3)⟩])
 (.cond (.tmp 13)
 .skip
 (.exit 0)))
 (.seq
 (.block 1
 (.seq
 (.ops [⟨some 17, none, (.move (.tmp 0))⟩,
 ⟨some 18, none, (.move (.tmp 6))⟩,
 ⟨some 19, none, (.indexAddr 29 (.tmp 17) (.tmp 18))⟩,
 ⟨some 20, none, (.load 66 (.tmp 19))⟩,
 ⟨some 21, none, (.call ⟨(.value (.func 90)), #[(.tmp 20)], #[66]⟩)⟩,
 ⟨some 16, none, (.move (.tmp 21))⟩,
 ⟨some 22, none, (.extract (.tmp 16) 0)⟩,
 ⟨some 23, none, (.extract (.tmp 16) 1)⟩,
 ⟨some 7, none, (.assign (.tmp 22))⟩,
 ⟨some 8, none, (.assign (.tmp 23))⟩])
 (.seq
 (.seq
 (.ops [⟨some 24, none, (.move (.tmp 5))⟩,
 ⟨some 25, none, (.move (.tmp 7))⟩,
 ⟨some 26, none, (.binOp .lss 3 (.tmp 24) (.tmp 25) 3)⟩])
 (.cond (.tmp 26)
 (.seq
 (.ops [⟨some 27, none, (.move (.tmp 4))⟩,
 ⟨some 2, none, (.assign (.tmp 27))⟩,
 ⟨some 3, none, (.assign (.const (.bool false)))⟩])
 .ret)
 .skip))
 (.seq
 (.ops [⟨some 28, none, (.move (.tmp 5))⟩,
 ⟨some 29, none, (.move (.tmp 8))⟩,
 ⟨some 30, none, (.binOp .add 3 (.tmp 28) (.tmp 29) 3)⟩,
 ⟨some 5, none, (.assign (.tmp 30))⟩])
 (.ops [⟨some 31, none, (.move (.tmp 4))⟩,
 ⟨some 32, none, (.move (.tmp 5))⟩,
 ⟨some 33, none, (.buildSlice 64 1 #[(0, (.tmp 32))])⟩,
 ⟨some 34, none, (.call ⟨(.builtin .append), #[(.tmp 31), (.tmp 33)], #[64, 64]⟩)⟩,
 ⟨some 4, none, (.assign (.tmp 34))⟩])))))
 (.ops [⟨some 14, none, (.move (.tmp 6))⟩,
 ⟨some 15, none, (.binOp .add 3 (.tmp 14) (.const (.int .i64 1)) 3)⟩,
 ⟨some 6, none, (.assign (.tmp 15))⟩]))))))
 (.seq
 (.ops [⟨some 35, none, (.move (.tmp 4))⟩,
 ⟨some 2, none, (.assign (.tmp 35))⟩,
 ⟨some 3, none, (.assign (.const (.bool true)))⟩])
 .ret)))))
theorem w63 {args : Array Value} {H : AH} {Φ : Value → AH → Prop} (h : rW Try.prog k63 [] (fin Try.prog [(.tmp 2), (.tmp 3)] Φ) (tm0 args) H) : CallsA Try.prog 63 args H Φ :=
  CallsA.w k63 [(.tmp 2), (.tmp 3)] (fun _ => []) Try.func63 rfl rfl (by kernel_rfl) (by kernel_rfl) h

/-- spec.NumOk -/
def k76 : KC :=
 (.seq
 (.ops [⟨some 2, none, (.assign (.const (.bool false)))⟩])
 (.seq
 (.ops [⟨some 3, none, (.move (.tmp 0))⟩,
 ⟨some 4, none, (.call ⟨(.value (.func 39)), #[(.tmp 3), (.const (.int .i64 (-1000000000000))), (.const (.int .i64 1000000000000))], #[3, 3, 3]⟩)⟩,
 ⟨some 2, none, (.assign (.tmp 4))⟩])
 .ret))
theorem w76 {args : Array Value} {H : AH} {Φ : Value → AH → Prop} (h : rW Try.prog k76 [] (fin Try.prog [(.tmp 2)] Φ) (tm0 args) H) : CallsA Try.prog 76 args H Φ :=
  CallsA.w k76 [(.tmp 2)] (fun _ => []) Try.func76 rfl rfl (by kernel_rfl) (by kernel_rfl) h

/-- spec.l9Nums -/
def k81 : KC :=
 (.seq
 (.ops [⟨some 2, none, (.assign (.const (.bool false)))⟩])
 (.seq
 (.seq
 (.ops [⟨some 3, none, (.assign (.const (.int .i64 0)))⟩])
 (.block 0
 (.loop
 (.seq
 (.seq
 (.ops [⟨some 4, none, (.move (.tmp 3))⟩,
 ⟨some 5, none, (.move (.tmp 0))⟩,
 ⟨some 6, none, (.call ⟨(.builtin .len), #[(.tmp 5)], #[64]⟩)⟩,
 ⟨some 7, none, (.binOp .lss 3 (.tmp 4) (.tmp 6) 3)⟩])
 (.cond (.tmp 7)
 .skip
 (.exit 0)))
 (.seq
 (.block 1
 (.seq
 (.ops [⟨some 10, none, (.move (.tmp 0))⟩,
 ⟨some 11, none, (.move (.tmp 3))⟩,
 ⟨some 12, none, (.indexAddr 64 (.tmp 10) (.tmp 11))⟩,
 ⟨some 13, none, (.load 3 (.tmp 12))⟩,
 ⟨some 14, none, (.call ⟨(.value (.func 76)), #[(.tmp 13)], #[3]⟩)⟩,
 ⟨some 15, none, (.unOp .not 4 (.tmp 14))⟩])
 (.cond (.tmp 15)
 (.seq
 (.ops [⟨some 2, none, (.assign (.const (.bool false)))⟩])
 .ret)
 .skip)))
 (.ops [⟨some 8, none, (.move (.tmp 3))⟩,
 ⟨some 9, none, (.binOp .add 3 (.tmp 8) (.const (.int .i64 1)) 3)⟩,
 ⟨some 3, none, (.assign (.tmp 9))⟩]))))))
 (.seq
 (.ops [⟨some 16, none, (.move (.tmp 0))⟩,
 ⟨some 17, none, (.call ⟨(.builtin .len), #[(.tmp 16)], #[64]⟩)⟩,
 ⟨some 18, none, (.call ⟨(.value (.func 39)), #[(.tmp 17), (.const (.int .i64 1)), (.const (.int .i64 300))], #[3, 3, 3]⟩)⟩,
 ⟨some 2, none, (.assign (.tmp 18))⟩])
 .ret)))
theorem w81 {args : Array Value} {H : AH} {Φ : Value → AH → Prop} (h : rW Try.prog k81 [] (fin Try.prog [(.tmp 2)] Φ) (tm0 args) H) : CallsA Try.prog 81 args H Φ :=
  CallsA.w k81 [(.tmp 2)] (fun _ => []) Try.func81 rfl rfl (by kernel_rfl) (by kernel_rfl) h

/-- spec.l1Sign2 -/
def k97 : KC :=
 (.seq
 (.ops [⟨some 2, none, (.assign (.const (.bool false)))⟩])
 (.seq
 (.ops [⟨some 3, none, (.move (.tmp 0))⟩,
 ⟨some 4, none, (.binOp .eql 3 (.tmp 3) (.const (.int .i64 43)) 3)⟩,
 ⟨some 5, none, (.move (.tmp 4))⟩,
 ⟨some 6, (some (5, false)), (.move (.tmp 0))⟩,
 ⟨some 7, (some (5, false)), (.binOp .eql 3 (.tmp 6) (.const (.int .i64 45)) 3)⟩,
 ⟨some 8, none, (.pick (.tmp 5) (.const (.bool true)) (.tmp 7))⟩,
 ⟨some 9, none, (.move (.tmp 8))⟩,
 ⟨some 10, (some (9, false)), (.move (.tmp 0))⟩,
 ⟨some 11, (some (9, false)), (.binOp .eql 3 (.tmp 10) (.const (.int .i64 42)) 3)⟩,
 ⟨some 12, none, (.pick (.tmp 9) (.const (.bool true)) (.tmp 11))⟩,
 ⟨some 13, none, (.move (.tmp 12))⟩,
 ⟨some 14, (some (13, false)), (.move (.tmp 0))⟩,
 ⟨some 15, (some (13, false)), (.binOp .eql 3 (.tmp 14) (.const (.int .i64 37)) 3)⟩,
 ⟨some 16, none, (.pick (.tmp 13) (.const (.bool true)) (.tmp 15))⟩,
 ⟨some 17, none, (.move (.tmp 16))⟩,
 ⟨some 18, (some (17, false)), (.move (.tmp 0))⟩,
 ⟨some 19, (some (17, false)), (.binOp .eql 3 (.tmp 18) (.const (.int .i64 124)) 3)⟩,
 ⟨some 20, none, (.pick (.tmp 17) (.const (.bool true)) (.tmp 19))⟩,
 ⟨some 21, none, (.move (.tmp 20))⟩,
 ⟨some 22, (some (21, false)), (.move (.tmp 0))⟩,
 ⟨some 23, (some (21, false)), (.binOp .eql 3 (.tmp 22) (.const (.int .i64 38)) 3)⟩,
 ⟨some 24, none, (.pick (.tmp 21) (.const (.bool true)) (.tmp 23))⟩,
 ⟨some 25, none, (.move (.tmp 24))⟩,
 ⟨some 26, (some (25, false)), (.move (.tmp 0))⟩,
 ⟨some 27, (some (25, false)), (.binOp .eql 3 (.tmp 26) (.const (.int .i64 94)) 3)⟩,
 ⟨some 28, none, (.pick (.tmp 25) (.const (.bool true)) (.tmp 27))⟩,
 ⟨some 29, none, (.move (.tmp 28))⟩,
 ⟨some 30, (some (29, false)), (.move (.tmp 0))⟩,
 ⟨some 31, (some (29, false)), (.binOp .eql 3 (.tmp 30) (.const (.int .i64 61)) 3)⟩,
 ⟨some 32, none, (.pick (.tmp 29) (.const (.bool true)) (.tmp 31))⟩,
 ⟨some 33, none, (.move (.tmp 32))⟩,
 ⟨some 34, (some (33, false)), (.move (.tmp 0))⟩,
 ⟨some 35, (some (33, false)), (.binOp .eql 3 (.tmp 34) (.const (.int .i64 60)) 3)⟩,
 ⟨some 36, none, (.pick (.tmp 33) (.const (.bool true)) (.tmp 35))⟩,
 ⟨some 37, none, (.move (.tmp 36))⟩,
 ⟨some 38, (some (37, false)), (.move (.tmp 0))⟩,
 ⟨some 39, (some (37, false)), (.binOp .eql 3 (.tmp 38) (.const (.int .i64 62)) 3)⟩,
 ⟨some 40, none, (.pick (.tmp 37) (.const (.bool true)) (.tmp 39))⟩,
 ⟨some 2, none, (.assign (.tmp 40))⟩])
 .ret))
theorem w97 {args : Array Value} {H : AH} {Φ : Value → AH → Prop} (h : rW Try.prog k97 [] (fin Try.prog [(.tmp 2)] Φ) (tm0 args) H) : CallsA Try.prog 97 args H Φ :=
  CallsA.w k97 [(.tmp 2)] (fun _ => []) Try.func97 rfl rfl (by kernel_rfl) (by kernel_rfl) h

/-- spec.l1Sign1 -/
def k98 : KC :=
 (.seq
 (.ops [⟨some 2, none, (.assign (.const (.bool false)))⟩])
 (.seq
 (.ops [⟨some 3, none, (.move (.tmp 0))⟩,
 ⟨some 4, none, (.binOp .eql 3 (.tmp 3) (.const (.int .i64 43)) 3)⟩,
 ⟨some 5, none, (.move (.tmp 4))⟩,
 ⟨some 6, (some (5, false)), (.move (.tmp 0))⟩,
 ⟨some 7, (some (5, false)), (.binOp .eql 3 (.tmp 6) (.const (.int .i64 45)) 3)⟩,
 ⟨some 8, none, (.pick (.tmp 5) (.const (.bool true)) (.tmp 7))⟩,
 ⟨some 9, none, (.move (.tmp 8))⟩,
 ⟨some 10, (some (9, false)), (.move (.tmp 0))⟩,
 ⟨some 11, (some (9, false)), (.binOp .eql 3 (.tmp 10) (.const (.int .i64 42)) 3)⟩,
 ⟨some 12, none, (.pick (.tmp 9) (.const (.bool true)) (.tmp 11))⟩,
 ⟨some 13, none, (.move (.tmp 12))⟩,
 ⟨some 14, (some (13, false)), (.move (.tmp 0))⟩,
 ⟨some 15, (some (13, false)), (.binOp .eql 3 (.tmp 14) (.const (.int .i64 124)) 3)⟩,
 ⟨some 16, none, (.pick (.tmp 13) (.const (.bool true)) (.tmp 15))⟩,
 ⟨some 17, none, (.move (.tmp 16))⟩,
 ⟨some 18, (some (17, false)), (.move (.tmp 0))⟩,
 ⟨some 19, (some (17, false)), (.binOp .eql 3 (.tmp 18) (.const (.int .i64 126)) 3)⟩,
 ⟨some 20, none, (.pick (.tmp 17) (.const (.bool true)) (.tmp 19))⟩,
 ⟨some 2, none, (.assign (.tmp 20))⟩])
 .ret))
theorem w98 {args : Array Value} {H : AH} {Φ : Value → AH → Prop} (h : rW Try.prog k98 [] (fin Try.prog [(.tmp 2)] Φ) (tm0 args) H) : CallsA Try.prog 98 args H Φ :=
  CallsA.w k98 [(.tmp 2)] (fun _ => []) Try.func98 rfl rfl (by kernel_rfl) (by kernel_rfl) h

/-- spec.FunOne -/
def k82 : KC :=
 (.seq
 (.ops [⟨some 1, none, (.box 63 (.tmp 0))⟩,
 ⟨some 2, none, (.assign (.const (.bool false)))⟩])
 (.seq
 (.block 0
 (.seq
 (.ops [⟨some 4, none, (.fieldAddr 63 (.tmp 1) 2)⟩,
 ⟨some 5, none, (.load 3 (.tmp 4))⟩,
 ⟨some 6, none, (.binOp .neq 3 (.tmp 5) (.const (.int .i64 0)) 3)⟩,
 ⟨some 3, none, (.assign (.tmp 6))⟩])
 (.cond (.tmp 3)
 (.seq
 (.ops [⟨some 2, none, (.assign (.const (.bool false)))⟩])
 .ret)
 (.seq
 (.ops [⟨some 8, none, (.fieldAddr 63 (.tmp 1) 1)⟩,
 ⟨some 9, none, (.load 3 (.tmp 8))⟩,
 ⟨some 10, none, (.binOp .eql 3 (.tmp 9) (.const (.int .i64 47)) 3)⟩,
 ⟨some 11, none, (.move (.tmp 10))⟩,
 ⟨some 12, (some (11, false)), (.fieldAddr 63 (.tmp 1) 1)⟩,
 ⟨some 13, (some (11, false)), (.load 3 (.tmp 12))⟩,
 ⟨some 14, (some (11, false)), (.binOp .eql 3 (.tmp 13) (.const (.int .i64 92)) 3)⟩,
 ⟨some 15, none, (.pick (.tmp 11) (.const (.bool true)) (.tmp 14))⟩,
 ⟨some 7, none, (.assign (.tmp 15))⟩])
 (.cond (.tmp 7)
 (.seq
 (.ops [⟨some 16, none, (.fieldAddr 63 (.tmp 1) 0)⟩,
 ⟨some 17, none, (.load 3 (.tmp 16))⟩,
 ⟨some 18, none, (.call ⟨(.value (.func 97)), #[(.tmp 17)], #[3]⟩)⟩,
 ⟨some 2, none, (.assign (.tmp 18))⟩])
 .ret)
 (.seq
 (.ops [⟨some 20, none, (.fieldAddr 63 (.tmp 1) 1)⟩,
 ⟨some 21, none, (.load 3 (.tmp 20))⟩,
 ⟨some 22, none, (.binOp .neq 3 (.tmp 21) (.const (.int .i64 0)) 3)⟩,
 ⟨some 19, none, (.assign (.tmp 22))⟩])
 (.cond (.tmp 19)
 (.seq
 (.ops [⟨some 2, none, (.assign (.const (.bool false)))⟩])
 .ret)
 .skip)))))))
 (.seq
 (.ops [⟨some 23, none, (.fieldAddr 63 (.tmp 1) 0)⟩,
 ⟨some 24, none, (.load 3 (.tmp 23))⟩,
 ⟨some 25, none, (.call ⟨(.value (.func 98)), #[(.tmp 24)], #[3]⟩)⟩,
 ⟨some 26, none, (.move (.tmp 25))⟩,
 ⟨some 27, (some (26, false)), (.fieldAddr 63 (.tmp 1) 0)⟩,
 ⟨some 28, (some (26, false)), (.load 3 (.tmp 27))⟩,
 ⟨some 29, (some (26, false)), (.binOp .eql 3 (.tmp 28) (.const (.int .i64 105)) 3)⟩,
 ⟨some 30, none, (.pick (.tmp 26) (.const (.bool true)) (.tmp 29))⟩,
 ⟨some 31, none, (.move (.tmp 30))⟩,
 ⟨some 32, (some (31, false)), (.fieldAddr 63 (.tmp 1) 0)⟩,
 ⟨some 33, (some (31, false)), (.load 3 (.tmp 32))⟩,
 ⟨some 34, (some (31, false)), (.binOp .eql 3 (.tmp 33) (.const (.int .i64 35)) 3)⟩,
 ⟨some 35, none, (.pick (.tmp 31) (.const (.bool true)) (.tmp 34))⟩,
 ⟨some 36, none, (.move (.tmp 35))⟩,
 ⟨some 37, (some (36, false)), (.fieldAddr 63 (.tmp 1) 0)⟩,
 ⟨some 38, (some (36, false)), (.load 3 (.tmp 37))⟩,
 ⟨some 39, (some (36, false)), (.binOp .eql 3 (.tmp 38) (.const (.int .i64 44)) 3)⟩,
 ⟨some 40, none, (.pick (.tmp 36) (.const (.bool true)) (.tmp 39))⟩,
 ⟨some 41, none, (.move (.tmp 40))⟩,
 ⟨some 42, (some (41, false)), (.fieldAddr 63 (.tmp 1) 0)⟩,
 ⟨some 43, (some (41, false)), (.load 3 (.tmp 42))⟩,
 ⟨some 44, (some (41, false)), (.binOp .eql 3 (.tmp 43) (.const (.int .i64 114)) 3)⟩,
 ⟨some 45, none, (.pick (.tmp 41) (.const (.bool true)) (.tmp 44))⟩,
 ⟨some 46, none, (.move (.tmp 45))⟩,
 ⟨some 47, (some (46, false)), (.fieldAddr 63 (.tmp 1) 0)⟩,
 ⟨some 48, (some (46, false)), (.load 3 (.tmp 47))⟩,
 ⟨some 49, (some (46, false)), (.binOp .eql 3 (.tmp 48) (.const (.int .i64 122)) 3)⟩,
 ⟨some 50, none, (.pick (.tmp 46) (.const (.bool true)) (.tmp 49))⟩,
 ⟨some 51, none, (.move (.tmp 50))⟩,
 ⟨some 52, (some (51, false)), (.fieldAddr 63 (.tmp 1) 0)⟩,
 ⟨some 53, (some (51, false)), (.load 3 (.tmp 52))⟩,
 ⟨some 54, (some (51, false)), (.binOp .eql 3 (.tmp 53) (.const (.int .i64 103)) 3)⟩,
 ⟨some 55, none, (.pick (.tmp 51) (.const (.bool true)) (.tmp 54))⟩,
 ⟨some 2, none, (.assign (.tmp 55))⟩])
 .ret)))
theorem w82 {args : Array Value} {H : AH} {Φ : Value → AH → Prop} (h : rW Try.prog k82 [] (fin Try.prog [(.tmp 2)] Φ) (tm0 args) H) : CallsA Try.prog 82 args H Φ :=
  CallsA.w k82 [(.tmp 2)] (fun _ => []) Try.func82 rfl rfl (by kernel_rfl) (by kernel_rfl) h

/-- spec.FunTwo -/
def k83 : KC :=
 (.seq
 (.ops [⟨some 1, none, (.box 63 (.tmp 0))⟩,
 ⟨some 2, none, (.assign (.const (.bool false)))⟩])
 (.seq
 (.seq
 (.ops [⟨some 3, none, (.fieldAddr 63 (.tmp 1) 1)⟩,
 ⟨some 4, none, (.load 3 (.tmp 3))⟩,
 ⟨some 5, none, (.binOp .eql 3 (.tmp 4) (.const (.int .i64 46)) 3)⟩])
 (.cond (.tmp 5)
 (.seq
 (.ops [⟨some 6, none, (.fieldAddr 63 (.tmp 1) 0)⟩,
 ⟨some 7, none, (.load 3 (.tmp 6))⟩,
 ⟨some 8, none, (.call ⟨(.value (.func 97)), #[(.tmp 7)], #[3]⟩)⟩,
 ⟨some 9, none, (.move (.tmp 8))⟩,
 ⟨some 10, (some (9, true)), (.fieldAddr 63 (.tmp 1) 2)⟩,
 ⟨some 11, (some (9, true)), (.load 3 (.tmp 10))⟩,
 ⟨some 12, (some (9, true)), (.call ⟨(.value (.func 97)), #[(.tmp 11)], #[3]⟩)⟩,
 ⟨some 13, none, (.pick (.tmp 9) (.tmp 12) (.const (.bool false)))⟩,
 ⟨some 2, none, (.assign (.tmp 13))⟩])
 .ret)
 .skip))
 (.seq
 (.block 0
 (.seq
 (.ops [⟨some 15, none, (.fieldAddr 63 (.tmp 1) 2)⟩,
 ⟨some 16, none, (.load 3 (.tmp 15))⟩,
 ⟨some 17, none, (.binOp .neq 3 (.tmp 16) (.const (.int .i64 0)) 3)⟩,
 ⟨some 14, none, (.assign (.tmp 17))⟩])
 (.cond (.tmp 14)
 (.seq
 (.ops [⟨some 2, none, (.assign (.const (.bool false)))⟩])
 .ret)
 (.seq
 (.ops [⟨some 19, none, (.fieldAddr 63 (.tmp 1) 1)⟩,
 ⟨some 20, none, (.load 3 (.tmp 19))⟩,
 ⟨some 21, none, (.binOp .eql 3 (.tmp 20) (.const (.int .i64 111)) 3)⟩,
 ⟨some 18, none, (.assign (.tmp 21))⟩])
 (.cond (.tmp 18)
 (.seq
 (.ops [⟨some 22, none, (.fieldAddr 63 (.tmp 1) 0)⟩,
 ⟨some 23, none, (.load 3 (.tmp 22))⟩,
 ⟨some 24, none, (.call ⟨(.value (.func 97)), #[(.tmp 23)], #[3]⟩)⟩,
 ⟨some 2, none, (.assign (.tmp 24))⟩])
 .ret)
 (.seq
 (.ops [⟨some 26, none, (.fieldAddr 63 (.tmp 1) 1)⟩,
 ⟨some 27, none, (.load 3 (.tmp 26))⟩,
 ⟨some 28, none, (.binOp .neq 3 (.tmp 27) (.const (.int .i64 0)) 3)⟩,
 ⟨some 25, none, (.assign (.tmp 28))⟩])
 (.cond (.tmp 25)
 (.seq
 (.ops [⟨some 2, none, (.assign (.const (.bool false)))⟩])
 .ret)
 .skip)))))))
 (.seq
 (.ops [⟨some 29, none, (.fieldAddr 63 (.tmp 1) 0)⟩,
 ⟨some 30, none, (.load 3 (.tmp 29))⟩,
 ⟨some 31, none, (.call ⟨(.value (.func 97)), #[(.tmp 30)], #[3]⟩)⟩,
 ⟨some 32, none, (.move (.tmp 31))⟩,
 ⟨some 33, (some (32, false)), (.fieldAddr 63 (.tmp 1) 0)⟩,
 ⟨some 34, (some (32, false)), (.load 3 (.tmp 33))⟩,
 ⟨some 35, (some (32, false)), (.binOp .eql 3 (.tmp 34) (.const (.int .i64 35)) 3)⟩,
 ⟨some 36, none, (.pick (.tmp 32) (.const (.bool true)) (.tmp 35))⟩,
 ⟨some 37, none, (.move (.tmp 36))⟩,
 ⟨some 38, (some (37, false)), (.fieldAddr 63 (.tmp 1) 0)⟩,
 ⟨some 39, (some (37, false)), (.load 3 (.tmp 38))⟩,
 ⟨some 40, (some (37, false)), (.binOp .eql 3 (.tmp 39) (.const (.int .i64 44)) 3)⟩,
 ⟨some 41, none, (.pick (.tmp 37) (.const (.bool true)) (.tmp 40))⟩,
 ⟨some 42, none, (.move (.tmp 41))⟩,
 ⟨some 43, (some (42, false)), (.fieldAddr 63 (.tmp 1) 0)⟩,
 ⟨some 44, (some (42, false)), (.load 3 (.tmp 43))⟩,
 ⟨some 45, (some (42, false)), (.binOp .eql 3 (.tmp 44) (.const (.int .i64 116)) 3)⟩,
 ⟨some 46, none, (.pick (.tmp 42) (.const (.bool true)) (.tmp 45))⟩,
 ⟨some 47, none, (.move (.tmp 46))⟩,
 ⟨some 48, (some (47, false)), (.fieldAddr 63 (.tmp 1) 0)⟩,
 ⟨some 49, (some (47, false)), (.load 3 (.tmp 48))⟩,
 ⟨some 50, (some (47, false)), (.binOp .eql 3 (.tmp 49) (.const (.int .i64 100)) 3)⟩,
 ⟨some 51, none, (.pick (.tmp 47) (.const (.bool true)) (.tmp 50))⟩,
 ⟨some 52, none, (.move (.tmp 51))⟩,
 ⟨some 53, (some (52, false)), (.fieldAddr 63 (.tmp 1) 0)⟩,
 ⟨some 54, (some (52, false)), (.load 3 (.tmp 53))⟩,
 ⟨some 55, (some (52, false)), (.binOp .eql 3 (.tmp 54) (.const (.int .i64 114)) 3)⟩,
 ⟨some 56, none, (.pick (.tmp 52) (.const (.bool true)) (.tmp 55))⟩,
 ⟨some 57, none, (.move (.tmp 56))⟩,
 ⟨some 58, (some (57, false)), (.fieldAddr 63 (.tmp 1) 0)⟩,
 ⟨some 59, (some (57, false)), (.load 3 (.tmp 58))⟩,
 ⟨some 60, (some (57, false)), (.binOp .eql 3 (.tmp 59) (.const (.int .i64 64)) 3)⟩,
 ⟨some 61, none, (.pick (.tmp 57) (.const (.bool true)) (.tmp 60))⟩,
 ⟨some 62, none, (.move (.tmp 61))⟩,
 ⟨some 63, (some (62, false)), (.fieldAddr 63 (.tmp 1) 0)⟩,
 ⟨some 64, (some (62, false)), (.load 3 (.tmp 63))⟩,
 ⟨some 65, (some (62, false)), (.binOp .eql 3 (.tmp 64) (.const (.int .i64 63)) 3)⟩,
 ⟨some 66, none, (.pick (.tmp 62) (.const (.bool true)) (.tmp 65))⟩,
 ⟨some 67, none, (.move (.tmp 66))⟩,
 ⟨some 68, (some (67, false)), (.fieldAddr 63 (.tmp 1) 0)⟩,
 ⟨some 69, (some (67, false)), (.load 3 (.tmp 68))⟩,
 ⟨some 70, (some (67, false)), (.binOp .eql 3 (.tmp 69) (.const (.int .i64 36)) 3)⟩,
 ⟨some 71, none, (.pick (.tmp 67) (.const (.bool true)) (.tmp 70))⟩,
 ⟨some 72, none, (.move (.tmp 71))⟩,
 ⟨some 73, (some (72, false)), (.fieldAddr 63 (.tmp 1) 0)⟩,
 ⟨some 74, (some (72, false)), (.load 3 (.tmp 73))⟩,
 ⟨some 75, (some (72, false)), (.binOp .eql 3 (.tmp 74) (.const (.int .i64 101)) 3)⟩,
 ⟨some 76, none, (.pick (.tmp 72) (.const (.bool true)) (.tmp 75))⟩,
 ⟨some 2, none, (.assign (.tmp 76))⟩])
 .ret))))
theorem w83 {args : Array Value} {H : AH} {Φ : Value → AH → Prop} (h : rW Try.prog k83 [] (fin Try.prog [(.tmp 2)] Φ) (tm0 args) H) : CallsA Try.prog 83 args H Φ :=
  CallsA.w k83 [(.tmp 2)] (fun _ => []) Try.func83 rfl rfl (by kernel_rfl) (by kernel_rfl) h

/-- spec.l11Instr -/
def k66 : KC :=
 (.seq
 (.ops [⟨some 1, none, (.box 66 (.tmp 0))⟩,
 ⟨some 2, none, (.assign (.const (.bool false)))⟩])
 (.seq
 (.ops [⟨some 4, none, (.build 63 #[])⟩,
 ⟨some 3, none, (.alloc 63)⟩,
 ⟨none, none, (.store 63 (.tmp 3) (.tmp 4))⟩])
 (.seq
 (.seq
 (.ops [⟨some 5, none, (.fieldAddr 66 (.tmp 1) 0)⟩,
 ⟨some 6, none, (.load 3 (.tmp 5))⟩])
 (.block 0
 (.seq
 (.ops [⟨some 8, none, (.binOp .eql 3 (.tmp 6) (.const (.int .i64 1)) 3)⟩,
 ⟨some 7, none, (.assign (.tmp 8))⟩])
 (.cond (.tmp 7)
 (.seq
 (.ops [⟨some 9, none, (.fieldAddr 66 (.tmp 1) 1)⟩,
 ⟨some 10, none, (.load 3 (.tmp 9))⟩,
 ⟨some 11, none, (.binOp .eql 3 (.tmp 10) (.const (.int .i64 0)) 3)⟩,
 ⟨some 12, none, (.move (.tmp 11))⟩,
 ⟨some 13, (some (12, true)), (.fieldAddr 66 (.tmp 1) 2)⟩,
 ⟨some 14, (some (12, true)), (.load 63 (.tmp 13))⟩,
 ⟨some 15, (some (12, true)), (.load 63 (.tmp 3))⟩,
 ⟨some 16, (some (12, true)), (.binOp .eql 63 (.tmp 14) (.tmp 15) 63)⟩,
 ⟨some 17, none, (.pick (.tmp 12) (.tmp 16) (.const (.bool false)))⟩,
 ⟨some 18, none, (.move (.tmp 17))⟩,
 ⟨some 19, (some (18, true)), (.fieldAddr 66 (.tmp 1) 3)⟩,
 ⟨some 20, (some (18, true)), (.load 64 (.tmp 19))⟩,
 ⟨some 21, (some (18, true)), (.call ⟨(.value (.func 81)), #[(.tmp 20)], #[64]⟩)⟩,
 ⟨some 22, none, (.pick (.tmp 18) (.tmp 21) (.const (.bool false)))⟩,
 ⟨some 2, none, (.assign (.tmp 22))⟩])
 .ret)
 (.seq
 (.seq
 (.ops [⟨some 24, none, (.binOp .eql 3 (.tmp 6) (.const (.int .i64 2)) 3)⟩,
 ⟨some 23, none, (.assign (.tmp 24))⟩])
 (.cond (.tmp 23)
 .skip
 (.ops [⟨some 25, none, (.binOp .eql 3 (.tmp 6) (.const (.int .i64 3)) 3)⟩,
 ⟨some 23, none, (.assign (.tmp 25))⟩])))
 (.cond (.tmp 23)
 (.seq
 (.ops [⟨some 26, none, (.fieldAddr 66 (.tmp 1) 1)⟩,
 ⟨some 27, none, (.load 3 (.tmp 26))⟩,
 ⟨some 28, none, (.call ⟨(.value (.func 39)), #[(.tmp 27), (.const (.int .i64 0)), (.const (.int .i64 25))], #[3, 3, 3]⟩)⟩,
 ⟨some 29, none, (.move (.tmp 28))⟩,
 ⟨some 30, (some (29, true)), (.fieldAddr 66 (.tmp 1) 2)⟩,
 ⟨some 31, (some (29, true)), (.load 63 (.tmp 30))⟩,
 ⟨some 32, (some (29, true)), (.load 63 (.tmp 3))⟩,
 ⟨some 33, (some (29, true)), (.binOp .eql 63 (.tmp 31) (.tmp 32) 63)⟩,
 ⟨some 34, none, (.pick (.tmp 29) (.tmp 33) (.const (.bool false)))⟩,
 ⟨some 35, none, (.move (.tmp 34))⟩,
 ⟨some 36, (some (35, true)), (.fieldAddr 66 (.tmp 1) 3)⟩,
 ⟨some 37, (some (35, true)), (.load 64 (.tmp 36))⟩,
 ⟨some 38, (some (35, true)), (.call ⟨(.builtin .len), #[(.tmp 37)], #[64]⟩)⟩,
 ⟨some 39, (some (35, true)), (.binOp .eql 3 (.tmp 38) (.const (.int .i64 0)) 3)⟩,
 ⟨some 40, none, (.pick (.tmp 35) (.tmp 39) (.const (.bool false)))⟩,
 ⟨some 2, none, (.assign (.tmp 40))⟩])
 .ret)
 (.seq
 (.ops [⟨some 42, none, (.binOp .eql 3 (.tmp 6) (.const (.int .i64 4)) 3)⟩,
 ⟨some 41, none, (.assign (.tmp 42))⟩])
 (.cond (.tmp 41)
 (.seq
 (.ops [⟨some 43, none, (.fieldAddr 66 (.tmp 1) 1)⟩,
 ⟨some 44, none, (.load 3 (.tmp 43))⟩,
 ⟨some 45, none, (.binOp .eql 3 (.tmp 44) (.const (.int .i64 0)) 3)⟩,
 ⟨some 46, none, (.move (.tmp 45))⟩,
 ⟨some 47, (some (46, true)), (.fieldAddr 66 (.tmp 1) 2)⟩,
 ⟨some 48, (some (46, true)), (.load 63 (.tmp 47))⟩,
 ⟨some 49, (some (46, true)), (.call ⟨(.value (.func 82)), #[(.tmp 48)], #[63]⟩)⟩,
 ⟨some 50, none, (.pick (.tmp 46) (.tmp 49) (.const (.bool false)))⟩,
 ⟨some 51, none, (.move (.tmp 50))⟩,
 ⟨some 52, (some (51, true)), (.fieldAddr 66 (.tmp 1) 3)⟩,
 ⟨some 53, (some (51, true)), (.load 64 (.tmp 52))⟩,
 ⟨some 54, (some (51, true)), (.call ⟨(.builtin .len), #[(.tmp 53)], #[64]⟩)⟩,
 ⟨some 55, (some (51, true)), (.binOp .eql 3 (.tmp 54) (.const (.int .i64 0)) 3)⟩,
 ⟨some 56, none, (.pick (.tmp 51) (.tmp 55) (.const (.bool false)))⟩,
 ⟨some 2, none, (.assign (.tmp 56))⟩])
 .ret)
 (.seq
 (.ops [⟨some 58, none, (.binOp .eql 3 (.tmp 6) (.const (.int .i64 5)) 3)⟩,
 ⟨some 57, none, (.assign (.tmp 58))⟩])
 (.cond (.tmp 57)
 (.seq
 (.ops [⟨some 59, none, (.fieldAddr 66 (.tmp 1) 1)⟩,
 ⟨some 60, none, (.load 3 (.tmp 59))⟩,
 ⟨some 61, none, (.binOp .eql 3 (.tmp 60) (.const (.int .i64 0)) 3)⟩,
 ⟨some 62, none, (.move (.tmp 61))⟩,
 ⟨some 63, (some (62, true)), (.fieldAddr 66 (.tmp 1) 2)⟩,
 ⟨some 64, (some (62, true)), (.load 63 (.tmp 63))⟩,
 ⟨some 65, (some (62, true)), (.call ⟨(.value (.func 83)), #[(.tmp 64)], #[63]⟩)⟩,
 ⟨some 66, none, (.pick (.tmp 62) (.tmp 65) (.const (.bool false)))⟩,
 ⟨some 67, none, (.move (.tmp 66))⟩,
 ⟨some 68, (some (67, true)), (.fieldAddr 66 (.tmp 1) 3)⟩,
 ⟨some 69, (some (67, true)), (.load 64 (.tmp 68))⟩,
 ⟨some 70, (some (67, true)), (.call ⟨(.builtin .len), #[(.tmp 69)], #[64]⟩)⟩,
 ⟨some 71, (some (67, true)), (.binOp .eql 3 (.tmp 70) (.const (.int .i64 0)) 3)⟩,
 ⟨some 72, none, (.pick (.tmp 67) (.tmp 71) (.const (.bool false)))⟩,
 ⟨some 2, none, (.assign (.tmp 72))⟩])
 .ret)
 .skip))))))))))
 (.seq
 (.ops [⟨some 2, none, (.assign (.const (.bool false)))⟩])
 .ret))))
theorem w66 {args : Array Value} {H : AH} {Φ : Value → AH → Prop} (h : rW Try.prog k66 [] (fin Try.prog [(.tmp 2)] Φ) (tm0 args) H) : CallsA Try.prog 66 args H Φ :=
  CallsA.w k66 [(.tmp 2)] (fun _ => []) Try.func66 rfl rfl (by kernel_rfl) (by kernel_rfl) h

/-- spec.CodeOk -/
def k30 : KC :=
 (.seq
 (.ops [⟨some 2, none, (.assign (.const (.bool false)))⟩])
 (.seq
 (.seq
 (.ops [⟨some 6, none, (.move (.tmp 0))⟩,
 ⟨some 7, none, (.call ⟨(.builtin .len), #[(.tmp 6)], #[29]⟩)⟩,
 ⟨some 8, none, (.call ⟨(.value (.func 39)), #[(.tmp 7), (.const (.int .i64 1)), (.const (.int .i64 60))], #[3, 3, 3]⟩)⟩,
 ⟨some 9, none, (.unOp .not 4 (.tmp 8))⟩])
 (.cond (.tmp 9)
 (.seq
 (.ops [⟨some 2, none, (.assign (.const (.bool false)))⟩])
 .ret)
 .skip))
 (.seq
 (.seq
 (.ops [⟨some 3, none, (.assign (.const (.int .i64 0)))⟩])
 (.block 0
 (.loop
 (.seq
 (.seq
 (.ops [⟨some 10, none, (.move (.tmp 3))⟩,
 ⟨some 11, none, (.move (.tmp 0))⟩,
 ⟨some 12, none, (.call ⟨(.builtin .len), #[(.tmp 11)], #[29]⟩)⟩,
 ⟨some 13, none, (.binOp .lss 3 (.tmp 10) (.tmp 12) 3)⟩])
 (.cond (.tmp 13)
 .skip
 (.exit 0)))
 (.seq
 (.block 1
 (.seq
 (.ops [⟨some 16, none, (.move (.tmp 0))⟩,
 ⟨some 17, none, (.move (.tmp 3))⟩,
 ⟨some 18, none, (.indexAddr 29 (.tmp 16) (.tmp 17))⟩,
 ⟨some 19, none, (.load 66 (.tmp 18))⟩,
 ⟨some 20, none, (.call ⟨(.value (.func 66)), #[(.tmp 19)], #[66]⟩)⟩,
 ⟨some 21, none, (.unOp .not 4 (.tmp 20))⟩])
 (.cond (.tmp 21)
 (.seq
 (.ops [⟨some 2, none, (.assign (.const (.bool false)))⟩])
 .ret)
 .skip)))
 (.ops [⟨some 14, none, (.move (.tmp 3))⟩,
 ⟨some 15, none, (.binOp .add 3 (.tmp 14) (.const (.int .i64 1)) 3)⟩,
 ⟨some 3, none, (.assign (.tmp 15))⟩]))))))
 (.seq
 (.ops [⟨some 23, none, (.move (.tmp 0))⟩,
 ⟨some 24, none, (.call ⟨(.value (.func 63)), #[(.tmp 23)], #[29]⟩)⟩,
 ⟨some 22, none, (.move (.tmp 24))⟩,
 ⟨some 25, none, (.extract (.tmp 22) 0)⟩,
 ⟨some 26, none, (.extract (.tmp 22) 1)⟩,
 ⟨some 4, none, (.assign (.tmp 25))⟩,
 ⟨some 5, none, (.assign (.tmp 26))⟩])
 (.seq
 (.ops [⟨some 27, none, (.move (.tmp 5))⟩,
 ⟨some 28, none, (.move (.tmp 27))⟩,
 ⟨some 29, (some (28, true)), (.move (.tmp 4))⟩,
 ⟨some 30, (some (28, true)), (.move (.tmp 0))⟩,
 ⟨some 31, (some (28, true)), (.call ⟨(.builtin .len), #[(.tmp 30)], #[29]⟩)⟩,
 ⟨some 32, (some (28, true)), (.indexAddr 64 (.tmp 29) (.tmp 31))⟩,
 ⟨some 33, (some (28, true)), (.load 3 (.tmp 32))⟩,
 ⟨some 34, (some (28, true)), (.binOp .eql 3 (.tmp 33) (.const (.int .i64 1)) 3)⟩,
 ⟨some 35, none, (.pick (.tmp 28) (.tmp 34) (.const (.bool false)))⟩,
 ⟨some 2, none, (.assign (.tmp 35))⟩])
 .ret)))))
theorem w30 {args : Array Value} {H : AH} {Φ : Value → AH → Prop} (h : rW Try.prog k30 [] (fin Try.prog [(.tmp 2)] Φ) (tm0 args) H) : CallsA Try.prog 30 args H Φ :=
  CallsA.w k30 [(.tmp 2)] (fun _ => []) Try.func30 rfl rfl (by kernel_rfl) (by kernel_rfl) h

/-- spec.CodePack -/
def k42 : KC :=
 (.seq
 (.ops [⟨some 2, none, (.assign (.const (.slice none 0 0)))⟩,
 ⟨some 3, none, (.assign (.const (.bool false)))⟩])
 (.seq
 (.seq
 (.ops [⟨some 10, none, (.move (.tmp 0))⟩,
 ⟨some 11, none, (.call ⟨(.value (.func 30)), #[(.tmp 10)], #[29]⟩)⟩,
 ⟨some 12, none, (.unOp .not 4 (.tmp 11))⟩])
 (.cond (.tmp 12)
 (.seq
 (.ops [⟨some 13, none, (.buildSlice 22 0 #[])⟩,
 ⟨some 2, none, (.assign (.tmp 13))⟩,
 ⟨some 3, none, (.assign (.const (.bool false)))⟩])
 .ret)
 .skip))
 (.seq
 (.ops [⟨some 14, none, (.move (.tmp 0))⟩,
 ⟨some 15, none, (.call ⟨(.builtin .len), #[(.tmp 14)], #[29]⟩)⟩,
 ⟨some 16, none, (.convert 3 5 (.tmp 15))⟩,
 ⟨some 17, none, (.buildSlice 22 1 #[(0, (.tmp 16))])⟩,
 ⟨some 4, none, (.assign (.tmp 17))⟩])
 (.seq
 (.seq
 (.ops [⟨some 5, none, (.assign (.const (.int .i64 0)))⟩])
 (.block 0
 (.loop
 (.seq
 (.seq
 (.ops [⟨some 18, none, (.move (.tmp 5))⟩,
 ⟨some 19, none, (.move (.tmp 0))⟩,
 ⟨some 20, none, (.call ⟨(.builtin .len), #[(.tmp 19)], #[29]⟩)⟩,
 ⟨some 21, none, (.binOp .lss 3 (.tmp 18) (.tmp 20) 3)⟩])
 (.cond (.tmp 21)
 .skip
 (.exit 0)))
 (.seq
 (.block 1
 (.seq
 (.ops [⟨some 24, none, (.move (.tmp 0))⟩,
 ⟨some 25, none, (.move (.tmp 5))⟩,
 ⟨some 26, none, (.indexAddr 29 (.tmp 24) (.tmp 25))⟩,
 ⟨some 27, none, (.load 66 (.tmp 26))⟩,
 ⟨some 6, none, (.alloc 66)⟩,
 ⟨none, none, (.store 66 (.tmp 6) (.tmp 27))⟩])
 (.seq
 (.ops [⟨some 28, none, (.move (.tmp 4))⟩,
 ⟨some 29, none, (.fieldAddr 66 (.tmp 6) 0)⟩,
 ⟨some 30, none, (.load 3 (.tmp 29))⟩,
 ⟨some 31, none, (.convert 3 5 (.tmp 30))⟩,
 ⟨some 32, none, (.fieldAddr 66 (.tmp 6) 1)⟩,
 ⟨some 33, none, (.load 3 (.tmp 32))⟩,
 ⟨some 34, none, (.convert 3 5 (.tmp 33))⟩,
 ⟨some 35, none, (.fieldAddr 66 (.tmp 6) 2)⟩,
 ⟨some 36, none, (.fieldAddr 63 (.tmp 35) 0)⟩,
 ⟨some 37, none, (.load 3 (.tmp 36))⟩,
 ⟨some 38, none, (.convert 3 5 (.tmp 37))⟩,
 ⟨some 39, none, (.fieldAddr 66 (.tmp 6) 2)⟩,
 ⟨some 40, none, (.fieldAddr 63 (.tmp 39) 1)⟩,
 ⟨some 41, none, (.load 3 (.tmp 40))⟩,
 ⟨some 42, none, (.convert 3 5 (.tmp 41))⟩,
 ⟨some 43, none, (.fieldAddr 66 (.tmp 6) 2)⟩,
 ⟨some 44, none, (.fieldAddr 63 (.tmp 43) 2)⟩,
 ⟨some 45, none, (.load 3 (.tmp 44))⟩,
 ⟨some 46, none, (.convert 3 5 (.tmp 45))⟩,
 ⟨some 47, none, (.buildSlice 22 5 #[(0, (.tmp 31)), (1, (.tmp 34)), (2, (.tmp 38)), (3, (.tmp 42)), (4, (.tmp 46))])⟩,
 ⟨some 48, none, (.call ⟨(.builtin .append), #[(.tmp 28), (.tmp 47)], #[22, 22]⟩)⟩,
 ⟨some 4, none, (.assign (.tmp 48))⟩])
 (.seq
 (.seq
 (.ops [⟨some 49, none, (.fieldAddr 66 (.tmp 6) 0)⟩,
 ⟨some 50, none, (.load 3 (.tmp 49))⟩,
 ⟨some 51, none, (.binOp .neq 3 (.tmp 50) (.const (.int .i64 1)) 3)⟩])
 (.cond (.tmp 51)
 (.exit 1)
 .skip))
 (.seq
 (.ops [⟨some 52, none, (.move (.tmp 4))⟩,
 ⟨some 53, none, (.fieldAddr 66 (.tmp 6) 3)⟩,
 ⟨some 54, none, (.load 64 (.tmp 53))⟩,
 ⟨some 55, none, (.call ⟨(.builtin .len), #[(.tmp 54)], #[64]⟩)⟩,
 ⟨some 56, none, (.binOp .rem 3 (.tmp 55) (.const (.int .i64 256)) 3)⟩,
 ⟨some 57, none, (.convert 3 5 (.tmp 56))⟩,
 ⟨some 58, none, (.fieldAddr 66 (.tmp 6) 3)⟩,
 ⟨some 59, none, (.load 64 (.tmp 58))⟩,
 ⟨some 60, none, (.call ⟨(.builtin .len), #[(.tmp 59)], #[64]⟩)⟩,
 ⟨some 61, none, (.binOp .quo 3 (.tmp 60) (.const (.int .i64 256)) 3)⟩,
 ⟨some 62, none, (.convert 3 5 (.tmp 61))⟩,
 ⟨some 63, none, (.buildSlice 22 2 #[(0, (.tmp 57)), (1, (.tmp 62))])⟩,
 ⟨some 64, none, (.call ⟨(.builtin .append), #[(.tmp 52), (.tmp 63)], #[22, 22]⟩)⟩,
 ⟨some 4, none, (.assign (.tmp 64))⟩])
 (.seq
 (.ops [⟨some 7, none, (.assign (.const (.int .i64 0)))⟩])
 (.block 2
 (.loop
 (.seq
 (.seq
 (.ops [⟨some 65, none, (.move (.tmp 7))⟩,
 ⟨some 66, none, (.fieldAddr 66 (.tmp 6) 3)⟩,
 ⟨some 67, none, (.load 64 (.tmp 66))⟩,
 ⟨some 68, none, (.call ⟨(.builtin .len), #[(.tmp 67)], #[64]⟩)⟩,
 ⟨some 69, none, (.binOp .lss 3 (.tmp 65) (.tmp 68) 3)⟩])
 (.cond (.tmp 69)
 .skip
 (.exit 2)))
 (.seq
 (.block 3
 (.seq
 (.ops [⟨some 72, none, (.fieldAddr 66 (.tmp 6) 3)⟩,
 ⟨some 73, none, (.load 64 (.tmp 72))⟩,
 ⟨some 74, none, (.move (.tmp 7))⟩,
 ⟨some 75, none, (.indexAddr 64 (.tmp 73) (.tmp 74))⟩,
 ⟨some 76, none, (.load 3 (.tmp 75))⟩,
 ⟨some 77, none, (.binOp .add 3 (.tmp 76) (.const (.int .i64 1000000000000)) 3)⟩,
 ⟨some 8, none, (.assign (.tmp 77))⟩])
 (.seq
 (.ops [⟨some 9, none, (.assign (.const (.int .i64 0)))⟩])
 (.block 4
 (.loop
 (.seq
 (.seq
 (.ops [⟨some 78, none, (.move (.tmp 9))⟩,
 ⟨some 79, none, (.binOp .lss 3 (.tmp 78) (.const (.int .i64 8)) 3)⟩])
 (.cond (.tmp 79)
 .skip
 (.exit 4)))
 (.seq
 (.block 5
 (.ops [⟨some 82, none, (.move (.tmp 4))⟩,
 ⟨some 83, none, (.move (.tmp 8))⟩,
 ⟨some 84, none, (.move (.tmp 9))⟩,
 ⟨some 85, none, (.binOp .mul 3 (.const (.int .i64 8)) (.tmp 84) 3)⟩,
 ⟨some 86, none, (.binOp .shr 3 (.tmp 83) (.tmp 85) 3)⟩,
 ⟨some 87, none, (.convert 3 5 (.tmp 86))⟩,
 ⟨some 88, none, (.buildSlice 22 1 #[(0, (.tmp 87))])⟩,
 ⟨some 89, none, (.call ⟨(.builtin .append), #[(.tmp 82), (.tmp 88)], #[22, 22]⟩)⟩,
 ⟨some 4, none, (.assign (.tmp 89))⟩]))
 (.ops [⟨some 80, none, (.move (.tmp 9))⟩,
 ⟨some 81, none, (.binOp .add 3 (.tmp 80) (.const (.int .i64 1)) 3)⟩,
 ⟨some 9, none, (.assign (.tmp 81))⟩]))))))))
 (.ops [⟨some 70, none, (.move (.tmp 7))⟩,
 ⟨some 71, none, (.binOp .add 3 (.tmp 70) (.const (.int .i64 1)) 3)⟩,
 ⟨some 7, none, (.assign (.tmp 71))⟩])))))))))))
 (.ops [⟨some 22, none, (.move (.tmp 5))⟩,
 ⟨some 23, none, (.binOp .add 3 (.tmp 22) (.const (.int .i64 1)) 3)⟩,
 ⟨some 5, none, (.assign (.tmp 23))⟩]))))))
 (.seq
 (.ops [⟨some 90, none, (.move (.tmp 4))⟩,
 ⟨some 2, none, (.assign (.tmp 90))⟩,
 ⟨some 3, none, (.assign (.const (.bool true)))⟩])
 .ret)))))
theorem w42 {args : Array Value} {H : AH} {Φ : Value → AH → Prop} (h : rW Try.prog k42 [] (fin Try.prog [(.tmp 2), (.tmp 3)] Φ) (tm0 args) H) : CallsA Try.prog 42 args H Φ :=
  CallsA.w k42 [(.tmp 2), (.tmp 3)] (fun _ => []) Try.func42 rfl rfl (by kernel_rfl) (by kernel_rfl) h

/-- spec.CodeRead -/
def k12 : KC :=
 (.seq
 (.ops [⟨some 2, none, (.assign (.const (.slice none 0 0)))⟩,
 ⟨some 3, none, (.assign (.const (.bool false)))⟩])
 (.seq
 (.ops [⟨some 12, none, (.buildSlice 29 0 #[])⟩,
 ⟨some 4, none, (.assign (.tmp 12))⟩])
 (.seq
 (.seq
 (.ops [⟨some 13, none, (.move (.tmp 0))⟩,
 ⟨some 14, none, (.call ⟨(.builtin .len), #[(.tmp 13)], #[22]⟩)⟩,
 ⟨some 15, none, (.binOp .eql 3 (.tmp 14) (.const (.int .i64 0)) 3)⟩])
 (.cond (.tmp 15)
 (.seq
 (.ops [⟨some 16, none, (.move (.tmp 4))⟩,
 ⟨some 2, none, (.assign (.tmp 16))⟩,
 ⟨some 3, none, (.assign (.const (.bool false)))⟩])
 .ret)
 .skip))
 (.seq
 (.ops [⟨some 17, none, (.buildSlice 29 0 #[])⟩,
 ⟨some 5, none, (.assign (.tmp 17))⟩])
 (.seq
 (.ops [⟨some 6, none, (.assign (.const (.int .i64 1)))⟩])
 (.seq
 (.seq
 (.ops [⟨some 7, none, (.assign (.const (.int .i64 0)))⟩])
 (.block 0
 (.loop
 (.seq
 (.seq
 (.ops [⟨some 18, none, (.move (.tmp 7))⟩,
 ⟨some 19, none, (.move (.tmp 0))⟩,
 ⟨some 20, none, (.indexAddr 22 (.tmp 19) (.const (.int .i64 0)))⟩,
 ⟨some 21, none, (.load 5 (.tmp 20))⟩,
 ⟨some 22, none, (.convert 5 3 (.tmp 21))⟩,
 ⟨some 23, none, (.binOp .lss 3 (.tmp 18) (.tmp 22) 3)⟩])
 (.cond (.tmp 23)
 .skip
 (.exit 0)))
 (.seq
 (.block 1
 (.seq
 (.ops [⟨some 27, none, (.move (.tmp 0))⟩,
 ⟨some 28, none, (.move (.tmp 6))⟩,
 ⟨some 29, none, (.call ⟨(.value (.func 41)), #[(.tmp 27), (.tmp 28)], #[22, 3]⟩)⟩,
 ⟨some 26, none, (.move (.tmp 29))⟩,
 ⟨some 30, none, (.extract (.tmp 26) 0)⟩,
 ⟨some 31, none, (.extract (.tmp 26) 1)⟩,
 ⟨some 8, none, (.alloc 66)⟩,
 ⟨none, none, (.store 66 (.tmp 8) (.tmp 30))⟩,
 ⟨some 9, none, (.assign (.tmp 31))⟩])
 (.seq
 (.seq
 (.ops [⟨some 32, none, (.move (.tmp 9))⟩,
 ⟨some 33, none, (.binOp .lss 3 (.tmp 32) (.const (.int .i64 0)) 3)⟩])
 (.cond (.tmp 33)
 (.seq
 (.ops [⟨some 34, none, (.move (.tmp 4))⟩,
 ⟨some 2, none, (.assign (.tmp 34))⟩,
 ⟨some 3, none, (.assign (.const (.bool false)))⟩])
 .ret)
 .skip))
 (.seq
 (.ops [⟨some 35, none, (.move (.tmp 5))⟩,
 ⟨some 36, none, (.load 66 (.tmp 8))⟩,
 ⟨some 37, none, (.buildSlice 29 1 #[(0, (.tmp 36))])⟩,
 ⟨some 38, none, (.call ⟨(.builtin .append), #[(.tmp 35), (.tmp 37)], #[29, 29]⟩)⟩,
 ⟨some 5, none, (.assign (.tmp 38))⟩])
 (.ops [⟨some 39, none, (.move (.tmp 9))⟩,
 ⟨some 6, none, (.assign (.tmp 39))⟩])))))
 (.ops [⟨some 24, none, (.move (.tmp 7))⟩,
 ⟨some 25, none, (.binOp .add 3 (.tmp 24) (.const (.int .i64 1)) 3)⟩,
 ⟨some 7, none, (.assign (.tmp 25))⟩]))))))
 (.seq
 (.ops [⟨some 41, none, (.move (.tmp 5))⟩,
 ⟨some 42, none, (.call ⟨(.value (.func 42)), #[(.tmp 41)], #[29]⟩)⟩,
 ⟨some 40, none, (.move (.tmp 42))⟩,
 ⟨some 43, none, (.extract (.tmp 40) 0)⟩,
 ⟨some 44, none, (.extract (.tmp 40) 1)⟩,
 ⟨some 10, none, (.assign (.tmp 43))⟩,
 ⟨some 11, none, (.assign (.tmp 44))⟩])
 (.seq
 (.seq
 (.ops [⟨some 45, none, (.move (.tmp 11))⟩,
 ⟨some 46, none, (.unOp .not 4 (.tmp 45))⟩,
 ⟨some 47, none, (.move (.tmp 46))⟩,
 ⟨some 48, (some (47, false)), (.move (.tmp 10))⟩,
 ⟨some 49, (some (47, false)), (.convert 22 9 (.tmp 48))⟩,
 ⟨some 50, (some (47, false)), (.move (.tmp 0))⟩,
 ⟨some 51, (some (47, false)), (.convert 22 9 (.tmp 50))⟩,
 ⟨some 52, (some (47, false)), (.binOp .neq 9 (.tmp 49) (.tmp 51) 9)⟩,
 ⟨some 53, none, (.pick (.tmp 47) (.const (.bool true)) (.tmp 52))⟩])
 (.cond (.tmp 53)
 (.seq
 (.ops [⟨some 54, none, (.move (.tmp 4))⟩,
 ⟨some 2, none, (.assign (.tmp 54))⟩,
 ⟨some 3, none, (.assign (.const (.bool false)))⟩])
 .ret)
 .skip))
 (.seq
 (.ops [⟨some 55, none, (.move (.tmp 5))⟩,
 ⟨some 2, none, (.assign (.tmp 55))⟩,
 ⟨some 3, none, (.assign (.const (.bool true)))⟩])
 .ret)))))))))
theorem w12 {args : Array Value} {H : AH} {Φ : Value → AH → Prop} (h : rW Try.prog k12 [] (fin Try.prog [(.tmp 2), (.tmp 3)] Φ) (tm0 args) H) : CallsA Try.prog 12 args H Φ :=
  CallsA.w k12 [(.tmp 2), (.tmp 3)] (fun _ => []) Try.func12 rfl rfl (by kernel_rfl) (by kernel_rfl) h

/-- impl.within -/
def k51 : KC :=
 (.seq
 (.ops [⟨some 6, none, (.assign (.const (.bool false)))⟩])
 (.seq
 (.ops [⟨some 7, none, (.move (.tmp 0))⟩,
 ⟨some 8, none, (.move (.tmp 1))⟩,
 ⟨some 9, none, (.binOp .geq 3 (.tmp 7) (.tmp 8) 3)⟩,
 ⟨some 10, none, (.move (.tmp 9))⟩,
 ⟨some 11, (some (10, true)), (.move (.tmp 0))⟩,
 ⟨some 12, (some (10, true)), (.move (.tmp 2))⟩,
 ⟨some 13, (some (10, true)), (.binOp .leq 3 (.tmp 11) (.tmp 12) 3)⟩,
 ⟨some 14, none, (.pick (.tmp 10) (.tmp 13) (.const (.bool false)))⟩,
 ⟨some 6, none, (.assign (.tmp 14))⟩])
 .ret))
theorem w51 {args : Array Value} {H : AH} {Φ : Value → AH → Prop} (h : rW Try.prog k51 [] (fin Try.prog [(.tmp 6)] Φ) (tm0 args) H) : CallsA Try.prog 51 args H Φ :=
  CallsA.w k51 [(.tmp 6)] (fun _ => []) Try.func51 rfl rfl (by kernel_rfl) (by kernel_rfl) h

/-- impl.takes -/
def k88 : KC :=
 (.seq
 (.ops [⟨some 1, none, (.box 66 (.tmp 0))⟩,
 ⟨some 2, none, (.assign (.const (.int .i64 0)))⟩])
 (.seq
 (.seq
 (.ops [⟨some 3, none, (.fieldAddr 66 (.tmp 1) 0)⟩,
 ⟨some 4, none, (.load 3 (.tmp 3))⟩])
 (.block 0
 (.seq
 (.seq
 (.ops [⟨some 6, none, (.binOp .eql 3 (.tmp 4) (.const (.int .i64 3)) 3)⟩,
 ⟨some 5, none, (.assign (.tmp 6))⟩])
 (.cond (.tmp 5)
 .skip
 (.ops [⟨some 7, none, (.binOp .eql 3 (.tmp 4) (.const (.int .i64 4)) 3)⟩,
 ⟨some 5, none, (.assign (.tmp 7))⟩])))
 (.cond (.tmp 5)
 (.seq
 (.ops [⟨some 2, none, (.assign (.const (.int .i64 1)))⟩])
 .ret)
 (.seq
 (.ops [⟨some 9, none, (.binOp .eql 3 (.tmp 4) (.const (.int .i64 5)) 3)⟩,
 ⟨some 8, none, (.assign (.tmp 9))⟩])
 (.cond (.tmp 8)
 (.seq
 (.ops [⟨some 2, none, (.assign (.const (.int .i64 2)))⟩])
 .ret)
 .skip))))))
 (.seq
 (.ops [⟨some 2, none, (.assign (.const (.int .i64 0)))⟩])
 .ret)))
theorem w88 {args : Array Value} {H : AH} {Φ : Value → AH → Prop} (h : rW Try.prog k88 [] (fin Try.prog [(.tmp 2)] Φ) (tm0 args) H) : CallsA Try.prog 88 args H Φ :=
  CallsA.w k88 [(.tmp 2)] (fun _ => []) Try.func88 rfl rfl (by kernel_rfl) (by kernel_rfl) h

/-- impl.deep -/
def k57 : KC :=
 (.seq
 (.ops [⟨some 2, none, (.assign (.const (.slice none 0 0)))⟩,
 ⟨some 3, none, (.assign (.const (.bool false)))⟩])
 (.seq
 (.ops [⟨some 7, none, (.buildSlice 64 1 #[(0, (.const (.int .i64 0)))])⟩,
 ⟨some 4, none, (.assign (.tmp 7))⟩])
 (.seq
 (.seq
 (.ops [⟨some 8, none, (.move (.tmp 0))⟩,
 ⟨some 9, none, (.call ⟨(.builtin .len), #[(.tmp 8)], #[29]⟩)⟩,
 ⟨some 10, none, (.move (.const (.int .i64 0)))⟩])
 (.block 0
 (.loop
 (.seq
 (.ops [⟨some 11, none, (.binOp .lss 3 (.tmp 10) (.tmp 9) 3)⟩])
 (.seq
 (.cond (.tmp 11)
 .skip
 (.exit 0))
 (.seq
 (.block 1
 (.seq
 (.ops [⟨some 12, none, (.move (.tmp 10))⟩,
 ⟨some 13, none, (.indexAddr 29 (.tmp 8) (.tmp 10))⟩,
 ⟨some 14, none, (.load 66 (.tmp 13))⟩,
 ⟨some 6, none, (.alloc 66)⟩,
 ⟨some 5, none, (.assign (.tmp 12))⟩,
 ⟨none, none, (.store 66 (.tmp 6) (.tmp 14))⟩])
 (.seq
 (.seq
 (.draw #[] [(3, 0), (3, 6), (4, 0)]
 [⟨some 15, none, (.move (.tmp 4))⟩,
 ⟨some 16, none, (.move (.tmp 5))⟩,
 ⟨some 17, none, (.indexAddr 64 (.tmp 15) (.tmp 16))⟩,
 ⟨some 18, none, (.load 3 (.tmp 17))⟩,
 ⟨some 19, none, (.load 66 (.tmp 6))⟩,
 ⟨some 20, none, (.call ⟨(.value (.func 88)), #[(.tmp 19)], #[66]⟩)⟩,
 ⟨some 21, none, (.binOp .lss 3 (.tmp 18) (.tmp 20) 3)⟩])
 (.cond (.tmp 21)
 (.seq
 (.ops [⟨some 2, none, (.assign (.const (.slice none 0 0)))⟩,
 ⟨some 3, none, (.assign (.const (.bool false)))⟩])
 .ret)
 .skip))
 (.draw #[] [(4, 0), (4, 7), (5, 0)]
 [⟨some 22, none, (.move (.tmp 4))⟩,
 ⟨some 23, none, (.move (.tmp 4))⟩,
 ⟨some 24, none, (.move (.tmp 5))⟩,
 ⟨some 25, none, (.indexAddr 64 (.tmp 23) (.tmp 24))⟩,
 ⟨some 26, none, (.load 3 (.tmp 25))⟩,
 ⟨some 27, none, (.load 66 (.tmp 6))⟩,
 ⟨some 28, none, (.call ⟨(.value (.func 88)), #[(.tmp 27)], #[66]⟩)⟩,
 ⟨some 29, none, (.binOp .sub 3 (.tmp 26) (.tmp 28) 3)⟩,
 ⟨some 30, none, (.binOp .add 3 (.tmp 29) (.const (.int .i64 1)) 3)⟩,
 ⟨some 31, none, (.buildSlice 64 1 #[(0, (.tmp 30))])⟩,
 ⟨some 32, none, (.call ⟨(.builtin .append), #[(.tmp 22), (.tmp 31)], #[64, 64]⟩)⟩,
 ⟨some 4, none, (.assign (.tmp 32))⟩]))))
 (.ops [⟨some 33, none, (.binOp .add 3 (.tmp 10) (.const (.int .i64 1)) 3)⟩,
 ⟨some 10, none, (.move (.tmp 33))⟩])))))))
 (.seq
 (.ops [⟨some 34, none, (.move (.tmp 4))⟩,
 ⟨some 2, none, (.assign (.tmp 34))⟩,
 ⟨some 3, none, (.assign (.const (.bool true)))⟩])
 .ret))))
theorem w57 {args : Array Value} {H : AH} {Φ : Value → AH → Prop} (h : rW Try.prog k57 [] (fin Try.prog [(.tmp 2), (.tmp 3)] Φ) (tm0 args) H) : CallsA Try.prog 57 args H Φ :=
  CallsA.w k57 [(.tmp 2), (.tmp 3)] (fun i => if i = 5 then [(3, 0), (3, 6), (4, 0)] else if i = 7 then [(4, 0), (4, 7), (5, 0)] else []) Try.func57 rfl rfl (by kernel_rfl) (by kernel_rfl) h

/-- slices.IndexFunc[[]impl.Instr,impl.Instr] -/
def k89 : KC :=
 (.seq
 (.ops [⟨some 4, none, (.assign (.const (.int .i64 0)))⟩])
 (.seq
 (.seq
 (.ops [⟨some 6, none, (.move (.tmp 0))⟩,
 ⟨some 7, none, (.call ⟨(.builtin .len), #[(.tmp 6)], #[29]⟩)⟩,
 ⟨some 8, none, (.move (.const (.int .i64 0)))⟩])
 (.block 0
 (.loop
 (.seq
 (.ops [⟨some 9, none, (.binOp .lss 3 (.tmp 8) (.tmp 7) 3)⟩])
 (.seq
 (.cond (.tmp 9)
 .skip
 (.exit 0))
 (.seq
 (.block 1
 (.seq
 (.ops [⟨some 10, none, (.move (.tmp 8))⟩,
 ⟨some 5, none, (.assign (.tmp 10))⟩])
 (.seq
 (.ops [⟨some 11, none, (.move (.tmp 1))⟩,
 ⟨some 12, none, (.move (.tmp 0))⟩,
 ⟨some 13, none, (.move (.tmp 5))⟩,
 ⟨some 14, none, (.indexAddr 29 (.tmp 12) (.tmp 13))⟩,
 ⟨some 15, none, (.load 66 (.tmp 14))⟩,
 ⟨some 16, none, (.call ⟨(.value (.tmp 11)), #[(.tmp 15)], #[66]⟩)⟩])
 (.cond (.tmp 16)
 (.seq
 (.ops [⟨some 17, none, (.move (.tmp 5))⟩,
 ⟨some 4, none, (.assign (.tmp 17))⟩])
 .ret)
 .skip))))
 (.ops [⟨some 18, none, (.binOp .add 3 (.tmp 8) (.const (.int .i64 1)) 3)⟩,
 ⟨some 8, none, (.move (.tmp 18))⟩])))))))
 (.seq
 (.ops [⟨some 4, none, (.assign (.const (.int .i64 (-1))))⟩])
 .ret)))
theorem w89 {args : Array Value} {H : AH} {Φ : Value → AH → Prop} (h : rW Try.prog k89 [] (fin Try.prog [(.tmp 4)] Φ) (tm0 args) H) : CallsA Try.prog 89 args H Φ :=
  CallsA.w k89 [(.tmp 4)] (fun _ => []) Try.func89 rfl rfl (by kernel_rfl) (by kernel_rfl) h

/-- slices.ContainsFunc[[]impl.Instr,impl.Instr] -/
def k59 : KC :=
 (.seq
 (.ops [⟨some 4, none, (.assign (.const (.bool false)))⟩])
 (.seq
 (.ops [⟨some 5, none, (.move (.tmp 0))⟩,
 ⟨some 6, none, (.move (.tmp 1))⟩,
 ⟨some 7, none, (.call ⟨(.value (.func 89)), #[(.tmp 5), (.tmp 6)], #[29, 89]⟩)⟩,
 ⟨some 8, none, (.binOp .geq 3 (.tmp 7) (.const (.int .i64 0)) 3)⟩,
 ⟨some 4, none, (.assign (.tmp 8))⟩])
 .ret))
theorem w59 {args : Array Value} {H : AH} {Φ : Value → AH → Prop} (h : rW Try.prog k59 [] (fin Try.prog [(.tmp 4)] Φ) (tm0 args) H) : CallsA Try.prog 59 args H Φ :=
  CallsA.w k59 [(.tmp 4)] (fun _ => []) Try.func59 rfl rfl (by kernel_rfl) (by kernel_rfl) h

/-- slices.IndexFunc[[]int,int] -/
def k108 : KC :=
 (.seq
 (.ops [⟨some 4, none, (.assign (.const (.int .i64 0)))⟩])
 (.seq
 (.seq
 (.ops [⟨some 6, none, (.move (.tmp 0))⟩,
 ⟨some 7, none, (.call ⟨(.builtin .len), #[(.tmp 6)], #[64]⟩)⟩,
 ⟨some 8, none, (.move (.const (.int .i64 0)))⟩])
 (.block 0
 (.loop
 (.seq
 (.ops [⟨some 9, none, (.binOp .lss 3 (.tmp 8) (.tmp 7) 3)⟩])
 (.seq
 (.cond (.tmp 9)
 .skip
 (.exit 0))
 (.seq
 (.block 1
 (.seq
 (.ops [⟨some 10, none, (.move (.tmp 8))⟩,
 ⟨some 5, none, (.assign (.tmp 10))⟩])
 (.seq
 (.ops [⟨some 11, none, (.move (.tmp 1))⟩,
 ⟨some 12, none, (.move (.tmp 0))⟩,
 ⟨some 13, none, (.move (.tmp 5))⟩,
 ⟨some 14, none, (.indexAddr 64 (.tmp 12) (.tmp 13))⟩,
 ⟨some 15, none, (.load 3 (.tmp 14))⟩,
 ⟨some 16, none, (.call ⟨(.value (.tmp 11)), #[(.tmp 15)], #[3]⟩)⟩])
 (.cond (.tmp 16)
 (.seq
 (.ops [⟨some 17, none, (.move (.tmp 5))⟩,
 ⟨some 4, none, (.assign (.tmp 17))⟩])
 .ret)
 .skip))))
 (.ops [⟨some 18, none, (.binOp .add 3 (.tmp 8) (.const (.int .i64 1)) 3)⟩,
 ⟨some 8, none, (.move (.tmp 18))⟩])))))))
 (.seq
 (.ops [⟨some 4, none, (.assign (.const (.int .i64 (-1))))⟩])
 .ret)))
theorem w108 {args : Array Value} {H : AH} {Φ : Value → AH → Prop} (h : rW Try.prog k108 [] (fin Try.prog [(.tmp 4)] Φ) (tm0 args) H) : CallsA Try.prog 108 args H Φ :=
  CallsA.w k108 [(.tmp 4)] (fun _ => []) Try.func108 rfl rfl (by kernel_rfl) (by kernel_rfl) h

/-- slices.ContainsFunc[[]int,int] -/
def k99 : KC :=
 (.seq
 (.ops [⟨some 4, none, (.assign (.const (.bool false)))⟩])
 (.seq
 (.ops [⟨some 5, none, (.move (.tmp 0))⟩,
 ⟨some 6, none, (.move (.tmp 1))⟩,
 ⟨some 7, none, (.call ⟨(.value (.func 108)), #[(.tmp 5), (.tmp 6)], #[64, 61]⟩)⟩,
 ⟨some 8, none, (.binOp .geq 3 (.tmp 7) (.const (.int .i64 0)) 3)⟩,
 ⟨some 4, none, (.assign (.tmp 8))⟩])
 .ret))
theorem w99 {args : Array Value} {H : AH} {Φ : Value → AH → Prop} (h : rW Try.prog k99 [] (fin Try.prog [(.tmp 4)] Φ) (tm0 args) H) : CallsA Try.prog 99 args H Φ :=
  CallsA.w k99 [(.tmp 4)] (fun _ => []) Try.func99 rfl rfl (by kernel_rfl) (by kernel_rfl) h

/-- impl.NumOk -/
def k101 : KC :=
 (.seq
 (.ops [⟨some 2, none, (.assign (.const (.bool false)))⟩])
 (.seq
 (.ops [⟨some 3, none, (.move (.tmp 0))⟩,
 ⟨some 4, none, (.call ⟨(.value (.func 51)), #[(.tmp 3), (.const (.int .i64 (-1000000000000))), (.const (.int .i64 1000000000000))], #[3, 3, 3]⟩)⟩,
 ⟨some 2, none, (.assign (.tmp 4))⟩])
 .ret))
theorem w101 {args : Array Value} {H : AH} {Φ : Value → AH → Prop} (h : rW Try.prog k101 [] (fin Try.prog [(.tmp 2)] Φ) (tm0 args) H) : CallsA Try.prog 101 args H Φ :=
  CallsA.w k101 [(.tmp 2)] (fun _ => []) Try.func101 rfl rfl (by kernel_rfl) (by kernel_rfl) h

/-- impl.numsOk$1 -/
def k100 : KC :=
 (.seq
 (.ops [⟨some 2, none, (.assign (.const (.bool false)))⟩])
 (.seq
 (.ops [⟨some 3, none, (.move (.tmp 0))⟩,
 ⟨some 4, none, (.call ⟨(.value (.func 101)), #[(.tmp 3)], #[3]⟩)⟩,
 ⟨some 5, none, (.unOp .not 4 (.tmp 4))⟩,
 ⟨some 2, none, (.assign (.tmp 5))⟩])
 .ret))
theorem w100 {args : Array Value} {H : AH} {Φ : Value → AH → Prop} (h : rW Try.prog k100 [] (fin Try.prog [(.tmp 2)] Φ) (tm0 args) H) : CallsA Try.prog 100 args H Φ :=
  CallsA.w k100 [(.tmp 2)] (fun _ => []) Try.func100 rfl rfl (by kernel_rfl) (by kernel_rfl) h

/-- impl.numsOk -/
def k85 : KC :=
 (.seq
 (.ops [⟨some 2, none, (.assign (.const (.bool false)))⟩])
 (.seq
 (.ops [⟨some 3, none, (.move (.tmp 0))⟩,
 ⟨some 4, none, (.call ⟨(.builtin .len), #[(.tmp 3)], #[64]⟩)⟩,
 ⟨some 5, none, (.call ⟨(.value (.func 51)), #[(.tmp 4), (.const (.int .i64 1)), (.const (.int .i64 300))], #[3, 3, 3]⟩)⟩,
 ⟨some 6, none, (.move (.tmp 5))⟩,
 ⟨some 7, (some (6, true)), (.move (.tmp 0))⟩,
 ⟨some 8, (some (6, true)), (.call ⟨(.value (.func 99)), #[(.tmp 7), (.func 100)], #[64, 61]⟩)⟩,
 ⟨some 9, (some (6, true)), (.unOp .not 4 (.tmp 8))⟩,
 ⟨some 10, none, (.pick (.tmp 6) (.tmp 9) (.const (.bool false)))⟩,
 ⟨some 2, none, (.assign (.tmp 10))⟩])
 .ret))
theorem w85 {args : Array Value} {H : AH} {Φ : Value → AH → Prop} (h : rW Try.prog k85 [] (fin Try.prog [(.tmp 2)] Φ) (tm0 args) H) : CallsA Try.prog 85 args H Φ :=
  CallsA.w k85 [(.tmp 2)] (fun _ => []) Try.func85 rfl rfl (by kernel_rfl) (by kernel_rfl) h

/-- impl.hasSign -/
def k74 : KC :=
 (.seq
 (.ops [⟨some 4, none, (.assign (.const (.bool false)))⟩])
 (.seq
 (.seq
 (.ops [⟨some 5, none, (.assign (.const (.int .i64 0)))⟩])
 (.block 0
 (.loop
 (.seq
 (.seq
 (.ops [⟨some 6, none, (.move (.tmp 5))⟩,
 ⟨some 7, none, (.move (.tmp 0))⟩,
 ⟨some 8, none, (.call ⟨(.builtin .len), #[(.tmp 7)], #[9]⟩)⟩,
 ⟨some 9, none, (.binOp .lss 3 (.tmp 6) (.tmp 8) 3)⟩])
 (.cond (.tmp 9)
 .skip
 (.exit 0)))
 (.seq
 (.block 1
 (.seq
 (.ops [⟨some 12, none, (.move (.tmp 0))⟩,
 ⟨some 13, none, (.move (.tmp 5))⟩,
 ⟨some 14, none, (.index 9 (.tmp 12) (.tmp 13))⟩,
 ⟨some 15, none, (.convert 5 3 (.tmp 14))⟩,
 ⟨some 16, none, (.move (.tmp 1))⟩,
 ⟨some 17, none, (.binOp .eql 3 (.tmp 15) (.tmp 16) 3)⟩])
 (.cond (.tmp 17)
 (.seq
 (.ops [⟨some 4, none, (.assign (.const (.bool true)))⟩])
 .ret)
 .skip)))
 (.ops [⟨some 10, none, (.move (.tmp 5))⟩,
 ⟨some 11, none, (.binOp .add 3 (.tmp 10) (.const (.int .i64 1)) 3)⟩,
 ⟨some 5, none, (.assign (.tmp 11))⟩]))))))
 (.seq
 (.ops [⟨some 4, none, (.assign (.const (.bool false)))⟩])
 .ret)))
theorem w74 {args : Array Value} {H : AH} {Φ : Value → AH → Prop} (h : rW Try.prog k74 [] (fin Try.prog [(.tmp 4)] Φ) (tm0 args) H) : CallsA Try.prog 74 args H Φ :=
  CallsA.w k74 [(.tmp 4)] (fun _ => []) Try.func74 rfl rfl (by kernel_rfl) (by kernel_rfl) h

/-- impl.oneSign -/
def k102 : KC :=
 (.seq
 (.ops [⟨some 2, none, (.assign (.const (.bool false)))⟩])
 (.seq
 (.ops [⟨some 3, none, (.move (.tmp 0))⟩,
 ⟨some 4, none, (.call ⟨(.value (.func 74)), #[(.const (.string ⟨#[43, 45, 42, 124, 126]⟩)), (.tmp 3)], #[9, 3]⟩)⟩,
 ⟨some 2, none, (.assign (.tmp 4))⟩])
 .ret))
theorem w102 {args : Array Value} {H : AH} {Φ : Value → AH → Prop} (h : rW Try.prog k102 [] (fin Try.prog [(.tmp 2)] Φ) (tm0 args) H) : CallsA Try.prog 102 args H Φ :=
  CallsA.w k102 [(.tmp 2)] (fun _ => []) Try.func102 rfl rfl (by kernel_rfl) (by kernel_rfl) h

/-- impl.twoSign -/
def k103 : KC :=
 (.seq
 (.ops [⟨some 2, none, (.assign (.const (.bool false)))⟩])
 (.seq
 (.ops [⟨some 3, none, (.move (.tmp 0))⟩,
 ⟨some 4, none, (.call ⟨(.value (.func 74)), #[(.const (.string ⟨#[43, 45, 42, 37, 124, 38, 94, 61, 60, 62]⟩)), (.tmp 3)], #[9, 3]⟩)⟩,
 ⟨some 2, none, (.assign (.tmp 4))⟩])
 .ret))
theorem w103 {args : Array Value} {H : AH} {Φ : Value → AH → Prop} (h : rW Try.prog k103 [] (fin Try.prog [(.tmp 2)] Φ) (tm0 args) H) : CallsA Try.prog 103 args H Φ :=
  CallsA.w k103 [(.tmp 2)] (fun _ => []) Try.func103 rfl rfl (by kernel_rfl) (by kernel_rfl) h

/-- impl.FunOne -/
def k86 : KC :=
 (.seq
 (.ops [⟨some 1, none, (.box 63 (.tmp 0))⟩,
 ⟨some 2, none, (.assign (.const (.bool false)))⟩])
 (.seq
 (.seq
 (.ops [⟨some 3, none, (.fieldAddr 63 (.tmp 1) 1)⟩,
 ⟨some 4, none, (.load 3 (.tmp 3))⟩])
 (.block 0
 (.seq
 (.ops [⟨some 6, none, (.binOp .eql 3 (.tmp 4) (.const (.int .i64 0)) 3)⟩,
 ⟨some 5, none, (.assign (.tmp 6))⟩])
 (.cond (.tmp 5)
 (.seq
 (.ops [⟨some 7, none, (.fieldAddr 63 (.tmp 1) 2)⟩,
 ⟨some 8, none, (.load 3 (.tmp 7))⟩,
 ⟨some 9, none, (.binOp .eql 3 (.tmp 8) (.const (.int .i64 0)) 3)⟩,
 ⟨some 10, none, (.move (.tmp 9))⟩,
 ⟨some 11, (some (10, true)), (.fieldAddr 63 (.tmp 1) 0)⟩,
 ⟨some 12, (some (10, true)), (.load 3 (.tmp 11))⟩,
 ⟨some 13, (some (10, true)), (.call ⟨(.value (.func 102)), #[(.tmp 12)], #[3]⟩)⟩,
 ⟨some 14, (some (10, true)), (.move (.tmp 13))⟩,
 ⟨some 15, (some (14, false)), (.fieldAddr 63 (.tmp 1) 0)⟩,
 ⟨some 16, (some (14, false)), (.load 3 (.tmp 15))⟩,
 ⟨some 17, (some (14, false)), (.call ⟨(.value (.func 74)), #[(.const (.string ⟨#[105, 35, 44, 114, 122, 103]⟩)), (.tmp 16)], #[9, 3]⟩)⟩,
 ⟨some 18, (some (10, true)), (.pick (.tmp 14) (.const (.bool true)) (.tmp 17))⟩,
 ⟨some 19, none, (.pick (.tmp 10) (.tmp 18) (.const (.bool false)))⟩,
 ⟨some 2, none, (.assign (.tmp 19))⟩])
 .ret)
 (.seq
 (.seq
 (.ops [⟨some 21, none, (.binOp .eql 3 (.tmp 4) (.const (.int .i64 47)) 3)⟩,
 ⟨some 20, none, (.assign (.tmp 21))⟩])
 (.cond (.tmp 20)
 .skip
 (.ops [⟨some 22, none, (.binOp .eql 3 (.tmp 4) (.const (.int .i64 92)) 3)⟩,
 ⟨some 20, none, (.assign (.tmp 22))⟩])))
 (.cond (.tmp 20)
 (.seq
 (.ops [⟨some 23, none, (.fieldAddr 63 (.tmp 1) 2)⟩,
 ⟨some 24, none, (.load 3 (.tmp 23))⟩,
 ⟨some 25, none, (.binOp .eql 3 (.tmp 24) (.const (.int .i64 0)) 3)⟩,
 ⟨some 26, none, (.move (.tmp 25))⟩,
 ⟨some 27, (some (26, true)), (.fieldAddr 63 (.tmp 1) 0)⟩,
 ⟨some 28, (some (26, true)), (.load 3 (.tmp 27))⟩,
 ⟨some 29, (some (26, true)), (.call ⟨(.value (.func 103)), #[(.tmp 28)], #[3]⟩)⟩,
 ⟨some 30, none, (.pick (.tmp 26) (.tmp 29) (.const (.bool false)))⟩,
 ⟨some 2, none, (.assign (.tmp 30))⟩])
 .ret)
 .skip))))))
 (.seq
 (.ops [⟨some 2, none, (.assign (.const (.bool false)))⟩])
 .ret)))
theorem w86 {args : Array Value} {H : AH} {Φ : Value → AH → Prop} (h : rW Try.prog k86 [] (fin Try.prog [(.tmp 2)] Φ) (tm0 args) H) : CallsA Try.prog 86 args H Φ :=
  CallsA.w k86 [(.tmp 2)] (fun _ => []) Try.func86 rfl rfl (by kernel_rfl) (by kernel_rfl) h

/-- impl.FunTwo -/
def k87 : KC :=
 (.seq
 (.ops [⟨some 1, none, (.box 63 (.tmp 0))⟩,
 ⟨some 2, none, (.assign (.const (.bool false)))⟩])
 (.seq
 (.seq
 (.ops [⟨some 3, none, (.fieldAddr 63 (.tmp 1) 1)⟩,
 ⟨some 4, none, (.load 3 (.tmp 3))⟩])
 (.block 0
 (.seq
 (.ops [⟨some 6, none, (.binOp .eql 3 (.tmp 4) (.const (.int .i64 0)) 3)⟩,
 ⟨some 5, none, (.assign (.tmp 6))⟩])
 (.cond (.tmp 5)
 (.seq
 (.ops [⟨some 7, none, (.fieldAddr 63 (.tmp 1) 2)⟩,
 ⟨some 8, none, (.load 3 (.tmp 7))⟩,
 ⟨some 9, none, (.binOp .eql 3 (.tmp 8) (.const (.int .i64 0)) 3)⟩,
 ⟨some 10, none, (.move (.tmp 9))⟩,
 ⟨some 11, (some (10, true)), (.fieldAddr 63 (.tmp 1) 0)⟩,
 ⟨some 12, (some (10, true)), (.load 3 (.tmp 11))⟩,
 ⟨some 13, (some (10, true)), (.call ⟨(.value (.func 103)), #[(.tmp 12)], #[3]⟩)⟩,
 ⟨some 14, (some (10, true)), (.move (.tmp 13))⟩,
 ⟨some 15, (some (14, false)), (.fieldAddr 63 (.tmp 1) 0)⟩,
 ⟨some 16, (some (14, false)), (.load 3 (.tmp 15))⟩,
 ⟨some 17, (some (14, false)), (.call ⟨(.value (.func 74)), #[(.const (.string ⟨#[35, 44, 116, 100, 114, 64, 63, 36, 101]⟩)), (.tmp 16)], #[9, 3]⟩)⟩,
 ⟨some 18, (some (10, true)), (.pick (.tmp 14) (.const (.bool true)) (.tmp 17))⟩,
 ⟨some 19, none, (.pick (.tmp 10) (.tmp 18) (.const (.bool false)))⟩,
 ⟨some 2, none, (.assign (.tmp 19))⟩])
 .ret)
 (.seq
 (.ops [⟨some 21, none, (.binOp .eql 3 (.tmp 4) (.const (.int .i64 111)) 3)⟩,
 ⟨some 20, none, (.assign (.tmp 21))⟩])
 (.cond (.tmp 20)
 (.seq
 (.ops [⟨some 22, none, (.fieldAddr 63 (.tmp 1) 2)⟩,
 ⟨some 23, none, (.load 3 (.tmp 22))⟩,
 ⟨some 24, none, (.binOp .eql 3 (.tmp 23) (.const (.int .i64 0)) 3)⟩,
 ⟨some 25, none, (.move (.tmp 24))⟩,
 ⟨some 26, (some (25, true)), (.fieldAddr 63 (.tmp 1) 0)⟩,
 ⟨some 27, (some (25, true)), (.load 3 (.tmp 26))⟩,
 ⟨some 28, (some (25, true)), (.call ⟨(.value (.func 103)), #[(.tmp 27)], #[3]⟩)⟩,
 ⟨some 29, none, (.pick (.tmp 25) (.tmp 28) (.const (.bool false)))⟩,
 ⟨some 2, none, (.assign (.tmp 29))⟩])
 .ret)
 (.seq
 (.ops [⟨some 31, none, (.binOp .eql 3 (.tmp 4) (.const (.int .i64 46)) 3)⟩,
 ⟨some 30, none, (.assign (.tmp 31))⟩])
 (.cond (.tmp 30)
 (.seq
 (.ops [⟨some 32, none, (.fieldAddr 63 (.tmp 1) 0)⟩,
 ⟨some 33, none, (.load 3 (.tmp 32))⟩,
 ⟨some 34, none, (.call ⟨(.value (.func 103)), #[(.tmp 33)], #[3]⟩)⟩,
 ⟨some 35, none, (.move (.tmp 34))⟩,
 ⟨some 36, (some (35, true)), (.fieldAddr 63 (.tmp 1) 2)⟩,
 ⟨some 37, (some (35, true)), (.load 3 (.tmp 36))⟩,
 ⟨some 38, (some (35, true)), (.call ⟨(.value (.func 103)), #[(.tmp 37)], #[3]⟩)⟩,
 ⟨some 39, none, (.pick (.tmp 35) (.tmp 38) (.const (.bool false)))⟩,
 ⟨some 2, none, (.assign (.tmp 39))⟩])
 .ret)
 .skip))))))))
 (.seq
 (.ops [⟨some 2, none, (.assign (.const (.bool false)))⟩])
 .ret)))
theorem w87 {args : Array Value} {H : AH} {Φ : Value → AH → Prop} (h : rW Try.prog k87 [] (fin Try.prog [(.tmp 2)] Φ) (tm0 args) H) : CallsA Try.prog 87 args H Φ :=
  CallsA.w k87 [(.tmp 2)] (fun _ => []) Try.func87 rfl rfl (by kernel_rfl) (by kernel_rfl) h

/-- impl.instrOk -/
def k61 : KC :=
 (.seq
 (.ops [⟨some 1, none, (.box 66 (.tmp 0))⟩,
 ⟨some 2, none, (.assign (.const (.bool false)))⟩])
 (.seq
 (.ops [⟨some 6, none, (.fieldAddr 66 (.tmp 1) 1)⟩,
 ⟨some 7, none, (.load 3 (.tmp 6))⟩,
 ⟨some 8, none, (.binOp .eql 3 (.tmp 7) (.const (.int .i64 0)) 3)⟩,
 ⟨some 9, none, (.fieldAddr 66 (.tmp 1) 2)⟩,
 ⟨some 10, none, (.load 63 (.tmp 9))⟩,
 ⟨some 11, none, (.build 63 #[])⟩,
 ⟨some 12, none, (.binOp .eql 63 (.tmp 10) (.tmp 11) 63)⟩,
 ⟨some 13, none, (.fieldAddr 66 (.tmp 1) 3)⟩,
 ⟨some 14, none, (.load 64 (.tmp 13))⟩,
 ⟨some 15, none, (.call ⟨(.builtin .len), #[(.tmp 14)], #[64]⟩)⟩,
 ⟨some 16, none, (.binOp .eql 3 (.tmp 15) (.const (.int .i64 0)) 3)⟩,
 ⟨some 3, none, (.assign (.tmp 8))⟩,
 ⟨some 4, none, (.assign (.tmp 12))⟩,
 ⟨some 5, none, (.assign (.tmp 16))⟩])
 (.seq
 (.seq
 (.ops [⟨some 17, none, (.fieldAddr 66 (.tmp 1) 0)⟩,
 ⟨some 18, none, (.load 3 (.tmp 17))⟩])
 (.block 0
 (.seq
 (.ops [⟨some 20, none, (.binOp .eql 3 (.tmp 18) (.const (.int .i64 1)) 3)⟩,
 ⟨some 19, none, (.assign (.tmp 20))⟩])
 (.cond (.tmp 19)
 (.ops [⟨some 21, none, (.fieldAddr 66 (.tmp 1) 3)⟩,
 ⟨some 22, none, (.load 64 (.tmp 21))⟩,
 ⟨some 23, none, (.call ⟨(.value (.func 85)), #[(.tmp 22)], #[64]⟩)⟩,
 ⟨some 5, none, (.assign (.tmp 23))⟩])
 (.seq
 (.seq
 (.ops [⟨some 25, none, (.binOp .eql 3 (.tmp 18) (.const (.int .i64 2)) 3)⟩,
 ⟨some 24, none, (.assign (.tmp 25))⟩])
 (.cond (.tmp 24)
 .skip
 (.ops [⟨some 26, none, (.binOp .eql 3 (.tmp 18) (.const (.int .i64 3)) 3)⟩,
 ⟨some 24, none, (.assign (.tmp 26))⟩])))
 (.cond (.tmp 24)
 (.ops [⟨some 27, none, (.fieldAddr 66 (.tmp 1) 1)⟩,
 ⟨some 28, none, (.load 3 (.tmp 27))⟩,
 ⟨some 29, none, (.call ⟨(.value (.func 51)), #[(.tmp 28), (.const (.int .i64 0)), (.const (.int .i64 25))], #[3, 3, 3]⟩)⟩,
 ⟨some 3, none, (.assign (.tmp 29))⟩])
 (.seq
 (.ops [⟨some 31, none, (.binOp .eql 3 (.tmp 18) (.const (.int .i64 4)) 3)⟩,
 ⟨some 30, none, (.assign (.tmp 31))⟩])
 (.cond (.tmp 30)
 (.ops [⟨some 32, none, (.fieldAddr 66 (.tmp 1) 2)⟩,
 ⟨some 33, none, (.load 63 (.tmp 32))⟩,
 ⟨some 34, none, (.call ⟨(.value (.func 86)), #[(.tmp 33)], #[63]⟩)⟩,
 ⟨some 4, none, (.assign (.tmp 34))⟩])
 (.seq
 (.ops [⟨some 36, none, (.binOp .eql 3 (.tmp 18) (.const (.int .i64 5)) 3)⟩,
 ⟨some 35, none, (.assign (.tmp 36))⟩])
 (.cond (.tmp 35)
 (.ops [⟨some 37, none, (.fieldAddr 66 (.tmp 1) 2)⟩,
 ⟨some 38, none, (.load 63 (.tmp 37))⟩,
 ⟨some 39, none, (.call ⟨(.value (.func 87)), #[(.tmp 38)], #[63]⟩)⟩,
 ⟨some 4, none, (.assign (.tmp 39))⟩])
 (.seq
 (.ops [⟨some 2, none, (.assign (.const (.bool false)))⟩])
 .ret)))))))))))
 (.seq
 (.ops [⟨some 40, none, (.move (.tmp 3))⟩,
 ⟨some 41, none, (.move (.tmp 40))⟩,
 ⟨some 42, (some (41, true)), (.move (.tmp 4))⟩,
 ⟨some 43, none, (.pick (.tmp 41) (.tmp 42) (.const (.bool false)))⟩,
 ⟨some 44, none, (.move (.tmp 43))⟩,
 ⟨some 45, (some (44, true)), (.move (.tmp 5))⟩,
 ⟨some 46, none, (.pick (.tmp 44) (.tmp 45) (.const (.bool false)))⟩,
 ⟨some 2, none, (.assign (.tmp 46))⟩])
 .ret))))
theorem w61 {args : Array Value} {H : AH} {Φ : Value → AH → Prop} (h : rW Try.prog k61 [] (fin Try.prog [(.tmp 2)] Φ) (tm0 args) H) : CallsA Try.prog 61 args H Φ :=
  CallsA.w k61 [(.tmp 2)] (fun i => if i = 1 then [(1, 0), (4, 0), (8, 0)] else []) Try.func61 rfl rfl (by kernel_rfl) (by kernel_rfl) h

/-- impl.CodeOk$1 -/
def k60 : KC :=
 (.seq
 (.ops [⟨some 1, none, (.box 66 (.tmp 0))⟩,
 ⟨some 2, none, (.assign (.const (.bool false)))⟩])
 (.seq
 (.ops [⟨some 3, none, (.load 66 (.tmp 1))⟩,
 ⟨some 4, none, (.call ⟨(.value (.func 61)), #[(.tmp 3)], #[66]⟩)⟩,
 ⟨some 5, none, (.unOp .not 4 (.tmp 4))⟩,
 ⟨some 2, none, (.assign (.tmp 5))⟩])
 .ret))
theorem w60 {args : Array Value} {H : AH} {Φ : Value → AH → Prop} (h : rW Try.prog k60 [] (fin Try.prog [(.tmp 2)] Φ) (tm0 args) H) : CallsA Try.prog 60 args H Φ :=
  CallsA.w k60 [(.tmp 2)] (fun _ => []) Try.func60 rfl rfl (by kernel_rfl) (by kernel_rfl) h

/-- impl.CodeOk -/
def k26 : KC :=
 (.seq
 (.ops [⟨some 2, none, (.assign (.const (.bool false)))⟩])
 (.seq
 (.seq
 (.ops [⟨some 5, none, (.move (.tmp 0))⟩,
 ⟨some 6, none, (.call ⟨(.builtin .len), #[(.tmp 5)], #[29]⟩)⟩,
 ⟨some 7, none, (.call ⟨(.value (.func 51)), #[(.tmp 6), (.const (.int .i64 1)), (.const (.int .i64 60))], #[3, 3, 3]⟩)⟩,
 ⟨some 8, none, (.unOp .not 4 (.tmp 7))⟩,
 ⟨some 9, none, (.move (.tmp 8))⟩,
 ⟨some 10, (some (9, false)), (.move (.tmp 0))⟩,
 ⟨some 11, (some (9, false)), (.call ⟨(.value (.func 59)), #[(.tmp 10), (.func 60)], #[29, 89]⟩)⟩,
 ⟨some 12, none, (.pick (.tmp 9) (.const (.bool true)) (.tmp 11))⟩])
 (.cond (.tmp 12)
 (.seq
 (.ops [⟨some 2, none, (.assign (.const (.bool false)))⟩])
 .ret)
 .skip))
 (.seq
 (.ops [⟨some 14, none, (.move (.tmp 0))⟩,
 ⟨some 15, none, (.call ⟨(.value (.func 57)), #[(.tmp 14)], #[29]⟩)⟩,
 ⟨some 13, none, (.move (.tmp 15))⟩,
 ⟨some 16, none, (.extract (.tmp 13) 0)⟩,
 ⟨some 17, none, (.extract (.tmp 13) 1)⟩,
 ⟨some 3, none, (.assign (.tmp 16))⟩,
 ⟨some 4, none, (.assign (.tmp 17))⟩])
 (.seq
 (.ops [⟨some 18, none, (.move (.tmp 4))⟩,
 ⟨some 19, none, (.move (.tmp 18))⟩,
 ⟨some 20, (some (19, true)), (.move (.tmp 3))⟩,
 ⟨some 21, (some (19, true)), (.move (.tmp 0))⟩,
 ⟨some 22, (some (19, true)), (.call ⟨(.builtin .len), #[(.tmp 21)], #[29]⟩)⟩,
 ⟨some 23, (some (19, true)), (.indexAddr 64 (.tmp 20) (.tmp 22))⟩,
 ⟨some 24, (some (19, true)), (.load 3 (.tmp 23))⟩,
 ⟨some 25, (some (19, true)), (.binOp .eql 3 (.tmp 24) (.const (.int .i64 1)) 3)⟩,
 ⟨some 26, none, (.pick (.tmp 19) (.tmp 25) (.const (.bool false)))⟩,
 ⟨some 2, none, (.assign (.tmp 26))⟩])
 .ret))))
theorem w26 {args : Array Value} {H : AH} {Φ : Value → AH → Prop} (h : rW Try.prog k26 [] (fin Try.prog [(.tmp 2)] Φ) (tm0 args) H) : CallsA Try.prog 26 args H Φ :=
  CallsA.w k26 [(.tmp 2)] (fun _ => []) Try.func26 rfl rfl (by kernel_rfl) (by kernel_rfl) h

/-- (*impl.byteReader).one -/
def k43 : KC :=
 (.seq
 (.ops [⟨some 2, none, (.assign (.const (.int .i64 0)))⟩])
 (.seq
 (.seq
 (.ops [⟨some 4, none, (.move (.tmp 0))⟩,
 ⟨some 5, none, (.nilCheck (.tmp 4))⟩,
 ⟨some 6, none, (.fieldAddr 71 (.tmp 5) 0)⟩,
 ⟨some 7, none, (.load 22 (.tmp 6))⟩,
 ⟨some 8, none, (.call ⟨(.builtin .len), #[(.tmp 7)], #[22]⟩)⟩,
 ⟨some 9, none, (.binOp .eql 3 (.tmp 8) (.const (.int .i64 0)) 3)⟩])
 (.cond (.tmp 9)
 (.seq
 (.ops [⟨some 10, none, (.move (.tmp 0))⟩,
 ⟨some 11, none, (.nilCheck (.tmp 10))⟩,
 ⟨some 12, none, (.fieldAddr 71 (.tmp 11) 1)⟩,
 ⟨none, none, (.store 4 (.tmp 12) (.const (.bool true)))⟩])
 (.seq
 (.ops [⟨some 2, none, (.assign (.const (.int .i64 0)))⟩])
 .ret))
 .skip))
 (.seq
 (.ops [⟨some 13, none, (.move (.tmp 0))⟩,
 ⟨some 14, none, (.nilCheck (.tmp 13))⟩,
 ⟨some 15, none, (.fieldAddr 71 (.tmp 14) 0)⟩,
 ⟨some 16, none, (.load 22 (.tmp 15))⟩,
 ⟨some 17, none, (.indexAddr 22 (.tmp 16) (.const (.int .i64 0)))⟩,
 ⟨some 18, none, (.load 5 (.tmp 17))⟩,
 ⟨some 3, none, (.assign (.tmp 18))⟩])
 (.seq
 (.ops [⟨some 19, none, (.move (.tmp 0))⟩,
 ⟨some 20, none, (.move (.tmp 0))⟩,
 ⟨some 21, none, (.nilCheck (.tmp 20))⟩,
 ⟨some 22, none, (.fieldAddr 71 (.tmp 21) 0)⟩,
 ⟨some 23, none, (.load 22 (.tmp 22))⟩,
 ⟨some 24, none, (.slice 22 (.tmp 23) (some (.const (.int .i64 1))) none none)⟩,
 ⟨some 25, none, (.nilCheck (.tmp 19))⟩,
 ⟨some 26, none, (.fieldAddr 71 (.tmp 25) 0)⟩,
 ⟨none, none, (.store 22 (.tmp 26) (.tmp 24))⟩])
 (.seq
 (.ops [⟨some 27, none, (.move (.tmp 3))⟩,
 ⟨some 28, none, (.convert 5 3 (.tmp 27))⟩,
 ⟨some 2, none, (.assign (.tmp 28))⟩])
 .ret)))))
theorem w43 {args : Array Value} {H : AH} {Φ : Value → AH → Prop} (h : rW Try.prog k43 [] (fin Try.prog [(.tmp 2)] Φ) (tm0 args) H) : CallsA Try.prog 43 args H Φ :=
  CallsA.w k43 [(.tmp 2)] (fun _ => []) Try.func43 rfl rfl (by kernel_rfl) (by kernel_rfl) h

/-- (*impl.byteReader).two -/
def k44 : KC :=
 (.seq
 (.ops [⟨some 2, none, (.assign (.const (.int .i64 0)))⟩])
 (.seq
 (.ops [⟨some 4, none, (.move (.tmp 0))⟩,
 ⟨some 5, none, (.call ⟨(.value (.func 43)), #[(.tmp 4)], #[69]⟩)⟩,
 ⟨some 3, none, (.assign (.tmp 5))⟩])
 (.seq
 (.ops [⟨some 6, none, (.move (.tmp 3))⟩,
 ⟨some 7, none, (.move (.tmp 0))⟩,
 ⟨some 8, none, (.call ⟨(.value (.func 43)), #[(.tmp 7)], #[69]⟩)⟩,
 ⟨some 9, none, (.binOp .mul 3 (.const (.int .i64 256)) (.tmp 8) 3)⟩,
 ⟨some 10, none, (.binOp .add 3 (.tmp 6) (.tmp 9) 3)⟩,
 ⟨some 2, none, (.assign (.tmp 10))⟩])
 .ret)))
theorem w44 {args : Array Value} {H : AH} {Φ : Value → AH → Prop} (h : rW Try.prog k44 [] (fin Try.prog [(.tmp 2)] Φ) (tm0 args) H) : CallsA Try.prog 44 args H Φ :=
  CallsA.w k44 [(.tmp 2)] (fun _ => []) Try.func44 rfl rfl (by kernel_rfl) (by kernel_rfl) h

/-- (*impl.byteReader).num -/
def k45 : KC :=
 (.seq
 (.ops [⟨some 2, none, (.assign (.const (.int .i64 0)))⟩])
 (.seq
 (.ops [⟨some 3, none, (.assign (.const (.int .u64 0)))⟩])
 (.seq
 (.seq
 (.ops [⟨some 4, none, (.assign (.const (.int .i64 0)))⟩])
 (.block 0
 (.loop
 (.seq
 (.seq
 (.ops [⟨some 5, none, (.move (.tmp 4))⟩,
 ⟨some 6, none, (.binOp .lss 3 (.tmp 5) (.const (.int .i64 8)) 3)⟩])
 (.cond (.tmp 6)
 .skip
 (.exit 0)))
 (.seq
 (.block 1
 (.ops [⟨some 9, none, (.move (.tmp 3))⟩,
 ⟨some 10, none, (.move (.tmp 0))⟩,
 ⟨some 11, none, (.call ⟨(.value (.func 43)), #[(.tmp 10)], #[69]⟩)⟩,
 ⟨some 12, none, (.convert 3 101 (.tmp 11))⟩,
 ⟨some 13, none, (.move (.tmp 4))⟩,
 ⟨some 14, none, (.binOp .mul 3 (.const (.int .i64 8)) (.tmp 13) 3)⟩,
 ⟨some 15, none, (.binOp .shl 101 (.tmp 12) (.tmp 14) 3)⟩,
 ⟨some 16, none, (.binOp .or 101 (.tmp 9) (.tmp 15) 101)⟩,
 ⟨some 3, none, (.assign (.tmp 16))⟩]))
 (.ops [⟨some 7, none, (.move (.tmp 4))⟩,
 ⟨some 8, none, (.binOp .add 3 (.tmp 7) (.const (.int .i64 1)) 3)⟩,
 ⟨some 4, none, (.assign (.tmp 8))⟩]))))))
 (.seq
 (.seq
 (.ops [⟨some 17, none, (.move (.tmp 3))⟩,
 ⟨some 18, none, (.binOp .gtr 101 (.tmp 17) (.const (.int .u64 2000000000000)) 101)⟩])
 (.cond (.tmp 18)
 (.seq
 (.ops [⟨some 19, none, (.move (.tmp 0))⟩,
 ⟨some 20, none, (.nilCheck (.tmp 19))⟩,
 ⟨some 21, none, (.fieldAddr 71 (.tmp 20) 1)⟩,
 ⟨none, none, (.store 4 (.tmp 21) (.const (.bool true)))⟩])
 (.seq
 (.ops [⟨some 2, none, (.assign (.const (.int .i64 0)))⟩])
 .ret))
 .skip))
 (.seq
 (.ops [⟨some 22, none, (.move (.tmp 3))⟩,
 ⟨some 23, none, (.convert 101 3 (.tmp 22))⟩,
 ⟨some 24, none, (.binOp .sub 3 (.tmp 23) (.const (.int .i64 1000000000000)) 3)⟩,
 ⟨some 2, none, (.assign (.tmp 24))⟩])
 .ret)))))
theorem w45 {args : Array Value} {H : AH} {Φ : Value → AH → Prop} (h : rW Try.prog k45 [] (fin Try.prog [(.tmp 2)] Φ) (tm0 args) H) : CallsA Try.prog 45 args H Φ :=
  CallsA.w k45 [(.tmp 2)] (fun _ => []) Try.func45 rfl rfl (by kernel_rfl) (by kernel_rfl) h

/-- impl.CodeRead -/
def k14 : KC :=
 (.seq
 (.ops [⟨some 2, none, (.assign (.const (.slice none 0 0)))⟩,
 ⟨some 3, none, (.assign (.const (.bool false)))⟩])
 (.seq
 (.ops [⟨some 9, none, (.move (.tmp 0))⟩,
 ⟨some 10, none, (.build 71 #[(0, (.tmp 9))])⟩,
 ⟨some 11, none, (.box 71 (.tmp 10))⟩,
 ⟨some 4, none, (.assign (.tmp 11))⟩])
 (.seq
 (.ops [⟨some 5, none, (.assign (.const (.slice none 0 0)))⟩])
 (.seq
 (.seq
 (.ops [⟨some 12, none, (.move (.tmp 4))⟩,
 ⟨some 13, none, (.call ⟨(.value (.func 43)), #[(.tmp 12)], #[69]⟩)⟩,
 ⟨some 6, none, (.assign (.tmp 13))⟩])
 (.block 0
 (.loop
 (.seq
 (.seq
 (.ops [⟨some 14, none, (.move (.tmp 6))⟩,
 ⟨some 15, none, (.binOp .gtr 3 (.tmp 14) (.const (.int .i64 0)) 3)⟩,
 ⟨some 16, none, (.move (.tmp 15))⟩,
 ⟨some 17, (some (16, true)), (.move (.tmp 4))⟩,
 ⟨some 18, (some (16, true)), (.nilCheck (.tmp 17))⟩,
 ⟨some 19, (some (16, true)), (.fieldAddr 71 (.tmp 18) 1)⟩,
 ⟨some 20, (some (16, true)), (.load 4 (.tmp 19))⟩,
 ⟨some 21, (some (16, true)), (.unOp .not 4 (.tmp 20))⟩,
 ⟨some 22, none, (.pick (.tmp 16) (.tmp 21) (.const (.bool false)))⟩])
 (.cond (.tmp 22)
 .skip
 (.exit 0)))
 (.seq
 (.block 1
 (.seq
 (.ops [⟨some 25, none, (.move (.tmp 4))⟩,
 ⟨some 26, none, (.call ⟨(.value (.func 43)), #[(.tmp 25)], #[69]⟩)⟩,
 ⟨some 27, none, (.move (.tmp 4))⟩,
 ⟨some 28, none, (.call ⟨(.value (.func 43)), #[(.tmp 27)], #[69]⟩)⟩,
 ⟨some 29, none, (.build 66 #[(0, (.tmp 26)), (1, (.tmp 28))])⟩,
 ⟨some 7, none, (.alloc 66)⟩,
 ⟨none, none, (.store 66 (.tmp 7) (.tmp 29))⟩])
 (.seq
 (.ops [⟨some 30, none, (.move (.tmp 4))⟩,
 ⟨some 31, none, (.call ⟨(.value (.func 43)), #[(.tmp 30)], #[69]⟩)⟩,
 ⟨some 32, none, (.fieldAddr 66 (.tmp 7) 2)⟩,
 ⟨some 33, none, (.fieldAddr 63 (.tmp 32) 0)⟩,
 ⟨none, none, (.store 3 (.tmp 33) (.tmp 31))⟩])
 (.seq
 (.ops [⟨some 34, none, (.move (.tmp 4))⟩,
 ⟨some 35, none, (.call ⟨(.value (.func 43)), #[(.tmp 34)], #[69]⟩)⟩,
 ⟨some 36, none, (.fieldAddr 66 (.tmp 7) 2)⟩,
 ⟨some 37, none, (.fieldAddr 63 (.tmp 36) 1)⟩,
 ⟨none, none, (.store 3 (.tmp 37) (.tmp 35))⟩])
 (.seq
 (.ops [⟨some 38, none, (.move (.tmp 4))⟩,
 ⟨some 39, none, (.call ⟨(.value (.func 43)), #[(.tmp 38)], #[69]⟩)⟩,
 ⟨some 40, none, (.fieldAddr 66 (.tmp 7) 2)⟩,
 ⟨some 41, none, (.fieldAddr 63 (.tmp 40) 2)⟩,
 ⟨none, none, (.store 3 (.tmp 41) (.tmp 39))⟩])
 (.seq
 (.seq
 (.ops [⟨some 42, none, (.fieldAddr 66 (.tmp 7) 0)⟩,
 ⟨some 43, none, (.load 3 (.tmp 42))⟩,
 ⟨some 44, none, (.binOp .eql 3 (.tmp 43) (.const (.int .i64 1)) 3)⟩])
 (.cond (.tmp 44)
 (.seq
 (.ops [⟨some 45, none, (.move (.tmp 4))⟩,
 ⟨some 46, none, (.call ⟨(.value (.func 44)), #[(.tmp 45)], #[69]⟩)⟩,
 ⟨some 8, none, (.assign (.tmp 46))⟩])
 (.block 2
 (.loop
 (.seq
 (.seq
 (.ops [⟨some 47, none, (.move (.tmp 8))⟩,
 ⟨some 48, none, (.binOp .gtr 3 (.tmp 47) (.const (.int .i64 0)) 3)⟩,
 ⟨some 49, none, (.move (.tmp 48))⟩,
 ⟨some 50, (some (49, true)), (.move (.tmp 4))⟩,
 ⟨some 51, (some (49, true)), (.nilCheck (.tmp 50))⟩,
 ⟨some 52, (some (49, true)), (.fieldAddr 71 (.tmp 51) 1)⟩,
 ⟨some 53, (some (49, true)), (.load 4 (.tmp 52))⟩,
 ⟨some 54, (some (49, true)), (.unOp .not 4 (.tmp 53))⟩,
 ⟨some 55, none, (.pick (.tmp 49) (.tmp 54) (.const (.bool false)))⟩])
 (.cond (.tmp 55)
 .skip
 (.exit 2)))
 (.seq
 (.block 3
 (.draw #[] [(1, 0), (1, 4)]
 [⟨some 58, none, (.fieldAddr 66 (.tmp 7) 3)⟩,
 ⟨some 59, none, (.load 64 (.tmp 58))⟩,
 ⟨some 60, none, (.move (.tmp 4))⟩,
 ⟨some 61, none, (.call ⟨(.value (.func 45)), #[(.tmp 60)], #[69]⟩)⟩,
 ⟨some 62, none, (.buildSlice 64 1 #[(0, (.tmp 61))])⟩,
 ⟨some 63, none, (.call ⟨(.builtin .append), #[(.tmp 59), (.tmp 62)], #[64, 64]⟩)⟩,
 ⟨some 64, none, (.fieldAddr 66 (.tmp 7) 3)⟩,
 ⟨none, none, (.store 64 (.tmp 64) (.tmp 63))⟩]))
 (.ops [⟨some 56, none, (.move (.tmp 8))⟩,
 ⟨some 57, none, (.binOp .sub 3 (.tmp 56) (.const (.int .i64 1)) 3)⟩,
 ⟨some 8, none, (.assign (.tmp 57))⟩]))))))
 .skip))
 (.ops [⟨some 65, none, (.move (.tmp 5))⟩,
 ⟨some 66, none, (.load 66 (.tmp 7))⟩,
 ⟨some 67, none, (.buildSlice 29 1 #[(0, (.tmp 66))])⟩,
 ⟨some 68, none, (.call ⟨(.builtin .append), #[(.tmp 65), (.tmp 67)], #[29, 29]⟩)⟩,
 ⟨some 5, none, (.assign (.tmp 68))⟩])))))))
 (.ops [⟨some 23, none, (.move (.tmp 6))⟩,
 ⟨some 24, none, (.binOp .sub 3 (.tmp 23) (.const (.int .i64 1)) 3)⟩,
 ⟨some 6, none, (.assign (.tmp 24))⟩]))))))
 (.seq
 (.seq
 (.ops [⟨some 69, none, (.move (.tmp 4))⟩,
 ⟨some 70, none, (.nilCheck (.tmp 69))⟩,
 ⟨some 71, none, (.fieldAddr 71 (.tmp 70) 1)⟩,
 ⟨some 72, none, (.load 4 (.tmp 71))⟩,
 ⟨some 73, none, (.move (.tmp 72))⟩,
 ⟨some 74, (some (73, false)), (.move (.tmp 4))⟩,
 ⟨some 75, (some (73, false)), (.nilCheck (.tmp 74))⟩,
 ⟨some 76, (some (73, false)), (.fieldAddr 71 (.tmp 75) 0)⟩,
 ⟨some 77, (some (73, false)), (.load 22 (.tmp 76))⟩,
 ⟨some 78, (some (73, false)), (.call ⟨(.builtin .len), #[(.tmp 77)], #[22]⟩)⟩,
 ⟨some 79, (some (73, false)), (.binOp .gtr 3 (.tmp 78) (.const (.int .i64 0)) 3)⟩,
 ⟨some 80, none, (.pick (.tmp 73) (.const (.bool true)) (.tmp 79))⟩,
 ⟨some 81, none, (.move (.tmp 80))⟩,
 ⟨some 82, (some (81, false)), (.move (.tmp 5))⟩,
 ⟨some 83, (some (81, false)), (.call ⟨(.value (.func 26)), #[(.tmp 82)], #[29]⟩)⟩,
 ⟨some 84, (some (81, false)), (.unOp .not 4 (.tmp 83))⟩,
 ⟨some 85, none, (.pick (.tmp 81) (.const (.bool true)) (.tmp 84))⟩])
 (.cond (.tmp 85)
 (.seq
 (.ops [⟨some 2, none, (.assign (.const (.slice none 0 0)))⟩,
 ⟨some 3, none, (.assign (.const (.bool false)))⟩])
 .ret)
 .skip))
 (.seq
 (.ops [⟨some 86, none, (.move (.tmp 5))⟩,
 ⟨some 2, none, (.assign (.tmp 86))⟩,
 ⟨some 3, none, (.assign (.const (.bool true)))⟩])
 .ret))))))
theorem w14 {args : Array Value} {H : AH} {Φ : Value → AH → Prop} (h : rW Try.prog k14 [] (fin Try.prog [(.tmp 2), (.tmp 3)] Φ) (tm0 args) H) : CallsA Try.prog 14 args H Φ :=
  CallsA.w k14 [(.tmp 2), (.tmp 3)] (fun i => if i = 14 then [(1, 0), (1, 4)] else []) Try.func14 rfl rfl (by kernel_rfl) (by kernel_rfl) h

/-- impl.putNum -/
def k56 : KC :=
 (.seq
 (.ops [⟨some 4, none, (.assign (.const (.slice none 0 0)))⟩])
 (.seq
 (.ops [⟨some 7, none, (.move (.tmp 1))⟩,
 ⟨some 8, none, (.binOp .add 3 (.tmp 7) (.const (.int .i64 1000000000000)) 3)⟩,
 ⟨some 5, none, (.assign (.tmp 8))⟩])
 (.seq
 (.seq
 (.ops [⟨some 6, none, (.assign (.const (.int .i64 0)))⟩])
 (.block 0
 (.loop
 (.seq
 (.seq
 (.ops [⟨some 9, none, (.move (.tmp 6))⟩,
 ⟨some 10, none, (.binOp .lss 3 (.tmp 9) (.const (.int .i64 8)) 3)⟩])
 (.cond (.tmp 10)
 .skip
 (.exit 0)))
 (.seq
 (.block 1
 (.ops [⟨some 13, none, (.move (.tmp 0))⟩,
 ⟨some 14, none, (.move (.tmp 5))⟩,
 ⟨some 15, none, (.move (.tmp 6))⟩,
 ⟨some 16, none, (.binOp .mul 3 (.const (.int .i64 8)) (.tmp 15) 3)⟩,
 ⟨some 17, none, (.binOp .shr 3 (.tmp 14) (.tmp 16) 3)⟩,
 ⟨some 18, none, (.convert 3 5 (.tmp 17))⟩,
 ⟨some 19, none, (.buildSlice 22 1 #[(0, (.tmp 18))])⟩,
 ⟨some 20, none, (.call ⟨(.builtin .append), #[(.tmp 13), (.tmp 19)], #[22, 22]⟩)⟩,
 ⟨some 0, none, (.assign (.tmp 20))⟩]))
 (.ops [⟨some 11, none, (.move (.tmp 6))⟩,
 ⟨some 12, none, (.binOp .add 3 (.tmp 11) (.const (.int .i64 1)) 3)⟩,
 ⟨some 6, none, (.assign (.tmp 12))⟩]))))))
 (.seq
 (.ops [⟨some 21, none, (.move (.tmp 0))⟩,
 ⟨some 4, none, (.assign (.tmp 21))⟩])
 .ret))))
theorem w56 {args : Array Value} {H : AH} {Φ : Value → AH → Prop} (h : rW Try.prog k56 [] (fin Try.prog [(.tmp 4)] Φ) (tm0 args) H) : CallsA Try.prog 56 args H Φ :=
  CallsA.w k56 [(.tmp 4)] (fun _ => []) Try.func56 rfl rfl (by kernel_rfl) (by kernel_rfl) h

/-- impl.CodePack -/
def k24 : KC :=
 (.seq
 (.ops [⟨some 2, none, (.assign (.const (.slice none 0 0)))⟩,
 ⟨some 3, none, (.assign (.const (.bool false)))⟩])
 (.seq
 (.seq
 (.ops [⟨some 9, none, (.move (.tmp 0))⟩,
 ⟨some 10, none, (.call ⟨(.value (.func 26)), #[(.tmp 9)], #[29]⟩)⟩,
 ⟨some 11, none, (.unOp .not 4 (.tmp 10))⟩])
 (.cond (.tmp 11)
 (.seq
 (.ops [⟨some 2, none, (.assign (.const (.slice none 0 0)))⟩,
 ⟨some 3, none, (.assign (.const (.bool false)))⟩])
 .ret)
 .skip))
 (.seq
 (.ops [⟨some 12, none, (.move (.tmp 0))⟩,
 ⟨some 13, none, (.call ⟨(.builtin .len), #[(.tmp 12)], #[29]⟩)⟩,
 ⟨some 14, none, (.convert 3 5 (.tmp 13))⟩,
 ⟨some 15, none, (.buildSlice 22 1 #[(0, (.tmp 14))])⟩,
 ⟨some 4, none, (.assign (.tmp 15))⟩])
 (.seq
 (.seq
 (.ops [⟨some 16, none, (.move (.tmp 0))⟩,
 ⟨some 17, none, (.call ⟨(.builtin .len), #[(.tmp 16)], #[29]⟩)⟩,
 ⟨some 18, none, (.move (.const (.int .i64 0)))⟩])
 (.block 0
 (.loop
 (.seq
 (.ops [⟨some 19, none, (.binOp .lss 3 (.tmp 18) (.tmp 17) 3)⟩])
 (.seq
 (.cond (.tmp 19)
 .skip
 (.exit 0))
 (.seq
 (.block 1
 (.seq
 (.ops [⟨some 20, none, (.indexAddr 29 (.tmp 16) (.tmp 18))⟩,
 ⟨some 21, none, (.load 66 (.tmp 20))⟩,
 ⟨some 6, none, (.alloc 66)⟩,
 ⟨none, none, (.store 66 (.tmp 6) (.tmp 21))⟩])
 (.seq
 (.ops [⟨some 22, none, (.move (.tmp 4))⟩,
 ⟨some 23, none, (.fieldAddr 66 (.tmp 6) 0)⟩,
 ⟨some 24, none, (.load 3 (.tmp 23))⟩,
 ⟨some 25, none, (.convert 3 5 (.tmp 24))⟩,
 ⟨some 26, none, (.fieldAddr 66 (.tmp 6) 1)⟩,
 ⟨some 27, none, (.load 3 (.tmp 26))⟩,
 ⟨some 28, none, (.convert 3 5 (.tmp 27))⟩,
 ⟨some 29, none, (.fieldAddr 66 (.tmp 6) 2)⟩,
 ⟨some 30, none, (.fieldAddr 63 (.tmp 29) 0)⟩,
 ⟨some 31, none, (.load 3 (.tmp 30))⟩,
 ⟨some 32, none, (.convert 3 5 (.tmp 31))⟩,
 ⟨some 33, none, (.fieldAddr 66 (.tmp 6) 2)⟩,
 ⟨some 34, none, (.fieldAddr 63 (.tmp 33) 1)⟩,
 ⟨some 35, none, (.load 3 (.tmp 34))⟩,
 ⟨some 36, none, (.convert 3 5 (.tmp 35))⟩,
 ⟨some 37, none, (.fieldAddr 66 (.tmp 6) 2)⟩,
 ⟨some 38, none, (.fieldAddr 63 (.tmp 37) 2)⟩,
 ⟨some 39, none, (.load 3 (.tmp 38))⟩,
 ⟨some 40, none, (.convert 3 5 (.tmp 39))⟩,
 ⟨some 41, none, (.buildSlice 22 5 #[(0, (.tmp 25)), (1, (.tmp 28)), (2, (.tmp 32)), (3, (.tmp 36)), (4, (.tmp 40))])⟩,
 ⟨some 42, none, (.call ⟨(.builtin .append), #[(.tmp 22), (.tmp 41)], #[22, 22]⟩)⟩,
 ⟨some 4, none, (.assign (.tmp 42))⟩])
 (.seq
 (.ops [⟨some 43, none, (.fieldAddr 66 (.tmp 6) 0)⟩,
 ⟨some 44, none, (.load 3 (.tmp 43))⟩,
 ⟨some 45, none, (.binOp .eql 3 (.tmp 44) (.const (.int .i64 1)) 3)⟩])
 (.cond (.tmp 45)
 (.seq
 (.ops [⟨some 46, none, (.move (.tmp 4))⟩,
 ⟨some 47, none, (.fieldAddr 66 (.tmp 6) 3)⟩,
 ⟨some 48, none, (.load 64 (.tmp 47))⟩,
 ⟨some 49, none, (.call ⟨(.builtin .len), #[(.tmp 48)], #[64]⟩)⟩,
 ⟨some 50, none, (.convert 3 5 (.tmp 49))⟩,
 ⟨some 51, none, (.fieldAddr 66 (.tmp 6) 3)⟩,
 ⟨some 52, none, (.load 64 (.tmp 51))⟩,
 ⟨some 53, none, (.call ⟨(.builtin .len), #[(.tmp 52)], #[64]⟩)⟩,
 ⟨some 54, none, (.binOp .shr 3 (.tmp 53) (.const (.int .u64 8)) 84)⟩,
 ⟨some 55, none, (.convert 3 5 (.tmp 54))⟩,
 ⟨some 56, none, (.buildSlice 22 2 #[(0, (.tmp 50)), (1, (.tmp 55))])⟩,
 ⟨some 57, none, (.call ⟨(.builtin .append), #[(.tmp 46), (.tmp 56)], #[22, 22]⟩)⟩,
 ⟨some 4, none, (.assign (.tmp 57))⟩])
 (.seq
 (.ops [⟨some 58, none, (.fieldAddr 66 (.tmp 6) 3)⟩,
 ⟨some 59, none, (.load 64 (.tmp 58))⟩,
 ⟨some 60, none, (.call ⟨(.builtin .len), #[(.tmp 59)], #[64]⟩)⟩,
 ⟨some 61, none, (.move (.const (.int .i64 0)))⟩])
 (.block 2
 (.loop
 (.seq
 (.ops [⟨some 62, none, (.binOp .lss 3 (.tmp 61) (.tmp 60) 3)⟩])
 (.seq
 (.cond (.tmp 62)
 .skip
 (.exit 2))
 (.seq
 (.block 3
 (.seq
 (.ops [⟨some 63, none, (.indexAddr 64 (.tmp 59) (.tmp 61))⟩,
 ⟨some 64, none, (.load 3 (.tmp 63))⟩,
 ⟨some 8, none, (.assign (.tmp 64))⟩])
 (.ops [⟨some 65, none, (.move (.tmp 4))⟩,
 ⟨some 66, none, (.move (.tmp 8))⟩,
 ⟨some 67, none, (.call ⟨(.value (.func 56)), #[(.tmp 65), (.tmp 66)], #[22, 3]⟩)⟩,
 ⟨some 4, none, (.assign (.tmp 67))⟩])))
 (.ops [⟨some 68, none, (.binOp .add 3 (.tmp 61) (.const (.int .i64 1)) 3)⟩,
 ⟨some 61, none, (.move (.tmp 68))⟩]))))))))
 .skip)))))
 (.ops [⟨some 69, none, (.binOp .add 3 (.tmp 18) (.const (.int .i64 1)) 3)⟩,
 ⟨some 18, none, (.move (.tmp 69))⟩])))))))
 (.seq
 (.ops [⟨some 70, none, (.move (.tmp 4))⟩,
 ⟨some 2, none, (.assign (.tmp 70))⟩,
 ⟨some 3, none, (.assign (.const (.bool true)))⟩])
 .ret)))))
theorem w24 {args : Array Value} {H : AH} {Φ : Value → AH → Prop} (h : rW Try.prog k24 [] (fin Try.prog [(.tmp 2), (.tmp 3)] Φ) (tm0 args) H) : CallsA Try.prog 24 args H Φ :=
  CallsA.w k24 [(.tmp 2), (.tmp 3)] (fun _ => []) Try.func24 rfl rfl (by kernel_rfl) (by kernel_rfl) h

/-- laws.sameInts -/
def k62 : KC :=
 (.seq
 (.ops [⟨some 4, none, (.assign (.const (.bool false)))⟩])
 (.seq
 (.seq
 (.ops [⟨some 6, none, (.move (.tmp 0))⟩,
 ⟨some 7, none, (.call ⟨(.builtin .len), #[(.tmp 6)], #[64]⟩)⟩,
 ⟨some 8, none, (.move (.tmp 1))⟩,
 ⟨some 9, none, (.call ⟨(.builtin .len), #[(.tmp 8)], #[64]⟩)⟩,
 ⟨some 10, none, (.binOp .neq 3 (.tmp 7) (.tmp 9) 3)⟩])
 (.cond (.tmp 10)
 (.seq
 (.ops [⟨some 4, none, (.assign (.const (.bool false)))⟩])
 .ret)
 .skip))
 (.seq
 (.seq
 (.ops [⟨some 5, none, (.assign (.const (.int .i64 0)))⟩])
 (.block 0
 (.loop
 (.seq
 (.seq
 (.ops [⟨some 11, none, (.move (.tmp 5))⟩,
 ⟨some 12, none, (.move (.tmp 0))⟩,
 ⟨some 13, none, (.call ⟨(.builtin .len), #[(.tmp 12)], #[64]⟩)⟩,
 ⟨some 14, none, (.binOp .lss 3 (.tmp 11) (.tmp 13) 3)⟩])
 (.cond (.tmp 14)
 .skip
 (.exit 0)))
 (.seq
 (.block 1
 (.seq
 (.ops [⟨some 17, none, (.move (.tmp 0))⟩,
 ⟨some 18, none, (.move (.tmp 5))⟩,
 ⟨some 19, none, (.indexAddr 64 (.tmp 17) (.tmp 18))⟩,
 ⟨some 20, none, (.load 3 (.tmp 19))⟩,
 ⟨some 21, none, (.move (.tmp 1))⟩,
 ⟨some 22, none, (.move (.tmp 5))⟩,
 ⟨some 23, none, (.indexAddr 64 (.tmp 21) (.tmp 22))⟩,
 ⟨some 24, none, (.load 3 (.tmp 23))⟩,
 ⟨some 25, none, (.binOp .neq 3 (.tmp 20) (.tmp 24) 3)⟩])
 (.cond (.tmp 25)
 (.seq
 (.ops [⟨some 4, none, (.assign (.const (.bool false)))⟩])
 .ret)
 .skip)))
 (.ops [⟨some 15, none, (.move (.tmp 5))⟩,
 ⟨some 16, none, (.binOp .add 3 (.tmp 15) (.const (.int .i64 1)) 3)⟩,
 ⟨some 5, none, (.assign (.tmp 16))⟩]))))))
 (.seq
 (.ops [⟨some 4, none, (.assign (.const (.bool true)))⟩])
 .ret))))
theorem w62 {args : Array Value} {H : AH} {Φ : Value → AH → Prop} (h : rW Try.prog k62 [] (fin Try.prog [(.tmp 4)] Φ) (tm0 args) H) : CallsA Try.prog 62 args H Φ :=
  CallsA.w k62 [(.tmp 4)] (fun i => if i = 6 then [(3, 0), (7, 0)] else []) Try.func62 rfl rfl (by kernel_rfl) (by kernel_rfl) h

/-- laws.sameCode -/
def k27 : KC :=
 (.seq
 (.ops [⟨some 4, none, (.assign (.const (.bool false)))⟩])
 (.seq
 (.seq
 (.ops [⟨some 6, none, (.move (.tmp 0))⟩,
 ⟨some 7, none, (.call ⟨(.builtin .len), #[(.tmp 6)], #[29]⟩)⟩,
 ⟨some 8, none, (.move (.tmp 1))⟩,
 ⟨some 9, none, (.call ⟨(.builtin .len), #[(.tmp 8)], #[29]⟩)⟩,
 ⟨some 10, none, (.binOp .neq 3 (.tmp 7) (.tmp 9) 3)⟩])
 (.cond (.tmp 10)
 (.seq
 (.ops [⟨some 4, none, (.assign (.const (.bool false)))⟩])
 .ret)
 .skip))
 (.seq
 (.seq
 (.ops [⟨some 5, none, (.assign (.const (.int .i64 0)))⟩])
 (.block 0
 (.loop
 (.seq
 (.seq
 (.ops [⟨some 11, none, (.move (.tmp 5))⟩,
 ⟨some 12, none, (.move (.tmp 0))⟩,
 ⟨some 13, none, (.call ⟨(.builtin .len), #[(.tmp 12)], #[29]⟩)⟩,
 ⟨some 14, none, (.binOp .lss 3 (.tmp 11) (.tmp 13) 3)⟩])
 (.cond (.tmp 14)
 .skip
 (.exit 0)))
 (.seq
 (.block 1
 (.seq
 (.draw #[] [(4, 0), (9, 0), (16, 0), (21, 0), (29, 0), (34, 0), (42, 0), (47, 0)]
 [⟨some 17, none, (.move (.tmp 0))⟩,
 ⟨some 18, none, (.move (.tmp 5))⟩,
 ⟨some 19, none, (.indexAddr 29 (.tmp 17) (.tmp 18))⟩,
 ⟨some 20, none, (.fieldAddr 66 (.tmp 19) 0)⟩,
 ⟨some 21, none, (.load 3 (.tmp 20))⟩,
 ⟨some 22, none, (.move (.tmp 1))⟩,
 ⟨some 23, none, (.move (.tmp 5))⟩,
 ⟨some 24, none, (.indexAddr 29 (.tmp 22) (.tmp 23))⟩,
 ⟨some 25, none, (.fieldAddr 66 (.tmp 24) 0)⟩,
 ⟨some 26, none, (.load 3 (.tmp 25))⟩,
 ⟨some 27, none, (.binOp .neq 3 (.tmp 21) (.tmp 26) 3)⟩,
 ⟨some 28, none, (.move (.tmp 27))⟩,
 ⟨some 29, (some (28, false)), (.move (.tmp 0))⟩,
 ⟨some 30, (some (28, false)), (.move (.tmp 5))⟩,
 ⟨some 31, (some (28, false)), (.indexAddr 29 (.tmp 29) (.tmp 30))⟩,
 ⟨some 32, (some (28, false)), (.fieldAddr 66 (.tmp 31) 1)⟩,
 ⟨some 33, (some (28, false)), (.load 3 (.tmp 32))⟩,
 ⟨some 34, (some (28, false)), (.move (.tmp 1))⟩,
 ⟨some 35, (some (28, false)), (.move (.tmp 5))⟩,
 ⟨some 36, (some (28, false)), (.indexAddr 29 (.tmp 34) (.tmp 35))⟩,
 ⟨some 37, (some (28, false)), (.fieldAddr 66 (.tmp 36) 1)⟩,
 ⟨some 38, (some (28, false)), (.load 3 (.tmp 37))⟩,
 ⟨some 39, (some (28, false)), (.binOp .neq 3 (.tmp 33) (.tmp 38) 3)⟩,
 ⟨some 40, none, (.pick (.tmp 28) (.const (.bool true)) (.tmp 39))⟩,
 ⟨some 41, none, (.move (.tmp 40))⟩,
 ⟨some 42, (some (41, false)), (.move (.tmp 0))⟩,
 ⟨some 43, (some (41, false)), (.move (.tmp 5))⟩,
 ⟨some 44, (some (41, false)), (.indexAddr 29 (.tmp 42) (.tmp 43))⟩,
 ⟨some 45, (some (41, false)), (.fieldAddr 66 (.tmp 44) 2)⟩,
 ⟨some 46, (some (41, false)), (.load 63 (.tmp 45))⟩,
 ⟨some 47, (some (41, false)), (.move (.tmp 1))⟩,
 ⟨some 48, (some (41, false)), (.move (.tmp 5))⟩,
 ⟨some 49, (some (41, false)), (.indexAddr 29 (.tmp 47) (.tmp 48))⟩,
 ⟨some 50, (some (41, false)), (.fieldAddr 66 (.tmp 49) 2)⟩,
 ⟨some 51, (some (41, false)), (.load 63 (.tmp 50))⟩,
 ⟨some 52, (some (41, false)), (.binOp .neq 63 (.tmp 46) (.tmp 51) 63)⟩,
 ⟨some 53, none, (.pick (.tmp 41) (.const (.bool true)) (.tmp 52))⟩,
 ⟨some 54, none, (.move (.tmp 53))⟩,
 ⟨some 55, (some (54, false)), (.move (.tmp 0))⟩,
 ⟨some 56, (some (54, false)), (.move (.tmp 5))⟩,
 ⟨some 57, (some (54, false)), (.indexAddr 29 (.tmp 55) (.tmp 56))⟩,
 ⟨some 58, (some (54, false)), (.fieldAddr 66 (.tmp 57) 3)⟩,
 ⟨some 59, (some (54, false)), (.load 64 (.tmp 58))⟩,
 ⟨some 60, (some (54, false)), (.move (.tmp 1))⟩,
 ⟨some 61, (some (54, false)), (.move (.tmp 5))⟩,
 ⟨some 62, (some (54, false)), (.indexAddr 29 (.tmp 60) (.tmp 61))⟩,
 ⟨some 63, (some (54, false)), (.fieldAddr 66 (.tmp 62) 3)⟩,
 ⟨some 64, (some (54, false)), (.load 64 (.tmp 63))⟩,
 ⟨some 65, (some (54, false)), (.call ⟨(.value (.func 62)), #[(.tmp 59), (.tmp 64)], #[64, 64]⟩)⟩,
 ⟨some 66, (some (54, false)), (.unOp .not 4 (.tmp 65))⟩,
 ⟨some 67, none, (.pick (.tmp 54) (.const (.bool true)) (.tmp 66))⟩])
 (.cond (.tmp 67)
 (.seq
 (.ops [⟨some 4, none, (.assign (.const (.bool false)))⟩])
 .ret)
 .skip)))
 (.ops [⟨some 15, none, (.move (.tmp 5))⟩,
 ⟨some 16, none, (.binOp .add 3 (.tmp 15) (.const (.int .i64 1)) 3)⟩,
 ⟨some 5, none, (.assign (.tmp 16))⟩]))))))
 (.seq
 (.ops [⟨some 4, none, (.assign (.const (.bool true)))⟩])
 .ret))))
theorem w27 {args : Array Value} {H : AH} {Φ : Value → AH → Prop} (h : rW Try.prog k27 [] (fin Try.prog [(.tmp 4)] Φ) (tm0 args) H) : CallsA Try.prog 27 args H Φ :=
  CallsA.w k27 [(.tmp 4)] (fun i => if i = 6 then [(4, 0), (9, 0), (16, 0), (21, 0), (29, 0), (34, 0), (42, 0), (47, 0)] else []) Try.func27 rfl rfl (by kernel_rfl) (by kernel_rfl) h

/-- spec.l1New -/
def k32 : KC :=
 (.seq
 (.ops [⟨some 2, none, (.assign (.const (.pointer none)))⟩])
 (.seq
 (.ops [⟨some 5, none, (.move (.tmp 0))⟩,
 ⟨some 6, none, (.call ⟨(.builtin .len), #[(.tmp 5)], #[22]⟩)⟩,
 ⟨some 7, none, (.binOp .add 3 (.const (.int .i64 18218)) (.tmp 6) 3)⟩,
 ⟨some 3, none, (.assign (.tmp 7))⟩])
 (.seq
 (.seq
 (.ops [⟨some 4, none, (.assign (.const (.int .i64 0)))⟩])
 (.block 0
 (.loop
 (.seq
 (.seq
 (.ops [⟨some 8, none, (.move (.tmp 4))⟩,
 ⟨some 9, none, (.move (.tmp 0))⟩,
 ⟨some 10, none, (.call ⟨(.builtin .len), #[(.tmp 9)], #[22]⟩)⟩,
 ⟨some 11, none, (.binOp .lss 3 (.tmp 8) (.tmp 10) 3)⟩,
 ⟨some 12, none, (.move (.tmp 11))⟩,
 ⟨some 13, (some (12, true)), (.move (.tmp 4))⟩,
 ⟨some 14, (some (12, true)), (.binOp .lss 3 (.tmp 13) (.const (.int .i64 4000)) 3)⟩,
 ⟨some 15, none, (.pick (.tmp 12) (.tmp 14) (.const (.bool false)))⟩])
 (.cond (.tmp 15)
 .skip
 (.exit 0)))
 (.seq
 (.block 1
 (.ops [⟨some 18, none, (.move (.tmp 3))⟩,
 ⟨some 19, none, (.binOp .mul 3 (.tmp 18) (.const (.int .i64 131)) 3)⟩,
 ⟨some 20, none, (.move (.tmp 0))⟩,
 ⟨some 21, none, (.move (.tmp 4))⟩,
 ⟨some 22, none, (.indexAddr 22 (.tmp 20) (.tmp 21))⟩,
 ⟨some 23, none, (.load 5 (.tmp 22))⟩,
 ⟨some 24, none, (.convert 5 3 (.tmp 23))⟩,
 ⟨some 25, none, (.binOp .add 3 (.tmp 19) (.tmp 24) 3)⟩,
 ⟨some 26, none, (.binOp .add 3 (.tmp 25) (.const (.int .i64 7)) 3)⟩,
 ⟨some 27, none, (.binOp .and 3 (.tmp 26) (.const (.int .i64 1073741823)) 3)⟩,
 ⟨some 3, none, (.assign (.tmp 27))⟩]))
 (.ops [⟨some 16, none, (.move (.tmp 4))⟩,
 ⟨some 17, none, (.binOp .add 3 (.tmp 16) (.const (.int .i64 1)) 3)⟩,
 ⟨some 4, none, (.assign (.tmp 17))⟩]))))))
 (.seq
 (.ops [⟨some 28, none, (.move (.tmp 0))⟩,
 ⟨some 29, none, (.move (.tmp 3))⟩,
 ⟨some 30, none, (.build 95 #[(0, (.tmp 28)), (2, (.tmp 29))])⟩,
 ⟨some 31, none, (.box 95 (.tmp 30))⟩,
 ⟨some 2, none, (.assign (.tmp 31))⟩])
 .ret))))
theorem w32 {args : Array Value} {H : AH} {Φ : Value → AH → Prop} (h : rW Try.prog k32 [] (fin Try.prog [(.tmp 2)] Φ) (tm0 args) H) : CallsA Try.prog 32 args H Φ :=
  CallsA.w k32 [(.tmp 2)] (fun _ => []) Try.func32 rfl rfl (by kernel_rfl) (by kernel_rfl) h

/-- spec.l1Byte -/
def k71 : KC :=
 (.seq
 (.ops [⟨some 2, none, (.assign (.const (.int .i64 0)))⟩])
 (.seq
 (.ops [⟨some 4, none, (.move (.tmp 0))⟩,
 ⟨some 5, none, (.move (.tmp 0))⟩,
 ⟨some 6, none, (.nilCheck (.tmp 5))⟩,
 ⟨some 7, none, (.fieldAddr 95 (.tmp 6) 2)⟩,
 ⟨some 8, none, (.load 3 (.tmp 7))⟩,
 ⟨some 9, none, (.binOp .mul 3 (.tmp 8) (.const (.int .i64 6364136223846793005)) 3)⟩,
 ⟨some 10, none, (.binOp .add 3 (.tmp 9) (.const (.int .i64 1442695040888963407)) 3)⟩,
 ⟨some 11, none, (.nilCheck (.tmp 4))⟩,
 ⟨some 12, none, (.fieldAddr 95 (.tmp 11) 2)⟩,
 ⟨none, none, (.store 3 (.tmp 12) (.tmp 10))⟩])
 (.seq
 (.ops [⟨some 13, none, (.move (.tmp 0))⟩,
 ⟨some 14, none, (.nilCheck (.tmp 13))⟩,
 ⟨some 15, none, (.fieldAddr 95 (.tmp 14) 2)⟩,
 ⟨some 16, none, (.load 3 (.tmp 15))⟩,
 ⟨some 17, none, (.binOp .shr 3 (.tmp 16) (.const (.int .u64 33)) 84)⟩,
 ⟨some 18, none, (.move (.tmp 0))⟩,
 ⟨some 19, none, (.nilCheck (.tmp 18))⟩,
 ⟨some 20, none, (.fieldAddr 95 (.tmp 19) 2)⟩,
 ⟨some 21, none, (.load 3 (.tmp 20))⟩,
 ⟨some 22, none, (.binOp .shr 3 (.tmp 21) (.const (.int .u64 45)) 84)⟩,
 ⟨some 23, none, (.binOp .xor 3 (.tmp 17) (.tmp 22) 3)⟩,
 ⟨some 24, none, (.binOp .and 3 (.tmp 23) (.const (.int .i64 255)) 3)⟩,
 ⟨some 3, none, (.assign (.tmp 24))⟩])
 (.seq
 (.seq
 (.ops [⟨some 25, none, (.move (.tmp 0))⟩,
 ⟨some 26, none, (.nilCheck (.tmp 25))⟩,
 ⟨some 27, none, (.fieldAddr 95 (.tmp 26) 1)⟩,
 ⟨some 28, none, (.load 3 (.tmp 27))⟩,
 ⟨some 29, none, (.move (.tmp 0))⟩,
 ⟨some 30, none, (.nilCheck (.tmp 29))⟩,
 ⟨some 31, none, (.fieldAddr 95 (.tmp 30) 0)⟩,
 ⟨some 32, none, (.load 22 (.tmp 31))⟩,
 ⟨some 33, none, (.call ⟨(.builtin .len), #[(.tmp 32)], #[22]⟩)⟩,
 ⟨some 34, none, (.binOp .lss 3 (.tmp 28) (.tmp 33) 3)⟩])
 (.cond (.tmp 34)
 (.seq
 (.ops [⟨some 35, none, (.move (.tmp 3))⟩,
 ⟨some 36, none, (.move (.tmp 0))⟩,
 ⟨some 37, none, (.nilCheck (.tmp 36))⟩,
 ⟨some 38, none, (.fieldAddr 95 (.tmp 37) 0)⟩,
 ⟨some 39, none, (.load 22 (.tmp 38))⟩,
 ⟨some 40, none, (.move (.tmp 0))⟩,
 ⟨some 41, none, (.nilCheck (.tmp 40))⟩,
 ⟨some 42, none, (.fieldAddr 95 (.tmp 41) 1)⟩,
 ⟨some 43, none, (.load 3 (.tmp 42))⟩,
 ⟨some 44, none, (.indexAddr 22 (.tmp 39) (.tmp 43))⟩,
 ⟨some 45, none, (.load 5 (.tmp 44))⟩,
 ⟨some 46, none, (.convert 5 3 (.tmp 45))⟩,
 ⟨some 47, none, (.binOp .add 3 (.tmp 35) (.tmp 46) 3)⟩,
 ⟨some 48, none, (.binOp .and 3 (.tmp 47) (.const (.int .i64 255)) 3)⟩,
 ⟨some 3, none, (.assign (.tmp 48))⟩])
 (.ops [⟨some 49, none, (.move (.tmp 0))⟩,
 ⟨some 50, none, (.move (.tmp 0))⟩,
 ⟨some 51, none, (.nilCheck (.tmp 50))⟩,
 ⟨some 52, none, (.fieldAddr 95 (.tmp 51) 1)⟩,
 ⟨some 53, none, (.load 3 (.tmp 52))⟩,
 ⟨some 54, none, (.binOp .add 3 (.tmp 53) (.const (.int .i64 1)) 3)⟩,
 ⟨some 55, none, (.nilCheck (.tmp 49))⟩,
 ⟨some 56, none, (.fieldAddr 95 (.tmp 55) 1)⟩,
 ⟨none, none, (.store 3 (.tmp 56) (.tmp 54))⟩]))
 .skip))
 (.seq
 (.ops [⟨some 57, none, (.move (.tmp 3))⟩,
 ⟨some 2, none, (.assign (.tmp 57))⟩])
 .ret)))))
theorem w71 {args : Array Value} {H : AH} {Φ : Value → AH → Prop} (h : rW Try.prog k71 [] (fin Try.prog [(.tmp 2)] Φ) (tm0 args) H) : CallsA Try.prog 71 args H Φ :=
  CallsA.w k71 [(.tmp 2)] (fun i => if i = 2 then [(3, 0), (8, 0)] else if i = 3 then [(3, 0), (7, 0)] else if i = 4 then [(4, 0), (8, 0), (10, 0), (11, 0)] else []) Try.func71 rfl rfl (by kernel_rfl) (by kernel_rfl) h

/-- spec.l1Below -/
def k35 : KC :=
 (.seq
 (.ops [⟨some 4, none, (.assign (.const (.int .i64 0)))⟩])
 (.seq
 (.seq
 (.ops [⟨some 9, none, (.move (.tmp 1))⟩,
 ⟨some 10, none, (.binOp .leq 3 (.tmp 9) (.const (.int .i64 0)) 3)⟩])
 (.cond (.tmp 10)
 (.seq
 (.ops [⟨some 4, none, (.assign (.const (.int .i64 0)))⟩])
 .ret)
 .skip))
 (.seq
 (.seq
 (.ops [⟨some 11, none, (.move (.tmp 1))⟩,
 ⟨some 12, none, (.binOp .leq 3 (.tmp 11) (.const (.int .i64 256)) 3)⟩])
 (.cond (.tmp 12)
 (.seq
 (.ops [⟨some 13, none, (.move (.tmp 0))⟩,
 ⟨some 14, none, (.call ⟨(.value (.func 71)), #[(.tmp 13)], #[48]⟩)⟩,
 ⟨some 15, none, (.move (.tmp 1))⟩,
 ⟨some 16, none, (.binOp .rem 3 (.tmp 14) (.tmp 15) 3)⟩,
 ⟨some 4, none, (.assign (.tmp 16))⟩])
 .ret)
 .skip))
 (.seq
 (.ops [⟨some 17, none, (.move (.tmp 0))⟩,
 ⟨some 18, none, (.call ⟨(.value (.func 71)), #[(.tmp 17)], #[48]⟩)⟩,
 ⟨some 5, none, (.assign (.tmp 18))⟩])
 (.seq
 (.ops [⟨some 19, none, (.move (.tmp 0))⟩,
 ⟨some 20, none, (.call ⟨(.value (.func 71)), #[(.tmp 19)], #[48]⟩)⟩,
 ⟨some 6, none, (.assign (.tmp 20))⟩])
 (.seq
 (.ops [⟨some 21, none, (.move (.tmp 0))⟩,
 ⟨some 22, none, (.call ⟨(.value (.func 71)), #[(.tmp 21)], #[48]⟩)⟩,
 ⟨some 7, none, (.assign (.tmp 22))⟩])
 (.seq
 (.ops [⟨some 23, none, (.move (.tmp 0))⟩,
 ⟨some 24, none, (.call ⟨(.value (.func 71)), #[(.tmp 23)], #[48]⟩)⟩,
 ⟨some 8, none, (.assign (.tmp 24))⟩])
 (.seq
 (.ops [⟨some 25, none, (.move (.tmp 5))⟩,
 ⟨some 26, none, (.binOp .mul 3 (.tmp 25) (.const (.int .i64 16777216)) 3)⟩,
 ⟨some 27, none, (.move (.tmp 6))⟩,
 ⟨some 28, none, (.binOp .mul 3 (.tmp 27) (.const (.int .i64 65536)) 3)⟩,
 ⟨some 29, none, (.binOp .add 3 (.tmp 26) (.tmp 28) 3)⟩,
 ⟨some 30, none, (.move (.tmp 7))⟩,
 ⟨some 31, none, (.binOp .mul 3 (.tmp 30) (.const (.int .i64 256)) 3)⟩,
 ⟨some 32, none, (.binOp .add 3 (.tmp 29) (.tmp 31) 3)⟩,
 ⟨some 33, none, (.move (.tmp 8))⟩,
 ⟨some 34, none, (.binOp .add 3 (.tmp 32) (.tmp 33) 3)⟩,
 ⟨some 35, none, (.move (.tmp 1))⟩,
 ⟨some 36, none, (.binOp .rem 3 (.tmp 34) (.tmp 35) 3)⟩,
 ⟨some 4, none, (.assign (.tmp 36))⟩])
 .ret))))))))
theorem w35 {args : Array Value} {H : AH} {Φ : Value → AH → Prop} (h : rW Try.prog k35 [] (fin Try.prog [(.tmp 4)] Φ) (tm0 args) H) : CallsA Try.prog 35 args H Φ :=
  CallsA.w k35 [(.tmp 4)] (fun _ => []) Try.func35 rfl rfl (by kernel_rfl) (by kernel_rfl) h

/-- spec.l8Digit -/
def k37 : KC :=
 (.seq
 (.ops [⟨some 4, none, (.assign (.const (.bool false)))⟩])
 (.seq
 (.ops [⟨some 5, none, (.move (.tmp 1))⟩,
 ⟨some 6, none, (.move (.tmp 0))⟩,
 ⟨some 7, none, (.call ⟨(.builtin .len), #[(.tmp 6)], #[9]⟩)⟩,
 ⟨some 8, none, (.binOp .lss 3 (.tmp 5) (.tmp 7) 3)⟩,
 ⟨some 9, none, (.move (.tmp 8))⟩,
 ⟨some 10, (some (9, true)), (.move (.tmp 0))⟩,
 ⟨some 11, (some (9, true)), (.move (.tmp 1))⟩,
 ⟨some 12, (some (9, true)), (.index 9 (.tmp 10) (.tmp 11))⟩,
 ⟨some 13, (some (9, true)), (.binOp .geq 5 (.tmp 12) (.const (.int .u8 48)) 5)⟩,
 ⟨some 14, none, (.pick (.tmp 9) (.tmp 13) (.const (.bool false)))⟩,
 ⟨some 15, none, (.move (.tmp 14))⟩,
 ⟨some 16, (some (15, true)), (.move (.tmp 0))⟩,
 ⟨some 17, (some (15, true)), (.move (.tmp 1))⟩,
 ⟨some 18, (some (15, true)), (.index 9 (.tmp 16) (.tmp 17))⟩,
 ⟨some 19, (some (15, true)), (.binOp .leq 5 (.tmp 18) (.const (.int .u8 57)) 5)⟩,
 ⟨some 20, none, (.pick (.tmp 15) (.tmp 19) (.const (.bool false)))⟩,
 ⟨some 4, none, (.assign (.tmp 20))⟩])
 .ret))
theorem w37 {args : Array Value} {H : AH} {Φ : Value → AH → Prop} (h : rW Try.prog k37 [] (fin Try.prog [(.tmp 4)] Φ) (tm0 args) H) : CallsA Try.prog 37 args H Φ :=
  CallsA.w k37 [(.tmp 4)] (fun _ => []) Try.func37 rfl rfl (by kernel_rfl) (by kernel_rfl) h

/-- spec.l1Min -/
def k75 : KC :=
 (.seq
 (.ops [⟨some 4, none, (.assign (.const (.int .i64 0)))⟩])
 (.seq
 (.seq
 (.ops [⟨some 5, none, (.move (.tmp 0))⟩,
 ⟨some 6, none, (.move (.tmp 1))⟩,
 ⟨some 7, none, (.binOp .lss 3 (.tmp 5) (.tmp 6) 3)⟩])
 (.cond (.tmp 7)
 (.seq
 (.ops [⟨some 8, none, (.move (.tmp 0))⟩,
 ⟨some 4, none, (.assign (.tmp 8))⟩])
 .ret)
 .skip))
 (.seq
 (.ops [⟨some 9, none, (.move (.tmp 1))⟩,
 ⟨some 4, none, (.assign (.tmp 9))⟩])
 .ret)))
theorem w75 {args : Array Value} {H : AH} {Φ : Value → AH → Prop} (h : rW Try.prog k75 [] (fin Try.prog [(.tmp 4)] Φ) (tm0 args) H) : CallsA Try.prog 75 args H Φ :=
  CallsA.w k75 [(.tmp 4)] (fun _ => []) Try.func75 rfl rfl (by kernel_rfl) (by kernel_rfl) h

/-- spec.l8Num -/
def k38 : KC :=
 (.seq
 (.ops [⟨some 4, none, (.assign (.const (.int .i64 0)))⟩,
 ⟨some 5, none, (.assign (.const (.int .i64 0)))⟩,
 ⟨some 6, none, (.assign (.const (.int .i64 0)))⟩])
 (.seq
 (.ops [⟨some 9, none, (.move (.tmp 0))⟩,
 ⟨some 10, none, (.move (.tmp 1))⟩,
 ⟨some 11, none, (.index 9 (.tmp 9) (.tmp 10))⟩,
 ⟨some 12, none, (.binOp .eql 5 (.tmp 11) (.const (.int .u8 95)) 5)⟩,
 ⟨some 7, none, (.assign (.tmp 12))⟩])
 (.seq
 (.seq
 (.ops [⟨some 13, none, (.move (.tmp 7))⟩])
 (.cond (.tmp 13)
 (.ops [⟨some 14, none, (.move (.tmp 1))⟩,
 ⟨some 15, none, (.binOp .add 3 (.tmp 14) (.const (.int .i64 1)) 3)⟩,
 ⟨some 1, none, (.assign (.tmp 15))⟩])
 .skip))
 (.seq
 (.seq
 (.ops [⟨some 16, none, (.move (.tmp 0))⟩,
 ⟨some 17, none, (.move (.tmp 1))⟩,
 ⟨some 18, none, (.call ⟨(.value (.func 37)), #[(.tmp 16), (.tmp 17)], #[9, 3]⟩)⟩,
 ⟨some 19, none, (.unOp .not 4 (.tmp 18))⟩])
 (.cond (.tmp 19)
 (.seq
 (.ops [⟨some 20, none, (.move (.tmp 1))⟩,
 ⟨some 4, none, (.assign (.const (.int .i64 0)))⟩,
 ⟨some 5, none, (.assign (.tmp 20))⟩,
 ⟨some 6, none, (.assign (.const (.int .i64 8)))⟩])
 .ret)
 .skip))
 (.seq
 (.ops [⟨some 8, none, (.assign (.const (.int .i64 0)))⟩])
 (.seq
 (.block 0
 (.loop
 (.seq
 (.seq
 (.ops [⟨some 21, none, (.move (.tmp 0))⟩,
 ⟨some 22, none, (.move (.tmp 1))⟩,
 ⟨some 23, none, (.call ⟨(.value (.func 37)), #[(.tmp 21), (.tmp 22)], #[9, 3]⟩)⟩])
 (.cond (.tmp 23)
 .skip
 (.exit 0)))
 (.block 1
 (.seq
 (.ops [⟨some 24, none, (.move (.tmp 8))⟩,
 ⟨some 25, none, (.binOp .mul 3 (.const (.int .i64 10)) (.tmp 24) 3)⟩,
 ⟨some 26, none, (.move (.tmp 0))⟩,
 ⟨some 27, none, (.move (.tmp 1))⟩,
 ⟨some 28, none, (.index 9 (.tmp 26) (.tmp 27))⟩,
 ⟨some 29, none, (.convert 5 3 (.tmp 28))⟩,
 ⟨some 30, none, (.binOp .add 3 (.tmp 25) (.tmp 29) 3)⟩,
 ⟨some 31, none, (.binOp .sub 3 (.tmp 30) (.const (.int .i64 48)) 3)⟩,
 ⟨some 32, none, (.call ⟨(.value (.func 75)), #[(.tmp 31), (.const (.int .i64 1000000000001))], #[3, 3]⟩)⟩,
 ⟨some 8, none, (.assign (.tmp 32))⟩])
 (.ops [⟨some 33, none, (.move (.tmp 1))⟩,
 ⟨some 34, none, (.binOp .add 3 (.tmp 33) (.const (.int .i64 1)) 3)⟩,
 ⟨some 1, none, (.assign (.tmp 34))⟩]))))))
 (.seq
 (.seq
 (.ops [⟨some 35, none, (.move (.tmp 8))⟩,
 ⟨some 36, none, (.call ⟨(.value (.func 76)), #[(.tmp 35)], #[3]⟩)⟩,
 ⟨some 37, none, (.unOp .not 4 (.tmp 36))⟩])
 (.cond (.tmp 37)
 (.seq
 (.ops [⟨some 38, none, (.move (.tmp 1))⟩,
 ⟨some 4, none, (.assign (.const (.int .i64 0)))⟩,
 ⟨some 5, none, (.assign (.tmp 38))⟩,
 ⟨some 6, none, (.assign (.const (.int .i64 6)))⟩])
 .ret)
 .skip))
 (.seq
 (.seq
 (.ops [⟨some 39, none, (.move (.tmp 7))⟩])
 (.cond (.tmp 39)
 (.ops [⟨some 40, none, (.move (.tmp 8))⟩,
 ⟨some 41, none, (.binOp .sub 3 (.const (.int .i64 0)) (.tmp 40) 3)⟩,
 ⟨some 8, none, (.assign (.tmp 41))⟩])
 .skip))
 (.seq
 (.ops [⟨some 42, none, (.move (.tmp 8))⟩,
 ⟨some 43, none, (.move (.tmp 1))⟩,
 ⟨some 4, none, (.assign (.tmp 42))⟩,
 ⟨some 5, none, (.assign (.tmp 43))⟩,
 ⟨some 6, none, (.assign (.const (.int .i64 0)))⟩])
 .ret)))))))))
theorem w38 {args : Array Value} {H : AH} {Φ : Value → AH → Prop} (h : rW Try.prog k38 [] (fin Try.prog [(.tmp 4), (.tmp 5), (.tmp 6)] Φ) (tm0 args) H) : CallsA Try.prog 38 args H Φ :=
  CallsA.w k38 [(.tmp 4), (.tmp 5), (.tmp 6)] (fun _ => []) Try.func38 rfl rfl (by kernel_rfl) (by kernel_rfl) h

/-- spec.l8Sign -/
def k40 : KC :=
 (.seq
 (.ops [⟨some 2, none, (.assign (.const (.bool false)))⟩])
 (.seq
 (.ops [⟨some 3, none, (.assign (.const (.string ⟨#[43, 45, 42, 37, 124, 38, 94, 61, 60, 62, 126, 105, 35, 44, 116, 100, 114, 122, 64, 63, 103, 36, 101, 47, 92, 46, 111]⟩)))⟩])
 (.seq
 (.seq
 (.ops [⟨some 4, none, (.assign (.const (.int .i64 0)))⟩])
 (.block 0
 (.loop
 (.seq
 (.seq
 (.ops [⟨some 5, none, (.move (.tmp 4))⟩,
 ⟨some 6, none, (.move (.tmp 3))⟩,
 ⟨some 7, none, (.call ⟨(.builtin .len), #[(.tmp 6)], #[9]⟩)⟩,
 ⟨some 8, none, (.binOp .lss 3 (.tmp 5) (.tmp 7) 3)⟩])
 (.cond (.tmp 8)
 .skip
 (.exit 0)))
 (.seq
 (.block 1
 (.seq
 (.ops [⟨some 11, none, (.move (.tmp 3))⟩,
 ⟨some 12, none, (.move (.tmp 4))⟩,
 ⟨some 13, none, (.index 9 (.tmp 11) (.tmp 12))⟩,
 ⟨some 14, none, (.convert 5 3 (.tmp 13))⟩,
 ⟨some 15, none, (.move (.tmp 0))⟩,
 ⟨some 16, none, (.binOp .eql 3 (.tmp 14) (.tmp 15) 3)⟩])
 (.cond (.tmp 16)
 (.seq
 (.ops [⟨some 2, none, (.assign (.const (.bool true)))⟩])
 .ret)
 .skip)))
 (.ops [⟨some 9, none, (.move (.tmp 4))⟩,
 ⟨some 10, none, (.binOp .add 3 (.tmp 9) (.const (.int .i64 1)) 3)⟩,
 ⟨some 4, none, (.assign (.tmp 10))⟩]))))))
 (.seq
 (.ops [⟨some 2, none, (.assign (.const (.bool false)))⟩])
 .ret))))
theorem w40 {args : Array Value} {H : AH} {Φ : Value → AH → Prop} (h : rW Try.prog k40 [] (fin Try.prog [(.tmp 2)] Φ) (tm0 args) H) : CallsA Try.prog 40 args H Φ :=
  CallsA.w k40 [(.tmp 2)] (fun _ => []) Try.func40 rfl rfl (by kernel_rfl) (by kernel_rfl) h

/-- spec.Lex -/
def k10 : KC :=
 (.seq
 (.ops [⟨some 2, none, (.assign (.const (.slice none 0 0)))⟩,
 ⟨some 3, none, (.assign (.const (.int .i64 0)))⟩,
 ⟨some 4, none, (.assign (.const (.int .i64 0)))⟩])
 (.seq
 (.ops [⟨some 13, none, (.buildSlice 25 0 #[])⟩,
 ⟨some 5, none, (.assign (.tmp 13))⟩])
 (.seq
 (.seq
 (.ops [⟨some 14, none, (.move (.tmp 0))⟩,
 ⟨some 15, none, (.call ⟨(.builtin .len), #[(.tmp 14)], #[9]⟩)⟩,
 ⟨some 16, none, (.binOp .gtr 3 (.tmp 15) (.const (.int .i64 300)) 3)⟩])
 (.cond (.tmp 16)
 (.seq
 (.ops [⟨some 17, none, (.move (.tmp 5))⟩,
 ⟨some 2, none, (.assign (.tmp 17))⟩,
 ⟨some 3, none, (.assign (.const (.int .i64 6)))⟩,
 ⟨some 4, none, (.assign (.const (.int .i64 0)))⟩])
 .ret)
 .skip))
 (.seq
 (.ops [⟨some 6, none, (.assign (.const (.int .i64 0)))⟩])
 (.seq
 (.block 0
 (.loop
 (.seq
 (.seq
 (.ops [⟨some 18, none, (.move (.tmp 6))⟩,
 ⟨some 19, none, (.move (.tmp 0))⟩,
 ⟨some 20, none, (.call ⟨(.builtin .len), #[(.tmp 19)], #[9]⟩)⟩,
 ⟨some 21, none, (.binOp .lss 3 (.tmp 18) (.tmp 20) 3)⟩])
 (.cond (.tmp 21)
 .skip
 (.exit 0)))
 (.block 1
 (.seq
 (.ops [⟨some 22, none, (.move (.tmp 0))⟩,
 ⟨some 23, none, (.move (.tmp 6))⟩,
 ⟨some 24, none, (.index 9 (.tmp 22) (.tmp 23))⟩,
 ⟨some 25, none, (.convert 5 3 (.tmp 24))⟩,
 ⟨some 7, none, (.assign (.tmp 25))⟩])
 (.seq
 (.ops [⟨some 26, none, (.build 54 #[])⟩,
 ⟨some 8, none, (.alloc 54)⟩,
 ⟨none, none, (.store 54 (.tmp 8) (.tmp 26))⟩])
 (.seq
 (.ops [⟨some 27, none, (.move (.tmp 6))⟩,
 ⟨some 28, none, (.binOp .add 3 (.tmp 27) (.const (.int .i64 1)) 3)⟩,
 ⟨some 9, none, (.assign (.tmp 28))⟩])
 (.seq
 (.block 2
 (.seq
 (.ops [⟨some 32, none, (.move (.tmp 7))⟩,
 ⟨some 33, none, (.binOp .eql 3 (.tmp 32) (.const (.int .i64 32)) 3)⟩,
 ⟨some 31, none, (.assign (.tmp 33))⟩])
 (.cond (.tmp 31)
 (.seq
 (.ops [⟨some 34, none, (.move (.tmp 6))⟩,
 ⟨some 35, none, (.binOp .add 3 (.tmp 34) (.const (.int .i64 1)) 3)⟩,
 ⟨some 6, none, (.assign (.tmp 35))⟩])
 (.exit 1))
 (.seq
 (.ops [⟨some 37, none, (.move (.tmp 0))⟩,
 ⟨some 38, none, (.move (.tmp 6))⟩,
 ⟨some 39, none, (.call ⟨(.value (.func 37)), #[(.tmp 37), (.tmp 38)], #[9, 3]⟩)⟩,
 ⟨some 40, none, (.move (.tmp 39))⟩,
 ⟨some 41, (some (40, false)), (.move (.tmp 7))⟩,
 ⟨some 42, (some (40, false)), (.binOp .eql 3 (.tmp 41) (.const (.int .i64 95)) 3)⟩,
 ⟨some 43, none, (.pick (.tmp 40) (.const (.bool true)) (.tmp 42))⟩,
 ⟨some 36, none, (.assign (.tmp 43))⟩])
 (.cond (.tmp 36)
 (.seq
 (.ops [⟨some 45, none, (.move (.tmp 0))⟩,
 ⟨some 46, none, (.move (.tmp 6))⟩,
 ⟨some 47, none, (.call ⟨(.value (.func 38)), #[(.tmp 45), (.tmp 46)], #[9, 3]⟩)⟩,
 ⟨some 44, none, (.move (.tmp 47))⟩,
 ⟨some 48, none, (.extract (.tmp 44) 0)⟩,
 ⟨some 49, none, (.extract (.tmp 44) 1)⟩,
 ⟨some 50, none, (.extract (.tmp 44) 2)⟩,
 ⟨some 10, none, (.assign (.tmp 48))⟩,
 ⟨some 11, none, (.assign (.tmp 49))⟩,
 ⟨some 12, none, (.assign (.tmp 50))⟩])
 (.seq
 (.seq
 (.ops [⟨some 51, none, (.move (.tmp 12))⟩,
 ⟨some 52, none, (.binOp .neq 3 (.tmp 51) (.const (.int .i64 0)) 3)⟩])
 (.cond (.tmp 52)
 (.seq
 (.ops [⟨some 53, none, (.buildSlice 25 0 #[])⟩,
 ⟨some 54, none, (.move (.tmp 12))⟩,
 ⟨some 55, none, (.move (.tmp 6))⟩,
 ⟨some 2, none, (.assign (.tmp 53))⟩,
 ⟨some 3, none, (.assign (.tmp 54))⟩,
 ⟨some 4, none, (.assign (.tmp 55))⟩])
 .ret)
 .skip))
 (.seq
 (.ops [⟨some 56, none, (.move (.tmp 10))⟩,
 ⟨some 57, none, (.build 54 #[(0, (.const (.int .i64 1))), (1, (.tmp 56))])⟩,
 ⟨none, none, (.store 54 (.tmp 8) (.tmp 57))⟩])
 (.ops [⟨some 58, none, (.move (.tmp 11))⟩,
 ⟨some 9, none, (.assign (.tmp 58))⟩]))))
 (.seq
 (.ops [⟨some 60, none, (.move (.tmp 7))⟩,
 ⟨some 61, none, (.call ⟨(.value (.func 39)), #[(.tmp 60), (.const (.int .i64 65)), (.const (.int .i64 90))], #[3, 3, 3]⟩)⟩,
 ⟨some 59, none, (.assign (.tmp 61))⟩])
 (.cond (.tmp 59)
 (.ops [⟨some 62, none, (.move (.tmp 7))⟩,
 ⟨some 63, none, (.binOp .sub 3 (.tmp 62) (.const (.int .i64 65)) 3)⟩,
 ⟨some 64, none, (.build 54 #[(0, (.const (.int .i64 2))), (1, (.tmp 63))])⟩,
 ⟨none, none, (.store 54 (.tmp 8) (.tmp 64))⟩])
 (.seq
 (.ops [⟨some 66, none, (.move (.tmp 7))⟩,
 ⟨some 67, none, (.binOp .eql 3 (.tmp 66) (.const (.int .i64 40)) 3)⟩,
 ⟨some 65, none, (.assign (.tmp 67))⟩])
 (.cond (.tmp 65)
 (.ops [⟨some 68, none, (.fieldAddr 54 (.tmp 8) 0)⟩,
 ⟨none, none, (.store 3 (.tmp 68) (.const (.int .i64 4)))⟩])
 (.seq
 (.ops [⟨some 70, none, (.move (.tmp 7))⟩,
 ⟨some 71, none, (.binOp .eql 3 (.tmp 70) (.const (.int .i64 41)) 3)⟩,
 ⟨some 69, none, (.assign (.tmp 71))⟩])
 (.cond (.tmp 69)
 (.ops [⟨some 72, none, (.fieldAddr 54 (.tmp 8) 0)⟩,
 ⟨none, none, (.store 3 (.tmp 72) (.const (.int .i64 5)))⟩])
 (.seq
 (.ops [⟨some 74, none, (.move (.tmp 7))⟩,
 ⟨some 75, none, (.binOp .eql 3 (.tmp 74) (.const (.int .i64 58)) 3)⟩,
 ⟨some 73, none, (.assign (.tmp 75))⟩])
 (.cond (.tmp 73)
 (.ops [⟨some 76, none, (.fieldAddr 54 (.tmp 8) 0)⟩,
 ⟨none, none, (.store 3 (.tmp 76) (.const (.int .i64 6)))⟩])
 (.seq
 (.ops [⟨some 78, none, (.move (.tmp 7))⟩,
 ⟨some 79, none, (.call ⟨(.value (.func 40)), #[(.tmp 78)], #[3]⟩)⟩,
 ⟨some 77, none, (.assign (.tmp 79))⟩])
 (.cond (.tmp 77)
 (.ops [⟨some 80, none, (.move (.tmp 7))⟩,
 ⟨some 81, none, (.build 54 #[(0, (.const (.int .i64 3))), (1, (.tmp 80))])⟩,
 ⟨none, none, (.store 54 (.tmp 8) (.tmp 81))⟩])
 (.seq
 (.ops [⟨some 29, none, (.buildSlice 25 0 #[])⟩,
 ⟨some 30, none, (.move (.tmp 6))⟩,
 ⟨some 2, none, (.assign (.tmp 29))⟩,
 ⟨some 3, none, (.assign (.const (.int .i64 8)))⟩,
 ⟨some 4, none, (.assign (.tmp 30))⟩])
 .ret))))))))))))))))
 (.seq
 (.ops [⟨some 82, none, (.move (.tmp 5))⟩,
 ⟨some 83, none, (.load 54 (.tmp 8))⟩,
 ⟨some 84, none, (.buildSlice 25 1 #[(0, (.tmp 83))])⟩,
 ⟨some 85, none, (.call ⟨(.builtin .append), #[(.tmp 82), (.tmp 84)], #[25, 25]⟩)⟩,
 ⟨some 5, none, (.assign (.tmp 85))⟩])
 (.ops [⟨some 86, none, (.move (.tmp 9))⟩,
 ⟨some 6, none, (.assign (.tmp 86))⟩]))))))))))
 (.seq
 (.ops [⟨some 87, none, (.move (.tmp 5))⟩,
 ⟨some 88, none, (.move (.tmp 0))⟩,
 ⟨some 89, none, (.call ⟨(.builtin .len), #[(.tmp 88)], #[9]⟩)⟩,
 ⟨some 2, none, (.assign (.tmp 87))⟩,
 ⟨some 3, none, (.assign (.const (.int .i64 0)))⟩,
 ⟨some 4, none, (.assign (.tmp 89))⟩])
 .ret))))))
theorem w10 {args : Array Value} {H : AH} {Φ : Value → AH → Prop} (h : rW Try.prog k10 [] (fin Try.prog [(.tmp 2), (.tmp 3), (.tmp 4)] Φ) (tm0 args) H) : CallsA Try.prog 10 args H Φ :=
  CallsA.w k10 [(.tmp 2), (.tmp 3), (.tmp 4)] (fun _ => []) Try.func10 rfl rfl (by kernel_rfl) (by kernel_rfl) h

/-- spec.l1Once -/
def k34 : KC :=
 (.seq
 (.ops [⟨some 4, none, (.assign (.const (.bool false)))⟩])
 (.seq
 (.ops [⟨some 5, none, (.move (.tmp 0))⟩,
 ⟨some 6, none, (.move (.tmp 1))⟩,
 ⟨some 7, none, (.call ⟨(.value (.func 35)), #[(.tmp 5), (.tmp 6)], #[48, 3]⟩)⟩,
 ⟨some 8, none, (.binOp .eql 3 (.tmp 7) (.const (.int .i64 0)) 3)⟩,
 ⟨some 4, none, (.assign (.tmp 8))⟩])
 .ret))
theorem w34 {args : Array Value} {H : AH} {Φ : Value → AH → Prop} (h : rW Try.prog k34 [] (fin Try.prog [(.tmp 4)] Φ) (tm0 args) H) : CallsA Try.prog 34 args H Φ :=
  CallsA.w k34 [(.tmp 4)] (fun _ => []) Try.func34 rfl rfl (by kernel_rfl) (by kernel_rfl) h

/-- spec.l1Pick -/
def k94 : KC :=
 (.seq
 (.ops [⟨some 4, none, (.assign (.const (.string ⟨#[]⟩)))⟩])
 (.seq
 (.ops [⟨some 5, none, (.move (.tmp 1))⟩,
 ⟨some 6, none, (.move (.tmp 0))⟩,
 ⟨some 7, none, (.move (.tmp 1))⟩,
 ⟨some 8, none, (.call ⟨(.builtin .len), #[(.tmp 7)], #[98]⟩)⟩,
 ⟨some 9, none, (.call ⟨(.value (.func 35)), #[(.tmp 6), (.tmp 8)], #[48, 3]⟩)⟩,
 ⟨some 10, none, (.indexAddr 98 (.tmp 5) (.tmp 9))⟩,
 ⟨some 11, none, (.load 9 (.tmp 10))⟩,
 ⟨some 4, none, (.assign (.tmp 11))⟩])
 .ret))
theorem w94 {args : Array Value} {H : AH} {Φ : Value → AH → Prop} (h : rW Try.prog k94 [] (fin Try.prog [(.tmp 4)] Φ) (tm0 args) H) : CallsA Try.prog 94 args H Φ :=
  CallsA.w k94 [(.tmp 4)] (fun _ => []) Try.func94 rfl rfl (by kernel_rfl) (by kernel_rfl) h

/-- spec.l1PickInt -/
def k68 : KC :=
 (.seq
 (.ops [⟨some 4, none, (.assign (.const (.int .i64 0)))⟩])
 (.seq
 (.ops [⟨some 5, none, (.move (.tmp 1))⟩,
 ⟨some 6, none, (.move (.tmp 0))⟩,
 ⟨some 7, none, (.move (.tmp 1))⟩,
 ⟨some 8, none, (.call ⟨(.builtin .len), #[(.tmp 7)], #[64]⟩)⟩,
 ⟨some 9, none, (.call ⟨(.value (.func 35)), #[(.tmp 6), (.tmp 8)], #[48, 3]⟩)⟩,
 ⟨some 10, none, (.indexAddr 64 (.tmp 5) (.tmp 9))⟩,
 ⟨some 11, none, (.load 3 (.tmp 10))⟩,
 ⟨some 4, none, (.assign (.tmp 11))⟩])
 .ret))
theorem w68 {args : Array Value} {H : AH} {Φ : Value → AH → Prop} (h : rW Try.prog k68 [] (fin Try.prog [(.tmp 4)] Φ) (tm0 args) H) : CallsA Try.prog 68 args H Φ :=
  CallsA.w k68 [(.tmp 4)] (fun _ => []) Try.func68 rfl rfl (by kernel_rfl) (by kernel_rfl) h

/-- spec.l1DrawNum -/
def k104 : KC :=
 (.seq
 (.ops [⟨some 2, none, (.assign (.const (.int .i64 0)))⟩])
 (.seq
 (.seq
 (.ops [⟨some 3, none, (.move (.tmp 0))⟩,
 ⟨some 4, none, (.call ⟨(.value (.func 34)), #[(.tmp 3), (.const (.int .i64 12))], #[48, 3]⟩)⟩])
 (.cond (.tmp 4)
 (.seq
 (.ops [⟨some 5, none, (.move (.tmp 0))⟩,
 ⟨some 6, none, (.buildSlice 64 7 #[(0, (.const (.int .i64 1000000000000))), (1, (.const (.int .i64 (-1000000000000)))), (2, (.const (.int .i64 999999999999))), (3, (.const (.int .i64 1000000))), (4, (.const (.int .i64 (-1000000)))), (5, (.const (.int .i64 1000001))), (6, (.const (.int .i64 999999999999)))])⟩,
 ⟨some 7, none, (.call ⟨(.value (.func 68)), #[(.tmp 5), (.tmp 6)], #[48, 64]⟩)⟩,
 ⟨some 2, none, (.assign (.tmp 7))⟩])
 .ret)
 .skip))
 (.seq
 (.ops [⟨some 8, none, (.move (.tmp 0))⟩,
 ⟨some 9, none, (.call ⟨(.value (.func 35)), #[(.tmp 8), (.const (.int .i64 20))], #[48, 3]⟩)⟩,
 ⟨some 10, none, (.binOp .sub 3 (.tmp 9) (.const (.int .i64 6)) 3)⟩,
 ⟨some 2, none, (.assign (.tmp 10))⟩])
 .ret)))
theorem w104 {args : Array Value} {H : AH} {Φ : Value → AH → Prop} (h : rW Try.prog k104 [] (fin Try.prog [(.tmp 2)] Φ) (tm0 args) H) : CallsA Try.prog 104 args H Φ :=
  CallsA.w k104 [(.tmp 2)] (fun _ => []) Try.func104 rfl rfl (by kernel_rfl) (by kernel_rfl) h

/-- spec.l8Digits -/
def k105 : KC :=
 (.seq
 (.ops [⟨some 2, none, (.assign (.const (.string ⟨#[]⟩)))⟩])
 (.seq
 (.seq
 (.ops [⟨some 4, none, (.move (.tmp 0))⟩,
 ⟨some 5, none, (.binOp .lss 3 (.tmp 4) (.const (.int .i64 0)) 3)⟩])
 (.cond (.tmp 5)
 (.seq
 (.ops [⟨some 6, none, (.move (.tmp 0))⟩,
 ⟨some 7, none, (.binOp .sub 3 (.const (.int .i64 0)) (.tmp 6) 3)⟩,
 ⟨some 8, none, (.call ⟨(.value (.func 105)), #[(.tmp 7)], #[3]⟩)⟩,
 ⟨some 9, none, (.binOp .add 9 (.const (.string ⟨#[95]⟩)) (.tmp 8) 9)⟩,
 ⟨some 2, none, (.assign (.tmp 9))⟩])
 .ret)
 .skip))
 (.seq
 (.seq
 (.ops [⟨some 10, none, (.move (.tmp 0))⟩,
 ⟨some 11, none, (.binOp .eql 3 (.tmp 10) (.const (.int .i64 0)) 3)⟩])
 (.cond (.tmp 11)
 (.seq
 (.ops [⟨some 2, none, (.assign (.const (.string ⟨#[48]⟩)))⟩])
 .ret)
 .skip))
 (.seq
 (.ops [⟨some 3, none, (.assign (.const (.string ⟨#[]⟩)))⟩])
 (.seq
 (.block 0
 (.loop
 (.seq
 (.seq
 (.ops [⟨some 12, none, (.move (.tmp 0))⟩,
 ⟨some 13, none, (.binOp .gtr 3 (.tmp 12) (.const (.int .i64 0)) 3)⟩])
 (.cond (.tmp 13)
 .skip
 (.exit 0)))
 (.block 1
 (.seq
 (.ops [⟨some 14, none, (.move (.tmp 0))⟩,
 ⟨some 15, none, (.binOp .rem 3 (.tmp 14) (.const (.int .i64 10)) 3)⟩,
 ⟨some 16, none, (.binOp .add 3 (.const (.int .i64 48)) (.tmp 15) 3)⟩,
 ⟨some 17, none, (.convert 3 5 (.tmp 16))⟩,
 ⟨some 18, none, (.buildSlice 22 1 #[(0, (.tmp 17))])⟩,
 ⟨some 19, none, (.convert 22 9 (.tmp 18))⟩,
 ⟨some 20, none, (.move (.tmp 3))⟩,
 ⟨some 21, none, (.binOp .add 9 (.tmp 19) (.tmp 20) 9)⟩,
 ⟨some 3, none, (.assign (.tmp 21))⟩])
 (.ops [⟨some 22, none, (.move (.tmp 0))⟩,
 ⟨some 23, none, (.binOp .quo 3 (.tmp 22) (.const (.int .i64 10)) 3)⟩,
 ⟨some 0, none, (.assign (.tmp 23))⟩]))))))
 (.seq
 (.ops [⟨some 24, none, (.move (.tmp 3))⟩,
 ⟨some 2, none, (.assign (.tmp 24))⟩])
 .ret))))))
theorem w105 {args : Array Value} {H : AH} {Φ : Value → AH → Prop} (h : rW Try.prog k105 [] (fin Try.prog [(.tmp 2)] Φ) (tm0 args) H) : CallsA Try.prog 105 args H Φ :=
  CallsA.w k105 [(.tmp 2)] (fun _ => []) Try.func105 rfl rfl (by kernel_rfl) (by kernel_rfl) h

/-- spec.l8DrawOperand -/
def k93 : KC :=
 (.seq
 (.ops [⟨some 4, none, (.assign (.const (.string ⟨#[]⟩)))⟩])
 (.seq
 (.seq
 (.ops [⟨some 7, none, (.move (.tmp 1))⟩,
 ⟨some 8, none, (.binOp .gtr 3 (.tmp 7) (.const (.int .i64 0)) 3)⟩,
 ⟨some 9, none, (.move (.tmp 8))⟩,
 ⟨some 10, (some (9, true)), (.move (.tmp 0))⟩,
 ⟨some 11, (some (9, true)), (.call ⟨(.value (.func 34)), #[(.tmp 10), (.const (.int .i64 4))], #[48, 3]⟩)⟩,
 ⟨some 12, none, (.pick (.tmp 9) (.tmp 11) (.const (.bool false)))⟩])
 (.cond (.tmp 12)
 (.seq
 (.ops [⟨some 13, none, (.move (.tmp 0))⟩,
 ⟨some 14, none, (.move (.tmp 1))⟩,
 ⟨some 15, none, (.binOp .sub 3 (.tmp 14) (.const (.int .i64 1)) 3)⟩,
 ⟨some 16, none, (.call ⟨(.value (.func 69)), #[(.tmp 13), (.tmp 15)], #[48, 3]⟩)⟩,
 ⟨some 17, none, (.binOp .add 9 (.const (.string ⟨#[40, 32]⟩)) (.tmp 16) 9)⟩,
 ⟨some 18, none, (.binOp .add 9 (.tmp 17) (.const (.string ⟨#[32, 41]⟩)) 9)⟩,
 ⟨some 4, none, (.assign (.tmp 18))⟩])
 .ret)
 .skip))
 (.seq
 (.seq
 (.ops [⟨some 19, none, (.move (.tmp 0))⟩,
 ⟨some 20, none, (.call ⟨(.value (.func 34)), #[(.tmp 19), (.const (.int .i64 3))], #[48, 3]⟩)⟩])
 (.cond (.tmp 20)
 (.seq
 (.ops [⟨some 21, none, (.move (.tmp 0))⟩,
 ⟨some 22, none, (.buildSlice 98 3 #[(0, (.const (.string ⟨#[65]⟩))), (1, (.const (.string ⟨#[66]⟩))), (2, (.const (.string ⟨#[67]⟩)))])⟩,
 ⟨some 23, none, (.call ⟨(.value (.func 94)), #[(.tmp 21), (.tmp 22)], #[48, 98]⟩)⟩,
 ⟨some 4, none, (.assign (.tmp 23))⟩])
 .ret)
 .skip))
 (.seq
 (.ops [⟨some 24, none, (.move (.tmp 0))⟩,
 ⟨some 25, none, (.call ⟨(.value (.func 104)), #[(.tmp 24)], #[48]⟩)⟩,
 ⟨some 26, none, (.call ⟨(.value (.func 105)), #[(.tmp 25)], #[3]⟩)⟩,
 ⟨some 5, none, (.assign (.tmp 26))⟩])
 (.seq
 (.seq
 (.ops [⟨some 6, none, (.assign (.const (.int .i64 0)))⟩])
 (.block 0
 (.loop
 (.seq
 (.seq
 (.ops [⟨some 27, none, (.move (.tmp 6))⟩,
 ⟨some 28, none, (.move (.tmp 0))⟩,
 ⟨some 29, none, (.call ⟨(.value (.func 35)), #[(.tmp 28), (.const (.int .i64 4))], #[48, 3]⟩)⟩,
 ⟨some 30, none, (.binOp .lss 3 (.tmp 27) (.tmp 29) 3)⟩])
 (.cond (.tmp 30)
 .skip
 (.exit 0)))
 (.seq
 (.block 1
 (.ops [⟨some 33, none, (.move (.tmp 5))⟩,
 ⟨some 34, none, (.binOp .add 9 (.tmp 33) (.const (.string ⟨#[32]⟩)) 9)⟩,
 ⟨some 35, none, (.move (.tmp 0))⟩,
 ⟨some 36, none, (.call ⟨(.value (.func 35)), #[(.tmp 35), (.const (.int .i64 9))], #[48, 3]⟩)⟩,
 ⟨some 37, none, (.binOp .sub 3 (.tmp 36) (.const (.int .i64 2)) 3)⟩,
 ⟨some 38, none, (.call ⟨(.value (.func 105)), #[(.tmp 37)], #[3]⟩)⟩,
 ⟨some 39, none, (.binOp .add 9 (.tmp 34) (.tmp 38) 9)⟩,
 ⟨some 5, none, (.assign (.tmp 39))⟩]))
 (.ops [⟨some 31, none, (.move (.tmp 6))⟩,
 ⟨some 32, none, (.binOp .add 3 (.tmp 31) (.const (.int .i64 1)) 3)⟩,
 ⟨some 6, none, (.assign (.tmp 32))⟩]))))))
 (.seq
 (.seq
 (.ops [⟨some 40, none, (.move (.tmp 0))⟩,
 ⟨some 41, none, (.call ⟨(.value (.func 34)), #[(.tmp 40), (.const (.int .i64 4))], #[48, 3]⟩)⟩])
 (.cond (.tmp 41)
 (.seq
 (.ops [⟨some 42, none, (.move (.tmp 0))⟩,
 ⟨some 43, none, (.buildSlice 98 6 #[(0, (.const (.string ⟨#[50]⟩))), (1, (.const (.string ⟨#[51]⟩))), (2, (.const (.string ⟨#[49]⟩))), (3, (.const (.string ⟨#[48]⟩))), (4, (.const (.string ⟨#[50, 32, 50]⟩))), (5, (.const (.string ⟨#[50, 32, 51]⟩)))])⟩,
 ⟨some 44, none, (.call ⟨(.value (.func 94)), #[(.tmp 42), (.tmp 43)], #[48, 98]⟩)⟩,
 ⟨some 4, none, (.assign (.tmp 44))⟩])
 .ret)
 .skip))
 (.seq
 (.ops [⟨some 45, none, (.move (.tmp 5))⟩,
 ⟨some 4, none, (.assign (.tmp 45))⟩])
 .ret)))))))
theorem w93 {args : Array Value} {H : AH} {Φ : Value → AH → Prop} (h : rW Try.prog k93 [] (fin Try.prog [(.tmp 4)] Φ) (tm0 args) H) : CallsA Try.prog 93 args H Φ :=
  CallsA.w k93 [(.tmp 4)] (fun _ => []) Try.func93 rfl rfl (by kernel_rfl) (by kernel_rfl) h

/-- spec.l8DrawFun -/
def k95 : KC :=
 (.seq
 (.ops [⟨some 4, none, (.assign (.const (.string ⟨#[]⟩)))⟩])
 (.seq
 (.ops [⟨some 6, none, (.move (.tmp 0))⟩,
 ⟨some 7, none, (.buildSlice 98 10 #[(0, (.const (.string ⟨#[43]⟩))), (1, (.const (.string ⟨#[45]⟩))), (2, (.const (.string ⟨#[42]⟩))), (3, (.const (.string ⟨#[37]⟩))), (4, (.const (.string ⟨#[124]⟩))), (5, (.const (.string ⟨#[38]⟩))), (6, (.const (.string ⟨#[94]⟩))), (7, (.const (.string ⟨#[61]⟩))), (8, (.const (.string ⟨#[60]⟩))), (9, (.const (.string ⟨#[62]⟩)))])⟩,
 ⟨some 8, none, (.call ⟨(.value (.func 94)), #[(.tmp 6), (.tmp 7)], #[48, 98]⟩)⟩,
 ⟨some 5, none, (.assign (.tmp 8))⟩])
 (.seq
 (.block 0
 (.seq
 (.ops [⟨some 10, none, (.move (.tmp 1))⟩,
 ⟨some 11, none, (.move (.tmp 10))⟩,
 ⟨some 12, (some (11, true)), (.move (.tmp 0))⟩,
 ⟨some 13, (some (11, true)), (.call ⟨(.value (.func 34)), #[(.tmp 12), (.const (.int .i64 6))], #[48, 3]⟩)⟩,
 ⟨some 14, none, (.pick (.tmp 11) (.tmp 13) (.const (.bool false)))⟩,
 ⟨some 9, none, (.assign (.tmp 14))⟩])
 (.cond (.tmp 9)
 (.seq
 (.ops [⟨some 15, none, (.move (.tmp 5))⟩,
 ⟨some 16, none, (.binOp .add 9 (.const (.string ⟨#[111, 32]⟩)) (.tmp 15) 9)⟩,
 ⟨some 4, none, (.assign (.tmp 16))⟩])
 .ret)
 (.seq
 (.ops [⟨some 18, none, (.move (.tmp 1))⟩,
 ⟨some 19, none, (.move (.tmp 18))⟩,
 ⟨some 20, (some (19, true)), (.move (.tmp 0))⟩,
 ⟨some 21, (some (19, true)), (.call ⟨(.value (.func 34)), #[(.tmp 20), (.const (.int .i64 7))], #[48, 3]⟩)⟩,
 ⟨some 22, none, (.pick (.tmp 19) (.tmp 21) (.const (.bool false)))⟩,
 ⟨some 17, none, (.assign (.tmp 22))⟩])
 (.cond (.tmp 17)
 (.seq
 (.ops [⟨some 23, none, (.move (.tmp 5))⟩,
 ⟨some 24, none, (.binOp .add 9 (.tmp 23) (.const (.string ⟨#[32, 46, 32]⟩)) 9)⟩,
 ⟨some 25, none, (.move (.tmp 0))⟩,
 ⟨some 26, none, (.buildSlice 98 6 #[(0, (.const (.string ⟨#[43]⟩))), (1, (.const (.string ⟨#[45]⟩))), (2, (.const (.string ⟨#[42]⟩))), (3, (.const (.string ⟨#[38]⟩))), (4, (.const (.string ⟨#[94]⟩))), (5, (.const (.string ⟨#[61]⟩)))])⟩,
 ⟨some 27, none, (.call ⟨(.value (.func 94)), #[(.tmp 25), (.tmp 26)], #[48, 98]⟩)⟩,
 ⟨some 28, none, (.binOp .add 9 (.tmp 24) (.tmp 27) 9)⟩,
 ⟨some 4, none, (.assign (.tmp 28))⟩])
 .ret)
 (.seq
 (.ops [⟨some 30, none, (.move (.tmp 1))⟩,
 ⟨some 31, none, (.move (.tmp 30))⟩,
 ⟨some 32, (some (31, true)), (.move (.tmp 0))⟩,
 ⟨some 33, (some (31, true)), (.call ⟨(.value (.func 34)), #[(.tmp 32), (.const (.int .i64 2))], #[48, 3]⟩)⟩,
 ⟨some 34, none, (.pick (.tmp 31) (.tmp 33) (.const (.bool false)))⟩,
 ⟨some 29, none, (.assign (.tmp 34))⟩])
 (.cond (.tmp 29)
 (.seq
 (.ops [⟨some 35, none, (.move (.tmp 5))⟩,
 ⟨some 4, none, (.assign (.tmp 35))⟩])
 .ret)
 (.seq
 (.ops [⟨some 37, none, (.move (.tmp 1))⟩,
 ⟨some 36, none, (.assign (.tmp 37))⟩])
 (.cond (.tmp 36)
 (.seq
 (.ops [⟨some 38, none, (.move (.tmp 0))⟩,
 ⟨some 39, none, (.buildSlice 98 9 #[(0, (.const (.string ⟨#[35]⟩))), (1, (.const (.string ⟨#[44]⟩))), (2, (.const (.string ⟨#[116]⟩))), (3, (.const (.string ⟨#[100]⟩))), (4, (.const (.string ⟨#[114]⟩))), (5, (.const (.string ⟨#[64]⟩))), (6, (.const (.string ⟨#[63]⟩))), (7, (.const (.string ⟨#[36]⟩))), (8, (.const (.string ⟨#[101]⟩)))])⟩,
 ⟨some 40, none, (.call ⟨(.value (.func 94)), #[(.tmp 38), (.tmp 39)], #[48, 98]⟩)⟩,
 ⟨some 4, none, (.assign (.tmp 40))⟩])
 .ret)
 (.seq
 (.ops [⟨some 42, none, (.move (.tmp 0))⟩,
 ⟨some 43, none, (.call ⟨(.value (.func 34)), #[(.tmp 42), (.const (.int .i64 4))], #[48, 3]⟩)⟩,
 ⟨some 41, none, (.assign (.tmp 43))⟩])
 (.cond (.tmp 41)
 (.seq
 (.ops [⟨some 44, none, (.move (.tmp 5))⟩,
 ⟨some 45, none, (.binOp .add 9 (.tmp 44) (.const (.string ⟨#[32]⟩)) 9)⟩,
 ⟨some 46, none, (.move (.tmp 0))⟩,
 ⟨some 47, none, (.buildSlice 98 2 #[(0, (.const (.string ⟨#[47]⟩))), (1, (.const (.string ⟨#[92]⟩)))])⟩,
 ⟨some 48, none, (.call ⟨(.value (.func 94)), #[(.tmp 46), (.tmp 47)], #[48, 98]⟩)⟩,
 ⟨some 49, none, (.binOp .add 9 (.tmp 45) (.tmp 48) 9)⟩,
 ⟨some 4, none, (.assign (.tmp 49))⟩])
 .ret)
 .skip)))))))))))
 (.seq
 (.ops [⟨some 50, none, (.move (.tmp 0))⟩,
 ⟨some 51, none, (.buildSlice 98 11 #[(0, (.const (.string ⟨#[105]⟩))), (1, (.const (.string ⟨#[35]⟩))), (2, (.const (.string ⟨#[44]⟩))), (3, (.const (.string ⟨#[114]⟩))), (4, (.const (.string ⟨#[122]⟩))), (5, (.const (.string ⟨#[103]⟩))), (6, (.const (.string ⟨#[43]⟩))), (7, (.const (.string ⟨#[45]⟩))), (8, (.const (.string ⟨#[42]⟩))), (9, (.const (.string ⟨#[124]⟩))), (10, (.const (.string ⟨#[126]⟩)))])⟩,
 ⟨some 52, none, (.call ⟨(.value (.func 94)), #[(.tmp 50), (.tmp 51)], #[48, 98]⟩)⟩,
 ⟨some 4, none, (.assign (.tmp 52))⟩])
 .ret))))
theorem w95 {args : Array Value} {H : AH} {Φ : Value → AH → Prop} (h : rW Try.prog k95 [] (fin Try.prog [(.tmp 4)] Φ) (tm0 args) H) : CallsA Try.prog 95 args H Φ :=
  CallsA.w k95 [(.tmp 4)] (fun _ => []) Try.func95 rfl rfl (by kernel_rfl) (by kernel_rfl) h

/-- spec.l8DrawLine -/
def k69 : KC :=
 (.seq
 (.ops [⟨some 4, none, (.assign (.const (.string ⟨#[]⟩)))⟩])
 (.seq
 (.seq
 (.ops [⟨some 5, none, (.move (.tmp 1))⟩,
 ⟨some 6, none, (.binOp .leq 3 (.tmp 5) (.const (.int .i64 0)) 3)⟩])
 (.cond (.tmp 6)
 (.seq
 (.ops [⟨some 7, none, (.move (.tmp 0))⟩,
 ⟨some 8, none, (.call ⟨(.value (.func 93)), #[(.tmp 7), (.const (.int .i64 0))], #[48, 3]⟩)⟩,
 ⟨some 4, none, (.assign (.tmp 8))⟩])
 .ret)
 .skip))
 (.seq
 (.seq
 (.ops [⟨some 9, none, (.move (.tmp 0))⟩,
 ⟨some 10, none, (.call ⟨(.value (.func 35)), #[(.tmp 9), (.const (.int .i64 8))], #[48, 3]⟩)⟩])
 (.block 0
 (.seq
 (.ops [⟨some 12, none, (.binOp .eql 3 (.tmp 10) (.const (.int .i64 0)) 3)⟩,
 ⟨some 11, none, (.assign (.tmp 12))⟩])
 (.cond (.tmp 11)
 (.seq
 (.ops [⟨some 13, none, (.move (.tmp 0))⟩,
 ⟨some 14, none, (.buildSlice 98 3 #[(0, (.const (.string ⟨#[65]⟩))), (1, (.const (.string ⟨#[66]⟩))), (2, (.const (.string ⟨#[67]⟩)))])⟩,
 ⟨some 15, none, (.call ⟨(.value (.func 94)), #[(.tmp 13), (.tmp 14)], #[48, 98]⟩)⟩,
 ⟨some 16, none, (.binOp .add 9 (.tmp 15) (.const (.string ⟨#[32, 58, 32]⟩)) 9)⟩,
 ⟨some 17, none, (.move (.tmp 0))⟩,
 ⟨some 18, none, (.move (.tmp 1))⟩,
 ⟨some 19, none, (.binOp .sub 3 (.tmp 18) (.const (.int .i64 1)) 3)⟩,
 ⟨some 20, none, (.call ⟨(.value (.func 69)), #[(.tmp 17), (.tmp 19)], #[48, 3]⟩)⟩,
 ⟨some 21, none, (.binOp .add 9 (.tmp 16) (.tmp 20) 9)⟩,
 ⟨some 4, none, (.assign (.tmp 21))⟩])
 .ret)
 (.seq
 (.seq
 (.ops [⟨some 23, none, (.binOp .eql 3 (.tmp 10) (.const (.int .i64 1)) 3)⟩,
 ⟨some 22, none, (.assign (.tmp 23))⟩])
 (.cond (.tmp 22)
 .skip
 (.ops [⟨some 24, none, (.binOp .eql 3 (.tmp 10) (.const (.int .i64 2)) 3)⟩,
 ⟨some 22, none, (.assign (.tmp 24))⟩])))
 (.cond (.tmp 22)
 (.seq
 (.ops [⟨some 25, none, (.move (.tmp 0))⟩,
 ⟨some 26, none, (.call ⟨(.value (.func 95)), #[(.tmp 25), (.const (.bool false))], #[48, 4]⟩)⟩,
 ⟨some 27, none, (.binOp .add 9 (.tmp 26) (.const (.string ⟨#[32]⟩)) 9)⟩,
 ⟨some 28, none, (.move (.tmp 0))⟩,
 ⟨some 29, none, (.move (.tmp 1))⟩,
 ⟨some 30, none, (.binOp .sub 3 (.tmp 29) (.const (.int .i64 1)) 3)⟩,
 ⟨some 31, none, (.call ⟨(.value (.func 69)), #[(.tmp 28), (.tmp 30)], #[48, 3]⟩)⟩,
 ⟨some 32, none, (.binOp .add 9 (.tmp 27) (.tmp 31) 9)⟩,
 ⟨some 4, none, (.assign (.tmp 32))⟩])
 .ret)
 (.seq
 (.seq
 (.ops [⟨some 34, none, (.binOp .eql 3 (.tmp 10) (.const (.int .i64 3)) 3)⟩,
 ⟨some 33, none, (.assign (.tmp 34))⟩])
 (.cond (.tmp 33)
 .skip
 (.seq
 (.ops [⟨some 35, none, (.binOp .eql 3 (.tmp 10) (.const (.int .i64 4)) 3)⟩,
 ⟨some 33, none, (.assign (.tmp 35))⟩])
 (.cond (.tmp 33)
 .skip
 (.ops [⟨some 36, none, (.binOp .eql 3 (.tmp 10) (.const (.int .i64 5)) 3)⟩,
 ⟨some 33, none, (.assign (.tmp 36))⟩])))))
 (.cond (.tmp 33)
 (.seq
 (.ops [⟨some 37, none, (.move (.tmp 0))⟩,
 ⟨some 38, none, (.move (.tmp 1))⟩,
 ⟨some 39, none, (.binOp .sub 3 (.tmp 38) (.const (.int .i64 1)) 3)⟩,
 ⟨some 40, none, (.call ⟨(.value (.func 93)), #[(.tmp 37), (.tmp 39)], #[48, 3]⟩)⟩,
 ⟨some 41, none, (.binOp .add 9 (.tmp 40) (.const (.string ⟨#[32]⟩)) 9)⟩,
 ⟨some 42, none, (.move (.tmp 0))⟩,
 ⟨some 43, none, (.call ⟨(.value (.func 95)), #[(.tmp 42), (.const (.bool true))], #[48, 4]⟩)⟩,
 ⟨some 44, none, (.binOp .add 9 (.tmp 41) (.tmp 43) 9)⟩,
 ⟨some 45, none, (.binOp .add 9 (.tmp 44) (.const (.string ⟨#[32]⟩)) 9)⟩,
 ⟨some 46, none, (.move (.tmp 0))⟩,
 ⟨some 47, none, (.move (.tmp 1))⟩,
 ⟨some 48, none, (.binOp .sub 3 (.tmp 47) (.const (.int .i64 1)) 3)⟩,
 ⟨some 49, none, (.call ⟨(.value (.func 69)), #[(.tmp 46), (.tmp 48)], #[48, 3]⟩)⟩,
 ⟨some 50, none, (.binOp .add 9 (.tmp 45) (.tmp 49) 9)⟩,
 ⟨some 4, none, (.assign (.tmp 50))⟩])
 .ret)
 (.seq
 (.ops [⟨some 52, none, (.binOp .eql 3 (.tmp 10) (.const (.int .i64 6)) 3)⟩,
 ⟨some 51, none, (.assign (.tmp 52))⟩])
 (.cond (.tmp 51)
 (.seq
 (.ops [⟨some 53, none, (.move (.tmp 0))⟩,
 ⟨some 54, none, (.buildSlice 98 12 #[(0, (.const (.string ⟨#[43, 32, 47, 32, 105, 32, 53]⟩))), (1, (.const (.string ⟨#[50, 32, 51, 32, 35, 32, 105, 32, 54]⟩))), (2, (.const (.string ⟨#[65, 32, 58, 32, 105, 32, 52]⟩))), (3, (.const (.string ⟨#[65, 32, 43, 32, 65, 32, 58, 32, 105, 32, 51]⟩))), (4, (.const (.string ⟨#[40, 32, 105, 32, 51, 32, 41, 32, 111, 32, 42, 32, 105, 32, 52]⟩))), (5, (.const (.string ⟨#[65, 32, 43, 32, 46, 32, 42, 32, 66]⟩))), (6, (.const (.string ⟨#[66, 32, 58, 32, 50, 32, 50, 32, 35, 32, 105, 32, 52]⟩))), (7, (.const (.string ⟨#[103, 32, 51, 32, 49, 32, 50]⟩))), (8, (.const (.string ⟨#[43, 32, 92, 32, 105, 32, 54]⟩))), (9, (.const (.string ⟨#[49, 32, 43, 32, 65, 32, 42, 32, 50, 32, 45, 32, 65]⟩))), (10, (.const (.string ⟨#[126, 32, 65, 32, 61, 32, 66]⟩))), (11, (.const (.string ⟨#[65, 32, 64, 32, 66]⟩)))])⟩,
 ⟨some 55, none, (.call ⟨(.value (.func 94)), #[(.tmp 53), (.tmp 54)], #[48, 98]⟩)⟩,
 ⟨some 4, none, (.assign (.tmp 55))⟩])
 .ret)
 .skip))))))))))
 (.seq
 (.ops [⟨some 56, none, (.move (.tmp 0))⟩,
 ⟨some 57, none, (.move (.tmp 1))⟩,
 ⟨some 58, none, (.binOp .sub 3 (.tmp 57) (.const (.int .i64 1)) 3)⟩,
 ⟨some 59, none, (.call ⟨(.value (.func 93)), #[(.tmp 56), (.tmp 58)], #[48, 3]⟩)⟩,
 ⟨some 4, none, (.assign (.tmp 59))⟩])
 .ret))))
theorem w69 {args : Array Value} {H : AH} {Φ : Value → AH → Prop} (h : rW Try.prog k69 [] (fin Try.prog [(.tmp 4)] Φ) (tm0 args) H) : CallsA Try.prog 69 args H Φ :=
  CallsA.w k69 [(.tmp 4)] (fun _ => []) Try.func69 rfl rfl (by kernel_rfl) (by kernel_rfl) h

/-- spec.TokenOk -/
def k109 : KC :=
 (.seq
 (.ops [⟨some 1, none, (.box 54 (.tmp 0))⟩,
 ⟨some 2, none, (.assign (.const (.bool false)))⟩])
 (.seq
 (.seq
 (.ops [⟨some 3, none, (.fieldAddr 54 (.tmp 1) 0)⟩,
 ⟨some 4, none, (.load 3 (.tmp 3))⟩])
 (.block 0
 (.seq
 (.ops [⟨some 6, none, (.binOp .eql 3 (.tmp 4) (.const (.int .i64 1)) 3)⟩,
 ⟨some 5, none, (.assign (.tmp 6))⟩])
 (.cond (.tmp 5)
 (.seq
 (.ops [⟨some 7, none, (.fieldAddr 54 (.tmp 1) 1)⟩,
 ⟨some 8, none, (.load 3 (.tmp 7))⟩,
 ⟨some 9, none, (.call ⟨(.value (.func 76)), #[(.tmp 8)], #[3]⟩)⟩,
 ⟨some 2, none, (.assign (.tmp 9))⟩])
 .ret)
 (.seq
 (.ops [⟨some 11, none, (.binOp .eql 3 (.tmp 4) (.const (.int .i64 2)) 3)⟩,
 ⟨some 10, none, (.assign (.tmp 11))⟩])
 (.cond (.tmp 10)
 (.seq
 (.ops [⟨some 12, none, (.fieldAddr 54 (.tmp 1) 1)⟩,
 ⟨some 13, none, (.load 3 (.tmp 12))⟩,
 ⟨some 14, none, (.call ⟨(.value (.func 39)), #[(.tmp 13), (.const (.int .i64 0)), (.const (.int .i64 25))], #[3, 3, 3]⟩)⟩,
 ⟨some 2, none, (.assign (.tmp 14))⟩])
 .ret)
 (.seq
 (.ops [⟨some 16, none, (.binOp .eql 3 (.tmp 4) (.const (.int .i64 3)) 3)⟩,
 ⟨some 15, none, (.assign (.tmp 16))⟩])
 (.cond (.tmp 15)
 (.seq
 (.ops [⟨some 17, none, (.fieldAddr 54 (.tmp 1) 1)⟩,
 ⟨some 18, none, (.load 3 (.tmp 17))⟩,
 ⟨some 19, none, (.call ⟨(.value (.func 40)), #[(.tmp 18)], #[3]⟩)⟩,
 ⟨some 2, none, (.assign (.tmp 19))⟩])
 .ret)
 (.seq
 (.seq
 (.ops [⟨some 21, none, (.binOp .eql 3 (.tmp 4) (.const (.int .i64 4)) 3)⟩,
 ⟨some 20, none, (.assign (.tmp 21))⟩])
 (.cond (.tmp 20)
 .skip
 (.seq
 (.ops [⟨some 22, none, (.binOp .eql 3 (.tmp 4) (.const (.int .i64 5)) 3)⟩,
 ⟨some 20, none, (.assign (.tmp 22))⟩])
 (.cond (.tmp 20)
 .skip
 (.ops [⟨some 23, none, (.binOp .eql 3 (.tmp 4) (.const (.int .i64 6)) 3)⟩,
 ⟨some 20, none, (.assign (.tmp 23))⟩])))))
 (.cond (.tmp 20)
 (.seq
 (.ops [⟨some 24, none, (.fieldAddr 54 (.tmp 1) 1)⟩,
 ⟨some 25, none, (.load 3 (.tmp 24))⟩,
 ⟨some 26, none, (.binOp .eql 3 (.tmp 25) (.const (.int .i64 0)) 3)⟩,
 ⟨some 2, none, (.assign (.tmp 26))⟩])
 .ret)
 .skip))))))))))
 (.seq
 (.ops [⟨some 2, none, (.assign (.const (.bool false)))⟩])
 .ret)))
theorem w109 {args : Array Value} {H : AH} {Φ : Value → AH → Prop} (h : rW Try.prog k109 [] (fin Try.prog [(.tmp 2)] Φ) (tm0 args) H) : CallsA Try.prog 109 args H Φ :=
  CallsA.w k109 [(.tmp 2)] (fun _ => []) Try.func109 rfl rfl (by kernel_rfl) (by kernel_rfl) h

/-- spec.l8Tokens -/
def k106 : KC :=
 (.seq
 (.ops [⟨some 2, none, (.assign (.const (.bool false)))⟩])
 (.seq
 (.seq
 (.ops [⟨some 3, none, (.assign (.const (.int .i64 0)))⟩])
 (.block 0
 (.loop
 (.seq
 (.seq
 (.ops [⟨some 4, none, (.move (.tmp 3))⟩,
 ⟨some 5, none, (.move (.tmp 0))⟩,
 ⟨some 6, none, (.call ⟨(.builtin .len), #[(.tmp 5)], #[25]⟩)⟩,
 ⟨some 7, none, (.binOp .lss 3 (.tmp 4) (.tmp 6) 3)⟩])
 (.cond (.tmp 7)
 .skip
 (.exit 0)))
 (.seq
 (.block 1
 (.seq
 (.ops [⟨some 10, none, (.move (.tmp 0))⟩,
 ⟨some 11, none, (.move (.tmp 3))⟩,
 ⟨some 12, none, (.indexAddr 25 (.tmp 10) (.tmp 11))⟩,
 ⟨some 13, none, (.load 54 (.tmp 12))⟩,
 ⟨some 14, none, (.call ⟨(.value (.func 109)), #[(.tmp 13)], #[54]⟩)⟩,
 ⟨some 15, none, (.unOp .not 4 (.tmp 14))⟩])
 (.cond (.tmp 15)
 (.seq
 (.ops [⟨some 2, none, (.assign (.const (.bool false)))⟩])
 .ret)
 .skip)))
 (.ops [⟨some 8, none, (.move (.tmp 3))⟩,
 ⟨some 9, none, (.binOp .add 3 (.tmp 8) (.const (.int .i64 1)) 3)⟩,
 ⟨some 3, none, (.assign (.tmp 9))⟩]))))))
 (.seq
 (.ops [⟨some 16, none, (.move (.tmp 0))⟩,
 ⟨some 17, none, (.call ⟨(.builtin .len), #[(.tmp 16)], #[25]⟩)⟩,
 ⟨some 18, none, (.binOp .leq 3 (.tmp 17) (.const (.int .i64 300)) 3)⟩,
 ⟨some 2, none, (.assign (.tmp 18))⟩])
 .ret)))
theorem w106 {args : Array Value} {H : AH} {Φ : Value → AH → Prop} (h : rW Try.prog k106 [] (fin Try.prog [(.tmp 2)] Φ) (tm0 args) H) : CallsA Try.prog 106 args H Φ :=
  CallsA.w k106 [(.tmp 2)] (fun _ => []) Try.func106 rfl rfl (by kernel_rfl) (by kernel_rfl) h

/-- spec.l9Kind -/
def k110 : KC :=
 (.seq
 (.ops [⟨some 4, none, (.assign (.const (.int .i64 0)))⟩])
 (.seq
 (.seq
 (.ops [⟨some 5, none, (.move (.tmp 0))⟩,
 ⟨some 6, none, (.nilCheck (.tmp 5))⟩,
 ⟨some 7, none, (.fieldAddr 120 (.tmp 6) 1)⟩,
 ⟨some 8, none, (.load 3 (.tmp 7))⟩,
 ⟨some 9, none, (.move (.tmp 1))⟩,
 ⟨some 10, none, (.binOp .add 3 (.tmp 8) (.tmp 9) 3)⟩,
 ⟨some 11, none, (.move (.tmp 0))⟩,
 ⟨some 12, none, (.nilCheck (.tmp 11))⟩,
 ⟨some 13, none, (.fieldAddr 120 (.tmp 12) 0)⟩,
 ⟨some 14, none, (.load 25 (.tmp 13))⟩,
 ⟨some 15, none, (.call ⟨(.builtin .len), #[(.tmp 14)], #[25]⟩)⟩,
 ⟨some 16, none, (.binOp .geq 3 (.tmp 10) (.tmp 15) 3)⟩])
 (.cond (.tmp 16)
 (.seq
 (.ops [⟨some 4, none, (.assign (.const (.int .i64 0)))⟩])
 .ret)
 .skip))
 (.seq
 (.ops [⟨some 17, none, (.move (.tmp 0))⟩,
 ⟨some 18, none, (.nilCheck (.tmp 17))⟩,
 ⟨some 19, none, (.fieldAddr 120 (.tmp 18) 0)⟩,
 ⟨some 20, none, (.load 25 (.tmp 19))⟩,
 ⟨some 21, none, (.move (.tmp 0))⟩,
 ⟨some 22, none, (.nilCheck (.tmp 21))⟩,
 ⟨some 23, none, (.fieldAddr 120 (.tmp 22) 1)⟩,
 ⟨some 24, none, (.load 3 (.tmp 23))⟩,
 ⟨some 25, none, (.move (.tmp 1))⟩,
 ⟨some 26, none, (.binOp .add 3 (.tmp 24) (.tmp 25) 3)⟩,
 ⟨some 27, none, (.indexAddr 25 (.tmp 20) (.tmp 26))⟩,
 ⟨some 28, none, (.fieldAddr 54 (.tmp 27) 0)⟩,
 ⟨some 29, none, (.load 3 (.tmp 28))⟩,
 ⟨some 4, none, (.assign (.tmp 29))⟩])
 .ret)))
theorem w110 {args : Array Value} {H : AH} {Φ : Value → AH → Prop} (h : rW Try.prog k110 [] (fin Try.prog [(.tmp 4)] Φ) (tm0 args) H) : CallsA Try.prog 110 args H Φ :=
  CallsA.w k110 [(.tmp 4)] (fun i => if i = 1 then [(3, 0), (9, 0)] else if i = 3 then [(3, 0), (7, 0), (12, 0)] else []) Try.func110 rfl rfl (by kernel_rfl) (by kernel_rfl) h

/-- spec.l9Sign -/
def k114 : KC :=
 (.seq
 (.ops [⟨some 4, none, (.assign (.const (.int .i64 0)))⟩])
 (.seq
 (.seq
 (.ops [⟨some 5, none, (.move (.tmp 0))⟩,
 ⟨some 6, none, (.move (.tmp 1))⟩,
 ⟨some 7, none, (.call ⟨(.value (.func 110)), #[(.tmp 5), (.tmp 6)], #[118, 3]⟩)⟩,
 ⟨some 8, none, (.binOp .neq 3 (.tmp 7) (.const (.int .i64 3)) 3)⟩])
 (.cond (.tmp 8)
 (.seq
 (.ops [⟨some 4, none, (.assign (.const (.int .i64 0)))⟩])
 .ret)
 .skip))
 (.seq
 (.ops [⟨some 9, none, (.move (.tmp 0))⟩,
 ⟨some 10, none, (.nilCheck (.tmp 9))⟩,
 ⟨some 11, none, (.fieldAddr 120 (.tmp 10) 0)⟩,
 ⟨some 12, none, (.load 25 (.tmp 11))⟩,
 ⟨some 13, none, (.move (.tmp 0))⟩,
 ⟨some 14, none, (.nilCheck (.tmp 13))⟩,
 ⟨some 15, none, (.fieldAddr 120 (.tmp 14) 1)⟩,
 ⟨some 16, none, (.load 3 (.tmp 15))⟩,
 ⟨some 17, none, (.move (.tmp 1))⟩,
 ⟨some 18, none, (.binOp .add 3 (.tmp 16) (.tmp 17) 3)⟩,
 ⟨some 19, none, (.indexAddr 25 (.tmp 12) (.tmp 18))⟩,
 ⟨some 20, none, (.fieldAddr 54 (.tmp 19) 1)⟩,
 ⟨some 21, none, (.load 3 (.tmp 20))⟩,
 ⟨some 4, none, (.assign (.tmp 21))⟩])
 .ret)))
theorem w114 {args : Array Value} {H : AH} {Φ : Value → AH → Prop} (h : rW Try.prog k114 [] (fin Try.prog [(.tmp 4)] Φ) (tm0 args) H) : CallsA Try.prog 114 args H Φ :=
  CallsA.w k114 [(.tmp 4)] (fun i => if i = 3 then [(3, 0), (7, 0), (12, 0)] else []) Try.func114 rfl rfl (by kernel_rfl) (by kernel_rfl) h

/-- spec.l9Fun -/
def k111 : KC :=
 (.seq
 (.ops [⟨some 2, none, (.alloc 63)⟩,
 ⟨some 3, none, (.assign (.const (.bool false)))⟩])
 (.seq
 (.ops [⟨some 7, none, (.move (.tmp 0))⟩,
 ⟨some 8, none, (.call ⟨(.value (.func 114)), #[(.tmp 7), (.const (.int .i64 0))], #[118, 3]⟩)⟩,
 ⟨some 9, none, (.move (.tmp 0))⟩,
 ⟨some 10, none, (.call ⟨(.value (.func 114)), #[(.tmp 9), (.const (.int .i64 1))], #[118, 3]⟩)⟩,
 ⟨some 11, none, (.move (.tmp 0))⟩,
 ⟨some 12, none, (.call ⟨(.value (.func 114)), #[(.tmp 11), (.const (.int .i64 2))], #[118, 3]⟩)⟩,
 ⟨some 4, none, (.assign (.tmp 8))⟩,
 ⟨some 5, none, (.assign (.tmp 10))⟩,
 ⟨some 6, none, (.assign (.tmp 12))⟩])
 (.seq
 (.block 0
 (.seq
 (.ops [⟨some 14, none, (.move (.tmp 4))⟩,
 ⟨some 15, none, (.binOp .eql 3 (.tmp 14) (.const (.int .i64 0)) 3)⟩,
 ⟨some 13, none, (.assign (.tmp 15))⟩])
 (.cond (.tmp 13)
 (.seq
 (.ops [⟨some 16, none, (.build 63 #[])⟩,
 ⟨none, none, (.store 63 (.tmp 2) (.tmp 16))⟩,
 ⟨some 3, none, (.assign (.const (.bool false)))⟩])
 .ret)
 (.seq
 (.ops [⟨some 18, none, (.move (.tmp 4))⟩,
 ⟨some 19, none, (.binOp .eql 3 (.tmp 18) (.const (.int .i64 111)) 3)⟩,
 ⟨some 20, none, (.move (.tmp 19))⟩,
 ⟨some 21, (some (20, true)), (.move (.tmp 5))⟩,
 ⟨some 22, (some (20, true)), (.binOp .neq 3 (.tmp 21) (.const (.int .i64 0)) 3)⟩,
 ⟨some 23, none, (.pick (.tmp 20) (.tmp 22) (.const (.bool false)))⟩,
 ⟨some 17, none, (.assign (.tmp 23))⟩])
 (.cond (.tmp 17)
 (.seq
 (.ops [⟨some 24, none, (.move (.tmp 0))⟩,
 ⟨some 25, none, (.move (.tmp 0))⟩,
 ⟨some 26, none, (.nilCheck (.tmp 25))⟩,
 ⟨some 27, none, (.fieldAddr 120 (.tmp 26) 1)⟩,
 ⟨some 28, none, (.load 3 (.tmp 27))⟩,
 ⟨some 29, none, (.binOp .add 3 (.tmp 28) (.const (.int .i64 2)) 3)⟩,
 ⟨some 30, none, (.nilCheck (.tmp 24))⟩,
 ⟨some 31, none, (.fieldAddr 120 (.tmp 30) 1)⟩,
 ⟨none, none, (.store 3 (.tmp 31) (.tmp 29))⟩])
 (.seq
 (.ops [⟨some 32, none, (.move (.tmp 5))⟩,
 ⟨some 33, none, (.build 63 #[(0, (.tmp 32)), (1, (.const (.int .i64 111)))])⟩,
 ⟨none, none, (.store 63 (.tmp 2) (.tmp 33))⟩,
 ⟨some 3, none, (.assign (.const (.bool true)))⟩])
 .ret))
 (.seq
 (.ops [⟨some 35, none, (.move (.tmp 5))⟩,
 ⟨some 36, none, (.binOp .eql 3 (.tmp 35) (.const (.int .i64 47)) 3)⟩,
 ⟨some 37, none, (.move (.tmp 36))⟩,
 ⟨some 38, (some (37, false)), (.move (.tmp 5))⟩,
 ⟨some 39, (some (37, false)), (.binOp .eql 3 (.tmp 38) (.const (.int .i64 92)) 3)⟩,
 ⟨some 40, none, (.pick (.tmp 37) (.const (.bool true)) (.tmp 39))⟩,
 ⟨some 34, none, (.assign (.tmp 40))⟩])
 (.cond (.tmp 34)
 (.seq
 (.ops [⟨some 41, none, (.move (.tmp 0))⟩,
 ⟨some 42, none, (.move (.tmp 0))⟩,
 ⟨some 43, none, (.nilCheck (.tmp 42))⟩,
 ⟨some 44, none, (.fieldAddr 120 (.tmp 43) 1)⟩,
 ⟨some 45, none, (.load 3 (.tmp 44))⟩,
 ⟨some 46, none, (.binOp .add 3 (.tmp 45) (.const (.int .i64 2)) 3)⟩,
 ⟨some 47, none, (.nilCheck (.tmp 41))⟩,
 ⟨some 48, none, (.fieldAddr 120 (.tmp 47) 1)⟩,
 ⟨none, none, (.store 3 (.tmp 48) (.tmp 46))⟩])
 (.seq
 (.ops [⟨some 49, none, (.move (.tmp 4))⟩,
 ⟨some 50, none, (.move (.tmp 5))⟩,
 ⟨some 51, none, (.build 63 #[(0, (.tmp 49)), (1, (.tmp 50))])⟩,
 ⟨none, none, (.store 63 (.tmp 2) (.tmp 51))⟩,
 ⟨some 3, none, (.assign (.const (.bool true)))⟩])
 .ret))
 (.seq
 (.ops [⟨some 53, none, (.move (.tmp 5))⟩,
 ⟨some 54, none, (.binOp .eql 3 (.tmp 53) (.const (.int .i64 46)) 3)⟩,
 ⟨some 55, none, (.move (.tmp 54))⟩,
 ⟨some 56, (some (55, true)), (.move (.tmp 6))⟩,
 ⟨some 57, (some (55, true)), (.binOp .neq 3 (.tmp 56) (.const (.int .i64 0)) 3)⟩,
 ⟨some 58, none, (.pick (.tmp 55) (.tmp 57) (.const (.bool false)))⟩,
 ⟨some 52, none, (.assign (.tmp 58))⟩])
 (.cond (.tmp 52)
 (.seq
 (.ops [⟨some 59, none, (.move (.tmp 0))⟩,
 ⟨some 60, none, (.move (.tmp 0))⟩,
 ⟨some 61, none, (.nilCheck (.tmp 60))⟩,
 ⟨some 62, none, (.fieldAddr 120 (.tmp 61) 1)⟩,
 ⟨some 63, none, (.load 3 (.tmp 62))⟩,
 ⟨some 64, none, (.binOp .add 3 (.tmp 63) (.const (.int .i64 3)) 3)⟩,
 ⟨some 65, none, (.nilCheck (.tmp 59))⟩,
 ⟨some 66, none, (.fieldAddr 120 (.tmp 65) 1)⟩,
 ⟨none, none, (.store 3 (.tmp 66) (.tmp 64))⟩])
 (.seq
 (.ops [⟨some 67, none, (.move (.tmp 4))⟩,
 ⟨some 68, none, (.move (.tmp 6))⟩,
 ⟨some 69, none, (.build 63 #[(0, (.tmp 67)), (1, (.const (.int .i64 46))), (2, (.tmp 68))])⟩,
 ⟨none, none, (.store 63 (.tmp 2) (.tmp 69))⟩,
 ⟨some 3, none, (.assign (.const (.bool true)))⟩])
 .ret))
 .skip)))))))))
 (.seq
 (.ops [⟨some 70, none, (.move (.tmp 0))⟩,
 ⟨some 71, none, (.move (.tmp 0))⟩,
 ⟨some 72, none, (.nilCheck (.tmp 71))⟩,
 ⟨some 73, none, (.fieldAddr 120 (.tmp 72) 1)⟩,
 ⟨some 74, none, (.load 3 (.tmp 73))⟩,
 ⟨some 75, none, (.binOp .add 3 (.tmp 74) (.const (.int .i64 1)) 3)⟩,
 ⟨some 76, none, (.nilCheck (.tmp 70))⟩,
 ⟨some 77, none, (.fieldAddr 120 (.tmp 76) 1)⟩,
 ⟨none, none, (.store 3 (.tmp 77) (.tmp 75))⟩])
 (.seq
 (.ops [⟨some 78, none, (.move (.tmp 4))⟩,
 ⟨some 79, none, (.build 63 #[(0, (.tmp 78))])⟩,
 ⟨none, none, (.store 63 (.tmp 2) (.tmp 79))⟩,
 ⟨some 3, none, (.assign (.const (.bool true)))⟩])
 .ret)))))
theorem w111 {args : Array Value} {H : AH} {Φ : Value → AH → Prop} (h : rW Try.prog k111 [] (fin Try.prog [(.cell 2 63), (.tmp 3)] Φ) (tm0 args) H) : CallsA Try.prog 111 args H Φ :=
  CallsA.w k111 [(.cell 2 63), (.tmp 3)] (fun _ => []) Try.func111 rfl rfl (by kernel_rfl) (by kernel_rfl) h

/-- spec.l9Operand -/
def k112 : KC :=
 (.seq
 (.ops [⟨some 2, none, (.assign (.const (.bool false)))⟩])
 (.seq
 (.seq
 (.ops [⟨some 4, none, (.move (.tmp 0))⟩,
 ⟨some 5, none, (.call ⟨(.value (.func 110)), #[(.tmp 4), (.const (.int .i64 0))], #[118, 3]⟩)⟩])
 (.block 0
 (.seq
 (.ops [⟨some 7, none, (.binOp .eql 3 (.tmp 5) (.const (.int .i64 1)) 3)⟩,
 ⟨some 6, none, (.assign (.tmp 7))⟩])
 (.cond (.tmp 6)
 (.seq
 (.ops [⟨some 8, none, (.build 77 #[(0, (.const (.int .i64 1)))])⟩,
 ⟨some 3, none, (.alloc 77)⟩,
 ⟨none, none, (.store 77 (.tmp 3) (.tmp 8))⟩])
 (.seq
 (.block 1
 (.loop
 (.seq
 (.seq
 (.ops [⟨some 9, none, (.move (.tmp 0))⟩,
 ⟨some 10, none, (.call ⟨(.value (.func 110)), #[(.tmp 9), (.const (.int .i64 0))], #[118, 3]⟩)⟩,
 ⟨some 11, none, (.binOp .eql 3 (.tmp 10) (.const (.int .i64 1)) 3)⟩])
 (.cond (.tmp 11)
 .skip
 (.exit 1)))
 (.block 2
 (.seq
 (.draw #[] [(1, 0), (5, 0), (9, 0), (12, 0)]
 [⟨some 12, none, (.fieldAddr 77 (.tmp 3) 4)⟩,
 ⟨some 13, none, (.load 64 (.tmp 12))⟩,
 ⟨some 14, none, (.move (.tmp 0))⟩,
 ⟨some 15, none, (.nilCheck (.tmp 14))⟩,
 ⟨some 16, none, (.fieldAddr 120 (.tmp 15) 0)⟩,
 ⟨some 17, none, (.load 25 (.tmp 16))⟩,
 ⟨some 18, none, (.move (.tmp 0))⟩,
 ⟨some 19, none, (.nilCheck (.tmp 18))⟩,
 ⟨some 20, none, (.fieldAddr 120 (.tmp 19) 1)⟩,
 ⟨some 21, none, (.load 3 (.tmp 20))⟩,
 ⟨some 22, none, (.indexAddr 25 (.tmp 17) (.tmp 21))⟩,
 ⟨some 23, none, (.fieldAddr 54 (.tmp 22) 1)⟩,
 ⟨some 24, none, (.load 3 (.tmp 23))⟩,
 ⟨some 25, none, (.buildSlice 64 1 #[(0, (.tmp 24))])⟩,
 ⟨some 26, none, (.call ⟨(.builtin .append), #[(.tmp 13), (.tmp 25)], #[64, 64]⟩)⟩,
 ⟨some 27, none, (.fieldAddr 77 (.tmp 3) 4)⟩,
 ⟨none, none, (.store 64 (.tmp 27) (.tmp 26))⟩])
 (.ops [⟨some 28, none, (.move (.tmp 0))⟩,
 ⟨some 29, none, (.move (.tmp 0))⟩,
 ⟨some 30, none, (.nilCheck (.tmp 29))⟩,
 ⟨some 31, none, (.fieldAddr 120 (.tmp 30) 1)⟩,
 ⟨some 32, none, (.load 3 (.tmp 31))⟩,
 ⟨some 33, none, (.binOp .add 3 (.tmp 32) (.const (.int .i64 1)) 3)⟩,
 ⟨some 34, none, (.nilCheck (.tmp 28))⟩,
 ⟨some 35, none, (.fieldAddr 120 (.tmp 34) 1)⟩,
 ⟨none, none, (.store 3 (.tmp 35) (.tmp 33))⟩]))))))
 (.seq
 (.draw #[] [(4, 0), (5, 0)]
 [⟨some 36, none, (.move (.tmp 0))⟩,
 ⟨some 37, none, (.move (.tmp 0))⟩,
 ⟨some 38, none, (.nilCheck (.tmp 37))⟩,
 ⟨some 39, none, (.fieldAddr 120 (.tmp 38) 2)⟩,
 ⟨some 40, none, (.load 37 (.tmp 39))⟩,
 ⟨some 41, none, (.load 77 (.tmp 3))⟩,
 ⟨some 42, none, (.buildSlice 37 1 #[(0, (.tmp 41))])⟩,
 ⟨some 43, none, (.call ⟨(.builtin .append), #[(.tmp 40), (.tmp 42)], #[37, 37]⟩)⟩,
 ⟨some 44, none, (.nilCheck (.tmp 36))⟩,
 ⟨some 45, none, (.fieldAddr 120 (.tmp 44) 2)⟩,
 ⟨none, none, (.store 37 (.tmp 45) (.tmp 43))⟩])
 (.seq
 (.ops [⟨some 2, none, (.assign (.const (.bool true)))⟩])
 .ret))))
 (.seq
 (.ops [⟨some 47, none, (.binOp .eql 3 (.tmp 5) (.const (.int .i64 2)) 3)⟩,
 ⟨some 46, none, (.assign (.tmp 47))⟩])
 (.cond (.tmp 46)
 (.seq
 (.draw #[] [(4, 0), (8, 0), (12, 0), (15, 0)]
 [⟨some 48, none, (.move (.tmp 0))⟩,
 ⟨some 49, none, (.move (.tmp 0))⟩,
 ⟨some 50, none, (.nilCheck (.tmp 49))⟩,
 ⟨some 51, none, (.fieldAddr 120 (.tmp 50) 2)⟩,
 ⟨some 52, none, (.load 37 (.tmp 51))⟩,
 ⟨some 53, none, (.move (.tmp 0))⟩,
 ⟨some 54, none, (.nilCheck (.tmp 53))⟩,
 ⟨some 55, none, (.fieldAddr 120 (.tmp 54) 0)⟩,
 ⟨some 56, none, (.load 25 (.tmp 55))⟩,
 ⟨some 57, none, (.move (.tmp 0))⟩,
 ⟨some 58, none, (.nilCheck (.tmp 57))⟩,
 ⟨some 59, none, (.fieldAddr 120 (.tmp 58) 1)⟩,
 ⟨some 60, none, (.load 3 (.tmp 59))⟩,
 ⟨some 61, none, (.indexAddr 25 (.tmp 56) (.tmp 60))⟩,
 ⟨some 62, none, (.fieldAddr 54 (.tmp 61) 1)⟩,
 ⟨some 63, none, (.load 3 (.tmp 62))⟩,
 ⟨some 64, none, (.build 77 #[(0, (.const (.int .i64 2))), (1, (.tmp 63))])⟩,
 ⟨some 65, none, (.buildSlice 37 1 #[(0, (.tmp 64))])⟩,
 ⟨some 66, none, (.call ⟨(.builtin .append), #[(.tmp 52), (.tmp 65)], #[37, 37]⟩)⟩,
 ⟨some 67, none, (.nilCheck (.tmp 48))⟩,
 ⟨some 68, none, (.fieldAddr 120 (.tmp 67) 2)⟩,
 ⟨none, none, (.store 37 (.tmp 68) (.tmp 66))⟩])
 (.seq
 (.ops [⟨some 69, none, (.move (.tmp 0))⟩,
 ⟨some 70, none, (.move (.tmp 0))⟩,
 ⟨some 71, none, (.nilCheck (.tmp 70))⟩,
 ⟨some 72, none, (.fieldAddr 120 (.tmp 71) 1)⟩,
 ⟨some 73, none, (.load 3 (.tmp 72))⟩,
 ⟨some 74, none, (.binOp .add 3 (.tmp 73) (.const (.int .i64 1)) 3)⟩,
 ⟨some 75, none, (.nilCheck (.tmp 69))⟩,
 ⟨some 76, none, (.fieldAddr 120 (.tmp 75) 1)⟩,
 ⟨none, none, (.store 3 (.tmp 76) (.tmp 74))⟩])
 (.seq
 (.ops [⟨some 2, none, (.assign (.const (.bool true)))⟩])
 .ret)))
 (.seq
 (.ops [⟨some 78, none, (.binOp .eql 3 (.tmp 5) (.const (.int .i64 4)) 3)⟩,
 ⟨some 77, none, (.assign (.tmp 78))⟩])
 (.cond (.tmp 77)
 (.seq
 (.ops [⟨some 79, none, (.move (.tmp 0))⟩,
 ⟨some 80, none, (.move (.tmp 0))⟩,
 ⟨some 81, none, (.nilCheck (.tmp 80))⟩,
 ⟨some 82, none, (.fieldAddr 120 (.tmp 81) 1)⟩,
 ⟨some 83, none, (.load 3 (.tmp 82))⟩,
 ⟨some 84, none, (.binOp .add 3 (.tmp 83) (.const (.int .i64 1)) 3)⟩,
 ⟨some 85, none, (.nilCheck (.tmp 79))⟩,
 ⟨some 86, none, (.fieldAddr 120 (.tmp 85) 1)⟩,
 ⟨none, none, (.store 3 (.tmp 86) (.tmp 84))⟩])
 (.seq
 (.seq
 (.ops [⟨some 87, none, (.move (.tmp 0))⟩,
 ⟨some 88, none, (.call ⟨(.value (.func 107)), #[(.tmp 87)], #[118]⟩)⟩,
 ⟨some 89, none, (.unOp .not 4 (.tmp 88))⟩,
 ⟨some 90, none, (.move (.tmp 89))⟩,
 ⟨some 91, (some (90, false)), (.move (.tmp 0))⟩,
 ⟨some 92, (some (90, false)), (.call ⟨(.value (.func 110)), #[(.tmp 91), (.const (.int .i64 0))], #[118, 3]⟩)⟩,
 ⟨some 93, (some (90, false)), (.binOp .neq 3 (.tmp 92) (.const (.int .i64 5)) 3)⟩,
 ⟨some 94, none, (.pick (.tmp 90) (.const (.bool true)) (.tmp 93))⟩])
 (.cond (.tmp 94)
 (.seq
 (.ops [⟨some 2, none, (.assign (.const (.bool false)))⟩])
 .ret)
 .skip))
 (.seq
 (.ops [⟨some 95, none, (.move (.tmp 0))⟩,
 ⟨some 96, none, (.move (.tmp 0))⟩,
 ⟨some 97, none, (.nilCheck (.tmp 96))⟩,
 ⟨some 98, none, (.fieldAddr 120 (.tmp 97) 1)⟩,
 ⟨some 99, none, (.load 3 (.tmp 98))⟩,
 ⟨some 100, none, (.binOp .add 3 (.tmp 99) (.const (.int .i64 1)) 3)⟩,
 ⟨some 101, none, (.nilCheck (.tmp 95))⟩,
 ⟨some 102, none, (.fieldAddr 120 (.tmp 101) 1)⟩,
 ⟨none, none, (.store 3 (.tmp 102) (.tmp 100))⟩])
 (.seq
 (.ops [⟨some 2, none, (.assign (.const (.bool true)))⟩])
 .ret))))
 .skip))))))))
 (.seq
 (.ops [⟨some 2, none, (.assign (.const (.bool false)))⟩])
 .ret)))
theorem w112 {args : Array Value} {H : AH} {Φ : Value → AH → Prop} (h : rW Try.prog k112 [] (fin Try.prog [(.tmp 2)] Φ) (tm0 args) H) : CallsA Try.prog 112 args H Φ :=
  CallsA.w k112 [(.tmp 2)] (fun i => if i = 5 then [(1, 0), (5, 0), (9, 0), (12, 0)] else if i = 7 then [(4, 0), (5, 0)] else if i = 10 then [(4, 0), (8, 0), (12, 0), (15, 0)] else []) Try.func112 rfl rfl (by kernel_rfl) (by kernel_rfl) h

/-- spec.l9Behind -/
def k113 : KC :=
 (.seq
 (.ops [⟨some 7, none, (.move (.tmp 0))⟩,
 ⟨some 8, none, (.nilCheck (.tmp 7))⟩,
 ⟨some 9, none, (.fieldAddr 120 (.tmp 8) 2)⟩,
 ⟨some 10, none, (.load 37 (.tmp 9))⟩,
 ⟨some 11, none, (.call ⟨(.builtin .len), #[(.tmp 10)], #[37]⟩)⟩,
 ⟨some 4, none, (.assign (.tmp 11))⟩])
 (.seq
 (.ops [⟨some 5, none, (.assign (.const (.int .i64 0)))⟩])
 (.block 0
 (.loop
 (.seq
 (.seq
 (.ops [⟨some 12, none, (.move (.tmp 5))⟩,
 ⟨some 13, none, (.move (.tmp 1))⟩,
 ⟨some 14, none, (.call ⟨(.builtin .len), #[(.tmp 13)], #[37]⟩)⟩,
 ⟨some 15, none, (.binOp .lss 3 (.tmp 12) (.tmp 14) 3)⟩])
 (.cond (.tmp 15)
 .skip
 (.exit 0)))
 (.seq
 (.block 1
 (.seq
 (.ops [⟨some 18, none, (.move (.tmp 1))⟩,
 ⟨some 19, none, (.move (.tmp 5))⟩,
 ⟨some 20, none, (.indexAddr 37 (.tmp 18) (.tmp 19))⟩,
 ⟨some 21, none, (.load 77 (.tmp 20))⟩,
 ⟨some 6, none, (.alloc 77)⟩,
 ⟨none, none, (.store 77 (.tmp 6) (.tmp 21))⟩])
 (.seq
 (.seq
 (.ops [⟨some 22, none, (.fieldAddr 77 (.tmp 6) 0)⟩,
 ⟨some 23, none, (.load 3 (.tmp 22))⟩])
 (.block 2
 (.seq
 (.ops [⟨some 25, none, (.binOp .eql 3 (.tmp 23) (.const (.int .i64 5)) 3)⟩,
 ⟨some 24, none, (.assign (.tmp 25))⟩])
 (.cond (.tmp 24)
 (.seq
 (.ops [⟨some 26, none, (.fieldAddr 77 (.tmp 6) 1)⟩,
 ⟨some 27, none, (.load 3 (.tmp 26))⟩,
 ⟨some 28, none, (.move (.tmp 4))⟩,
 ⟨some 29, none, (.binOp .add 3 (.tmp 27) (.tmp 28) 3)⟩,
 ⟨some 30, none, (.fieldAddr 77 (.tmp 6) 1)⟩,
 ⟨none, none, (.store 3 (.tmp 30) (.tmp 29))⟩])
 (.ops [⟨some 31, none, (.fieldAddr 77 (.tmp 6) 2)⟩,
 ⟨some 32, none, (.load 3 (.tmp 31))⟩,
 ⟨some 33, none, (.move (.tmp 4))⟩,
 ⟨some 34, none, (.binOp .add 3 (.tmp 32) (.tmp 33) 3)⟩,
 ⟨some 35, none, (.fieldAddr 77 (.tmp 6) 2)⟩,
 ⟨none, none, (.store 3 (.tmp 35) (.tmp 34))⟩]))
 (.seq
 (.seq
 (.ops [⟨some 37, none, (.binOp .eql 3 (.tmp 23) (.const (.int .i64 4)) 3)⟩,
 ⟨some 36, none, (.assign (.tmp 37))⟩])
 (.cond (.tmp 36)
 .skip
 (.ops [⟨some 38, none, (.binOp .eql 3 (.tmp 23) (.const (.int .i64 3)) 3)⟩,
 ⟨some 36, none, (.assign (.tmp 38))⟩])))
 (.cond (.tmp 36)
 (.ops [⟨some 39, none, (.fieldAddr 77 (.tmp 6) 2)⟩,
 ⟨some 40, none, (.load 3 (.tmp 39))⟩,
 ⟨some 41, none, (.move (.tmp 4))⟩,
 ⟨some 42, none, (.binOp .add 3 (.tmp 40) (.tmp 41) 3)⟩,
 ⟨some 43, none, (.fieldAddr 77 (.tmp 6) 2)⟩,
 ⟨none, none, (.store 3 (.tmp 43) (.tmp 42))⟩])
 .skip))))))
 (.draw #[] [(4, 0), (5, 0)]
 [⟨some 44, none, (.move (.tmp 0))⟩,
 ⟨some 45, none, (.move (.tmp 0))⟩,
 ⟨some 46, none, (.nilCheck (.tmp 45))⟩,
 ⟨some 47, none, (.fieldAddr 120 (.tmp 46) 2)⟩,
 ⟨some 48, none, (.load 37 (.tmp 47))⟩,
 ⟨some 49, none, (.load 77 (.tmp 6))⟩,
 ⟨some 50, none, (.buildSlice 37 1 #[(0, (.tmp 49))])⟩,
 ⟨some 51, none, (.call ⟨(.builtin .append), #[(.tmp 48), (.tmp 50)], #[37, 37]⟩)⟩,
 ⟨some 52, none, (.nilCheck (.tmp 44))⟩,
 ⟨some 53, none, (.fieldAddr 120 (.tmp 52) 2)⟩,
 ⟨none, none, (.store 37 (.tmp 53) (.tmp 51))⟩]))))
 (.ops [⟨some 16, none, (.move (.tmp 5))⟩,
 ⟨some 17, none, (.binOp .add 3 (.tmp 16) (.const (.int .i64 1)) 3)⟩,
 ⟨some 5, none, (.assign (.tmp 17))⟩])))))))
theorem w113 {args : Array Value} {H : AH} {Φ : Value → AH → Prop} (h : rW Try.prog k113 [] (fin Try.prog [] Φ) (tm0 args) H) : CallsA Try.prog 113 args H Φ :=
  CallsA.w k113 [] (fun i => if i = 12 then [(4, 0), (5, 0)] else []) Try.func113 rfl rfl (by kernel_rfl) (by kernel_rfl) h

/-- spec.l9Line -/
def k107 : KC :=
 (.seq
 (.ops [⟨some 2, none, (.assign (.const (.bool false)))⟩])
 (.seq
 (.ops [⟨some 11, none, (.move (.tmp 0))⟩,
 ⟨some 12, none, (.call ⟨(.value (.func 110)), #[(.tmp 11), (.const (.int .i64 0))], #[118, 3]⟩)⟩,
 ⟨some 3, none, (.assign (.tmp 12))⟩])
 (.seq
 (.seq
 (.ops [⟨some 13, none, (.move (.tmp 3))⟩,
 ⟨some 14, none, (.binOp .eql 3 (.tmp 13) (.const (.int .i64 2)) 3)⟩,
 ⟨some 15, none, (.move (.tmp 14))⟩,
 ⟨some 16, (some (15, true)), (.move (.tmp 0))⟩,
 ⟨some 17, (some (15, true)), (.call ⟨(.value (.func 110)), #[(.tmp 16), (.const (.int .i64 1))], #[118, 3]⟩)⟩,
 ⟨some 18, (some (15, true)), (.binOp .eql 3 (.tmp 17) (.const (.int .i64 6)) 3)⟩,
 ⟨some 19, none, (.pick (.tmp 15) (.tmp 18) (.const (.bool false)))⟩])
 (.cond (.tmp 19)
 (.seq
 (.ops [⟨some 20, none, (.move (.tmp 0))⟩,
 ⟨some 21, none, (.nilCheck (.tmp 20))⟩,
 ⟨some 22, none, (.fieldAddr 120 (.tmp 21) 0)⟩,
 ⟨some 23, none, (.load 25 (.tmp 22))⟩,
 ⟨some 24, none, (.move (.tmp 0))⟩,
 ⟨some 25, none, (.nilCheck (.tmp 24))⟩,
 ⟨some 26, none, (.fieldAddr 120 (.tmp 25) 1)⟩,
 ⟨some 27, none, (.load 3 (.tmp 26))⟩,
 ⟨some 28, none, (.indexAddr 25 (.tmp 23) (.tmp 27))⟩,
 ⟨some 29, none, (.fieldAddr 54 (.tmp 28) 1)⟩,
 ⟨some 30, none, (.load 3 (.tmp 29))⟩,
 ⟨some 4, none, (.assign (.tmp 30))⟩])
 (.seq
 (.ops [⟨some 31, none, (.move (.tmp 0))⟩,
 ⟨some 32, none, (.move (.tmp 0))⟩,
 ⟨some 33, none, (.nilCheck (.tmp 32))⟩,
 ⟨some 34, none, (.fieldAddr 120 (.tmp 33) 1)⟩,
 ⟨some 35, none, (.load 3 (.tmp 34))⟩,
 ⟨some 36, none, (.binOp .add 3 (.tmp 35) (.const (.int .i64 2)) 3)⟩,
 ⟨some 37, none, (.nilCheck (.tmp 31))⟩,
 ⟨some 38, none, (.fieldAddr 120 (.tmp 37) 1)⟩,
 ⟨none, none, (.store 3 (.tmp 38) (.tmp 36))⟩])
 (.seq
 (.seq
 (.ops [⟨some 39, none, (.move (.tmp 0))⟩,
 ⟨some 40, none, (.call ⟨(.value (.func 107)), #[(.tmp 39)], #[118]⟩)⟩,
 ⟨some 41, none, (.unOp .not 4 (.tmp 40))⟩])
 (.cond (.tmp 41)
 (.seq
 (.ops [⟨some 2, none, (.assign (.const (.bool false)))⟩])
 .ret)
 .skip))
 (.seq
 (.draw #[] [(4, 0), (9, 0)]
 [⟨some 42, none, (.move (.tmp 0))⟩,
 ⟨some 43, none, (.move (.tmp 0))⟩,
 ⟨some 44, none, (.nilCheck (.tmp 43))⟩,
 ⟨some 45, none, (.fieldAddr 120 (.tmp 44) 2)⟩,
 ⟨some 46, none, (.load 37 (.tmp 45))⟩,
 ⟨some 47, none, (.move (.tmp 4))⟩,
 ⟨some 48, none, (.move (.tmp 0))⟩,
 ⟨some 49, none, (.nilCheck (.tmp 48))⟩,
 ⟨some 50, none, (.fieldAddr 120 (.tmp 49) 2)⟩,
 ⟨some 51, none, (.load 37 (.tmp 50))⟩,
 ⟨some 52, none, (.call ⟨(.builtin .len), #[(.tmp 51)], #[37]⟩)⟩,
 ⟨some 53, none, (.binOp .sub 3 (.tmp 52) (.const (.int .i64 1)) 3)⟩,
 ⟨some 54, none, (.build 77 #[(0, (.const (.int .i64 3))), (1, (.tmp 47)), (2, (.tmp 53))])⟩,
 ⟨some 55, none, (.buildSlice 37 1 #[(0, (.tmp 54))])⟩,
 ⟨some 56, none, (.call ⟨(.builtin .append), #[(.tmp 46), (.tmp 55)], #[37, 37]⟩)⟩,
 ⟨some 57, none, (.nilCheck (.tmp 42))⟩,
 ⟨some 58, none, (.fieldAddr 120 (.tmp 57) 2)⟩,
 ⟨none, none, (.store 37 (.tmp 58) (.tmp 56))⟩])
 (.seq
 (.ops [⟨some 2, none, (.assign (.const (.bool true)))⟩])
 .ret)))))
 .skip))
 (.seq
 (.seq
 (.ops [⟨some 59, none, (.move (.tmp 3))⟩,
 ⟨some 60, none, (.binOp .eql 3 (.tmp 59) (.const (.int .i64 3)) 3)⟩])
 (.cond (.tmp 60)
 (.seq
 (.ops [⟨some 62, none, (.move (.tmp 0))⟩,
 ⟨some 63, none, (.call ⟨(.value (.func 111)), #[(.tmp 62)], #[118]⟩)⟩,
 ⟨some 61, none, (.move (.tmp 63))⟩,
 ⟨some 64, none, (.extract (.tmp 61) 0)⟩,
 ⟨some 65, none, (.extract (.tmp 61) 1)⟩,
 ⟨some 5, none, (.alloc 63)⟩,
 ⟨none, none, (.store 63 (.tmp 5) (.tmp 64))⟩,
 ⟨some 6, none, (.assign (.tmp 65))⟩])
 (.seq
 (.seq
 (.ops [⟨some 66, none, (.load 63 (.tmp 5))⟩,
 ⟨some 67, none, (.call ⟨(.value (.func 82)), #[(.tmp 66)], #[63]⟩)⟩,
 ⟨some 68, none, (.unOp .not 4 (.tmp 67))⟩,
 ⟨some 69, none, (.move (.tmp 68))⟩,
 ⟨some 70, (some (69, false)), (.move (.tmp 0))⟩,
 ⟨some 71, (some (69, false)), (.call ⟨(.value (.func 107)), #[(.tmp 70)], #[118]⟩)⟩,
 ⟨some 72, (some (69, false)), (.unOp .not 4 (.tmp 71))⟩,
 ⟨some 73, none, (.pick (.tmp 69) (.const (.bool true)) (.tmp 72))⟩])
 (.cond (.tmp 73)
 (.seq
 (.ops [⟨some 2, none, (.assign (.const (.bool false)))⟩])
 .ret)
 .skip))
 (.seq
 (.draw #[] [(4, 0), (8, 0), (11, 0)]
 [⟨some 74, none, (.move (.tmp 0))⟩,
 ⟨some 75, none, (.move (.tmp 0))⟩,
 ⟨some 76, none, (.nilCheck (.tmp 75))⟩,
 ⟨some 77, none, (.fieldAddr 120 (.tmp 76) 2)⟩,
 ⟨some 78, none, (.load 37 (.tmp 77))⟩,
 ⟨some 79, none, (.move (.tmp 0))⟩,
 ⟨some 80, none, (.nilCheck (.tmp 79))⟩,
 ⟨some 81, none, (.fieldAddr 120 (.tmp 80) 2)⟩,
 ⟨some 82, none, (.load 37 (.tmp 81))⟩,
 ⟨some 83, none, (.call ⟨(.builtin .len), #[(.tmp 82)], #[37]⟩)⟩,
 ⟨some 84, none, (.binOp .sub 3 (.tmp 83) (.const (.int .i64 1)) 3)⟩,
 ⟨some 85, none, (.load 63 (.tmp 5))⟩,
 ⟨some 86, none, (.build 77 #[(0, (.const (.int .i64 4))), (2, (.tmp 84)), (3, (.tmp 85))])⟩,
 ⟨some 87, none, (.buildSlice 37 1 #[(0, (.tmp 86))])⟩,
 ⟨some 88, none, (.call ⟨(.builtin .append), #[(.tmp 78), (.tmp 87)], #[37, 37]⟩)⟩,
 ⟨some 89, none, (.nilCheck (.tmp 74))⟩,
 ⟨some 90, none, (.fieldAddr 120 (.tmp 89) 2)⟩,
 ⟨none, none, (.store 37 (.tmp 90) (.tmp 88))⟩])
 (.seq
 (.ops [⟨some 2, none, (.assign (.const (.bool true)))⟩])
 .ret))))
 .skip))
 (.seq
 (.draw #[] [(3, 0), (7, 0)]
 [⟨some 91, none, (.move (.tmp 0))⟩,
 ⟨some 92, none, (.nilCheck (.tmp 91))⟩,
 ⟨some 93, none, (.fieldAddr 120 (.tmp 92) 0)⟩,
 ⟨some 94, none, (.load 25 (.tmp 93))⟩,
 ⟨some 95, none, (.move (.tmp 0))⟩,
 ⟨some 96, none, (.nilCheck (.tmp 95))⟩,
 ⟨some 97, none, (.fieldAddr 120 (.tmp 96) 1)⟩,
 ⟨some 98, none, (.load 3 (.tmp 97))⟩,
 ⟨some 99, none, (.build 120 #[(0, (.tmp 94)), (1, (.tmp 98))])⟩,
 ⟨some 100, none, (.box 120 (.tmp 99))⟩,
 ⟨some 7, none, (.assign (.tmp 100))⟩])
 (.seq
 (.seq
 (.ops [⟨some 101, none, (.move (.tmp 7))⟩,
 ⟨some 102, none, (.call ⟨(.value (.func 112)), #[(.tmp 101)], #[118]⟩)⟩,
 ⟨some 103, none, (.unOp .not 4 (.tmp 102))⟩])
 (.cond (.tmp 103)
 (.seq
 (.ops [⟨some 2, none, (.assign (.const (.bool false)))⟩])
 .ret)
 .skip))
 (.seq
 (.ops [⟨some 104, none, (.move (.tmp 0))⟩,
 ⟨some 105, none, (.move (.tmp 7))⟩,
 ⟨some 106, none, (.nilCheck (.tmp 105))⟩,
 ⟨some 107, none, (.fieldAddr 120 (.tmp 106) 1)⟩,
 ⟨some 108, none, (.load 3 (.tmp 107))⟩,
 ⟨some 109, none, (.nilCheck (.tmp 104))⟩,
 ⟨some 110, none, (.fieldAddr 120 (.tmp 109) 1)⟩,
 ⟨none, none, (.store 3 (.tmp 110) (.tmp 108))⟩])
 (.seq
 (.ops [⟨some 112, none, (.move (.tmp 0))⟩,
 ⟨some 113, none, (.call ⟨(.value (.func 111)), #[(.tmp 112)], #[118]⟩)⟩,
 ⟨some 111, none, (.move (.tmp 113))⟩,
 ⟨some 114, none, (.extract (.tmp 111) 0)⟩,
 ⟨some 115, none, (.extract (.tmp 111) 1)⟩,
 ⟨some 8, none, (.alloc 63)⟩,
 ⟨none, none, (.store 63 (.tmp 8) (.tmp 114))⟩,
 ⟨some 9, none, (.assign (.tmp 115))⟩])
 (.seq
 (.seq
 (.ops [⟨some 116, none, (.move (.tmp 9))⟩,
 ⟨some 117, none, (.unOp .not 4 (.tmp 116))⟩])
 (.cond (.tmp 117)
 (.seq
 (.ops [⟨some 118, none, (.move (.tmp 0))⟩,
 ⟨some 119, none, (.move (.tmp 7))⟩,
 ⟨some 120, none, (.nilCheck (.tmp 119))⟩,
 ⟨some 121, none, (.fieldAddr 120 (.tmp 120) 2)⟩,
 ⟨some 122, none, (.load 37 (.tmp 121))⟩,
 ⟨some 123, none, (.call ⟨(.value (.func 113)), #[(.tmp 118), (.tmp 122)], #[118, 37]⟩)⟩])
 (.seq
 (.ops [⟨some 2, none, (.assign (.const (.bool true)))⟩])
 .ret))
 .skip))
 (.seq
 (.seq
 (.ops [⟨some 124, none, (.load 63 (.tmp 8))⟩,
 ⟨some 125, none, (.call ⟨(.value (.func 83)), #[(.tmp 124)], #[63]⟩)⟩,
 ⟨some 126, none, (.unOp .not 4 (.tmp 125))⟩,
 ⟨some 127, none, (.move (.tmp 126))⟩,
 ⟨some 128, (some (127, false)), (.move (.tmp 0))⟩,
 ⟨some 129, (some (127, false)), (.call ⟨(.value (.func 107)), #[(.tmp 128)], #[118]⟩)⟩,
 ⟨some 130, (some (127, false)), (.unOp .not 4 (.tmp 129))⟩,
 ⟨some 131, none, (.pick (.tmp 127) (.const (.bool true)) (.tmp 130))⟩])
 (.cond (.tmp 131)
 (.seq
 (.ops [⟨some 2, none, (.assign (.const (.bool false)))⟩])
 .ret)
 .skip))
 (.seq
 (.ops [⟨some 132, none, (.move (.tmp 0))⟩,
 ⟨some 133, none, (.nilCheck (.tmp 132))⟩,
 ⟨some 134, none, (.fieldAddr 120 (.tmp 133) 2)⟩,
 ⟨some 135, none, (.load 37 (.tmp 134))⟩,
 ⟨some 136, none, (.call ⟨(.builtin .len), #[(.tmp 135)], #[37]⟩)⟩,
 ⟨some 137, none, (.binOp .sub 3 (.tmp 136) (.const (.int .i64 1)) 3)⟩,
 ⟨some 10, none, (.assign (.tmp 137))⟩])
 (.seq
 (.ops [⟨some 138, none, (.move (.tmp 0))⟩,
 ⟨some 139, none, (.move (.tmp 7))⟩,
 ⟨some 140, none, (.nilCheck (.tmp 139))⟩,
 ⟨some 141, none, (.fieldAddr 120 (.tmp 140) 2)⟩,
 ⟨some 142, none, (.load 37 (.tmp 141))⟩,
 ⟨some 143, none, (.call ⟨(.value (.func 113)), #[(.tmp 138), (.tmp 142)], #[118, 37]⟩)⟩])
 (.seq
 (.draw #[] [(4, 0), (8, 0), (12, 0)]
 [⟨some 144, none, (.move (.tmp 0))⟩,
 ⟨some 145, none, (.move (.tmp 0))⟩,
 ⟨some 146, none, (.nilCheck (.tmp 145))⟩,
 ⟨some 147, none, (.fieldAddr 120 (.tmp 146) 2)⟩,
 ⟨some 148, none, (.load 37 (.tmp 147))⟩,
 ⟨some 149, none, (.move (.tmp 0))⟩,
 ⟨some 150, none, (.nilCheck (.tmp 149))⟩,
 ⟨some 151, none, (.fieldAddr 120 (.tmp 150) 2)⟩,
 ⟨some 152, none, (.load 37 (.tmp 151))⟩,
 ⟨some 153, none, (.call ⟨(.builtin .len), #[(.tmp 152)], #[37]⟩)⟩,
 ⟨some 154, none, (.binOp .sub 3 (.tmp 153) (.const (.int .i64 1)) 3)⟩,
 ⟨some 155, none, (.move (.tmp 10))⟩,
 ⟨some 156, none, (.load 63 (.tmp 8))⟩,
 ⟨some 157, none, (.build 77 #[(0, (.const (.int .i64 5))), (1, (.tmp 154)), (2, (.tmp 155)), (3, (.tmp 156))])⟩,
 ⟨some 158, none, (.buildSlice 37 1 #[(0, (.tmp 157))])⟩,
 ⟨some 159, none, (.call ⟨(.builtin .append), #[(.tmp 148), (.tmp 158)], #[37, 37]⟩)⟩,
 ⟨some 160, none, (.nilCheck (.tmp 144))⟩,
 ⟨some 161, none, (.fieldAddr 120 (.tmp 160) 2)⟩,
 ⟨none, none, (.store 37 (.tmp 161) (.tmp 159))⟩])
 (.seq
 (.ops [⟨some 2, none, (.assign (.const (.bool true)))⟩])
 .ret))))))))))))))
theorem w107 {args : Array Value} {H : AH} {Φ : Value → AH → Prop} (h : rW Try.prog k107 [] (fin Try.prog [(.tmp 2)] Φ) (tm0 args) H) : CallsA Try.prog 107 args H Φ :=
  CallsA.w k107 [(.tmp 2)] (fun i => if i = 3 then [(3, 0), (7, 0), (10, 0)] else if i = 7 then [(4, 0), (9, 0)] else if i = 13 then [(4, 0), (8, 0), (11, 0)] else if i = 15 then [(3, 0), (7, 0)] else if i = 27 then [(4, 0), (8, 0), (12, 0)] else []) Try.func107 rfl rfl (by kernel_rfl) (by kernel_rfl) h

/-- spec.Parse -/
def k96 : KC :=
 (.seq
 (.ops [⟨some 2, none, (.alloc 39)⟩,
 ⟨some 3, none, (.assign (.const (.int .i64 0)))⟩])
 (.seq
 (.ops [⟨some 6, none, (.build 39 #[])⟩,
 ⟨some 4, none, (.alloc 39)⟩,
 ⟨none, none, (.store 39 (.tmp 4) (.tmp 6))⟩])
 (.seq
 (.seq
 (.ops [⟨some 7, none, (.move (.tmp 0))⟩,
 ⟨some 8, none, (.call ⟨(.value (.func 106)), #[(.tmp 7)], #[25]⟩)⟩,
 ⟨some 9, none, (.unOp .not 4 (.tmp 8))⟩])
 (.cond (.tmp 9)
 (.seq
 (.ops [⟨some 10, none, (.load 39 (.tmp 4))⟩,
 ⟨none, none, (.store 39 (.tmp 2) (.tmp 10))⟩,
 ⟨some 3, none, (.assign (.const (.int .i64 1)))⟩])
 .ret)
 .skip))
 (.seq
 (.ops [⟨some 11, none, (.move (.tmp 0))⟩,
 ⟨some 12, none, (.build 120 #[(0, (.tmp 11))])⟩,
 ⟨some 13, none, (.box 120 (.tmp 12))⟩,
 ⟨some 5, none, (.assign (.tmp 13))⟩])
 (.seq
 (.block 0
 (.seq
 (.ops [⟨some 15, none, (.move (.tmp 5))⟩,
 ⟨some 16, none, (.call ⟨(.value (.func 107)), #[(.tmp 15)], #[118]⟩)⟩,
 ⟨some 17, none, (.unOp .not 4 (.tmp 16))⟩,
 ⟨some 18, none, (.move (.tmp 17))⟩,
 ⟨some 19, (some (18, false)), (.move (.tmp 5))⟩,
 ⟨some 20, (some (18, false)), (.nilCheck (.tmp 19))⟩,
 ⟨some 21, (some (18, false)), (.fieldAddr 120 (.tmp 20) 1)⟩,
 ⟨some 22, (some (18, false)), (.load 3 (.tmp 21))⟩,
 ⟨some 23, (some (18, false)), (.move (.tmp 0))⟩,
 ⟨some 24, (some (18, false)), (.call ⟨(.builtin .len), #[(.tmp 23)], #[25]⟩)⟩,
 ⟨some 25, (some (18, false)), (.binOp .neq 3 (.tmp 22) (.tmp 24) 3)⟩,
 ⟨some 26, none, (.pick (.tmp 18) (.const (.bool true)) (.tmp 25))⟩,
 ⟨some 14, none, (.assign (.tmp 26))⟩])
 (.cond (.tmp 14)
 (.seq
 (.ops [⟨some 27, none, (.load 39 (.tmp 4))⟩,
 ⟨none, none, (.store 39 (.tmp 2) (.tmp 27))⟩,
 ⟨some 3, none, (.assign (.const (.int .i64 8)))⟩])
 .ret)
 (.seq
 (.ops [⟨some 29, none, (.move (.tmp 5))⟩,
 ⟨some 30, none, (.nilCheck (.tmp 29))⟩,
 ⟨some 31, none, (.fieldAddr 120 (.tmp 30) 2)⟩,
 ⟨some 32, none, (.load 37 (.tmp 31))⟩,
 ⟨some 33, none, (.call ⟨(.builtin .len), #[(.tmp 32)], #[37]⟩)⟩,
 ⟨some 34, none, (.binOp .gtr 3 (.tmp 33) (.const (.int .i64 60)) 3)⟩,
 ⟨some 28, none, (.assign (.tmp 34))⟩])
 (.cond (.tmp 28)
 (.seq
 (.ops [⟨some 35, none, (.load 39 (.tmp 4))⟩,
 ⟨none, none, (.store 39 (.tmp 2) (.tmp 35))⟩,
 ⟨some 3, none, (.assign (.const (.int .i64 6)))⟩])
 .ret)
 .skip)))))
 (.seq
 (.ops [⟨some 36, none, (.move (.tmp 5))⟩,
 ⟨some 37, none, (.nilCheck (.tmp 36))⟩,
 ⟨some 38, none, (.fieldAddr 120 (.tmp 37) 2)⟩,
 ⟨some 39, none, (.load 37 (.tmp 38))⟩,
 ⟨some 40, none, (.build 39 #[(0, (.tmp 39))])⟩,
 ⟨none, none, (.store 39 (.tmp 2) (.tmp 40))⟩,
 ⟨some 3, none, (.assign (.const (.int .i64 0)))⟩])
 .ret))))))
theorem w96 {args : Array Value} {H : AH} {Φ : Value → AH → Prop} (h : rW Try.prog k96 [] (fin Try.prog [(.cell 2 39), (.tmp 3)] Φ) (tm0 args) H) : CallsA Try.prog 96 args H Φ :=
  CallsA.w k96 [(.cell 2 39), (.tmp 3)] (fun _ => []) Try.func96 rfl rfl (by kernel_rfl) (by kernel_rfl) h

/-- spec.l9DrawRight -/
def k79 : KC :=
 (.seq
 (.ops [⟨some 2, none, (.alloc 39)⟩])
 (.seq
 (.seq
 (.ops [⟨some 3, none, (.assign (.const (.int .i64 0)))⟩])
 (.block 0
 (.loop
 (.seq
 (.seq
 (.ops [⟨some 9, none, (.move (.tmp 3))⟩,
 ⟨some 10, none, (.binOp .lss 3 (.tmp 9) (.const (.int .i64 6)) 3)⟩])
 (.cond (.tmp 10)
 .skip
 (.exit 0)))
 (.seq
 (.block 1
 (.seq
 (.ops [⟨some 14, none, (.move (.tmp 0))⟩,
 ⟨some 15, none, (.call ⟨(.value (.func 69)), #[(.tmp 14), (.const (.int .i64 5))], #[48, 3]⟩)⟩,
 ⟨some 16, none, (.call ⟨(.value (.func 10)), #[(.tmp 15)], #[9]⟩)⟩,
 ⟨some 13, none, (.move (.tmp 16))⟩,
 ⟨some 17, none, (.extract (.tmp 13) 0)⟩,
 ⟨some 18, none, (.extract (.tmp 13) 1)⟩,
 ⟨some 19, none, (.extract (.tmp 13) 2)⟩,
 ⟨some 4, none, (.assign (.tmp 17))⟩,
 ⟨some 5, none, (.assign (.tmp 18))⟩,
 ⟨some 6, none, (.assign (.tmp 19))⟩])
 (.seq
 (.ops [⟨some 21, none, (.move (.tmp 4))⟩,
 ⟨some 22, none, (.call ⟨(.value (.func 96)), #[(.tmp 21)], #[25]⟩)⟩,
 ⟨some 20, none, (.move (.tmp 22))⟩,
 ⟨some 23, none, (.extract (.tmp 20) 0)⟩,
 ⟨some 24, none, (.extract (.tmp 20) 1)⟩,
 ⟨some 7, none, (.alloc 39)⟩,
 ⟨none, none, (.store 39 (.tmp 7) (.tmp 23))⟩,
 ⟨some 8, none, (.assign (.tmp 24))⟩])
 (.seq
 (.ops [⟨some 25, none, (.move (.tmp 8))⟩,
 ⟨some 26, none, (.binOp .eql 3 (.tmp 25) (.const (.int .i64 0)) 3)⟩])
 (.cond (.tmp 26)
 (.seq
 (.ops [⟨some 27, none, (.load 39 (.tmp 7))⟩,
 ⟨none, none, (.store 39 (.tmp 2) (.tmp 27))⟩])
 .ret)
 .skip)))))
 (.ops [⟨some 11, none, (.move (.tmp 3))⟩,
 ⟨some 12, none, (.binOp .add 3 (.tmp 11) (.const (.int .i64 1)) 3)⟩,
 ⟨some 3, none, (.assign (.tmp 12))⟩]))))))
 (.seq
 (.ops [⟨some 28, none, (.buildSlice 64 2 #[(0, (.const (.int .i64 1))), (1, (.const (.int .i64 2)))])⟩,
 ⟨some 29, none, (.build 77 #[(0, (.const (.int .i64 1))), (4, (.tmp 28))])⟩,
 ⟨some 30, none, (.buildSlice 37 1 #[(0, (.tmp 29))])⟩,
 ⟨some 31, none, (.build 39 #[(0, (.tmp 30))])⟩,
 ⟨none, none, (.store 39 (.tmp 2) (.tmp 31))⟩])
 .ret)))
theorem w79 {args : Array Value} {H : AH} {Φ : Value → AH → Prop} (h : rW Try.prog k79 [] (fin Try.prog [(.cell 2 39)] Φ) (tm0 args) H) : CallsA Try.prog 79 args H Φ :=
  CallsA.w k79 [(.cell 2 39)] (fun _ => []) Try.func79 rfl rfl (by kernel_rfl) (by kernel_rfl) h

/-- spec.l9Node -/
def k50 : KC :=
 (.seq
 (.ops [⟨some 3, none, (.box 77 (.tmp 0))⟩,
 ⟨some 6, none, (.assign (.const (.int .i64 0)))⟩,
 ⟨some 7, none, (.assign (.const (.bool false)))⟩])
 (.seq
 (.ops [⟨some 9, none, (.build 63 #[])⟩,
 ⟨some 8, none, (.alloc 63)⟩,
 ⟨none, none, (.store 63 (.tmp 8) (.tmp 9))⟩])
 (.seq
 (.seq
 (.ops [⟨some 10, none, (.fieldAddr 77 (.tmp 3) 0)⟩,
 ⟨some 11, none, (.load 3 (.tmp 10))⟩])
 (.block 0
 (.seq
 (.ops [⟨some 13, none, (.binOp .eql 3 (.tmp 11) (.const (.int .i64 1)) 3)⟩,
 ⟨some 12, none, (.assign (.tmp 13))⟩])
 (.cond (.tmp 12)
 (.seq
 (.ops [⟨some 14, none, (.fieldAddr 77 (.tmp 3) 1)⟩,
 ⟨some 15, none, (.load 3 (.tmp 14))⟩,
 ⟨some 16, none, (.binOp .eql 3 (.tmp 15) (.const (.int .i64 0)) 3)⟩,
 ⟨some 17, none, (.move (.tmp 16))⟩,
 ⟨some 18, (some (17, true)), (.fieldAddr 77 (.tmp 3) 2)⟩,
 ⟨some 19, (some (17, true)), (.load 3 (.tmp 18))⟩,
 ⟨some 20, (some (17, true)), (.binOp .eql 3 (.tmp 19) (.const (.int .i64 0)) 3)⟩,
 ⟨some 21, none, (.pick (.tmp 17) (.tmp 20) (.const (.bool false)))⟩,
 ⟨some 22, none, (.move (.tmp 21))⟩,
 ⟨some 23, (some (22, true)), (.fieldAddr 77 (.tmp 3) 3)⟩,
 ⟨some 24, (some (22, true)), (.load 63 (.tmp 23))⟩,
 ⟨some 25, (some (22, true)), (.load 63 (.tmp 8))⟩,
 ⟨some 26, (some (22, true)), (.binOp .eql 63 (.tmp 24) (.tmp 25) 63)⟩,
 ⟨some 27, none, (.pick (.tmp 22) (.tmp 26) (.const (.bool false)))⟩,
 ⟨some 28, none, (.move (.tmp 27))⟩,
 ⟨some 29, (some (28, true)), (.fieldAddr 77 (.tmp 3) 4)⟩,
 ⟨some 30, (some (28, true)), (.load 64 (.tmp 29))⟩,
 ⟨some 31, (some (28, true)), (.call ⟨(.value (.func 81)), #[(.tmp 30)], #[64]⟩)⟩,
 ⟨some 32, none, (.pick (.tmp 28) (.tmp 31) (.const (.bool false)))⟩,
 ⟨some 6, none, (.assign (.const (.int .i64 1)))⟩,
 ⟨some 7, none, (.assign (.tmp 32))⟩])
 .ret)
 (.seq
 (.ops [⟨some 34, none, (.binOp .eql 3 (.tmp 11) (.const (.int .i64 2)) 3)⟩,
 ⟨some 33, none, (.assign (.tmp 34))⟩])
 (.cond (.tmp 33)
 (.seq
 (.draw #[] [(1, 0), (5, 3), (10, 3), (11, 3), (16, 3)]
 [⟨some 35, none, (.fieldAddr 77 (.tmp 3) 1)⟩,
 ⟨some 36, none, (.load 3 (.tmp 35))⟩,
 ⟨some 37, none, (.call ⟨(.value (.func 39)), #[(.tmp 36), (.const (.int .i64 0)), (.const (.int .i64 25))], #[3, 3, 3]⟩)⟩,
 ⟨some 38, none, (.move (.tmp 37))⟩,
 ⟨some 39, (some (38, true)), (.fieldAddr 77 (.tmp 3) 2)⟩,
 ⟨some 40, (some (38, true)), (.load 3 (.tmp 39))⟩,
 ⟨some 41, (some (38, true)), (.binOp .eql 3 (.tmp 40) (.const (.int .i64 0)) 3)⟩,
 ⟨some 42, none, (.pick (.tmp 38) (.tmp 41) (.const (.bool false)))⟩,
 ⟨some 43, none, (.move (.tmp 42))⟩,
 ⟨some 44, (some (43, true)), (.fieldAddr 77 (.tmp 3) 3)⟩,
 ⟨some 45, (some (43, true)), (.load 63 (.tmp 44))⟩,
 ⟨some 46, (some (43, true)), (.load 63 (.tmp 8))⟩,
 ⟨some 47, (some (43, true)), (.binOp .eql 63 (.tmp 45) (.tmp 46) 63)⟩,
 ⟨some 48, none, (.pick (.tmp 43) (.tmp 47) (.const (.bool false)))⟩,
 ⟨some 49, none, (.move (.tmp 48))⟩,
 ⟨some 50, (some (49, true)), (.fieldAddr 77 (.tmp 3) 4)⟩,
 ⟨some 51, (some (49, true)), (.load 64 (.tmp 50))⟩,
 ⟨some 52, (some (49, true)), (.call ⟨(.builtin .len), #[(.tmp 51)], #[64]⟩)⟩,
 ⟨some 53, (some (49, true)), (.binOp .eql 3 (.tmp 52) (.const (.int .i64 0)) 3)⟩,
 ⟨some 54, none, (.pick (.tmp 49) (.tmp 53) (.const (.bool false)))⟩,
 ⟨some 6, none, (.assign (.const (.int .i64 1)))⟩,
 ⟨some 7, none, (.assign (.tmp 54))⟩])
 .ret)
 (.seq
 (.ops [⟨some 56, none, (.binOp .eql 3 (.tmp 11) (.const (.int .i64 3)) 3)⟩,
 ⟨some 55, none, (.assign (.tmp 56))⟩])
 (.cond (.tmp 55)
 (.seq
 (.seq
 (.ops [⟨some 57, none, (.move (.tmp 1))⟩,
 ⟨some 58, none, (.binOp .lss 3 (.tmp 57) (.const (.int .i64 1)) 3)⟩,
 ⟨some 59, none, (.move (.tmp 58))⟩,
 ⟨some 60, (some (59, false)), (.fieldAddr 77 (.tmp 3) 2)⟩,
 ⟨some 61, (some (59, false)), (.load 3 (.tmp 60))⟩,
 ⟨some 62, (some (59, false)), (.move (.tmp 1))⟩,
 ⟨some 63, (some (59, false)), (.binOp .sub 3 (.tmp 62) (.const (.int .i64 1)) 3)⟩,
 ⟨some 64, (some (59, false)), (.binOp .neq 3 (.tmp 61) (.tmp 63) 3)⟩,
 ⟨some 65, none, (.pick (.tmp 59) (.const (.bool true)) (.tmp 64))⟩])
 (.cond (.tmp 65)
 (.seq
 (.ops [⟨some 6, none, (.assign (.const (.int .i64 0)))⟩,
 ⟨some 7, none, (.assign (.const (.bool false)))⟩])
 .ret)
 .skip))
 (.seq
 (.draw #[] [(4, 0), (4, 9), (7, 0), (11, 9), (12, 9), (17, 9)]
 [⟨some 66, none, (.move (.tmp 2))⟩,
 ⟨some 67, none, (.move (.tmp 1))⟩,
 ⟨some 68, none, (.binOp .sub 3 (.tmp 67) (.const (.int .i64 1)) 3)⟩,
 ⟨some 69, none, (.indexAddr 64 (.tmp 66) (.tmp 68))⟩,
 ⟨some 70, none, (.load 3 (.tmp 69))⟩,
 ⟨some 71, none, (.binOp .add 3 (.tmp 70) (.const (.int .i64 1)) 3)⟩,
 ⟨some 72, none, (.fieldAddr 77 (.tmp 3) 1)⟩,
 ⟨some 73, none, (.load 3 (.tmp 72))⟩,
 ⟨some 74, none, (.call ⟨(.value (.func 39)), #[(.tmp 73), (.const (.int .i64 0)), (.const (.int .i64 25))], #[3, 3, 3]⟩)⟩,
 ⟨some 75, none, (.move (.tmp 74))⟩,
 ⟨some 76, (some (75, true)), (.fieldAddr 77 (.tmp 3) 3)⟩,
 ⟨some 77, (some (75, true)), (.load 63 (.tmp 76))⟩,
 ⟨some 78, (some (75, true)), (.load 63 (.tmp 8))⟩,
 ⟨some 79, (some (75, true)), (.binOp .eql 63 (.tmp 77) (.tmp 78) 63)⟩,
 ⟨some 80, none, (.pick (.tmp 75) (.tmp 79) (.const (.bool false)))⟩,
 ⟨some 81, none, (.move (.tmp 80))⟩,
 ⟨some 82, (some (81, true)), (.fieldAddr 77 (.tmp 3) 4)⟩,
 ⟨some 83, (some (81, true)), (.load 64 (.tmp 82))⟩,
 ⟨some 84, (some (81, true)), (.call ⟨(.builtin .len), #[(.tmp 83)], #[64]⟩)⟩,
 ⟨some 85, (some (81, true)), (.binOp .eql 3 (.tmp 84) (.const (.int .i64 0)) 3)⟩,
 ⟨some 86, none, (.pick (.tmp 81) (.tmp 85) (.const (.bool false)))⟩,
 ⟨some 6, none, (.assign (.tmp 71))⟩,
 ⟨some 7, none, (.assign (.tmp 86))⟩])
 .ret))
 (.seq
 (.ops [⟨some 88, none, (.binOp .eql 3 (.tmp 11) (.const (.int .i64 4)) 3)⟩,
 ⟨some 87, none, (.assign (.tmp 88))⟩])
 (.cond (.tmp 87)
 (.seq
 (.seq
 (.ops [⟨some 89, none, (.move (.tmp 1))⟩,
 ⟨some 90, none, (.binOp .lss 3 (.tmp 89) (.const (.int .i64 1)) 3)⟩,
 ⟨some 91, none, (.move (.tmp 90))⟩,
 ⟨some 92, (some (91, false)), (.fieldAddr 77 (.tmp 3) 2)⟩,
 ⟨some 93, (some (91, false)), (.load 3 (.tmp 92))⟩,
 ⟨some 94, (some (91, false)), (.move (.tmp 1))⟩,
 ⟨some 95, (some (91, false)), (.binOp .sub 3 (.tmp 94) (.const (.int .i64 1)) 3)⟩,
 ⟨some 96, (some (91, false)), (.binOp .neq 3 (.tmp 93) (.tmp 95) 3)⟩,
 ⟨some 97, none, (.pick (.tmp 91) (.const (.bool true)) (.tmp 96))⟩])
 (.cond (.tmp 97)
 (.seq
 (.ops [⟨some 6, none, (.assign (.const (.int .i64 0)))⟩,
 ⟨some 7, none, (.assign (.const (.bool false)))⟩])
 .ret)
 .skip))
 (.seq
 (.draw #[] [(4, 0), (4, 13), (7, 0), (11, 0), (16, 13)]
 [⟨some 98, none, (.move (.tmp 2))⟩,
 ⟨some 99, none, (.move (.tmp 1))⟩,
 ⟨some 100, none, (.binOp .sub 3 (.tmp 99) (.const (.int .i64 1)) 3)⟩,
 ⟨some 101, none, (.indexAddr 64 (.tmp 98) (.tmp 100))⟩,
 ⟨some 102, none, (.load 3 (.tmp 101))⟩,
 ⟨some 103, none, (.binOp .add 3 (.tmp 102) (.const (.int .i64 1)) 3)⟩,
 ⟨some 104, none, (.fieldAddr 77 (.tmp 3) 1)⟩,
 ⟨some 105, none, (.load 3 (.tmp 104))⟩,
 ⟨some 106, none, (.binOp .eql 3 (.tmp 105) (.const (.int .i64 0)) 3)⟩,
 ⟨some 107, none, (.move (.tmp 106))⟩,
 ⟨some 108, (some (107, true)), (.fieldAddr 77 (.tmp 3) 3)⟩,
 ⟨some 109, (some (107, true)), (.load 63 (.tmp 108))⟩,
 ⟨some 110, (some (107, true)), (.call ⟨(.value (.func 82)), #[(.tmp 109)], #[63]⟩)⟩,
 ⟨some 111, none, (.pick (.tmp 107) (.tmp 110) (.const (.bool false)))⟩,
 ⟨some 112, none, (.move (.tmp 111))⟩,
 ⟨some 113, (some (112, true)), (.fieldAddr 77 (.tmp 3) 4)⟩,
 ⟨some 114, (some (112, true)), (.load 64 (.tmp 113))⟩,
 ⟨some 115, (some (112, true)), (.call ⟨(.builtin .len), #[(.tmp 114)], #[64]⟩)⟩,
 ⟨some 116, (some (112, true)), (.binOp .eql 3 (.tmp 115) (.const (.int .i64 0)) 3)⟩,
 ⟨some 117, none, (.pick (.tmp 112) (.tmp 116) (.const (.bool false)))⟩,
 ⟨some 6, none, (.assign (.tmp 103))⟩,
 ⟨some 7, none, (.assign (.tmp 117))⟩])
 .ret))
 (.seq
 (.ops [⟨some 119, none, (.binOp .eql 3 (.tmp 11) (.const (.int .i64 5)) 3)⟩,
 ⟨some 118, none, (.assign (.tmp 119))⟩])
 (.cond (.tmp 118)
 (.seq
 (.seq
 (.ops [⟨some 120, none, (.move (.tmp 1))⟩,
 ⟨some 121, none, (.binOp .lss 3 (.tmp 120) (.const (.int .i64 2)) 3)⟩,
 ⟨some 122, none, (.move (.tmp 121))⟩,
 ⟨some 123, (some (122, false)), (.fieldAddr 77 (.tmp 3) 1)⟩,
 ⟨some 124, (some (122, false)), (.load 3 (.tmp 123))⟩,
 ⟨some 125, (some (122, false)), (.move (.tmp 1))⟩,
 ⟨some 126, (some (122, false)), (.binOp .sub 3 (.tmp 125) (.const (.int .i64 1)) 3)⟩,
 ⟨some 127, (some (122, false)), (.binOp .neq 3 (.tmp 124) (.tmp 126) 3)⟩,
 ⟨some 128, none, (.pick (.tmp 122) (.const (.bool true)) (.tmp 127))⟩,
 ⟨some 129, none, (.move (.tmp 128))⟩,
 ⟨some 130, (some (129, false)), (.fieldAddr 77 (.tmp 3) 2)⟩,
 ⟨some 131, (some (129, false)), (.load 3 (.tmp 130))⟩,
 ⟨some 132, (some (129, false)), (.move (.tmp 1))⟩,
 ⟨some 133, (some (129, false)), (.binOp .sub 3 (.tmp 132) (.const (.int .i64 1)) 3)⟩,
 ⟨some 134, (some (129, false)), (.move (.tmp 2))⟩,
 ⟨some 135, (some (129, false)), (.move (.tmp 1))⟩,
 ⟨some 136, (some (129, false)), (.binOp .sub 3 (.tmp 135) (.const (.int .i64 1)) 3)⟩,
 ⟨some 137, (some (129, false)), (.indexAddr 64 (.tmp 134) (.tmp 136))⟩,
 ⟨some 138, (some (129, false)), (.load 3 (.tmp 137))⟩,
 ⟨some 139, (some (129, false)), (.binOp .sub 3 (.tmp 133) (.tmp 138) 3)⟩,
 ⟨some 140, (some (129, false)), (.binOp .neq 3 (.tmp 131) (.tmp 139) 3)⟩,
 ⟨some 141, none, (.pick (.tmp 129) (.const (.bool true)) (.tmp 140))⟩,
 ⟨some 142, none, (.move (.tmp 141))⟩,
 ⟨some 143, (some (142, false)), (.fieldAddr 77 (.tmp 3) 2)⟩,
 ⟨some 144, (some (142, false)), (.load 3 (.tmp 143))⟩,
 ⟨some 145, (some (142, false)), (.binOp .lss 3 (.tmp 144) (.const (.int .i64 0)) 3)⟩,
 ⟨some 146, none, (.pick (.tmp 142) (.const (.bool true)) (.tmp 145))⟩])
 (.cond (.tmp 146)
 (.seq
 (.ops [⟨some 6, none, (.assign (.const (.int .i64 0)))⟩,
 ⟨some 7, none, (.assign (.const (.bool false)))⟩])
 .ret)
 .skip))
 (.seq
 (.draw #[] [(2, 0), (2, 15), (4, 0), (4, 15), (7, 0), (7, 15), (9, 0), (9, 15), (13, 0), (17, 15)]
 [⟨some 147, none, (.move (.tmp 2))⟩,
 ⟨some 148, none, (.fieldAddr 77 (.tmp 3) 1)⟩,
 ⟨some 149, none, (.load 3 (.tmp 148))⟩,
 ⟨some 150, none, (.indexAddr 64 (.tmp 147) (.tmp 149))⟩,
 ⟨some 151, none, (.load 3 (.tmp 150))⟩,
 ⟨some 152, none, (.move (.tmp 2))⟩,
 ⟨some 153, none, (.fieldAddr 77 (.tmp 3) 2)⟩,
 ⟨some 154, none, (.load 3 (.tmp 153))⟩,
 ⟨some 155, none, (.indexAddr 64 (.tmp 152) (.tmp 154))⟩,
 ⟨some 156, none, (.load 3 (.tmp 155))⟩,
 ⟨some 157, none, (.binOp .add 3 (.tmp 151) (.tmp 156) 3)⟩,
 ⟨some 158, none, (.binOp .add 3 (.tmp 157) (.const (.int .i64 1)) 3)⟩,
 ⟨some 159, none, (.fieldAddr 77 (.tmp 3) 3)⟩,
 ⟨some 160, none, (.load 63 (.tmp 159))⟩,
 ⟨some 161, none, (.call ⟨(.value (.func 83)), #[(.tmp 160)], #[63]⟩)⟩,
 ⟨some 162, none, (.move (.tmp 161))⟩,
 ⟨some 163, (some (162, true)), (.fieldAddr 77 (.tmp 3) 4)⟩,
 ⟨some 164, (some (162, true)), (.load 64 (.tmp 163))⟩,
 ⟨some 165, (some (162, true)), (.call ⟨(.builtin .len), #[(.tmp 164)], #[64]⟩)⟩,
 ⟨some 166, (some (162, true)), (.binOp .eql 3 (.tmp 165) (.const (.int .i64 0)) 3)⟩,
 ⟨some 167, none, (.pick (.tmp 162) (.tmp 166) (.const (.bool false)))⟩,
 ⟨some 6, none, (.assign (.tmp 158))⟩,
 ⟨some 7, none, (.assign (.tmp 167))⟩])
 .ret))
 .skip))))))))))))
 (.seq
 (.ops [⟨some 6, none, (.assign (.const (.int .i64 0)))⟩,
 ⟨some 7, none, (.assign (.const (.bool false)))⟩])
 .ret))))
theorem w50 {args : Array Value} {H : AH} {Φ : Value → AH → Prop} (h : rW Try.prog k50 [] (fin Try.prog [(.tmp 6), (.tmp 7)] Φ) (tm0 args) H) : CallsA Try.prog 50 args H Φ :=
  CallsA.w k50 [(.tmp 6), (.tmp 7)] (fun i => if i = 6 then [(1, 0), (5, 3), (10, 3), (11, 3), (16, 3)] else if i = 10 then [(4, 0), (4, 9), (7, 0), (11, 9), (12, 9), (17, 9)] else if i = 14 then [(4, 0), (4, 13), (7, 0), (11, 0), (16, 13)] else if i = 16 then [(4, 0), (11, 0), (18, 0), (24, 0)] else if i = 18 then [(2, 0), (2, 15), (4, 0), (4, 15), (7, 0), (7, 15), (9, 0), (9, 15), (13, 0), (17, 15)] else []) Try.func50 rfl rfl (by kernel_rfl) (by kernel_rfl) h

/-- spec.TreeOk -/
def k22 : KC :=
 (.seq
 (.ops [⟨some 1, none, (.box 39 (.tmp 0))⟩,
 ⟨some 2, none, (.assign (.const (.bool false)))⟩])
 (.seq
 (.ops [⟨some 8, none, (.fieldAddr 39 (.tmp 1) 0)⟩,
 ⟨some 9, none, (.load 37 (.tmp 8))⟩,
 ⟨some 10, none, (.call ⟨(.builtin .len), #[(.tmp 9)], #[37]⟩)⟩,
 ⟨some 3, none, (.assign (.tmp 10))⟩])
 (.seq
 (.seq
 (.ops [⟨some 11, none, (.move (.tmp 3))⟩,
 ⟨some 12, none, (.call ⟨(.value (.func 39)), #[(.tmp 11), (.const (.int .i64 1)), (.const (.int .i64 60))], #[3, 3, 3]⟩)⟩,
 ⟨some 13, none, (.unOp .not 4 (.tmp 12))⟩])
 (.cond (.tmp 13)
 (.seq
 (.ops [⟨some 2, none, (.assign (.const (.bool false)))⟩])
 .ret)
 .skip))
 (.seq
 (.ops [⟨some 14, none, (.buildSlice 64 0 #[])⟩,
 ⟨some 4, none, (.assign (.tmp 14))⟩])
 (.seq
 (.seq
 (.ops [⟨some 5, none, (.assign (.const (.int .i64 0)))⟩])
 (.block 0
 (.loop
 (.seq
 (.seq
 (.ops [⟨some 15, none, (.move (.tmp 5))⟩,
 ⟨some 16, none, (.move (.tmp 3))⟩,
 ⟨some 17, none, (.binOp .lss 3 (.tmp 15) (.tmp 16) 3)⟩])
 (.cond (.tmp 17)
 .skip
 (.exit 0)))
 (.seq
 (.block 1
 (.seq
 (.ops [⟨some 21, none, (.fieldAddr 39 (.tmp 1) 0)⟩,
 ⟨some 22, none, (.load 37 (.tmp 21))⟩,
 ⟨some 23, none, (.move (.tmp 5))⟩,
 ⟨some 24, none, (.indexAddr 37 (.tmp 22) (.tmp 23))⟩,
 ⟨some 25, none, (.load 77 (.tmp 24))⟩,
 ⟨some 26, none, (.move (.tmp 5))⟩,
 ⟨some 27, none, (.move (.tmp 4))⟩,
 ⟨some 28, none, (.call ⟨(.value (.func 50)), #[(.tmp 25), (.tmp 26), (.tmp 27)], #[77, 3, 64]⟩)⟩,
 ⟨some 20, none, (.move (.tmp 28))⟩,
 ⟨some 29, none, (.extract (.tmp 20) 0)⟩,
 ⟨some 30, none, (.extract (.tmp 20) 1)⟩,
 ⟨some 6, none, (.assign (.tmp 29))⟩,
 ⟨some 7, none, (.assign (.tmp 30))⟩])
 (.seq
 (.seq
 (.ops [⟨some 31, none, (.move (.tmp 7))⟩,
 ⟨some 32, none, (.unOp .not 4 (.tmp 31))⟩])
 (.cond (.tmp 32)
 (.seq
 (.ops [⟨some 2, none, (.assign (.const (.bool false)))⟩])
 .ret)
 .skip))
 (.ops [⟨some 33, none, (.move (.tmp 4))⟩,
 ⟨some 34, none, (.move (.tmp 6))⟩,
 ⟨some 35, none, (.buildSlice 64 1 #[(0, (.tmp 34))])⟩,
 ⟨some 36, none, (.call ⟨(.builtin .append), #[(.tmp 33), (.tmp 35)], #[64, 64]⟩)⟩,
 ⟨some 4, none, (.assign (.tmp 36))⟩]))))
 (.ops [⟨some 18, none, (.move (.tmp 5))⟩,
 ⟨some 19, none, (.binOp .add 3 (.tmp 18) (.const (.int .i64 1)) 3)⟩,
 ⟨some 5, none, (.assign (.tmp 19))⟩]))))))
 (.seq
 (.ops [⟨some 37, none, (.move (.tmp 4))⟩,
 ⟨some 38, none, (.move (.tmp 3))⟩,
 ⟨some 39, none, (.binOp .sub 3 (.tmp 38) (.const (.int .i64 1)) 3)⟩,
 ⟨some 40, none, (.indexAddr 64 (.tmp 37) (.tmp 39))⟩,
 ⟨some 41, none, (.load 3 (.tmp 40))⟩,
 ⟨some 42, none, (.move (.tmp 3))⟩,
 ⟨some 43, none, (.binOp .eql 3 (.tmp 41) (.tmp 42) 3)⟩,
 ⟨some 2, none, (.assign (.tmp 43))⟩])
 .ret))))))
theorem w22 {args : Array Value} {H : AH} {Φ : Value → AH → Prop} (h : rW Try.prog k22 [] (fin Try.prog [(.tmp 2)] Φ) (tm0 args) H) : CallsA Try.prog 22 args H Φ :=
  CallsA.w k22 [(.tmp 2)] (fun _ => []) Try.func22 rfl rfl (by kernel_rfl) (by kernel_rfl) h

/-- spec.Compile -/
def k92 : KC :=
 (.seq
 (.ops [⟨some 1, none, (.box 39 (.tmp 0))⟩,
 ⟨some 2, none, (.assign (.const (.slice none 0 0)))⟩,
 ⟨some 3, none, (.assign (.const (.bool false)))⟩])
 (.seq
 (.ops [⟨some 7, none, (.buildSlice 29 0 #[])⟩,
 ⟨some 4, none, (.assign (.tmp 7))⟩])
 (.seq
 (.seq
 (.ops [⟨some 8, none, (.load 39 (.tmp 1))⟩,
 ⟨some 9, none, (.call ⟨(.value (.func 22)), #[(.tmp 8)], #[39]⟩)⟩,
 ⟨some 10, none, (.unOp .not 4 (.tmp 9))⟩])
 (.cond (.tmp 10)
 (.seq
 (.ops [⟨some 11, none, (.move (.tmp 4))⟩,
 ⟨some 2, none, (.assign (.tmp 11))⟩,
 ⟨some 3, none, (.assign (.const (.bool false)))⟩])
 .ret)
 .skip))
 (.seq
 (.seq
 (.ops [⟨some 5, none, (.assign (.const (.int .i64 0)))⟩])
 (.block 0
 (.loop
 (.seq
 (.seq
 (.ops [⟨some 12, none, (.move (.tmp 5))⟩,
 ⟨some 13, none, (.fieldAddr 39 (.tmp 1) 0)⟩,
 ⟨some 14, none, (.load 37 (.tmp 13))⟩,
 ⟨some 15, none, (.call ⟨(.builtin .len), #[(.tmp 14)], #[37]⟩)⟩,
 ⟨some 16, none, (.binOp .lss 3 (.tmp 12) (.tmp 15) 3)⟩])
 (.cond (.tmp 16)
 .skip
 (.exit 0)))
 (.seq
 (.block 1
 (.seq
 (.ops [⟨some 19, none, (.fieldAddr 39 (.tmp 1) 0)⟩,
 ⟨some 20, none, (.load 37 (.tmp 19))⟩,
 ⟨some 21, none, (.move (.tmp 5))⟩,
 ⟨some 22, none, (.indexAddr 37 (.tmp 20) (.tmp 21))⟩,
 ⟨some 23, none, (.load 77 (.tmp 22))⟩,
 ⟨some 6, none, (.alloc 77)⟩,
 ⟨none, none, (.store 77 (.tmp 6) (.tmp 23))⟩])
 (.seq
 (.ops [⟨some 24, none, (.fieldAddr 77 (.tmp 6) 0)⟩,
 ⟨some 25, none, (.load 3 (.tmp 24))⟩])
 (.block 2
 (.seq
 (.ops [⟨some 27, none, (.binOp .eql 3 (.tmp 25) (.const (.int .i64 1)) 3)⟩,
 ⟨some 26, none, (.assign (.tmp 27))⟩])
 (.cond (.tmp 26)
 (.ops [⟨some 28, none, (.move (.tmp 4))⟩,
 ⟨some 29, none, (.buildSlice 64 0 #[])⟩,
 ⟨some 30, none, (.fieldAddr 77 (.tmp 6) 4)⟩,
 ⟨some 31, none, (.load 64 (.tmp 30))⟩,
 ⟨some 32, none, (.call ⟨(.builtin .append), #[(.tmp 29), (.tmp 31)], #[64, 64]⟩)⟩,
 ⟨some 33, none, (.build 66 #[(0, (.const (.int .i64 1))), (3, (.tmp 32))])⟩,
 ⟨some 34, none, (.buildSlice 29 1 #[(0, (.tmp 33))])⟩,
 ⟨some 35, none, (.call ⟨(.builtin .append), #[(.tmp 28), (.tmp 34)], #[29, 29]⟩)⟩,
 ⟨some 4, none, (.assign (.tmp 35))⟩])
 (.seq
 (.ops [⟨some 37, none, (.binOp .eql 3 (.tmp 25) (.const (.int .i64 2)) 3)⟩,
 ⟨some 36, none, (.assign (.tmp 37))⟩])
 (.cond (.tmp 36)
 (.ops [⟨some 38, none, (.move (.tmp 4))⟩,
 ⟨some 39, none, (.fieldAddr 77 (.tmp 6) 1)⟩,
 ⟨some 40, none, (.load 3 (.tmp 39))⟩,
 ⟨some 41, none, (.build 66 #[(0, (.const (.int .i64 2))), (1, (.tmp 40))])⟩,
 ⟨some 42, none, (.buildSlice 29 1 #[(0, (.tmp 41))])⟩,
 ⟨some 43, none, (.call ⟨(.builtin .append), #[(.tmp 38), (.tmp 42)], #[29, 29]⟩)⟩,
 ⟨some 4, none, (.assign (.tmp 43))⟩])
 (.seq
 (.ops [⟨some 45, none, (.binOp .eql 3 (.tmp 25) (.const (.int .i64 3)) 3)⟩,
 ⟨some 44, none, (.assign (.tmp 45))⟩])
 (.cond (.tmp 44)
 (.ops [⟨some 46, none, (.move (.tmp 4))⟩,
 ⟨some 47, none, (.fieldAddr 77 (.tmp 6) 1)⟩,
 ⟨some 48, none, (.load 3 (.tmp 47))⟩,
 ⟨some 49, none, (.build 66 #[(0, (.const (.int .i64 3))), (1, (.tmp 48))])⟩,
 ⟨some 50, none, (.buildSlice 29 1 #[(0, (.tmp 49))])⟩,
 ⟨some 51, none, (.call ⟨(.builtin .append), #[(.tmp 46), (.tmp 50)], #[29, 29]⟩)⟩,
 ⟨some 4, none, (.assign (.tmp 51))⟩])
 (.seq
 (.ops [⟨some 53, none, (.binOp .eql 3 (.tmp 25) (.const (.int .i64 4)) 3)⟩,
 ⟨some 52, none, (.assign (.tmp 53))⟩])
 (.cond (.tmp 52)
 (.ops [⟨some 54, none, (.move (.tmp 4))⟩,
 ⟨some 55, none, (.fieldAddr 77 (.tmp 6) 3)⟩,
 ⟨some 56, none, (.load 63 (.tmp 55))⟩,
 ⟨some 57, none, (.build 66 #[(0, (.const (.int .i64 4))), (2, (.tmp 56))])⟩,
 ⟨some 58, none, (.buildSlice 29 1 #[(0, (.tmp 57))])⟩,
 ⟨some 59, none, (.call ⟨(.builtin .append), #[(.tmp 54), (.tmp 58)], #[29, 29]⟩)⟩,
 ⟨some 4, none, (.assign (.tmp 59))⟩])
 (.seq
 (.ops [⟨some 61, none, (.binOp .eql 3 (.tmp 25) (.const (.int .i64 5)) 3)⟩,
 ⟨some 60, none, (.assign (.tmp 61))⟩])
 (.cond (.tmp 60)
 (.ops [⟨some 62, none, (.move (.tmp 4))⟩,
 ⟨some 63, none, (.fieldAddr 77 (.tmp 6) 3)⟩,
 ⟨some 64, none, (.load 63 (.tmp 63))⟩,
 ⟨some 65, none, (.build 66 #[(0, (.const (.int .i64 5))), (2, (.tmp 64))])⟩,
 ⟨some 66, none, (.buildSlice 29 1 #[(0, (.tmp 65))])⟩,
 ⟨some 67, none, (.call ⟨(.builtin .append), #[(.tmp 62), (.tmp 66)], #[29, 29]⟩)⟩,
 ⟨some 4, none, (.assign (.tmp 67))⟩])
 .skip))))))))))))))
 (.ops [⟨some 17, none, (.move (.tmp 5))⟩,
 ⟨some 18, none, (.binOp .add 3 (.tmp 17) (.const (.int .i64 1)) 3)⟩,
 ⟨some 5, none, (.assign (.tmp 18))⟩]))))))
 (.seq
 (.ops [⟨some 68, none, (.move (.tmp 4))⟩,
 ⟨some 2, none, (.assign (.tmp 68))⟩,
 ⟨some 3, none, (.assign (.const (.bool true)))⟩])
 .ret)))))
theorem w92 {args : Array Value} {H : AH} {Φ : Value → AH → Prop} (h : rW Try.prog k92 [] (fin Try.prog [(.tmp 2), (.tmp 3)] Φ) (tm0 args) H) : CallsA Try.prog 92 args H Φ :=
  CallsA.w k92 [(.tmp 2), (.tmp 3)] (fun _ => []) Try.func92 rfl rfl (by kernel_rfl) (by kernel_rfl) h

/-- spec.l11DrawRight -/
def k67 : KC :=
 (.seq
 (.ops [⟨some 2, none, (.assign (.const (.slice none 0 0)))⟩])
 (.seq
 (.ops [⟨some 6, none, (.move (.tmp 0))⟩,
 ⟨some 7, none, (.call ⟨(.value (.func 79)), #[(.tmp 6)], #[48]⟩)⟩,
 ⟨some 8, none, (.call ⟨(.value (.func 92)), #[(.tmp 7)], #[39]⟩)⟩,
 ⟨some 5, none, (.move (.tmp 8))⟩,
 ⟨some 9, none, (.extract (.tmp 5) 0)⟩,
 ⟨some 10, none, (.extract (.tmp 5) 1)⟩,
 ⟨some 3, none, (.assign (.tmp 9))⟩,
 ⟨some 4, none, (.assign (.tmp 10))⟩])
 (.seq
 (.ops [⟨some 11, none, (.move (.tmp 3))⟩,
 ⟨some 2, none, (.assign (.tmp 11))⟩])
 .ret)))
theorem w67 {args : Array Value} {H : AH} {Φ : Value → AH → Prop} (h : rW Try.prog k67 [] (fin Try.prog [(.tmp 2)] Φ) (tm0 args) H) : CallsA Try.prog 67 args H Φ :=
  CallsA.w k67 [(.tmp 2)] (fun _ => []) Try.func67 rfl rfl (by kernel_rfl) (by kernel_rfl) h

/-- spec.l9DrawFun -/
def k80 : KC :=
 (.seq
 (.ops [⟨some 2, none, (.alloc 63)⟩])
 (.seq
 (.ops [⟨some 4, none, (.move (.tmp 0))⟩,
 ⟨some 5, none, (.buildSlice 64 22 #[(0, (.const (.int .i64 43))), (1, (.const (.int .i64 45))), (2, (.const (.int .i64 42))), (3, (.const (.int .i64 37))), (4, (.const (.int .i64 124))), (5, (.const (.int .i64 38))), (6, (.const (.int .i64 126))), (7, (.const (.int .i64 105))), (8, (.const (.int .i64 35))), (9, (.const (.int .i64 44))), (10, (.const (.int .i64 116))), (11, (.const (.int .i64 100))), (12, (.const (.int .i64 114))), (13, (.const (.int .i64 122))), (14, (.const (.int .i64 64))), (15, (.const (.int .i64 63))), (16, (.const (.int .i64 103))), (17, (.const (.int .i64 36))), (18, (.const (.int .i64 101))), (19, (.const (.int .i64 111))), (20, (.const (.int .i64 47))), (21, (.const (.int .i64 0)))])⟩,
 ⟨some 6, none, (.call ⟨(.value (.func 68)), #[(.tmp 4), (.tmp 5)], #[48, 64]⟩)⟩,
 ⟨some 7, none, (.build 63 #[(0, (.tmp 6))])⟩,
 ⟨some 3, none, (.alloc 63)⟩,
 ⟨none, none, (.store 63 (.tmp 3) (.tmp 7))⟩])
 (.seq
 (.seq
 (.ops [⟨some 8, none, (.move (.tmp 0))⟩,
 ⟨some 9, none, (.call ⟨(.value (.func 34)), #[(.tmp 8), (.const (.int .i64 2))], #[48, 3]⟩)⟩])
 (.cond (.tmp 9)
 (.ops [⟨some 10, none, (.move (.tmp 0))⟩,
 ⟨some 11, none, (.buildSlice 64 5 #[(0, (.const (.int .i64 47))), (1, (.const (.int .i64 92))), (2, (.const (.int .i64 111))), (3, (.const (.int .i64 46))), (4, (.const (.int .i64 120)))])⟩,
 ⟨some 12, none, (.call ⟨(.value (.func 68)), #[(.tmp 10), (.tmp 11)], #[48, 64]⟩)⟩,
 ⟨some 13, none, (.fieldAddr 63 (.tmp 3) 1)⟩,
 ⟨none, none, (.store 3 (.tmp 13) (.tmp 12))⟩])
 .skip))
 (.seq
 (.seq
 (.ops [⟨some 14, none, (.fieldAddr 63 (.tmp 3) 1)⟩,
 ⟨some 15, none, (.load 3 (.tmp 14))⟩,
 ⟨some 16, none, (.binOp .eql 3 (.tmp 15) (.const (.int .i64 46)) 3)⟩,
 ⟨some 17, none, (.move (.tmp 16))⟩,
 ⟨some 18, (some (17, false)), (.move (.tmp 0))⟩,
 ⟨some 19, (some (17, false)), (.call ⟨(.value (.func 34)), #[(.tmp 18), (.const (.int .i64 15))], #[48, 3]⟩)⟩,
 ⟨some 20, none, (.pick (.tmp 17) (.const (.bool true)) (.tmp 19))⟩])
 (.cond (.tmp 20)
 (.ops [⟨some 21, none, (.move (.tmp 0))⟩,
 ⟨some 22, none, (.buildSlice 64 4 #[(0, (.const (.int .i64 43))), (1, (.const (.int .i64 42))), (2, (.const (.int .i64 105))), (3, (.const (.int .i64 0)))])⟩,
 ⟨some 23, none, (.call ⟨(.value (.func 68)), #[(.tmp 21), (.tmp 22)], #[48, 64]⟩)⟩,
 ⟨some 24, none, (.fieldAddr 63 (.tmp 3) 2)⟩,
 ⟨none, none, (.store 3 (.tmp 24) (.tmp 23))⟩])
 .skip))
 (.seq
 (.ops [⟨some 25, none, (.load 63 (.tmp 3))⟩,
 ⟨none, none, (.store 63 (.tmp 2) (.tmp 25))⟩])
 .ret)))))
theorem w80 {args : Array Value} {H : AH} {Φ : Value → AH → Prop} (h : rW Try.prog k80 [] (fin Try.prog [(.cell 2 63)] Φ) (tm0 args) H) : CallsA Try.prog 80 args H Φ :=
  CallsA.w k80 [(.cell 2 63)] (fun _ => []) Try.func80 rfl rfl (by kernel_rfl) (by kernel_rfl) h

/-- spec.l1DrawRaw -/
def k91 : KC :=
 (.seq
 (.ops [⟨some 2, none, (.assign (.const (.int .i64 0)))⟩])
 (.seq
 (.seq
 (.ops [⟨some 3, none, (.move (.tmp 0))⟩,
 ⟨some 4, none, (.call ⟨(.value (.func 34)), #[(.tmp 3), (.const (.int .i64 15))], #[48, 3]⟩)⟩])
 (.cond (.tmp 4)
 (.seq
 (.ops [⟨some 5, none, (.move (.tmp 0))⟩,
 ⟨some 6, none, (.buildSlice 64 4 #[(0, (.const (.int .i64 1000000000001))), (1, (.const (.int .i64 (-1000000000001)))), (2, (.const (.int .i64 9223372036854775807))), (3, (.const (.int .i64 (-9223372036854775808))))])⟩,
 ⟨some 7, none, (.call ⟨(.value (.func 68)), #[(.tmp 5), (.tmp 6)], #[48, 64]⟩)⟩,
 ⟨some 2, none, (.assign (.tmp 7))⟩])
 .ret)
 .skip))
 (.seq
 (.ops [⟨some 8, none, (.move (.tmp 0))⟩,
 ⟨some 9, none, (.call ⟨(.value (.func 104)), #[(.tmp 8)], #[48]⟩)⟩,
 ⟨some 2, none, (.assign (.tmp 9))⟩])
 .ret)))
theorem w91 {args : Array Value} {H : AH} {Φ : Value → AH → Prop} (h : rW Try.prog k91 [] (fin Try.prog [(.tmp 2)] Φ) (tm0 args) H) : CallsA Try.prog 91 args H Φ :=
  CallsA.w k91 [(.tmp 2)] (fun _ => []) Try.func91 rfl rfl (by kernel_rfl) (by kernel_rfl) h

/-- spec.l11Draw -/
def k65 : KC :=
 (.seq
 (.ops [⟨some 2, none, (.assign (.const (.slice none 0 0)))⟩])
 (.seq
 (.ops [⟨some 5, none, (.move (.tmp 0))⟩,
 ⟨some 6, none, (.call ⟨(.value (.func 67)), #[(.tmp 5)], #[48]⟩)⟩,
 ⟨some 3, none, (.assign (.tmp 6))⟩])
 (.seq
 (.ops [⟨some 7, none, (.move (.tmp 0))⟩,
 ⟨some 8, none, (.move (.tmp 3))⟩,
 ⟨some 9, none, (.call ⟨(.builtin .len), #[(.tmp 8)], #[29]⟩)⟩,
 ⟨some 10, none, (.call ⟨(.value (.func 35)), #[(.tmp 7), (.tmp 9)], #[48, 3]⟩)⟩,
 ⟨some 4, none, (.assign (.tmp 10))⟩])
 (.seq
 (.seq
 (.ops [⟨some 11, none, (.move (.tmp 0))⟩,
 ⟨some 12, none, (.call ⟨(.value (.func 35)), #[(.tmp 11), (.const (.int .i64 20))], #[48, 3]⟩)⟩])
 (.block 0
 (.seq
 (.ops [⟨some 14, none, (.binOp .eql 3 (.tmp 12) (.const (.int .i64 0)) 3)⟩,
 ⟨some 13, none, (.assign (.tmp 14))⟩])
 (.cond (.tmp 13)
 (.ops [⟨some 15, none, (.move (.tmp 3))⟩,
 ⟨some 16, none, (.move (.tmp 4))⟩,
 ⟨some 17, none, (.move (.tmp 0))⟩,
 ⟨some 18, none, (.call ⟨(.value (.func 35)), #[(.tmp 17), (.const (.int .i64 7))], #[48, 3]⟩)⟩,
 ⟨some 19, none, (.indexAddr 29 (.tmp 15) (.tmp 16))⟩,
 ⟨some 20, none, (.fieldAddr 66 (.tmp 19) 0)⟩,
 ⟨none, none, (.store 3 (.tmp 20) (.tmp 18))⟩])
 (.seq
 (.ops [⟨some 22, none, (.binOp .eql 3 (.tmp 12) (.const (.int .i64 1)) 3)⟩,
 ⟨some 21, none, (.assign (.tmp 22))⟩])
 (.cond (.tmp 21)
 (.ops [⟨some 23, none, (.move (.tmp 3))⟩,
 ⟨some 24, none, (.move (.tmp 4))⟩,
 ⟨some 25, none, (.move (.tmp 0))⟩,
 ⟨some 26, none, (.call ⟨(.value (.func 35)), #[(.tmp 25), (.const (.int .i64 28))], #[48, 3]⟩)⟩,
 ⟨some 27, none, (.binOp .sub 3 (.tmp 26) (.const (.int .i64 1)) 3)⟩,
 ⟨some 28, none, (.indexAddr 29 (.tmp 23) (.tmp 24))⟩,
 ⟨some 29, none, (.fieldAddr 66 (.tmp 28) 1)⟩,
 ⟨none, none, (.store 3 (.tmp 29) (.tmp 27))⟩])
 (.seq
 (.ops [⟨some 31, none, (.binOp .eql 3 (.tmp 12) (.const (.int .i64 2)) 3)⟩,
 ⟨some 30, none, (.assign (.tmp 31))⟩])
 (.cond (.tmp 30)
 (.ops [⟨some 32, none, (.move (.tmp 3))⟩,
 ⟨some 33, none, (.move (.tmp 4))⟩,
 ⟨some 34, none, (.move (.tmp 0))⟩,
 ⟨some 35, none, (.call ⟨(.value (.func 80)), #[(.tmp 34)], #[48]⟩)⟩,
 ⟨some 36, none, (.indexAddr 29 (.tmp 32) (.tmp 33))⟩,
 ⟨some 37, none, (.fieldAddr 66 (.tmp 36) 2)⟩,
 ⟨none, none, (.store 63 (.tmp 37) (.tmp 35))⟩])
 (.seq
 (.ops [⟨some 39, none, (.binOp .eql 3 (.tmp 12) (.const (.int .i64 3)) 3)⟩,
 ⟨some 38, none, (.assign (.tmp 39))⟩])
 (.cond (.tmp 38)
 (.ops [⟨some 40, none, (.move (.tmp 3))⟩,
 ⟨some 41, none, (.move (.tmp 4))⟩,
 ⟨some 42, none, (.slice 29 (.tmp 40) none (some (.tmp 41)) none)⟩,
 ⟨some 3, none, (.assign (.tmp 42))⟩])
 (.seq
 (.ops [⟨some 44, none, (.binOp .eql 3 (.tmp 12) (.const (.int .i64 4)) 3)⟩,
 ⟨some 43, none, (.assign (.tmp 44))⟩])
 (.cond (.tmp 43)
 (.ops [⟨some 45, none, (.move (.tmp 3))⟩,
 ⟨some 46, none, (.move (.tmp 3))⟩,
 ⟨some 47, none, (.move (.tmp 4))⟩,
 ⟨some 48, none, (.indexAddr 29 (.tmp 46) (.tmp 47))⟩,
 ⟨some 49, none, (.load 66 (.tmp 48))⟩,
 ⟨some 50, none, (.buildSlice 29 1 #[(0, (.tmp 49))])⟩,
 ⟨some 51, none, (.call ⟨(.builtin .append), #[(.tmp 45), (.tmp 50)], #[29, 29]⟩)⟩,
 ⟨some 3, none, (.assign (.tmp 51))⟩])
 (.seq
 (.ops [⟨some 53, none, (.binOp .eql 3 (.tmp 12) (.const (.int .i64 5)) 3)⟩,
 ⟨some 52, none, (.assign (.tmp 53))⟩])
 (.cond (.tmp 52)
 (.draw #[] [(6, 0), (6, 9)]
 [⟨some 54, none, (.move (.tmp 3))⟩,
 ⟨some 55, none, (.move (.tmp 4))⟩,
 ⟨some 56, none, (.move (.tmp 3))⟩,
 ⟨some 57, none, (.move (.tmp 4))⟩,
 ⟨some 58, none, (.indexAddr 29 (.tmp 56) (.tmp 57))⟩,
 ⟨some 59, none, (.fieldAddr 66 (.tmp 58) 3)⟩,
 ⟨some 60, none, (.load 64 (.tmp 59))⟩,
 ⟨some 61, none, (.move (.tmp 0))⟩,
 ⟨some 62, none, (.call ⟨(.value (.func 91)), #[(.tmp 61)], #[48]⟩)⟩,
 ⟨some 63, none, (.buildSlice 64 1 #[(0, (.tmp 62))])⟩,
 ⟨some 64, none, (.call ⟨(.builtin .append), #[(.tmp 60), (.tmp 63)], #[64, 64]⟩)⟩,
 ⟨some 65, none, (.indexAddr 29 (.tmp 54) (.tmp 55))⟩,
 ⟨some 66, none, (.fieldAddr 66 (.tmp 65) 3)⟩,
 ⟨none, none, (.store 64 (.tmp 66) (.tmp 64))⟩])
 (.seq
 (.ops [⟨some 68, none, (.binOp .eql 3 (.tmp 12) (.const (.int .i64 6)) 3)⟩,
 ⟨some 67, none, (.assign (.tmp 68))⟩])
 (.cond (.tmp 67)
 (.block 1
 (.loop
 (.seq
 (.seq
 (.ops [⟨some 69, none, (.move (.tmp 3))⟩,
 ⟨some 70, none, (.call ⟨(.builtin .len), #[(.tmp 69)], #[29]⟩)⟩,
 ⟨some 71, none, (.move (.tmp 0))⟩,
 ⟨some 72, none, (.call ⟨(.value (.func 35)), #[(.tmp 71), (.const (.int .i64 2))], #[48, 3]⟩)⟩,
 ⟨some 73, none, (.binOp .add 3 (.const (.int .i64 60)) (.tmp 72) 3)⟩,
 ⟨some 74, none, (.binOp .lss 3 (.tmp 70) (.tmp 73) 3)⟩])
 (.cond (.tmp 74)
 .skip
 (.exit 1)))
 (.block 2
 (.ops [⟨some 75, none, (.move (.tmp 3))⟩,
 ⟨some 76, none, (.build 63 #[(0, (.const (.int .i64 45)))])⟩,
 ⟨some 77, none, (.build 66 #[(0, (.const (.int .i64 4))), (2, (.tmp 76))])⟩,
 ⟨some 78, none, (.buildSlice 29 1 #[(0, (.tmp 77))])⟩,
 ⟨some 79, none, (.call ⟨(.builtin .append), #[(.tmp 75), (.tmp 78)], #[29, 29]⟩)⟩,
 ⟨some 3, none, (.assign (.tmp 79))⟩])))))
 .skip))))))))))))))))
 (.seq
 (.ops [⟨some 80, none, (.move (.tmp 3))⟩,
 ⟨some 2, none, (.assign (.tmp 80))⟩])
 .ret)))))
theorem w65 {args : Array Value} {H : AH} {Φ : Value → AH → Prop} (h : rW Try.prog k65 [] (fin Try.prog [(.tmp 2)] Φ) (tm0 args) H) : CallsA Try.prog 65 args H Φ :=
  CallsA.w k65 [(.tmp 2)] (fun i => if i = 15 then [(6, 0), (6, 9)] else []) Try.func65 rfl rfl (by kernel_rfl) (by kernel_rfl) h

/-- spec.DrawCodePack -/
def k29 : KC :=
 (.seq
 (.ops [⟨some 2, none, (.assign (.const (.slice none 0 0)))⟩])
 (.seq
 (.ops [⟨some 3, none, (.move (.tmp 0))⟩,
 ⟨some 4, none, (.call ⟨(.value (.func 32)), #[(.tmp 3)], #[22]⟩)⟩,
 ⟨some 5, none, (.call ⟨(.value (.func 65)), #[(.tmp 4)], #[48]⟩)⟩,
 ⟨some 2, none, (.assign (.tmp 5))⟩])
 .ret))
theorem w29 {args : Array Value} {H : AH} {Φ : Value → AH → Prop} (h : rW Try.prog k29 [] (fin Try.prog [(.tmp 2)] Φ) (tm0 args) H) : CallsA Try.prog 29 args H Φ :=
  CallsA.w k29 [(.tmp 2)] (fun _ => []) Try.func29 rfl rfl (by kernel_rfl) (by kernel_rfl) h

/-- spec.DrawCodeRead -/
def k31 : KC :=
 (.seq
 (.ops [⟨some 2, none, (.assign (.const (.slice none 0 0)))⟩])
 (.seq
 (.ops [⟨some 6, none, (.move (.tmp 0))⟩,
 ⟨some 7, none, (.call ⟨(.value (.func 32)), #[(.tmp 6)], #[22]⟩)⟩,
 ⟨some 3, none, (.assign (.tmp 7))⟩])
 (.seq
 (.ops [⟨some 9, none, (.move (.tmp 3))⟩,
 ⟨some 10, none, (.call ⟨(.value (.func 67)), #[(.tmp 9)], #[48]⟩)⟩,
 ⟨some 11, none, (.call ⟨(.value (.func 42)), #[(.tmp 10)], #[29]⟩)⟩,
 ⟨some 8, none, (.move (.tmp 11))⟩,
 ⟨some 12, none, (.extract (.tmp 8) 0)⟩,
 ⟨some 13, none, (.extract (.tmp 8) 1)⟩,
 ⟨some 4, none, (.assign (.tmp 12))⟩,
 ⟨some 5, none, (.assign (.tmp 13))⟩])
 (.seq
 (.seq
 (.ops [⟨some 14, none, (.move (.tmp 5))⟩,
 ⟨some 15, none, (.unOp .not 4 (.tmp 14))⟩])
 (.cond (.tmp 15)
 (.seq
 (.ops [⟨some 16, none, (.move (.tmp 4))⟩,
 ⟨some 2, none, (.assign (.tmp 16))⟩])
 .ret)
 .skip))
 (.seq
 (.seq
 (.ops [⟨some 17, none, (.move (.tmp 3))⟩,
 ⟨some 18, none, (.call ⟨(.value (.func 35)), #[(.tmp 17), (.const (.int .i64 5))], #[48, 3]⟩)⟩])
 (.block 0
 (.seq
 (.ops [⟨some 20, none, (.binOp .eql 3 (.tmp 18) (.const (.int .i64 0)) 3)⟩,
 ⟨some 19, none, (.assign (.tmp 20))⟩])
 (.cond (.tmp 19)
 (.ops [⟨some 21, none, (.move (.tmp 4))⟩,
 ⟨some 22, none, (.move (.tmp 3))⟩,
 ⟨some 23, none, (.move (.tmp 4))⟩,
 ⟨some 24, none, (.call ⟨(.builtin .len), #[(.tmp 23)], #[22]⟩)⟩,
 ⟨some 25, none, (.call ⟨(.value (.func 35)), #[(.tmp 22), (.tmp 24)], #[48, 3]⟩)⟩,
 ⟨some 26, none, (.move (.tmp 3))⟩,
 ⟨some 27, none, (.buildSlice 64 6 #[(0, (.const (.int .i64 0))), (1, (.const (.int .i64 1))), (2, (.const (.int .i64 2))), (3, (.const (.int .i64 5))), (4, (.const (.int .i64 43))), (5, (.const (.int .i64 255)))])⟩,
 ⟨some 28, none, (.call ⟨(.value (.func 68)), #[(.tmp 26), (.tmp 27)], #[48, 64]⟩)⟩,
 ⟨some 29, none, (.convert 3 5 (.tmp 28))⟩,
 ⟨some 30, none, (.indexAddr 22 (.tmp 21) (.tmp 25))⟩,
 ⟨none, none, (.store 5 (.tmp 30) (.tmp 29))⟩])
 (.seq
 (.ops [⟨some 32, none, (.binOp .eql 3 (.tmp 18) (.const (.int .i64 1)) 3)⟩,
 ⟨some 31, none, (.assign (.tmp 32))⟩])
 (.cond (.tmp 31)
 (.ops [⟨some 33, none, (.move (.tmp 4))⟩,
 ⟨some 34, none, (.move (.tmp 3))⟩,
 ⟨some 35, none, (.move (.tmp 4))⟩,
 ⟨some 36, none, (.call ⟨(.builtin .len), #[(.tmp 35)], #[22]⟩)⟩,
 ⟨some 37, none, (.binOp .add 3 (.tmp 36) (.const (.int .i64 1)) 3)⟩,
 ⟨some 38, none, (.call ⟨(.value (.func 35)), #[(.tmp 34), (.tmp 37)], #[48, 3]⟩)⟩,
 ⟨some 39, none, (.slice 22 (.tmp 33) none (some (.tmp 38)) none)⟩,
 ⟨some 4, none, (.assign (.tmp 39))⟩])
 (.seq
 (.ops [⟨some 41, none, (.binOp .eql 3 (.tmp 18) (.const (.int .i64 2)) 3)⟩,
 ⟨some 40, none, (.assign (.tmp 41))⟩])
 (.cond (.tmp 40)
 (.ops [⟨some 42, none, (.move (.tmp 4))⟩,
 ⟨some 43, none, (.buildSlice 22 1 #[(0, (.const (.int .u8 0)))])⟩,
 ⟨some 44, none, (.call ⟨(.builtin .append), #[(.tmp 42), (.tmp 43)], #[22, 22]⟩)⟩,
 ⟨some 4, none, (.assign (.tmp 44))⟩])
 .skip))))))))
 (.seq
 (.ops [⟨some 45, none, (.move (.tmp 4))⟩,
 ⟨some 2, none, (.assign (.tmp 45))⟩])
 .ret))))))
theorem w31 {args : Array Value} {H : AH} {Φ : Value → AH → Prop} (h : rW Try.prog k31 [] (fin Try.prog [(.tmp 2)] Φ) (tm0 args) H) : CallsA Try.prog 31 args H Φ :=
  CallsA.w k31 [(.tmp 2)] (fun _ => []) Try.func31 rfl rfl (by kernel_rfl) (by kernel_rfl) h

/-- laws.FnCodeBytes -/
def k6 : KC :=
 (.seq
 (.ops [⟨some 2, none, (.assign (.const (.bool false)))⟩])
 (.seq
 (.seq
 (.ops [⟨some 15, none, (.move (.tmp 0))⟩,
 ⟨some 16, none, (.call ⟨(.value (.func 7)), #[(.tmp 15)], #[22]⟩)⟩])
 (.cond (.tmp 16)
 (.seq
 (.ops [⟨some 2, none, (.assign (.const (.bool true)))⟩])
 .ret)
 .skip))
 (.seq
 (.ops [⟨some 17, none, (.move (.tmp 0))⟩,
 ⟨some 18, none, (.call ⟨(.value (.func 29)), #[(.tmp 17)], #[22]⟩)⟩,
 ⟨some 3, none, (.assign (.tmp 18))⟩])
 (.seq
 (.ops [⟨some 20, none, (.move (.tmp 3))⟩,
 ⟨some 21, none, (.call ⟨(.value (.func 24)), #[(.tmp 20)], #[29]⟩)⟩,
 ⟨some 19, none, (.move (.tmp 21))⟩,
 ⟨some 22, none, (.extract (.tmp 19) 0)⟩,
 ⟨some 23, none, (.extract (.tmp 19) 1)⟩,
 ⟨some 4, none, (.assign (.tmp 22))⟩,
 ⟨some 5, none, (.assign (.tmp 23))⟩])
 (.seq
 (.seq
 (.ops [⟨some 24, none, (.move (.tmp 5))⟩,
 ⟨some 25, none, (.move (.tmp 3))⟩,
 ⟨some 26, none, (.call ⟨(.value (.func 30)), #[(.tmp 25)], #[29]⟩)⟩,
 ⟨some 27, none, (.binOp .neq 4 (.tmp 24) (.tmp 26) 4)⟩,
 ⟨some 28, none, (.move (.tmp 27))⟩,
 ⟨some 29, (some (28, false)), (.move (.tmp 3))⟩,
 ⟨some 30, (some (28, false)), (.call ⟨(.value (.func 26)), #[(.tmp 29)], #[29]⟩)⟩,
 ⟨some 31, (some (28, false)), (.move (.tmp 5))⟩,
 ⟨some 32, (some (28, false)), (.binOp .neq 4 (.tmp 30) (.tmp 31) 4)⟩,
 ⟨some 33, none, (.pick (.tmp 28) (.const (.bool true)) (.tmp 32))⟩])
 (.cond (.tmp 33)
 (.seq
 (.ops [⟨some 2, none, (.assign (.const (.bool false)))⟩])
 .ret)
 .skip))
 (.seq
 (.seq
 (.ops [⟨some 34, none, (.move (.tmp 5))⟩])
 (.cond (.tmp 34)
 (.seq
 (.ops [⟨some 36, none, (.move (.tmp 4))⟩,
 ⟨some 37, none, (.call ⟨(.value (.func 14)), #[(.tmp 36)], #[22]⟩)⟩,
 ⟨some 35, none, (.move (.tmp 37))⟩,
 ⟨some 38, none, (.extract (.tmp 35) 0)⟩,
 ⟨some 39, none, (.extract (.tmp 35) 1)⟩,
 ⟨some 6, none, (.assign (.tmp 38))⟩,
 ⟨some 7, none, (.assign (.tmp 39))⟩])
 (.seq
 (.ops [⟨some 40, none, (.move (.tmp 7))⟩,
 ⟨some 41, none, (.unOp .not 4 (.tmp 40))⟩,
 ⟨some 42, none, (.move (.tmp 41))⟩,
 ⟨some 43, (some (42, false)), (.move (.tmp 6))⟩,
 ⟨some 44, (some (42, false)), (.move (.tmp 3))⟩,
 ⟨some 45, (some (42, false)), (.call ⟨(.value (.func 27)), #[(.tmp 43), (.tmp 44)], #[29, 29]⟩)⟩,
 ⟨some 46, (some (42, false)), (.unOp .not 4 (.tmp 45))⟩,
 ⟨some 47, none, (.pick (.tmp 42) (.const (.bool true)) (.tmp 46))⟩])
 (.cond (.tmp 47)
 (.seq
 (.ops [⟨some 2, none, (.assign (.const (.bool false)))⟩])
 .ret)
 .skip)))
 .skip))
 (.seq
 (.ops [⟨some 48, none, (.move (.tmp 0))⟩,
 ⟨some 49, none, (.call ⟨(.value (.func 31)), #[(.tmp 48)], #[22]⟩)⟩,
 ⟨some 8, none, (.assign (.tmp 49))⟩])
 (.seq
 (.ops [⟨some 51, none, (.move (.tmp 8))⟩,
 ⟨some 52, none, (.call ⟨(.value (.func 14)), #[(.tmp 51)], #[22]⟩)⟩,
 ⟨some 50, none, (.move (.tmp 52))⟩,
 ⟨some 53, none, (.extract (.tmp 50) 0)⟩,
 ⟨some 54, none, (.extract (.tmp 50) 1)⟩,
 ⟨some 9, none, (.assign (.tmp 53))⟩,
 ⟨some 10, none, (.assign (.tmp 54))⟩])
 (.seq
 (.ops [⟨some 56, none, (.move (.tmp 8))⟩,
 ⟨some 57, none, (.call ⟨(.value (.func 12)), #[(.tmp 56)], #[22]⟩)⟩,
 ⟨some 55, none, (.move (.tmp 57))⟩,
 ⟨some 58, none, (.extract (.tmp 55) 0)⟩,
 ⟨some 59, none, (.extract (.tmp 55) 1)⟩,
 ⟨some 11, none, (.assign (.tmp 58))⟩,
 ⟨some 12, none, (.assign (.tmp 59))⟩])
 (.seq
 (.seq
 (.ops [⟨some 60, none, (.move (.tmp 10))⟩,
 ⟨some 61, none, (.move (.tmp 12))⟩,
 ⟨some 62, none, (.binOp .neq 4 (.tmp 60) (.tmp 61) 4)⟩])
 (.cond (.tmp 62)
 (.seq
 (.ops [⟨some 2, none, (.assign (.const (.bool false)))⟩])
 .ret)
 .skip))
 (.seq
 (.ops [⟨some 64, none, (.move (.tmp 9))⟩,
 ⟨some 65, none, (.call ⟨(.value (.func 24)), #[(.tmp 64)], #[29]⟩)⟩,
 ⟨some 63, none, (.move (.tmp 65))⟩,
 ⟨some 66, none, (.extract (.tmp 63) 0)⟩,
 ⟨some 67, none, (.extract (.tmp 63) 1)⟩,
 ⟨some 13, none, (.assign (.tmp 66))⟩,
 ⟨some 14, none, (.assign (.tmp 67))⟩])
 (.seq
 (.ops [⟨some 68, none, (.move (.tmp 10))⟩,
 ⟨some 69, none, (.unOp .not 4 (.tmp 68))⟩,
 ⟨some 70, none, (.move (.tmp 69))⟩,
 ⟨some 71, (some (70, true)), (.move (.tmp 9))⟩,
 ⟨some 72, (some (70, true)), (.call ⟨(.builtin .len), #[(.tmp 71)], #[29]⟩)⟩,
 ⟨some 73, (some (70, true)), (.binOp .eql 3 (.tmp 72) (.const (.int .i64 0)) 3)⟩,
 ⟨some 74, none, (.pick (.tmp 70) (.tmp 73) (.const (.bool false)))⟩,
 ⟨some 75, none, (.move (.tmp 74))⟩,
 ⟨some 76, (some (75, false)), (.move (.tmp 10))⟩,
 ⟨some 77, (some (75, false)), (.move (.tmp 76))⟩,
 ⟨some 78, (some (77, true)), (.move (.tmp 14))⟩,
 ⟨some 79, (some (75, false)), (.pick (.tmp 77) (.tmp 78) (.const (.bool false)))⟩,
 ⟨some 80, (some (75, false)), (.move (.tmp 79))⟩,
 ⟨some 81, (some (80, true)), (.move (.tmp 13))⟩,
 ⟨some 82, (some (80, true)), (.convert 22 9 (.tmp 81))⟩,
 ⟨some 83, (some (80, true)), (.move (.tmp 8))⟩,
 ⟨some 84, (some (80, true)), (.convert 22 9 (.tmp 83))⟩,
 ⟨some 85, (some (80, true)), (.binOp .eql 9 (.tmp 82) (.tmp 84) 9)⟩,
 ⟨some 86, (some (75, false)), (.pick (.tmp 80) (.tmp 85) (.const (.bool false)))⟩,
 ⟨some 87, none, (.pick (.tmp 75) (.const (.bool true)) (.tmp 86))⟩,
 ⟨some 2, none, (.assign (.tmp 87))⟩])
 .ret))))))))))))
theorem w6 {args : Array Value} {H : AH} {Φ : Value → AH → Prop} (h : rW Try.prog k6 [] (fin Try.prog [(.tmp 2)] Φ) (tm0 args) H) : CallsA Try.prog 6 args H Φ :=
  CallsA.w k6 [(.tmp 2)] (fun _ => []) Try.func6 rfl rfl (by kernel_rfl) (by kernel_rfl) h

end Go.Proofs.Ytdagncfnkenbfaa.AM
