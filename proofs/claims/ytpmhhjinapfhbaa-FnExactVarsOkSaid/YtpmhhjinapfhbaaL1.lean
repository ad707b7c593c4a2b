/- What the functions answer. -/
import Derived.Test.YtpmhhjinapfhbaaK1
set_option linter.unusedVariables false
set_option linter.unusedSimpArgs false
set_option maxRecDepth 100000
/- What the functions answer. -/
namespace Go.Proofs.Ytpmhhjinapfhbaa.AM
open Go Go.Proofs.Ytpmhhjinapfhbaa Go.Proofs
theorem RpA.cons {P : Program} {H : AH} {t : TypeId} {ts : List TypeId} {vs : List Value} (h : RpA P H (t :: ts) vs) : ∃ v vs', vs = v :: vs' ∧ RpV P H t v ∧ RpA P H ts vs' := by
  cases vs with
  | nil => exact h.elim
  | cons v vs => exact ⟨v, vs, rfl, h.1, h.2⟩
theorem RpA.nil {P : Program} {H : AH} {vs : List Value} (h : RpA P H [] vs) : vs = [] := by
  cases vs with
  | nil => rfl
  | cons v vs => exact h.elim
theorem Rp.int {P : Program} {H : AH} {k : Nat} {t : TypeId} {q : IntKind} {vs : List Value} (hu : P.underlying t = some (.int q)) (h : Rp P H k t vs) : ∃ n, vs = [.int q n] ∧ (Lit.int q n).wf = true := by
  cases k with
  | zero => exact h.elim
  | succ k => simpa only [Rp, hu] using h
theorem Rp.struct {P : Program} {H : AH} {k : Nat} {t : TypeId} {fs : Array Field} {vs : List Value} (hu : P.underlying t = some (.struct fs)) (h : Rp P H k t vs) :
    vs.length = P.cellsOf t ∧ ∃ k, ∀ f ∈ fs.toList, Rp P H k f.type ((vs.drop f.offset).take (P.cellsOf f.type)) := by
  cases k with
  | zero => exact h.elim
  | succ k =>
    simp only [Rp, hu] at h
    exact ⟨h.1, k, h.2⟩
theorem list1 {α : Type} {l : List α} (h : l.length = 1) : ∃ a, l = [a] := List.length_eq_one_iff.1 h
theorem list2 {α : Type} {l : List α} (h : l.length = 2) : ∃ a b, l = [a, b] := by
  match l, h with
  | [a, b], _ => exact ⟨a, b, rfl⟩
theorem list3 {α : Type} {l : List α} (h : l.length = 3) : ∃ a b c, l = [a, b, c] := by
  match l, h with
  | [a, b, c], _ => exact ⟨a, b, c, rfl⟩
theorem bs_size {a : Array UInt8} : (ByteArray.mk a).size = a.size := rfl
theorem cof3 : Try.prog.cellsOf 3 = 1 := by kernel_rfl
/-- Bounds of an int. -/
def I64 (n : Int) : Prop := -9223372036854775808 ≤ n ∧ n ≤ 9223372036854775807
theorem wf_i64 {n : Int} (h : (Lit.int .i64 n).wf = true) : I64 n := by
  simp [Lit.wf, IntKind.min, IntKind.max, IntKind.bits, IntKind.signed] at h
  exact ⟨by omega, by omega⟩

def sg1 (s : Int) : Bool := s == 43 || s == 45 || s == 42 || s == 124 || s == 126
def sg2 (s : Int) : Bool := s == 43 || s == 45 || s == 42 || s == 37 || s == 124 || s == 38 || s == 94 || s == 61 || s == 60 || s == 62
def hasS (l : ByteArray) (s : Int) : Bool := (List.range l.size).any fun i => s == byt l i
theorem hasS_true {l : ByteArray} {s : Int} : hasS l s = true ↔ ∃ i, i < l.size ∧ byt l i = s := by
  simp only [hasS, List.any_eq_true, List.mem_range, beq_iff_eq]
  exact ⟨fun ⟨i, h1, h2⟩ => ⟨i, h1, h2.symm⟩, fun ⟨i, h1, h2⟩ => ⟨i, h1, h2.symm⟩⟩
theorem hasS_1 {s : Int} : hasS ⟨#[43, 45, 42, 124, 126]⟩ s = sg1 s := by
  show ((s == 43) || ((s == 45) || ((s == 42) || ((s == 124) || ((s == 126) || false))))) = _
  simp [sg1, Bool.or_assoc]
theorem hasS_2 {s : Int} : hasS ⟨#[43, 45, 42, 37, 124, 38, 94, 61, 60, 62]⟩ s = sg2 s := by
  show ((s == 43) || ((s == 45) || ((s == 42) || ((s == 37) || ((s == 124) || ((s == 38) || ((s == 94) || ((s == 61) || ((s == 60) || ((s == 62) || false)))))))))) = _
  simp [sg2, Bool.or_assoc]
theorem hasS_3 {s : Int} : hasS ⟨#[105, 35, 44, 114, 122, 103]⟩ s = (s == 105 || s == 35 || s == 44 || s == 114 || s == 122 || s == 103) := by
  show ((s == 105) || ((s == 35) || ((s == 44) || ((s == 114) || ((s == 122) || ((s == 103) || false)))))) = _
  simp [Bool.or_assoc]
theorem hasS_4 {s : Int} : hasS ⟨#[35, 44, 116, 100, 114, 64, 63, 36, 101]⟩ s = (s == 35 || s == 44 || s == 116 || s == 100 || s == 114 || s == 64 || s == 63 || s == 36 || s == 101) := by
  show ((s == 35) || ((s == 44) || ((s == 116) || ((s == 100) || ((s == 114) || ((s == 64) || ((s == 63) || ((s == 36) || ((s == 101) || false))))))))) = _
  simp [Bool.or_assoc]
def inB (x a b : Int) : Bool := decide (a ≤ x) && decide (x ≤ b)
theorem inB_true {x a b : Int} : inB x a b = true ↔ a ≤ x ∧ x ≤ b := by simp [inB]
def numOk (x : Int) : Bool := inB x (-1000000000000) 1000000000000

theorem l1In_ok (x a b : Int) (H : AH) : CallsA Try.prog 45 #[.int .i64 x, .int .i64 a, .int .i64 b] H fun r H' => r = .bool (inB x a b) ∧ H' = H := by
  refine w45 ?_
  unfold k45 inB
  simp -implicitDefEqProofs only [rE_seq_n, rE_seq_r, rE_seq_e, rE_blk_n, rE_blk_r, rE_blk_e, rW_skip, rW_ret, rW_exit, rW_ops, rW_seq, rW_block, ↓two_true, ↓two_false, rC_bool, rW_cond, rO_nil, rO_cons, oG_t, oG_f, oG_undef, rO_guard, oV_some, rOV_eq, oP_move, oP_assign, oP_bin, oP_un, oP_index, oP_fieldAddr, oP_field, oP_indexAddr, oP_slice, oP_load, oP_convert, aPick_true, aPick_false, aPick_bool, oP_pick, aExtract_tup, oP_extract, oP_nilCheck, oP_build, oP_len, oP_cap, oP_max, oP_min, oP_makeFunc, oS_some, oP_store, oA_some, oP_append, oM_some, oP_alloc, oP_box, oP_buildSlice, oP_mkS, oP_call, oP_callv, oF_func, aev_tmp, aev_const, aev_func, aput_get, aput_none, bin_add, bin_sub, bin_mul, bin_eql, bin_neq, bin_lss, bin_leq, bin_gtr, bin_geq, un_not, un_neg, tm0_get, fin_ret, fin_end, oR_some, resL_nil, resL_tmp, resL_cell, tup_one, tup_two, tup_nil, cond_true, cond_false, load_eq, Option.bind_some, gt0, gti, mkv, List.length_append, List.length_cons, List.length_nil, List.append_assoc, List.cons_append, List.nil_append, rd0, rdi, wrt0, wrti, rdB_own, rdB_ro, wrB_own, oL_some, aggAt, sto_some, st0, sti, List.set_cons_zero, List.set_cons_succ, splice_nil, splice_cons, cells_agg, cells_int, cells_bool, cells_string, cells_pointer, cells_slice, leaf_int, leaf_bool, leaf_string, leaf_pointer, leaf_slice, List.size_toArray, List.all_cons, List.all_nil, Bool.and_self, Bool.and_true, and_self, true_and, and_true, Nat.zero_add, Nat.add_zero, Nat.reduceLeDiff, Nat.le_refl, List.drop_zero, List.drop_succ_cons, List.take_succ_cons, List.take_zero, Nat.reduceSub, lp_end, lp_ret, lp_exit, oV_ite, oS_ite, oA_ite, slc_some, sls_some, optInt_none, optInt_some, rW_draw, rD_nil, rDV_eq, rDR_eq, rDE_eq, rDS_n, rDS_e, rD_load, rD_conv, rD_pure, rD_e, rD_g, rDG_t, rDG_f, rDG_undef, chkH_nil, chkH_cons, chkP_nil, chkP_cons, aRead_load, aRead_conv, isE_store, isE_call, isE_append, rDS_l, rDS_c, pl_move, pl_assign, pl_pick, pl_alloc, pl_box, pl_build, pl_buildSlice, pl_nilCheck, pl_binOp, pl_unOp, pl_makeFunc, pl_makeSlice, pl_slice, pl_fieldAddr, pl_field, pl_indexAddr, pl_index, pl_extract, pl_len, pl_cap, pl_max, pl_min, List.mem_cons, Prod.mk.injEq, List.not_mem_nil, or_false, or_true, false_or, true_or, and_false, false_and, false_implies, implies_true, true_implies, oM_ite, List.getElem?_toArray, List.getElem?_cons_zero, List.getElem?_cons_succ, List.getElem?_nil, Option.getD_some, Option.getD_none, Nat.reduceEqDiff, reduceIte, Nat.reduceAdd, List.map_toArray, List.map_cons, List.map_nil, Bool.false_eq_true, Nat.reduceBEq, Option.map_some, Option.map_none, reduceCtorEq]
  simp +contextual [two]
  omega
theorem l1In_eq {x a b : Int} {H : AH} {Φ : Value → AH → Prop} : CallsA Try.prog 45 #[.int .i64 x, .int .i64 a, .int .i64 b] H Φ = Φ (.bool (inB x a b)) H := (l1In_ok x a b H).eq0

theorem within_ok (x a b : Int) (H : AH) : CallsA Try.prog 48 #[.int .i64 x, .int .i64 a, .int .i64 b] H fun r H' => r = .bool (inB x a b) ∧ H' = H := by
  refine w48 ?_
  unfold k48 inB
  simp -implicitDefEqProofs only [rE_seq_n, rE_seq_r, rE_seq_e, rE_blk_n, rE_blk_r, rE_blk_e, rW_skip, rW_ret, rW_exit, rW_ops, rW_seq, rW_block, ↓two_true, ↓two_false, rC_bool, rW_cond, rO_nil, rO_cons, oG_t, oG_f, oG_undef, rO_guard, oV_some, rOV_eq, oP_move, oP_assign, oP_bin, oP_un, oP_index, oP_fieldAddr, oP_field, oP_indexAddr, oP_slice, oP_load, oP_convert, aPick_true, aPick_false, aPick_bool, oP_pick, aExtract_tup, oP_extract, oP_nilCheck, oP_build, oP_len, oP_cap, oP_max, oP_min, oP_makeFunc, oS_some, oP_store, oA_some, oP_append, oM_some, oP_alloc, oP_box, oP_buildSlice, oP_mkS, oP_call, oP_callv, oF_func, aev_tmp, aev_const, aev_func, aput_get, aput_none, bin_add, bin_sub, bin_mul, bin_eql, bin_neq, bin_lss, bin_leq, bin_gtr, bin_geq, un_not, un_neg, tm0_get, fin_ret, fin_end, oR_some, resL_nil, resL_tmp, resL_cell, tup_one, tup_two, tup_nil, cond_true, cond_false, load_eq, Option.bind_some, gt0, gti, mkv, List.length_append, List.length_cons, List.length_nil, List.append_assoc, List.cons_append, List.nil_append, rd0, rdi, wrt0, wrti, rdB_own, rdB_ro, wrB_own, oL_some, aggAt, sto_some, st0, sti, List.set_cons_zero, List.set_cons_succ, splice_nil, splice_cons, cells_agg, cells_int, cells_bool, cells_string, cells_pointer, cells_slice, leaf_int, leaf_bool, leaf_string, leaf_pointer, leaf_slice, List.size_toArray, List.all_cons, List.all_nil, Bool.and_self, Bool.and_true, and_self, true_and, and_true, Nat.zero_add, Nat.add_zero, Nat.reduceLeDiff, Nat.le_refl, List.drop_zero, List.drop_succ_cons, List.take_succ_cons, List.take_zero, Nat.reduceSub, lp_end, lp_ret, lp_exit, oV_ite, oS_ite, oA_ite, slc_some, sls_some, optInt_none, optInt_some, rW_draw, rD_nil, rDV_eq, rDR_eq, rDE_eq, rDS_n, rDS_e, rD_load, rD_conv, rD_pure, rD_e, rD_g, rDG_t, rDG_f, rDG_undef, chkH_nil, chkH_cons, chkP_nil, chkP_cons, aRead_load, aRead_conv, isE_store, isE_call, isE_append, rDS_l, rDS_c, pl_move, pl_assign, pl_pick, pl_alloc, pl_box, pl_build, pl_buildSlice, pl_nilCheck, pl_binOp, pl_unOp, pl_makeFunc, pl_makeSlice, pl_slice, pl_fieldAddr, pl_field, pl_indexAddr, pl_index, pl_extract, pl_len, pl_cap, pl_max, pl_min, List.mem_cons, Prod.mk.injEq, List.not_mem_nil, or_false, or_true, false_or, true_or, and_false, false_and, false_implies, implies_true, true_implies, oM_ite, List.getElem?_toArray, List.getElem?_cons_zero, List.getElem?_cons_succ, List.getElem?_nil, Option.getD_some, Option.getD_none, Nat.reduceEqDiff, reduceIte, Nat.reduceAdd, List.map_toArray, List.map_cons, List.map_nil, Bool.false_eq_true, Nat.reduceBEq, Option.map_some, Option.map_none, reduceCtorEq]
  simp +contextual [two]
  omega
theorem within_eq {x a b : Int} {H : AH} {Φ : Value → AH → Prop} : CallsA Try.prog 48 #[.int .i64 x, .int .i64 a, .int .i64 b] H Φ = Φ (.bool (inB x a b)) H := (within_ok x a b H).eq0

theorem specNumOk_ok (x : Int) (H : AH) : CallsA Try.prog 44 #[.int .i64 x] H fun r H' => r = .bool (numOk x) ∧ H' = H := by
  refine w44 ?_
  unfold k44 numOk
  simp -implicitDefEqProofs only [rE_seq_n, rE_seq_r, rE_seq_e, rE_blk_n, rE_blk_r, rE_blk_e, rW_skip, rW_ret, rW_exit, rW_ops, rW_seq, rW_block, ↓two_true, ↓two_false, rC_bool, rW_cond, rO_nil, rO_cons, oG_t, oG_f, oG_undef, rO_guard, oV_some, rOV_eq, oP_move, oP_assign, oP_bin, oP_un, oP_index, oP_fieldAddr, oP_field, oP_indexAddr, oP_slice, oP_load, oP_convert, aPick_true, aPick_false, aPick_bool, oP_pick, aExtract_tup, oP_extract, oP_nilCheck, oP_build, oP_len, oP_cap, oP_max, oP_min, oP_makeFunc, oS_some, oP_store, oA_some, oP_append, oM_some, oP_alloc, oP_box, oP_buildSlice, oP_mkS, oP_call, oP_callv, oF_func, aev_tmp, aev_const, aev_func, aput_get, aput_none, bin_add, bin_sub, bin_mul, bin_eql, bin_neq, bin_lss, bin_leq, bin_gtr, bin_geq, un_not, un_neg, tm0_get, fin_ret, fin_end, oR_some, resL_nil, resL_tmp, resL_cell, tup_one, tup_two, tup_nil, cond_true, cond_false, load_eq, Option.bind_some, gt0, gti, mkv, List.length_append, List.length_cons, List.length_nil, List.append_assoc, List.cons_append, List.nil_append, rd0, rdi, wrt0, wrti, rdB_own, rdB_ro, wrB_own, oL_some, aggAt, sto_some, st0, sti, List.set_cons_zero, List.set_cons_succ, splice_nil, splice_cons, cells_agg, cells_int, cells_bool, cells_string, cells_pointer, cells_slice, leaf_int, leaf_bool, leaf_string, leaf_pointer, leaf_slice, List.size_toArray, List.all_cons, List.all_nil, Bool.and_self, Bool.and_true, and_self, true_and, and_true, Nat.zero_add, Nat.add_zero, Nat.reduceLeDiff, Nat.le_refl, List.drop_zero, List.drop_succ_cons, List.take_succ_cons, List.take_zero, Nat.reduceSub, lp_end, lp_ret, lp_exit, oV_ite, oS_ite, oA_ite, slc_some, sls_some, optInt_none, optInt_some, rW_draw, rD_nil, rDV_eq, rDR_eq, rDE_eq, rDS_n, rDS_e, rD_load, rD_conv, rD_pure, rD_e, rD_g, rDG_t, rDG_f, rDG_undef, chkH_nil, chkH_cons, chkP_nil, chkP_cons, aRead_load, aRead_conv, isE_store, isE_call, isE_append, rDS_l, rDS_c, pl_move, pl_assign, pl_pick, pl_alloc, pl_box, pl_build, pl_buildSlice, pl_nilCheck, pl_binOp, pl_unOp, pl_makeFunc, pl_makeSlice, pl_slice, pl_fieldAddr, pl_field, pl_indexAddr, pl_index, pl_extract, pl_len, pl_cap, pl_max, pl_min, List.mem_cons, Prod.mk.injEq, List.not_mem_nil, or_false, or_true, false_or, true_or, and_false, false_and, false_implies, implies_true, true_implies, oM_ite, List.getElem?_toArray, List.getElem?_cons_zero, List.getElem?_cons_succ, List.getElem?_nil, Option.getD_some, Option.getD_none, Nat.reduceEqDiff, reduceIte, Nat.reduceAdd, List.map_toArray, List.map_cons, List.map_nil, Bool.false_eq_true, Nat.reduceBEq, Option.map_some, Option.map_none, reduceCtorEq, l1In_eq]
theorem specNumOk_eq {x : Int} {H : AH} {Φ : Value → AH → Prop} : CallsA Try.prog 44 #[.int .i64 x] H Φ = Φ (.bool (numOk x)) H := (specNumOk_ok x H).eq0

theorem implNumOk_ok (x : Int) (H : AH) : CallsA Try.prog 47 #[.int .i64 x] H fun r H' => r = .bool (numOk x) ∧ H' = H := by
  refine w47 ?_
  unfold k47 numOk
  simp -implicitDefEqProofs only [rE_seq_n, rE_seq_r, rE_seq_e, rE_blk_n, rE_blk_r, rE_blk_e, rW_skip, rW_ret, rW_exit, rW_ops, rW_seq, rW_block, ↓two_true, ↓two_false, rC_bool, rW_cond, rO_nil, rO_cons, oG_t, oG_f, oG_undef, rO_guard, oV_some, rOV_eq, oP_move, oP_assign, oP_bin, oP_un, oP_index, oP_fieldAddr, oP_field, oP_indexAddr, oP_slice, oP_load, oP_convert, aPick_true, aPick_false, aPick_bool, oP_pick, aExtract_tup, oP_extract, oP_nilCheck, oP_build, oP_len, oP_cap, oP_max, oP_min, oP_makeFunc, oS_some, oP_store, oA_some, oP_append, oM_some, oP_alloc, oP_box, oP_buildSlice, oP_mkS, oP_call, oP_callv, oF_func, aev_tmp, aev_const, aev_func, aput_get, aput_none, bin_add, bin_sub, bin_mul, bin_eql, bin_neq, bin_lss, bin_leq, bin_gtr, bin_geq, un_not, un_neg, tm0_get, fin_ret, fin_end, oR_some, resL_nil, resL_tmp, resL_cell, tup_one, tup_two, tup_nil, cond_true, cond_false, load_eq, Option.bind_some, gt0, gti, mkv, List.length_append, List.length_cons, List.length_nil, List.append_assoc, List.cons_append, List.nil_append, rd0, rdi, wrt0, wrti, rdB_own, rdB_ro, wrB_own, oL_some, aggAt, sto_some, st0, sti, List.set_cons_zero, List.set_cons_succ, splice_nil, splice_cons, cells_agg, cells_int, cells_bool, cells_string, cells_pointer, cells_slice, leaf_int, leaf_bool, leaf_string, leaf_pointer, leaf_slice, List.size_toArray, List.all_cons, List.all_nil, Bool.and_self, Bool.and_true, and_self, true_and, and_true, Nat.zero_add, Nat.add_zero, Nat.reduceLeDiff, Nat.le_refl, List.drop_zero, List.drop_succ_cons, List.take_succ_cons, List.take_zero, Nat.reduceSub, lp_end, lp_ret, lp_exit, oV_ite, oS_ite, oA_ite, slc_some, sls_some, optInt_none, optInt_some, rW_draw, rD_nil, rDV_eq, rDR_eq, rDE_eq, rDS_n, rDS_e, rD_load, rD_conv, rD_pure, rD_e, rD_g, rDG_t, rDG_f, rDG_undef, chkH_nil, chkH_cons, chkP_nil, chkP_cons, aRead_load, aRead_conv, isE_store, isE_call, isE_append, rDS_l, rDS_c, pl_move, pl_assign, pl_pick, pl_alloc, pl_box, pl_build, pl_buildSlice, pl_nilCheck, pl_binOp, pl_unOp, pl_makeFunc, pl_makeSlice, pl_slice, pl_fieldAddr, pl_field, pl_indexAddr, pl_index, pl_extract, pl_len, pl_cap, pl_max, pl_min, List.mem_cons, Prod.mk.injEq, List.not_mem_nil, or_false, or_true, false_or, true_or, and_false, false_and, false_implies, implies_true, true_implies, oM_ite, List.getElem?_toArray, List.getElem?_cons_zero, List.getElem?_cons_succ, List.getElem?_nil, Option.getD_some, Option.getD_none, Nat.reduceEqDiff, reduceIte, Nat.reduceAdd, List.map_toArray, List.map_cons, List.map_nil, Bool.false_eq_true, Nat.reduceBEq, Option.map_some, Option.map_none, reduceCtorEq, within_eq]
theorem implNumOk_eq {x : Int} {H : AH} {Φ : Value → AH → Prop} : CallsA Try.prog 47 #[.int .i64 x] H Φ = Φ (.bool (numOk x)) H := (implNumOk_ok x H).eq0

/-! ### rows of ints -/
def ints (l : List Int) : List Value := l.map (.int .i64)
theorem ints_get {l : List Int} {i : Nat} (h : i < l.length) : (ints l)[i]? = some (.int .i64 l[i]) := by simp [ints, h]
/-- A slice of ints that may be read. -/
def IntRow (H : AH) (v : Value) (l : List Int) : Prop :=
  (v = .slice none 0 0 ∧ l = []) ∨ ∃ b o cs, v = .slice (some ⟨b, o, none⟩) l.length 1 ∧ rd H b = some cs ∧ o + l.length ≤ cs.length ∧ (cs.drop o).take l.length = ints l
def toI : Value → Int | .int _ n => n | _ => 0
def rowI (H : AH) : Value → List Int
  | .slice (some ⟨b, o, _⟩) n _ => ((((rd H b).getD []).drop o).take n).map toI
  | _ => []
def OkI (H : AH) (v : Value) : Prop := IntRow H v (rowI H v)
theorem IntRow.row {H : AH} {v : Value} {l : List Int} (h : IntRow H v l) : rowI H v = l := by
  rcases h with ⟨rfl, rfl⟩ | ⟨b, o, cs, rfl, h1, _, h2⟩
  · rfl
  · simp only [rowI, h1, Option.getD_some, h2, ints, List.map_map]
    have : (toI ∘ Value.int IntKind.i64) = id := by funext n; rfl
    rw [this, List.map_id]
theorem IntRow.ok {H : AH} {v : Value} {l : List Int} (h : IntRow H v l) : OkI H v := by
  unfold OkI; rw [h.row]; exact h
theorem IntRow.same {H H' : AH} {v : Value} {l : List Int} (h : IntRow H v l) (hs : ∀ b o n c, v = .slice (some ⟨b, o, none⟩) n c → rd H' b = rd H b) : IntRow H' v l := by
  rcases h with h | ⟨b, o, cs, h1, h2, h3, h4⟩
  · exact .inl h
  · exact .inr ⟨b, o, cs, h1, by rw [hs _ _ _ _ h1]; exact h2, h3, h4⟩
theorem IntRow.mono {H L : AH} {v : Value} {l : List Int} (h : IntRow H v l) : IntRow (H ++ L) v l := by
  rcases h with h | ⟨b, o, cs, h1, h2, h3, h4⟩
  · exact .inl h
  · exact .inr ⟨b, o, cs, h1, by rw [rdl (by simp [h2]), h2], h3, h4⟩
theorem OkI.mono {H L : AH} {v : Value} (h : OkI H v) : OkI (H ++ L) v := (IntRow.mono h).ok
theorem rowI_mono {H L : AH} {v : Value} (h : OkI H v) : rowI (H ++ L) v = rowI H v := (IntRow.mono h).row
theorem IntRow.op {H : AH} {v : Value} {l : List Int} (h : IntRow H v l) : ∃ a c, v = .slice a l.length c ∧ (0 < l.length → ∃ b o cs, a = some ⟨b, o, none⟩ ∧ c = 1 ∧ rd H b = some cs ∧ o + l.length ≤ cs.length ∧ ∀ i (hi : i < l.length), cs[o + i]? = some (.int .i64 l[i])) := by
  rcases h with ⟨rfl, rfl⟩ | ⟨b, o, cs, rfl, h1, h2, h3⟩
  · exact ⟨none, 0, rfl, fun h => by simp at h⟩
  · refine ⟨_, _, rfl, fun _ => ⟨b, o, cs, rfl, rfl, h1, h2, fun i hi => ?_⟩⟩
    have := ints_get hi
    rw [← h3, List.getElem?_take_of_lt hi, List.getElem?_drop] at this
    exact this
theorem OkI.nil {H : AH} : OkI H (.slice none 0 0) := .inl ⟨rfl, rfl⟩
theorem rowI_nil {H : AH} {n c : Nat} : rowI H (.slice none n c) = [] := rfl

theorem eqIntS_ok {H : AH} {v w : Value} {l m : List Int} (hv : IntRow H v l) (hw : IntRow H w m) (hl : l.length < 9223372036854775807) : CallsA Try.prog 70 #[v, w] H fun r H' => r = .bool (l == m) ∧ H' = H := by
  obtain ⟨a, c, rfl, gv⟩ := hv.op
  obtain ⟨a', c', rfl, gw⟩ := hw.op
  refine w70 ?_
  unfold k70
  simp -implicitDefEqProofs only [rE_seq_n, rE_seq_r, rE_seq_e, rE_blk_n, rE_blk_r, rE_blk_e, rW_skip, rW_ret, rW_exit, rW_ops, rW_seq, rW_block, ↓two_true, ↓two_false, rC_bool, rW_cond, rO_nil, rO_cons, oG_t, oG_f, oG_undef, rO_guard, oV_some, rOV_eq, oP_move, oP_assign, oP_bin, oP_un, oP_index, oP_fieldAddr, oP_field, oP_indexAddr, oP_slice, oP_load, oP_convert, aPick_true, aPick_false, aPick_bool, oP_pick, aExtract_tup, oP_extract, oP_nilCheck, oP_build, oP_len, oP_cap, oP_max, oP_min, oP_makeFunc, oS_some, oP_store, oA_some, oP_append, oM_some, oP_alloc, oP_box, oP_buildSlice, oP_mkS, oP_call, oP_callv, oF_func, aev_tmp, aev_const, aev_func, aput_get, aput_none, bin_add, bin_sub, bin_mul, bin_eql, bin_neq, bin_lss, bin_leq, bin_gtr, bin_geq, un_not, un_neg, tm0_get, fin_ret, fin_end, oR_some, resL_nil, resL_tmp, resL_cell, tup_one, tup_two, tup_nil, cond_true, cond_false, load_eq, Option.bind_some, gt0, gti, mkv, List.length_append, List.length_cons, List.length_nil, List.append_assoc, List.cons_append, List.nil_append, rd0, rdi, wrt0, wrti, rdB_own, rdB_ro, wrB_own, oL_some, aggAt, sto_some, st0, sti, List.set_cons_zero, List.set_cons_succ, splice_nil, splice_cons, cells_agg, cells_int, cells_bool, cells_string, cells_pointer, cells_slice, leaf_int, leaf_bool, leaf_string, leaf_pointer, leaf_slice, List.size_toArray, List.all_cons, List.all_nil, Bool.and_self, Bool.and_true, and_self, true_and, and_true, Nat.zero_add, Nat.add_zero, Nat.reduceLeDiff, Nat.le_refl, List.drop_zero, List.drop_succ_cons, List.take_succ_cons, List.take_zero, Nat.reduceSub, lp_end, lp_ret, lp_exit, oV_ite, oS_ite, oA_ite, slc_some, sls_some, optInt_none, optInt_some, rW_draw, rD_nil, rDV_eq, rDR_eq, rDE_eq, rDS_n, rDS_e, rD_load, rD_conv, rD_pure, rD_e, rD_g, rDG_t, rDG_f, rDG_undef, chkH_nil, chkH_cons, chkP_nil, chkP_cons, aRead_load, aRead_conv, isE_store, isE_call, isE_append, rDS_l, rDS_c, pl_move, pl_assign, pl_pick, pl_alloc, pl_box, pl_build, pl_buildSlice, pl_nilCheck, pl_binOp, pl_unOp, pl_makeFunc, pl_makeSlice, pl_slice, pl_fieldAddr, pl_field, pl_indexAddr, pl_index, pl_extract, pl_len, pl_cap, pl_max, pl_min, List.mem_cons, Prod.mk.injEq, List.not_mem_nil, or_false, or_true, false_or, true_or, and_false, false_and, false_implies, implies_true, true_implies, oM_ite, List.getElem?_toArray, List.getElem?_cons_zero, List.getElem?_cons_succ, List.getElem?_nil, Option.getD_some, Option.getD_none, Nat.reduceEqDiff, reduceIte, Nat.reduceAdd, List.map_toArray, List.map_cons, List.map_nil, Bool.false_eq_true, Nat.reduceBEq, Option.map_some, Option.map_none, reduceCtorEq, ix51, ld3, ln51]
  refine two_intro (fun h => ?_) (fun h => ?_)
  · have : (l == m) = false := by
      rw [beq_eq_false_iff_ne]
      rintro rfl
      simp at h
    rw [this]
  · have hlen : l.length = m.length := by simp at h; omega
    refine rW_loop (σ := Nat) (fun i tm H' => tm 0 = .slice a l.length c ∧ tm 1 = .slice a' m.length c' ∧ tm 5 = .int .i64 i ∧ H' = H ∧ i ≤ l.length ∧ ∀ j, j < i → l[j]? = m[j]?) (fun i => l.length - i) 0 ?_ ?_
    · simp -implicitDefEqProofs [rE_seq_n, rE_seq_r, rE_seq_e, rE_blk_n, rE_blk_r, rE_blk_e, rW_skip, rW_ret, rW_exit, rW_ops, rW_seq, rW_block, ↓two_true, ↓two_false, rC_bool, rW_cond, rO_nil, rO_cons, oG_t, oG_f, oG_undef, rO_guard, oV_some, rOV_eq, oP_move, oP_assign, oP_bin, oP_un, oP_index, oP_fieldAddr, oP_field, oP_indexAddr, oP_slice, oP_load, oP_convert, aPick_true, aPick_false, aPick_bool, oP_pick, aExtract_tup, oP_extract, oP_nilCheck, oP_build, oP_len, oP_cap, oP_max, oP_min, oP_makeFunc, oS_some, oP_store, oA_some, oP_append, oM_some, oP_alloc, oP_box, oP_buildSlice, oP_mkS, oP_call, oP_callv, oF_func, aev_tmp, aev_const, aev_func, aput_get, aput_none, bin_add, bin_sub, bin_mul, bin_eql, bin_neq, bin_lss, bin_leq, bin_gtr, bin_geq, un_not, un_neg, tm0_get, fin_ret, fin_end, oR_some, resL_nil, resL_tmp, resL_cell, tup_one, tup_two, tup_nil, cond_true, cond_false, load_eq, Option.bind_some, gt0, gti, mkv, List.length_append, List.length_cons, List.length_nil, List.append_assoc, List.cons_append, List.nil_append, rd0, rdi, wrt0, wrti, rdB_own, rdB_ro, wrB_own, oL_some, aggAt, sto_some, st0, sti, List.set_cons_zero, List.set_cons_succ, splice_nil, splice_cons, cells_agg, cells_int, cells_bool, cells_string, cells_pointer, cells_slice, leaf_int, leaf_bool, leaf_string, leaf_pointer, leaf_slice, List.size_toArray, List.all_cons, List.all_nil, Bool.and_self, Bool.and_true, and_self, true_and, and_true, Nat.zero_add, Nat.add_zero, Nat.reduceLeDiff, Nat.le_refl, List.drop_zero, List.drop_succ_cons, List.take_succ_cons, List.take_zero, Nat.reduceSub, lp_end, lp_ret, lp_exit, oV_ite, oS_ite, oA_ite, slc_some, sls_some, optInt_none, optInt_some, rW_draw, rD_nil, rDV_eq, rDR_eq, rDE_eq, rDS_n, rDS_e, rD_load, rD_conv, rD_pure, rD_e, rD_g, rDG_t, rDG_f, rDG_undef, chkH_nil, chkH_cons, chkP_nil, chkP_cons, aRead_load, aRead_conv, isE_store, isE_call, isE_append, rDS_l, rDS_c, pl_move, pl_assign, pl_pick, pl_alloc, pl_box, pl_build, pl_buildSlice, pl_nilCheck, pl_binOp, pl_unOp, pl_makeFunc, pl_makeSlice, pl_slice, pl_fieldAddr, pl_field, pl_indexAddr, pl_index, pl_extract, pl_len, pl_cap, pl_max, pl_min, List.mem_cons, Prod.mk.injEq, List.not_mem_nil, or_false, or_true, false_or, true_or, and_false, false_and, false_implies, implies_true, true_implies, oM_ite, List.getElem?_toArray, List.getElem?_cons_zero, List.getElem?_cons_succ, List.getElem?_nil, Option.getD_some, Option.getD_none, Nat.reduceEqDiff, reduceIte, Nat.reduceAdd, List.map_toArray, List.map_cons, List.map_nil, Bool.false_eq_true, Nat.reduceBEq, Option.map_some, Option.map_none, reduceCtorEq, ix51, ld3, ln51]
    · rintro i tm H' ⟨h0, h1, h5, rfl, hi, hn⟩
      simp -implicitDefEqProofs only [rE_seq_n, rE_seq_r, rE_seq_e, rE_blk_n, rE_blk_r, rE_blk_e, rW_skip, rW_ret, rW_exit, rW_ops, rW_seq, rW_block, ↓two_true, ↓two_false, rC_bool, rW_cond, rO_nil, rO_cons, oG_t, oG_f, oG_undef, rO_guard, oV_some, rOV_eq, oP_move, oP_assign, oP_bin, oP_un, oP_index, oP_fieldAddr, oP_field, oP_indexAddr, oP_slice, oP_load, oP_convert, aPick_true, aPick_false, aPick_bool, oP_pick, aExtract_tup, oP_extract, oP_nilCheck, oP_build, oP_len, oP_cap, oP_max, oP_min, oP_makeFunc, oS_some, oP_store, oA_some, oP_append, oM_some, oP_alloc, oP_box, oP_buildSlice, oP_mkS, oP_call, oP_callv, oF_func, aev_tmp, aev_const, aev_func, aput_get, aput_none, bin_add, bin_sub, bin_mul, bin_eql, bin_neq, bin_lss, bin_leq, bin_gtr, bin_geq, un_not, un_neg, tm0_get, fin_ret, fin_end, oR_some, resL_nil, resL_tmp, resL_cell, tup_one, tup_two, tup_nil, cond_true, cond_false, load_eq, Option.bind_some, gt0, gti, mkv, List.length_append, List.length_cons, List.length_nil, List.append_assoc, List.cons_append, List.nil_append, rd0, rdi, wrt0, wrti, rdB_own, rdB_ro, wrB_own, oL_some, aggAt, sto_some, st0, sti, List.set_cons_zero, List.set_cons_succ, splice_nil, splice_cons, cells_agg, cells_int, cells_bool, cells_string, cells_pointer, cells_slice, leaf_int, leaf_bool, leaf_string, leaf_pointer, leaf_slice, List.size_toArray, List.all_cons, List.all_nil, Bool.and_self, Bool.and_true, and_self, true_and, and_true, Nat.zero_add, Nat.add_zero, Nat.reduceLeDiff, Nat.le_refl, List.drop_zero, List.drop_succ_cons, List.take_succ_cons, List.take_zero, Nat.reduceSub, lp_end, lp_ret, lp_exit, oV_ite, oS_ite, oA_ite, slc_some, sls_some, optInt_none, optInt_some, rW_draw, rD_nil, rDV_eq, rDR_eq, rDE_eq, rDS_n, rDS_e, rD_load, rD_conv, rD_pure, rD_e, rD_g, rDG_t, rDG_f, rDG_undef, chkH_nil, chkH_cons, chkP_nil, chkP_cons, aRead_load, aRead_conv, isE_store, isE_call, isE_append, rDS_l, rDS_c, pl_move, pl_assign, pl_pick, pl_alloc, pl_box, pl_build, pl_buildSlice, pl_nilCheck, pl_binOp, pl_unOp, pl_makeFunc, pl_makeSlice, pl_slice, pl_fieldAddr, pl_field, pl_indexAddr, pl_index, pl_extract, pl_len, pl_cap, pl_max, pl_min, List.mem_cons, Prod.mk.injEq, List.not_mem_nil, or_false, or_true, false_or, true_or, and_false, false_and, false_implies, implies_true, true_implies, oM_ite, List.getElem?_toArray, List.getElem?_cons_zero, List.getElem?_cons_succ, List.getElem?_nil, Option.getD_some, Option.getD_none, Nat.reduceEqDiff, reduceIte, Nat.reduceAdd, List.map_toArray, List.map_cons, List.map_nil, Bool.false_eq_true, Nat.reduceBEq, Option.map_some, Option.map_none, reduceCtorEq, ix51, ld3, ln51, h0, h1, h5]
      refine two_intro (fun hc => ?_) (fun hc => ?_)
      · have hc' : i < l.length := by simpa using hc
        have hc2 : i < m.length := by omega
        obtain ⟨b, o, cs, rfl, rfl, hrd, _, hcell⟩ := gv (by omega)
        obtain ⟨b', o', cs', rfl, rfl, hrd', _, hcell'⟩ := gw (by omega)
        simp -implicitDefEqProofs only [rE_seq_n, rE_seq_r, rE_seq_e, rE_blk_n, rE_blk_r, rE_blk_e, rW_skip, rW_ret, rW_exit, rW_ops, rW_seq, rW_block, ↓two_true, ↓two_false, rC_bool, rW_cond, rO_nil, rO_cons, oG_t, oG_f, oG_undef, rO_guard, oV_some, rOV_eq, oP_move, oP_assign, oP_bin, oP_un, oP_index, oP_fieldAddr, oP_field, oP_indexAddr, oP_slice, oP_load, oP_convert, aPick_true, aPick_false, aPick_bool, oP_pick, aExtract_tup, oP_extract, oP_nilCheck, oP_build, oP_len, oP_cap, oP_max, oP_min, oP_makeFunc, oS_some, oP_store, oA_some, oP_append, oM_some, oP_alloc, oP_box, oP_buildSlice, oP_mkS, oP_call, oP_callv, oF_func, aev_tmp, aev_const, aev_func, aput_get, aput_none, bin_add, bin_sub, bin_mul, bin_eql, bin_neq, bin_lss, bin_leq, bin_gtr, bin_geq, un_not, un_neg, tm0_get, fin_ret, fin_end, oR_some, resL_nil, resL_tmp, resL_cell, tup_one, tup_two, tup_nil, cond_true, cond_false, load_eq, Option.bind_some, gt0, gti, mkv, List.length_append, List.length_cons, List.length_nil, List.append_assoc, List.cons_append, List.nil_append, rd0, rdi, wrt0, wrti, rdB_own, rdB_ro, wrB_own, oL_some, aggAt, sto_some, st0, sti, List.set_cons_zero, List.set_cons_succ, splice_nil, splice_cons, cells_agg, cells_int, cells_bool, cells_string, cells_pointer, cells_slice, leaf_int, leaf_bool, leaf_string, leaf_pointer, leaf_slice, List.size_toArray, List.all_cons, List.all_nil, Bool.and_self, Bool.and_true, and_self, true_and, and_true, Nat.zero_add, Nat.add_zero, Nat.reduceLeDiff, Nat.le_refl, List.drop_zero, List.drop_succ_cons, List.take_succ_cons, List.take_zero, Nat.reduceSub, lp_end, lp_ret, lp_exit, oV_ite, oS_ite, oA_ite, slc_some, sls_some, optInt_none, optInt_some, rW_draw, rD_nil, rDV_eq, rDR_eq, rDE_eq, rDS_n, rDS_e, rD_load, rD_conv, rD_pure, rD_e, rD_g, rDG_t, rDG_f, rDG_undef, chkH_nil, chkH_cons, chkP_nil, chkP_cons, aRead_load, aRead_conv, isE_store, isE_call, isE_append, rDS_l, rDS_c, pl_move, pl_assign, pl_pick, pl_alloc, pl_box, pl_build, pl_buildSlice, pl_nilCheck, pl_binOp, pl_unOp, pl_makeFunc, pl_makeSlice, pl_slice, pl_fieldAddr, pl_field, pl_indexAddr, pl_index, pl_extract, pl_len, pl_cap, pl_max, pl_min, List.mem_cons, Prod.mk.injEq, List.not_mem_nil, or_false, or_true, false_or, true_or, and_false, false_and, false_implies, implies_true, true_implies, oM_ite, List.getElem?_toArray, List.getElem?_cons_zero, List.getElem?_cons_succ, List.getElem?_nil, Option.getD_some, Option.getD_none, Nat.reduceEqDiff, reduceIte, Nat.reduceAdd, List.map_toArray, List.map_cons, List.map_nil, Bool.false_eq_true, Nat.reduceBEq, Option.map_some, Option.map_none, reduceCtorEq, ix51, ld3, ln51, h0, h1, h5, Int.toNat_natCast, Nat.mul_one, hrd, hrd', hcell i hc', hcell' i hc2, IntWalk.i64_in (↑i + 1) (by omega)]
        refine ⟨⟨by omega, by omega⟩, ⟨by omega, by omega⟩, two_intro (fun h => ?_) (fun h => ?_)⟩
        · have : (l == m) = false := by
            rw [beq_eq_false_iff_ne]
            rintro rfl
            simp at h
          rw [this]
        · refine ⟨i + 1, by omega, by simp, hc', fun j hj => ?_⟩
          rcases Nat.lt_or_ge j i with h1 | h1
          · exact hn j h1
          · have : j = i := by omega
            subst this
            simpa [hc', hc2] using h
      · have hc' : ¬ i < l.length := by simpa using hc
        have : (l == m) = true := by
          rw [beq_iff_eq]
          refine List.ext_getElem? fun j => ?_
          rcases Nat.lt_or_ge j i with h1 | h1
          · exact hn j h1
          · rw [List.getElem?_eq_none (by omega), List.getElem?_eq_none (by omega)]
        rw [this]
theorem eqIntS_eq {H : AH} {v w : Value} (hv : OkI H v) (hw : OkI H w) (hl : (rowI H v).length < 9223372036854775807) {Φ : Value → AH → Prop} : CallsA Try.prog 70 #[v, w] H Φ = Φ (.bool (rowI H v == rowI H w)) H := (eqIntS_ok hv hw hl).eq0

/-! ### rows that may be written -/
def OwnRow (H : AH) (v : Value) (l : List Int) : Prop :=
  (v = .slice none 0 0 ∧ l = []) ∨ ∃ b o cs, v = .slice (some ⟨b, o, none⟩) l.length 1 ∧ H[b]? = some ⟨cs, .own⟩ ∧ o + l.length ≤ cs.length ∧ (cs.drop o).take l.length = ints l
theorem rd_own {H : AH} {b : Nat} {cs : List Value} (h : H[b]? = some ⟨cs, .own⟩) : rd H b = some cs := by simp [rd, h, rdB]
theorem wrt_own {H : AH} {b : Nat} {cs : List Value} (h : H[b]? = some ⟨cs, .own⟩) : wrt H b = some cs := by simp [wrt, h, wrB]
theorem OwnRow.int {H : AH} {v : Value} {l : List Int} (h : OwnRow H v l) : IntRow H v l := by
  rcases h with h | ⟨b, o, cs, h1, h2, h3, h4⟩
  · exact .inl h
  · exact .inr ⟨b, o, cs, h1, rd_own h2, h3, h4⟩
def mks (k : Int) (n : Nat) : List Int := (List.range n).map fun (i : Nat) => k + (i : Int)
theorem mks_len {k : Int} {n : Nat} : (mks k n).length = n := by simp [mks]
theorem mks_get {k : Int} {n i : Nat} (h : i < n) : (mks k n)[i]? = some (k + i) := by simp [mks, h]
/-- The heap with other numbers in a row. -/
def putI (H : AH) (v : Value) (xs : List Int) : AH :=
  match v with
  | .slice (some ⟨b, o, _⟩) _ _ => H.set b ⟨splice ((wrt H b).getD []) o (ints xs), .own⟩
  | _ => H
def blkOf : Value → Option Nat
  | .slice (some ⟨b, _, _⟩) _ _ => some b
  | _ => none
theorem putI_len {H : AH} {v : Value} {xs : List Int} : (putI H v xs).length = H.length := by
  unfold putI; split <;> simp
theorem putI_get {H : AH} {v : Value} {xs : List Int} {b : Nat} (h : blkOf v ≠ some b) : (putI H v xs)[b]? = H[b]? := by
  unfold putI
  split
  · simp only [blkOf, ne_eq, Option.some.injEq] at h
    rw [List.getElem?_set_ne h]
  · rfl
theorem putI_rd {H : AH} {v : Value} {xs : List Int} {b : Nat} (h : blkOf v ≠ some b) : rd (putI H v xs) b = rd H b := by
  unfold rd; rw [putI_get h]
theorem splice_take {xs cs : List Value} {o : Nat} (h : o + xs.length ≤ cs.length) : ((splice cs o xs).drop o).take xs.length = xs := by
  refine List.ext_getElem? fun i => ?_
  rcases Nat.lt_or_ge i xs.length with h1 | h1
  · rw [List.getElem?_take_of_lt h1, List.getElem?_drop, splice_get xs cs o (o + i) h, if_pos (by omega), Nat.add_sub_cancel_left]
  · rw [List.getElem?_eq_none (by simp; omega), List.getElem?_eq_none (by omega)]
theorem OwnRow.put {H : AH} {v : Value} {l xs : List Int} (h : OwnRow H v l) (hx : xs.length = l.length) : OwnRow (putI H v xs) v xs := by
  rcases h with ⟨rfl, rfl⟩ | ⟨b, o, cs, rfl, h2, h3, h4⟩
  · exact .inl ⟨rfl, by cases xs <;> simp_all⟩
  · refine .inr ⟨b, o, splice cs o (ints xs), by rw [hx], ?_, ?_, ?_⟩
    · have hlt := (List.getElem?_eq_some_iff.1 h2).1
      simp only [putI, wrt_own h2, Option.getD_some]
      rw [List.getElem?_set_self hlt]
    · rw [splice_length]; omega
    · have := splice_take (xs := ints xs) (cs := cs) (o := o) (by simp [ints]; omega)
      rw [show (ints xs).length = xs.length by simp [ints]] at this
      exact this
theorem OwnRow.other {H : AH} {v w : Value} {l xs : List Int} (h : OwnRow H v l) (hb : blkOf v = none ∨ blkOf w ≠ blkOf v) : OwnRow (putI H w xs) v l := by
  rcases h with h | ⟨b, o, cs, rfl, h2, h3, h4⟩
  · exact .inl h
  · refine .inr ⟨b, o, cs, rfl, ?_, h3, h4⟩
    rw [putI_get]
    · exact h2
    · rcases hb with hb | hb
      · simp [blkOf] at hb
      · simpa [blkOf] using hb
theorem OwnRow.mono {H L : AH} {v : Value} {l : List Int} (h : OwnRow H v l) : OwnRow (H ++ L) v l := by
  rcases h with h | ⟨b, o, cs, h1, h2, h3, h4⟩
  · exact .inl h
  · exact .inr ⟨b, o, cs, h1, gtl h2, h3, h4⟩
theorem list_set_set {α : Type} {l : List α} {i : Nat} {a b : α} : (l.set i a).set i b = l.set i b := by simp
theorem splice_snoc {xs cs : List Value} {o : Nat} {v : Value} (h : o + xs.length < cs.length) : (splice cs o xs).set (o + xs.length) v = splice cs o (xs ++ [v]) := by
  refine List.ext_getElem? fun i => ?_
  rw [splice_get (xs ++ [v]) cs o i (by simp; omega), List.getElem?_set, splice_length, splice_get xs cs o i (by omega)]
  by_cases h1 : o + xs.length = i
  · subst h1
    rw [if_pos rfl, if_pos h, if_pos (by simp), Nat.add_sub_cancel_left]
    simp
  · rw [if_neg h1]
    by_cases h2 : o ≤ i ∧ i < o + xs.length
    · rw [if_pos h2, if_pos (by simp; omega), List.getElem?_append_left (by omega)]
    · rw [if_neg h2, if_neg (by simp; omega)]
/-- What heldIntS answers. -/
def heldI (l : List Int) (k : Int) : Int := if l = mks k l.length then k + l.length else -1
theorem heldI_mks {k : Int} {n : Nat} : heldI (mks k n) k = k + n := by simp [heldI, mks_len]

/-! ### rows of structs -/
/-- A slice of elements of 's' cells each, that may be read. -/
def SRow (H : AH) (v : Value) (s : Nat) (xs : List (List Value)) : Prop :=
  (v = .slice none 0 0 ∧ xs = []) ∨ ∃ b o cs, v = .slice (some ⟨b, o, none⟩) xs.length s ∧ rd H b = some cs ∧ o + xs.length * s ≤ cs.length ∧ ∀ (i : Nat) x, xs[i]? = some x → x.length = s ∧ ∀ (j : Nat) y, x[j]? = some y → cs[o + i * s + j]? = some y
def SOwn (H : AH) (v : Value) (s : Nat) (xs : List (List Value)) : Prop :=
  (v = .slice none 0 0 ∧ xs = []) ∨ ∃ b o cs, v = .slice (some ⟨b, o, none⟩) xs.length s ∧ H[b]? = some ⟨cs, .own⟩ ∧ o + xs.length * s ≤ cs.length ∧ ∀ (i : Nat) x, xs[i]? = some x → x.length = s ∧ ∀ (j : Nat) y, x[j]? = some y → cs[o + i * s + j]? = some y
theorem SOwn.row {H : AH} {v : Value} {s : Nat} {xs : List (List Value)} (h : SOwn H v s xs) : SRow H v s xs := by
  rcases h with h | ⟨b, o, cs, h1, h2, h3, h4⟩
  · exact .inl h
  · exact .inr ⟨b, o, cs, h1, rd_own h2, h3, h4⟩
theorem SRow.same {H H' : AH} {v : Value} {s : Nat} {xs : List (List Value)} (h : SRow H v s xs) (hs : ∀ b, blkOf v = some b → rd H' b = rd H b) : SRow H' v s xs := by
  rcases h with h | ⟨b, o, cs, h1, h2, h3, h4⟩
  · exact .inl h
  · exact .inr ⟨b, o, cs, h1, by rw [hs b (by rw [h1]; rfl)]; exact h2, h3, h4⟩
theorem SRow.mono {H L : AH} {v : Value} {s : Nat} {xs : List (List Value)} (h : SRow H v s xs) : SRow (H ++ L) v s xs := by
  rcases h with h | ⟨b, o, cs, h1, h2, h3, h4⟩
  · exact .inl h
  · exact .inr ⟨b, o, cs, h1, by rw [rdl (by simp [h2]), h2], h3, h4⟩
theorem SOwn.mono {H L : AH} {v : Value} {s : Nat} {xs : List (List Value)} (h : SOwn H v s xs) : SOwn (H ++ L) v s xs := by
  rcases h with h | ⟨b, o, cs, h1, h2, h3, h4⟩
  · exact .inl h
  · exact .inr ⟨b, o, cs, h1, gtl h2, h3, h4⟩
theorem SOwn.same {H H' : AH} {v : Value} {s : Nat} {xs : List (List Value)} (h : SOwn H v s xs) (hs : ∀ b, blkOf v = some b → H'[b]? = H[b]?) : SOwn H' v s xs := by
  rcases h with h | ⟨b, o, cs, h1, h2, h3, h4⟩
  · exact .inl h
  · exact .inr ⟨b, o, cs, h1, by rw [hs b (by rw [h1]; rfl)]; exact h2, h3, h4⟩
theorem row_idx {s i j i' j' : Nat} (h1 : j < s) (h2 : j' < s) (h : i * s + j = i' * s + j') : i = i' ∧ j = j' := by
  have hs : 0 < s := by omega
  have e1 : (i * s + j) / s = i := by rw [Nat.mul_comm, Nat.mul_add_div hs, Nat.div_eq_of_lt h1, Nat.add_zero]
  have e2 : (i' * s + j') / s = i' := by rw [Nat.mul_comm, Nat.mul_add_div hs, Nat.div_eq_of_lt h2, Nat.add_zero]
  have : i = i' := by rw [← e1, ← e2, h]
  subst this
  exact ⟨rfl, by omega⟩
theorem row_lt {s i n : Nat} (h : i < n) : i * s + s ≤ n * s := by
  have : (i + 1) * s ≤ n * s := Nat.mul_le_mul_right s h
  rw [Nat.add_mul, Nat.one_mul] at this
  exact this
theorem SRow.op {H : AH} {v : Value} {s : Nat} {xs : List (List Value)} (h : SRow H v s xs) : ∃ a c, v = .slice a xs.length c ∧ (0 < xs.length → ∃ b o cs, a = some ⟨b, o, none⟩ ∧ c = s ∧ rd H b = some cs ∧ o + xs.length * s ≤ cs.length ∧ ∀ (i : Nat) x, xs[i]? = some x → x.length = s ∧ ∀ (j : Nat) y, x[j]? = some y → cs[o + i * s + j]? = some y) := by
  rcases h with ⟨rfl, rfl⟩ | ⟨b, o, cs, rfl, h1, h2, h3⟩
  · exact ⟨none, 0, rfl, fun h => by simp at h⟩
  · exact ⟨_, _, rfl, fun _ => ⟨b, o, cs, rfl, rfl, h1, h2, h3⟩⟩
/-- A whole element. -/
theorem aggAt_row {cs x : List Value} {o s : Nat} (hx : x.length = s) (hlen : o + s ≤ cs.length) (h : ∀ (j : Nat) y, x[j]? = some y → cs[o + j]? = some y) : aggAt s o cs = some (.agg x.toArray) := by
  unfold aggAt
  rw [if_pos hlen]
  have : (cs.drop o).take s = x := by
    refine List.ext_getElem? fun j => ?_
    rcases Nat.lt_or_ge j s with h1 | h1
    · rw [List.getElem?_take_of_lt h1, List.getElem?_drop, h j _ (List.getElem?_eq_getElem (by omega))]
      exact (List.getElem?_eq_getElem (by omega)).symm
    · rw [List.getElem?_eq_none (by simp; omega), List.getElem?_eq_none (by omega)]
  rw [this]
/-- A cell of an element is written. -/
theorem SOwn.set {H : AH} {b o s : Nat} {cs : List Value} {xs : List (List Value)} {i j : Nat} {x : List Value} {y : Value} (hb : H[b]? = some ⟨cs, .own⟩) (hlen : o + xs.length * s ≤ cs.length)
    (hc : ∀ (i : Nat) x, xs[i]? = some x → x.length = s ∧ ∀ (j : Nat) y, x[j]? = some y → cs[o + i * s + j]? = some y) (hx : xs[i]? = some x) (hj : j < s) :
    SOwn (H.set b ⟨cs.set (o + i * s + j) y, .own⟩) (.slice (some ⟨b, o, none⟩) xs.length s) s (xs.set i (x.set j y)) := by
  have hbl : b < H.length := (List.getElem?_eq_some_iff.1 hb).1
  have hil : i < xs.length := (List.getElem?_eq_some_iff.1 hx).1
  refine .inr ⟨b, o, _, by simp, List.getElem?_set_self hbl, by simpa using hlen, ?_⟩
  intro i' x' hx'
  rw [List.getElem?_set] at hx'
  by_cases e : i = i'
  · subst e
    rw [if_pos rfl, if_pos hil] at hx'
    cases hx'
    have h0 := hc i x hx
    refine ⟨by simpa using h0.1, fun j' y' hy => ?_⟩
    rw [List.getElem?_set] at hy ⊢
    by_cases e2 : j = j'
    · subst e2
      rw [if_pos rfl, if_pos (by omega)] at hy
      cases hy
      have := row_lt (s := s) hil
      rw [if_pos rfl, if_pos (by omega)]
    · rw [if_neg e2] at hy
      rw [if_neg (by omega)]
      exact h0.2 j' y' hy
  · rw [if_neg e] at hx'
    have h0 := hc i' x' hx'
    refine ⟨h0.1, fun j' y' hy => ?_⟩
    have hj' : j' < s := by rw [← h0.1]; exact (List.getElem?_eq_some_iff.1 hy).1
    rw [List.getElem?_set, if_neg (fun h => e (row_idx hj hj' (by omega)).1)]
    exact h0.2 j' y' hy
/-! ### arrays -/
/-- What an array's two rows say. -/
structure Arr where
  sh : List Int
  dt : List Int
  deriving DecidableEq
def beqA (a b : Arr) : Bool := a.sh == b.sh && a.dt == b.dt
theorem beqA_iff {a b : Arr} : beqA a b = true ↔ a = b := by
  cases a; cases b; simp [beqA]

theorem eqArray_ok {H : AH} {p q p' q' : Value} (hp : OkI H p) (hq : OkI H q) (hp' : OkI H p') (hq' : OkI H q') (l1 : (rowI H p).length < 9223372036854775807) (l2 : (rowI H q).length < 9223372036854775807) :
    CallsA Try.prog 36 #[.agg #[p, q], .agg #[p', q']] H fun r H' => r = .bool (rowI H p == rowI H p' && rowI H q == rowI H q') ∧ ∃ K, H' = H ++ K := by
  refine w36 ?_
  unfold k36
  simp -implicitDefEqProofs only [rE_seq_n, rE_seq_r, rE_seq_e, rE_blk_n, rE_blk_r, rE_blk_e, rW_skip, rW_ret, rW_exit, rW_ops, rW_seq, rW_block, ↓two_true, ↓two_false, rC_bool, rW_cond, rO_nil, rO_cons, oG_t, oG_f, oG_undef, rO_guard, oV_some, rOV_eq, oP_move, oP_assign, oP_bin, oP_un, oP_index, oP_fieldAddr, oP_field, oP_indexAddr, oP_slice, oP_load, oP_convert, aPick_true, aPick_false, aPick_bool, oP_pick, aExtract_tup, oP_extract, oP_nilCheck, oP_build, oP_len, oP_cap, oP_max, oP_min, oP_makeFunc, oS_some, oP_store, oA_some, oP_append, oM_some, oP_alloc, oP_box, oP_buildSlice, oP_mkS, oP_call, oP_callv, oF_func, aev_tmp, aev_const, aev_func, aput_get, aput_none, bin_add, bin_sub, bin_mul, bin_eql, bin_neq, bin_lss, bin_leq, bin_gtr, bin_geq, un_not, un_neg, tm0_get, fin_ret, fin_end, oR_some, resL_nil, resL_tmp, resL_cell, tup_one, tup_two, tup_nil, cond_true, cond_false, load_eq, Option.bind_some, gt0, gti, mkv, List.length_append, List.length_cons, List.length_nil, List.append_assoc, List.cons_append, List.nil_append, rd0, rdi, wrt0, wrti, rdB_own, rdB_ro, wrB_own, oL_some, aggAt, sto_some, st0, sti, List.set_cons_zero, List.set_cons_succ, splice_nil, splice_cons, cells_agg, cells_int, cells_bool, cells_string, cells_pointer, cells_slice, leaf_int, leaf_bool, leaf_string, leaf_pointer, leaf_slice, List.size_toArray, List.all_cons, List.all_nil, Bool.and_self, Bool.and_true, and_self, true_and, and_true, Nat.zero_add, Nat.add_zero, Nat.reduceLeDiff, Nat.le_refl, List.drop_zero, List.drop_succ_cons, List.take_succ_cons, List.take_zero, Nat.reduceSub, lp_end, lp_ret, lp_exit, oV_ite, oS_ite, oA_ite, slc_some, sls_some, optInt_none, optInt_some, rW_draw, rD_nil, rDV_eq, rDR_eq, rDE_eq, rDS_n, rDS_e, rD_load, rD_conv, rD_pure, rD_e, rD_g, rDG_t, rDG_f, rDG_undef, chkH_nil, chkH_cons, chkP_nil, chkP_cons, aRead_load, aRead_conv, isE_store, isE_call, isE_append, rDS_l, rDS_c, pl_move, pl_assign, pl_pick, pl_alloc, pl_box, pl_build, pl_buildSlice, pl_nilCheck, pl_binOp, pl_unOp, pl_makeFunc, pl_makeSlice, pl_slice, pl_fieldAddr, pl_field, pl_indexAddr, pl_index, pl_extract, pl_len, pl_cap, pl_max, pl_min, List.mem_cons, Prod.mk.injEq, List.not_mem_nil, or_false, or_true, false_or, true_or, and_false, false_and, false_implies, implies_true, true_implies, oM_ite, List.getElem?_toArray, List.getElem?_cons_zero, List.getElem?_cons_succ, List.getElem?_nil, Option.getD_some, Option.getD_none, Nat.reduceEqDiff, reduceIte, Nat.reduceAdd, List.map_toArray, List.map_cons, List.map_nil, Bool.false_eq_true, Nat.reduceBEq, Option.map_some, Option.map_none, reduceCtorEq, fa55_0, fa55_1, ld51, eqIntS_eq, hp, hq, hp', hq', OkI.mono, rowI_mono, l1, l2]
  simp +contextual [two]
theorem eqArray_eq {H : AH} {p q p' q' : Value} (hp : OkI H p) (hq : OkI H q) (hp' : OkI H p') (hq' : OkI H q') (l1 : (rowI H p).length < 9223372036854775807) (l2 : (rowI H q).length < 9223372036854775807) {Φ : Value → AH → Prop} :
    CallsA Try.prog 36 #[.agg #[p, q], .agg #[p', q']] H Φ = Φ (.bool (rowI H p == rowI H p' && rowI H q == rowI H q')) (H ++ jk Try.prog 36 #[.agg #[p, q], .agg #[p', q']] H) := (eqArray_ok hp hq hp' hq' l1 l2).eqV

theorem eqVar_ok {H : AH} {s s' : Bool} {p q p' q' : Value} (hp : OkI H p) (hq : OkI H q) (hp' : OkI H p') (hq' : OkI H q') (l1 : (rowI H p).length < 9223372036854775807) (l2 : (rowI H q).length < 9223372036854775807) :
    CallsA Try.prog 49 #[.agg #[.bool s, p, q], .agg #[.bool s', p', q']] H fun r H' => r = .bool (s == s' && (rowI H p == rowI H p' && rowI H q == rowI H q')) ∧ ∃ K, H' = H ++ K := by
  refine w49 ?_
  unfold k49
  simp -implicitDefEqProofs only [rE_seq_n, rE_seq_r, rE_seq_e, rE_blk_n, rE_blk_r, rE_blk_e, rW_skip, rW_ret, rW_exit, rW_ops, rW_seq, rW_block, ↓two_true, ↓two_false, rC_bool, rW_cond, rO_nil, rO_cons, oG_t, oG_f, oG_undef, rO_guard, oV_some, rOV_eq, oP_move, oP_assign, oP_bin, oP_un, oP_index, oP_fieldAddr, oP_field, oP_indexAddr, oP_slice, oP_load, oP_convert, aPick_true, aPick_false, aPick_bool, oP_pick, aExtract_tup, oP_extract, oP_nilCheck, oP_build, oP_len, oP_cap, oP_max, oP_min, oP_makeFunc, oS_some, oP_store, oA_some, oP_append, oM_some, oP_alloc, oP_box, oP_buildSlice, oP_mkS, oP_call, oP_callv, oF_func, aev_tmp, aev_const, aev_func, aput_get, aput_none, bin_add, bin_sub, bin_mul, bin_eql, bin_neq, bin_lss, bin_leq, bin_gtr, bin_geq, un_not, un_neg, tm0_get, fin_ret, fin_end, oR_some, resL_nil, resL_tmp, resL_cell, tup_one, tup_two, tup_nil, cond_true, cond_false, load_eq, Option.bind_some, gt0, gti, mkv, List.length_append, List.length_cons, List.length_nil, List.append_assoc, List.cons_append, List.nil_append, rd0, rdi, wrt0, wrti, rdB_own, rdB_ro, wrB_own, oL_some, aggAt, sto_some, st0, sti, List.set_cons_zero, List.set_cons_succ, splice_nil, splice_cons, cells_agg, cells_int, cells_bool, cells_string, cells_pointer, cells_slice, leaf_int, leaf_bool, leaf_string, leaf_pointer, leaf_slice, List.size_toArray, List.all_cons, List.all_nil, Bool.and_self, Bool.and_true, and_self, true_and, and_true, Nat.zero_add, Nat.add_zero, Nat.reduceLeDiff, Nat.le_refl, List.drop_zero, List.drop_succ_cons, List.take_succ_cons, List.take_zero, Nat.reduceSub, lp_end, lp_ret, lp_exit, oV_ite, oS_ite, oA_ite, slc_some, sls_some, optInt_none, optInt_some, rW_draw, rD_nil, rDV_eq, rDR_eq, rDE_eq, rDS_n, rDS_e, rD_load, rD_conv, rD_pure, rD_e, rD_g, rDG_t, rDG_f, rDG_undef, chkH_nil, chkH_cons, chkP_nil, chkP_cons, aRead_load, aRead_conv, isE_store, isE_call, isE_append, rDS_l, rDS_c, pl_move, pl_assign, pl_pick, pl_alloc, pl_box, pl_build, pl_buildSlice, pl_nilCheck, pl_binOp, pl_unOp, pl_makeFunc, pl_makeSlice, pl_slice, pl_fieldAddr, pl_field, pl_indexAddr, pl_index, pl_extract, pl_len, pl_cap, pl_max, pl_min, List.mem_cons, Prod.mk.injEq, List.not_mem_nil, or_false, or_true, false_or, true_or, and_false, false_and, false_implies, implies_true, true_implies, oM_ite, List.getElem?_toArray, List.getElem?_cons_zero, List.getElem?_cons_succ, List.getElem?_nil, Option.getD_some, Option.getD_none, Nat.reduceEqDiff, reduceIte, Nat.reduceAdd, List.map_toArray, List.map_cons, List.map_nil, Bool.false_eq_true, Nat.reduceBEq, Option.map_some, Option.map_none, reduceCtorEq, fa67_0, fa67_1, ld4, ld55, (bin_bool_eql ub4), (bin_bool_neq ub4), eqArray_eq, hp, hq, hp', hq', OkI.mono, rowI_mono, l1, l2]
  simp +contextual [two]
  rintro - (h | h) g
  · exact absurd g h
  · exact h
theorem eqVar_eq {H : AH} {s s' : Bool} {p q p' q' : Value} (hp : OkI H p) (hq : OkI H q) (hp' : OkI H p') (hq' : OkI H q') (l1 : (rowI H p).length < 9223372036854775807) (l2 : (rowI H q).length < 9223372036854775807) {Φ : Value → AH → Prop} :
    CallsA Try.prog 49 #[.agg #[.bool s, p, q], .agg #[.bool s', p', q']] H Φ = Φ (.bool (s == s' && (rowI H p == rowI H p' && rowI H q == rowI H q'))) (H ++ jk Try.prog 49 #[.agg #[.bool s, p, q], .agg #[.bool s', p', q']] H) := (eqVar_ok hp hq hp' hq' l1 l2).eqV

/-- Vars, as cells: each letter's flag and its array's two rows. -/
abbrev VR3 := Bool × Value × Value
def vcells (x : VR3) : List Value := [.bool x.1, x.2.1, x.2.2]
def OkV (H : AH) (x : VR3) : Prop := OkI H x.2.1 ∧ OkI H x.2.2 ∧ (rowI H x.2.1).length < 4611686018427387904 ∧ (rowI H x.2.2).length < 4611686018427387904
theorem OkV.mono {H L : AH} {x : VR3} (h : OkV H x) : OkV (H ++ L) x := ⟨h.1.mono, h.2.1.mono, by rw [rowI_mono h.1]; exact h.2.2.1, by rw [rowI_mono h.2.1]; exact h.2.2.2⟩
/-- What a letter is. -/
def vval (H : AH) (x : VR3) : Bool × List Int × List Int := (x.1, rowI H x.2.1, rowI H x.2.2)
theorem vval_mono {H L : AH} {x : VR3} (h : OkV H x) : vval (H ++ L) x = vval H x := by
  unfold vval; rw [rowI_mono h.1, rowI_mono h.2.1]
theorem eqVarS_ok {H : AH} {v w : Value} {xs ys : List VR3} (hv : SRow H v 3 (xs.map vcells)) (hw : SRow H w 3 (ys.map vcells)) (hx : ∀ x ∈ xs, OkV H x) (hy : ∀ y ∈ ys, OkV H y) (hl : xs.length < 4611686018427387904) :
    CallsA Try.prog 20 #[v, w] H fun r H' => r = .bool (xs.map (vval H) == ys.map (vval H)) ∧ ∃ K, H' = H ++ K := by
  obtain ⟨a, c, rfl, gv⟩ := hv.op
  obtain ⟨a', c', rfl, gw⟩ := hw.op
  refine w20 ?_
  unfold k20
  simp -implicitDefEqProofs only [rE_seq_n, rE_seq_r, rE_seq_e, rE_blk_n, rE_blk_r, rE_blk_e, rW_skip, rW_ret, rW_exit, rW_ops, rW_seq, rW_block, ↓two_true, ↓two_false, rC_bool, rW_cond, rO_nil, rO_cons, oG_t, oG_f, oG_undef, rO_guard, oV_some, rOV_eq, oP_move, oP_assign, oP_bin, oP_un, oP_index, oP_fieldAddr, oP_field, oP_indexAddr, oP_slice, oP_load, oP_convert, aPick_true, aPick_false, aPick_bool, oP_pick, aExtract_tup, oP_extract, oP_nilCheck, oP_build, oP_len, oP_cap, oP_max, oP_min, oP_makeFunc, oS_some, oP_store, oA_some, oP_append, oM_some, oP_alloc, oP_box, oP_buildSlice, oP_mkS, oP_call, oP_callv, oF_func, aev_tmp, aev_const, aev_func, aput_get, aput_none, bin_add, bin_sub, bin_mul, bin_eql, bin_neq, bin_lss, bin_leq, bin_gtr, bin_geq, un_not, un_neg, tm0_get, fin_ret, fin_end, oR_some, resL_nil, resL_tmp, resL_cell, tup_one, tup_two, tup_nil, cond_true, cond_false, load_eq, Option.bind_some, gt0, gti, mkv, List.length_append, List.length_cons, List.length_nil, List.append_assoc, List.cons_append, List.nil_append, rd0, rdi, wrt0, wrti, rdB_own, rdB_ro, wrB_own, oL_some, aggAt, sto_some, st0, sti, List.set_cons_zero, List.set_cons_succ, splice_nil, splice_cons, cells_agg, cells_int, cells_bool, cells_string, cells_pointer, cells_slice, leaf_int, leaf_bool, leaf_string, leaf_pointer, leaf_slice, List.size_toArray, List.all_cons, List.all_nil, Bool.and_self, Bool.and_true, and_self, true_and, and_true, Nat.zero_add, Nat.add_zero, Nat.reduceLeDiff, Nat.le_refl, List.drop_zero, List.drop_succ_cons, List.take_succ_cons, List.take_zero, Nat.reduceSub, lp_end, lp_ret, lp_exit, oV_ite, oS_ite, oA_ite, slc_some, sls_some, optInt_none, optInt_some, rW_draw, rD_nil, rDV_eq, rDR_eq, rDE_eq, rDS_n, rDS_e, rD_load, rD_conv, rD_pure, rD_e, rD_g, rDG_t, rDG_f, rDG_undef, chkH_nil, chkH_cons, chkP_nil, chkP_cons, aRead_load, aRead_conv, isE_store, isE_call, isE_append, rDS_l, rDS_c, pl_move, pl_assign, pl_pick, pl_alloc, pl_box, pl_build, pl_buildSlice, pl_nilCheck, pl_binOp, pl_unOp, pl_makeFunc, pl_makeSlice, pl_slice, pl_fieldAddr, pl_field, pl_indexAddr, pl_index, pl_extract, pl_len, pl_cap, pl_max, pl_min, List.mem_cons, Prod.mk.injEq, List.not_mem_nil, or_false, or_true, false_or, true_or, and_false, false_and, false_implies, implies_true, true_implies, oM_ite, List.getElem?_toArray, List.getElem?_cons_zero, List.getElem?_cons_succ, List.getElem?_nil, Option.getD_some, Option.getD_none, Nat.reduceEqDiff, reduceIte, Nat.reduceAdd, List.map_toArray, List.map_cons, List.map_nil, Bool.false_eq_true, Nat.reduceBEq, Option.map_some, Option.map_none, reduceCtorEq, ix34, ld67, ln34]
  simp only [List.length_map] at gv gw ⊢
  refine two_intro (fun h => ?_) (fun h => ?_)
  · have : (xs.map (vval H) == ys.map (vval H)) = false := by
      rw [beq_eq_false_iff_ne]
      intro e
      have := congrArg List.length e
      simp at this h
      omega
    rw [this]
    exact ⟨rfl, [], by simp⟩
  · have hlen : xs.length = ys.length := by simp at h; omega
    refine rW_loop (σ := Nat) (fun i tm H' => tm 0 = .slice a xs.length c ∧ tm 1 = .slice a' ys.length c' ∧ tm 5 = .int .i64 i ∧ (∃ K, H' = H ++ K) ∧ i ≤ xs.length ∧ ∀ j, j < i → (xs[j]?).map (vval H) = (ys[j]?).map (vval H)) (fun i => xs.length - i) 0 ?_ ?_
    · simp -implicitDefEqProofs [rE_seq_n, rE_seq_r, rE_seq_e, rE_blk_n, rE_blk_r, rE_blk_e, rW_skip, rW_ret, rW_exit, rW_ops, rW_seq, rW_block, ↓two_true, ↓two_false, rC_bool, rW_cond, rO_nil, rO_cons, oG_t, oG_f, oG_undef, rO_guard, oV_some, rOV_eq, oP_move, oP_assign, oP_bin, oP_un, oP_index, oP_fieldAddr, oP_field, oP_indexAddr, oP_slice, oP_load, oP_convert, aPick_true, aPick_false, aPick_bool, oP_pick, aExtract_tup, oP_extract, oP_nilCheck, oP_build, oP_len, oP_cap, oP_max, oP_min, oP_makeFunc, oS_some, oP_store, oA_some, oP_append, oM_some, oP_alloc, oP_box, oP_buildSlice, oP_mkS, oP_call, oP_callv, oF_func, aev_tmp, aev_const, aev_func, aput_get, aput_none, bin_add, bin_sub, bin_mul, bin_eql, bin_neq, bin_lss, bin_leq, bin_gtr, bin_geq, un_not, un_neg, tm0_get, fin_ret, fin_end, oR_some, resL_nil, resL_tmp, resL_cell, tup_one, tup_two, tup_nil, cond_true, cond_false, load_eq, Option.bind_some, gt0, gti, mkv, List.length_append, List.length_cons, List.length_nil, List.append_assoc, List.cons_append, List.nil_append, rd0, rdi, wrt0, wrti, rdB_own, rdB_ro, wrB_own, oL_some, aggAt, sto_some, st0, sti, List.set_cons_zero, List.set_cons_succ, splice_nil, splice_cons, cells_agg, cells_int, cells_bool, cells_string, cells_pointer, cells_slice, leaf_int, leaf_bool, leaf_string, leaf_pointer, leaf_slice, List.size_toArray, List.all_cons, List.all_nil, Bool.and_self, Bool.and_true, and_self, true_and, and_true, Nat.zero_add, Nat.add_zero, Nat.reduceLeDiff, Nat.le_refl, List.drop_zero, List.drop_succ_cons, List.take_succ_cons, List.take_zero, Nat.reduceSub, lp_end, lp_ret, lp_exit, oV_ite, oS_ite, oA_ite, slc_some, sls_some, optInt_none, optInt_some, rW_draw, rD_nil, rDV_eq, rDR_eq, rDE_eq, rDS_n, rDS_e, rD_load, rD_conv, rD_pure, rD_e, rD_g, rDG_t, rDG_f, rDG_undef, chkH_nil, chkH_cons, chkP_nil, chkP_cons, aRead_load, aRead_conv, isE_store, isE_call, isE_append, rDS_l, rDS_c, pl_move, pl_assign, pl_pick, pl_alloc, pl_box, pl_build, pl_buildSlice, pl_nilCheck, pl_binOp, pl_unOp, pl_makeFunc, pl_makeSlice, pl_slice, pl_fieldAddr, pl_field, pl_indexAddr, pl_index, pl_extract, pl_len, pl_cap, pl_max, pl_min, List.mem_cons, Prod.mk.injEq, List.not_mem_nil, or_false, or_true, false_or, true_or, and_false, false_and, false_implies, implies_true, true_implies, oM_ite, List.getElem?_toArray, List.getElem?_cons_zero, List.getElem?_cons_succ, List.getElem?_nil, Option.getD_some, Option.getD_none, Nat.reduceEqDiff, reduceIte, Nat.reduceAdd, List.map_toArray, List.map_cons, List.map_nil, Bool.false_eq_true, Nat.reduceBEq, Option.map_some, Option.map_none, reduceCtorEq, ix34, ld67, ln34]
    · rintro i tm H' ⟨h0, h1, h5, ⟨K, rfl⟩, hi, hn⟩
      simp -implicitDefEqProofs only [rE_seq_n, rE_seq_r, rE_seq_e, rE_blk_n, rE_blk_r, rE_blk_e, rW_skip, rW_ret, rW_exit, rW_ops, rW_seq, rW_block, ↓two_true, ↓two_false, rC_bool, rW_cond, rO_nil, rO_cons, oG_t, oG_f, oG_undef, rO_guard, oV_some, rOV_eq, oP_move, oP_assign, oP_bin, oP_un, oP_index, oP_fieldAddr, oP_field, oP_indexAddr, oP_slice, oP_load, oP_convert, aPick_true, aPick_false, aPick_bool, oP_pick, aExtract_tup, oP_extract, oP_nilCheck, oP_build, oP_len, oP_cap, oP_max, oP_min, oP_makeFunc, oS_some, oP_store, oA_some, oP_append, oM_some, oP_alloc, oP_box, oP_buildSlice, oP_mkS, oP_call, oP_callv, oF_func, aev_tmp, aev_const, aev_func, aput_get, aput_none, bin_add, bin_sub, bin_mul, bin_eql, bin_neq, bin_lss, bin_leq, bin_gtr, bin_geq, un_not, un_neg, tm0_get, fin_ret, fin_end, oR_some, resL_nil, resL_tmp, resL_cell, tup_one, tup_two, tup_nil, cond_true, cond_false, load_eq, Option.bind_some, gt0, gti, mkv, List.length_append, List.length_cons, List.length_nil, List.append_assoc, List.cons_append, List.nil_append, rd0, rdi, wrt0, wrti, rdB_own, rdB_ro, wrB_own, oL_some, aggAt, sto_some, st0, sti, List.set_cons_zero, List.set_cons_succ, splice_nil, splice_cons, cells_agg, cells_int, cells_bool, cells_string, cells_pointer, cells_slice, leaf_int, leaf_bool, leaf_string, leaf_pointer, leaf_slice, List.size_toArray, List.all_cons, List.all_nil, Bool.and_self, Bool.and_true, and_self, true_and, and_true, Nat.zero_add, Nat.add_zero, Nat.reduceLeDiff, Nat.le_refl, List.drop_zero, List.drop_succ_cons, List.take_succ_cons, List.take_zero, Nat.reduceSub, lp_end, lp_ret, lp_exit, oV_ite, oS_ite, oA_ite, slc_some, sls_some, optInt_none, optInt_some, rW_draw, rD_nil, rDV_eq, rDR_eq, rDE_eq, rDS_n, rDS_e, rD_load, rD_conv, rD_pure, rD_e, rD_g, rDG_t, rDG_f, rDG_undef, chkH_nil, chkH_cons, chkP_nil, chkP_cons, aRead_load, aRead_conv, isE_store, isE_call, isE_append, rDS_l, rDS_c, pl_move, pl_assign, pl_pick, pl_alloc, pl_box, pl_build, pl_buildSlice, pl_nilCheck, pl_binOp, pl_unOp, pl_makeFunc, pl_makeSlice, pl_slice, pl_fieldAddr, pl_field, pl_indexAddr, pl_index, pl_extract, pl_len, pl_cap, pl_max, pl_min, List.mem_cons, Prod.mk.injEq, List.not_mem_nil, or_false, or_true, false_or, true_or, and_false, false_and, false_implies, implies_true, true_implies, oM_ite, List.getElem?_toArray, List.getElem?_cons_zero, List.getElem?_cons_succ, List.getElem?_nil, Option.getD_some, Option.getD_none, Nat.reduceEqDiff, reduceIte, Nat.reduceAdd, List.map_toArray, List.map_cons, List.map_nil, Bool.false_eq_true, Nat.reduceBEq, Option.map_some, Option.map_none, reduceCtorEq, ix34, ld67, ln34, h0, h1, h5]
      refine two_intro (fun hc => ?_) (fun hc => ?_)
      · have hc' : i < xs.length := by simpa using hc
        have hc2 : i < ys.length := by omega
        obtain ⟨b, o, cs, rfl, rfl, hrd, hle, hcell⟩ := gv (by omega)
        obtain ⟨b', o', cs', rfl, rfl, hrd', hle', hcell'⟩ := gw (by omega)
        have hx1 : (xs.map vcells)[i]? = some (vcells xs[i]) := by simp [hc']
        have hy1 : (ys.map vcells)[i]? = some (vcells ys[i]) := by simp [hc2]
        have r1 := row_lt (s := 3) hc'
        have r2 := row_lt (s := 3) hc2
        have g1 : rd (H ++ K) b = some cs := by rw [rdl (by simp [hrd]), hrd]
        have g2 : rd (H ++ K) b' = some cs' := by rw [rdl (by simp [hrd']), hrd']
        have l1 : ld Try.prog 67 (o + i * 3) cs = some (.agg #[.bool xs[i].1, xs[i].2.1, xs[i].2.2]) := by
          rw [ld67]; exact aggAt_row (hcell i _ hx1).1 (by omega) (hcell i _ hx1).2
        have l2 : ld Try.prog 67 (o' + i * 3) cs' = some (.agg #[.bool ys[i].1, ys[i].2.1, ys[i].2.2]) := by
          rw [ld67]; exact aggAt_row (hcell' i _ hy1).1 (by omega) (hcell' i _ hy1).2
        have o1 := (hx xs[i] (List.getElem_mem hc')).mono (L := K)
        have o2 := (hy ys[i] (List.getElem_mem hc2)).mono (L := K)
        have e1 := vval_mono (L := K) (hx xs[i] (List.getElem_mem hc'))
        have e2 := vval_mono (L := K) (hy ys[i] (List.getElem_mem hc2))
        simp only [vval, Prod.mk.injEq] at e1 e2
        have hcond : (xs[i].1 == ys[i].1 && (rowI (H ++ K) xs[i].2.1 == rowI (H ++ K) ys[i].2.1 && rowI (H ++ K) xs[i].2.2 == rowI (H ++ K) ys[i].2.2)) = (vval H xs[i] == vval H ys[i]) := by
          rw [e1.2.1, e1.2.2, e2.2.1, e2.2.2]
          rfl
        have q1 : (rowI (H ++ K) xs[i].2.1).length < 9223372036854775807 := by have := o1.2.2.1; omega
        have q2 : (rowI (H ++ K) xs[i].2.2).length < 9223372036854775807 := by have := o1.2.2.2; omega
        simp -implicitDefEqProofs only [rE_seq_n, rE_seq_r, rE_seq_e, rE_blk_n, rE_blk_r, rE_blk_e, rW_skip, rW_ret, rW_exit, rW_ops, rW_seq, rW_block, ↓two_true, ↓two_false, rC_bool, rW_cond, rO_nil, rO_cons, oG_t, oG_f, oG_undef, rO_guard, oV_some, rOV_eq, oP_move, oP_assign, oP_bin, oP_un, oP_index, oP_fieldAddr, oP_field, oP_indexAddr, oP_slice, oP_load, oP_convert, aPick_true, aPick_false, aPick_bool, oP_pick, aExtract_tup, oP_extract, oP_nilCheck, oP_build, oP_len, oP_cap, oP_max, oP_min, oP_makeFunc, oS_some, oP_store, oA_some, oP_append, oM_some, oP_alloc, oP_box, oP_buildSlice, oP_mkS, oP_call, oP_callv, oF_func, aev_tmp, aev_const, aev_func, aput_get, aput_none, bin_add, bin_sub, bin_mul, bin_eql, bin_neq, bin_lss, bin_leq, bin_gtr, bin_geq, un_not, un_neg, tm0_get, fin_ret, fin_end, oR_some, resL_nil, resL_tmp, resL_cell, tup_one, tup_two, tup_nil, cond_true, cond_false, load_eq, Option.bind_some, gt0, gti, mkv, List.length_append, List.length_cons, List.length_nil, List.append_assoc, List.cons_append, List.nil_append, rd0, rdi, wrt0, wrti, rdB_own, rdB_ro, wrB_own, oL_some, aggAt, sto_some, st0, sti, List.set_cons_zero, List.set_cons_succ, splice_nil, splice_cons, cells_agg, cells_int, cells_bool, cells_string, cells_pointer, cells_slice, leaf_int, leaf_bool, leaf_string, leaf_pointer, leaf_slice, List.size_toArray, List.all_cons, List.all_nil, Bool.and_self, Bool.and_true, and_self, true_and, and_true, Nat.zero_add, Nat.add_zero, Nat.reduceLeDiff, Nat.le_refl, List.drop_zero, List.drop_succ_cons, List.take_succ_cons, List.take_zero, Nat.reduceSub, lp_end, lp_ret, lp_exit, oV_ite, oS_ite, oA_ite, slc_some, sls_some, optInt_none, optInt_some, rW_draw, rD_nil, rDV_eq, rDR_eq, rDE_eq, rDS_n, rDS_e, rD_load, rD_conv, rD_pure, rD_e, rD_g, rDG_t, rDG_f, rDG_undef, chkH_nil, chkH_cons, chkP_nil, chkP_cons, aRead_load, aRead_conv, isE_store, isE_call, isE_append, rDS_l, rDS_c, pl_move, pl_assign, pl_pick, pl_alloc, pl_box, pl_build, pl_buildSlice, pl_nilCheck, pl_binOp, pl_unOp, pl_makeFunc, pl_makeSlice, pl_slice, pl_fieldAddr, pl_field, pl_indexAddr, pl_index, pl_extract, pl_len, pl_cap, pl_max, pl_min, List.mem_cons, Prod.mk.injEq, List.not_mem_nil, or_false, or_true, false_or, true_or, and_false, false_and, false_implies, implies_true, true_implies, oM_ite, List.getElem?_toArray, List.getElem?_cons_zero, List.getElem?_cons_succ, List.getElem?_nil, Option.getD_some, Option.getD_none, Nat.reduceEqDiff, reduceIte, Nat.reduceAdd, List.map_toArray, List.map_cons, List.map_nil, Bool.false_eq_true, Nat.reduceBEq, Option.map_some, Option.map_none, reduceCtorEq, ix34, ld67, ln34, h0, h1, h5, Int.toNat_natCast, g1, g2, l1, l2, eqVar_eq o1.1 o1.2.1 o2.1 o2.2.1 q1 q2, hcond, IntWalk.i64_in (↑i + 1) (by omega)]
        refine ⟨⟨by omega, by omega⟩, ⟨by omega, by omega⟩, two_intro (fun h => ?_) (fun h => ?_)⟩
        · have : (xs.map (vval H) == ys.map (vval H)) = false := by
            rw [beq_eq_false_iff_ne]
            intro e
            have := congrArg (fun z => z[i]?) e
            simp [hc', hc2] at this
            simp [this] at h
          rw [this]
          exact ⟨rfl, _, rfl⟩
        · refine ⟨i + 1, by omega, by simp, ⟨_, rfl⟩, hc', fun j hj => ?_⟩
          rcases Nat.lt_or_ge j i with h1 | h1
          · exact hn j h1
          · have : j = i := by omega
            subst this
            simpa [hc', hc2] using h
      · have hc' : ¬ i < xs.length := by simpa using hc
        have : (xs.map (vval H) == ys.map (vval H)) = true := by
          rw [beq_iff_eq]
          refine List.ext_getElem? fun j => ?_
          simp only [List.getElem?_map]
          rcases Nat.lt_or_ge j i with h1 | h1
          · exact hn j h1
          · rw [List.getElem?_eq_none (by omega), List.getElem?_eq_none (by omega)]
        rw [this]
        exact ⟨rfl, K, rfl⟩

theorem eqVarS_eq {H : AH} {v w : Value} (xs ys : List VR3) (hv : SRow H v 3 (xs.map vcells)) (hw : SRow H w 3 (ys.map vcells)) (hx : ∀ x ∈ xs, OkV H x) (hy : ∀ y ∈ ys, OkV H y) (hl : xs.length < 4611686018427387904) {Φ : Value → AH → Prop} :
    CallsA Try.prog 20 #[v, w] H Φ = Φ (.bool (xs.map (vval H) == ys.map (vval H))) (H ++ jk Try.prog 20 #[v, w] H) := (eqVarS_ok hv hw hx hy hl).eqV
/-- What heldVarS answers. -/
def heldV : List (Bool × List Int × List Int) → Int → Int
  | [], k => k
  | x :: r, k => if x.1 = (k % 3 == 0) then (if heldI x.2.1 (k + 1) < 0 then -1 else if heldI x.2.2 (heldI x.2.1 (k + 1)) < 0 then -1 else heldV r (heldI x.2.2 (heldI x.2.1 (k + 1)))) else -1
/-- How many places there are in some vars. -/
def cntV (l : List (Bool × List Int × List Int)) : Nat := (l.map fun x => 1 + x.2.1.length + x.2.2.length).sum
theorem heldI_le {l : List Int} {k : Int} : heldI l k = -1 ∨ heldI l k = k + l.length := by
  unfold heldI
  split
  · exact .inr rfl
  · exact .inl rfl

/-! ### marking vars -/
def Dj (v w : Value) : Prop := ∀ b, blkOf v = some b → blkOf w ≠ some b
theorem Dj.symm {v w : Value} (h : Dj v w) : Dj w v := fun b h1 h2 => h b h2 h1
theorem OwnRow.same {H H' : AH} {v : Value} {l : List Int} (h : OwnRow H v l) (hs : ∀ b, blkOf v = some b → H'[b]? = H[b]?) : OwnRow H' v l := by
  rcases h with h | ⟨b, o, cs, h1, h2, h3, h4⟩
  · exact .inl h
  · exact .inr ⟨b, o, cs, h1, by rw [hs b (by rw [h1]; rfl)]; exact h2, h3, h4⟩
theorem OwnRow.rowI {H : AH} {v : Value} {l : List Int} (h : OwnRow H v l) : rowI H v = l := h.int.row
theorem putI_dj {H : AH} {v w : Value} {l : List Int} (h : Dj v w) : ∀ b, blkOf w = some b → (putI H v l)[b]? = H[b]? := fun b hb => putI_get fun h2 => h b h2 hb
structure VD (v : Value) (xs : List VR3) : Prop where
  out : ∀ (i : Nat) x, xs[i]? = some x → Dj v x.2.1 ∧ Dj v x.2.2
  inn : ∀ (i : Nat) x, xs[i]? = some x → Dj x.2.1 x.2.2
  dif : ∀ (i j : Nat) x y, i ≠ j → xs[i]? = some x → xs[j]? = some y → Dj x.2.1 y.2.1 ∧ Dj x.2.1 y.2.2 ∧ Dj x.2.2 y.2.1 ∧ Dj x.2.2 y.2.2
def lensV (H : AH) (xs : List VR3) : List (Nat × Nat) := xs.map fun x => ((rowI H x.2.1).length, (rowI H x.2.2).length)
def cntL (l : List (Nat × Nat)) : Nat := (l.map fun x => 1 + x.1 + x.2).sum
def markL : List (Nat × Nat) → Int → List (Bool × List Int × List Int)
  | [], _ => []
  | x :: r, k => (k % 3 == 0, mks (k + 1) x.1, mks (k + 1 + x.1) x.2) :: markL r (k + 1 + x.1 + x.2)
theorem heldV_mark : ∀ (l : List (Nat × Nat)) (k : Int), 0 ≤ k → heldV (markL l k) k = k + cntL l
  | [], k, _ => by simp [markL, heldV, cntL]
  | x :: r, k, hk => by
    simp only [markL, heldV, if_true, heldI_mks]
    rw [if_neg (by omega), if_neg (by omega), heldV_mark r _ (by omega)]
    simp only [cntL, List.map_cons, List.sum_cons]
    omega
theorem cntV_mark : ∀ (l : List (Nat × Nat)) (k : Int), cntV (markL l k) = cntL l
  | [], _ => rfl
  | x :: r, k => by
    have := cntV_mark r (k + 1 + x.1 + x.2)
    simp only [cntV, cntL, markL, List.map_cons, List.sum_cons, mks_len] at this ⊢
    omega
structure MI (H : AH) (v : Value) (xs : List VR3) (k : Int) (i : Nat) (q : Int) (ys : List VR3) (H' : AH) : Prop where
  len : H'.length = H.length
  frame : ∀ b, blkOf v ≠ some b → (∀ (j : Nat) x, xs[j]? = some x → blkOf x.2.1 ≠ some b ∧ blkOf x.2.2 ≠ some b) → H'[b]? = H[b]?
  own : SOwn H' v 3 (ys.map vcells)
  yl : ys.length = xs.length
  same : ∀ (j : Nat) x y, xs[j]? = some x → ys[j]? = some y → y.2 = x.2
  rows : ∀ (j : Nat) x, xs[j]? = some x → OwnRow H' x.2.1 (rowI H' x.2.1) ∧ OwnRow H' x.2.2 (rowI H' x.2.2) ∧ (rowI H' x.2.1).length = (rowI H x.2.1).length ∧ (rowI H' x.2.2).length = (rowI H x.2.2).length
  done : ∀ (j : Nat) y, j < i → ys[j]? = some y → (markL (lensV H xs) k)[j]? = some (vval H' y)
  rest : (markL (lensV H xs) k).drop i = markL ((lensV H xs).drop i) q
  cnt : q + cntL ((lensV H xs).drop i) = k + cntL (lensV H xs)
  pos : 0 ≤ q

theorem MI.step {H H' : AH} {v : Value} {xs ys : List VR3} {k q : Int} {i b o : Nat} {cs : List Value} {x : VR3} (h : MI H v xs k i q ys H') (hd : VD v xs) (hx : xs[i]? = some x) (hv : v = .slice (some ⟨b, o, none⟩) xs.length 3) (hb : H'[b]? = some ⟨cs, .own⟩)
    (hlen : o + xs.length * 3 ≤ cs.length) (hc : ∀ (i : Nat) x, (ys.map vcells)[i]? = some x → x.length = 3 ∧ ∀ (j : Nat) y, x[j]? = some y → cs[o + i * 3 + j]? = some y) :
    MI H v xs k (i + 1) (q + 1 + (rowI H x.2.1).length + (rowI H x.2.2).length) (ys.set i (q % 3 == 0, x.2))
      (putI (putI (H'.set b ⟨cs.set (o + i * 3) (.bool (q % 3 == 0)), .own⟩) x.2.1 (mks (q + 1) (rowI H x.2.1).length)) x.2.2 (mks (q + 1 + (rowI H x.2.1).length) (rowI H x.2.2).length)) := by
  have hi : i < xs.length := (List.getElem?_eq_some_iff.1 hx).1
  have hiy : i < ys.length := by rw [h.yl]; exact hi
  have hyi : ys[i]? = some ys[i] := List.getElem?_eq_getElem hiy
  have hy2 : ys[i].2 = x.2 := h.same i x _ hx hyi
  obtain ⟨d1, d2⟩ := hd.out i x hx
  have d3 := hd.inn i x hx
  have hvb : blkOf v = some b := by rw [hv]; rfl
  -- the flag is written
  have hs : ∀ g, g ≠ b → (H'.set b ⟨cs.set (o + i * 3) (.bool (q % 3 == 0)), .own⟩)[g]? = H'[g]? := fun g hg => List.getElem?_set_ne (Ne.symm hg)
  obtain ⟨r1, r2, r3, r4⟩ := h.rows i x hx
  have hw : ∀ w, Dj v w → ∀ g, blkOf w = some g → (H'.set b ⟨cs.set (o + i * 3) (.bool (q % 3 == 0)), .own⟩)[g]? = H'[g]? := fun w hw g hg => hs g (by rintro rfl; exact hw g hvb hg)
  have o1 : OwnRow (H'.set b ⟨cs.set (o + i * 3) (.bool (q % 3 == 0)), .own⟩) x.2.1 (rowI H' x.2.1) := r1.same (hw _ d1)
  have o2 : OwnRow (H'.set b ⟨cs.set (o + i * 3) (.bool (q % 3 == 0)), .own⟩) x.2.2 (rowI H' x.2.2) := r2.same (hw _ d2)
  generalize hH1 : H'.set b ⟨cs.set (o + i * 3) (.bool (q % 3 == 0)), .own⟩ = H1 at *
  have p1 : OwnRow (putI H1 x.2.1 (mks (q + 1) (rowI H x.2.1).length)) x.2.1 (mks (q + 1) (rowI H x.2.1).length) := o1.put (by rw [mks_len, r3])
  have p2 : OwnRow (putI H1 x.2.1 (mks (q + 1) (rowI H x.2.1).length)) x.2.2 (rowI H' x.2.2) := o2.same (putI_dj d3)
  generalize hH2 : putI H1 x.2.1 (mks (q + 1) (rowI H x.2.1).length) = H2 at *
  have q1 : OwnRow (putI H2 x.2.2 (mks (q + 1 + (rowI H x.2.1).length) (rowI H x.2.2).length)) x.2.2 (mks (q + 1 + (rowI H x.2.1).length) (rowI H x.2.2).length) := p2.put (by rw [mks_len, r4])
  have q2 : OwnRow (putI H2 x.2.2 (mks (q + 1 + (rowI H x.2.1).length) (rowI H x.2.2).length)) x.2.1 (mks (q + 1) (rowI H x.2.1).length) := p1.same (putI_dj d3.symm)
  generalize hH3 : putI H2 x.2.2 (mks (q + 1 + (rowI H x.2.1).length) (rowI H x.2.2).length) = H3 at *
  -- what is not written stays
  have keep : ∀ g, blkOf v ≠ some g → blkOf x.2.1 ≠ some g → blkOf x.2.2 ≠ some g → H3[g]? = H'[g]? := by
    intro g g1 g2 g3
    rw [← hH3, putI_get g3, ← hH2, putI_get g2, hs g (by rintro rfl; exact g1 hvb)]
  have keepv : H3[b]? = H1[b]? := by
    rw [← hH3, putI_get (d2 b hvb), ← hH2, putI_get (d1 b hvb)]
  have other : ∀ (j : Nat) y, j ≠ i → xs[j]? = some y → (∀ g, blkOf y.2.1 = some g → H3[g]? = H'[g]?) ∧ (∀ g, blkOf y.2.2 = some g → H3[g]? = H'[g]?) := by
    intro j y hj hy
    obtain ⟨e1, e2⟩ := hd.out j y hy
    obtain ⟨f1, f2, f3, f4⟩ := hd.dif j i y x hj hy hx
    exact ⟨fun g hg => keep g (fun h2 => e1 g h2 hg) (f1 g hg) (f2 g hg), fun g hg => keep g (fun h2 => e2 g h2 hg) (f3 g hg) (f4 g hg)⟩
  have hset : (ys.set i (q % 3 == 0, x.2)).map vcells = (ys.map vcells).set i ((vcells ys[i]).set 0 (.bool (q % 3 == 0))) := by
    rw [List.map_set]
    simp [vcells, hy2]
  refine ⟨?_, ?_, ?_, ?_, ?_, ?_, ?_, ?_, ?_, ?_⟩
  · rw [← hH3, putI_len, ← hH2, putI_len, ← hH1, List.length_set, h.len]
  · intro g g1 g2
    obtain ⟨g3, g4⟩ := g2 i x hx
    rw [keep g g1 g3 g4]
    exact h.frame g g1 g2
  · have e : o + i * 3 = o + i * 3 + 0 := rfl
    have := SOwn.set (H := H') (b := b) (o := o) (s := 3) (cs := cs) (xs := ys.map vcells) (i := i) (j := 0) (x := vcells ys[i]) (y := .bool (q % 3 == 0)) hb (by simp [h.yl]; exact hlen) hc (by simp [hiy]) (by decide)
    rw [← e, hH1, ← hset] at this
    have hv2 : v = .slice (some ⟨b, o, none⟩) (ys.map vcells).length 3 := by rw [hv]; simp [h.yl]
    rw [← hv2] at this
    refine this.same fun g hg => ?_
    rw [hvb] at hg
    cases hg
    exact keepv
  · simp [h.yl]
  · intro j y z hy hz
    rw [List.getElem?_set] at hz
    by_cases e : i = j
    · subst e
      rw [if_pos rfl, if_pos hiy] at hz
      cases hz
      rw [hx] at hy; cases hy; rfl
    · rw [if_neg e] at hz
      exact h.same j y z hy hz
  · intro j y hy
    by_cases e : j = i
    · subst e
      rw [hx] at hy; cases hy
      rw [q2.rowI, q1.rowI]
      exact ⟨q2, q1, mks_len, mks_len⟩
    · obtain ⟨a1, a2⟩ := other j y e hy
      obtain ⟨c1, c2, c3, c4⟩ := h.rows j y hy
      have z1 := c1.same a1
      have z2 := c2.same a2
      rw [z1.rowI, z2.rowI]
      exact ⟨z1, z2, c3, c4⟩
  · intro j y hj hy
    rw [List.getElem?_set] at hy
    by_cases e : i = j
    · subst e
      rw [if_pos rfl, if_pos hiy] at hy
      cases hy
      have hlx : (lensV H xs)[i]? = some ((rowI H x.2.1).length, (rowI H x.2.2).length) := by simp [lensV, hx]
      have := h.rest
      have hl : i < (lensV H xs).length := by simp [lensV, hi]
      rw [List.drop_eq_getElem_cons hl] at this
      have h5 : (lensV H xs)[i] = ((rowI H x.2.1).length, (rowI H x.2.2).length) := by
        rw [List.getElem?_eq_getElem hl] at hlx; exact Option.some.inj hlx
      rw [h5] at this
      have h6 := congrArg (fun l : List (Bool × List Int × List Int) => l[0]?) this
      simp only [List.getElem?_drop, Nat.add_zero, markL, List.getElem?_cons_zero] at h6
      rw [h6]
      simp only [vval, q1.rowI, q2.rowI]
    · rw [if_neg e] at hy
      rw [h.done j y (by omega) hy]
      have hjl : j < xs.length := by rw [← h.yl]; exact (List.getElem?_eq_some_iff.1 hy).1
      have hxj := List.getElem?_eq_getElem hjl
      have hs2 := h.same j _ y hxj hy
      obtain ⟨a1, a2⟩ := other j _ (fun h => e h.symm) hxj
      obtain ⟨c1, c2, _, _⟩ := h.rows j _ hxj
      have z1 := c1.same a1
      have z2 := c2.same a2
      simp only [vval, hs2, z1.rowI, z2.rowI]
  · have hl : i < (lensV H xs).length := by simp [lensV, hi]
    have h5 : (lensV H xs)[i] = ((rowI H x.2.1).length, (rowI H x.2.2).length) := by
      have hlx : (lensV H xs)[i]? = some ((rowI H x.2.1).length, (rowI H x.2.2).length) := by simp [lensV, hx]
      rw [List.getElem?_eq_getElem hl] at hlx; exact Option.some.inj hlx
    have := h.rest
    rw [List.drop_eq_getElem_cons hl, h5] at this
    have h6 := congrArg (List.drop 1) this
    rw [List.drop_drop] at h6
    simpa [markL, Nat.add_comm] using h6
  · have hl : i < (lensV H xs).length := by simp [lensV, hi]
    have h5 : (lensV H xs)[i] = ((rowI H x.2.1).length, (rowI H x.2.2).length) := by
      have hlx : (lensV H xs)[i]? = some ((rowI H x.2.1).length, (rowI H x.2.2).length) := by simp [lensV, hx]
      rw [List.getElem?_eq_getElem hl] at hlx; exact Option.some.inj hlx
    have := h.cnt
    rw [List.drop_eq_getElem_cons hl, h5] at this
    simp only [cntL, List.map_cons, List.sum_cons] at this ⊢
    omega
  · have := h.pos
    omega
theorem markL_len : ∀ (l : List (Nat × Nat)) (k : Int), (markL l k).length = l.length
  | [], _ => rfl
  | x :: r, k => by simp [markL, markL_len r]
theorem MI.vals {H H' : AH} {v : Value} {xs ys : List VR3} {k q : Int} (h : MI H v xs k xs.length q ys H') : ys.map (vval H') = markL (lensV H xs) k := by
  refine List.ext_getElem? fun j => ?_
  rcases Nat.lt_or_ge j ys.length with h1 | h1
  · rw [List.getElem?_map, List.getElem?_eq_getElem h1, h.done j _ (by rw [← h.yl]; exact h1) (List.getElem?_eq_getElem h1)]
    rfl
  · rw [List.getElem?_eq_none (by simpa using h1), List.getElem?_eq_none (by rw [markL_len]; simp [lensV, ← h.yl]; exact h1)]
theorem MI.okv {H H' : AH} {v : Value} {xs ys : List VR3} {k q : Int} {i : Nat} (h : MI H v xs k i q ys H') (hx : ∀ x ∈ xs, OkV H x) : ∀ y ∈ ys, OkV H' y := by
  intro y hy
  obtain ⟨j, hj⟩ := List.mem_iff_getElem?.1 hy
  have hjl : j < xs.length := by rw [← h.yl]; exact (List.getElem?_eq_some_iff.1 hj).1
  have hxj := List.getElem?_eq_getElem hjl
  have h2 := h.same j _ y hxj hj
  obtain ⟨r1, r2, r3, r4⟩ := h.rows j _ hxj
  obtain ⟨_, _, s1, s2⟩ := hx _ (List.getElem_mem hjl)
  unfold OkV
  rw [h2]
  exact ⟨r1.int, r2.int, by rw [r3]; exact s1, by rw [r4]; exact s2⟩

theorem SOwn.new {H : AH} {s : Nat} {xs : List (List Value)} (h : ∀ x ∈ xs, x.length = s) : SOwn (H ++ [⟨xs.flatten, .own⟩]) (.slice (some ⟨H.length, 0, none⟩) xs.length s) s xs := by
  obtain ⟨h1, h2⟩ := flat_get xs h
  refine .inr ⟨H.length, 0, xs.flatten, rfl, by rw [gt0]; rfl, by rw [h1]; omega, ?_⟩
  intro i x hx
  have hl := h x (List.mem_iff_getElem?.2 ⟨i, hx⟩)
  refine ⟨hl, fun j y hy => ?_⟩
  have hj : j < s := by rw [← hl]; exact (List.getElem?_eq_some_iff.1 hy).1
  rw [← h2 i x hx, List.getElem?_take_of_lt hj, List.getElem?_drop] at hy
  rw [Nat.zero_add]
  exact hy
/-- New vars. -/
def nv : List VR3 := List.replicate 26 (false, .slice none 0 0, .slice none 0 0)
def nvc : List Value := (nv.map vcells).flatten
theorem nv_mem {x : VR3} (h : x ∈ nv) : x = (false, .slice none 0 0, .slice none 0 0) := by
  simp [nv] at h; exact h
theorem nv_get {i : Nat} {x : VR3} (h : nv[i]? = some x) : x = (false, .slice none 0 0, .slice none 0 0) := nv_mem (List.mem_iff_getElem?.2 ⟨i, h⟩)
theorem nv_own {H : AH} : SOwn (H ++ [⟨nvc, .own⟩]) (.slice (some ⟨H.length, 0, none⟩) 26 3) 3 (nv.map vcells) :=
  SOwn.new (s := 3) (xs := nv.map vcells) (by intro x hx; obtain ⟨y, _, rfl⟩ := List.mem_map.1 hx; rfl)
theorem okV_nil {H : AH} : OkV H (false, .slice none 0 0, .slice none 0 0) := ⟨OkI.nil, OkI.nil, by simp [rowI], by simp [rowI]⟩
theorem nv_ok {H : AH} : ∀ x ∈ nv, OkV H x := fun x hx => by rw [nv_mem hx]; exact okV_nil
theorem nv_val {H H' : AH} : nv.map (vval H) = nv.map (vval H') := by
  refine List.map_congr_left fun x hx => ?_
  rw [nv_mem hx]; rfl
theorem nv_lens {H : AH} : lensV H nv = List.replicate 26 (0, 0) := by
  simp [lensV, nv, rowI]
theorem nv_vd {v : Value} : VD v nv := by
  refine ⟨fun i x h => ?_, fun i x h => ?_, fun i j x y _ h1 h2 => ?_⟩
  · rw [nv_get h]; exact ⟨fun b _ h => by simp [blkOf] at h, fun b _ h => by simp [blkOf] at h⟩
  · rw [nv_get h]; exact fun b _ h => by simp [blkOf] at h
  · rw [nv_get h1, nv_get h2]
    exact ⟨fun b _ h => by simp [blkOf] at h, fun b _ h => by simp [blkOf] at h, fun b _ h => by simp [blkOf] at h, fun b _ h => by simp [blkOf] at h⟩

/-! ### what the laws make of their arguments -/
def szI (n : Nat) (left : Int) : Int := if left - n < 0 then -1 else left - n

theorem szIntS_ok {H : AH} {v : Value} {l : List Int} {q : Int} (hv : IntRow H v l) (hl : l.length ≤ 9223372036854775807) (hq : -1 ≤ q ∧ q ≤ 1048576) : CallsA Try.prog 63 #[v, .int .i64 q] H fun r H' => r = .int .i64 (szI l.length q) ∧ H' = H := by
  obtain ⟨a, c, rfl, gv⟩ := hv.op
  refine w63 ?_
  unfold k63
  simp -implicitDefEqProofs only [rE_seq_n, rE_seq_r, rE_seq_e, rE_blk_n, rE_blk_r, rE_blk_e, rW_skip, rW_ret, rW_exit, rW_ops, rW_seq, rW_block, ↓two_true, ↓two_false, rC_bool, rW_cond, rO_nil, rO_cons, oG_t, oG_f, oG_undef, rO_guard, oV_some, rOV_eq, oP_move, oP_assign, oP_bin, oP_un, oP_index, oP_fieldAddr, oP_field, oP_indexAddr, oP_slice, oP_load, oP_convert, aPick_true, aPick_false, aPick_bool, oP_pick, aExtract_tup, oP_extract, oP_nilCheck, oP_build, oP_len, oP_cap, oP_max, oP_min, oP_makeFunc, oS_some, oP_store, oA_some, oP_append, oM_some, oP_alloc, oP_box, oP_buildSlice, oP_mkS, oP_call, oP_callv, oF_func, aev_tmp, aev_const, aev_func, aput_get, aput_none, bin_add, bin_sub, bin_mul, bin_eql, bin_neq, bin_lss, bin_leq, bin_gtr, bin_geq, un_not, un_neg, tm0_get, fin_ret, fin_end, oR_some, resL_nil, resL_tmp, resL_cell, tup_one, tup_two, tup_nil, cond_true, cond_false, load_eq, Option.bind_some, gt0, gti, mkv, List.length_append, List.length_cons, List.length_nil, List.append_assoc, List.cons_append, List.nil_append, rd0, rdi, wrt0, wrti, rdB_own, rdB_ro, wrB_own, oL_some, aggAt, sto_some, st0, sti, List.set_cons_zero, List.set_cons_succ, splice_nil, splice_cons, cells_agg, cells_int, cells_bool, cells_string, cells_pointer, cells_slice, leaf_int, leaf_bool, leaf_string, leaf_pointer, leaf_slice, List.size_toArray, List.all_cons, List.all_nil, Bool.and_self, Bool.and_true, and_self, true_and, and_true, Nat.zero_add, Nat.add_zero, Nat.reduceLeDiff, Nat.le_refl, List.drop_zero, List.drop_succ_cons, List.take_succ_cons, List.take_zero, Nat.reduceSub, lp_end, lp_ret, lp_exit, oV_ite, oS_ite, oA_ite, slc_some, sls_some, optInt_none, optInt_some, rW_draw, rD_nil, rDV_eq, rDR_eq, rDE_eq, rDS_n, rDS_e, rD_load, rD_conv, rD_pure, rD_e, rD_g, rDG_t, rDG_f, rDG_undef, chkH_nil, chkH_cons, chkP_nil, chkP_cons, aRead_load, aRead_conv, isE_store, isE_call, isE_append, rDS_l, rDS_c, pl_move, pl_assign, pl_pick, pl_alloc, pl_box, pl_build, pl_buildSlice, pl_nilCheck, pl_binOp, pl_unOp, pl_makeFunc, pl_makeSlice, pl_slice, pl_fieldAddr, pl_field, pl_indexAddr, pl_index, pl_extract, pl_len, pl_cap, pl_max, pl_min, List.mem_cons, Prod.mk.injEq, List.not_mem_nil, or_false, or_true, false_or, true_or, and_false, false_and, false_implies, implies_true, true_implies, oM_ite, List.getElem?_toArray, List.getElem?_cons_zero, List.getElem?_cons_succ, List.getElem?_nil, Option.getD_some, Option.getD_none, Nat.reduceEqDiff, reduceIte, Nat.reduceAdd, List.map_toArray, List.map_cons, List.map_nil, Bool.false_eq_true, Nat.reduceBEq, Option.map_some, Option.map_none, reduceCtorEq, ln51]
  rw [IntWalk.i64_in (q - ↑l.length) (by omega)]
  unfold szI
  refine two_intro (fun h => ?_) (fun h => ?_)
  · rw [if_pos (by simpa using h)]
  · rw [if_neg (by simpa using h)]
theorem szIntS_eq {H : AH} {v : Value} {q : Int} (hv : OkI H v) (hl : (rowI H v).length ≤ 9223372036854775807) (hq : -1 ≤ q ∧ q ≤ 1048576) {Φ : Value → AH → Prop} : CallsA Try.prog 63 #[v, .int .i64 q] H Φ = Φ (.int .i64 (szI (rowI H v).length q)) H := (szIntS_ok hv hl hq).eq0
theorem set_fill {l : List Int} {i : Nat} (h : i < l.length) {z : Value} : (ints (l.take i) ++ List.replicate (l.length - i) z).set i (.int .i64 l[i]) = ints (l.take (i + 1)) ++ List.replicate (l.length - (i + 1)) z := by
  have h1 : (ints (l.take i)).length = i := by simp [ints]; omega
  rw [List.set_append_right _ _ (by omega), h1, Nat.sub_self]
  rw [show l.length - i = (l.length - (i + 1)) + 1 by omega, List.replicate_succ, List.set_cons_zero, List.take_succ_eq_append_getElem h]
  simp only [ints, List.map_append, List.map_cons, List.map_nil, List.append_assoc, List.cons_append, List.nil_append]

theorem toIntS_ok {H : AH} {v : Value} {l : List Int} (hv : IntRow H v l) (hl : l.length ≤ 1048576) : CallsA Try.prog 66 #[v] H fun r H' => r = .slice (some ⟨H.length, 0, none⟩) l.length 1 ∧ H' = H ++ [⟨ints l, .own⟩] := by
  obtain ⟨a, c, rfl, gv⟩ := hv.op
  have hr : ∀ n, (List.replicate n [Value.int .i64 0]).flatten = List.replicate n (.int .i64 0) := by
    intro n
    induction n with
    | zero => rfl
    | succ n ih => rw [List.replicate_succ, List.flatten_cons, ih, List.replicate_succ]; rfl
  refine w66 ?_
  unfold k66
  simp -implicitDefEqProofs only [rE_seq_n, rE_seq_r, rE_seq_e, rE_blk_n, rE_blk_r, rE_blk_e, rW_skip, rW_ret, rW_exit, rW_ops, rW_seq, rW_block, ↓two_true, ↓two_false, rC_bool, rW_cond, rO_nil, rO_cons, oG_t, oG_f, oG_undef, rO_guard, oV_some, rOV_eq, oP_move, oP_assign, oP_bin, oP_un, oP_index, oP_fieldAddr, oP_field, oP_indexAddr, oP_slice, oP_load, oP_convert, aPick_true, aPick_false, aPick_bool, oP_pick, aExtract_tup, oP_extract, oP_nilCheck, oP_build, oP_len, oP_cap, oP_max, oP_min, oP_makeFunc, oS_some, oP_store, oA_some, oP_append, oM_some, oP_alloc, oP_box, oP_buildSlice, oP_mkS, oP_call, oP_callv, oF_func, aev_tmp, aev_const, aev_func, aput_get, aput_none, bin_add, bin_sub, bin_mul, bin_eql, bin_neq, bin_lss, bin_leq, bin_gtr, bin_geq, un_not, un_neg, tm0_get, fin_ret, fin_end, oR_some, resL_nil, resL_tmp, resL_cell, tup_one, tup_two, tup_nil, cond_true, cond_false, load_eq, Option.bind_some, gt0, gti, mkv, List.length_append, List.length_cons, List.length_nil, List.append_assoc, List.cons_append, List.nil_append, rd0, rdi, wrt0, wrti, rdB_own, rdB_ro, wrB_own, oL_some, aggAt, sto_some, st0, sti, List.set_cons_zero, List.set_cons_succ, splice_nil, splice_cons, cells_agg, cells_int, cells_bool, cells_string, cells_pointer, cells_slice, leaf_int, leaf_bool, leaf_string, leaf_pointer, leaf_slice, List.size_toArray, List.all_cons, List.all_nil, Bool.and_self, Bool.and_true, and_self, true_and, and_true, Nat.zero_add, Nat.add_zero, Nat.reduceLeDiff, Nat.le_refl, List.drop_zero, List.drop_succ_cons, List.take_succ_cons, List.take_zero, Nat.reduceSub, lp_end, lp_ret, lp_exit, oV_ite, oS_ite, oA_ite, slc_some, sls_some, optInt_none, optInt_some, rW_draw, rD_nil, rDV_eq, rDR_eq, rDE_eq, rDS_n, rDS_e, rD_load, rD_conv, rD_pure, rD_e, rD_g, rDG_t, rDG_f, rDG_undef, chkH_nil, chkH_cons, chkP_nil, chkP_cons, aRead_load, aRead_conv, isE_store, isE_call, isE_append, rDS_l, rDS_c, pl_move, pl_assign, pl_pick, pl_alloc, pl_box, pl_build, pl_buildSlice, pl_nilCheck, pl_binOp, pl_unOp, pl_makeFunc, pl_makeSlice, pl_slice, pl_fieldAddr, pl_field, pl_indexAddr, pl_index, pl_extract, pl_len, pl_cap, pl_max, pl_min, List.mem_cons, Prod.mk.injEq, List.not_mem_nil, or_false, or_true, false_or, true_or, and_false, false_and, false_implies, implies_true, true_implies, oM_ite, List.getElem?_toArray, List.getElem?_cons_zero, List.getElem?_cons_succ, List.getElem?_nil, Option.getD_some, Option.getD_none, Nat.reduceEqDiff, reduceIte, Nat.reduceAdd, List.map_toArray, List.map_cons, List.map_nil, Bool.false_eq_true, Nat.reduceBEq, Option.map_some, Option.map_none, reduceCtorEq, ix51, ld3, ln51, ms51, st3, Int.toNat_natCast, hr]
  refine ⟨⟨by omega, by omega⟩, ?_⟩
  refine rW_loop (σ := Nat) (fun i tm H' => tm 0 = .slice a l.length c ∧ tm 3 = .slice (some ⟨H.length, 0, none⟩) l.length 1 ∧ tm 4 = .int .i64 i ∧ i ≤ l.length ∧ H' = H ++ [⟨ints (l.take i) ++ List.replicate (l.length - i) (.int .i64 0), .own⟩]) (fun i => l.length - i) 0 ?_ ?_
  · simp -implicitDefEqProofs [rE_seq_n, rE_seq_r, rE_seq_e, rE_blk_n, rE_blk_r, rE_blk_e, rW_skip, rW_ret, rW_exit, rW_ops, rW_seq, rW_block, ↓two_true, ↓two_false, rC_bool, rW_cond, rO_nil, rO_cons, oG_t, oG_f, oG_undef, rO_guard, oV_some, rOV_eq, oP_move, oP_assign, oP_bin, oP_un, oP_index, oP_fieldAddr, oP_field, oP_indexAddr, oP_slice, oP_load, oP_convert, aPick_true, aPick_false, aPick_bool, oP_pick, aExtract_tup, oP_extract, oP_nilCheck, oP_build, oP_len, oP_cap, oP_max, oP_min, oP_makeFunc, oS_some, oP_store, oA_some, oP_append, oM_some, oP_alloc, oP_box, oP_buildSlice, oP_mkS, oP_call, oP_callv, oF_func, aev_tmp, aev_const, aev_func, aput_get, aput_none, bin_add, bin_sub, bin_mul, bin_eql, bin_neq, bin_lss, bin_leq, bin_gtr, bin_geq, un_not, un_neg, tm0_get, fin_ret, fin_end, oR_some, resL_nil, resL_tmp, resL_cell, tup_one, tup_two, tup_nil, cond_true, cond_false, load_eq, Option.bind_some, gt0, gti, mkv, List.length_append, List.length_cons, List.length_nil, List.append_assoc, List.cons_append, List.nil_append, rd0, rdi, wrt0, wrti, rdB_own, rdB_ro, wrB_own, oL_some, aggAt, sto_some, st0, sti, List.set_cons_zero, List.set_cons_succ, splice_nil, splice_cons, cells_agg, cells_int, cells_bool, cells_string, cells_pointer, cells_slice, leaf_int, leaf_bool, leaf_string, leaf_pointer, leaf_slice, List.size_toArray, List.all_cons, List.all_nil, Bool.and_self, Bool.and_true, and_self, true_and, and_true, Nat.zero_add, Nat.add_zero, Nat.reduceLeDiff, Nat.le_refl, List.drop_zero, List.drop_succ_cons, List.take_succ_cons, List.take_zero, Nat.reduceSub, lp_end, lp_ret, lp_exit, oV_ite, oS_ite, oA_ite, slc_some, sls_some, optInt_none, optInt_some, rW_draw, rD_nil, rDV_eq, rDR_eq, rDE_eq, rDS_n, rDS_e, rD_load, rD_conv, rD_pure, rD_e, rD_g, rDG_t, rDG_f, rDG_undef, chkH_nil, chkH_cons, chkP_nil, chkP_cons, aRead_load, aRead_conv, isE_store, isE_call, isE_append, rDS_l, rDS_c, pl_move, pl_assign, pl_pick, pl_alloc, pl_box, pl_build, pl_buildSlice, pl_nilCheck, pl_binOp, pl_unOp, pl_makeFunc, pl_makeSlice, pl_slice, pl_fieldAddr, pl_field, pl_indexAddr, pl_index, pl_extract, pl_len, pl_cap, pl_max, pl_min, List.mem_cons, Prod.mk.injEq, List.not_mem_nil, or_false, or_true, false_or, true_or, and_false, false_and, false_implies, implies_true, true_implies, oM_ite, List.getElem?_toArray, List.getElem?_cons_zero, List.getElem?_cons_succ, List.getElem?_nil, Option.getD_some, Option.getD_none, Nat.reduceEqDiff, reduceIte, Nat.reduceAdd, List.map_toArray, List.map_cons, List.map_nil, Bool.false_eq_true, Nat.reduceBEq, Option.map_some, Option.map_none, reduceCtorEq, ix51, ld3, ln51, ms51, st3, ints]
  · rintro i tm H' ⟨h0, h3, h4, hi, rfl⟩
    simp -implicitDefEqProofs only [rE_seq_n, rE_seq_r, rE_seq_e, rE_blk_n, rE_blk_r, rE_blk_e, rW_skip, rW_ret, rW_exit, rW_ops, rW_seq, rW_block, ↓two_true, ↓two_false, rC_bool, rW_cond, rO_nil, rO_cons, oG_t, oG_f, oG_undef, rO_guard, oV_some, rOV_eq, oP_move, oP_assign, oP_bin, oP_un, oP_index, oP_fieldAddr, oP_field, oP_indexAddr, oP_slice, oP_load, oP_convert, aPick_true, aPick_false, aPick_bool, oP_pick, aExtract_tup, oP_extract, oP_nilCheck, oP_build, oP_len, oP_cap, oP_max, oP_min, oP_makeFunc, oS_some, oP_store, oA_some, oP_append, oM_some, oP_alloc, oP_box, oP_buildSlice, oP_mkS, oP_call, oP_callv, oF_func, aev_tmp, aev_const, aev_func, aput_get, aput_none, bin_add, bin_sub, bin_mul, bin_eql, bin_neq, bin_lss, bin_leq, bin_gtr, bin_geq, un_not, un_neg, tm0_get, fin_ret, fin_end, oR_some, resL_nil, resL_tmp, resL_cell, tup_one, tup_two, tup_nil, cond_true, cond_false, load_eq, Option.bind_some, gt0, gti, mkv, List.length_append, List.length_cons, List.length_nil, List.append_assoc, List.cons_append, List.nil_append, rd0, rdi, wrt0, wrti, rdB_own, rdB_ro, wrB_own, oL_some, aggAt, sto_some, st0, sti, List.set_cons_zero, List.set_cons_succ, splice_nil, splice_cons, cells_agg, cells_int, cells_bool, cells_string, cells_pointer, cells_slice, leaf_int, leaf_bool, leaf_string, leaf_pointer, leaf_slice, List.size_toArray, List.all_cons, List.all_nil, Bool.and_self, Bool.and_true, and_self, true_and, and_true, Nat.zero_add, Nat.add_zero, Nat.reduceLeDiff, Nat.le_refl, List.drop_zero, List.drop_succ_cons, List.take_succ_cons, List.take_zero, Nat.reduceSub, lp_end, lp_ret, lp_exit, oV_ite, oS_ite, oA_ite, slc_some, sls_some, optInt_none, optInt_some, rW_draw, rD_nil, rDV_eq, rDR_eq, rDE_eq, rDS_n, rDS_e, rD_load, rD_conv, rD_pure, rD_e, rD_g, rDG_t, rDG_f, rDG_undef, chkH_nil, chkH_cons, chkP_nil, chkP_cons, aRead_load, aRead_conv, isE_store, isE_call, isE_append, rDS_l, rDS_c, pl_move, pl_assign, pl_pick, pl_alloc, pl_box, pl_build, pl_buildSlice, pl_nilCheck, pl_binOp, pl_unOp, pl_makeFunc, pl_makeSlice, pl_slice, pl_fieldAddr, pl_field, pl_indexAddr, pl_index, pl_extract, pl_len, pl_cap, pl_max, pl_min, List.mem_cons, Prod.mk.injEq, List.not_mem_nil, or_false, or_true, false_or, true_or, and_false, false_and, false_implies, implies_true, true_implies, oM_ite, List.getElem?_toArray, List.getElem?_cons_zero, List.getElem?_cons_succ, List.getElem?_nil, Option.getD_some, Option.getD_none, Nat.reduceEqDiff, reduceIte, Nat.reduceAdd, List.map_toArray, List.map_cons, List.map_nil, Bool.false_eq_true, Nat.reduceBEq, Option.map_some, Option.map_none, reduceCtorEq, ix51, ld3, ln51, ms51, st3, h0, h3, h4]
    refine two_intro (fun hc => ?_) (fun hc => ?_)
    · have hc' : i < l.length := by simpa using hc
      obtain ⟨b, o, cs, rfl, rfl, hrd, _, hcell⟩ := gv (by omega)
      have hrd2 : rd (H ++ [⟨ints (l.take i) ++ List.replicate (l.length - i) (.int .i64 0), .own⟩]) b = some cs := by rw [rdl (by simp [hrd]), hrd]
      simp -implicitDefEqProofs only [rE_seq_n, rE_seq_r, rE_seq_e, rE_blk_n, rE_blk_r, rE_blk_e, rW_skip, rW_ret, rW_exit, rW_ops, rW_seq, rW_block, ↓two_true, ↓two_false, rC_bool, rW_cond, rO_nil, rO_cons, oG_t, oG_f, oG_undef, rO_guard, oV_some, rOV_eq, oP_move, oP_assign, oP_bin, oP_un, oP_index, oP_fieldAddr, oP_field, oP_indexAddr, oP_slice, oP_load, oP_convert, aPick_true, aPick_false, aPick_bool, oP_pick, aExtract_tup, oP_extract, oP_nilCheck, oP_build, oP_len, oP_cap, oP_max, oP_min, oP_makeFunc, oS_some, oP_store, oA_some, oP_append, oM_some, oP_alloc, oP_box, oP_buildSlice, oP_mkS, oP_call, oP_callv, oF_func, aev_tmp, aev_const, aev_func, aput_get, aput_none, bin_add, bin_sub, bin_mul, bin_eql, bin_neq, bin_lss, bin_leq, bin_gtr, bin_geq, un_not, un_neg, tm0_get, fin_ret, fin_end, oR_some, resL_nil, resL_tmp, resL_cell, tup_one, tup_two, tup_nil, cond_true, cond_false, load_eq, Option.bind_some, gt0, gti, mkv, List.length_append, List.length_cons, List.length_nil, List.append_assoc, List.cons_append, List.nil_append, rd0, rdi, wrt0, wrti, rdB_own, rdB_ro, wrB_own, oL_some, aggAt, sto_some, st0, sti, List.set_cons_zero, List.set_cons_succ, splice_nil, splice_cons, cells_agg, cells_int, cells_bool, cells_string, cells_pointer, cells_slice, leaf_int, leaf_bool, leaf_string, leaf_pointer, leaf_slice, List.size_toArray, List.all_cons, List.all_nil, Bool.and_self, Bool.and_true, and_self, true_and, and_true, Nat.zero_add, Nat.add_zero, Nat.reduceLeDiff, Nat.le_refl, List.drop_zero, List.drop_succ_cons, List.take_succ_cons, List.take_zero, Nat.reduceSub, lp_end, lp_ret, lp_exit, oV_ite, oS_ite, oA_ite, slc_some, sls_some, optInt_none, optInt_some, rW_draw, rD_nil, rDV_eq, rDR_eq, rDE_eq, rDS_n, rDS_e, rD_load, rD_conv, rD_pure, rD_e, rD_g, rDG_t, rDG_f, rDG_undef, chkH_nil, chkH_cons, chkP_nil, chkP_cons, aRead_load, aRead_conv, isE_store, isE_call, isE_append, rDS_l, rDS_c, pl_move, pl_assign, pl_pick, pl_alloc, pl_box, pl_build, pl_buildSlice, pl_nilCheck, pl_binOp, pl_unOp, pl_makeFunc, pl_makeSlice, pl_slice, pl_fieldAddr, pl_field, pl_indexAddr, pl_index, pl_extract, pl_len, pl_cap, pl_max, pl_min, List.mem_cons, Prod.mk.injEq, List.not_mem_nil, or_false, or_true, false_or, true_or, and_false, false_and, false_implies, implies_true, true_implies, oM_ite, List.getElem?_toArray, List.getElem?_cons_zero, List.getElem?_cons_succ, List.getElem?_nil, Option.getD_some, Option.getD_none, Nat.reduceEqDiff, reduceIte, Nat.reduceAdd, List.map_toArray, List.map_cons, List.map_nil, Bool.false_eq_true, Nat.reduceBEq, Option.map_some, Option.map_none, reduceCtorEq, ix51, ld3, ln51, ms51, st3, h0, h3, h4, Int.toNat_natCast, Nat.mul_one, hrd2, hcell i hc', IntWalk.i64_in (↑i + 1) (by omega)]
      refine ⟨⟨by omega, by omega⟩, ⟨by omega, by omega⟩, by simp [ints]; omega, i + 1, by omega, by simp, hc', ?_⟩
      rw [set_fill hc']
    · have hc' : ¬ i < l.length := by simpa using hc
      have : i = l.length := by omega
      subst this
      simp
theorem toIntS_eq {H : AH} {v : Value} (hv : OkI H v) (hl : (rowI H v).length ≤ 1048576) {Φ : Value → AH → Prop} : CallsA Try.prog 66 #[v] H Φ = Φ (.slice (some ⟨H.length, 0, none⟩) (rowI H v).length 1) (H ++ [⟨ints (rowI H v), .own⟩]) := Ans.eq (toIntS_ok hv hl)
theorem own_new {H : AH} {l : List Int} : OwnRow (H ++ [⟨ints l, .own⟩]) (.slice (some ⟨H.length, 0, none⟩) l.length 1) l :=
  .inr ⟨H.length, 0, ints l, rfl, by rw [gt0]; rfl, by simp [ints], by rw [List.drop_zero, List.take_of_length_le (by simp [ints])]⟩
theorem own_at {H : AH} {b : Nat} {l : List Int} (h : H[b]? = some ⟨ints l, .own⟩) : OwnRow H (.slice (some ⟨b, 0, none⟩) l.length 1) l :=
  .inr ⟨b, 0, ints l, rfl, h, by simp [ints], by rw [List.drop_zero, List.take_of_length_le (by simp [ints])]⟩

def szA (a b : Nat) (left : Int) : Int := if szI a left < 0 then -1 else szI b (szI a left)
theorem szI_le {n : Nat} {q : Int} (h : q ≤ 1048576) : -1 ≤ szI n q ∧ szI n q ≤ 1048576 := by
  unfold szI; split <;> omega
theorem szArray_ok {H : AH} {p r : Value} {q : Int} (hp : OkI H p) (hr : OkI H r) (lp : (rowI H p).length ≤ 9223372036854775807) (lr : (rowI H r).length ≤ 9223372036854775807) (hq : -1 ≤ q ∧ q ≤ 1048576) :
    CallsA Try.prog 32 #[.agg #[p, r], .int .i64 q] H fun z H' => z = .int .i64 (szA (rowI H p).length (rowI H r).length q) ∧ ∃ K, H' = H ++ K := by
  have h1 := szI_le (n := (rowI H p).length) hq.2
  have h2 := szI_le (n := (rowI H r).length) h1.2
  refine w32 ?_
  unfold k32
  simp -implicitDefEqProofs only [rE_seq_n, rE_seq_r, rE_seq_e, rE_blk_n, rE_blk_r, rE_blk_e, rW_skip, rW_ret, rW_exit, rW_ops, rW_seq, rW_block, ↓two_true, ↓two_false, rC_bool, rW_cond, rO_nil, rO_cons, oG_t, oG_f, oG_undef, rO_guard, oV_some, rOV_eq, oP_move, oP_assign, oP_bin, oP_un, oP_index, oP_fieldAddr, oP_field, oP_indexAddr, oP_slice, oP_load, oP_convert, aPick_true, aPick_false, aPick_bool, oP_pick, aExtract_tup, oP_extract, oP_nilCheck, oP_build, oP_len, oP_cap, oP_max, oP_min, oP_makeFunc, oS_some, oP_store, oA_some, oP_append, oM_some, oP_alloc, oP_box, oP_buildSlice, oP_mkS, oP_call, oP_callv, oF_func, aev_tmp, aev_const, aev_func, aput_get, aput_none, bin_add, bin_sub, bin_mul, bin_eql, bin_neq, bin_lss, bin_leq, bin_gtr, bin_geq, un_not, un_neg, tm0_get, fin_ret, fin_end, oR_some, resL_nil, resL_tmp, resL_cell, tup_one, tup_two, tup_nil, cond_true, cond_false, load_eq, Option.bind_some, gt0, gti, mkv, List.length_append, List.length_cons, List.length_nil, List.append_assoc, List.cons_append, List.nil_append, rd0, rdi, wrt0, wrti, rdB_own, rdB_ro, wrB_own, oL_some, aggAt, sto_some, st0, sti, List.set_cons_zero, List.set_cons_succ, splice_nil, splice_cons, cells_agg, cells_int, cells_bool, cells_string, cells_pointer, cells_slice, leaf_int, leaf_bool, leaf_string, leaf_pointer, leaf_slice, List.size_toArray, List.all_cons, List.all_nil, Bool.and_self, Bool.and_true, and_self, true_and, and_true, Nat.zero_add, Nat.add_zero, Nat.reduceLeDiff, Nat.le_refl, List.drop_zero, List.drop_succ_cons, List.take_succ_cons, List.take_zero, Nat.reduceSub, lp_end, lp_ret, lp_exit, oV_ite, oS_ite, oA_ite, slc_some, sls_some, optInt_none, optInt_some, rW_draw, rD_nil, rDV_eq, rDR_eq, rDE_eq, rDS_n, rDS_e, rD_load, rD_conv, rD_pure, rD_e, rD_g, rDG_t, rDG_f, rDG_undef, chkH_nil, chkH_cons, chkP_nil, chkP_cons, aRead_load, aRead_conv, isE_store, isE_call, isE_append, rDS_l, rDS_c, pl_move, pl_assign, pl_pick, pl_alloc, pl_box, pl_build, pl_buildSlice, pl_nilCheck, pl_binOp, pl_unOp, pl_makeFunc, pl_makeSlice, pl_slice, pl_fieldAddr, pl_field, pl_indexAddr, pl_index, pl_extract, pl_len, pl_cap, pl_max, pl_min, List.mem_cons, Prod.mk.injEq, List.not_mem_nil, or_false, or_true, false_or, true_or, and_false, false_and, false_implies, implies_true, true_implies, oM_ite, List.getElem?_toArray, List.getElem?_cons_zero, List.getElem?_cons_succ, List.getElem?_nil, Option.getD_some, Option.getD_none, Nat.reduceEqDiff, reduceIte, Nat.reduceAdd, List.map_toArray, List.map_cons, List.map_nil, Bool.false_eq_true, Nat.reduceBEq, Option.map_some, Option.map_none, reduceCtorEq, fa53_0, fa53_1, ld51, szIntS_eq, hp, hr, OkI.mono, rowI_mono, lp, lr, hq, h1, true_and, and_true]
  unfold szA
  refine two_intro (fun h => ?_) (fun h => ?_)
  · exact ⟨by rw [if_pos (by simpa using h)], _, rfl⟩
  · rw [if_neg (by simpa using h)]
    refine two_intro (fun h3 => ?_) (fun h3 => ?_)
    · have h4 : szI (rowI H r).length (szI (rowI H p).length q) < 0 := by simpa using h3
      exact ⟨by rw [show szI (rowI H r).length (szI (rowI H p).length q) = -1 by omega], _, rfl⟩
    · exact ⟨rfl, _, rfl⟩

theorem toArray_ok {H : AH} {p r : Value} (hp : OkI H p) (hr : OkI H r) (lp : (rowI H p).length ≤ 1048576) (lr : (rowI H r).length ≤ 1048576) :
    CallsA Try.prog 34 #[.agg #[p, r]] H fun z H' => ∃ p' r', z = .agg #[p', r'] ∧ OwnRow H' p' (rowI H p) ∧ OwnRow H' r' (rowI H r) ∧ Dj p' r' ∧ (∀ b, blkOf p' = some b → H.length ≤ b) ∧ (∀ b, blkOf r' = some b → H.length ≤ b) ∧ ∃ K, H' = H ++ K := by
  refine w34 ?_
  unfold k34
  simp -implicitDefEqProofs only [rE_seq_n, rE_seq_r, rE_seq_e, rE_blk_n, rE_blk_r, rE_blk_e, rW_skip, rW_ret, rW_exit, rW_ops, rW_seq, rW_block, ↓two_true, ↓two_false, rC_bool, rW_cond, rO_nil, rO_cons, oG_t, oG_f, oG_undef, rO_guard, oV_some, rOV_eq, oP_move, oP_assign, oP_bin, oP_un, oP_index, oP_fieldAddr, oP_field, oP_indexAddr, oP_slice, oP_load, oP_convert, aPick_true, aPick_false, aPick_bool, oP_pick, aExtract_tup, oP_extract, oP_nilCheck, oP_build, oP_len, oP_cap, oP_max, oP_min, oP_makeFunc, oS_some, oP_store, oA_some, oP_append, oM_some, oP_alloc, oP_box, oP_buildSlice, oP_mkS, oP_call, oP_callv, oF_func, aev_tmp, aev_const, aev_func, aput_get, aput_none, bin_add, bin_sub, bin_mul, bin_eql, bin_neq, bin_lss, bin_leq, bin_gtr, bin_geq, un_not, un_neg, tm0_get, fin_ret, fin_end, oR_some, resL_nil, resL_tmp, resL_cell, tup_one, tup_two, tup_nil, cond_true, cond_false, load_eq, Option.bind_some, gt0, gti, mkv, List.length_append, List.length_cons, List.length_nil, List.append_assoc, List.cons_append, List.nil_append, rd0, rdi, wrt0, wrti, rdB_own, rdB_ro, wrB_own, oL_some, aggAt, sto_some, st0, sti, List.set_cons_zero, List.set_cons_succ, splice_nil, splice_cons, cells_agg, cells_int, cells_bool, cells_string, cells_pointer, cells_slice, leaf_int, leaf_bool, leaf_string, leaf_pointer, leaf_slice, List.size_toArray, List.all_cons, List.all_nil, Bool.and_self, Bool.and_true, and_self, true_and, and_true, Nat.zero_add, Nat.add_zero, Nat.reduceLeDiff, Nat.le_refl, List.drop_zero, List.drop_succ_cons, List.take_succ_cons, List.take_zero, Nat.reduceSub, lp_end, lp_ret, lp_exit, oV_ite, oS_ite, oA_ite, slc_some, sls_some, optInt_none, optInt_some, rW_draw, rD_nil, rDV_eq, rDR_eq, rDE_eq, rDS_n, rDS_e, rD_load, rD_conv, rD_pure, rD_e, rD_g, rDG_t, rDG_f, rDG_undef, chkH_nil, chkH_cons, chkP_nil, chkP_cons, aRead_load, aRead_conv, isE_store, isE_call, isE_append, rDS_l, rDS_c, pl_move, pl_assign, pl_pick, pl_alloc, pl_box, pl_build, pl_buildSlice, pl_nilCheck, pl_binOp, pl_unOp, pl_makeFunc, pl_makeSlice, pl_slice, pl_fieldAddr, pl_field, pl_indexAddr, pl_index, pl_extract, pl_len, pl_cap, pl_max, pl_min, List.mem_cons, Prod.mk.injEq, List.not_mem_nil, or_false, or_true, false_or, true_or, and_false, false_and, false_implies, implies_true, true_implies, oM_ite, List.getElem?_toArray, List.getElem?_cons_zero, List.getElem?_cons_succ, List.getElem?_nil, Option.getD_some, Option.getD_none, Nat.reduceEqDiff, reduceIte, Nat.reduceAdd, List.map_toArray, List.map_cons, List.map_nil, Bool.false_eq_true, Nat.reduceBEq, Option.map_some, Option.map_none, reduceCtorEq, al55, fa53_0, fa53_1, fa55_0, fa55_1, ld51, ld55, st51, st55, toIntS_eq, hp, hr, OkI.mono, rowI_mono, lp, lr]
  refine ⟨_, _, rfl, own_at (by rw [gti]; rfl), own_at (by rw [gti]; rfl), ?_, ?_, ?_, _, rfl⟩
  · intro b h1 h2
    simp [blkOf] at h1 h2
    omega
  · intro b h1
    simp [blkOf] at h1
    omega
  · intro b h1
    simp [blkOf] at h1
    omega

/-! ### shapes -/
def prodI (l : List Int) : Int := l.foldl (fun a b => a * b) 1
def sizeI (l : List Int) : Int := if 3 < l.length then -1 else if l.all (fun x => inB x 0 300) = true then (if prodI l > 300 then -1 else prodI l) else -1
theorem prodI_snoc {l : List Int} {x : Int} : prodI (l ++ [x]) = prodI l * x := by simp [prodI]
theorem pow_step {p x : Int} {i : Nat} (hp : 0 ≤ p ∧ p ≤ 300 ^ i) (hx : 0 ≤ x ∧ x ≤ 300) : 0 ≤ p * x ∧ p * x ≤ 300 ^ (i + 1) := by
  refine ⟨Int.mul_nonneg hp.1 hx.1, ?_⟩
  rw [Int.pow_succ]
  exact Int.mul_le_mul hp.2 hx.2 hx.1 (by have := hp.1; have := hp.2; omega)
theorem pow_lim {i : Nat} (h : i ≤ 3) : (300 : Int) ^ i ≤ 27000000 := by
  match i, h with
  | 0, _ => decide
  | 1, _ => decide
  | 2, _ => decide
  | 3, _ => decide
theorem all_take_false {l : List Int} {i : Nat} {f : Int → Bool} (h : i < l.length) (hf : f l[i] = false) : l.all f = false := by
  rw [Bool.eq_false_iff]
  intro ha
  have := (List.all_eq_true.1 ha) l[i] (List.getElem_mem h)
  rw [hf] at this; cases this

theorem implSizeOf_ok {H : AH} {v : Value} {l : List Int} (hv : IntRow H v l) (hl : l.length < 4611686018427387904) : CallsA Try.prog 73 #[v] H fun r H' => r = .int .i64 (sizeI l) ∧ H' = H := by
  obtain ⟨a, c, rfl, gv⟩ := hv.op
  refine w73 ?_
  unfold k73
  simp -implicitDefEqProofs only [rE_seq_n, rE_seq_r, rE_seq_e, rE_blk_n, rE_blk_r, rE_blk_e, rW_skip, rW_ret, rW_exit, rW_ops, rW_seq, rW_block, ↓two_true, ↓two_false, rC_bool, rW_cond, rO_nil, rO_cons, oG_t, oG_f, oG_undef, rO_guard, oV_some, rOV_eq, oP_move, oP_assign, oP_bin, oP_un, oP_index, oP_fieldAddr, oP_field, oP_indexAddr, oP_slice, oP_load, oP_convert, aPick_true, aPick_false, aPick_bool, oP_pick, aExtract_tup, oP_extract, oP_nilCheck, oP_build, oP_len, oP_cap, oP_max, oP_min, oP_makeFunc, oS_some, oP_store, oA_some, oP_append, oM_some, oP_alloc, oP_box, oP_buildSlice, oP_mkS, oP_call, oP_callv, oF_func, aev_tmp, aev_const, aev_func, aput_get, aput_none, bin_add, bin_sub, bin_mul, bin_eql, bin_neq, bin_lss, bin_leq, bin_gtr, bin_geq, un_not, un_neg, tm0_get, fin_ret, fin_end, oR_some, resL_nil, resL_tmp, resL_cell, tup_one, tup_two, tup_nil, cond_true, cond_false, load_eq, Option.bind_some, gt0, gti, mkv, List.length_append, List.length_cons, List.length_nil, List.append_assoc, List.cons_append, List.nil_append, rd0, rdi, wrt0, wrti, rdB_own, rdB_ro, wrB_own, oL_some, aggAt, sto_some, st0, sti, List.set_cons_zero, List.set_cons_succ, splice_nil, splice_cons, cells_agg, cells_int, cells_bool, cells_string, cells_pointer, cells_slice, leaf_int, leaf_bool, leaf_string, leaf_pointer, leaf_slice, List.size_toArray, List.all_cons, List.all_nil, Bool.and_self, Bool.and_true, and_self, true_and, and_true, Nat.zero_add, Nat.add_zero, Nat.reduceLeDiff, Nat.le_refl, List.drop_zero, List.drop_succ_cons, List.take_succ_cons, List.take_zero, Nat.reduceSub, lp_end, lp_ret, lp_exit, oV_ite, oS_ite, oA_ite, slc_some, sls_some, optInt_none, optInt_some, rW_draw, rD_nil, rDV_eq, rDR_eq, rDE_eq, rDS_n, rDS_e, rD_load, rD_conv, rD_pure, rD_e, rD_g, rDG_t, rDG_f, rDG_undef, chkH_nil, chkH_cons, chkP_nil, chkP_cons, aRead_load, aRead_conv, isE_store, isE_call, isE_append, rDS_l, rDS_c, pl_move, pl_assign, pl_pick, pl_alloc, pl_box, pl_build, pl_buildSlice, pl_nilCheck, pl_binOp, pl_unOp, pl_makeFunc, pl_makeSlice, pl_slice, pl_fieldAddr, pl_field, pl_indexAddr, pl_index, pl_extract, pl_len, pl_cap, pl_max, pl_min, List.mem_cons, Prod.mk.injEq, List.not_mem_nil, or_false, or_true, false_or, true_or, and_false, false_and, false_implies, implies_true, true_implies, oM_ite, List.getElem?_toArray, List.getElem?_cons_zero, List.getElem?_cons_succ, List.getElem?_nil, Option.getD_some, Option.getD_none, Nat.reduceEqDiff, reduceIte, Nat.reduceAdd, List.map_toArray, List.map_cons, List.map_nil, Bool.false_eq_true, Nat.reduceBEq, Option.map_some, Option.map_none, reduceCtorEq, ix51, ld3, ln51]
  refine two_intro (fun h => ?_) (fun h => ?_)
  · have h' : 3 < l.length := by simp at h; omega
    rw [sizeI, if_pos h']
  · have h' : ¬ 3 < l.length := by simp at h; omega
    refine rW_loop (σ := Nat) (fun i tm H' => tm 9 = .slice a l.length c ∧ tm 10 = .int .i64 l.length ∧ tm 11 = .int .i64 i ∧ tm 3 = .int .i64 (prodI (l.take i)) ∧ H' = H ∧ i ≤ l.length ∧ (0 ≤ prodI (l.take i) ∧ prodI (l.take i) ≤ 300 ^ i) ∧ ∀ x ∈ l.take i, inB x 0 300 = true) (fun i => l.length - i) 0 ?_ ?_
    · simp -implicitDefEqProofs [rE_seq_n, rE_seq_r, rE_seq_e, rE_blk_n, rE_blk_r, rE_blk_e, rW_skip, rW_ret, rW_exit, rW_ops, rW_seq, rW_block, ↓two_true, ↓two_false, rC_bool, rW_cond, rO_nil, rO_cons, oG_t, oG_f, oG_undef, rO_guard, oV_some, rOV_eq, oP_move, oP_assign, oP_bin, oP_un, oP_index, oP_fieldAddr, oP_field, oP_indexAddr, oP_slice, oP_load, oP_convert, aPick_true, aPick_false, aPick_bool, oP_pick, aExtract_tup, oP_extract, oP_nilCheck, oP_build, oP_len, oP_cap, oP_max, oP_min, oP_makeFunc, oS_some, oP_store, oA_some, oP_append, oM_some, oP_alloc, oP_box, oP_buildSlice, oP_mkS, oP_call, oP_callv, oF_func, aev_tmp, aev_const, aev_func, aput_get, aput_none, bin_add, bin_sub, bin_mul, bin_eql, bin_neq, bin_lss, bin_leq, bin_gtr, bin_geq, un_not, un_neg, tm0_get, fin_ret, fin_end, oR_some, resL_nil, resL_tmp, resL_cell, tup_one, tup_two, tup_nil, cond_true, cond_false, load_eq, Option.bind_some, gt0, gti, mkv, List.length_append, List.length_cons, List.length_nil, List.append_assoc, List.cons_append, List.nil_append, rd0, rdi, wrt0, wrti, rdB_own, rdB_ro, wrB_own, oL_some, aggAt, sto_some, st0, sti, List.set_cons_zero, List.set_cons_succ, splice_nil, splice_cons, cells_agg, cells_int, cells_bool, cells_string, cells_pointer, cells_slice, leaf_int, leaf_bool, leaf_string, leaf_pointer, leaf_slice, List.size_toArray, List.all_cons, List.all_nil, Bool.and_self, Bool.and_true, and_self, true_and, and_true, Nat.zero_add, Nat.add_zero, Nat.reduceLeDiff, Nat.le_refl, List.drop_zero, List.drop_succ_cons, List.take_succ_cons, List.take_zero, Nat.reduceSub, lp_end, lp_ret, lp_exit, oV_ite, oS_ite, oA_ite, slc_some, sls_some, optInt_none, optInt_some, rW_draw, rD_nil, rDV_eq, rDR_eq, rDE_eq, rDS_n, rDS_e, rD_load, rD_conv, rD_pure, rD_e, rD_g, rDG_t, rDG_f, rDG_undef, chkH_nil, chkH_cons, chkP_nil, chkP_cons, aRead_load, aRead_conv, isE_store, isE_call, isE_append, rDS_l, rDS_c, pl_move, pl_assign, pl_pick, pl_alloc, pl_box, pl_build, pl_buildSlice, pl_nilCheck, pl_binOp, pl_unOp, pl_makeFunc, pl_makeSlice, pl_slice, pl_fieldAddr, pl_field, pl_indexAddr, pl_index, pl_extract, pl_len, pl_cap, pl_max, pl_min, List.mem_cons, Prod.mk.injEq, List.not_mem_nil, or_false, or_true, false_or, true_or, and_false, false_and, false_implies, implies_true, true_implies, oM_ite, List.getElem?_toArray, List.getElem?_cons_zero, List.getElem?_cons_succ, List.getElem?_nil, Option.getD_some, Option.getD_none, Nat.reduceEqDiff, reduceIte, Nat.reduceAdd, List.map_toArray, List.map_cons, List.map_nil, Bool.false_eq_true, Nat.reduceBEq, Option.map_some, Option.map_none, reduceCtorEq, ix51, ld3, ln51, prodI]
    · rintro i tm H' ⟨h9, h10, h11, h3, rfl, hi, hp, ha⟩
      simp -implicitDefEqProofs only [rE_seq_n, rE_seq_r, rE_seq_e, rE_blk_n, rE_blk_r, rE_blk_e, rW_skip, rW_ret, rW_exit, rW_ops, rW_seq, rW_block, ↓two_true, ↓two_false, rC_bool, rW_cond, rO_nil, rO_cons, oG_t, oG_f, oG_undef, rO_guard, oV_some, rOV_eq, oP_move, oP_assign, oP_bin, oP_un, oP_index, oP_fieldAddr, oP_field, oP_indexAddr, oP_slice, oP_load, oP_convert, aPick_true, aPick_false, aPick_bool, oP_pick, aExtract_tup, oP_extract, oP_nilCheck, oP_build, oP_len, oP_cap, oP_max, oP_min, oP_makeFunc, oS_some, oP_store, oA_some, oP_append, oM_some, oP_alloc, oP_box, oP_buildSlice, oP_mkS, oP_call, oP_callv, oF_func, aev_tmp, aev_const, aev_func, aput_get, aput_none, bin_add, bin_sub, bin_mul, bin_eql, bin_neq, bin_lss, bin_leq, bin_gtr, bin_geq, un_not, un_neg, tm0_get, fin_ret, fin_end, oR_some, resL_nil, resL_tmp, resL_cell, tup_one, tup_two, tup_nil, cond_true, cond_false, load_eq, Option.bind_some, gt0, gti, mkv, List.length_append, List.length_cons, List.length_nil, List.append_assoc, List.cons_append, List.nil_append, rd0, rdi, wrt0, wrti, rdB_own, rdB_ro, wrB_own, oL_some, aggAt, sto_some, st0, sti, List.set_cons_zero, List.set_cons_succ, splice_nil, splice_cons, cells_agg, cells_int, cells_bool, cells_string, cells_pointer, cells_slice, leaf_int, leaf_bool, leaf_string, leaf_pointer, leaf_slice, List.size_toArray, List.all_cons, List.all_nil, Bool.and_self, Bool.and_true, and_self, true_and, and_true, Nat.zero_add, Nat.add_zero, Nat.reduceLeDiff, Nat.le_refl, List.drop_zero, List.drop_succ_cons, List.take_succ_cons, List.take_zero, Nat.reduceSub, lp_end, lp_ret, lp_exit, oV_ite, oS_ite, oA_ite, slc_some, sls_some, optInt_none, optInt_some, rW_draw, rD_nil, rDV_eq, rDR_eq, rDE_eq, rDS_n, rDS_e, rD_load, rD_conv, rD_pure, rD_e, rD_g, rDG_t, rDG_f, rDG_undef, chkH_nil, chkH_cons, chkP_nil, chkP_cons, aRead_load, aRead_conv, isE_store, isE_call, isE_append, rDS_l, rDS_c, pl_move, pl_assign, pl_pick, pl_alloc, pl_box, pl_build, pl_buildSlice, pl_nilCheck, pl_binOp, pl_unOp, pl_makeFunc, pl_makeSlice, pl_slice, pl_fieldAddr, pl_field, pl_indexAddr, pl_index, pl_extract, pl_len, pl_cap, pl_max, pl_min, List.mem_cons, Prod.mk.injEq, List.not_mem_nil, or_false, or_true, false_or, true_or, and_false, false_and, false_implies, implies_true, true_implies, oM_ite, List.getElem?_toArray, List.getElem?_cons_zero, List.getElem?_cons_succ, List.getElem?_nil, Option.getD_some, Option.getD_none, Nat.reduceEqDiff, reduceIte, Nat.reduceAdd, List.map_toArray, List.map_cons, List.map_nil, Bool.false_eq_true, Nat.reduceBEq, Option.map_some, Option.map_none, reduceCtorEq, ix51, ld3, ln51, h9, h10, h11, h3, within_eq]
      refine two_intro (fun hc => ?_) (fun hc => ?_)
      · have hc' : i < l.length := by simpa using hc
        obtain ⟨b, o, cs, rfl, rfl, hrd, _, hcell⟩ := gv (by omega)
        have hlim := pow_lim (i := i + 1) (by omega)
        simp -implicitDefEqProofs only [rE_seq_n, rE_seq_r, rE_seq_e, rE_blk_n, rE_blk_r, rE_blk_e, rW_skip, rW_ret, rW_exit, rW_ops, rW_seq, rW_block, ↓two_true, ↓two_false, rC_bool, rW_cond, rO_nil, rO_cons, oG_t, oG_f, oG_undef, rO_guard, oV_some, rOV_eq, oP_move, oP_assign, oP_bin, oP_un, oP_index, oP_fieldAddr, oP_field, oP_indexAddr, oP_slice, oP_load, oP_convert, aPick_true, aPick_false, aPick_bool, oP_pick, aExtract_tup, oP_extract, oP_nilCheck, oP_build, oP_len, oP_cap, oP_max, oP_min, oP_makeFunc, oS_some, oP_store, oA_some, oP_append, oM_some, oP_alloc, oP_box, oP_buildSlice, oP_mkS, oP_call, oP_callv, oF_func, aev_tmp, aev_const, aev_func, aput_get, aput_none, bin_add, bin_sub, bin_mul, bin_eql, bin_neq, bin_lss, bin_leq, bin_gtr, bin_geq, un_not, un_neg, tm0_get, fin_ret, fin_end, oR_some, resL_nil, resL_tmp, resL_cell, tup_one, tup_two, tup_nil, cond_true, cond_false, load_eq, Option.bind_some, gt0, gti, mkv, List.length_append, List.length_cons, List.length_nil, List.append_assoc, List.cons_append, List.nil_append, rd0, rdi, wrt0, wrti, rdB_own, rdB_ro, wrB_own, oL_some, aggAt, sto_some, st0, sti, List.set_cons_zero, List.set_cons_succ, splice_nil, splice_cons, cells_agg, cells_int, cells_bool, cells_string, cells_pointer, cells_slice, leaf_int, leaf_bool, leaf_string, leaf_pointer, leaf_slice, List.size_toArray, List.all_cons, List.all_nil, Bool.and_self, Bool.and_true, and_self, true_and, and_true, Nat.zero_add, Nat.add_zero, Nat.reduceLeDiff, Nat.le_refl, List.drop_zero, List.drop_succ_cons, List.take_succ_cons, List.take_zero, Nat.reduceSub, lp_end, lp_ret, lp_exit, oV_ite, oS_ite, oA_ite, slc_some, sls_some, optInt_none, optInt_some, rW_draw, rD_nil, rDV_eq, rDR_eq, rDE_eq, rDS_n, rDS_e, rD_load, rD_conv, rD_pure, rD_e, rD_g, rDG_t, rDG_f, rDG_undef, chkH_nil, chkH_cons, chkP_nil, chkP_cons, aRead_load, aRead_conv, isE_store, isE_call, isE_append, rDS_l, rDS_c, pl_move, pl_assign, pl_pick, pl_alloc, pl_box, pl_build, pl_buildSlice, pl_nilCheck, pl_binOp, pl_unOp, pl_makeFunc, pl_makeSlice, pl_slice, pl_fieldAddr, pl_field, pl_indexAddr, pl_index, pl_extract, pl_len, pl_cap, pl_max, pl_min, List.mem_cons, Prod.mk.injEq, List.not_mem_nil, or_false, or_true, false_or, true_or, and_false, false_and, false_implies, implies_true, true_implies, oM_ite, List.getElem?_toArray, List.getElem?_cons_zero, List.getElem?_cons_succ, List.getElem?_nil, Option.getD_some, Option.getD_none, Nat.reduceEqDiff, reduceIte, Nat.reduceAdd, List.map_toArray, List.map_cons, List.map_nil, Bool.false_eq_true, Nat.reduceBEq, Option.map_some, Option.map_none, reduceCtorEq, ix51, ld3, ln51, h9, h10, h11, h3, within_eq, Int.toNat_natCast, Nat.mul_one, hrd, hcell i hc', IntWalk.i64_in (↑i + 1) (by omega)]
        refine ⟨⟨by omega, by omega⟩, two_intro (fun h => ?_) (fun h => ?_)⟩
        · have hb : inB l[i] 0 300 = false := by simpa using h
          rw [sizeI, if_neg h', all_take_false hc' hb]
          simp
        · have hb : inB l[i] 0 300 = true := by simpa using h
          have hst := pow_step hp (inB_true.1 hb)
          have e1 : prodI (l.take (i + 1)) = prodI (l.take i) * l[i] := by rw [List.take_succ_eq_append_getElem hc', prodI_snoc]
          rw [IntWalk.i64_in (prodI (l.take i) * l[i]) (by omega)]
          refine ⟨i + 1, by omega, by simp, by rw [e1], hc', by rw [e1]; exact hst, ?_⟩
          intro x hx
          rw [List.take_succ_eq_append_getElem hc'] at hx
          rcases List.mem_append.1 hx with hx | hx
          · exact ha x hx
          · rw [List.mem_singleton.1 hx]; exact hb
      · have hc' : ¬ i < l.length := by simpa using hc
        have hil : i = l.length := by omega
        subst hil
        rw [List.take_length] at ha ⊢
        have hall : l.all (fun x => inB x 0 300) = true := List.all_eq_true.2 ha
        refine two_intro (fun h => ?_) (fun h => ?_)
        · rw [sizeI, if_neg h', if_pos hall, if_pos (by simpa using h)]
        · rw [sizeI, if_neg h', if_pos hall, if_neg (by simpa using h)]
theorem implSizeOf_eq {H : AH} {v : Value} (hv : OkI H v) (hl : (rowI H v).length < 4611686018427387904) {Φ : Value → AH → Prop} : CallsA Try.prog 73 #[v] H Φ = Φ (.int .i64 (sizeI (rowI H v))) H := (implSizeOf_ok hv hl).eq0
theorem foldl_mul : ∀ (l : List Int) (a : Int), l.foldl (fun a b => a * b) a = a * prodI l
  | [], a => by simp [prodI]
  | x :: l, a => by
    show l.foldl (fun a b => a * b) (a * x) = a * (l.foldl (fun a b => a * b) (1 * x))
    rw [foldl_mul l (a * x), foldl_mul l (1 * x), Int.one_mul, Int.mul_assoc]
theorem prodI_cons {x : Int} {l : List Int} : prodI (x :: l) = x * prodI l := by
  show l.foldl (fun a b => a * b) (1 * x) = _
  rw [foldl_mul, Int.one_mul]
theorem prodI_zero : ∀ (l : List Int), l.any (fun x => x == 0) = true → prodI l = 0
  | [], h => by simp at h
  | x :: l, h => by
    rw [prodI_cons]
    simp only [List.any_cons, Bool.or_eq_true, beq_iff_eq] at h
    rcases h with h | h
    · rw [h, Int.zero_mul]
    · rw [prodI_zero l h, Int.mul_zero]

theorem specSizeOf_ok {H : AH} {v : Value} {l : List Int} (hv : IntRow H v l) (hl : l.length < 4611686018427387904) : CallsA Try.prog 71 #[v] H fun r H' => r = .int .i64 (sizeI l) ∧ H' = H := by
  obtain ⟨a, c, rfl, gv⟩ := hv.op
  refine w71 ?_
  unfold k71
  simp -implicitDefEqProofs only [rE_seq_n, rE_seq_r, rE_seq_e, rE_blk_n, rE_blk_r, rE_blk_e, rW_skip, rW_ret, rW_exit, rW_ops, rW_seq, rW_block, ↓two_true, ↓two_false, rC_bool, rW_cond, rO_nil, rO_cons, oG_t, oG_f, oG_undef, rO_guard, oV_some, rOV_eq, oP_move, oP_assign, oP_bin, oP_un, oP_index, oP_fieldAddr, oP_field, oP_indexAddr, oP_slice, oP_load, oP_convert, aPick_true, aPick_false, aPick_bool, oP_pick, aExtract_tup, oP_extract, oP_nilCheck, oP_build, oP_len, oP_cap, oP_max, oP_min, oP_makeFunc, oS_some, oP_store, oA_some, oP_append, oM_some, oP_alloc, oP_box, oP_buildSlice, oP_mkS, oP_call, oP_callv, oF_func, aev_tmp, aev_const, aev_func, aput_get, aput_none, bin_add, bin_sub, bin_mul, bin_eql, bin_neq, bin_lss, bin_leq, bin_gtr, bin_geq, un_not, un_neg, tm0_get, fin_ret, fin_end, oR_some, resL_nil, resL_tmp, resL_cell, tup_one, tup_two, tup_nil, cond_true, cond_false, load_eq, Option.bind_some, gt0, gti, mkv, List.length_append, List.length_cons, List.length_nil, List.append_assoc, List.cons_append, List.nil_append, rd0, rdi, wrt0, wrti, rdB_own, rdB_ro, wrB_own, oL_some, aggAt, sto_some, st0, sti, List.set_cons_zero, List.set_cons_succ, splice_nil, splice_cons, cells_agg, cells_int, cells_bool, cells_string, cells_pointer, cells_slice, leaf_int, leaf_bool, leaf_string, leaf_pointer, leaf_slice, List.size_toArray, List.all_cons, List.all_nil, Bool.and_self, Bool.and_true, and_self, true_and, and_true, Nat.zero_add, Nat.add_zero, Nat.reduceLeDiff, Nat.le_refl, List.drop_zero, List.drop_succ_cons, List.take_succ_cons, List.take_zero, Nat.reduceSub, lp_end, lp_ret, lp_exit, oV_ite, oS_ite, oA_ite, slc_some, sls_some, optInt_none, optInt_some, rW_draw, rD_nil, rDV_eq, rDR_eq, rDE_eq, rDS_n, rDS_e, rD_load, rD_conv, rD_pure, rD_e, rD_g, rDG_t, rDG_f, rDG_undef, chkH_nil, chkH_cons, chkP_nil, chkP_cons, aRead_load, aRead_conv, isE_store, isE_call, isE_append, rDS_l, rDS_c, pl_move, pl_assign, pl_pick, pl_alloc, pl_box, pl_build, pl_buildSlice, pl_nilCheck, pl_binOp, pl_unOp, pl_makeFunc, pl_makeSlice, pl_slice, pl_fieldAddr, pl_field, pl_indexAddr, pl_index, pl_extract, pl_len, pl_cap, pl_max, pl_min, List.mem_cons, Prod.mk.injEq, List.not_mem_nil, or_false, or_true, false_or, true_or, and_false, false_and, false_implies, implies_true, true_implies, oM_ite, List.getElem?_toArray, List.getElem?_cons_zero, List.getElem?_cons_succ, List.getElem?_nil, Option.getD_some, Option.getD_none, Nat.reduceEqDiff, reduceIte, Nat.reduceAdd, List.map_toArray, List.map_cons, List.map_nil, Bool.false_eq_true, Nat.reduceBEq, Option.map_some, Option.map_none, reduceCtorEq, ix51, ld3, ln51]
  refine two_intro (fun h => ?_) (fun h => ?_)
  · have h' : 3 < l.length := by simp at h; omega
    rw [sizeI, if_pos h']
  · have h' : ¬ 3 < l.length := by simp at h; omega
    refine rW_loop (σ := Nat) (fun i tm H' => tm 0 = .slice a l.length c ∧ tm 4 = .int .i64 i ∧ tm 3 = .bool ((l.take i).any fun x => x == 0) ∧ H' = H ∧ i ≤ l.length ∧ ∀ x ∈ l.take i, inB x 0 300 = true) (fun i => l.length - i) 0 ?_ ?_
    · simp -implicitDefEqProofs [rE_seq_n, rE_seq_r, rE_seq_e, rE_blk_n, rE_blk_r, rE_blk_e, rW_skip, rW_ret, rW_exit, rW_ops, rW_seq, rW_block, ↓two_true, ↓two_false, rC_bool, rW_cond, rO_nil, rO_cons, oG_t, oG_f, oG_undef, rO_guard, oV_some, rOV_eq, oP_move, oP_assign, oP_bin, oP_un, oP_index, oP_fieldAddr, oP_field, oP_indexAddr, oP_slice, oP_load, oP_convert, aPick_true, aPick_false, aPick_bool, oP_pick, aExtract_tup, oP_extract, oP_nilCheck, oP_build, oP_len, oP_cap, oP_max, oP_min, oP_makeFunc, oS_some, oP_store, oA_some, oP_append, oM_some, oP_alloc, oP_box, oP_buildSlice, oP_mkS, oP_call, oP_callv, oF_func, aev_tmp, aev_const, aev_func, aput_get, aput_none, bin_add, bin_sub, bin_mul, bin_eql, bin_neq, bin_lss, bin_leq, bin_gtr, bin_geq, un_not, un_neg, tm0_get, fin_ret, fin_end, oR_some, resL_nil, resL_tmp, resL_cell, tup_one, tup_two, tup_nil, cond_true, cond_false, load_eq, Option.bind_some, gt0, gti, mkv, List.length_append, List.length_cons, List.length_nil, List.append_assoc, List.cons_append, List.nil_append, rd0, rdi, wrt0, wrti, rdB_own, rdB_ro, wrB_own, oL_some, aggAt, sto_some, st0, sti, List.set_cons_zero, List.set_cons_succ, splice_nil, splice_cons, cells_agg, cells_int, cells_bool, cells_string, cells_pointer, cells_slice, leaf_int, leaf_bool, leaf_string, leaf_pointer, leaf_slice, List.size_toArray, List.all_cons, List.all_nil, Bool.and_self, Bool.and_true, and_self, true_and, and_true, Nat.zero_add, Nat.add_zero, Nat.reduceLeDiff, Nat.le_refl, List.drop_zero, List.drop_succ_cons, List.take_succ_cons, List.take_zero, Nat.reduceSub, lp_end, lp_ret, lp_exit, oV_ite, oS_ite, oA_ite, slc_some, sls_some, optInt_none, optInt_some, rW_draw, rD_nil, rDV_eq, rDR_eq, rDE_eq, rDS_n, rDS_e, rD_load, rD_conv, rD_pure, rD_e, rD_g, rDG_t, rDG_f, rDG_undef, chkH_nil, chkH_cons, chkP_nil, chkP_cons, aRead_load, aRead_conv, isE_store, isE_call, isE_append, rDS_l, rDS_c, pl_move, pl_assign, pl_pick, pl_alloc, pl_box, pl_build, pl_buildSlice, pl_nilCheck, pl_binOp, pl_unOp, pl_makeFunc, pl_makeSlice, pl_slice, pl_fieldAddr, pl_field, pl_indexAddr, pl_index, pl_extract, pl_len, pl_cap, pl_max, pl_min, List.mem_cons, Prod.mk.injEq, List.not_mem_nil, or_false, or_true, false_or, true_or, and_false, false_and, false_implies, implies_true, true_implies, oM_ite, List.getElem?_toArray, List.getElem?_cons_zero, List.getElem?_cons_succ, List.getElem?_nil, Option.getD_some, Option.getD_none, Nat.reduceEqDiff, reduceIte, Nat.reduceAdd, List.map_toArray, List.map_cons, List.map_nil, Bool.false_eq_true, Nat.reduceBEq, Option.map_some, Option.map_none, reduceCtorEq, ix51, ld3, ln51]
    · rintro i tm H' ⟨h0, h4, h3, rfl, hi, ha⟩
      simp -implicitDefEqProofs only [rE_seq_n, rE_seq_r, rE_seq_e, rE_blk_n, rE_blk_r, rE_blk_e, rW_skip, rW_ret, rW_exit, rW_ops, rW_seq, rW_block, ↓two_true, ↓two_false, rC_bool, rW_cond, rO_nil, rO_cons, oG_t, oG_f, oG_undef, rO_guard, oV_some, rOV_eq, oP_move, oP_assign, oP_bin, oP_un, oP_index, oP_fieldAddr, oP_field, oP_indexAddr, oP_slice, oP_load, oP_convert, aPick_true, aPick_false, aPick_bool, oP_pick, aExtract_tup, oP_extract, oP_nilCheck, oP_build, oP_len, oP_cap, oP_max, oP_min, oP_makeFunc, oS_some, oP_store, oA_some, oP_append, oM_some, oP_alloc, oP_box, oP_buildSlice, oP_mkS, oP_call, oP_callv, oF_func, aev_tmp, aev_const, aev_func, aput_get, aput_none, bin_add, bin_sub, bin_mul, bin_eql, bin_neq, bin_lss, bin_leq, bin_gtr, bin_geq, un_not, un_neg, tm0_get, fin_ret, fin_end, oR_some, resL_nil, resL_tmp, resL_cell, tup_one, tup_two, tup_nil, cond_true, cond_false, load_eq, Option.bind_some, gt0, gti, mkv, List.length_append, List.length_cons, List.length_nil, List.append_assoc, List.cons_append, List.nil_append, rd0, rdi, wrt0, wrti, rdB_own, rdB_ro, wrB_own, oL_some, aggAt, sto_some, st0, sti, List.set_cons_zero, List.set_cons_succ, splice_nil, splice_cons, cells_agg, cells_int, cells_bool, cells_string, cells_pointer, cells_slice, leaf_int, leaf_bool, leaf_string, leaf_pointer, leaf_slice, List.size_toArray, List.all_cons, List.all_nil, Bool.and_self, Bool.and_true, and_self, true_and, and_true, Nat.zero_add, Nat.add_zero, Nat.reduceLeDiff, Nat.le_refl, List.drop_zero, List.drop_succ_cons, List.take_succ_cons, List.take_zero, Nat.reduceSub, lp_end, lp_ret, lp_exit, oV_ite, oS_ite, oA_ite, slc_some, sls_some, optInt_none, optInt_some, rW_draw, rD_nil, rDV_eq, rDR_eq, rDE_eq, rDS_n, rDS_e, rD_load, rD_conv, rD_pure, rD_e, rD_g, rDG_t, rDG_f, rDG_undef, chkH_nil, chkH_cons, chkP_nil, chkP_cons, aRead_load, aRead_conv, isE_store, isE_call, isE_append, rDS_l, rDS_c, pl_move, pl_assign, pl_pick, pl_alloc, pl_box, pl_build, pl_buildSlice, pl_nilCheck, pl_binOp, pl_unOp, pl_makeFunc, pl_makeSlice, pl_slice, pl_fieldAddr, pl_field, pl_indexAddr, pl_index, pl_extract, pl_len, pl_cap, pl_max, pl_min, List.mem_cons, Prod.mk.injEq, List.not_mem_nil, or_false, or_true, false_or, true_or, and_false, false_and, false_implies, implies_true, true_implies, oM_ite, List.getElem?_toArray, List.getElem?_cons_zero, List.getElem?_cons_succ, List.getElem?_nil, Option.getD_some, Option.getD_none, Nat.reduceEqDiff, reduceIte, Nat.reduceAdd, List.map_toArray, List.map_cons, List.map_nil, Bool.false_eq_true, Nat.reduceBEq, Option.map_some, Option.map_none, reduceCtorEq, ix51, ld3, ln51, h0, h3, h4, l1In_eq]
      refine two_intro (fun hc => ?_) (fun hc => ?_)
      · have hc' : i < l.length := by simpa using hc
        obtain ⟨b, o, cs, rfl, rfl, hrd, _, hcell⟩ := gv (by omega)
        simp -implicitDefEqProofs only [rE_seq_n, rE_seq_r, rE_seq_e, rE_blk_n, rE_blk_r, rE_blk_e, rW_skip, rW_ret, rW_exit, rW_ops, rW_seq, rW_block, ↓two_true, ↓two_false, rC_bool, rW_cond, rO_nil, rO_cons, oG_t, oG_f, oG_undef, rO_guard, oV_some, rOV_eq, oP_move, oP_assign, oP_bin, oP_un, oP_index, oP_fieldAddr, oP_field, oP_indexAddr, oP_slice, oP_load, oP_convert, aPick_true, aPick_false, aPick_bool, oP_pick, aExtract_tup, oP_extract, oP_nilCheck, oP_build, oP_len, oP_cap, oP_max, oP_min, oP_makeFunc, oS_some, oP_store, oA_some, oP_append, oM_some, oP_alloc, oP_box, oP_buildSlice, oP_mkS, oP_call, oP_callv, oF_func, aev_tmp, aev_const, aev_func, aput_get, aput_none, bin_add, bin_sub, bin_mul, bin_eql, bin_neq, bin_lss, bin_leq, bin_gtr, bin_geq, un_not, un_neg, tm0_get, fin_ret, fin_end, oR_some, resL_nil, resL_tmp, resL_cell, tup_one, tup_two, tup_nil, cond_true, cond_false, load_eq, Option.bind_some, gt0, gti, mkv, List.length_append, List.length_cons, List.length_nil, List.append_assoc, List.cons_append, List.nil_append, rd0, rdi, wrt0, wrti, rdB_own, rdB_ro, wrB_own, oL_some, aggAt, sto_some, st0, sti, List.set_cons_zero, List.set_cons_succ, splice_nil, splice_cons, cells_agg, cells_int, cells_bool, cells_string, cells_pointer, cells_slice, leaf_int, leaf_bool, leaf_string, leaf_pointer, leaf_slice, List.size_toArray, List.all_cons, List.all_nil, Bool.and_self, Bool.and_true, and_self, true_and, and_true, Nat.zero_add, Nat.add_zero, Nat.reduceLeDiff, Nat.le_refl, List.drop_zero, List.drop_succ_cons, List.take_succ_cons, List.take_zero, Nat.reduceSub, lp_end, lp_ret, lp_exit, oV_ite, oS_ite, oA_ite, slc_some, sls_some, optInt_none, optInt_some, rW_draw, rD_nil, rDV_eq, rDR_eq, rDE_eq, rDS_n, rDS_e, rD_load, rD_conv, rD_pure, rD_e, rD_g, rDG_t, rDG_f, rDG_undef, chkH_nil, chkH_cons, chkP_nil, chkP_cons, aRead_load, aRead_conv, isE_store, isE_call, isE_append, rDS_l, rDS_c, pl_move, pl_assign, pl_pick, pl_alloc, pl_box, pl_build, pl_buildSlice, pl_nilCheck, pl_binOp, pl_unOp, pl_makeFunc, pl_makeSlice, pl_slice, pl_fieldAddr, pl_field, pl_indexAddr, pl_index, pl_extract, pl_len, pl_cap, pl_max, pl_min, List.mem_cons, Prod.mk.injEq, List.not_mem_nil, or_false, or_true, false_or, true_or, and_false, false_and, false_implies, implies_true, true_implies, oM_ite, List.getElem?_toArray, List.getElem?_cons_zero, List.getElem?_cons_succ, List.getElem?_nil, Option.getD_some, Option.getD_none, Nat.reduceEqDiff, reduceIte, Nat.reduceAdd, List.map_toArray, List.map_cons, List.map_nil, Bool.false_eq_true, Nat.reduceBEq, Option.map_some, Option.map_none, reduceCtorEq, ix51, ld3, ln51, h0, h3, h4, l1In_eq, Int.toNat_natCast, Nat.mul_one, hrd, hcell i hc', IntWalk.i64_in (↑i + 1) (by omega)]
        refine ⟨⟨by omega, by omega⟩, two_intro (fun h => ?_) (fun h => ?_)⟩
        · have hb : inB l[i] 0 300 = false := by simpa using h
          rw [sizeI, if_neg h', all_take_false hc' hb]
          simp
        · have hb : inB l[i] 0 300 = true := by simpa using h
          have e1 : ((l.take (i + 1)).any fun x => x == 0) = (((l.take i).any fun x => x == 0) || l[i] == 0) := by rw [List.take_succ_eq_append_getElem hc']; simp only [List.any_append, List.any_cons, List.any_nil, Bool.or_false]
          have e2 : ∀ x ∈ l.take (i + 1), inB x 0 300 = true := by
            intro x hx
            rw [List.take_succ_eq_append_getElem hc'] at hx
            rcases List.mem_append.1 hx with hx | hx
            · exact ha x hx
            · rw [List.mem_singleton.1 hx]; exact hb
          refine two_intro (fun h2 => ?_) (fun h2 => ?_)
          · exact ⟨i + 1, by omega, by simp, by rw [e1, h2]; rfl, hc', e2⟩
          · exact ⟨⟨by omega, by omega⟩, i + 1, by omega, by simp, by rw [e1, h2]; rfl, hc', e2⟩
      · have hc' : ¬ i < l.length := by simpa using hc
        have hil : i = l.length := by omega
        subst hil
        rw [List.take_length] at ha h3
        have hall : l.all (fun x => inB x 0 300) = true := List.all_eq_true.2 ha
        refine rW_loop (σ := Nat) (fun i tm H'' => tm 0 = .slice a l.length c ∧ tm 6 = .int .i64 i ∧ tm 3 = .bool (l.any fun x => x == 0) ∧ tm 5 = .int .i64 (prodI (l.take i)) ∧ H'' = H' ∧ i ≤ l.length ∧ (0 ≤ prodI (l.take i) ∧ prodI (l.take i) ≤ 300 ^ i)) (fun i => l.length - i) 0 ?_ ?_
        · simp -implicitDefEqProofs [rE_seq_n, rE_seq_r, rE_seq_e, rE_blk_n, rE_blk_r, rE_blk_e, rW_skip, rW_ret, rW_exit, rW_ops, rW_seq, rW_block, ↓two_true, ↓two_false, rC_bool, rW_cond, rO_nil, rO_cons, oG_t, oG_f, oG_undef, rO_guard, oV_some, rOV_eq, oP_move, oP_assign, oP_bin, oP_un, oP_index, oP_fieldAddr, oP_field, oP_indexAddr, oP_slice, oP_load, oP_convert, aPick_true, aPick_false, aPick_bool, oP_pick, aExtract_tup, oP_extract, oP_nilCheck, oP_build, oP_len, oP_cap, oP_max, oP_min, oP_makeFunc, oS_some, oP_store, oA_some, oP_append, oM_some, oP_alloc, oP_box, oP_buildSlice, oP_mkS, oP_call, oP_callv, oF_func, aev_tmp, aev_const, aev_func, aput_get, aput_none, bin_add, bin_sub, bin_mul, bin_eql, bin_neq, bin_lss, bin_leq, bin_gtr, bin_geq, un_not, un_neg, tm0_get, fin_ret, fin_end, oR_some, resL_nil, resL_tmp, resL_cell, tup_one, tup_two, tup_nil, cond_true, cond_false, load_eq, Option.bind_some, gt0, gti, mkv, List.length_append, List.length_cons, List.length_nil, List.append_assoc, List.cons_append, List.nil_append, rd0, rdi, wrt0, wrti, rdB_own, rdB_ro, wrB_own, oL_some, aggAt, sto_some, st0, sti, List.set_cons_zero, List.set_cons_succ, splice_nil, splice_cons, cells_agg, cells_int, cells_bool, cells_string, cells_pointer, cells_slice, leaf_int, leaf_bool, leaf_string, leaf_pointer, leaf_slice, List.size_toArray, List.all_cons, List.all_nil, Bool.and_self, Bool.and_true, and_self, true_and, and_true, Nat.zero_add, Nat.add_zero, Nat.reduceLeDiff, Nat.le_refl, List.drop_zero, List.drop_succ_cons, List.take_succ_cons, List.take_zero, Nat.reduceSub, lp_end, lp_ret, lp_exit, oV_ite, oS_ite, oA_ite, slc_some, sls_some, optInt_none, optInt_some, rW_draw, rD_nil, rDV_eq, rDR_eq, rDE_eq, rDS_n, rDS_e, rD_load, rD_conv, rD_pure, rD_e, rD_g, rDG_t, rDG_f, rDG_undef, chkH_nil, chkH_cons, chkP_nil, chkP_cons, aRead_load, aRead_conv, isE_store, isE_call, isE_append, rDS_l, rDS_c, pl_move, pl_assign, pl_pick, pl_alloc, pl_box, pl_build, pl_buildSlice, pl_nilCheck, pl_binOp, pl_unOp, pl_makeFunc, pl_makeSlice, pl_slice, pl_fieldAddr, pl_field, pl_indexAddr, pl_index, pl_extract, pl_len, pl_cap, pl_max, pl_min, List.mem_cons, Prod.mk.injEq, List.not_mem_nil, or_false, or_true, false_or, true_or, and_false, false_and, false_implies, implies_true, true_implies, oM_ite, List.getElem?_toArray, List.getElem?_cons_zero, List.getElem?_cons_succ, List.getElem?_nil, Option.getD_some, Option.getD_none, Nat.reduceEqDiff, reduceIte, Nat.reduceAdd, List.map_toArray, List.map_cons, List.map_nil, Bool.false_eq_true, Nat.reduceBEq, Option.map_some, Option.map_none, reduceCtorEq, ix51, ld3, ln51, h0, h3, prodI]
        · clear h0 h3 h4
          rintro i tm H2 ⟨h0, h6, h3, h5, rfl, hi, hp⟩
          simp -implicitDefEqProofs only [rE_seq_n, rE_seq_r, rE_seq_e, rE_blk_n, rE_blk_r, rE_blk_e, rW_skip, rW_ret, rW_exit, rW_ops, rW_seq, rW_block, ↓two_true, ↓two_false, rC_bool, rW_cond, rO_nil, rO_cons, oG_t, oG_f, oG_undef, rO_guard, oV_some, rOV_eq, oP_move, oP_assign, oP_bin, oP_un, oP_index, oP_fieldAddr, oP_field, oP_indexAddr, oP_slice, oP_load, oP_convert, aPick_true, aPick_false, aPick_bool, oP_pick, aExtract_tup, oP_extract, oP_nilCheck, oP_build, oP_len, oP_cap, oP_max, oP_min, oP_makeFunc, oS_some, oP_store, oA_some, oP_append, oM_some, oP_alloc, oP_box, oP_buildSlice, oP_mkS, oP_call, oP_callv, oF_func, aev_tmp, aev_const, aev_func, aput_get, aput_none, bin_add, bin_sub, bin_mul, bin_eql, bin_neq, bin_lss, bin_leq, bin_gtr, bin_geq, un_not, un_neg, tm0_get, fin_ret, fin_end, oR_some, resL_nil, resL_tmp, resL_cell, tup_one, tup_two, tup_nil, cond_true, cond_false, load_eq, Option.bind_some, gt0, gti, mkv, List.length_append, List.length_cons, List.length_nil, List.append_assoc, List.cons_append, List.nil_append, rd0, rdi, wrt0, wrti, rdB_own, rdB_ro, wrB_own, oL_some, aggAt, sto_some, st0, sti, List.set_cons_zero, List.set_cons_succ, splice_nil, splice_cons, cells_agg, cells_int, cells_bool, cells_string, cells_pointer, cells_slice, leaf_int, leaf_bool, leaf_string, leaf_pointer, leaf_slice, List.size_toArray, List.all_cons, List.all_nil, Bool.and_self, Bool.and_true, and_self, true_and, and_true, Nat.zero_add, Nat.add_zero, Nat.reduceLeDiff, Nat.le_refl, List.drop_zero, List.drop_succ_cons, List.take_succ_cons, List.take_zero, Nat.reduceSub, lp_end, lp_ret, lp_exit, oV_ite, oS_ite, oA_ite, slc_some, sls_some, optInt_none, optInt_some, rW_draw, rD_nil, rDV_eq, rDR_eq, rDE_eq, rDS_n, rDS_e, rD_load, rD_conv, rD_pure, rD_e, rD_g, rDG_t, rDG_f, rDG_undef, chkH_nil, chkH_cons, chkP_nil, chkP_cons, aRead_load, aRead_conv, isE_store, isE_call, isE_append, rDS_l, rDS_c, pl_move, pl_assign, pl_pick, pl_alloc, pl_box, pl_build, pl_buildSlice, pl_nilCheck, pl_binOp, pl_unOp, pl_makeFunc, pl_makeSlice, pl_slice, pl_fieldAddr, pl_field, pl_indexAddr, pl_index, pl_extract, pl_len, pl_cap, pl_max, pl_min, List.mem_cons, Prod.mk.injEq, List.not_mem_nil, or_false, or_true, false_or, true_or, and_false, false_and, false_implies, implies_true, true_implies, oM_ite, List.getElem?_toArray, List.getElem?_cons_zero, List.getElem?_cons_succ, List.getElem?_nil, Option.getD_some, Option.getD_none, Nat.reduceEqDiff, reduceIte, Nat.reduceAdd, List.map_toArray, List.map_cons, List.map_nil, Bool.false_eq_true, Nat.reduceBEq, Option.map_some, Option.map_none, reduceCtorEq, ix51, ld3, ln51, h0, h3, h5, h6]
          refine two_intro (fun hc => ?_) (fun hc => ?_)
          · have hc' : i < l.length := by simpa using hc
            obtain ⟨b, o, cs, rfl, rfl, hrd, _, hcell⟩ := gv (by omega)
            have hlim := pow_lim (i := i + 1) (by omega)
            have hst := pow_step hp (inB_true.1 (ha l[i] (List.getElem_mem hc')))
            have e1 : prodI (l.take (i + 1)) = prodI (l.take i) * l[i] := by rw [List.take_succ_eq_append_getElem hc', prodI_snoc]
            simp -implicitDefEqProofs only [rE_seq_n, rE_seq_r, rE_seq_e, rE_blk_n, rE_blk_r, rE_blk_e, rW_skip, rW_ret, rW_exit, rW_ops, rW_seq, rW_block, ↓two_true, ↓two_false, rC_bool, rW_cond, rO_nil, rO_cons, oG_t, oG_f, oG_undef, rO_guard, oV_some, rOV_eq, oP_move, oP_assign, oP_bin, oP_un, oP_index, oP_fieldAddr, oP_field, oP_indexAddr, oP_slice, oP_load, oP_convert, aPick_true, aPick_false, aPick_bool, oP_pick, aExtract_tup, oP_extract, oP_nilCheck, oP_build, oP_len, oP_cap, oP_max, oP_min, oP_makeFunc, oS_some, oP_store, oA_some, oP_append, oM_some, oP_alloc, oP_box, oP_buildSlice, oP_mkS, oP_call, oP_callv, oF_func, aev_tmp, aev_const, aev_func, aput_get, aput_none, bin_add, bin_sub, bin_mul, bin_eql, bin_neq, bin_lss, bin_leq, bin_gtr, bin_geq, un_not, un_neg, tm0_get, fin_ret, fin_end, oR_some, resL_nil, resL_tmp, resL_cell, tup_one, tup_two, tup_nil, cond_true, cond_false, load_eq, Option.bind_some, gt0, gti, mkv, List.length_append, List.length_cons, List.length_nil, List.append_assoc, List.cons_append, List.nil_append, rd0, rdi, wrt0, wrti, rdB_own, rdB_ro, wrB_own, oL_some, aggAt, sto_some, st0, sti, List.set_cons_zero, List.set_cons_succ, splice_nil, splice_cons, cells_agg, cells_int, cells_bool, cells_string, cells_pointer, cells_slice, leaf_int, leaf_bool, leaf_string, leaf_pointer, leaf_slice, List.size_toArray, List.all_cons, List.all_nil, Bool.and_self, Bool.and_true, and_self, true_and, and_true, Nat.zero_add, Nat.add_zero, Nat.reduceLeDiff, Nat.le_refl, List.drop_zero, List.drop_succ_cons, List.take_succ_cons, List.take_zero, Nat.reduceSub, lp_end, lp_ret, lp_exit, oV_ite, oS_ite, oA_ite, slc_some, sls_some, optInt_none, optInt_some, rW_draw, rD_nil, rDV_eq, rDR_eq, rDE_eq, rDS_n, rDS_e, rD_load, rD_conv, rD_pure, rD_e, rD_g, rDG_t, rDG_f, rDG_undef, chkH_nil, chkH_cons, chkP_nil, chkP_cons, aRead_load, aRead_conv, isE_store, isE_call, isE_append, rDS_l, rDS_c, pl_move, pl_assign, pl_pick, pl_alloc, pl_box, pl_build, pl_buildSlice, pl_nilCheck, pl_binOp, pl_unOp, pl_makeFunc, pl_makeSlice, pl_slice, pl_fieldAddr, pl_field, pl_indexAddr, pl_index, pl_extract, pl_len, pl_cap, pl_max, pl_min, List.mem_cons, Prod.mk.injEq, List.not_mem_nil, or_false, or_true, false_or, true_or, and_false, false_and, false_implies, implies_true, true_implies, oM_ite, List.getElem?_toArray, List.getElem?_cons_zero, List.getElem?_cons_succ, List.getElem?_nil, Option.getD_some, Option.getD_none, Nat.reduceEqDiff, reduceIte, Nat.reduceAdd, List.map_toArray, List.map_cons, List.map_nil, Bool.false_eq_true, Nat.reduceBEq, Option.map_some, Option.map_none, reduceCtorEq, ix51, ld3, ln51, h0, h3, h5, h6, Int.toNat_natCast, Nat.mul_one, hrd, hcell i hc', IntWalk.i64_in (↑i + 1) (by omega), IntWalk.i64_in (prodI (l.take i) * l[i]) (by omega)]
            exact ⟨⟨by omega, by omega⟩, i + 1, by omega, by simp, by rw [e1], hc', by rw [e1]; exact hst⟩
          · have hc' : ¬ i < l.length := by simpa using hc
            have hil : i = l.length := by omega
            subst hil
            rw [List.take_length] at h5 ⊢
            rw [sizeI, if_neg h', if_pos hall]
            refine two_intro (fun h => ?_) (fun h => ?_)
            · refine two_intro (fun h2 => ?_) (fun h2 => ?_)
              · rw [if_pos (by simpa using h)]
              · have := prodI_zero l (by simpa using h2)
                rw [this] at h
                simp at h
            · rw [if_neg (by simpa using h)]
theorem specSizeOf_eq {H : AH} {v : Value} (hv : OkI H v) (hl : (rowI H v).length < 4611686018427387904) {Φ : Value → AH → Prop} : CallsA Try.prog 71 #[v] H Φ = Φ (.int .i64 (sizeI (rowI H v))) H := (specSizeOf_ok hv hl).eq0

/-! ### looking with a function -/
def idxF {α : Type} (p : α → Bool) (l : List α) : Int := match l.findIdx? p with | some i => i | none => -1
theorem idxF_some {α : Type} {p : α → Bool} {l : List α} {i : Nat} (hi : i < l.length) (h : p l[i] = true) (hn : ∀ x ∈ l.take i, p x = false) : idxF p l = i := by
  have : l.findIdx? p = some i := by
    rw [List.findIdx?_eq_some_iff_getElem]
    refine ⟨hi, h, fun j hj => ?_⟩
    have hji : j < l.length := by omega
    have := hn l[j] (List.mem_iff_getElem?.2 ⟨j, by rw [List.getElem?_take_of_lt hj, List.getElem?_eq_getElem hji]⟩)
    simp [this]
  simp [idxF, this]
theorem idxF_none {α : Type} {p : α → Bool} {l : List α} (hn : ∀ x ∈ l, p x = false) : idxF p l = -1 := by
  have : l.findIdx? p = none := by
    rw [List.findIdx?_eq_none_iff]; exact hn
  simp [idxF, this]
theorem idxF_any {α : Type} {p : α → Bool} {l : List α} : decide (idxF p l ≥ 0) = l.any p := by
  cases h : l.findIdx? p with
  | none =>
    have h2 := List.findIdx?_eq_none_iff.1 h
    have : l.any p = false := by
      rw [Bool.eq_false_iff]
      intro ha
      obtain ⟨x, hx, hp⟩ := List.any_eq_true.1 ha
      rw [h2 x hx] at hp; cases hp
    simp [idxF, h, this]
  | some i =>
    obtain ⟨hi, hp, _⟩ := List.findIdx?_eq_some_iff_getElem.1 h
    have : l.any p = true := List.any_eq_true.2 ⟨l[i], List.getElem_mem hi, hp⟩
    simp [idxF, h, this]

theorem indexFuncI_ok {H : AH} {v : Value} {l : List Int} {g : FuncId} {p : Int → Bool} (hv : IntRow H v l) (hl : l.length < 4611686018427387904) (hp : ∀ x (H : AH) (Φ : Value → AH → Prop), CallsA Try.prog g #[.int .i64 x] H Φ = Φ (.bool (p x)) H) :
    CallsA Try.prog 87 #[v, .func (.func g) #[] #[]] H fun r H' => r = .int .i64 (idxF p l) ∧ H' = H := by
  obtain ⟨a, c, rfl, gv⟩ := hv.op
  refine w87 ?_
  unfold k87
  simp -implicitDefEqProofs only [rE_seq_n, rE_seq_r, rE_seq_e, rE_blk_n, rE_blk_r, rE_blk_e, rW_skip, rW_ret, rW_exit, rW_ops, rW_seq, rW_block, ↓two_true, ↓two_false, rC_bool, rW_cond, rO_nil, rO_cons, oG_t, oG_f, oG_undef, rO_guard, oV_some, rOV_eq, oP_move, oP_assign, oP_bin, oP_un, oP_index, oP_fieldAddr, oP_field, oP_indexAddr, oP_slice, oP_load, oP_convert, aPick_true, aPick_false, aPick_bool, oP_pick, aExtract_tup, oP_extract, oP_nilCheck, oP_build, oP_len, oP_cap, oP_max, oP_min, oP_makeFunc, oS_some, oP_store, oA_some, oP_append, oM_some, oP_alloc, oP_box, oP_buildSlice, oP_mkS, oP_call, oP_callv, oF_func, aev_tmp, aev_const, aev_func, aput_get, aput_none, bin_add, bin_sub, bin_mul, bin_eql, bin_neq, bin_lss, bin_leq, bin_gtr, bin_geq, un_not, un_neg, tm0_get, fin_ret, fin_end, oR_some, resL_nil, resL_tmp, resL_cell, tup_one, tup_two, tup_nil, cond_true, cond_false, load_eq, Option.bind_some, gt0, gti, mkv, List.length_append, List.length_cons, List.length_nil, List.append_assoc, List.cons_append, List.nil_append, rd0, rdi, wrt0, wrti, rdB_own, rdB_ro, wrB_own, oL_some, aggAt, sto_some, st0, sti, List.set_cons_zero, List.set_cons_succ, splice_nil, splice_cons, cells_agg, cells_int, cells_bool, cells_string, cells_pointer, cells_slice, leaf_int, leaf_bool, leaf_string, leaf_pointer, leaf_slice, List.size_toArray, List.all_cons, List.all_nil, Bool.and_self, Bool.and_true, and_self, true_and, and_true, Nat.zero_add, Nat.add_zero, Nat.reduceLeDiff, Nat.le_refl, List.drop_zero, List.drop_succ_cons, List.take_succ_cons, List.take_zero, Nat.reduceSub, lp_end, lp_ret, lp_exit, oV_ite, oS_ite, oA_ite, slc_some, sls_some, optInt_none, optInt_some, rW_draw, rD_nil, rDV_eq, rDR_eq, rDE_eq, rDS_n, rDS_e, rD_load, rD_conv, rD_pure, rD_e, rD_g, rDG_t, rDG_f, rDG_undef, chkH_nil, chkH_cons, chkP_nil, chkP_cons, aRead_load, aRead_conv, isE_store, isE_call, isE_append, rDS_l, rDS_c, pl_move, pl_assign, pl_pick, pl_alloc, pl_box, pl_build, pl_buildSlice, pl_nilCheck, pl_binOp, pl_unOp, pl_makeFunc, pl_makeSlice, pl_slice, pl_fieldAddr, pl_field, pl_indexAddr, pl_index, pl_extract, pl_len, pl_cap, pl_max, pl_min, List.mem_cons, Prod.mk.injEq, List.not_mem_nil, or_false, or_true, false_or, true_or, and_false, false_and, false_implies, implies_true, true_implies, oM_ite, List.getElem?_toArray, List.getElem?_cons_zero, List.getElem?_cons_succ, List.getElem?_nil, Option.getD_some, Option.getD_none, Nat.reduceEqDiff, reduceIte, Nat.reduceAdd, List.map_toArray, List.map_cons, List.map_nil, Bool.false_eq_true, Nat.reduceBEq, Option.map_some, Option.map_none, reduceCtorEq, ix51, ld3, ln51]
  refine rW_loop (σ := Nat) (fun i tm H' => tm 0 = .slice a l.length c ∧ tm 1 = .func (.func g) #[] #[] ∧ tm 7 = .int .i64 l.length ∧ tm 8 = .int .i64 i ∧ H' = H ∧ i ≤ l.length ∧ ∀ x ∈ l.take i, p x = false) (fun i => l.length - i) 0 ?_ ?_
  · simp -implicitDefEqProofs [rE_seq_n, rE_seq_r, rE_seq_e, rE_blk_n, rE_blk_r, rE_blk_e, rW_skip, rW_ret, rW_exit, rW_ops, rW_seq, rW_block, ↓two_true, ↓two_false, rC_bool, rW_cond, rO_nil, rO_cons, oG_t, oG_f, oG_undef, rO_guard, oV_some, rOV_eq, oP_move, oP_assign, oP_bin, oP_un, oP_index, oP_fieldAddr, oP_field, oP_indexAddr, oP_slice, oP_load, oP_convert, aPick_true, aPick_false, aPick_bool, oP_pick, aExtract_tup, oP_extract, oP_nilCheck, oP_build, oP_len, oP_cap, oP_max, oP_min, oP_makeFunc, oS_some, oP_store, oA_some, oP_append, oM_some, oP_alloc, oP_box, oP_buildSlice, oP_mkS, oP_call, oP_callv, oF_func, aev_tmp, aev_const, aev_func, aput_get, aput_none, bin_add, bin_sub, bin_mul, bin_eql, bin_neq, bin_lss, bin_leq, bin_gtr, bin_geq, un_not, un_neg, tm0_get, fin_ret, fin_end, oR_some, resL_nil, resL_tmp, resL_cell, tup_one, tup_two, tup_nil, cond_true, cond_false, load_eq, Option.bind_some, gt0, gti, mkv, List.length_append, List.length_cons, List.length_nil, List.append_assoc, List.cons_append, List.nil_append, rd0, rdi, wrt0, wrti, rdB_own, rdB_ro, wrB_own, oL_some, aggAt, sto_some, st0, sti, List.set_cons_zero, List.set_cons_succ, splice_nil, splice_cons, cells_agg, cells_int, cells_bool, cells_string, cells_pointer, cells_slice, leaf_int, leaf_bool, leaf_string, leaf_pointer, leaf_slice, List.size_toArray, List.all_cons, List.all_nil, Bool.and_self, Bool.and_true, and_self, true_and, and_true, Nat.zero_add, Nat.add_zero, Nat.reduceLeDiff, Nat.le_refl, List.drop_zero, List.drop_succ_cons, List.take_succ_cons, List.take_zero, Nat.reduceSub, lp_end, lp_ret, lp_exit, oV_ite, oS_ite, oA_ite, slc_some, sls_some, optInt_none, optInt_some, rW_draw, rD_nil, rDV_eq, rDR_eq, rDE_eq, rDS_n, rDS_e, rD_load, rD_conv, rD_pure, rD_e, rD_g, rDG_t, rDG_f, rDG_undef, chkH_nil, chkH_cons, chkP_nil, chkP_cons, aRead_load, aRead_conv, isE_store, isE_call, isE_append, rDS_l, rDS_c, pl_move, pl_assign, pl_pick, pl_alloc, pl_box, pl_build, pl_buildSlice, pl_nilCheck, pl_binOp, pl_unOp, pl_makeFunc, pl_makeSlice, pl_slice, pl_fieldAddr, pl_field, pl_indexAddr, pl_index, pl_extract, pl_len, pl_cap, pl_max, pl_min, List.mem_cons, Prod.mk.injEq, List.not_mem_nil, or_false, or_true, false_or, true_or, and_false, false_and, false_implies, implies_true, true_implies, oM_ite, List.getElem?_toArray, List.getElem?_cons_zero, List.getElem?_cons_succ, List.getElem?_nil, Option.getD_some, Option.getD_none, Nat.reduceEqDiff, reduceIte, Nat.reduceAdd, List.map_toArray, List.map_cons, List.map_nil, Bool.false_eq_true, Nat.reduceBEq, Option.map_some, Option.map_none, reduceCtorEq, ix51, ld3, ln51]
  · rintro i tm H' ⟨h0, h1, h7, h8, rfl, hi, hn⟩
    simp -implicitDefEqProofs only [rE_seq_n, rE_seq_r, rE_seq_e, rE_blk_n, rE_blk_r, rE_blk_e, rW_skip, rW_ret, rW_exit, rW_ops, rW_seq, rW_block, ↓two_true, ↓two_false, rC_bool, rW_cond, rO_nil, rO_cons, oG_t, oG_f, oG_undef, rO_guard, oV_some, rOV_eq, oP_move, oP_assign, oP_bin, oP_un, oP_index, oP_fieldAddr, oP_field, oP_indexAddr, oP_slice, oP_load, oP_convert, aPick_true, aPick_false, aPick_bool, oP_pick, aExtract_tup, oP_extract, oP_nilCheck, oP_build, oP_len, oP_cap, oP_max, oP_min, oP_makeFunc, oS_some, oP_store, oA_some, oP_append, oM_some, oP_alloc, oP_box, oP_buildSlice, oP_mkS, oP_call, oP_callv, oF_func, aev_tmp, aev_const, aev_func, aput_get, aput_none, bin_add, bin_sub, bin_mul, bin_eql, bin_neq, bin_lss, bin_leq, bin_gtr, bin_geq, un_not, un_neg, tm0_get, fin_ret, fin_end, oR_some, resL_nil, resL_tmp, resL_cell, tup_one, tup_two, tup_nil, cond_true, cond_false, load_eq, Option.bind_some, gt0, gti, mkv, List.length_append, List.length_cons, List.length_nil, List.append_assoc, List.cons_append, List.nil_append, rd0, rdi, wrt0, wrti, rdB_own, rdB_ro, wrB_own, oL_some, aggAt, sto_some, st0, sti, List.set_cons_zero, List.set_cons_succ, splice_nil, splice_cons, cells_agg, cells_int, cells_bool, cells_string, cells_pointer, cells_slice, leaf_int, leaf_bool, leaf_string, leaf_pointer, leaf_slice, List.size_toArray, List.all_cons, List.all_nil, Bool.and_self, Bool.and_true, and_self, true_and, and_true, Nat.zero_add, Nat.add_zero, Nat.reduceLeDiff, Nat.le_refl, List.drop_zero, List.drop_succ_cons, List.take_succ_cons, List.take_zero, Nat.reduceSub, lp_end, lp_ret, lp_exit, oV_ite, oS_ite, oA_ite, slc_some, sls_some, optInt_none, optInt_some, rW_draw, rD_nil, rDV_eq, rDR_eq, rDE_eq, rDS_n, rDS_e, rD_load, rD_conv, rD_pure, rD_e, rD_g, rDG_t, rDG_f, rDG_undef, chkH_nil, chkH_cons, chkP_nil, chkP_cons, aRead_load, aRead_conv, isE_store, isE_call, isE_append, rDS_l, rDS_c, pl_move, pl_assign, pl_pick, pl_alloc, pl_box, pl_build, pl_buildSlice, pl_nilCheck, pl_binOp, pl_unOp, pl_makeFunc, pl_makeSlice, pl_slice, pl_fieldAddr, pl_field, pl_indexAddr, pl_index, pl_extract, pl_len, pl_cap, pl_max, pl_min, List.mem_cons, Prod.mk.injEq, List.not_mem_nil, or_false, or_true, false_or, true_or, and_false, false_and, false_implies, implies_true, true_implies, oM_ite, List.getElem?_toArray, List.getElem?_cons_zero, List.getElem?_cons_succ, List.getElem?_nil, Option.getD_some, Option.getD_none, Nat.reduceEqDiff, reduceIte, Nat.reduceAdd, List.map_toArray, List.map_cons, List.map_nil, Bool.false_eq_true, Nat.reduceBEq, Option.map_some, Option.map_none, reduceCtorEq, ix51, ld3, ln51, h0, h1, h7, h8]
    refine two_intro (fun hc => ?_) (fun hc => ?_)
    · have hc' : i < l.length := by simpa using hc
      obtain ⟨b, o, cs, rfl, rfl, hrd, _, hcell⟩ := gv (by omega)
      simp -implicitDefEqProofs only [rE_seq_n, rE_seq_r, rE_seq_e, rE_blk_n, rE_blk_r, rE_blk_e, rW_skip, rW_ret, rW_exit, rW_ops, rW_seq, rW_block, ↓two_true, ↓two_false, rC_bool, rW_cond, rO_nil, rO_cons, oG_t, oG_f, oG_undef, rO_guard, oV_some, rOV_eq, oP_move, oP_assign, oP_bin, oP_un, oP_index, oP_fieldAddr, oP_field, oP_indexAddr, oP_slice, oP_load, oP_convert, aPick_true, aPick_false, aPick_bool, oP_pick, aExtract_tup, oP_extract, oP_nilCheck, oP_build, oP_len, oP_cap, oP_max, oP_min, oP_makeFunc, oS_some, oP_store, oA_some, oP_append, oM_some, oP_alloc, oP_box, oP_buildSlice, oP_mkS, oP_call, oP_callv, oF_func, aev_tmp, aev_const, aev_func, aput_get, aput_none, bin_add, bin_sub, bin_mul, bin_eql, bin_neq, bin_lss, bin_leq, bin_gtr, bin_geq, un_not, un_neg, tm0_get, fin_ret, fin_end, oR_some, resL_nil, resL_tmp, resL_cell, tup_one, tup_two, tup_nil, cond_true, cond_false, load_eq, Option.bind_some, gt0, gti, mkv, List.length_append, List.length_cons, List.length_nil, List.append_assoc, List.cons_append, List.nil_append, rd0, rdi, wrt0, wrti, rdB_own, rdB_ro, wrB_own, oL_some, aggAt, sto_some, st0, sti, List.set_cons_zero, List.set_cons_succ, splice_nil, splice_cons, cells_agg, cells_int, cells_bool, cells_string, cells_pointer, cells_slice, leaf_int, leaf_bool, leaf_string, leaf_pointer, leaf_slice, List.size_toArray, List.all_cons, List.all_nil, Bool.and_self, Bool.and_true, and_self, true_and, and_true, Nat.zero_add, Nat.add_zero, Nat.reduceLeDiff, Nat.le_refl, List.drop_zero, List.drop_succ_cons, List.take_succ_cons, List.take_zero, Nat.reduceSub, lp_end, lp_ret, lp_exit, oV_ite, oS_ite, oA_ite, slc_some, sls_some, optInt_none, optInt_some, rW_draw, rD_nil, rDV_eq, rDR_eq, rDE_eq, rDS_n, rDS_e, rD_load, rD_conv, rD_pure, rD_e, rD_g, rDG_t, rDG_f, rDG_undef, chkH_nil, chkH_cons, chkP_nil, chkP_cons, aRead_load, aRead_conv, isE_store, isE_call, isE_append, rDS_l, rDS_c, pl_move, pl_assign, pl_pick, pl_alloc, pl_box, pl_build, pl_buildSlice, pl_nilCheck, pl_binOp, pl_unOp, pl_makeFunc, pl_makeSlice, pl_slice, pl_fieldAddr, pl_field, pl_indexAddr, pl_index, pl_extract, pl_len, pl_cap, pl_max, pl_min, List.mem_cons, Prod.mk.injEq, List.not_mem_nil, or_false, or_true, false_or, true_or, and_false, false_and, false_implies, implies_true, true_implies, oM_ite, List.getElem?_toArray, List.getElem?_cons_zero, List.getElem?_cons_succ, List.getElem?_nil, Option.getD_some, Option.getD_none, Nat.reduceEqDiff, reduceIte, Nat.reduceAdd, List.map_toArray, List.map_cons, List.map_nil, Bool.false_eq_true, Nat.reduceBEq, Option.map_some, Option.map_none, reduceCtorEq, ix51, ld3, ln51, h0, h1, h7, h8, Int.toNat_natCast, Nat.mul_one, hrd, hcell i hc', Array.empty_append, Array.append_empty, hp, IntWalk.i64_in (↑i + 1) (by omega)]
      refine ⟨⟨by omega, by omega⟩, two_intro (fun h => ?_) (fun h => ?_)⟩
      · rw [idxF_some hc' h hn]
      · refine ⟨i + 1, by omega, by simp, hc', ?_⟩
        intro x hx
        rw [List.take_succ_eq_append_getElem hc'] at hx
        rcases List.mem_append.1 hx with hx | hx
        · exact hn x hx
        · rw [List.mem_singleton.1 hx]; exact h
    · have hc' : ¬ i < l.length := by simpa using hc
      have hil : i = l.length := by omega
      subst hil
      rw [List.take_length] at hn
      rw [idxF_none hn]

theorem containsFuncI_ok {H : AH} {v : Value} {l : List Int} {g : FuncId} {p : Int → Bool} (hv : IntRow H v l) (hl : l.length < 4611686018427387904) (hp : ∀ x (H : AH) (Φ : Value → AH → Prop), CallsA Try.prog g #[.int .i64 x] H Φ = Φ (.bool (p x)) H) :
    CallsA Try.prog 74 #[v, .func (.func g) #[] #[]] H fun r H' => r = .bool (l.any p) ∧ H' = H := by
  have e := fun Φ => (indexFuncI_ok hv hl hp).eq0 (Φ := Φ)
  refine w74 ?_
  unfold k74
  simp -implicitDefEqProofs only [rE_seq_n, rE_seq_r, rE_seq_e, rE_blk_n, rE_blk_r, rE_blk_e, rW_skip, rW_ret, rW_exit, rW_ops, rW_seq, rW_block, ↓two_true, ↓two_false, rC_bool, rW_cond, rO_nil, rO_cons, oG_t, oG_f, oG_undef, rO_guard, oV_some, rOV_eq, oP_move, oP_assign, oP_bin, oP_un, oP_index, oP_fieldAddr, oP_field, oP_indexAddr, oP_slice, oP_load, oP_convert, aPick_true, aPick_false, aPick_bool, oP_pick, aExtract_tup, oP_extract, oP_nilCheck, oP_build, oP_len, oP_cap, oP_max, oP_min, oP_makeFunc, oS_some, oP_store, oA_some, oP_append, oM_some, oP_alloc, oP_box, oP_buildSlice, oP_mkS, oP_call, oP_callv, oF_func, aev_tmp, aev_const, aev_func, aput_get, aput_none, bin_add, bin_sub, bin_mul, bin_eql, bin_neq, bin_lss, bin_leq, bin_gtr, bin_geq, un_not, un_neg, tm0_get, fin_ret, fin_end, oR_some, resL_nil, resL_tmp, resL_cell, tup_one, tup_two, tup_nil, cond_true, cond_false, load_eq, Option.bind_some, gt0, gti, mkv, List.length_append, List.length_cons, List.length_nil, List.append_assoc, List.cons_append, List.nil_append, rd0, rdi, wrt0, wrti, rdB_own, rdB_ro, wrB_own, oL_some, aggAt, sto_some, st0, sti, List.set_cons_zero, List.set_cons_succ, splice_nil, splice_cons, cells_agg, cells_int, cells_bool, cells_string, cells_pointer, cells_slice, leaf_int, leaf_bool, leaf_string, leaf_pointer, leaf_slice, List.size_toArray, List.all_cons, List.all_nil, Bool.and_self, Bool.and_true, and_self, true_and, and_true, Nat.zero_add, Nat.add_zero, Nat.reduceLeDiff, Nat.le_refl, List.drop_zero, List.drop_succ_cons, List.take_succ_cons, List.take_zero, Nat.reduceSub, lp_end, lp_ret, lp_exit, oV_ite, oS_ite, oA_ite, slc_some, sls_some, optInt_none, optInt_some, rW_draw, rD_nil, rDV_eq, rDR_eq, rDE_eq, rDS_n, rDS_e, rD_load, rD_conv, rD_pure, rD_e, rD_g, rDG_t, rDG_f, rDG_undef, chkH_nil, chkH_cons, chkP_nil, chkP_cons, aRead_load, aRead_conv, isE_store, isE_call, isE_append, rDS_l, rDS_c, pl_move, pl_assign, pl_pick, pl_alloc, pl_box, pl_build, pl_buildSlice, pl_nilCheck, pl_binOp, pl_unOp, pl_makeFunc, pl_makeSlice, pl_slice, pl_fieldAddr, pl_field, pl_indexAddr, pl_index, pl_extract, pl_len, pl_cap, pl_max, pl_min, List.mem_cons, Prod.mk.injEq, List.not_mem_nil, or_false, or_true, false_or, true_or, and_false, false_and, false_implies, implies_true, true_implies, oM_ite, List.getElem?_toArray, List.getElem?_cons_zero, List.getElem?_cons_succ, List.getElem?_nil, Option.getD_some, Option.getD_none, Nat.reduceEqDiff, reduceIte, Nat.reduceAdd, List.map_toArray, List.map_cons, List.map_nil, Bool.false_eq_true, Nat.reduceBEq, Option.map_some, Option.map_none, reduceCtorEq, e, idxF_any]

theorem arrayOk1_eq {x : Int} {H : AH} {Φ : Value → AH → Prop} : CallsA Try.prog 75 #[.int .i64 x] H Φ = Φ (.bool (!numOk x)) H := by
  have : CallsA Try.prog 75 #[.int .i64 x] H fun r H' => r = .bool (!numOk x) ∧ H' = H := by
    refine w75 ?_
    unfold k75
    simp -implicitDefEqProofs only [rE_seq_n, rE_seq_r, rE_seq_e, rE_blk_n, rE_blk_r, rE_blk_e, rW_skip, rW_ret, rW_exit, rW_ops, rW_seq, rW_block, ↓two_true, ↓two_false, rC_bool, rW_cond, rO_nil, rO_cons, oG_t, oG_f, oG_undef, rO_guard, oV_some, rOV_eq, oP_move, oP_assign, oP_bin, oP_un, oP_index, oP_fieldAddr, oP_field, oP_indexAddr, oP_slice, oP_load, oP_convert, aPick_true, aPick_false, aPick_bool, oP_pick, aExtract_tup, oP_extract, oP_nilCheck, oP_build, oP_len, oP_cap, oP_max, oP_min, oP_makeFunc, oS_some, oP_store, oA_some, oP_append, oM_some, oP_alloc, oP_box, oP_buildSlice, oP_mkS, oP_call, oP_callv, oF_func, aev_tmp, aev_const, aev_func, aput_get, aput_none, bin_add, bin_sub, bin_mul, bin_eql, bin_neq, bin_lss, bin_leq, bin_gtr, bin_geq, un_not, un_neg, tm0_get, fin_ret, fin_end, oR_some, resL_nil, resL_tmp, resL_cell, tup_one, tup_two, tup_nil, cond_true, cond_false, load_eq, Option.bind_some, gt0, gti, mkv, List.length_append, List.length_cons, List.length_nil, List.append_assoc, List.cons_append, List.nil_append, rd0, rdi, wrt0, wrti, rdB_own, rdB_ro, wrB_own, oL_some, aggAt, sto_some, st0, sti, List.set_cons_zero, List.set_cons_succ, splice_nil, splice_cons, cells_agg, cells_int, cells_bool, cells_string, cells_pointer, cells_slice, leaf_int, leaf_bool, leaf_string, leaf_pointer, leaf_slice, List.size_toArray, List.all_cons, List.all_nil, Bool.and_self, Bool.and_true, and_self, true_and, and_true, Nat.zero_add, Nat.add_zero, Nat.reduceLeDiff, Nat.le_refl, List.drop_zero, List.drop_succ_cons, List.take_succ_cons, List.take_zero, Nat.reduceSub, lp_end, lp_ret, lp_exit, oV_ite, oS_ite, oA_ite, slc_some, sls_some, optInt_none, optInt_some, rW_draw, rD_nil, rDV_eq, rDR_eq, rDE_eq, rDS_n, rDS_e, rD_load, rD_conv, rD_pure, rD_e, rD_g, rDG_t, rDG_f, rDG_undef, chkH_nil, chkH_cons, chkP_nil, chkP_cons, aRead_load, aRead_conv, isE_store, isE_call, isE_append, rDS_l, rDS_c, pl_move, pl_assign, pl_pick, pl_alloc, pl_box, pl_build, pl_buildSlice, pl_nilCheck, pl_binOp, pl_unOp, pl_makeFunc, pl_makeSlice, pl_slice, pl_fieldAddr, pl_field, pl_indexAddr, pl_index, pl_extract, pl_len, pl_cap, pl_max, pl_min, List.mem_cons, Prod.mk.injEq, List.not_mem_nil, or_false, or_true, false_or, true_or, and_false, false_and, false_implies, implies_true, true_implies, oM_ite, List.getElem?_toArray, List.getElem?_cons_zero, List.getElem?_cons_succ, List.getElem?_nil, Option.getD_some, Option.getD_none, Nat.reduceEqDiff, reduceIte, Nat.reduceAdd, List.map_toArray, List.map_cons, List.map_nil, Bool.false_eq_true, Nat.reduceBEq, Option.map_some, Option.map_none, reduceCtorEq, implNumOk_eq]
  exact this.eq0
def arrOk (sh dt : List Int) : Bool := ((dt.length : Int) == sizeI sh) && dt.all numOk
theorem any_not {l : List Int} : (l.any fun x => !numOk x) = !l.all numOk := List.not_all_eq_any_not.symm
theorem implArrayOk_ok {H : AH} {p q : Value} {m l : List Int} (hp : IntRow H p m) (hq : IntRow H q l) (l1 : m.length < 4611686018427387904) (l2 : l.length < 4611686018427387904) :
    CallsA Try.prog 57 #[.agg #[p, q]] H fun r H' => r = .bool (arrOk m l) ∧ ∃ K, H' = H ++ K := by
  have ec := fun (L : AH) Φ => (containsFuncI_ok (H := H ++ L) (l := l) (IntRow.mono hq) l2 (fun x H Φ => arrayOk1_eq)).eq0 (Φ := Φ)
  have es := fun (L : AH) Φ => (implSizeOf_ok (H := H ++ L) (l := m) (IntRow.mono hp) l1).eq0 (Φ := Φ)
  obtain ⟨a, c, rfl, _⟩ := hq.op
  refine w57 ?_
  unfold k57
  simp -implicitDefEqProofs only [rE_seq_n, rE_seq_r, rE_seq_e, rE_blk_n, rE_blk_r, rE_blk_e, rW_skip, rW_ret, rW_exit, rW_ops, rW_seq, rW_block, ↓two_true, ↓two_false, rC_bool, rW_cond, rO_nil, rO_cons, oG_t, oG_f, oG_undef, rO_guard, oV_some, rOV_eq, oP_move, oP_assign, oP_bin, oP_un, oP_index, oP_fieldAddr, oP_field, oP_indexAddr, oP_slice, oP_load, oP_convert, aPick_true, aPick_false, aPick_bool, oP_pick, aExtract_tup, oP_extract, oP_nilCheck, oP_build, oP_len, oP_cap, oP_max, oP_min, oP_makeFunc, oS_some, oP_store, oA_some, oP_append, oM_some, oP_alloc, oP_box, oP_buildSlice, oP_mkS, oP_call, oP_callv, oF_func, aev_tmp, aev_const, aev_func, aput_get, aput_none, bin_add, bin_sub, bin_mul, bin_eql, bin_neq, bin_lss, bin_leq, bin_gtr, bin_geq, un_not, un_neg, tm0_get, fin_ret, fin_end, oR_some, resL_nil, resL_tmp, resL_cell, tup_one, tup_two, tup_nil, cond_true, cond_false, load_eq, Option.bind_some, gt0, gti, mkv, List.length_append, List.length_cons, List.length_nil, List.append_assoc, List.cons_append, List.nil_append, rd0, rdi, wrt0, wrti, rdB_own, rdB_ro, wrB_own, oL_some, aggAt, sto_some, st0, sti, List.set_cons_zero, List.set_cons_succ, splice_nil, splice_cons, cells_agg, cells_int, cells_bool, cells_string, cells_pointer, cells_slice, leaf_int, leaf_bool, leaf_string, leaf_pointer, leaf_slice, List.size_toArray, List.all_cons, List.all_nil, Bool.and_self, Bool.and_true, and_self, true_and, and_true, Nat.zero_add, Nat.add_zero, Nat.reduceLeDiff, Nat.le_refl, List.drop_zero, List.drop_succ_cons, List.take_succ_cons, List.take_zero, Nat.reduceSub, lp_end, lp_ret, lp_exit, oV_ite, oS_ite, oA_ite, slc_some, sls_some, optInt_none, optInt_some, rW_draw, rD_nil, rDV_eq, rDR_eq, rDE_eq, rDS_n, rDS_e, rD_load, rD_conv, rD_pure, rD_e, rD_g, rDG_t, rDG_f, rDG_undef, chkH_nil, chkH_cons, chkP_nil, chkP_cons, aRead_load, aRead_conv, isE_store, isE_call, isE_append, rDS_l, rDS_c, pl_move, pl_assign, pl_pick, pl_alloc, pl_box, pl_build, pl_buildSlice, pl_nilCheck, pl_binOp, pl_unOp, pl_makeFunc, pl_makeSlice, pl_slice, pl_fieldAddr, pl_field, pl_indexAddr, pl_index, pl_extract, pl_len, pl_cap, pl_max, pl_min, List.mem_cons, Prod.mk.injEq, List.not_mem_nil, or_false, or_true, false_or, true_or, and_false, false_and, false_implies, implies_true, true_implies, oM_ite, List.getElem?_toArray, List.getElem?_cons_zero, List.getElem?_cons_succ, List.getElem?_nil, Option.getD_some, Option.getD_none, Nat.reduceEqDiff, reduceIte, Nat.reduceAdd, List.map_toArray, List.map_cons, List.map_nil, Bool.false_eq_true, Nat.reduceBEq, Option.map_some, Option.map_none, reduceCtorEq, fa55_0, fa55_1, ld51, ln51, es, ec]
  refine two_intro (fun h => ⟨by rw [any_not, arrOk, h]; simp, _, rfl⟩) (fun h => ⟨by rw [arrOk, h]; rfl, _, rfl⟩)

theorem specArrayOk_ok {H : AH} {p q : Value} {m l : List Int} (hp : IntRow H p m) (hq : IntRow H q l) (l1 : m.length < 4611686018427387904) (l2 : l.length < 4611686018427387904) :
    CallsA Try.prog 53 #[.agg #[p, q]] H fun r H' => r = .bool (((l.length : Int) == sizeI m) && l.all numOk) ∧ ∃ K, H' = H ++ K := by
  have es := fun (L : AH) Φ => (specSizeOf_ok (H := H ++ L) (l := m) (IntRow.mono hp) l1).eq0 (Φ := Φ)
  obtain ⟨a, c, rfl, gq⟩ := hq.op
  refine w53 ?_
  unfold k53
  simp -implicitDefEqProofs only [rE_seq_n, rE_seq_r, rE_seq_e, rE_blk_n, rE_blk_r, rE_blk_e, rW_skip, rW_ret, rW_exit, rW_ops, rW_seq, rW_block, ↓two_true, ↓two_false, rC_bool, rW_cond, rO_nil, rO_cons, oG_t, oG_f, oG_undef, rO_guard, oV_some, rOV_eq, oP_move, oP_assign, oP_bin, oP_un, oP_index, oP_fieldAddr, oP_field, oP_indexAddr, oP_slice, oP_load, oP_convert, aPick_true, aPick_false, aPick_bool, oP_pick, aExtract_tup, oP_extract, oP_nilCheck, oP_build, oP_len, oP_cap, oP_max, oP_min, oP_makeFunc, oS_some, oP_store, oA_some, oP_append, oM_some, oP_alloc, oP_box, oP_buildSlice, oP_mkS, oP_call, oP_callv, oF_func, aev_tmp, aev_const, aev_func, aput_get, aput_none, bin_add, bin_sub, bin_mul, bin_eql, bin_neq, bin_lss, bin_leq, bin_gtr, bin_geq, un_not, un_neg, tm0_get, fin_ret, fin_end, oR_some, resL_nil, resL_tmp, resL_cell, tup_one, tup_two, tup_nil, cond_true, cond_false, load_eq, Option.bind_some, gt0, gti, mkv, List.length_append, List.length_cons, List.length_nil, List.append_assoc, List.cons_append, List.nil_append, rd0, rdi, wrt0, wrti, rdB_own, rdB_ro, wrB_own, oL_some, aggAt, sto_some, st0, sti, List.set_cons_zero, List.set_cons_succ, splice_nil, splice_cons, cells_agg, cells_int, cells_bool, cells_string, cells_pointer, cells_slice, leaf_int, leaf_bool, leaf_string, leaf_pointer, leaf_slice, List.size_toArray, List.all_cons, List.all_nil, Bool.and_self, Bool.and_true, and_self, true_and, and_true, Nat.zero_add, Nat.add_zero, Nat.reduceLeDiff, Nat.le_refl, List.drop_zero, List.drop_succ_cons, List.take_succ_cons, List.take_zero, Nat.reduceSub, lp_end, lp_ret, lp_exit, oV_ite, oS_ite, oA_ite, slc_some, sls_some, optInt_none, optInt_some, rW_draw, rD_nil, rDV_eq, rDR_eq, rDE_eq, rDS_n, rDS_e, rD_load, rD_conv, rD_pure, rD_e, rD_g, rDG_t, rDG_f, rDG_undef, chkH_nil, chkH_cons, chkP_nil, chkP_cons, aRead_load, aRead_conv, isE_store, isE_call, isE_append, rDS_l, rDS_c, pl_move, pl_assign, pl_pick, pl_alloc, pl_box, pl_build, pl_buildSlice, pl_nilCheck, pl_binOp, pl_unOp, pl_makeFunc, pl_makeSlice, pl_slice, pl_fieldAddr, pl_field, pl_indexAddr, pl_index, pl_extract, pl_len, pl_cap, pl_max, pl_min, List.mem_cons, Prod.mk.injEq, List.not_mem_nil, or_false, or_true, false_or, true_or, and_false, false_and, false_implies, implies_true, true_implies, oM_ite, List.getElem?_toArray, List.getElem?_cons_zero, List.getElem?_cons_succ, List.getElem?_nil, Option.getD_some, Option.getD_none, Nat.reduceEqDiff, reduceIte, Nat.reduceAdd, List.map_toArray, List.map_cons, List.map_nil, Bool.false_eq_true, Nat.reduceBEq, Option.map_some, Option.map_none, reduceCtorEq, fa55_0, fa55_1, ix51, ld3, ld51, ln51, es]
  refine two_intro (fun h => ?_) (fun h => ?_)
  · have : ((l.length : Int) == sizeI m) = false := by
      rw [beq_eq_false_iff_ne]
      rintro e
      simp [e] at h
    exact ⟨by rw [this]; rfl, _, rfl⟩
  · have hsz : ((l.length : Int) == sizeI m) = true := by
      rw [beq_iff_eq]
      simp at h
      exact h.symm
    refine rW_loop (σ := Nat) (fun i tm H' => tm 1 = .pointer (some ⟨H.length, 0, none⟩) ∧ tm 3 = .int .i64 i ∧ H' = H ++ [⟨[p, .slice a l.length c], .own⟩] ∧ i ≤ l.length ∧ ∀ x ∈ l.take i, numOk x = true) (fun i => l.length - i) 0 ?_ ?_
    · simp -implicitDefEqProofs [rE_seq_n, rE_seq_r, rE_seq_e, rE_blk_n, rE_blk_r, rE_blk_e, rW_skip, rW_ret, rW_exit, rW_ops, rW_seq, rW_block, ↓two_true, ↓two_false, rC_bool, rW_cond, rO_nil, rO_cons, oG_t, oG_f, oG_undef, rO_guard, oV_some, rOV_eq, oP_move, oP_assign, oP_bin, oP_un, oP_index, oP_fieldAddr, oP_field, oP_indexAddr, oP_slice, oP_load, oP_convert, aPick_true, aPick_false, aPick_bool, oP_pick, aExtract_tup, oP_extract, oP_nilCheck, oP_build, oP_len, oP_cap, oP_max, oP_min, oP_makeFunc, oS_some, oP_store, oA_some, oP_append, oM_some, oP_alloc, oP_box, oP_buildSlice, oP_mkS, oP_call, oP_callv, oF_func, aev_tmp, aev_const, aev_func, aput_get, aput_none, bin_add, bin_sub, bin_mul, bin_eql, bin_neq, bin_lss, bin_leq, bin_gtr, bin_geq, un_not, un_neg, tm0_get, fin_ret, fin_end, oR_some, resL_nil, resL_tmp, resL_cell, tup_one, tup_two, tup_nil, cond_true, cond_false, load_eq, Option.bind_some, gt0, gti, mkv, List.length_append, List.length_cons, List.length_nil, List.append_assoc, List.cons_append, List.nil_append, rd0, rdi, wrt0, wrti, rdB_own, rdB_ro, wrB_own, oL_some, aggAt, sto_some, st0, sti, List.set_cons_zero, List.set_cons_succ, splice_nil, splice_cons, cells_agg, cells_int, cells_bool, cells_string, cells_pointer, cells_slice, leaf_int, leaf_bool, leaf_string, leaf_pointer, leaf_slice, List.size_toArray, List.all_cons, List.all_nil, Bool.and_self, Bool.and_true, and_self, true_and, and_true, Nat.zero_add, Nat.add_zero, Nat.reduceLeDiff, Nat.le_refl, List.drop_zero, List.drop_succ_cons, List.take_succ_cons, List.take_zero, Nat.reduceSub, lp_end, lp_ret, lp_exit, oV_ite, oS_ite, oA_ite, slc_some, sls_some, optInt_none, optInt_some, rW_draw, rD_nil, rDV_eq, rDR_eq, rDE_eq, rDS_n, rDS_e, rD_load, rD_conv, rD_pure, rD_e, rD_g, rDG_t, rDG_f, rDG_undef, chkH_nil, chkH_cons, chkP_nil, chkP_cons, aRead_load, aRead_conv, isE_store, isE_call, isE_append, rDS_l, rDS_c, pl_move, pl_assign, pl_pick, pl_alloc, pl_box, pl_build, pl_buildSlice, pl_nilCheck, pl_binOp, pl_unOp, pl_makeFunc, pl_makeSlice, pl_slice, pl_fieldAddr, pl_field, pl_indexAddr, pl_index, pl_extract, pl_len, pl_cap, pl_max, pl_min, List.mem_cons, Prod.mk.injEq, List.not_mem_nil, or_false, or_true, false_or, true_or, and_false, false_and, false_implies, implies_true, true_implies, oM_ite, List.getElem?_toArray, List.getElem?_cons_zero, List.getElem?_cons_succ, List.getElem?_nil, Option.getD_some, Option.getD_none, Nat.reduceEqDiff, reduceIte, Nat.reduceAdd, List.map_toArray, List.map_cons, List.map_nil, Bool.false_eq_true, Nat.reduceBEq, Option.map_some, Option.map_none, reduceCtorEq, fa55_0, fa55_1, ix51, ld3, ld51, ln51]
    · rintro i tm H' ⟨h1, h3, rfl, hi, hn⟩
      simp -implicitDefEqProofs only [rE_seq_n, rE_seq_r, rE_seq_e, rE_blk_n, rE_blk_r, rE_blk_e, rW_skip, rW_ret, rW_exit, rW_ops, rW_seq, rW_block, ↓two_true, ↓two_false, rC_bool, rW_cond, rO_nil, rO_cons, oG_t, oG_f, oG_undef, rO_guard, oV_some, rOV_eq, oP_move, oP_assign, oP_bin, oP_un, oP_index, oP_fieldAddr, oP_field, oP_indexAddr, oP_slice, oP_load, oP_convert, aPick_true, aPick_false, aPick_bool, oP_pick, aExtract_tup, oP_extract, oP_nilCheck, oP_build, oP_len, oP_cap, oP_max, oP_min, oP_makeFunc, oS_some, oP_store, oA_some, oP_append, oM_some, oP_alloc, oP_box, oP_buildSlice, oP_mkS, oP_call, oP_callv, oF_func, aev_tmp, aev_const, aev_func, aput_get, aput_none, bin_add, bin_sub, bin_mul, bin_eql, bin_neq, bin_lss, bin_leq, bin_gtr, bin_geq, un_not, un_neg, tm0_get, fin_ret, fin_end, oR_some, resL_nil, resL_tmp, resL_cell, tup_one, tup_two, tup_nil, cond_true, cond_false, load_eq, Option.bind_some, gt0, gti, mkv, List.length_append, List.length_cons, List.length_nil, List.append_assoc, List.cons_append, List.nil_append, rd0, rdi, wrt0, wrti, rdB_own, rdB_ro, wrB_own, oL_some, aggAt, sto_some, st0, sti, List.set_cons_zero, List.set_cons_succ, splice_nil, splice_cons, cells_agg, cells_int, cells_bool, cells_string, cells_pointer, cells_slice, leaf_int, leaf_bool, leaf_string, leaf_pointer, leaf_slice, List.size_toArray, List.all_cons, List.all_nil, Bool.and_self, Bool.and_true, and_self, true_and, and_true, Nat.zero_add, Nat.add_zero, Nat.reduceLeDiff, Nat.le_refl, List.drop_zero, List.drop_succ_cons, List.take_succ_cons, List.take_zero, Nat.reduceSub, lp_end, lp_ret, lp_exit, oV_ite, oS_ite, oA_ite, slc_some, sls_some, optInt_none, optInt_some, rW_draw, rD_nil, rDV_eq, rDR_eq, rDE_eq, rDS_n, rDS_e, rD_load, rD_conv, rD_pure, rD_e, rD_g, rDG_t, rDG_f, rDG_undef, chkH_nil, chkH_cons, chkP_nil, chkP_cons, aRead_load, aRead_conv, isE_store, isE_call, isE_append, rDS_l, rDS_c, pl_move, pl_assign, pl_pick, pl_alloc, pl_box, pl_build, pl_buildSlice, pl_nilCheck, pl_binOp, pl_unOp, pl_makeFunc, pl_makeSlice, pl_slice, pl_fieldAddr, pl_field, pl_indexAddr, pl_index, pl_extract, pl_len, pl_cap, pl_max, pl_min, List.mem_cons, Prod.mk.injEq, List.not_mem_nil, or_false, or_true, false_or, true_or, and_false, false_and, false_implies, implies_true, true_implies, oM_ite, List.getElem?_toArray, List.getElem?_cons_zero, List.getElem?_cons_succ, List.getElem?_nil, Option.getD_some, Option.getD_none, Nat.reduceEqDiff, reduceIte, Nat.reduceAdd, List.map_toArray, List.map_cons, List.map_nil, Bool.false_eq_true, Nat.reduceBEq, Option.map_some, Option.map_none, reduceCtorEq, fa55_0, fa55_1, ix51, ld3, ld51, ln51, h1, h3]
      refine two_intro (fun hc => ?_) (fun hc => ?_)
      · have hc' : i < l.length := by simpa using hc
        obtain ⟨b, o, cs, rfl, rfl, hrd, _, hcell⟩ := gq (by omega)
        have hrd2 : rd (H ++ [⟨[p, .slice (some ⟨b, o, none⟩) l.length 1], .own⟩]) b = some cs := by rw [rdl (by simp [hrd]), hrd]
        simp -implicitDefEqProofs only [rE_seq_n, rE_seq_r, rE_seq_e, rE_blk_n, rE_blk_r, rE_blk_e, rW_skip, rW_ret, rW_exit, rW_ops, rW_seq, rW_block, ↓two_true, ↓two_false, rC_bool, rW_cond, rO_nil, rO_cons, oG_t, oG_f, oG_undef, rO_guard, oV_some, rOV_eq, oP_move, oP_assign, oP_bin, oP_un, oP_index, oP_fieldAddr, oP_field, oP_indexAddr, oP_slice, oP_load, oP_convert, aPick_true, aPick_false, aPick_bool, oP_pick, aExtract_tup, oP_extract, oP_nilCheck, oP_build, oP_len, oP_cap, oP_max, oP_min, oP_makeFunc, oS_some, oP_store, oA_some, oP_append, oM_some, oP_alloc, oP_box, oP_buildSlice, oP_mkS, oP_call, oP_callv, oF_func, aev_tmp, aev_const, aev_func, aput_get, aput_none, bin_add, bin_sub, bin_mul, bin_eql, bin_neq, bin_lss, bin_leq, bin_gtr, bin_geq, un_not, un_neg, tm0_get, fin_ret, fin_end, oR_some, resL_nil, resL_tmp, resL_cell, tup_one, tup_two, tup_nil, cond_true, cond_false, load_eq, Option.bind_some, gt0, gti, mkv, List.length_append, List.length_cons, List.length_nil, List.append_assoc, List.cons_append, List.nil_append, rd0, rdi, wrt0, wrti, rdB_own, rdB_ro, wrB_own, oL_some, aggAt, sto_some, st0, sti, List.set_cons_zero, List.set_cons_succ, splice_nil, splice_cons, cells_agg, cells_int, cells_bool, cells_string, cells_pointer, cells_slice, leaf_int, leaf_bool, leaf_string, leaf_pointer, leaf_slice, List.size_toArray, List.all_cons, List.all_nil, Bool.and_self, Bool.and_true, and_self, true_and, and_true, Nat.zero_add, Nat.add_zero, Nat.reduceLeDiff, Nat.le_refl, List.drop_zero, List.drop_succ_cons, List.take_succ_cons, List.take_zero, Nat.reduceSub, lp_end, lp_ret, lp_exit, oV_ite, oS_ite, oA_ite, slc_some, sls_some, optInt_none, optInt_some, rW_draw, rD_nil, rDV_eq, rDR_eq, rDE_eq, rDS_n, rDS_e, rD_load, rD_conv, rD_pure, rD_e, rD_g, rDG_t, rDG_f, rDG_undef, chkH_nil, chkH_cons, chkP_nil, chkP_cons, aRead_load, aRead_conv, isE_store, isE_call, isE_append, rDS_l, rDS_c, pl_move, pl_assign, pl_pick, pl_alloc, pl_box, pl_build, pl_buildSlice, pl_nilCheck, pl_binOp, pl_unOp, pl_makeFunc, pl_makeSlice, pl_slice, pl_fieldAddr, pl_field, pl_indexAddr, pl_index, pl_extract, pl_len, pl_cap, pl_max, pl_min, List.mem_cons, Prod.mk.injEq, List.not_mem_nil, or_false, or_true, false_or, true_or, and_false, false_and, false_implies, implies_true, true_implies, oM_ite, List.getElem?_toArray, List.getElem?_cons_zero, List.getElem?_cons_succ, List.getElem?_nil, Option.getD_some, Option.getD_none, Nat.reduceEqDiff, reduceIte, Nat.reduceAdd, List.map_toArray, List.map_cons, List.map_nil, Bool.false_eq_true, Nat.reduceBEq, Option.map_some, Option.map_none, reduceCtorEq, fa55_0, fa55_1, ix51, ld3, ld51, ln51, h1, h3, Int.toNat_natCast, Nat.mul_one, hrd2, hcell i hc', specNumOk_eq, IntWalk.i64_in (↑i + 1) (by omega)]
        refine ⟨⟨by omega, by omega⟩, two_intro (fun h => ?_) (fun h => ?_)⟩
        · have hb : numOk l[i] = false := by simpa using h
          refine ⟨?_, _, rfl⟩
          rw [all_take_false hc' hb, Bool.and_false]
        · refine ⟨i + 1, by omega, by simp, hc', ?_⟩
          intro x hx
          rw [List.take_succ_eq_append_getElem hc'] at hx
          rcases List.mem_append.1 hx with hx | hx
          · exact hn x hx
          · rw [List.mem_singleton.1 hx]; simpa using h
      · have hc' : ¬ i < l.length := by simpa using hc
        have hil : i = l.length := by omega
        subst hil
        rw [List.take_length] at hn
        refine ⟨?_, _, rfl⟩
        rw [hsz, List.all_eq_true.2 hn]
        rfl

theorem OwnRow.isSlice {H : AH} {v : Value} {l : List Int} (h : OwnRow H v l) : ∃ a c, v = .slice a l.length c := by
  obtain ⟨a, c, h1, _⟩ := h.int.op
  exact ⟨a, c, h1⟩
theorem far3 {H K : AH} {x y z x' y' z' : Blk} {b : Nat} (h : H.length + 3 ≤ b) : (H ++ x :: y :: z :: K)[b]? = (H ++ [x', y', z'] ++ K)[b]? := by
  obtain ⟨j, rfl⟩ := Nat.exists_eq_add_of_le h
  rw [List.append_assoc, Nat.add_assoc, gti, gti, show 3 + j = j + 1 + 1 + 1 by omega]
  simp

theorem toVar_ok {H : AH} {s : Bool} {p r : Value} {l m : List Int} (hp : IntRow H p l) (hr : IntRow H r m) (lp : l.length ≤ 1048576) (lr : m.length ≤ 1048576) :
    CallsA Try.prog 54 #[.agg #[.bool s, p, r]] H fun z H' => ∃ p' r', z = .agg #[.bool s, p', r'] ∧ OwnRow H' p' l ∧ OwnRow H' r' m ∧ Dj p' r' ∧ (∀ b, blkOf p' = some b → H.length ≤ b) ∧ (∀ b, blkOf r' = some b → H.length ≤ b) ∧ ∃ K, H' = H ++ K := by
  refine w54 ?_
  unfold k54
  simp -implicitDefEqProofs only [rE_seq_n, rE_seq_r, rE_seq_e, rE_blk_n, rE_blk_r, rE_blk_e, rW_skip, rW_ret, rW_exit, rW_ops, rW_seq, rW_block, ↓two_true, ↓two_false, rC_bool, rW_cond, rO_nil, rO_cons, oG_t, oG_f, oG_undef, rO_guard, oV_some, rOV_eq, oP_move, oP_assign, oP_bin, oP_un, oP_index, oP_fieldAddr, oP_field, oP_indexAddr, oP_slice, oP_load, oP_convert, aPick_true, aPick_false, aPick_bool, oP_pick, aExtract_tup, oP_extract, oP_nilCheck, oP_build, oP_len, oP_cap, oP_max, oP_min, oP_makeFunc, oS_some, oP_store, oA_some, oP_append, oM_some, oP_alloc, oP_box, oP_buildSlice, oP_mkS, oP_call, oP_callv, oF_func, aev_tmp, aev_const, aev_func, aput_get, aput_none, bin_add, bin_sub, bin_mul, bin_eql, bin_neq, bin_lss, bin_leq, bin_gtr, bin_geq, un_not, un_neg, tm0_get, fin_ret, fin_end, oR_some, resL_nil, resL_tmp, resL_cell, tup_one, tup_two, tup_nil, cond_true, cond_false, load_eq, Option.bind_some, gt0, gti, mkv, List.length_append, List.length_cons, List.length_nil, List.append_assoc, List.cons_append, List.nil_append, rd0, rdi, wrt0, wrti, rdB_own, rdB_ro, wrB_own, oL_some, aggAt, sto_some, st0, sti, List.set_cons_zero, List.set_cons_succ, splice_nil, splice_cons, cells_agg, cells_int, cells_bool, cells_string, cells_pointer, cells_slice, leaf_int, leaf_bool, leaf_string, leaf_pointer, leaf_slice, List.size_toArray, List.all_cons, List.all_nil, Bool.and_self, Bool.and_true, and_self, true_and, and_true, Nat.zero_add, Nat.add_zero, Nat.reduceLeDiff, Nat.le_refl, List.drop_zero, List.drop_succ_cons, List.take_succ_cons, List.take_zero, Nat.reduceSub, lp_end, lp_ret, lp_exit, oV_ite, oS_ite, oA_ite, slc_some, sls_some, optInt_none, optInt_some, rW_draw, rD_nil, rDV_eq, rDR_eq, rDE_eq, rDS_n, rDS_e, rD_load, rD_conv, rD_pure, rD_e, rD_g, rDG_t, rDG_f, rDG_undef, chkH_nil, chkH_cons, chkP_nil, chkP_cons, aRead_load, aRead_conv, isE_store, isE_call, isE_append, rDS_l, rDS_c, pl_move, pl_assign, pl_pick, pl_alloc, pl_box, pl_build, pl_buildSlice, pl_nilCheck, pl_binOp, pl_unOp, pl_makeFunc, pl_makeSlice, pl_slice, pl_fieldAddr, pl_field, pl_indexAddr, pl_index, pl_extract, pl_len, pl_cap, pl_max, pl_min, List.mem_cons, Prod.mk.injEq, List.not_mem_nil, or_false, or_true, false_or, true_or, and_false, false_and, false_implies, implies_true, true_implies, oM_ite, List.getElem?_toArray, List.getElem?_cons_zero, List.getElem?_cons_succ, List.getElem?_nil, Option.getD_some, Option.getD_none, Nat.reduceEqDiff, reduceIte, Nat.reduceAdd, List.map_toArray, List.map_cons, List.map_nil, Bool.false_eq_true, Nat.reduceBEq, Option.map_some, Option.map_none, reduceCtorEq, al67, fa67_0, fa67_1, fa71_0, fa71_1, ld4, ld53, ld67, st4, st55, st67]
  have e1 : rowI H p = l := hp.row
  have e2 : rowI H r = m := hr.row
  refine (toArray_ok (hp.mono.ok) (hr.mono.ok) (by rw [rowI_mono hp.ok, e1]; exact lp) (by rw [rowI_mono hr.ok, e2]; exact lr)).mono ?_
  rintro _ _ ⟨p', r', rfl, o1, o2, d, n1, n2, K, rfl⟩
  rw [rowI_mono hp.ok, e1] at o1
  rw [rowI_mono hr.ok, e2] at o2
  obtain ⟨a1, c1, rfl⟩ := o1.isSlice
  obtain ⟨a2, c2, rfl⟩ := o2.isSlice
  simp -implicitDefEqProofs only [rE_seq_n, rE_seq_r, rE_seq_e, rE_blk_n, rE_blk_r, rE_blk_e, rW_skip, rW_ret, rW_exit, rW_ops, rW_seq, rW_block, ↓two_true, ↓two_false, rC_bool, rW_cond, rO_nil, rO_cons, oG_t, oG_f, oG_undef, rO_guard, oV_some, rOV_eq, oP_move, oP_assign, oP_bin, oP_un, oP_index, oP_fieldAddr, oP_field, oP_indexAddr, oP_slice, oP_load, oP_convert, aPick_true, aPick_false, aPick_bool, oP_pick, aExtract_tup, oP_extract, oP_nilCheck, oP_build, oP_len, oP_cap, oP_max, oP_min, oP_makeFunc, oS_some, oP_store, oA_some, oP_append, oM_some, oP_alloc, oP_box, oP_buildSlice, oP_mkS, oP_call, oP_callv, oF_func, aev_tmp, aev_const, aev_func, aput_get, aput_none, bin_add, bin_sub, bin_mul, bin_eql, bin_neq, bin_lss, bin_leq, bin_gtr, bin_geq, un_not, un_neg, tm0_get, fin_ret, fin_end, oR_some, resL_nil, resL_tmp, resL_cell, tup_one, tup_two, tup_nil, cond_true, cond_false, load_eq, Option.bind_some, gt0, gti, mkv, List.length_append, List.length_cons, List.length_nil, List.append_assoc, List.cons_append, List.nil_append, rd0, rdi, wrt0, wrti, rdB_own, rdB_ro, wrB_own, oL_some, aggAt, sto_some, st0, sti, List.set_cons_zero, List.set_cons_succ, splice_nil, splice_cons, cells_agg, cells_int, cells_bool, cells_string, cells_pointer, cells_slice, leaf_int, leaf_bool, leaf_string, leaf_pointer, leaf_slice, List.size_toArray, List.all_cons, List.all_nil, Bool.and_self, Bool.and_true, and_self, true_and, and_true, Nat.zero_add, Nat.add_zero, Nat.reduceLeDiff, Nat.le_refl, List.drop_zero, List.drop_succ_cons, List.take_succ_cons, List.take_zero, Nat.reduceSub, lp_end, lp_ret, lp_exit, oV_ite, oS_ite, oA_ite, slc_some, sls_some, optInt_none, optInt_some, rW_draw, rD_nil, rDV_eq, rDR_eq, rDE_eq, rDS_n, rDS_e, rD_load, rD_conv, rD_pure, rD_e, rD_g, rDG_t, rDG_f, rDG_undef, chkH_nil, chkH_cons, chkP_nil, chkP_cons, aRead_load, aRead_conv, isE_store, isE_call, isE_append, rDS_l, rDS_c, pl_move, pl_assign, pl_pick, pl_alloc, pl_box, pl_build, pl_buildSlice, pl_nilCheck, pl_binOp, pl_unOp, pl_makeFunc, pl_makeSlice, pl_slice, pl_fieldAddr, pl_field, pl_indexAddr, pl_index, pl_extract, pl_len, pl_cap, pl_max, pl_min, List.mem_cons, Prod.mk.injEq, List.not_mem_nil, or_false, or_true, false_or, true_or, and_false, false_and, false_implies, implies_true, true_implies, oM_ite, List.getElem?_toArray, List.getElem?_cons_zero, List.getElem?_cons_succ, List.getElem?_nil, Option.getD_some, Option.getD_none, Nat.reduceEqDiff, reduceIte, Nat.reduceAdd, List.map_toArray, List.map_cons, List.map_nil, Bool.false_eq_true, Nat.reduceBEq, Option.map_some, Option.map_none, reduceCtorEq, al67, fa67_0, fa67_1, fa71_0, fa71_1, ld4, ld53, ld67, st4, st55, st67]
  simp only [List.length_append, List.length_cons, List.length_nil, Nat.zero_add, Nat.reduceAdd] at n1 n2
  refine ⟨_, _, rfl, o1.same fun b hb => far3 (n1 b hb), o2.same fun b hb => far3 (n2 b hb), d, fun b hb => ?_, fun b hb => ?_, _, rfl⟩
  · have := n1 b hb; omega
  · have := n2 b hb; omega

theorem szA_le {a b : Nat} {q : Int} (h : q ≤ 1048576) : -1 ≤ szA a b q ∧ szA a b q ≤ 1048576 := by
  have h1 := szI_le (n := a) h
  unfold szA
  split
  · omega
  · exact szI_le h1.2
theorem szA_neg {a b : Nat} {q : Int} (h : szA a b q < 0) (hq : q ≤ 1048576) : szA a b q = -1 := by
  have := szA_le (a := a) (b := b) hq
  omega
theorem szVar_ok {H : AH} {s : Bool} {p r : Value} {l m : List Int} {q : Int} (hp : IntRow H p l) (hr : IntRow H r m) (lp : l.length ≤ 9223372036854775807) (lr : m.length ≤ 9223372036854775807) (hq : -1 ≤ q ∧ q ≤ 1048576) :
    CallsA Try.prog 52 #[.agg #[.bool s, p, r], .int .i64 q] H fun z H' => z = .int .i64 (szA l.length m.length q) ∧ ∃ K, H' = H ++ K := by
  have ea := fun (L : AH) Φ => (szArray_ok (H := H ++ L) (q := q) hp.mono.ok hr.mono.ok (by rw [rowI_mono hp.ok, hp.row]; exact lp) (by rw [rowI_mono hr.ok, hr.row]; exact lr) hq).eqV (Φ := Φ)
  have e1 : ∀ L, rowI (H ++ L) p = l := fun L => hp.mono.row
  have e2 : ∀ L, rowI (H ++ L) r = m := fun L => hr.mono.row
  refine w52 ?_
  unfold k52
  simp -implicitDefEqProofs only [rE_seq_n, rE_seq_r, rE_seq_e, rE_blk_n, rE_blk_r, rE_blk_e, rW_skip, rW_ret, rW_exit, rW_ops, rW_seq, rW_block, ↓two_true, ↓two_false, rC_bool, rW_cond, rO_nil, rO_cons, oG_t, oG_f, oG_undef, rO_guard, oV_some, rOV_eq, oP_move, oP_assign, oP_bin, oP_un, oP_index, oP_fieldAddr, oP_field, oP_indexAddr, oP_slice, oP_load, oP_convert, aPick_true, aPick_false, aPick_bool, oP_pick, aExtract_tup, oP_extract, oP_nilCheck, oP_build, oP_len, oP_cap, oP_max, oP_min, oP_makeFunc, oS_some, oP_store, oA_some, oP_append, oM_some, oP_alloc, oP_box, oP_buildSlice, oP_mkS, oP_call, oP_callv, oF_func, aev_tmp, aev_const, aev_func, aput_get, aput_none, bin_add, bin_sub, bin_mul, bin_eql, bin_neq, bin_lss, bin_leq, bin_gtr, bin_geq, un_not, un_neg, tm0_get, fin_ret, fin_end, oR_some, resL_nil, resL_tmp, resL_cell, tup_one, tup_two, tup_nil, cond_true, cond_false, load_eq, Option.bind_some, gt0, gti, mkv, List.length_append, List.length_cons, List.length_nil, List.append_assoc, List.cons_append, List.nil_append, rd0, rdi, wrt0, wrti, rdB_own, rdB_ro, wrB_own, oL_some, aggAt, sto_some, st0, sti, List.set_cons_zero, List.set_cons_succ, splice_nil, splice_cons, cells_agg, cells_int, cells_bool, cells_string, cells_pointer, cells_slice, leaf_int, leaf_bool, leaf_string, leaf_pointer, leaf_slice, List.size_toArray, List.all_cons, List.all_nil, Bool.and_self, Bool.and_true, and_self, true_and, and_true, Nat.zero_add, Nat.add_zero, Nat.reduceLeDiff, Nat.le_refl, List.drop_zero, List.drop_succ_cons, List.take_succ_cons, List.take_zero, Nat.reduceSub, lp_end, lp_ret, lp_exit, oV_ite, oS_ite, oA_ite, slc_some, sls_some, optInt_none, optInt_some, rW_draw, rD_nil, rDV_eq, rDR_eq, rDE_eq, rDS_n, rDS_e, rD_load, rD_conv, rD_pure, rD_e, rD_g, rDG_t, rDG_f, rDG_undef, chkH_nil, chkH_cons, chkP_nil, chkP_cons, aRead_load, aRead_conv, isE_store, isE_call, isE_append, rDS_l, rDS_c, pl_move, pl_assign, pl_pick, pl_alloc, pl_box, pl_build, pl_buildSlice, pl_nilCheck, pl_binOp, pl_unOp, pl_makeFunc, pl_makeSlice, pl_slice, pl_fieldAddr, pl_field, pl_indexAddr, pl_index, pl_extract, pl_len, pl_cap, pl_max, pl_min, List.mem_cons, Prod.mk.injEq, List.not_mem_nil, or_false, or_true, false_or, true_or, and_false, false_and, false_implies, implies_true, true_implies, oM_ite, List.getElem?_toArray, List.getElem?_cons_zero, List.getElem?_cons_succ, List.getElem?_nil, Option.getD_some, Option.getD_none, Nat.reduceEqDiff, reduceIte, Nat.reduceAdd, List.map_toArray, List.map_cons, List.map_nil, Bool.false_eq_true, Nat.reduceBEq, Option.map_some, Option.map_none, reduceCtorEq, fa71_1, ld53, ea, e1, e2]
  refine two_intro (fun h => ?_) (fun h => ?_)
  · exact ⟨by rw [szA_neg (by simpa using h) hq.2], _, rfl⟩
  · exact ⟨_, rfl⟩
/-- What szVarS answers: it goes through the letters as long as what is left is not below nought. -/
def szV : List (Nat × Nat) → Int → Int
  | [], q => q
  | x :: r, q => if szA x.1 x.2 q < 0 then -1 else szV r (szA x.1 x.2 q)
/-- Vars of an argument. -/
def InV (H : AH) (x : VR3) : Prop := OkI H x.2.1 ∧ OkI H x.2.2 ∧ (rowI H x.2.1).length ≤ 9223372036854775807 ∧ (rowI H x.2.2).length ≤ 9223372036854775807
theorem szA_ge {a b : Nat} {q : Int} (h : ¬ szA a b q < 0) : a + b ≤ q := by
  unfold szA szI at h
  split at h
  · omega
  · split at h <;> omega

theorem szVarS_ok {H : AH} {v : Value} {xs : List VR3} {q : Int} (hv : SRow H v 3 (xs.map vcells)) (hx : ∀ x ∈ xs, InV H x) (hl : xs.length ≤ 9223372036854775807) (hq : -1 ≤ q ∧ q ≤ 1048576) :
    CallsA Try.prog 23 #[v, .int .i64 q] H fun r H' => r = .int .i64 (if q - xs.length < 0 then -1 else szV (lensV H xs) (q - xs.length)) ∧ ∃ K, H' = H ++ K := by
  obtain ⟨a, c, rfl, gv⟩ := hv.op
  simp only [List.length_map] at gv ⊢
  refine w23 ?_
  unfold k23
  simp -implicitDefEqProofs only [rE_seq_n, rE_seq_r, rE_seq_e, rE_blk_n, rE_blk_r, rE_blk_e, rW_skip, rW_ret, rW_exit, rW_ops, rW_seq, rW_block, ↓two_true, ↓two_false, rC_bool, rW_cond, rO_nil, rO_cons, oG_t, oG_f, oG_undef, rO_guard, oV_some, rOV_eq, oP_move, oP_assign, oP_bin, oP_un, oP_index, oP_fieldAddr, oP_field, oP_indexAddr, oP_slice, oP_load, oP_convert, aPick_true, aPick_false, aPick_bool, oP_pick, aExtract_tup, oP_extract, oP_nilCheck, oP_build, oP_len, oP_cap, oP_max, oP_min, oP_makeFunc, oS_some, oP_store, oA_some, oP_append, oM_some, oP_alloc, oP_box, oP_buildSlice, oP_mkS, oP_call, oP_callv, oF_func, aev_tmp, aev_const, aev_func, aput_get, aput_none, bin_add, bin_sub, bin_mul, bin_eql, bin_neq, bin_lss, bin_leq, bin_gtr, bin_geq, un_not, un_neg, tm0_get, fin_ret, fin_end, oR_some, resL_nil, resL_tmp, resL_cell, tup_one, tup_two, tup_nil, cond_true, cond_false, load_eq, Option.bind_some, gt0, gti, mkv, List.length_append, List.length_cons, List.length_nil, List.append_assoc, List.cons_append, List.nil_append, rd0, rdi, wrt0, wrti, rdB_own, rdB_ro, wrB_own, oL_some, aggAt, sto_some, st0, sti, List.set_cons_zero, List.set_cons_succ, splice_nil, splice_cons, cells_agg, cells_int, cells_bool, cells_string, cells_pointer, cells_slice, leaf_int, leaf_bool, leaf_string, leaf_pointer, leaf_slice, List.size_toArray, List.all_cons, List.all_nil, Bool.and_self, Bool.and_true, and_self, true_and, and_true, Nat.zero_add, Nat.add_zero, Nat.reduceLeDiff, Nat.le_refl, List.drop_zero, List.drop_succ_cons, List.take_succ_cons, List.take_zero, Nat.reduceSub, lp_end, lp_ret, lp_exit, oV_ite, oS_ite, oA_ite, slc_some, sls_some, optInt_none, optInt_some, rW_draw, rD_nil, rDV_eq, rDR_eq, rDE_eq, rDS_n, rDS_e, rD_load, rD_conv, rD_pure, rD_e, rD_g, rDG_t, rDG_f, rDG_undef, chkH_nil, chkH_cons, chkP_nil, chkP_cons, aRead_load, aRead_conv, isE_store, isE_call, isE_append, rDS_l, rDS_c, pl_move, pl_assign, pl_pick, pl_alloc, pl_box, pl_build, pl_buildSlice, pl_nilCheck, pl_binOp, pl_unOp, pl_makeFunc, pl_makeSlice, pl_slice, pl_fieldAddr, pl_field, pl_indexAddr, pl_index, pl_extract, pl_len, pl_cap, pl_max, pl_min, List.mem_cons, Prod.mk.injEq, List.not_mem_nil, or_false, or_true, false_or, true_or, and_false, false_and, false_implies, implies_true, true_implies, oM_ite, List.getElem?_toArray, List.getElem?_cons_zero, List.getElem?_cons_succ, List.getElem?_nil, Option.getD_some, Option.getD_none, Nat.reduceEqDiff, reduceIte, Nat.reduceAdd, List.map_toArray, List.map_cons, List.map_nil, Bool.false_eq_true, Nat.reduceBEq, Option.map_some, Option.map_none, reduceCtorEq, ix39, ld71, ln39]
  rw [IntWalk.i64_in (q - ↑xs.length) (by omega)]
  refine two_intro (fun h => ?_) (fun h => ?_)
  · exact ⟨by rw [if_pos (by simpa using h)], [], by simp⟩
  · have h' : ¬ q - xs.length < 0 := by simpa using h
    rw [if_neg h']
    refine rW_loop (σ := Nat × Int) (fun s tm H' => tm 0 = .slice a xs.length c ∧ tm 1 = .int .i64 s.2 ∧ tm 5 = .int .i64 s.1 ∧ (∃ K, H' = H ++ K) ∧ s.1 ≤ xs.length ∧ (0 ≤ s.2 ∧ s.2 ≤ 1048576) ∧ szV (lensV H xs) (q - xs.length) = szV ((lensV H xs).drop s.1) s.2) (fun s => xs.length - s.1) (0, q - xs.length) ?_ ?_
    · simp -implicitDefEqProofs [rE_seq_n, rE_seq_r, rE_seq_e, rE_blk_n, rE_blk_r, rE_blk_e, rW_skip, rW_ret, rW_exit, rW_ops, rW_seq, rW_block, ↓two_true, ↓two_false, rC_bool, rW_cond, rO_nil, rO_cons, oG_t, oG_f, oG_undef, rO_guard, oV_some, rOV_eq, oP_move, oP_assign, oP_bin, oP_un, oP_index, oP_fieldAddr, oP_field, oP_indexAddr, oP_slice, oP_load, oP_convert, aPick_true, aPick_false, aPick_bool, oP_pick, aExtract_tup, oP_extract, oP_nilCheck, oP_build, oP_len, oP_cap, oP_max, oP_min, oP_makeFunc, oS_some, oP_store, oA_some, oP_append, oM_some, oP_alloc, oP_box, oP_buildSlice, oP_mkS, oP_call, oP_callv, oF_func, aev_tmp, aev_const, aev_func, aput_get, aput_none, bin_add, bin_sub, bin_mul, bin_eql, bin_neq, bin_lss, bin_leq, bin_gtr, bin_geq, un_not, un_neg, tm0_get, fin_ret, fin_end, oR_some, resL_nil, resL_tmp, resL_cell, tup_one, tup_two, tup_nil, cond_true, cond_false, load_eq, Option.bind_some, gt0, gti, mkv, List.length_append, List.length_cons, List.length_nil, List.append_assoc, List.cons_append, List.nil_append, rd0, rdi, wrt0, wrti, rdB_own, rdB_ro, wrB_own, oL_some, aggAt, sto_some, st0, sti, List.set_cons_zero, List.set_cons_succ, splice_nil, splice_cons, cells_agg, cells_int, cells_bool, cells_string, cells_pointer, cells_slice, leaf_int, leaf_bool, leaf_string, leaf_pointer, leaf_slice, List.size_toArray, List.all_cons, List.all_nil, Bool.and_self, Bool.and_true, and_self, true_and, and_true, Nat.zero_add, Nat.add_zero, Nat.reduceLeDiff, Nat.le_refl, List.drop_zero, List.drop_succ_cons, List.take_succ_cons, List.take_zero, Nat.reduceSub, lp_end, lp_ret, lp_exit, oV_ite, oS_ite, oA_ite, slc_some, sls_some, optInt_none, optInt_some, rW_draw, rD_nil, rDV_eq, rDR_eq, rDE_eq, rDS_n, rDS_e, rD_load, rD_conv, rD_pure, rD_e, rD_g, rDG_t, rDG_f, rDG_undef, chkH_nil, chkH_cons, chkP_nil, chkP_cons, aRead_load, aRead_conv, isE_store, isE_call, isE_append, rDS_l, rDS_c, pl_move, pl_assign, pl_pick, pl_alloc, pl_box, pl_build, pl_buildSlice, pl_nilCheck, pl_binOp, pl_unOp, pl_makeFunc, pl_makeSlice, pl_slice, pl_fieldAddr, pl_field, pl_indexAddr, pl_index, pl_extract, pl_len, pl_cap, pl_max, pl_min, List.mem_cons, Prod.mk.injEq, List.not_mem_nil, or_false, or_true, false_or, true_or, and_false, false_and, false_implies, implies_true, true_implies, oM_ite, List.getElem?_toArray, List.getElem?_cons_zero, List.getElem?_cons_succ, List.getElem?_nil, Option.getD_some, Option.getD_none, Nat.reduceEqDiff, reduceIte, Nat.reduceAdd, List.map_toArray, List.map_cons, List.map_nil, Bool.false_eq_true, Nat.reduceBEq, Option.map_some, Option.map_none, reduceCtorEq, ix39, ld71, ln39]
      omega
    · rintro ⟨i, s⟩ tm H' ⟨h0, h1, h5, ⟨K, rfl⟩, hi, hs, hh⟩
      simp only at h0 h1 h5 hi hs hh
      simp -implicitDefEqProofs only [rE_seq_n, rE_seq_r, rE_seq_e, rE_blk_n, rE_blk_r, rE_blk_e, rW_skip, rW_ret, rW_exit, rW_ops, rW_seq, rW_block, ↓two_true, ↓two_false, rC_bool, rW_cond, rO_nil, rO_cons, oG_t, oG_f, oG_undef, rO_guard, oV_some, rOV_eq, oP_move, oP_assign, oP_bin, oP_un, oP_index, oP_fieldAddr, oP_field, oP_indexAddr, oP_slice, oP_load, oP_convert, aPick_true, aPick_false, aPick_bool, oP_pick, aExtract_tup, oP_extract, oP_nilCheck, oP_build, oP_len, oP_cap, oP_max, oP_min, oP_makeFunc, oS_some, oP_store, oA_some, oP_append, oM_some, oP_alloc, oP_box, oP_buildSlice, oP_mkS, oP_call, oP_callv, oF_func, aev_tmp, aev_const, aev_func, aput_get, aput_none, bin_add, bin_sub, bin_mul, bin_eql, bin_neq, bin_lss, bin_leq, bin_gtr, bin_geq, un_not, un_neg, tm0_get, fin_ret, fin_end, oR_some, resL_nil, resL_tmp, resL_cell, tup_one, tup_two, tup_nil, cond_true, cond_false, load_eq, Option.bind_some, gt0, gti, mkv, List.length_append, List.length_cons, List.length_nil, List.append_assoc, List.cons_append, List.nil_append, rd0, rdi, wrt0, wrti, rdB_own, rdB_ro, wrB_own, oL_some, aggAt, sto_some, st0, sti, List.set_cons_zero, List.set_cons_succ, splice_nil, splice_cons, cells_agg, cells_int, cells_bool, cells_string, cells_pointer, cells_slice, leaf_int, leaf_bool, leaf_string, leaf_pointer, leaf_slice, List.size_toArray, List.all_cons, List.all_nil, Bool.and_self, Bool.and_true, and_self, true_and, and_true, Nat.zero_add, Nat.add_zero, Nat.reduceLeDiff, Nat.le_refl, List.drop_zero, List.drop_succ_cons, List.take_succ_cons, List.take_zero, Nat.reduceSub, lp_end, lp_ret, lp_exit, oV_ite, oS_ite, oA_ite, slc_some, sls_some, optInt_none, optInt_some, rW_draw, rD_nil, rDV_eq, rDR_eq, rDE_eq, rDS_n, rDS_e, rD_load, rD_conv, rD_pure, rD_e, rD_g, rDG_t, rDG_f, rDG_undef, chkH_nil, chkH_cons, chkP_nil, chkP_cons, aRead_load, aRead_conv, isE_store, isE_call, isE_append, rDS_l, rDS_c, pl_move, pl_assign, pl_pick, pl_alloc, pl_box, pl_build, pl_buildSlice, pl_nilCheck, pl_binOp, pl_unOp, pl_makeFunc, pl_makeSlice, pl_slice, pl_fieldAddr, pl_field, pl_indexAddr, pl_index, pl_extract, pl_len, pl_cap, pl_max, pl_min, List.mem_cons, Prod.mk.injEq, List.not_mem_nil, or_false, or_true, false_or, true_or, and_false, false_and, false_implies, implies_true, true_implies, oM_ite, List.getElem?_toArray, List.getElem?_cons_zero, List.getElem?_cons_succ, List.getElem?_nil, Option.getD_some, Option.getD_none, Nat.reduceEqDiff, reduceIte, Nat.reduceAdd, List.map_toArray, List.map_cons, List.map_nil, Bool.false_eq_true, Nat.reduceBEq, Option.map_some, Option.map_none, reduceCtorEq, ix39, ld71, ln39, h0, h1, h5]
      refine two_intro (fun hc => ?_) (fun hc => ?_)
      · have hc' : i < xs.length := by simpa using hc
        obtain ⟨b, o, cs, rfl, rfl, hrd, hle, hcell⟩ := gv (by omega)
        have hx1 : (xs.map vcells)[i]? = some (vcells xs[i]) := by simp [hc']
        have r1 := row_lt (s := 3) hc'
        have g1 : rd (H ++ K) b = some cs := by rw [rdl (by simp [hrd]), hrd]
        have l1 : ld Try.prog 71 (o + i * 3) cs = some (.agg #[.bool xs[i].1, xs[i].2.1, xs[i].2.2]) := by
          rw [ld71]; exact aggAt_row (hcell i _ hx1).1 (by omega) (hcell i _ hx1).2
        obtain ⟨o1, o2, n1, n2⟩ := hx xs[i] (List.getElem_mem hc')
        have ez := fun Φ => (szVar_ok (H := H ++ K) (s := xs[i].1) (q := s) (IntRow.mono o1) (IntRow.mono o2) n1 n2 ⟨by omega, hs.2⟩).eqV (Φ := Φ)
        have hll : i < (lensV H xs).length := by simp [lensV, hc']
        have h6 : (lensV H xs)[i] = ((rowI H xs[i].2.1).length, (rowI H xs[i].2.2).length) := by simp [lensV]
        rw [List.drop_eq_getElem_cons hll, h6] at hh
        simp -implicitDefEqProofs only [rE_seq_n, rE_seq_r, rE_seq_e, rE_blk_n, rE_blk_r, rE_blk_e, rW_skip, rW_ret, rW_exit, rW_ops, rW_seq, rW_block, ↓two_true, ↓two_false, rC_bool, rW_cond, rO_nil, rO_cons, oG_t, oG_f, oG_undef, rO_guard, oV_some, rOV_eq, oP_move, oP_assign, oP_bin, oP_un, oP_index, oP_fieldAddr, oP_field, oP_indexAddr, oP_slice, oP_load, oP_convert, aPick_true, aPick_false, aPick_bool, oP_pick, aExtract_tup, oP_extract, oP_nilCheck, oP_build, oP_len, oP_cap, oP_max, oP_min, oP_makeFunc, oS_some, oP_store, oA_some, oP_append, oM_some, oP_alloc, oP_box, oP_buildSlice, oP_mkS, oP_call, oP_callv, oF_func, aev_tmp, aev_const, aev_func, aput_get, aput_none, bin_add, bin_sub, bin_mul, bin_eql, bin_neq, bin_lss, bin_leq, bin_gtr, bin_geq, un_not, un_neg, tm0_get, fin_ret, fin_end, oR_some, resL_nil, resL_tmp, resL_cell, tup_one, tup_two, tup_nil, cond_true, cond_false, load_eq, Option.bind_some, gt0, gti, mkv, List.length_append, List.length_cons, List.length_nil, List.append_assoc, List.cons_append, List.nil_append, rd0, rdi, wrt0, wrti, rdB_own, rdB_ro, wrB_own, oL_some, aggAt, sto_some, st0, sti, List.set_cons_zero, List.set_cons_succ, splice_nil, splice_cons, cells_agg, cells_int, cells_bool, cells_string, cells_pointer, cells_slice, leaf_int, leaf_bool, leaf_string, leaf_pointer, leaf_slice, List.size_toArray, List.all_cons, List.all_nil, Bool.and_self, Bool.and_true, and_self, true_and, and_true, Nat.zero_add, Nat.add_zero, Nat.reduceLeDiff, Nat.le_refl, List.drop_zero, List.drop_succ_cons, List.take_succ_cons, List.take_zero, Nat.reduceSub, lp_end, lp_ret, lp_exit, oV_ite, oS_ite, oA_ite, slc_some, sls_some, optInt_none, optInt_some, rW_draw, rD_nil, rDV_eq, rDR_eq, rDE_eq, rDS_n, rDS_e, rD_load, rD_conv, rD_pure, rD_e, rD_g, rDG_t, rDG_f, rDG_undef, chkH_nil, chkH_cons, chkP_nil, chkP_cons, aRead_load, aRead_conv, isE_store, isE_call, isE_append, rDS_l, rDS_c, pl_move, pl_assign, pl_pick, pl_alloc, pl_box, pl_build, pl_buildSlice, pl_nilCheck, pl_binOp, pl_unOp, pl_makeFunc, pl_makeSlice, pl_slice, pl_fieldAddr, pl_field, pl_indexAddr, pl_index, pl_extract, pl_len, pl_cap, pl_max, pl_min, List.mem_cons, Prod.mk.injEq, List.not_mem_nil, or_false, or_true, false_or, true_or, and_false, false_and, false_implies, implies_true, true_implies, oM_ite, List.getElem?_toArray, List.getElem?_cons_zero, List.getElem?_cons_succ, List.getElem?_nil, Option.getD_some, Option.getD_none, Nat.reduceEqDiff, reduceIte, Nat.reduceAdd, List.map_toArray, List.map_cons, List.map_nil, Bool.false_eq_true, Nat.reduceBEq, Option.map_some, Option.map_none, reduceCtorEq, ix39, ld71, ln39, h0, h1, h5, Int.toNat_natCast, g1, l1, ez, IntWalk.i64_in (↑i + 1) (by omega)]
        have hb := szA_le (a := (rowI H xs[i].2.1).length) (b := (rowI H xs[i].2.2).length) hs.2
        refine ⟨⟨by omega, by omega⟩, two_intro (fun h => ?_) (fun h => ?_)⟩
        · exact ⟨by rw [hh]; simp only [szV]; rw [if_pos (by simpa using h)], _, rfl⟩
        · have h7 : ¬ szA (rowI H xs[i].2.1).length (rowI H xs[i].2.2).length s < 0 := by simpa using h
          refine ⟨(i + 1, szA (rowI H xs[i].2.1).length (rowI H xs[i].2.2).length s), by simp only; omega, rfl, by simp, ⟨_, rfl⟩, hc', ⟨by simp only; omega, hb.2⟩, ?_⟩
          rw [hh]
          simp only [szV]
          rw [if_neg h7]
      · have hc' : ¬ i < xs.length := by simpa using hc
        have hil : i = xs.length := by omega
        rw [hh, hil, List.drop_of_length_le (by simp [lensV])]
        exact ⟨rfl, K, rfl⟩

/-! ### copying vars -/
def z3 : VR3 := (false, .slice none 0 0, .slice none 0 0)
structure TI (H : AH) (xs : List VR3) (i : Nat) (ys : List VR3) (H' : AH) : Prop where
  yl : ys.length = i
  ext : ∃ K, H' = H ++ K
  own : SOwn H' (.slice (some ⟨H.length, 0, none⟩) xs.length 3) 3 ((ys ++ List.replicate (xs.length - i) z3).map vcells)
  rows : ∀ (j : Nat) x y, xs[j]? = some x → ys[j]? = some y → y.1 = x.1 ∧ OwnRow H' y.2.1 (rowI H x.2.1) ∧ OwnRow H' y.2.2 (rowI H x.2.2)
  blk : ∀ (j : Nat) y b, ys[j]? = some y → (blkOf y.2.1 = some b ∨ blkOf y.2.2 = some b) → H.length < b ∧ b < H'.length
  inn : ∀ (j : Nat) y, ys[j]? = some y → Dj y.2.1 y.2.2
  dif : ∀ (i j : Nat) x y, i < j → ys[i]? = some x → ys[j]? = some y → Dj x.2.1 y.2.1 ∧ Dj x.2.1 y.2.2 ∧ Dj x.2.2 y.2.1 ∧ Dj x.2.2 y.2.2
theorem OwnRow.lt {H : AH} {v : Value} {l : List Int} (h : OwnRow H v l) : ∀ b, blkOf v = some b → b < H.length := by
  rcases h with ⟨rfl, _⟩ | ⟨b, o, cs, rfl, h2, _⟩
  · intro b h; simp [blkOf] at h
  · intro b' h
    simp [blkOf] at h
    subst h
    exact (List.getElem?_eq_some_iff.1 h2).1
/-- A whole element is written. -/
theorem SOwn.setAll {H : AH} {b o : Nat} {cs : List Value} {xs : List (List Value)} {i : Nat} {u v w : Value} {x : List Value} (hb : H[b]? = some ⟨cs, .own⟩) (hlen : o + xs.length * 3 ≤ cs.length)
    (hc : ∀ (i : Nat) x, xs[i]? = some x → x.length = 3 ∧ ∀ (j : Nat) y, x[j]? = some y → cs[o + i * 3 + j]? = some y) (hx : xs[i]? = some x) :
    SOwn (H.set b ⟨splice cs (o + i * 3) [u, v, w], .own⟩) (.slice (some ⟨b, o, none⟩) xs.length 3) 3 (xs.set i [u, v, w]) := by
  have hbl : b < H.length := (List.getElem?_eq_some_iff.1 hb).1
  have hil : i < xs.length := (List.getElem?_eq_some_iff.1 hx).1
  have hr := row_lt (s := 3) hil
  refine .inr ⟨b, o, _, by simp, List.getElem?_set_self hbl, by rw [splice_length]; simpa using hlen, ?_⟩
  intro i' x' hx'
  rw [List.getElem?_set] at hx'
  by_cases e : i = i'
  · subst e
    rw [if_pos rfl, if_pos hil] at hx'
    cases hx'
    refine ⟨rfl, fun j' y' hy => ?_⟩
    have hj' : j' < 3 := (List.getElem?_eq_some_iff.1 hy).1
    rw [splice_get [u, v, w] cs (o + i * 3) (o + i * 3 + j') (by simp; omega), if_pos (by simp; omega), Nat.add_sub_cancel_left]
    exact hy
  · rw [if_neg e] at hx'
    have h0 := hc i' x' hx'
    refine ⟨h0.1, fun j' y' hy => ?_⟩
    have hj' : j' < 3 := by rw [← h0.1]; exact (List.getElem?_eq_some_iff.1 hy).1
    rw [splice_get [u, v, w] cs (o + i * 3) (o + i' * 3 + j') (by simp; omega), if_neg]
    · exact h0.2 j' y' hy
    · simp only [List.length_cons, List.length_nil]
      intro hh
      exact e (by omega)
theorem TI.step {H H' K : AH} {xs ys : List VR3} {i : Nat} {x : VR3} {cs : List Value} {p r : Value} (h : TI H xs i ys H') (hx : xs[i]? = some x) (hb : H'[H.length]? = some ⟨cs, .own⟩) (hlen : xs.length * 3 ≤ cs.length)
    (hc : ∀ (j : Nat) z, ((ys ++ List.replicate (xs.length - i) z3).map vcells)[j]? = some z → z.length = 3 ∧ ∀ (k : Nat) y, z[k]? = some y → cs[0 + j * 3 + k]? = some y)
    (o1 : OwnRow (H' ++ K) p (rowI H x.2.1)) (o2 : OwnRow (H' ++ K) r (rowI H x.2.2)) (d : Dj p r) (n1 : ∀ b, blkOf p = some b → H'.length ≤ b) (n2 : ∀ b, blkOf r = some b → H'.length ≤ b) :
    TI H xs (i + 1) (ys ++ [(x.1, p, r)]) ((H' ++ K).set H.length ⟨splice cs (0 + i * 3) [.bool x.1, p, r], .own⟩) := by
  have hi : i < xs.length := (List.getElem?_eq_some_iff.1 hx).1
  have hbl : H.length < H'.length := (List.getElem?_eq_some_iff.1 hb).1
  have hs : ∀ g, g ≠ H.length → ((H' ++ K).set H.length ⟨splice cs (0 + i * 3) [.bool x.1, p, r], .own⟩)[g]? = (H' ++ K)[g]? := fun g hg => List.getElem?_set_ne (Ne.symm hg)
  have hyi : ∀ (j : Nat) y, (ys ++ [(x.1, p, r)])[j]? = some y → (j < i ∧ ys[j]? = some y) ∨ (j = i ∧ y = (x.1, p, r)) := by
    intro j y hy
    rcases Nat.lt_or_ge j ys.length with h1 | h1
    · rw [List.getElem?_append_left h1] at hy
      exact .inl ⟨by rw [← h.yl]; exact h1, hy⟩
    · rw [List.getElem?_append_right h1] at hy
      cases hj : j - ys.length with
      | zero => rw [hj] at hy; simp at hy; exact .inr ⟨by have := h.yl; omega, hy.symm⟩
      | succ m => rw [hj] at hy; simp at hy
  obtain ⟨K0, hK0⟩ := h.ext
  refine ⟨by simp [h.yl], ?_, ?_, ?_, ?_, ?_, ?_⟩
  · refine ⟨(K0 ++ K).set 0 ⟨splice cs (0 + i * 3) [.bool x.1, p, r], .own⟩, ?_⟩
    rw [hK0, List.append_assoc, st0]
  · have hx2 : ((ys ++ List.replicate (xs.length - i) z3).map vcells)[i]? = some (vcells z3) := by
      rw [List.getElem?_map, List.getElem?_append_right (by rw [h.yl]; exact Nat.le_refl _), h.yl, Nat.sub_self, List.getElem?_replicate, if_pos (by omega)]
      rfl
    have hl2 : ((ys ++ List.replicate (xs.length - i) z3).map vcells).length = xs.length := by simp [h.yl]; omega
    have := SOwn.setAll (H := H' ++ K) (b := H.length) (o := 0) (cs := cs) (xs := (ys ++ List.replicate (xs.length - i) z3).map vcells) (i := i) (u := .bool x.1) (v := p) (w := r) (gtl hb) (by rw [hl2]; omega) hc hx2
    rw [hl2] at this
    have e : ((ys ++ List.replicate (xs.length - i) z3).map vcells).set i [.bool x.1, p, r] = (ys ++ [(x.1, p, r)] ++ List.replicate (xs.length - (i + 1)) z3).map vcells := by
      rw [show xs.length - i = (xs.length - (i + 1)) + 1 by omega, List.replicate_succ, List.map_append, List.map_cons, List.set_append_right _ _ (by simp [h.yl])]
      simp [h.yl, vcells]
    rw [e] at this
    exact this
  · intro j x' y hx' hy
    rcases hyi j y hy with ⟨h1, h2⟩ | ⟨rfl, rfl⟩
    · obtain ⟨a1, a2, a3⟩ := h.rows j x' y hx' h2
      exact ⟨a1, a2.mono.same fun g hg => hs g (by have := (h.blk j y g h2 (.inl hg)).1; omega), a3.mono.same fun g hg => hs g (by have := (h.blk j y g h2 (.inr hg)).1; omega)⟩
    · rw [hx] at hx'; cases hx'
      exact ⟨rfl, o1.same fun g hg => hs g (by have := n1 g hg; omega), o2.same fun g hg => hs g (by have := n2 g hg; omega)⟩
  · intro j y b hy hb'
    rw [List.length_set, List.length_append]
    rcases hyi j y hy with ⟨h1, h2⟩ | ⟨rfl, rfl⟩
    · have := h.blk j y b h2 hb'
      omega
    · rcases hb' with hb' | hb'
      · have := n1 b hb'; have := o1.lt b hb'; rw [List.length_append] at this; omega
      · have := n2 b hb'; have := o2.lt b hb'; rw [List.length_append] at this; omega
  · intro j y hy
    rcases hyi j y hy with ⟨h1, h2⟩ | ⟨rfl, rfl⟩
    · exact h.inn j y h2
    · exact d
  · intro j k y z hjk hy hz
    rcases hyi j y hy with ⟨h1, h2⟩ | ⟨rfl, rfl⟩
    · rcases hyi k z hz with ⟨h3, h4⟩ | ⟨rfl, rfl⟩
      · exact h.dif j k y z hjk h2 h4
      · have f : ∀ w w' : Value, (∀ b, blkOf w = some b → b < H'.length) → (∀ b, blkOf w' = some b → H'.length ≤ b) → Dj w w' := by
          intro w w' c1 c2 b e1 e2
          have := c1 b e1; have := c2 b e2; omega
        have c1 : ∀ b, blkOf y.2.1 = some b → b < H'.length := fun b hb => (h.blk j y b h2 (.inl hb)).2
        have c2 : ∀ b, blkOf y.2.2 = some b → b < H'.length := fun b hb => (h.blk j y b h2 (.inr hb)).2
        exact ⟨f _ _ c1 n1, f _ _ c1 n2, f _ _ c2 n1, f _ _ c2 n2⟩
    · rcases hyi k z hz with ⟨h3, h4⟩ | ⟨h3, h4⟩ <;> omega
/-- What toVarS makes. -/
structure TV (H : AH) (xs ys : List VR3) (v : Value) (H' : AH) : Prop where
  eq : v = .slice (some ⟨H.length, 0, none⟩) xs.length 3
  fin : TI H xs xs.length ys H'

theorem toVarS_ok {H : AH} {v : Value} {xs : List VR3} (hv : SRow H v 3 (xs.map vcells)) (hx : ∀ x ∈ xs, OkI H x.2.1 ∧ OkI H x.2.2 ∧ (rowI H x.2.1).length ≤ 1048576 ∧ (rowI H x.2.2).length ≤ 1048576) (hl : xs.length ≤ 1048576) :
    CallsA Try.prog 25 #[v] H fun r H' => ∃ ys, TV H xs ys r H' := by
  obtain ⟨a, c, rfl, gv⟩ := hv.op
  simp only [List.length_map] at gv ⊢
  have hz : (List.replicate xs.length [Value.bool false, .slice none 0 0, .slice none 0 0]).flatten = ((List.replicate xs.length z3).map vcells).flatten := by rw [List.map_replicate]; rfl
  refine w25 ?_
  unfold k25
  simp -implicitDefEqProofs only [rE_seq_n, rE_seq_r, rE_seq_e, rE_blk_n, rE_blk_r, rE_blk_e, rW_skip, rW_ret, rW_exit, rW_ops, rW_seq, rW_block, ↓two_true, ↓two_false, rC_bool, rW_cond, rO_nil, rO_cons, oG_t, oG_f, oG_undef, rO_guard, oV_some, rOV_eq, oP_move, oP_assign, oP_bin, oP_un, oP_index, oP_fieldAddr, oP_field, oP_indexAddr, oP_slice, oP_load, oP_convert, aPick_true, aPick_false, aPick_bool, oP_pick, aExtract_tup, oP_extract, oP_nilCheck, oP_build, oP_len, oP_cap, oP_max, oP_min, oP_makeFunc, oS_some, oP_store, oA_some, oP_append, oM_some, oP_alloc, oP_box, oP_buildSlice, oP_mkS, oP_call, oP_callv, oF_func, aev_tmp, aev_const, aev_func, aput_get, aput_none, bin_add, bin_sub, bin_mul, bin_eql, bin_neq, bin_lss, bin_leq, bin_gtr, bin_geq, un_not, un_neg, tm0_get, fin_ret, fin_end, oR_some, resL_nil, resL_tmp, resL_cell, tup_one, tup_two, tup_nil, cond_true, cond_false, load_eq, Option.bind_some, gt0, gti, mkv, List.length_append, List.length_cons, List.length_nil, List.append_assoc, List.cons_append, List.nil_append, rd0, rdi, wrt0, wrti, rdB_own, rdB_ro, wrB_own, oL_some, aggAt, sto_some, st0, sti, List.set_cons_zero, List.set_cons_succ, splice_nil, splice_cons, cells_agg, cells_int, cells_bool, cells_string, cells_pointer, cells_slice, leaf_int, leaf_bool, leaf_string, leaf_pointer, leaf_slice, List.size_toArray, List.all_cons, List.all_nil, Bool.and_self, Bool.and_true, and_self, true_and, and_true, Nat.zero_add, Nat.add_zero, Nat.reduceLeDiff, Nat.le_refl, List.drop_zero, List.drop_succ_cons, List.take_succ_cons, List.take_zero, Nat.reduceSub, lp_end, lp_ret, lp_exit, oV_ite, oS_ite, oA_ite, slc_some, sls_some, optInt_none, optInt_some, rW_draw, rD_nil, rDV_eq, rDR_eq, rDE_eq, rDS_n, rDS_e, rD_load, rD_conv, rD_pure, rD_e, rD_g, rDG_t, rDG_f, rDG_undef, chkH_nil, chkH_cons, chkP_nil, chkP_cons, aRead_load, aRead_conv, isE_store, isE_call, isE_append, rDS_l, rDS_c, pl_move, pl_assign, pl_pick, pl_alloc, pl_box, pl_build, pl_buildSlice, pl_nilCheck, pl_binOp, pl_unOp, pl_makeFunc, pl_makeSlice, pl_slice, pl_fieldAddr, pl_field, pl_indexAddr, pl_index, pl_extract, pl_len, pl_cap, pl_max, pl_min, List.mem_cons, Prod.mk.injEq, List.not_mem_nil, or_false, or_true, false_or, true_or, and_false, false_and, false_implies, implies_true, true_implies, oM_ite, List.getElem?_toArray, List.getElem?_cons_zero, List.getElem?_cons_succ, List.getElem?_nil, Option.getD_some, Option.getD_none, Nat.reduceEqDiff, reduceIte, Nat.reduceAdd, List.map_toArray, List.map_cons, List.map_nil, Bool.false_eq_true, Nat.reduceBEq, Option.map_some, Option.map_none, reduceCtorEq, ix34, ix39, ld71, ln39, ms34, st67, Int.toNat_natCast, hz]
  refine ⟨⟨by omega, by omega⟩, ?_⟩
  refine rW_loop (σ := Nat × List VR3) (fun s tm H' => tm 0 = .slice a xs.length c ∧ tm 3 = .slice (some ⟨H.length, 0, none⟩) xs.length 3 ∧ tm 4 = .int .i64 s.1 ∧ s.1 ≤ xs.length ∧ TI H xs s.1 s.2 H') (fun s => xs.length - s.1) (0, []) ?_ ?_
  · simp -implicitDefEqProofs [rE_seq_n, rE_seq_r, rE_seq_e, rE_blk_n, rE_blk_r, rE_blk_e, rW_skip, rW_ret, rW_exit, rW_ops, rW_seq, rW_block, ↓two_true, ↓two_false, rC_bool, rW_cond, rO_nil, rO_cons, oG_t, oG_f, oG_undef, rO_guard, oV_some, rOV_eq, oP_move, oP_assign, oP_bin, oP_un, oP_index, oP_fieldAddr, oP_field, oP_indexAddr, oP_slice, oP_load, oP_convert, aPick_true, aPick_false, aPick_bool, oP_pick, aExtract_tup, oP_extract, oP_nilCheck, oP_build, oP_len, oP_cap, oP_max, oP_min, oP_makeFunc, oS_some, oP_store, oA_some, oP_append, oM_some, oP_alloc, oP_box, oP_buildSlice, oP_mkS, oP_call, oP_callv, oF_func, aev_tmp, aev_const, aev_func, aput_get, aput_none, bin_add, bin_sub, bin_mul, bin_eql, bin_neq, bin_lss, bin_leq, bin_gtr, bin_geq, un_not, un_neg, tm0_get, fin_ret, fin_end, oR_some, resL_nil, resL_tmp, resL_cell, tup_one, tup_two, tup_nil, cond_true, cond_false, load_eq, Option.bind_some, gt0, gti, mkv, List.length_append, List.length_cons, List.length_nil, List.append_assoc, List.cons_append, List.nil_append, rd0, rdi, wrt0, wrti, rdB_own, rdB_ro, wrB_own, oL_some, aggAt, sto_some, st0, sti, List.set_cons_zero, List.set_cons_succ, splice_nil, splice_cons, cells_agg, cells_int, cells_bool, cells_string, cells_pointer, cells_slice, leaf_int, leaf_bool, leaf_string, leaf_pointer, leaf_slice, List.size_toArray, List.all_cons, List.all_nil, Bool.and_self, Bool.and_true, and_self, true_and, and_true, Nat.zero_add, Nat.add_zero, Nat.reduceLeDiff, Nat.le_refl, List.drop_zero, List.drop_succ_cons, List.take_succ_cons, List.take_zero, Nat.reduceSub, lp_end, lp_ret, lp_exit, oV_ite, oS_ite, oA_ite, slc_some, sls_some, optInt_none, optInt_some, rW_draw, rD_nil, rDV_eq, rDR_eq, rDE_eq, rDS_n, rDS_e, rD_load, rD_conv, rD_pure, rD_e, rD_g, rDG_t, rDG_f, rDG_undef, chkH_nil, chkH_cons, chkP_nil, chkP_cons, aRead_load, aRead_conv, isE_store, isE_call, isE_append, rDS_l, rDS_c, pl_move, pl_assign, pl_pick, pl_alloc, pl_box, pl_build, pl_buildSlice, pl_nilCheck, pl_binOp, pl_unOp, pl_makeFunc, pl_makeSlice, pl_slice, pl_fieldAddr, pl_field, pl_indexAddr, pl_index, pl_extract, pl_len, pl_cap, pl_max, pl_min, List.mem_cons, Prod.mk.injEq, List.not_mem_nil, or_false, or_true, false_or, true_or, and_false, false_and, false_implies, implies_true, true_implies, oM_ite, List.getElem?_toArray, List.getElem?_cons_zero, List.getElem?_cons_succ, List.getElem?_nil, Option.getD_some, Option.getD_none, Nat.reduceEqDiff, reduceIte, Nat.reduceAdd, List.map_toArray, List.map_cons, List.map_nil, Bool.false_eq_true, Nat.reduceBEq, Option.map_some, Option.map_none, reduceCtorEq, ix34, ix39, ld71, ln39, ms34, st67]
    refine ⟨rfl, ⟨_, rfl⟩, ?_, fun j x y _ h => by simp at h, fun j y b h => by simp at h, fun j y h => by simp at h, fun i j x y _ h => by simp at h⟩
    have := SOwn.new (H := H) (s := 3) (xs := (List.replicate xs.length z3).map vcells) (by intro x hx; obtain ⟨y, _, rfl⟩ := List.mem_map.1 hx; rfl)
    simpa using this
  · rintro ⟨i, ys⟩ tm H' ⟨h0, h3, h4, hi, ht⟩
    simp only at h0 h3 h4 hi ht
    simp -implicitDefEqProofs only [rE_seq_n, rE_seq_r, rE_seq_e, rE_blk_n, rE_blk_r, rE_blk_e, rW_skip, rW_ret, rW_exit, rW_ops, rW_seq, rW_block, ↓two_true, ↓two_false, rC_bool, rW_cond, rO_nil, rO_cons, oG_t, oG_f, oG_undef, rO_guard, oV_some, rOV_eq, oP_move, oP_assign, oP_bin, oP_un, oP_index, oP_fieldAddr, oP_field, oP_indexAddr, oP_slice, oP_load, oP_convert, aPick_true, aPick_false, aPick_bool, oP_pick, aExtract_tup, oP_extract, oP_nilCheck, oP_build, oP_len, oP_cap, oP_max, oP_min, oP_makeFunc, oS_some, oP_store, oA_some, oP_append, oM_some, oP_alloc, oP_box, oP_buildSlice, oP_mkS, oP_call, oP_callv, oF_func, aev_tmp, aev_const, aev_func, aput_get, aput_none, bin_add, bin_sub, bin_mul, bin_eql, bin_neq, bin_lss, bin_leq, bin_gtr, bin_geq, un_not, un_neg, tm0_get, fin_ret, fin_end, oR_some, resL_nil, resL_tmp, resL_cell, tup_one, tup_two, tup_nil, cond_true, cond_false, load_eq, Option.bind_some, gt0, gti, mkv, List.length_append, List.length_cons, List.length_nil, List.append_assoc, List.cons_append, List.nil_append, rd0, rdi, wrt0, wrti, rdB_own, rdB_ro, wrB_own, oL_some, aggAt, sto_some, st0, sti, List.set_cons_zero, List.set_cons_succ, splice_nil, splice_cons, cells_agg, cells_int, cells_bool, cells_string, cells_pointer, cells_slice, leaf_int, leaf_bool, leaf_string, leaf_pointer, leaf_slice, List.size_toArray, List.all_cons, List.all_nil, Bool.and_self, Bool.and_true, and_self, true_and, and_true, Nat.zero_add, Nat.add_zero, Nat.reduceLeDiff, Nat.le_refl, List.drop_zero, List.drop_succ_cons, List.take_succ_cons, List.take_zero, Nat.reduceSub, lp_end, lp_ret, lp_exit, oV_ite, oS_ite, oA_ite, slc_some, sls_some, optInt_none, optInt_some, rW_draw, rD_nil, rDV_eq, rDR_eq, rDE_eq, rDS_n, rDS_e, rD_load, rD_conv, rD_pure, rD_e, rD_g, rDG_t, rDG_f, rDG_undef, chkH_nil, chkH_cons, chkP_nil, chkP_cons, aRead_load, aRead_conv, isE_store, isE_call, isE_append, rDS_l, rDS_c, pl_move, pl_assign, pl_pick, pl_alloc, pl_box, pl_build, pl_buildSlice, pl_nilCheck, pl_binOp, pl_unOp, pl_makeFunc, pl_makeSlice, pl_slice, pl_fieldAddr, pl_field, pl_indexAddr, pl_index, pl_extract, pl_len, pl_cap, pl_max, pl_min, List.mem_cons, Prod.mk.injEq, List.not_mem_nil, or_false, or_true, false_or, true_or, and_false, false_and, false_implies, implies_true, true_implies, oM_ite, List.getElem?_toArray, List.getElem?_cons_zero, List.getElem?_cons_succ, List.getElem?_nil, Option.getD_some, Option.getD_none, Nat.reduceEqDiff, reduceIte, Nat.reduceAdd, List.map_toArray, List.map_cons, List.map_nil, Bool.false_eq_true, Nat.reduceBEq, Option.map_some, Option.map_none, reduceCtorEq, ix34, ix39, ld71, ln39, ms34, st67, h0, h3, h4]
    refine two_intro (fun hc => ?_) (fun hc => ?_)
    · have hc' : i < xs.length := by simpa using hc
      obtain ⟨b, o, cs, rfl, rfl, hrd, hle, hcell⟩ := gv (by omega)
      obtain ⟨K0, hK0⟩ := ht.ext
      have hx1 : (xs.map vcells)[i]? = some (vcells xs[i]) := by simp [hc']
      have r1 := row_lt (s := 3) hc'
      have g1 : rd H' b = some cs := by rw [hK0, rdl (by simp [hrd]), hrd]
      have l1 : ld Try.prog 71 (o + i * 3) cs = some (.agg #[.bool xs[i].1, xs[i].2.1, xs[i].2.2]) := by
        rw [ld71]; exact aggAt_row (hcell i _ hx1).1 (by omega) (hcell i _ hx1).2
      obtain ⟨o1, o2, n1, n2⟩ := hx xs[i] (List.getElem_mem hc')
      have i1 : IntRow H' xs[i].2.1 (rowI H xs[i].2.1) := by rw [hK0]; exact IntRow.mono o1
      have i2 : IntRow H' xs[i].2.2 (rowI H xs[i].2.2) := by rw [hK0]; exact IntRow.mono o2
      simp -implicitDefEqProofs only [rE_seq_n, rE_seq_r, rE_seq_e, rE_blk_n, rE_blk_r, rE_blk_e, rW_skip, rW_ret, rW_exit, rW_ops, rW_seq, rW_block, ↓two_true, ↓two_false, rC_bool, rW_cond, rO_nil, rO_cons, oG_t, oG_f, oG_undef, rO_guard, oV_some, rOV_eq, oP_move, oP_assign, oP_bin, oP_un, oP_index, oP_fieldAddr, oP_field, oP_indexAddr, oP_slice, oP_load, oP_convert, aPick_true, aPick_false, aPick_bool, oP_pick, aExtract_tup, oP_extract, oP_nilCheck, oP_build, oP_len, oP_cap, oP_max, oP_min, oP_makeFunc, oS_some, oP_store, oA_some, oP_append, oM_some, oP_alloc, oP_box, oP_buildSlice, oP_mkS, oP_call, oP_callv, oF_func, aev_tmp, aev_const, aev_func, aput_get, aput_none, bin_add, bin_sub, bin_mul, bin_eql, bin_neq, bin_lss, bin_leq, bin_gtr, bin_geq, un_not, un_neg, tm0_get, fin_ret, fin_end, oR_some, resL_nil, resL_tmp, resL_cell, tup_one, tup_two, tup_nil, cond_true, cond_false, load_eq, Option.bind_some, gt0, gti, mkv, List.length_append, List.length_cons, List.length_nil, List.append_assoc, List.cons_append, List.nil_append, rd0, rdi, wrt0, wrti, rdB_own, rdB_ro, wrB_own, oL_some, aggAt, sto_some, st0, sti, List.set_cons_zero, List.set_cons_succ, splice_nil, splice_cons, cells_agg, cells_int, cells_bool, cells_string, cells_pointer, cells_slice, leaf_int, leaf_bool, leaf_string, leaf_pointer, leaf_slice, List.size_toArray, List.all_cons, List.all_nil, Bool.and_self, Bool.and_true, and_self, true_and, and_true, Nat.zero_add, Nat.add_zero, Nat.reduceLeDiff, Nat.le_refl, List.drop_zero, List.drop_succ_cons, List.take_succ_cons, List.take_zero, Nat.reduceSub, lp_end, lp_ret, lp_exit, oV_ite, oS_ite, oA_ite, slc_some, sls_some, optInt_none, optInt_some, rW_draw, rD_nil, rDV_eq, rDR_eq, rDE_eq, rDS_n, rDS_e, rD_load, rD_conv, rD_pure, rD_e, rD_g, rDG_t, rDG_f, rDG_undef, chkH_nil, chkH_cons, chkP_nil, chkP_cons, aRead_load, aRead_conv, isE_store, isE_call, isE_append, rDS_l, rDS_c, pl_move, pl_assign, pl_pick, pl_alloc, pl_box, pl_build, pl_buildSlice, pl_nilCheck, pl_binOp, pl_unOp, pl_makeFunc, pl_makeSlice, pl_slice, pl_fieldAddr, pl_field, pl_indexAddr, pl_index, pl_extract, pl_len, pl_cap, pl_max, pl_min, List.mem_cons, Prod.mk.injEq, List.not_mem_nil, or_false, or_true, false_or, true_or, and_false, false_and, false_implies, implies_true, true_implies, oM_ite, List.getElem?_toArray, List.getElem?_cons_zero, List.getElem?_cons_succ, List.getElem?_nil, Option.getD_some, Option.getD_none, Nat.reduceEqDiff, reduceIte, Nat.reduceAdd, List.map_toArray, List.map_cons, List.map_nil, Bool.false_eq_true, Nat.reduceBEq, Option.map_some, Option.map_none, reduceCtorEq, ix34, ix39, ld71, ln39, ms34, st67, h0, h3, h4, Int.toNat_natCast, g1, l1]
      refine ⟨⟨by omega, by omega⟩, (toVar_ok i1 i2 n1 n2).mono ?_⟩
      rintro _ _ ⟨p', r', rfl, q1, q2, d, m1, m2, K, rfl⟩
      have hyl := ht.yl
      have hl2 : ((ys ++ List.replicate (xs.length - i) z3).map vcells).length = xs.length := by simp [hyl]; omega
      rcases ht.own with ⟨e1, e2⟩ | ⟨b2, o2', cs2, e1, hb2, hle2, hcell2⟩
      · cases e1
      · rw [hl2] at e1 hle2
        simp only [Value.slice.injEq, Option.some.injEq, Addr.mk.injEq] at e1
        obtain ⟨⟨rfl, rfl, _⟩, _, _⟩ := e1
        have hst := ht.step (K := K) (List.getElem?_eq_getElem hc') hb2 (by omega) hcell2 q1 q2 d m1 m2
        have hw : wrt (H' ++ K) H.length = some cs2 := wrt_own (gtl hb2)
        obtain ⟨a1, c1, e3⟩ := q1.isSlice
        obtain ⟨a2, c2, e4⟩ := q2.isSlice
        subst e3; subst e4
        rw [Nat.zero_add] at hst
        have hst2 := hst
        simp only [splice_cons, splice_nil] at hst2
        simp -implicitDefEqProofs only [rE_seq_n, rE_seq_r, rE_seq_e, rE_blk_n, rE_blk_r, rE_blk_e, rW_skip, rW_ret, rW_exit, rW_ops, rW_seq, rW_block, ↓two_true, ↓two_false, rC_bool, rW_cond, rO_nil, rO_cons, oG_t, oG_f, oG_undef, rO_guard, oV_some, rOV_eq, oP_move, oP_assign, oP_bin, oP_un, oP_index, oP_fieldAddr, oP_field, oP_indexAddr, oP_slice, oP_load, oP_convert, aPick_true, aPick_false, aPick_bool, oP_pick, aExtract_tup, oP_extract, oP_nilCheck, oP_build, oP_len, oP_cap, oP_max, oP_min, oP_makeFunc, oS_some, oP_store, oA_some, oP_append, oM_some, oP_alloc, oP_box, oP_buildSlice, oP_mkS, oP_call, oP_callv, oF_func, aev_tmp, aev_const, aev_func, aput_get, aput_none, bin_add, bin_sub, bin_mul, bin_eql, bin_neq, bin_lss, bin_leq, bin_gtr, bin_geq, un_not, un_neg, tm0_get, fin_ret, fin_end, oR_some, resL_nil, resL_tmp, resL_cell, tup_one, tup_two, tup_nil, cond_true, cond_false, load_eq, Option.bind_some, gt0, gti, mkv, List.length_append, List.length_cons, List.length_nil, List.append_assoc, List.cons_append, List.nil_append, rd0, rdi, wrt0, wrti, rdB_own, rdB_ro, wrB_own, oL_some, aggAt, sto_some, st0, sti, List.set_cons_zero, List.set_cons_succ, splice_nil, splice_cons, cells_agg, cells_int, cells_bool, cells_string, cells_pointer, cells_slice, leaf_int, leaf_bool, leaf_string, leaf_pointer, leaf_slice, List.size_toArray, List.all_cons, List.all_nil, Bool.and_self, Bool.and_true, and_self, true_and, and_true, Nat.zero_add, Nat.add_zero, Nat.reduceLeDiff, Nat.le_refl, List.drop_zero, List.drop_succ_cons, List.take_succ_cons, List.take_zero, Nat.reduceSub, lp_end, lp_ret, lp_exit, oV_ite, oS_ite, oA_ite, slc_some, sls_some, optInt_none, optInt_some, rW_draw, rD_nil, rDV_eq, rDR_eq, rDE_eq, rDS_n, rDS_e, rD_load, rD_conv, rD_pure, rD_e, rD_g, rDG_t, rDG_f, rDG_undef, chkH_nil, chkH_cons, chkP_nil, chkP_cons, aRead_load, aRead_conv, isE_store, isE_call, isE_append, rDS_l, rDS_c, pl_move, pl_assign, pl_pick, pl_alloc, pl_box, pl_build, pl_buildSlice, pl_nilCheck, pl_binOp, pl_unOp, pl_makeFunc, pl_makeSlice, pl_slice, pl_fieldAddr, pl_field, pl_indexAddr, pl_index, pl_extract, pl_len, pl_cap, pl_max, pl_min, List.mem_cons, Prod.mk.injEq, List.not_mem_nil, or_false, or_true, false_or, true_or, and_false, false_and, false_implies, implies_true, true_implies, oM_ite, List.getElem?_toArray, List.getElem?_cons_zero, List.getElem?_cons_succ, List.getElem?_nil, Option.getD_some, Option.getD_none, Nat.reduceEqDiff, reduceIte, Nat.reduceAdd, List.map_toArray, List.map_cons, List.map_nil, Bool.false_eq_true, Nat.reduceBEq, Option.map_some, Option.map_none, reduceCtorEq, ix34, ix39, ld71, ln39, ms34, st67, h0, h3, h4, Int.toNat_natCast, hw, IntWalk.i64_in (↑i + 1) (by omega)]
        exact ⟨⟨by omega, by omega⟩, by omega, (i + 1, _), by simp only; omega, by simp, hc', hst2⟩
    · have hc' : ¬ i < xs.length := by simpa using hc
      have hil : i = xs.length := by omega
      subst hil
      exact ⟨ys, rfl, ht⟩

/-! ### VarsOk -/
def varBad (s : Bool) (l m : List Int) : Bool := (s && !arrOk l m) || (!s && decide (((l.length : Int) + m.length) > 0))

theorem varsOk1_ok {H : AH} {s : Bool} {p q : Value} {l m : List Int} (hp : IntRow H p l) (hq : IntRow H q m) (l1 : l.length < 4611686018427387904) (l2 : m.length < 4611686018427387904) :
    CallsA Try.prog 56 #[.agg #[.bool s, p, q]] H fun r H' => r = .bool (varBad s l m) ∧ ∃ K, H' = H ++ K := by
  have ea := fun (L : AH) Φ => (implArrayOk_ok (H := H ++ L) (IntRow.mono hp) (IntRow.mono hq) l1 l2).eqV (Φ := Φ)
  obtain ⟨a, c, rfl, _⟩ := hp.op
  obtain ⟨a', c', rfl, _⟩ := hq.op
  refine w56 ?_
  unfold k56
  simp -implicitDefEqProofs only [rE_seq_n, rE_seq_r, rE_seq_e, rE_blk_n, rE_blk_r, rE_blk_e, rW_skip, rW_ret, rW_exit, rW_ops, rW_seq, rW_block, ↓two_true, ↓two_false, rC_bool, rW_cond, rO_nil, rO_cons, oG_t, oG_f, oG_undef, rO_guard, oV_some, rOV_eq, oP_move, oP_assign, oP_bin, oP_un, oP_index, oP_fieldAddr, oP_field, oP_indexAddr, oP_slice, oP_load, oP_convert, aPick_true, aPick_false, aPick_bool, oP_pick, aExtract_tup, oP_extract, oP_nilCheck, oP_build, oP_len, oP_cap, oP_max, oP_min, oP_makeFunc, oS_some, oP_store, oA_some, oP_append, oM_some, oP_alloc, oP_box, oP_buildSlice, oP_mkS, oP_call, oP_callv, oF_func, aev_tmp, aev_const, aev_func, aput_get, aput_none, bin_add, bin_sub, bin_mul, bin_eql, bin_neq, bin_lss, bin_leq, bin_gtr, bin_geq, un_not, un_neg, tm0_get, fin_ret, fin_end, oR_some, resL_nil, resL_tmp, resL_cell, tup_one, tup_two, tup_nil, cond_true, cond_false, load_eq, Option.bind_some, gt0, gti, mkv, List.length_append, List.length_cons, List.length_nil, List.append_assoc, List.cons_append, List.nil_append, rd0, rdi, wrt0, wrti, rdB_own, rdB_ro, wrB_own, oL_some, aggAt, sto_some, st0, sti, List.set_cons_zero, List.set_cons_succ, splice_nil, splice_cons, cells_agg, cells_int, cells_bool, cells_string, cells_pointer, cells_slice, leaf_int, leaf_bool, leaf_string, leaf_pointer, leaf_slice, List.size_toArray, List.all_cons, List.all_nil, Bool.and_self, Bool.and_true, and_self, true_and, and_true, Nat.zero_add, Nat.add_zero, Nat.reduceLeDiff, Nat.le_refl, List.drop_zero, List.drop_succ_cons, List.take_succ_cons, List.take_zero, Nat.reduceSub, lp_end, lp_ret, lp_exit, oV_ite, oS_ite, oA_ite, slc_some, sls_some, optInt_none, optInt_some, rW_draw, rD_nil, rDV_eq, rDR_eq, rDE_eq, rDS_n, rDS_e, rD_load, rD_conv, rD_pure, rD_e, rD_g, rDG_t, rDG_f, rDG_undef, chkH_nil, chkH_cons, chkP_nil, chkP_cons, aRead_load, aRead_conv, isE_store, isE_call, isE_append, rDS_l, rDS_c, pl_move, pl_assign, pl_pick, pl_alloc, pl_box, pl_build, pl_buildSlice, pl_nilCheck, pl_binOp, pl_unOp, pl_makeFunc, pl_makeSlice, pl_slice, pl_fieldAddr, pl_field, pl_indexAddr, pl_index, pl_extract, pl_len, pl_cap, pl_max, pl_min, List.mem_cons, Prod.mk.injEq, List.not_mem_nil, or_false, or_true, false_or, true_or, and_false, false_and, false_implies, implies_true, true_implies, oM_ite, List.getElem?_toArray, List.getElem?_cons_zero, List.getElem?_cons_succ, List.getElem?_nil, Option.getD_some, Option.getD_none, Nat.reduceEqDiff, reduceIte, Nat.reduceAdd, List.map_toArray, List.map_cons, List.map_nil, Bool.false_eq_true, Nat.reduceBEq, Option.map_some, Option.map_none, reduceCtorEq, fa55_0, fa55_1, fa67_0, fa67_1, ld4, ld51, ld55, ln51, ea]
  rw [IntWalk.i64_in (↑l.length + ↑m.length) (by omega)]
  cases s with
  | true =>
    rw [two_true]
    cases h : arrOk l m <;> simp [two, varBad, h]
  | false =>
    rw [two_false]
    simp [two, varBad]

theorem indexFuncV_ok {H : AH} {v : Value} {xs : List VR3} {g : FuncId} {p : VR3 → Bool} (hv : SRow H v 3 (xs.map vcells)) (hl : xs.length < 4611686018427387904)
    (hp : ∀ x ∈ xs, ∀ L : AH, CallsA Try.prog g #[.agg #[.bool x.1, x.2.1, x.2.2]] (H ++ L) fun r H' => r = .bool (p x) ∧ ∃ K, H' = (H ++ L) ++ K) :
    CallsA Try.prog 72 #[v, .func (.func g) #[] #[]] H fun r H' => r = .int .i64 (idxF p xs) ∧ ∃ K, H' = H ++ K := by
  obtain ⟨a, c, rfl, gv⟩ := hv.op
  simp only [List.length_map] at gv ⊢
  refine w72 ?_
  unfold k72
  simp -implicitDefEqProofs only [rE_seq_n, rE_seq_r, rE_seq_e, rE_blk_n, rE_blk_r, rE_blk_e, rW_skip, rW_ret, rW_exit, rW_ops, rW_seq, rW_block, ↓two_true, ↓two_false, rC_bool, rW_cond, rO_nil, rO_cons, oG_t, oG_f, oG_undef, rO_guard, oV_some, rOV_eq, oP_move, oP_assign, oP_bin, oP_un, oP_index, oP_fieldAddr, oP_field, oP_indexAddr, oP_slice, oP_load, oP_convert, aPick_true, aPick_false, aPick_bool, oP_pick, aExtract_tup, oP_extract, oP_nilCheck, oP_build, oP_len, oP_cap, oP_max, oP_min, oP_makeFunc, oS_some, oP_store, oA_some, oP_append, oM_some, oP_alloc, oP_box, oP_buildSlice, oP_mkS, oP_call, oP_callv, oF_func, aev_tmp, aev_const, aev_func, aput_get, aput_none, bin_add, bin_sub, bin_mul, bin_eql, bin_neq, bin_lss, bin_leq, bin_gtr, bin_geq, un_not, un_neg, tm0_get, fin_ret, fin_end, oR_some, resL_nil, resL_tmp, resL_cell, tup_one, tup_two, tup_nil, cond_true, cond_false, load_eq, Option.bind_some, gt0, gti, mkv, List.length_append, List.length_cons, List.length_nil, List.append_assoc, List.cons_append, List.nil_append, rd0, rdi, wrt0, wrti, rdB_own, rdB_ro, wrB_own, oL_some, aggAt, sto_some, st0, sti, List.set_cons_zero, List.set_cons_succ, splice_nil, splice_cons, cells_agg, cells_int, cells_bool, cells_string, cells_pointer, cells_slice, leaf_int, leaf_bool, leaf_string, leaf_pointer, leaf_slice, List.size_toArray, List.all_cons, List.all_nil, Bool.and_self, Bool.and_true, and_self, true_and, and_true, Nat.zero_add, Nat.add_zero, Nat.reduceLeDiff, Nat.le_refl, List.drop_zero, List.drop_succ_cons, List.take_succ_cons, List.take_zero, Nat.reduceSub, lp_end, lp_ret, lp_exit, oV_ite, oS_ite, oA_ite, slc_some, sls_some, optInt_none, optInt_some, rW_draw, rD_nil, rDV_eq, rDR_eq, rDE_eq, rDS_n, rDS_e, rD_load, rD_conv, rD_pure, rD_e, rD_g, rDG_t, rDG_f, rDG_undef, chkH_nil, chkH_cons, chkP_nil, chkP_cons, aRead_load, aRead_conv, isE_store, isE_call, isE_append, rDS_l, rDS_c, pl_move, pl_assign, pl_pick, pl_alloc, pl_box, pl_build, pl_buildSlice, pl_nilCheck, pl_binOp, pl_unOp, pl_makeFunc, pl_makeSlice, pl_slice, pl_fieldAddr, pl_field, pl_indexAddr, pl_index, pl_extract, pl_len, pl_cap, pl_max, pl_min, List.mem_cons, Prod.mk.injEq, List.not_mem_nil, or_false, or_true, false_or, true_or, and_false, false_and, false_implies, implies_true, true_implies, oM_ite, List.getElem?_toArray, List.getElem?_cons_zero, List.getElem?_cons_succ, List.getElem?_nil, Option.getD_some, Option.getD_none, Nat.reduceEqDiff, reduceIte, Nat.reduceAdd, List.map_toArray, List.map_cons, List.map_nil, Bool.false_eq_true, Nat.reduceBEq, Option.map_some, Option.map_none, reduceCtorEq, ix34, ld67, ln34]
  refine rW_loop (σ := Nat) (fun i tm H' => tm 0 = .slice a xs.length c ∧ tm 1 = .func (.func g) #[] #[] ∧ tm 7 = .int .i64 xs.length ∧ tm 8 = .int .i64 i ∧ (∃ K, H' = H ++ K) ∧ i ≤ xs.length ∧ ∀ x ∈ xs.take i, p x = false) (fun i => xs.length - i) 0 ?_ ?_
  · simp -implicitDefEqProofs [rE_seq_n, rE_seq_r, rE_seq_e, rE_blk_n, rE_blk_r, rE_blk_e, rW_skip, rW_ret, rW_exit, rW_ops, rW_seq, rW_block, ↓two_true, ↓two_false, rC_bool, rW_cond, rO_nil, rO_cons, oG_t, oG_f, oG_undef, rO_guard, oV_some, rOV_eq, oP_move, oP_assign, oP_bin, oP_un, oP_index, oP_fieldAddr, oP_field, oP_indexAddr, oP_slice, oP_load, oP_convert, aPick_true, aPick_false, aPick_bool, oP_pick, aExtract_tup, oP_extract, oP_nilCheck, oP_build, oP_len, oP_cap, oP_max, oP_min, oP_makeFunc, oS_some, oP_store, oA_some, oP_append, oM_some, oP_alloc, oP_box, oP_buildSlice, oP_mkS, oP_call, oP_callv, oF_func, aev_tmp, aev_const, aev_func, aput_get, aput_none, bin_add, bin_sub, bin_mul, bin_eql, bin_neq, bin_lss, bin_leq, bin_gtr, bin_geq, un_not, un_neg, tm0_get, fin_ret, fin_end, oR_some, resL_nil, resL_tmp, resL_cell, tup_one, tup_two, tup_nil, cond_true, cond_false, load_eq, Option.bind_some, gt0, gti, mkv, List.length_append, List.length_cons, List.length_nil, List.append_assoc, List.cons_append, List.nil_append, rd0, rdi, wrt0, wrti, rdB_own, rdB_ro, wrB_own, oL_some, aggAt, sto_some, st0, sti, List.set_cons_zero, List.set_cons_succ, splice_nil, splice_cons, cells_agg, cells_int, cells_bool, cells_string, cells_pointer, cells_slice, leaf_int, leaf_bool, leaf_string, leaf_pointer, leaf_slice, List.size_toArray, List.all_cons, List.all_nil, Bool.and_self, Bool.and_true, and_self, true_and, and_true, Nat.zero_add, Nat.add_zero, Nat.reduceLeDiff, Nat.le_refl, List.drop_zero, List.drop_succ_cons, List.take_succ_cons, List.take_zero, Nat.reduceSub, lp_end, lp_ret, lp_exit, oV_ite, oS_ite, oA_ite, slc_some, sls_some, optInt_none, optInt_some, rW_draw, rD_nil, rDV_eq, rDR_eq, rDE_eq, rDS_n, rDS_e, rD_load, rD_conv, rD_pure, rD_e, rD_g, rDG_t, rDG_f, rDG_undef, chkH_nil, chkH_cons, chkP_nil, chkP_cons, aRead_load, aRead_conv, isE_store, isE_call, isE_append, rDS_l, rDS_c, pl_move, pl_assign, pl_pick, pl_alloc, pl_box, pl_build, pl_buildSlice, pl_nilCheck, pl_binOp, pl_unOp, pl_makeFunc, pl_makeSlice, pl_slice, pl_fieldAddr, pl_field, pl_indexAddr, pl_index, pl_extract, pl_len, pl_cap, pl_max, pl_min, List.mem_cons, Prod.mk.injEq, List.not_mem_nil, or_false, or_true, false_or, true_or, and_false, false_and, false_implies, implies_true, true_implies, oM_ite, List.getElem?_toArray, List.getElem?_cons_zero, List.getElem?_cons_succ, List.getElem?_nil, Option.getD_some, Option.getD_none, Nat.reduceEqDiff, reduceIte, Nat.reduceAdd, List.map_toArray, List.map_cons, List.map_nil, Bool.false_eq_true, Nat.reduceBEq, Option.map_some, Option.map_none, reduceCtorEq, ix34, ld67, ln34]
  · rintro i tm H' ⟨h0, h1, h7, h8, ⟨K, rfl⟩, hi, hn⟩
    simp -implicitDefEqProofs only [rE_seq_n, rE_seq_r, rE_seq_e, rE_blk_n, rE_blk_r, rE_blk_e, rW_skip, rW_ret, rW_exit, rW_ops, rW_seq, rW_block, ↓two_true, ↓two_false, rC_bool, rW_cond, rO_nil, rO_cons, oG_t, oG_f, oG_undef, rO_guard, oV_some, rOV_eq, oP_move, oP_assign, oP_bin, oP_un, oP_index, oP_fieldAddr, oP_field, oP_indexAddr, oP_slice, oP_load, oP_convert, aPick_true, aPick_false, aPick_bool, oP_pick, aExtract_tup, oP_extract, oP_nilCheck, oP_build, oP_len, oP_cap, oP_max, oP_min, oP_makeFunc, oS_some, oP_store, oA_some, oP_append, oM_some, oP_alloc, oP_box, oP_buildSlice, oP_mkS, oP_call, oP_callv, oF_func, aev_tmp, aev_const, aev_func, aput_get, aput_none, bin_add, bin_sub, bin_mul, bin_eql, bin_neq, bin_lss, bin_leq, bin_gtr, bin_geq, un_not, un_neg, tm0_get, fin_ret, fin_end, oR_some, resL_nil, resL_tmp, resL_cell, tup_one, tup_two, tup_nil, cond_true, cond_false, load_eq, Option.bind_some, gt0, gti, mkv, List.length_append, List.length_cons, List.length_nil, List.append_assoc, List.cons_append, List.nil_append, rd0, rdi, wrt0, wrti, rdB_own, rdB_ro, wrB_own, oL_some, aggAt, sto_some, st0, sti, List.set_cons_zero, List.set_cons_succ, splice_nil, splice_cons, cells_agg, cells_int, cells_bool, cells_string, cells_pointer, cells_slice, leaf_int, leaf_bool, leaf_string, leaf_pointer, leaf_slice, List.size_toArray, List.all_cons, List.all_nil, Bool.and_self, Bool.and_true, and_self, true_and, and_true, Nat.zero_add, Nat.add_zero, Nat.reduceLeDiff, Nat.le_refl, List.drop_zero, List.drop_succ_cons, List.take_succ_cons, List.take_zero, Nat.reduceSub, lp_end, lp_ret, lp_exit, oV_ite, oS_ite, oA_ite, slc_some, sls_some, optInt_none, optInt_some, rW_draw, rD_nil, rDV_eq, rDR_eq, rDE_eq, rDS_n, rDS_e, rD_load, rD_conv, rD_pure, rD_e, rD_g, rDG_t, rDG_f, rDG_undef, chkH_nil, chkH_cons, chkP_nil, chkP_cons, aRead_load, aRead_conv, isE_store, isE_call, isE_append, rDS_l, rDS_c, pl_move, pl_assign, pl_pick, pl_alloc, pl_box, pl_build, pl_buildSlice, pl_nilCheck, pl_binOp, pl_unOp, pl_makeFunc, pl_makeSlice, pl_slice, pl_fieldAddr, pl_field, pl_indexAddr, pl_index, pl_extract, pl_len, pl_cap, pl_max, pl_min, List.mem_cons, Prod.mk.injEq, List.not_mem_nil, or_false, or_true, false_or, true_or, and_false, false_and, false_implies, implies_true, true_implies, oM_ite, List.getElem?_toArray, List.getElem?_cons_zero, List.getElem?_cons_succ, List.getElem?_nil, Option.getD_some, Option.getD_none, Nat.reduceEqDiff, reduceIte, Nat.reduceAdd, List.map_toArray, List.map_cons, List.map_nil, Bool.false_eq_true, Nat.reduceBEq, Option.map_some, Option.map_none, reduceCtorEq, ix34, ld67, ln34, h0, h1, h7, h8]
    refine two_intro (fun hc => ?_) (fun hc => ?_)
    · have hc' : i < xs.length := by simpa using hc
      obtain ⟨b, o, cs, rfl, rfl, hrd, hle, hcell⟩ := gv (by omega)
      have hx1 : (xs.map vcells)[i]? = some (vcells xs[i]) := by simp [hc']
      have r1 := row_lt (s := 3) hc'
      have g1 : rd (H ++ K) b = some cs := by rw [rdl (by simp [hrd]), hrd]
      have l1 : ld Try.prog 67 (o + i * 3) cs = some (.agg #[.bool xs[i].1, xs[i].2.1, xs[i].2.2]) := by
        rw [ld67]; exact aggAt_row (hcell i _ hx1).1 (by omega) (hcell i _ hx1).2
      have e := fun Φ => (hp xs[i] (List.getElem_mem hc') K).eqV (Φ := Φ)
      simp -implicitDefEqProofs only [rE_seq_n, rE_seq_r, rE_seq_e, rE_blk_n, rE_blk_r, rE_blk_e, rW_skip, rW_ret, rW_exit, rW_ops, rW_seq, rW_block, ↓two_true, ↓two_false, rC_bool, rW_cond, rO_nil, rO_cons, oG_t, oG_f, oG_undef, rO_guard, oV_some, rOV_eq, oP_move, oP_assign, oP_bin, oP_un, oP_index, oP_fieldAddr, oP_field, oP_indexAddr, oP_slice, oP_load, oP_convert, aPick_true, aPick_false, aPick_bool, oP_pick, aExtract_tup, oP_extract, oP_nilCheck, oP_build, oP_len, oP_cap, oP_max, oP_min, oP_makeFunc, oS_some, oP_store, oA_some, oP_append, oM_some, oP_alloc, oP_box, oP_buildSlice, oP_mkS, oP_call, oP_callv, oF_func, aev_tmp, aev_const, aev_func, aput_get, aput_none, bin_add, bin_sub, bin_mul, bin_eql, bin_neq, bin_lss, bin_leq, bin_gtr, bin_geq, un_not, un_neg, tm0_get, fin_ret, fin_end, oR_some, resL_nil, resL_tmp, resL_cell, tup_one, tup_two, tup_nil, cond_true, cond_false, load_eq, Option.bind_some, gt0, gti, mkv, List.length_append, List.length_cons, List.length_nil, List.append_assoc, List.cons_append, List.nil_append, rd0, rdi, wrt0, wrti, rdB_own, rdB_ro, wrB_own, oL_some, aggAt, sto_some, st0, sti, List.set_cons_zero, List.set_cons_succ, splice_nil, splice_cons, cells_agg, cells_int, cells_bool, cells_string, cells_pointer, cells_slice, leaf_int, leaf_bool, leaf_string, leaf_pointer, leaf_slice, List.size_toArray, List.all_cons, List.all_nil, Bool.and_self, Bool.and_true, and_self, true_and, and_true, Nat.zero_add, Nat.add_zero, Nat.reduceLeDiff, Nat.le_refl, List.drop_zero, List.drop_succ_cons, List.take_succ_cons, List.take_zero, Nat.reduceSub, lp_end, lp_ret, lp_exit, oV_ite, oS_ite, oA_ite, slc_some, sls_some, optInt_none, optInt_some, rW_draw, rD_nil, rDV_eq, rDR_eq, rDE_eq, rDS_n, rDS_e, rD_load, rD_conv, rD_pure, rD_e, rD_g, rDG_t, rDG_f, rDG_undef, chkH_nil, chkH_cons, chkP_nil, chkP_cons, aRead_load, aRead_conv, isE_store, isE_call, isE_append, rDS_l, rDS_c, pl_move, pl_assign, pl_pick, pl_alloc, pl_box, pl_build, pl_buildSlice, pl_nilCheck, pl_binOp, pl_unOp, pl_makeFunc, pl_makeSlice, pl_slice, pl_fieldAddr, pl_field, pl_indexAddr, pl_index, pl_extract, pl_len, pl_cap, pl_max, pl_min, List.mem_cons, Prod.mk.injEq, List.not_mem_nil, or_false, or_true, false_or, true_or, and_false, false_and, false_implies, implies_true, true_implies, oM_ite, List.getElem?_toArray, List.getElem?_cons_zero, List.getElem?_cons_succ, List.getElem?_nil, Option.getD_some, Option.getD_none, Nat.reduceEqDiff, reduceIte, Nat.reduceAdd, List.map_toArray, List.map_cons, List.map_nil, Bool.false_eq_true, Nat.reduceBEq, Option.map_some, Option.map_none, reduceCtorEq, ix34, ld67, ln34, h0, h1, h7, h8, Int.toNat_natCast, g1, l1, Array.empty_append, Array.append_empty, e, IntWalk.i64_in (↑i + 1) (by omega)]
      refine ⟨⟨by omega, by omega⟩, two_intro (fun h => ?_) (fun h => ?_)⟩
      · exact ⟨by rw [idxF_some hc' h hn], _, rfl⟩
      · refine ⟨i + 1, by omega, by simp, ⟨_, rfl⟩, hc', ?_⟩
        intro x hx
        rw [List.take_succ_eq_append_getElem hc'] at hx
        rcases List.mem_append.1 hx with hx | hx
        · exact hn x hx
        · rw [List.mem_singleton.1 hx]; exact h
    · have hc' : ¬ i < xs.length := by simpa using hc
      have hil : i = xs.length := by omega
      subst hil
      rw [List.take_length] at hn
      exact ⟨by rw [idxF_none hn], _, rfl⟩

theorem containsFuncV_ok {H : AH} {v : Value} {xs : List VR3} {g : FuncId} {p : VR3 → Bool} (hv : SRow H v 3 (xs.map vcells)) (hl : xs.length < 4611686018427387904)
    (hp : ∀ x ∈ xs, ∀ L : AH, CallsA Try.prog g #[.agg #[.bool x.1, x.2.1, x.2.2]] (H ++ L) fun r H' => r = .bool (p x) ∧ ∃ K, H' = (H ++ L) ++ K) :
    CallsA Try.prog 55 #[v, .func (.func g) #[] #[]] H fun r H' => r = .bool (xs.any p) ∧ ∃ K, H' = H ++ K := by
  have e := fun Φ => (indexFuncV_ok hv hl hp).eqV (Φ := Φ)
  refine w55 ?_
  unfold k55
  simp -implicitDefEqProofs only [rE_seq_n, rE_seq_r, rE_seq_e, rE_blk_n, rE_blk_r, rE_blk_e, rW_skip, rW_ret, rW_exit, rW_ops, rW_seq, rW_block, ↓two_true, ↓two_false, rC_bool, rW_cond, rO_nil, rO_cons, oG_t, oG_f, oG_undef, rO_guard, oV_some, rOV_eq, oP_move, oP_assign, oP_bin, oP_un, oP_index, oP_fieldAddr, oP_field, oP_indexAddr, oP_slice, oP_load, oP_convert, aPick_true, aPick_false, aPick_bool, oP_pick, aExtract_tup, oP_extract, oP_nilCheck, oP_build, oP_len, oP_cap, oP_max, oP_min, oP_makeFunc, oS_some, oP_store, oA_some, oP_append, oM_some, oP_alloc, oP_box, oP_buildSlice, oP_mkS, oP_call, oP_callv, oF_func, aev_tmp, aev_const, aev_func, aput_get, aput_none, bin_add, bin_sub, bin_mul, bin_eql, bin_neq, bin_lss, bin_leq, bin_gtr, bin_geq, un_not, un_neg, tm0_get, fin_ret, fin_end, oR_some, resL_nil, resL_tmp, resL_cell, tup_one, tup_two, tup_nil, cond_true, cond_false, load_eq, Option.bind_some, gt0, gti, mkv, List.length_append, List.length_cons, List.length_nil, List.append_assoc, List.cons_append, List.nil_append, rd0, rdi, wrt0, wrti, rdB_own, rdB_ro, wrB_own, oL_some, aggAt, sto_some, st0, sti, List.set_cons_zero, List.set_cons_succ, splice_nil, splice_cons, cells_agg, cells_int, cells_bool, cells_string, cells_pointer, cells_slice, leaf_int, leaf_bool, leaf_string, leaf_pointer, leaf_slice, List.size_toArray, List.all_cons, List.all_nil, Bool.and_self, Bool.and_true, and_self, true_and, and_true, Nat.zero_add, Nat.add_zero, Nat.reduceLeDiff, Nat.le_refl, List.drop_zero, List.drop_succ_cons, List.take_succ_cons, List.take_zero, Nat.reduceSub, lp_end, lp_ret, lp_exit, oV_ite, oS_ite, oA_ite, slc_some, sls_some, optInt_none, optInt_some, rW_draw, rD_nil, rDV_eq, rDR_eq, rDE_eq, rDS_n, rDS_e, rD_load, rD_conv, rD_pure, rD_e, rD_g, rDG_t, rDG_f, rDG_undef, chkH_nil, chkH_cons, chkP_nil, chkP_cons, aRead_load, aRead_conv, isE_store, isE_call, isE_append, rDS_l, rDS_c, pl_move, pl_assign, pl_pick, pl_alloc, pl_box, pl_build, pl_buildSlice, pl_nilCheck, pl_binOp, pl_unOp, pl_makeFunc, pl_makeSlice, pl_slice, pl_fieldAddr, pl_field, pl_indexAddr, pl_index, pl_extract, pl_len, pl_cap, pl_max, pl_min, List.mem_cons, Prod.mk.injEq, List.not_mem_nil, or_false, or_true, false_or, true_or, and_false, false_and, false_implies, implies_true, true_implies, oM_ite, List.getElem?_toArray, List.getElem?_cons_zero, List.getElem?_cons_succ, List.getElem?_nil, Option.getD_some, Option.getD_none, Nat.reduceEqDiff, reduceIte, Nat.reduceAdd, List.map_toArray, List.map_cons, List.map_nil, Bool.false_eq_true, Nat.reduceBEq, Option.map_some, Option.map_none, reduceCtorEq, e, idxF_any]
  exact ⟨_, rfl⟩

def varsOk (l : List (Bool × List Int × List Int)) : Bool := ((l.length : Int) == 26) && !(l.any fun x => varBad x.1 x.2.1 x.2.2)
theorem implVarsOk_ok {H : AH} {v : Value} {xs : List VR3} (hv : SRow H v 3 (xs.map vcells)) (hl : xs.length < 4611686018427387904) (hx : ∀ x ∈ xs, OkV H x) :
    CallsA Try.prog 26 #[v] H fun r H' => r = .bool (varsOk (xs.map (vval H))) ∧ ∃ K, H' = H ++ K := by
  have ec := fun Φ => (containsFuncV_ok (g := 56) (p := fun x => varBad x.1 (rowI H x.2.1) (rowI H x.2.2)) hv hl (fun x h L => varsOk1_ok (IntRow.mono (hx x h).1) (IntRow.mono (hx x h).2.1) (hx x h).2.2.1 (hx x h).2.2.2)).eqV (Φ := Φ)
  obtain ⟨a, c, rfl, _⟩ := hv.op
  simp only [List.length_map] at ec ⊢
  have e2 : (xs.map (vval H)).any (fun x => varBad x.1 x.2.1 x.2.2) = xs.any fun x => varBad x.1 (rowI H x.2.1) (rowI H x.2.2) := by
    rw [List.any_map]; rfl
  refine w26 ?_
  unfold k26
  simp -implicitDefEqProofs only [rE_seq_n, rE_seq_r, rE_seq_e, rE_blk_n, rE_blk_r, rE_blk_e, rW_skip, rW_ret, rW_exit, rW_ops, rW_seq, rW_block, ↓two_true, ↓two_false, rC_bool, rW_cond, rO_nil, rO_cons, oG_t, oG_f, oG_undef, rO_guard, oV_some, rOV_eq, oP_move, oP_assign, oP_bin, oP_un, oP_index, oP_fieldAddr, oP_field, oP_indexAddr, oP_slice, oP_load, oP_convert, aPick_true, aPick_false, aPick_bool, oP_pick, aExtract_tup, oP_extract, oP_nilCheck, oP_build, oP_len, oP_cap, oP_max, oP_min, oP_makeFunc, oS_some, oP_store, oA_some, oP_append, oM_some, oP_alloc, oP_box, oP_buildSlice, oP_mkS, oP_call, oP_callv, oF_func, aev_tmp, aev_const, aev_func, aput_get, aput_none, bin_add, bin_sub, bin_mul, bin_eql, bin_neq, bin_lss, bin_leq, bin_gtr, bin_geq, un_not, un_neg, tm0_get, fin_ret, fin_end, oR_some, resL_nil, resL_tmp, resL_cell, tup_one, tup_two, tup_nil, cond_true, cond_false, load_eq, Option.bind_some, gt0, gti, mkv, List.length_append, List.length_cons, List.length_nil, List.append_assoc, List.cons_append, List.nil_append, rd0, rdi, wrt0, wrti, rdB_own, rdB_ro, wrB_own, oL_some, aggAt, sto_some, st0, sti, List.set_cons_zero, List.set_cons_succ, splice_nil, splice_cons, cells_agg, cells_int, cells_bool, cells_string, cells_pointer, cells_slice, leaf_int, leaf_bool, leaf_string, leaf_pointer, leaf_slice, List.size_toArray, List.all_cons, List.all_nil, Bool.and_self, Bool.and_true, and_self, true_and, and_true, Nat.zero_add, Nat.add_zero, Nat.reduceLeDiff, Nat.le_refl, List.drop_zero, List.drop_succ_cons, List.take_succ_cons, List.take_zero, Nat.reduceSub, lp_end, lp_ret, lp_exit, oV_ite, oS_ite, oA_ite, slc_some, sls_some, optInt_none, optInt_some, rW_draw, rD_nil, rDV_eq, rDR_eq, rDE_eq, rDS_n, rDS_e, rD_load, rD_conv, rD_pure, rD_e, rD_g, rDG_t, rDG_f, rDG_undef, chkH_nil, chkH_cons, chkP_nil, chkP_cons, aRead_load, aRead_conv, isE_store, isE_call, isE_append, rDS_l, rDS_c, pl_move, pl_assign, pl_pick, pl_alloc, pl_box, pl_build, pl_buildSlice, pl_nilCheck, pl_binOp, pl_unOp, pl_makeFunc, pl_makeSlice, pl_slice, pl_fieldAddr, pl_field, pl_indexAddr, pl_index, pl_extract, pl_len, pl_cap, pl_max, pl_min, List.mem_cons, Prod.mk.injEq, List.not_mem_nil, or_false, or_true, false_or, true_or, and_false, false_and, false_implies, implies_true, true_implies, oM_ite, List.getElem?_toArray, List.getElem?_cons_zero, List.getElem?_cons_succ, List.getElem?_nil, Option.getD_some, Option.getD_none, Nat.reduceEqDiff, reduceIte, Nat.reduceAdd, List.map_toArray, List.map_cons, List.map_nil, Bool.false_eq_true, Nat.reduceBEq, Option.map_some, Option.map_none, reduceCtorEq, ln34, ec]
  unfold varsOk
  rw [List.length_map, e2]
  refine two_intro (fun h => ?_) (fun h => ?_)
  · exact ⟨by rw [h]; rfl, _, rfl⟩
  · exact ⟨by rw [h]; rfl, [], by simp⟩

theorem specVarsOk_ok {H : AH} {v : Value} {xs : List VR3} (hv : SRow H v 3 (xs.map vcells)) (hl : xs.length < 4611686018427387904) (hx : ∀ x ∈ xs, OkV H x) :
    CallsA Try.prog 24 #[v] H fun r H' => r = .bool (varsOk (xs.map (vval H))) ∧ ∃ K, H' = H ++ K := by
  obtain ⟨a, c, rfl, gv⟩ := hv.op
  simp only [List.length_map] at gv ⊢
  have e2 : (xs.map (vval H)).any (fun x => varBad x.1 x.2.1 x.2.2) = xs.any fun x => varBad x.1 (rowI H x.2.1) (rowI H x.2.2) := by
    rw [List.any_map]; rfl
  refine w24 ?_
  unfold k24
  simp -implicitDefEqProofs only [rE_seq_n, rE_seq_r, rE_seq_e, rE_blk_n, rE_blk_r, rE_blk_e, rW_skip, rW_ret, rW_exit, rW_ops, rW_seq, rW_block, ↓two_true, ↓two_false, rC_bool, rW_cond, rO_nil, rO_cons, oG_t, oG_f, oG_undef, rO_guard, oV_some, rOV_eq, oP_move, oP_assign, oP_bin, oP_un, oP_index, oP_fieldAddr, oP_field, oP_indexAddr, oP_slice, oP_load, oP_convert, aPick_true, aPick_false, aPick_bool, oP_pick, aExtract_tup, oP_extract, oP_nilCheck, oP_build, oP_len, oP_cap, oP_max, oP_min, oP_makeFunc, oS_some, oP_store, oA_some, oP_append, oM_some, oP_alloc, oP_box, oP_buildSlice, oP_mkS, oP_call, oP_callv, oF_func, aev_tmp, aev_const, aev_func, aput_get, aput_none, bin_add, bin_sub, bin_mul, bin_eql, bin_neq, bin_lss, bin_leq, bin_gtr, bin_geq, un_not, un_neg, tm0_get, fin_ret, fin_end, oR_some, resL_nil, resL_tmp, resL_cell, tup_one, tup_two, tup_nil, cond_true, cond_false, load_eq, Option.bind_some, gt0, gti, mkv, List.length_append, List.length_cons, List.length_nil, List.append_assoc, List.cons_append, List.nil_append, rd0, rdi, wrt0, wrti, rdB_own, rdB_ro, wrB_own, oL_some, aggAt, sto_some, st0, sti, List.set_cons_zero, List.set_cons_succ, splice_nil, splice_cons, cells_agg, cells_int, cells_bool, cells_string, cells_pointer, cells_slice, leaf_int, leaf_bool, leaf_string, leaf_pointer, leaf_slice, List.size_toArray, List.all_cons, List.all_nil, Bool.and_self, Bool.and_true, and_self, true_and, and_true, Nat.zero_add, Nat.add_zero, Nat.reduceLeDiff, Nat.le_refl, List.drop_zero, List.drop_succ_cons, List.take_succ_cons, List.take_zero, Nat.reduceSub, lp_end, lp_ret, lp_exit, oV_ite, oS_ite, oA_ite, slc_some, sls_some, optInt_none, optInt_some, rW_draw, rD_nil, rDV_eq, rDR_eq, rDE_eq, rDS_n, rDS_e, rD_load, rD_conv, rD_pure, rD_e, rD_g, rDG_t, rDG_f, rDG_undef, chkH_nil, chkH_cons, chkP_nil, chkP_cons, aRead_load, aRead_conv, isE_store, isE_call, isE_append, rDS_l, rDS_c, pl_move, pl_assign, pl_pick, pl_alloc, pl_box, pl_build, pl_buildSlice, pl_nilCheck, pl_binOp, pl_unOp, pl_makeFunc, pl_makeSlice, pl_slice, pl_fieldAddr, pl_field, pl_indexAddr, pl_index, pl_extract, pl_len, pl_cap, pl_max, pl_min, List.mem_cons, Prod.mk.injEq, List.not_mem_nil, or_false, or_true, false_or, true_or, and_false, false_and, false_implies, implies_true, true_implies, oM_ite, List.getElem?_toArray, List.getElem?_cons_zero, List.getElem?_cons_succ, List.getElem?_nil, Option.getD_some, Option.getD_none, Nat.reduceEqDiff, reduceIte, Nat.reduceAdd, List.map_toArray, List.map_cons, List.map_nil, Bool.false_eq_true, Nat.reduceBEq, Option.map_some, Option.map_none, reduceCtorEq, al67, fa55_0, fa55_1, fa67_0, fa67_1, ix34, ld4, ld51, ld55, ld67, ln34, ln51, st67]
  unfold varsOk
  rw [List.length_map, e2]
  refine two_intro (fun h => ?_) (fun h => ?_)
  · have : ((xs.length : Int) == 26) = false := by rw [beq_eq_false_iff_ne]; intro e; simp [e] at h
    exact ⟨by rw [this]; rfl, [], by simp⟩
  · have hn : xs.length = 26 := by simp at h; omega
    have h26 : ((xs.length : Int) == 26) = true := by rw [beq_iff_eq]; omega
    refine rW_loop (σ := Nat) (fun i tm H' => tm 0 = .slice a xs.length c ∧ tm 3 = .int .i64 i ∧ (∃ K, H' = H ++ K) ∧ i ≤ xs.length ∧ ∀ x ∈ xs.take i, varBad x.1 (rowI H x.2.1) (rowI H x.2.2) = false) (fun i => xs.length - i) 0 ?_ ?_
    · simp -implicitDefEqProofs [rE_seq_n, rE_seq_r, rE_seq_e, rE_blk_n, rE_blk_r, rE_blk_e, rW_skip, rW_ret, rW_exit, rW_ops, rW_seq, rW_block, ↓two_true, ↓two_false, rC_bool, rW_cond, rO_nil, rO_cons, oG_t, oG_f, oG_undef, rO_guard, oV_some, rOV_eq, oP_move, oP_assign, oP_bin, oP_un, oP_index, oP_fieldAddr, oP_field, oP_indexAddr, oP_slice, oP_load, oP_convert, aPick_true, aPick_false, aPick_bool, oP_pick, aExtract_tup, oP_extract, oP_nilCheck, oP_build, oP_len, oP_cap, oP_max, oP_min, oP_makeFunc, oS_some, oP_store, oA_some, oP_append, oM_some, oP_alloc, oP_box, oP_buildSlice, oP_mkS, oP_call, oP_callv, oF_func, aev_tmp, aev_const, aev_func, aput_get, aput_none, bin_add, bin_sub, bin_mul, bin_eql, bin_neq, bin_lss, bin_leq, bin_gtr, bin_geq, un_not, un_neg, tm0_get, fin_ret, fin_end, oR_some, resL_nil, resL_tmp, resL_cell, tup_one, tup_two, tup_nil, cond_true, cond_false, load_eq, Option.bind_some, gt0, gti, mkv, List.length_append, List.length_cons, List.length_nil, List.append_assoc, List.cons_append, List.nil_append, rd0, rdi, wrt0, wrti, rdB_own, rdB_ro, wrB_own, oL_some, aggAt, sto_some, st0, sti, List.set_cons_zero, List.set_cons_succ, splice_nil, splice_cons, cells_agg, cells_int, cells_bool, cells_string, cells_pointer, cells_slice, leaf_int, leaf_bool, leaf_string, leaf_pointer, leaf_slice, List.size_toArray, List.all_cons, List.all_nil, Bool.and_self, Bool.and_true, and_self, true_and, and_true, Nat.zero_add, Nat.add_zero, Nat.reduceLeDiff, Nat.le_refl, List.drop_zero, List.drop_succ_cons, List.take_succ_cons, List.take_zero, Nat.reduceSub, lp_end, lp_ret, lp_exit, oV_ite, oS_ite, oA_ite, slc_some, sls_some, optInt_none, optInt_some, rW_draw, rD_nil, rDV_eq, rDR_eq, rDE_eq, rDS_n, rDS_e, rD_load, rD_conv, rD_pure, rD_e, rD_g, rDG_t, rDG_f, rDG_undef, chkH_nil, chkH_cons, chkP_nil, chkP_cons, aRead_load, aRead_conv, isE_store, isE_call, isE_append, rDS_l, rDS_c, pl_move, pl_assign, pl_pick, pl_alloc, pl_box, pl_build, pl_buildSlice, pl_nilCheck, pl_binOp, pl_unOp, pl_makeFunc, pl_makeSlice, pl_slice, pl_fieldAddr, pl_field, pl_indexAddr, pl_index, pl_extract, pl_len, pl_cap, pl_max, pl_min, List.mem_cons, Prod.mk.injEq, List.not_mem_nil, or_false, or_true, false_or, true_or, and_false, false_and, false_implies, implies_true, true_implies, oM_ite, List.getElem?_toArray, List.getElem?_cons_zero, List.getElem?_cons_succ, List.getElem?_nil, Option.getD_some, Option.getD_none, Nat.reduceEqDiff, reduceIte, Nat.reduceAdd, List.map_toArray, List.map_cons, List.map_nil, Bool.false_eq_true, Nat.reduceBEq, Option.map_some, Option.map_none, reduceCtorEq, al67, fa55_0, fa55_1, fa67_0, fa67_1, ix34, ld4, ld51, ld55, ld67, ln34, ln51, st67]
    · rintro i tm H' ⟨h0, h3, ⟨K, rfl⟩, hi, hg⟩
      simp -implicitDefEqProofs only [rE_seq_n, rE_seq_r, rE_seq_e, rE_blk_n, rE_blk_r, rE_blk_e, rW_skip, rW_ret, rW_exit, rW_ops, rW_seq, rW_block, ↓two_true, ↓two_false, rC_bool, rW_cond, rO_nil, rO_cons, oG_t, oG_f, oG_undef, rO_guard, oV_some, rOV_eq, oP_move, oP_assign, oP_bin, oP_un, oP_index, oP_fieldAddr, oP_field, oP_indexAddr, oP_slice, oP_load, oP_convert, aPick_true, aPick_false, aPick_bool, oP_pick, aExtract_tup, oP_extract, oP_nilCheck, oP_build, oP_len, oP_cap, oP_max, oP_min, oP_makeFunc, oS_some, oP_store, oA_some, oP_append, oM_some, oP_alloc, oP_box, oP_buildSlice, oP_mkS, oP_call, oP_callv, oF_func, aev_tmp, aev_const, aev_func, aput_get, aput_none, bin_add, bin_sub, bin_mul, bin_eql, bin_neq, bin_lss, bin_leq, bin_gtr, bin_geq, un_not, un_neg, tm0_get, fin_ret, fin_end, oR_some, resL_nil, resL_tmp, resL_cell, tup_one, tup_two, tup_nil, cond_true, cond_false, load_eq, Option.bind_some, gt0, gti, mkv, List.length_append, List.length_cons, List.length_nil, List.append_assoc, List.cons_append, List.nil_append, rd0, rdi, wrt0, wrti, rdB_own, rdB_ro, wrB_own, oL_some, aggAt, sto_some, st0, sti, List.set_cons_zero, List.set_cons_succ, splice_nil, splice_cons, cells_agg, cells_int, cells_bool, cells_string, cells_pointer, cells_slice, leaf_int, leaf_bool, leaf_string, leaf_pointer, leaf_slice, List.size_toArray, List.all_cons, List.all_nil, Bool.and_self, Bool.and_true, and_self, true_and, and_true, Nat.zero_add, Nat.add_zero, Nat.reduceLeDiff, Nat.le_refl, List.drop_zero, List.drop_succ_cons, List.take_succ_cons, List.take_zero, Nat.reduceSub, lp_end, lp_ret, lp_exit, oV_ite, oS_ite, oA_ite, slc_some, sls_some, optInt_none, optInt_some, rW_draw, rD_nil, rDV_eq, rDR_eq, rDE_eq, rDS_n, rDS_e, rD_load, rD_conv, rD_pure, rD_e, rD_g, rDG_t, rDG_f, rDG_undef, chkH_nil, chkH_cons, chkP_nil, chkP_cons, aRead_load, aRead_conv, isE_store, isE_call, isE_append, rDS_l, rDS_c, pl_move, pl_assign, pl_pick, pl_alloc, pl_box, pl_build, pl_buildSlice, pl_nilCheck, pl_binOp, pl_unOp, pl_makeFunc, pl_makeSlice, pl_slice, pl_fieldAddr, pl_field, pl_indexAddr, pl_index, pl_extract, pl_len, pl_cap, pl_max, pl_min, List.mem_cons, Prod.mk.injEq, List.not_mem_nil, or_false, or_true, false_or, true_or, and_false, false_and, false_implies, implies_true, true_implies, oM_ite, List.getElem?_toArray, List.getElem?_cons_zero, List.getElem?_cons_succ, List.getElem?_nil, Option.getD_some, Option.getD_none, Nat.reduceEqDiff, reduceIte, Nat.reduceAdd, List.map_toArray, List.map_cons, List.map_nil, Bool.false_eq_true, Nat.reduceBEq, Option.map_some, Option.map_none, reduceCtorEq, al67, fa55_0, fa55_1, fa67_0, fa67_1, ix34, ld4, ld51, ld55, ld67, ln34, ln51, st67, h0, h3]
      refine two_intro (fun hc => ?_) (fun hc => ?_)
      · have hc' : i < xs.length := by simp at hc; omega
        obtain ⟨b, o, cs, rfl, rfl, hrd, hle, hcell⟩ := gv (by omega)
        have hx1 : (xs.map vcells)[i]? = some (vcells xs[i]) := by simp [hc']
        have r1 := row_lt (s := 3) hc'
        have g1 : rd (H ++ K) b = some cs := by rw [rdl (by simp [hrd]), hrd]
        have l1 : ld Try.prog 67 (o + i * 3) cs = some (.agg #[.bool xs[i].1, xs[i].2.1, xs[i].2.2]) := by
          rw [ld67]; exact aggAt_row (hcell i _ hx1).1 (by omega) (hcell i _ hx1).2
        obtain ⟨o1, o2, n1, n2⟩ := hx xs[i] (List.getElem_mem hc')
        have hbad : (xs.any fun x => varBad x.1 (rowI H x.2.1) (rowI H x.2.2)) = true ∨ varBad xs[i].1 (rowI H xs[i].2.1) (rowI H xs[i].2.2) = false := by
          cases e : varBad xs[i].1 (rowI H xs[i].2.1) (rowI H xs[i].2.2) with
          | false => exact .inr rfl
          | true => exact .inl (List.any_eq_true.2 ⟨xs[i], List.getElem_mem hc', e⟩)
        have hnext : varBad xs[i].1 (rowI H xs[i].2.1) (rowI H xs[i].2.2) = false → ∀ x ∈ xs.take (i + 1), varBad x.1 (rowI H x.2.1) (rowI H x.2.2) = false := by
          intro e x hx
          rw [List.take_succ_eq_append_getElem hc'] at hx
          rcases List.mem_append.1 hx with hx | hx
          · exact hg x hx
          · rw [List.mem_singleton.1 hx]; exact e
        have i1 : IntRow H xs[i].2.1 (rowI H xs[i].2.1) := o1
        have i2 : IntRow H xs[i].2.2 (rowI H xs[i].2.2) := o2
        generalize rowI H xs[i].2.1 = l at *
        generalize rowI H xs[i].2.2 = m at *
        generalize xs[i].2.1 = p at *
        generalize xs[i].2.2 = q at *
        generalize xs[i].1 = s at *
        have ea := fun (L : AH) Φ => (specArrayOk_ok (H := H ++ (K ++ L)) (IntRow.mono i1) (IntRow.mono i2) n1 n2).eqV (Φ := Φ)
        obtain ⟨a1, c1, rfl, _⟩ := i1.op
        obtain ⟨a2, c2, rfl, _⟩ := i2.op
        simp -implicitDefEqProofs only [rE_seq_n, rE_seq_r, rE_seq_e, rE_blk_n, rE_blk_r, rE_blk_e, rW_skip, rW_ret, rW_exit, rW_ops, rW_seq, rW_block, ↓two_true, ↓two_false, rC_bool, rW_cond, rO_nil, rO_cons, oG_t, oG_f, oG_undef, rO_guard, oV_some, rOV_eq, oP_move, oP_assign, oP_bin, oP_un, oP_index, oP_fieldAddr, oP_field, oP_indexAddr, oP_slice, oP_load, oP_convert, aPick_true, aPick_false, aPick_bool, oP_pick, aExtract_tup, oP_extract, oP_nilCheck, oP_build, oP_len, oP_cap, oP_max, oP_min, oP_makeFunc, oS_some, oP_store, oA_some, oP_append, oM_some, oP_alloc, oP_box, oP_buildSlice, oP_mkS, oP_call, oP_callv, oF_func, aev_tmp, aev_const, aev_func, aput_get, aput_none, bin_add, bin_sub, bin_mul, bin_eql, bin_neq, bin_lss, bin_leq, bin_gtr, bin_geq, un_not, un_neg, tm0_get, fin_ret, fin_end, oR_some, resL_nil, resL_tmp, resL_cell, tup_one, tup_two, tup_nil, cond_true, cond_false, load_eq, Option.bind_some, gt0, gti, mkv, List.length_append, List.length_cons, List.length_nil, List.append_assoc, List.cons_append, List.nil_append, rd0, rdi, wrt0, wrti, rdB_own, rdB_ro, wrB_own, oL_some, aggAt, sto_some, st0, sti, List.set_cons_zero, List.set_cons_succ, splice_nil, splice_cons, cells_agg, cells_int, cells_bool, cells_string, cells_pointer, cells_slice, leaf_int, leaf_bool, leaf_string, leaf_pointer, leaf_slice, List.size_toArray, List.all_cons, List.all_nil, Bool.and_self, Bool.and_true, and_self, true_and, and_true, Nat.zero_add, Nat.add_zero, Nat.reduceLeDiff, Nat.le_refl, List.drop_zero, List.drop_succ_cons, List.take_succ_cons, List.take_zero, Nat.reduceSub, lp_end, lp_ret, lp_exit, oV_ite, oS_ite, oA_ite, slc_some, sls_some, optInt_none, optInt_some, rW_draw, rD_nil, rDV_eq, rDR_eq, rDE_eq, rDS_n, rDS_e, rD_load, rD_conv, rD_pure, rD_e, rD_g, rDG_t, rDG_f, rDG_undef, chkH_nil, chkH_cons, chkP_nil, chkP_cons, aRead_load, aRead_conv, isE_store, isE_call, isE_append, rDS_l, rDS_c, pl_move, pl_assign, pl_pick, pl_alloc, pl_box, pl_build, pl_buildSlice, pl_nilCheck, pl_binOp, pl_unOp, pl_makeFunc, pl_makeSlice, pl_slice, pl_fieldAddr, pl_field, pl_indexAddr, pl_index, pl_extract, pl_len, pl_cap, pl_max, pl_min, List.mem_cons, Prod.mk.injEq, List.not_mem_nil, or_false, or_true, false_or, true_or, and_false, false_and, false_implies, implies_true, true_implies, oM_ite, List.getElem?_toArray, List.getElem?_cons_zero, List.getElem?_cons_succ, List.getElem?_nil, Option.getD_some, Option.getD_none, Nat.reduceEqDiff, reduceIte, Nat.reduceAdd, List.map_toArray, List.map_cons, List.map_nil, Bool.false_eq_true, Nat.reduceBEq, Option.map_some, Option.map_none, reduceCtorEq, al67, fa55_0, fa55_1, fa67_0, fa67_1, ix34, ld4, ld51, ld55, ld67, ln34, ln51, st67, h0, h3, Int.toNat_natCast, g1, l1, ea, IntWalk.i64_in (↑i + 1) (by omega), IntWalk.i64_in (↑l.length + ↑m.length) (by omega)]
        have bad : varBad s l m = true → (Value.bool false = Value.bool ((xs.length : Int) == 26 && !xs.any fun x => varBad x.1 (rowI H x.2.1) (rowI H x.2.2))) := by
          intro e
          rcases hbad with h | h
          · rw [h, h26]; rfl
          · rw [e] at h; cases h
        refine ⟨⟨by omega, by omega⟩, two_intro (fun hs => two_intro (fun hb => ⟨bad ?_, _, rfl⟩) (fun hb => two_intro (fun h4 => ?_) (fun h4 => ⟨i + 1, by omega, by simp, ⟨_, rfl⟩, hc', hnext ?_⟩)))
          (fun hs => two_intro (fun h4 => two_intro (fun h5 => ⟨bad ?_, _, rfl⟩) (fun h5 => ⟨i + 1, by omega, by simp, ⟨_, rfl⟩, hc', hnext ?_⟩)) (fun h4 => ?_))⟩
        · subst hs
          simp only [varBad, arrOk, hb, Bool.true_and, Bool.true_or]
        · subst hs; cases h4
        · subst hs
          simp only [varBad, arrOk, hb, Bool.true_and, Bool.not_true, Bool.false_and, Bool.or_false]
        · subst hs
          simp only [varBad, h5, Bool.false_and, Bool.not_false, Bool.true_and, Bool.false_or]
        · subst hs
          simp only [varBad, h5, Bool.false_and, Bool.not_false, Bool.true_and, Bool.false_or]
        · subst hs; cases h4
      · have hc' : ¬ i < xs.length := by simp at hc; omega
        have hil : i = xs.length := by omega
        subst hil
        rw [List.take_length] at hg
        have : (xs.any fun x => varBad x.1 (rowI H x.2.1) (rowI H x.2.2)) = false := by
          rw [Bool.eq_false_iff]
          intro ha
          obtain ⟨x, hx, hp⟩ := List.any_eq_true.1 ha
          rw [hg x hx] at hp; cases hp
        exact ⟨by rw [this, h26]; rfl, K, rfl⟩

/-! ### rows of an argument -/
theorem Rp.slice {P : Program} {H : AH} {k : Nat} {t e : TypeId} {vs : List Value} (hu : P.underlying t = some (.slice e)) (h : Rp P H k t vs) :
    vs = [.slice none 0 0] ∨ ∃ b n cs, vs = [.slice (some ⟨b, 0, none⟩) n (P.cellsOf e)] ∧ H[b]? = some ⟨cs, .ro⟩ ∧ cs.length = n * P.cellsOf e ∧ n ≤ maxLen ∧ ∃ k, ∀ i, i < n → Rp P H k e ((cs.drop (i * P.cellsOf e)).take (P.cellsOf e)) := by
  cases k with
  | zero => exact h.elim
  | succ k =>
    simp only [Rp, hu] at h
    rcases h with h | ⟨b, n, cs, h1, h2, h3, h4, h5⟩
    · exact .inl h
    · exact .inr ⟨b, n, cs, h1, h2, h3, h4, k, h5⟩
theorem rd_ro {H : AH} {b : Nat} {cs : List Value} (h : H[b]? = some ⟨cs, .ro⟩) : rd H b = some cs := by simp [rd, h, rdB]
theorem Rp.ints {P : Program} {H : AH} {k : Nat} {t e : TypeId} {vs : List Value} (hu : P.underlying t = some (.slice e)) (he : P.underlying e = some (.int .i64)) (hc : P.cellsOf e = 1) (h : Rp P H k t vs) :
    ∃ v l, vs = [v] ∧ IntRow H v l ∧ l.length ≤ 9223372036854775807 ∧ ∀ x ∈ l, I64 x := by
  rcases h.slice hu with rfl | ⟨b, n, cs, rfl, h2, h3, h4, k, h5⟩
  · exact ⟨_, [], rfl, .inl ⟨rfl, rfl⟩, by simp, by simp⟩
  · rw [hc, Nat.mul_one] at h3
    have key : ∀ i (hi : i < cs.length), ∃ m, cs[i] = .int .i64 m ∧ I64 m := by
      intro i hi
      have h6 := h5 i (by omega)
      rw [hc, Nat.mul_one] at h6
      obtain ⟨m, h7, h8⟩ := h6.int he
      have h9 : ((cs.drop i).take 1)[0]? = some cs[i] := by
        rw [List.getElem?_take_of_lt (by decide), List.getElem?_drop, Nat.add_zero, List.getElem?_eq_getElem hi]
      rw [h7] at h9
      simp at h9
      exact ⟨m, h9.symm, wf_i64 h8⟩
    have hmap : cs = Go.Proofs.Ytpmhhjinapfhbaa.AM.ints (cs.map toI) := by
      refine List.ext_getElem (by simp [Go.Proofs.Ytpmhhjinapfhbaa.AM.ints]) fun i h1 h2 => ?_
      obtain ⟨m, h3, _⟩ := key i h1
      simp [Go.Proofs.Ytpmhhjinapfhbaa.AM.ints, h3, toI]
    refine ⟨_, cs.map toI, rfl, .inr ⟨b, 0, cs, by simp [h3, hc], rd_ro h2, by simp, ?_⟩, ?_, ?_⟩
    · rw [List.drop_zero, List.length_map, List.take_of_length_le (Nat.le_refl _)]
      exact hmap
    · simp only [List.length_map, h3]
      have : maxLen = 9223372036854775807 := by decide
      omega
    · intro x hx
      obtain ⟨y, hy, rfl⟩ := List.mem_map.1 hx
      obtain ⟨i, hi, rfl⟩ := List.mem_iff_getElem.1 hy
      obtain ⟨m, h6, h7⟩ := key i hi
      rw [h6]; exact h7
theorem list_of {α : Type} {Q : Nat → α → Prop} : ∀ n, (∀ i, i < n → ∃ x, Q i x) → ∃ xs : List α, xs.length = n ∧ ∀ (i : Nat) x, xs[i]? = some x → Q i x
  | 0, _ => ⟨[], rfl, by simp⟩
  | n + 1, h => by
    obtain ⟨xs, h1, h2⟩ := list_of n fun i hi => h i (by omega)
    obtain ⟨y, hy⟩ := h n (by omega)
    refine ⟨xs ++ [y], by simp [h1], fun i x hx => ?_⟩
    rcases Nat.lt_or_ge i xs.length with h3 | h3
    · rw [List.getElem?_append_left h3] at hx; exact h2 i x hx
    · rw [List.getElem?_append_right h3] at hx
      cases h4 : i - xs.length with
      | zero =>
        rw [h4] at hx; simp at hx; subst hx
        rw [show i = n by omega]; exact hy
      | succ m => rw [h4] at hx; simp at hx
theorem Rp.bool {P : Program} {H : AH} {k : Nat} {t : TypeId} {vs : List Value} (hu : P.underlying t = some .bool) (h : Rp P H k t vs) : ∃ b, vs = [.bool b] := by
  cases k with
  | zero => exact h.elim
  | succ k => simpa only [Rp, hu] using h

theorem cofInts : Try.prog.cellsOf 51 = 1 := by kernel_rfl
theorem cofArr : Try.prog.cellsOf 53 = 2 := by kernel_rfl
theorem Rp.arr {H : AH} {k : Nat} {vs : List Value} (h : Rp Try.prog H k 53 vs) : ∃ p q l m, vs = [p, q] ∧ IntRow H p l ∧ IntRow H q m ∧ l.length ≤ 9223372036854775807 ∧ m.length ≤ 9223372036854775807 ∧ (∀ x ∈ l, I64 x) ∧ ∀ x ∈ m, I64 x := by
  obtain ⟨h1, k, h2⟩ := h.struct Try.underlying53
  rw [cofArr] at h1
  obtain ⟨x, y, rfl⟩ := list2 h1
  simp only [List.forall_mem_cons, List.not_mem_nil, false_implies, implies_true, and_true, cofInts, List.drop_zero, List.drop_succ_cons, List.take_succ_cons, List.take_zero] at h2
  obtain ⟨ha, hb⟩ := h2
  obtain ⟨p, l, e1, i1, n1, w1⟩ := ha.ints Try.underlying51 Try.underlying3 cof3
  obtain ⟨q, m, e2, i2, n2, w2⟩ := hb.ints Try.underlying51 Try.underlying3 cof3
  simp only [List.cons.injEq, and_true] at e1 e2
  subst e1; subst e2
  exact ⟨_, _, l, m, rfl, i1, i2, n1, n2, w1, w2⟩

theorem cofVar : Try.prog.cellsOf 71 = 3 := by kernel_rfl
theorem cofBool : Try.prog.cellsOf 4 = 1 := by kernel_rfl
theorem Rp.var {H : AH} {k : Nat} {vs : List Value} (h : Rp Try.prog H k 71 vs) : ∃ x : VR3, vs = vcells x ∧ InV H x := by
  obtain ⟨h1, k, h2⟩ := h.struct Try.underlying71
  rw [cofVar] at h1
  obtain ⟨x, y, z, rfl⟩ := list3 h1
  simp only [List.forall_mem_cons, List.not_mem_nil, false_implies, implies_true, and_true, cofArr, cofBool, List.drop_zero, List.drop_succ_cons, List.take_succ_cons, List.take_zero] at h2
  obtain ⟨ha, hb⟩ := h2
  obtain ⟨s, e1⟩ := ha.bool Try.underlying4
  obtain ⟨p, q, l, m, e2, i1, i2, n1, n2, _⟩ := hb.arr
  simp only [List.cons.injEq, and_true] at e1 e2
  obtain ⟨rfl, rfl⟩ := e2
  subst e1
  exact ⟨(s, _, _), rfl, i1.ok, i2.ok, by rw [i1.row]; exact n1, by rw [i2.row]; exact n2⟩
theorem rpVars {H : AH} {v : Value} (h : RpV Try.prog H 39 v) : ∃ xs : List VR3, SRow H v 3 (xs.map vcells) ∧ (∀ x ∈ xs, InV H x) ∧ xs.length ≤ 9223372036854775807 := by
  obtain ⟨k, vs, h, rfl⟩ := h
  rcases h.slice Try.underlying39 with rfl | ⟨b, n, cs, rfl, h2, h3, h4, k, h5⟩
  · exact ⟨[], .inl ⟨by simp [mkV, Try.underlying39], rfl⟩, by simp, by simp⟩
  · rw [cofVar] at h3 h5
    obtain ⟨xs, hn, hxs⟩ := list_of (Q := fun i (x : VR3) => (cs.drop (i * 3)).take 3 = vcells x ∧ InV H x) n fun i hi => (h5 i hi).var
    have hm : maxLen = 9223372036854775807 := by decide
    refine ⟨xs, .inr ⟨b, 0, cs, by simp [mkV, Try.underlying39, cofVar, hn], rd_ro h2, by simp [hn, h3], ?_⟩, ?_, by omega⟩
    · intro i x hx
      rw [List.getElem?_map] at hx
      cases hxi : xs[i]? with
      | none => rw [hxi] at hx; cases hx
      | some y =>
        rw [hxi] at hx
        simp only [Option.map_some, Option.some.injEq] at hx
        subst hx
        refine ⟨rfl, fun j z hz => ?_⟩
        have hj : j < 3 := (List.getElem?_eq_some_iff.1 hz).1
        rw [← (hxs i y hxi).1, List.getElem?_take_of_lt hj, List.getElem?_drop] at hz
        rw [Nat.zero_add]; exact hz
    · intro x hx
      obtain ⟨i, hi⟩ := List.mem_iff_getElem?.1 hx
      exact (hxs i x hi).2

theorem szV_all : ∀ (l : List (Nat × Nat)) (q : Int), ¬ szV l q < 0 → q ≤ 1048576 → ∀ x ∈ l, x.1 ≤ 1048576 ∧ x.2 ≤ 1048576
  | [], _, _, _, x, hx => by simp at hx
  | y :: r, q, h, hq, x, hx => by
    simp only [szV] at h
    split at h
    · omega
    · rename_i h2
      have h3 := szA_ge h2
      rcases List.mem_cons.1 hx with rfl | hx
      · omega
      · exact szV_all r _ h (szA_le hq).2 x hx
theorem TI.row {H H' : AH} {xs ys : List VR3} (h : TI H xs xs.length ys H') : SOwn H' (.slice (some ⟨H.length, 0, none⟩) xs.length 3) 3 (ys.map vcells) := by
  have := h.own
  rwa [Nat.sub_self, List.replicate_zero, List.append_nil] at this
theorem TI.vals {H H' : AH} {xs ys : List VR3} (h : TI H xs xs.length ys H') : ys.map (vval H') = xs.map (vval H) := by
  refine List.ext_getElem (by simp [h.yl]) fun i h1 h2 => ?_
  have hy : i < ys.length := by simpa using h1
  have hx : i < xs.length := by simpa using h2
  obtain ⟨a, b, c⟩ := h.rows i _ _ (List.getElem?_eq_getElem hx) (List.getElem?_eq_getElem hy)
  simp only [List.getElem_map, vval, a, b.rowI, c.rowI]
theorem TI.okv {H H' : AH} {xs ys : List VR3} (h : TI H xs xs.length ys H') (hx : ∀ x ∈ xs, (rowI H x.2.1).length < 4611686018427387904 ∧ (rowI H x.2.2).length < 4611686018427387904) : ∀ y ∈ ys, OkV H' y := by
  intro y hy
  obtain ⟨i, hi, rfl⟩ := List.mem_iff_getElem.1 hy
  have hxl : i < xs.length := by rw [← h.yl]; exact hi
  obtain ⟨a, b, c⟩ := h.rows i _ _ (List.getElem?_eq_getElem hxl) (List.getElem?_eq_getElem hi)
  obtain ⟨d, e⟩ := hx _ (List.getElem_mem hxl)
  exact ⟨b.int.ok, c.int.ok, by rw [b.rowI]; exact d, by rw [c.rowI]; exact e⟩

theorem law7 : LawA Try.prog 7 [39] := by
  intro H vs hro h
  obtain ⟨v, vs, rfl, h1, h2⟩ := h.cons
  obtain rfl := h2.nil
  obtain ⟨xs, hv, hx, hl⟩ := rpVars h1
  have es := fun Φ => (szVarS_ok (q := 1048576) hv hx hl (by decide)).eqV (Φ := Φ)
  refine w7 ?_
  unfold k7
  simp -implicitDefEqProofs only [rE_seq_n, rE_seq_r, rE_seq_e, rE_blk_n, rE_blk_r, rE_blk_e, rW_skip, rW_ret, rW_exit, rW_ops, rW_seq, rW_block, ↓two_true, ↓two_false, rC_bool, rW_cond, rO_nil, rO_cons, oG_t, oG_f, oG_undef, rO_guard, oV_some, rOV_eq, oP_move, oP_assign, oP_bin, oP_un, oP_index, oP_fieldAddr, oP_field, oP_indexAddr, oP_slice, oP_load, oP_convert, aPick_true, aPick_false, aPick_bool, oP_pick, aExtract_tup, oP_extract, oP_nilCheck, oP_build, oP_len, oP_cap, oP_max, oP_min, oP_makeFunc, oS_some, oP_store, oA_some, oP_append, oM_some, oP_alloc, oP_box, oP_buildSlice, oP_mkS, oP_call, oP_callv, oF_func, aev_tmp, aev_const, aev_func, aput_get, aput_none, bin_add, bin_sub, bin_mul, bin_eql, bin_neq, bin_lss, bin_leq, bin_gtr, bin_geq, un_not, un_neg, tm0_get, fin_ret, fin_end, oR_some, resL_nil, resL_tmp, resL_cell, tup_one, tup_two, tup_nil, cond_true, cond_false, load_eq, Option.bind_some, gt0, gti, mkv, List.length_append, List.length_cons, List.length_nil, List.append_assoc, List.cons_append, List.nil_append, rd0, rdi, wrt0, wrti, rdB_own, rdB_ro, wrB_own, oL_some, aggAt, sto_some, st0, sti, List.set_cons_zero, List.set_cons_succ, splice_nil, splice_cons, cells_agg, cells_int, cells_bool, cells_string, cells_pointer, cells_slice, leaf_int, leaf_bool, leaf_string, leaf_pointer, leaf_slice, List.size_toArray, List.all_cons, List.all_nil, Bool.and_self, Bool.and_true, and_self, true_and, and_true, Nat.zero_add, Nat.add_zero, Nat.reduceLeDiff, Nat.le_refl, List.drop_zero, List.drop_succ_cons, List.take_succ_cons, List.take_zero, Nat.reduceSub, lp_end, lp_ret, lp_exit, oV_ite, oS_ite, oA_ite, slc_some, sls_some, optInt_none, optInt_some, rW_draw, rD_nil, rDV_eq, rDR_eq, rDE_eq, rDS_n, rDS_e, rD_load, rD_conv, rD_pure, rD_e, rD_g, rDG_t, rDG_f, rDG_undef, chkH_nil, chkH_cons, chkP_nil, chkP_cons, aRead_load, aRead_conv, isE_store, isE_call, isE_append, rDS_l, rDS_c, pl_move, pl_assign, pl_pick, pl_alloc, pl_box, pl_build, pl_buildSlice, pl_nilCheck, pl_binOp, pl_unOp, pl_makeFunc, pl_makeSlice, pl_slice, pl_fieldAddr, pl_field, pl_indexAddr, pl_index, pl_extract, pl_len, pl_cap, pl_max, pl_min, List.mem_cons, Prod.mk.injEq, List.not_mem_nil, or_false, or_true, false_or, true_or, and_false, false_and, false_implies, implies_true, true_implies, oM_ite, List.getElem?_toArray, List.getElem?_cons_zero, List.getElem?_cons_succ, List.getElem?_nil, Option.getD_some, Option.getD_none, Nat.reduceEqDiff, reduceIte, Nat.reduceAdd, List.map_toArray, List.map_cons, List.map_nil, Bool.false_eq_true, Nat.reduceBEq, Option.map_some, Option.map_none, reduceCtorEq, (bin_bool_eql ub4), (bin_bool_neq ub4), es]
  generalize jk Try.prog 23 #[v, .int .i64 1048576] H = J
  refine two_intro (fun h => trivial) (fun h => ?_)
  have hq : ¬ (if (1048576 : Int) - xs.length < 0 then -1 else szV (lensV H xs) (1048576 - xs.length)) < 0 := by simpa using h
  split at hq
  · omega
  rename_i hq2
  have hlen : xs.length ≤ 1048576 := by omega
  have hb := szV_all _ _ hq (by omega)
  have hx2 : ∀ x ∈ xs, (rowI H x.2.1).length ≤ 1048576 ∧ (rowI H x.2.2).length ≤ 1048576 := fun x hx' => hb _ (List.mem_map.2 ⟨x, hx', rfl⟩)
  have hv1 := hv.mono (L := J)
  have ok1 : ∀ x ∈ xs, OkI (H ++ J) x.2.1 ∧ OkI (H ++ J) x.2.2 ∧ (rowI (H ++ J) x.2.1).length ≤ 1048576 ∧ (rowI (H ++ J) x.2.2).length ≤ 1048576 := fun x hx' => by
    obtain ⟨a, b, _, _⟩ := hx x hx'
    obtain ⟨c, d⟩ := hx2 x hx'
    exact ⟨a.mono, b.mono, by rw [rowI_mono a]; exact c, by rw [rowI_mono b]; exact d⟩
  generalize H ++ J = H1 at *
  have stay : ∀ L : AH, SRow (H1 ++ L) v 3 (xs.map vcells) ∧ (∀ x ∈ xs, OkI (H1 ++ L) x.2.1 ∧ OkI (H1 ++ L) x.2.2 ∧ (rowI (H1 ++ L) x.2.1).length ≤ 1048576 ∧ (rowI (H1 ++ L) x.2.2).length ≤ 1048576) ∧ xs.map (vval (H1 ++ L)) = xs.map (vval H1) := by
    intro L
    refine ⟨hv1.mono, fun x hx' => ?_, List.map_congr_left fun x hx' => ?_⟩
    · obtain ⟨a, b, c, d⟩ := ok1 x hx'
      exact ⟨a.mono, b.mono, by rw [rowI_mono a]; exact c, by rw [rowI_mono b]; exact d⟩
    · obtain ⟨a, b, c, d⟩ := ok1 x hx'
      simp only [vval, rowI_mono a, rowI_mono b]
  refine (toVarS_ok hv1 ok1 hlen).mono ?_
  rintro _ H2 ⟨ys, rfl, ht⟩
  have okv := ht.okv fun x hx' => ⟨by have := (ok1 x hx').2.2.1; omega, by have := (ok1 x hx').2.2.2; omega⟩
  have e1 := fun Φ => (specVarsOk_ok ht.row.row (by rw [ht.yl]; omega) okv).eqV (Φ := Φ)
  rw [ht.vals] at e1
  obtain ⟨K2, rfl⟩ := ht.ext
  simp -implicitDefEqProofs only [rE_seq_n, rE_seq_r, rE_seq_e, rE_blk_n, rE_blk_r, rE_blk_e, rW_skip, rW_ret, rW_exit, rW_ops, rW_seq, rW_block, ↓two_true, ↓two_false, rC_bool, rW_cond, rO_nil, rO_cons, oG_t, oG_f, oG_undef, rO_guard, oV_some, rOV_eq, oP_move, oP_assign, oP_bin, oP_un, oP_index, oP_fieldAddr, oP_field, oP_indexAddr, oP_slice, oP_load, oP_convert, aPick_true, aPick_false, aPick_bool, oP_pick, aExtract_tup, oP_extract, oP_nilCheck, oP_build, oP_len, oP_cap, oP_max, oP_min, oP_makeFunc, oS_some, oP_store, oA_some, oP_append, oM_some, oP_alloc, oP_box, oP_buildSlice, oP_mkS, oP_call, oP_callv, oF_func, aev_tmp, aev_const, aev_func, aput_get, aput_none, bin_add, bin_sub, bin_mul, bin_eql, bin_neq, bin_lss, bin_leq, bin_gtr, bin_geq, un_not, un_neg, tm0_get, fin_ret, fin_end, oR_some, resL_nil, resL_tmp, resL_cell, tup_one, tup_two, tup_nil, cond_true, cond_false, load_eq, Option.bind_some, gt0, gti, mkv, List.length_append, List.length_cons, List.length_nil, List.append_assoc, List.cons_append, List.nil_append, rd0, rdi, wrt0, wrti, rdB_own, rdB_ro, wrB_own, oL_some, aggAt, sto_some, st0, sti, List.set_cons_zero, List.set_cons_succ, splice_nil, splice_cons, cells_agg, cells_int, cells_bool, cells_string, cells_pointer, cells_slice, leaf_int, leaf_bool, leaf_string, leaf_pointer, leaf_slice, List.size_toArray, List.all_cons, List.all_nil, Bool.and_self, Bool.and_true, and_self, true_and, and_true, Nat.zero_add, Nat.add_zero, Nat.reduceLeDiff, Nat.le_refl, List.drop_zero, List.drop_succ_cons, List.take_succ_cons, List.take_zero, Nat.reduceSub, lp_end, lp_ret, lp_exit, oV_ite, oS_ite, oA_ite, slc_some, sls_some, optInt_none, optInt_some, rW_draw, rD_nil, rDV_eq, rDR_eq, rDE_eq, rDS_n, rDS_e, rD_load, rD_conv, rD_pure, rD_e, rD_g, rDG_t, rDG_f, rDG_undef, chkH_nil, chkH_cons, chkP_nil, chkP_cons, aRead_load, aRead_conv, isE_store, isE_call, isE_append, rDS_l, rDS_c, pl_move, pl_assign, pl_pick, pl_alloc, pl_box, pl_build, pl_buildSlice, pl_nilCheck, pl_binOp, pl_unOp, pl_makeFunc, pl_makeSlice, pl_slice, pl_fieldAddr, pl_field, pl_indexAddr, pl_index, pl_extract, pl_len, pl_cap, pl_max, pl_min, List.mem_cons, Prod.mk.injEq, List.not_mem_nil, or_false, or_true, false_or, true_or, and_false, false_and, false_implies, implies_true, true_implies, oM_ite, List.getElem?_toArray, List.getElem?_cons_zero, List.getElem?_cons_succ, List.getElem?_nil, Option.getD_some, Option.getD_none, Nat.reduceEqDiff, reduceIte, Nat.reduceAdd, List.map_toArray, List.map_cons, List.map_nil, Bool.false_eq_true, Nat.reduceBEq, Option.map_some, Option.map_none, reduceCtorEq, (bin_bool_eql ub4), (bin_bool_neq ub4), e1]
  generalize K2 ++ jk Try.prog 24 #[.slice (some ⟨H1.length, 0, none⟩) xs.length 3] (H1 ++ K2) = L2
  obtain ⟨sv, so, sw⟩ := stay L2
  refine (toVarS_ok sv so hlen).mono ?_
  rintro _ H3 ⟨zs, rfl, hu⟩
  have okz := hu.okv fun x hx' => ⟨by have := (so x hx').2.2.1; omega, by have := (so x hx').2.2.2; omega⟩
  have hzl := hu.yl
  have hzr := hu.row.row
  have hzv := hu.vals
  rw [sw] at hzv
  generalize (Value.slice (some ⟨(H1 ++ L2).length, 0, none⟩) xs.length 3) = x0 at hzr ⊢
  have e2 := fun Φ => (implVarsOk_ok hzr (by rw [hzl]; omega) okz).eqV (Φ := Φ)
  rw [hzv] at e2
  obtain ⟨K3, hK3⟩ := hu.ext
  simp -implicitDefEqProofs only [rE_seq_n, rE_seq_r, rE_seq_e, rE_blk_n, rE_blk_r, rE_blk_e, rW_skip, rW_ret, rW_exit, rW_ops, rW_seq, rW_block, ↓two_true, ↓two_false, rC_bool, rW_cond, rO_nil, rO_cons, oG_t, oG_f, oG_undef, rO_guard, oV_some, rOV_eq, oP_move, oP_assign, oP_bin, oP_un, oP_index, oP_fieldAddr, oP_field, oP_indexAddr, oP_slice, oP_load, oP_convert, aPick_true, aPick_false, aPick_bool, oP_pick, aExtract_tup, oP_extract, oP_nilCheck, oP_build, oP_len, oP_cap, oP_max, oP_min, oP_makeFunc, oS_some, oP_store, oA_some, oP_append, oM_some, oP_alloc, oP_box, oP_buildSlice, oP_mkS, oP_call, oP_callv, oF_func, aev_tmp, aev_const, aev_func, aput_get, aput_none, bin_add, bin_sub, bin_mul, bin_eql, bin_neq, bin_lss, bin_leq, bin_gtr, bin_geq, un_not, un_neg, tm0_get, fin_ret, fin_end, oR_some, resL_nil, resL_tmp, resL_cell, tup_one, tup_two, tup_nil, cond_true, cond_false, load_eq, Option.bind_some, gt0, gti, mkv, List.length_append, List.length_cons, List.length_nil, List.append_assoc, List.cons_append, List.nil_append, rd0, rdi, wrt0, wrti, rdB_own, rdB_ro, wrB_own, oL_some, aggAt, sto_some, st0, sti, List.set_cons_zero, List.set_cons_succ, splice_nil, splice_cons, cells_agg, cells_int, cells_bool, cells_string, cells_pointer, cells_slice, leaf_int, leaf_bool, leaf_string, leaf_pointer, leaf_slice, List.size_toArray, List.all_cons, List.all_nil, Bool.and_self, Bool.and_true, and_self, true_and, and_true, Nat.zero_add, Nat.add_zero, Nat.reduceLeDiff, Nat.le_refl, List.drop_zero, List.drop_succ_cons, List.take_succ_cons, List.take_zero, Nat.reduceSub, lp_end, lp_ret, lp_exit, oV_ite, oS_ite, oA_ite, slc_some, sls_some, optInt_none, optInt_some, rW_draw, rD_nil, rDV_eq, rDR_eq, rDE_eq, rDS_n, rDS_e, rD_load, rD_conv, rD_pure, rD_e, rD_g, rDG_t, rDG_f, rDG_undef, chkH_nil, chkH_cons, chkP_nil, chkP_cons, aRead_load, aRead_conv, isE_store, isE_call, isE_append, rDS_l, rDS_c, pl_move, pl_assign, pl_pick, pl_alloc, pl_box, pl_build, pl_buildSlice, pl_nilCheck, pl_binOp, pl_unOp, pl_makeFunc, pl_makeSlice, pl_slice, pl_fieldAddr, pl_field, pl_indexAddr, pl_index, pl_extract, pl_len, pl_cap, pl_max, pl_min, List.mem_cons, Prod.mk.injEq, List.not_mem_nil, or_false, or_true, false_or, true_or, and_false, false_and, false_implies, implies_true, true_implies, oM_ite, List.getElem?_toArray, List.getElem?_cons_zero, List.getElem?_cons_succ, List.getElem?_nil, Option.getD_some, Option.getD_none, Nat.reduceEqDiff, reduceIte, Nat.reduceAdd, List.map_toArray, List.map_cons, List.map_nil, Bool.false_eq_true, Nat.reduceBEq, Option.map_some, Option.map_none, reduceCtorEq, (bin_bool_eql ub4), (bin_bool_neq ub4), e2, bne_self_eq_false]
  generalize jk Try.prog 26 #[x0] H3 = J3
  have hH3 : H3 ++ J3 = H1 ++ (L2 ++ (K3 ++ J3)) := by rw [hK3]; simp
  have hzr3 := hzr.mono (L := J3)
  have okz3 : ∀ z ∈ zs, OkV (H3 ++ J3) z := fun z hz => (okz z hz).mono
  have hzv3 : zs.map (vval (H3 ++ J3)) = xs.map (vval H1) := by
    rw [← hzv]
    exact List.map_congr_left fun z hz => vval_mono (okz z hz)
  rw [hH3] at hzr3 okz3 hzv3 ⊢
  generalize L2 ++ (K3 ++ J3) = L3 at *
  obtain ⟨sv3, so3, sw3⟩ := stay L3
  refine (toVarS_ok sv3 so3 hlen).mono ?_
  rintro _ H4 ⟨us, rfl, hw⟩
  have oku := hw.okv fun x hx' => ⟨by have := (so3 x hx').2.2.1; omega, by have := (so3 x hx').2.2.2; omega⟩
  have hwr := hw.row.row
  have hwv := hw.vals
  rw [sw3] at hwv
  generalize (Value.slice (some ⟨(H1 ++ L3).length, 0, none⟩) xs.length 3) = x1 at hwr ⊢
  obtain ⟨K4, hK4⟩ := hw.ext
  have hzr4 : SRow H4 x0 3 (zs.map vcells) := by rw [hK4]; exact hzr3.mono
  have okz4 : ∀ z ∈ zs, OkV H4 z := by rw [hK4]; exact fun z hz => (okz3 z hz).mono
  have hzv4 : zs.map (vval H4) = xs.map (vval H1) := by
    rw [← hzv3, hK4]
    exact List.map_congr_left fun z hz => vval_mono (okz3 z hz)
  have e4 := fun Φ => (eqVarS_ok hzr4 hwr okz4 oku (by rw [hzl]; omega)).eqV (Φ := Φ)
  rw [hzv4, hwv] at e4
  simp -implicitDefEqProofs only [rE_seq_n, rE_seq_r, rE_seq_e, rE_blk_n, rE_blk_r, rE_blk_e, rW_skip, rW_ret, rW_exit, rW_ops, rW_seq, rW_block, ↓two_true, ↓two_false, rC_bool, rW_cond, rO_nil, rO_cons, oG_t, oG_f, oG_undef, rO_guard, oV_some, rOV_eq, oP_move, oP_assign, oP_bin, oP_un, oP_index, oP_fieldAddr, oP_field, oP_indexAddr, oP_slice, oP_load, oP_convert, aPick_true, aPick_false, aPick_bool, oP_pick, aExtract_tup, oP_extract, oP_nilCheck, oP_build, oP_len, oP_cap, oP_max, oP_min, oP_makeFunc, oS_some, oP_store, oA_some, oP_append, oM_some, oP_alloc, oP_box, oP_buildSlice, oP_mkS, oP_call, oP_callv, oF_func, aev_tmp, aev_const, aev_func, aput_get, aput_none, bin_add, bin_sub, bin_mul, bin_eql, bin_neq, bin_lss, bin_leq, bin_gtr, bin_geq, un_not, un_neg, tm0_get, fin_ret, fin_end, oR_some, resL_nil, resL_tmp, resL_cell, tup_one, tup_two, tup_nil, cond_true, cond_false, load_eq, Option.bind_some, gt0, gti, mkv, List.length_append, List.length_cons, List.length_nil, List.append_assoc, List.cons_append, List.nil_append, rd0, rdi, wrt0, wrti, rdB_own, rdB_ro, wrB_own, oL_some, aggAt, sto_some, st0, sti, List.set_cons_zero, List.set_cons_succ, splice_nil, splice_cons, cells_agg, cells_int, cells_bool, cells_string, cells_pointer, cells_slice, leaf_int, leaf_bool, leaf_string, leaf_pointer, leaf_slice, List.size_toArray, List.all_cons, List.all_nil, Bool.and_self, Bool.and_true, and_self, true_and, and_true, Nat.zero_add, Nat.add_zero, Nat.reduceLeDiff, Nat.le_refl, List.drop_zero, List.drop_succ_cons, List.take_succ_cons, List.take_zero, Nat.reduceSub, lp_end, lp_ret, lp_exit, oV_ite, oS_ite, oA_ite, slc_some, sls_some, optInt_none, optInt_some, rW_draw, rD_nil, rDV_eq, rDR_eq, rDE_eq, rDS_n, rDS_e, rD_load, rD_conv, rD_pure, rD_e, rD_g, rDG_t, rDG_f, rDG_undef, chkH_nil, chkH_cons, chkP_nil, chkP_cons, aRead_load, aRead_conv, isE_store, isE_call, isE_append, rDS_l, rDS_c, pl_move, pl_assign, pl_pick, pl_alloc, pl_box, pl_build, pl_buildSlice, pl_nilCheck, pl_binOp, pl_unOp, pl_makeFunc, pl_makeSlice, pl_slice, pl_fieldAddr, pl_field, pl_indexAddr, pl_index, pl_extract, pl_len, pl_cap, pl_max, pl_min, List.mem_cons, Prod.mk.injEq, List.not_mem_nil, or_false, or_true, false_or, true_or, and_false, false_and, false_implies, implies_true, true_implies, oM_ite, List.getElem?_toArray, List.getElem?_cons_zero, List.getElem?_cons_succ, List.getElem?_nil, Option.getD_some, Option.getD_none, Nat.reduceEqDiff, reduceIte, Nat.reduceAdd, List.map_toArray, List.map_cons, List.map_nil, Bool.false_eq_true, Nat.reduceBEq, Option.map_some, Option.map_none, reduceCtorEq, (bin_bool_eql ub4), (bin_bool_neq ub4), e4, beq_self_eq_true, Bool.not_true]

theorem cofFun : Try.prog.cellsOf 23 = 3 := by kernel_rfl
theorem rpFun {H : AH} {v : Value} (h : RpV Try.prog H 23 v) : ∃ a b c, v = .agg #[.int .i64 a, .int .i64 b, .int .i64 c] ∧ I64 a ∧ I64 b ∧ I64 c := by
  obtain ⟨k, vs, h, rfl⟩ := h
  obtain ⟨h1, k, h2⟩ := h.struct Try.underlying23
  rw [cofFun] at h1
  obtain ⟨x, y, z, rfl⟩ := list3 h1
  simp only [List.forall_mem_cons, List.not_mem_nil, false_implies, implies_true, and_true, cof3, List.drop_zero, List.drop_succ_cons, List.take_succ_cons, List.take_zero] at h2
  obtain ⟨ha, hb, hc⟩ := h2
  obtain ⟨a, ha, wa⟩ := ha.int Try.underlying3
  obtain ⟨b, hb, wb⟩ := hb.int Try.underlying3
  obtain ⟨c, hc, wc⟩ := hc.int Try.underlying3
  simp only [List.cons.injEq, and_true] at ha hb hc
  subst ha; subst hb; subst hc
  exact ⟨a, b, c, by simp [mkV, Try.underlying23], wf_i64 wa, wf_i64 wb, wf_i64 wc⟩

/-- The signs of tokens. -/
def tkSigns : ByteArray := ⟨#[43, 45, 42, 37, 124, 38, 94, 61, 60, 62, 126, 105, 35, 44, 116, 100, 114, 122, 64, 63, 103, 36, 101, 47, 92, 46, 111]⟩
def tokOk (k v : Int) : Bool := (k == 1 && numOk v) || (k == 2 && inB v 0 25) || (k == 3 && hasS tkSigns v) || ((k == 4 || k == 5 || k == 6) && v == 0)

theorem cofToken : Try.prog.cellsOf 29 = 2 := by kernel_rfl
theorem rpToken {H : AH} {v : Value} (h : RpV Try.prog H 29 v) : ∃ a b, v = .agg #[.int .i64 a, .int .i64 b] ∧ I64 a ∧ I64 b := by
  obtain ⟨k, vs, h, rfl⟩ := h
  obtain ⟨h1, k, h2⟩ := h.struct Try.underlying29
  rw [cofToken] at h1
  obtain ⟨x, y, rfl⟩ := list2 h1
  simp only [List.forall_mem_cons, List.not_mem_nil, false_implies, implies_true, and_true, cof3, List.drop_zero, List.drop_succ_cons, List.take_succ_cons, List.take_zero] at h2
  obtain ⟨ha, hb⟩ := h2
  obtain ⟨a, ha, wa⟩ := ha.int Try.underlying3
  obtain ⟨b, hb, wb⟩ := hb.int Try.underlying3
  simp only [List.cons.injEq, and_true] at ha hb
  subst ha; subst hb
  exact ⟨a, b, by simp [mkV, Try.underlying29], wf_i64 wa, wf_i64 wb⟩

end Go.Proofs.Ytpmhhjinapfhbaa.AM
