/- What the functions answer, part 2. -/
import Derived.Test.YtgekbancaeabgaaP1
set_option linter.unusedVariables false
set_option linter.unusedSimpArgs false
set_option maxRecDepth 100000
/- What the functions answer, part 2. -/
namespace Go.Proofs.Ytgekbancaeabgaa.AM
open Go Go.Proofs.Ytgekbancaeabgaa Go.Proofs
theorem heldVarS_fl {H : AH} {v : Value} {n : Nat} {xs : List Value} {k : Int} (hv : FRow H v kVar n xs) (hl : n ≤ 1073741824) (hk : 0 ≤ k ∧ k + cntF (cvs H xs) < 4611686018427387904) :
    CallsA Try.prog 81 #[v, .int .i64 k] H fun r H' => r = .int .i64 (heldF (cvs H xs) k) ∧ H' = H := by
  obtain ⟨a, c, rfl, gv⟩ := hv.opn 3 rfl
  have lx : xs.length = n * 3 := hv.len
  refine w81 ?_
  unfold k81
  simp -implicitDefEqProofs only [rE_seq_n, rE_seq_r, rE_seq_e, rE_blk_n, rE_blk_r, rE_blk_e, rW_skip, rW_ret, rW_exit, rW_ops, rW_seq, rW_block, ↓two_true, ↓two_false, rC_bool, rW_cond, rO_nil, rO_cons, oG_t, oG_f, oG_undef, rO_guard, oV_some, rOV_eq, oP_move, oP_assign, oP_bin, oP_un, oP_index, oP_fieldAddr, oP_field, oP_indexAddr, oP_slice, oP_load, oP_convert, aPick_true, aPick_false, aPick_bool, oP_pick, aExtract_tup, oP_extract, oP_nilCheck, oP_build, oP_len, oP_cap, oP_max, oP_min, oP_makeFunc, oS_some, oP_store, oA_some, oP_append, oM_some, oP_alloc, oP_box, oP_buildSlice, oP_mkS, oP_call, oP_callv, oF_func, aev_tmp, aev_const, aev_func, aput_get, aput_none, bin_add, bin_sub, bin_mul, bin_eql, bin_neq, bin_lss, bin_leq, bin_gtr, bin_geq, un_not, un_neg, tm0_get, fin_ret, fin_end, oR_some, resL_nil, resL_tmp, resL_cell, tup_one, tup_two, tup_nil, cond_true, cond_false, load_eq, Option.bind_some, gt0, gti, mkv, List.length_append, List.length_cons, List.length_nil, List.append_assoc, List.cons_append, List.nil_append, rd0, rdi, wrt0, wrti, rdB_own, rdB_ro, wrB_own, oL_some, aggAt, sto_some, st0, sti, List.set_cons_zero, List.set_cons_succ, splice_nil, splice_cons, cells_agg, cells_int, cells_bool, cells_string, cells_pointer, cells_slice, leaf_int, leaf_bool, leaf_string, leaf_pointer, leaf_slice, List.size_toArray, List.all_cons, List.all_nil, Bool.and_self, Bool.and_true, and_self, true_and, and_true, Nat.zero_add, Nat.add_zero, Nat.reduceLeDiff, Nat.le_refl, List.drop_zero, List.drop_succ_cons, List.take_succ_cons, List.take_zero, Nat.reduceSub, lp_end, lp_ret, lp_exit, oV_ite, oS_ite, oA_ite, slc_some, sls_some, optInt_none, optInt_some, rW_draw, rD_nil, rDV_eq, rDR_eq, rDE_eq, rDS_n, rDS_e, rD_load, rD_conv, rD_pure, rD_e, rD_g, rDG_t, rDG_f, rDG_undef, chkH_nil, chkH_cons, chkP_nil, chkP_cons, aRead_load, aRead_conv, isE_store, isE_call, isE_append, rDS_l, rDS_c, pl_move, pl_assign, pl_pick, pl_alloc, pl_box, pl_build, pl_buildSlice, pl_nilCheck, pl_binOp, pl_unOp, pl_makeFunc, pl_makeSlice, pl_slice, pl_fieldAddr, pl_field, pl_indexAddr, pl_index, pl_extract, pl_len, pl_cap, pl_max, pl_min, List.mem_cons, Prod.mk.injEq, List.not_mem_nil, or_false, or_true, false_or, true_or, and_false, false_and, false_implies, implies_true, true_implies, oM_ite, fillP_nil, fillP_cons, fillQ_some, slq_some, most_max, most_min, Nat.reduceMul, List.getElem?_toArray, List.getElem?_cons_zero, List.getElem?_cons_succ, List.getElem?_nil, Option.getD_some, Option.getD_none, Nat.reduceEqDiff, reduceIte, Nat.reduceAdd, List.map_toArray, List.map_cons, List.map_nil, Bool.false_eq_true, Nat.reduceBEq, Option.map_some, Option.map_none, reduceCtorEq, fa45_0, fa45_1, fa89_0, fa89_1, ix25, ld4, ld43, ln25, (bin_bool_eql ub4), (bin_bool_neq ub4)]
  refine rW_loop (σ := Nat × Int) (fun p tm H' => tm 0 = .slice a n c ∧ tm 1 = .int .i64 p.2 ∧ tm 5 = .int .i64 p.1 ∧ H' = H ∧ p.1 ≤ n ∧ 0 ≤ p.2 ∧ p.2 + cntF ((cvs H xs).drop (p.1 * 3)) < 4611686018427387904 ∧ heldF (cvs H xs) k = heldF ((cvs H xs).drop (p.1 * 3)) p.2) (fun p => n - p.1) (0, k) ?_ ?_
  · simp -implicitDefEqProofs [rE_seq_n, rE_seq_r, rE_seq_e, rE_blk_n, rE_blk_r, rE_blk_e, rW_skip, rW_ret, rW_exit, rW_ops, rW_seq, rW_block, ↓two_true, ↓two_false, rC_bool, rW_cond, rO_nil, rO_cons, oG_t, oG_f, oG_undef, rO_guard, oV_some, rOV_eq, oP_move, oP_assign, oP_bin, oP_un, oP_index, oP_fieldAddr, oP_field, oP_indexAddr, oP_slice, oP_load, oP_convert, aPick_true, aPick_false, aPick_bool, oP_pick, aExtract_tup, oP_extract, oP_nilCheck, oP_build, oP_len, oP_cap, oP_max, oP_min, oP_makeFunc, oS_some, oP_store, oA_some, oP_append, oM_some, oP_alloc, oP_box, oP_buildSlice, oP_mkS, oP_call, oP_callv, oF_func, aev_tmp, aev_const, aev_func, aput_get, aput_none, bin_add, bin_sub, bin_mul, bin_eql, bin_neq, bin_lss, bin_leq, bin_gtr, bin_geq, un_not, un_neg, tm0_get, fin_ret, fin_end, oR_some, resL_nil, resL_tmp, resL_cell, tup_one, tup_two, tup_nil, cond_true, cond_false, load_eq, Option.bind_some, gt0, gti, mkv, List.length_append, List.length_cons, List.length_nil, List.append_assoc, List.cons_append, List.nil_append, rd0, rdi, wrt0, wrti, rdB_own, rdB_ro, wrB_own, oL_some, aggAt, sto_some, st0, sti, List.set_cons_zero, List.set_cons_succ, splice_nil, splice_cons, cells_agg, cells_int, cells_bool, cells_string, cells_pointer, cells_slice, leaf_int, leaf_bool, leaf_string, leaf_pointer, leaf_slice, List.size_toArray, List.all_cons, List.all_nil, Bool.and_self, Bool.and_true, and_self, true_and, and_true, Nat.zero_add, Nat.add_zero, Nat.reduceLeDiff, Nat.le_refl, List.drop_zero, List.drop_succ_cons, List.take_succ_cons, List.take_zero, Nat.reduceSub, lp_end, lp_ret, lp_exit, oV_ite, oS_ite, oA_ite, slc_some, sls_some, optInt_none, optInt_some, rW_draw, rD_nil, rDV_eq, rDR_eq, rDE_eq, rDS_n, rDS_e, rD_load, rD_conv, rD_pure, rD_e, rD_g, rDG_t, rDG_f, rDG_undef, chkH_nil, chkH_cons, chkP_nil, chkP_cons, aRead_load, aRead_conv, isE_store, isE_call, isE_append, rDS_l, rDS_c, pl_move, pl_assign, pl_pick, pl_alloc, pl_box, pl_build, pl_buildSlice, pl_nilCheck, pl_binOp, pl_unOp, pl_makeFunc, pl_makeSlice, pl_slice, pl_fieldAddr, pl_field, pl_indexAddr, pl_index, pl_extract, pl_len, pl_cap, pl_max, pl_min, List.mem_cons, Prod.mk.injEq, List.not_mem_nil, or_false, or_true, false_or, true_or, and_false, false_and, false_implies, implies_true, true_implies, oM_ite, fillP_nil, fillP_cons, fillQ_some, slq_some, most_max, most_min, Nat.reduceMul, List.getElem?_toArray, List.getElem?_cons_zero, List.getElem?_cons_succ, List.getElem?_nil, Option.getD_some, Option.getD_none, Nat.reduceEqDiff, reduceIte, Nat.reduceAdd, List.map_toArray, List.map_cons, List.map_nil, Bool.false_eq_true, Nat.reduceBEq, Option.map_some, Option.map_none, reduceCtorEq, fa45_0, fa45_1, fa89_0, fa89_1, ix25, ld4, ld43, ln25, (bin_bool_eql ub4), (bin_bool_neq ub4)]
    omega
  · rintro ⟨i, q⟩ tm H' ⟨h0, h1, h5, rfl, hi, hq, hqc, hh⟩
    simp only at h0 h1 h5 hi hq hqc hh
    simp -implicitDefEqProofs only [rE_seq_n, rE_seq_r, rE_seq_e, rE_blk_n, rE_blk_r, rE_blk_e, rW_skip, rW_ret, rW_exit, rW_ops, rW_seq, rW_block, ↓two_true, ↓two_false, rC_bool, rW_cond, rO_nil, rO_cons, oG_t, oG_f, oG_undef, rO_guard, oV_some, rOV_eq, oP_move, oP_assign, oP_bin, oP_un, oP_index, oP_fieldAddr, oP_field, oP_indexAddr, oP_slice, oP_load, oP_convert, aPick_true, aPick_false, aPick_bool, oP_pick, aExtract_tup, oP_extract, oP_nilCheck, oP_build, oP_len, oP_cap, oP_max, oP_min, oP_makeFunc, oS_some, oP_store, oA_some, oP_append, oM_some, oP_alloc, oP_box, oP_buildSlice, oP_mkS, oP_call, oP_callv, oF_func, aev_tmp, aev_const, aev_func, aput_get, aput_none, bin_add, bin_sub, bin_mul, bin_eql, bin_neq, bin_lss, bin_leq, bin_gtr, bin_geq, un_not, un_neg, tm0_get, fin_ret, fin_end, oR_some, resL_nil, resL_tmp, resL_cell, tup_one, tup_two, tup_nil, cond_true, cond_false, load_eq, Option.bind_some, gt0, gti, mkv, List.length_append, List.length_cons, List.length_nil, List.append_assoc, List.cons_append, List.nil_append, rd0, rdi, wrt0, wrti, rdB_own, rdB_ro, wrB_own, oL_some, aggAt, sto_some, st0, sti, List.set_cons_zero, List.set_cons_succ, splice_nil, splice_cons, cells_agg, cells_int, cells_bool, cells_string, cells_pointer, cells_slice, leaf_int, leaf_bool, leaf_string, leaf_pointer, leaf_slice, List.size_toArray, List.all_cons, List.all_nil, Bool.and_self, Bool.and_true, and_self, true_and, and_true, Nat.zero_add, Nat.add_zero, Nat.reduceLeDiff, Nat.le_refl, List.drop_zero, List.drop_succ_cons, List.take_succ_cons, List.take_zero, Nat.reduceSub, lp_end, lp_ret, lp_exit, oV_ite, oS_ite, oA_ite, slc_some, sls_some, optInt_none, optInt_some, rW_draw, rD_nil, rDV_eq, rDR_eq, rDE_eq, rDS_n, rDS_e, rD_load, rD_conv, rD_pure, rD_e, rD_g, rDG_t, rDG_f, rDG_undef, chkH_nil, chkH_cons, chkP_nil, chkP_cons, aRead_load, aRead_conv, isE_store, isE_call, isE_append, rDS_l, rDS_c, pl_move, pl_assign, pl_pick, pl_alloc, pl_box, pl_build, pl_buildSlice, pl_nilCheck, pl_binOp, pl_unOp, pl_makeFunc, pl_makeSlice, pl_slice, pl_fieldAddr, pl_field, pl_indexAddr, pl_index, pl_extract, pl_len, pl_cap, pl_max, pl_min, List.mem_cons, Prod.mk.injEq, List.not_mem_nil, or_false, or_true, false_or, true_or, and_false, false_and, false_implies, implies_true, true_implies, oM_ite, fillP_nil, fillP_cons, fillQ_some, slq_some, most_max, most_min, Nat.reduceMul, List.getElem?_toArray, List.getElem?_cons_zero, List.getElem?_cons_succ, List.getElem?_nil, Option.getD_some, Option.getD_none, Nat.reduceEqDiff, reduceIte, Nat.reduceAdd, List.map_toArray, List.map_cons, List.map_nil, Bool.false_eq_true, Nat.reduceBEq, Option.map_some, Option.map_none, reduceCtorEq, fa45_0, fa45_1, fa89_0, fa89_1, ix25, ld4, ld43, ln25, (bin_bool_eql ub4), (bin_bool_neq ub4), h0, h1, h5]
    refine two_intro (fun hc => ?_) (fun hc => ?_)
    · have hc' : i < n := by simpa using hc
      obtain ⟨b, o, cs, rfl, rfl, hrd, hle, hcell⟩ := gv (by omega)
      obtain ⟨hagg, hce⟩ := hcell i hc'
      obtain ⟨y0, _, e, ⟨z0, rfl⟩, y1, _, rfl, k1, y2, _, rfl, k2, rfl⟩ := hv.elemn 3 rfl hc'
      rw [e] at hce
      have f0 : cs[o + i * 3 + 0]? = some (.bool z0) := hce 0 _ rfl
      have f1 : cs[o + i * 3 + 1]? = some y1 := hce 1 _ rfl
      have f2 : cs[o + i * 3 + 2]? = some y2 := hce 2 _ rfl
      have hdrop : (cvs H' xs).drop (i * 3) = [.b z0, .r (rowI H' y1), .r (rowI H' y2)] ++ (cvs H' xs).drop ((i + 1) * 3) := by
        rw [cvs_drop (s := 3) hc' lx, e]
        simp only [List.map_cons, List.map_nil, cv_row k1.1, cv_row k2.1]
        try rfl
      rw [hdrop] at hqc hh
      simp only [List.cons_append, List.nil_append, cntF, List.map_cons, List.sum_cons, cnt1] at hqc
      simp only [List.cons_append, List.nil_append, heldF] at hh
      have hfold : (((cvs H' xs).drop ((i + 1) * 3)).map cnt1).sum = cntF ((cvs H' xs).drop ((i + 1) * 3)) := rfl
      rw [hfold] at hqc
      have w0 : IntKind.i64.wrap (q + 1) = q + 1 := IntWalk.i64_in _ (by omega)
      have wi : IntKind.i64.wrap ((i : Int) + 1) = i + 1 := IntWalk.i64_in _ (by omega)
      have hmod : q.tmod 3 = q % 3 := Int.tmod_eq_emod_of_nonneg hq
      have m1 := fun Φ => heldIntS_eq (k := q + 1) (Φ := Φ) k1.1 (by have := k1.2; omega) (by omega)
      have m2 := fun Φ => heldIntS_eq (k := q + 1 + (rowI H' y1).length) (Φ := Φ) k2.1 (by have := k2.2; omega) (by omega)
      have j1 : o + i * 3 + 3 ≤ cs.length := by have := row_lt (s := 3) hc'; omega
      simp only [Nat.add_assoc, Nat.reduceAdd, Nat.add_zero] at f0 f1 f2
      simp -implicitDefEqProofs only [rE_seq_n, rE_seq_r, rE_seq_e, rE_blk_n, rE_blk_r, rE_blk_e, rW_skip, rW_ret, rW_exit, rW_ops, rW_seq, rW_block, ↓two_true, ↓two_false, rC_bool, rW_cond, rO_nil, rO_cons, oG_t, oG_f, oG_undef, rO_guard, oV_some, rOV_eq, oP_move, oP_assign, oP_bin, oP_un, oP_index, oP_fieldAddr, oP_field, oP_indexAddr, oP_slice, oP_load, oP_convert, aPick_true, aPick_false, aPick_bool, oP_pick, aExtract_tup, oP_extract, oP_nilCheck, oP_build, oP_len, oP_cap, oP_max, oP_min, oP_makeFunc, oS_some, oP_store, oA_some, oP_append, oM_some, oP_alloc, oP_box, oP_buildSlice, oP_mkS, oP_call, oP_callv, oF_func, aev_tmp, aev_const, aev_func, aput_get, aput_none, bin_add, bin_sub, bin_mul, bin_eql, bin_neq, bin_lss, bin_leq, bin_gtr, bin_geq, un_not, un_neg, tm0_get, fin_ret, fin_end, oR_some, resL_nil, resL_tmp, resL_cell, tup_one, tup_two, tup_nil, cond_true, cond_false, load_eq, Option.bind_some, gt0, gti, mkv, List.length_append, List.length_cons, List.length_nil, List.append_assoc, List.cons_append, List.nil_append, rd0, rdi, wrt0, wrti, rdB_own, rdB_ro, wrB_own, oL_some, aggAt, sto_some, st0, sti, List.set_cons_zero, List.set_cons_succ, splice_nil, splice_cons, cells_agg, cells_int, cells_bool, cells_string, cells_pointer, cells_slice, leaf_int, leaf_bool, leaf_string, leaf_pointer, leaf_slice, List.size_toArray, List.all_cons, List.all_nil, Bool.and_self, Bool.and_true, and_self, true_and, and_true, Nat.zero_add, Nat.add_zero, Nat.reduceLeDiff, Nat.le_refl, List.drop_zero, List.drop_succ_cons, List.take_succ_cons, List.take_zero, Nat.reduceSub, lp_end, lp_ret, lp_exit, oV_ite, oS_ite, oA_ite, slc_some, sls_some, optInt_none, optInt_some, rW_draw, rD_nil, rDV_eq, rDR_eq, rDE_eq, rDS_n, rDS_e, rD_load, rD_conv, rD_pure, rD_e, rD_g, rDG_t, rDG_f, rDG_undef, chkH_nil, chkH_cons, chkP_nil, chkP_cons, aRead_load, aRead_conv, isE_store, isE_call, isE_append, rDS_l, rDS_c, pl_move, pl_assign, pl_pick, pl_alloc, pl_box, pl_build, pl_buildSlice, pl_nilCheck, pl_binOp, pl_unOp, pl_makeFunc, pl_makeSlice, pl_slice, pl_fieldAddr, pl_field, pl_indexAddr, pl_index, pl_extract, pl_len, pl_cap, pl_max, pl_min, List.mem_cons, Prod.mk.injEq, List.not_mem_nil, or_false, or_true, false_or, true_or, and_false, false_and, false_implies, implies_true, true_implies, oM_ite, fillP_nil, fillP_cons, fillQ_some, slq_some, most_max, most_min, Nat.reduceMul, List.getElem?_toArray, List.getElem?_cons_zero, List.getElem?_cons_succ, List.getElem?_nil, Option.getD_some, Option.getD_none, Nat.reduceEqDiff, reduceIte, Nat.reduceAdd, List.map_toArray, List.map_cons, List.map_nil, Bool.false_eq_true, Nat.reduceBEq, Option.map_some, Option.map_none, reduceCtorEq, fa45_0, fa45_1, fa89_0, fa89_1, ix25, ld4, ld43, ln25, (bin_bool_eql ub4), (bin_bool_neq ub4), h0, h1, h5, Int.toNat_natCast, Nat.add_assoc, Nat.reduceAdd, hrd, f0, f1, f2, w0, wi, m1, hmod, bin_rem (show (3 : Int) ≠ 0 by decide), ne_eq, not_false_eq_true]
      refine ⟨⟨by omega, by omega⟩, two_intro (fun h => ?_) (fun h => ?_)⟩
      · rw [hh, if_neg (by simpa using h)]
      · rw [if_pos (by simpa using h)] at hh
        refine ⟨⟨by omega, by omega⟩, two_intro (fun h => ?_) (fun h => ?_)⟩
        · rw [hh, if_pos (by simpa using h)]
        · have h2 : ¬ heldI (rowI H' y1) (q + 1) < 0 := by simpa using h
          rw [if_neg h2] at hh
          have e3 : heldI (rowI H' y1) (q + 1) = q + 1 + (rowI H' y1).length := by
            rcases heldI_le (l := rowI H' y1) (k := q + 1) with h3 | h3
            · omega
            · exact h3
          rw [e3] at hh ⊢
          simp -implicitDefEqProofs only [rE_seq_n, rE_seq_r, rE_seq_e, rE_blk_n, rE_blk_r, rE_blk_e, rW_skip, rW_ret, rW_exit, rW_ops, rW_seq, rW_block, ↓two_true, ↓two_false, rC_bool, rW_cond, rO_nil, rO_cons, oG_t, oG_f, oG_undef, rO_guard, oV_some, rOV_eq, oP_move, oP_assign, oP_bin, oP_un, oP_index, oP_fieldAddr, oP_field, oP_indexAddr, oP_slice, oP_load, oP_convert, aPick_true, aPick_false, aPick_bool, oP_pick, aExtract_tup, oP_extract, oP_nilCheck, oP_build, oP_len, oP_cap, oP_max, oP_min, oP_makeFunc, oS_some, oP_store, oA_some, oP_append, oM_some, oP_alloc, oP_box, oP_buildSlice, oP_mkS, oP_call, oP_callv, oF_func, aev_tmp, aev_const, aev_func, aput_get, aput_none, bin_add, bin_sub, bin_mul, bin_eql, bin_neq, bin_lss, bin_leq, bin_gtr, bin_geq, un_not, un_neg, tm0_get, fin_ret, fin_end, oR_some, resL_nil, resL_tmp, resL_cell, tup_one, tup_two, tup_nil, cond_true, cond_false, load_eq, Option.bind_some, gt0, gti, mkv, List.length_append, List.length_cons, List.length_nil, List.append_assoc, List.cons_append, List.nil_append, rd0, rdi, wrt0, wrti, rdB_own, rdB_ro, wrB_own, oL_some, aggAt, sto_some, st0, sti, List.set_cons_zero, List.set_cons_succ, splice_nil, splice_cons, cells_agg, cells_int, cells_bool, cells_string, cells_pointer, cells_slice, leaf_int, leaf_bool, leaf_string, leaf_pointer, leaf_slice, List.size_toArray, List.all_cons, List.all_nil, Bool.and_self, Bool.and_true, and_self, true_and, and_true, Nat.zero_add, Nat.add_zero, Nat.reduceLeDiff, Nat.le_refl, List.drop_zero, List.drop_succ_cons, List.take_succ_cons, List.take_zero, Nat.reduceSub, lp_end, lp_ret, lp_exit, oV_ite, oS_ite, oA_ite, slc_some, sls_some, optInt_none, optInt_some, rW_draw, rD_nil, rDV_eq, rDR_eq, rDE_eq, rDS_n, rDS_e, rD_load, rD_conv, rD_pure, rD_e, rD_g, rDG_t, rDG_f, rDG_undef, chkH_nil, chkH_cons, chkP_nil, chkP_cons, aRead_load, aRead_conv, isE_store, isE_call, isE_append, rDS_l, rDS_c, pl_move, pl_assign, pl_pick, pl_alloc, pl_box, pl_build, pl_buildSlice, pl_nilCheck, pl_binOp, pl_unOp, pl_makeFunc, pl_makeSlice, pl_slice, pl_fieldAddr, pl_field, pl_indexAddr, pl_index, pl_extract, pl_len, pl_cap, pl_max, pl_min, List.mem_cons, Prod.mk.injEq, List.not_mem_nil, or_false, or_true, false_or, true_or, and_false, false_and, false_implies, implies_true, true_implies, oM_ite, fillP_nil, fillP_cons, fillQ_some, slq_some, most_max, most_min, Nat.reduceMul, List.getElem?_toArray, List.getElem?_cons_zero, List.getElem?_cons_succ, List.getElem?_nil, Option.getD_some, Option.getD_none, Nat.reduceEqDiff, reduceIte, Nat.reduceAdd, List.map_toArray, List.map_cons, List.map_nil, Bool.false_eq_true, Nat.reduceBEq, Option.map_some, Option.map_none, reduceCtorEq, fa45_0, fa45_1, fa89_0, fa89_1, ix25, ld4, ld43, ln25, (bin_bool_eql ub4), (bin_bool_neq ub4), h0, h1, h5, Int.toNat_natCast, Nat.add_assoc, Nat.reduceAdd, hrd, f0, f1, f2, w0, wi, m2, hmod, bin_rem (show (3 : Int) ≠ 0 by decide), ne_eq, not_false_eq_true]
          refine ⟨⟨by omega, by omega⟩, two_intro (fun h => ?_) (fun h => ?_)⟩
          · rw [hh, if_pos (by simpa using h)]
          · have h2 : ¬ heldI (rowI H' y2) (q + 1 + (rowI H' y1).length) < 0 := by simpa using h
            rw [if_neg h2] at hh
            have e4 : heldI (rowI H' y2) (q + 1 + (rowI H' y1).length) = q + 1 + (rowI H' y1).length + (rowI H' y2).length := by
              rcases heldI_le (l := rowI H' y2) (k := q + 1 + (rowI H' y1).length) with h3 | h3
              · omega
              · exact h3
            rw [e4] at hh ⊢
            exact ⟨(i + 1, q + 1 + (rowI H' y1).length + (rowI H' y2).length), by simp only; omega, rfl, by simp, hc', by simp only; omega, by simp only; omega, hh⟩
    · have hc' : ¬ i < n := by simpa using hc
      have hil : i = n := by omega
      rw [hh, hil, List.drop_of_length_le (by simp [cvs, lx])]
      simp [heldF]

theorem markVarS_fl {H : AH} {v : Value} {n : Nat} {xs : List Value} {k : Int} (hv : OT H v kVar n xs) (hl : n ≤ 1073741824) (hk : 0 ≤ k ∧ k + cntF (cvs H xs) < 4611686018427387904) :
    CallsA Try.prog 21 #[v, .int .i64 k] H fun r H' => r = .int .i64 (k + cntF (cvs H xs)) ∧ ∃ ys, MC H v kVar n xs k (n * 3) (k + cntF (cvs H xs)) ys H' := by
  obtain ⟨a, c, rfl, _⟩ := hv.frow.opn 3 rfl
  have lx : xs.length = n * 3 := hv.len
  refine w21 ?_
  unfold k21
  simp -implicitDefEqProofs only [rE_seq_n, rE_seq_r, rE_seq_e, rE_blk_n, rE_blk_r, rE_blk_e, rW_skip, rW_ret, rW_exit, rW_ops, rW_seq, rW_block, ↓two_true, ↓two_false, rC_bool, rW_cond, rO_nil, rO_cons, oG_t, oG_f, oG_undef, rO_guard, oV_some, rOV_eq, oP_move, oP_assign, oP_bin, oP_un, oP_index, oP_fieldAddr, oP_field, oP_indexAddr, oP_slice, oP_load, oP_convert, aPick_true, aPick_false, aPick_bool, oP_pick, aExtract_tup, oP_extract, oP_nilCheck, oP_build, oP_len, oP_cap, oP_max, oP_min, oP_makeFunc, oS_some, oP_store, oA_some, oP_append, oM_some, oP_alloc, oP_box, oP_buildSlice, oP_mkS, oP_call, oP_callv, oF_func, aev_tmp, aev_const, aev_func, aput_get, aput_none, bin_add, bin_sub, bin_mul, bin_eql, bin_neq, bin_lss, bin_leq, bin_gtr, bin_geq, un_not, un_neg, tm0_get, fin_ret, fin_end, oR_some, resL_nil, resL_tmp, resL_cell, tup_one, tup_two, tup_nil, cond_true, cond_false, load_eq, Option.bind_some, gt0, gti, mkv, List.length_append, List.length_cons, List.length_nil, List.append_assoc, List.cons_append, List.nil_append, rd0, rdi, wrt0, wrti, rdB_own, rdB_ro, wrB_own, oL_some, aggAt, sto_some, st0, sti, List.set_cons_zero, List.set_cons_succ, splice_nil, splice_cons, cells_agg, cells_int, cells_bool, cells_string, cells_pointer, cells_slice, leaf_int, leaf_bool, leaf_string, leaf_pointer, leaf_slice, List.size_toArray, List.all_cons, List.all_nil, Bool.and_self, Bool.and_true, and_self, true_and, and_true, Nat.zero_add, Nat.add_zero, Nat.reduceLeDiff, Nat.le_refl, List.drop_zero, List.drop_succ_cons, List.take_succ_cons, List.take_zero, Nat.reduceSub, lp_end, lp_ret, lp_exit, oV_ite, oS_ite, oA_ite, slc_some, sls_some, optInt_none, optInt_some, rW_draw, rD_nil, rDV_eq, rDR_eq, rDE_eq, rDS_n, rDS_e, rD_load, rD_conv, rD_pure, rD_e, rD_g, rDG_t, rDG_f, rDG_undef, chkH_nil, chkH_cons, chkP_nil, chkP_cons, aRead_load, aRead_conv, isE_store, isE_call, isE_append, rDS_l, rDS_c, pl_move, pl_assign, pl_pick, pl_alloc, pl_box, pl_build, pl_buildSlice, pl_nilCheck, pl_binOp, pl_unOp, pl_makeFunc, pl_makeSlice, pl_slice, pl_fieldAddr, pl_field, pl_indexAddr, pl_index, pl_extract, pl_len, pl_cap, pl_max, pl_min, List.mem_cons, Prod.mk.injEq, List.not_mem_nil, or_false, or_true, false_or, true_or, and_false, false_and, false_implies, implies_true, true_implies, oM_ite, fillP_nil, fillP_cons, fillQ_some, slq_some, most_max, most_min, Nat.reduceMul, List.getElem?_toArray, List.getElem?_cons_zero, List.getElem?_cons_succ, List.getElem?_nil, Option.getD_some, Option.getD_none, Nat.reduceEqDiff, reduceIte, Nat.reduceAdd, List.map_toArray, List.map_cons, List.map_nil, Bool.false_eq_true, Nat.reduceBEq, Option.map_some, Option.map_none, reduceCtorEq, fa45_0, fa45_1, fa89_0, fa89_1, ix25, ld43, ln25, st4]
  refine rW_loop (σ := Nat × Int × List Value) (fun (i, q, ys) tm H' => tm 0 = .slice a n c ∧ tm 1 = .int .i64 q ∧ tm 5 = .int .i64 i ∧ i ≤ n ∧ MC H (.slice a n c) kVar n xs k (i * 3) q ys H') (fun s => n - s.1) (0, k, xs) ?_ ?_
  · simp -implicitDefEqProofs [rE_seq_n, rE_seq_r, rE_seq_e, rE_blk_n, rE_blk_r, rE_blk_e, rW_skip, rW_ret, rW_exit, rW_ops, rW_seq, rW_block, ↓two_true, ↓two_false, rC_bool, rW_cond, rO_nil, rO_cons, oG_t, oG_f, oG_undef, rO_guard, oV_some, rOV_eq, oP_move, oP_assign, oP_bin, oP_un, oP_index, oP_fieldAddr, oP_field, oP_indexAddr, oP_slice, oP_load, oP_convert, aPick_true, aPick_false, aPick_bool, oP_pick, aExtract_tup, oP_extract, oP_nilCheck, oP_build, oP_len, oP_cap, oP_max, oP_min, oP_makeFunc, oS_some, oP_store, oA_some, oP_append, oM_some, oP_alloc, oP_box, oP_buildSlice, oP_mkS, oP_call, oP_callv, oF_func, aev_tmp, aev_const, aev_func, aput_get, aput_none, bin_add, bin_sub, bin_mul, bin_eql, bin_neq, bin_lss, bin_leq, bin_gtr, bin_geq, un_not, un_neg, tm0_get, fin_ret, fin_end, oR_some, resL_nil, resL_tmp, resL_cell, tup_one, tup_two, tup_nil, cond_true, cond_false, load_eq, Option.bind_some, gt0, gti, mkv, List.length_append, List.length_cons, List.length_nil, List.append_assoc, List.cons_append, List.nil_append, rd0, rdi, wrt0, wrti, rdB_own, rdB_ro, wrB_own, oL_some, aggAt, sto_some, st0, sti, List.set_cons_zero, List.set_cons_succ, splice_nil, splice_cons, cells_agg, cells_int, cells_bool, cells_string, cells_pointer, cells_slice, leaf_int, leaf_bool, leaf_string, leaf_pointer, leaf_slice, List.size_toArray, List.all_cons, List.all_nil, Bool.and_self, Bool.and_true, and_self, true_and, and_true, Nat.zero_add, Nat.add_zero, Nat.reduceLeDiff, Nat.le_refl, List.drop_zero, List.drop_succ_cons, List.take_succ_cons, List.take_zero, Nat.reduceSub, lp_end, lp_ret, lp_exit, oV_ite, oS_ite, oA_ite, slc_some, sls_some, optInt_none, optInt_some, rW_draw, rD_nil, rDV_eq, rDR_eq, rDE_eq, rDS_n, rDS_e, rD_load, rD_conv, rD_pure, rD_e, rD_g, rDG_t, rDG_f, rDG_undef, chkH_nil, chkH_cons, chkP_nil, chkP_cons, aRead_load, aRead_conv, isE_store, isE_call, isE_append, rDS_l, rDS_c, pl_move, pl_assign, pl_pick, pl_alloc, pl_box, pl_build, pl_buildSlice, pl_nilCheck, pl_binOp, pl_unOp, pl_makeFunc, pl_makeSlice, pl_slice, pl_fieldAddr, pl_field, pl_indexAddr, pl_index, pl_extract, pl_len, pl_cap, pl_max, pl_min, List.mem_cons, Prod.mk.injEq, List.not_mem_nil, or_false, or_true, false_or, true_or, and_false, false_and, false_implies, implies_true, true_implies, oM_ite, fillP_nil, fillP_cons, fillQ_some, slq_some, most_max, most_min, Nat.reduceMul, List.getElem?_toArray, List.getElem?_cons_zero, List.getElem?_cons_succ, List.getElem?_nil, Option.getD_some, Option.getD_none, Nat.reduceEqDiff, reduceIte, Nat.reduceAdd, List.map_toArray, List.map_cons, List.map_nil, Bool.false_eq_true, Nat.reduceBEq, Option.map_some, Option.map_none, reduceCtorEq, fa45_0, fa45_1, fa89_0, fa89_1, ix25, ld43, ln25, st4]
    exact MC.start hv
  · rintro ⟨i, q, ys⟩ tm H0 ⟨h0, h1, h5, hi, hm0⟩
    simp -implicitDefEqProofs only [rE_seq_n, rE_seq_r, rE_seq_e, rE_blk_n, rE_blk_r, rE_blk_e, rW_skip, rW_ret, rW_exit, rW_ops, rW_seq, rW_block, ↓two_true, ↓two_false, rC_bool, rW_cond, rO_nil, rO_cons, oG_t, oG_f, oG_undef, rO_guard, oV_some, rOV_eq, oP_move, oP_assign, oP_bin, oP_un, oP_index, oP_fieldAddr, oP_field, oP_indexAddr, oP_slice, oP_load, oP_convert, aPick_true, aPick_false, aPick_bool, oP_pick, aExtract_tup, oP_extract, oP_nilCheck, oP_build, oP_len, oP_cap, oP_max, oP_min, oP_makeFunc, oS_some, oP_store, oA_some, oP_append, oM_some, oP_alloc, oP_box, oP_buildSlice, oP_mkS, oP_call, oP_callv, oF_func, aev_tmp, aev_const, aev_func, aput_get, aput_none, bin_add, bin_sub, bin_mul, bin_eql, bin_neq, bin_lss, bin_leq, bin_gtr, bin_geq, un_not, un_neg, tm0_get, fin_ret, fin_end, oR_some, resL_nil, resL_tmp, resL_cell, tup_one, tup_two, tup_nil, cond_true, cond_false, load_eq, Option.bind_some, gt0, gti, mkv, List.length_append, List.length_cons, List.length_nil, List.append_assoc, List.cons_append, List.nil_append, rd0, rdi, wrt0, wrti, rdB_own, rdB_ro, wrB_own, oL_some, aggAt, sto_some, st0, sti, List.set_cons_zero, List.set_cons_succ, splice_nil, splice_cons, cells_agg, cells_int, cells_bool, cells_string, cells_pointer, cells_slice, leaf_int, leaf_bool, leaf_string, leaf_pointer, leaf_slice, List.size_toArray, List.all_cons, List.all_nil, Bool.and_self, Bool.and_true, and_self, true_and, and_true, Nat.zero_add, Nat.add_zero, Nat.reduceLeDiff, Nat.le_refl, List.drop_zero, List.drop_succ_cons, List.take_succ_cons, List.take_zero, Nat.reduceSub, lp_end, lp_ret, lp_exit, oV_ite, oS_ite, oA_ite, slc_some, sls_some, optInt_none, optInt_some, rW_draw, rD_nil, rDV_eq, rDR_eq, rDE_eq, rDS_n, rDS_e, rD_load, rD_conv, rD_pure, rD_e, rD_g, rDG_t, rDG_f, rDG_undef, chkH_nil, chkH_cons, chkP_nil, chkP_cons, aRead_load, aRead_conv, isE_store, isE_call, isE_append, rDS_l, rDS_c, pl_move, pl_assign, pl_pick, pl_alloc, pl_box, pl_build, pl_buildSlice, pl_nilCheck, pl_binOp, pl_unOp, pl_makeFunc, pl_makeSlice, pl_slice, pl_fieldAddr, pl_field, pl_indexAddr, pl_index, pl_extract, pl_len, pl_cap, pl_max, pl_min, List.mem_cons, Prod.mk.injEq, List.not_mem_nil, or_false, or_true, false_or, true_or, and_false, false_and, false_implies, implies_true, true_implies, oM_ite, fillP_nil, fillP_cons, fillQ_some, slq_some, most_max, most_min, Nat.reduceMul, List.getElem?_toArray, List.getElem?_cons_zero, List.getElem?_cons_succ, List.getElem?_nil, Option.getD_some, Option.getD_none, Nat.reduceEqDiff, reduceIte, Nat.reduceAdd, List.map_toArray, List.map_cons, List.map_nil, Bool.false_eq_true, Nat.reduceBEq, Option.map_some, Option.map_none, reduceCtorEq, fa45_0, fa45_1, fa89_0, fa89_1, ix25, ld43, ln25, st4, h0, h1, h5]
    refine two_intro (fun hc => ?_) (fun hc => ?_)
    · have hc' : i < n := by simpa using hc
      have hr := row_lt (s := 3) hc'
      obtain ⟨b, o, rfl⟩ := hv.slc rfl (by omega)
      obtain ⟨rfl, cs0, hb0, hle0, hce0⟩ := hm0.at 3 rfl rfl (by omega)
      have wi : IntKind.i64.wrap ((i : Int) + 1) = i + 1 := IntWalk.i64_in _ (by omega)
      obtain ⟨_, g0, ⟨z0, rfl⟩, oc0⟩ := hm0.kind 3 rfl (c := 0) hc' rfl
      have lim0 := hm0.lim g0
      have f0 := hce0 _ _ g0
      try simp only [Nat.add_assoc, Nat.reduceAdd, Nat.add_zero] at f0 g0
      simp only [cv, cnt1] at lim0
      have w0 : IntKind.i64.wrap (q + 1) = q + 1 := IntWalk.i64_in _ (by omega)
      have hmod0 : (q).tmod 3 = (q) % 3 := Int.tmod_eq_emod_of_nonneg (by omega)
      simp -implicitDefEqProofs only [rE_seq_n, rE_seq_r, rE_seq_e, rE_blk_n, rE_blk_r, rE_blk_e, rW_skip, rW_ret, rW_exit, rW_ops, rW_seq, rW_block, ↓two_true, ↓two_false, rC_bool, rW_cond, rO_nil, rO_cons, oG_t, oG_f, oG_undef, rO_guard, oV_some, rOV_eq, oP_move, oP_assign, oP_bin, oP_un, oP_index, oP_fieldAddr, oP_field, oP_indexAddr, oP_slice, oP_load, oP_convert, aPick_true, aPick_false, aPick_bool, oP_pick, aExtract_tup, oP_extract, oP_nilCheck, oP_build, oP_len, oP_cap, oP_max, oP_min, oP_makeFunc, oS_some, oP_store, oA_some, oP_append, oM_some, oP_alloc, oP_box, oP_buildSlice, oP_mkS, oP_call, oP_callv, oF_func, aev_tmp, aev_const, aev_func, aput_get, aput_none, bin_add, bin_sub, bin_mul, bin_eql, bin_neq, bin_lss, bin_leq, bin_gtr, bin_geq, un_not, un_neg, tm0_get, fin_ret, fin_end, oR_some, resL_nil, resL_tmp, resL_cell, tup_one, tup_two, tup_nil, cond_true, cond_false, load_eq, Option.bind_some, gt0, gti, mkv, List.length_append, List.length_cons, List.length_nil, List.append_assoc, List.cons_append, List.nil_append, rd0, rdi, wrt0, wrti, rdB_own, rdB_ro, wrB_own, oL_some, aggAt, sto_some, st0, sti, List.set_cons_zero, List.set_cons_succ, splice_nil, splice_cons, cells_agg, cells_int, cells_bool, cells_string, cells_pointer, cells_slice, leaf_int, leaf_bool, leaf_string, leaf_pointer, leaf_slice, List.size_toArray, List.all_cons, List.all_nil, Bool.and_self, Bool.and_true, and_self, true_and, and_true, Nat.zero_add, Nat.add_zero, Nat.reduceLeDiff, Nat.le_refl, List.drop_zero, List.drop_succ_cons, List.take_succ_cons, List.take_zero, Nat.reduceSub, lp_end, lp_ret, lp_exit, oV_ite, oS_ite, oA_ite, slc_some, sls_some, optInt_none, optInt_some, rW_draw, rD_nil, rDV_eq, rDR_eq, rDE_eq, rDS_n, rDS_e, rD_load, rD_conv, rD_pure, rD_e, rD_g, rDG_t, rDG_f, rDG_undef, chkH_nil, chkH_cons, chkP_nil, chkP_cons, aRead_load, aRead_conv, isE_store, isE_call, isE_append, rDS_l, rDS_c, pl_move, pl_assign, pl_pick, pl_alloc, pl_box, pl_build, pl_buildSlice, pl_nilCheck, pl_binOp, pl_unOp, pl_makeFunc, pl_makeSlice, pl_slice, pl_fieldAddr, pl_field, pl_indexAddr, pl_index, pl_extract, pl_len, pl_cap, pl_max, pl_min, List.mem_cons, Prod.mk.injEq, List.not_mem_nil, or_false, or_true, false_or, true_or, and_false, false_and, false_implies, implies_true, true_implies, oM_ite, fillP_nil, fillP_cons, fillQ_some, slq_some, most_max, most_min, Nat.reduceMul, List.getElem?_toArray, List.getElem?_cons_zero, List.getElem?_cons_succ, List.getElem?_nil, Option.getD_some, Option.getD_none, Nat.reduceEqDiff, reduceIte, Nat.reduceAdd, List.map_toArray, List.map_cons, List.map_nil, Bool.false_eq_true, Nat.reduceBEq, Option.map_some, Option.map_none, reduceCtorEq, fa45_0, fa45_1, fa89_0, fa89_1, ix25, ld43, ln25, st4, h0, h1, h5, Int.toNat_natCast, Nat.add_assoc, Nat.reduceAdd, rd_own hb0, wrt_own hb0, f0, wi, w0, hmod0, bin_rem (show (3 : Int) ≠ 0 by decide), ne_eq, not_false_eq_true]
      have hm1 := hm0.scal (c := none) (z := .bool ((q) % 3 == 0)) rfl hb0 hle0 hce0 g0 (.inr ⟨_, rfl, rfl⟩)
      refine ⟨⟨by omega, by omega⟩, by omega, ?_⟩
      generalize H0.set b ⟨cs0.set (o + (i * 3)) (.bool ((q) % 3 == 0)), .own⟩ = H1 at hm1 ⊢
      obtain ⟨_, cs1, hb1, hle1, hce1⟩ := hm1.at 3 rfl rfl (by omega)
      obtain ⟨y1, g1, k1, oc1⟩ := hm1.kind 3 rfl (c := 1) hc' rfl
      have lim1 := hm1.lim g1
      have f1 := hce1 _ _ g1
      try simp only [Nat.add_assoc, Nat.reduceAdd, Nat.add_zero] at f1 g1
      rw [cv_row k1.1] at lim1
      simp only [cnt1] at lim1
      have m1 := fun Φ => markIntS_eq (k := q + 1) (Φ := Φ) (oc1.row k1.1) (by have := k1.2; omega) (by omega)
      simp -implicitDefEqProofs only [rE_seq_n, rE_seq_r, rE_seq_e, rE_blk_n, rE_blk_r, rE_blk_e, rW_skip, rW_ret, rW_exit, rW_ops, rW_seq, rW_block, ↓two_true, ↓two_false, rC_bool, rW_cond, rO_nil, rO_cons, oG_t, oG_f, oG_undef, rO_guard, oV_some, rOV_eq, oP_move, oP_assign, oP_bin, oP_un, oP_index, oP_fieldAddr, oP_field, oP_indexAddr, oP_slice, oP_load, oP_convert, aPick_true, aPick_false, aPick_bool, oP_pick, aExtract_tup, oP_extract, oP_nilCheck, oP_build, oP_len, oP_cap, oP_max, oP_min, oP_makeFunc, oS_some, oP_store, oA_some, oP_append, oM_some, oP_alloc, oP_box, oP_buildSlice, oP_mkS, oP_call, oP_callv, oF_func, aev_tmp, aev_const, aev_func, aput_get, aput_none, bin_add, bin_sub, bin_mul, bin_eql, bin_neq, bin_lss, bin_leq, bin_gtr, bin_geq, un_not, un_neg, tm0_get, fin_ret, fin_end, oR_some, resL_nil, resL_tmp, resL_cell, tup_one, tup_two, tup_nil, cond_true, cond_false, load_eq, Option.bind_some, gt0, gti, mkv, List.length_append, List.length_cons, List.length_nil, List.append_assoc, List.cons_append, List.nil_append, rd0, rdi, wrt0, wrti, rdB_own, rdB_ro, wrB_own, oL_some, aggAt, sto_some, st0, sti, List.set_cons_zero, List.set_cons_succ, splice_nil, splice_cons, cells_agg, cells_int, cells_bool, cells_string, cells_pointer, cells_slice, leaf_int, leaf_bool, leaf_string, leaf_pointer, leaf_slice, List.size_toArray, List.all_cons, List.all_nil, Bool.and_self, Bool.and_true, and_self, true_and, and_true, Nat.zero_add, Nat.add_zero, Nat.reduceLeDiff, Nat.le_refl, List.drop_zero, List.drop_succ_cons, List.take_succ_cons, List.take_zero, Nat.reduceSub, lp_end, lp_ret, lp_exit, oV_ite, oS_ite, oA_ite, slc_some, sls_some, optInt_none, optInt_some, rW_draw, rD_nil, rDV_eq, rDR_eq, rDE_eq, rDS_n, rDS_e, rD_load, rD_conv, rD_pure, rD_e, rD_g, rDG_t, rDG_f, rDG_undef, chkH_nil, chkH_cons, chkP_nil, chkP_cons, aRead_load, aRead_conv, isE_store, isE_call, isE_append, rDS_l, rDS_c, pl_move, pl_assign, pl_pick, pl_alloc, pl_box, pl_build, pl_buildSlice, pl_nilCheck, pl_binOp, pl_unOp, pl_makeFunc, pl_makeSlice, pl_slice, pl_fieldAddr, pl_field, pl_indexAddr, pl_index, pl_extract, pl_len, pl_cap, pl_max, pl_min, List.mem_cons, Prod.mk.injEq, List.not_mem_nil, or_false, or_true, false_or, true_or, and_false, false_and, false_implies, implies_true, true_implies, oM_ite, fillP_nil, fillP_cons, fillQ_some, slq_some, most_max, most_min, Nat.reduceMul, List.getElem?_toArray, List.getElem?_cons_zero, List.getElem?_cons_succ, List.getElem?_nil, Option.getD_some, Option.getD_none, Nat.reduceEqDiff, reduceIte, Nat.reduceAdd, List.map_toArray, List.map_cons, List.map_nil, Bool.false_eq_true, Nat.reduceBEq, Option.map_some, Option.map_none, reduceCtorEq, fa45_0, fa45_1, fa89_0, fa89_1, ix25, ld43, ln25, st4, h0, h1, h5, Int.toNat_natCast, Nat.add_assoc, Nat.reduceAdd, rd_own hb1, wrt_own hb1, f1, wi, m1]
      have hm2 := hm1.ints g1 (oc1.row k1.1) k1.1
      refine ⟨⟨by omega, by omega⟩, ?_⟩
      generalize putI H1 y1 (mks (q + 1) (rowI H1 y1).length) = H2 at hm2 ⊢
      obtain ⟨_, cs2, hb2, hle2, hce2⟩ := hm2.at 3 rfl rfl (by omega)
      obtain ⟨y2, g2, k2, oc2⟩ := hm2.kind 3 rfl (c := 2) hc' rfl
      have lim2 := hm2.lim g2
      have f2 := hce2 _ _ g2
      try simp only [Nat.add_assoc, Nat.reduceAdd, Nat.add_zero] at f2 g2
      rw [cv_row k2.1] at lim2
      simp only [cnt1] at lim2
      have m2 := fun Φ => markIntS_eq (k := q + 1 + (rowI H1 y1).length) (Φ := Φ) (oc2.row k2.1) (by have := k2.2; omega) (by omega)
      simp -implicitDefEqProofs only [rE_seq_n, rE_seq_r, rE_seq_e, rE_blk_n, rE_blk_r, rE_blk_e, rW_skip, rW_ret, rW_exit, rW_ops, rW_seq, rW_block, ↓two_true, ↓two_false, rC_bool, rW_cond, rO_nil, rO_cons, oG_t, oG_f, oG_undef, rO_guard, oV_some, rOV_eq, oP_move, oP_assign, oP_bin, oP_un, oP_index, oP_fieldAddr, oP_field, oP_indexAddr, oP_slice, oP_load, oP_convert, aPick_true, aPick_false, aPick_bool, oP_pick, aExtract_tup, oP_extract, oP_nilCheck, oP_build, oP_len, oP_cap, oP_max, oP_min, oP_makeFunc, oS_some, oP_store, oA_some, oP_append, oM_some, oP_alloc, oP_box, oP_buildSlice, oP_mkS, oP_call, oP_callv, oF_func, aev_tmp, aev_const, aev_func, aput_get, aput_none, bin_add, bin_sub, bin_mul, bin_eql, bin_neq, bin_lss, bin_leq, bin_gtr, bin_geq, un_not, un_neg, tm0_get, fin_ret, fin_end, oR_some, resL_nil, resL_tmp, resL_cell, tup_one, tup_two, tup_nil, cond_true, cond_false, load_eq, Option.bind_some, gt0, gti, mkv, List.length_append, List.length_cons, List.length_nil, List.append_assoc, List.cons_append, List.nil_append, rd0, rdi, wrt0, wrti, rdB_own, rdB_ro, wrB_own, oL_some, aggAt, sto_some, st0, sti, List.set_cons_zero, List.set_cons_succ, splice_nil, splice_cons, cells_agg, cells_int, cells_bool, cells_string, cells_pointer, cells_slice, leaf_int, leaf_bool, leaf_string, leaf_pointer, leaf_slice, List.size_toArray, List.all_cons, List.all_nil, Bool.and_self, Bool.and_true, and_self, true_and, and_true, Nat.zero_add, Nat.add_zero, Nat.reduceLeDiff, Nat.le_refl, List.drop_zero, List.drop_succ_cons, List.take_succ_cons, List.take_zero, Nat.reduceSub, lp_end, lp_ret, lp_exit, oV_ite, oS_ite, oA_ite, slc_some, sls_some, optInt_none, optInt_some, rW_draw, rD_nil, rDV_eq, rDR_eq, rDE_eq, rDS_n, rDS_e, rD_load, rD_conv, rD_pure, rD_e, rD_g, rDG_t, rDG_f, rDG_undef, chkH_nil, chkH_cons, chkP_nil, chkP_cons, aRead_load, aRead_conv, isE_store, isE_call, isE_append, rDS_l, rDS_c, pl_move, pl_assign, pl_pick, pl_alloc, pl_box, pl_build, pl_buildSlice, pl_nilCheck, pl_binOp, pl_unOp, pl_makeFunc, pl_makeSlice, pl_slice, pl_fieldAddr, pl_field, pl_indexAddr, pl_index, pl_extract, pl_len, pl_cap, pl_max, pl_min, List.mem_cons, Prod.mk.injEq, List.not_mem_nil, or_false, or_true, false_or, true_or, and_false, false_and, false_implies, implies_true, true_implies, oM_ite, fillP_nil, fillP_cons, fillQ_some, slq_some, most_max, most_min, Nat.reduceMul, List.getElem?_toArray, List.getElem?_cons_zero, List.getElem?_cons_succ, List.getElem?_nil, Option.getD_some, Option.getD_none, Nat.reduceEqDiff, reduceIte, Nat.reduceAdd, List.map_toArray, List.map_cons, List.map_nil, Bool.false_eq_true, Nat.reduceBEq, Option.map_some, Option.map_none, reduceCtorEq, fa45_0, fa45_1, fa89_0, fa89_1, ix25, ld43, ln25, st4, h0, h1, h5, Int.toNat_natCast, Nat.add_assoc, Nat.reduceAdd, rd_own hb2, wrt_own hb2, f2, wi, m2]
      have hm3 := hm2.ints g2 (oc2.row k2.1) k2.1
      refine ⟨⟨by omega, by omega⟩, ?_⟩
      generalize putI H2 y2 (mks (q + 1 + (rowI H1 y1).length) (rowI H2 y2).length) = H3 at hm3 ⊢
      have hfin := hm3
      rw [show i * 3 + 1 + 1 + 1 = (i + 1) * 3 by omega] at hfin
      exact ⟨(i + 1, _, _), by simp only; omega, rfl, by simp, hc', hfin⟩
    · have hc' : ¬ i < n := by simpa using hc
      have hil : i = n := by omega
      subst hil
      have hq := (hm0.done (by omega)).2
      rw [← hq]
      exact ⟨rfl, ys, hm0⟩

def lensV (H : AH) (xs : List VR3) : List (Nat × Nat) := xs.map fun x => ((rowI H x.2.1).length, (rowI H x.2.2).length)
def cntL (l : List (Nat × Nat)) : Nat := (l.map fun x => 1 + x.1 + x.2).sum
def markL : List (Nat × Nat) → Int → List (Bool × List Int × List Int)
  | [], _ => []
  | x :: r, k => (k % 3 == 0, mks (k + 1) x.1, mks (k + 1 + x.1) x.2) :: markL r (k + 1 + x.1 + x.2)
structure MI (H : AH) (v : Value) (xs : List VR3) (k : Int) (i : Nat) (q : Int) (ys : List VR3) (H' : AH) : Prop where
  len : H'.length = H.length
  frame : ∀ b, blkOf v ≠ some b → (∀ (j : Nat) x, xs[j]? = some x → blkOf x.2.1 ≠ some b ∧ blkOf x.2.2 ≠ some b) → H'[b]? = H[b]?
  own : SOwn H' v 3 (ys.map vcells)
  yl : ys.length = xs.length
  same : ∀ (j : Nat) x y, xs[j]? = some x → ys[j]? = some y → y.2 = x.2
  rows : ∀ (j : Nat) x, xs[j]? = some x → OwnRow H' x.2.1 (rowI H' x.2.1) ∧ OwnRow H' x.2.2 (rowI H' x.2.2) ∧ (rowI H' x.2.1).length = (rowI H x.2.1).length ∧ (rowI H' x.2.2).length = (rowI H x.2.2).length
  done : ∀ (j : Nat) y, j < i → ys[j]? = some y → (markL (lensV H xs) k)[j]? = some (vval H' y)
  rest : (markL (lensV H xs) k).drop i = markL ((lensV H xs).drop i) q
  cnt : q + cntL ((lensV H xs).drop i) = k + cntL (lensV H xs)
  pos : 0 ≤ q

theorem markL_len : ∀ (l : List (Nat × Nat)) (k : Int), (markL l k).length = l.length
  | [], _ => rfl
  | x :: r, k => by simp [markL, markL_len r]
theorem MI.vals {H H' : AH} {v : Value} {xs ys : List VR3} {k q : Int} (h : MI H v xs k xs.length q ys H') : ys.map (vval H') = markL (lensV H xs) k := by
  refine List.ext_getElem? fun j => ?_
  rcases Nat.lt_or_ge j ys.length with h1 | h1
  · rw [List.getElem?_map, List.getElem?_eq_getElem h1, h.done j _ (by rw [← h.yl]; exact h1) (List.getElem?_eq_getElem h1)]
    rfl
  · rw [List.getElem?_eq_none (by simpa using h1), List.getElem?_eq_none (by rw [markL_len]; simp [lensV, ← h.yl]; exact h1)]
theorem SOwn.new {H : AH} {s : Nat} {xs : List (List Value)} (h : ∀ x ∈ xs, x.length = s) : SOwn (H ++ [⟨xs.flatten, .own⟩]) (.slice (some ⟨H.length, 0, none⟩) xs.length s) s xs := by
  obtain ⟨h1, h2⟩ := flat_get xs h
  refine .inr ⟨H.length, 0, xs.flatten, rfl, by rw [gt0]; rfl, by rw [h1]; omega, ?_⟩
  intro i x hx
  have hl := h x (List.mem_iff_getElem?.2 ⟨i, hx⟩)
  refine ⟨hl, fun j y hy => ?_⟩
  have hj : j < s := by rw [← hl]; exact (List.getElem?_eq_some_iff.1 hy).1
  rw [← h2 i x hx, List.getElem?_take_of_lt hj, List.getElem?_drop] at hy
  rw [Nat.zero_add]
  exact hy

def szI (n : Nat) (left : Int) : Int := if left - n < 0 then -1 else left - n

theorem szIntS_ok {H : AH} {v : Value} {l : List Int} {q : Int} (hv : IntRow H v l) (hl : l.length ≤ 9223372036854775807) (hq : -1 ≤ q ∧ q ≤ 1048576) : CallsA Try.prog 138 #[v, .int .i64 q] H fun r H' => r = .int .i64 (szI l.length q) ∧ H' = H := by
  obtain ⟨a, c, rfl, gv⟩ := hv.op
  refine w138 ?_
  unfold k138
  simp -implicitDefEqProofs only [rE_seq_n, rE_seq_r, rE_seq_e, rE_blk_n, rE_blk_r, rE_blk_e, rW_skip, rW_ret, rW_exit, rW_ops, rW_seq, rW_block, ↓two_true, ↓two_false, rC_bool, rW_cond, rO_nil, rO_cons, oG_t, oG_f, oG_undef, rO_guard, oV_some, rOV_eq, oP_move, oP_assign, oP_bin, oP_un, oP_index, oP_fieldAddr, oP_field, oP_indexAddr, oP_slice, oP_load, oP_convert, aPick_true, aPick_false, aPick_bool, oP_pick, aExtract_tup, oP_extract, oP_nilCheck, oP_build, oP_len, oP_cap, oP_max, oP_min, oP_makeFunc, oS_some, oP_store, oA_some, oP_append, oM_some, oP_alloc, oP_box, oP_buildSlice, oP_mkS, oP_call, oP_callv, oF_func, aev_tmp, aev_const, aev_func, aput_get, aput_none, bin_add, bin_sub, bin_mul, bin_eql, bin_neq, bin_lss, bin_leq, bin_gtr, bin_geq, un_not, un_neg, tm0_get, fin_ret, fin_end, oR_some, resL_nil, resL_tmp, resL_cell, tup_one, tup_two, tup_nil, cond_true, cond_false, load_eq, Option.bind_some, gt0, gti, mkv, List.length_append, List.length_cons, List.length_nil, List.append_assoc, List.cons_append, List.nil_append, rd0, rdi, wrt0, wrti, rdB_own, rdB_ro, wrB_own, oL_some, aggAt, sto_some, st0, sti, List.set_cons_zero, List.set_cons_succ, splice_nil, splice_cons, cells_agg, cells_int, cells_bool, cells_string, cells_pointer, cells_slice, leaf_int, leaf_bool, leaf_string, leaf_pointer, leaf_slice, List.size_toArray, List.all_cons, List.all_nil, Bool.and_self, Bool.and_true, and_self, true_and, and_true, Nat.zero_add, Nat.add_zero, Nat.reduceLeDiff, Nat.le_refl, List.drop_zero, List.drop_succ_cons, List.take_succ_cons, List.take_zero, Nat.reduceSub, lp_end, lp_ret, lp_exit, oV_ite, oS_ite, oA_ite, slc_some, sls_some, optInt_none, optInt_some, rW_draw, rD_nil, rDV_eq, rDR_eq, rDE_eq, rDS_n, rDS_e, rD_load, rD_conv, rD_pure, rD_e, rD_g, rDG_t, rDG_f, rDG_undef, chkH_nil, chkH_cons, chkP_nil, chkP_cons, aRead_load, aRead_conv, isE_store, isE_call, isE_append, rDS_l, rDS_c, pl_move, pl_assign, pl_pick, pl_alloc, pl_box, pl_build, pl_buildSlice, pl_nilCheck, pl_binOp, pl_unOp, pl_makeFunc, pl_makeSlice, pl_slice, pl_fieldAddr, pl_field, pl_indexAddr, pl_index, pl_extract, pl_len, pl_cap, pl_max, pl_min, List.mem_cons, Prod.mk.injEq, List.not_mem_nil, or_false, or_true, false_or, true_or, and_false, false_and, false_implies, implies_true, true_implies, oM_ite, fillP_nil, fillP_cons, fillQ_some, slq_some, most_max, most_min, Nat.reduceMul, List.getElem?_toArray, List.getElem?_cons_zero, List.getElem?_cons_succ, List.getElem?_nil, Option.getD_some, Option.getD_none, Nat.reduceEqDiff, reduceIte, Nat.reduceAdd, List.map_toArray, List.map_cons, List.map_nil, Bool.false_eq_true, Nat.reduceBEq, Option.map_some, Option.map_none, reduceCtorEq, ln43]
  rw [IntWalk.i64_in (q - ↑l.length) (by omega)]
  unfold szI
  refine two_intro (fun h => ?_) (fun h => ?_)
  · rw [if_pos (by simpa using h)]
  · rw [if_neg (by simpa using h)]
theorem szIntS_eq {H : AH} {v : Value} {q : Int} (hv : OkI H v) (hl : (rowI H v).length ≤ 9223372036854775807) (hq : -1 ≤ q ∧ q ≤ 1048576) {Φ : Value → AH → Prop} : CallsA Try.prog 138 #[v, .int .i64 q] H Φ = Φ (.int .i64 (szI (rowI H v).length q)) H := (szIntS_ok hv hl hq).eq0
theorem set_fill {l : List Int} {i : Nat} (h : i < l.length) {z : Value} : (ints (l.take i) ++ List.replicate (l.length - i) z).set i (.int .i64 l[i]) = ints (l.take (i + 1)) ++ List.replicate (l.length - (i + 1)) z := by
  have h1 : (ints (l.take i)).length = i := by simp [ints]; omega
  rw [List.set_append_right _ _ (by omega), h1, Nat.sub_self]
  rw [show l.length - i = (l.length - (i + 1)) + 1 by omega, List.replicate_succ, List.set_cons_zero, List.take_succ_eq_append_getElem h]
  simp only [ints, List.map_append, List.map_cons, List.map_nil, List.append_assoc, List.cons_append, List.nil_append]

theorem toIntS_ok {H : AH} {v : Value} {l : List Int} (hv : IntRow H v l) (hl : l.length ≤ 1048576) : CallsA Try.prog 139 #[v] H fun r H' => r = .slice (some ⟨H.length, 0, none⟩) l.length 1 ∧ H' = H ++ [⟨ints l, .own⟩] := by
  obtain ⟨a, c, rfl, gv⟩ := hv.op
  have hr : ∀ n, (List.replicate n [Value.int .i64 0]).flatten = List.replicate n (.int .i64 0) := by
    intro n
    induction n with
    | zero => rfl
    | succ n ih => rw [List.replicate_succ, List.flatten_cons, ih, List.replicate_succ]; rfl
  refine w139 ?_
  unfold k139
  simp -implicitDefEqProofs only [rE_seq_n, rE_seq_r, rE_seq_e, rE_blk_n, rE_blk_r, rE_blk_e, rW_skip, rW_ret, rW_exit, rW_ops, rW_seq, rW_block, ↓two_true, ↓two_false, rC_bool, rW_cond, rO_nil, rO_cons, oG_t, oG_f, oG_undef, rO_guard, oV_some, rOV_eq, oP_move, oP_assign, oP_bin, oP_un, oP_index, oP_fieldAddr, oP_field, oP_indexAddr, oP_slice, oP_load, oP_convert, aPick_true, aPick_false, aPick_bool, oP_pick, aExtract_tup, oP_extract, oP_nilCheck, oP_build, oP_len, oP_cap, oP_max, oP_min, oP_makeFunc, oS_some, oP_store, oA_some, oP_append, oM_some, oP_alloc, oP_box, oP_buildSlice, oP_mkS, oP_call, oP_callv, oF_func, aev_tmp, aev_const, aev_func, aput_get, aput_none, bin_add, bin_sub, bin_mul, bin_eql, bin_neq, bin_lss, bin_leq, bin_gtr, bin_geq, un_not, un_neg, tm0_get, fin_ret, fin_end, oR_some, resL_nil, resL_tmp, resL_cell, tup_one, tup_two, tup_nil, cond_true, cond_false, load_eq, Option.bind_some, gt0, gti, mkv, List.length_append, List.length_cons, List.length_nil, List.append_assoc, List.cons_append, List.nil_append, rd0, rdi, wrt0, wrti, rdB_own, rdB_ro, wrB_own, oL_some, aggAt, sto_some, st0, sti, List.set_cons_zero, List.set_cons_succ, splice_nil, splice_cons, cells_agg, cells_int, cells_bool, cells_string, cells_pointer, cells_slice, leaf_int, leaf_bool, leaf_string, leaf_pointer, leaf_slice, List.size_toArray, List.all_cons, List.all_nil, Bool.and_self, Bool.and_true, and_self, true_and, and_true, Nat.zero_add, Nat.add_zero, Nat.reduceLeDiff, Nat.le_refl, List.drop_zero, List.drop_succ_cons, List.take_succ_cons, List.take_zero, Nat.reduceSub, lp_end, lp_ret, lp_exit, oV_ite, oS_ite, oA_ite, slc_some, sls_some, optInt_none, optInt_some, rW_draw, rD_nil, rDV_eq, rDR_eq, rDE_eq, rDS_n, rDS_e, rD_load, rD_conv, rD_pure, rD_e, rD_g, rDG_t, rDG_f, rDG_undef, chkH_nil, chkH_cons, chkP_nil, chkP_cons, aRead_load, aRead_conv, isE_store, isE_call, isE_append, rDS_l, rDS_c, pl_move, pl_assign, pl_pick, pl_alloc, pl_box, pl_build, pl_buildSlice, pl_nilCheck, pl_binOp, pl_unOp, pl_makeFunc, pl_makeSlice, pl_slice, pl_fieldAddr, pl_field, pl_indexAddr, pl_index, pl_extract, pl_len, pl_cap, pl_max, pl_min, List.mem_cons, Prod.mk.injEq, List.not_mem_nil, or_false, or_true, false_or, true_or, and_false, false_and, false_implies, implies_true, true_implies, oM_ite, fillP_nil, fillP_cons, fillQ_some, slq_some, most_max, most_min, Nat.reduceMul, List.getElem?_toArray, List.getElem?_cons_zero, List.getElem?_cons_succ, List.getElem?_nil, Option.getD_some, Option.getD_none, Nat.reduceEqDiff, reduceIte, Nat.reduceAdd, List.map_toArray, List.map_cons, List.map_nil, Bool.false_eq_true, Nat.reduceBEq, Option.map_some, Option.map_none, reduceCtorEq, ix43, ld3, ln43, ms43, st3, Int.toNat_natCast, hr]
  refine ⟨⟨by omega, by omega⟩, ?_⟩
  refine rW_loop (σ := Nat) (fun i tm H' => tm 0 = .slice a l.length c ∧ tm 3 = .slice (some ⟨H.length, 0, none⟩) l.length 1 ∧ tm 4 = .int .i64 i ∧ i ≤ l.length ∧ H' = H ++ [⟨ints (l.take i) ++ List.replicate (l.length - i) (.int .i64 0), .own⟩]) (fun i => l.length - i) 0 ?_ ?_
  · simp -implicitDefEqProofs [rE_seq_n, rE_seq_r, rE_seq_e, rE_blk_n, rE_blk_r, rE_blk_e, rW_skip, rW_ret, rW_exit, rW_ops, rW_seq, rW_block, ↓two_true, ↓two_false, rC_bool, rW_cond, rO_nil, rO_cons, oG_t, oG_f, oG_undef, rO_guard, oV_some, rOV_eq, oP_move, oP_assign, oP_bin, oP_un, oP_index, oP_fieldAddr, oP_field, oP_indexAddr, oP_slice, oP_load, oP_convert, aPick_true, aPick_false, aPick_bool, oP_pick, aExtract_tup, oP_extract, oP_nilCheck, oP_build, oP_len, oP_cap, oP_max, oP_min, oP_makeFunc, oS_some, oP_store, oA_some, oP_append, oM_some, oP_alloc, oP_box, oP_buildSlice, oP_mkS, oP_call, oP_callv, oF_func, aev_tmp, aev_const, aev_func, aput_get, aput_none, bin_add, bin_sub, bin_mul, bin_eql, bin_neq, bin_lss, bin_leq, bin_gtr, bin_geq, un_not, un_neg, tm0_get, fin_ret, fin_end, oR_some, resL_nil, resL_tmp, resL_cell, tup_one, tup_two, tup_nil, cond_true, cond_false, load_eq, Option.bind_some, gt0, gti, mkv, List.length_append, List.length_cons, List.length_nil, List.append_assoc, List.cons_append, List.nil_append, rd0, rdi, wrt0, wrti, rdB_own, rdB_ro, wrB_own, oL_some, aggAt, sto_some, st0, sti, List.set_cons_zero, List.set_cons_succ, splice_nil, splice_cons, cells_agg, cells_int, cells_bool, cells_string, cells_pointer, cells_slice, leaf_int, leaf_bool, leaf_string, leaf_pointer, leaf_slice, List.size_toArray, List.all_cons, List.all_nil, Bool.and_self, Bool.and_true, and_self, true_and, and_true, Nat.zero_add, Nat.add_zero, Nat.reduceLeDiff, Nat.le_refl, List.drop_zero, List.drop_succ_cons, List.take_succ_cons, List.take_zero, Nat.reduceSub, lp_end, lp_ret, lp_exit, oV_ite, oS_ite, oA_ite, slc_some, sls_some, optInt_none, optInt_some, rW_draw, rD_nil, rDV_eq, rDR_eq, rDE_eq, rDS_n, rDS_e, rD_load, rD_conv, rD_pure, rD_e, rD_g, rDG_t, rDG_f, rDG_undef, chkH_nil, chkH_cons, chkP_nil, chkP_cons, aRead_load, aRead_conv, isE_store, isE_call, isE_append, rDS_l, rDS_c, pl_move, pl_assign, pl_pick, pl_alloc, pl_box, pl_build, pl_buildSlice, pl_nilCheck, pl_binOp, pl_unOp, pl_makeFunc, pl_makeSlice, pl_slice, pl_fieldAddr, pl_field, pl_indexAddr, pl_index, pl_extract, pl_len, pl_cap, pl_max, pl_min, List.mem_cons, Prod.mk.injEq, List.not_mem_nil, or_false, or_true, false_or, true_or, and_false, false_and, false_implies, implies_true, true_implies, oM_ite, fillP_nil, fillP_cons, fillQ_some, slq_some, most_max, most_min, Nat.reduceMul, List.getElem?_toArray, List.getElem?_cons_zero, List.getElem?_cons_succ, List.getElem?_nil, Option.getD_some, Option.getD_none, Nat.reduceEqDiff, reduceIte, Nat.reduceAdd, List.map_toArray, List.map_cons, List.map_nil, Bool.false_eq_true, Nat.reduceBEq, Option.map_some, Option.map_none, reduceCtorEq, ix43, ld3, ln43, ms43, st3, ints]
  · rintro i tm H' ⟨h0, h3, h4, hi, rfl⟩
    simp -implicitDefEqProofs only [rE_seq_n, rE_seq_r, rE_seq_e, rE_blk_n, rE_blk_r, rE_blk_e, rW_skip, rW_ret, rW_exit, rW_ops, rW_seq, rW_block, ↓two_true, ↓two_false, rC_bool, rW_cond, rO_nil, rO_cons, oG_t, oG_f, oG_undef, rO_guard, oV_some, rOV_eq, oP_move, oP_assign, oP_bin, oP_un, oP_index, oP_fieldAddr, oP_field, oP_indexAddr, oP_slice, oP_load, oP_convert, aPick_true, aPick_false, aPick_bool, oP_pick, aExtract_tup, oP_extract, oP_nilCheck, oP_build, oP_len, oP_cap, oP_max, oP_min, oP_makeFunc, oS_some, oP_store, oA_some, oP_append, oM_some, oP_alloc, oP_box, oP_buildSlice, oP_mkS, oP_call, oP_callv, oF_func, aev_tmp, aev_const, aev_func, aput_get, aput_none, bin_add, bin_sub, bin_mul, bin_eql, bin_neq, bin_lss, bin_leq, bin_gtr, bin_geq, un_not, un_neg, tm0_get, fin_ret, fin_end, oR_some, resL_nil, resL_tmp, resL_cell, tup_one, tup_two, tup_nil, cond_true, cond_false, load_eq, Option.bind_some, gt0, gti, mkv, List.length_append, List.length_cons, List.length_nil, List.append_assoc, List.cons_append, List.nil_append, rd0, rdi, wrt0, wrti, rdB_own, rdB_ro, wrB_own, oL_some, aggAt, sto_some, st0, sti, List.set_cons_zero, List.set_cons_succ, splice_nil, splice_cons, cells_agg, cells_int, cells_bool, cells_string, cells_pointer, cells_slice, leaf_int, leaf_bool, leaf_string, leaf_pointer, leaf_slice, List.size_toArray, List.all_cons, List.all_nil, Bool.and_self, Bool.and_true, and_self, true_and, and_true, Nat.zero_add, Nat.add_zero, Nat.reduceLeDiff, Nat.le_refl, List.drop_zero, List.drop_succ_cons, List.take_succ_cons, List.take_zero, Nat.reduceSub, lp_end, lp_ret, lp_exit, oV_ite, oS_ite, oA_ite, slc_some, sls_some, optInt_none, optInt_some, rW_draw, rD_nil, rDV_eq, rDR_eq, rDE_eq, rDS_n, rDS_e, rD_load, rD_conv, rD_pure, rD_e, rD_g, rDG_t, rDG_f, rDG_undef, chkH_nil, chkH_cons, chkP_nil, chkP_cons, aRead_load, aRead_conv, isE_store, isE_call, isE_append, rDS_l, rDS_c, pl_move, pl_assign, pl_pick, pl_alloc, pl_box, pl_build, pl_buildSlice, pl_nilCheck, pl_binOp, pl_unOp, pl_makeFunc, pl_makeSlice, pl_slice, pl_fieldAddr, pl_field, pl_indexAddr, pl_index, pl_extract, pl_len, pl_cap, pl_max, pl_min, List.mem_cons, Prod.mk.injEq, List.not_mem_nil, or_false, or_true, false_or, true_or, and_false, false_and, false_implies, implies_true, true_implies, oM_ite, fillP_nil, fillP_cons, fillQ_some, slq_some, most_max, most_min, Nat.reduceMul, List.getElem?_toArray, List.getElem?_cons_zero, List.getElem?_cons_succ, List.getElem?_nil, Option.getD_some, Option.getD_none, Nat.reduceEqDiff, reduceIte, Nat.reduceAdd, List.map_toArray, List.map_cons, List.map_nil, Bool.false_eq_true, Nat.reduceBEq, Option.map_some, Option.map_none, reduceCtorEq, ix43, ld3, ln43, ms43, st3, h0, h3, h4]
    refine two_intro (fun hc => ?_) (fun hc => ?_)
    · have hc' : i < l.length := by simpa using hc
      obtain ⟨b, o, cs, rfl, rfl, hrd, _, hcell⟩ := gv (by omega)
      have hrd2 : rd (H ++ [⟨ints (l.take i) ++ List.replicate (l.length - i) (.int .i64 0), .own⟩]) b = some cs := by rw [rdl (by simp [hrd]), hrd]
      simp -implicitDefEqProofs only [rE_seq_n, rE_seq_r, rE_seq_e, rE_blk_n, rE_blk_r, rE_blk_e, rW_skip, rW_ret, rW_exit, rW_ops, rW_seq, rW_block, ↓two_true, ↓two_false, rC_bool, rW_cond, rO_nil, rO_cons, oG_t, oG_f, oG_undef, rO_guard, oV_some, rOV_eq, oP_move, oP_assign, oP_bin, oP_un, oP_index, oP_fieldAddr, oP_field, oP_indexAddr, oP_slice, oP_load, oP_convert, aPick_true, aPick_false, aPick_bool, oP_pick, aExtract_tup, oP_extract, oP_nilCheck, oP_build, oP_len, oP_cap, oP_max, oP_min, oP_makeFunc, oS_some, oP_store, oA_some, oP_append, oM_some, oP_alloc, oP_box, oP_buildSlice, oP_mkS, oP_call, oP_callv, oF_func, aev_tmp, aev_const, aev_func, aput_get, aput_none, bin_add, bin_sub, bin_mul, bin_eql, bin_neq, bin_lss, bin_leq, bin_gtr, bin_geq, un_not, un_neg, tm0_get, fin_ret, fin_end, oR_some, resL_nil, resL_tmp, resL_cell, tup_one, tup_two, tup_nil, cond_true, cond_false, load_eq, Option.bind_some, gt0, gti, mkv, List.length_append, List.length_cons, List.length_nil, List.append_assoc, List.cons_append, List.nil_append, rd0, rdi, wrt0, wrti, rdB_own, rdB_ro, wrB_own, oL_some, aggAt, sto_some, st0, sti, List.set_cons_zero, List.set_cons_succ, splice_nil, splice_cons, cells_agg, cells_int, cells_bool, cells_string, cells_pointer, cells_slice, leaf_int, leaf_bool, leaf_string, leaf_pointer, leaf_slice, List.size_toArray, List.all_cons, List.all_nil, Bool.and_self, Bool.and_true, and_self, true_and, and_true, Nat.zero_add, Nat.add_zero, Nat.reduceLeDiff, Nat.le_refl, List.drop_zero, List.drop_succ_cons, List.take_succ_cons, List.take_zero, Nat.reduceSub, lp_end, lp_ret, lp_exit, oV_ite, oS_ite, oA_ite, slc_some, sls_some, optInt_none, optInt_some, rW_draw, rD_nil, rDV_eq, rDR_eq, rDE_eq, rDS_n, rDS_e, rD_load, rD_conv, rD_pure, rD_e, rD_g, rDG_t, rDG_f, rDG_undef, chkH_nil, chkH_cons, chkP_nil, chkP_cons, aRead_load, aRead_conv, isE_store, isE_call, isE_append, rDS_l, rDS_c, pl_move, pl_assign, pl_pick, pl_alloc, pl_box, pl_build, pl_buildSlice, pl_nilCheck, pl_binOp, pl_unOp, pl_makeFunc, pl_makeSlice, pl_slice, pl_fieldAddr, pl_field, pl_indexAddr, pl_index, pl_extract, pl_len, pl_cap, pl_max, pl_min, List.mem_cons, Prod.mk.injEq, List.not_mem_nil, or_false, or_true, false_or, true_or, and_false, false_and, false_implies, implies_true, true_implies, oM_ite, fillP_nil, fillP_cons, fillQ_some, slq_some, most_max, most_min, Nat.reduceMul, List.getElem?_toArray, List.getElem?_cons_zero, List.getElem?_cons_succ, List.getElem?_nil, Option.getD_some, Option.getD_none, Nat.reduceEqDiff, reduceIte, Nat.reduceAdd, List.map_toArray, List.map_cons, List.map_nil, Bool.false_eq_true, Nat.reduceBEq, Option.map_some, Option.map_none, reduceCtorEq, ix43, ld3, ln43, ms43, st3, h0, h3, h4, Int.toNat_natCast, Nat.mul_one, hrd2, hcell i hc', IntWalk.i64_in (↑i + 1) (by omega)]
      refine ⟨⟨by omega, by omega⟩, ⟨by omega, by omega⟩, by simp [ints]; omega, i + 1, by omega, by simp, hc', ?_⟩
      rw [set_fill hc']
    · have hc' : ¬ i < l.length := by simpa using hc
      have : i = l.length := by omega
      subst this
      simp
theorem toIntS_eq {H : AH} {v : Value} (hv : OkI H v) (hl : (rowI H v).length ≤ 1048576) {Φ : Value → AH → Prop} : CallsA Try.prog 139 #[v] H Φ = Φ (.slice (some ⟨H.length, 0, none⟩) (rowI H v).length 1) (H ++ [⟨ints (rowI H v), .own⟩]) := Ans.eq (toIntS_ok hv hl)
theorem own_at {H : AH} {b : Nat} {l : List Int} (h : H[b]? = some ⟨ints l, .own⟩) : OwnRow H (.slice (some ⟨b, 0, none⟩) l.length 1) l :=
  .inr ⟨b, 0, ints l, rfl, h, by simp [ints], by rw [List.drop_zero, List.take_of_length_le (by simp [ints])]⟩

def szA (a b : Nat) (left : Int) : Int := if szI a left < 0 then -1 else szI b (szI a left)
theorem szI_le {n : Nat} {q : Int} (h : q ≤ 1048576) : -1 ≤ szI n q ∧ szI n q ≤ 1048576 := by
  unfold szI; split <;> omega
theorem szArray_ok {H : AH} {p r : Value} {q : Int} (hp : OkI H p) (hr : OkI H r) (lp : (rowI H p).length ≤ 9223372036854775807) (lr : (rowI H r).length ≤ 9223372036854775807) (hq : -1 ≤ q ∧ q ≤ 1048576) :
    CallsA Try.prog 63 #[.agg #[p, r], .int .i64 q] H fun z H' => z = .int .i64 (szA (rowI H p).length (rowI H r).length q) ∧ ∃ K, H' = H ++ K := by
  have h1 := szI_le (n := (rowI H p).length) hq.2
  have h2 := szI_le (n := (rowI H r).length) h1.2
  refine w63 ?_
  unfold k63
  simp -implicitDefEqProofs only [rE_seq_n, rE_seq_r, rE_seq_e, rE_blk_n, rE_blk_r, rE_blk_e, rW_skip, rW_ret, rW_exit, rW_ops, rW_seq, rW_block, ↓two_true, ↓two_false, rC_bool, rW_cond, rO_nil, rO_cons, oG_t, oG_f, oG_undef, rO_guard, oV_some, rOV_eq, oP_move, oP_assign, oP_bin, oP_un, oP_index, oP_fieldAddr, oP_field, oP_indexAddr, oP_slice, oP_load, oP_convert, aPick_true, aPick_false, aPick_bool, oP_pick, aExtract_tup, oP_extract, oP_nilCheck, oP_build, oP_len, oP_cap, oP_max, oP_min, oP_makeFunc, oS_some, oP_store, oA_some, oP_append, oM_some, oP_alloc, oP_box, oP_buildSlice, oP_mkS, oP_call, oP_callv, oF_func, aev_tmp, aev_const, aev_func, aput_get, aput_none, bin_add, bin_sub, bin_mul, bin_eql, bin_neq, bin_lss, bin_leq, bin_gtr, bin_geq, un_not, un_neg, tm0_get, fin_ret, fin_end, oR_some, resL_nil, resL_tmp, resL_cell, tup_one, tup_two, tup_nil, cond_true, cond_false, load_eq, Option.bind_some, gt0, gti, mkv, List.length_append, List.length_cons, List.length_nil, List.append_assoc, List.cons_append, List.nil_append, rd0, rdi, wrt0, wrti, rdB_own, rdB_ro, wrB_own, oL_some, aggAt, sto_some, st0, sti, List.set_cons_zero, List.set_cons_succ, splice_nil, splice_cons, cells_agg, cells_int, cells_bool, cells_string, cells_pointer, cells_slice, leaf_int, leaf_bool, leaf_string, leaf_pointer, leaf_slice, List.size_toArray, List.all_cons, List.all_nil, Bool.and_self, Bool.and_true, and_self, true_and, and_true, Nat.zero_add, Nat.add_zero, Nat.reduceLeDiff, Nat.le_refl, List.drop_zero, List.drop_succ_cons, List.take_succ_cons, List.take_zero, Nat.reduceSub, lp_end, lp_ret, lp_exit, oV_ite, oS_ite, oA_ite, slc_some, sls_some, optInt_none, optInt_some, rW_draw, rD_nil, rDV_eq, rDR_eq, rDE_eq, rDS_n, rDS_e, rD_load, rD_conv, rD_pure, rD_e, rD_g, rDG_t, rDG_f, rDG_undef, chkH_nil, chkH_cons, chkP_nil, chkP_cons, aRead_load, aRead_conv, isE_store, isE_call, isE_append, rDS_l, rDS_c, pl_move, pl_assign, pl_pick, pl_alloc, pl_box, pl_build, pl_buildSlice, pl_nilCheck, pl_binOp, pl_unOp, pl_makeFunc, pl_makeSlice, pl_slice, pl_fieldAddr, pl_field, pl_indexAddr, pl_index, pl_extract, pl_len, pl_cap, pl_max, pl_min, List.mem_cons, Prod.mk.injEq, List.not_mem_nil, or_false, or_true, false_or, true_or, and_false, false_and, false_implies, implies_true, true_implies, oM_ite, fillP_nil, fillP_cons, fillQ_some, slq_some, most_max, most_min, Nat.reduceMul, List.getElem?_toArray, List.getElem?_cons_zero, List.getElem?_cons_succ, List.getElem?_nil, Option.getD_some, Option.getD_none, Nat.reduceEqDiff, reduceIte, Nat.reduceAdd, List.map_toArray, List.map_cons, List.map_nil, Bool.false_eq_true, Nat.reduceBEq, Option.map_some, Option.map_none, reduceCtorEq, fa77_0, fa77_1, ld43, szIntS_eq, hp, hr, OkI.mono, rowI_mono, lp, lr, hq, h1, true_and, and_true]
  unfold szA
  refine two_intro (fun h => ?_) (fun h => ?_)
  · exact ⟨by rw [if_pos (by simpa using h)], _, rfl⟩
  · rw [if_neg (by simpa using h)]
    refine two_intro (fun h3 => ?_) (fun h3 => ?_)
    · have h4 : szI (rowI H r).length (szI (rowI H p).length q) < 0 := by simpa using h3
      exact ⟨by rw [show szI (rowI H r).length (szI (rowI H p).length q) = -1 by omega], _, rfl⟩
    · exact ⟨rfl, _, rfl⟩

theorem toArray_ok {H : AH} {p r : Value} (hp : OkI H p) (hr : OkI H r) (lp : (rowI H p).length ≤ 1048576) (lr : (rowI H r).length ≤ 1048576) :
    CallsA Try.prog 65 #[.agg #[p, r]] H fun z H' => ∃ p' r', z = .agg #[p', r'] ∧ OwnRow H' p' (rowI H p) ∧ OwnRow H' r' (rowI H r) ∧ Dj p' r' ∧ (∀ b, blkOf p' = some b → H.length ≤ b) ∧ (∀ b, blkOf r' = some b → H.length ≤ b) ∧ ∃ K, H' = H ++ K := by
  refine w65 ?_
  unfold k65
  simp -implicitDefEqProofs only [rE_seq_n, rE_seq_r, rE_seq_e, rE_blk_n, rE_blk_r, rE_blk_e, rW_skip, rW_ret, rW_exit, rW_ops, rW_seq, rW_block, ↓two_true, ↓two_false, rC_bool, rW_cond, rO_nil, rO_cons, oG_t, oG_f, oG_undef, rO_guard, oV_some, rOV_eq, oP_move, oP_assign, oP_bin, oP_un, oP_index, oP_fieldAddr, oP_field, oP_indexAddr, oP_slice, oP_load, oP_convert, aPick_true, aPick_false, aPick_bool, oP_pick, aExtract_tup, oP_extract, oP_nilCheck, oP_build, oP_len, oP_cap, oP_max, oP_min, oP_makeFunc, oS_some, oP_store, oA_some, oP_append, oM_some, oP_alloc, oP_box, oP_buildSlice, oP_mkS, oP_call, oP_callv, oF_func, aev_tmp, aev_const, aev_func, aput_get, aput_none, bin_add, bin_sub, bin_mul, bin_eql, bin_neq, bin_lss, bin_leq, bin_gtr, bin_geq, un_not, un_neg, tm0_get, fin_ret, fin_end, oR_some, resL_nil, resL_tmp, resL_cell, tup_one, tup_two, tup_nil, cond_true, cond_false, load_eq, Option.bind_some, gt0, gti, mkv, List.length_append, List.length_cons, List.length_nil, List.append_assoc, List.cons_append, List.nil_append, rd0, rdi, wrt0, wrti, rdB_own, rdB_ro, wrB_own, oL_some, aggAt, sto_some, st0, sti, List.set_cons_zero, List.set_cons_succ, splice_nil, splice_cons, cells_agg, cells_int, cells_bool, cells_string, cells_pointer, cells_slice, leaf_int, leaf_bool, leaf_string, leaf_pointer, leaf_slice, List.size_toArray, List.all_cons, List.all_nil, Bool.and_self, Bool.and_true, and_self, true_and, and_true, Nat.zero_add, Nat.add_zero, Nat.reduceLeDiff, Nat.le_refl, List.drop_zero, List.drop_succ_cons, List.take_succ_cons, List.take_zero, Nat.reduceSub, lp_end, lp_ret, lp_exit, oV_ite, oS_ite, oA_ite, slc_some, sls_some, optInt_none, optInt_some, rW_draw, rD_nil, rDV_eq, rDR_eq, rDE_eq, rDS_n, rDS_e, rD_load, rD_conv, rD_pure, rD_e, rD_g, rDG_t, rDG_f, rDG_undef, chkH_nil, chkH_cons, chkP_nil, chkP_cons, aRead_load, aRead_conv, isE_store, isE_call, isE_append, rDS_l, rDS_c, pl_move, pl_assign, pl_pick, pl_alloc, pl_box, pl_build, pl_buildSlice, pl_nilCheck, pl_binOp, pl_unOp, pl_makeFunc, pl_makeSlice, pl_slice, pl_fieldAddr, pl_field, pl_indexAddr, pl_index, pl_extract, pl_len, pl_cap, pl_max, pl_min, List.mem_cons, Prod.mk.injEq, List.not_mem_nil, or_false, or_true, false_or, true_or, and_false, false_and, false_implies, implies_true, true_implies, oM_ite, fillP_nil, fillP_cons, fillQ_some, slq_some, most_max, most_min, Nat.reduceMul, List.getElem?_toArray, List.getElem?_cons_zero, List.getElem?_cons_succ, List.getElem?_nil, Option.getD_some, Option.getD_none, Nat.reduceEqDiff, reduceIte, Nat.reduceAdd, List.map_toArray, List.map_cons, List.map_nil, Bool.false_eq_true, Nat.reduceBEq, Option.map_some, Option.map_none, reduceCtorEq, al45, fa45_0, fa45_1, fa77_0, fa77_1, ld43, ld45, st43, st45, toIntS_eq, hp, hr, OkI.mono, rowI_mono, lp, lr]
  refine ⟨_, _, rfl, own_at (by rw [gti]; rfl), own_at (by rw [gti]; rfl), ?_, ?_, ?_, _, rfl⟩
  · intro b h1 h2
    simp [blkOf] at h1 h2
    omega
  · intro b h1
    simp [blkOf] at h1
    omega
  · intro b h1
    simp [blkOf] at h1
    omega

theorem far3 {H K : AH} {x y z x' y' z' : Blk} {b : Nat} (h : H.length + 3 ≤ b) : (H ++ x :: y :: z :: K)[b]? = (H ++ [x', y', z'] ++ K)[b]? := by
  obtain ⟨j, rfl⟩ := Nat.exists_eq_add_of_le h
  rw [List.append_assoc, Nat.add_assoc, gti, gti, show 3 + j = j + 1 + 1 + 1 by omega]
  simp

theorem toVar_ok {H : AH} {s : Bool} {p r : Value} {l m : List Int} (hp : IntRow H p l) (hr : IntRow H r m) (lp : l.length ≤ 1048576) (lr : m.length ≤ 1048576) :
    CallsA Try.prog 74 #[.agg #[.bool s, p, r]] H fun z H' => ∃ p' r', z = .agg #[.bool s, p', r'] ∧ OwnRow H' p' l ∧ OwnRow H' r' m ∧ Dj p' r' ∧ (∀ b, blkOf p' = some b → H.length ≤ b) ∧ (∀ b, blkOf r' = some b → H.length ≤ b) ∧ ∃ K, H' = H ++ K := by
  refine w74 ?_
  unfold k74
  simp -implicitDefEqProofs only [rE_seq_n, rE_seq_r, rE_seq_e, rE_blk_n, rE_blk_r, rE_blk_e, rW_skip, rW_ret, rW_exit, rW_ops, rW_seq, rW_block, ↓two_true, ↓two_false, rC_bool, rW_cond, rO_nil, rO_cons, oG_t, oG_f, oG_undef, rO_guard, oV_some, rOV_eq, oP_move, oP_assign, oP_bin, oP_un, oP_index, oP_fieldAddr, oP_field, oP_indexAddr, oP_slice, oP_load, oP_convert, aPick_true, aPick_false, aPick_bool, oP_pick, aExtract_tup, oP_extract, oP_nilCheck, oP_build, oP_len, oP_cap, oP_max, oP_min, oP_makeFunc, oS_some, oP_store, oA_some, oP_append, oM_some, oP_alloc, oP_box, oP_buildSlice, oP_mkS, oP_call, oP_callv, oF_func, aev_tmp, aev_const, aev_func, aput_get, aput_none, bin_add, bin_sub, bin_mul, bin_eql, bin_neq, bin_lss, bin_leq, bin_gtr, bin_geq, un_not, un_neg, tm0_get, fin_ret, fin_end, oR_some, resL_nil, resL_tmp, resL_cell, tup_one, tup_two, tup_nil, cond_true, cond_false, load_eq, Option.bind_some, gt0, gti, mkv, List.length_append, List.length_cons, List.length_nil, List.append_assoc, List.cons_append, List.nil_append, rd0, rdi, wrt0, wrti, rdB_own, rdB_ro, wrB_own, oL_some, aggAt, sto_some, st0, sti, List.set_cons_zero, List.set_cons_succ, splice_nil, splice_cons, cells_agg, cells_int, cells_bool, cells_string, cells_pointer, cells_slice, leaf_int, leaf_bool, leaf_string, leaf_pointer, leaf_slice, List.size_toArray, List.all_cons, List.all_nil, Bool.and_self, Bool.and_true, and_self, true_and, and_true, Nat.zero_add, Nat.add_zero, Nat.reduceLeDiff, Nat.le_refl, List.drop_zero, List.drop_succ_cons, List.take_succ_cons, List.take_zero, Nat.reduceSub, lp_end, lp_ret, lp_exit, oV_ite, oS_ite, oA_ite, slc_some, sls_some, optInt_none, optInt_some, rW_draw, rD_nil, rDV_eq, rDR_eq, rDE_eq, rDS_n, rDS_e, rD_load, rD_conv, rD_pure, rD_e, rD_g, rDG_t, rDG_f, rDG_undef, chkH_nil, chkH_cons, chkP_nil, chkP_cons, aRead_load, aRead_conv, isE_store, isE_call, isE_append, rDS_l, rDS_c, pl_move, pl_assign, pl_pick, pl_alloc, pl_box, pl_build, pl_buildSlice, pl_nilCheck, pl_binOp, pl_unOp, pl_makeFunc, pl_makeSlice, pl_slice, pl_fieldAddr, pl_field, pl_indexAddr, pl_index, pl_extract, pl_len, pl_cap, pl_max, pl_min, List.mem_cons, Prod.mk.injEq, List.not_mem_nil, or_false, or_true, false_or, true_or, and_false, false_and, false_implies, implies_true, true_implies, oM_ite, fillP_nil, fillP_cons, fillQ_some, slq_some, most_max, most_min, Nat.reduceMul, List.getElem?_toArray, List.getElem?_cons_zero, List.getElem?_cons_succ, List.getElem?_nil, Option.getD_some, Option.getD_none, Nat.reduceEqDiff, reduceIte, Nat.reduceAdd, List.map_toArray, List.map_cons, List.map_nil, Bool.false_eq_true, Nat.reduceBEq, Option.map_some, Option.map_none, reduceCtorEq, al89, fa86_0, fa86_1, fa89_0, fa89_1, ld4, ld77, ld89, st4, st45, st89]
  have e1 : rowI H p = l := hp.row
  have e2 : rowI H r = m := hr.row
  refine (toArray_ok (hp.mono.ok) (hr.mono.ok) (by rw [rowI_mono hp.ok, e1]; exact lp) (by rw [rowI_mono hr.ok, e2]; exact lr)).mono ?_
  rintro _ _ ⟨p', r', rfl, o1, o2, d, n1, n2, K, rfl⟩
  rw [rowI_mono hp.ok, e1] at o1
  rw [rowI_mono hr.ok, e2] at o2
  obtain ⟨a1, c1, rfl⟩ := o1.isSlice
  obtain ⟨a2, c2, rfl⟩ := o2.isSlice
  simp -implicitDefEqProofs only [rE_seq_n, rE_seq_r, rE_seq_e, rE_blk_n, rE_blk_r, rE_blk_e, rW_skip, rW_ret, rW_exit, rW_ops, rW_seq, rW_block, ↓two_true, ↓two_false, rC_bool, rW_cond, rO_nil, rO_cons, oG_t, oG_f, oG_undef, rO_guard, oV_some, rOV_eq, oP_move, oP_assign, oP_bin, oP_un, oP_index, oP_fieldAddr, oP_field, oP_indexAddr, oP_slice, oP_load, oP_convert, aPick_true, aPick_false, aPick_bool, oP_pick, aExtract_tup, oP_extract, oP_nilCheck, oP_build, oP_len, oP_cap, oP_max, oP_min, oP_makeFunc, oS_some, oP_store, oA_some, oP_append, oM_some, oP_alloc, oP_box, oP_buildSlice, oP_mkS, oP_call, oP_callv, oF_func, aev_tmp, aev_const, aev_func, aput_get, aput_none, bin_add, bin_sub, bin_mul, bin_eql, bin_neq, bin_lss, bin_leq, bin_gtr, bin_geq, un_not, un_neg, tm0_get, fin_ret, fin_end, oR_some, resL_nil, resL_tmp, resL_cell, tup_one, tup_two, tup_nil, cond_true, cond_false, load_eq, Option.bind_some, gt0, gti, mkv, List.length_append, List.length_cons, List.length_nil, List.append_assoc, List.cons_append, List.nil_append, rd0, rdi, wrt0, wrti, rdB_own, rdB_ro, wrB_own, oL_some, aggAt, sto_some, st0, sti, List.set_cons_zero, List.set_cons_succ, splice_nil, splice_cons, cells_agg, cells_int, cells_bool, cells_string, cells_pointer, cells_slice, leaf_int, leaf_bool, leaf_string, leaf_pointer, leaf_slice, List.size_toArray, List.all_cons, List.all_nil, Bool.and_self, Bool.and_true, and_self, true_and, and_true, Nat.zero_add, Nat.add_zero, Nat.reduceLeDiff, Nat.le_refl, List.drop_zero, List.drop_succ_cons, List.take_succ_cons, List.take_zero, Nat.reduceSub, lp_end, lp_ret, lp_exit, oV_ite, oS_ite, oA_ite, slc_some, sls_some, optInt_none, optInt_some, rW_draw, rD_nil, rDV_eq, rDR_eq, rDE_eq, rDS_n, rDS_e, rD_load, rD_conv, rD_pure, rD_e, rD_g, rDG_t, rDG_f, rDG_undef, chkH_nil, chkH_cons, chkP_nil, chkP_cons, aRead_load, aRead_conv, isE_store, isE_call, isE_append, rDS_l, rDS_c, pl_move, pl_assign, pl_pick, pl_alloc, pl_box, pl_build, pl_buildSlice, pl_nilCheck, pl_binOp, pl_unOp, pl_makeFunc, pl_makeSlice, pl_slice, pl_fieldAddr, pl_field, pl_indexAddr, pl_index, pl_extract, pl_len, pl_cap, pl_max, pl_min, List.mem_cons, Prod.mk.injEq, List.not_mem_nil, or_false, or_true, false_or, true_or, and_false, false_and, false_implies, implies_true, true_implies, oM_ite, fillP_nil, fillP_cons, fillQ_some, slq_some, most_max, most_min, Nat.reduceMul, List.getElem?_toArray, List.getElem?_cons_zero, List.getElem?_cons_succ, List.getElem?_nil, Option.getD_some, Option.getD_none, Nat.reduceEqDiff, reduceIte, Nat.reduceAdd, List.map_toArray, List.map_cons, List.map_nil, Bool.false_eq_true, Nat.reduceBEq, Option.map_some, Option.map_none, reduceCtorEq, al89, fa86_0, fa86_1, fa89_0, fa89_1, ld4, ld77, ld89, st4, st45, st89]
  simp only [List.length_append, List.length_cons, List.length_nil, Nat.zero_add, Nat.reduceAdd] at n1 n2
  refine ⟨_, _, rfl, o1.same fun b hb => far3 (n1 b hb), o2.same fun b hb => far3 (n2 b hb), d, fun b hb => ?_, fun b hb => ?_, _, rfl⟩
  · have := n1 b hb; omega
  · have := n2 b hb; omega

theorem szA_le {a b : Nat} {q : Int} (h : q ≤ 1048576) : -1 ≤ szA a b q ∧ szA a b q ≤ 1048576 := by
  have h1 := szI_le (n := a) h
  unfold szA
  split
  · omega
  · exact szI_le h1.2
theorem szA_neg {a b : Nat} {q : Int} (h : szA a b q < 0) (hq : q ≤ 1048576) : szA a b q = -1 := by
  have := szA_le (a := a) (b := b) hq
  omega
theorem szVar_ok {H : AH} {s : Bool} {p r : Value} {l m : List Int} {q : Int} (hp : IntRow H p l) (hr : IntRow H r m) (lp : l.length ≤ 9223372036854775807) (lr : m.length ≤ 9223372036854775807) (hq : -1 ≤ q ∧ q ≤ 1048576) :
    CallsA Try.prog 72 #[.agg #[.bool s, p, r], .int .i64 q] H fun z H' => z = .int .i64 (szA l.length m.length q) ∧ ∃ K, H' = H ++ K := by
  have ea := fun (L : AH) Φ => (szArray_ok (H := H ++ L) (q := q) hp.mono.ok hr.mono.ok (by rw [rowI_mono hp.ok, hp.row]; exact lp) (by rw [rowI_mono hr.ok, hr.row]; exact lr) hq).eqV (Φ := Φ)
  have e1 : ∀ L, rowI (H ++ L) p = l := fun L => hp.mono.row
  have e2 : ∀ L, rowI (H ++ L) r = m := fun L => hr.mono.row
  refine w72 ?_
  unfold k72
  simp -implicitDefEqProofs only [rE_seq_n, rE_seq_r, rE_seq_e, rE_blk_n, rE_blk_r, rE_blk_e, rW_skip, rW_ret, rW_exit, rW_ops, rW_seq, rW_block, ↓two_true, ↓two_false, rC_bool, rW_cond, rO_nil, rO_cons, oG_t, oG_f, oG_undef, rO_guard, oV_some, rOV_eq, oP_move, oP_assign, oP_bin, oP_un, oP_index, oP_fieldAddr, oP_field, oP_indexAddr, oP_slice, oP_load, oP_convert, aPick_true, aPick_false, aPick_bool, oP_pick, aExtract_tup, oP_extract, oP_nilCheck, oP_build, oP_len, oP_cap, oP_max, oP_min, oP_makeFunc, oS_some, oP_store, oA_some, oP_append, oM_some, oP_alloc, oP_box, oP_buildSlice, oP_mkS, oP_call, oP_callv, oF_func, aev_tmp, aev_const, aev_func, aput_get, aput_none, bin_add, bin_sub, bin_mul, bin_eql, bin_neq, bin_lss, bin_leq, bin_gtr, bin_geq, un_not, un_neg, tm0_get, fin_ret, fin_end, oR_some, resL_nil, resL_tmp, resL_cell, tup_one, tup_two, tup_nil, cond_true, cond_false, load_eq, Option.bind_some, gt0, gti, mkv, List.length_append, List.length_cons, List.length_nil, List.append_assoc, List.cons_append, List.nil_append, rd0, rdi, wrt0, wrti, rdB_own, rdB_ro, wrB_own, oL_some, aggAt, sto_some, st0, sti, List.set_cons_zero, List.set_cons_succ, splice_nil, splice_cons, cells_agg, cells_int, cells_bool, cells_string, cells_pointer, cells_slice, leaf_int, leaf_bool, leaf_string, leaf_pointer, leaf_slice, List.size_toArray, List.all_cons, List.all_nil, Bool.and_self, Bool.and_true, and_self, true_and, and_true, Nat.zero_add, Nat.add_zero, Nat.reduceLeDiff, Nat.le_refl, List.drop_zero, List.drop_succ_cons, List.take_succ_cons, List.take_zero, Nat.reduceSub, lp_end, lp_ret, lp_exit, oV_ite, oS_ite, oA_ite, slc_some, sls_some, optInt_none, optInt_some, rW_draw, rD_nil, rDV_eq, rDR_eq, rDE_eq, rDS_n, rDS_e, rD_load, rD_conv, rD_pure, rD_e, rD_g, rDG_t, rDG_f, rDG_undef, chkH_nil, chkH_cons, chkP_nil, chkP_cons, aRead_load, aRead_conv, isE_store, isE_call, isE_append, rDS_l, rDS_c, pl_move, pl_assign, pl_pick, pl_alloc, pl_box, pl_build, pl_buildSlice, pl_nilCheck, pl_binOp, pl_unOp, pl_makeFunc, pl_makeSlice, pl_slice, pl_fieldAddr, pl_field, pl_indexAddr, pl_index, pl_extract, pl_len, pl_cap, pl_max, pl_min, List.mem_cons, Prod.mk.injEq, List.not_mem_nil, or_false, or_true, false_or, true_or, and_false, false_and, false_implies, implies_true, true_implies, oM_ite, fillP_nil, fillP_cons, fillQ_some, slq_some, most_max, most_min, Nat.reduceMul, List.getElem?_toArray, List.getElem?_cons_zero, List.getElem?_cons_succ, List.getElem?_nil, Option.getD_some, Option.getD_none, Nat.reduceEqDiff, reduceIte, Nat.reduceAdd, List.map_toArray, List.map_cons, List.map_nil, Bool.false_eq_true, Nat.reduceBEq, Option.map_some, Option.map_none, reduceCtorEq, fa86_1, ld77, ea, e1, e2]
  refine two_intro (fun h => ?_) (fun h => ?_)
  · exact ⟨by rw [szA_neg (by simpa using h) hq.2], _, rfl⟩
  · exact ⟨_, rfl⟩
def z3 : VR3 := (false, .slice none 0 0, .slice none 0 0)
structure TI (H : AH) (xs : List VR3) (i : Nat) (ys : List VR3) (H' : AH) : Prop where
  yl : ys.length = i
  ext : ∃ K, H' = H ++ K
  own : SOwn H' (.slice (some ⟨H.length, 0, none⟩) xs.length 3) 3 ((ys ++ List.replicate (xs.length - i) z3).map vcells)
  rows : ∀ (j : Nat) x y, xs[j]? = some x → ys[j]? = some y → y.1 = x.1 ∧ OwnRow H' y.2.1 (rowI H x.2.1) ∧ OwnRow H' y.2.2 (rowI H x.2.2)
  blk : ∀ (j : Nat) y b, ys[j]? = some y → (blkOf y.2.1 = some b ∨ blkOf y.2.2 = some b) → H.length < b ∧ b < H'.length
  inn : ∀ (j : Nat) y, ys[j]? = some y → Dj y.2.1 y.2.2
  dif : ∀ (i j : Nat) x y, i < j → ys[i]? = some x → ys[j]? = some y → Dj x.2.1 y.2.1 ∧ Dj x.2.1 y.2.2 ∧ Dj x.2.2 y.2.1 ∧ Dj x.2.2 y.2.2
theorem Rp.slice {P : Program} {H : AH} {k : Nat} {t e : TypeId} {vs : List Value} (hu : P.underlying t = some (.slice e)) (h : Rp P H k t vs) :
    vs = [.slice none 0 0] ∨ ∃ b n cs, vs = [.slice (some ⟨b, 0, none⟩) n (P.cellsOf e)] ∧ H[b]? = some ⟨cs, .ro⟩ ∧ cs.length = n * P.cellsOf e ∧ n ≤ maxLen ∧ ∃ k, ∀ i, i < n → Rp P H k e ((cs.drop (i * P.cellsOf e)).take (P.cellsOf e)) := by
  cases k with
  | zero => exact h.elim
  | succ k =>
    simp only [Rp, hu] at h
    rcases h with h | ⟨b, n, cs, h1, h2, h3, h4, h5⟩
    · exact .inl h
    · exact .inr ⟨b, n, cs, h1, h2, h3, h4, k, h5⟩
theorem rd_ro {H : AH} {b : Nat} {cs : List Value} (h : H[b]? = some ⟨cs, .ro⟩) : rd H b = some cs := by simp [rd, h, rdB]
theorem Rp.ints {P : Program} {H : AH} {k : Nat} {t e : TypeId} {vs : List Value} (hu : P.underlying t = some (.slice e)) (he : P.underlying e = some (.int .i64)) (hc : P.cellsOf e = 1) (h : Rp P H k t vs) :
    ∃ v l, vs = [v] ∧ IntRow H v l ∧ l.length ≤ 9223372036854775807 ∧ ∀ x ∈ l, I64 x := by
  rcases h.slice hu with rfl | ⟨b, n, cs, rfl, h2, h3, h4, k, h5⟩
  · exact ⟨_, [], rfl, .inl ⟨rfl, rfl⟩, by simp, by simp⟩
  · rw [hc, Nat.mul_one] at h3
    have key : ∀ i (hi : i < cs.length), ∃ m, cs[i] = .int .i64 m ∧ I64 m := by
      intro i hi
      have h6 := h5 i (by omega)
      rw [hc, Nat.mul_one] at h6
      obtain ⟨m, h7, h8⟩ := h6.int he
      have h9 : ((cs.drop i).take 1)[0]? = some cs[i] := by
        rw [List.getElem?_take_of_lt (by decide), List.getElem?_drop, Nat.add_zero, List.getElem?_eq_getElem hi]
      rw [h7] at h9
      simp at h9
      exact ⟨m, h9.symm, wf_i64 h8⟩
    have hmap : cs = Go.Proofs.Ytgekbancaeabgaa.AM.ints (cs.map toI) := by
      refine List.ext_getElem (by simp [Go.Proofs.Ytgekbancaeabgaa.AM.ints]) fun i h1 h2 => ?_
      obtain ⟨m, h3, _⟩ := key i h1
      simp [Go.Proofs.Ytgekbancaeabgaa.AM.ints, h3, toI]
    refine ⟨_, cs.map toI, rfl, .inr ⟨b, 0, cs, by simp [h3, hc], rd_ro h2, by simp, ?_⟩, ?_, ?_⟩
    · rw [List.drop_zero, List.length_map, List.take_of_length_le (Nat.le_refl _)]
      exact hmap
    · simp only [List.length_map, h3]
      have : maxLen = 9223372036854775807 := by decide
      omega
    · intro x hx
      obtain ⟨y, hy, rfl⟩ := List.mem_map.1 hx
      obtain ⟨i, hi, rfl⟩ := List.mem_iff_getElem.1 hy
      obtain ⟨m, h6, h7⟩ := key i hi
      rw [h6]; exact h7
theorem Rp.bool {P : Program} {H : AH} {k : Nat} {t : TypeId} {vs : List Value} (hu : P.underlying t = some .bool) (h : Rp P H k t vs) : ∃ b, vs = [.bool b] := by
  cases k with
  | zero => exact h.elim
  | succ k => simpa only [Rp, hu] using h

def kindsOf (P : Program) : Nat → TypeId → Option (List CK)
  | 0, _ => none
  | k + 1, t =>
    match P.underlying t with
    | some .bool => some [.b]
    | some (.int .i64) => some [.i]
    | some (.slice e) => match P.underlying e with
      | some (.int .i64) => if P.cellsOf e = 1 then some [.w] else none
      | _ => none
    | some (.struct fs) => if tileOk P fs.toList 0 (P.cellsOf t) = true then (fs.toList.mapM fun f => kindsOf P k f.type).map List.flatten else none
    | _ => none
theorem All2.append {H : AH} : ∀ {ks ks' : List CK} {x x' : List Value}, All2 H ks x → All2 H ks' x' → All2 H (ks ++ ks') (x ++ x')
  | [], _, x, _, h, h' => by cases h; exact h'
  | k :: ks, _, x, _, ⟨y, r, e, h1, h2⟩, h' => by subst e; exact ⟨y, _, rfl, h1, h2.append h'⟩
theorem Rp.all2 {P : Program} {H : AH} : ∀ {m k : Nat} {t : TypeId} {vs : List Value} {ks : List CK}, kindsOf P m t = some ks → Rp P H k t vs → All2 H ks vs := by
  intro m
  induction m with
  | zero => intro k t vs ks h; simp [kindsOf] at h
  | succ m ih =>
    intro k t vs ks h hr
    unfold kindsOf at h
    split at h
    · rename_i hu
      cases h
      obtain ⟨b, rfl⟩ := hr.bool hu
      exact ⟨_, _, rfl, ⟨b, rfl⟩, rfl⟩
    · rename_i hu
      cases h
      obtain ⟨n, rfl, _⟩ := hr.int hu
      exact ⟨_, _, rfl, ⟨n, rfl⟩, rfl⟩
    · rename_i e hu
      split at h
      · rename_i he
        split at h
        · rename_i hc
          cases h
          obtain ⟨v, l, rfl, h1, h2, _⟩ := hr.ints hu he hc
          exact ⟨_, _, rfl, ⟨h1.ok, by rw [h1.row]; exact h2⟩, rfl⟩
        · cases h
      · cases h
    · rename_i fs hu
      split at h
      · rename_i ht
        simp only [Option.map_eq_some_iff] at h
        obtain ⟨kss, h1, rfl⟩ := h
        obtain ⟨hl, k', hf⟩ := hr.struct hu
        have key : ∀ (l : List Field) (o n : Nat) (kss : List (List CK)), tileOk P l o n = true → (∀ f ∈ l, Rp P H k' f.type ((vs.drop f.offset).take (P.cellsOf f.type))) → l.mapM (fun f => kindsOf P m f.type) = some kss → n = vs.length → All2 H kss.flatten (vs.drop o) := by
          intro l
          induction l with
          | nil =>
            intro o n kss ht _ hm hn
            simp only [tileOk, beq_iff_eq] at ht
            simp only [List.mapM_nil, Option.pure_def, Option.some.injEq] at hm
            subst hm
            subst ht
            rw [hn, List.drop_length]
            rfl
          | cons f l ihl =>
            intro o n kss ht hf hm hn
            simp only [tileOk, Bool.and_eq_true, beq_iff_eq] at ht
            obtain ⟨ho, ht⟩ := ht
            rw [List.mapM_cons] at hm
            simp only [Option.bind_eq_bind, Option.bind_eq_some_iff, Option.pure_def, Option.some.injEq] at hm
            obtain ⟨ks1, hk1, kss', hk2, rfl⟩ := hm
            have h1 := ih hk1 (hf f (by simp))
            have h2 := ihl _ _ _ ht (fun g hg => hf g (by simp [hg])) hk2 hn
            rw [ho] at h1
            have h3 := h1.append h2
            rwa [← List.drop_drop, List.take_append_drop] at h3
        have := key fs.toList 0 _ kss ht hf h1 hl.symm
        rwa [List.drop_zero] at this
      · cases h
    · cases h
theorem rpRow {P : Program} {H : AH} {t e : TypeId} {v : Value} {m : Nat} {ks : List CK} (h : RpV P H t v) (hu : P.underlying t = some (.slice e)) (hk : kindsOf P m e = some ks) (hc : P.cellsOf e = ks.length) :
    ∃ n xs, FRow H v ks n xs ∧ n ≤ 9223372036854775807 := by
  obtain ⟨k, vs, h, rfl⟩ := h
  have hm : maxLen = 9223372036854775807 := by decide
  rcases h.slice hu with rfl | ⟨b, n, cs, rfl, h2, h3, h4, k, h5⟩
  · exact ⟨0, [], ⟨by simp, .inl ⟨by simp [mkV, hu], rfl⟩, fun i c k y hi => by omega⟩, by omega⟩
  · rw [hc] at h3 h5
    refine ⟨n, cs, ⟨h3, .inr ⟨b, 0, cs, by simp [mkV, hu, hc], rd_ro h2, by omega, fun j y hy => by rw [Nat.zero_add]; exact hy⟩, ?_⟩, by omega⟩
    intro i c kd y hi hkd hy
    have hlt := (List.getElem?_eq_some_iff.1 hkd).1
    have := (h5 i hi).all2 hk
    refine this.get c kd y hkd ?_
    rw [List.getElem?_take_of_lt hlt, List.getElem?_drop]
    exact hy
theorem le_sum : ∀ {l : List Nat} {x : Nat}, x ∈ l → x ≤ l.sum
  | y :: l, x, h => by
    rw [List.sum_cons]
    rcases List.mem_cons.1 h with rfl | h
    · omega
    · have := le_sum h; omega
/-- How many numbers stand in the rows of some cells. -/
def rsum1 : CV → Nat | .r l => l.length | _ => 0
def rsum (l : List CV) : Nat := (l.map rsum1).sum
theorem rsum_append {l m : List CV} : rsum (l ++ m) = rsum l + rsum m := by simp [rsum]
theorem rsum_take {l : List CV} {p : Nat} : rsum (l.take p) ≤ rsum l := by
  have : rsum l = rsum (l.take p) + rsum (l.drop p) := by rw [← rsum_append, List.take_append_drop]
  omega
theorem rsum_mem {H : AH} {xs : List Value} {y : Value} (hy : y ∈ xs) (ho : OkI H y) : (rowI H y).length ≤ rsum (cvs H xs) := by
  have h1 : CV.r (rowI H y) ∈ cvs H xs := List.mem_map.2 ⟨y, hy, cv_row ho⟩
  have h2 : rsum1 (.r (rowI H y)) ∈ (cvs H xs).map rsum1 := List.mem_map.2 ⟨_, h1, rfl⟩
  exact le_sum h2
theorem cntF_le {l : List CV} : cntF l ≤ l.length + rsum l := by
  induction l with
  | nil => exact Nat.le_refl _
  | cons x l ih =>
    have : cnt1 x ≤ 1 + rsum1 x := by cases x <;> simp [cnt1, rsum1]
    simp only [cntF, rsum, List.map_cons, List.sum_cons, List.length_cons] at ih ⊢
    omega
/-- Rows that are short enough. -/
def strong : CK → CK | .w => .r | k => k
theorem FRow.strong {H : AH} {v : Value} {ks : List CK} {n : Nat} {xs : List Value} (h : FRow H v ks n xs) (hl : rsum (cvs H xs) ≤ 1048576) : FRow H v (ks.map Go.Proofs.Ytgekbancaeabgaa.AM.strong) n xs := by
  refine ⟨by rw [List.length_map]; exact h.len, by rw [List.length_map]; exact h.row, ?_⟩
  intro i c k y hi hk hy
  rw [List.length_map] at hy
  rw [List.getElem?_map] at hk
  cases hk' : ks[c]? with
  | none => rw [hk'] at hk; cases hk
  | some k' =>
    rw [hk'] at hk
    simp only [Option.map_some, Option.some.injEq] at hk
    subst hk
    have hold := h.ok i c k' y hi hk' hy
    cases k' with
    | i => exact hold
    | b => exact hold
    | r => exact hold
    | w => exact ⟨hold.1, by have := rsum_mem (List.mem_of_getElem? hy) hold.1; omega⟩
def zk : CK → Value
  | .i => .int .i64 0
  | .b => .bool false
  | _ => .slice none 0 0
theorem zk_ok {H : AH} {k : CK} : KOk H k (zk k) ∧ OwnC H (zk k) ∧ blkOf (zk k) = none := by
  cases k with
  | i => exact ⟨⟨0, rfl⟩, .inl ⟨0, rfl⟩, rfl⟩
  | b => exact ⟨⟨false, rfl⟩, .inr (.inl ⟨false, rfl⟩), rfl⟩
  | r => exact ⟨⟨OkI.nil, by simp [zk, rowI]⟩, .inr (.inr (.inl ⟨rfl, rfl⟩)), rfl⟩
  | w => exact ⟨⟨OkI.nil, by simp [zk, rowI]⟩, .inr (.inr (.inl ⟨rfl, rfl⟩)), rfl⟩
def zrow (ks : List CK) (n : Nat) : List Value := (List.replicate n (ks.map zk)).flatten
theorem zrow_len {ks : List CK} {n : Nat} : (zrow ks n).length = n * ks.length := by
  simp [zrow, List.length_flatten]
theorem zrow_mem {ks : List CK} {n : Nat} {y : Value} (h : y ∈ zrow ks n) : ∃ k, y = zk k := by
  simp only [zrow, List.mem_flatten, List.mem_replicate] at h
  obtain ⟨l, ⟨_, rfl⟩, h⟩ := h
  obtain ⟨k, _, rfl⟩ := List.mem_map.1 h
  exact ⟨k, rfl⟩
theorem New.zrow {H : AH} {ks : List CK} {n : Nat} : New H (H ++ [⟨Go.Proofs.Ytgekbancaeabgaa.AM.zrow ks n, .own⟩]) (.slice (some ⟨H.length, 0, none⟩) n ks.length) ks n (Go.Proofs.Ytgekbancaeabgaa.AM.zrow ks n) := by
  have hnb : ∀ y ∈ Go.Proofs.Ytgekbancaeabgaa.AM.zrow ks n, blkOf y = none := fun y hy => by obtain ⟨k, rfl⟩ := zrow_mem hy; exact (zk_ok (H := H)).2.2
  have hfl := flat_get (s := ks.length) (List.replicate n (ks.map zk)) (by intro x hx; rw [(List.mem_replicate.1 hx).2, List.length_map])
  refine ⟨⟨zrow_len, .inr ⟨H.length, 0, Go.Proofs.Ytgekbancaeabgaa.AM.zrow ks n, rfl, by rw [gt0]; rfl, by rw [zrow_len]; omega, fun j y hy => by rw [Nat.zero_add]; exact hy⟩, ?_, ?_, ?_, ?_⟩, ?_⟩
  · intro i c k y hi hk hy
    have hc := (List.getElem?_eq_some_iff.1 hk).1
    have h1 := hfl.2 i (ks.map zk) (by rw [List.getElem?_replicate, if_pos hi])
    have h2 : (ks.map zk)[c]? = some y := by
      rw [← h1, List.getElem?_take_of_lt hc, List.getElem?_drop]
      exact hy
    rw [List.getElem?_map, hk] at h2
    cases h2
    exact zk_ok.1
  · intro j y hy
    obtain ⟨k, rfl⟩ := zrow_mem (List.mem_of_getElem? hy)
    exact zk_ok.2.1
  · intro j y hy b _ hb
    rw [hnb y (List.mem_of_getElem? hy)] at hb; cases hb
  · intro i j x y _ hx hy b hb
    rw [hnb x (List.mem_of_getElem? hx)] at hb; cases hb
  · rintro b (hb | ⟨y, hy, hb⟩)
    · simp [blkOf] at hb; omega
    · rw [hnb y hy] at hb; cases hb
theorem splice_take_eq {xs x : List Value} {p : Nat} (h : p + x.length ≤ xs.length) : splice xs p x = xs.take p ++ x ++ xs.drop (p + x.length) := by
  refine List.ext_getElem? fun i => ?_
  rw [splice_get x xs p i h]
  have hl : (xs.take p).length = p := by simp; omega
  split
  · rename_i hi
    rw [List.append_assoc, List.getElem?_append_right (by omega), hl, List.getElem?_append_left (by omega)]
  · rename_i hi
    rcases Nat.lt_or_ge i p with h1 | h1
    · rw [List.append_assoc, List.getElem?_append_left (by omega), List.getElem?_take_of_lt h1]
    · rw [List.getElem?_append_right (by simp; omega), List.getElem?_drop]
      congr 1
      simp
      omega
/-- A whole element is written. -/
theorem New.put {H0 H1 H : AH} {ks : List CK} {n b i : Nat} {ys x : List Value} (s : Nat) (hs : ks.length = s) (h : New H0 H1 (.slice (some ⟨b, 0, none⟩) n s) ks n ys) (he : ∃ K, H = H1 ++ K) (hi : i < n) (hx : All2 H ks x) (ho : ∀ y ∈ x, OwnC H y) (hf : ∀ y ∈ x, ∀ b, blkOf y = some b → H1.length ≤ b)
    (hdj : x.Pairwise Dj) (h0 : H0.length ≤ H1.length) :
    ∃ cs, H[b]? = some ⟨cs, .own⟩ ∧ i * s + s ≤ cs.length ∧ New H0 (H.set b ⟨splice cs (0 + i * s) x, .own⟩) (.slice (some ⟨b, 0, none⟩) n s) ks n (splice ys (i * s) x) ∧
      (cvs (H.set b ⟨splice cs (0 + i * s) x, .own⟩) (splice ys (i * s) x)).take ((i + 1) * s) = (cvs H1 ys).take (i * s) ++ x.map (cv H) := by
  subst hs
  have hot := h.ot
  obtain ⟨K, rfl⟩ := he
  have hot2 := h.ot.mono (L := K)
  have hr := row_lt (s := ks.length) hi
  have hxl := hx.len
  have hyl := hot.len
  rcases hot2.row with ⟨h1, _⟩ | ⟨b', o', cs, h1, h2, h3, h4⟩
  · cases h1
  simp only [Value.slice.injEq, Option.some.injEq, Addr.mk.injEq] at h1
  obtain ⟨⟨rfl, rfl, _⟩, _, _⟩ := h1
  have hb1 : b < H1.length := hot.lt b (.inl rfl)
  refine ⟨cs, h2, by omega, ?_, ?_⟩
  all_goals
    have hs2 : ∀ g, g ≠ b → ((H1 ++ K).set b ⟨splice cs (0 + i * ks.length) x, .own⟩)[g]? = (H1 ++ K)[g]? := fun g hg => List.getElem?_set_ne (Ne.symm hg)
    have hget : ∀ (j : Nat) y, (splice ys (i * ks.length) x)[j]? = some y → (i * ks.length ≤ j ∧ j < i * ks.length + ks.length ∧ x[j - i * ks.length]? = some y) ∨ (¬ (i * ks.length ≤ j ∧ j < i * ks.length + ks.length) ∧ ys[j]? = some y) := by
      intro j y hy
      rw [splice_get x ys _ j (by omega), hxl] at hy
      split at hy
      · rename_i hj; exact .inl ⟨hj.1, hj.2, hy⟩
      · rename_i hj; exact .inr ⟨hj, hy⟩
    have hcell : ∀ y, (y ∈ x ∨ y ∈ ys) → ∀ g, blkOf y = some g → ((H1 ++ K).set b ⟨splice cs (0 + i * ks.length) x, .own⟩)[g]? = (H1 ++ K)[g]? := by
      intro y hy g hg
      refine hs2 g ?_
      rintro rfl
      rcases hy with hy | hy
      · have := hf y hy g hg; omega
      · obtain ⟨j, hj⟩ := List.mem_iff_getElem?.1 hy
        exact hot.out j y hj g rfl hg
  · refine ⟨⟨by rw [splice_length]; exact hyl, .inr ⟨b, 0, _, rfl, set_at h2, by rw [splice_length]; omega, ?_⟩, ?_, ?_, ?_, ?_⟩, ?_⟩
    · intro j y hy
      rw [splice_get x cs _ _ (by omega), hxl]
      rcases hget j y hy with ⟨a1, a2, a3⟩ | ⟨a1, a2⟩
      · rw [if_pos (by omega), show 0 + j - (0 + i * ks.length) = j - i * ks.length by omega]; exact a3
      · rw [if_neg (by omega)]; exact h4 j y a2
    · intro i' c k y hi' hk hy
      have hc := (List.getElem?_eq_some_iff.1 hk).1
      rcases hget _ y hy with ⟨a1, a2, a3⟩ | ⟨a1, a2⟩
      · have e : i' = i := by
          rcases Nat.lt_trichotomy i' i with h5 | h5 | h5
          · have := row_lt (s := ks.length) h5; omega
          · exact h5
          · have := row_lt (s := ks.length) h5; omega
        subst e
        rw [Nat.add_sub_cancel_left] at a3
        exact (hx.get c k y hk a3).same fun g hg => get_rd (hcell y (.inl (List.mem_of_getElem? a3)) g hg)
      · exact (hot2.ok i' c k y hi' hk a2).same fun g hg => get_rd (hcell y (.inr (List.mem_of_getElem? a2)) g hg)
    · intro j y hy
      rcases hget j y hy with ⟨a1, a2, a3⟩ | ⟨a1, a2⟩
      · exact (ho y (List.mem_of_getElem? a3)).same (hcell y (.inl (List.mem_of_getElem? a3)))
      · exact (hot2.own j y a2).same (hcell y (.inr (List.mem_of_getElem? a2)))
    · intro j y hy g hg hg2
      simp [blkOf] at hg
      subst hg
      rcases hget j y hy with ⟨a1, a2, a3⟩ | ⟨a1, a2⟩
      · have := hf y (List.mem_of_getElem? a3) b hg2; omega
      · exact hot.out j y a2 b rfl hg2
    · intro j j' y z hjj hy hz
      have cross : ∀ y z, y ∈ x → z ∈ ys → Dj y z := fun y z hy hz g hg hg2 => by
        have := hf y hy g hg; have := hot.lt g (.inr ⟨z, hz, hg2⟩); omega
      rcases hget j y hy with ⟨a1, a2, a3⟩ | ⟨a1, a2⟩ <;> rcases hget j' z hz with ⟨b1, b2, b3⟩ | ⟨b1, b2⟩
      · exact pw_get hdj _ _ y z (by omega) a3 b3
      · exact cross y z (List.mem_of_getElem? a3) (List.mem_of_getElem? b2)
      · exact (cross z y (List.mem_of_getElem? b3) (List.mem_of_getElem? a2)).symm
      · exact hot.dif j j' y z hjj a2 b2
    · rintro g (hg | ⟨y, hy, hg⟩)
      · exact h.fr g (.inl hg)
      · obtain ⟨j, hj⟩ := List.mem_iff_getElem?.1 hy
        rcases hget j y hj with ⟨a1, a2, a3⟩ | ⟨a1, a2⟩
        · have := hf y (List.mem_of_getElem? a3) g hg; omega
        · exact h.fr g (.inr ⟨y, List.mem_of_getElem? a2, hg⟩)
  · have e1 : splice ys (i * ks.length) x = ys.take (i * ks.length) ++ x ++ ys.drop (i * ks.length + x.length) := splice_take_eq (by omega)
    rw [e1]
    unfold cvs
    rw [List.map_append, List.take_append_of_le_length (by simp; rw [Nat.add_mul]; omega), List.take_of_length_le (by simp; rw [Nat.add_mul]; omega), List.map_append, ← List.map_take]
    congr 1
    · refine List.map_congr_left fun y hy => ?_
      have hmem := List.mem_of_mem_take hy
      rw [cv_same fun g hg => get_rd (hcell y (.inr hmem) g hg)]
      obtain ⟨j, hj⟩ := List.mem_iff_getElem?.1 hmem
      obtain ⟨kd, hkd⟩ := hot.frow.cell hj
      exact cv_mono hkd
    · exact List.map_congr_left fun y hy => cv_same fun g hg => get_rd (hcell y (.inl hy) g hg)

theorem szI_add {a b : Nat} {q : Int} (hq : q ≤ 1048576) : (if szI a q < 0 then -1 else szI b (szI a q)) = szI (a + b) q := by
  unfold szI
  split <;> split <;> split <;> omega
theorem szI_neg {a : Nat} {q : Int} (h : szI a q < 0) : szI a q = -1 := by
  unfold szI at h ⊢
  split at h <;> omega
/-- A new element. -/
structure NewE (H0 H : AH) (v : Value) (ks : List CK) (vals : List CV) (y : List Value) : Prop where
  eq : v = .agg y.toArray
  ok : All2 H ks y
  own : ∀ c ∈ y, OwnC H c
  fr : ∀ c ∈ y, ∀ b, blkOf c = some b → H0.length ≤ b
  pw : y.Pairwise Dj
  vals : y.map (cv H) = vals
abbrev kVarw : List CK := [.b, .w, .w]
theorem szVar_el {H : AH} {x : List Value} {q : Int} (hx : All2 H kVarw x) (hq : -1 ≤ q ∧ q ≤ 1048576) : CallsA Try.prog 72 #[.agg x.toArray, .int .i64 q] H fun r H' => r = .int .i64 (szI (rsum (x.map (cv H))) q) ∧ ∃ K, H' = H ++ K := by
  obtain ⟨y0, _, rfl, ⟨s, rfl⟩, y1, _, rfl, k1, y2, _, rfl, k2, rfl⟩ := hx
  refine (szVar_ok k1.1 k2.1 k1.2 k2.2 hq).mono ?_
  rintro _ H' ⟨rfl, he⟩
  refine ⟨?_, he⟩
  have e2 : cv H (.bool s) = .b s := rfl
  simp only [List.map_cons, List.map_nil, cv_row k1.1, cv_row k2.1, e2, rsum, rsum1, List.sum_cons, List.sum_nil, Nat.add_zero, szA, Nat.zero_add]
  rw [szI_add hq.2]

theorem szVarS_fl {H : AH} {v : Value} {n : Nat} {xs : List Value} {q : Int} (hv : FRow H v kVarw n xs) (hl : n ≤ 9223372036854775807) (hq : -1 ≤ q ∧ q ≤ 1048576) :
    CallsA Try.prog 15 #[v, .int .i64 q] H fun r H' => r = .int .i64 (szI (n + rsum (cvs H xs)) q) ∧ ∃ K, H' = H ++ K := by
  obtain ⟨a, c, rfl, gv⟩ := hv.opn 3 rfl
  have lx : xs.length = n * 3 := hv.len
  refine w15 ?_
  unfold k15
  simp -implicitDefEqProofs only [rE_seq_n, rE_seq_r, rE_seq_e, rE_blk_n, rE_blk_r, rE_blk_e, rW_skip, rW_ret, rW_exit, rW_ops, rW_seq, rW_block, ↓two_true, ↓two_false, rC_bool, rW_cond, rO_nil, rO_cons, oG_t, oG_f, oG_undef, rO_guard, oV_some, rOV_eq, oP_move, oP_assign, oP_bin, oP_un, oP_index, oP_fieldAddr, oP_field, oP_indexAddr, oP_slice, oP_load, oP_convert, aPick_true, aPick_false, aPick_bool, oP_pick, aExtract_tup, oP_extract, oP_nilCheck, oP_build, oP_len, oP_cap, oP_max, oP_min, oP_makeFunc, oS_some, oP_store, oA_some, oP_append, oM_some, oP_alloc, oP_box, oP_buildSlice, oP_mkS, oP_call, oP_callv, oF_func, aev_tmp, aev_const, aev_func, aput_get, aput_none, bin_add, bin_sub, bin_mul, bin_eql, bin_neq, bin_lss, bin_leq, bin_gtr, bin_geq, un_not, un_neg, tm0_get, fin_ret, fin_end, oR_some, resL_nil, resL_tmp, resL_cell, tup_one, tup_two, tup_nil, cond_true, cond_false, load_eq, Option.bind_some, gt0, gti, mkv, List.length_append, List.length_cons, List.length_nil, List.append_assoc, List.cons_append, List.nil_append, rd0, rdi, wrt0, wrti, rdB_own, rdB_ro, wrB_own, oL_some, aggAt, sto_some, st0, sti, List.set_cons_zero, List.set_cons_succ, splice_nil, splice_cons, cells_agg, cells_int, cells_bool, cells_string, cells_pointer, cells_slice, leaf_int, leaf_bool, leaf_string, leaf_pointer, leaf_slice, List.size_toArray, List.all_cons, List.all_nil, Bool.and_self, Bool.and_true, and_self, true_and, and_true, Nat.zero_add, Nat.add_zero, Nat.reduceLeDiff, Nat.le_refl, List.drop_zero, List.drop_succ_cons, List.take_succ_cons, List.take_zero, Nat.reduceSub, lp_end, lp_ret, lp_exit, oV_ite, oS_ite, oA_ite, slc_some, sls_some, optInt_none, optInt_some, rW_draw, rD_nil, rDV_eq, rDR_eq, rDE_eq, rDS_n, rDS_e, rD_load, rD_conv, rD_pure, rD_e, rD_g, rDG_t, rDG_f, rDG_undef, chkH_nil, chkH_cons, chkP_nil, chkP_cons, aRead_load, aRead_conv, isE_store, isE_call, isE_append, rDS_l, rDS_c, pl_move, pl_assign, pl_pick, pl_alloc, pl_box, pl_build, pl_buildSlice, pl_nilCheck, pl_binOp, pl_unOp, pl_makeFunc, pl_makeSlice, pl_slice, pl_fieldAddr, pl_field, pl_indexAddr, pl_index, pl_extract, pl_len, pl_cap, pl_max, pl_min, List.mem_cons, Prod.mk.injEq, List.not_mem_nil, or_false, or_true, false_or, true_or, and_false, false_and, false_implies, implies_true, true_implies, oM_ite, fillP_nil, fillP_cons, fillQ_some, slq_some, most_max, most_min, Nat.reduceMul, List.getElem?_toArray, List.getElem?_cons_zero, List.getElem?_cons_succ, List.getElem?_nil, Option.getD_some, Option.getD_none, Nat.reduceEqDiff, reduceIte, Nat.reduceAdd, List.map_toArray, List.map_cons, List.map_nil, Bool.false_eq_true, Nat.reduceBEq, Option.map_some, Option.map_none, reduceCtorEq, ix22, ld86, ln22]
  rw [IntWalk.i64_in (q - ↑n) (by omega)]
  refine two_intro (fun h => ?_) (fun h => ?_)
  · exact ⟨by unfold szI; rw [if_pos (by simp at h; omega)], [], by simp⟩
  · have h' : ¬ q - n < 0 := by simpa using h
    refine rW_loop (σ := Nat) (fun i tm H' => tm 0 = .slice a n c ∧ tm 1 = .int .i64 (q - n - rsum ((cvs H xs).take (i * 3))) ∧ tm 5 = .int .i64 i ∧ (∃ K, H' = H ++ K) ∧ i ≤ n ∧ 0 ≤ q - n - rsum ((cvs H xs).take (i * 3))) (fun i => n - i) 0 ?_ ?_
    · simp -implicitDefEqProofs [rE_seq_n, rE_seq_r, rE_seq_e, rE_blk_n, rE_blk_r, rE_blk_e, rW_skip, rW_ret, rW_exit, rW_ops, rW_seq, rW_block, ↓two_true, ↓two_false, rC_bool, rW_cond, rO_nil, rO_cons, oG_t, oG_f, oG_undef, rO_guard, oV_some, rOV_eq, oP_move, oP_assign, oP_bin, oP_un, oP_index, oP_fieldAddr, oP_field, oP_indexAddr, oP_slice, oP_load, oP_convert, aPick_true, aPick_false, aPick_bool, oP_pick, aExtract_tup, oP_extract, oP_nilCheck, oP_build, oP_len, oP_cap, oP_max, oP_min, oP_makeFunc, oS_some, oP_store, oA_some, oP_append, oM_some, oP_alloc, oP_box, oP_buildSlice, oP_mkS, oP_call, oP_callv, oF_func, aev_tmp, aev_const, aev_func, aput_get, aput_none, bin_add, bin_sub, bin_mul, bin_eql, bin_neq, bin_lss, bin_leq, bin_gtr, bin_geq, un_not, un_neg, tm0_get, fin_ret, fin_end, oR_some, resL_nil, resL_tmp, resL_cell, tup_one, tup_two, tup_nil, cond_true, cond_false, load_eq, Option.bind_some, gt0, gti, mkv, List.length_append, List.length_cons, List.length_nil, List.append_assoc, List.cons_append, List.nil_append, rd0, rdi, wrt0, wrti, rdB_own, rdB_ro, wrB_own, oL_some, aggAt, sto_some, st0, sti, List.set_cons_zero, List.set_cons_succ, splice_nil, splice_cons, cells_agg, cells_int, cells_bool, cells_string, cells_pointer, cells_slice, leaf_int, leaf_bool, leaf_string, leaf_pointer, leaf_slice, List.size_toArray, List.all_cons, List.all_nil, Bool.and_self, Bool.and_true, and_self, true_and, and_true, Nat.zero_add, Nat.add_zero, Nat.reduceLeDiff, Nat.le_refl, List.drop_zero, List.drop_succ_cons, List.take_succ_cons, List.take_zero, Nat.reduceSub, lp_end, lp_ret, lp_exit, oV_ite, oS_ite, oA_ite, slc_some, sls_some, optInt_none, optInt_some, rW_draw, rD_nil, rDV_eq, rDR_eq, rDE_eq, rDS_n, rDS_e, rD_load, rD_conv, rD_pure, rD_e, rD_g, rDG_t, rDG_f, rDG_undef, chkH_nil, chkH_cons, chkP_nil, chkP_cons, aRead_load, aRead_conv, isE_store, isE_call, isE_append, rDS_l, rDS_c, pl_move, pl_assign, pl_pick, pl_alloc, pl_box, pl_build, pl_buildSlice, pl_nilCheck, pl_binOp, pl_unOp, pl_makeFunc, pl_makeSlice, pl_slice, pl_fieldAddr, pl_field, pl_indexAddr, pl_index, pl_extract, pl_len, pl_cap, pl_max, pl_min, List.mem_cons, Prod.mk.injEq, List.not_mem_nil, or_false, or_true, false_or, true_or, and_false, false_and, false_implies, implies_true, true_implies, oM_ite, fillP_nil, fillP_cons, fillQ_some, slq_some, most_max, most_min, Nat.reduceMul, List.getElem?_toArray, List.getElem?_cons_zero, List.getElem?_cons_succ, List.getElem?_nil, Option.getD_some, Option.getD_none, Nat.reduceEqDiff, reduceIte, Nat.reduceAdd, List.map_toArray, List.map_cons, List.map_nil, Bool.false_eq_true, Nat.reduceBEq, Option.map_some, Option.map_none, reduceCtorEq, ix22, ld86, ln22, rsum]
      omega
    · rintro i tm H' ⟨h0, h1, h5, ⟨K, rfl⟩, hi, hs⟩
      simp -implicitDefEqProofs only [rE_seq_n, rE_seq_r, rE_seq_e, rE_blk_n, rE_blk_r, rE_blk_e, rW_skip, rW_ret, rW_exit, rW_ops, rW_seq, rW_block, ↓two_true, ↓two_false, rC_bool, rW_cond, rO_nil, rO_cons, oG_t, oG_f, oG_undef, rO_guard, oV_some, rOV_eq, oP_move, oP_assign, oP_bin, oP_un, oP_index, oP_fieldAddr, oP_field, oP_indexAddr, oP_slice, oP_load, oP_convert, aPick_true, aPick_false, aPick_bool, oP_pick, aExtract_tup, oP_extract, oP_nilCheck, oP_build, oP_len, oP_cap, oP_max, oP_min, oP_makeFunc, oS_some, oP_store, oA_some, oP_append, oM_some, oP_alloc, oP_box, oP_buildSlice, oP_mkS, oP_call, oP_callv, oF_func, aev_tmp, aev_const, aev_func, aput_get, aput_none, bin_add, bin_sub, bin_mul, bin_eql, bin_neq, bin_lss, bin_leq, bin_gtr, bin_geq, un_not, un_neg, tm0_get, fin_ret, fin_end, oR_some, resL_nil, resL_tmp, resL_cell, tup_one, tup_two, tup_nil, cond_true, cond_false, load_eq, Option.bind_some, gt0, gti, mkv, List.length_append, List.length_cons, List.length_nil, List.append_assoc, List.cons_append, List.nil_append, rd0, rdi, wrt0, wrti, rdB_own, rdB_ro, wrB_own, oL_some, aggAt, sto_some, st0, sti, List.set_cons_zero, List.set_cons_succ, splice_nil, splice_cons, cells_agg, cells_int, cells_bool, cells_string, cells_pointer, cells_slice, leaf_int, leaf_bool, leaf_string, leaf_pointer, leaf_slice, List.size_toArray, List.all_cons, List.all_nil, Bool.and_self, Bool.and_true, and_self, true_and, and_true, Nat.zero_add, Nat.add_zero, Nat.reduceLeDiff, Nat.le_refl, List.drop_zero, List.drop_succ_cons, List.take_succ_cons, List.take_zero, Nat.reduceSub, lp_end, lp_ret, lp_exit, oV_ite, oS_ite, oA_ite, slc_some, sls_some, optInt_none, optInt_some, rW_draw, rD_nil, rDV_eq, rDR_eq, rDE_eq, rDS_n, rDS_e, rD_load, rD_conv, rD_pure, rD_e, rD_g, rDG_t, rDG_f, rDG_undef, chkH_nil, chkH_cons, chkP_nil, chkP_cons, aRead_load, aRead_conv, isE_store, isE_call, isE_append, rDS_l, rDS_c, pl_move, pl_assign, pl_pick, pl_alloc, pl_box, pl_build, pl_buildSlice, pl_nilCheck, pl_binOp, pl_unOp, pl_makeFunc, pl_makeSlice, pl_slice, pl_fieldAddr, pl_field, pl_indexAddr, pl_index, pl_extract, pl_len, pl_cap, pl_max, pl_min, List.mem_cons, Prod.mk.injEq, List.not_mem_nil, or_false, or_true, false_or, true_or, and_false, false_and, false_implies, implies_true, true_implies, oM_ite, fillP_nil, fillP_cons, fillQ_some, slq_some, most_max, most_min, Nat.reduceMul, List.getElem?_toArray, List.getElem?_cons_zero, List.getElem?_cons_succ, List.getElem?_nil, Option.getD_some, Option.getD_none, Nat.reduceEqDiff, reduceIte, Nat.reduceAdd, List.map_toArray, List.map_cons, List.map_nil, Bool.false_eq_true, Nat.reduceBEq, Option.map_some, Option.map_none, reduceCtorEq, ix22, ld86, ln22, h0, h1, h5]
      refine two_intro (fun hc => ?_) (fun hc => ?_)
      · have hc' : i < n := by simpa using hc
        obtain ⟨b, o, cs, rfl, rfl, hrd, hle, hcell⟩ := gv (by omega)
        have g1 : rd (H ++ K) b = some cs := by rw [rdl (by simp [hrd]), hrd]
        have l1 : ld Try.prog 86 (o + i * 3) cs = some (.agg (elm 3 xs i).toArray) := by rw [ld86]; exact (hcell i hc').1
        have x1 := hv.elemn 3 rfl hc'
        have ez := fun Φ => (szVar_el (x1.mono (L := K)) (q := q - n - rsum ((cvs H xs).take (i * 3))) ⟨by omega, by omega⟩).eqV (Φ := Φ)
        rw [x1.mapcv] at ez
        have hsum : rsum ((cvs H xs).take ((i + 1) * 3)) = rsum ((cvs H xs).take (i * 3)) + rsum ((elm 3 xs i).map (cv H)) := by rw [cvs_take, rsum_append]
        have hle2 := rsum_take (l := cvs H xs) (p := (i + 1) * 3)
        simp -implicitDefEqProofs only [rE_seq_n, rE_seq_r, rE_seq_e, rE_blk_n, rE_blk_r, rE_blk_e, rW_skip, rW_ret, rW_exit, rW_ops, rW_seq, rW_block, ↓two_true, ↓two_false, rC_bool, rW_cond, rO_nil, rO_cons, oG_t, oG_f, oG_undef, rO_guard, oV_some, rOV_eq, oP_move, oP_assign, oP_bin, oP_un, oP_index, oP_fieldAddr, oP_field, oP_indexAddr, oP_slice, oP_load, oP_convert, aPick_true, aPick_false, aPick_bool, oP_pick, aExtract_tup, oP_extract, oP_nilCheck, oP_build, oP_len, oP_cap, oP_max, oP_min, oP_makeFunc, oS_some, oP_store, oA_some, oP_append, oM_some, oP_alloc, oP_box, oP_buildSlice, oP_mkS, oP_call, oP_callv, oF_func, aev_tmp, aev_const, aev_func, aput_get, aput_none, bin_add, bin_sub, bin_mul, bin_eql, bin_neq, bin_lss, bin_leq, bin_gtr, bin_geq, un_not, un_neg, tm0_get, fin_ret, fin_end, oR_some, resL_nil, resL_tmp, resL_cell, tup_one, tup_two, tup_nil, cond_true, cond_false, load_eq, Option.bind_some, gt0, gti, mkv, List.length_append, List.length_cons, List.length_nil, List.append_assoc, List.cons_append, List.nil_append, rd0, rdi, wrt0, wrti, rdB_own, rdB_ro, wrB_own, oL_some, aggAt, sto_some, st0, sti, List.set_cons_zero, List.set_cons_succ, splice_nil, splice_cons, cells_agg, cells_int, cells_bool, cells_string, cells_pointer, cells_slice, leaf_int, leaf_bool, leaf_string, leaf_pointer, leaf_slice, List.size_toArray, List.all_cons, List.all_nil, Bool.and_self, Bool.and_true, and_self, true_and, and_true, Nat.zero_add, Nat.add_zero, Nat.reduceLeDiff, Nat.le_refl, List.drop_zero, List.drop_succ_cons, List.take_succ_cons, List.take_zero, Nat.reduceSub, lp_end, lp_ret, lp_exit, oV_ite, oS_ite, oA_ite, slc_some, sls_some, optInt_none, optInt_some, rW_draw, rD_nil, rDV_eq, rDR_eq, rDE_eq, rDS_n, rDS_e, rD_load, rD_conv, rD_pure, rD_e, rD_g, rDG_t, rDG_f, rDG_undef, chkH_nil, chkH_cons, chkP_nil, chkP_cons, aRead_load, aRead_conv, isE_store, isE_call, isE_append, rDS_l, rDS_c, pl_move, pl_assign, pl_pick, pl_alloc, pl_box, pl_build, pl_buildSlice, pl_nilCheck, pl_binOp, pl_unOp, pl_makeFunc, pl_makeSlice, pl_slice, pl_fieldAddr, pl_field, pl_indexAddr, pl_index, pl_extract, pl_len, pl_cap, pl_max, pl_min, List.mem_cons, Prod.mk.injEq, List.not_mem_nil, or_false, or_true, false_or, true_or, and_false, false_and, false_implies, implies_true, true_implies, oM_ite, fillP_nil, fillP_cons, fillQ_some, slq_some, most_max, most_min, Nat.reduceMul, List.getElem?_toArray, List.getElem?_cons_zero, List.getElem?_cons_succ, List.getElem?_nil, Option.getD_some, Option.getD_none, Nat.reduceEqDiff, reduceIte, Nat.reduceAdd, List.map_toArray, List.map_cons, List.map_nil, Bool.false_eq_true, Nat.reduceBEq, Option.map_some, Option.map_none, reduceCtorEq, ix22, ld86, ln22, h0, h1, h5, Int.toNat_natCast, g1, l1, ez, IntWalk.i64_in (↑i + 1) (by omega)]
        refine ⟨⟨by omega, by omega⟩, two_intro (fun h => ?_) (fun h => ?_)⟩
        · have h2 := szI_neg (by simpa using h)
          refine ⟨?_, _, rfl⟩
          congr 1
          unfold szI at h2 ⊢
          split at h2
          · rw [if_pos (by omega)]
          · omega
        · have h2 : ¬ szI (rsum ((elm 3 xs i).map (cv H))) (q - n - rsum ((cvs H xs).take (i * 3))) < 0 := by simpa using h
          have h3 : szI (rsum ((elm 3 xs i).map (cv H))) (q - n - rsum ((cvs H xs).take (i * 3))) = q - n - rsum ((cvs H xs).take ((i + 1) * 3)) := by
            unfold szI at h2 ⊢
            split
            · rename_i h4; rw [if_pos h4] at h2; omega
            · omega
          rw [h3] at h2 ⊢
          exact ⟨i + 1, by omega, rfl, by simp, ⟨_, rfl⟩, hc', by omega⟩
      · have hc' : ¬ i < n := by simpa using hc
        have hil : i = n := by omega
        rw [hil, List.take_of_length_le (by simp [cvs, lx])] at hs ⊢
        refine ⟨?_, K, rfl⟩
        unfold szI
        rw [if_neg (by omega)]
        congr 1
        omega

theorem toVar_el {H : AH} {x : List Value} (hx : All2 H kVar x) (hs : rsum (x.map (cv H)) ≤ 1048576) : CallsA Try.prog 74 #[.agg x.toArray] H fun r H' => (∃ y, NewE H H' r kVar (x.map (cv H)) y) ∧ ∃ K, H' = H ++ K := by
  obtain ⟨y0, _, rfl, ⟨s, rfl⟩, y1, _, rfl, k1, y2, _, rfl, k2, rfl⟩ := hx
  have e0 := cv_row k1.1
  have e1 := cv_row k2.1
  have e2 : cv H (.bool s) = .b s := rfl
  simp only [List.map_cons, List.map_nil, e0, e1, e2, rsum, rsum1, List.sum_cons, List.sum_nil] at hs ⊢
  refine (toVar_ok k1.1 k2.1 (by omega) (by omega)).mono ?_
  rintro _ H' ⟨p', q', rfl, o1, o2, d, n1, n2, he⟩
  have r1 := o1.kok (by omega)
  have r2 := o2.kok (by omega)
  refine ⟨⟨[.bool s, p', q'], rfl, ⟨_, _, rfl, ⟨s, rfl⟩, _, _, rfl, r1.1, _, _, rfl, r2.1, rfl⟩, by simp; exact ⟨.inr (.inl ⟨s, rfl⟩), r1.2.1, r2.2.1⟩, by simp [blkOf]; exact ⟨n1, n2⟩, by simp [d, dj_bool], by simp only [List.map_cons, List.map_nil, r1.2.2, r2.2.2]; rfl⟩, he⟩

theorem toVarS_fl {H : AH} {v : Value} {n : Nat} {xs : List Value} (hv : FRow H v kVar n xs) (hl : n ≤ 1048576) (hs : rsum (cvs H xs) ≤ 1048576) :
    CallsA Try.prog 17 #[v] H fun r H' => (∃ ys, New H H' r kVar n ys ∧ cvs H' ys = cvs H xs) ∧ ∃ K, H' = H ++ K := by
  obtain ⟨a, c, rfl, gv⟩ := hv.opn 3 rfl
  have lx : xs.length = n * 3 := hv.len
  have hz : (List.replicate n [.bool false, .slice none 0 0, .slice none 0 0]).flatten = zrow kVar n := rfl
  refine w17 ?_
  unfold k17
  simp -implicitDefEqProofs only [rE_seq_n, rE_seq_r, rE_seq_e, rE_blk_n, rE_blk_r, rE_blk_e, rW_skip, rW_ret, rW_exit, rW_ops, rW_seq, rW_block, ↓two_true, ↓two_false, rC_bool, rW_cond, rO_nil, rO_cons, oG_t, oG_f, oG_undef, rO_guard, oV_some, rOV_eq, oP_move, oP_assign, oP_bin, oP_un, oP_index, oP_fieldAddr, oP_field, oP_indexAddr, oP_slice, oP_load, oP_convert, aPick_true, aPick_false, aPick_bool, oP_pick, aExtract_tup, oP_extract, oP_nilCheck, oP_build, oP_len, oP_cap, oP_max, oP_min, oP_makeFunc, oS_some, oP_store, oA_some, oP_append, oM_some, oP_alloc, oP_box, oP_buildSlice, oP_mkS, oP_call, oP_callv, oF_func, aev_tmp, aev_const, aev_func, aput_get, aput_none, bin_add, bin_sub, bin_mul, bin_eql, bin_neq, bin_lss, bin_leq, bin_gtr, bin_geq, un_not, un_neg, tm0_get, fin_ret, fin_end, oR_some, resL_nil, resL_tmp, resL_cell, tup_one, tup_two, tup_nil, cond_true, cond_false, load_eq, Option.bind_some, gt0, gti, mkv, List.length_append, List.length_cons, List.length_nil, List.append_assoc, List.cons_append, List.nil_append, rd0, rdi, wrt0, wrti, rdB_own, rdB_ro, wrB_own, oL_some, aggAt, sto_some, st0, sti, List.set_cons_zero, List.set_cons_succ, splice_nil, splice_cons, cells_agg, cells_int, cells_bool, cells_string, cells_pointer, cells_slice, leaf_int, leaf_bool, leaf_string, leaf_pointer, leaf_slice, List.size_toArray, List.all_cons, List.all_nil, Bool.and_self, Bool.and_true, and_self, true_and, and_true, Nat.zero_add, Nat.add_zero, Nat.reduceLeDiff, Nat.le_refl, List.drop_zero, List.drop_succ_cons, List.take_succ_cons, List.take_zero, Nat.reduceSub, lp_end, lp_ret, lp_exit, oV_ite, oS_ite, oA_ite, slc_some, sls_some, optInt_none, optInt_some, rW_draw, rD_nil, rDV_eq, rDR_eq, rDE_eq, rDS_n, rDS_e, rD_load, rD_conv, rD_pure, rD_e, rD_g, rDG_t, rDG_f, rDG_undef, chkH_nil, chkH_cons, chkP_nil, chkP_cons, aRead_load, aRead_conv, isE_store, isE_call, isE_append, rDS_l, rDS_c, pl_move, pl_assign, pl_pick, pl_alloc, pl_box, pl_build, pl_buildSlice, pl_nilCheck, pl_binOp, pl_unOp, pl_makeFunc, pl_makeSlice, pl_slice, pl_fieldAddr, pl_field, pl_indexAddr, pl_index, pl_extract, pl_len, pl_cap, pl_max, pl_min, List.mem_cons, Prod.mk.injEq, List.not_mem_nil, or_false, or_true, false_or, true_or, and_false, false_and, false_implies, implies_true, true_implies, oM_ite, fillP_nil, fillP_cons, fillQ_some, slq_some, most_max, most_min, Nat.reduceMul, List.getElem?_toArray, List.getElem?_cons_zero, List.getElem?_cons_succ, List.getElem?_nil, Option.getD_some, Option.getD_none, Nat.reduceEqDiff, reduceIte, Nat.reduceAdd, List.map_toArray, List.map_cons, List.map_nil, Bool.false_eq_true, Nat.reduceBEq, Option.map_some, Option.map_none, reduceCtorEq, ix22, ix25, ld86, ln22, ms25, st89, Int.toNat_natCast, hz]
  refine ⟨⟨by omega, by omega⟩, ?_⟩
  refine rW_loop (σ := Nat × List Value) (fun (i, ys) tm H' => tm 0 = .slice a n c ∧ tm 3 = .slice (some ⟨H.length, 0, none⟩) n 3 ∧ tm 4 = .int .i64 i ∧ i ≤ n ∧ New H H' (.slice (some ⟨H.length, 0, none⟩) n 3) kVar n ys ∧ (cvs H' ys).take (i * 3) = (cvs H xs).take (i * 3) ∧ ∃ K, H' = H ++ K) (fun s => n - s.1) (0, zrow kVar n) ?_ ?_
  · simp -implicitDefEqProofs [rE_seq_n, rE_seq_r, rE_seq_e, rE_blk_n, rE_blk_r, rE_blk_e, rW_skip, rW_ret, rW_exit, rW_ops, rW_seq, rW_block, ↓two_true, ↓two_false, rC_bool, rW_cond, rO_nil, rO_cons, oG_t, oG_f, oG_undef, rO_guard, oV_some, rOV_eq, oP_move, oP_assign, oP_bin, oP_un, oP_index, oP_fieldAddr, oP_field, oP_indexAddr, oP_slice, oP_load, oP_convert, aPick_true, aPick_false, aPick_bool, oP_pick, aExtract_tup, oP_extract, oP_nilCheck, oP_build, oP_len, oP_cap, oP_max, oP_min, oP_makeFunc, oS_some, oP_store, oA_some, oP_append, oM_some, oP_alloc, oP_box, oP_buildSlice, oP_mkS, oP_call, oP_callv, oF_func, aev_tmp, aev_const, aev_func, aput_get, aput_none, bin_add, bin_sub, bin_mul, bin_eql, bin_neq, bin_lss, bin_leq, bin_gtr, bin_geq, un_not, un_neg, tm0_get, fin_ret, fin_end, oR_some, resL_nil, resL_tmp, resL_cell, tup_one, tup_two, tup_nil, cond_true, cond_false, load_eq, Option.bind_some, gt0, gti, mkv, List.length_append, List.length_cons, List.length_nil, List.append_assoc, List.cons_append, List.nil_append, rd0, rdi, wrt0, wrti, rdB_own, rdB_ro, wrB_own, oL_some, aggAt, sto_some, st0, sti, List.set_cons_zero, List.set_cons_succ, splice_nil, splice_cons, cells_agg, cells_int, cells_bool, cells_string, cells_pointer, cells_slice, leaf_int, leaf_bool, leaf_string, leaf_pointer, leaf_slice, List.size_toArray, List.all_cons, List.all_nil, Bool.and_self, Bool.and_true, and_self, true_and, and_true, Nat.zero_add, Nat.add_zero, Nat.reduceLeDiff, Nat.le_refl, List.drop_zero, List.drop_succ_cons, List.take_succ_cons, List.take_zero, Nat.reduceSub, lp_end, lp_ret, lp_exit, oV_ite, oS_ite, oA_ite, slc_some, sls_some, optInt_none, optInt_some, rW_draw, rD_nil, rDV_eq, rDR_eq, rDE_eq, rDS_n, rDS_e, rD_load, rD_conv, rD_pure, rD_e, rD_g, rDG_t, rDG_f, rDG_undef, chkH_nil, chkH_cons, chkP_nil, chkP_cons, aRead_load, aRead_conv, isE_store, isE_call, isE_append, rDS_l, rDS_c, pl_move, pl_assign, pl_pick, pl_alloc, pl_box, pl_build, pl_buildSlice, pl_nilCheck, pl_binOp, pl_unOp, pl_makeFunc, pl_makeSlice, pl_slice, pl_fieldAddr, pl_field, pl_indexAddr, pl_index, pl_extract, pl_len, pl_cap, pl_max, pl_min, List.mem_cons, Prod.mk.injEq, List.not_mem_nil, or_false, or_true, false_or, true_or, and_false, false_and, false_implies, implies_true, true_implies, oM_ite, fillP_nil, fillP_cons, fillQ_some, slq_some, most_max, most_min, Nat.reduceMul, List.getElem?_toArray, List.getElem?_cons_zero, List.getElem?_cons_succ, List.getElem?_nil, Option.getD_some, Option.getD_none, Nat.reduceEqDiff, reduceIte, Nat.reduceAdd, List.map_toArray, List.map_cons, List.map_nil, Bool.false_eq_true, Nat.reduceBEq, Option.map_some, Option.map_none, reduceCtorEq, ix22, ix25, ld86, ln22, ms25, st89]
    exact New.zrow
  · rintro ⟨i, ys⟩ tm H1 ⟨h0, h3, h4, hi, hn, hc, he⟩
    simp -implicitDefEqProofs only [rE_seq_n, rE_seq_r, rE_seq_e, rE_blk_n, rE_blk_r, rE_blk_e, rW_skip, rW_ret, rW_exit, rW_ops, rW_seq, rW_block, ↓two_true, ↓two_false, rC_bool, rW_cond, rO_nil, rO_cons, oG_t, oG_f, oG_undef, rO_guard, oV_some, rOV_eq, oP_move, oP_assign, oP_bin, oP_un, oP_index, oP_fieldAddr, oP_field, oP_indexAddr, oP_slice, oP_load, oP_convert, aPick_true, aPick_false, aPick_bool, oP_pick, aExtract_tup, oP_extract, oP_nilCheck, oP_build, oP_len, oP_cap, oP_max, oP_min, oP_makeFunc, oS_some, oP_store, oA_some, oP_append, oM_some, oP_alloc, oP_box, oP_buildSlice, oP_mkS, oP_call, oP_callv, oF_func, aev_tmp, aev_const, aev_func, aput_get, aput_none, bin_add, bin_sub, bin_mul, bin_eql, bin_neq, bin_lss, bin_leq, bin_gtr, bin_geq, un_not, un_neg, tm0_get, fin_ret, fin_end, oR_some, resL_nil, resL_tmp, resL_cell, tup_one, tup_two, tup_nil, cond_true, cond_false, load_eq, Option.bind_some, gt0, gti, mkv, List.length_append, List.length_cons, List.length_nil, List.append_assoc, List.cons_append, List.nil_append, rd0, rdi, wrt0, wrti, rdB_own, rdB_ro, wrB_own, oL_some, aggAt, sto_some, st0, sti, List.set_cons_zero, List.set_cons_succ, splice_nil, splice_cons, cells_agg, cells_int, cells_bool, cells_string, cells_pointer, cells_slice, leaf_int, leaf_bool, leaf_string, leaf_pointer, leaf_slice, List.size_toArray, List.all_cons, List.all_nil, Bool.and_self, Bool.and_true, and_self, true_and, and_true, Nat.zero_add, Nat.add_zero, Nat.reduceLeDiff, Nat.le_refl, List.drop_zero, List.drop_succ_cons, List.take_succ_cons, List.take_zero, Nat.reduceSub, lp_end, lp_ret, lp_exit, oV_ite, oS_ite, oA_ite, slc_some, sls_some, optInt_none, optInt_some, rW_draw, rD_nil, rDV_eq, rDR_eq, rDE_eq, rDS_n, rDS_e, rD_load, rD_conv, rD_pure, rD_e, rD_g, rDG_t, rDG_f, rDG_undef, chkH_nil, chkH_cons, chkP_nil, chkP_cons, aRead_load, aRead_conv, isE_store, isE_call, isE_append, rDS_l, rDS_c, pl_move, pl_assign, pl_pick, pl_alloc, pl_box, pl_build, pl_buildSlice, pl_nilCheck, pl_binOp, pl_unOp, pl_makeFunc, pl_makeSlice, pl_slice, pl_fieldAddr, pl_field, pl_indexAddr, pl_index, pl_extract, pl_len, pl_cap, pl_max, pl_min, List.mem_cons, Prod.mk.injEq, List.not_mem_nil, or_false, or_true, false_or, true_or, and_false, false_and, false_implies, implies_true, true_implies, oM_ite, fillP_nil, fillP_cons, fillQ_some, slq_some, most_max, most_min, Nat.reduceMul, List.getElem?_toArray, List.getElem?_cons_zero, List.getElem?_cons_succ, List.getElem?_nil, Option.getD_some, Option.getD_none, Nat.reduceEqDiff, reduceIte, Nat.reduceAdd, List.map_toArray, List.map_cons, List.map_nil, Bool.false_eq_true, Nat.reduceBEq, Option.map_some, Option.map_none, reduceCtorEq, ix22, ix25, ld86, ln22, ms25, st89, h0, h3, h4]
    refine two_intro (fun hc' => ?_) (fun hc' => ?_)
    · have hlt : i < n := by simpa using hc'
      obtain ⟨b, o, cs, rfl, rfl, hrd, hle, hcell⟩ := gv (by omega)
      have hlen := ext_len he
      have g1 : rd H1 b = some cs := by obtain ⟨K, rfl⟩ := he; rw [rdl (by simp [hrd]), hrd]
      have l1 : ld Try.prog 86 (o + i * 3) cs = some (.agg (elm 3 xs i).toArray) := by rw [ld86]; exact (hcell i hlt).1
      have x1 := hv.elemn 3 rfl hlt
      have x2 : All2 H1 kVar (elm 3 xs i) ∧ (elm 3 xs i).map (cv H1) = (elm 3 xs i).map (cv H) := by
        obtain ⟨K, rfl⟩ := he
        exact ⟨x1.mono, x1.mapcv⟩
      have hsum : rsum ((cvs H xs).take ((i + 1) * 3)) = rsum ((cvs H xs).take (i * 3)) + rsum ((elm 3 xs i).map (cv H)) := by rw [cvs_take, rsum_append]
      have hle2 := rsum_take (l := cvs H xs) (p := (i + 1) * 3)
      simp -implicitDefEqProofs only [rE_seq_n, rE_seq_r, rE_seq_e, rE_blk_n, rE_blk_r, rE_blk_e, rW_skip, rW_ret, rW_exit, rW_ops, rW_seq, rW_block, ↓two_true, ↓two_false, rC_bool, rW_cond, rO_nil, rO_cons, oG_t, oG_f, oG_undef, rO_guard, oV_some, rOV_eq, oP_move, oP_assign, oP_bin, oP_un, oP_index, oP_fieldAddr, oP_field, oP_indexAddr, oP_slice, oP_load, oP_convert, aPick_true, aPick_false, aPick_bool, oP_pick, aExtract_tup, oP_extract, oP_nilCheck, oP_build, oP_len, oP_cap, oP_max, oP_min, oP_makeFunc, oS_some, oP_store, oA_some, oP_append, oM_some, oP_alloc, oP_box, oP_buildSlice, oP_mkS, oP_call, oP_callv, oF_func, aev_tmp, aev_const, aev_func, aput_get, aput_none, bin_add, bin_sub, bin_mul, bin_eql, bin_neq, bin_lss, bin_leq, bin_gtr, bin_geq, un_not, un_neg, tm0_get, fin_ret, fin_end, oR_some, resL_nil, resL_tmp, resL_cell, tup_one, tup_two, tup_nil, cond_true, cond_false, load_eq, Option.bind_some, gt0, gti, mkv, List.length_append, List.length_cons, List.length_nil, List.append_assoc, List.cons_append, List.nil_append, rd0, rdi, wrt0, wrti, rdB_own, rdB_ro, wrB_own, oL_some, aggAt, sto_some, st0, sti, List.set_cons_zero, List.set_cons_succ, splice_nil, splice_cons, cells_agg, cells_int, cells_bool, cells_string, cells_pointer, cells_slice, leaf_int, leaf_bool, leaf_string, leaf_pointer, leaf_slice, List.size_toArray, List.all_cons, List.all_nil, Bool.and_self, Bool.and_true, and_self, true_and, and_true, Nat.zero_add, Nat.add_zero, Nat.reduceLeDiff, Nat.le_refl, List.drop_zero, List.drop_succ_cons, List.take_succ_cons, List.take_zero, Nat.reduceSub, lp_end, lp_ret, lp_exit, oV_ite, oS_ite, oA_ite, slc_some, sls_some, optInt_none, optInt_some, rW_draw, rD_nil, rDV_eq, rDR_eq, rDE_eq, rDS_n, rDS_e, rD_load, rD_conv, rD_pure, rD_e, rD_g, rDG_t, rDG_f, rDG_undef, chkH_nil, chkH_cons, chkP_nil, chkP_cons, aRead_load, aRead_conv, isE_store, isE_call, isE_append, rDS_l, rDS_c, pl_move, pl_assign, pl_pick, pl_alloc, pl_box, pl_build, pl_buildSlice, pl_nilCheck, pl_binOp, pl_unOp, pl_makeFunc, pl_makeSlice, pl_slice, pl_fieldAddr, pl_field, pl_indexAddr, pl_index, pl_extract, pl_len, pl_cap, pl_max, pl_min, List.mem_cons, Prod.mk.injEq, List.not_mem_nil, or_false, or_true, false_or, true_or, and_false, false_and, false_implies, implies_true, true_implies, oM_ite, fillP_nil, fillP_cons, fillQ_some, slq_some, most_max, most_min, Nat.reduceMul, List.getElem?_toArray, List.getElem?_cons_zero, List.getElem?_cons_succ, List.getElem?_nil, Option.getD_some, Option.getD_none, Nat.reduceEqDiff, reduceIte, Nat.reduceAdd, List.map_toArray, List.map_cons, List.map_nil, Bool.false_eq_true, Nat.reduceBEq, Option.map_some, Option.map_none, reduceCtorEq, ix22, ix25, ld86, ln22, ms25, st89, h0, h3, h4, Int.toNat_natCast, g1, l1]
      refine ⟨⟨by omega, by omega⟩, (toVar_el x2.1 (by rw [x2.2]; omega)).mono ?_⟩
      rintro _ H2 ⟨⟨y, ne⟩, hK2⟩
      obtain ⟨cs2, hb2, hle2', hn2, hv2⟩ := hn.put 3 rfl hK2 hlt ne.ok ne.own ne.fr ne.pw hlen
      rw [ne.vals, x2.2, hc, ← cvs_take] at hv2
      have he2 := set_ext (b := H.length) (k := ⟨splice cs2 (0 + i * 3) y, .own⟩) (ext_trans he hK2) (Nat.le_refl _)
      obtain ⟨v0, _, e0, ⟨u0, rfl⟩, v1, _, rfl, j1, v2, _, rfl, j2, rfl⟩ := ne.ok
      obtain rfl := ne.eq
      subst e0
      obtain ⟨a1, c1, s1⟩ := j1.1.slice
      generalize hg1 : (rowI H2 v1).length = g1 at s1
      clear hg1 j1
      obtain ⟨a2, c2, s2⟩ := j2.1.slice
      generalize hg2 : (rowI H2 v2).length = g2 at s2
      clear hg2 j2
      subst s1
      subst s2
      simp only [splice_cons, splice_nil, Nat.zero_add, Nat.add_assoc, Nat.reduceAdd] at hn2 hv2 he2
      simp -implicitDefEqProofs only [rE_seq_n, rE_seq_r, rE_seq_e, rE_blk_n, rE_blk_r, rE_blk_e, rW_skip, rW_ret, rW_exit, rW_ops, rW_seq, rW_block, ↓two_true, ↓two_false, rC_bool, rW_cond, rO_nil, rO_cons, oG_t, oG_f, oG_undef, rO_guard, oV_some, rOV_eq, oP_move, oP_assign, oP_bin, oP_un, oP_index, oP_fieldAddr, oP_field, oP_indexAddr, oP_slice, oP_load, oP_convert, aPick_true, aPick_false, aPick_bool, oP_pick, aExtract_tup, oP_extract, oP_nilCheck, oP_build, oP_len, oP_cap, oP_max, oP_min, oP_makeFunc, oS_some, oP_store, oA_some, oP_append, oM_some, oP_alloc, oP_box, oP_buildSlice, oP_mkS, oP_call, oP_callv, oF_func, aev_tmp, aev_const, aev_func, aput_get, aput_none, bin_add, bin_sub, bin_mul, bin_eql, bin_neq, bin_lss, bin_leq, bin_gtr, bin_geq, un_not, un_neg, tm0_get, fin_ret, fin_end, oR_some, resL_nil, resL_tmp, resL_cell, tup_one, tup_two, tup_nil, cond_true, cond_false, load_eq, Option.bind_some, gt0, gti, mkv, List.length_append, List.length_cons, List.length_nil, List.append_assoc, List.cons_append, List.nil_append, rd0, rdi, wrt0, wrti, rdB_own, rdB_ro, wrB_own, oL_some, aggAt, sto_some, st0, sti, List.set_cons_zero, List.set_cons_succ, splice_nil, splice_cons, cells_agg, cells_int, cells_bool, cells_string, cells_pointer, cells_slice, leaf_int, leaf_bool, leaf_string, leaf_pointer, leaf_slice, List.size_toArray, List.all_cons, List.all_nil, Bool.and_self, Bool.and_true, and_self, true_and, and_true, Nat.zero_add, Nat.add_zero, Nat.reduceLeDiff, Nat.le_refl, List.drop_zero, List.drop_succ_cons, List.take_succ_cons, List.take_zero, Nat.reduceSub, lp_end, lp_ret, lp_exit, oV_ite, oS_ite, oA_ite, slc_some, sls_some, optInt_none, optInt_some, rW_draw, rD_nil, rDV_eq, rDR_eq, rDE_eq, rDS_n, rDS_e, rD_load, rD_conv, rD_pure, rD_e, rD_g, rDG_t, rDG_f, rDG_undef, chkH_nil, chkH_cons, chkP_nil, chkP_cons, aRead_load, aRead_conv, isE_store, isE_call, isE_append, rDS_l, rDS_c, pl_move, pl_assign, pl_pick, pl_alloc, pl_box, pl_build, pl_buildSlice, pl_nilCheck, pl_binOp, pl_unOp, pl_makeFunc, pl_makeSlice, pl_slice, pl_fieldAddr, pl_field, pl_indexAddr, pl_index, pl_extract, pl_len, pl_cap, pl_max, pl_min, List.mem_cons, Prod.mk.injEq, List.not_mem_nil, or_false, or_true, false_or, true_or, and_false, false_and, false_implies, implies_true, true_implies, oM_ite, fillP_nil, fillP_cons, fillQ_some, slq_some, most_max, most_min, Nat.reduceMul, List.getElem?_toArray, List.getElem?_cons_zero, List.getElem?_cons_succ, List.getElem?_nil, Option.getD_some, Option.getD_none, Nat.reduceEqDiff, reduceIte, Nat.reduceAdd, List.map_toArray, List.map_cons, List.map_nil, Bool.false_eq_true, Nat.reduceBEq, Option.map_some, Option.map_none, reduceCtorEq, ix22, ix25, ld86, ln22, ms25, st89, h0, h3, h4, Int.toNat_natCast, wrt_own hb2, Nat.add_assoc, Nat.reduceAdd, IntWalk.i64_in (↑i + 1) (by omega)]
      exact ⟨⟨by omega, by omega⟩, by omega, (i + 1, _), by simp only; omega, by simp, hlt, hn2, hv2, he2⟩
    · have hil : i = n := by have : ¬ i < n := by simpa using hc'
                             omega
      subst hil
      have ly : ys.length = i * 3 := hn.ot.len
      rw [List.take_of_length_le (by simp [cvs, ly]), List.take_of_length_le (by simp [cvs, lx])] at hc
      exact ⟨⟨ys, hn, hc⟩, he⟩

inductive Comp where
  | cells (ks : List CK) (xs : List Value)
  | row (v : Value) (ks : List CK) (n : Nat) (xs : List Value)
def Comp.xs : Comp → List Value
  | .cells _ xs => xs
  | .row _ _ _ xs => xs
def Comp.bs : Comp → Nat → Prop
  | .cells _ xs, b => ∃ y ∈ xs, blkOf y = some b
  | .row v _ _ xs, b => blkOf v = some b ∨ ∃ y ∈ xs, blkOf y = some b
def Comp.rd (H : AH) : Comp → Prop
  | .cells ks xs => All2 H ks xs
  | .row v ks n xs => FRow H v ks n xs
def Comp.own (H : AH) : Comp → Prop
  | .cells ks xs => All2 H ks xs ∧ (∀ y ∈ xs, OwnC H y) ∧ xs.Pairwise Dj
  | .row v ks n xs => OT H v ks n xs
theorem All2.rdable {H : AH} {ks : List CK} {xs : List Value} (h : All2 H ks xs) : ∀ b, (∃ y ∈ xs, blkOf y = some b) → (Go.Proofs.Ytgekbancaeabgaa.AM.rd H b).isSome = true := by
  rintro b ⟨y, hy, hb⟩
  obtain ⟨k, hk⟩ := h.mem hy
  exact hk.rdable b hb
theorem All2.same {H H' : AH} {ks : List CK} {xs : List Value} (h : All2 H ks xs) (hs : ∀ b, (∃ y ∈ xs, blkOf y = some b) → Go.Proofs.Ytgekbancaeabgaa.AM.rd H' b = Go.Proofs.Ytgekbancaeabgaa.AM.rd H b) : All2 H' ks xs :=
  All2.of h.len fun c k y hk hy => (h.get c k y hk hy).same fun b hb => hs b ⟨y, List.mem_of_getElem? hy, hb⟩
theorem Comp.own.rd {H : AH} {c : Comp} (h : c.own H) : c.rd H := by
  cases c with
  | cells ks xs => exact h.1
  | row v ks n xs => exact OT.frow h
theorem Comp.rd.able {H : AH} {c : Comp} (h : c.rd H) : ∀ b, c.bs b → (Go.Proofs.Ytgekbancaeabgaa.AM.rd H b).isSome = true := by
  cases c with
  | cells ks xs => exact All2.rdable h
  | row v ks n xs => exact FRow.rdable h
theorem rd_lt {H : AH} {b : Nat} (h : (Go.Proofs.Ytgekbancaeabgaa.AM.rd H b).isSome = true) : b < H.length := by
  rcases Nat.lt_or_ge b H.length with h1 | h1
  · exact h1
  · unfold Go.Proofs.Ytgekbancaeabgaa.AM.rd at h; rw [List.getElem?_eq_none h1] at h; cases h
theorem Comp.rd.same {H H' : AH} {c : Comp} (h : c.rd H) (hs : ∀ b, c.bs b → H'[b]? = H[b]?) : c.rd H' ∧ cvs H' c.xs = cvs H c.xs := by
  cases c with
  | cells ks xs => exact ⟨All2.same h fun b hb => get_rd (hs b hb), FRow.cvs_same fun b hb => get_rd (hs b hb)⟩
  | row v ks n xs => exact ⟨FRow.same h fun b hb => get_rd (hs b hb), FRow.cvs_same fun b hb => get_rd (hs b (.inr hb))⟩
theorem Comp.own.same {H H' : AH} {c : Comp} (h : c.own H) (hs : ∀ b, c.bs b → H'[b]? = H[b]?) : c.own H' := by
  cases c with
  | cells ks xs => exact ⟨(Comp.rd.same (c := .cells ks xs) h.1 hs).1, fun y hy => (h.2.1 y hy).same fun b hb => hs b ⟨y, hy, hb⟩, h.2.2⟩
  | row v ks n xs => exact OT.same h hs
def bsL (l : List Comp) (b : Nat) : Prop := ∃ c ∈ l, c.bs b
def Rd (H : AH) (l : List Comp) : Prop := ∀ c ∈ l, c.rd H
def cdj (c d : Comp) : Prop := ∀ b, c.bs b → ¬ d.bs b
def Own (H : AH) (l : List Comp) : Prop := (∀ c ∈ l, c.own H) ∧ l.Pairwise cdj
def mvs (H : AH) (l : List Comp) : List (List CV) := l.map fun c => cvs H c.xs
theorem Own.rd {H : AH} {l : List Comp} (h : Own H l) : Rd H l := fun c hc => (h.1 c hc).rd
theorem Rd.same {H H' : AH} {l : List Comp} (h : Rd H l) (hs : ∀ b, bsL l b → H'[b]? = H[b]?) : Rd H' l ∧ mvs H' l = mvs H l :=
  ⟨fun c hc => (Comp.rd.same (h c hc) fun b hb => hs b ⟨c, hc, hb⟩).1, List.map_congr_left fun c hc => (Comp.rd.same (h c hc) fun b hb => hs b ⟨c, hc, hb⟩).2⟩
theorem Own.same {H H' : AH} {l : List Comp} (h : Own H l) (hs : ∀ b, bsL l b → H'[b]? = H[b]?) : Own H' l := ⟨fun c hc => (h.1 c hc).same fun b hb => hs b ⟨c, hc, hb⟩, h.2⟩
theorem Rd.lt {H : AH} {l : List Comp} (h : Rd H l) : ∀ b, bsL l b → b < H.length := by
  rintro b ⟨c, hc, hb⟩
  exact rd_lt (Comp.rd.able (h c hc) b hb)
inductive LI where
  | blk (b : Nat) (k : Blk)
  | rd (l : List Comp) (V : List (List CV))
  | own (l : List Comp) (V : List (List CV))
def LI.ok (H : AH) : LI → Prop
  | .blk b k => H[b]? = some k
  | .rd l V => Rd H l ∧ mvs H l = V
  | .own l V => Own H l ∧ mvs H l = V
def LI.bs : LI → Nat → Prop
  | .blk b _, g => g = b
  | .rd l _, g => bsL l g
  | .own l _, g => bsL l g
theorem LI.ok.same {H H' : AH} {x : LI} (h : x.ok H) (hs : ∀ b, x.bs b → H'[b]? = H[b]?) : x.ok H' := by
  cases x with
  | blk b k => show H'[b]? = some k; rw [hs b rfl]; exact h
  | rd l V => obtain ⟨h1, h2⟩ := Rd.same h.1 hs; exact ⟨h1, by rw [h2]; exact h.2⟩
  | own l V => exact ⟨h.1.same hs, by rw [(Rd.same h.1.rd hs).2]; exact h.2⟩
theorem LI.ok.lt {H : AH} {x : LI} (h : x.ok H) : ∀ b, x.bs b → b < H.length := by
  cases x with
  | blk b k => intro g hg; cases hg; exact (List.getElem?_eq_some_iff.1 h).1
  | rd l V => exact Rd.lt h.1
  | own l V => exact Rd.lt h.1.rd
theorem LI.ok.ext {H H' : AH} {x : LI} (h : x.ok H) (he : ∃ K, H' = H ++ K) : x.ok H' := by
  obtain ⟨K, rfl⟩ := he
  exact h.same fun b hb => List.getElem?_append_left (h.lt b hb)
theorem LI.ok.box {H : AH} {cs : List Value} : LI.ok (H ++ [⟨cs, .own⟩]) (.blk H.length ⟨cs, .own⟩) := by
  show (H ++ [⟨cs, .own⟩])[H.length]? = _
  rw [gt0]; rfl
/-- What is alive stands beside the blocks from 'lo' to 'hi'. -/
def LI.off (lo hi : Nat) (x : LI) : Prop := ∀ b, x.bs b → ¬ (lo ≤ b ∧ b < hi)
theorem LI.ok.frame {H H' : AH} {x : LI} {lo hi : Nat} (h : x.ok H) (hf : ∀ b, b < H.length → ¬ (lo ≤ b ∧ b < hi) → H'[b]? = H[b]?) (ho : x.off lo hi) : x.ok H' := h.same fun b hb => hf b (h.lt b hb) (ho b hb)
/-- The blocks of what is alive. -/
def LI.rg (lo hi : Nat) (x : LI) : Prop := ∀ b, x.bs b → lo ≤ b ∧ b < hi
theorem LI.rg.off {x : LI} {lo hi lo' hi' : Nat} (h : x.rg lo hi) (hd : hi ≤ lo' ∨ hi' ≤ lo) : x.off lo' hi' := fun b hb => by have := h b hb; omega
/-- New things. -/
structure NewL (H0 H : AH) (l : List Comp) (V : List (List CV)) : Prop where
  own : Own H l
  fr : ∀ b, bsL l b → H0.length ≤ b
  vals : mvs H l = V
theorem NewL.ok {H0 H : AH} {l : List Comp} {V : List (List CV)} (h : NewL H0 H l V) : LI.ok H (.own l V) ∧ LI.rg H0.length H.length (.own l V) :=
  ⟨⟨h.own, h.vals⟩, fun b hb => ⟨h.fr b hb, h.own.rd.lt b hb⟩⟩
/-- What marking does. -/
structure Marked (H : AH) (l : List Comp) (k : Int) (H' : AH) (l' : List Comp) : Prop where
  own : Own H' l'
  bs : ∀ b, bsL l' b ↔ bsL l b
  len : H.length ≤ H'.length
  frame : ∀ b, b < H.length → ¬ bsL l b → H'[b]? = H[b]?
  vals : (mvs H' l').flatten = markF (mvs H l).flatten k
theorem Marked.ok {H H' : AH} {l l' : List Comp} {V : List (List CV)} {k : Int} {lo hi : Nat} (h : Marked H l k H' l') (hr : LI.rg lo hi (.own l V)) : LI.ok H' (.own l' (mvs H' l')) ∧ (∀ b, b < H.length → ¬ (lo ≤ b ∧ b < hi) → H'[b]? = H[b]?) :=
  ⟨⟨h.own, rfl⟩, fun b hl hb => h.frame b hl fun hb2 => hb (hr b hb2)⟩
abbrev arrL (p q : Value) : List Comp := [.cells [.r, .r] [p, q]]
abbrev arrV (sh dt : List Int) : List (List CV) := [[.r sh, .r dt]]
theorem AOwn.newL {H0 H : AH} {v : Value} {sh dt : List Int} {p q : Value} (h : AOwn H0 H v sh dt p q) (l1 : sh.length ≤ 1073741824) (l2 : dt.length ≤ 1073741824) : NewL H0 H (arrL p q) (arrV sh dt) := by
  have r1 := h.sh.kok (by omega)
  have r2 := h.dt.kok (by omega)
  refine ⟨⟨?_, by simp⟩, ?_, ?_⟩
  · intro c hc
    simp only [List.mem_singleton] at hc
    subst hc
    exact ⟨⟨_, _, rfl, r1.1, _, _, rfl, r2.1, rfl⟩, by simp; exact ⟨r1.2.1, r2.2.1⟩, by simp [h.dj]⟩
  · rintro b ⟨c, hc, hb⟩
    simp only [List.mem_singleton] at hc
    subst hc
    simp only [Comp.bs, List.mem_cons, List.not_mem_nil, or_false, exists_eq_or_imp, exists_eq_left] at hb
    rcases hb with hb | hb
    · exact h.n1 b hb
    · exact h.n2 b hb
  · simp only [mvs, List.map_cons, List.map_nil, Comp.xs, cvs, r1.2.2, r2.2.2]
theorem New.newL {H0 H : AH} {v : Value} {ks : List CK} {n : Nat} {ys : List Value} {V : List CV} (h : New H0 H v ks n ys) (hv : cvs H ys = V) : NewL H0 H [.row v ks n ys] [V] := by
  refine ⟨⟨?_, by simp⟩, ?_, ?_⟩
  · intro c hc
    simp only [List.mem_singleton] at hc
    subst hc
    exact h.ot
  · rintro b ⟨c, hc, hb⟩
    simp only [List.mem_singleton] at hc
    subst hc
    exact h.fr b hb
  · simp only [mvs, List.map_cons, List.map_nil, Comp.xs, hv]
theorem LI.ok.rd {H : AH} {l : List Comp} {V : List (List CV)} (h : LI.ok H (.own l V)) : LI.ok H (.rd l V) := ⟨h.1.rd, h.2⟩
theorem LI.row {H : AH} {v : Value} {ks : List CK} {n : Nat} {xs : List Value} {V : List CV} (h : LI.ok H (.rd [.row v ks n xs] [V])) : FRow H v ks n xs ∧ cvs H xs = V := by
  refine ⟨h.1 _ (List.mem_singleton.2 rfl), ?_⟩
  have := h.2
  simpa [mvs, Comp.xs] using this
theorem LI.orow {H : AH} {v : Value} {ks : List CK} {n : Nat} {xs : List Value} {V : List CV} (h : LI.ok H (.own [.row v ks n xs] [V])) : OT H v ks n xs ∧ cvs H xs = V := by
  refine ⟨h.1.1 _ (List.mem_singleton.2 rfl), ?_⟩
  have := h.2
  simpa [mvs, Comp.xs] using this
theorem MC.marked {H H' : AH} {v : Value} {ks : List CK} {n p : Nat} {xs ys : List Value} {k q : Int} (h : MC H v ks n xs k p q ys H') (hp : xs.length ≤ p) : Marked H [.row v ks n xs] k H' [.row v ks n ys] := by
  refine ⟨⟨?_, by simp⟩, ?_, Nat.le_of_eq h.len.symm, ?_, ?_⟩
  · intro c hc
    simp only [List.mem_singleton] at hc
    subst hc
    exact h.ot
  · intro b
    simp only [bsL, List.mem_singleton, exists_eq_left, Comp.bs, h.bk]
  · intro b _ hb
    refine h.frame b fun hb2 => hb ⟨_, List.mem_singleton.2 rfl, hb2⟩
  · simp only [mvs, List.map_cons, List.map_nil, Comp.xs, List.flatten_cons, List.flatten_nil, List.append_nil]
    exact (h.done hp).1
theorem heldF_lo : ∀ (l : List CV) (k : Int), 0 ≤ k → heldF l k = -1 ∨ k ≤ heldF l k
  | [], k, _ => .inr (Int.le_refl _)
  | .i n :: r, k, hk => by
    simp only [heldF]
    split
    · rcases heldF_lo r (k + 1) (by omega) with h | h
      · exact .inl h
      · exact .inr (by omega)
    · exact .inl rfl
  | .b n :: r, k, hk => by
    simp only [heldF]
    split
    · rcases heldF_lo r (k + 1) (by omega) with h | h
      · exact .inl h
      · exact .inr (by omega)
    · exact .inl rfl
  | .r l :: r, k, hk => by
    simp only [heldF]
    split
    · exact .inl rfl
    · rename_i h0
      have h1 := heldI_le (l := l) (k := k)
      rcases heldF_lo r (heldI l k) (by omega) with h | h
      · exact .inl h
      · exact .inr (by omega)
theorem heldF_app : ∀ (l m : List CV) (k : Int), 0 ≤ k → heldF (l ++ m) k = if heldF l k < 0 then -1 else heldF m (heldF l k)
  | [], m, k, hk => by
    rw [if_neg (show ¬ heldF [] k < 0 from Int.not_lt.2 hk)]
    rfl
  | .i n :: r, m, k, hk => by
    simp only [List.cons_append, heldF]
    split
    · exact heldF_app r m _ (by omega)
    · rfl
  | .b n :: r, m, k, hk => by
    simp only [List.cons_append, heldF]
    split
    · exact heldF_app r m _ (by omega)
    · rfl
  | .r l :: r, m, k, hk => by
    simp only [List.cons_append, heldF]
    split
    · rfl
    · rename_i h0
      have h1 := heldI_le (l := l) (k := k)
      exact heldF_app r m _ (by omega)
theorem heldF_hi : ∀ (l : List CV) (k : Int), 0 ≤ k → heldF l k ≤ k + cntF l
  | [], k, _ => by simp [heldF, cntF]
  | .i n :: r, k, hk => by
    have := heldF_hi r (k + 1) (by omega)
    simp only [heldF, cntF, List.map_cons, List.sum_cons, cnt1] at this ⊢
    split <;> omega
  | .b n :: r, k, hk => by
    have := heldF_hi r (k + 1) (by omega)
    simp only [heldF, cntF, List.map_cons, List.sum_cons, cnt1] at this ⊢
    split <;> omega
  | .r l :: r, k, hk => by
    have h1 := heldI_le (l := l) (k := k)
    simp only [heldF, cntF, List.map_cons, List.sum_cons, cnt1]
    split
    · omega
    · have := heldF_hi r (heldI l k) (by omega)
      simp only [cntF] at this
      omega

theorem szI_pos {a : Nat} {q : Int} (h : ¬ szI a q < 0) : szI a q = q - a ∧ (a : Int) ≤ q := by
  unfold szI at h ⊢
  split at h
  · omega
  · rename_i h2; rw [if_neg h2]; omega

theorem markVarS_u {H : AH} {v : Value} {n : Nat} {xs : List Value} {V : List CV} {k : Int} (h : LI.ok H (.own [.row v kVar n xs] [V])) (hl : n ≤ 1073741824) (hk : 0 ≤ k ∧ k + cntF ([V] : List (List CV)).flatten < 4611686018427387904) :
    CallsA Try.prog 21 #[v, .int .i64 k] H fun r H' => r = .int .i64 (k + cntF ([V] : List (List CV)).flatten) ∧ ∃ ys V', Marked H [.row v kVar n xs] k H' [.row v kVar n ys] ∧ LI.ok H' (.own [.row v kVar n ys] [V']) ∧ ([V'] : List (List CV)).flatten = markF ([V] : List (List CV)).flatten k := by
  obtain ⟨h1, rfl⟩ := LI.orow h
  have e : ([cvs H xs] : List (List CV)).flatten = cvs H xs := by simp
  rw [e] at hk ⊢
  refine (markVarS_fl h1 hl hk).mono ?_
  rintro _ H' ⟨rfl, ys, mc⟩
  have hm := mc.marked (by have : xs.length = n * 3 := h1.len; omega)
  refine ⟨rfl, ys, cvs H' ys, hm, ⟨hm.own, rfl⟩, ?_⟩
  have := hm.vals
  simpa [mvs, Comp.xs] using this

theorem eqVarS_th {H : AH} {v w : Value} {n m : Nat} {xs ys : List Value} {V W : List CV} (h : LI.ok H (.rd [.row v kVar n xs] [V])) (h' : LI.ok H (.rd [.row w kVar m ys] [W])) (hl : n ≤ 1073741824) (hl2 : m ≤ 1073741824) :
    CallsA Try.prog 20 #[v, w] H fun r H' => r = .bool (V == W) ∧ ∃ K, H' = H ++ K := by
  obtain ⟨h1, rfl⟩ := LI.row h
  obtain ⟨h2, rfl⟩ := LI.row h'
  exact eqVarS_fl h1 h2 hl hl2

theorem toVarS_th {H : AH} {v : Value} {n : Nat} {xs : List Value} {V : List CV} (h : LI.ok H (.rd [.row v kVar n xs] [V])) (hl : n ≤ 1048576) (hs : rsum V ≤ 1048576) :
    CallsA Try.prog 17 #[v] H fun r H' => (∃ a c ys, r = .slice a n c ∧ NewL H H' [.row (.slice a n c) kVar n ys] [V]) ∧ ∃ K, H' = H ++ K := by
  obtain ⟨h1, rfl⟩ := LI.row h
  refine (toVarS_fl h1 hl hs).mono ?_
  rintro _ H' ⟨⟨ys, hn, hc⟩, hK⟩
  obtain ⟨a, c, e, _⟩ := hn.ot.frow.op
  subst e
  exact ⟨⟨a, c, ys, rfl, hn.newL hc⟩, hK⟩

abbrev machV (at' st co : Int) (s vs : Value) : Value := .agg #[.int .i64 at', s, vs, .int .i64 st, .int .i64 co]
abbrev machL (s : Value) (n : Nat) (xs : List Value) (vs : Value) (m : Nat) (ys : List Value) : List Comp := [.row s kArray n xs, .row vs kVar m ys]
theorem LI.rrow {H : AH} {v w : Value} {ks js : List CK} {n m : Nat} {xs ys : List Value} {V W : List CV} (h : LI.ok H (.rd [.row v ks n xs, .row w js m ys] [V, W])) : (FRow H v ks n xs ∧ cvs H xs = V) ∧ FRow H w js m ys ∧ cvs H ys = W := by
  have h1 := h.1 (.row v ks n xs) (by simp)
  have h2 := h.1 (.row w js m ys) (by simp)
  have h3 := h.2
  simp only [mvs, Comp.xs, List.map_cons, List.map_nil, List.cons.injEq, and_true] at h3
  exact ⟨⟨h1, h3.1⟩, h2, h3.2⟩
theorem eqMachine_th {H : AH} {a b c a' b' c' : Int} {s vs s' vs' : Value} {n m n' m' : Nat} {xs ys xs' ys' : List Value} {V W V' W' : List CV}
    (h : LI.ok H (.rd (machL s n xs vs m ys) [V, W])) (h' : LI.ok H (.rd (machL s' n' xs' vs' m' ys') [V', W'])) (l1 : n ≤ 1073741824) (l2 : n' ≤ 1073741824) (l3 : m ≤ 1073741824) (l4 : m' ≤ 1073741824) :
    CallsA Try.prog 19 #[machV a b c s vs, machV a' b' c' s' vs'] H fun r H' => r = .bool (a == a' && (V == V' && (W == W' && (b == b' && c == c')))) ∧ ∃ K, H' = H ++ K := by
  obtain ⟨⟨f1, rfl⟩, f2, rfl⟩ := LI.rrow h
  obtain ⟨⟨g1, rfl⟩, g2, rfl⟩ := LI.rrow h'
  obtain ⟨a1, c1, rfl, _⟩ := f1.op
  obtain ⟨a2, c2, rfl, _⟩ := f2.op
  obtain ⟨a3, c3, rfl, _⟩ := g1.op
  obtain ⟨a4, c4, rfl, _⟩ := g2.op
  have e1 := fun (L : AH) Φ => (eqArrayS_fl (f1.mono (L := L)) (g1.mono (L := L)) l1 l2).eqV (Φ := Φ)
  have e2 := fun (L : AH) Φ => (eqVarS_fl (f2.mono (L := L)) (g2.mono (L := L)) l3 l4).eqV (Φ := Φ)
  simp only [f1.vals, f2.vals, g1.vals, g2.vals] at e1 e2
  refine w19 ?_
  unfold k19
  simp -implicitDefEqProofs only [rE_seq_n, rE_seq_r, rE_seq_e, rE_blk_n, rE_blk_r, rE_blk_e, rW_skip, rW_ret, rW_exit, rW_ops, rW_seq, rW_block, ↓two_true, ↓two_false, rC_bool, rW_cond, rO_nil, rO_cons, oG_t, oG_f, oG_undef, rO_guard, oV_some, rOV_eq, oP_move, oP_assign, oP_bin, oP_un, oP_index, oP_fieldAddr, oP_field, oP_indexAddr, oP_slice, oP_load, oP_convert, aPick_true, aPick_false, aPick_bool, oP_pick, aExtract_tup, oP_extract, oP_nilCheck, oP_build, oP_len, oP_cap, oP_max, oP_min, oP_makeFunc, oS_some, oP_store, oA_some, oP_append, oM_some, oP_alloc, oP_box, oP_buildSlice, oP_mkS, oP_call, oP_callv, oF_func, aev_tmp, aev_const, aev_func, aput_get, aput_none, bin_add, bin_sub, bin_mul, bin_eql, bin_neq, bin_lss, bin_leq, bin_gtr, bin_geq, un_not, un_neg, tm0_get, fin_ret, fin_end, oR_some, resL_nil, resL_tmp, resL_cell, tup_one, tup_two, tup_nil, cond_true, cond_false, load_eq, Option.bind_some, gt0, gti, mkv, List.length_append, List.length_cons, List.length_nil, List.append_assoc, List.cons_append, List.nil_append, rd0, rdi, wrt0, wrti, rdB_own, rdB_ro, wrB_own, oL_some, aggAt, sto_some, st0, sti, List.set_cons_zero, List.set_cons_succ, splice_nil, splice_cons, cells_agg, cells_int, cells_bool, cells_string, cells_pointer, cells_slice, leaf_int, leaf_bool, leaf_string, leaf_pointer, leaf_slice, List.size_toArray, List.all_cons, List.all_nil, Bool.and_self, Bool.and_true, and_self, true_and, and_true, Nat.zero_add, Nat.add_zero, Nat.reduceLeDiff, Nat.le_refl, List.drop_zero, List.drop_succ_cons, List.take_succ_cons, List.take_zero, Nat.reduceSub, lp_end, lp_ret, lp_exit, oV_ite, oS_ite, oA_ite, slc_some, sls_some, optInt_none, optInt_some, rW_draw, rD_nil, rDV_eq, rDR_eq, rDE_eq, rDS_n, rDS_e, rD_load, rD_conv, rD_pure, rD_e, rD_g, rDG_t, rDG_f, rDG_undef, chkH_nil, chkH_cons, chkP_nil, chkP_cons, aRead_load, aRead_conv, isE_store, isE_call, isE_append, rDS_l, rDS_c, pl_move, pl_assign, pl_pick, pl_alloc, pl_box, pl_build, pl_buildSlice, pl_nilCheck, pl_binOp, pl_unOp, pl_makeFunc, pl_makeSlice, pl_slice, pl_fieldAddr, pl_field, pl_indexAddr, pl_index, pl_extract, pl_len, pl_cap, pl_max, pl_min, List.mem_cons, Prod.mk.injEq, List.not_mem_nil, or_false, or_true, false_or, true_or, and_false, false_and, false_implies, implies_true, true_implies, oM_ite, fillP_nil, fillP_cons, fillQ_some, slq_some, most_max, most_min, Nat.reduceMul, List.getElem?_toArray, List.getElem?_cons_zero, List.getElem?_cons_succ, List.getElem?_nil, Option.getD_some, Option.getD_none, Nat.reduceEqDiff, reduceIte, Nat.reduceAdd, List.map_toArray, List.map_cons, List.map_nil, Bool.false_eq_true, Nat.reduceBEq, Option.map_some, Option.map_none, reduceCtorEq, fa27_0, fa27_1, fa27_2, fa27_3, fa27_4, ld3, ld24, ld25, e1, e2]
  simp +contextual [two]

theorem markMachine_th {H : AH} {a b c k : Int} {s vs : Value} {n m : Nat} {xs ys : List Value} {V W : List CV}
    (h : LI.ok H (.own (machL s n xs vs m ys) [V, W])) (l1 : n ≤ 1073741824) (l3 : m ≤ 1073741824) (hk : 0 ≤ k ∧ k + cntF V + cntF W < 4611686018427387904) :
    CallsA Try.prog 22 #[machV a b c s vs, .int .i64 k] H fun r H' => r = .int .i64 (k + cntF V + cntF W) ∧ ∃ xs' ys', Marked H (machL s n xs vs m ys) k H' (machL s n xs' vs m ys') := by
  have o1 : OT H s kArray n xs := h.1.1 (.row s kArray n xs) (by simp)
  have o2 : OT H vs kVar m ys := h.1.1 (.row vs kVar m ys) (by simp)
  have hd : cdj (.row s kArray n xs) (.row vs kVar m ys) := by have := h.1.2; simpa using this
  have hv := h.2
  simp only [mvs, Comp.xs, List.map_cons, List.map_nil, List.cons.injEq, and_true] at hv
  obtain ⟨rfl, rfl⟩ := hv
  obtain ⟨a1, c1, rfl, _⟩ := o1.frow.op
  obtain ⟨a2, c2, rfl, _⟩ := o2.frow.op
  generalize hbox : (⟨[.int .i64 a, .slice a1 n c1, .slice a2 m c2, .int .i64 b, .int .i64 c], .own⟩ : Blk) = box
  have p1 := o1.mono (L := [box])
  have p2 := o2.mono (L := [box])
  have e1 := o1.frow.vals (L := [box])
  have e2 := o2.frow.vals (L := [box])
  have b0 : (H ++ [box] : AH)[H.length]? = some box := by rw [gt0]; rfl
  refine w22 ?_
  unfold k22
  simp -implicitDefEqProofs only [rE_seq_n, rE_seq_r, rE_seq_e, rE_blk_n, rE_blk_r, rE_blk_e, rW_skip, rW_ret, rW_exit, rW_ops, rW_seq, rW_block, ↓two_true, ↓two_false, rC_bool, rW_cond, rO_nil, rO_cons, oG_t, oG_f, oG_undef, rO_guard, oV_some, rOV_eq, oP_move, oP_assign, oP_bin, oP_un, oP_index, oP_fieldAddr, oP_field, oP_indexAddr, oP_slice, oP_load, oP_convert, aPick_true, aPick_false, aPick_bool, oP_pick, aExtract_tup, oP_extract, oP_nilCheck, oP_build, oP_len, oP_cap, oP_max, oP_min, oP_makeFunc, oS_some, oP_store, oA_some, oP_append, oM_some, oP_alloc, oP_box, oP_buildSlice, oP_mkS, oP_call, oP_callv, oF_func, aev_tmp, aev_const, aev_func, aput_get, aput_none, bin_add, bin_sub, bin_mul, bin_eql, bin_neq, bin_lss, bin_leq, bin_gtr, bin_geq, un_not, un_neg, tm0_get, fin_ret, fin_end, oR_some, resL_nil, resL_tmp, resL_cell, tup_one, tup_two, tup_nil, cond_true, cond_false, load_eq, Option.bind_some, gt0, gti, mkv, List.length_append, List.length_cons, List.length_nil, List.append_assoc, List.cons_append, List.nil_append, rd0, rdi, wrt0, wrti, rdB_own, rdB_ro, wrB_own, oL_some, aggAt, sto_some, st0, sti, List.set_cons_zero, List.set_cons_succ, splice_nil, splice_cons, cells_agg, cells_int, cells_bool, cells_string, cells_pointer, cells_slice, leaf_int, leaf_bool, leaf_string, leaf_pointer, leaf_slice, List.size_toArray, List.all_cons, List.all_nil, Bool.and_self, Bool.and_true, and_self, true_and, and_true, Nat.zero_add, Nat.add_zero, Nat.reduceLeDiff, Nat.le_refl, List.drop_zero, List.drop_succ_cons, List.take_succ_cons, List.take_zero, Nat.reduceSub, lp_end, lp_ret, lp_exit, oV_ite, oS_ite, oA_ite, slc_some, sls_some, optInt_none, optInt_some, rW_draw, rD_nil, rDV_eq, rDR_eq, rDE_eq, rDS_n, rDS_e, rD_load, rD_conv, rD_pure, rD_e, rD_g, rDG_t, rDG_f, rDG_undef, chkH_nil, chkH_cons, chkP_nil, chkP_cons, aRead_load, aRead_conv, isE_store, isE_call, isE_append, rDS_l, rDS_c, pl_move, pl_assign, pl_pick, pl_alloc, pl_box, pl_build, pl_buildSlice, pl_nilCheck, pl_binOp, pl_unOp, pl_makeFunc, pl_makeSlice, pl_slice, pl_fieldAddr, pl_field, pl_indexAddr, pl_index, pl_extract, pl_len, pl_cap, pl_max, pl_min, List.mem_cons, Prod.mk.injEq, List.not_mem_nil, or_false, or_true, false_or, true_or, and_false, false_and, false_implies, implies_true, true_implies, oM_ite, fillP_nil, fillP_cons, fillQ_some, slq_some, most_max, most_min, Nat.reduceMul, List.getElem?_toArray, List.getElem?_cons_zero, List.getElem?_cons_succ, List.getElem?_nil, Option.getD_some, Option.getD_none, Nat.reduceEqDiff, reduceIte, Nat.reduceAdd, List.map_toArray, List.map_cons, List.map_nil, Bool.false_eq_true, Nat.reduceBEq, Option.map_some, Option.map_none, reduceCtorEq, fa27_1, fa27_2, ld24, ld25, hbox]
  rw [← hbox]
  simp -implicitDefEqProofs only [rE_seq_n, rE_seq_r, rE_seq_e, rE_blk_n, rE_blk_r, rE_blk_e, rW_skip, rW_ret, rW_exit, rW_ops, rW_seq, rW_block, ↓two_true, ↓two_false, rC_bool, rW_cond, rO_nil, rO_cons, oG_t, oG_f, oG_undef, rO_guard, oV_some, rOV_eq, oP_move, oP_assign, oP_bin, oP_un, oP_index, oP_fieldAddr, oP_field, oP_indexAddr, oP_slice, oP_load, oP_convert, aPick_true, aPick_false, aPick_bool, oP_pick, aExtract_tup, oP_extract, oP_nilCheck, oP_build, oP_len, oP_cap, oP_max, oP_min, oP_makeFunc, oS_some, oP_store, oA_some, oP_append, oM_some, oP_alloc, oP_box, oP_buildSlice, oP_mkS, oP_call, oP_callv, oF_func, aev_tmp, aev_const, aev_func, aput_get, aput_none, bin_add, bin_sub, bin_mul, bin_eql, bin_neq, bin_lss, bin_leq, bin_gtr, bin_geq, un_not, un_neg, tm0_get, fin_ret, fin_end, oR_some, resL_nil, resL_tmp, resL_cell, tup_one, tup_two, tup_nil, cond_true, cond_false, load_eq, Option.bind_some, gt0, gti, mkv, List.length_append, List.length_cons, List.length_nil, List.append_assoc, List.cons_append, List.nil_append, rd0, rdi, wrt0, wrti, rdB_own, rdB_ro, wrB_own, oL_some, aggAt, sto_some, st0, sti, List.set_cons_zero, List.set_cons_succ, splice_nil, splice_cons, cells_agg, cells_int, cells_bool, cells_string, cells_pointer, cells_slice, leaf_int, leaf_bool, leaf_string, leaf_pointer, leaf_slice, List.size_toArray, List.all_cons, List.all_nil, Bool.and_self, Bool.and_true, and_self, true_and, and_true, Nat.zero_add, Nat.add_zero, Nat.reduceLeDiff, Nat.le_refl, List.drop_zero, List.drop_succ_cons, List.take_succ_cons, List.take_zero, Nat.reduceSub, lp_end, lp_ret, lp_exit, oV_ite, oS_ite, oA_ite, slc_some, sls_some, optInt_none, optInt_some, rW_draw, rD_nil, rDV_eq, rDR_eq, rDE_eq, rDS_n, rDS_e, rD_load, rD_conv, rD_pure, rD_e, rD_g, rDG_t, rDG_f, rDG_undef, chkH_nil, chkH_cons, chkP_nil, chkP_cons, aRead_load, aRead_conv, isE_store, isE_call, isE_append, rDS_l, rDS_c, pl_move, pl_assign, pl_pick, pl_alloc, pl_box, pl_build, pl_buildSlice, pl_nilCheck, pl_binOp, pl_unOp, pl_makeFunc, pl_makeSlice, pl_slice, pl_fieldAddr, pl_field, pl_indexAddr, pl_index, pl_extract, pl_len, pl_cap, pl_max, pl_min, List.mem_cons, Prod.mk.injEq, List.not_mem_nil, or_false, or_true, false_or, true_or, and_false, false_and, false_implies, implies_true, true_implies, oM_ite, fillP_nil, fillP_cons, fillQ_some, slq_some, most_max, most_min, Nat.reduceMul, List.getElem?_toArray, List.getElem?_cons_zero, List.getElem?_cons_succ, List.getElem?_nil, Option.getD_some, Option.getD_none, Nat.reduceEqDiff, reduceIte, Nat.reduceAdd, List.map_toArray, List.map_cons, List.map_nil, Bool.false_eq_true, Nat.reduceBEq, Option.map_some, Option.map_none, reduceCtorEq, fa27_1, fa27_2, ld24, ld25]
  rw [hbox]
  have hl := (show (H ++ [box] : AH).length = H.length + 1 by simp)
  have k0 : ∀ g, g < H.length → (H ++ [box] : AH)[g]? = H[g]? := fun g hg => List.getElem?_append_left hg
  generalize (H ++ [box] : AH) = H1 at *
  refine (markArrayS_fl p1 l1 (by rw [e1]; omega)).mono ?_
  rintro _ H2 ⟨rfl, xs', mc⟩
  have hn : ∀ g, (blkOf (.slice a2 m c2) = some g ∨ ∃ y ∈ ys, blkOf y = some g) → H2[g]? = H1[g]? := fun g hg => mc.frame g fun hg2 => hd g hg2 hg
  have p3 := p2.same hn
  have e3 : cvs H2 ys = cvs H1 ys := FRow.cvs_same fun g hg => get_rd (hn g (.inr hg))
  have hb : ∀ g, (blkOf (.slice a1 n c1) = some g ∨ ∃ y ∈ xs, blkOf y = some g) → g < H.length := o1.lt
  have b2 : H2[H.length]? = some box := by rw [mc.frame _ fun hg => by have := hb _ hg; omega]; exact b0
  rw [← hbox] at b2
  rw [e1]
  simp -implicitDefEqProofs only [rE_seq_n, rE_seq_r, rE_seq_e, rE_blk_n, rE_blk_r, rE_blk_e, rW_skip, rW_ret, rW_exit, rW_ops, rW_seq, rW_block, ↓two_true, ↓two_false, rC_bool, rW_cond, rO_nil, rO_cons, oG_t, oG_f, oG_undef, rO_guard, oV_some, rOV_eq, oP_move, oP_assign, oP_bin, oP_un, oP_index, oP_fieldAddr, oP_field, oP_indexAddr, oP_slice, oP_load, oP_convert, aPick_true, aPick_false, aPick_bool, oP_pick, aExtract_tup, oP_extract, oP_nilCheck, oP_build, oP_len, oP_cap, oP_max, oP_min, oP_makeFunc, oS_some, oP_store, oA_some, oP_append, oM_some, oP_alloc, oP_box, oP_buildSlice, oP_mkS, oP_call, oP_callv, oF_func, aev_tmp, aev_const, aev_func, aput_get, aput_none, bin_add, bin_sub, bin_mul, bin_eql, bin_neq, bin_lss, bin_leq, bin_gtr, bin_geq, un_not, un_neg, tm0_get, fin_ret, fin_end, oR_some, resL_nil, resL_tmp, resL_cell, tup_one, tup_two, tup_nil, cond_true, cond_false, load_eq, Option.bind_some, gt0, gti, mkv, List.length_append, List.length_cons, List.length_nil, List.append_assoc, List.cons_append, List.nil_append, rd0, rdi, wrt0, wrti, rdB_own, rdB_ro, wrB_own, oL_some, aggAt, sto_some, st0, sti, List.set_cons_zero, List.set_cons_succ, splice_nil, splice_cons, cells_agg, cells_int, cells_bool, cells_string, cells_pointer, cells_slice, leaf_int, leaf_bool, leaf_string, leaf_pointer, leaf_slice, List.size_toArray, List.all_cons, List.all_nil, Bool.and_self, Bool.and_true, and_self, true_and, and_true, Nat.zero_add, Nat.add_zero, Nat.reduceLeDiff, Nat.le_refl, List.drop_zero, List.drop_succ_cons, List.take_succ_cons, List.take_zero, Nat.reduceSub, lp_end, lp_ret, lp_exit, oV_ite, oS_ite, oA_ite, slc_some, sls_some, optInt_none, optInt_some, rW_draw, rD_nil, rDV_eq, rDR_eq, rDE_eq, rDS_n, rDS_e, rD_load, rD_conv, rD_pure, rD_e, rD_g, rDG_t, rDG_f, rDG_undef, chkH_nil, chkH_cons, chkP_nil, chkP_cons, aRead_load, aRead_conv, isE_store, isE_call, isE_append, rDS_l, rDS_c, pl_move, pl_assign, pl_pick, pl_alloc, pl_box, pl_build, pl_buildSlice, pl_nilCheck, pl_binOp, pl_unOp, pl_makeFunc, pl_makeSlice, pl_slice, pl_fieldAddr, pl_field, pl_indexAddr, pl_index, pl_extract, pl_len, pl_cap, pl_max, pl_min, List.mem_cons, Prod.mk.injEq, List.not_mem_nil, or_false, or_true, false_or, true_or, and_false, false_and, false_implies, implies_true, true_implies, oM_ite, fillP_nil, fillP_cons, fillQ_some, slq_some, most_max, most_min, Nat.reduceMul, List.getElem?_toArray, List.getElem?_cons_zero, List.getElem?_cons_succ, List.getElem?_nil, Option.getD_some, Option.getD_none, Nat.reduceEqDiff, reduceIte, Nat.reduceAdd, List.map_toArray, List.map_cons, List.map_nil, Bool.false_eq_true, Nat.reduceBEq, Option.map_some, Option.map_none, reduceCtorEq, fa27_1, fa27_2, ld24, ld25, rd_own b2]
  refine (markVarS_fl p3 l3 (by rw [e3, e2]; omega)).mono ?_
  rintro _ H3 ⟨rfl, ys', mc2⟩
  rw [e3, e2] at mc2 ⊢
  simp -implicitDefEqProofs only [rE_seq_n, rE_seq_r, rE_seq_e, rE_blk_n, rE_blk_r, rE_blk_e, rW_skip, rW_ret, rW_exit, rW_ops, rW_seq, rW_block, ↓two_true, ↓two_false, rC_bool, rW_cond, rO_nil, rO_cons, oG_t, oG_f, oG_undef, rO_guard, oV_some, rOV_eq, oP_move, oP_assign, oP_bin, oP_un, oP_index, oP_fieldAddr, oP_field, oP_indexAddr, oP_slice, oP_load, oP_convert, aPick_true, aPick_false, aPick_bool, oP_pick, aExtract_tup, oP_extract, oP_nilCheck, oP_build, oP_len, oP_cap, oP_max, oP_min, oP_makeFunc, oS_some, oP_store, oA_some, oP_append, oM_some, oP_alloc, oP_box, oP_buildSlice, oP_mkS, oP_call, oP_callv, oF_func, aev_tmp, aev_const, aev_func, aput_get, aput_none, bin_add, bin_sub, bin_mul, bin_eql, bin_neq, bin_lss, bin_leq, bin_gtr, bin_geq, un_not, un_neg, tm0_get, fin_ret, fin_end, oR_some, resL_nil, resL_tmp, resL_cell, tup_one, tup_two, tup_nil, cond_true, cond_false, load_eq, Option.bind_some, gt0, gti, mkv, List.length_append, List.length_cons, List.length_nil, List.append_assoc, List.cons_append, List.nil_append, rd0, rdi, wrt0, wrti, rdB_own, rdB_ro, wrB_own, oL_some, aggAt, sto_some, st0, sti, List.set_cons_zero, List.set_cons_succ, splice_nil, splice_cons, cells_agg, cells_int, cells_bool, cells_string, cells_pointer, cells_slice, leaf_int, leaf_bool, leaf_string, leaf_pointer, leaf_slice, List.size_toArray, List.all_cons, List.all_nil, Bool.and_self, Bool.and_true, and_self, true_and, and_true, Nat.zero_add, Nat.add_zero, Nat.reduceLeDiff, Nat.le_refl, List.drop_zero, List.drop_succ_cons, List.take_succ_cons, List.take_zero, Nat.reduceSub, lp_end, lp_ret, lp_exit, oV_ite, oS_ite, oA_ite, slc_some, sls_some, optInt_none, optInt_some, rW_draw, rD_nil, rDV_eq, rDR_eq, rDE_eq, rDS_n, rDS_e, rD_load, rD_conv, rD_pure, rD_e, rD_g, rDG_t, rDG_f, rDG_undef, chkH_nil, chkH_cons, chkP_nil, chkP_cons, aRead_load, aRead_conv, isE_store, isE_call, isE_append, rDS_l, rDS_c, pl_move, pl_assign, pl_pick, pl_alloc, pl_box, pl_build, pl_buildSlice, pl_nilCheck, pl_binOp, pl_unOp, pl_makeFunc, pl_makeSlice, pl_slice, pl_fieldAddr, pl_field, pl_indexAddr, pl_index, pl_extract, pl_len, pl_cap, pl_max, pl_min, List.mem_cons, Prod.mk.injEq, List.not_mem_nil, or_false, or_true, false_or, true_or, and_false, false_and, false_implies, implies_true, true_implies, oM_ite, fillP_nil, fillP_cons, fillQ_some, slq_some, most_max, most_min, Nat.reduceMul, List.getElem?_toArray, List.getElem?_cons_zero, List.getElem?_cons_succ, List.getElem?_nil, Option.getD_some, Option.getD_none, Nat.reduceEqDiff, reduceIte, Nat.reduceAdd, List.map_toArray, List.map_cons, List.map_nil, Bool.false_eq_true, Nat.reduceBEq, Option.map_some, Option.map_none, reduceCtorEq, fa27_1, fa27_2, ld24, ld25]
  have hm : ∀ g, (blkOf (.slice a1 n c1) = some g ∨ ∃ y ∈ xs', blkOf y = some g) → H3[g]? = H2[g]? := fun g hg => mc2.frame g fun hg2 => hd g (hg.elim .inl fun h => .inr (mc.bk.1 h)) hg2
  have q1 := mc.ot.same hm
  have e4 : cvs H3 xs' = cvs H2 xs' := FRow.cvs_same fun g hg => get_rd (hm g (.inr hg))
  have d1 := mc.done (by have := o1.len; simp at this ⊢; omega)
  have d2 := mc2.done (by have := o2.len; simp at this ⊢; omega)
  refine ⟨xs', ys', ⟨?_, ?_⟩, ?_, ?_, ?_, ?_⟩
  · intro c hc
    simp only [List.mem_cons, List.not_mem_nil, or_false] at hc
    rcases hc with rfl | rfl
    · exact q1
    · exact mc2.ot
  · simp only [List.pairwise_cons, List.mem_singleton, forall_eq, List.not_mem_nil, false_implies, implies_true, List.Pairwise.nil, and_true]
    intro g hg hg2
    exact hd g (hg.elim .inl fun h => .inr (mc.bk.1 h)) (hg2.elim .inl fun h => .inr (mc2.bk.1 h))
  · intro g
    simp only [bsL, List.mem_cons, List.not_mem_nil, or_false, exists_eq_or_imp, exists_eq_left, Comp.bs, mc.bk, mc2.bk]
  · have := mc.len; have := mc2.len; omega
  · intro g hg hn2
    simp only [bsL, List.mem_cons, List.not_mem_nil, or_false, exists_eq_or_imp, exists_eq_left, Comp.bs, not_or] at hn2
    rw [mc2.frame g (by simpa [not_or] using hn2.2), mc.frame g (by simpa [not_or] using hn2.1), k0 g hg]
  · simp only [mvs, Comp.xs, List.map_cons, List.map_nil, List.flatten_cons, List.flatten_nil, List.append_nil]
    rw [e4, d1.1, d2.1, markF_append, e1, e3, e2]

theorem heldMachine_th {H : AH} {a b c k : Int} {s vs : Value} {n m : Nat} {xs ys : List Value} {V W : List CV}
    (h : LI.ok H (.rd (machL s n xs vs m ys) [V, W])) (l1 : n ≤ 1073741824) (l3 : m ≤ 1073741824) (hk : 0 ≤ k ∧ k + cntF V + cntF W < 4611686018427387904) :
    CallsA Try.prog 23 #[machV a b c s vs, .int .i64 k] H fun r H' => r = .int .i64 (heldF ([V, W] : List (List CV)).flatten k) ∧ ∃ K, H' = H ++ K := by
  obtain ⟨⟨f1, rfl⟩, f2, rfl⟩ := LI.rrow h
  obtain ⟨a1, c1, rfl, _⟩ := f1.op
  obtain ⟨a2, c2, rfl, _⟩ := f2.op
  have e1 := fun (L : AH) Φ => (heldArrayS_fl (f1.mono (L := L)) (k := k) l1 (by rw [f1.vals]; omega)).eq0 (Φ := Φ)
  simp only [f1.vals] at e1
  have hlo := heldF_hi (cvs H xs) k hk.1
  refine w23 ?_
  unfold k23
  simp -implicitDefEqProofs only [rE_seq_n, rE_seq_r, rE_seq_e, rE_blk_n, rE_blk_r, rE_blk_e, rW_skip, rW_ret, rW_exit, rW_ops, rW_seq, rW_block, ↓two_true, ↓two_false, rC_bool, rW_cond, rO_nil, rO_cons, oG_t, oG_f, oG_undef, rO_guard, oV_some, rOV_eq, oP_move, oP_assign, oP_bin, oP_un, oP_index, oP_fieldAddr, oP_field, oP_indexAddr, oP_slice, oP_load, oP_convert, aPick_true, aPick_false, aPick_bool, oP_pick, aExtract_tup, oP_extract, oP_nilCheck, oP_build, oP_len, oP_cap, oP_max, oP_min, oP_makeFunc, oS_some, oP_store, oA_some, oP_append, oM_some, oP_alloc, oP_box, oP_buildSlice, oP_mkS, oP_call, oP_callv, oF_func, aev_tmp, aev_const, aev_func, aput_get, aput_none, bin_add, bin_sub, bin_mul, bin_eql, bin_neq, bin_lss, bin_leq, bin_gtr, bin_geq, un_not, un_neg, tm0_get, fin_ret, fin_end, oR_some, resL_nil, resL_tmp, resL_cell, tup_one, tup_two, tup_nil, cond_true, cond_false, load_eq, Option.bind_some, gt0, gti, mkv, List.length_append, List.length_cons, List.length_nil, List.append_assoc, List.cons_append, List.nil_append, rd0, rdi, wrt0, wrti, rdB_own, rdB_ro, wrB_own, oL_some, aggAt, sto_some, st0, sti, List.set_cons_zero, List.set_cons_succ, splice_nil, splice_cons, cells_agg, cells_int, cells_bool, cells_string, cells_pointer, cells_slice, leaf_int, leaf_bool, leaf_string, leaf_pointer, leaf_slice, List.size_toArray, List.all_cons, List.all_nil, Bool.and_self, Bool.and_true, and_self, true_and, and_true, Nat.zero_add, Nat.add_zero, Nat.reduceLeDiff, Nat.le_refl, List.drop_zero, List.drop_succ_cons, List.take_succ_cons, List.take_zero, Nat.reduceSub, lp_end, lp_ret, lp_exit, oV_ite, oS_ite, oA_ite, slc_some, sls_some, optInt_none, optInt_some, rW_draw, rD_nil, rDV_eq, rDR_eq, rDE_eq, rDS_n, rDS_e, rD_load, rD_conv, rD_pure, rD_e, rD_g, rDG_t, rDG_f, rDG_undef, chkH_nil, chkH_cons, chkP_nil, chkP_cons, aRead_load, aRead_conv, isE_store, isE_call, isE_append, rDS_l, rDS_c, pl_move, pl_assign, pl_pick, pl_alloc, pl_box, pl_build, pl_buildSlice, pl_nilCheck, pl_binOp, pl_unOp, pl_makeFunc, pl_makeSlice, pl_slice, pl_fieldAddr, pl_field, pl_indexAddr, pl_index, pl_extract, pl_len, pl_cap, pl_max, pl_min, List.mem_cons, Prod.mk.injEq, List.not_mem_nil, or_false, or_true, false_or, true_or, and_false, false_and, false_implies, implies_true, true_implies, oM_ite, fillP_nil, fillP_cons, fillQ_some, slq_some, most_max, most_min, Nat.reduceMul, List.getElem?_toArray, List.getElem?_cons_zero, List.getElem?_cons_succ, List.getElem?_nil, Option.getD_some, Option.getD_none, Nat.reduceEqDiff, reduceIte, Nat.reduceAdd, List.map_toArray, List.map_cons, List.map_nil, Bool.false_eq_true, Nat.reduceBEq, Option.map_some, Option.map_none, reduceCtorEq, fa27_1, fa27_2, ld24, ld25, e1]
  simp only [List.flatten_cons, List.flatten_nil, List.append_nil]
  rw [heldF_app _ _ _ hk.1]
  refine two_intro (fun h => ?_) (fun h => ?_)
  · rw [if_pos (by simpa using h)]
    exact ⟨rfl, _, rfl⟩
  · have h0 : ¬ heldF (cvs H xs) k < 0 := by simpa using h
    rw [if_neg h0]
    have e2 := fun (L : AH) Φ => (heldVarS_fl (f2.mono (L := L)) (k := heldF (cvs H xs) k) l3 (by rw [f2.vals]; omega)).eq0 (Φ := Φ)
    simp only [f2.vals] at e2
    simp -implicitDefEqProofs only [rE_seq_n, rE_seq_r, rE_seq_e, rE_blk_n, rE_blk_r, rE_blk_e, rW_skip, rW_ret, rW_exit, rW_ops, rW_seq, rW_block, ↓two_true, ↓two_false, rC_bool, rW_cond, rO_nil, rO_cons, oG_t, oG_f, oG_undef, rO_guard, oV_some, rOV_eq, oP_move, oP_assign, oP_bin, oP_un, oP_index, oP_fieldAddr, oP_field, oP_indexAddr, oP_slice, oP_load, oP_convert, aPick_true, aPick_false, aPick_bool, oP_pick, aExtract_tup, oP_extract, oP_nilCheck, oP_build, oP_len, oP_cap, oP_max, oP_min, oP_makeFunc, oS_some, oP_store, oA_some, oP_append, oM_some, oP_alloc, oP_box, oP_buildSlice, oP_mkS, oP_call, oP_callv, oF_func, aev_tmp, aev_const, aev_func, aput_get, aput_none, bin_add, bin_sub, bin_mul, bin_eql, bin_neq, bin_lss, bin_leq, bin_gtr, bin_geq, un_not, un_neg, tm0_get, fin_ret, fin_end, oR_some, resL_nil, resL_tmp, resL_cell, tup_one, tup_two, tup_nil, cond_true, cond_false, load_eq, Option.bind_some, gt0, gti, mkv, List.length_append, List.length_cons, List.length_nil, List.append_assoc, List.cons_append, List.nil_append, rd0, rdi, wrt0, wrti, rdB_own, rdB_ro, wrB_own, oL_some, aggAt, sto_some, st0, sti, List.set_cons_zero, List.set_cons_succ, splice_nil, splice_cons, cells_agg, cells_int, cells_bool, cells_string, cells_pointer, cells_slice, leaf_int, leaf_bool, leaf_string, leaf_pointer, leaf_slice, List.size_toArray, List.all_cons, List.all_nil, Bool.and_self, Bool.and_true, and_self, true_and, and_true, Nat.zero_add, Nat.add_zero, Nat.reduceLeDiff, Nat.le_refl, List.drop_zero, List.drop_succ_cons, List.take_succ_cons, List.take_zero, Nat.reduceSub, lp_end, lp_ret, lp_exit, oV_ite, oS_ite, oA_ite, slc_some, sls_some, optInt_none, optInt_some, rW_draw, rD_nil, rDV_eq, rDR_eq, rDE_eq, rDS_n, rDS_e, rD_load, rD_conv, rD_pure, rD_e, rD_g, rDG_t, rDG_f, rDG_undef, chkH_nil, chkH_cons, chkP_nil, chkP_cons, aRead_load, aRead_conv, isE_store, isE_call, isE_append, rDS_l, rDS_c, pl_move, pl_assign, pl_pick, pl_alloc, pl_box, pl_build, pl_buildSlice, pl_nilCheck, pl_binOp, pl_unOp, pl_makeFunc, pl_makeSlice, pl_slice, pl_fieldAddr, pl_field, pl_indexAddr, pl_index, pl_extract, pl_len, pl_cap, pl_max, pl_min, List.mem_cons, Prod.mk.injEq, List.not_mem_nil, or_false, or_true, false_or, true_or, and_false, false_and, false_implies, implies_true, true_implies, oM_ite, fillP_nil, fillP_cons, fillQ_some, slq_some, most_max, most_min, Nat.reduceMul, List.getElem?_toArray, List.getElem?_cons_zero, List.getElem?_cons_succ, List.getElem?_nil, Option.getD_some, Option.getD_none, Nat.reduceEqDiff, reduceIte, Nat.reduceAdd, List.map_toArray, List.map_cons, List.map_nil, Bool.false_eq_true, Nat.reduceBEq, Option.map_some, Option.map_none, reduceCtorEq, fa27_1, fa27_2, ld24, ld25, e2]
    have hl2 := heldF_lo (cvs H ys) (heldF (cvs H xs) k) (by omega)
    refine two_intro (fun h => ?_) (fun h => ?_)
    · have : heldF (cvs H ys) (heldF (cvs H xs) k) = -1 := by simp at h; omega
      rw [this]
      first | exact ⟨rfl, _, rfl⟩ | exact ⟨_, rfl⟩
    · first | exact ⟨rfl, _, rfl⟩ | exact ⟨_, rfl⟩

theorem OT.nil {H : AH} {ks : List CK} : OT H (.slice none 0 0) ks 0 [] := OT.of FOwn.nil (fun j y h => by simp at h) fun i j x y _ h => by simp at h
theorem machNew {H0 H H1 : AH} {v : Value} {n b : Nat} {ys : List Value} {V : List CV} {k : Blk} (h : New H H1 v kVar n ys) (hv : cvs H1 ys = V) (h0 : H0.length ≤ H.length) (hb : b < H.length) : NewL H0 (H1.set b k) (machL (.slice none 0 0) 0 [] v n ys) [[], V] := by
  have hne : ∀ g, (blkOf v = some g ∨ ∃ y ∈ ys, blkOf y = some g) → (H1.set b k)[g]? = H1[g]? := fun g hg => List.getElem?_set_ne (by have := h.fr g hg; omega)
  have hv2 : cvs (H1.set b k) ys = V := by rw [← hv]; exact FRow.cvs_same fun g hg => get_rd (hne g (.inr hg))
  refine ⟨⟨?_, ?_⟩, ?_, ?_⟩
  · intro c hc
    simp only [List.mem_cons, List.not_mem_nil, or_false] at hc
    rcases hc with rfl | rfl
    · exact OT.nil
    · exact h.ot.same hne
  · simp only [List.pairwise_cons, List.mem_singleton, forall_eq, List.not_mem_nil, false_implies, implies_true, List.Pairwise.nil, and_true]
    intro g hg
    simp [Comp.bs, blkOf] at hg
  · rintro g ⟨c, hc, hg⟩
    simp only [List.mem_cons, List.not_mem_nil, or_false] at hc
    rcases hc with rfl | rfl
    · simp [Comp.bs, blkOf] at hg
    · have := h.fr g hg; omega
  · simp only [mvs, Comp.xs, List.map_cons, List.map_nil, hv2]
    rfl

theorem specMachineNew_th {H : AH} {v : Value} {n : Nat} {xs : List Value} {st : Int} (hv : FRow H v kVar n xs) (hl : n ≤ 1073741824) :
    CallsA Try.prog 16 #[v, .int .i64 st] H fun r H' => (∃ a c ys, r = machV 0 st 0 (.slice none 0 0) (.slice a n c) ∧ NewL H H' (machL (.slice none 0 0) 0 [] (.slice a n c) n ys) [[], cvs H xs]) ∧ ∃ K, H' = H ++ K := by
  refine w16 ?_
  unfold k16
  simp -implicitDefEqProofs only [rE_seq_n, rE_seq_r, rE_seq_e, rE_blk_n, rE_blk_r, rE_blk_e, rW_skip, rW_ret, rW_exit, rW_ops, rW_seq, rW_block, ↓two_true, ↓two_false, rC_bool, rW_cond, rO_nil, rO_cons, oG_t, oG_f, oG_undef, rO_guard, oV_some, rOV_eq, oP_move, oP_assign, oP_bin, oP_un, oP_index, oP_fieldAddr, oP_field, oP_indexAddr, oP_slice, oP_load, oP_convert, aPick_true, aPick_false, aPick_bool, oP_pick, aExtract_tup, oP_extract, oP_nilCheck, oP_build, oP_len, oP_cap, oP_max, oP_min, oP_makeFunc, oS_some, oP_store, oA_some, oP_append, oM_some, oP_alloc, oP_box, oP_buildSlice, oP_mkS, oP_call, oP_callv, oF_func, aev_tmp, aev_const, aev_func, aput_get, aput_none, bin_add, bin_sub, bin_mul, bin_eql, bin_neq, bin_lss, bin_leq, bin_gtr, bin_geq, un_not, un_neg, tm0_get, fin_ret, fin_end, oR_some, resL_nil, resL_tmp, resL_cell, tup_one, tup_two, tup_nil, cond_true, cond_false, load_eq, Option.bind_some, gt0, gti, mkv, List.length_append, List.length_cons, List.length_nil, List.append_assoc, List.cons_append, List.nil_append, rd0, rdi, wrt0, wrti, rdB_own, rdB_ro, wrB_own, oL_some, aggAt, sto_some, st0, sti, List.set_cons_zero, List.set_cons_succ, splice_nil, splice_cons, cells_agg, cells_int, cells_bool, cells_string, cells_pointer, cells_slice, leaf_int, leaf_bool, leaf_string, leaf_pointer, leaf_slice, List.size_toArray, List.all_cons, List.all_nil, Bool.and_self, Bool.and_true, and_self, true_and, and_true, Nat.zero_add, Nat.add_zero, Nat.reduceLeDiff, Nat.le_refl, List.drop_zero, List.drop_succ_cons, List.take_succ_cons, List.take_zero, Nat.reduceSub, lp_end, lp_ret, lp_exit, oV_ite, oS_ite, oA_ite, slc_some, sls_some, optInt_none, optInt_some, rW_draw, rD_nil, rDV_eq, rDR_eq, rDE_eq, rDS_n, rDS_e, rD_load, rD_conv, rD_pure, rD_e, rD_g, rDG_t, rDG_f, rDG_undef, chkH_nil, chkH_cons, chkP_nil, chkP_cons, aRead_load, aRead_conv, isE_store, isE_call, isE_append, rDS_l, rDS_c, pl_move, pl_assign, pl_pick, pl_alloc, pl_box, pl_build, pl_buildSlice, pl_nilCheck, pl_binOp, pl_unOp, pl_makeFunc, pl_makeSlice, pl_slice, pl_fieldAddr, pl_field, pl_indexAddr, pl_index, pl_extract, pl_len, pl_cap, pl_max, pl_min, List.mem_cons, Prod.mk.injEq, List.not_mem_nil, or_false, or_true, false_or, true_or, and_false, false_and, false_implies, implies_true, true_implies, oM_ite, fillP_nil, fillP_cons, fillQ_some, slq_some, most_max, most_min, Nat.reduceMul, List.getElem?_toArray, List.getElem?_cons_zero, List.getElem?_cons_succ, List.getElem?_nil, Option.getD_some, Option.getD_none, Nat.reduceEqDiff, reduceIte, Nat.reduceAdd, List.map_toArray, List.map_cons, List.map_nil, Bool.false_eq_true, Nat.reduceBEq, Option.map_some, Option.map_none, reduceCtorEq, al27, bd27, ld27, st27]
  refine (l10Copy_ok hv.mono hl).mono ?_
  rintro _ H1 ⟨⟨ys, hn, hc⟩, hK⟩
  obtain ⟨a, c, rfl, _⟩ := hn.ot.frow.op
  have b0 : H1[H.length]? = some ⟨[.int .i64 0, .slice none 0 0, .slice none 0 0, .int .i64 0, .int .i64 0], .own⟩ := by
    obtain ⟨K, rfl⟩ := hK
    exact gtl (by rw [gt0]; rfl)
  simp -implicitDefEqProofs only [rE_seq_n, rE_seq_r, rE_seq_e, rE_blk_n, rE_blk_r, rE_blk_e, rW_skip, rW_ret, rW_exit, rW_ops, rW_seq, rW_block, ↓two_true, ↓two_false, rC_bool, rW_cond, rO_nil, rO_cons, oG_t, oG_f, oG_undef, rO_guard, oV_some, rOV_eq, oP_move, oP_assign, oP_bin, oP_un, oP_index, oP_fieldAddr, oP_field, oP_indexAddr, oP_slice, oP_load, oP_convert, aPick_true, aPick_false, aPick_bool, oP_pick, aExtract_tup, oP_extract, oP_nilCheck, oP_build, oP_len, oP_cap, oP_max, oP_min, oP_makeFunc, oS_some, oP_store, oA_some, oP_append, oM_some, oP_alloc, oP_box, oP_buildSlice, oP_mkS, oP_call, oP_callv, oF_func, aev_tmp, aev_const, aev_func, aput_get, aput_none, bin_add, bin_sub, bin_mul, bin_eql, bin_neq, bin_lss, bin_leq, bin_gtr, bin_geq, un_not, un_neg, tm0_get, fin_ret, fin_end, oR_some, resL_nil, resL_tmp, resL_cell, tup_one, tup_two, tup_nil, cond_true, cond_false, load_eq, Option.bind_some, gt0, gti, mkv, List.length_append, List.length_cons, List.length_nil, List.append_assoc, List.cons_append, List.nil_append, rd0, rdi, wrt0, wrti, rdB_own, rdB_ro, wrB_own, oL_some, aggAt, sto_some, st0, sti, List.set_cons_zero, List.set_cons_succ, splice_nil, splice_cons, cells_agg, cells_int, cells_bool, cells_string, cells_pointer, cells_slice, leaf_int, leaf_bool, leaf_string, leaf_pointer, leaf_slice, List.size_toArray, List.all_cons, List.all_nil, Bool.and_self, Bool.and_true, and_self, true_and, and_true, Nat.zero_add, Nat.add_zero, Nat.reduceLeDiff, Nat.le_refl, List.drop_zero, List.drop_succ_cons, List.take_succ_cons, List.take_zero, Nat.reduceSub, lp_end, lp_ret, lp_exit, oV_ite, oS_ite, oA_ite, slc_some, sls_some, optInt_none, optInt_some, rW_draw, rD_nil, rDV_eq, rDR_eq, rDE_eq, rDS_n, rDS_e, rD_load, rD_conv, rD_pure, rD_e, rD_g, rDG_t, rDG_f, rDG_undef, chkH_nil, chkH_cons, chkP_nil, chkP_cons, aRead_load, aRead_conv, isE_store, isE_call, isE_append, rDS_l, rDS_c, pl_move, pl_assign, pl_pick, pl_alloc, pl_box, pl_build, pl_buildSlice, pl_nilCheck, pl_binOp, pl_unOp, pl_makeFunc, pl_makeSlice, pl_slice, pl_fieldAddr, pl_field, pl_indexAddr, pl_index, pl_extract, pl_len, pl_cap, pl_max, pl_min, List.mem_cons, Prod.mk.injEq, List.not_mem_nil, or_false, or_true, false_or, true_or, and_false, false_and, false_implies, implies_true, true_implies, oM_ite, fillP_nil, fillP_cons, fillQ_some, slq_some, most_max, most_min, Nat.reduceMul, List.getElem?_toArray, List.getElem?_cons_zero, List.getElem?_cons_succ, List.getElem?_nil, Option.getD_some, Option.getD_none, Nat.reduceEqDiff, reduceIte, Nat.reduceAdd, List.map_toArray, List.map_cons, List.map_nil, Bool.false_eq_true, Nat.reduceBEq, Option.map_some, Option.map_none, reduceCtorEq, al27, bd27, ld27, st27, wrt_own b0, rd_own (set_at b0)]
  rw [hv.vals] at hc
  exact ⟨⟨a, c, ys, rfl, machNew hn hc (by simp) (by simp)⟩, set_ext (ext_trans ⟨_, rfl⟩ hK) (Nat.le_refl _)⟩

theorem implMachineNew_th {H : AH} {v : Value} {n : Nat} {xs : List Value} {st : Int} (hv : FRow H v kVar n xs) (hl : n ≤ 1073741824) :
    CallsA Try.prog 18 #[v, .int .i64 st] H fun r H' => (∃ a c ys, r = machV 0 st 0 (.slice none 0 0) (.slice a n c) ∧ NewL H H' (machL (.slice none 0 0) 0 [] (.slice a n c) n ys) [[], cvs H xs]) ∧ ∃ K, H' = H ++ K := by
  refine w18 ?_
  unfold k18
  simp -implicitDefEqProofs only [rE_seq_n, rE_seq_r, rE_seq_e, rE_blk_n, rE_blk_r, rE_blk_e, rW_skip, rW_ret, rW_exit, rW_ops, rW_seq, rW_block, ↓two_true, ↓two_false, rC_bool, rW_cond, rO_nil, rO_cons, oG_t, oG_f, oG_undef, rO_guard, oV_some, rOV_eq, oP_move, oP_assign, oP_bin, oP_un, oP_index, oP_fieldAddr, oP_field, oP_indexAddr, oP_slice, oP_load, oP_convert, aPick_true, aPick_false, aPick_bool, oP_pick, aExtract_tup, oP_extract, oP_nilCheck, oP_build, oP_len, oP_cap, oP_max, oP_min, oP_makeFunc, oS_some, oP_store, oA_some, oP_append, oM_some, oP_alloc, oP_box, oP_buildSlice, oP_mkS, oP_call, oP_callv, oF_func, aev_tmp, aev_const, aev_func, aput_get, aput_none, bin_add, bin_sub, bin_mul, bin_eql, bin_neq, bin_lss, bin_leq, bin_gtr, bin_geq, un_not, un_neg, tm0_get, fin_ret, fin_end, oR_some, resL_nil, resL_tmp, resL_cell, tup_one, tup_two, tup_nil, cond_true, cond_false, load_eq, Option.bind_some, gt0, gti, mkv, List.length_append, List.length_cons, List.length_nil, List.append_assoc, List.cons_append, List.nil_append, rd0, rdi, wrt0, wrti, rdB_own, rdB_ro, wrB_own, oL_some, aggAt, sto_some, st0, sti, List.set_cons_zero, List.set_cons_succ, splice_nil, splice_cons, cells_agg, cells_int, cells_bool, cells_string, cells_pointer, cells_slice, leaf_int, leaf_bool, leaf_string, leaf_pointer, leaf_slice, List.size_toArray, List.all_cons, List.all_nil, Bool.and_self, Bool.and_true, and_self, true_and, and_true, Nat.zero_add, Nat.add_zero, Nat.reduceLeDiff, Nat.le_refl, List.drop_zero, List.drop_succ_cons, List.take_succ_cons, List.take_zero, Nat.reduceSub, lp_end, lp_ret, lp_exit, oV_ite, oS_ite, oA_ite, slc_some, sls_some, optInt_none, optInt_some, rW_draw, rD_nil, rDV_eq, rDR_eq, rDE_eq, rDS_n, rDS_e, rD_load, rD_conv, rD_pure, rD_e, rD_g, rDG_t, rDG_f, rDG_undef, chkH_nil, chkH_cons, chkP_nil, chkP_cons, aRead_load, aRead_conv, isE_store, isE_call, isE_append, rDS_l, rDS_c, pl_move, pl_assign, pl_pick, pl_alloc, pl_box, pl_build, pl_buildSlice, pl_nilCheck, pl_binOp, pl_unOp, pl_makeFunc, pl_makeSlice, pl_slice, pl_fieldAddr, pl_field, pl_indexAddr, pl_index, pl_extract, pl_len, pl_cap, pl_max, pl_min, List.mem_cons, Prod.mk.injEq, List.not_mem_nil, or_false, or_true, false_or, true_or, and_false, false_and, false_implies, implies_true, true_implies, oM_ite, fillP_nil, fillP_cons, fillQ_some, slq_some, most_max, most_min, Nat.reduceMul, List.getElem?_toArray, List.getElem?_cons_zero, List.getElem?_cons_succ, List.getElem?_nil, Option.getD_some, Option.getD_none, Nat.reduceEqDiff, reduceIte, Nat.reduceAdd, List.map_toArray, List.map_cons, List.map_nil, Bool.false_eq_true, Nat.reduceBEq, Option.map_some, Option.map_none, reduceCtorEq, al27, bd27, ld27, st27]
  refine (copyVars_ok hv.mono hl).mono ?_
  rintro _ H1 ⟨⟨ys, hn, hc⟩, hK⟩
  obtain ⟨a, c, rfl, _⟩ := hn.ot.frow.op
  have b0 : H1[H.length]? = some ⟨[.int .i64 0, .slice none 0 0, .slice none 0 0, .int .i64 0, .int .i64 0], .own⟩ := by
    obtain ⟨K, rfl⟩ := hK
    exact gtl (by rw [gt0]; rfl)
  simp -implicitDefEqProofs only [rE_seq_n, rE_seq_r, rE_seq_e, rE_blk_n, rE_blk_r, rE_blk_e, rW_skip, rW_ret, rW_exit, rW_ops, rW_seq, rW_block, ↓two_true, ↓two_false, rC_bool, rW_cond, rO_nil, rO_cons, oG_t, oG_f, oG_undef, rO_guard, oV_some, rOV_eq, oP_move, oP_assign, oP_bin, oP_un, oP_index, oP_fieldAddr, oP_field, oP_indexAddr, oP_slice, oP_load, oP_convert, aPick_true, aPick_false, aPick_bool, oP_pick, aExtract_tup, oP_extract, oP_nilCheck, oP_build, oP_len, oP_cap, oP_max, oP_min, oP_makeFunc, oS_some, oP_store, oA_some, oP_append, oM_some, oP_alloc, oP_box, oP_buildSlice, oP_mkS, oP_call, oP_callv, oF_func, aev_tmp, aev_const, aev_func, aput_get, aput_none, bin_add, bin_sub, bin_mul, bin_eql, bin_neq, bin_lss, bin_leq, bin_gtr, bin_geq, un_not, un_neg, tm0_get, fin_ret, fin_end, oR_some, resL_nil, resL_tmp, resL_cell, tup_one, tup_two, tup_nil, cond_true, cond_false, load_eq, Option.bind_some, gt0, gti, mkv, List.length_append, List.length_cons, List.length_nil, List.append_assoc, List.cons_append, List.nil_append, rd0, rdi, wrt0, wrti, rdB_own, rdB_ro, wrB_own, oL_some, aggAt, sto_some, st0, sti, List.set_cons_zero, List.set_cons_succ, splice_nil, splice_cons, cells_agg, cells_int, cells_bool, cells_string, cells_pointer, cells_slice, leaf_int, leaf_bool, leaf_string, leaf_pointer, leaf_slice, List.size_toArray, List.all_cons, List.all_nil, Bool.and_self, Bool.and_true, and_self, true_and, and_true, Nat.zero_add, Nat.add_zero, Nat.reduceLeDiff, Nat.le_refl, List.drop_zero, List.drop_succ_cons, List.take_succ_cons, List.take_zero, Nat.reduceSub, lp_end, lp_ret, lp_exit, oV_ite, oS_ite, oA_ite, slc_some, sls_some, optInt_none, optInt_some, rW_draw, rD_nil, rDV_eq, rDR_eq, rDE_eq, rDS_n, rDS_e, rD_load, rD_conv, rD_pure, rD_e, rD_g, rDG_t, rDG_f, rDG_undef, chkH_nil, chkH_cons, chkP_nil, chkP_cons, aRead_load, aRead_conv, isE_store, isE_call, isE_append, rDS_l, rDS_c, pl_move, pl_assign, pl_pick, pl_alloc, pl_box, pl_build, pl_buildSlice, pl_nilCheck, pl_binOp, pl_unOp, pl_makeFunc, pl_makeSlice, pl_slice, pl_fieldAddr, pl_field, pl_indexAddr, pl_index, pl_extract, pl_len, pl_cap, pl_max, pl_min, List.mem_cons, Prod.mk.injEq, List.not_mem_nil, or_false, or_true, false_or, true_or, and_false, false_and, false_implies, implies_true, true_implies, oM_ite, fillP_nil, fillP_cons, fillQ_some, slq_some, most_max, most_min, Nat.reduceMul, List.getElem?_toArray, List.getElem?_cons_zero, List.getElem?_cons_succ, List.getElem?_nil, Option.getD_some, Option.getD_none, Nat.reduceEqDiff, reduceIte, Nat.reduceAdd, List.map_toArray, List.map_cons, List.map_nil, Bool.false_eq_true, Nat.reduceBEq, Option.map_some, Option.map_none, reduceCtorEq, al27, bd27, ld27, st27, wrt_own b0, rd_own (set_at b0)]
  rw [hv.vals] at hc
  exact ⟨⟨a, c, ys, rfl, machNew hn hc (by simp) (by simp)⟩, set_ext (ext_trans ⟨_, rfl⟩ hK) (Nat.le_refl _)⟩

theorem markMachine_u {H : AH} {a b c k : Int} {s vs : Value} {n m : Nat} {xs ys : List Value} {V W : List CV}
    (h : LI.ok H (.own (machL s n xs vs m ys) [V, W])) (l1 : n ≤ 1073741824) (l3 : m ≤ 1073741824) (hk : 0 ≤ k ∧ k + cntF ([V, W] : List (List CV)).flatten < 4611686018427387904) :
    CallsA Try.prog 22 #[machV a b c s vs, .int .i64 k] H fun r H' => r = .int .i64 (k + cntF ([V, W] : List (List CV)).flatten) ∧ ∃ xs' ys' V' W', Marked H (machL s n xs vs m ys) k H' (machL s n xs' vs m ys') ∧ LI.ok H' (.own (machL s n xs' vs m ys') [V', W']) ∧ ([V', W'] : List (List CV)).flatten = markF ([V, W] : List (List CV)).flatten k := by
  have e : cntF ([V, W] : List (List CV)).flatten = cntF V + cntF W := by
    simp only [List.flatten_cons, List.flatten_nil, List.append_nil, cntF_append]
  rw [e] at hk ⊢
  refine (markMachine_th h l1 l3 (by omega)).mono ?_
  rintro _ H' ⟨rfl, xs', ys', hm⟩
  refine ⟨by congr 1; omega, xs', ys', cvs H' xs', cvs H' ys', hm, ⟨hm.own, rfl⟩, ?_⟩
  have := hm.vals
  rwa [h.2] at this
theorem heldMachine_u {H : AH} {a b c k : Int} {s vs : Value} {n m : Nat} {xs ys : List Value} {V W : List CV}
    (h : LI.ok H (.own (machL s n xs vs m ys) [V, W])) (l1 : n ≤ 1073741824) (l3 : m ≤ 1073741824) (hk : 0 ≤ k ∧ k + cntF ([V, W] : List (List CV)).flatten < 4611686018427387904) :
    CallsA Try.prog 23 #[machV a b c s vs, .int .i64 k] H fun r H' => r = .int .i64 (heldF ([V, W] : List (List CV)).flatten k) ∧ ∃ K, H' = H ++ K := by
  have e : cntF ([V, W] : List (List CV)).flatten = cntF V + cntF W := by
    simp only [List.flatten_cons, List.flatten_nil, List.append_nil, cntF_append]
  rw [e] at hk
  exact heldMachine_th h.rd l1 l3 (by omega)

theorem specMachineNew_u {H : AH} {v : Value} {n : Nat} {xs : List Value} {V : List CV} {st : Int} (h : LI.ok H (.rd [.row v kVar n xs] [V])) (hl : n ≤ 1073741824) :
    CallsA Try.prog 16 #[v, .int .i64 st] H fun r H' => (∃ a c ys, r = machV 0 st 0 (.slice none 0 0) (.slice a n c) ∧ NewL H H' (machL (.slice none 0 0) 0 [] (.slice a n c) n ys) [[], V]) ∧ ∃ K, H' = H ++ K := by
  obtain ⟨h1, rfl⟩ := LI.row h
  exact specMachineNew_th h1 hl

theorem implMachineNew_u {H : AH} {v : Value} {n : Nat} {xs : List Value} {V : List CV} {st : Int} (h : LI.ok H (.rd [.row v kVar n xs] [V])) (hl : n ≤ 1073741824) :
    CallsA Try.prog 18 #[v, .int .i64 st] H fun r H' => (∃ a c ys, r = machV 0 st 0 (.slice none 0 0) (.slice a n c) ∧ NewL H H' (machL (.slice none 0 0) 0 [] (.slice a n c) n ys) [[], V]) ∧ ∃ K, H' = H ++ K := by
  obtain ⟨h1, rfl⟩ := LI.row h
  exact implMachineNew_th h1 hl

theorem TI.row {H H' : AH} {xs ys : List VR3} (h : TI H xs xs.length ys H') : SOwn H' (.slice (some ⟨H.length, 0, none⟩) xs.length 3) 3 (ys.map vcells) := by
  have := h.own
  rwa [Nat.sub_self, List.replicate_zero, List.append_nil] at this
theorem TI.vals {H H' : AH} {xs ys : List VR3} (h : TI H xs xs.length ys H') : ys.map (vval H') = xs.map (vval H) := by
  refine List.ext_getElem (by simp [h.yl]) fun i h1 h2 => ?_
  have hy : i < ys.length := by simpa using h1
  have hx : i < xs.length := by simpa using h2
  obtain ⟨a, b, c⟩ := h.rows i _ _ (List.getElem?_eq_getElem hx) (List.getElem?_eq_getElem hy)
  simp only [List.getElem_map, vval, a, b.rowI, c.rowI]
end Go.Proofs.Ytgekbancaeabgaa.AM
