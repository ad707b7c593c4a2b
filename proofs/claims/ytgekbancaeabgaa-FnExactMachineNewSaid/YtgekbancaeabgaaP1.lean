/- What the functions answer, part 1. -/
import Derived.Test.YtgekbancaeabgaaK1
set_option linter.unusedVariables false
set_option linter.unusedSimpArgs false
set_option maxRecDepth 100000
/- What the functions answer, part 1. -/
namespace Go.Proofs.Ytgekbancaeabgaa.AM
open Go Go.Proofs.Ytgekbancaeabgaa Go.Proofs
theorem RpA.cons {P : Program} {H : AH} {t : TypeId} {ts : List TypeId} {vs : List Value} (h : RpA P H (t :: ts) vs) : ∃ v vs', vs = v :: vs' ∧ RpV P H t v ∧ RpA P H ts vs' := by
  cases vs with
  | nil => exact h.elim
  | cons v vs => exact ⟨v, vs, rfl, h.1, h.2⟩
theorem RpA.nil {P : Program} {H : AH} {vs : List Value} (h : RpA P H [] vs) : vs = [] := by
  cases vs with
  | nil => rfl
  | cons v vs => exact h.elim
theorem Rp.int {P : Program} {H : AH} {k : Nat} {t : TypeId} {q : IntKind} {vs : List Value} (hu : P.underlying t = some (.int q)) (h : Rp P H k t vs) : ∃ n, vs = [.int q n] ∧ (Lit.int q n).wf = true := by
  cases k with
  | zero => exact h.elim
  | succ k => simpa only [Rp, hu] using h
theorem Rp.struct {P : Program} {H : AH} {k : Nat} {t : TypeId} {fs : Array Field} {vs : List Value} (hu : P.underlying t = some (.struct fs)) (h : Rp P H k t vs) :
    vs.length = P.cellsOf t ∧ ∃ k, ∀ f ∈ fs.toList, Rp P H k f.type ((vs.drop f.offset).take (P.cellsOf f.type)) := by
  cases k with
  | zero => exact h.elim
  | succ k =>
    simp only [Rp, hu] at h
    exact ⟨h.1, k, h.2⟩
/-- Bounds of an int. -/
def I64 (n : Int) : Prop := -9223372036854775808 ≤ n ∧ n ≤ 9223372036854775807
theorem wf_i64 {n : Int} (h : (Lit.int .i64 n).wf = true) : I64 n := by
  simp [Lit.wf, IntKind.min, IntKind.max, IntKind.bits, IntKind.signed] at h
  exact ⟨by omega, by omega⟩

def ints (l : List Int) : List Value := l.map (.int .i64)
theorem ints_get {l : List Int} {i : Nat} (h : i < l.length) : (ints l)[i]? = some (.int .i64 l[i]) := by simp [ints, h]
/-- A slice of ints that may be read. -/
def IntRow (H : AH) (v : Value) (l : List Int) : Prop :=
  (v = .slice none 0 0 ∧ l = []) ∨ ∃ b o cs, v = .slice (some ⟨b, o, none⟩) l.length 1 ∧ rd H b = some cs ∧ o + l.length ≤ cs.length ∧ (cs.drop o).take l.length = ints l
def toI : Value → Int | .int _ n => n | _ => 0
def rowI (H : AH) : Value → List Int
  | .slice (some ⟨b, o, _⟩) n _ => ((((rd H b).getD []).drop o).take n).map toI
  | _ => []
def OkI (H : AH) (v : Value) : Prop := IntRow H v (rowI H v)
theorem IntRow.row {H : AH} {v : Value} {l : List Int} (h : IntRow H v l) : rowI H v = l := by
  rcases h with ⟨rfl, rfl⟩ | ⟨b, o, cs, rfl, h1, _, h2⟩
  · rfl
  · simp only [rowI, h1, Option.getD_some, h2, ints, List.map_map]
    have : (toI ∘ Value.int IntKind.i64) = id := by funext n; rfl
    rw [this, List.map_id]
theorem IntRow.ok {H : AH} {v : Value} {l : List Int} (h : IntRow H v l) : OkI H v := by
  unfold OkI; rw [h.row]; exact h
theorem IntRow.same {H H' : AH} {v : Value} {l : List Int} (h : IntRow H v l) (hs : ∀ b o n c, v = .slice (some ⟨b, o, none⟩) n c → rd H' b = rd H b) : IntRow H' v l := by
  rcases h with h | ⟨b, o, cs, h1, h2, h3, h4⟩
  · exact .inl h
  · exact .inr ⟨b, o, cs, h1, by rw [hs _ _ _ _ h1]; exact h2, h3, h4⟩
theorem IntRow.mono {H L : AH} {v : Value} {l : List Int} (h : IntRow H v l) : IntRow (H ++ L) v l := by
  rcases h with h | ⟨b, o, cs, h1, h2, h3, h4⟩
  · exact .inl h
  · exact .inr ⟨b, o, cs, h1, by rw [rdl (by simp [h2]), h2], h3, h4⟩
theorem OkI.mono {H L : AH} {v : Value} (h : OkI H v) : OkI (H ++ L) v := (IntRow.mono h).ok
theorem rowI_mono {H L : AH} {v : Value} (h : OkI H v) : rowI (H ++ L) v = rowI H v := (IntRow.mono h).row
theorem IntRow.op {H : AH} {v : Value} {l : List Int} (h : IntRow H v l) : ∃ a c, v = .slice a l.length c ∧ (0 < l.length → ∃ b o cs, a = some ⟨b, o, none⟩ ∧ c = 1 ∧ rd H b = some cs ∧ o + l.length ≤ cs.length ∧ ∀ i (hi : i < l.length), cs[o + i]? = some (.int .i64 l[i])) := by
  rcases h with ⟨rfl, rfl⟩ | ⟨b, o, cs, rfl, h1, h2, h3⟩
  · exact ⟨none, 0, rfl, fun h => by simp at h⟩
  · refine ⟨_, _, rfl, fun _ => ⟨b, o, cs, rfl, rfl, h1, h2, fun i hi => ?_⟩⟩
    have := ints_get hi
    rw [← h3, List.getElem?_take_of_lt hi, List.getElem?_drop] at this
    exact this
theorem OkI.nil {H : AH} : OkI H (.slice none 0 0) := .inl ⟨rfl, rfl⟩
theorem eqIntS_ok {H : AH} {v w : Value} {l m : List Int} (hv : IntRow H v l) (hw : IntRow H w m) (hl : l.length < 9223372036854775807) : CallsA Try.prog 143 #[v, w] H fun r H' => r = .bool (l == m) ∧ H' = H := by
  obtain ⟨a, c, rfl, gv⟩ := hv.op
  obtain ⟨a', c', rfl, gw⟩ := hw.op
  refine w143 ?_
  unfold k143
  simp -implicitDefEqProofs only [rE_seq_n, rE_seq_r, rE_seq_e, rE_blk_n, rE_blk_r, rE_blk_e, rW_skip, rW_ret, rW_exit, rW_ops, rW_seq, rW_block, ↓two_true, ↓two_false, rC_bool, rW_cond, rO_nil, rO_cons, oG_t, oG_f, oG_undef, rO_guard, oV_some, rOV_eq, oP_move, oP_assign, oP_bin, oP_un, oP_index, oP_fieldAddr, oP_field, oP_indexAddr, oP_slice, oP_load, oP_convert, aPick_true, aPick_false, aPick_bool, oP_pick, aExtract_tup, oP_extract, oP_nilCheck, oP_build, oP_len, oP_cap, oP_max, oP_min, oP_makeFunc, oS_some, oP_store, oA_some, oP_append, oM_some, oP_alloc, oP_box, oP_buildSlice, oP_mkS, oP_call, oP_callv, oF_func, aev_tmp, aev_const, aev_func, aput_get, aput_none, bin_add, bin_sub, bin_mul, bin_eql, bin_neq, bin_lss, bin_leq, bin_gtr, bin_geq, un_not, un_neg, tm0_get, fin_ret, fin_end, oR_some, resL_nil, resL_tmp, resL_cell, tup_one, tup_two, tup_nil, cond_true, cond_false, load_eq, Option.bind_some, gt0, gti, mkv, List.length_append, List.length_cons, List.length_nil, List.append_assoc, List.cons_append, List.nil_append, rd0, rdi, wrt0, wrti, rdB_own, rdB_ro, wrB_own, oL_some, aggAt, sto_some, st0, sti, List.set_cons_zero, List.set_cons_succ, splice_nil, splice_cons, cells_agg, cells_int, cells_bool, cells_string, cells_pointer, cells_slice, leaf_int, leaf_bool, leaf_string, leaf_pointer, leaf_slice, List.size_toArray, List.all_cons, List.all_nil, Bool.and_self, Bool.and_true, and_self, true_and, and_true, Nat.zero_add, Nat.add_zero, Nat.reduceLeDiff, Nat.le_refl, List.drop_zero, List.drop_succ_cons, List.take_succ_cons, List.take_zero, Nat.reduceSub, lp_end, lp_ret, lp_exit, oV_ite, oS_ite, oA_ite, slc_some, sls_some, optInt_none, optInt_some, rW_draw, rD_nil, rDV_eq, rDR_eq, rDE_eq, rDS_n, rDS_e, rD_load, rD_conv, rD_pure, rD_e, rD_g, rDG_t, rDG_f, rDG_undef, chkH_nil, chkH_cons, chkP_nil, chkP_cons, aRead_load, aRead_conv, isE_store, isE_call, isE_append, rDS_l, rDS_c, pl_move, pl_assign, pl_pick, pl_alloc, pl_box, pl_build, pl_buildSlice, pl_nilCheck, pl_binOp, pl_unOp, pl_makeFunc, pl_makeSlice, pl_slice, pl_fieldAddr, pl_field, pl_indexAddr, pl_index, pl_extract, pl_len, pl_cap, pl_max, pl_min, List.mem_cons, Prod.mk.injEq, List.not_mem_nil, or_false, or_true, false_or, true_or, and_false, false_and, false_implies, implies_true, true_implies, oM_ite, fillP_nil, fillP_cons, fillQ_some, slq_some, most_max, most_min, Nat.reduceMul, List.getElem?_toArray, List.getElem?_cons_zero, List.getElem?_cons_succ, List.getElem?_nil, Option.getD_some, Option.getD_none, Nat.reduceEqDiff, reduceIte, Nat.reduceAdd, List.map_toArray, List.map_cons, List.map_nil, Bool.false_eq_true, Nat.reduceBEq, Option.map_some, Option.map_none, reduceCtorEq, ix43, ld3, ln43]
  refine two_intro (fun h => ?_) (fun h => ?_)
  · have : (l == m) = false := by
      rw [beq_eq_false_iff_ne]
      rintro rfl
      simp at h
    rw [this]
  · have hlen : l.length = m.length := by simp at h; omega
    refine rW_loop (σ := Nat) (fun i tm H' => tm 0 = .slice a l.length c ∧ tm 1 = .slice a' m.length c' ∧ tm 5 = .int .i64 i ∧ H' = H ∧ i ≤ l.length ∧ ∀ j, j < i → l[j]? = m[j]?) (fun i => l.length - i) 0 ?_ ?_
    · simp -implicitDefEqProofs [rE_seq_n, rE_seq_r, rE_seq_e, rE_blk_n, rE_blk_r, rE_blk_e, rW_skip, rW_ret, rW_exit, rW_ops, rW_seq, rW_block, ↓two_true, ↓two_false, rC_bool, rW_cond, rO_nil, rO_cons, oG_t, oG_f, oG_undef, rO_guard, oV_some, rOV_eq, oP_move, oP_assign, oP_bin, oP_un, oP_index, oP_fieldAddr, oP_field, oP_indexAddr, oP_slice, oP_load, oP_convert, aPick_true, aPick_false, aPick_bool, oP_pick, aExtract_tup, oP_extract, oP_nilCheck, oP_build, oP_len, oP_cap, oP_max, oP_min, oP_makeFunc, oS_some, oP_store, oA_some, oP_append, oM_some, oP_alloc, oP_box, oP_buildSlice, oP_mkS, oP_call, oP_callv, oF_func, aev_tmp, aev_const, aev_func, aput_get, aput_none, bin_add, bin_sub, bin_mul, bin_eql, bin_neq, bin_lss, bin_leq, bin_gtr, bin_geq, un_not, un_neg, tm0_get, fin_ret, fin_end, oR_some, resL_nil, resL_tmp, resL_cell, tup_one, tup_two, tup_nil, cond_true, cond_false, load_eq, Option.bind_some, gt0, gti, mkv, List.length_append, List.length_cons, List.length_nil, List.append_assoc, List.cons_append, List.nil_append, rd0, rdi, wrt0, wrti, rdB_own, rdB_ro, wrB_own, oL_some, aggAt, sto_some, st0, sti, List.set_cons_zero, List.set_cons_succ, splice_nil, splice_cons, cells_agg, cells_int, cells_bool, cells_string, cells_pointer, cells_slice, leaf_int, leaf_bool, leaf_string, leaf_pointer, leaf_slice, List.size_toArray, List.all_cons, List.all_nil, Bool.and_self, Bool.and_true, and_self, true_and, and_true, Nat.zero_add, Nat.add_zero, Nat.reduceLeDiff, Nat.le_refl, List.drop_zero, List.drop_succ_cons, List.take_succ_cons, List.take_zero, Nat.reduceSub, lp_end, lp_ret, lp_exit, oV_ite, oS_ite, oA_ite, slc_some, sls_some, optInt_none, optInt_some, rW_draw, rD_nil, rDV_eq, rDR_eq, rDE_eq, rDS_n, rDS_e, rD_load, rD_conv, rD_pure, rD_e, rD_g, rDG_t, rDG_f, rDG_undef, chkH_nil, chkH_cons, chkP_nil, chkP_cons, aRead_load, aRead_conv, isE_store, isE_call, isE_append, rDS_l, rDS_c, pl_move, pl_assign, pl_pick, pl_alloc, pl_box, pl_build, pl_buildSlice, pl_nilCheck, pl_binOp, pl_unOp, pl_makeFunc, pl_makeSlice, pl_slice, pl_fieldAddr, pl_field, pl_indexAddr, pl_index, pl_extract, pl_len, pl_cap, pl_max, pl_min, List.mem_cons, Prod.mk.injEq, List.not_mem_nil, or_false, or_true, false_or, true_or, and_false, false_and, false_implies, implies_true, true_implies, oM_ite, fillP_nil, fillP_cons, fillQ_some, slq_some, most_max, most_min, Nat.reduceMul, List.getElem?_toArray, List.getElem?_cons_zero, List.getElem?_cons_succ, List.getElem?_nil, Option.getD_some, Option.getD_none, Nat.reduceEqDiff, reduceIte, Nat.reduceAdd, List.map_toArray, List.map_cons, List.map_nil, Bool.false_eq_true, Nat.reduceBEq, Option.map_some, Option.map_none, reduceCtorEq, ix43, ld3, ln43]
    · rintro i tm H' ⟨h0, h1, h5, rfl, hi, hn⟩
      simp -implicitDefEqProofs only [rE_seq_n, rE_seq_r, rE_seq_e, rE_blk_n, rE_blk_r, rE_blk_e, rW_skip, rW_ret, rW_exit, rW_ops, rW_seq, rW_block, ↓two_true, ↓two_false, rC_bool, rW_cond, rO_nil, rO_cons, oG_t, oG_f, oG_undef, rO_guard, oV_some, rOV_eq, oP_move, oP_assign, oP_bin, oP_un, oP_index, oP_fieldAddr, oP_field, oP_indexAddr, oP_slice, oP_load, oP_convert, aPick_true, aPick_false, aPick_bool, oP_pick, aExtract_tup, oP_extract, oP_nilCheck, oP_build, oP_len, oP_cap, oP_max, oP_min, oP_makeFunc, oS_some, oP_store, oA_some, oP_append, oM_some, oP_alloc, oP_box, oP_buildSlice, oP_mkS, oP_call, oP_callv, oF_func, aev_tmp, aev_const, aev_func, aput_get, aput_none, bin_add, bin_sub, bin_mul, bin_eql, bin_neq, bin_lss, bin_leq, bin_gtr, bin_geq, un_not, un_neg, tm0_get, fin_ret, fin_end, oR_some, resL_nil, resL_tmp, resL_cell, tup_one, tup_two, tup_nil, cond_true, cond_false, load_eq, Option.bind_some, gt0, gti, mkv, List.length_append, List.length_cons, List.length_nil, List.append_assoc, List.cons_append, List.nil_append, rd0, rdi, wrt0, wrti, rdB_own, rdB_ro, wrB_own, oL_some, aggAt, sto_some, st0, sti, List.set_cons_zero, List.set_cons_succ, splice_nil, splice_cons, cells_agg, cells_int, cells_bool, cells_string, cells_pointer, cells_slice, leaf_int, leaf_bool, leaf_string, leaf_pointer, leaf_slice, List.size_toArray, List.all_cons, List.all_nil, Bool.and_self, Bool.and_true, and_self, true_and, and_true, Nat.zero_add, Nat.add_zero, Nat.reduceLeDiff, Nat.le_refl, List.drop_zero, List.drop_succ_cons, List.take_succ_cons, List.take_zero, Nat.reduceSub, lp_end, lp_ret, lp_exit, oV_ite, oS_ite, oA_ite, slc_some, sls_some, optInt_none, optInt_some, rW_draw, rD_nil, rDV_eq, rDR_eq, rDE_eq, rDS_n, rDS_e, rD_load, rD_conv, rD_pure, rD_e, rD_g, rDG_t, rDG_f, rDG_undef, chkH_nil, chkH_cons, chkP_nil, chkP_cons, aRead_load, aRead_conv, isE_store, isE_call, isE_append, rDS_l, rDS_c, pl_move, pl_assign, pl_pick, pl_alloc, pl_box, pl_build, pl_buildSlice, pl_nilCheck, pl_binOp, pl_unOp, pl_makeFunc, pl_makeSlice, pl_slice, pl_fieldAddr, pl_field, pl_indexAddr, pl_index, pl_extract, pl_len, pl_cap, pl_max, pl_min, List.mem_cons, Prod.mk.injEq, List.not_mem_nil, or_false, or_true, false_or, true_or, and_false, false_and, false_implies, implies_true, true_implies, oM_ite, fillP_nil, fillP_cons, fillQ_some, slq_some, most_max, most_min, Nat.reduceMul, List.getElem?_toArray, List.getElem?_cons_zero, List.getElem?_cons_succ, List.getElem?_nil, Option.getD_some, Option.getD_none, Nat.reduceEqDiff, reduceIte, Nat.reduceAdd, List.map_toArray, List.map_cons, List.map_nil, Bool.false_eq_true, Nat.reduceBEq, Option.map_some, Option.map_none, reduceCtorEq, ix43, ld3, ln43, h0, h1, h5]
      refine two_intro (fun hc => ?_) (fun hc => ?_)
      · have hc' : i < l.length := by simpa using hc
        have hc2 : i < m.length := by omega
        obtain ⟨b, o, cs, rfl, rfl, hrd, _, hcell⟩ := gv (by omega)
        obtain ⟨b', o', cs', rfl, rfl, hrd', _, hcell'⟩ := gw (by omega)
        simp -implicitDefEqProofs only [rE_seq_n, rE_seq_r, rE_seq_e, rE_blk_n, rE_blk_r, rE_blk_e, rW_skip, rW_ret, rW_exit, rW_ops, rW_seq, rW_block, ↓two_true, ↓two_false, rC_bool, rW_cond, rO_nil, rO_cons, oG_t, oG_f, oG_undef, rO_guard, oV_some, rOV_eq, oP_move, oP_assign, oP_bin, oP_un, oP_index, oP_fieldAddr, oP_field, oP_indexAddr, oP_slice, oP_load, oP_convert, aPick_true, aPick_false, aPick_bool, oP_pick, aExtract_tup, oP_extract, oP_nilCheck, oP_build, oP_len, oP_cap, oP_max, oP_min, oP_makeFunc, oS_some, oP_store, oA_some, oP_append, oM_some, oP_alloc, oP_box, oP_buildSlice, oP_mkS, oP_call, oP_callv, oF_func, aev_tmp, aev_const, aev_func, aput_get, aput_none, bin_add, bin_sub, bin_mul, bin_eql, bin_neq, bin_lss, bin_leq, bin_gtr, bin_geq, un_not, un_neg, tm0_get, fin_ret, fin_end, oR_some, resL_nil, resL_tmp, resL_cell, tup_one, tup_two, tup_nil, cond_true, cond_false, load_eq, Option.bind_some, gt0, gti, mkv, List.length_append, List.length_cons, List.length_nil, List.append_assoc, List.cons_append, List.nil_append, rd0, rdi, wrt0, wrti, rdB_own, rdB_ro, wrB_own, oL_some, aggAt, sto_some, st0, sti, List.set_cons_zero, List.set_cons_succ, splice_nil, splice_cons, cells_agg, cells_int, cells_bool, cells_string, cells_pointer, cells_slice, leaf_int, leaf_bool, leaf_string, leaf_pointer, leaf_slice, List.size_toArray, List.all_cons, List.all_nil, Bool.and_self, Bool.and_true, and_self, true_and, and_true, Nat.zero_add, Nat.add_zero, Nat.reduceLeDiff, Nat.le_refl, List.drop_zero, List.drop_succ_cons, List.take_succ_cons, List.take_zero, Nat.reduceSub, lp_end, lp_ret, lp_exit, oV_ite, oS_ite, oA_ite, slc_some, sls_some, optInt_none, optInt_some, rW_draw, rD_nil, rDV_eq, rDR_eq, rDE_eq, rDS_n, rDS_e, rD_load, rD_conv, rD_pure, rD_e, rD_g, rDG_t, rDG_f, rDG_undef, chkH_nil, chkH_cons, chkP_nil, chkP_cons, aRead_load, aRead_conv, isE_store, isE_call, isE_append, rDS_l, rDS_c, pl_move, pl_assign, pl_pick, pl_alloc, pl_box, pl_build, pl_buildSlice, pl_nilCheck, pl_binOp, pl_unOp, pl_makeFunc, pl_makeSlice, pl_slice, pl_fieldAddr, pl_field, pl_indexAddr, pl_index, pl_extract, pl_len, pl_cap, pl_max, pl_min, List.mem_cons, Prod.mk.injEq, List.not_mem_nil, or_false, or_true, false_or, true_or, and_false, false_and, false_implies, implies_true, true_implies, oM_ite, fillP_nil, fillP_cons, fillQ_some, slq_some, most_max, most_min, Nat.reduceMul, List.getElem?_toArray, List.getElem?_cons_zero, List.getElem?_cons_succ, List.getElem?_nil, Option.getD_some, Option.getD_none, Nat.reduceEqDiff, reduceIte, Nat.reduceAdd, List.map_toArray, List.map_cons, List.map_nil, Bool.false_eq_true, Nat.reduceBEq, Option.map_some, Option.map_none, reduceCtorEq, ix43, ld3, ln43, h0, h1, h5, Int.toNat_natCast, Nat.mul_one, hrd, hrd', hcell i hc', hcell' i hc2, IntWalk.i64_in (↑i + 1) (by omega)]
        refine ⟨⟨by omega, by omega⟩, ⟨by omega, by omega⟩, two_intro (fun h => ?_) (fun h => ?_)⟩
        · have : (l == m) = false := by
            rw [beq_eq_false_iff_ne]
            rintro rfl
            simp at h
          rw [this]
        · refine ⟨i + 1, by omega, by simp, hc', fun j hj => ?_⟩
          rcases Nat.lt_or_ge j i with h1 | h1
          · exact hn j h1
          · have : j = i := by omega
            subst this
            simpa [hc', hc2] using h
      · have hc' : ¬ i < l.length := by simpa using hc
        have : (l == m) = true := by
          rw [beq_iff_eq]
          refine List.ext_getElem? fun j => ?_
          rcases Nat.lt_or_ge j i with h1 | h1
          · exact hn j h1
          · rw [List.getElem?_eq_none (by omega), List.getElem?_eq_none (by omega)]
        rw [this]
theorem eqIntS_eq {H : AH} {v w : Value} (hv : OkI H v) (hw : OkI H w) (hl : (rowI H v).length < 9223372036854775807) {Φ : Value → AH → Prop} : CallsA Try.prog 143 #[v, w] H Φ = Φ (.bool (rowI H v == rowI H w)) H := (eqIntS_ok hv hw hl).eq0

def OwnRow (H : AH) (v : Value) (l : List Int) : Prop :=
  (v = .slice none 0 0 ∧ l = []) ∨ ∃ b o cs, v = .slice (some ⟨b, o, none⟩) l.length 1 ∧ H[b]? = some ⟨cs, .own⟩ ∧ o + l.length ≤ cs.length ∧ (cs.drop o).take l.length = ints l
theorem rd_own {H : AH} {b : Nat} {cs : List Value} (h : H[b]? = some ⟨cs, .own⟩) : rd H b = some cs := by simp [rd, h, rdB]
theorem wrt_own {H : AH} {b : Nat} {cs : List Value} (h : H[b]? = some ⟨cs, .own⟩) : wrt H b = some cs := by simp [wrt, h, wrB]
theorem OwnRow.int {H : AH} {v : Value} {l : List Int} (h : OwnRow H v l) : IntRow H v l := by
  rcases h with h | ⟨b, o, cs, h1, h2, h3, h4⟩
  · exact .inl h
  · exact .inr ⟨b, o, cs, h1, rd_own h2, h3, h4⟩
def mks (k : Int) (n : Nat) : List Int := (List.range n).map fun (i : Nat) => k + (i : Int)
theorem mks_len {k : Int} {n : Nat} : (mks k n).length = n := by simp [mks]
theorem mks_get {k : Int} {n i : Nat} (h : i < n) : (mks k n)[i]? = some (k + i) := by simp [mks, h]
/-- The heap with other numbers in a row. -/
def putI (H : AH) (v : Value) (xs : List Int) : AH :=
  match v with
  | .slice (some ⟨b, o, _⟩) _ _ => H.set b ⟨splice ((wrt H b).getD []) o (ints xs), .own⟩
  | _ => H
def blkOf : Value → Option Nat
  | .slice (some ⟨b, _, _⟩) _ _ => some b
  | _ => none
theorem putI_len {H : AH} {v : Value} {xs : List Int} : (putI H v xs).length = H.length := by
  unfold putI; split <;> simp
theorem putI_get {H : AH} {v : Value} {xs : List Int} {b : Nat} (h : blkOf v ≠ some b) : (putI H v xs)[b]? = H[b]? := by
  unfold putI
  split
  · simp only [blkOf, ne_eq, Option.some.injEq] at h
    rw [List.getElem?_set_ne h]
  · rfl
theorem splice_take {xs cs : List Value} {o : Nat} (h : o + xs.length ≤ cs.length) : ((splice cs o xs).drop o).take xs.length = xs := by
  refine List.ext_getElem? fun i => ?_
  rcases Nat.lt_or_ge i xs.length with h1 | h1
  · rw [List.getElem?_take_of_lt h1, List.getElem?_drop, splice_get xs cs o (o + i) h, if_pos (by omega), Nat.add_sub_cancel_left]
  · rw [List.getElem?_eq_none (by simp; omega), List.getElem?_eq_none (by omega)]
theorem OwnRow.put {H : AH} {v : Value} {l xs : List Int} (h : OwnRow H v l) (hx : xs.length = l.length) : OwnRow (putI H v xs) v xs := by
  rcases h with ⟨rfl, rfl⟩ | ⟨b, o, cs, rfl, h2, h3, h4⟩
  · exact .inl ⟨rfl, by cases xs <;> simp_all⟩
  · refine .inr ⟨b, o, splice cs o (ints xs), by rw [hx], ?_, ?_, ?_⟩
    · have hlt := (List.getElem?_eq_some_iff.1 h2).1
      simp only [putI, wrt_own h2, Option.getD_some]
      rw [List.getElem?_set_self hlt]
    · rw [splice_length]; omega
    · have := splice_take (xs := ints xs) (cs := cs) (o := o) (by simp [ints]; omega)
      rw [show (ints xs).length = xs.length by simp [ints]] at this
      exact this
theorem OwnRow.other {H : AH} {v w : Value} {l xs : List Int} (h : OwnRow H v l) (hb : blkOf v = none ∨ blkOf w ≠ blkOf v) : OwnRow (putI H w xs) v l := by
  rcases h with h | ⟨b, o, cs, rfl, h2, h3, h4⟩
  · exact .inl h
  · refine .inr ⟨b, o, cs, rfl, ?_, h3, h4⟩
    rw [putI_get]
    · exact h2
    · rcases hb with hb | hb
      · simp [blkOf] at hb
      · simpa [blkOf] using hb
theorem OwnRow.mono {H L : AH} {v : Value} {l : List Int} (h : OwnRow H v l) : OwnRow (H ++ L) v l := by
  rcases h with h | ⟨b, o, cs, h1, h2, h3, h4⟩
  · exact .inl h
  · exact .inr ⟨b, o, cs, h1, gtl h2, h3, h4⟩
theorem list_set_set {α : Type} {l : List α} {i : Nat} {a b : α} : (l.set i a).set i b = l.set i b := by simp
theorem splice_snoc {xs cs : List Value} {o : Nat} {v : Value} (h : o + xs.length < cs.length) : (splice cs o xs).set (o + xs.length) v = splice cs o (xs ++ [v]) := by
  refine List.ext_getElem? fun i => ?_
  rw [splice_get (xs ++ [v]) cs o i (by simp; omega), List.getElem?_set, splice_length, splice_get xs cs o i (by omega)]
  by_cases h1 : o + xs.length = i
  · subst h1
    rw [if_pos rfl, if_pos h, if_pos (by simp), Nat.add_sub_cancel_left]
    simp
  · rw [if_neg h1]
    by_cases h2 : o ≤ i ∧ i < o + xs.length
    · rw [if_pos h2, if_pos (by simp; omega), List.getElem?_append_left (by omega)]
    · rw [if_neg h2, if_neg (by simp; omega)]
/-- What heldIntS answers. -/
def heldI (l : List Int) (k : Int) : Int := if l = mks k l.length then k + l.length else -1
theorem heldI_mks {k : Int} {n : Nat} : heldI (mks k n) k = k + n := by simp [heldI, mks_len]

theorem markIntS_ok {H : AH} {v : Value} {l : List Int} {k : Int} (hv : OwnRow H v l) (hl : l.length < 4611686018427387904) (hk : 0 ≤ k ∧ k < 4611686018427387904) : CallsA Try.prog 78 #[v, .int .i64 k] H fun r H' => r = .int .i64 (k + l.length) ∧ H' = putI H v (mks k l.length) := by
  obtain ⟨a, c, hv0, gv⟩ := hv.int.op
  subst hv0
  refine w78 ?_
  unfold k78
  simp -implicitDefEqProofs only [rE_seq_n, rE_seq_r, rE_seq_e, rE_blk_n, rE_blk_r, rE_blk_e, rW_skip, rW_ret, rW_exit, rW_ops, rW_seq, rW_block, ↓two_true, ↓two_false, rC_bool, rW_cond, rO_nil, rO_cons, oG_t, oG_f, oG_undef, rO_guard, oV_some, rOV_eq, oP_move, oP_assign, oP_bin, oP_un, oP_index, oP_fieldAddr, oP_field, oP_indexAddr, oP_slice, oP_load, oP_convert, aPick_true, aPick_false, aPick_bool, oP_pick, aExtract_tup, oP_extract, oP_nilCheck, oP_build, oP_len, oP_cap, oP_max, oP_min, oP_makeFunc, oS_some, oP_store, oA_some, oP_append, oM_some, oP_alloc, oP_box, oP_buildSlice, oP_mkS, oP_call, oP_callv, oF_func, aev_tmp, aev_const, aev_func, aput_get, aput_none, bin_add, bin_sub, bin_mul, bin_eql, bin_neq, bin_lss, bin_leq, bin_gtr, bin_geq, un_not, un_neg, tm0_get, fin_ret, fin_end, oR_some, resL_nil, resL_tmp, resL_cell, tup_one, tup_two, tup_nil, cond_true, cond_false, load_eq, Option.bind_some, gt0, gti, mkv, List.length_append, List.length_cons, List.length_nil, List.append_assoc, List.cons_append, List.nil_append, rd0, rdi, wrt0, wrti, rdB_own, rdB_ro, wrB_own, oL_some, aggAt, sto_some, st0, sti, List.set_cons_zero, List.set_cons_succ, splice_nil, splice_cons, cells_agg, cells_int, cells_bool, cells_string, cells_pointer, cells_slice, leaf_int, leaf_bool, leaf_string, leaf_pointer, leaf_slice, List.size_toArray, List.all_cons, List.all_nil, Bool.and_self, Bool.and_true, and_self, true_and, and_true, Nat.zero_add, Nat.add_zero, Nat.reduceLeDiff, Nat.le_refl, List.drop_zero, List.drop_succ_cons, List.take_succ_cons, List.take_zero, Nat.reduceSub, lp_end, lp_ret, lp_exit, oV_ite, oS_ite, oA_ite, slc_some, sls_some, optInt_none, optInt_some, rW_draw, rD_nil, rDV_eq, rDR_eq, rDE_eq, rDS_n, rDS_e, rD_load, rD_conv, rD_pure, rD_e, rD_g, rDG_t, rDG_f, rDG_undef, chkH_nil, chkH_cons, chkP_nil, chkP_cons, aRead_load, aRead_conv, isE_store, isE_call, isE_append, rDS_l, rDS_c, pl_move, pl_assign, pl_pick, pl_alloc, pl_box, pl_build, pl_buildSlice, pl_nilCheck, pl_binOp, pl_unOp, pl_makeFunc, pl_makeSlice, pl_slice, pl_fieldAddr, pl_field, pl_indexAddr, pl_index, pl_extract, pl_len, pl_cap, pl_max, pl_min, List.mem_cons, Prod.mk.injEq, List.not_mem_nil, or_false, or_true, false_or, true_or, and_false, false_and, false_implies, implies_true, true_implies, oM_ite, fillP_nil, fillP_cons, fillQ_some, slq_some, most_max, most_min, Nat.reduceMul, List.getElem?_toArray, List.getElem?_cons_zero, List.getElem?_cons_succ, List.getElem?_nil, Option.getD_some, Option.getD_none, Nat.reduceEqDiff, reduceIte, Nat.reduceAdd, List.map_toArray, List.map_cons, List.map_nil, Bool.false_eq_true, Nat.reduceBEq, Option.map_some, Option.map_none, reduceCtorEq, ix43, ln43, st3]
  refine rW_loop (σ := Nat) (fun i tm H' => tm 0 = .slice a l.length c ∧ tm 1 = .int .i64 (k + i) ∧ tm 5 = .int .i64 i ∧ H' = putI H (.slice a l.length c) (mks k i) ∧ i ≤ l.length) (fun i => l.length - i) 0 ?_ ?_
  · simp -implicitDefEqProofs [rE_seq_n, rE_seq_r, rE_seq_e, rE_blk_n, rE_blk_r, rE_blk_e, rW_skip, rW_ret, rW_exit, rW_ops, rW_seq, rW_block, ↓two_true, ↓two_false, rC_bool, rW_cond, rO_nil, rO_cons, oG_t, oG_f, oG_undef, rO_guard, oV_some, rOV_eq, oP_move, oP_assign, oP_bin, oP_un, oP_index, oP_fieldAddr, oP_field, oP_indexAddr, oP_slice, oP_load, oP_convert, aPick_true, aPick_false, aPick_bool, oP_pick, aExtract_tup, oP_extract, oP_nilCheck, oP_build, oP_len, oP_cap, oP_max, oP_min, oP_makeFunc, oS_some, oP_store, oA_some, oP_append, oM_some, oP_alloc, oP_box, oP_buildSlice, oP_mkS, oP_call, oP_callv, oF_func, aev_tmp, aev_const, aev_func, aput_get, aput_none, bin_add, bin_sub, bin_mul, bin_eql, bin_neq, bin_lss, bin_leq, bin_gtr, bin_geq, un_not, un_neg, tm0_get, fin_ret, fin_end, oR_some, resL_nil, resL_tmp, resL_cell, tup_one, tup_two, tup_nil, cond_true, cond_false, load_eq, Option.bind_some, gt0, gti, mkv, List.length_append, List.length_cons, List.length_nil, List.append_assoc, List.cons_append, List.nil_append, rd0, rdi, wrt0, wrti, rdB_own, rdB_ro, wrB_own, oL_some, aggAt, sto_some, st0, sti, List.set_cons_zero, List.set_cons_succ, splice_nil, splice_cons, cells_agg, cells_int, cells_bool, cells_string, cells_pointer, cells_slice, leaf_int, leaf_bool, leaf_string, leaf_pointer, leaf_slice, List.size_toArray, List.all_cons, List.all_nil, Bool.and_self, Bool.and_true, and_self, true_and, and_true, Nat.zero_add, Nat.add_zero, Nat.reduceLeDiff, Nat.le_refl, List.drop_zero, List.drop_succ_cons, List.take_succ_cons, List.take_zero, Nat.reduceSub, lp_end, lp_ret, lp_exit, oV_ite, oS_ite, oA_ite, slc_some, sls_some, optInt_none, optInt_some, rW_draw, rD_nil, rDV_eq, rDR_eq, rDE_eq, rDS_n, rDS_e, rD_load, rD_conv, rD_pure, rD_e, rD_g, rDG_t, rDG_f, rDG_undef, chkH_nil, chkH_cons, chkP_nil, chkP_cons, aRead_load, aRead_conv, isE_store, isE_call, isE_append, rDS_l, rDS_c, pl_move, pl_assign, pl_pick, pl_alloc, pl_box, pl_build, pl_buildSlice, pl_nilCheck, pl_binOp, pl_unOp, pl_makeFunc, pl_makeSlice, pl_slice, pl_fieldAddr, pl_field, pl_indexAddr, pl_index, pl_extract, pl_len, pl_cap, pl_max, pl_min, List.mem_cons, Prod.mk.injEq, List.not_mem_nil, or_false, or_true, false_or, true_or, and_false, false_and, false_implies, implies_true, true_implies, oM_ite, fillP_nil, fillP_cons, fillQ_some, slq_some, most_max, most_min, Nat.reduceMul, List.getElem?_toArray, List.getElem?_cons_zero, List.getElem?_cons_succ, List.getElem?_nil, Option.getD_some, Option.getD_none, Nat.reduceEqDiff, reduceIte, Nat.reduceAdd, List.map_toArray, List.map_cons, List.map_nil, Bool.false_eq_true, Nat.reduceBEq, Option.map_some, Option.map_none, reduceCtorEq, ix43, ln43, st3]
    rcases hv with ⟨h1, h2⟩ | ⟨b, o, cs, h1, h2, h3, h4⟩
    · simp at h1
      obtain ⟨rfl, rfl, rfl⟩ := h1
      rfl
    · simp at h1
      obtain ⟨rfl, rfl⟩ := h1
      simp only [putI, wrt_own h2, Option.getD_some]
      have : splice cs o (ints (mks k 0)) = cs := splice_nil
      rw [this]
      refine List.ext_getElem? fun i => ?_
      rw [List.getElem?_set]
      split
      · rename_i e
        subst e
        rw [if_pos (List.getElem?_eq_some_iff.1 h2).1, h2]
      · rfl
  · rintro i tm H' ⟨h0, h1, h5, rfl, hi⟩
    simp -implicitDefEqProofs only [rE_seq_n, rE_seq_r, rE_seq_e, rE_blk_n, rE_blk_r, rE_blk_e, rW_skip, rW_ret, rW_exit, rW_ops, rW_seq, rW_block, ↓two_true, ↓two_false, rC_bool, rW_cond, rO_nil, rO_cons, oG_t, oG_f, oG_undef, rO_guard, oV_some, rOV_eq, oP_move, oP_assign, oP_bin, oP_un, oP_index, oP_fieldAddr, oP_field, oP_indexAddr, oP_slice, oP_load, oP_convert, aPick_true, aPick_false, aPick_bool, oP_pick, aExtract_tup, oP_extract, oP_nilCheck, oP_build, oP_len, oP_cap, oP_max, oP_min, oP_makeFunc, oS_some, oP_store, oA_some, oP_append, oM_some, oP_alloc, oP_box, oP_buildSlice, oP_mkS, oP_call, oP_callv, oF_func, aev_tmp, aev_const, aev_func, aput_get, aput_none, bin_add, bin_sub, bin_mul, bin_eql, bin_neq, bin_lss, bin_leq, bin_gtr, bin_geq, un_not, un_neg, tm0_get, fin_ret, fin_end, oR_some, resL_nil, resL_tmp, resL_cell, tup_one, tup_two, tup_nil, cond_true, cond_false, load_eq, Option.bind_some, gt0, gti, mkv, List.length_append, List.length_cons, List.length_nil, List.append_assoc, List.cons_append, List.nil_append, rd0, rdi, wrt0, wrti, rdB_own, rdB_ro, wrB_own, oL_some, aggAt, sto_some, st0, sti, List.set_cons_zero, List.set_cons_succ, splice_nil, splice_cons, cells_agg, cells_int, cells_bool, cells_string, cells_pointer, cells_slice, leaf_int, leaf_bool, leaf_string, leaf_pointer, leaf_slice, List.size_toArray, List.all_cons, List.all_nil, Bool.and_self, Bool.and_true, and_self, true_and, and_true, Nat.zero_add, Nat.add_zero, Nat.reduceLeDiff, Nat.le_refl, List.drop_zero, List.drop_succ_cons, List.take_succ_cons, List.take_zero, Nat.reduceSub, lp_end, lp_ret, lp_exit, oV_ite, oS_ite, oA_ite, slc_some, sls_some, optInt_none, optInt_some, rW_draw, rD_nil, rDV_eq, rDR_eq, rDE_eq, rDS_n, rDS_e, rD_load, rD_conv, rD_pure, rD_e, rD_g, rDG_t, rDG_f, rDG_undef, chkH_nil, chkH_cons, chkP_nil, chkP_cons, aRead_load, aRead_conv, isE_store, isE_call, isE_append, rDS_l, rDS_c, pl_move, pl_assign, pl_pick, pl_alloc, pl_box, pl_build, pl_buildSlice, pl_nilCheck, pl_binOp, pl_unOp, pl_makeFunc, pl_makeSlice, pl_slice, pl_fieldAddr, pl_field, pl_indexAddr, pl_index, pl_extract, pl_len, pl_cap, pl_max, pl_min, List.mem_cons, Prod.mk.injEq, List.not_mem_nil, or_false, or_true, false_or, true_or, and_false, false_and, false_implies, implies_true, true_implies, oM_ite, fillP_nil, fillP_cons, fillQ_some, slq_some, most_max, most_min, Nat.reduceMul, List.getElem?_toArray, List.getElem?_cons_zero, List.getElem?_cons_succ, List.getElem?_nil, Option.getD_some, Option.getD_none, Nat.reduceEqDiff, reduceIte, Nat.reduceAdd, List.map_toArray, List.map_cons, List.map_nil, Bool.false_eq_true, Nat.reduceBEq, Option.map_some, Option.map_none, reduceCtorEq, ix43, ln43, st3, h0, h1, h5]
    refine two_intro (fun hc => ?_) (fun hc => ?_)
    · have hc' : i < l.length := by simpa using hc
      rcases hv with ⟨h2, h3⟩ | ⟨b, o, cs, h2, h3, h4, h6⟩
      · subst h3; simp at hc'
      · simp at h2
        obtain ⟨rfl, rfl⟩ := h2
        have hb : b < H.length := (List.getElem?_eq_some_iff.1 h3).1
        have hw : wrt (putI H (.slice (some ⟨b, o, none⟩) l.length 1) (mks k i)) b = some (splice cs o (ints (mks k i))) := by
          simp only [putI, wrt, wrB, h3, Option.getD_some]
          rw [List.getElem?_set_self hb]
        have hlen : (splice cs o (ints (mks k i))).length = cs.length := splice_length ..
        have hml : (ints (mks k i)).length = i := by simp [ints, mks]
        simp -implicitDefEqProofs only [rE_seq_n, rE_seq_r, rE_seq_e, rE_blk_n, rE_blk_r, rE_blk_e, rW_skip, rW_ret, rW_exit, rW_ops, rW_seq, rW_block, ↓two_true, ↓two_false, rC_bool, rW_cond, rO_nil, rO_cons, oG_t, oG_f, oG_undef, rO_guard, oV_some, rOV_eq, oP_move, oP_assign, oP_bin, oP_un, oP_index, oP_fieldAddr, oP_field, oP_indexAddr, oP_slice, oP_load, oP_convert, aPick_true, aPick_false, aPick_bool, oP_pick, aExtract_tup, oP_extract, oP_nilCheck, oP_build, oP_len, oP_cap, oP_max, oP_min, oP_makeFunc, oS_some, oP_store, oA_some, oP_append, oM_some, oP_alloc, oP_box, oP_buildSlice, oP_mkS, oP_call, oP_callv, oF_func, aev_tmp, aev_const, aev_func, aput_get, aput_none, bin_add, bin_sub, bin_mul, bin_eql, bin_neq, bin_lss, bin_leq, bin_gtr, bin_geq, un_not, un_neg, tm0_get, fin_ret, fin_end, oR_some, resL_nil, resL_tmp, resL_cell, tup_one, tup_two, tup_nil, cond_true, cond_false, load_eq, Option.bind_some, gt0, gti, mkv, List.length_append, List.length_cons, List.length_nil, List.append_assoc, List.cons_append, List.nil_append, rd0, rdi, wrt0, wrti, rdB_own, rdB_ro, wrB_own, oL_some, aggAt, sto_some, st0, sti, List.set_cons_zero, List.set_cons_succ, splice_nil, splice_cons, cells_agg, cells_int, cells_bool, cells_string, cells_pointer, cells_slice, leaf_int, leaf_bool, leaf_string, leaf_pointer, leaf_slice, List.size_toArray, List.all_cons, List.all_nil, Bool.and_self, Bool.and_true, and_self, true_and, and_true, Nat.zero_add, Nat.add_zero, Nat.reduceLeDiff, Nat.le_refl, List.drop_zero, List.drop_succ_cons, List.take_succ_cons, List.take_zero, Nat.reduceSub, lp_end, lp_ret, lp_exit, oV_ite, oS_ite, oA_ite, slc_some, sls_some, optInt_none, optInt_some, rW_draw, rD_nil, rDV_eq, rDR_eq, rDE_eq, rDS_n, rDS_e, rD_load, rD_conv, rD_pure, rD_e, rD_g, rDG_t, rDG_f, rDG_undef, chkH_nil, chkH_cons, chkP_nil, chkP_cons, aRead_load, aRead_conv, isE_store, isE_call, isE_append, rDS_l, rDS_c, pl_move, pl_assign, pl_pick, pl_alloc, pl_box, pl_build, pl_buildSlice, pl_nilCheck, pl_binOp, pl_unOp, pl_makeFunc, pl_makeSlice, pl_slice, pl_fieldAddr, pl_field, pl_indexAddr, pl_index, pl_extract, pl_len, pl_cap, pl_max, pl_min, List.mem_cons, Prod.mk.injEq, List.not_mem_nil, or_false, or_true, false_or, true_or, and_false, false_and, false_implies, implies_true, true_implies, oM_ite, fillP_nil, fillP_cons, fillQ_some, slq_some, most_max, most_min, Nat.reduceMul, List.getElem?_toArray, List.getElem?_cons_zero, List.getElem?_cons_succ, List.getElem?_nil, Option.getD_some, Option.getD_none, Nat.reduceEqDiff, reduceIte, Nat.reduceAdd, List.map_toArray, List.map_cons, List.map_nil, Bool.false_eq_true, Nat.reduceBEq, Option.map_some, Option.map_none, reduceCtorEq, ix43, ln43, st3, h0, h1, h5, Int.toNat_natCast, Nat.mul_one, hw, hlen, IntWalk.i64_in (↑i + 1) (by omega), IntWalk.i64_in (k + ↑i + 1) (by omega)]
        refine ⟨⟨by omega, by omega⟩, by omega, i + 1, by omega, ?_, by simp, ?_, hc'⟩
        · simp only [Int.natCast_add, Int.add_assoc]; rfl
        · have e1 : mks k (i + 1) = mks k i ++ [k + i] := by simp [mks, List.range_succ]
          have e2 : ints (mks k i ++ [k + i]) = ints (mks k i) ++ [.int .i64 (k + i)] := by simp [ints]
          have e3 := splice_snoc (xs := ints (mks k i)) (cs := cs) (o := o) (v := .int .i64 (k + i)) (by rw [hml]; omega)
          rw [hml] at e3
          simp only [putI, wrt_own h3, Option.getD_some]
          rw [e1, e2, ← e3, list_set_set]
    · have hc' : ¬ i < l.length := by simpa using hc
      have : i = l.length := by omega
      subst this
      exact ⟨rfl, rfl⟩
theorem markIntS_eq {H : AH} {v : Value} {k : Int} (hv : OwnRow H v (rowI H v)) (hl : (rowI H v).length < 4611686018427387904) (hk : 0 ≤ k ∧ k < 4611686018427387904) {Φ : Value → AH → Prop} : CallsA Try.prog 78 #[v, .int .i64 k] H Φ = Φ (.int .i64 (k + (rowI H v).length)) (putI H v (mks k (rowI H v).length)) := Ans.eq (markIntS_ok hv hl hk)

theorem heldIntS_ok {H : AH} {v : Value} {l : List Int} {k : Int} (hv : IntRow H v l) (hl : l.length < 4611686018427387904) (hk : 0 ≤ k ∧ k < 4611686018427387904) : CallsA Try.prog 144 #[v, .int .i64 k] H fun r H' => r = .int .i64 (heldI l k) ∧ H' = H := by
  obtain ⟨a, c, rfl, gv⟩ := hv.op
  refine w144 ?_
  unfold k144
  simp -implicitDefEqProofs only [rE_seq_n, rE_seq_r, rE_seq_e, rE_blk_n, rE_blk_r, rE_blk_e, rW_skip, rW_ret, rW_exit, rW_ops, rW_seq, rW_block, ↓two_true, ↓two_false, rC_bool, rW_cond, rO_nil, rO_cons, oG_t, oG_f, oG_undef, rO_guard, oV_some, rOV_eq, oP_move, oP_assign, oP_bin, oP_un, oP_index, oP_fieldAddr, oP_field, oP_indexAddr, oP_slice, oP_load, oP_convert, aPick_true, aPick_false, aPick_bool, oP_pick, aExtract_tup, oP_extract, oP_nilCheck, oP_build, oP_len, oP_cap, oP_max, oP_min, oP_makeFunc, oS_some, oP_store, oA_some, oP_append, oM_some, oP_alloc, oP_box, oP_buildSlice, oP_mkS, oP_call, oP_callv, oF_func, aev_tmp, aev_const, aev_func, aput_get, aput_none, bin_add, bin_sub, bin_mul, bin_eql, bin_neq, bin_lss, bin_leq, bin_gtr, bin_geq, un_not, un_neg, tm0_get, fin_ret, fin_end, oR_some, resL_nil, resL_tmp, resL_cell, tup_one, tup_two, tup_nil, cond_true, cond_false, load_eq, Option.bind_some, gt0, gti, mkv, List.length_append, List.length_cons, List.length_nil, List.append_assoc, List.cons_append, List.nil_append, rd0, rdi, wrt0, wrti, rdB_own, rdB_ro, wrB_own, oL_some, aggAt, sto_some, st0, sti, List.set_cons_zero, List.set_cons_succ, splice_nil, splice_cons, cells_agg, cells_int, cells_bool, cells_string, cells_pointer, cells_slice, leaf_int, leaf_bool, leaf_string, leaf_pointer, leaf_slice, List.size_toArray, List.all_cons, List.all_nil, Bool.and_self, Bool.and_true, and_self, true_and, and_true, Nat.zero_add, Nat.add_zero, Nat.reduceLeDiff, Nat.le_refl, List.drop_zero, List.drop_succ_cons, List.take_succ_cons, List.take_zero, Nat.reduceSub, lp_end, lp_ret, lp_exit, oV_ite, oS_ite, oA_ite, slc_some, sls_some, optInt_none, optInt_some, rW_draw, rD_nil, rDV_eq, rDR_eq, rDE_eq, rDS_n, rDS_e, rD_load, rD_conv, rD_pure, rD_e, rD_g, rDG_t, rDG_f, rDG_undef, chkH_nil, chkH_cons, chkP_nil, chkP_cons, aRead_load, aRead_conv, isE_store, isE_call, isE_append, rDS_l, rDS_c, pl_move, pl_assign, pl_pick, pl_alloc, pl_box, pl_build, pl_buildSlice, pl_nilCheck, pl_binOp, pl_unOp, pl_makeFunc, pl_makeSlice, pl_slice, pl_fieldAddr, pl_field, pl_indexAddr, pl_index, pl_extract, pl_len, pl_cap, pl_max, pl_min, List.mem_cons, Prod.mk.injEq, List.not_mem_nil, or_false, or_true, false_or, true_or, and_false, false_and, false_implies, implies_true, true_implies, oM_ite, fillP_nil, fillP_cons, fillQ_some, slq_some, most_max, most_min, Nat.reduceMul, List.getElem?_toArray, List.getElem?_cons_zero, List.getElem?_cons_succ, List.getElem?_nil, Option.getD_some, Option.getD_none, Nat.reduceEqDiff, reduceIte, Nat.reduceAdd, List.map_toArray, List.map_cons, List.map_nil, Bool.false_eq_true, Nat.reduceBEq, Option.map_some, Option.map_none, reduceCtorEq, ix43, ld3, ln43]
  refine rW_loop (σ := Nat) (fun i tm H' => tm 0 = .slice a l.length c ∧ tm 1 = .int .i64 (k + i) ∧ tm 5 = .int .i64 i ∧ H' = H ∧ i ≤ l.length ∧ ∀ j, j < i → l[j]? = some (k + j)) (fun i => l.length - i) 0 ?_ ?_
  · simp -implicitDefEqProofs [rE_seq_n, rE_seq_r, rE_seq_e, rE_blk_n, rE_blk_r, rE_blk_e, rW_skip, rW_ret, rW_exit, rW_ops, rW_seq, rW_block, ↓two_true, ↓two_false, rC_bool, rW_cond, rO_nil, rO_cons, oG_t, oG_f, oG_undef, rO_guard, oV_some, rOV_eq, oP_move, oP_assign, oP_bin, oP_un, oP_index, oP_fieldAddr, oP_field, oP_indexAddr, oP_slice, oP_load, oP_convert, aPick_true, aPick_false, aPick_bool, oP_pick, aExtract_tup, oP_extract, oP_nilCheck, oP_build, oP_len, oP_cap, oP_max, oP_min, oP_makeFunc, oS_some, oP_store, oA_some, oP_append, oM_some, oP_alloc, oP_box, oP_buildSlice, oP_mkS, oP_call, oP_callv, oF_func, aev_tmp, aev_const, aev_func, aput_get, aput_none, bin_add, bin_sub, bin_mul, bin_eql, bin_neq, bin_lss, bin_leq, bin_gtr, bin_geq, un_not, un_neg, tm0_get, fin_ret, fin_end, oR_some, resL_nil, resL_tmp, resL_cell, tup_one, tup_two, tup_nil, cond_true, cond_false, load_eq, Option.bind_some, gt0, gti, mkv, List.length_append, List.length_cons, List.length_nil, List.append_assoc, List.cons_append, List.nil_append, rd0, rdi, wrt0, wrti, rdB_own, rdB_ro, wrB_own, oL_some, aggAt, sto_some, st0, sti, List.set_cons_zero, List.set_cons_succ, splice_nil, splice_cons, cells_agg, cells_int, cells_bool, cells_string, cells_pointer, cells_slice, leaf_int, leaf_bool, leaf_string, leaf_pointer, leaf_slice, List.size_toArray, List.all_cons, List.all_nil, Bool.and_self, Bool.and_true, and_self, true_and, and_true, Nat.zero_add, Nat.add_zero, Nat.reduceLeDiff, Nat.le_refl, List.drop_zero, List.drop_succ_cons, List.take_succ_cons, List.take_zero, Nat.reduceSub, lp_end, lp_ret, lp_exit, oV_ite, oS_ite, oA_ite, slc_some, sls_some, optInt_none, optInt_some, rW_draw, rD_nil, rDV_eq, rDR_eq, rDE_eq, rDS_n, rDS_e, rD_load, rD_conv, rD_pure, rD_e, rD_g, rDG_t, rDG_f, rDG_undef, chkH_nil, chkH_cons, chkP_nil, chkP_cons, aRead_load, aRead_conv, isE_store, isE_call, isE_append, rDS_l, rDS_c, pl_move, pl_assign, pl_pick, pl_alloc, pl_box, pl_build, pl_buildSlice, pl_nilCheck, pl_binOp, pl_unOp, pl_makeFunc, pl_makeSlice, pl_slice, pl_fieldAddr, pl_field, pl_indexAddr, pl_index, pl_extract, pl_len, pl_cap, pl_max, pl_min, List.mem_cons, Prod.mk.injEq, List.not_mem_nil, or_false, or_true, false_or, true_or, and_false, false_and, false_implies, implies_true, true_implies, oM_ite, fillP_nil, fillP_cons, fillQ_some, slq_some, most_max, most_min, Nat.reduceMul, List.getElem?_toArray, List.getElem?_cons_zero, List.getElem?_cons_succ, List.getElem?_nil, Option.getD_some, Option.getD_none, Nat.reduceEqDiff, reduceIte, Nat.reduceAdd, List.map_toArray, List.map_cons, List.map_nil, Bool.false_eq_true, Nat.reduceBEq, Option.map_some, Option.map_none, reduceCtorEq, ix43, ld3, ln43]
  · rintro i tm H' ⟨h0, h1, h5, rfl, hi, hn⟩
    simp -implicitDefEqProofs only [rE_seq_n, rE_seq_r, rE_seq_e, rE_blk_n, rE_blk_r, rE_blk_e, rW_skip, rW_ret, rW_exit, rW_ops, rW_seq, rW_block, ↓two_true, ↓two_false, rC_bool, rW_cond, rO_nil, rO_cons, oG_t, oG_f, oG_undef, rO_guard, oV_some, rOV_eq, oP_move, oP_assign, oP_bin, oP_un, oP_index, oP_fieldAddr, oP_field, oP_indexAddr, oP_slice, oP_load, oP_convert, aPick_true, aPick_false, aPick_bool, oP_pick, aExtract_tup, oP_extract, oP_nilCheck, oP_build, oP_len, oP_cap, oP_max, oP_min, oP_makeFunc, oS_some, oP_store, oA_some, oP_append, oM_some, oP_alloc, oP_box, oP_buildSlice, oP_mkS, oP_call, oP_callv, oF_func, aev_tmp, aev_const, aev_func, aput_get, aput_none, bin_add, bin_sub, bin_mul, bin_eql, bin_neq, bin_lss, bin_leq, bin_gtr, bin_geq, un_not, un_neg, tm0_get, fin_ret, fin_end, oR_some, resL_nil, resL_tmp, resL_cell, tup_one, tup_two, tup_nil, cond_true, cond_false, load_eq, Option.bind_some, gt0, gti, mkv, List.length_append, List.length_cons, List.length_nil, List.append_assoc, List.cons_append, List.nil_append, rd0, rdi, wrt0, wrti, rdB_own, rdB_ro, wrB_own, oL_some, aggAt, sto_some, st0, sti, List.set_cons_zero, List.set_cons_succ, splice_nil, splice_cons, cells_agg, cells_int, cells_bool, cells_string, cells_pointer, cells_slice, leaf_int, leaf_bool, leaf_string, leaf_pointer, leaf_slice, List.size_toArray, List.all_cons, List.all_nil, Bool.and_self, Bool.and_true, and_self, true_and, and_true, Nat.zero_add, Nat.add_zero, Nat.reduceLeDiff, Nat.le_refl, List.drop_zero, List.drop_succ_cons, List.take_succ_cons, List.take_zero, Nat.reduceSub, lp_end, lp_ret, lp_exit, oV_ite, oS_ite, oA_ite, slc_some, sls_some, optInt_none, optInt_some, rW_draw, rD_nil, rDV_eq, rDR_eq, rDE_eq, rDS_n, rDS_e, rD_load, rD_conv, rD_pure, rD_e, rD_g, rDG_t, rDG_f, rDG_undef, chkH_nil, chkH_cons, chkP_nil, chkP_cons, aRead_load, aRead_conv, isE_store, isE_call, isE_append, rDS_l, rDS_c, pl_move, pl_assign, pl_pick, pl_alloc, pl_box, pl_build, pl_buildSlice, pl_nilCheck, pl_binOp, pl_unOp, pl_makeFunc, pl_makeSlice, pl_slice, pl_fieldAddr, pl_field, pl_indexAddr, pl_index, pl_extract, pl_len, pl_cap, pl_max, pl_min, List.mem_cons, Prod.mk.injEq, List.not_mem_nil, or_false, or_true, false_or, true_or, and_false, false_and, false_implies, implies_true, true_implies, oM_ite, fillP_nil, fillP_cons, fillQ_some, slq_some, most_max, most_min, Nat.reduceMul, List.getElem?_toArray, List.getElem?_cons_zero, List.getElem?_cons_succ, List.getElem?_nil, Option.getD_some, Option.getD_none, Nat.reduceEqDiff, reduceIte, Nat.reduceAdd, List.map_toArray, List.map_cons, List.map_nil, Bool.false_eq_true, Nat.reduceBEq, Option.map_some, Option.map_none, reduceCtorEq, ix43, ld3, ln43, h0, h1, h5]
    refine two_intro (fun hc => ?_) (fun hc => ?_)
    · have hc' : i < l.length := by simpa using hc
      obtain ⟨b, o, cs, rfl, rfl, hrd, _, hcell⟩ := gv (by omega)
      simp -implicitDefEqProofs only [rE_seq_n, rE_seq_r, rE_seq_e, rE_blk_n, rE_blk_r, rE_blk_e, rW_skip, rW_ret, rW_exit, rW_ops, rW_seq, rW_block, ↓two_true, ↓two_false, rC_bool, rW_cond, rO_nil, rO_cons, oG_t, oG_f, oG_undef, rO_guard, oV_some, rOV_eq, oP_move, oP_assign, oP_bin, oP_un, oP_index, oP_fieldAddr, oP_field, oP_indexAddr, oP_slice, oP_load, oP_convert, aPick_true, aPick_false, aPick_bool, oP_pick, aExtract_tup, oP_extract, oP_nilCheck, oP_build, oP_len, oP_cap, oP_max, oP_min, oP_makeFunc, oS_some, oP_store, oA_some, oP_append, oM_some, oP_alloc, oP_box, oP_buildSlice, oP_mkS, oP_call, oP_callv, oF_func, aev_tmp, aev_const, aev_func, aput_get, aput_none, bin_add, bin_sub, bin_mul, bin_eql, bin_neq, bin_lss, bin_leq, bin_gtr, bin_geq, un_not, un_neg, tm0_get, fin_ret, fin_end, oR_some, resL_nil, resL_tmp, resL_cell, tup_one, tup_two, tup_nil, cond_true, cond_false, load_eq, Option.bind_some, gt0, gti, mkv, List.length_append, List.length_cons, List.length_nil, List.append_assoc, List.cons_append, List.nil_append, rd0, rdi, wrt0, wrti, rdB_own, rdB_ro, wrB_own, oL_some, aggAt, sto_some, st0, sti, List.set_cons_zero, List.set_cons_succ, splice_nil, splice_cons, cells_agg, cells_int, cells_bool, cells_string, cells_pointer, cells_slice, leaf_int, leaf_bool, leaf_string, leaf_pointer, leaf_slice, List.size_toArray, List.all_cons, List.all_nil, Bool.and_self, Bool.and_true, and_self, true_and, and_true, Nat.zero_add, Nat.add_zero, Nat.reduceLeDiff, Nat.le_refl, List.drop_zero, List.drop_succ_cons, List.take_succ_cons, List.take_zero, Nat.reduceSub, lp_end, lp_ret, lp_exit, oV_ite, oS_ite, oA_ite, slc_some, sls_some, optInt_none, optInt_some, rW_draw, rD_nil, rDV_eq, rDR_eq, rDE_eq, rDS_n, rDS_e, rD_load, rD_conv, rD_pure, rD_e, rD_g, rDG_t, rDG_f, rDG_undef, chkH_nil, chkH_cons, chkP_nil, chkP_cons, aRead_load, aRead_conv, isE_store, isE_call, isE_append, rDS_l, rDS_c, pl_move, pl_assign, pl_pick, pl_alloc, pl_box, pl_build, pl_buildSlice, pl_nilCheck, pl_binOp, pl_unOp, pl_makeFunc, pl_makeSlice, pl_slice, pl_fieldAddr, pl_field, pl_indexAddr, pl_index, pl_extract, pl_len, pl_cap, pl_max, pl_min, List.mem_cons, Prod.mk.injEq, List.not_mem_nil, or_false, or_true, false_or, true_or, and_false, false_and, false_implies, implies_true, true_implies, oM_ite, fillP_nil, fillP_cons, fillQ_some, slq_some, most_max, most_min, Nat.reduceMul, List.getElem?_toArray, List.getElem?_cons_zero, List.getElem?_cons_succ, List.getElem?_nil, Option.getD_some, Option.getD_none, Nat.reduceEqDiff, reduceIte, Nat.reduceAdd, List.map_toArray, List.map_cons, List.map_nil, Bool.false_eq_true, Nat.reduceBEq, Option.map_some, Option.map_none, reduceCtorEq, ix43, ld3, ln43, h0, h1, h5, Int.toNat_natCast, Nat.mul_one, hrd, hcell i hc', IntWalk.i64_in (↑i + 1) (by omega), IntWalk.i64_in (k + ↑i + 1) (by omega)]
      refine ⟨⟨by omega, by omega⟩, two_intro (fun h => ?_) (fun h => ?_)⟩
      · have : heldI l k = -1 := by
          unfold heldI
          rw [if_neg]
          intro e
          have e2 := congrArg (fun z : List Int => z[i]?) e
          simp only [mks_get hc', List.getElem?_eq_getElem hc', Option.some.injEq] at e2
          simp [e2] at h
        rw [this]
      · refine ⟨i + 1, by omega, ?_, by simp, hc', fun j hj => ?_⟩
        · simp only [Int.natCast_add, Int.add_assoc]; rfl
        · rcases Nat.lt_or_ge j i with h1 | h1
          · exact hn j h1
          · have : j = i := by omega
            subst this
            simpa [hc'] using h
    · have hc' : ¬ i < l.length := by simpa using hc
      have hil : i = l.length := by omega
      have : heldI l k = k + l.length := by
        unfold heldI
        rw [if_pos]
        refine List.ext_getElem? fun j => ?_
        rcases Nat.lt_or_ge j i with h1 | h1
        · rw [hn j h1, mks_get (by omega)]
        · rw [List.getElem?_eq_none (by omega), List.getElem?_eq_none (by rw [mks_len]; omega)]
      rw [this, hil]
theorem heldIntS_eq {H : AH} {v : Value} {k : Int} (hv : OkI H v) (hl : (rowI H v).length < 4611686018427387904) (hk : 0 ≤ k ∧ k < 4611686018427387904) {Φ : Value → AH → Prop} : CallsA Try.prog 144 #[v, .int .i64 k] H Φ = Φ (.int .i64 (heldI (rowI H v) k)) H := (heldIntS_ok hv hl hk).eq0

/-- A slice of elements of 's' cells each, that may be read. -/
def SRow (H : AH) (v : Value) (s : Nat) (xs : List (List Value)) : Prop :=
  (v = .slice none 0 0 ∧ xs = []) ∨ ∃ b o cs, v = .slice (some ⟨b, o, none⟩) xs.length s ∧ rd H b = some cs ∧ o + xs.length * s ≤ cs.length ∧ ∀ (i : Nat) x, xs[i]? = some x → x.length = s ∧ ∀ (j : Nat) y, x[j]? = some y → cs[o + i * s + j]? = some y
def SOwn (H : AH) (v : Value) (s : Nat) (xs : List (List Value)) : Prop :=
  (v = .slice none 0 0 ∧ xs = []) ∨ ∃ b o cs, v = .slice (some ⟨b, o, none⟩) xs.length s ∧ H[b]? = some ⟨cs, .own⟩ ∧ o + xs.length * s ≤ cs.length ∧ ∀ (i : Nat) x, xs[i]? = some x → x.length = s ∧ ∀ (j : Nat) y, x[j]? = some y → cs[o + i * s + j]? = some y
theorem SOwn.row {H : AH} {v : Value} {s : Nat} {xs : List (List Value)} (h : SOwn H v s xs) : SRow H v s xs := by
  rcases h with h | ⟨b, o, cs, h1, h2, h3, h4⟩
  · exact .inl h
  · exact .inr ⟨b, o, cs, h1, rd_own h2, h3, h4⟩
theorem SRow.same {H H' : AH} {v : Value} {s : Nat} {xs : List (List Value)} (h : SRow H v s xs) (hs : ∀ b, blkOf v = some b → rd H' b = rd H b) : SRow H' v s xs := by
  rcases h with h | ⟨b, o, cs, h1, h2, h3, h4⟩
  · exact .inl h
  · exact .inr ⟨b, o, cs, h1, by rw [hs b (by rw [h1]; rfl)]; exact h2, h3, h4⟩
theorem SRow.mono {H L : AH} {v : Value} {s : Nat} {xs : List (List Value)} (h : SRow H v s xs) : SRow (H ++ L) v s xs := by
  rcases h with h | ⟨b, o, cs, h1, h2, h3, h4⟩
  · exact .inl h
  · exact .inr ⟨b, o, cs, h1, by rw [rdl (by simp [h2]), h2], h3, h4⟩
theorem SOwn.mono {H L : AH} {v : Value} {s : Nat} {xs : List (List Value)} (h : SOwn H v s xs) : SOwn (H ++ L) v s xs := by
  rcases h with h | ⟨b, o, cs, h1, h2, h3, h4⟩
  · exact .inl h
  · exact .inr ⟨b, o, cs, h1, gtl h2, h3, h4⟩
theorem SOwn.same {H H' : AH} {v : Value} {s : Nat} {xs : List (List Value)} (h : SOwn H v s xs) (hs : ∀ b, blkOf v = some b → H'[b]? = H[b]?) : SOwn H' v s xs := by
  rcases h with h | ⟨b, o, cs, h1, h2, h3, h4⟩
  · exact .inl h
  · exact .inr ⟨b, o, cs, h1, by rw [hs b (by rw [h1]; rfl)]; exact h2, h3, h4⟩
theorem row_idx {s i j i' j' : Nat} (h1 : j < s) (h2 : j' < s) (h : i * s + j = i' * s + j') : i = i' ∧ j = j' := by
  have hs : 0 < s := by omega
  have e1 : (i * s + j) / s = i := by rw [Nat.mul_comm, Nat.mul_add_div hs, Nat.div_eq_of_lt h1, Nat.add_zero]
  have e2 : (i' * s + j') / s = i' := by rw [Nat.mul_comm, Nat.mul_add_div hs, Nat.div_eq_of_lt h2, Nat.add_zero]
  have : i = i' := by rw [← e1, ← e2, h]
  subst this
  exact ⟨rfl, by omega⟩
theorem row_lt {s i n : Nat} (h : i < n) : i * s + s ≤ n * s := by
  have : (i + 1) * s ≤ n * s := Nat.mul_le_mul_right s h
  rw [Nat.add_mul, Nat.one_mul] at this
  exact this
theorem SRow.op {H : AH} {v : Value} {s : Nat} {xs : List (List Value)} (h : SRow H v s xs) : ∃ a c, v = .slice a xs.length c ∧ (0 < xs.length → ∃ b o cs, a = some ⟨b, o, none⟩ ∧ c = s ∧ rd H b = some cs ∧ o + xs.length * s ≤ cs.length ∧ ∀ (i : Nat) x, xs[i]? = some x → x.length = s ∧ ∀ (j : Nat) y, x[j]? = some y → cs[o + i * s + j]? = some y) := by
  rcases h with ⟨rfl, rfl⟩ | ⟨b, o, cs, rfl, h1, h2, h3⟩
  · exact ⟨none, 0, rfl, fun h => by simp at h⟩
  · exact ⟨_, _, rfl, fun _ => ⟨b, o, cs, rfl, rfl, h1, h2, h3⟩⟩
/-- A whole element. -/
theorem aggAt_row {cs x : List Value} {o s : Nat} (hx : x.length = s) (hlen : o + s ≤ cs.length) (h : ∀ (j : Nat) y, x[j]? = some y → cs[o + j]? = some y) : aggAt s o cs = some (.agg x.toArray) := by
  unfold aggAt
  rw [if_pos hlen]
  have : (cs.drop o).take s = x := by
    refine List.ext_getElem? fun j => ?_
    rcases Nat.lt_or_ge j s with h1 | h1
    · rw [List.getElem?_take_of_lt h1, List.getElem?_drop, h j _ (List.getElem?_eq_getElem (by omega))]
      exact (List.getElem?_eq_getElem (by omega)).symm
    · rw [List.getElem?_eq_none (by simp; omega), List.getElem?_eq_none (by omega)]
  rw [this]
/-- A cell of an element is written. -/
theorem SOwn.set {H : AH} {b o s : Nat} {cs : List Value} {xs : List (List Value)} {i j : Nat} {x : List Value} {y : Value} (hb : H[b]? = some ⟨cs, .own⟩) (hlen : o + xs.length * s ≤ cs.length)
    (hc : ∀ (i : Nat) x, xs[i]? = some x → x.length = s ∧ ∀ (j : Nat) y, x[j]? = some y → cs[o + i * s + j]? = some y) (hx : xs[i]? = some x) (hj : j < s) :
    SOwn (H.set b ⟨cs.set (o + i * s + j) y, .own⟩) (.slice (some ⟨b, o, none⟩) xs.length s) s (xs.set i (x.set j y)) := by
  have hbl : b < H.length := (List.getElem?_eq_some_iff.1 hb).1
  have hil : i < xs.length := (List.getElem?_eq_some_iff.1 hx).1
  refine .inr ⟨b, o, _, by simp, List.getElem?_set_self hbl, by simpa using hlen, ?_⟩
  intro i' x' hx'
  rw [List.getElem?_set] at hx'
  by_cases e : i = i'
  · subst e
    rw [if_pos rfl, if_pos hil] at hx'
    cases hx'
    have h0 := hc i x hx
    refine ⟨by simpa using h0.1, fun j' y' hy => ?_⟩
    rw [List.getElem?_set] at hy ⊢
    by_cases e2 : j = j'
    · subst e2
      rw [if_pos rfl, if_pos (by omega)] at hy
      cases hy
      have := row_lt (s := s) hil
      rw [if_pos rfl, if_pos (by omega)]
    · rw [if_neg e2] at hy
      rw [if_neg (by omega)]
      exact h0.2 j' y' hy
  · rw [if_neg e] at hx'
    have h0 := hc i' x' hx'
    refine ⟨h0.1, fun j' y' hy => ?_⟩
    have hj' : j' < s := by rw [← h0.1]; exact (List.getElem?_eq_some_iff.1 hy).1
    rw [List.getElem?_set, if_neg (fun h => e (row_idx hj hj' (by omega)).1)]
    exact h0.2 j' y' hy
theorem eqArray_ok {H : AH} {p q p' q' : Value} (hp : OkI H p) (hq : OkI H q) (hp' : OkI H p') (hq' : OkI H q') (l1 : (rowI H p).length < 9223372036854775807) (l2 : (rowI H q).length < 9223372036854775807) :
    CallsA Try.prog 67 #[.agg #[p, q], .agg #[p', q']] H fun r H' => r = .bool (rowI H p == rowI H p' && rowI H q == rowI H q') ∧ ∃ K, H' = H ++ K := by
  refine w67 ?_
  unfold k67
  simp -implicitDefEqProofs only [rE_seq_n, rE_seq_r, rE_seq_e, rE_blk_n, rE_blk_r, rE_blk_e, rW_skip, rW_ret, rW_exit, rW_ops, rW_seq, rW_block, ↓two_true, ↓two_false, rC_bool, rW_cond, rO_nil, rO_cons, oG_t, oG_f, oG_undef, rO_guard, oV_some, rOV_eq, oP_move, oP_assign, oP_bin, oP_un, oP_index, oP_fieldAddr, oP_field, oP_indexAddr, oP_slice, oP_load, oP_convert, aPick_true, aPick_false, aPick_bool, oP_pick, aExtract_tup, oP_extract, oP_nilCheck, oP_build, oP_len, oP_cap, oP_max, oP_min, oP_makeFunc, oS_some, oP_store, oA_some, oP_append, oM_some, oP_alloc, oP_box, oP_buildSlice, oP_mkS, oP_call, oP_callv, oF_func, aev_tmp, aev_const, aev_func, aput_get, aput_none, bin_add, bin_sub, bin_mul, bin_eql, bin_neq, bin_lss, bin_leq, bin_gtr, bin_geq, un_not, un_neg, tm0_get, fin_ret, fin_end, oR_some, resL_nil, resL_tmp, resL_cell, tup_one, tup_two, tup_nil, cond_true, cond_false, load_eq, Option.bind_some, gt0, gti, mkv, List.length_append, List.length_cons, List.length_nil, List.append_assoc, List.cons_append, List.nil_append, rd0, rdi, wrt0, wrti, rdB_own, rdB_ro, wrB_own, oL_some, aggAt, sto_some, st0, sti, List.set_cons_zero, List.set_cons_succ, splice_nil, splice_cons, cells_agg, cells_int, cells_bool, cells_string, cells_pointer, cells_slice, leaf_int, leaf_bool, leaf_string, leaf_pointer, leaf_slice, List.size_toArray, List.all_cons, List.all_nil, Bool.and_self, Bool.and_true, and_self, true_and, and_true, Nat.zero_add, Nat.add_zero, Nat.reduceLeDiff, Nat.le_refl, List.drop_zero, List.drop_succ_cons, List.take_succ_cons, List.take_zero, Nat.reduceSub, lp_end, lp_ret, lp_exit, oV_ite, oS_ite, oA_ite, slc_some, sls_some, optInt_none, optInt_some, rW_draw, rD_nil, rDV_eq, rDR_eq, rDE_eq, rDS_n, rDS_e, rD_load, rD_conv, rD_pure, rD_e, rD_g, rDG_t, rDG_f, rDG_undef, chkH_nil, chkH_cons, chkP_nil, chkP_cons, aRead_load, aRead_conv, isE_store, isE_call, isE_append, rDS_l, rDS_c, pl_move, pl_assign, pl_pick, pl_alloc, pl_box, pl_build, pl_buildSlice, pl_nilCheck, pl_binOp, pl_unOp, pl_makeFunc, pl_makeSlice, pl_slice, pl_fieldAddr, pl_field, pl_indexAddr, pl_index, pl_extract, pl_len, pl_cap, pl_max, pl_min, List.mem_cons, Prod.mk.injEq, List.not_mem_nil, or_false, or_true, false_or, true_or, and_false, false_and, false_implies, implies_true, true_implies, oM_ite, fillP_nil, fillP_cons, fillQ_some, slq_some, most_max, most_min, Nat.reduceMul, List.getElem?_toArray, List.getElem?_cons_zero, List.getElem?_cons_succ, List.getElem?_nil, Option.getD_some, Option.getD_none, Nat.reduceEqDiff, reduceIte, Nat.reduceAdd, List.map_toArray, List.map_cons, List.map_nil, Bool.false_eq_true, Nat.reduceBEq, Option.map_some, Option.map_none, reduceCtorEq, fa45_0, fa45_1, ld43, eqIntS_eq, hp, hq, hp', hq', OkI.mono, rowI_mono, l1, l2]
  simp +contextual [two]
theorem eqArray_eq {H : AH} {p q p' q' : Value} (hp : OkI H p) (hq : OkI H q) (hp' : OkI H p') (hq' : OkI H q') (l1 : (rowI H p).length < 9223372036854775807) (l2 : (rowI H q).length < 9223372036854775807) {Φ : Value → AH → Prop} :
    CallsA Try.prog 67 #[.agg #[p, q], .agg #[p', q']] H Φ = Φ (.bool (rowI H p == rowI H p' && rowI H q == rowI H q')) (H ++ jk Try.prog 67 #[.agg #[p, q], .agg #[p', q']] H) := (eqArray_ok hp hq hp' hq' l1 l2).eqV

theorem eqVar_ok {H : AH} {s s' : Bool} {p q p' q' : Value} (hp : OkI H p) (hq : OkI H q) (hp' : OkI H p') (hq' : OkI H q') (l1 : (rowI H p).length < 9223372036854775807) (l2 : (rowI H q).length < 9223372036854775807) :
    CallsA Try.prog 77 #[.agg #[.bool s, p, q], .agg #[.bool s', p', q']] H fun r H' => r = .bool (s == s' && (rowI H p == rowI H p' && rowI H q == rowI H q')) ∧ ∃ K, H' = H ++ K := by
  refine w77 ?_
  unfold k77
  simp -implicitDefEqProofs only [rE_seq_n, rE_seq_r, rE_seq_e, rE_blk_n, rE_blk_r, rE_blk_e, rW_skip, rW_ret, rW_exit, rW_ops, rW_seq, rW_block, ↓two_true, ↓two_false, rC_bool, rW_cond, rO_nil, rO_cons, oG_t, oG_f, oG_undef, rO_guard, oV_some, rOV_eq, oP_move, oP_assign, oP_bin, oP_un, oP_index, oP_fieldAddr, oP_field, oP_indexAddr, oP_slice, oP_load, oP_convert, aPick_true, aPick_false, aPick_bool, oP_pick, aExtract_tup, oP_extract, oP_nilCheck, oP_build, oP_len, oP_cap, oP_max, oP_min, oP_makeFunc, oS_some, oP_store, oA_some, oP_append, oM_some, oP_alloc, oP_box, oP_buildSlice, oP_mkS, oP_call, oP_callv, oF_func, aev_tmp, aev_const, aev_func, aput_get, aput_none, bin_add, bin_sub, bin_mul, bin_eql, bin_neq, bin_lss, bin_leq, bin_gtr, bin_geq, un_not, un_neg, tm0_get, fin_ret, fin_end, oR_some, resL_nil, resL_tmp, resL_cell, tup_one, tup_two, tup_nil, cond_true, cond_false, load_eq, Option.bind_some, gt0, gti, mkv, List.length_append, List.length_cons, List.length_nil, List.append_assoc, List.cons_append, List.nil_append, rd0, rdi, wrt0, wrti, rdB_own, rdB_ro, wrB_own, oL_some, aggAt, sto_some, st0, sti, List.set_cons_zero, List.set_cons_succ, splice_nil, splice_cons, cells_agg, cells_int, cells_bool, cells_string, cells_pointer, cells_slice, leaf_int, leaf_bool, leaf_string, leaf_pointer, leaf_slice, List.size_toArray, List.all_cons, List.all_nil, Bool.and_self, Bool.and_true, and_self, true_and, and_true, Nat.zero_add, Nat.add_zero, Nat.reduceLeDiff, Nat.le_refl, List.drop_zero, List.drop_succ_cons, List.take_succ_cons, List.take_zero, Nat.reduceSub, lp_end, lp_ret, lp_exit, oV_ite, oS_ite, oA_ite, slc_some, sls_some, optInt_none, optInt_some, rW_draw, rD_nil, rDV_eq, rDR_eq, rDE_eq, rDS_n, rDS_e, rD_load, rD_conv, rD_pure, rD_e, rD_g, rDG_t, rDG_f, rDG_undef, chkH_nil, chkH_cons, chkP_nil, chkP_cons, aRead_load, aRead_conv, isE_store, isE_call, isE_append, rDS_l, rDS_c, pl_move, pl_assign, pl_pick, pl_alloc, pl_box, pl_build, pl_buildSlice, pl_nilCheck, pl_binOp, pl_unOp, pl_makeFunc, pl_makeSlice, pl_slice, pl_fieldAddr, pl_field, pl_indexAddr, pl_index, pl_extract, pl_len, pl_cap, pl_max, pl_min, List.mem_cons, Prod.mk.injEq, List.not_mem_nil, or_false, or_true, false_or, true_or, and_false, false_and, false_implies, implies_true, true_implies, oM_ite, fillP_nil, fillP_cons, fillQ_some, slq_some, most_max, most_min, Nat.reduceMul, List.getElem?_toArray, List.getElem?_cons_zero, List.getElem?_cons_succ, List.getElem?_nil, Option.getD_some, Option.getD_none, Nat.reduceEqDiff, reduceIte, Nat.reduceAdd, List.map_toArray, List.map_cons, List.map_nil, Bool.false_eq_true, Nat.reduceBEq, Option.map_some, Option.map_none, reduceCtorEq, fa89_0, fa89_1, ld4, ld45, (bin_bool_eql ub4), (bin_bool_neq ub4), eqArray_eq, hp, hq, hp', hq', OkI.mono, rowI_mono, l1, l2]
  simp +contextual [two]
  rintro - (h | h) g
  · exact absurd g h
  · exact h
/-- Vars, as cells: each letter's flag and its array's two rows. -/
abbrev VR3 := Bool × Value × Value
def vcells (x : VR3) : List Value := [.bool x.1, x.2.1, x.2.2]
def OkV (H : AH) (x : VR3) : Prop := OkI H x.2.1 ∧ OkI H x.2.2 ∧ (rowI H x.2.1).length < 4611686018427387904 ∧ (rowI H x.2.2).length < 4611686018427387904
theorem OkV.mono {H L : AH} {x : VR3} (h : OkV H x) : OkV (H ++ L) x := ⟨h.1.mono, h.2.1.mono, by rw [rowI_mono h.1]; exact h.2.2.1, by rw [rowI_mono h.2.1]; exact h.2.2.2⟩
/-- What a letter is. -/
def vval (H : AH) (x : VR3) : Bool × List Int × List Int := (x.1, rowI H x.2.1, rowI H x.2.2)
def Dj (v w : Value) : Prop := ∀ b, blkOf v = some b → blkOf w ≠ some b
theorem Dj.symm {v w : Value} (h : Dj v w) : Dj w v := fun b h1 h2 => h b h2 h1
theorem OwnRow.same {H H' : AH} {v : Value} {l : List Int} (h : OwnRow H v l) (hs : ∀ b, blkOf v = some b → H'[b]? = H[b]?) : OwnRow H' v l := by
  rcases h with h | ⟨b, o, cs, h1, h2, h3, h4⟩
  · exact .inl h
  · exact .inr ⟨b, o, cs, h1, by rw [hs b (by rw [h1]; rfl)]; exact h2, h3, h4⟩
theorem OwnRow.rowI {H : AH} {v : Value} {l : List Int} (h : OwnRow H v l) : rowI H v = l := h.int.row
theorem putI_dj {H : AH} {v w : Value} {l : List Int} (h : Dj v w) : ∀ b, blkOf w = some b → (putI H v l)[b]? = H[b]? := fun b hb => putI_get fun h2 => h b h2 hb
theorem OwnRow.isSlice {H : AH} {v : Value} {l : List Int} (h : OwnRow H v l) : ∃ a c, v = .slice a l.length c := by
  obtain ⟨a, c, h1, _⟩ := h.int.op
  exact ⟨a, c, h1⟩
theorem heldI_le {l : List Int} {k : Int} : heldI l k = -1 ∨ heldI l k = k + l.length := by
  unfold heldI
  split
  · exact .inr rfl
  · exact .inl rfl

inductive CV where
  | i (n : Int)
  | b (x : Bool)
  | r (l : List Int)
  deriving DecidableEq
inductive CK where
  | i
  | b
  | r
  | w
def cv (H : AH) : Value → CV
  | .int _ n => .i n
  | .bool x => .b x
  | v => .r (rowI H v)
def KOk (H : AH) : CK → Value → Prop
  | .i, y => ∃ n, y = .int .i64 n
  | .b, y => ∃ x, y = .bool x
  | .r, y => OkI H y ∧ (rowI H y).length < 1073741825
  | .w, y => OkI H y ∧ (rowI H y).length ≤ 9223372036854775807
def All2 (H : AH) : List CK → List Value → Prop
  | [], x => x = []
  | k :: ks, x => ∃ y r, x = y :: r ∧ KOk H k y ∧ All2 H ks r
theorem OkI.slice {H : AH} {y : Value} (h : OkI H y) : ∃ a c, y = .slice a (rowI H y).length c := by
  obtain ⟨a, c, e, _⟩ := IntRow.op h
  exact ⟨a, c, e⟩
theorem cv_row {H : AH} {y : Value} (h : OkI H y) : cv H y = .r (rowI H y) := by
  obtain ⟨a, c, e⟩ := h.slice
  rw [e]; rfl
theorem rowI_same {H H' : AH} {v : Value} (hs : ∀ b, blkOf v = some b → rd H' b = rd H b) : rowI H' v = rowI H v := by
  unfold rowI
  split
  · rename_i b o a n c
    rw [hs b rfl]
  · rfl
theorem OkI.same {H H' : AH} {v : Value} (h : OkI H v) (hs : ∀ b, blkOf v = some b → rd H' b = rd H b) : OkI H' v := (IntRow.same h fun b o n c e => hs b (by rw [e]; rfl)).ok
theorem cv_same {H H' : AH} {v : Value} (hs : ∀ b, blkOf v = some b → rd H' b = rd H b) : cv H' v = cv H v := by
  unfold cv
  split
  · rfl
  · rfl
  · rw [rowI_same hs]
theorem KOk.same {H H' : AH} {k : CK} {v : Value} (h : KOk H k v) (hs : ∀ b, blkOf v = some b → rd H' b = rd H b) : KOk H' k v := by
  cases k with
  | i => exact h
  | b => exact h
  | r => exact ⟨h.1.same hs, by rw [rowI_same hs]; exact h.2⟩
  | w => exact ⟨h.1.same hs, by rw [rowI_same hs]; exact h.2⟩
theorem KOk.rdable {H : AH} {k : CK} {v : Value} (h : KOk H k v) : ∀ b, blkOf v = some b → (rd H b).isSome = true := by
  intro b hb
  cases k with
  | i => obtain ⟨n, rfl⟩ := h; simp [blkOf] at hb
  | b => obtain ⟨n, rfl⟩ := h; simp [blkOf] at hb
  | r =>
    rcases h.1 with ⟨e, _⟩ | ⟨b', o, cs, e, h2, _⟩
    · rw [e] at hb; simp [blkOf] at hb
    · rw [e] at hb; simp [blkOf] at hb; subst hb; simp [h2]
  | w =>
    rcases h.1 with ⟨e, _⟩ | ⟨b', o, cs, e, h2, _⟩
    · rw [e] at hb; simp [blkOf] at hb
    · rw [e] at hb; simp [blkOf] at hb; subst hb; simp [h2]
theorem KOk.mono {H L : AH} {k : CK} {v : Value} (h : KOk H k v) : KOk (H ++ L) k v := h.same fun b hb => rdl (h.rdable b hb)
theorem cv_mono {H L : AH} {k : CK} {v : Value} (h : KOk H k v) : cv (H ++ L) v = cv H v := cv_same fun b hb => rdl (h.rdable b hb)
theorem All2.len {H : AH} : ∀ {ks : List CK} {x : List Value}, All2 H ks x → x.length = ks.length
  | [], x, h => by cases h; rfl
  | k :: ks, x, ⟨y, r, e, _, h⟩ => by rw [e, List.length_cons, h.len, List.length_cons]
theorem All2.get {H : AH} : ∀ {ks : List CK} {x : List Value}, All2 H ks x → ∀ (c : Nat) k y, ks[c]? = some k → x[c]? = some y → KOk H k y
  | [], x, h, c, k, y, hk, _ => by simp at hk
  | k :: ks, x, ⟨y, r, e, h1, h⟩, 0, k', y', hk, hy => by
    subst e; simp at hk hy; subst hk; subst hy; exact h1
  | k :: ks, x, ⟨y, r, e, h1, h⟩, c + 1, k', y', hk, hy => by
    subst e; simp at hk hy; exact h.get c k' y' hk hy
theorem All2.of {H : AH} : ∀ {ks : List CK} {x : List Value}, x.length = ks.length → (∀ (c : Nat) k y, ks[c]? = some k → x[c]? = some y → KOk H k y) → All2 H ks x
  | [], x, hl, _ => by
    cases x with
    | nil => rfl
    | cons y r => simp at hl
  | k :: ks, x, hl, h => by
    cases x with
    | nil => simp at hl
    | cons y r => exact ⟨y, r, rfl, h 0 k y rfl rfl, All2.of (by simpa using hl) fun c k' y' hk hy => h (c + 1) k' y' (by simpa using hk) (by simpa using hy)⟩
theorem All2.mono {H L : AH} {ks : List CK} {x : List Value} (h : All2 H ks x) : All2 (H ++ L) ks x := All2.of h.len fun c k y hk hy => (h.get c k y hk hy).mono
theorem All2.mapcv {H L : AH} {ks : List CK} {x : List Value} (h : All2 H ks x) : x.map (cv (H ++ L)) = x.map (cv H) := by
  refine List.map_congr_left fun y hy => ?_
  obtain ⟨c, hc, e⟩ := List.mem_iff_getElem.1 hy
  have hl := h.len
  exact cv_mono (h.get c ks[c] y (List.getElem?_eq_getElem (by omega)) (by rw [List.getElem?_eq_getElem hc, e]))
def cvs (H : AH) (xs : List Value) : List CV := xs.map (cv H)
/-- A slice of 'n' elements with cells of the kinds 'ks' each, that may be read; its cells are 'xs'. -/
structure FRow (H : AH) (v : Value) (ks : List CK) (n : Nat) (xs : List Value) : Prop where
  len : xs.length = n * ks.length
  row : (v = .slice none 0 0 ∧ n = 0) ∨ ∃ b o cs, v = .slice (some ⟨b, o, none⟩) n ks.length ∧ rd H b = some cs ∧ o + n * ks.length ≤ cs.length ∧ ∀ (j : Nat) y, xs[j]? = some y → cs[o + j]? = some y
  ok : ∀ (i c : Nat) k y, i < n → ks[c]? = some k → xs[i * ks.length + c]? = some y → KOk H k y
theorem FRow.cell {H : AH} {v : Value} {ks : List CK} {n : Nat} {xs : List Value} (h : FRow H v ks n xs) {j : Nat} {y : Value} (hy : xs[j]? = some y) : ∃ k, KOk H k y := by
  have hj := (List.getElem?_eq_some_iff.1 hy).1
  rw [h.len] at hj
  have hk : 0 < ks.length := by
    rcases Nat.eq_zero_or_pos ks.length with e | e
    · rw [e] at hj; omega
    · exact e
  have h1 : j / ks.length < n := Nat.div_lt_of_lt_mul (by rw [Nat.mul_comm]; exact hj)
  have h2 : j % ks.length < ks.length := Nat.mod_lt _ hk
  refine ⟨_, h.ok (j / ks.length) (j % ks.length) _ y h1 (List.getElem?_eq_getElem h2) ?_⟩
  rw [Nat.mul_comm, Nat.div_add_mod]; exact hy
theorem FRow.same {H H' : AH} {v : Value} {ks : List CK} {n : Nat} {xs : List Value} (h : FRow H v ks n xs) (hs : ∀ b, (blkOf v = some b ∨ ∃ y ∈ xs, blkOf y = some b) → rd H' b = rd H b) : FRow H' v ks n xs := by
  refine ⟨h.len, ?_, fun i c k y hi hk hy => (h.ok i c k y hi hk hy).same fun b hb => hs b (.inr ⟨y, List.mem_of_getElem? hy, hb⟩)⟩
  rcases h.row with h1 | ⟨b, o, cs, h1, h2, h3⟩
  · exact .inl h1
  · exact .inr ⟨b, o, cs, h1, by rw [hs b (.inl (by rw [h1]; rfl))]; exact h2, h3⟩
theorem FRow.cvs_same {H H' : AH} {xs : List Value} (hs : ∀ b, (∃ y ∈ xs, blkOf y = some b) → rd H' b = rd H b) : cvs H' xs = cvs H xs :=
  List.map_congr_left fun y hy => cv_same fun b hb => hs b ⟨y, hy, hb⟩
theorem FRow.rdable {H : AH} {v : Value} {ks : List CK} {n : Nat} {xs : List Value} (h : FRow H v ks n xs) : ∀ b, (blkOf v = some b ∨ ∃ y ∈ xs, blkOf y = some b) → (rd H b).isSome = true := by
  rintro b (hb | ⟨y, hy, hb⟩)
  · rcases h.row with ⟨h1, _⟩ | ⟨b', o, cs, h1, h2, h3⟩
    · rw [h1] at hb; simp [blkOf] at hb
    · rw [h1] at hb; simp [blkOf] at hb; subst hb; simp [h2]
  · obtain ⟨j, hj⟩ := List.mem_iff_getElem?.1 hy
    obtain ⟨k, hk⟩ := h.cell hj
    exact hk.rdable b hb
theorem FRow.mono {H L : AH} {v : Value} {ks : List CK} {n : Nat} {xs : List Value} (h : FRow H v ks n xs) : FRow (H ++ L) v ks n xs := h.same fun b hb => rdl (h.rdable b hb)
theorem FRow.vals {H L : AH} {v : Value} {ks : List CK} {n : Nat} {xs : List Value} (h : FRow H v ks n xs) : cvs (H ++ L) xs = cvs H xs := FRow.cvs_same fun b hb => rdl (h.rdable b (.inr hb))
/-- What an element is. -/
def elm (s : Nat) (xs : List Value) (i : Nat) : List Value := (xs.drop (i * s)).take s
theorem elm_get {s : Nat} {xs : List Value} {i c : Nat} (hc : c < s) : (elm s xs i)[c]? = xs[i * s + c]? := by
  unfold elm
  rw [List.getElem?_take_of_lt hc, List.getElem?_drop]
theorem FRow.elem {H : AH} {v : Value} {ks : List CK} {n : Nat} {xs : List Value} (h : FRow H v ks n xs) {i : Nat} (hi : i < n) : All2 H ks (elm ks.length xs i) := by
  have hl := h.len
  have hr := row_lt (s := ks.length) hi
  refine All2.of ?_ fun c k y hk hy => ?_
  · simp [elm]; omega
  · have hc := (List.getElem?_eq_some_iff.1 hk).1
    rw [elm_get hc] at hy
    exact h.ok i c k y hi hk hy
theorem FRow.op {H : AH} {v : Value} {ks : List CK} {n : Nat} {xs : List Value} (h : FRow H v ks n xs) : ∃ a c, v = .slice a n c ∧ (0 < n → ∃ b o cs, a = some ⟨b, o, none⟩ ∧ c = ks.length ∧ rd H b = some cs ∧ o + n * ks.length ≤ cs.length ∧
    ∀ i, i < n → aggAt ks.length (o + i * ks.length) cs = some (.agg (elm ks.length xs i).toArray) ∧ ∀ (c : Nat) y, (elm ks.length xs i)[c]? = some y → cs[o + i * ks.length + c]? = some y) := by
  have hl := h.len
  rcases h.row with ⟨rfl, rfl⟩ | ⟨b, o, cs, rfl, h1, h2, h3⟩
  · exact ⟨none, 0, rfl, fun h => by omega⟩
  · refine ⟨_, _, rfl, fun _ => ⟨b, o, cs, rfl, rfl, h1, h2, fun i hi => ?_⟩⟩
    have hr := row_lt (s := ks.length) hi
    have hc : ∀ (c : Nat) y, (elm ks.length xs i)[c]? = some y → cs[o + i * ks.length + c]? = some y := by
      intro c y hy
      have hlt : c < ks.length := by
        have := (List.getElem?_eq_some_iff.1 hy).1
        simp [elm] at this
        omega
      rw [elm_get hlt] at hy
      rw [Nat.add_assoc]
      exact h3 _ y hy
    refine ⟨aggAt_row (h.elem hi).len (by omega) hc, hc⟩
/-- A row whose cells own what they point to, each by itself. -/
def OwnC (H : AH) (y : Value) : Prop := (∃ n, y = .int .i64 n) ∨ (∃ x, y = .bool x) ∨ OwnRow H y (rowI H y)
structure OT (H : AH) (v : Value) (ks : List CK) (n : Nat) (xs : List Value) : Prop where
  len : xs.length = n * ks.length
  row : (v = .slice none 0 0 ∧ n = 0) ∨ ∃ b o cs, v = .slice (some ⟨b, o, none⟩) n ks.length ∧ H[b]? = some ⟨cs, .own⟩ ∧ o + n * ks.length ≤ cs.length ∧ ∀ (j : Nat) y, xs[j]? = some y → cs[o + j]? = some y
  ok : ∀ (i c : Nat) k y, i < n → ks[c]? = some k → xs[i * ks.length + c]? = some y → KOk H k y
  own : ∀ (j : Nat) y, xs[j]? = some y → OwnC H y
  out : ∀ (j : Nat) y, xs[j]? = some y → Dj v y
  dif : ∀ (i j : Nat) x y, i ≠ j → xs[i]? = some x → xs[j]? = some y → Dj x y
theorem OT.frow {H : AH} {v : Value} {ks : List CK} {n : Nat} {xs : List Value} (h : OT H v ks n xs) : FRow H v ks n xs := by
  refine ⟨h.len, ?_, h.ok⟩
  rcases h.row with h1 | ⟨b, o, cs, h1, h2, h3⟩
  · exact .inl h1
  · exact .inr ⟨b, o, cs, h1, rd_own h2, h3⟩
theorem get_rd {H H' : AH} {b : Nat} (h : H'[b]? = H[b]?) : rd H' b = rd H b := by unfold rd; rw [h]
theorem OwnC.same {H H' : AH} {y : Value} (h : OwnC H y) (hs : ∀ b, blkOf y = some b → H'[b]? = H[b]?) : OwnC H' y := by
  rcases h with h | h | h
  · exact .inl h
  · exact .inr (.inl h)
  · have := h.same hs
    exact .inr (.inr (by rw [this.rowI]; exact this))
theorem OT.same {H H' : AH} {v : Value} {ks : List CK} {n : Nat} {xs : List Value} (h : OT H v ks n xs) (hs : ∀ b, (blkOf v = some b ∨ ∃ y ∈ xs, blkOf y = some b) → H'[b]? = H[b]?) : OT H' v ks n xs := by
  refine ⟨h.len, ?_, (h.frow.same fun b hb => get_rd (hs b hb)).ok, fun j y hy => (h.own j y hy).same fun b hb => hs b (.inr ⟨y, List.mem_of_getElem? hy, hb⟩), h.out, h.dif⟩
  rcases h.row with h1 | ⟨b, o, cs, h1, h2, h3⟩
  · exact .inl h1
  · exact .inr ⟨b, o, cs, h1, by rw [hs b (.inl (by rw [h1]; rfl))]; exact h2, h3⟩
theorem OwnRow.lt {H : AH} {v : Value} {l : List Int} (h : OwnRow H v l) : ∀ b, blkOf v = some b → b < H.length := by
  rcases h with ⟨rfl, _⟩ | ⟨b, o, cs, rfl, h2, _⟩
  · intro b h; simp [blkOf] at h
  · intro b' h
    simp [blkOf] at h
    subst h
    exact (List.getElem?_eq_some_iff.1 h2).1
theorem OwnC.lt {H : AH} {y : Value} (h : OwnC H y) : ∀ b, blkOf y = some b → b < H.length := by
  rcases h with ⟨n, rfl⟩ | ⟨n, rfl⟩ | h
  · intro b h; simp [blkOf] at h
  · intro b h; simp [blkOf] at h
  · exact h.lt
theorem OT.lt {H : AH} {v : Value} {ks : List CK} {n : Nat} {xs : List Value} (h : OT H v ks n xs) : ∀ b, (blkOf v = some b ∨ ∃ y ∈ xs, blkOf y = some b) → b < H.length := by
  rintro b (hb | ⟨y, hy, hb⟩)
  · rcases h.row with ⟨h1, _⟩ | ⟨b', o, cs, h1, h2, h3⟩
    · rw [h1] at hb; simp [blkOf] at hb
    · rw [h1] at hb; simp [blkOf] at hb; subst hb; exact (List.getElem?_eq_some_iff.1 h2).1
  · obtain ⟨j, hj⟩ := List.mem_iff_getElem?.1 hy
    exact (h.own j y hj).lt b hb
theorem OT.mono {H L : AH} {v : Value} {ks : List CK} {n : Nat} {xs : List Value} (h : OT H v ks n xs) : OT (H ++ L) v ks n xs := h.same fun b hb => List.getElem?_append_left (h.lt b hb)
def cnt1 : CV → Nat | .i _ => 1 | .b _ => 1 | .r l => l.length
def mark1 : CV → Int → CV | .i _, k => .i k | .b _, k => .b (k % 3 == 0) | .r l, k => .r (mks k l.length)
def markF : List CV → Int → List CV
  | [], _ => []
  | x :: r, k => mark1 x k :: markF r (k + cnt1 x)
def cntF (l : List CV) : Nat := (l.map cnt1).sum
def heldF : List CV → Int → Int
  | [], k => k
  | .i n :: r, k => if n = k then heldF r (k + 1) else -1
  | .b x :: r, k => if x = (k % 3 == 0) then heldF r (k + 1) else -1
  | .r l :: r, k => if heldI l k < 0 then -1 else heldF r (heldI l k)
theorem heldF_mark : ∀ (l : List CV) (k : Int), 0 ≤ k → heldF (markF l k) k = k + cntF l
  | [], k, _ => by simp [markF, heldF, cntF]
  | .i n :: r, k, hk => by
    simp only [markF, mark1, heldF, if_true]
    rw [show k + (cnt1 (.i n) : Int) = k + 1 from rfl, heldF_mark r _ (by omega)]
    simp only [cntF, List.map_cons, List.sum_cons, cnt1]; omega
  | .b n :: r, k, hk => by
    simp only [markF, mark1, heldF, if_true]
    rw [show k + (cnt1 (.b n) : Int) = k + 1 from rfl, heldF_mark r _ (by omega)]
    simp only [cntF, List.map_cons, List.sum_cons, cnt1]; omega
  | .r l :: r, k, hk => by
    simp only [markF, mark1, heldF, heldI_mks]
    rw [if_neg (by omega), show k + (cnt1 (.r l) : Int) = k + l.length from rfl, heldF_mark r _ (by omega)]
    simp only [cntF, List.map_cons, List.sum_cons, cnt1]; omega
theorem markF_append : ∀ (l m : List CV) (k : Int), markF (l ++ m) k = markF l k ++ markF m (k + cntF l)
  | [], m, k => by simp [markF, cntF]
  | x :: l, m, k => by
    simp only [List.cons_append, markF, markF_append l m]
    rw [show k + (cnt1 x : Int) + cntF l = k + cntF (x :: l) by simp only [cntF, List.map_cons, List.sum_cons]; omega]
theorem cntF_append {l m : List CV} : cntF (l ++ m) = cntF l + cntF m := by simp [cntF]
theorem markF_len : ∀ (l : List CV) (k : Int), (markF l k).length = l.length
  | [], _ => rfl
  | x :: l, k => by simp [markF, markF_len l]
theorem cntF_mark : ∀ (l : List CV) (k : Int), cntF (markF l k) = cntF l
  | [], _ => rfl
  | x :: l, k => by
    have h := cntF_mark l (k + cnt1 x)
    have e : cnt1 (mark1 x k) = cnt1 x := by cases x <;> simp [mark1, cnt1, mks_len]
    simp only [cntF, markF, List.map_cons, List.sum_cons] at h ⊢
    rw [e, h]
structure MC (H : AH) (v : Value) (ks : List CK) (n : Nat) (xs : List Value) (k : Int) (p : Nat) (q : Int) (ys : List Value) (H' : AH) : Prop where
  ot : OT H' v ks n ys
  blk : ys.map blkOf = xs.map blkOf
  len : H'.length = H.length
  frame : ∀ b, ¬ (blkOf v = some b ∨ ∃ y ∈ xs, blkOf y = some b) → H'[b]? = H[b]?
  vals : cvs H' ys = markF ((cvs H xs).take p) k ++ (cvs H xs).drop p
  cnt : q = k + cntF ((cvs H xs).take p)
theorem MC.start {H : AH} {v : Value} {ks : List CK} {n : Nat} {xs : List Value} {k : Int} (h : OT H v ks n xs) : MC H v ks n xs k 0 k xs H :=
  ⟨h, rfl, rfl, fun _ _ => rfl, by simp [markF], by simp [cntF]⟩
theorem MC.done {H H' : AH} {v : Value} {ks : List CK} {n p : Nat} {xs ys : List Value} {k q : Int} (h : MC H v ks n xs k p q ys H') (hp : xs.length ≤ p) : cvs H' ys = markF (cvs H xs) k ∧ q = k + cntF (cvs H xs) := by
  have e : (cvs H xs).take p = cvs H xs := List.take_of_length_le (by simp [cvs]; omega)
  have e2 : (cvs H xs).drop p = [] := List.drop_of_length_le (by simp [cvs]; omega)
  have h1 := h.vals
  have h2 := h.cnt
  rw [e] at h1 h2
  rw [e2, List.append_nil] at h1
  exact ⟨h1, h2⟩
theorem MC.bk {H H' : AH} {v : Value} {ks : List CK} {n p : Nat} {xs ys : List Value} {k q : Int} (h : MC H v ks n xs k p q ys H') {b : Nat} : (∃ y ∈ ys, blkOf y = some b) ↔ ∃ y ∈ xs, blkOf y = some b := by
  have e : ∀ zs : List Value, (∃ y ∈ zs, blkOf y = some b) ↔ some b ∈ zs.map blkOf := by
    intro zs; simp only [List.mem_map]
  rw [e, e, h.blk]
theorem MC.rest {H H' : AH} {v : Value} {ks : List CK} {n p : Nat} {xs ys : List Value} {k q : Int} (h : MC H v ks n xs k p q ys H') {y : Value} (hy : ys[p]? = some y) : (cvs H xs)[p]? = some (cv H' y) := by
  have h1 := congrArg (fun l : List CV => l[p]?) h.vals
  have hl : ys.length = xs.length := by have := congrArg List.length h.blk; simpa using this
  have hp := (List.getElem?_eq_some_iff.1 hy).1
  have e : (markF ((cvs H xs).take p) k).length = p := by rw [markF_len]; simp [cvs]; omega
  simp only [List.getElem?_append_right (Nat.le_of_eq e), e, Nat.sub_self, List.getElem?_drop, Nat.add_zero] at h1
  rw [← h1]
  simp [cvs, hy]
theorem MC.take {H H' : AH} {v : Value} {ks : List CK} {n p : Nat} {xs ys : List Value} {k q : Int} (h : MC H v ks n xs k p q ys H') {y : Value} (hy : ys[p]? = some y) :
    (cvs H xs).take (p + 1) = (cvs H xs).take p ++ [cv H' y] ∧ (cvs H xs).drop p = cv H' y :: (cvs H xs).drop (p + 1) := by
  have h1 := h.rest hy
  obtain ⟨h2, h3⟩ := List.getElem?_eq_some_iff.1 h1
  rw [← h3]
  exact ⟨List.take_succ_eq_append_getElem h2, List.drop_eq_getElem_cons h2⟩
theorem int_kind {H : AH} {k : CK} {n m : Int} (h : KOk H k (.int .i64 n)) : KOk H k (.int .i64 m) := by
  cases k with
  | i => exact ⟨m, rfl⟩
  | b => obtain ⟨x, hx⟩ := h; cases hx
  | r => obtain ⟨a, c, e⟩ := h.1.slice; cases e
  | w => obtain ⟨a, c, e⟩ := h.1.slice; cases e
theorem bool_kind {H : AH} {k : CK} {n m : Bool} (h : KOk H k (.bool n)) : KOk H k (.bool m) := by
  cases k with
  | i => obtain ⟨x, hx⟩ := h; cases hx
  | b => exact ⟨m, rfl⟩
  | r => obtain ⟨a, c, e⟩ := h.1.slice; cases e
  | w => obtain ⟨a, c, e⟩ := h.1.slice; cases e
/-- A cell that is an int or a bool is written. -/
theorem MC.scal {H H' : AH} {v : Value} {ks : List CK} {n p : Nat} {xs ys : List Value} {k q : Int} (h : MC H v ks n xs k p q ys H') {b o : Nat} {c : Option Addr} {cs : List Value} {y z : Value}
    (hv : v = .slice (some ⟨b, o, none⟩) n ks.length) (hb : H'[b]? = some ⟨cs, .own⟩) (hlen : o + n * ks.length ≤ cs.length) (hc : ∀ (j : Nat) y, ys[j]? = some y → cs[o + j]? = some y) (hy : ys[p]? = some y)
    (hz : (∃ m, y = .int .i64 m ∧ z = .int .i64 q) ∨ (∃ m, y = .bool m ∧ z = .bool (q % 3 == 0))) :
    MC H v ks n xs k (p + 1) (q + 1) (ys.set p z) (H'.set b ⟨cs.set (o + p) z, .own⟩) := by
  have hp := (List.getElem?_eq_some_iff.1 hy).1
  have hyl := h.ot.len
  have hbl : b < H'.length := (List.getElem?_eq_some_iff.1 hb).1
  have hvb : blkOf v = some b := by rw [hv]; rfl
  have hbz : blkOf z = none := by rcases hz with ⟨m, _, rfl⟩ | ⟨m, _, rfl⟩ <;> rfl
  have hby : blkOf y = none := by rcases hz with ⟨m, rfl, _⟩ | ⟨m, rfl, _⟩ <;> rfl
  have hs : ∀ g, g ≠ b → (H'.set b ⟨cs.set (o + p) z, .own⟩)[g]? = H'[g]? := fun g hg => List.getElem?_set_ne (Ne.symm hg)
  have hsy : ∀ (j : Nat) w, ys[j]? = some w → ∀ g, blkOf w = some g → (H'.set b ⟨cs.set (o + p) z, .own⟩)[g]? = H'[g]? := fun j w hw g hg => hs g (by rintro rfl; exact h.ot.out j w hw g hvb hg)
  have hget : ∀ (j : Nat) w, (ys.set p z)[j]? = some w → (j = p ∧ w = z) ∨ (j ≠ p ∧ ys[j]? = some w) := by
    intro j w hw
    rw [List.getElem?_set] at hw
    split at hw
    · rename_i e
      subst e
      first
        | (cases hw; exact .inl ⟨rfl, rfl⟩)
        | (rw [if_pos hp] at hw; cases hw; exact .inl ⟨rfl, rfl⟩)
    · rename_i e
      exact .inr ⟨fun h => e h.symm, hw⟩
  refine ⟨⟨by simpa using hyl, ?_, ?_, ?_, ?_, ?_⟩, ?_, ?_, ?_, ?_, ?_⟩
  · refine .inr ⟨b, o, _, hv, List.getElem?_set_self hbl, by simpa using hlen, fun j w hw => ?_⟩
    rcases hget j w hw with ⟨rfl, rfl⟩ | ⟨h1, h2⟩
    · rw [List.getElem?_set, if_pos rfl, if_pos (by omega)]
    · rw [List.getElem?_set, if_neg (by omega)]
      exact hc j w h2
  · intro i c k' w hi hk hw
    rcases hget _ w hw with ⟨h1, rfl⟩ | ⟨h1, h2⟩
    · have hy' : ys[i * ks.length + c]? = some y := by rw [h1]; exact hy
      have hold := h.ot.ok i c k' y hi hk hy'
      rcases hz with ⟨m, rfl, rfl⟩ | ⟨m, rfl, rfl⟩
      · exact (int_kind hold : KOk H' k' _).same fun g hg => by simp [blkOf] at hg
      · exact (bool_kind hold : KOk H' k' _).same fun g hg => by simp [blkOf] at hg
    · exact (h.ot.ok i c k' w hi hk h2).same fun g hg => get_rd (hsy _ w h2 g hg)
  · intro j w hw
    rcases hget j w hw with ⟨h1, rfl⟩ | ⟨h1, h2⟩
    · rcases hz with ⟨m, _, rfl⟩ | ⟨m, _, rfl⟩
      · exact .inl ⟨_, rfl⟩
      · exact .inr (.inl ⟨_, rfl⟩)
    · exact (h.ot.own j w h2).same (hsy j w h2)
  · intro j w hw
    rcases hget j w hw with ⟨h1, rfl⟩ | ⟨h1, h2⟩
    · intro g _ hg; rw [hbz] at hg; cases hg
    · exact h.ot.out j w h2
  · intro i j x w hij hx hw
    rcases hget i x hx with ⟨h1, rfl⟩ | ⟨h1, h2⟩
    · intro g hg; rw [hbz] at hg; cases hg
    · rcases hget j w hw with ⟨h3, rfl⟩ | ⟨h3, h4⟩
      · intro g _ hg; rw [hbz] at hg; cases hg
      · exact h.ot.dif i j x w hij h2 h4
  · rw [List.map_set, hbz, ← h.blk]
    refine List.ext_getElem? fun j => ?_
    rw [List.getElem?_set]
    split
    · rename_i e
      subst e
      rw [if_pos (by simpa using hp)]
      simp [hy, hby]
    · rfl
  · rw [List.length_set, h.len]
  · intro g hg
    rw [hs g (by rintro rfl; exact hg (.inl hvb))]
    exact h.frame g hg
  · obtain ⟨e1, e2⟩ := h.take hy
    have e3 : cvs (H'.set b ⟨cs.set (o + p) z, .own⟩) (ys.set p z) = (cvs H' ys).set p (cv H' z) := by
      refine List.ext_getElem? fun j => ?_
      simp only [cvs, List.getElem?_map, List.getElem?_set, List.length_map]
      split
      · rename_i e
        subst e
        rcases hz with ⟨m, _, rfl⟩ | ⟨m, _, rfl⟩ <;> simp [hp, cv]
      · cases hj : ys[j]? with
        | none => rfl
        | some w => simp only [Option.map_some, cv_same fun g hg => get_rd (hsy j w hj g hg)]
    have e4 : (markF ((cvs H xs).take p) k).length = p := by
      rw [markF_len]
      have := congrArg List.length h.blk
      simp [cvs] at this ⊢
      omega
    rw [e3, h.vals, e1, markF_append, List.set_append_right _ _ (by omega), e4, Nat.sub_self, e2, List.set_cons_zero, List.append_assoc]
    congr 1
    have hcn := h.cnt
    simp only [markF, List.singleton_append, List.cons.injEq, and_true]
    rcases hz with ⟨m, rfl, rfl⟩ | ⟨m, rfl, rfl⟩
    · simp only [cv, mark1, ← hcn]
    · simp only [cv, mark1, ← hcn]
  · obtain ⟨e1, e2⟩ := h.take hy
    rw [e1, cntF_append, h.cnt]
    rcases hz with ⟨m, rfl, _⟩ | ⟨m, rfl, _⟩ <;> simp only [cntF, List.map_cons, List.map_nil, List.sum_cons, List.sum_nil, cv, cnt1] <;> omega
/-- A cell that is a row of ints is written. -/
theorem MC.ints {H H' : AH} {v : Value} {ks : List CK} {n p : Nat} {xs ys : List Value} {k q : Int} (h : MC H v ks n xs k p q ys H') {y : Value} (hy : ys[p]? = some y) (ho : OwnRow H' y (rowI H' y)) (hok : OkI H' y) :
    MC H v ks n xs k (p + 1) (q + (rowI H' y).length) ys (putI H' y (mks q (rowI H' y).length)) := by
  have hp := (List.getElem?_eq_some_iff.1 hy).1
  have hput := ho.put (xs := mks q (rowI H' y).length) mks_len
  have hsy : ∀ (j : Nat) w, j ≠ p → ys[j]? = some w → ∀ g, blkOf w = some g → (putI H' y (mks q (rowI H' y).length))[g]? = H'[g]? := fun j w hj hw => putI_dj (h.ot.dif p j y w (Ne.symm hj) hy hw)
  refine ⟨⟨h.ot.len, ?_, ?_, ?_, h.ot.out, h.ot.dif⟩, h.blk, by rw [putI_len, h.len], ?_, ?_, ?_⟩
  · rcases h.ot.row with h1 | ⟨b, o, cs, h1, h2, h3⟩
    · exact .inl h1
    · refine .inr ⟨b, o, cs, h1, ?_, h3⟩
      rw [putI_get (h.ot.out p y hy b (by rw [h1]; rfl))]
      exact h2
  · intro i c k' w hi hk hw
    have hold := h.ot.ok i c k' w hi hk hw
    by_cases e : i * ks.length + c = p
    · rw [e, hy] at hw
      cases hw
      cases k' with
      | i => obtain ⟨m, rfl⟩ := hold; obtain ⟨a, c, e⟩ := hok.slice; cases e
      | b => obtain ⟨m, rfl⟩ := hold; obtain ⟨a, c, e⟩ := hok.slice; cases e
      | r => exact ⟨hput.int.ok, by rw [hput.rowI, mks_len]; exact hold.2⟩
      | w => exact ⟨hput.int.ok, by rw [hput.rowI, mks_len]; exact hold.2⟩
    · exact hold.same fun g hg => get_rd (hsy _ w e hw g hg)
  · intro j w hw
    by_cases e : j = p
    · subst e
      rw [hy] at hw; cases hw
      exact .inr (.inr (by rw [hput.rowI]; exact hput))
    · exact (h.ot.own j w hw).same (hsy j w e hw)
  · intro g hg
    rw [putI_get, h.frame g hg]
    intro e
    exact hg (.inr (h.bk.1 ⟨y, List.mem_of_getElem? hy, e⟩))
  · obtain ⟨e1, e2⟩ := h.take hy
    have e3 : cvs (putI H' y (mks q (rowI H' y).length)) ys = (cvs H' ys).set p (.r (mks q (rowI H' y).length)) := by
      refine List.ext_getElem? fun j => ?_
      simp only [cvs, List.getElem?_map, List.getElem?_set, List.length_map]
      split
      · rename_i e
        subst e
        rw [hy, Option.map_some, cv_row hput.int.ok, hput.rowI]
      · rename_i e
        cases hj : ys[j]? with
        | none => rfl
        | some w => simp only [Option.map_some, cv_same fun g hg => get_rd (hsy j w (Ne.symm e) hj g hg)]
    have e4 : (markF ((cvs H xs).take p) k).length = p := by
      rw [markF_len]
      have := congrArg List.length h.blk
      simp [cvs] at this ⊢
      omega
    rw [e3, h.vals, e1, markF_append, List.set_append_right _ _ (by omega), e4, Nat.sub_self, e2, List.set_cons_zero, List.append_assoc]
    congr 1
    rw [cv_row hok]
    have hcn := h.cnt
    simp only [markF, mark1, List.singleton_append, List.cons.injEq, and_true, ← hcn]
  · obtain ⟨e1, e2⟩ := h.take hy
    rw [e1, cntF_append, h.cnt, cv_row hok]
    simp only [cntF, List.map_cons, List.map_nil, List.sum_cons, List.sum_nil, cnt1]; omega

theorem ext_of {H H' : AH} (hl : H.length ≤ H'.length) (hk : ∀ b, b < H.length → H'[b]? = H[b]?) : ∃ K, H' = H ++ K := by
  refine ⟨H'.drop H.length, List.ext_getElem? fun b => ?_⟩
  rcases Nat.lt_or_ge b H.length with h | h
  · rw [List.getElem?_append_left h, hk b h]
  · rw [List.getElem?_append_right h, List.getElem?_drop, Nat.add_sub_cancel' h]
/-- What append leaves of the heap. -/
structure App (H : AH) (v : Value) (H' : AH) (v' : Value) : Prop where
  len : H.length ≤ H'.length
  keep : ∀ b, b < H.length → blkOf v ≠ some b → H'[b]? = H[b]?
  new : ∀ b, blkOf v' = some b → blkOf v = some b ∨ H.length ≤ b
theorem App.ext {H0 H H' : AH} {v v' : Value} (h : App H v H' v') (h0 : ∃ K, H = H0 ++ K) (hv : ∀ b, blkOf v = some b → H0.length ≤ b) : ∃ K, H' = H0 ++ K := by
  obtain ⟨K, rfl⟩ := h0
  have hl := h.len
  rw [List.length_append] at hl
  refine ext_of (by omega) fun b hb => ?_
  rw [h.keep b (by rw [List.length_append]; omega) (fun e => by have := hv b e; omega), List.getElem?_append_left hb]
theorem IntRow.cl {H : AH} {v : Value} {l : List Int} (h : IntRow H v l) : cl H 1 v = some (ints l) ∧ lenS v = l.length := by
  rcases h with ⟨rfl, rfl⟩ | ⟨b, o, cs, rfl, h1, h2, h3⟩
  · exact ⟨rfl, rfl⟩
  · refine ⟨?_, rfl⟩
    simp only [Go.Proofs.Ytgekbancaeabgaa.AM.cl, h1, Option.bind_some, Nat.mul_one, if_pos h2, h3]
theorem OwnRow.ownOk {H : AH} {v : Value} {l : List Int} (h : OwnRow H v l) : Go.Proofs.Ytgekbancaeabgaa.AM.ownOk v 1 H = true := by
  rcases h with ⟨rfl, rfl⟩ | ⟨b, o, cs, rfl, h1, h2, h3⟩
  · rfl
  · simp [Go.Proofs.Ytgekbancaeabgaa.AM.ownOk, h1]
theorem ints_leaf {l : List Int} : (ints l).all leaf = true := by
  simp [ints, leaf]
theorem ints_app {l m : List Int} : ints l ++ ints m = ints (l ++ m) := by simp [ints]
theorem kill_keep {H : AH} {v : Value} {b : Nat} (h : blkOf v ≠ some b) : (kill v H)[b]? = H[b]? := by
  unfold kill
  split
  · rename_i a n c
    rw [List.getElem?_set_ne]
    intro e
    apply h
    rw [← e]
    rfl
  · rfl
theorem kill_len2 {H : AH} {v : Value} : (kill v H).length = H.length := by unfold kill; split <;> simp
theorem oA_own {H : AH} {v w : Value} {l m : List Int} {Φ : Value → AH → Prop} (hv : OwnRow H v l) (hw : IntRow H w m) (hl : l.length + m.length ≤ 1073741824)
    (h : ∀ a c H', OwnRow H' (.slice a (l.length + m.length) c) (l ++ m) → App H v H' (.slice a (l.length + m.length) c) → Φ (.slice a (l.length + m.length) c) H') : oA (app 1 v w H) Φ := by
  obtain ⟨c1, c2⟩ := hv.int.cl
  obtain ⟨c3, c4⟩ := hw.cl
  unfold app
  rw [c1, c3]
  simp only [c2, c4]
  by_cases hm : m.length = 0
  · rw [if_pos hm]
    have : m = [] := List.eq_nil_of_length_eq_zero hm
    subst this
    obtain ⟨a, c, e⟩ := (show ∃ a c, v = .slice a l.length c by obtain ⟨a, c, h1, _⟩ := hv.int.op; exact ⟨a, c, h1⟩)
    subst e
    have := h a c H (by simpa using hv) ⟨Nat.le_refl _, fun b _ _ => rfl, fun b hb => .inl hb⟩
    simpa [oA] using this
  · rw [if_neg hm, if_pos ⟨hl, ints_leaf, hv.ownOk⟩]
    refine h _ _ _ ?_ ⟨by simp [kill_len2], fun b hb hn => ?_, fun b hb => .inr ?_⟩
    · refine .inr ⟨H.length, 0, ints l ++ ints m, by rw [List.length_append], ?_, ?_, ?_⟩
      · rw [← kill_len2 (v := v), gt0]; rfl
      · simp [ints]
      · rw [List.drop_zero, List.take_of_length_le (by simp [ints]), ints_app]
    · rw [List.getElem?_append_left (by rw [kill_len2]; exact hb), kill_keep hn]
    · simp [blkOf] at hb; omega
theorem OwnRow.nil {H : AH} : OwnRow H (.slice none 0 0) [] := .inl ⟨rfl, rfl⟩
theorem OwnRow.at0 {H : AH} {b : Nat} {cs : List Value} (h : H[b]? = some ⟨cs, .own⟩) : OwnRow H (.slice (some ⟨b, 0, none⟩) 0 1) [] := .inr ⟨b, 0, cs, rfl, h, by simp, by simp [ints]⟩
theorem IntRow.ext {H H' : AH} {w : Value} {m : List Int} (h : IntRow H w m) (he : ∃ K, H' = H ++ K) : IntRow H' w m := by
  obtain ⟨K, rfl⟩ := he; exact h.mono
theorem App.own {H H' : AH} {v v' w : Value} {m : List Int} (h : App H v H' v') (hw : OwnRow H w m) (hd : ∀ b, blkOf w = some b → blkOf v ≠ some b) : OwnRow H' w m :=
  hw.same fun b hb => h.keep b (hw.lt b hb) (hd b hb)
theorem App.at {H H' : AH} {v v' : Value} {b : Nat} {k : Blk} (h : App H v H' v') (hb : H[b]? = some k) (hd : blkOf v ≠ some b) : H'[b]? = some k := by
  rw [h.keep b (List.getElem?_eq_some_iff.1 hb).1 hd, hb]
theorem set_at {H : AH} {b : Nat} {k k' : Blk} (h : H[b]? = some k) : (H.set b k')[b]? = some k' := List.getElem?_set_self (List.getElem?_eq_some_iff.1 h).1
theorem set_ext {H H' : AH} {b : Nat} {k : Blk} (h : ∃ K, H' = H ++ K) (hb : H.length ≤ b) : ∃ K, H'.set b k = H ++ K := by
  obtain ⟨K, rfl⟩ := h
  exact ⟨K.set (b - H.length) k, by rw [List.set_append_right _ _ hb]⟩
theorem app_ext {H H' L : AH} (h : ∃ K, H' = H ++ K) : ∃ K, H' ++ L = H ++ K := by
  obtain ⟨K, rfl⟩ := h
  exact ⟨K ++ L, by simp⟩
theorem ext_trans {H H1 H2 : AH} (h1 : ∃ K, H1 = H ++ K) (h2 : ∃ K, H2 = H1 ++ K) : ∃ K, H2 = H ++ K := by
  obtain ⟨K, rfl⟩ := h1; obtain ⟨L, rfl⟩ := h2; exact ⟨K ++ L, by simp⟩
theorem ext_len {H H' : AH} (h : ∃ K, H' = H ++ K) : H.length ≤ H'.length := by
  obtain ⟨K, rfl⟩ := h; simp
theorem OwnRow.set {H : AH} {v : Value} {l : List Int} {b : Nat} {k : Blk} (h : OwnRow H v l) (hb : blkOf v ≠ some b) : OwnRow (H.set b k) v l :=
  h.same fun g hg => List.getElem?_set_ne (fun e => hb (by rw [e]; exact hg))
/-- An array whose rows are its own. -/
structure AOwn (H0 H : AH) (v : Value) (sh dt : List Int) (p q : Value) : Prop where
  eq : v = .agg #[p, q]
  sh : OwnRow H p sh
  dt : OwnRow H q dt
  dj : Dj p q
  n1 : ∀ b, blkOf p = some b → H0.length ≤ b
  n2 : ∀ b, blkOf q = some b → H0.length ≤ b

theorem l3Copy_ok {H : AH} {p q : Value} {sh dt : List Int} (hp : IntRow H p sh) (hq : IntRow H q dt) (l1 : sh.length ≤ 1073741824) (l2 : dt.length ≤ 1073741824) :
    CallsA Try.prog 95 #[.agg #[p, q]] H fun r H' => (∃ p' q', AOwn H H' r sh dt p' q') ∧ ∃ K, H' = H ++ K := by
  refine w95 ?_
  unfold k95
  obtain ⟨a1, c1, rfl, _⟩ := hp.op
  obtain ⟨a2, c2, rfl, _⟩ := hq.op
  simp -implicitDefEqProofs only [rE_seq_n, rE_seq_r, rE_seq_e, rE_blk_n, rE_blk_r, rE_blk_e, rW_skip, rW_ret, rW_exit, rW_ops, rW_seq, rW_block, ↓two_true, ↓two_false, rC_bool, rW_cond, rO_nil, rO_cons, oG_t, oG_f, oG_undef, rO_guard, oV_some, rOV_eq, oP_move, oP_assign, oP_bin, oP_un, oP_index, oP_fieldAddr, oP_field, oP_indexAddr, oP_slice, oP_load, oP_convert, aPick_true, aPick_false, aPick_bool, oP_pick, aExtract_tup, oP_extract, oP_nilCheck, oP_build, oP_len, oP_cap, oP_max, oP_min, oP_makeFunc, oS_some, oP_store, oA_some, oP_append, oM_some, oP_alloc, oP_box, oP_buildSlice, oP_mkS, oP_call, oP_callv, oF_func, aev_tmp, aev_const, aev_func, aput_get, aput_none, bin_add, bin_sub, bin_mul, bin_eql, bin_neq, bin_lss, bin_leq, bin_gtr, bin_geq, un_not, un_neg, tm0_get, fin_ret, fin_end, oR_some, resL_nil, resL_tmp, resL_cell, tup_one, tup_two, tup_nil, cond_true, cond_false, load_eq, Option.bind_some, gt0, gti, mkv, List.length_append, List.length_cons, List.length_nil, List.append_assoc, List.cons_append, List.nil_append, rd0, rdi, wrt0, wrti, rdB_own, rdB_ro, wrB_own, oL_some, aggAt, sto_some, st0, sti, List.set_cons_zero, List.set_cons_succ, splice_nil, splice_cons, cells_agg, cells_int, cells_bool, cells_string, cells_pointer, cells_slice, leaf_int, leaf_bool, leaf_string, leaf_pointer, leaf_slice, List.size_toArray, List.all_cons, List.all_nil, Bool.and_self, Bool.and_true, and_self, true_and, and_true, Nat.zero_add, Nat.add_zero, Nat.reduceLeDiff, Nat.le_refl, List.drop_zero, List.drop_succ_cons, List.take_succ_cons, List.take_zero, Nat.reduceSub, lp_end, lp_ret, lp_exit, oV_ite, oS_ite, oA_ite, slc_some, sls_some, optInt_none, optInt_some, rW_draw, rD_nil, rDV_eq, rDR_eq, rDE_eq, rDS_n, rDS_e, rD_load, rD_conv, rD_pure, rD_e, rD_g, rDG_t, rDG_f, rDG_undef, chkH_nil, chkH_cons, chkP_nil, chkP_cons, aRead_load, aRead_conv, isE_store, isE_call, isE_append, rDS_l, rDS_c, pl_move, pl_assign, pl_pick, pl_alloc, pl_box, pl_build, pl_buildSlice, pl_nilCheck, pl_binOp, pl_unOp, pl_makeFunc, pl_makeSlice, pl_slice, pl_fieldAddr, pl_field, pl_indexAddr, pl_index, pl_extract, pl_len, pl_cap, pl_max, pl_min, List.mem_cons, Prod.mk.injEq, List.not_mem_nil, or_false, or_true, false_or, true_or, and_false, false_and, false_implies, implies_true, true_implies, oM_ite, fillP_nil, fillP_cons, fillQ_some, slq_some, most_max, most_min, Nat.reduceMul, List.getElem?_toArray, List.getElem?_cons_zero, List.getElem?_cons_succ, List.getElem?_nil, Option.getD_some, Option.getD_none, Nat.reduceEqDiff, reduceIte, Nat.reduceAdd, List.map_toArray, List.map_cons, List.map_nil, Bool.false_eq_true, Nat.reduceBEq, Option.map_some, Option.map_none, reduceCtorEq, al45, ap43_43, bd45, bs43_0, fa45_0, fa45_1, ld43, ld45, st45]
  refine oA_own (l := []) (OwnRow.at0 (cs := []) (by rw [gti]; rfl)) hp.mono (by simpa using l1) fun a c H1 o1 x1 => ?_
  simp only [List.length_nil, Nat.zero_add, List.nil_append] at o1 x1 ⊢
  have e1 := x1.ext ⟨_, rfl⟩ (by intro b hb; simp [blkOf] at hb; omega)
  have b0 := x1.at (b := H.length) (by rw [gt0]; rfl) (by simp [blkOf])
  have b1 := x1.at (b := H.length + 1) (by rw [gti]; rfl) (by simp [blkOf])
  have n1 : ∀ b, blkOf (.slice a sh.length c) = some b → H.length + 2 ≤ b := fun b hb => by
    rcases x1.new b hb with h | h
    · simp [blkOf] at h; omega
    · simp at h; omega
  have h1 := x1.len
  simp only [List.length_append, List.length_cons, List.length_nil] at h1
  clear x1
  have g0 : ∀ L, rd (H1 ++ L) H.length = _ := fun L => rd_own (gtl b0)
  simp -implicitDefEqProofs only [rE_seq_n, rE_seq_r, rE_seq_e, rE_blk_n, rE_blk_r, rE_blk_e, rW_skip, rW_ret, rW_exit, rW_ops, rW_seq, rW_block, ↓two_true, ↓two_false, rC_bool, rW_cond, rO_nil, rO_cons, oG_t, oG_f, oG_undef, rO_guard, oV_some, rOV_eq, oP_move, oP_assign, oP_bin, oP_un, oP_index, oP_fieldAddr, oP_field, oP_indexAddr, oP_slice, oP_load, oP_convert, aPick_true, aPick_false, aPick_bool, oP_pick, aExtract_tup, oP_extract, oP_nilCheck, oP_build, oP_len, oP_cap, oP_max, oP_min, oP_makeFunc, oS_some, oP_store, oA_some, oP_append, oM_some, oP_alloc, oP_box, oP_buildSlice, oP_mkS, oP_call, oP_callv, oF_func, aev_tmp, aev_const, aev_func, aput_get, aput_none, bin_add, bin_sub, bin_mul, bin_eql, bin_neq, bin_lss, bin_leq, bin_gtr, bin_geq, un_not, un_neg, tm0_get, fin_ret, fin_end, oR_some, resL_nil, resL_tmp, resL_cell, tup_one, tup_two, tup_nil, cond_true, cond_false, load_eq, Option.bind_some, gt0, gti, mkv, List.length_append, List.length_cons, List.length_nil, List.append_assoc, List.cons_append, List.nil_append, rd0, rdi, wrt0, wrti, rdB_own, rdB_ro, wrB_own, oL_some, aggAt, sto_some, st0, sti, List.set_cons_zero, List.set_cons_succ, splice_nil, splice_cons, cells_agg, cells_int, cells_bool, cells_string, cells_pointer, cells_slice, leaf_int, leaf_bool, leaf_string, leaf_pointer, leaf_slice, List.size_toArray, List.all_cons, List.all_nil, Bool.and_self, Bool.and_true, and_self, true_and, and_true, Nat.zero_add, Nat.add_zero, Nat.reduceLeDiff, Nat.le_refl, List.drop_zero, List.drop_succ_cons, List.take_succ_cons, List.take_zero, Nat.reduceSub, lp_end, lp_ret, lp_exit, oV_ite, oS_ite, oA_ite, slc_some, sls_some, optInt_none, optInt_some, rW_draw, rD_nil, rDV_eq, rDR_eq, rDE_eq, rDS_n, rDS_e, rD_load, rD_conv, rD_pure, rD_e, rD_g, rDG_t, rDG_f, rDG_undef, chkH_nil, chkH_cons, chkP_nil, chkP_cons, aRead_load, aRead_conv, isE_store, isE_call, isE_append, rDS_l, rDS_c, pl_move, pl_assign, pl_pick, pl_alloc, pl_box, pl_build, pl_buildSlice, pl_nilCheck, pl_binOp, pl_unOp, pl_makeFunc, pl_makeSlice, pl_slice, pl_fieldAddr, pl_field, pl_indexAddr, pl_index, pl_extract, pl_len, pl_cap, pl_max, pl_min, List.mem_cons, Prod.mk.injEq, List.not_mem_nil, or_false, or_true, false_or, true_or, and_false, false_and, false_implies, implies_true, true_implies, oM_ite, fillP_nil, fillP_cons, fillQ_some, slq_some, most_max, most_min, Nat.reduceMul, List.getElem?_toArray, List.getElem?_cons_zero, List.getElem?_cons_succ, List.getElem?_nil, Option.getD_some, Option.getD_none, Nat.reduceEqDiff, reduceIte, Nat.reduceAdd, List.map_toArray, List.map_cons, List.map_nil, Bool.false_eq_true, Nat.reduceBEq, Option.map_some, Option.map_none, reduceCtorEq, al45, ap43_43, bd45, bs43_0, fa45_0, fa45_1, ld43, ld45, st45, rd_own b0, g0]
  refine oA_own (l := []) (OwnRow.at0 (cs := []) (by rw [gt0]; rfl)) (hq.ext (app_ext e1)) (by simpa using l2) fun a' c' H2 o2 x2 => ?_
  simp only [List.length_nil, Nat.zero_add, List.nil_append] at o2 x2 ⊢
  have hne : ∀ b, b < H1.length → blkOf (.slice (some ⟨H1.length, 0, none⟩) 0 1) ≠ some b := fun b hb e => by simp [blkOf] at e; omega
  have e2 := x2.ext (app_ext e1) (by intro b hb; simp [blkOf] at hb; omega)
  have o3 := x2.own o1.mono fun b hb => hne b (o1.lt b hb)
  have b2 := x2.at (gtl b0) (hne _ (by omega))
  have b3 := x2.at (gtl b1) (hne _ (by omega))
  have n2 : ∀ b, blkOf (.slice a' dt.length c') = some b → H1.length ≤ b := fun b hb => by
    rcases x2.new b hb with h | h
    · simp [blkOf] at h; omega
    · simp at h; omega
  clear x2
  simp -implicitDefEqProofs only [rE_seq_n, rE_seq_r, rE_seq_e, rE_blk_n, rE_blk_r, rE_blk_e, rW_skip, rW_ret, rW_exit, rW_ops, rW_seq, rW_block, ↓two_true, ↓two_false, rC_bool, rW_cond, rO_nil, rO_cons, oG_t, oG_f, oG_undef, rO_guard, oV_some, rOV_eq, oP_move, oP_assign, oP_bin, oP_un, oP_index, oP_fieldAddr, oP_field, oP_indexAddr, oP_slice, oP_load, oP_convert, aPick_true, aPick_false, aPick_bool, oP_pick, aExtract_tup, oP_extract, oP_nilCheck, oP_build, oP_len, oP_cap, oP_max, oP_min, oP_makeFunc, oS_some, oP_store, oA_some, oP_append, oM_some, oP_alloc, oP_box, oP_buildSlice, oP_mkS, oP_call, oP_callv, oF_func, aev_tmp, aev_const, aev_func, aput_get, aput_none, bin_add, bin_sub, bin_mul, bin_eql, bin_neq, bin_lss, bin_leq, bin_gtr, bin_geq, un_not, un_neg, tm0_get, fin_ret, fin_end, oR_some, resL_nil, resL_tmp, resL_cell, tup_one, tup_two, tup_nil, cond_true, cond_false, load_eq, Option.bind_some, gt0, gti, mkv, List.length_append, List.length_cons, List.length_nil, List.append_assoc, List.cons_append, List.nil_append, rd0, rdi, wrt0, wrti, rdB_own, rdB_ro, wrB_own, oL_some, aggAt, sto_some, st0, sti, List.set_cons_zero, List.set_cons_succ, splice_nil, splice_cons, cells_agg, cells_int, cells_bool, cells_string, cells_pointer, cells_slice, leaf_int, leaf_bool, leaf_string, leaf_pointer, leaf_slice, List.size_toArray, List.all_cons, List.all_nil, Bool.and_self, Bool.and_true, and_self, true_and, and_true, Nat.zero_add, Nat.add_zero, Nat.reduceLeDiff, Nat.le_refl, List.drop_zero, List.drop_succ_cons, List.take_succ_cons, List.take_zero, Nat.reduceSub, lp_end, lp_ret, lp_exit, oV_ite, oS_ite, oA_ite, slc_some, sls_some, optInt_none, optInt_some, rW_draw, rD_nil, rDV_eq, rDR_eq, rDE_eq, rDS_n, rDS_e, rD_load, rD_conv, rD_pure, rD_e, rD_g, rDG_t, rDG_f, rDG_undef, chkH_nil, chkH_cons, chkP_nil, chkP_cons, aRead_load, aRead_conv, isE_store, isE_call, isE_append, rDS_l, rDS_c, pl_move, pl_assign, pl_pick, pl_alloc, pl_box, pl_build, pl_buildSlice, pl_nilCheck, pl_binOp, pl_unOp, pl_makeFunc, pl_makeSlice, pl_slice, pl_fieldAddr, pl_field, pl_indexAddr, pl_index, pl_extract, pl_len, pl_cap, pl_max, pl_min, List.mem_cons, Prod.mk.injEq, List.not_mem_nil, or_false, or_true, false_or, true_or, and_false, false_and, false_implies, implies_true, true_implies, oM_ite, fillP_nil, fillP_cons, fillQ_some, slq_some, most_max, most_min, Nat.reduceMul, List.getElem?_toArray, List.getElem?_cons_zero, List.getElem?_cons_succ, List.getElem?_nil, Option.getD_some, Option.getD_none, Nat.reduceEqDiff, reduceIte, Nat.reduceAdd, List.map_toArray, List.map_cons, List.map_nil, Bool.false_eq_true, Nat.reduceBEq, Option.map_some, Option.map_none, reduceCtorEq, al45, ap43_43, bd45, bs43_0, fa45_0, fa45_1, ld43, ld45, st45, rd_own b2, wrt_own b3, g0, rd_own b0, rd_own (set_at b3)]
  refine ⟨⟨_, _, rfl, o3.set fun e => ?_, o2.set fun e => ?_, fun b h3 h4 => ?_, fun b hb => ?_, fun b hb => ?_⟩, set_ext e2 (by omega)⟩
  · have := n1 _ e; omega
  · have := n2 _ e; omega
  · have := o1.lt b h3; have := n2 b h4; omega
  · have := n1 _ hb; omega
  · have := n2 _ hb; omega

theorem copyArray_ok {H : AH} {p q : Value} {sh dt : List Int} (hp : IntRow H p sh) (hq : IntRow H q dt) (l1 : sh.length ≤ 1073741824) (l2 : dt.length ≤ 1073741824) :
    CallsA Try.prog 93 #[.agg #[p, q]] H fun r H' => (∃ p' q', AOwn H H' r sh dt p' q') ∧ ∃ K, H' = H ++ K := by
  refine w93 ?_
  unfold k93
  obtain ⟨a1, c1, rfl, _⟩ := hp.op
  obtain ⟨a2, c2, rfl, _⟩ := hq.op
  simp -implicitDefEqProofs only [rE_seq_n, rE_seq_r, rE_seq_e, rE_blk_n, rE_blk_r, rE_blk_e, rW_skip, rW_ret, rW_exit, rW_ops, rW_seq, rW_block, ↓two_true, ↓two_false, rC_bool, rW_cond, rO_nil, rO_cons, oG_t, oG_f, oG_undef, rO_guard, oV_some, rOV_eq, oP_move, oP_assign, oP_bin, oP_un, oP_index, oP_fieldAddr, oP_field, oP_indexAddr, oP_slice, oP_load, oP_convert, aPick_true, aPick_false, aPick_bool, oP_pick, aExtract_tup, oP_extract, oP_nilCheck, oP_build, oP_len, oP_cap, oP_max, oP_min, oP_makeFunc, oS_some, oP_store, oA_some, oP_append, oM_some, oP_alloc, oP_box, oP_buildSlice, oP_mkS, oP_call, oP_callv, oF_func, aev_tmp, aev_const, aev_func, aput_get, aput_none, bin_add, bin_sub, bin_mul, bin_eql, bin_neq, bin_lss, bin_leq, bin_gtr, bin_geq, un_not, un_neg, tm0_get, fin_ret, fin_end, oR_some, resL_nil, resL_tmp, resL_cell, tup_one, tup_two, tup_nil, cond_true, cond_false, load_eq, Option.bind_some, gt0, gti, mkv, List.length_append, List.length_cons, List.length_nil, List.append_assoc, List.cons_append, List.nil_append, rd0, rdi, wrt0, wrti, rdB_own, rdB_ro, wrB_own, oL_some, aggAt, sto_some, st0, sti, List.set_cons_zero, List.set_cons_succ, splice_nil, splice_cons, cells_agg, cells_int, cells_bool, cells_string, cells_pointer, cells_slice, leaf_int, leaf_bool, leaf_string, leaf_pointer, leaf_slice, List.size_toArray, List.all_cons, List.all_nil, Bool.and_self, Bool.and_true, and_self, true_and, and_true, Nat.zero_add, Nat.add_zero, Nat.reduceLeDiff, Nat.le_refl, List.drop_zero, List.drop_succ_cons, List.take_succ_cons, List.take_zero, Nat.reduceSub, lp_end, lp_ret, lp_exit, oV_ite, oS_ite, oA_ite, slc_some, sls_some, optInt_none, optInt_some, rW_draw, rD_nil, rDV_eq, rDR_eq, rDE_eq, rDS_n, rDS_e, rD_load, rD_conv, rD_pure, rD_e, rD_g, rDG_t, rDG_f, rDG_undef, chkH_nil, chkH_cons, chkP_nil, chkP_cons, aRead_load, aRead_conv, isE_store, isE_call, isE_append, rDS_l, rDS_c, pl_move, pl_assign, pl_pick, pl_alloc, pl_box, pl_build, pl_buildSlice, pl_nilCheck, pl_binOp, pl_unOp, pl_makeFunc, pl_makeSlice, pl_slice, pl_fieldAddr, pl_field, pl_indexAddr, pl_index, pl_extract, pl_len, pl_cap, pl_max, pl_min, List.mem_cons, Prod.mk.injEq, List.not_mem_nil, or_false, or_true, false_or, true_or, and_false, false_and, false_implies, implies_true, true_implies, oM_ite, fillP_nil, fillP_cons, fillQ_some, slq_some, most_max, most_min, Nat.reduceMul, List.getElem?_toArray, List.getElem?_cons_zero, List.getElem?_cons_succ, List.getElem?_nil, Option.getD_some, Option.getD_none, Nat.reduceEqDiff, reduceIte, Nat.reduceAdd, List.map_toArray, List.map_cons, List.map_nil, Bool.false_eq_true, Nat.reduceBEq, Option.map_some, Option.map_none, reduceCtorEq, al45, ap43_43, bd45, fa45_0, fa45_1, ld43, ld45, st45]
  refine oA_own (l := []) OwnRow.nil hp.mono (by simpa using l1) fun a c H1 o1 x1 => ?_
  simp only [List.length_nil, Nat.zero_add, List.nil_append] at o1 x1 ⊢
  have e1 := x1.ext ⟨_, rfl⟩ (by intro b hb; simp [blkOf] at hb)
  have b0 := x1.at (b := H.length) (by rw [gt0]; rfl) (by simp [blkOf])
  have b1 := x1.at (b := H.length + 1) (by rw [gti]; rfl) (by simp [blkOf])
  have n1 : ∀ b, blkOf (.slice a sh.length c) = some b → H.length + 2 ≤ b := fun b hb => by
    rcases x1.new b hb with h | h
    · simp [blkOf] at h
    · simp at h; omega
  have h1 := x1.len
  simp only [List.length_append, List.length_cons, List.length_nil] at h1
  clear x1
  simp -implicitDefEqProofs only [rE_seq_n, rE_seq_r, rE_seq_e, rE_blk_n, rE_blk_r, rE_blk_e, rW_skip, rW_ret, rW_exit, rW_ops, rW_seq, rW_block, ↓two_true, ↓two_false, rC_bool, rW_cond, rO_nil, rO_cons, oG_t, oG_f, oG_undef, rO_guard, oV_some, rOV_eq, oP_move, oP_assign, oP_bin, oP_un, oP_index, oP_fieldAddr, oP_field, oP_indexAddr, oP_slice, oP_load, oP_convert, aPick_true, aPick_false, aPick_bool, oP_pick, aExtract_tup, oP_extract, oP_nilCheck, oP_build, oP_len, oP_cap, oP_max, oP_min, oP_makeFunc, oS_some, oP_store, oA_some, oP_append, oM_some, oP_alloc, oP_box, oP_buildSlice, oP_mkS, oP_call, oP_callv, oF_func, aev_tmp, aev_const, aev_func, aput_get, aput_none, bin_add, bin_sub, bin_mul, bin_eql, bin_neq, bin_lss, bin_leq, bin_gtr, bin_geq, un_not, un_neg, tm0_get, fin_ret, fin_end, oR_some, resL_nil, resL_tmp, resL_cell, tup_one, tup_two, tup_nil, cond_true, cond_false, load_eq, Option.bind_some, gt0, gti, mkv, List.length_append, List.length_cons, List.length_nil, List.append_assoc, List.cons_append, List.nil_append, rd0, rdi, wrt0, wrti, rdB_own, rdB_ro, wrB_own, oL_some, aggAt, sto_some, st0, sti, List.set_cons_zero, List.set_cons_succ, splice_nil, splice_cons, cells_agg, cells_int, cells_bool, cells_string, cells_pointer, cells_slice, leaf_int, leaf_bool, leaf_string, leaf_pointer, leaf_slice, List.size_toArray, List.all_cons, List.all_nil, Bool.and_self, Bool.and_true, and_self, true_and, and_true, Nat.zero_add, Nat.add_zero, Nat.reduceLeDiff, Nat.le_refl, List.drop_zero, List.drop_succ_cons, List.take_succ_cons, List.take_zero, Nat.reduceSub, lp_end, lp_ret, lp_exit, oV_ite, oS_ite, oA_ite, slc_some, sls_some, optInt_none, optInt_some, rW_draw, rD_nil, rDV_eq, rDR_eq, rDE_eq, rDS_n, rDS_e, rD_load, rD_conv, rD_pure, rD_e, rD_g, rDG_t, rDG_f, rDG_undef, chkH_nil, chkH_cons, chkP_nil, chkP_cons, aRead_load, aRead_conv, isE_store, isE_call, isE_append, rDS_l, rDS_c, pl_move, pl_assign, pl_pick, pl_alloc, pl_box, pl_build, pl_buildSlice, pl_nilCheck, pl_binOp, pl_unOp, pl_makeFunc, pl_makeSlice, pl_slice, pl_fieldAddr, pl_field, pl_indexAddr, pl_index, pl_extract, pl_len, pl_cap, pl_max, pl_min, List.mem_cons, Prod.mk.injEq, List.not_mem_nil, or_false, or_true, false_or, true_or, and_false, false_and, false_implies, implies_true, true_implies, oM_ite, fillP_nil, fillP_cons, fillQ_some, slq_some, most_max, most_min, Nat.reduceMul, List.getElem?_toArray, List.getElem?_cons_zero, List.getElem?_cons_succ, List.getElem?_nil, Option.getD_some, Option.getD_none, Nat.reduceEqDiff, reduceIte, Nat.reduceAdd, List.map_toArray, List.map_cons, List.map_nil, Bool.false_eq_true, Nat.reduceBEq, Option.map_some, Option.map_none, reduceCtorEq, al45, ap43_43, bd45, fa45_0, fa45_1, ld43, ld45, st45, rd_own b0]
  refine oA_own (l := []) OwnRow.nil (hq.ext e1) (by simpa using l2) fun a' c' H2 o2 x2 => ?_
  simp only [List.length_nil, Nat.zero_add, List.nil_append] at o2 x2 ⊢
  have hne : ∀ b, blkOf (.slice none 0 0) ≠ some b := fun b e => by simp [blkOf] at e
  have e2 := x2.ext e1 (by intro b hb; simp [blkOf] at hb)
  have o3 := x2.own o1 fun b _ => hne b
  have b2 := x2.at b0 (hne _)
  have b3 := x2.at b1 (hne _)
  have n2 : ∀ b, blkOf (.slice a' dt.length c') = some b → H1.length ≤ b := fun b hb => by
    rcases x2.new b hb with h | h
    · simp [blkOf] at h
    · exact h
  clear x2
  simp -implicitDefEqProofs only [rE_seq_n, rE_seq_r, rE_seq_e, rE_blk_n, rE_blk_r, rE_blk_e, rW_skip, rW_ret, rW_exit, rW_ops, rW_seq, rW_block, ↓two_true, ↓two_false, rC_bool, rW_cond, rO_nil, rO_cons, oG_t, oG_f, oG_undef, rO_guard, oV_some, rOV_eq, oP_move, oP_assign, oP_bin, oP_un, oP_index, oP_fieldAddr, oP_field, oP_indexAddr, oP_slice, oP_load, oP_convert, aPick_true, aPick_false, aPick_bool, oP_pick, aExtract_tup, oP_extract, oP_nilCheck, oP_build, oP_len, oP_cap, oP_max, oP_min, oP_makeFunc, oS_some, oP_store, oA_some, oP_append, oM_some, oP_alloc, oP_box, oP_buildSlice, oP_mkS, oP_call, oP_callv, oF_func, aev_tmp, aev_const, aev_func, aput_get, aput_none, bin_add, bin_sub, bin_mul, bin_eql, bin_neq, bin_lss, bin_leq, bin_gtr, bin_geq, un_not, un_neg, tm0_get, fin_ret, fin_end, oR_some, resL_nil, resL_tmp, resL_cell, tup_one, tup_two, tup_nil, cond_true, cond_false, load_eq, Option.bind_some, gt0, gti, mkv, List.length_append, List.length_cons, List.length_nil, List.append_assoc, List.cons_append, List.nil_append, rd0, rdi, wrt0, wrti, rdB_own, rdB_ro, wrB_own, oL_some, aggAt, sto_some, st0, sti, List.set_cons_zero, List.set_cons_succ, splice_nil, splice_cons, cells_agg, cells_int, cells_bool, cells_string, cells_pointer, cells_slice, leaf_int, leaf_bool, leaf_string, leaf_pointer, leaf_slice, List.size_toArray, List.all_cons, List.all_nil, Bool.and_self, Bool.and_true, and_self, true_and, and_true, Nat.zero_add, Nat.add_zero, Nat.reduceLeDiff, Nat.le_refl, List.drop_zero, List.drop_succ_cons, List.take_succ_cons, List.take_zero, Nat.reduceSub, lp_end, lp_ret, lp_exit, oV_ite, oS_ite, oA_ite, slc_some, sls_some, optInt_none, optInt_some, rW_draw, rD_nil, rDV_eq, rDR_eq, rDE_eq, rDS_n, rDS_e, rD_load, rD_conv, rD_pure, rD_e, rD_g, rDG_t, rDG_f, rDG_undef, chkH_nil, chkH_cons, chkP_nil, chkP_cons, aRead_load, aRead_conv, isE_store, isE_call, isE_append, rDS_l, rDS_c, pl_move, pl_assign, pl_pick, pl_alloc, pl_box, pl_build, pl_buildSlice, pl_nilCheck, pl_binOp, pl_unOp, pl_makeFunc, pl_makeSlice, pl_slice, pl_fieldAddr, pl_field, pl_indexAddr, pl_index, pl_extract, pl_len, pl_cap, pl_max, pl_min, List.mem_cons, Prod.mk.injEq, List.not_mem_nil, or_false, or_true, false_or, true_or, and_false, false_and, false_implies, implies_true, true_implies, oM_ite, fillP_nil, fillP_cons, fillQ_some, slq_some, most_max, most_min, Nat.reduceMul, List.getElem?_toArray, List.getElem?_cons_zero, List.getElem?_cons_succ, List.getElem?_nil, Option.getD_some, Option.getD_none, Nat.reduceEqDiff, reduceIte, Nat.reduceAdd, List.map_toArray, List.map_cons, List.map_nil, Bool.false_eq_true, Nat.reduceBEq, Option.map_some, Option.map_none, reduceCtorEq, al45, ap43_43, bd45, fa45_0, fa45_1, ld43, ld45, st45, rd_own b2, wrt_own b3, rd_own b0, rd_own (set_at b3)]
  refine ⟨⟨_, _, rfl, o3.set fun e => ?_, o2.set fun e => ?_, fun b h3 h4 => ?_, fun b hb => ?_, fun b hb => ?_⟩, set_ext e2 (by omega)⟩
  · have := n1 _ e; omega
  · have := n2 _ e; omega
  · have := o1.lt b h3; have := n2 b h4; omega
  · have := n1 _ hb; omega
  · have := n2 _ hb; omega

/-- A row of cells of its own; its cells may be read. -/
structure FOwn (H : AH) (v : Value) (ks : List CK) (n : Nat) (xs : List Value) : Prop where
  len : xs.length = n * ks.length
  row : (v = .slice none 0 0 ∧ n = 0) ∨ ∃ b o cs, v = .slice (some ⟨b, o, none⟩) n ks.length ∧ H[b]? = some ⟨cs, .own⟩ ∧ o + n * ks.length ≤ cs.length ∧ ∀ (j : Nat) y, xs[j]? = some y → cs[o + j]? = some y
  ok : ∀ (i c : Nat) k y, i < n → ks[c]? = some k → xs[i * ks.length + c]? = some y → KOk H k y
  out : ∀ (j : Nat) y, xs[j]? = some y → Dj v y
theorem OT.fown {H : AH} {v : Value} {ks : List CK} {n : Nat} {xs : List Value} (h : OT H v ks n xs) : FOwn H v ks n xs := ⟨h.len, h.row, h.ok, h.out⟩
theorem FOwn.frow {H : AH} {v : Value} {ks : List CK} {n : Nat} {xs : List Value} (h : FOwn H v ks n xs) : FRow H v ks n xs := by
  refine ⟨h.len, ?_, h.ok⟩
  rcases h.row with h1 | ⟨b, o, cs, h1, h2, h3⟩
  · exact .inl h1
  · exact .inr ⟨b, o, cs, h1, rd_own h2, h3⟩
theorem KOk.lt {H : AH} {k : CK} {y : Value} (h : KOk H k y) : ∀ b, blkOf y = some b → b < H.length := by
  intro b hb
  have := h.rdable b hb
  rcases Nat.lt_or_ge b H.length with h1 | h1
  · exact h1
  · unfold rd at this; rw [List.getElem?_eq_none h1] at this; cases this
theorem FRow.lt {H : AH} {v : Value} {ks : List CK} {n : Nat} {xs : List Value} (h : FRow H v ks n xs) : ∀ b, (blkOf v = some b ∨ ∃ y ∈ xs, blkOf y = some b) → b < H.length := by
  intro b hb
  have := h.rdable b hb
  rcases Nat.lt_or_ge b H.length with h1 | h1
  · exact h1
  · unfold rd at this; rw [List.getElem?_eq_none h1] at this; cases this
theorem FOwn.same {H H' : AH} {v : Value} {ks : List CK} {n : Nat} {xs : List Value} (h : FOwn H v ks n xs) (hs : ∀ b, (blkOf v = some b ∨ ∃ y ∈ xs, blkOf y = some b) → H'[b]? = H[b]?) : FOwn H' v ks n xs := by
  refine ⟨h.len, ?_, (h.frow.same fun b hb => get_rd (hs b hb)).ok, h.out⟩
  rcases h.row with h1 | ⟨b, o, cs, h1, h2, h3⟩
  · exact .inl h1
  · exact .inr ⟨b, o, cs, h1, by rw [hs b (.inl (by rw [h1]; rfl))]; exact h2, h3⟩
theorem FOwn.mono {H L : AH} {v : Value} {ks : List CK} {n : Nat} {xs : List Value} (h : FOwn H v ks n xs) : FOwn (H ++ L) v ks n xs := h.same fun b hb => List.getElem?_append_left (h.frow.lt b hb)
theorem FOwn.nil {H : AH} {ks : List CK} : FOwn H (.slice none 0 0) ks 0 [] := ⟨by simp, .inl ⟨rfl, rfl⟩, fun i c k y hi => by omega, fun j y h => by simp at h⟩
theorem FOwn.at0 {H : AH} {ks : List CK} {b : Nat} {cs : List Value} (h : H[b]? = some ⟨cs, .own⟩) : FOwn H (.slice (some ⟨b, 0, none⟩) 0 ks.length) ks 0 [] := ⟨by simp, .inr ⟨b, 0, cs, rfl, h, by simp, fun j y h => by simp at h⟩, fun i c k y hi => by omega, fun j y h => by simp at h⟩
theorem OT.of {H : AH} {v : Value} {ks : List CK} {n : Nat} {xs : List Value} (h : FOwn H v ks n xs) (h1 : ∀ (j : Nat) y, xs[j]? = some y → OwnC H y) (h2 : ∀ (i j : Nat) x y, i ≠ j → xs[i]? = some x → xs[j]? = some y → Dj x y) : OT H v ks n xs := ⟨h.len, h.row, h.ok, h1, h.out, h2⟩
theorem KOk.leaf {H : AH} {k : CK} {y : Value} (h : KOk H k y) : Go.Proofs.Ytgekbancaeabgaa.AM.leaf y = true := by
  cases k with
  | i => obtain ⟨n, rfl⟩ := h; rfl
  | b => obtain ⟨n, rfl⟩ := h; rfl
  | r => obtain ⟨a, c, e⟩ := h.1.slice; rw [e]; rfl
  | w => obtain ⟨a, c, e⟩ := h.1.slice; rw [e]; rfl
theorem All2.mem {H : AH} {ks : List CK} {x : List Value} (h : All2 H ks x) {y : Value} (hy : y ∈ x) : ∃ k, KOk H k y := by
  obtain ⟨c, hc, e⟩ := List.mem_iff_getElem.1 hy
  have hl := h.len
  exact ⟨ks[c], h.get c ks[c] y (List.getElem?_eq_getElem (by omega)) (by rw [List.getElem?_eq_getElem hc, e])⟩
theorem FOwn.cl {H : AH} {v : Value} {ks : List CK} {n : Nat} {xs : List Value} (h : FOwn H v ks n xs) : cl H ks.length v = some xs ∧ lenS v = n ∧ ownOk v ks.length H = true := by
  have hl := h.len
  rcases h.row with ⟨rfl, rfl⟩ | ⟨b, o, cs, rfl, h1, h2, h3⟩
  · have : xs = [] := List.eq_nil_of_length_eq_zero (by omega)
    subst this
    exact ⟨rfl, rfl, rfl⟩
  · refine ⟨?_, rfl, by simp [ownOk, h1]⟩
    simp only [Go.Proofs.Ytgekbancaeabgaa.AM.cl, rd_own h1, Option.bind_some, if_pos h2]
    congr 1
    refine List.ext_getElem? fun j => ?_
    rcases Nat.lt_or_ge j xs.length with h4 | h4
    · rw [List.getElem?_take_of_lt (by omega), List.getElem?_drop, h3 j _ (List.getElem?_eq_getElem h4), List.getElem?_eq_getElem h4]
    · rw [List.getElem?_eq_none (by simp; omega), List.getElem?_eq_none h4]
theorem oA_push {H : AH} {v : Value} {ks : List CK} {n : Nat} {xs x : List Value} {Φ : Value → AH → Prop} (h : FOwn H v ks n xs) (hx : All2 H ks x) (hd : ∀ y ∈ x, Dj v y) (hl : n + 1 ≤ 1073741824)
    (hk : ∀ b H', FOwn H' (.slice (some ⟨b, 0, none⟩) (n + 1) ks.length) ks (n + 1) (xs ++ x) → App H v H' (.slice (some ⟨b, 0, none⟩) (n + 1) ks.length) → (∀ y ∈ xs ++ x, cv H' y = cv H y) → H.length < b → Φ (.slice (some ⟨b, 0, none⟩) (n + 1) ks.length) H') :
    oA (app ks.length v (.slice (some ⟨H.length, 0, none⟩) 1 ks.length) (H ++ [⟨x, .own⟩])) Φ := by
  obtain ⟨c1, c2, c3⟩ := (h.mono (L := [⟨x, .own⟩])).cl
  have c4 : Go.Proofs.Ytgekbancaeabgaa.AM.cl (H ++ [⟨x, .own⟩]) ks.length (.slice (some ⟨H.length, 0, none⟩) 1 ks.length) = some x := by
    simp only [Go.Proofs.Ytgekbancaeabgaa.AM.cl, rd0, List.getElem?_cons_zero, rdB_own, Option.bind_some, Nat.zero_add, Nat.one_mul]
    rw [if_pos (Nat.le_of_eq hx.len.symm), List.drop_zero, List.take_of_length_le (Nat.le_of_eq hx.len)]
  have c5 : x.all leaf = true := List.all_eq_true.2 fun y hy => by
    obtain ⟨k, hk⟩ := hx.mem hy
    exact hk.leaf
  have c6 : lenS (.slice (some ⟨H.length, 0, none⟩) 1 ks.length) = 1 := rfl
  unfold app
  rw [c1, c4]
  simp only
  rw [c6, c2, if_neg (by decide), if_pos ⟨hl, c5, c3⟩]
  have hlt := h.frow.lt
  have keep : ∀ b, b < H.length → blkOf v ≠ some b → (kill v (H ++ [⟨x, .own⟩]) ++ [⟨xs ++ x, .own⟩] : AH)[b]? = H[b]? := by
    intro b hb hn
    rw [List.getElem?_append_left (by rw [kill_len2, List.length_append]; omega), kill_keep hn, List.getElem?_append_left hb]
  have hcell : ∀ y ∈ xs ++ x, ∀ b, blkOf y = some b → (kill v (H ++ [⟨x, .own⟩]) ++ [⟨xs ++ x, .own⟩] : AH)[b]? = H[b]? := by
    intro y hy b hb
    rcases List.mem_append.1 hy with h1 | h1
    · obtain ⟨j, hj⟩ := List.mem_iff_getElem?.1 h1
      exact keep b (hlt b (.inr ⟨y, h1, hb⟩)) fun e => h.out j y hj b e hb
    · obtain ⟨k, hk⟩ := hx.mem h1
      exact keep b (hk.lt b hb) fun e => hd y h1 b e hb
  refine hk _ _ ⟨?_, ?_, ?_, ?_⟩ ⟨by rw [List.length_append, kill_len2, List.length_append]; omega, keep, fun b hb => .inr ?_⟩ (fun y hy => cv_same fun b hb => get_rd (hcell y hy b hb)) (by rw [List.length_append]; exact Nat.lt_succ_self _)
  · rw [List.length_append, h.len, hx.len, Nat.add_mul, Nat.one_mul]
  · refine .inr ⟨_, 0, xs ++ x, rfl, by rw [← kill_len2 (v := v), gt0]; rfl, by rw [List.length_append, h.len, hx.len, Nat.add_mul]; omega, fun j y hy => by rw [Nat.zero_add]; exact hy⟩
  · intro i c k y hi hk' hy
    have hmem : y ∈ xs ++ x := List.mem_of_getElem? hy
    refine KOk.same (H := H) ?_ fun b hb => get_rd (hcell y hmem b hb)
    have hc := (List.getElem?_eq_some_iff.1 hk').1
    rcases Nat.lt_or_ge i n with h1 | h1
    · have := row_lt (s := ks.length) h1
      rw [List.getElem?_append_left (by rw [h.len]; omega)] at hy
      exact h.ok i c k y h1 hk' hy
    · have : i = n := by omega
      subst this
      rw [List.getElem?_append_right (by rw [h.len]; omega), h.len, Nat.add_sub_cancel_left] at hy
      exact hx.get c k y hk' hy
  · intro j y hy b hb hb2
    simp [blkOf] at hb
    have hmem : y ∈ xs ++ x := List.mem_of_getElem? hy
    have : b < H.length := by
      rcases List.mem_append.1 hmem with h1 | h1
      · exact hlt b (.inr ⟨y, h1, hb2⟩)
      · obtain ⟨k, hk⟩ := hx.mem h1
        exact hk.lt b hb2
    omega
  · simp [blkOf] at hb; omega
theorem cvs_take {H : AH} {s i : Nat} {xs : List Value} : (cvs H xs).take ((i + 1) * s) = (cvs H xs).take (i * s) ++ (elm s xs i).map (cv H) := by
  unfold cvs elm
  rw [Nat.add_mul, Nat.one_mul, List.take_add, List.map_take, List.map_drop]
/-- All of a row is its own, and no older than a heap. -/
structure New (H0 H : AH) (v : Value) (ks : List CK) (n : Nat) (ys : List Value) : Prop where
  ot : OT H v ks n ys
  fr : ∀ b, (blkOf v = some b ∨ ∃ y ∈ ys, blkOf y = some b) → H0.length ≤ b
theorem New.mono {H0 H L : AH} {v : Value} {ks : List CK} {n : Nat} {ys : List Value} (h : New H0 H v ks n ys) : New H0 (H ++ L) v ks n ys := ⟨h.ot.mono, h.fr⟩
theorem New.nil {H0 H : AH} {ks : List CK} : New H0 H (.slice none 0 0) ks 0 [] := ⟨OT.of FOwn.nil (fun j y h => by simp at h) fun i j x y _ h => by simp at h, fun b hb => by simp [blkOf] at hb⟩
theorem New.at0 {H0 H : AH} {ks : List CK} {b : Nat} {cs : List Value} (h : H[b]? = some ⟨cs, .own⟩) (hb : H0.length ≤ b) : New H0 H (.slice (some ⟨b, 0, none⟩) 0 ks.length) ks 0 [] :=
  ⟨OT.of (FOwn.at0 h) (fun j y h => by simp at h) fun i j x y _ h => by simp at h, fun g hg => by simp [blkOf] at hg; omega⟩
/-- A new element is put behind a row that is its own. -/
theorem oA_new {H0 H1 H : AH} {v : Value} {ks : List CK} {n : Nat} {xs x : List Value} {Φ : Value → AH → Prop} (h : New H0 H1 v ks n xs) (he : ∃ K, H = H1 ++ K) (hx : All2 H ks x) (ho : ∀ y ∈ x, OwnC H y) (hf : ∀ y ∈ x, ∀ b, blkOf y = some b → H1.length ≤ b)
    (hdj : ∀ (i j : Nat) y z, i ≠ j → x[i]? = some y → x[j]? = some z → Dj y z) (h0 : H0.length ≤ H1.length) (hl : n + 1 ≤ 1073741824)
    (hk : ∀ b H', New H0 H' (.slice (some ⟨b, 0, none⟩) (n + 1) ks.length) ks (n + 1) (xs ++ x) → App H v H' (.slice (some ⟨b, 0, none⟩) (n + 1) ks.length) → cvs H' (xs ++ x) = cvs H1 xs ++ x.map (cv H) → Φ (.slice (some ⟨b, 0, none⟩) (n + 1) ks.length) H') :
    oA (app ks.length v (.slice (some ⟨H.length, 0, none⟩) 1 ks.length) (H ++ [⟨x, .own⟩])) Φ := by
  obtain ⟨K, rfl⟩ := he
  have hd : ∀ y ∈ x, Dj v y := fun y hy b hb hb2 => by
    have := h.ot.lt b (.inl hb); have := hf y hy b hb2; omega
  have hxx : ∀ y ∈ x, ∀ z ∈ xs, Dj y z := fun y hy z hz b hb hb2 => by
    have := h.ot.lt b (.inr ⟨z, hz, hb2⟩); have := hf y hy b hb; omega
  refine oA_push h.ot.mono.fown hx hd hl fun b H' f a c hb => hk b H' ⟨OT.of f ?_ ?_, ?_⟩ a ?_
  · intro j y hy
    have hmem := List.mem_of_getElem? hy
    have hold : OwnC (H1 ++ K) y := by
      rcases List.mem_append.1 hmem with h1 | h1
      · obtain ⟨i, hi⟩ := List.mem_iff_getElem?.1 h1
        exact h.ot.mono.own i y hi
      · exact ho y h1
    refine hold.same fun g hg => a.keep g (hold.lt g hg) fun e => ?_
    rcases List.mem_append.1 hmem with h1 | h1
    · obtain ⟨i, hi⟩ := List.mem_iff_getElem?.1 h1
      exact h.ot.out i y hi g e hg
    · exact hd y h1 g e hg
  · intro i j y z hij hy hz
    rw [List.getElem?_append] at hy hz
    split at hy <;> split at hz
    · exact h.ot.dif i j y z hij hy hz
    · exact (hxx z (List.mem_of_getElem? hz) y (List.mem_of_getElem? hy)).symm
    · exact hxx y (List.mem_of_getElem? hy) z (List.mem_of_getElem? hz)
    · exact hdj _ _ y z (by omega) hy hz
  · rintro g (hg | ⟨y, hy, hg⟩)
    · simp [blkOf] at hg; rw [List.length_append] at hb; omega
    · rcases List.mem_append.1 hy with h1 | h1
      · exact h.fr g (.inr ⟨y, h1, hg⟩)
      · have := hf y h1 g hg; omega
  · have e1 : cvs (H1 ++ K) xs = cvs H1 xs := h.ot.frow.vals
    rw [← e1]
    unfold cvs
    rw [List.map_append, List.map_congr_left fun y hy => c y (List.mem_append.2 (.inl hy)), List.map_congr_left fun y hy => c y (List.mem_append.2 (.inr hy))]
theorem FRow.opn {H : AH} {v : Value} {ks : List CK} {n : Nat} {xs : List Value} (s : Nat) (hs : ks.length = s) (h : FRow H v ks n xs) : ∃ a c, v = .slice a n c ∧ (0 < n → ∃ b o cs, a = some ⟨b, o, none⟩ ∧ c = s ∧ rd H b = some cs ∧ o + n * s ≤ cs.length ∧
    ∀ i, i < n → aggAt s (o + i * s) cs = some (.agg (elm s xs i).toArray) ∧ ∀ (c : Nat) y, (elm s xs i)[c]? = some y → cs[o + i * s + c]? = some y) := by
  subst hs; exact h.op
theorem FRow.elemn {H : AH} {v : Value} {ks : List CK} {n : Nat} {xs : List Value} (s : Nat) (hs : ks.length = s) (h : FRow H v ks n xs) {i : Nat} (hi : i < n) : All2 H ks (elm s xs i) := by
  subst hs; exact h.elem hi
theorem New.at0n {H0 H : AH} {ks : List CK} {s : Nat} (hs : ks.length = s) {b : Nat} {cs : List Value} (h : H[b]? = some ⟨cs, .own⟩) (hb : H0.length ≤ b) : New H0 H (.slice (some ⟨b, 0, none⟩) 0 s) ks 0 [] := by
  subst hs; exact New.at0 h hb
theorem oA_newn {H0 H1 H : AH} {v : Value} {ks : List CK} {n : Nat} {xs x : List Value} {Φ : Value → AH → Prop} (s : Nat) (hs : ks.length = s) (h : New H0 H1 v ks n xs) (he : ∃ K, H = H1 ++ K) (hx : All2 H ks x) (ho : ∀ y ∈ x, OwnC H y) (hf : ∀ y ∈ x, ∀ b, blkOf y = some b → H1.length ≤ b)
    (hdj : ∀ (i j : Nat) y z, i ≠ j → x[i]? = some y → x[j]? = some z → Dj y z) (h0 : H0.length ≤ H1.length) (hl : n + 1 ≤ 1073741824)
    (hk : ∀ b H', New H0 H' (.slice (some ⟨b, 0, none⟩) (n + 1) s) ks (n + 1) (xs ++ x) → App H v H' (.slice (some ⟨b, 0, none⟩) (n + 1) s) → cvs H' (xs ++ x) = cvs H1 xs ++ x.map (cv H) → Φ (.slice (some ⟨b, 0, none⟩) (n + 1) s) H') :
    oA (app s v (.slice (some ⟨H.length, 0, none⟩) 1 s) (H ++ [⟨x, .own⟩])) Φ := by
  subst hs
  exact oA_new h he hx ho hf hdj h0 hl hk
theorem New.blk {H0 H : AH} {v : Value} {ks : List CK} {n : Nat} {ys : List Value} (h : New H0 H v ks n ys) : ∀ b, blkOf v = some b → H0.length ≤ b := fun b hb => h.fr b (.inl hb)
theorem pw_get {x : List Value} (h : x.Pairwise Dj) : ∀ (i j : Nat) y z, i ≠ j → x[i]? = some y → x[j]? = some z → Dj y z := by
  intro i j y z hij hy hz
  obtain ⟨h1, e1⟩ := List.getElem?_eq_some_iff.1 hy
  obtain ⟨h2, e2⟩ := List.getElem?_eq_some_iff.1 hz
  rw [List.pairwise_iff_getElem] at h
  rcases Nat.lt_or_gt_of_ne hij with h3 | h3
  · have := h i j h1 h2 h3
    rwa [e1, e2] at this
  · have := h j i h2 h1 h3
    rw [e1, e2] at this
    exact this.symm
theorem dj_bool {s : Bool} {v : Value} : Dj (.bool s) v := fun b h => by simp [blkOf] at h
theorem cvs_drop {H : AH} {s i n : Nat} {xs : List Value} (hi : i < n) (hl : xs.length = n * s) : (cvs H xs).drop (i * s) = (elm s xs i).map (cv H) ++ (cvs H xs).drop ((i + 1) * s) := by
  unfold cvs elm
  rw [Nat.add_mul, Nat.one_mul, ← List.map_drop, ← List.map_drop, ← List.map_append, ← List.drop_drop]
  congr 1
  exact (List.take_append_drop _ _).symm
theorem MC.at {H H' : AH} {v : Value} {ks : List CK} {n p : Nat} {xs ys : List Value} {k q : Int} (s : Nat) (hs : ks.length = s) (h : MC H v ks n xs k p q ys H') {b o : Nat} {c : Nat} (hv : v = .slice (some ⟨b, o, none⟩) n c) (hn : 0 < n) :
    c = s ∧ ∃ cs, H'[b]? = some ⟨cs, .own⟩ ∧ o + n * s ≤ cs.length ∧ ∀ (j : Nat) y, ys[j]? = some y → cs[o + j]? = some y := by
  subst hs
  rcases h.ot.row with ⟨_, h1⟩ | ⟨b', o', cs, h1, h2⟩
  · omega
  · rw [hv] at h1
    simp only [Value.slice.injEq, Option.some.injEq, Addr.mk.injEq] at h1
    obtain ⟨⟨rfl, rfl, _⟩, _, rfl⟩ := h1
    exact ⟨rfl, cs, h2⟩
theorem OT.slc {H : AH} {v : Value} {ks : List CK} {n : Nat} {xs : List Value} (h : OT H v ks n xs) {a : Option Addr} {c : Nat} (hv : v = .slice a n c) (hn : 0 < n) : ∃ b o, a = some ⟨b, o, none⟩ := by
  rcases h.row with ⟨_, h1⟩ | ⟨b', o', cs, h1, h2⟩
  · omega
  · rw [hv] at h1
    simp only [Value.slice.injEq] at h1
    exact ⟨b', o', h1.1⟩
theorem MC.kind {H H' : AH} {v : Value} {ks : List CK} {n p : Nat} {xs ys : List Value} {k q : Int} (s : Nat) (hs : ks.length = s) (h : MC H v ks n xs k p q ys H') {i c : Nat} {kd : CK} (hi : i < n) (hk : ks[c]? = some kd) :
    ∃ y, ys[i * s + c]? = some y ∧ KOk H' kd y ∧ OwnC H' y := by
  subst hs
  have hl := h.ot.len
  have hr := row_lt (s := ks.length) hi
  have hc := (List.getElem?_eq_some_iff.1 hk).1
  have e : ys[i * ks.length + c]? = some ys[i * ks.length + c] := List.getElem?_eq_getElem (by omega)
  exact ⟨_, e, h.ot.ok i c kd _ hi hk e, h.ot.own _ _ e⟩
theorem cntF_take {l : List CV} {p : Nat} : cntF (l.take p) ≤ cntF l := by
  have : cntF l = cntF (l.take p) + cntF (l.drop p) := by rw [← cntF_append, List.take_append_drop]
  omega
theorem MC.lim {H H' : AH} {v : Value} {ks : List CK} {n p : Nat} {xs ys : List Value} {k q : Int} (h : MC H v ks n xs k p q ys H') {y : Value} (hy : ys[p]? = some y) : k ≤ q ∧ q + cnt1 (cv H' y) ≤ k + cntF (cvs H xs) := by
  have h1 := h.cnt
  have h2 := (h.take hy).1
  have h3 := cntF_take (l := cvs H xs) (p := p + 1)
  rw [h2, cntF_append] at h3
  have : cntF [cv H' y] = cnt1 (cv H' y) := by simp [cntF]
  omega
theorem OwnC.row {H : AH} {y : Value} (h : OwnC H y) (hk : OkI H y) : OwnRow H y (rowI H y) := by
  rcases h with ⟨n, rfl⟩ | ⟨x, rfl⟩ | h
  · obtain ⟨a, c, e⟩ := hk.slice; cases e
  · obtain ⟨a, c, e⟩ := hk.slice; cases e
  · exact h

abbrev kVar : List CK := [.b, .r, .r]
/-- Two cells of an array. -/
theorem agg2 {cs : List Value} {o : Nat} {p q : Value} (h1 : cs[o]? = some p) (h2 : cs[o + 1]? = some q) : aggAt 2 o cs = some (.agg #[p, q]) := by
  have hl := (List.getElem?_eq_some_iff.1 h2).1
  refine aggAt_row (x := [p, q]) rfl (by omega) fun j y hj => ?_
  match j, hj with
  | 0, hj => simp at hj; subst hj; exact h1
  | 1, hj => simp at hj; subst hj; exact h2
  | j + 2, hj => simp at hj
theorem OwnRow.kok {H : AH} {p : Value} {l : List Int} (h : OwnRow H p l) (hl : l.length < 1073741825) : KOk H .r p ∧ OwnC H p ∧ cv H p = .r l := by
  refine ⟨⟨h.int.ok, by rw [h.rowI]; exact hl⟩, .inr (.inr (by rw [h.rowI]; exact h)), ?_⟩
  rw [cv_row h.int.ok, h.rowI]

theorem l10Copy_ok {H : AH} {v : Value} {n : Nat} {xs : List Value} (hv : FRow H v kVar n xs) (hl : n ≤ 1073741824) :
    CallsA Try.prog 73 #[v] H fun r H' => (∃ ys, New H H' r kVar n ys ∧ cvs H' ys = cvs H xs) ∧ ∃ K, H' = H ++ K := by
  obtain ⟨a, c, rfl, gv⟩ := hv.opn 3 rfl
  refine w73 ?_
  unfold k73
  simp -implicitDefEqProofs only [rE_seq_n, rE_seq_r, rE_seq_e, rE_blk_n, rE_blk_r, rE_blk_e, rW_skip, rW_ret, rW_exit, rW_ops, rW_seq, rW_block, ↓two_true, ↓two_false, rC_bool, rW_cond, rO_nil, rO_cons, oG_t, oG_f, oG_undef, rO_guard, oV_some, rOV_eq, oP_move, oP_assign, oP_bin, oP_un, oP_index, oP_fieldAddr, oP_field, oP_indexAddr, oP_slice, oP_load, oP_convert, aPick_true, aPick_false, aPick_bool, oP_pick, aExtract_tup, oP_extract, oP_nilCheck, oP_build, oP_len, oP_cap, oP_max, oP_min, oP_makeFunc, oS_some, oP_store, oA_some, oP_append, oM_some, oP_alloc, oP_box, oP_buildSlice, oP_mkS, oP_call, oP_callv, oF_func, aev_tmp, aev_const, aev_func, aput_get, aput_none, bin_add, bin_sub, bin_mul, bin_eql, bin_neq, bin_lss, bin_leq, bin_gtr, bin_geq, un_not, un_neg, tm0_get, fin_ret, fin_end, oR_some, resL_nil, resL_tmp, resL_cell, tup_one, tup_two, tup_nil, cond_true, cond_false, load_eq, Option.bind_some, gt0, gti, mkv, List.length_append, List.length_cons, List.length_nil, List.append_assoc, List.cons_append, List.nil_append, rd0, rdi, wrt0, wrti, rdB_own, rdB_ro, wrB_own, oL_some, aggAt, sto_some, st0, sti, List.set_cons_zero, List.set_cons_succ, splice_nil, splice_cons, cells_agg, cells_int, cells_bool, cells_string, cells_pointer, cells_slice, leaf_int, leaf_bool, leaf_string, leaf_pointer, leaf_slice, List.size_toArray, List.all_cons, List.all_nil, Bool.and_self, Bool.and_true, and_self, true_and, and_true, Nat.zero_add, Nat.add_zero, Nat.reduceLeDiff, Nat.le_refl, List.drop_zero, List.drop_succ_cons, List.take_succ_cons, List.take_zero, Nat.reduceSub, lp_end, lp_ret, lp_exit, oV_ite, oS_ite, oA_ite, slc_some, sls_some, optInt_none, optInt_some, rW_draw, rD_nil, rDV_eq, rDR_eq, rDE_eq, rDS_n, rDS_e, rD_load, rD_conv, rD_pure, rD_e, rD_g, rDG_t, rDG_f, rDG_undef, chkH_nil, chkH_cons, chkP_nil, chkP_cons, aRead_load, aRead_conv, isE_store, isE_call, isE_append, rDS_l, rDS_c, pl_move, pl_assign, pl_pick, pl_alloc, pl_box, pl_build, pl_buildSlice, pl_nilCheck, pl_binOp, pl_unOp, pl_makeFunc, pl_makeSlice, pl_slice, pl_fieldAddr, pl_field, pl_indexAddr, pl_index, pl_extract, pl_len, pl_cap, pl_max, pl_min, List.mem_cons, Prod.mk.injEq, List.not_mem_nil, or_false, or_true, false_or, true_or, and_false, false_and, false_implies, implies_true, true_implies, oM_ite, fillP_nil, fillP_cons, fillQ_some, slq_some, most_max, most_min, Nat.reduceMul, List.getElem?_toArray, List.getElem?_cons_zero, List.getElem?_cons_succ, List.getElem?_nil, Option.getD_some, Option.getD_none, Nat.reduceEqDiff, reduceIte, Nat.reduceAdd, List.map_toArray, List.map_cons, List.map_nil, Bool.false_eq_true, Nat.reduceBEq, Option.map_some, Option.map_none, reduceCtorEq, ap25_25, bd89, bs25_0, bs25_1, fa89_0, fa89_1, ix25, ld4, ld45, ln25]
  refine rW_loop (σ := Nat × Option Addr × Nat × List Value) (fun (i, a', c', ys) tm H' => tm 0 = .slice a n c ∧ tm 3 = .slice a' i c' ∧ tm 4 = .int .i64 i ∧ i ≤ n ∧ New H H' (.slice a' i c') kVar i ys ∧ cvs H' ys = (cvs H xs).take (i * 3) ∧ ∃ K, H' = H ++ K) (fun s => n - s.1) (0, some ⟨H.length, 0, none⟩, 3, []) ?_ ?_
  · simp -implicitDefEqProofs [rE_seq_n, rE_seq_r, rE_seq_e, rE_blk_n, rE_blk_r, rE_blk_e, rW_skip, rW_ret, rW_exit, rW_ops, rW_seq, rW_block, ↓two_true, ↓two_false, rC_bool, rW_cond, rO_nil, rO_cons, oG_t, oG_f, oG_undef, rO_guard, oV_some, rOV_eq, oP_move, oP_assign, oP_bin, oP_un, oP_index, oP_fieldAddr, oP_field, oP_indexAddr, oP_slice, oP_load, oP_convert, aPick_true, aPick_false, aPick_bool, oP_pick, aExtract_tup, oP_extract, oP_nilCheck, oP_build, oP_len, oP_cap, oP_max, oP_min, oP_makeFunc, oS_some, oP_store, oA_some, oP_append, oM_some, oP_alloc, oP_box, oP_buildSlice, oP_mkS, oP_call, oP_callv, oF_func, aev_tmp, aev_const, aev_func, aput_get, aput_none, bin_add, bin_sub, bin_mul, bin_eql, bin_neq, bin_lss, bin_leq, bin_gtr, bin_geq, un_not, un_neg, tm0_get, fin_ret, fin_end, oR_some, resL_nil, resL_tmp, resL_cell, tup_one, tup_two, tup_nil, cond_true, cond_false, load_eq, Option.bind_some, gt0, gti, mkv, List.length_append, List.length_cons, List.length_nil, List.append_assoc, List.cons_append, List.nil_append, rd0, rdi, wrt0, wrti, rdB_own, rdB_ro, wrB_own, oL_some, aggAt, sto_some, st0, sti, List.set_cons_zero, List.set_cons_succ, splice_nil, splice_cons, cells_agg, cells_int, cells_bool, cells_string, cells_pointer, cells_slice, leaf_int, leaf_bool, leaf_string, leaf_pointer, leaf_slice, List.size_toArray, List.all_cons, List.all_nil, Bool.and_self, Bool.and_true, and_self, true_and, and_true, Nat.zero_add, Nat.add_zero, Nat.reduceLeDiff, Nat.le_refl, List.drop_zero, List.drop_succ_cons, List.take_succ_cons, List.take_zero, Nat.reduceSub, lp_end, lp_ret, lp_exit, oV_ite, oS_ite, oA_ite, slc_some, sls_some, optInt_none, optInt_some, rW_draw, rD_nil, rDV_eq, rDR_eq, rDE_eq, rDS_n, rDS_e, rD_load, rD_conv, rD_pure, rD_e, rD_g, rDG_t, rDG_f, rDG_undef, chkH_nil, chkH_cons, chkP_nil, chkP_cons, aRead_load, aRead_conv, isE_store, isE_call, isE_append, rDS_l, rDS_c, pl_move, pl_assign, pl_pick, pl_alloc, pl_box, pl_build, pl_buildSlice, pl_nilCheck, pl_binOp, pl_unOp, pl_makeFunc, pl_makeSlice, pl_slice, pl_fieldAddr, pl_field, pl_indexAddr, pl_index, pl_extract, pl_len, pl_cap, pl_max, pl_min, List.mem_cons, Prod.mk.injEq, List.not_mem_nil, or_false, or_true, false_or, true_or, and_false, false_and, false_implies, implies_true, true_implies, oM_ite, fillP_nil, fillP_cons, fillQ_some, slq_some, most_max, most_min, Nat.reduceMul, List.getElem?_toArray, List.getElem?_cons_zero, List.getElem?_cons_succ, List.getElem?_nil, Option.getD_some, Option.getD_none, Nat.reduceEqDiff, reduceIte, Nat.reduceAdd, List.map_toArray, List.map_cons, List.map_nil, Bool.false_eq_true, Nat.reduceBEq, Option.map_some, Option.map_none, reduceCtorEq, ap25_25, bd89, bs25_0, bs25_1, fa89_0, fa89_1, ix25, ld4, ld45, ln25]
    exact ⟨New.at0n (ks := kVar) rfl (by rw [gt0]; rfl) (Nat.le_refl _), rfl⟩
  · rintro ⟨i, a', c', ys⟩ tm H1 ⟨h0, h3, h4, hi, hn, hc, he⟩
    simp -implicitDefEqProofs only [rE_seq_n, rE_seq_r, rE_seq_e, rE_blk_n, rE_blk_r, rE_blk_e, rW_skip, rW_ret, rW_exit, rW_ops, rW_seq, rW_block, ↓two_true, ↓two_false, rC_bool, rW_cond, rO_nil, rO_cons, oG_t, oG_f, oG_undef, rO_guard, oV_some, rOV_eq, oP_move, oP_assign, oP_bin, oP_un, oP_index, oP_fieldAddr, oP_field, oP_indexAddr, oP_slice, oP_load, oP_convert, aPick_true, aPick_false, aPick_bool, oP_pick, aExtract_tup, oP_extract, oP_nilCheck, oP_build, oP_len, oP_cap, oP_max, oP_min, oP_makeFunc, oS_some, oP_store, oA_some, oP_append, oM_some, oP_alloc, oP_box, oP_buildSlice, oP_mkS, oP_call, oP_callv, oF_func, aev_tmp, aev_const, aev_func, aput_get, aput_none, bin_add, bin_sub, bin_mul, bin_eql, bin_neq, bin_lss, bin_leq, bin_gtr, bin_geq, un_not, un_neg, tm0_get, fin_ret, fin_end, oR_some, resL_nil, resL_tmp, resL_cell, tup_one, tup_two, tup_nil, cond_true, cond_false, load_eq, Option.bind_some, gt0, gti, mkv, List.length_append, List.length_cons, List.length_nil, List.append_assoc, List.cons_append, List.nil_append, rd0, rdi, wrt0, wrti, rdB_own, rdB_ro, wrB_own, oL_some, aggAt, sto_some, st0, sti, List.set_cons_zero, List.set_cons_succ, splice_nil, splice_cons, cells_agg, cells_int, cells_bool, cells_string, cells_pointer, cells_slice, leaf_int, leaf_bool, leaf_string, leaf_pointer, leaf_slice, List.size_toArray, List.all_cons, List.all_nil, Bool.and_self, Bool.and_true, and_self, true_and, and_true, Nat.zero_add, Nat.add_zero, Nat.reduceLeDiff, Nat.le_refl, List.drop_zero, List.drop_succ_cons, List.take_succ_cons, List.take_zero, Nat.reduceSub, lp_end, lp_ret, lp_exit, oV_ite, oS_ite, oA_ite, slc_some, sls_some, optInt_none, optInt_some, rW_draw, rD_nil, rDV_eq, rDR_eq, rDE_eq, rDS_n, rDS_e, rD_load, rD_conv, rD_pure, rD_e, rD_g, rDG_t, rDG_f, rDG_undef, chkH_nil, chkH_cons, chkP_nil, chkP_cons, aRead_load, aRead_conv, isE_store, isE_call, isE_append, rDS_l, rDS_c, pl_move, pl_assign, pl_pick, pl_alloc, pl_box, pl_build, pl_buildSlice, pl_nilCheck, pl_binOp, pl_unOp, pl_makeFunc, pl_makeSlice, pl_slice, pl_fieldAddr, pl_field, pl_indexAddr, pl_index, pl_extract, pl_len, pl_cap, pl_max, pl_min, List.mem_cons, Prod.mk.injEq, List.not_mem_nil, or_false, or_true, false_or, true_or, and_false, false_and, false_implies, implies_true, true_implies, oM_ite, fillP_nil, fillP_cons, fillQ_some, slq_some, most_max, most_min, Nat.reduceMul, List.getElem?_toArray, List.getElem?_cons_zero, List.getElem?_cons_succ, List.getElem?_nil, Option.getD_some, Option.getD_none, Nat.reduceEqDiff, reduceIte, Nat.reduceAdd, List.map_toArray, List.map_cons, List.map_nil, Bool.false_eq_true, Nat.reduceBEq, Option.map_some, Option.map_none, reduceCtorEq, ap25_25, bd89, bs25_0, bs25_1, fa89_0, fa89_1, ix25, ld4, ld45, ln25, h0, h3, h4]
    refine two_intro (fun hc' => ?_) (fun hc' => ?_)
    · have hlt : i < n := by simpa using hc'
      obtain ⟨b, o, cs, rfl, rfl, hrd, hle, hcell⟩ := gv (by omega)
      obtain ⟨hagg, hce⟩ := hcell i hlt
      obtain ⟨y0, _, e, ⟨s, rfl⟩, y1, _, rfl, k1, y2, _, rfl, k2, rfl⟩ := hv.elemn 3 rfl hlt
      rw [e] at hce
      have f0 : cs[o + i * 3]? = some (.bool s) := hce 0 _ rfl
      have f1 : cs[o + i * 3 + 1]? = some y1 := hce 1 _ rfl
      have f2 : cs[o + i * 3 + 1 + 1]? = some y2 := hce 2 _ rfl
      have hlen := ext_len he
      obtain ⟨K1, rfl⟩ := he
      have hrd1 : rd (H ++ K1) b = some cs := by rw [rdl (by simp [hrd]), hrd]
      have l1 : ld Try.prog 45 (o + i * 3 + 1) cs = some (.agg #[y1, y2]) := by rw [ld45]; exact agg2 f1 f2
      simp -implicitDefEqProofs only [rE_seq_n, rE_seq_r, rE_seq_e, rE_blk_n, rE_blk_r, rE_blk_e, rW_skip, rW_ret, rW_exit, rW_ops, rW_seq, rW_block, ↓two_true, ↓two_false, rC_bool, rW_cond, rO_nil, rO_cons, oG_t, oG_f, oG_undef, rO_guard, oV_some, rOV_eq, oP_move, oP_assign, oP_bin, oP_un, oP_index, oP_fieldAddr, oP_field, oP_indexAddr, oP_slice, oP_load, oP_convert, aPick_true, aPick_false, aPick_bool, oP_pick, aExtract_tup, oP_extract, oP_nilCheck, oP_build, oP_len, oP_cap, oP_max, oP_min, oP_makeFunc, oS_some, oP_store, oA_some, oP_append, oM_some, oP_alloc, oP_box, oP_buildSlice, oP_mkS, oP_call, oP_callv, oF_func, aev_tmp, aev_const, aev_func, aput_get, aput_none, bin_add, bin_sub, bin_mul, bin_eql, bin_neq, bin_lss, bin_leq, bin_gtr, bin_geq, un_not, un_neg, tm0_get, fin_ret, fin_end, oR_some, resL_nil, resL_tmp, resL_cell, tup_one, tup_two, tup_nil, cond_true, cond_false, load_eq, Option.bind_some, gt0, gti, mkv, List.length_append, List.length_cons, List.length_nil, List.append_assoc, List.cons_append, List.nil_append, rd0, rdi, wrt0, wrti, rdB_own, rdB_ro, wrB_own, oL_some, aggAt, sto_some, st0, sti, List.set_cons_zero, List.set_cons_succ, splice_nil, splice_cons, cells_agg, cells_int, cells_bool, cells_string, cells_pointer, cells_slice, leaf_int, leaf_bool, leaf_string, leaf_pointer, leaf_slice, List.size_toArray, List.all_cons, List.all_nil, Bool.and_self, Bool.and_true, and_self, true_and, and_true, Nat.zero_add, Nat.add_zero, Nat.reduceLeDiff, Nat.le_refl, List.drop_zero, List.drop_succ_cons, List.take_succ_cons, List.take_zero, Nat.reduceSub, lp_end, lp_ret, lp_exit, oV_ite, oS_ite, oA_ite, slc_some, sls_some, optInt_none, optInt_some, rW_draw, rD_nil, rDV_eq, rDR_eq, rDE_eq, rDS_n, rDS_e, rD_load, rD_conv, rD_pure, rD_e, rD_g, rDG_t, rDG_f, rDG_undef, chkH_nil, chkH_cons, chkP_nil, chkP_cons, aRead_load, aRead_conv, isE_store, isE_call, isE_append, rDS_l, rDS_c, pl_move, pl_assign, pl_pick, pl_alloc, pl_box, pl_build, pl_buildSlice, pl_nilCheck, pl_binOp, pl_unOp, pl_makeFunc, pl_makeSlice, pl_slice, pl_fieldAddr, pl_field, pl_indexAddr, pl_index, pl_extract, pl_len, pl_cap, pl_max, pl_min, List.mem_cons, Prod.mk.injEq, List.not_mem_nil, or_false, or_true, false_or, true_or, and_false, false_and, false_implies, implies_true, true_implies, oM_ite, fillP_nil, fillP_cons, fillQ_some, slq_some, most_max, most_min, Nat.reduceMul, List.getElem?_toArray, List.getElem?_cons_zero, List.getElem?_cons_succ, List.getElem?_nil, Option.getD_some, Option.getD_none, Nat.reduceEqDiff, reduceIte, Nat.reduceAdd, List.map_toArray, List.map_cons, List.map_nil, Bool.false_eq_true, Nat.reduceBEq, Option.map_some, Option.map_none, reduceCtorEq, ap25_25, bd89, bs25_0, bs25_1, fa89_0, fa89_1, ix25, ld4, ld45, ln25, h0, h3, h4, Int.toNat_natCast, hrd1, f0, l1]
      refine ⟨⟨by omega, by omega⟩, ⟨by omega, by omega⟩, (l3Copy_ok (IntRow.mono k1.1) (IntRow.mono k2.1) (by have := k1.2; omega) (by have := k2.2; omega)).mono ?_⟩
      rintro _ H2 ⟨⟨p', q', rfl, o1, o2, dj, n1, n2⟩, hK2⟩
      obtain ⟨a1, c1, e1⟩ := o1.isSlice
      obtain ⟨a2, c2, e2⟩ := o2.isSlice
      have hrd2 : rd H2 b = some cs := by obtain ⟨K, rfl⟩ := hK2; rw [rdl (by simp [hrd1]), hrd1]
      have r1 := o1.kok (by have := k1.2; omega)
      have r2 := o2.kok (by have := k2.2; omega)
      subst e1; subst e2
      simp -implicitDefEqProofs only [rE_seq_n, rE_seq_r, rE_seq_e, rE_blk_n, rE_blk_r, rE_blk_e, rW_skip, rW_ret, rW_exit, rW_ops, rW_seq, rW_block, ↓two_true, ↓two_false, rC_bool, rW_cond, rO_nil, rO_cons, oG_t, oG_f, oG_undef, rO_guard, oV_some, rOV_eq, oP_move, oP_assign, oP_bin, oP_un, oP_index, oP_fieldAddr, oP_field, oP_indexAddr, oP_slice, oP_load, oP_convert, aPick_true, aPick_false, aPick_bool, oP_pick, aExtract_tup, oP_extract, oP_nilCheck, oP_build, oP_len, oP_cap, oP_max, oP_min, oP_makeFunc, oS_some, oP_store, oA_some, oP_append, oM_some, oP_alloc, oP_box, oP_buildSlice, oP_mkS, oP_call, oP_callv, oF_func, aev_tmp, aev_const, aev_func, aput_get, aput_none, bin_add, bin_sub, bin_mul, bin_eql, bin_neq, bin_lss, bin_leq, bin_gtr, bin_geq, un_not, un_neg, tm0_get, fin_ret, fin_end, oR_some, resL_nil, resL_tmp, resL_cell, tup_one, tup_two, tup_nil, cond_true, cond_false, load_eq, Option.bind_some, gt0, gti, mkv, List.length_append, List.length_cons, List.length_nil, List.append_assoc, List.cons_append, List.nil_append, rd0, rdi, wrt0, wrti, rdB_own, rdB_ro, wrB_own, oL_some, aggAt, sto_some, st0, sti, List.set_cons_zero, List.set_cons_succ, splice_nil, splice_cons, cells_agg, cells_int, cells_bool, cells_string, cells_pointer, cells_slice, leaf_int, leaf_bool, leaf_string, leaf_pointer, leaf_slice, List.size_toArray, List.all_cons, List.all_nil, Bool.and_self, Bool.and_true, and_self, true_and, and_true, Nat.zero_add, Nat.add_zero, Nat.reduceLeDiff, Nat.le_refl, List.drop_zero, List.drop_succ_cons, List.take_succ_cons, List.take_zero, Nat.reduceSub, lp_end, lp_ret, lp_exit, oV_ite, oS_ite, oA_ite, slc_some, sls_some, optInt_none, optInt_some, rW_draw, rD_nil, rDV_eq, rDR_eq, rDE_eq, rDS_n, rDS_e, rD_load, rD_conv, rD_pure, rD_e, rD_g, rDG_t, rDG_f, rDG_undef, chkH_nil, chkH_cons, chkP_nil, chkP_cons, aRead_load, aRead_conv, isE_store, isE_call, isE_append, rDS_l, rDS_c, pl_move, pl_assign, pl_pick, pl_alloc, pl_box, pl_build, pl_buildSlice, pl_nilCheck, pl_binOp, pl_unOp, pl_makeFunc, pl_makeSlice, pl_slice, pl_fieldAddr, pl_field, pl_indexAddr, pl_index, pl_extract, pl_len, pl_cap, pl_max, pl_min, List.mem_cons, Prod.mk.injEq, List.not_mem_nil, or_false, or_true, false_or, true_or, and_false, false_and, false_implies, implies_true, true_implies, oM_ite, fillP_nil, fillP_cons, fillQ_some, slq_some, most_max, most_min, Nat.reduceMul, List.getElem?_toArray, List.getElem?_cons_zero, List.getElem?_cons_succ, List.getElem?_nil, Option.getD_some, Option.getD_none, Nat.reduceEqDiff, reduceIte, Nat.reduceAdd, List.map_toArray, List.map_cons, List.map_nil, Bool.false_eq_true, Nat.reduceBEq, Option.map_some, Option.map_none, reduceCtorEq, ap25_25, bd89, bs25_0, bs25_1, fa89_0, fa89_1, ix25, ld4, ld45, ln25, h0, h3, h4, hrd2, hrd1, f0, l1]
      refine oA_newn 3 rfl hn hK2 ⟨_, _, rfl, ⟨s, rfl⟩, _, _, rfl, r1.1, _, _, rfl, r2.1, rfl⟩ ?_ ?_ ?_ hlen (by omega) fun b' H3 f3 x3 v3 => ?_
      · simp; exact ⟨.inr (.inl ⟨s, rfl⟩), r1.2.1, r2.2.1⟩
      · simp [blkOf] at n1 n2 ⊢; exact ⟨n1, n2⟩
      · exact pw_get (by simp [dj_bool, dj])
      · simp -implicitDefEqProofs only [rE_seq_n, rE_seq_r, rE_seq_e, rE_blk_n, rE_blk_r, rE_blk_e, rW_skip, rW_ret, rW_exit, rW_ops, rW_seq, rW_block, ↓two_true, ↓two_false, rC_bool, rW_cond, rO_nil, rO_cons, oG_t, oG_f, oG_undef, rO_guard, oV_some, rOV_eq, oP_move, oP_assign, oP_bin, oP_un, oP_index, oP_fieldAddr, oP_field, oP_indexAddr, oP_slice, oP_load, oP_convert, aPick_true, aPick_false, aPick_bool, oP_pick, aExtract_tup, oP_extract, oP_nilCheck, oP_build, oP_len, oP_cap, oP_max, oP_min, oP_makeFunc, oS_some, oP_store, oA_some, oP_append, oM_some, oP_alloc, oP_box, oP_buildSlice, oP_mkS, oP_call, oP_callv, oF_func, aev_tmp, aev_const, aev_func, aput_get, aput_none, bin_add, bin_sub, bin_mul, bin_eql, bin_neq, bin_lss, bin_leq, bin_gtr, bin_geq, un_not, un_neg, tm0_get, fin_ret, fin_end, oR_some, resL_nil, resL_tmp, resL_cell, tup_one, tup_two, tup_nil, cond_true, cond_false, load_eq, Option.bind_some, gt0, gti, mkv, List.length_append, List.length_cons, List.length_nil, List.append_assoc, List.cons_append, List.nil_append, rd0, rdi, wrt0, wrti, rdB_own, rdB_ro, wrB_own, oL_some, aggAt, sto_some, st0, sti, List.set_cons_zero, List.set_cons_succ, splice_nil, splice_cons, cells_agg, cells_int, cells_bool, cells_string, cells_pointer, cells_slice, leaf_int, leaf_bool, leaf_string, leaf_pointer, leaf_slice, List.size_toArray, List.all_cons, List.all_nil, Bool.and_self, Bool.and_true, and_self, true_and, and_true, Nat.zero_add, Nat.add_zero, Nat.reduceLeDiff, Nat.le_refl, List.drop_zero, List.drop_succ_cons, List.take_succ_cons, List.take_zero, Nat.reduceSub, lp_end, lp_ret, lp_exit, oV_ite, oS_ite, oA_ite, slc_some, sls_some, optInt_none, optInt_some, rW_draw, rD_nil, rDV_eq, rDR_eq, rDE_eq, rDS_n, rDS_e, rD_load, rD_conv, rD_pure, rD_e, rD_g, rDG_t, rDG_f, rDG_undef, chkH_nil, chkH_cons, chkP_nil, chkP_cons, aRead_load, aRead_conv, isE_store, isE_call, isE_append, rDS_l, rDS_c, pl_move, pl_assign, pl_pick, pl_alloc, pl_box, pl_build, pl_buildSlice, pl_nilCheck, pl_binOp, pl_unOp, pl_makeFunc, pl_makeSlice, pl_slice, pl_fieldAddr, pl_field, pl_indexAddr, pl_index, pl_extract, pl_len, pl_cap, pl_max, pl_min, List.mem_cons, Prod.mk.injEq, List.not_mem_nil, or_false, or_true, false_or, true_or, and_false, false_and, false_implies, implies_true, true_implies, oM_ite, fillP_nil, fillP_cons, fillQ_some, slq_some, most_max, most_min, Nat.reduceMul, List.getElem?_toArray, List.getElem?_cons_zero, List.getElem?_cons_succ, List.getElem?_nil, Option.getD_some, Option.getD_none, Nat.reduceEqDiff, reduceIte, Nat.reduceAdd, List.map_toArray, List.map_cons, List.map_nil, Bool.false_eq_true, Nat.reduceBEq, Option.map_some, Option.map_none, reduceCtorEq, ap25_25, bd89, bs25_0, bs25_1, fa89_0, fa89_1, ix25, ld4, ld45, ln25, h0, h3, h4]
        have he3 := x3.ext (H0 := H) (ext_trans ⟨_, rfl⟩ hK2) hn.blk
        rw [IntWalk.i64_in (↑i + 1) (by omega)]
        refine ⟨(i + 1, _, _, _), by simp only; omega, rfl, by simp, hlt, f3, ?_, he3⟩
        rw [v3, hc, cvs_take, e]
        simp only [List.map_cons, List.map_nil, r1.2.2, r2.2.2, cv_row k1.1, cv_row k2.1]
        rfl
    · have hil : i = n := by have : ¬ i < n := by simpa using hc'
                             omega
      subst hil
      refine ⟨⟨ys, hn, ?_⟩, he⟩
      rw [hc, List.take_of_length_le]
      have := hv.len
      simp [cvs, this]

theorem copyVars_ok {H : AH} {v : Value} {n : Nat} {xs : List Value} (hv : FRow H v kVar n xs) (hl : n ≤ 1073741824) :
    CallsA Try.prog 75 #[v] H fun r H' => (∃ ys, New H H' r kVar n ys ∧ cvs H' ys = cvs H xs) ∧ ∃ K, H' = H ++ K := by
  obtain ⟨a, c, rfl, gv⟩ := hv.opn 3 rfl
  refine w75 ?_
  unfold k75
  simp -implicitDefEqProofs only [rE_seq_n, rE_seq_r, rE_seq_e, rE_blk_n, rE_blk_r, rE_blk_e, rW_skip, rW_ret, rW_exit, rW_ops, rW_seq, rW_block, ↓two_true, ↓two_false, rC_bool, rW_cond, rO_nil, rO_cons, oG_t, oG_f, oG_undef, rO_guard, oV_some, rOV_eq, oP_move, oP_assign, oP_bin, oP_un, oP_index, oP_fieldAddr, oP_field, oP_indexAddr, oP_slice, oP_load, oP_convert, aPick_true, aPick_false, aPick_bool, oP_pick, aExtract_tup, oP_extract, oP_nilCheck, oP_build, oP_len, oP_cap, oP_max, oP_min, oP_makeFunc, oS_some, oP_store, oA_some, oP_append, oM_some, oP_alloc, oP_box, oP_buildSlice, oP_mkS, oP_call, oP_callv, oF_func, aev_tmp, aev_const, aev_func, aput_get, aput_none, bin_add, bin_sub, bin_mul, bin_eql, bin_neq, bin_lss, bin_leq, bin_gtr, bin_geq, un_not, un_neg, tm0_get, fin_ret, fin_end, oR_some, resL_nil, resL_tmp, resL_cell, tup_one, tup_two, tup_nil, cond_true, cond_false, load_eq, Option.bind_some, gt0, gti, mkv, List.length_append, List.length_cons, List.length_nil, List.append_assoc, List.cons_append, List.nil_append, rd0, rdi, wrt0, wrti, rdB_own, rdB_ro, wrB_own, oL_some, aggAt, sto_some, st0, sti, List.set_cons_zero, List.set_cons_succ, splice_nil, splice_cons, cells_agg, cells_int, cells_bool, cells_string, cells_pointer, cells_slice, leaf_int, leaf_bool, leaf_string, leaf_pointer, leaf_slice, List.size_toArray, List.all_cons, List.all_nil, Bool.and_self, Bool.and_true, and_self, true_and, and_true, Nat.zero_add, Nat.add_zero, Nat.reduceLeDiff, Nat.le_refl, List.drop_zero, List.drop_succ_cons, List.take_succ_cons, List.take_zero, Nat.reduceSub, lp_end, lp_ret, lp_exit, oV_ite, oS_ite, oA_ite, slc_some, sls_some, optInt_none, optInt_some, rW_draw, rD_nil, rDV_eq, rDR_eq, rDE_eq, rDS_n, rDS_e, rD_load, rD_conv, rD_pure, rD_e, rD_g, rDG_t, rDG_f, rDG_undef, chkH_nil, chkH_cons, chkP_nil, chkP_cons, aRead_load, aRead_conv, isE_store, isE_call, isE_append, rDS_l, rDS_c, pl_move, pl_assign, pl_pick, pl_alloc, pl_box, pl_build, pl_buildSlice, pl_nilCheck, pl_binOp, pl_unOp, pl_makeFunc, pl_makeSlice, pl_slice, pl_fieldAddr, pl_field, pl_indexAddr, pl_index, pl_extract, pl_len, pl_cap, pl_max, pl_min, List.mem_cons, Prod.mk.injEq, List.not_mem_nil, or_false, or_true, false_or, true_or, and_false, false_and, false_implies, implies_true, true_implies, oM_ite, fillP_nil, fillP_cons, fillQ_some, slq_some, most_max, most_min, Nat.reduceMul, List.getElem?_toArray, List.getElem?_cons_zero, List.getElem?_cons_succ, List.getElem?_nil, Option.getD_some, Option.getD_none, Nat.reduceEqDiff, reduceIte, Nat.reduceAdd, List.map_toArray, List.map_cons, List.map_nil, Bool.false_eq_true, Nat.reduceBEq, Option.map_some, Option.map_none, reduceCtorEq, al89, ap25_25, bd89, bs25_1, fa89_0, fa89_1, ix25, ld4, ld45, ld89, ln25, st89]
  refine rW_loop (σ := Nat × Option Addr × Nat × List Value) (fun (i, a', c', ys) tm H' => tm 6 = .slice a n c ∧ tm 7 = .int .i64 n ∧ tm 3 = .slice a' i c' ∧ tm 8 = .int .i64 i ∧ i ≤ n ∧ New H H' (.slice a' i c') kVar i ys ∧ cvs H' ys = (cvs H xs).take (i * 3) ∧ ∃ K, H' = H ++ K) (fun s => n - s.1) (0, none, 0, []) ?_ ?_
  · simp -implicitDefEqProofs [rE_seq_n, rE_seq_r, rE_seq_e, rE_blk_n, rE_blk_r, rE_blk_e, rW_skip, rW_ret, rW_exit, rW_ops, rW_seq, rW_block, ↓two_true, ↓two_false, rC_bool, rW_cond, rO_nil, rO_cons, oG_t, oG_f, oG_undef, rO_guard, oV_some, rOV_eq, oP_move, oP_assign, oP_bin, oP_un, oP_index, oP_fieldAddr, oP_field, oP_indexAddr, oP_slice, oP_load, oP_convert, aPick_true, aPick_false, aPick_bool, oP_pick, aExtract_tup, oP_extract, oP_nilCheck, oP_build, oP_len, oP_cap, oP_max, oP_min, oP_makeFunc, oS_some, oP_store, oA_some, oP_append, oM_some, oP_alloc, oP_box, oP_buildSlice, oP_mkS, oP_call, oP_callv, oF_func, aev_tmp, aev_const, aev_func, aput_get, aput_none, bin_add, bin_sub, bin_mul, bin_eql, bin_neq, bin_lss, bin_leq, bin_gtr, bin_geq, un_not, un_neg, tm0_get, fin_ret, fin_end, oR_some, resL_nil, resL_tmp, resL_cell, tup_one, tup_two, tup_nil, cond_true, cond_false, load_eq, Option.bind_some, gt0, gti, mkv, List.length_append, List.length_cons, List.length_nil, List.append_assoc, List.cons_append, List.nil_append, rd0, rdi, wrt0, wrti, rdB_own, rdB_ro, wrB_own, oL_some, aggAt, sto_some, st0, sti, List.set_cons_zero, List.set_cons_succ, splice_nil, splice_cons, cells_agg, cells_int, cells_bool, cells_string, cells_pointer, cells_slice, leaf_int, leaf_bool, leaf_string, leaf_pointer, leaf_slice, List.size_toArray, List.all_cons, List.all_nil, Bool.and_self, Bool.and_true, and_self, true_and, and_true, Nat.zero_add, Nat.add_zero, Nat.reduceLeDiff, Nat.le_refl, List.drop_zero, List.drop_succ_cons, List.take_succ_cons, List.take_zero, Nat.reduceSub, lp_end, lp_ret, lp_exit, oV_ite, oS_ite, oA_ite, slc_some, sls_some, optInt_none, optInt_some, rW_draw, rD_nil, rDV_eq, rDR_eq, rDE_eq, rDS_n, rDS_e, rD_load, rD_conv, rD_pure, rD_e, rD_g, rDG_t, rDG_f, rDG_undef, chkH_nil, chkH_cons, chkP_nil, chkP_cons, aRead_load, aRead_conv, isE_store, isE_call, isE_append, rDS_l, rDS_c, pl_move, pl_assign, pl_pick, pl_alloc, pl_box, pl_build, pl_buildSlice, pl_nilCheck, pl_binOp, pl_unOp, pl_makeFunc, pl_makeSlice, pl_slice, pl_fieldAddr, pl_field, pl_indexAddr, pl_index, pl_extract, pl_len, pl_cap, pl_max, pl_min, List.mem_cons, Prod.mk.injEq, List.not_mem_nil, or_false, or_true, false_or, true_or, and_false, false_and, false_implies, implies_true, true_implies, oM_ite, fillP_nil, fillP_cons, fillQ_some, slq_some, most_max, most_min, Nat.reduceMul, List.getElem?_toArray, List.getElem?_cons_zero, List.getElem?_cons_succ, List.getElem?_nil, Option.getD_some, Option.getD_none, Nat.reduceEqDiff, reduceIte, Nat.reduceAdd, List.map_toArray, List.map_cons, List.map_nil, Bool.false_eq_true, Nat.reduceBEq, Option.map_some, Option.map_none, reduceCtorEq, al89, ap25_25, bd89, bs25_1, fa89_0, fa89_1, ix25, ld4, ld45, ld89, ln25, st89]
    exact ⟨New.nil, rfl⟩
  · rintro ⟨i, a', c', ys⟩ tm H1 ⟨h0, h1, h3, h4, hi, hn, hc, he⟩
    simp -implicitDefEqProofs only [rE_seq_n, rE_seq_r, rE_seq_e, rE_blk_n, rE_blk_r, rE_blk_e, rW_skip, rW_ret, rW_exit, rW_ops, rW_seq, rW_block, ↓two_true, ↓two_false, rC_bool, rW_cond, rO_nil, rO_cons, oG_t, oG_f, oG_undef, rO_guard, oV_some, rOV_eq, oP_move, oP_assign, oP_bin, oP_un, oP_index, oP_fieldAddr, oP_field, oP_indexAddr, oP_slice, oP_load, oP_convert, aPick_true, aPick_false, aPick_bool, oP_pick, aExtract_tup, oP_extract, oP_nilCheck, oP_build, oP_len, oP_cap, oP_max, oP_min, oP_makeFunc, oS_some, oP_store, oA_some, oP_append, oM_some, oP_alloc, oP_box, oP_buildSlice, oP_mkS, oP_call, oP_callv, oF_func, aev_tmp, aev_const, aev_func, aput_get, aput_none, bin_add, bin_sub, bin_mul, bin_eql, bin_neq, bin_lss, bin_leq, bin_gtr, bin_geq, un_not, un_neg, tm0_get, fin_ret, fin_end, oR_some, resL_nil, resL_tmp, resL_cell, tup_one, tup_two, tup_nil, cond_true, cond_false, load_eq, Option.bind_some, gt0, gti, mkv, List.length_append, List.length_cons, List.length_nil, List.append_assoc, List.cons_append, List.nil_append, rd0, rdi, wrt0, wrti, rdB_own, rdB_ro, wrB_own, oL_some, aggAt, sto_some, st0, sti, List.set_cons_zero, List.set_cons_succ, splice_nil, splice_cons, cells_agg, cells_int, cells_bool, cells_string, cells_pointer, cells_slice, leaf_int, leaf_bool, leaf_string, leaf_pointer, leaf_slice, List.size_toArray, List.all_cons, List.all_nil, Bool.and_self, Bool.and_true, and_self, true_and, and_true, Nat.zero_add, Nat.add_zero, Nat.reduceLeDiff, Nat.le_refl, List.drop_zero, List.drop_succ_cons, List.take_succ_cons, List.take_zero, Nat.reduceSub, lp_end, lp_ret, lp_exit, oV_ite, oS_ite, oA_ite, slc_some, sls_some, optInt_none, optInt_some, rW_draw, rD_nil, rDV_eq, rDR_eq, rDE_eq, rDS_n, rDS_e, rD_load, rD_conv, rD_pure, rD_e, rD_g, rDG_t, rDG_f, rDG_undef, chkH_nil, chkH_cons, chkP_nil, chkP_cons, aRead_load, aRead_conv, isE_store, isE_call, isE_append, rDS_l, rDS_c, pl_move, pl_assign, pl_pick, pl_alloc, pl_box, pl_build, pl_buildSlice, pl_nilCheck, pl_binOp, pl_unOp, pl_makeFunc, pl_makeSlice, pl_slice, pl_fieldAddr, pl_field, pl_indexAddr, pl_index, pl_extract, pl_len, pl_cap, pl_max, pl_min, List.mem_cons, Prod.mk.injEq, List.not_mem_nil, or_false, or_true, false_or, true_or, and_false, false_and, false_implies, implies_true, true_implies, oM_ite, fillP_nil, fillP_cons, fillQ_some, slq_some, most_max, most_min, Nat.reduceMul, List.getElem?_toArray, List.getElem?_cons_zero, List.getElem?_cons_succ, List.getElem?_nil, Option.getD_some, Option.getD_none, Nat.reduceEqDiff, reduceIte, Nat.reduceAdd, List.map_toArray, List.map_cons, List.map_nil, Bool.false_eq_true, Nat.reduceBEq, Option.map_some, Option.map_none, reduceCtorEq, al89, ap25_25, bd89, bs25_1, fa89_0, fa89_1, ix25, ld4, ld45, ld89, ln25, st89, h0, h1, h3, h4]
    refine two_intro (fun hc' => ?_) (fun hc' => ?_)
    · have hlt : i < n := by simpa using hc'
      obtain ⟨b, o, cs, rfl, rfl, hrd, hle, hcell⟩ := gv (by omega)
      obtain ⟨hagg, hce⟩ := hcell i hlt
      obtain ⟨y0, _, e, ⟨s, rfl⟩, y1, _, rfl, k1, y2, _, rfl, k2, rfl⟩ := hv.elemn 3 rfl hlt
      rw [e] at hagg
      have hlen := ext_len he
      have hrd1 : rd H1 b = some cs := by obtain ⟨K, rfl⟩ := he; rw [rdl (by simp [hrd]), hrd]
      have l1 : ld Try.prog 89 (o + i * 3) cs = some (.agg #[.bool s, y1, y2]) := by rw [ld89]; exact hagg
      obtain ⟨a1, c1, e1⟩ := k1.1.slice
      obtain ⟨a2, c2, e2⟩ := k2.1.slice
      have z1 := cv_row k1.1
      have z2 := cv_row k2.1
      have hr1 : IntRow H1 y1 (rowI H y1) := IntRow.ext k1.1 he
      have hr2 : IntRow H1 y2 (rowI H y2) := IntRow.ext k2.1 he
      have w1 := k1.2
      have w2 := k2.2
      generalize rowI H y1 = m1 at *
      generalize rowI H y2 = m2 at *
      subst e1; subst e2
      simp -implicitDefEqProofs only [rE_seq_n, rE_seq_r, rE_seq_e, rE_blk_n, rE_blk_r, rE_blk_e, rW_skip, rW_ret, rW_exit, rW_ops, rW_seq, rW_block, ↓two_true, ↓two_false, rC_bool, rW_cond, rO_nil, rO_cons, oG_t, oG_f, oG_undef, rO_guard, oV_some, rOV_eq, oP_move, oP_assign, oP_bin, oP_un, oP_index, oP_fieldAddr, oP_field, oP_indexAddr, oP_slice, oP_load, oP_convert, aPick_true, aPick_false, aPick_bool, oP_pick, aExtract_tup, oP_extract, oP_nilCheck, oP_build, oP_len, oP_cap, oP_max, oP_min, oP_makeFunc, oS_some, oP_store, oA_some, oP_append, oM_some, oP_alloc, oP_box, oP_buildSlice, oP_mkS, oP_call, oP_callv, oF_func, aev_tmp, aev_const, aev_func, aput_get, aput_none, bin_add, bin_sub, bin_mul, bin_eql, bin_neq, bin_lss, bin_leq, bin_gtr, bin_geq, un_not, un_neg, tm0_get, fin_ret, fin_end, oR_some, resL_nil, resL_tmp, resL_cell, tup_one, tup_two, tup_nil, cond_true, cond_false, load_eq, Option.bind_some, gt0, gti, mkv, List.length_append, List.length_cons, List.length_nil, List.append_assoc, List.cons_append, List.nil_append, rd0, rdi, wrt0, wrti, rdB_own, rdB_ro, wrB_own, oL_some, aggAt, sto_some, st0, sti, List.set_cons_zero, List.set_cons_succ, splice_nil, splice_cons, cells_agg, cells_int, cells_bool, cells_string, cells_pointer, cells_slice, leaf_int, leaf_bool, leaf_string, leaf_pointer, leaf_slice, List.size_toArray, List.all_cons, List.all_nil, Bool.and_self, Bool.and_true, and_self, true_and, and_true, Nat.zero_add, Nat.add_zero, Nat.reduceLeDiff, Nat.le_refl, List.drop_zero, List.drop_succ_cons, List.take_succ_cons, List.take_zero, Nat.reduceSub, lp_end, lp_ret, lp_exit, oV_ite, oS_ite, oA_ite, slc_some, sls_some, optInt_none, optInt_some, rW_draw, rD_nil, rDV_eq, rDR_eq, rDE_eq, rDS_n, rDS_e, rD_load, rD_conv, rD_pure, rD_e, rD_g, rDG_t, rDG_f, rDG_undef, chkH_nil, chkH_cons, chkP_nil, chkP_cons, aRead_load, aRead_conv, isE_store, isE_call, isE_append, rDS_l, rDS_c, pl_move, pl_assign, pl_pick, pl_alloc, pl_box, pl_build, pl_buildSlice, pl_nilCheck, pl_binOp, pl_unOp, pl_makeFunc, pl_makeSlice, pl_slice, pl_fieldAddr, pl_field, pl_indexAddr, pl_index, pl_extract, pl_len, pl_cap, pl_max, pl_min, List.mem_cons, Prod.mk.injEq, List.not_mem_nil, or_false, or_true, false_or, true_or, and_false, false_and, false_implies, implies_true, true_implies, oM_ite, fillP_nil, fillP_cons, fillQ_some, slq_some, most_max, most_min, Nat.reduceMul, List.getElem?_toArray, List.getElem?_cons_zero, List.getElem?_cons_succ, List.getElem?_nil, Option.getD_some, Option.getD_none, Nat.reduceEqDiff, reduceIte, Nat.reduceAdd, List.map_toArray, List.map_cons, List.map_nil, Bool.false_eq_true, Nat.reduceBEq, Option.map_some, Option.map_none, reduceCtorEq, al89, ap25_25, bd89, bs25_1, fa89_0, fa89_1, ix25, ld4, ld45, ld89, ln25, st89, h0, h1, h3, h4, Int.toNat_natCast, hrd1, l1]
      refine ⟨⟨by omega, by omega⟩, (copyArray_ok hr1.mono hr2.mono (by omega) (by omega)).mono ?_⟩
      rintro _ H2 ⟨⟨p', q', rfl, o1, o2, dj, n1, n2⟩, hK2⟩
      obtain ⟨a3, c3, e3⟩ := o1.isSlice
      obtain ⟨a4, c4, e4⟩ := o2.isSlice
      have g2 : rd H2 H1.length = some [.bool s, .slice a1 m1.length c1, .slice a2 m2.length c2] := by obtain ⟨K, rfl⟩ := hK2; rw [rdl (by rw [rd0]; rfl), rd0]; rfl
      have r1 := o1.kok (by omega)
      have r2 := o2.kok (by omega)
      subst e3; subst e4
      simp -implicitDefEqProofs only [rE_seq_n, rE_seq_r, rE_seq_e, rE_blk_n, rE_blk_r, rE_blk_e, rW_skip, rW_ret, rW_exit, rW_ops, rW_seq, rW_block, ↓two_true, ↓two_false, rC_bool, rW_cond, rO_nil, rO_cons, oG_t, oG_f, oG_undef, rO_guard, oV_some, rOV_eq, oP_move, oP_assign, oP_bin, oP_un, oP_index, oP_fieldAddr, oP_field, oP_indexAddr, oP_slice, oP_load, oP_convert, aPick_true, aPick_false, aPick_bool, oP_pick, aExtract_tup, oP_extract, oP_nilCheck, oP_build, oP_len, oP_cap, oP_max, oP_min, oP_makeFunc, oS_some, oP_store, oA_some, oP_append, oM_some, oP_alloc, oP_box, oP_buildSlice, oP_mkS, oP_call, oP_callv, oF_func, aev_tmp, aev_const, aev_func, aput_get, aput_none, bin_add, bin_sub, bin_mul, bin_eql, bin_neq, bin_lss, bin_leq, bin_gtr, bin_geq, un_not, un_neg, tm0_get, fin_ret, fin_end, oR_some, resL_nil, resL_tmp, resL_cell, tup_one, tup_two, tup_nil, cond_true, cond_false, load_eq, Option.bind_some, gt0, gti, mkv, List.length_append, List.length_cons, List.length_nil, List.append_assoc, List.cons_append, List.nil_append, rd0, rdi, wrt0, wrti, rdB_own, rdB_ro, wrB_own, oL_some, aggAt, sto_some, st0, sti, List.set_cons_zero, List.set_cons_succ, splice_nil, splice_cons, cells_agg, cells_int, cells_bool, cells_string, cells_pointer, cells_slice, leaf_int, leaf_bool, leaf_string, leaf_pointer, leaf_slice, List.size_toArray, List.all_cons, List.all_nil, Bool.and_self, Bool.and_true, and_self, true_and, and_true, Nat.zero_add, Nat.add_zero, Nat.reduceLeDiff, Nat.le_refl, List.drop_zero, List.drop_succ_cons, List.take_succ_cons, List.take_zero, Nat.reduceSub, lp_end, lp_ret, lp_exit, oV_ite, oS_ite, oA_ite, slc_some, sls_some, optInt_none, optInt_some, rW_draw, rD_nil, rDV_eq, rDR_eq, rDE_eq, rDS_n, rDS_e, rD_load, rD_conv, rD_pure, rD_e, rD_g, rDG_t, rDG_f, rDG_undef, chkH_nil, chkH_cons, chkP_nil, chkP_cons, aRead_load, aRead_conv, isE_store, isE_call, isE_append, rDS_l, rDS_c, pl_move, pl_assign, pl_pick, pl_alloc, pl_box, pl_build, pl_buildSlice, pl_nilCheck, pl_binOp, pl_unOp, pl_makeFunc, pl_makeSlice, pl_slice, pl_fieldAddr, pl_field, pl_indexAddr, pl_index, pl_extract, pl_len, pl_cap, pl_max, pl_min, List.mem_cons, Prod.mk.injEq, List.not_mem_nil, or_false, or_true, false_or, true_or, and_false, false_and, false_implies, implies_true, true_implies, oM_ite, fillP_nil, fillP_cons, fillQ_some, slq_some, most_max, most_min, Nat.reduceMul, List.getElem?_toArray, List.getElem?_cons_zero, List.getElem?_cons_succ, List.getElem?_nil, Option.getD_some, Option.getD_none, Nat.reduceEqDiff, reduceIte, Nat.reduceAdd, List.map_toArray, List.map_cons, List.map_nil, Bool.false_eq_true, Nat.reduceBEq, Option.map_some, Option.map_none, reduceCtorEq, al89, ap25_25, bd89, bs25_1, fa89_0, fa89_1, ix25, ld4, ld45, ld89, ln25, st89, h0, h1, h3, h4, g2]
      refine oA_newn 3 rfl hn (ext_trans ⟨_, rfl⟩ hK2) ⟨_, _, rfl, ⟨s, rfl⟩, _, _, rfl, r1.1, _, _, rfl, r2.1, rfl⟩ ?_ ?_ ?_ hlen (by omega) fun b' H3 f3 x3 v3 => ?_
      · simp; exact ⟨.inr (.inl ⟨s, rfl⟩), r1.2.1, r2.2.1⟩
      · simp [blkOf] at n1 n2 ⊢
        exact ⟨fun b h => by have := n1 b h; omega, fun b h => by have := n2 b h; omega⟩
      · exact pw_get (by simp [dj_bool, dj])
      · simp -implicitDefEqProofs only [rE_seq_n, rE_seq_r, rE_seq_e, rE_blk_n, rE_blk_r, rE_blk_e, rW_skip, rW_ret, rW_exit, rW_ops, rW_seq, rW_block, ↓two_true, ↓two_false, rC_bool, rW_cond, rO_nil, rO_cons, oG_t, oG_f, oG_undef, rO_guard, oV_some, rOV_eq, oP_move, oP_assign, oP_bin, oP_un, oP_index, oP_fieldAddr, oP_field, oP_indexAddr, oP_slice, oP_load, oP_convert, aPick_true, aPick_false, aPick_bool, oP_pick, aExtract_tup, oP_extract, oP_nilCheck, oP_build, oP_len, oP_cap, oP_max, oP_min, oP_makeFunc, oS_some, oP_store, oA_some, oP_append, oM_some, oP_alloc, oP_box, oP_buildSlice, oP_mkS, oP_call, oP_callv, oF_func, aev_tmp, aev_const, aev_func, aput_get, aput_none, bin_add, bin_sub, bin_mul, bin_eql, bin_neq, bin_lss, bin_leq, bin_gtr, bin_geq, un_not, un_neg, tm0_get, fin_ret, fin_end, oR_some, resL_nil, resL_tmp, resL_cell, tup_one, tup_two, tup_nil, cond_true, cond_false, load_eq, Option.bind_some, gt0, gti, mkv, List.length_append, List.length_cons, List.length_nil, List.append_assoc, List.cons_append, List.nil_append, rd0, rdi, wrt0, wrti, rdB_own, rdB_ro, wrB_own, oL_some, aggAt, sto_some, st0, sti, List.set_cons_zero, List.set_cons_succ, splice_nil, splice_cons, cells_agg, cells_int, cells_bool, cells_string, cells_pointer, cells_slice, leaf_int, leaf_bool, leaf_string, leaf_pointer, leaf_slice, List.size_toArray, List.all_cons, List.all_nil, Bool.and_self, Bool.and_true, and_self, true_and, and_true, Nat.zero_add, Nat.add_zero, Nat.reduceLeDiff, Nat.le_refl, List.drop_zero, List.drop_succ_cons, List.take_succ_cons, List.take_zero, Nat.reduceSub, lp_end, lp_ret, lp_exit, oV_ite, oS_ite, oA_ite, slc_some, sls_some, optInt_none, optInt_some, rW_draw, rD_nil, rDV_eq, rDR_eq, rDE_eq, rDS_n, rDS_e, rD_load, rD_conv, rD_pure, rD_e, rD_g, rDG_t, rDG_f, rDG_undef, chkH_nil, chkH_cons, chkP_nil, chkP_cons, aRead_load, aRead_conv, isE_store, isE_call, isE_append, rDS_l, rDS_c, pl_move, pl_assign, pl_pick, pl_alloc, pl_box, pl_build, pl_buildSlice, pl_nilCheck, pl_binOp, pl_unOp, pl_makeFunc, pl_makeSlice, pl_slice, pl_fieldAddr, pl_field, pl_indexAddr, pl_index, pl_extract, pl_len, pl_cap, pl_max, pl_min, List.mem_cons, Prod.mk.injEq, List.not_mem_nil, or_false, or_true, false_or, true_or, and_false, false_and, false_implies, implies_true, true_implies, oM_ite, fillP_nil, fillP_cons, fillQ_some, slq_some, most_max, most_min, Nat.reduceMul, List.getElem?_toArray, List.getElem?_cons_zero, List.getElem?_cons_succ, List.getElem?_nil, Option.getD_some, Option.getD_none, Nat.reduceEqDiff, reduceIte, Nat.reduceAdd, List.map_toArray, List.map_cons, List.map_nil, Bool.false_eq_true, Nat.reduceBEq, Option.map_some, Option.map_none, reduceCtorEq, al89, ap25_25, bd89, bs25_1, fa89_0, fa89_1, ix25, ld4, ld45, ld89, ln25, st89, h0, h1, h3, h4]
        have he3 := x3.ext (H0 := H) (ext_trans he (ext_trans ⟨_, rfl⟩ hK2)) hn.blk
        rw [IntWalk.i64_in (↑i + 1) (by omega)]
        refine ⟨(i + 1, _, _, _), by simp only; omega, rfl, by simp, hlt, f3, ?_, he3⟩
        rw [v3, hc, cvs_take, e]
        simp only [List.map_cons, List.map_nil, r1.2.2, r2.2.2, z1, z2]
        rfl
    · have hil : i = n := by have : ¬ i < n := by simpa using hc'
                             omega
      subst hil
      refine ⟨⟨ys, hn, ?_⟩, he⟩
      rw [hc, List.take_of_length_le]
      have := hv.len
      simp [cvs, this]

abbrev kArray : List CK := [.r, .r]
theorem eqArray_el {H : AH} {x y : List Value} (hx : All2 H kArray x) (hy : All2 H kArray y) : CallsA Try.prog 67 #[.agg x.toArray, .agg y.toArray] H fun r H' => r = .bool (x.map (cv H) == y.map (cv H)) ∧ ∃ K, H' = H ++ K := by
  obtain ⟨y0, _, rfl, k0, y1, _, rfl, k1, rfl⟩ := hx
  obtain ⟨z0, _, rfl, j0, z1, _, rfl, j1, rfl⟩ := hy
  refine (eqArray_ok k0.1 k1.1 j0.1 j1.1 (by have := k0.2; omega) (by have := k1.2; omega)).mono ?_
  rintro _ H' ⟨rfl, he⟩
  refine ⟨?_, he⟩
  simp only [List.map_cons, List.map_nil, cv_row k0.1, cv_row k1.1, cv_row j0.1, cv_row j1.1]
  congr 1
  rw [Bool.eq_iff_iff]
  simp

theorem eqArrayS_fl {H : AH} {v w : Value} {n m : Nat} {xs ys : List Value} (hv : FRow H v kArray n xs) (hw : FRow H w kArray m ys) (hl : n ≤ 1073741824) (hl2 : m ≤ 1073741824) :
    CallsA Try.prog 76 #[v, w] H fun r H' => r = .bool (cvs H xs == cvs H ys) ∧ ∃ K, H' = H ++ K := by
  obtain ⟨a, c, rfl, gv⟩ := hv.opn 2 rfl
  obtain ⟨a', c', rfl, gw⟩ := hw.opn 2 rfl
  have lx : xs.length = n * 2 := hv.len
  have ly : ys.length = m * 2 := hw.len
  refine w76 ?_
  unfold k76
  simp -implicitDefEqProofs only [rE_seq_n, rE_seq_r, rE_seq_e, rE_blk_n, rE_blk_r, rE_blk_e, rW_skip, rW_ret, rW_exit, rW_ops, rW_seq, rW_block, ↓two_true, ↓two_false, rC_bool, rW_cond, rO_nil, rO_cons, oG_t, oG_f, oG_undef, rO_guard, oV_some, rOV_eq, oP_move, oP_assign, oP_bin, oP_un, oP_index, oP_fieldAddr, oP_field, oP_indexAddr, oP_slice, oP_load, oP_convert, aPick_true, aPick_false, aPick_bool, oP_pick, aExtract_tup, oP_extract, oP_nilCheck, oP_build, oP_len, oP_cap, oP_max, oP_min, oP_makeFunc, oS_some, oP_store, oA_some, oP_append, oM_some, oP_alloc, oP_box, oP_buildSlice, oP_mkS, oP_call, oP_callv, oF_func, aev_tmp, aev_const, aev_func, aput_get, aput_none, bin_add, bin_sub, bin_mul, bin_eql, bin_neq, bin_lss, bin_leq, bin_gtr, bin_geq, un_not, un_neg, tm0_get, fin_ret, fin_end, oR_some, resL_nil, resL_tmp, resL_cell, tup_one, tup_two, tup_nil, cond_true, cond_false, load_eq, Option.bind_some, gt0, gti, mkv, List.length_append, List.length_cons, List.length_nil, List.append_assoc, List.cons_append, List.nil_append, rd0, rdi, wrt0, wrti, rdB_own, rdB_ro, wrB_own, oL_some, aggAt, sto_some, st0, sti, List.set_cons_zero, List.set_cons_succ, splice_nil, splice_cons, cells_agg, cells_int, cells_bool, cells_string, cells_pointer, cells_slice, leaf_int, leaf_bool, leaf_string, leaf_pointer, leaf_slice, List.size_toArray, List.all_cons, List.all_nil, Bool.and_self, Bool.and_true, and_self, true_and, and_true, Nat.zero_add, Nat.add_zero, Nat.reduceLeDiff, Nat.le_refl, List.drop_zero, List.drop_succ_cons, List.take_succ_cons, List.take_zero, Nat.reduceSub, lp_end, lp_ret, lp_exit, oV_ite, oS_ite, oA_ite, slc_some, sls_some, optInt_none, optInt_some, rW_draw, rD_nil, rDV_eq, rDR_eq, rDE_eq, rDS_n, rDS_e, rD_load, rD_conv, rD_pure, rD_e, rD_g, rDG_t, rDG_f, rDG_undef, chkH_nil, chkH_cons, chkP_nil, chkP_cons, aRead_load, aRead_conv, isE_store, isE_call, isE_append, rDS_l, rDS_c, pl_move, pl_assign, pl_pick, pl_alloc, pl_box, pl_build, pl_buildSlice, pl_nilCheck, pl_binOp, pl_unOp, pl_makeFunc, pl_makeSlice, pl_slice, pl_fieldAddr, pl_field, pl_indexAddr, pl_index, pl_extract, pl_len, pl_cap, pl_max, pl_min, List.mem_cons, Prod.mk.injEq, List.not_mem_nil, or_false, or_true, false_or, true_or, and_false, false_and, false_implies, implies_true, true_implies, oM_ite, fillP_nil, fillP_cons, fillQ_some, slq_some, most_max, most_min, Nat.reduceMul, List.getElem?_toArray, List.getElem?_cons_zero, List.getElem?_cons_succ, List.getElem?_nil, Option.getD_some, Option.getD_none, Nat.reduceEqDiff, reduceIte, Nat.reduceAdd, List.map_toArray, List.map_cons, List.map_nil, Bool.false_eq_true, Nat.reduceBEq, Option.map_some, Option.map_none, reduceCtorEq, ix24, ld45, ln24]
  refine two_intro (fun h => ?_) (fun h => ?_)
  · have : (cvs H xs == cvs H ys) = false := by
      rw [beq_eq_false_iff_ne]
      intro e
      have := congrArg List.length e
      simp [cvs, lx, ly] at this h
      omega
    rw [this]
    exact ⟨rfl, [], by simp⟩
  · have hlen : n = m := by simp at h; omega
    subst hlen
    refine rW_loop (σ := Nat) (fun i tm H' => tm 0 = .slice a n c ∧ tm 1 = .slice a' n c' ∧ tm 5 = .int .i64 i ∧ (∃ K, H' = H ++ K) ∧ i ≤ n ∧ (cvs H xs).take (i * 2) = (cvs H ys).take (i * 2)) (fun i => n - i) 0 ?_ ?_
    · simp -implicitDefEqProofs [rE_seq_n, rE_seq_r, rE_seq_e, rE_blk_n, rE_blk_r, rE_blk_e, rW_skip, rW_ret, rW_exit, rW_ops, rW_seq, rW_block, ↓two_true, ↓two_false, rC_bool, rW_cond, rO_nil, rO_cons, oG_t, oG_f, oG_undef, rO_guard, oV_some, rOV_eq, oP_move, oP_assign, oP_bin, oP_un, oP_index, oP_fieldAddr, oP_field, oP_indexAddr, oP_slice, oP_load, oP_convert, aPick_true, aPick_false, aPick_bool, oP_pick, aExtract_tup, oP_extract, oP_nilCheck, oP_build, oP_len, oP_cap, oP_max, oP_min, oP_makeFunc, oS_some, oP_store, oA_some, oP_append, oM_some, oP_alloc, oP_box, oP_buildSlice, oP_mkS, oP_call, oP_callv, oF_func, aev_tmp, aev_const, aev_func, aput_get, aput_none, bin_add, bin_sub, bin_mul, bin_eql, bin_neq, bin_lss, bin_leq, bin_gtr, bin_geq, un_not, un_neg, tm0_get, fin_ret, fin_end, oR_some, resL_nil, resL_tmp, resL_cell, tup_one, tup_two, tup_nil, cond_true, cond_false, load_eq, Option.bind_some, gt0, gti, mkv, List.length_append, List.length_cons, List.length_nil, List.append_assoc, List.cons_append, List.nil_append, rd0, rdi, wrt0, wrti, rdB_own, rdB_ro, wrB_own, oL_some, aggAt, sto_some, st0, sti, List.set_cons_zero, List.set_cons_succ, splice_nil, splice_cons, cells_agg, cells_int, cells_bool, cells_string, cells_pointer, cells_slice, leaf_int, leaf_bool, leaf_string, leaf_pointer, leaf_slice, List.size_toArray, List.all_cons, List.all_nil, Bool.and_self, Bool.and_true, and_self, true_and, and_true, Nat.zero_add, Nat.add_zero, Nat.reduceLeDiff, Nat.le_refl, List.drop_zero, List.drop_succ_cons, List.take_succ_cons, List.take_zero, Nat.reduceSub, lp_end, lp_ret, lp_exit, oV_ite, oS_ite, oA_ite, slc_some, sls_some, optInt_none, optInt_some, rW_draw, rD_nil, rDV_eq, rDR_eq, rDE_eq, rDS_n, rDS_e, rD_load, rD_conv, rD_pure, rD_e, rD_g, rDG_t, rDG_f, rDG_undef, chkH_nil, chkH_cons, chkP_nil, chkP_cons, aRead_load, aRead_conv, isE_store, isE_call, isE_append, rDS_l, rDS_c, pl_move, pl_assign, pl_pick, pl_alloc, pl_box, pl_build, pl_buildSlice, pl_nilCheck, pl_binOp, pl_unOp, pl_makeFunc, pl_makeSlice, pl_slice, pl_fieldAddr, pl_field, pl_indexAddr, pl_index, pl_extract, pl_len, pl_cap, pl_max, pl_min, List.mem_cons, Prod.mk.injEq, List.not_mem_nil, or_false, or_true, false_or, true_or, and_false, false_and, false_implies, implies_true, true_implies, oM_ite, fillP_nil, fillP_cons, fillQ_some, slq_some, most_max, most_min, Nat.reduceMul, List.getElem?_toArray, List.getElem?_cons_zero, List.getElem?_cons_succ, List.getElem?_nil, Option.getD_some, Option.getD_none, Nat.reduceEqDiff, reduceIte, Nat.reduceAdd, List.map_toArray, List.map_cons, List.map_nil, Bool.false_eq_true, Nat.reduceBEq, Option.map_some, Option.map_none, reduceCtorEq, ix24, ld45, ln24]
    · rintro i tm H' ⟨h0, h1, h5, ⟨K, rfl⟩, hi, hn⟩
      simp -implicitDefEqProofs only [rE_seq_n, rE_seq_r, rE_seq_e, rE_blk_n, rE_blk_r, rE_blk_e, rW_skip, rW_ret, rW_exit, rW_ops, rW_seq, rW_block, ↓two_true, ↓two_false, rC_bool, rW_cond, rO_nil, rO_cons, oG_t, oG_f, oG_undef, rO_guard, oV_some, rOV_eq, oP_move, oP_assign, oP_bin, oP_un, oP_index, oP_fieldAddr, oP_field, oP_indexAddr, oP_slice, oP_load, oP_convert, aPick_true, aPick_false, aPick_bool, oP_pick, aExtract_tup, oP_extract, oP_nilCheck, oP_build, oP_len, oP_cap, oP_max, oP_min, oP_makeFunc, oS_some, oP_store, oA_some, oP_append, oM_some, oP_alloc, oP_box, oP_buildSlice, oP_mkS, oP_call, oP_callv, oF_func, aev_tmp, aev_const, aev_func, aput_get, aput_none, bin_add, bin_sub, bin_mul, bin_eql, bin_neq, bin_lss, bin_leq, bin_gtr, bin_geq, un_not, un_neg, tm0_get, fin_ret, fin_end, oR_some, resL_nil, resL_tmp, resL_cell, tup_one, tup_two, tup_nil, cond_true, cond_false, load_eq, Option.bind_some, gt0, gti, mkv, List.length_append, List.length_cons, List.length_nil, List.append_assoc, List.cons_append, List.nil_append, rd0, rdi, wrt0, wrti, rdB_own, rdB_ro, wrB_own, oL_some, aggAt, sto_some, st0, sti, List.set_cons_zero, List.set_cons_succ, splice_nil, splice_cons, cells_agg, cells_int, cells_bool, cells_string, cells_pointer, cells_slice, leaf_int, leaf_bool, leaf_string, leaf_pointer, leaf_slice, List.size_toArray, List.all_cons, List.all_nil, Bool.and_self, Bool.and_true, and_self, true_and, and_true, Nat.zero_add, Nat.add_zero, Nat.reduceLeDiff, Nat.le_refl, List.drop_zero, List.drop_succ_cons, List.take_succ_cons, List.take_zero, Nat.reduceSub, lp_end, lp_ret, lp_exit, oV_ite, oS_ite, oA_ite, slc_some, sls_some, optInt_none, optInt_some, rW_draw, rD_nil, rDV_eq, rDR_eq, rDE_eq, rDS_n, rDS_e, rD_load, rD_conv, rD_pure, rD_e, rD_g, rDG_t, rDG_f, rDG_undef, chkH_nil, chkH_cons, chkP_nil, chkP_cons, aRead_load, aRead_conv, isE_store, isE_call, isE_append, rDS_l, rDS_c, pl_move, pl_assign, pl_pick, pl_alloc, pl_box, pl_build, pl_buildSlice, pl_nilCheck, pl_binOp, pl_unOp, pl_makeFunc, pl_makeSlice, pl_slice, pl_fieldAddr, pl_field, pl_indexAddr, pl_index, pl_extract, pl_len, pl_cap, pl_max, pl_min, List.mem_cons, Prod.mk.injEq, List.not_mem_nil, or_false, or_true, false_or, true_or, and_false, false_and, false_implies, implies_true, true_implies, oM_ite, fillP_nil, fillP_cons, fillQ_some, slq_some, most_max, most_min, Nat.reduceMul, List.getElem?_toArray, List.getElem?_cons_zero, List.getElem?_cons_succ, List.getElem?_nil, Option.getD_some, Option.getD_none, Nat.reduceEqDiff, reduceIte, Nat.reduceAdd, List.map_toArray, List.map_cons, List.map_nil, Bool.false_eq_true, Nat.reduceBEq, Option.map_some, Option.map_none, reduceCtorEq, ix24, ld45, ln24, h0, h1, h5]
      refine two_intro (fun hc => ?_) (fun hc => ?_)
      · have hc' : i < n := by simpa using hc
        obtain ⟨b, o, cs, rfl, rfl, hrd, hle, hcell⟩ := gv (by omega)
        obtain ⟨b', o', cs', rfl, rfl, hrd', hle', hcell'⟩ := gw (by omega)
        have g1 : rd (H ++ K) b = some cs := by rw [rdl (by simp [hrd]), hrd]
        have g2 : rd (H ++ K) b' = some cs' := by rw [rdl (by simp [hrd']), hrd']
        have l1 : ld Try.prog 45 (o + i * 2) cs = some (.agg (elm 2 xs i).toArray) := by rw [ld45]; exact (hcell i hc').1
        have l2 : ld Try.prog 45 (o' + i * 2) cs' = some (.agg (elm 2 ys i).toArray) := by rw [ld45]; exact (hcell' i hc').1
        have x1 := hv.elemn 2 rfl hc'
        have x2 := hw.elemn 2 rfl hc'
        have e1 := fun Φ => (eqArray_el (x1.mono (L := K)) (x2.mono (L := K))).eqV (Φ := Φ)
        rw [x1.mapcv, x2.mapcv] at e1
        simp -implicitDefEqProofs only [rE_seq_n, rE_seq_r, rE_seq_e, rE_blk_n, rE_blk_r, rE_blk_e, rW_skip, rW_ret, rW_exit, rW_ops, rW_seq, rW_block, ↓two_true, ↓two_false, rC_bool, rW_cond, rO_nil, rO_cons, oG_t, oG_f, oG_undef, rO_guard, oV_some, rOV_eq, oP_move, oP_assign, oP_bin, oP_un, oP_index, oP_fieldAddr, oP_field, oP_indexAddr, oP_slice, oP_load, oP_convert, aPick_true, aPick_false, aPick_bool, oP_pick, aExtract_tup, oP_extract, oP_nilCheck, oP_build, oP_len, oP_cap, oP_max, oP_min, oP_makeFunc, oS_some, oP_store, oA_some, oP_append, oM_some, oP_alloc, oP_box, oP_buildSlice, oP_mkS, oP_call, oP_callv, oF_func, aev_tmp, aev_const, aev_func, aput_get, aput_none, bin_add, bin_sub, bin_mul, bin_eql, bin_neq, bin_lss, bin_leq, bin_gtr, bin_geq, un_not, un_neg, tm0_get, fin_ret, fin_end, oR_some, resL_nil, resL_tmp, resL_cell, tup_one, tup_two, tup_nil, cond_true, cond_false, load_eq, Option.bind_some, gt0, gti, mkv, List.length_append, List.length_cons, List.length_nil, List.append_assoc, List.cons_append, List.nil_append, rd0, rdi, wrt0, wrti, rdB_own, rdB_ro, wrB_own, oL_some, aggAt, sto_some, st0, sti, List.set_cons_zero, List.set_cons_succ, splice_nil, splice_cons, cells_agg, cells_int, cells_bool, cells_string, cells_pointer, cells_slice, leaf_int, leaf_bool, leaf_string, leaf_pointer, leaf_slice, List.size_toArray, List.all_cons, List.all_nil, Bool.and_self, Bool.and_true, and_self, true_and, and_true, Nat.zero_add, Nat.add_zero, Nat.reduceLeDiff, Nat.le_refl, List.drop_zero, List.drop_succ_cons, List.take_succ_cons, List.take_zero, Nat.reduceSub, lp_end, lp_ret, lp_exit, oV_ite, oS_ite, oA_ite, slc_some, sls_some, optInt_none, optInt_some, rW_draw, rD_nil, rDV_eq, rDR_eq, rDE_eq, rDS_n, rDS_e, rD_load, rD_conv, rD_pure, rD_e, rD_g, rDG_t, rDG_f, rDG_undef, chkH_nil, chkH_cons, chkP_nil, chkP_cons, aRead_load, aRead_conv, isE_store, isE_call, isE_append, rDS_l, rDS_c, pl_move, pl_assign, pl_pick, pl_alloc, pl_box, pl_build, pl_buildSlice, pl_nilCheck, pl_binOp, pl_unOp, pl_makeFunc, pl_makeSlice, pl_slice, pl_fieldAddr, pl_field, pl_indexAddr, pl_index, pl_extract, pl_len, pl_cap, pl_max, pl_min, List.mem_cons, Prod.mk.injEq, List.not_mem_nil, or_false, or_true, false_or, true_or, and_false, false_and, false_implies, implies_true, true_implies, oM_ite, fillP_nil, fillP_cons, fillQ_some, slq_some, most_max, most_min, Nat.reduceMul, List.getElem?_toArray, List.getElem?_cons_zero, List.getElem?_cons_succ, List.getElem?_nil, Option.getD_some, Option.getD_none, Nat.reduceEqDiff, reduceIte, Nat.reduceAdd, List.map_toArray, List.map_cons, List.map_nil, Bool.false_eq_true, Nat.reduceBEq, Option.map_some, Option.map_none, reduceCtorEq, ix24, ld45, ln24, h0, h1, h5, Int.toNat_natCast, g1, g2, l1, l2, e1, IntWalk.i64_in (↑i + 1) (by omega)]
        have r1 := row_lt (s := 2) hc'
        refine ⟨⟨by omega, by omega⟩, ⟨by omega, by omega⟩, two_intro (fun h => ?_) (fun h => ?_)⟩
        · have : (cvs H xs == cvs H ys) = false := by
            rw [beq_eq_false_iff_ne]
            intro e
            have e2 := congrArg (fun z : List CV => (z.drop (i * 2)).take 2) e
            have e3 : ∀ zs : List Value, ((cvs H zs).drop (i * 2)).take 2 = (elm 2 zs i).map (cv H) := by intro zs; simp [cvs, elm]
            simp only [e3] at e2
            rw [e2] at h
            simp at h
          rw [this]
          exact ⟨rfl, _, rfl⟩
        · refine ⟨i + 1, by omega, by simp, ⟨_, rfl⟩, hc', ?_⟩
          rw [cvs_take, cvs_take, hn]
          have h' : (elm 2 xs i).map (cv H) = (elm 2 ys i).map (cv H) := by simpa using h
          rw [h']
      · have hc' : ¬ i < n := by simpa using hc
        have hil : i = n := by omega
        subst hil
        rw [List.take_of_length_le (by simp [cvs, lx]), List.take_of_length_le (by simp [cvs, ly])] at hn
        rw [hn, beq_self_eq_true]
        exact ⟨rfl, K, rfl⟩

theorem heldArrayS_fl {H : AH} {v : Value} {n : Nat} {xs : List Value} {k : Int} (hv : FRow H v kArray n xs) (hl : n ≤ 1073741824) (hk : 0 ≤ k ∧ k + cntF (cvs H xs) < 4611686018427387904) :
    CallsA Try.prog 80 #[v, .int .i64 k] H fun r H' => r = .int .i64 (heldF (cvs H xs) k) ∧ H' = H := by
  obtain ⟨a, c, rfl, gv⟩ := hv.opn 2 rfl
  have lx : xs.length = n * 2 := hv.len
  refine w80 ?_
  unfold k80
  simp -implicitDefEqProofs only [rE_seq_n, rE_seq_r, rE_seq_e, rE_blk_n, rE_blk_r, rE_blk_e, rW_skip, rW_ret, rW_exit, rW_ops, rW_seq, rW_block, ↓two_true, ↓two_false, rC_bool, rW_cond, rO_nil, rO_cons, oG_t, oG_f, oG_undef, rO_guard, oV_some, rOV_eq, oP_move, oP_assign, oP_bin, oP_un, oP_index, oP_fieldAddr, oP_field, oP_indexAddr, oP_slice, oP_load, oP_convert, aPick_true, aPick_false, aPick_bool, oP_pick, aExtract_tup, oP_extract, oP_nilCheck, oP_build, oP_len, oP_cap, oP_max, oP_min, oP_makeFunc, oS_some, oP_store, oA_some, oP_append, oM_some, oP_alloc, oP_box, oP_buildSlice, oP_mkS, oP_call, oP_callv, oF_func, aev_tmp, aev_const, aev_func, aput_get, aput_none, bin_add, bin_sub, bin_mul, bin_eql, bin_neq, bin_lss, bin_leq, bin_gtr, bin_geq, un_not, un_neg, tm0_get, fin_ret, fin_end, oR_some, resL_nil, resL_tmp, resL_cell, tup_one, tup_two, tup_nil, cond_true, cond_false, load_eq, Option.bind_some, gt0, gti, mkv, List.length_append, List.length_cons, List.length_nil, List.append_assoc, List.cons_append, List.nil_append, rd0, rdi, wrt0, wrti, rdB_own, rdB_ro, wrB_own, oL_some, aggAt, sto_some, st0, sti, List.set_cons_zero, List.set_cons_succ, splice_nil, splice_cons, cells_agg, cells_int, cells_bool, cells_string, cells_pointer, cells_slice, leaf_int, leaf_bool, leaf_string, leaf_pointer, leaf_slice, List.size_toArray, List.all_cons, List.all_nil, Bool.and_self, Bool.and_true, and_self, true_and, and_true, Nat.zero_add, Nat.add_zero, Nat.reduceLeDiff, Nat.le_refl, List.drop_zero, List.drop_succ_cons, List.take_succ_cons, List.take_zero, Nat.reduceSub, lp_end, lp_ret, lp_exit, oV_ite, oS_ite, oA_ite, slc_some, sls_some, optInt_none, optInt_some, rW_draw, rD_nil, rDV_eq, rDR_eq, rDE_eq, rDS_n, rDS_e, rD_load, rD_conv, rD_pure, rD_e, rD_g, rDG_t, rDG_f, rDG_undef, chkH_nil, chkH_cons, chkP_nil, chkP_cons, aRead_load, aRead_conv, isE_store, isE_call, isE_append, rDS_l, rDS_c, pl_move, pl_assign, pl_pick, pl_alloc, pl_box, pl_build, pl_buildSlice, pl_nilCheck, pl_binOp, pl_unOp, pl_makeFunc, pl_makeSlice, pl_slice, pl_fieldAddr, pl_field, pl_indexAddr, pl_index, pl_extract, pl_len, pl_cap, pl_max, pl_min, List.mem_cons, Prod.mk.injEq, List.not_mem_nil, or_false, or_true, false_or, true_or, and_false, false_and, false_implies, implies_true, true_implies, oM_ite, fillP_nil, fillP_cons, fillQ_some, slq_some, most_max, most_min, Nat.reduceMul, List.getElem?_toArray, List.getElem?_cons_zero, List.getElem?_cons_succ, List.getElem?_nil, Option.getD_some, Option.getD_none, Nat.reduceEqDiff, reduceIte, Nat.reduceAdd, List.map_toArray, List.map_cons, List.map_nil, Bool.false_eq_true, Nat.reduceBEq, Option.map_some, Option.map_none, reduceCtorEq, fa45_0, fa45_1, ix24, ld43, ln24]
  refine rW_loop (σ := Nat × Int) (fun p tm H' => tm 0 = .slice a n c ∧ tm 1 = .int .i64 p.2 ∧ tm 5 = .int .i64 p.1 ∧ H' = H ∧ p.1 ≤ n ∧ 0 ≤ p.2 ∧ p.2 + cntF ((cvs H xs).drop (p.1 * 2)) < 4611686018427387904 ∧ heldF (cvs H xs) k = heldF ((cvs H xs).drop (p.1 * 2)) p.2) (fun p => n - p.1) (0, k) ?_ ?_
  · simp -implicitDefEqProofs [rE_seq_n, rE_seq_r, rE_seq_e, rE_blk_n, rE_blk_r, rE_blk_e, rW_skip, rW_ret, rW_exit, rW_ops, rW_seq, rW_block, ↓two_true, ↓two_false, rC_bool, rW_cond, rO_nil, rO_cons, oG_t, oG_f, oG_undef, rO_guard, oV_some, rOV_eq, oP_move, oP_assign, oP_bin, oP_un, oP_index, oP_fieldAddr, oP_field, oP_indexAddr, oP_slice, oP_load, oP_convert, aPick_true, aPick_false, aPick_bool, oP_pick, aExtract_tup, oP_extract, oP_nilCheck, oP_build, oP_len, oP_cap, oP_max, oP_min, oP_makeFunc, oS_some, oP_store, oA_some, oP_append, oM_some, oP_alloc, oP_box, oP_buildSlice, oP_mkS, oP_call, oP_callv, oF_func, aev_tmp, aev_const, aev_func, aput_get, aput_none, bin_add, bin_sub, bin_mul, bin_eql, bin_neq, bin_lss, bin_leq, bin_gtr, bin_geq, un_not, un_neg, tm0_get, fin_ret, fin_end, oR_some, resL_nil, resL_tmp, resL_cell, tup_one, tup_two, tup_nil, cond_true, cond_false, load_eq, Option.bind_some, gt0, gti, mkv, List.length_append, List.length_cons, List.length_nil, List.append_assoc, List.cons_append, List.nil_append, rd0, rdi, wrt0, wrti, rdB_own, rdB_ro, wrB_own, oL_some, aggAt, sto_some, st0, sti, List.set_cons_zero, List.set_cons_succ, splice_nil, splice_cons, cells_agg, cells_int, cells_bool, cells_string, cells_pointer, cells_slice, leaf_int, leaf_bool, leaf_string, leaf_pointer, leaf_slice, List.size_toArray, List.all_cons, List.all_nil, Bool.and_self, Bool.and_true, and_self, true_and, and_true, Nat.zero_add, Nat.add_zero, Nat.reduceLeDiff, Nat.le_refl, List.drop_zero, List.drop_succ_cons, List.take_succ_cons, List.take_zero, Nat.reduceSub, lp_end, lp_ret, lp_exit, oV_ite, oS_ite, oA_ite, slc_some, sls_some, optInt_none, optInt_some, rW_draw, rD_nil, rDV_eq, rDR_eq, rDE_eq, rDS_n, rDS_e, rD_load, rD_conv, rD_pure, rD_e, rD_g, rDG_t, rDG_f, rDG_undef, chkH_nil, chkH_cons, chkP_nil, chkP_cons, aRead_load, aRead_conv, isE_store, isE_call, isE_append, rDS_l, rDS_c, pl_move, pl_assign, pl_pick, pl_alloc, pl_box, pl_build, pl_buildSlice, pl_nilCheck, pl_binOp, pl_unOp, pl_makeFunc, pl_makeSlice, pl_slice, pl_fieldAddr, pl_field, pl_indexAddr, pl_index, pl_extract, pl_len, pl_cap, pl_max, pl_min, List.mem_cons, Prod.mk.injEq, List.not_mem_nil, or_false, or_true, false_or, true_or, and_false, false_and, false_implies, implies_true, true_implies, oM_ite, fillP_nil, fillP_cons, fillQ_some, slq_some, most_max, most_min, Nat.reduceMul, List.getElem?_toArray, List.getElem?_cons_zero, List.getElem?_cons_succ, List.getElem?_nil, Option.getD_some, Option.getD_none, Nat.reduceEqDiff, reduceIte, Nat.reduceAdd, List.map_toArray, List.map_cons, List.map_nil, Bool.false_eq_true, Nat.reduceBEq, Option.map_some, Option.map_none, reduceCtorEq, fa45_0, fa45_1, ix24, ld43, ln24]
    omega
  · rintro ⟨i, q⟩ tm H' ⟨h0, h1, h5, rfl, hi, hq, hqc, hh⟩
    simp only at h0 h1 h5 hi hq hqc hh
    simp -implicitDefEqProofs only [rE_seq_n, rE_seq_r, rE_seq_e, rE_blk_n, rE_blk_r, rE_blk_e, rW_skip, rW_ret, rW_exit, rW_ops, rW_seq, rW_block, ↓two_true, ↓two_false, rC_bool, rW_cond, rO_nil, rO_cons, oG_t, oG_f, oG_undef, rO_guard, oV_some, rOV_eq, oP_move, oP_assign, oP_bin, oP_un, oP_index, oP_fieldAddr, oP_field, oP_indexAddr, oP_slice, oP_load, oP_convert, aPick_true, aPick_false, aPick_bool, oP_pick, aExtract_tup, oP_extract, oP_nilCheck, oP_build, oP_len, oP_cap, oP_max, oP_min, oP_makeFunc, oS_some, oP_store, oA_some, oP_append, oM_some, oP_alloc, oP_box, oP_buildSlice, oP_mkS, oP_call, oP_callv, oF_func, aev_tmp, aev_const, aev_func, aput_get, aput_none, bin_add, bin_sub, bin_mul, bin_eql, bin_neq, bin_lss, bin_leq, bin_gtr, bin_geq, un_not, un_neg, tm0_get, fin_ret, fin_end, oR_some, resL_nil, resL_tmp, resL_cell, tup_one, tup_two, tup_nil, cond_true, cond_false, load_eq, Option.bind_some, gt0, gti, mkv, List.length_append, List.length_cons, List.length_nil, List.append_assoc, List.cons_append, List.nil_append, rd0, rdi, wrt0, wrti, rdB_own, rdB_ro, wrB_own, oL_some, aggAt, sto_some, st0, sti, List.set_cons_zero, List.set_cons_succ, splice_nil, splice_cons, cells_agg, cells_int, cells_bool, cells_string, cells_pointer, cells_slice, leaf_int, leaf_bool, leaf_string, leaf_pointer, leaf_slice, List.size_toArray, List.all_cons, List.all_nil, Bool.and_self, Bool.and_true, and_self, true_and, and_true, Nat.zero_add, Nat.add_zero, Nat.reduceLeDiff, Nat.le_refl, List.drop_zero, List.drop_succ_cons, List.take_succ_cons, List.take_zero, Nat.reduceSub, lp_end, lp_ret, lp_exit, oV_ite, oS_ite, oA_ite, slc_some, sls_some, optInt_none, optInt_some, rW_draw, rD_nil, rDV_eq, rDR_eq, rDE_eq, rDS_n, rDS_e, rD_load, rD_conv, rD_pure, rD_e, rD_g, rDG_t, rDG_f, rDG_undef, chkH_nil, chkH_cons, chkP_nil, chkP_cons, aRead_load, aRead_conv, isE_store, isE_call, isE_append, rDS_l, rDS_c, pl_move, pl_assign, pl_pick, pl_alloc, pl_box, pl_build, pl_buildSlice, pl_nilCheck, pl_binOp, pl_unOp, pl_makeFunc, pl_makeSlice, pl_slice, pl_fieldAddr, pl_field, pl_indexAddr, pl_index, pl_extract, pl_len, pl_cap, pl_max, pl_min, List.mem_cons, Prod.mk.injEq, List.not_mem_nil, or_false, or_true, false_or, true_or, and_false, false_and, false_implies, implies_true, true_implies, oM_ite, fillP_nil, fillP_cons, fillQ_some, slq_some, most_max, most_min, Nat.reduceMul, List.getElem?_toArray, List.getElem?_cons_zero, List.getElem?_cons_succ, List.getElem?_nil, Option.getD_some, Option.getD_none, Nat.reduceEqDiff, reduceIte, Nat.reduceAdd, List.map_toArray, List.map_cons, List.map_nil, Bool.false_eq_true, Nat.reduceBEq, Option.map_some, Option.map_none, reduceCtorEq, fa45_0, fa45_1, ix24, ld43, ln24, h0, h1, h5]
    refine two_intro (fun hc => ?_) (fun hc => ?_)
    · have hc' : i < n := by simpa using hc
      obtain ⟨b, o, cs, rfl, rfl, hrd, hle, hcell⟩ := gv (by omega)
      obtain ⟨hagg, hce⟩ := hcell i hc'
      obtain ⟨y0, _, e, k0, y1, _, rfl, k1, rfl⟩ := hv.elemn 2 rfl hc'
      rw [e] at hce
      have f0 : cs[o + i * 2 + 0]? = some y0 := hce 0 _ rfl
      have f1 : cs[o + i * 2 + 1]? = some y1 := hce 1 _ rfl
      have hdrop : (cvs H' xs).drop (i * 2) = [.r (rowI H' y0), .r (rowI H' y1)] ++ (cvs H' xs).drop ((i + 1) * 2) := by
        rw [cvs_drop (s := 2) hc' lx, e]
        simp only [List.map_cons, List.map_nil, cv_row k0.1, cv_row k1.1]
        try rfl
      rw [hdrop] at hqc hh
      simp only [List.cons_append, List.nil_append, cntF, List.map_cons, List.sum_cons, cnt1] at hqc
      simp only [List.cons_append, List.nil_append, heldF] at hh
      have hfold : (((cvs H' xs).drop ((i + 1) * 2)).map cnt1).sum = cntF ((cvs H' xs).drop ((i + 1) * 2)) := rfl
      rw [hfold] at hqc
      have wi : IntKind.i64.wrap ((i : Int) + 1) = i + 1 := IntWalk.i64_in _ (by omega)
      have m0 := fun Φ => heldIntS_eq (k := q) (Φ := Φ) k0.1 (by have := k0.2; omega) (by omega)
      have m1 := fun Φ => heldIntS_eq (k := q + (rowI H' y0).length) (Φ := Φ) k1.1 (by have := k1.2; omega) (by omega)
      have j1 : o + i * 2 + 2 ≤ cs.length := by have := row_lt (s := 2) hc'; omega
      simp only [Nat.add_assoc, Nat.reduceAdd, Nat.add_zero] at f0 f1
      simp -implicitDefEqProofs only [rE_seq_n, rE_seq_r, rE_seq_e, rE_blk_n, rE_blk_r, rE_blk_e, rW_skip, rW_ret, rW_exit, rW_ops, rW_seq, rW_block, ↓two_true, ↓two_false, rC_bool, rW_cond, rO_nil, rO_cons, oG_t, oG_f, oG_undef, rO_guard, oV_some, rOV_eq, oP_move, oP_assign, oP_bin, oP_un, oP_index, oP_fieldAddr, oP_field, oP_indexAddr, oP_slice, oP_load, oP_convert, aPick_true, aPick_false, aPick_bool, oP_pick, aExtract_tup, oP_extract, oP_nilCheck, oP_build, oP_len, oP_cap, oP_max, oP_min, oP_makeFunc, oS_some, oP_store, oA_some, oP_append, oM_some, oP_alloc, oP_box, oP_buildSlice, oP_mkS, oP_call, oP_callv, oF_func, aev_tmp, aev_const, aev_func, aput_get, aput_none, bin_add, bin_sub, bin_mul, bin_eql, bin_neq, bin_lss, bin_leq, bin_gtr, bin_geq, un_not, un_neg, tm0_get, fin_ret, fin_end, oR_some, resL_nil, resL_tmp, resL_cell, tup_one, tup_two, tup_nil, cond_true, cond_false, load_eq, Option.bind_some, gt0, gti, mkv, List.length_append, List.length_cons, List.length_nil, List.append_assoc, List.cons_append, List.nil_append, rd0, rdi, wrt0, wrti, rdB_own, rdB_ro, wrB_own, oL_some, aggAt, sto_some, st0, sti, List.set_cons_zero, List.set_cons_succ, splice_nil, splice_cons, cells_agg, cells_int, cells_bool, cells_string, cells_pointer, cells_slice, leaf_int, leaf_bool, leaf_string, leaf_pointer, leaf_slice, List.size_toArray, List.all_cons, List.all_nil, Bool.and_self, Bool.and_true, and_self, true_and, and_true, Nat.zero_add, Nat.add_zero, Nat.reduceLeDiff, Nat.le_refl, List.drop_zero, List.drop_succ_cons, List.take_succ_cons, List.take_zero, Nat.reduceSub, lp_end, lp_ret, lp_exit, oV_ite, oS_ite, oA_ite, slc_some, sls_some, optInt_none, optInt_some, rW_draw, rD_nil, rDV_eq, rDR_eq, rDE_eq, rDS_n, rDS_e, rD_load, rD_conv, rD_pure, rD_e, rD_g, rDG_t, rDG_f, rDG_undef, chkH_nil, chkH_cons, chkP_nil, chkP_cons, aRead_load, aRead_conv, isE_store, isE_call, isE_append, rDS_l, rDS_c, pl_move, pl_assign, pl_pick, pl_alloc, pl_box, pl_build, pl_buildSlice, pl_nilCheck, pl_binOp, pl_unOp, pl_makeFunc, pl_makeSlice, pl_slice, pl_fieldAddr, pl_field, pl_indexAddr, pl_index, pl_extract, pl_len, pl_cap, pl_max, pl_min, List.mem_cons, Prod.mk.injEq, List.not_mem_nil, or_false, or_true, false_or, true_or, and_false, false_and, false_implies, implies_true, true_implies, oM_ite, fillP_nil, fillP_cons, fillQ_some, slq_some, most_max, most_min, Nat.reduceMul, List.getElem?_toArray, List.getElem?_cons_zero, List.getElem?_cons_succ, List.getElem?_nil, Option.getD_some, Option.getD_none, Nat.reduceEqDiff, reduceIte, Nat.reduceAdd, List.map_toArray, List.map_cons, List.map_nil, Bool.false_eq_true, Nat.reduceBEq, Option.map_some, Option.map_none, reduceCtorEq, fa45_0, fa45_1, ix24, ld43, ln24, h0, h1, h5, Int.toNat_natCast, Nat.add_assoc, Nat.reduceAdd, hrd, f0, f1, wi, m0]
      refine ⟨⟨by omega, by omega⟩, two_intro (fun h => ?_) (fun h => ?_)⟩
      · rw [hh, if_pos (by simpa using h)]
      · have h2 : ¬ heldI (rowI H' y0) (q) < 0 := by simpa using h
        rw [if_neg h2] at hh
        have e2 : heldI (rowI H' y0) (q) = q + (rowI H' y0).length := by
          rcases heldI_le (l := rowI H' y0) (k := q) with h3 | h3
          · omega
          · exact h3
        rw [e2] at hh ⊢
        simp -implicitDefEqProofs only [rE_seq_n, rE_seq_r, rE_seq_e, rE_blk_n, rE_blk_r, rE_blk_e, rW_skip, rW_ret, rW_exit, rW_ops, rW_seq, rW_block, ↓two_true, ↓two_false, rC_bool, rW_cond, rO_nil, rO_cons, oG_t, oG_f, oG_undef, rO_guard, oV_some, rOV_eq, oP_move, oP_assign, oP_bin, oP_un, oP_index, oP_fieldAddr, oP_field, oP_indexAddr, oP_slice, oP_load, oP_convert, aPick_true, aPick_false, aPick_bool, oP_pick, aExtract_tup, oP_extract, oP_nilCheck, oP_build, oP_len, oP_cap, oP_max, oP_min, oP_makeFunc, oS_some, oP_store, oA_some, oP_append, oM_some, oP_alloc, oP_box, oP_buildSlice, oP_mkS, oP_call, oP_callv, oF_func, aev_tmp, aev_const, aev_func, aput_get, aput_none, bin_add, bin_sub, bin_mul, bin_eql, bin_neq, bin_lss, bin_leq, bin_gtr, bin_geq, un_not, un_neg, tm0_get, fin_ret, fin_end, oR_some, resL_nil, resL_tmp, resL_cell, tup_one, tup_two, tup_nil, cond_true, cond_false, load_eq, Option.bind_some, gt0, gti, mkv, List.length_append, List.length_cons, List.length_nil, List.append_assoc, List.cons_append, List.nil_append, rd0, rdi, wrt0, wrti, rdB_own, rdB_ro, wrB_own, oL_some, aggAt, sto_some, st0, sti, List.set_cons_zero, List.set_cons_succ, splice_nil, splice_cons, cells_agg, cells_int, cells_bool, cells_string, cells_pointer, cells_slice, leaf_int, leaf_bool, leaf_string, leaf_pointer, leaf_slice, List.size_toArray, List.all_cons, List.all_nil, Bool.and_self, Bool.and_true, and_self, true_and, and_true, Nat.zero_add, Nat.add_zero, Nat.reduceLeDiff, Nat.le_refl, List.drop_zero, List.drop_succ_cons, List.take_succ_cons, List.take_zero, Nat.reduceSub, lp_end, lp_ret, lp_exit, oV_ite, oS_ite, oA_ite, slc_some, sls_some, optInt_none, optInt_some, rW_draw, rD_nil, rDV_eq, rDR_eq, rDE_eq, rDS_n, rDS_e, rD_load, rD_conv, rD_pure, rD_e, rD_g, rDG_t, rDG_f, rDG_undef, chkH_nil, chkH_cons, chkP_nil, chkP_cons, aRead_load, aRead_conv, isE_store, isE_call, isE_append, rDS_l, rDS_c, pl_move, pl_assign, pl_pick, pl_alloc, pl_box, pl_build, pl_buildSlice, pl_nilCheck, pl_binOp, pl_unOp, pl_makeFunc, pl_makeSlice, pl_slice, pl_fieldAddr, pl_field, pl_indexAddr, pl_index, pl_extract, pl_len, pl_cap, pl_max, pl_min, List.mem_cons, Prod.mk.injEq, List.not_mem_nil, or_false, or_true, false_or, true_or, and_false, false_and, false_implies, implies_true, true_implies, oM_ite, fillP_nil, fillP_cons, fillQ_some, slq_some, most_max, most_min, Nat.reduceMul, List.getElem?_toArray, List.getElem?_cons_zero, List.getElem?_cons_succ, List.getElem?_nil, Option.getD_some, Option.getD_none, Nat.reduceEqDiff, reduceIte, Nat.reduceAdd, List.map_toArray, List.map_cons, List.map_nil, Bool.false_eq_true, Nat.reduceBEq, Option.map_some, Option.map_none, reduceCtorEq, fa45_0, fa45_1, ix24, ld43, ln24, h0, h1, h5, Int.toNat_natCast, Nat.add_assoc, Nat.reduceAdd, hrd, f0, f1, wi, m1]
        refine ⟨⟨by omega, by omega⟩, two_intro (fun h => ?_) (fun h => ?_)⟩
        · rw [hh, if_pos (by simpa using h)]
        · have h2 : ¬ heldI (rowI H' y1) (q + (rowI H' y0).length) < 0 := by simpa using h
          rw [if_neg h2] at hh
          have e3 : heldI (rowI H' y1) (q + (rowI H' y0).length) = q + (rowI H' y0).length + (rowI H' y1).length := by
            rcases heldI_le (l := rowI H' y1) (k := q + (rowI H' y0).length) with h3 | h3
            · omega
            · exact h3
          rw [e3] at hh ⊢
          exact ⟨(i + 1, q + (rowI H' y0).length + (rowI H' y1).length), by simp only; omega, rfl, by simp, hc', by simp only; omega, by simp only; omega, hh⟩
    · have hc' : ¬ i < n := by simpa using hc
      have hil : i = n := by omega
      rw [hh, hil, List.drop_of_length_le (by simp [cvs, lx])]
      simp [heldF]

theorem markArrayS_fl {H : AH} {v : Value} {n : Nat} {xs : List Value} {k : Int} (hv : OT H v kArray n xs) (hl : n ≤ 1073741824) (hk : 0 ≤ k ∧ k + cntF (cvs H xs) < 4611686018427387904) :
    CallsA Try.prog 79 #[v, .int .i64 k] H fun r H' => r = .int .i64 (k + cntF (cvs H xs)) ∧ ∃ ys, MC H v kArray n xs k (n * 2) (k + cntF (cvs H xs)) ys H' := by
  obtain ⟨a, c, rfl, _⟩ := hv.frow.opn 2 rfl
  have lx : xs.length = n * 2 := hv.len
  refine w79 ?_
  unfold k79
  simp -implicitDefEqProofs only [rE_seq_n, rE_seq_r, rE_seq_e, rE_blk_n, rE_blk_r, rE_blk_e, rW_skip, rW_ret, rW_exit, rW_ops, rW_seq, rW_block, ↓two_true, ↓two_false, rC_bool, rW_cond, rO_nil, rO_cons, oG_t, oG_f, oG_undef, rO_guard, oV_some, rOV_eq, oP_move, oP_assign, oP_bin, oP_un, oP_index, oP_fieldAddr, oP_field, oP_indexAddr, oP_slice, oP_load, oP_convert, aPick_true, aPick_false, aPick_bool, oP_pick, aExtract_tup, oP_extract, oP_nilCheck, oP_build, oP_len, oP_cap, oP_max, oP_min, oP_makeFunc, oS_some, oP_store, oA_some, oP_append, oM_some, oP_alloc, oP_box, oP_buildSlice, oP_mkS, oP_call, oP_callv, oF_func, aev_tmp, aev_const, aev_func, aput_get, aput_none, bin_add, bin_sub, bin_mul, bin_eql, bin_neq, bin_lss, bin_leq, bin_gtr, bin_geq, un_not, un_neg, tm0_get, fin_ret, fin_end, oR_some, resL_nil, resL_tmp, resL_cell, tup_one, tup_two, tup_nil, cond_true, cond_false, load_eq, Option.bind_some, gt0, gti, mkv, List.length_append, List.length_cons, List.length_nil, List.append_assoc, List.cons_append, List.nil_append, rd0, rdi, wrt0, wrti, rdB_own, rdB_ro, wrB_own, oL_some, aggAt, sto_some, st0, sti, List.set_cons_zero, List.set_cons_succ, splice_nil, splice_cons, cells_agg, cells_int, cells_bool, cells_string, cells_pointer, cells_slice, leaf_int, leaf_bool, leaf_string, leaf_pointer, leaf_slice, List.size_toArray, List.all_cons, List.all_nil, Bool.and_self, Bool.and_true, and_self, true_and, and_true, Nat.zero_add, Nat.add_zero, Nat.reduceLeDiff, Nat.le_refl, List.drop_zero, List.drop_succ_cons, List.take_succ_cons, List.take_zero, Nat.reduceSub, lp_end, lp_ret, lp_exit, oV_ite, oS_ite, oA_ite, slc_some, sls_some, optInt_none, optInt_some, rW_draw, rD_nil, rDV_eq, rDR_eq, rDE_eq, rDS_n, rDS_e, rD_load, rD_conv, rD_pure, rD_e, rD_g, rDG_t, rDG_f, rDG_undef, chkH_nil, chkH_cons, chkP_nil, chkP_cons, aRead_load, aRead_conv, isE_store, isE_call, isE_append, rDS_l, rDS_c, pl_move, pl_assign, pl_pick, pl_alloc, pl_box, pl_build, pl_buildSlice, pl_nilCheck, pl_binOp, pl_unOp, pl_makeFunc, pl_makeSlice, pl_slice, pl_fieldAddr, pl_field, pl_indexAddr, pl_index, pl_extract, pl_len, pl_cap, pl_max, pl_min, List.mem_cons, Prod.mk.injEq, List.not_mem_nil, or_false, or_true, false_or, true_or, and_false, false_and, false_implies, implies_true, true_implies, oM_ite, fillP_nil, fillP_cons, fillQ_some, slq_some, most_max, most_min, Nat.reduceMul, List.getElem?_toArray, List.getElem?_cons_zero, List.getElem?_cons_succ, List.getElem?_nil, Option.getD_some, Option.getD_none, Nat.reduceEqDiff, reduceIte, Nat.reduceAdd, List.map_toArray, List.map_cons, List.map_nil, Bool.false_eq_true, Nat.reduceBEq, Option.map_some, Option.map_none, reduceCtorEq, fa45_0, fa45_1, ix24, ld43, ln24]
  refine rW_loop (σ := Nat × Int × List Value) (fun (i, q, ys) tm H' => tm 0 = .slice a n c ∧ tm 1 = .int .i64 q ∧ tm 5 = .int .i64 i ∧ i ≤ n ∧ MC H (.slice a n c) kArray n xs k (i * 2) q ys H') (fun s => n - s.1) (0, k, xs) ?_ ?_
  · simp -implicitDefEqProofs [rE_seq_n, rE_seq_r, rE_seq_e, rE_blk_n, rE_blk_r, rE_blk_e, rW_skip, rW_ret, rW_exit, rW_ops, rW_seq, rW_block, ↓two_true, ↓two_false, rC_bool, rW_cond, rO_nil, rO_cons, oG_t, oG_f, oG_undef, rO_guard, oV_some, rOV_eq, oP_move, oP_assign, oP_bin, oP_un, oP_index, oP_fieldAddr, oP_field, oP_indexAddr, oP_slice, oP_load, oP_convert, aPick_true, aPick_false, aPick_bool, oP_pick, aExtract_tup, oP_extract, oP_nilCheck, oP_build, oP_len, oP_cap, oP_max, oP_min, oP_makeFunc, oS_some, oP_store, oA_some, oP_append, oM_some, oP_alloc, oP_box, oP_buildSlice, oP_mkS, oP_call, oP_callv, oF_func, aev_tmp, aev_const, aev_func, aput_get, aput_none, bin_add, bin_sub, bin_mul, bin_eql, bin_neq, bin_lss, bin_leq, bin_gtr, bin_geq, un_not, un_neg, tm0_get, fin_ret, fin_end, oR_some, resL_nil, resL_tmp, resL_cell, tup_one, tup_two, tup_nil, cond_true, cond_false, load_eq, Option.bind_some, gt0, gti, mkv, List.length_append, List.length_cons, List.length_nil, List.append_assoc, List.cons_append, List.nil_append, rd0, rdi, wrt0, wrti, rdB_own, rdB_ro, wrB_own, oL_some, aggAt, sto_some, st0, sti, List.set_cons_zero, List.set_cons_succ, splice_nil, splice_cons, cells_agg, cells_int, cells_bool, cells_string, cells_pointer, cells_slice, leaf_int, leaf_bool, leaf_string, leaf_pointer, leaf_slice, List.size_toArray, List.all_cons, List.all_nil, Bool.and_self, Bool.and_true, and_self, true_and, and_true, Nat.zero_add, Nat.add_zero, Nat.reduceLeDiff, Nat.le_refl, List.drop_zero, List.drop_succ_cons, List.take_succ_cons, List.take_zero, Nat.reduceSub, lp_end, lp_ret, lp_exit, oV_ite, oS_ite, oA_ite, slc_some, sls_some, optInt_none, optInt_some, rW_draw, rD_nil, rDV_eq, rDR_eq, rDE_eq, rDS_n, rDS_e, rD_load, rD_conv, rD_pure, rD_e, rD_g, rDG_t, rDG_f, rDG_undef, chkH_nil, chkH_cons, chkP_nil, chkP_cons, aRead_load, aRead_conv, isE_store, isE_call, isE_append, rDS_l, rDS_c, pl_move, pl_assign, pl_pick, pl_alloc, pl_box, pl_build, pl_buildSlice, pl_nilCheck, pl_binOp, pl_unOp, pl_makeFunc, pl_makeSlice, pl_slice, pl_fieldAddr, pl_field, pl_indexAddr, pl_index, pl_extract, pl_len, pl_cap, pl_max, pl_min, List.mem_cons, Prod.mk.injEq, List.not_mem_nil, or_false, or_true, false_or, true_or, and_false, false_and, false_implies, implies_true, true_implies, oM_ite, fillP_nil, fillP_cons, fillQ_some, slq_some, most_max, most_min, Nat.reduceMul, List.getElem?_toArray, List.getElem?_cons_zero, List.getElem?_cons_succ, List.getElem?_nil, Option.getD_some, Option.getD_none, Nat.reduceEqDiff, reduceIte, Nat.reduceAdd, List.map_toArray, List.map_cons, List.map_nil, Bool.false_eq_true, Nat.reduceBEq, Option.map_some, Option.map_none, reduceCtorEq, fa45_0, fa45_1, ix24, ld43, ln24]
    exact MC.start hv
  · rintro ⟨i, q, ys⟩ tm H0 ⟨h0, h1, h5, hi, hm0⟩
    simp -implicitDefEqProofs only [rE_seq_n, rE_seq_r, rE_seq_e, rE_blk_n, rE_blk_r, rE_blk_e, rW_skip, rW_ret, rW_exit, rW_ops, rW_seq, rW_block, ↓two_true, ↓two_false, rC_bool, rW_cond, rO_nil, rO_cons, oG_t, oG_f, oG_undef, rO_guard, oV_some, rOV_eq, oP_move, oP_assign, oP_bin, oP_un, oP_index, oP_fieldAddr, oP_field, oP_indexAddr, oP_slice, oP_load, oP_convert, aPick_true, aPick_false, aPick_bool, oP_pick, aExtract_tup, oP_extract, oP_nilCheck, oP_build, oP_len, oP_cap, oP_max, oP_min, oP_makeFunc, oS_some, oP_store, oA_some, oP_append, oM_some, oP_alloc, oP_box, oP_buildSlice, oP_mkS, oP_call, oP_callv, oF_func, aev_tmp, aev_const, aev_func, aput_get, aput_none, bin_add, bin_sub, bin_mul, bin_eql, bin_neq, bin_lss, bin_leq, bin_gtr, bin_geq, un_not, un_neg, tm0_get, fin_ret, fin_end, oR_some, resL_nil, resL_tmp, resL_cell, tup_one, tup_two, tup_nil, cond_true, cond_false, load_eq, Option.bind_some, gt0, gti, mkv, List.length_append, List.length_cons, List.length_nil, List.append_assoc, List.cons_append, List.nil_append, rd0, rdi, wrt0, wrti, rdB_own, rdB_ro, wrB_own, oL_some, aggAt, sto_some, st0, sti, List.set_cons_zero, List.set_cons_succ, splice_nil, splice_cons, cells_agg, cells_int, cells_bool, cells_string, cells_pointer, cells_slice, leaf_int, leaf_bool, leaf_string, leaf_pointer, leaf_slice, List.size_toArray, List.all_cons, List.all_nil, Bool.and_self, Bool.and_true, and_self, true_and, and_true, Nat.zero_add, Nat.add_zero, Nat.reduceLeDiff, Nat.le_refl, List.drop_zero, List.drop_succ_cons, List.take_succ_cons, List.take_zero, Nat.reduceSub, lp_end, lp_ret, lp_exit, oV_ite, oS_ite, oA_ite, slc_some, sls_some, optInt_none, optInt_some, rW_draw, rD_nil, rDV_eq, rDR_eq, rDE_eq, rDS_n, rDS_e, rD_load, rD_conv, rD_pure, rD_e, rD_g, rDG_t, rDG_f, rDG_undef, chkH_nil, chkH_cons, chkP_nil, chkP_cons, aRead_load, aRead_conv, isE_store, isE_call, isE_append, rDS_l, rDS_c, pl_move, pl_assign, pl_pick, pl_alloc, pl_box, pl_build, pl_buildSlice, pl_nilCheck, pl_binOp, pl_unOp, pl_makeFunc, pl_makeSlice, pl_slice, pl_fieldAddr, pl_field, pl_indexAddr, pl_index, pl_extract, pl_len, pl_cap, pl_max, pl_min, List.mem_cons, Prod.mk.injEq, List.not_mem_nil, or_false, or_true, false_or, true_or, and_false, false_and, false_implies, implies_true, true_implies, oM_ite, fillP_nil, fillP_cons, fillQ_some, slq_some, most_max, most_min, Nat.reduceMul, List.getElem?_toArray, List.getElem?_cons_zero, List.getElem?_cons_succ, List.getElem?_nil, Option.getD_some, Option.getD_none, Nat.reduceEqDiff, reduceIte, Nat.reduceAdd, List.map_toArray, List.map_cons, List.map_nil, Bool.false_eq_true, Nat.reduceBEq, Option.map_some, Option.map_none, reduceCtorEq, fa45_0, fa45_1, ix24, ld43, ln24, h0, h1, h5]
    refine two_intro (fun hc => ?_) (fun hc => ?_)
    · have hc' : i < n := by simpa using hc
      have hr := row_lt (s := 2) hc'
      obtain ⟨b, o, rfl⟩ := hv.slc rfl (by omega)
      obtain ⟨rfl, cs0, hb0, hle0, hce0⟩ := hm0.at 2 rfl rfl (by omega)
      have wi : IntKind.i64.wrap ((i : Int) + 1) = i + 1 := IntWalk.i64_in _ (by omega)
      obtain ⟨y0, g0, k0, oc0⟩ := hm0.kind 2 rfl (c := 0) hc' rfl
      have lim0 := hm0.lim g0
      have f0 := hce0 _ _ g0
      try simp only [Nat.add_assoc, Nat.reduceAdd, Nat.add_zero] at f0 g0
      rw [cv_row k0.1] at lim0
      simp only [cnt1] at lim0
      have m0 := fun Φ => markIntS_eq (k := q) (Φ := Φ) (oc0.row k0.1) (by have := k0.2; omega) (by omega)
      simp -implicitDefEqProofs only [rE_seq_n, rE_seq_r, rE_seq_e, rE_blk_n, rE_blk_r, rE_blk_e, rW_skip, rW_ret, rW_exit, rW_ops, rW_seq, rW_block, ↓two_true, ↓two_false, rC_bool, rW_cond, rO_nil, rO_cons, oG_t, oG_f, oG_undef, rO_guard, oV_some, rOV_eq, oP_move, oP_assign, oP_bin, oP_un, oP_index, oP_fieldAddr, oP_field, oP_indexAddr, oP_slice, oP_load, oP_convert, aPick_true, aPick_false, aPick_bool, oP_pick, aExtract_tup, oP_extract, oP_nilCheck, oP_build, oP_len, oP_cap, oP_max, oP_min, oP_makeFunc, oS_some, oP_store, oA_some, oP_append, oM_some, oP_alloc, oP_box, oP_buildSlice, oP_mkS, oP_call, oP_callv, oF_func, aev_tmp, aev_const, aev_func, aput_get, aput_none, bin_add, bin_sub, bin_mul, bin_eql, bin_neq, bin_lss, bin_leq, bin_gtr, bin_geq, un_not, un_neg, tm0_get, fin_ret, fin_end, oR_some, resL_nil, resL_tmp, resL_cell, tup_one, tup_two, tup_nil, cond_true, cond_false, load_eq, Option.bind_some, gt0, gti, mkv, List.length_append, List.length_cons, List.length_nil, List.append_assoc, List.cons_append, List.nil_append, rd0, rdi, wrt0, wrti, rdB_own, rdB_ro, wrB_own, oL_some, aggAt, sto_some, st0, sti, List.set_cons_zero, List.set_cons_succ, splice_nil, splice_cons, cells_agg, cells_int, cells_bool, cells_string, cells_pointer, cells_slice, leaf_int, leaf_bool, leaf_string, leaf_pointer, leaf_slice, List.size_toArray, List.all_cons, List.all_nil, Bool.and_self, Bool.and_true, and_self, true_and, and_true, Nat.zero_add, Nat.add_zero, Nat.reduceLeDiff, Nat.le_refl, List.drop_zero, List.drop_succ_cons, List.take_succ_cons, List.take_zero, Nat.reduceSub, lp_end, lp_ret, lp_exit, oV_ite, oS_ite, oA_ite, slc_some, sls_some, optInt_none, optInt_some, rW_draw, rD_nil, rDV_eq, rDR_eq, rDE_eq, rDS_n, rDS_e, rD_load, rD_conv, rD_pure, rD_e, rD_g, rDG_t, rDG_f, rDG_undef, chkH_nil, chkH_cons, chkP_nil, chkP_cons, aRead_load, aRead_conv, isE_store, isE_call, isE_append, rDS_l, rDS_c, pl_move, pl_assign, pl_pick, pl_alloc, pl_box, pl_build, pl_buildSlice, pl_nilCheck, pl_binOp, pl_unOp, pl_makeFunc, pl_makeSlice, pl_slice, pl_fieldAddr, pl_field, pl_indexAddr, pl_index, pl_extract, pl_len, pl_cap, pl_max, pl_min, List.mem_cons, Prod.mk.injEq, List.not_mem_nil, or_false, or_true, false_or, true_or, and_false, false_and, false_implies, implies_true, true_implies, oM_ite, fillP_nil, fillP_cons, fillQ_some, slq_some, most_max, most_min, Nat.reduceMul, List.getElem?_toArray, List.getElem?_cons_zero, List.getElem?_cons_succ, List.getElem?_nil, Option.getD_some, Option.getD_none, Nat.reduceEqDiff, reduceIte, Nat.reduceAdd, List.map_toArray, List.map_cons, List.map_nil, Bool.false_eq_true, Nat.reduceBEq, Option.map_some, Option.map_none, reduceCtorEq, fa45_0, fa45_1, ix24, ld43, ln24, h0, h1, h5, Int.toNat_natCast, Nat.add_assoc, Nat.reduceAdd, rd_own hb0, wrt_own hb0, f0, wi, m0]
      have hm1 := hm0.ints g0 (oc0.row k0.1) k0.1
      refine ⟨⟨by omega, by omega⟩, ?_⟩
      generalize putI H0 y0 (mks (q) (rowI H0 y0).length) = H1 at hm1 ⊢
      obtain ⟨_, cs1, hb1, hle1, hce1⟩ := hm1.at 2 rfl rfl (by omega)
      obtain ⟨y1, g1, k1, oc1⟩ := hm1.kind 2 rfl (c := 1) hc' rfl
      have lim1 := hm1.lim g1
      have f1 := hce1 _ _ g1
      try simp only [Nat.add_assoc, Nat.reduceAdd, Nat.add_zero] at f1 g1
      rw [cv_row k1.1] at lim1
      simp only [cnt1] at lim1
      have m1 := fun Φ => markIntS_eq (k := q + (rowI H0 y0).length) (Φ := Φ) (oc1.row k1.1) (by have := k1.2; omega) (by omega)
      simp -implicitDefEqProofs only [rE_seq_n, rE_seq_r, rE_seq_e, rE_blk_n, rE_blk_r, rE_blk_e, rW_skip, rW_ret, rW_exit, rW_ops, rW_seq, rW_block, ↓two_true, ↓two_false, rC_bool, rW_cond, rO_nil, rO_cons, oG_t, oG_f, oG_undef, rO_guard, oV_some, rOV_eq, oP_move, oP_assign, oP_bin, oP_un, oP_index, oP_fieldAddr, oP_field, oP_indexAddr, oP_slice, oP_load, oP_convert, aPick_true, aPick_false, aPick_bool, oP_pick, aExtract_tup, oP_extract, oP_nilCheck, oP_build, oP_len, oP_cap, oP_max, oP_min, oP_makeFunc, oS_some, oP_store, oA_some, oP_append, oM_some, oP_alloc, oP_box, oP_buildSlice, oP_mkS, oP_call, oP_callv, oF_func, aev_tmp, aev_const, aev_func, aput_get, aput_none, bin_add, bin_sub, bin_mul, bin_eql, bin_neq, bin_lss, bin_leq, bin_gtr, bin_geq, un_not, un_neg, tm0_get, fin_ret, fin_end, oR_some, resL_nil, resL_tmp, resL_cell, tup_one, tup_two, tup_nil, cond_true, cond_false, load_eq, Option.bind_some, gt0, gti, mkv, List.length_append, List.length_cons, List.length_nil, List.append_assoc, List.cons_append, List.nil_append, rd0, rdi, wrt0, wrti, rdB_own, rdB_ro, wrB_own, oL_some, aggAt, sto_some, st0, sti, List.set_cons_zero, List.set_cons_succ, splice_nil, splice_cons, cells_agg, cells_int, cells_bool, cells_string, cells_pointer, cells_slice, leaf_int, leaf_bool, leaf_string, leaf_pointer, leaf_slice, List.size_toArray, List.all_cons, List.all_nil, Bool.and_self, Bool.and_true, and_self, true_and, and_true, Nat.zero_add, Nat.add_zero, Nat.reduceLeDiff, Nat.le_refl, List.drop_zero, List.drop_succ_cons, List.take_succ_cons, List.take_zero, Nat.reduceSub, lp_end, lp_ret, lp_exit, oV_ite, oS_ite, oA_ite, slc_some, sls_some, optInt_none, optInt_some, rW_draw, rD_nil, rDV_eq, rDR_eq, rDE_eq, rDS_n, rDS_e, rD_load, rD_conv, rD_pure, rD_e, rD_g, rDG_t, rDG_f, rDG_undef, chkH_nil, chkH_cons, chkP_nil, chkP_cons, aRead_load, aRead_conv, isE_store, isE_call, isE_append, rDS_l, rDS_c, pl_move, pl_assign, pl_pick, pl_alloc, pl_box, pl_build, pl_buildSlice, pl_nilCheck, pl_binOp, pl_unOp, pl_makeFunc, pl_makeSlice, pl_slice, pl_fieldAddr, pl_field, pl_indexAddr, pl_index, pl_extract, pl_len, pl_cap, pl_max, pl_min, List.mem_cons, Prod.mk.injEq, List.not_mem_nil, or_false, or_true, false_or, true_or, and_false, false_and, false_implies, implies_true, true_implies, oM_ite, fillP_nil, fillP_cons, fillQ_some, slq_some, most_max, most_min, Nat.reduceMul, List.getElem?_toArray, List.getElem?_cons_zero, List.getElem?_cons_succ, List.getElem?_nil, Option.getD_some, Option.getD_none, Nat.reduceEqDiff, reduceIte, Nat.reduceAdd, List.map_toArray, List.map_cons, List.map_nil, Bool.false_eq_true, Nat.reduceBEq, Option.map_some, Option.map_none, reduceCtorEq, fa45_0, fa45_1, ix24, ld43, ln24, h0, h1, h5, Int.toNat_natCast, Nat.add_assoc, Nat.reduceAdd, rd_own hb1, wrt_own hb1, f1, wi, m1]
      have hm2 := hm1.ints g1 (oc1.row k1.1) k1.1
      refine ⟨⟨by omega, by omega⟩, ?_⟩
      generalize putI H1 y1 (mks (q + (rowI H0 y0).length) (rowI H1 y1).length) = H2 at hm2 ⊢
      have hfin := hm2
      rw [show i * 2 + 1 + 1 = (i + 1) * 2 by omega] at hfin
      exact ⟨(i + 1, _, _), by simp only; omega, rfl, by simp, hc', hfin⟩
    · have hc' : ¬ i < n := by simpa using hc
      have hil : i = n := by omega
      subst hil
      have hq := (hm0.done (by omega)).2
      rw [← hq]
      exact ⟨rfl, ys, hm0⟩

theorem eqVar_el {H : AH} {x y : List Value} (hx : All2 H kVar x) (hy : All2 H kVar y) : CallsA Try.prog 77 #[.agg x.toArray, .agg y.toArray] H fun r H' => r = .bool (x.map (cv H) == y.map (cv H)) ∧ ∃ K, H' = H ++ K := by
  obtain ⟨y0, _, rfl, ⟨s, rfl⟩, y1, _, rfl, k1, y2, _, rfl, k2, rfl⟩ := hx
  obtain ⟨z0, _, rfl, ⟨t, rfl⟩, z1, _, rfl, j1, z2, _, rfl, j2, rfl⟩ := hy
  refine (eqVar_ok k1.1 k2.1 j1.1 j2.1 (by have := k1.2; omega) (by have := k2.2; omega)).mono ?_
  rintro _ H' ⟨rfl, he⟩
  refine ⟨?_, he⟩
  simp only [List.map_cons, List.map_nil, cv_row k1.1, cv_row k2.1, cv_row j1.1, cv_row j2.1]
  congr 1
  rw [Bool.eq_iff_iff]
  simp [cv]

theorem eqVarS_fl {H : AH} {v w : Value} {n m : Nat} {xs ys : List Value} (hv : FRow H v kVar n xs) (hw : FRow H w kVar m ys) (hl : n ≤ 1073741824) (hl2 : m ≤ 1073741824) :
    CallsA Try.prog 20 #[v, w] H fun r H' => r = .bool (cvs H xs == cvs H ys) ∧ ∃ K, H' = H ++ K := by
  obtain ⟨a, c, rfl, gv⟩ := hv.opn 3 rfl
  obtain ⟨a', c', rfl, gw⟩ := hw.opn 3 rfl
  have lx : xs.length = n * 3 := hv.len
  have ly : ys.length = m * 3 := hw.len
  refine w20 ?_
  unfold k20
  simp -implicitDefEqProofs only [rE_seq_n, rE_seq_r, rE_seq_e, rE_blk_n, rE_blk_r, rE_blk_e, rW_skip, rW_ret, rW_exit, rW_ops, rW_seq, rW_block, ↓two_true, ↓two_false, rC_bool, rW_cond, rO_nil, rO_cons, oG_t, oG_f, oG_undef, rO_guard, oV_some, rOV_eq, oP_move, oP_assign, oP_bin, oP_un, oP_index, oP_fieldAddr, oP_field, oP_indexAddr, oP_slice, oP_load, oP_convert, aPick_true, aPick_false, aPick_bool, oP_pick, aExtract_tup, oP_extract, oP_nilCheck, oP_build, oP_len, oP_cap, oP_max, oP_min, oP_makeFunc, oS_some, oP_store, oA_some, oP_append, oM_some, oP_alloc, oP_box, oP_buildSlice, oP_mkS, oP_call, oP_callv, oF_func, aev_tmp, aev_const, aev_func, aput_get, aput_none, bin_add, bin_sub, bin_mul, bin_eql, bin_neq, bin_lss, bin_leq, bin_gtr, bin_geq, un_not, un_neg, tm0_get, fin_ret, fin_end, oR_some, resL_nil, resL_tmp, resL_cell, tup_one, tup_two, tup_nil, cond_true, cond_false, load_eq, Option.bind_some, gt0, gti, mkv, List.length_append, List.length_cons, List.length_nil, List.append_assoc, List.cons_append, List.nil_append, rd0, rdi, wrt0, wrti, rdB_own, rdB_ro, wrB_own, oL_some, aggAt, sto_some, st0, sti, List.set_cons_zero, List.set_cons_succ, splice_nil, splice_cons, cells_agg, cells_int, cells_bool, cells_string, cells_pointer, cells_slice, leaf_int, leaf_bool, leaf_string, leaf_pointer, leaf_slice, List.size_toArray, List.all_cons, List.all_nil, Bool.and_self, Bool.and_true, and_self, true_and, and_true, Nat.zero_add, Nat.add_zero, Nat.reduceLeDiff, Nat.le_refl, List.drop_zero, List.drop_succ_cons, List.take_succ_cons, List.take_zero, Nat.reduceSub, lp_end, lp_ret, lp_exit, oV_ite, oS_ite, oA_ite, slc_some, sls_some, optInt_none, optInt_some, rW_draw, rD_nil, rDV_eq, rDR_eq, rDE_eq, rDS_n, rDS_e, rD_load, rD_conv, rD_pure, rD_e, rD_g, rDG_t, rDG_f, rDG_undef, chkH_nil, chkH_cons, chkP_nil, chkP_cons, aRead_load, aRead_conv, isE_store, isE_call, isE_append, rDS_l, rDS_c, pl_move, pl_assign, pl_pick, pl_alloc, pl_box, pl_build, pl_buildSlice, pl_nilCheck, pl_binOp, pl_unOp, pl_makeFunc, pl_makeSlice, pl_slice, pl_fieldAddr, pl_field, pl_indexAddr, pl_index, pl_extract, pl_len, pl_cap, pl_max, pl_min, List.mem_cons, Prod.mk.injEq, List.not_mem_nil, or_false, or_true, false_or, true_or, and_false, false_and, false_implies, implies_true, true_implies, oM_ite, fillP_nil, fillP_cons, fillQ_some, slq_some, most_max, most_min, Nat.reduceMul, List.getElem?_toArray, List.getElem?_cons_zero, List.getElem?_cons_succ, List.getElem?_nil, Option.getD_some, Option.getD_none, Nat.reduceEqDiff, reduceIte, Nat.reduceAdd, List.map_toArray, List.map_cons, List.map_nil, Bool.false_eq_true, Nat.reduceBEq, Option.map_some, Option.map_none, reduceCtorEq, ix25, ld89, ln25]
  refine two_intro (fun h => ?_) (fun h => ?_)
  · have : (cvs H xs == cvs H ys) = false := by
      rw [beq_eq_false_iff_ne]
      intro e
      have := congrArg List.length e
      simp [cvs, lx, ly] at this h
      omega
    rw [this]
    exact ⟨rfl, [], by simp⟩
  · have hlen : n = m := by simp at h; omega
    subst hlen
    refine rW_loop (σ := Nat) (fun i tm H' => tm 0 = .slice a n c ∧ tm 1 = .slice a' n c' ∧ tm 5 = .int .i64 i ∧ (∃ K, H' = H ++ K) ∧ i ≤ n ∧ (cvs H xs).take (i * 3) = (cvs H ys).take (i * 3)) (fun i => n - i) 0 ?_ ?_
    · simp -implicitDefEqProofs [rE_seq_n, rE_seq_r, rE_seq_e, rE_blk_n, rE_blk_r, rE_blk_e, rW_skip, rW_ret, rW_exit, rW_ops, rW_seq, rW_block, ↓two_true, ↓two_false, rC_bool, rW_cond, rO_nil, rO_cons, oG_t, oG_f, oG_undef, rO_guard, oV_some, rOV_eq, oP_move, oP_assign, oP_bin, oP_un, oP_index, oP_fieldAddr, oP_field, oP_indexAddr, oP_slice, oP_load, oP_convert, aPick_true, aPick_false, aPick_bool, oP_pick, aExtract_tup, oP_extract, oP_nilCheck, oP_build, oP_len, oP_cap, oP_max, oP_min, oP_makeFunc, oS_some, oP_store, oA_some, oP_append, oM_some, oP_alloc, oP_box, oP_buildSlice, oP_mkS, oP_call, oP_callv, oF_func, aev_tmp, aev_const, aev_func, aput_get, aput_none, bin_add, bin_sub, bin_mul, bin_eql, bin_neq, bin_lss, bin_leq, bin_gtr, bin_geq, un_not, un_neg, tm0_get, fin_ret, fin_end, oR_some, resL_nil, resL_tmp, resL_cell, tup_one, tup_two, tup_nil, cond_true, cond_false, load_eq, Option.bind_some, gt0, gti, mkv, List.length_append, List.length_cons, List.length_nil, List.append_assoc, List.cons_append, List.nil_append, rd0, rdi, wrt0, wrti, rdB_own, rdB_ro, wrB_own, oL_some, aggAt, sto_some, st0, sti, List.set_cons_zero, List.set_cons_succ, splice_nil, splice_cons, cells_agg, cells_int, cells_bool, cells_string, cells_pointer, cells_slice, leaf_int, leaf_bool, leaf_string, leaf_pointer, leaf_slice, List.size_toArray, List.all_cons, List.all_nil, Bool.and_self, Bool.and_true, and_self, true_and, and_true, Nat.zero_add, Nat.add_zero, Nat.reduceLeDiff, Nat.le_refl, List.drop_zero, List.drop_succ_cons, List.take_succ_cons, List.take_zero, Nat.reduceSub, lp_end, lp_ret, lp_exit, oV_ite, oS_ite, oA_ite, slc_some, sls_some, optInt_none, optInt_some, rW_draw, rD_nil, rDV_eq, rDR_eq, rDE_eq, rDS_n, rDS_e, rD_load, rD_conv, rD_pure, rD_e, rD_g, rDG_t, rDG_f, rDG_undef, chkH_nil, chkH_cons, chkP_nil, chkP_cons, aRead_load, aRead_conv, isE_store, isE_call, isE_append, rDS_l, rDS_c, pl_move, pl_assign, pl_pick, pl_alloc, pl_box, pl_build, pl_buildSlice, pl_nilCheck, pl_binOp, pl_unOp, pl_makeFunc, pl_makeSlice, pl_slice, pl_fieldAddr, pl_field, pl_indexAddr, pl_index, pl_extract, pl_len, pl_cap, pl_max, pl_min, List.mem_cons, Prod.mk.injEq, List.not_mem_nil, or_false, or_true, false_or, true_or, and_false, false_and, false_implies, implies_true, true_implies, oM_ite, fillP_nil, fillP_cons, fillQ_some, slq_some, most_max, most_min, Nat.reduceMul, List.getElem?_toArray, List.getElem?_cons_zero, List.getElem?_cons_succ, List.getElem?_nil, Option.getD_some, Option.getD_none, Nat.reduceEqDiff, reduceIte, Nat.reduceAdd, List.map_toArray, List.map_cons, List.map_nil, Bool.false_eq_true, Nat.reduceBEq, Option.map_some, Option.map_none, reduceCtorEq, ix25, ld89, ln25]
    · rintro i tm H' ⟨h0, h1, h5, ⟨K, rfl⟩, hi, hn⟩
      simp -implicitDefEqProofs only [rE_seq_n, rE_seq_r, rE_seq_e, rE_blk_n, rE_blk_r, rE_blk_e, rW_skip, rW_ret, rW_exit, rW_ops, rW_seq, rW_block, ↓two_true, ↓two_false, rC_bool, rW_cond, rO_nil, rO_cons, oG_t, oG_f, oG_undef, rO_guard, oV_some, rOV_eq, oP_move, oP_assign, oP_bin, oP_un, oP_index, oP_fieldAddr, oP_field, oP_indexAddr, oP_slice, oP_load, oP_convert, aPick_true, aPick_false, aPick_bool, oP_pick, aExtract_tup, oP_extract, oP_nilCheck, oP_build, oP_len, oP_cap, oP_max, oP_min, oP_makeFunc, oS_some, oP_store, oA_some, oP_append, oM_some, oP_alloc, oP_box, oP_buildSlice, oP_mkS, oP_call, oP_callv, oF_func, aev_tmp, aev_const, aev_func, aput_get, aput_none, bin_add, bin_sub, bin_mul, bin_eql, bin_neq, bin_lss, bin_leq, bin_gtr, bin_geq, un_not, un_neg, tm0_get, fin_ret, fin_end, oR_some, resL_nil, resL_tmp, resL_cell, tup_one, tup_two, tup_nil, cond_true, cond_false, load_eq, Option.bind_some, gt0, gti, mkv, List.length_append, List.length_cons, List.length_nil, List.append_assoc, List.cons_append, List.nil_append, rd0, rdi, wrt0, wrti, rdB_own, rdB_ro, wrB_own, oL_some, aggAt, sto_some, st0, sti, List.set_cons_zero, List.set_cons_succ, splice_nil, splice_cons, cells_agg, cells_int, cells_bool, cells_string, cells_pointer, cells_slice, leaf_int, leaf_bool, leaf_string, leaf_pointer, leaf_slice, List.size_toArray, List.all_cons, List.all_nil, Bool.and_self, Bool.and_true, and_self, true_and, and_true, Nat.zero_add, Nat.add_zero, Nat.reduceLeDiff, Nat.le_refl, List.drop_zero, List.drop_succ_cons, List.take_succ_cons, List.take_zero, Nat.reduceSub, lp_end, lp_ret, lp_exit, oV_ite, oS_ite, oA_ite, slc_some, sls_some, optInt_none, optInt_some, rW_draw, rD_nil, rDV_eq, rDR_eq, rDE_eq, rDS_n, rDS_e, rD_load, rD_conv, rD_pure, rD_e, rD_g, rDG_t, rDG_f, rDG_undef, chkH_nil, chkH_cons, chkP_nil, chkP_cons, aRead_load, aRead_conv, isE_store, isE_call, isE_append, rDS_l, rDS_c, pl_move, pl_assign, pl_pick, pl_alloc, pl_box, pl_build, pl_buildSlice, pl_nilCheck, pl_binOp, pl_unOp, pl_makeFunc, pl_makeSlice, pl_slice, pl_fieldAddr, pl_field, pl_indexAddr, pl_index, pl_extract, pl_len, pl_cap, pl_max, pl_min, List.mem_cons, Prod.mk.injEq, List.not_mem_nil, or_false, or_true, false_or, true_or, and_false, false_and, false_implies, implies_true, true_implies, oM_ite, fillP_nil, fillP_cons, fillQ_some, slq_some, most_max, most_min, Nat.reduceMul, List.getElem?_toArray, List.getElem?_cons_zero, List.getElem?_cons_succ, List.getElem?_nil, Option.getD_some, Option.getD_none, Nat.reduceEqDiff, reduceIte, Nat.reduceAdd, List.map_toArray, List.map_cons, List.map_nil, Bool.false_eq_true, Nat.reduceBEq, Option.map_some, Option.map_none, reduceCtorEq, ix25, ld89, ln25, h0, h1, h5]
      refine two_intro (fun hc => ?_) (fun hc => ?_)
      · have hc' : i < n := by simpa using hc
        obtain ⟨b, o, cs, rfl, rfl, hrd, hle, hcell⟩ := gv (by omega)
        obtain ⟨b', o', cs', rfl, rfl, hrd', hle', hcell'⟩ := gw (by omega)
        have g1 : rd (H ++ K) b = some cs := by rw [rdl (by simp [hrd]), hrd]
        have g2 : rd (H ++ K) b' = some cs' := by rw [rdl (by simp [hrd']), hrd']
        have l1 : ld Try.prog 89 (o + i * 3) cs = some (.agg (elm 3 xs i).toArray) := by rw [ld89]; exact (hcell i hc').1
        have l2 : ld Try.prog 89 (o' + i * 3) cs' = some (.agg (elm 3 ys i).toArray) := by rw [ld89]; exact (hcell' i hc').1
        have x1 := hv.elemn 3 rfl hc'
        have x2 := hw.elemn 3 rfl hc'
        have e1 := fun Φ => (eqVar_el (x1.mono (L := K)) (x2.mono (L := K))).eqV (Φ := Φ)
        rw [x1.mapcv, x2.mapcv] at e1
        simp -implicitDefEqProofs only [rE_seq_n, rE_seq_r, rE_seq_e, rE_blk_n, rE_blk_r, rE_blk_e, rW_skip, rW_ret, rW_exit, rW_ops, rW_seq, rW_block, ↓two_true, ↓two_false, rC_bool, rW_cond, rO_nil, rO_cons, oG_t, oG_f, oG_undef, rO_guard, oV_some, rOV_eq, oP_move, oP_assign, oP_bin, oP_un, oP_index, oP_fieldAddr, oP_field, oP_indexAddr, oP_slice, oP_load, oP_convert, aPick_true, aPick_false, aPick_bool, oP_pick, aExtract_tup, oP_extract, oP_nilCheck, oP_build, oP_len, oP_cap, oP_max, oP_min, oP_makeFunc, oS_some, oP_store, oA_some, oP_append, oM_some, oP_alloc, oP_box, oP_buildSlice, oP_mkS, oP_call, oP_callv, oF_func, aev_tmp, aev_const, aev_func, aput_get, aput_none, bin_add, bin_sub, bin_mul, bin_eql, bin_neq, bin_lss, bin_leq, bin_gtr, bin_geq, un_not, un_neg, tm0_get, fin_ret, fin_end, oR_some, resL_nil, resL_tmp, resL_cell, tup_one, tup_two, tup_nil, cond_true, cond_false, load_eq, Option.bind_some, gt0, gti, mkv, List.length_append, List.length_cons, List.length_nil, List.append_assoc, List.cons_append, List.nil_append, rd0, rdi, wrt0, wrti, rdB_own, rdB_ro, wrB_own, oL_some, aggAt, sto_some, st0, sti, List.set_cons_zero, List.set_cons_succ, splice_nil, splice_cons, cells_agg, cells_int, cells_bool, cells_string, cells_pointer, cells_slice, leaf_int, leaf_bool, leaf_string, leaf_pointer, leaf_slice, List.size_toArray, List.all_cons, List.all_nil, Bool.and_self, Bool.and_true, and_self, true_and, and_true, Nat.zero_add, Nat.add_zero, Nat.reduceLeDiff, Nat.le_refl, List.drop_zero, List.drop_succ_cons, List.take_succ_cons, List.take_zero, Nat.reduceSub, lp_end, lp_ret, lp_exit, oV_ite, oS_ite, oA_ite, slc_some, sls_some, optInt_none, optInt_some, rW_draw, rD_nil, rDV_eq, rDR_eq, rDE_eq, rDS_n, rDS_e, rD_load, rD_conv, rD_pure, rD_e, rD_g, rDG_t, rDG_f, rDG_undef, chkH_nil, chkH_cons, chkP_nil, chkP_cons, aRead_load, aRead_conv, isE_store, isE_call, isE_append, rDS_l, rDS_c, pl_move, pl_assign, pl_pick, pl_alloc, pl_box, pl_build, pl_buildSlice, pl_nilCheck, pl_binOp, pl_unOp, pl_makeFunc, pl_makeSlice, pl_slice, pl_fieldAddr, pl_field, pl_indexAddr, pl_index, pl_extract, pl_len, pl_cap, pl_max, pl_min, List.mem_cons, Prod.mk.injEq, List.not_mem_nil, or_false, or_true, false_or, true_or, and_false, false_and, false_implies, implies_true, true_implies, oM_ite, fillP_nil, fillP_cons, fillQ_some, slq_some, most_max, most_min, Nat.reduceMul, List.getElem?_toArray, List.getElem?_cons_zero, List.getElem?_cons_succ, List.getElem?_nil, Option.getD_some, Option.getD_none, Nat.reduceEqDiff, reduceIte, Nat.reduceAdd, List.map_toArray, List.map_cons, List.map_nil, Bool.false_eq_true, Nat.reduceBEq, Option.map_some, Option.map_none, reduceCtorEq, ix25, ld89, ln25, h0, h1, h5, Int.toNat_natCast, g1, g2, l1, l2, e1, IntWalk.i64_in (↑i + 1) (by omega)]
        have r1 := row_lt (s := 3) hc'
        refine ⟨⟨by omega, by omega⟩, ⟨by omega, by omega⟩, two_intro (fun h => ?_) (fun h => ?_)⟩
        · have : (cvs H xs == cvs H ys) = false := by
            rw [beq_eq_false_iff_ne]
            intro e
            have e2 := congrArg (fun z : List CV => (z.drop (i * 3)).take 3) e
            have e3 : ∀ zs : List Value, ((cvs H zs).drop (i * 3)).take 3 = (elm 3 zs i).map (cv H) := by intro zs; simp [cvs, elm]
            simp only [e3] at e2
            rw [e2] at h
            simp at h
          rw [this]
          exact ⟨rfl, _, rfl⟩
        · refine ⟨i + 1, by omega, by simp, ⟨_, rfl⟩, hc', ?_⟩
          rw [cvs_take, cvs_take, hn]
          have h' : (elm 3 xs i).map (cv H) = (elm 3 ys i).map (cv H) := by simpa using h
          rw [h']
      · have hc' : ¬ i < n := by simpa using hc
        have hil : i = n := by omega
        subst hil
        rw [List.take_of_length_le (by simp [cvs, lx]), List.take_of_length_le (by simp [cvs, ly])] at hn
        rw [hn, beq_self_eq_true]
        exact ⟨rfl, K, rfl⟩

end Go.Proofs.Ytgekbancaeabgaa.AM
