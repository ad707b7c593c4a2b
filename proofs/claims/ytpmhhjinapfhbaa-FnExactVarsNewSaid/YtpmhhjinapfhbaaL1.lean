/- What the functions answer. -/
import Derived.Test.YtpmhhjinapfhbaaK1
set_option linter.unusedVariables false
set_option linter.unusedSimpArgs false
set_option maxRecDepth 100000
/- What the functions answer. -/
namespace Go.Proofs.Ytpmhhjinapfhbaa.AM
open Go Go.Proofs.Ytpmhhjinapfhbaa Go.Proofs
theorem RpA.cons {P : Program} {H : AH} {t : TypeId} {ts : List TypeId} {vs : List Value} (h : RpA P H (t :: ts) vs) : ∃ v vs', vs = v :: vs' ∧ RpV P H t v ∧ RpA P H ts vs' := by
  cases vs with
  | nil => exact h.elim
  | cons v vs => exact ⟨v, vs, rfl, h.1, h.2⟩
theorem RpA.nil {P : Program} {H : AH} {vs : List Value} (h : RpA P H [] vs) : vs = [] := by
  cases vs with
  | nil => rfl
  | cons v vs => exact h.elim
theorem Rp.int {P : Program} {H : AH} {k : Nat} {t : TypeId} {q : IntKind} {vs : List Value} (hu : P.underlying t = some (.int q)) (h : Rp P H k t vs) : ∃ n, vs = [.int q n] ∧ (Lit.int q n).wf = true := by
  cases k with
  | zero => exact h.elim
  | succ k => simpa only [Rp, hu] using h
theorem Rp.struct {P : Program} {H : AH} {k : Nat} {t : TypeId} {fs : Array Field} {vs : List Value} (hu : P.underlying t = some (.struct fs)) (h : Rp P H k t vs) :
    vs.length = P.cellsOf t ∧ ∃ k, ∀ f ∈ fs.toList, Rp P H k f.type ((vs.drop f.offset).take (P.cellsOf f.type)) := by
  cases k with
  | zero => exact h.elim
  | succ k =>
    simp only [Rp, hu] at h
    exact ⟨h.1, k, h.2⟩
theorem list1 {α : Type} {l : List α} (h : l.length = 1) : ∃ a, l = [a] := List.length_eq_one_iff.1 h
theorem list2 {α : Type} {l : List α} (h : l.length = 2) : ∃ a b, l = [a, b] := by
  match l, h with
  | [a, b], _ => exact ⟨a, b, rfl⟩
theorem list3 {α : Type} {l : List α} (h : l.length = 3) : ∃ a b c, l = [a, b, c] := by
  match l, h with
  | [a, b, c], _ => exact ⟨a, b, c, rfl⟩
theorem bs_size {a : Array UInt8} : (ByteArray.mk a).size = a.size := rfl
theorem cof3 : Try.prog.cellsOf 3 = 1 := by kernel_rfl
/-- Bounds of an int. -/
def I64 (n : Int) : Prop := -9223372036854775808 ≤ n ∧ n ≤ 9223372036854775807
theorem wf_i64 {n : Int} (h : (Lit.int .i64 n).wf = true) : I64 n := by
  simp [Lit.wf, IntKind.min, IntKind.max, IntKind.bits, IntKind.signed] at h
  exact ⟨by omega, by omega⟩

def sg1 (s : Int) : Bool := s == 43 || s == 45 || s == 42 || s == 124 || s == 126
def sg2 (s : Int) : Bool := s == 43 || s == 45 || s == 42 || s == 37 || s == 124 || s == 38 || s == 94 || s == 61 || s == 60 || s == 62
def hasS (l : ByteArray) (s : Int) : Bool := (List.range l.size).any fun i => s == byt l i
theorem hasS_true {l : ByteArray} {s : Int} : hasS l s = true ↔ ∃ i, i < l.size ∧ byt l i = s := by
  simp only [hasS, List.any_eq_true, List.mem_range, beq_iff_eq]
  exact ⟨fun ⟨i, h1, h2⟩ => ⟨i, h1, h2.symm⟩, fun ⟨i, h1, h2⟩ => ⟨i, h1, h2.symm⟩⟩
theorem hasS_1 {s : Int} : hasS ⟨#[43, 45, 42, 124, 126]⟩ s = sg1 s := by
  show ((s == 43) || ((s == 45) || ((s == 42) || ((s == 124) || ((s == 126) || false))))) = _
  simp [sg1, Bool.or_assoc]
theorem hasS_2 {s : Int} : hasS ⟨#[43, 45, 42, 37, 124, 38, 94, 61, 60, 62]⟩ s = sg2 s := by
  show ((s == 43) || ((s == 45) || ((s == 42) || ((s == 37) || ((s == 124) || ((s == 38) || ((s == 94) || ((s == 61) || ((s == 60) || ((s == 62) || false)))))))))) = _
  simp [sg2, Bool.or_assoc]
theorem hasS_3 {s : Int} : hasS ⟨#[105, 35, 44, 114, 122, 103]⟩ s = (s == 105 || s == 35 || s == 44 || s == 114 || s == 122 || s == 103) := by
  show ((s == 105) || ((s == 35) || ((s == 44) || ((s == 114) || ((s == 122) || ((s == 103) || false)))))) = _
  simp [Bool.or_assoc]
theorem hasS_4 {s : Int} : hasS ⟨#[35, 44, 116, 100, 114, 64, 63, 36, 101]⟩ s = (s == 35 || s == 44 || s == 116 || s == 100 || s == 114 || s == 64 || s == 63 || s == 36 || s == 101) := by
  show ((s == 35) || ((s == 44) || ((s == 116) || ((s == 100) || ((s == 114) || ((s == 64) || ((s == 63) || ((s == 36) || ((s == 101) || false))))))))) = _
  simp [Bool.or_assoc]
def inB (x a b : Int) : Bool := decide (a ≤ x) && decide (x ≤ b)
theorem inB_true {x a b : Int} : inB x a b = true ↔ a ≤ x ∧ x ≤ b := by simp [inB]
def numOk (x : Int) : Bool := inB x (-1000000000000) 1000000000000

/-! ### rows of ints -/
def ints (l : List Int) : List Value := l.map (.int .i64)
theorem ints_get {l : List Int} {i : Nat} (h : i < l.length) : (ints l)[i]? = some (.int .i64 l[i]) := by simp [ints, h]
/-- A slice of ints that may be read. -/
def IntRow (H : AH) (v : Value) (l : List Int) : Prop :=
  (v = .slice none 0 0 ∧ l = []) ∨ ∃ b o cs, v = .slice (some ⟨b, o, none⟩) l.length 1 ∧ rd H b = some cs ∧ o + l.length ≤ cs.length ∧ (cs.drop o).take l.length = ints l
def toI : Value → Int | .int _ n => n | _ => 0
def rowI (H : AH) : Value → List Int
  | .slice (some ⟨b, o, _⟩) n _ => ((((rd H b).getD []).drop o).take n).map toI
  | _ => []
def OkI (H : AH) (v : Value) : Prop := IntRow H v (rowI H v)
theorem IntRow.row {H : AH} {v : Value} {l : List Int} (h : IntRow H v l) : rowI H v = l := by
  rcases h with ⟨rfl, rfl⟩ | ⟨b, o, cs, rfl, h1, _, h2⟩
  · rfl
  · simp only [rowI, h1, Option.getD_some, h2, ints, List.map_map]
    have : (toI ∘ Value.int IntKind.i64) = id := by funext n; rfl
    rw [this, List.map_id]
theorem IntRow.ok {H : AH} {v : Value} {l : List Int} (h : IntRow H v l) : OkI H v := by
  unfold OkI; rw [h.row]; exact h
theorem IntRow.same {H H' : AH} {v : Value} {l : List Int} (h : IntRow H v l) (hs : ∀ b o n c, v = .slice (some ⟨b, o, none⟩) n c → rd H' b = rd H b) : IntRow H' v l := by
  rcases h with h | ⟨b, o, cs, h1, h2, h3, h4⟩
  · exact .inl h
  · exact .inr ⟨b, o, cs, h1, by rw [hs _ _ _ _ h1]; exact h2, h3, h4⟩
theorem IntRow.mono {H L : AH} {v : Value} {l : List Int} (h : IntRow H v l) : IntRow (H ++ L) v l := by
  rcases h with h | ⟨b, o, cs, h1, h2, h3, h4⟩
  · exact .inl h
  · exact .inr ⟨b, o, cs, h1, by rw [rdl (by simp [h2]), h2], h3, h4⟩
theorem OkI.mono {H L : AH} {v : Value} (h : OkI H v) : OkI (H ++ L) v := (IntRow.mono h).ok
theorem rowI_mono {H L : AH} {v : Value} (h : OkI H v) : rowI (H ++ L) v = rowI H v := (IntRow.mono h).row
theorem IntRow.op {H : AH} {v : Value} {l : List Int} (h : IntRow H v l) : ∃ a c, v = .slice a l.length c ∧ (0 < l.length → ∃ b o cs, a = some ⟨b, o, none⟩ ∧ c = 1 ∧ rd H b = some cs ∧ o + l.length ≤ cs.length ∧ ∀ i (hi : i < l.length), cs[o + i]? = some (.int .i64 l[i])) := by
  rcases h with ⟨rfl, rfl⟩ | ⟨b, o, cs, rfl, h1, h2, h3⟩
  · exact ⟨none, 0, rfl, fun h => by simp at h⟩
  · refine ⟨_, _, rfl, fun _ => ⟨b, o, cs, rfl, rfl, h1, h2, fun i hi => ?_⟩⟩
    have := ints_get hi
    rw [← h3, List.getElem?_take_of_lt hi, List.getElem?_drop] at this
    exact this
theorem OkI.nil {H : AH} : OkI H (.slice none 0 0) := .inl ⟨rfl, rfl⟩
theorem rowI_nil {H : AH} {n c : Nat} : rowI H (.slice none n c) = [] := rfl

theorem eqIntS_ok {H : AH} {v w : Value} {l m : List Int} (hv : IntRow H v l) (hw : IntRow H w m) (hl : l.length < 9223372036854775807) : CallsA Try.prog 70 #[v, w] H fun r H' => r = .bool (l == m) ∧ H' = H := by
  obtain ⟨a, c, rfl, gv⟩ := hv.op
  obtain ⟨a', c', rfl, gw⟩ := hw.op
  refine w70 ?_
  unfold k70
  simp -implicitDefEqProofs only [rE_seq_n, rE_seq_r, rE_seq_e, rE_blk_n, rE_blk_r, rE_blk_e, rW_skip, rW_ret, rW_exit, rW_ops, rW_seq, rW_block, ↓two_true, ↓two_false, rC_bool, rW_cond, rO_nil, rO_cons, oG_t, oG_f, oG_undef, rO_guard, oV_some, rOV_eq, oP_move, oP_assign, oP_bin, oP_un, oP_index, oP_fieldAddr, oP_field, oP_indexAddr, oP_slice, oP_load, oP_convert, aPick_true, aPick_false, aPick_bool, oP_pick, aExtract_tup, oP_extract, oP_nilCheck, oP_build, oP_len, oP_cap, oP_max, oP_min, oP_makeFunc, oS_some, oP_store, oA_some, oP_append, oM_some, oP_alloc, oP_box, oP_buildSlice, oP_makeSlice, oP_call, oP_callv, oF_func, aev_tmp, aev_const, aev_func, aput_get, aput_none, bin_add, bin_sub, bin_mul, bin_eql, bin_neq, bin_lss, bin_leq, bin_gtr, bin_geq, un_not, un_neg, tm0_get, fin_ret, fin_end, oR_some, resL_nil, resL_tmp, resL_cell, tup_one, tup_two, tup_nil, cond_true, cond_false, load_eq, Option.bind_some, mkv, List.length_append, List.length_cons, List.length_nil, List.append_assoc, List.cons_append, List.nil_append, rd0, rdi, wrt0, wrti, rdB_own, rdB_ro, wrB_own, oL_some, aggAt, sto_some, st0, sti, List.set_cons_zero, List.set_cons_succ, splice_nil, splice_cons, cells_agg, cells_int, cells_bool, cells_string, cells_pointer, cells_slice, leaf_int, leaf_bool, leaf_string, leaf_pointer, leaf_slice, List.size_toArray, List.all_cons, List.all_nil, Bool.and_self, Bool.and_true, and_self, true_and, and_true, Nat.zero_add, Nat.add_zero, Nat.reduceLeDiff, Nat.le_refl, List.drop_zero, List.drop_succ_cons, List.take_succ_cons, List.take_zero, oP_box, Nat.reduceSub, lp_end, lp_ret, lp_exit, oV_ite, oS_ite, oA_ite, slc_some, sls_some, optInt_none, optInt_some, rW_draw, rD_nil, rDV_eq, rDR_eq, rDE_eq, rDS_n, rDS_e, rD_load, rD_conv, rD_pure, rD_e, rD_g, rDG_t, rDG_f, rDG_undef, chkH_nil, chkH_cons, chkP_nil, chkP_cons, aRead_load, aRead_conv, isE_store, isE_call, isE_append, rDS_l, rDS_c, pl_move, pl_assign, pl_pick, pl_alloc, pl_box, pl_build, pl_buildSlice, pl_nilCheck, pl_binOp, pl_unOp, pl_makeFunc, pl_makeSlice, pl_slice, pl_fieldAddr, pl_field, pl_indexAddr, pl_index, pl_extract, pl_len, pl_cap, pl_max, pl_min, List.mem_cons, Prod.mk.injEq, List.not_mem_nil, or_false, or_true, false_or, true_or, and_false, false_and, false_implies, implies_true, true_implies, List.getElem?_toArray, List.getElem?_cons_zero, List.getElem?_cons_succ, List.getElem?_nil, Option.getD_some, Option.getD_none, Nat.reduceEqDiff, reduceIte, Nat.reduceAdd, List.map_toArray, List.map_cons, List.map_nil, Bool.false_eq_true, Nat.reduceBEq, Option.map_some, Option.map_none, reduceCtorEq, ix51, ld3, ln51]
  refine two_intro (fun h => ?_) (fun h => ?_)
  · have : (l == m) = false := by
      rw [beq_eq_false_iff_ne]
      rintro rfl
      simp at h
    rw [this]
  · have hlen : l.length = m.length := by simp at h; omega
    refine rW_loop (σ := Nat) (fun i tm H' => tm 0 = .slice a l.length c ∧ tm 1 = .slice a' m.length c' ∧ tm 5 = .int .i64 i ∧ H' = H ∧ i ≤ l.length ∧ ∀ j, j < i → l[j]? = m[j]?) (fun i => l.length - i) 0 ?_ ?_
    · simp -implicitDefEqProofs [rE_seq_n, rE_seq_r, rE_seq_e, rE_blk_n, rE_blk_r, rE_blk_e, rW_skip, rW_ret, rW_exit, rW_ops, rW_seq, rW_block, ↓two_true, ↓two_false, rC_bool, rW_cond, rO_nil, rO_cons, oG_t, oG_f, oG_undef, rO_guard, oV_some, rOV_eq, oP_move, oP_assign, oP_bin, oP_un, oP_index, oP_fieldAddr, oP_field, oP_indexAddr, oP_slice, oP_load, oP_convert, aPick_true, aPick_false, aPick_bool, oP_pick, aExtract_tup, oP_extract, oP_nilCheck, oP_build, oP_len, oP_cap, oP_max, oP_min, oP_makeFunc, oS_some, oP_store, oA_some, oP_append, oM_some, oP_alloc, oP_box, oP_buildSlice, oP_makeSlice, oP_call, oP_callv, oF_func, aev_tmp, aev_const, aev_func, aput_get, aput_none, bin_add, bin_sub, bin_mul, bin_eql, bin_neq, bin_lss, bin_leq, bin_gtr, bin_geq, un_not, un_neg, tm0_get, fin_ret, fin_end, oR_some, resL_nil, resL_tmp, resL_cell, tup_one, tup_two, tup_nil, cond_true, cond_false, load_eq, Option.bind_some, mkv, List.length_append, List.length_cons, List.length_nil, List.append_assoc, List.cons_append, List.nil_append, rd0, rdi, wrt0, wrti, rdB_own, rdB_ro, wrB_own, oL_some, aggAt, sto_some, st0, sti, List.set_cons_zero, List.set_cons_succ, splice_nil, splice_cons, cells_agg, cells_int, cells_bool, cells_string, cells_pointer, cells_slice, leaf_int, leaf_bool, leaf_string, leaf_pointer, leaf_slice, List.size_toArray, List.all_cons, List.all_nil, Bool.and_self, Bool.and_true, and_self, true_and, and_true, Nat.zero_add, Nat.add_zero, Nat.reduceLeDiff, Nat.le_refl, List.drop_zero, List.drop_succ_cons, List.take_succ_cons, List.take_zero, oP_box, Nat.reduceSub, lp_end, lp_ret, lp_exit, oV_ite, oS_ite, oA_ite, slc_some, sls_some, optInt_none, optInt_some, rW_draw, rD_nil, rDV_eq, rDR_eq, rDE_eq, rDS_n, rDS_e, rD_load, rD_conv, rD_pure, rD_e, rD_g, rDG_t, rDG_f, rDG_undef, chkH_nil, chkH_cons, chkP_nil, chkP_cons, aRead_load, aRead_conv, isE_store, isE_call, isE_append, rDS_l, rDS_c, pl_move, pl_assign, pl_pick, pl_alloc, pl_box, pl_build, pl_buildSlice, pl_nilCheck, pl_binOp, pl_unOp, pl_makeFunc, pl_makeSlice, pl_slice, pl_fieldAddr, pl_field, pl_indexAddr, pl_index, pl_extract, pl_len, pl_cap, pl_max, pl_min, List.mem_cons, Prod.mk.injEq, List.not_mem_nil, or_false, or_true, false_or, true_or, and_false, false_and, false_implies, implies_true, true_implies, List.getElem?_toArray, List.getElem?_cons_zero, List.getElem?_cons_succ, List.getElem?_nil, Option.getD_some, Option.getD_none, Nat.reduceEqDiff, reduceIte, Nat.reduceAdd, List.map_toArray, List.map_cons, List.map_nil, Bool.false_eq_true, Nat.reduceBEq, Option.map_some, Option.map_none, reduceCtorEq, ix51, ld3, ln51]
    · rintro i tm H' ⟨h0, h1, h5, rfl, hi, hn⟩
      simp -implicitDefEqProofs only [rE_seq_n, rE_seq_r, rE_seq_e, rE_blk_n, rE_blk_r, rE_blk_e, rW_skip, rW_ret, rW_exit, rW_ops, rW_seq, rW_block, ↓two_true, ↓two_false, rC_bool, rW_cond, rO_nil, rO_cons, oG_t, oG_f, oG_undef, rO_guard, oV_some, rOV_eq, oP_move, oP_assign, oP_bin, oP_un, oP_index, oP_fieldAddr, oP_field, oP_indexAddr, oP_slice, oP_load, oP_convert, aPick_true, aPick_false, aPick_bool, oP_pick, aExtract_tup, oP_extract, oP_nilCheck, oP_build, oP_len, oP_cap, oP_max, oP_min, oP_makeFunc, oS_some, oP_store, oA_some, oP_append, oM_some, oP_alloc, oP_box, oP_buildSlice, oP_makeSlice, oP_call, oP_callv, oF_func, aev_tmp, aev_const, aev_func, aput_get, aput_none, bin_add, bin_sub, bin_mul, bin_eql, bin_neq, bin_lss, bin_leq, bin_gtr, bin_geq, un_not, un_neg, tm0_get, fin_ret, fin_end, oR_some, resL_nil, resL_tmp, resL_cell, tup_one, tup_two, tup_nil, cond_true, cond_false, load_eq, Option.bind_some, mkv, List.length_append, List.length_cons, List.length_nil, List.append_assoc, List.cons_append, List.nil_append, rd0, rdi, wrt0, wrti, rdB_own, rdB_ro, wrB_own, oL_some, aggAt, sto_some, st0, sti, List.set_cons_zero, List.set_cons_succ, splice_nil, splice_cons, cells_agg, cells_int, cells_bool, cells_string, cells_pointer, cells_slice, leaf_int, leaf_bool, leaf_string, leaf_pointer, leaf_slice, List.size_toArray, List.all_cons, List.all_nil, Bool.and_self, Bool.and_true, and_self, true_and, and_true, Nat.zero_add, Nat.add_zero, Nat.reduceLeDiff, Nat.le_refl, List.drop_zero, List.drop_succ_cons, List.take_succ_cons, List.take_zero, oP_box, Nat.reduceSub, lp_end, lp_ret, lp_exit, oV_ite, oS_ite, oA_ite, slc_some, sls_some, optInt_none, optInt_some, rW_draw, rD_nil, rDV_eq, rDR_eq, rDE_eq, rDS_n, rDS_e, rD_load, rD_conv, rD_pure, rD_e, rD_g, rDG_t, rDG_f, rDG_undef, chkH_nil, chkH_cons, chkP_nil, chkP_cons, aRead_load, aRead_conv, isE_store, isE_call, isE_append, rDS_l, rDS_c, pl_move, pl_assign, pl_pick, pl_alloc, pl_box, pl_build, pl_buildSlice, pl_nilCheck, pl_binOp, pl_unOp, pl_makeFunc, pl_makeSlice, pl_slice, pl_fieldAddr, pl_field, pl_indexAddr, pl_index, pl_extract, pl_len, pl_cap, pl_max, pl_min, List.mem_cons, Prod.mk.injEq, List.not_mem_nil, or_false, or_true, false_or, true_or, and_false, false_and, false_implies, implies_true, true_implies, List.getElem?_toArray, List.getElem?_cons_zero, List.getElem?_cons_succ, List.getElem?_nil, Option.getD_some, Option.getD_none, Nat.reduceEqDiff, reduceIte, Nat.reduceAdd, List.map_toArray, List.map_cons, List.map_nil, Bool.false_eq_true, Nat.reduceBEq, Option.map_some, Option.map_none, reduceCtorEq, ix51, ld3, ln51, h0, h1, h5]
      refine two_intro (fun hc => ?_) (fun hc => ?_)
      · have hc' : i < l.length := by simpa using hc
        have hc2 : i < m.length := by omega
        obtain ⟨b, o, cs, rfl, rfl, hrd, _, hcell⟩ := gv (by omega)
        obtain ⟨b', o', cs', rfl, rfl, hrd', _, hcell'⟩ := gw (by omega)
        simp -implicitDefEqProofs only [rE_seq_n, rE_seq_r, rE_seq_e, rE_blk_n, rE_blk_r, rE_blk_e, rW_skip, rW_ret, rW_exit, rW_ops, rW_seq, rW_block, ↓two_true, ↓two_false, rC_bool, rW_cond, rO_nil, rO_cons, oG_t, oG_f, oG_undef, rO_guard, oV_some, rOV_eq, oP_move, oP_assign, oP_bin, oP_un, oP_index, oP_fieldAddr, oP_field, oP_indexAddr, oP_slice, oP_load, oP_convert, aPick_true, aPick_false, aPick_bool, oP_pick, aExtract_tup, oP_extract, oP_nilCheck, oP_build, oP_len, oP_cap, oP_max, oP_min, oP_makeFunc, oS_some, oP_store, oA_some, oP_append, oM_some, oP_alloc, oP_box, oP_buildSlice, oP_makeSlice, oP_call, oP_callv, oF_func, aev_tmp, aev_const, aev_func, aput_get, aput_none, bin_add, bin_sub, bin_mul, bin_eql, bin_neq, bin_lss, bin_leq, bin_gtr, bin_geq, un_not, un_neg, tm0_get, fin_ret, fin_end, oR_some, resL_nil, resL_tmp, resL_cell, tup_one, tup_two, tup_nil, cond_true, cond_false, load_eq, Option.bind_some, mkv, List.length_append, List.length_cons, List.length_nil, List.append_assoc, List.cons_append, List.nil_append, rd0, rdi, wrt0, wrti, rdB_own, rdB_ro, wrB_own, oL_some, aggAt, sto_some, st0, sti, List.set_cons_zero, List.set_cons_succ, splice_nil, splice_cons, cells_agg, cells_int, cells_bool, cells_string, cells_pointer, cells_slice, leaf_int, leaf_bool, leaf_string, leaf_pointer, leaf_slice, List.size_toArray, List.all_cons, List.all_nil, Bool.and_self, Bool.and_true, and_self, true_and, and_true, Nat.zero_add, Nat.add_zero, Nat.reduceLeDiff, Nat.le_refl, List.drop_zero, List.drop_succ_cons, List.take_succ_cons, List.take_zero, oP_box, Nat.reduceSub, lp_end, lp_ret, lp_exit, oV_ite, oS_ite, oA_ite, slc_some, sls_some, optInt_none, optInt_some, rW_draw, rD_nil, rDV_eq, rDR_eq, rDE_eq, rDS_n, rDS_e, rD_load, rD_conv, rD_pure, rD_e, rD_g, rDG_t, rDG_f, rDG_undef, chkH_nil, chkH_cons, chkP_nil, chkP_cons, aRead_load, aRead_conv, isE_store, isE_call, isE_append, rDS_l, rDS_c, pl_move, pl_assign, pl_pick, pl_alloc, pl_box, pl_build, pl_buildSlice, pl_nilCheck, pl_binOp, pl_unOp, pl_makeFunc, pl_makeSlice, pl_slice, pl_fieldAddr, pl_field, pl_indexAddr, pl_index, pl_extract, pl_len, pl_cap, pl_max, pl_min, List.mem_cons, Prod.mk.injEq, List.not_mem_nil, or_false, or_true, false_or, true_or, and_false, false_and, false_implies, implies_true, true_implies, List.getElem?_toArray, List.getElem?_cons_zero, List.getElem?_cons_succ, List.getElem?_nil, Option.getD_some, Option.getD_none, Nat.reduceEqDiff, reduceIte, Nat.reduceAdd, List.map_toArray, List.map_cons, List.map_nil, Bool.false_eq_true, Nat.reduceBEq, Option.map_some, Option.map_none, reduceCtorEq, ix51, ld3, ln51, h0, h1, h5, Int.toNat_natCast, Nat.mul_one, hrd, hrd', hcell i hc', hcell' i hc2, IntWalk.i64_in (↑i + 1) (by omega)]
        refine ⟨⟨by omega, by omega⟩, ⟨by omega, by omega⟩, two_intro (fun h => ?_) (fun h => ?_)⟩
        · have : (l == m) = false := by
            rw [beq_eq_false_iff_ne]
            rintro rfl
            simp at h
          rw [this]
        · refine ⟨i + 1, by omega, by simp, hc', fun j hj => ?_⟩
          rcases Nat.lt_or_ge j i with h1 | h1
          · exact hn j h1
          · have : j = i := by omega
            subst this
            simpa [hc', hc2] using h
      · have hc' : ¬ i < l.length := by simpa using hc
        have : (l == m) = true := by
          rw [beq_iff_eq]
          refine List.ext_getElem? fun j => ?_
          rcases Nat.lt_or_ge j i with h1 | h1
          · exact hn j h1
          · rw [List.getElem?_eq_none (by omega), List.getElem?_eq_none (by omega)]
        rw [this]
theorem eqIntS_eq {H : AH} {v w : Value} (hv : OkI H v) (hw : OkI H w) (hl : (rowI H v).length < 9223372036854775807) {Φ : Value → AH → Prop} : CallsA Try.prog 70 #[v, w] H Φ = Φ (.bool (rowI H v == rowI H w)) H := (eqIntS_ok hv hw hl).eq0

/-! ### rows that may be written -/
def OwnRow (H : AH) (v : Value) (l : List Int) : Prop :=
  (v = .slice none 0 0 ∧ l = []) ∨ ∃ b o cs, v = .slice (some ⟨b, o, none⟩) l.length 1 ∧ H[b]? = some ⟨cs, .own⟩ ∧ o + l.length ≤ cs.length ∧ (cs.drop o).take l.length = ints l
theorem rd_own {H : AH} {b : Nat} {cs : List Value} (h : H[b]? = some ⟨cs, .own⟩) : rd H b = some cs := by simp [rd, h, rdB]
theorem wrt_own {H : AH} {b : Nat} {cs : List Value} (h : H[b]? = some ⟨cs, .own⟩) : wrt H b = some cs := by simp [wrt, h, wrB]
theorem OwnRow.int {H : AH} {v : Value} {l : List Int} (h : OwnRow H v l) : IntRow H v l := by
  rcases h with h | ⟨b, o, cs, h1, h2, h3, h4⟩
  · exact .inl h
  · exact .inr ⟨b, o, cs, h1, rd_own h2, h3, h4⟩
def mks (k : Int) (n : Nat) : List Int := (List.range n).map fun (i : Nat) => k + (i : Int)
theorem mks_len {k : Int} {n : Nat} : (mks k n).length = n := by simp [mks]
theorem mks_get {k : Int} {n i : Nat} (h : i < n) : (mks k n)[i]? = some (k + i) := by simp [mks, h]
/-- The heap with other numbers in a row. -/
def putI (H : AH) (v : Value) (xs : List Int) : AH :=
  match v with
  | .slice (some ⟨b, o, _⟩) _ _ => H.set b ⟨splice ((wrt H b).getD []) o (ints xs), .own⟩
  | _ => H
def blkOf : Value → Option Nat
  | .slice (some ⟨b, _, _⟩) _ _ => some b
  | _ => none
theorem putI_len {H : AH} {v : Value} {xs : List Int} : (putI H v xs).length = H.length := by
  unfold putI; split <;> simp
theorem putI_get {H : AH} {v : Value} {xs : List Int} {b : Nat} (h : blkOf v ≠ some b) : (putI H v xs)[b]? = H[b]? := by
  unfold putI
  split
  · simp only [blkOf, ne_eq, Option.some.injEq] at h
    rw [List.getElem?_set_ne h]
  · rfl
theorem putI_rd {H : AH} {v : Value} {xs : List Int} {b : Nat} (h : blkOf v ≠ some b) : rd (putI H v xs) b = rd H b := by
  unfold rd; rw [putI_get h]
theorem splice_take {xs cs : List Value} {o : Nat} (h : o + xs.length ≤ cs.length) : ((splice cs o xs).drop o).take xs.length = xs := by
  refine List.ext_getElem? fun i => ?_
  rcases Nat.lt_or_ge i xs.length with h1 | h1
  · rw [List.getElem?_take_of_lt h1, List.getElem?_drop, splice_get xs cs o (o + i) h, if_pos (by omega), Nat.add_sub_cancel_left]
  · rw [List.getElem?_eq_none (by simp; omega), List.getElem?_eq_none (by omega)]
theorem OwnRow.put {H : AH} {v : Value} {l xs : List Int} (h : OwnRow H v l) (hx : xs.length = l.length) : OwnRow (putI H v xs) v xs := by
  rcases h with ⟨rfl, rfl⟩ | ⟨b, o, cs, rfl, h2, h3, h4⟩
  · exact .inl ⟨rfl, by cases xs <;> simp_all⟩
  · refine .inr ⟨b, o, splice cs o (ints xs), by rw [hx], ?_, ?_, ?_⟩
    · have hlt := (List.getElem?_eq_some_iff.1 h2).1
      simp only [putI, wrt_own h2, Option.getD_some]
      rw [List.getElem?_set_self hlt]
    · rw [splice_length]; omega
    · have := splice_take (xs := ints xs) (cs := cs) (o := o) (by simp [ints]; omega)
      rw [show (ints xs).length = xs.length by simp [ints]] at this
      exact this
theorem OwnRow.other {H : AH} {v w : Value} {l xs : List Int} (h : OwnRow H v l) (hb : blkOf v = none ∨ blkOf w ≠ blkOf v) : OwnRow (putI H w xs) v l := by
  rcases h with h | ⟨b, o, cs, rfl, h2, h3, h4⟩
  · exact .inl h
  · refine .inr ⟨b, o, cs, rfl, ?_, h3, h4⟩
    rw [putI_get]
    · exact h2
    · rcases hb with hb | hb
      · simp [blkOf] at hb
      · simpa [blkOf] using hb
theorem OwnRow.mono {H L : AH} {v : Value} {l : List Int} (h : OwnRow H v l) : OwnRow (H ++ L) v l := by
  rcases h with h | ⟨b, o, cs, h1, h2, h3, h4⟩
  · exact .inl h
  · exact .inr ⟨b, o, cs, h1, gtl h2, h3, h4⟩
theorem list_set_set {α : Type} {l : List α} {i : Nat} {a b : α} : (l.set i a).set i b = l.set i b := by simp
theorem splice_snoc {xs cs : List Value} {o : Nat} {v : Value} (h : o + xs.length < cs.length) : (splice cs o xs).set (o + xs.length) v = splice cs o (xs ++ [v]) := by
  refine List.ext_getElem? fun i => ?_
  rw [splice_get (xs ++ [v]) cs o i (by simp; omega), List.getElem?_set, splice_length, splice_get xs cs o i (by omega)]
  by_cases h1 : o + xs.length = i
  · subst h1
    rw [if_pos rfl, if_pos h, if_pos (by simp), Nat.add_sub_cancel_left]
    simp
  · rw [if_neg h1]
    by_cases h2 : o ≤ i ∧ i < o + xs.length
    · rw [if_pos h2, if_pos (by simp; omega), List.getElem?_append_left (by omega)]
    · rw [if_neg h2, if_neg (by simp; omega)]

theorem markIntS_ok {H : AH} {v : Value} {l : List Int} {k : Int} (hv : OwnRow H v l) (hl : l.length < 4611686018427387904) (hk : 0 ≤ k ∧ k < 4611686018427387904) : CallsA Try.prog 50 #[v, .int .i64 k] H fun r H' => r = .int .i64 (k + l.length) ∧ H' = putI H v (mks k l.length) := by
  obtain ⟨a, c, hv0, gv⟩ := hv.int.op
  subst hv0
  refine w50 ?_
  unfold k50
  simp -implicitDefEqProofs only [rE_seq_n, rE_seq_r, rE_seq_e, rE_blk_n, rE_blk_r, rE_blk_e, rW_skip, rW_ret, rW_exit, rW_ops, rW_seq, rW_block, ↓two_true, ↓two_false, rC_bool, rW_cond, rO_nil, rO_cons, oG_t, oG_f, oG_undef, rO_guard, oV_some, rOV_eq, oP_move, oP_assign, oP_bin, oP_un, oP_index, oP_fieldAddr, oP_field, oP_indexAddr, oP_slice, oP_load, oP_convert, aPick_true, aPick_false, aPick_bool, oP_pick, aExtract_tup, oP_extract, oP_nilCheck, oP_build, oP_len, oP_cap, oP_max, oP_min, oP_makeFunc, oS_some, oP_store, oA_some, oP_append, oM_some, oP_alloc, oP_box, oP_buildSlice, oP_makeSlice, oP_call, oP_callv, oF_func, aev_tmp, aev_const, aev_func, aput_get, aput_none, bin_add, bin_sub, bin_mul, bin_eql, bin_neq, bin_lss, bin_leq, bin_gtr, bin_geq, un_not, un_neg, tm0_get, fin_ret, fin_end, oR_some, resL_nil, resL_tmp, resL_cell, tup_one, tup_two, tup_nil, cond_true, cond_false, load_eq, Option.bind_some, mkv, List.length_append, List.length_cons, List.length_nil, List.append_assoc, List.cons_append, List.nil_append, rd0, rdi, wrt0, wrti, rdB_own, rdB_ro, wrB_own, oL_some, aggAt, sto_some, st0, sti, List.set_cons_zero, List.set_cons_succ, splice_nil, splice_cons, cells_agg, cells_int, cells_bool, cells_string, cells_pointer, cells_slice, leaf_int, leaf_bool, leaf_string, leaf_pointer, leaf_slice, List.size_toArray, List.all_cons, List.all_nil, Bool.and_self, Bool.and_true, and_self, true_and, and_true, Nat.zero_add, Nat.add_zero, Nat.reduceLeDiff, Nat.le_refl, List.drop_zero, List.drop_succ_cons, List.take_succ_cons, List.take_zero, oP_box, Nat.reduceSub, lp_end, lp_ret, lp_exit, oV_ite, oS_ite, oA_ite, slc_some, sls_some, optInt_none, optInt_some, rW_draw, rD_nil, rDV_eq, rDR_eq, rDE_eq, rDS_n, rDS_e, rD_load, rD_conv, rD_pure, rD_e, rD_g, rDG_t, rDG_f, rDG_undef, chkH_nil, chkH_cons, chkP_nil, chkP_cons, aRead_load, aRead_conv, isE_store, isE_call, isE_append, rDS_l, rDS_c, pl_move, pl_assign, pl_pick, pl_alloc, pl_box, pl_build, pl_buildSlice, pl_nilCheck, pl_binOp, pl_unOp, pl_makeFunc, pl_makeSlice, pl_slice, pl_fieldAddr, pl_field, pl_indexAddr, pl_index, pl_extract, pl_len, pl_cap, pl_max, pl_min, List.mem_cons, Prod.mk.injEq, List.not_mem_nil, or_false, or_true, false_or, true_or, and_false, false_and, false_implies, implies_true, true_implies, List.getElem?_toArray, List.getElem?_cons_zero, List.getElem?_cons_succ, List.getElem?_nil, Option.getD_some, Option.getD_none, Nat.reduceEqDiff, reduceIte, Nat.reduceAdd, List.map_toArray, List.map_cons, List.map_nil, Bool.false_eq_true, Nat.reduceBEq, Option.map_some, Option.map_none, reduceCtorEq, ix51, ln51, st3]
  refine rW_loop (σ := Nat) (fun i tm H' => tm 0 = .slice a l.length c ∧ tm 1 = .int .i64 (k + i) ∧ tm 5 = .int .i64 i ∧ H' = putI H (.slice a l.length c) (mks k i) ∧ i ≤ l.length) (fun i => l.length - i) 0 ?_ ?_
  · simp -implicitDefEqProofs [rE_seq_n, rE_seq_r, rE_seq_e, rE_blk_n, rE_blk_r, rE_blk_e, rW_skip, rW_ret, rW_exit, rW_ops, rW_seq, rW_block, ↓two_true, ↓two_false, rC_bool, rW_cond, rO_nil, rO_cons, oG_t, oG_f, oG_undef, rO_guard, oV_some, rOV_eq, oP_move, oP_assign, oP_bin, oP_un, oP_index, oP_fieldAddr, oP_field, oP_indexAddr, oP_slice, oP_load, oP_convert, aPick_true, aPick_false, aPick_bool, oP_pick, aExtract_tup, oP_extract, oP_nilCheck, oP_build, oP_len, oP_cap, oP_max, oP_min, oP_makeFunc, oS_some, oP_store, oA_some, oP_append, oM_some, oP_alloc, oP_box, oP_buildSlice, oP_makeSlice, oP_call, oP_callv, oF_func, aev_tmp, aev_const, aev_func, aput_get, aput_none, bin_add, bin_sub, bin_mul, bin_eql, bin_neq, bin_lss, bin_leq, bin_gtr, bin_geq, un_not, un_neg, tm0_get, fin_ret, fin_end, oR_some, resL_nil, resL_tmp, resL_cell, tup_one, tup_two, tup_nil, cond_true, cond_false, load_eq, Option.bind_some, mkv, List.length_append, List.length_cons, List.length_nil, List.append_assoc, List.cons_append, List.nil_append, rd0, rdi, wrt0, wrti, rdB_own, rdB_ro, wrB_own, oL_some, aggAt, sto_some, st0, sti, List.set_cons_zero, List.set_cons_succ, splice_nil, splice_cons, cells_agg, cells_int, cells_bool, cells_string, cells_pointer, cells_slice, leaf_int, leaf_bool, leaf_string, leaf_pointer, leaf_slice, List.size_toArray, List.all_cons, List.all_nil, Bool.and_self, Bool.and_true, and_self, true_and, and_true, Nat.zero_add, Nat.add_zero, Nat.reduceLeDiff, Nat.le_refl, List.drop_zero, List.drop_succ_cons, List.take_succ_cons, List.take_zero, oP_box, Nat.reduceSub, lp_end, lp_ret, lp_exit, oV_ite, oS_ite, oA_ite, slc_some, sls_some, optInt_none, optInt_some, rW_draw, rD_nil, rDV_eq, rDR_eq, rDE_eq, rDS_n, rDS_e, rD_load, rD_conv, rD_pure, rD_e, rD_g, rDG_t, rDG_f, rDG_undef, chkH_nil, chkH_cons, chkP_nil, chkP_cons, aRead_load, aRead_conv, isE_store, isE_call, isE_append, rDS_l, rDS_c, pl_move, pl_assign, pl_pick, pl_alloc, pl_box, pl_build, pl_buildSlice, pl_nilCheck, pl_binOp, pl_unOp, pl_makeFunc, pl_makeSlice, pl_slice, pl_fieldAddr, pl_field, pl_indexAddr, pl_index, pl_extract, pl_len, pl_cap, pl_max, pl_min, List.mem_cons, Prod.mk.injEq, List.not_mem_nil, or_false, or_true, false_or, true_or, and_false, false_and, false_implies, implies_true, true_implies, List.getElem?_toArray, List.getElem?_cons_zero, List.getElem?_cons_succ, List.getElem?_nil, Option.getD_some, Option.getD_none, Nat.reduceEqDiff, reduceIte, Nat.reduceAdd, List.map_toArray, List.map_cons, List.map_nil, Bool.false_eq_true, Nat.reduceBEq, Option.map_some, Option.map_none, reduceCtorEq, ix51, ln51, st3]
    rcases hv with ⟨h1, h2⟩ | ⟨b, o, cs, h1, h2, h3, h4⟩
    · simp at h1
      obtain ⟨rfl, rfl, rfl⟩ := h1
      rfl
    · simp at h1
      obtain ⟨rfl, rfl⟩ := h1
      simp only [putI, wrt_own h2, Option.getD_some]
      have : splice cs o (ints (mks k 0)) = cs := splice_nil
      rw [this]
      refine List.ext_getElem? fun i => ?_
      rw [List.getElem?_set]
      split
      · rename_i e
        subst e
        rw [if_pos (List.getElem?_eq_some_iff.1 h2).1, h2]
      · rfl
  · rintro i tm H' ⟨h0, h1, h5, rfl, hi⟩
    simp -implicitDefEqProofs only [rE_seq_n, rE_seq_r, rE_seq_e, rE_blk_n, rE_blk_r, rE_blk_e, rW_skip, rW_ret, rW_exit, rW_ops, rW_seq, rW_block, ↓two_true, ↓two_false, rC_bool, rW_cond, rO_nil, rO_cons, oG_t, oG_f, oG_undef, rO_guard, oV_some, rOV_eq, oP_move, oP_assign, oP_bin, oP_un, oP_index, oP_fieldAddr, oP_field, oP_indexAddr, oP_slice, oP_load, oP_convert, aPick_true, aPick_false, aPick_bool, oP_pick, aExtract_tup, oP_extract, oP_nilCheck, oP_build, oP_len, oP_cap, oP_max, oP_min, oP_makeFunc, oS_some, oP_store, oA_some, oP_append, oM_some, oP_alloc, oP_box, oP_buildSlice, oP_makeSlice, oP_call, oP_callv, oF_func, aev_tmp, aev_const, aev_func, aput_get, aput_none, bin_add, bin_sub, bin_mul, bin_eql, bin_neq, bin_lss, bin_leq, bin_gtr, bin_geq, un_not, un_neg, tm0_get, fin_ret, fin_end, oR_some, resL_nil, resL_tmp, resL_cell, tup_one, tup_two, tup_nil, cond_true, cond_false, load_eq, Option.bind_some, mkv, List.length_append, List.length_cons, List.length_nil, List.append_assoc, List.cons_append, List.nil_append, rd0, rdi, wrt0, wrti, rdB_own, rdB_ro, wrB_own, oL_some, aggAt, sto_some, st0, sti, List.set_cons_zero, List.set_cons_succ, splice_nil, splice_cons, cells_agg, cells_int, cells_bool, cells_string, cells_pointer, cells_slice, leaf_int, leaf_bool, leaf_string, leaf_pointer, leaf_slice, List.size_toArray, List.all_cons, List.all_nil, Bool.and_self, Bool.and_true, and_self, true_and, and_true, Nat.zero_add, Nat.add_zero, Nat.reduceLeDiff, Nat.le_refl, List.drop_zero, List.drop_succ_cons, List.take_succ_cons, List.take_zero, oP_box, Nat.reduceSub, lp_end, lp_ret, lp_exit, oV_ite, oS_ite, oA_ite, slc_some, sls_some, optInt_none, optInt_some, rW_draw, rD_nil, rDV_eq, rDR_eq, rDE_eq, rDS_n, rDS_e, rD_load, rD_conv, rD_pure, rD_e, rD_g, rDG_t, rDG_f, rDG_undef, chkH_nil, chkH_cons, chkP_nil, chkP_cons, aRead_load, aRead_conv, isE_store, isE_call, isE_append, rDS_l, rDS_c, pl_move, pl_assign, pl_pick, pl_alloc, pl_box, pl_build, pl_buildSlice, pl_nilCheck, pl_binOp, pl_unOp, pl_makeFunc, pl_makeSlice, pl_slice, pl_fieldAddr, pl_field, pl_indexAddr, pl_index, pl_extract, pl_len, pl_cap, pl_max, pl_min, List.mem_cons, Prod.mk.injEq, List.not_mem_nil, or_false, or_true, false_or, true_or, and_false, false_and, false_implies, implies_true, true_implies, List.getElem?_toArray, List.getElem?_cons_zero, List.getElem?_cons_succ, List.getElem?_nil, Option.getD_some, Option.getD_none, Nat.reduceEqDiff, reduceIte, Nat.reduceAdd, List.map_toArray, List.map_cons, List.map_nil, Bool.false_eq_true, Nat.reduceBEq, Option.map_some, Option.map_none, reduceCtorEq, ix51, ln51, st3, h0, h1, h5]
    refine two_intro (fun hc => ?_) (fun hc => ?_)
    · have hc' : i < l.length := by simpa using hc
      rcases hv with ⟨h2, h3⟩ | ⟨b, o, cs, h2, h3, h4, h6⟩
      · subst h3; simp at hc'
      · simp at h2
        obtain ⟨rfl, rfl⟩ := h2
        have hb : b < H.length := (List.getElem?_eq_some_iff.1 h3).1
        have hw : wrt (putI H (.slice (some ⟨b, o, none⟩) l.length 1) (mks k i)) b = some (splice cs o (ints (mks k i))) := by
          simp only [putI, wrt, wrB, h3, Option.getD_some]
          rw [List.getElem?_set_self hb]
        have hlen : (splice cs o (ints (mks k i))).length = cs.length := splice_length ..
        have hml : (ints (mks k i)).length = i := by simp [ints, mks]
        simp -implicitDefEqProofs only [rE_seq_n, rE_seq_r, rE_seq_e, rE_blk_n, rE_blk_r, rE_blk_e, rW_skip, rW_ret, rW_exit, rW_ops, rW_seq, rW_block, ↓two_true, ↓two_false, rC_bool, rW_cond, rO_nil, rO_cons, oG_t, oG_f, oG_undef, rO_guard, oV_some, rOV_eq, oP_move, oP_assign, oP_bin, oP_un, oP_index, oP_fieldAddr, oP_field, oP_indexAddr, oP_slice, oP_load, oP_convert, aPick_true, aPick_false, aPick_bool, oP_pick, aExtract_tup, oP_extract, oP_nilCheck, oP_build, oP_len, oP_cap, oP_max, oP_min, oP_makeFunc, oS_some, oP_store, oA_some, oP_append, oM_some, oP_alloc, oP_box, oP_buildSlice, oP_makeSlice, oP_call, oP_callv, oF_func, aev_tmp, aev_const, aev_func, aput_get, aput_none, bin_add, bin_sub, bin_mul, bin_eql, bin_neq, bin_lss, bin_leq, bin_gtr, bin_geq, un_not, un_neg, tm0_get, fin_ret, fin_end, oR_some, resL_nil, resL_tmp, resL_cell, tup_one, tup_two, tup_nil, cond_true, cond_false, load_eq, Option.bind_some, mkv, List.length_append, List.length_cons, List.length_nil, List.append_assoc, List.cons_append, List.nil_append, rd0, rdi, wrt0, wrti, rdB_own, rdB_ro, wrB_own, oL_some, aggAt, sto_some, st0, sti, List.set_cons_zero, List.set_cons_succ, splice_nil, splice_cons, cells_agg, cells_int, cells_bool, cells_string, cells_pointer, cells_slice, leaf_int, leaf_bool, leaf_string, leaf_pointer, leaf_slice, List.size_toArray, List.all_cons, List.all_nil, Bool.and_self, Bool.and_true, and_self, true_and, and_true, Nat.zero_add, Nat.add_zero, Nat.reduceLeDiff, Nat.le_refl, List.drop_zero, List.drop_succ_cons, List.take_succ_cons, List.take_zero, oP_box, Nat.reduceSub, lp_end, lp_ret, lp_exit, oV_ite, oS_ite, oA_ite, slc_some, sls_some, optInt_none, optInt_some, rW_draw, rD_nil, rDV_eq, rDR_eq, rDE_eq, rDS_n, rDS_e, rD_load, rD_conv, rD_pure, rD_e, rD_g, rDG_t, rDG_f, rDG_undef, chkH_nil, chkH_cons, chkP_nil, chkP_cons, aRead_load, aRead_conv, isE_store, isE_call, isE_append, rDS_l, rDS_c, pl_move, pl_assign, pl_pick, pl_alloc, pl_box, pl_build, pl_buildSlice, pl_nilCheck, pl_binOp, pl_unOp, pl_makeFunc, pl_makeSlice, pl_slice, pl_fieldAddr, pl_field, pl_indexAddr, pl_index, pl_extract, pl_len, pl_cap, pl_max, pl_min, List.mem_cons, Prod.mk.injEq, List.not_mem_nil, or_false, or_true, false_or, true_or, and_false, false_and, false_implies, implies_true, true_implies, List.getElem?_toArray, List.getElem?_cons_zero, List.getElem?_cons_succ, List.getElem?_nil, Option.getD_some, Option.getD_none, Nat.reduceEqDiff, reduceIte, Nat.reduceAdd, List.map_toArray, List.map_cons, List.map_nil, Bool.false_eq_true, Nat.reduceBEq, Option.map_some, Option.map_none, reduceCtorEq, ix51, ln51, st3, h0, h1, h5, Int.toNat_natCast, Nat.mul_one, hw, hlen, IntWalk.i64_in (↑i + 1) (by omega), IntWalk.i64_in (k + ↑i + 1) (by omega)]
        refine ⟨⟨by omega, by omega⟩, by omega, i + 1, by omega, ?_, by simp, ?_, hc'⟩
        · simp only [Int.natCast_add, Int.add_assoc]; rfl
        · have e1 : mks k (i + 1) = mks k i ++ [k + i] := by simp [mks, List.range_succ]
          have e2 : ints (mks k i ++ [k + i]) = ints (mks k i) ++ [.int .i64 (k + i)] := by simp [ints]
          have e3 := splice_snoc (xs := ints (mks k i)) (cs := cs) (o := o) (v := .int .i64 (k + i)) (by rw [hml]; omega)
          rw [hml] at e3
          simp only [putI, wrt_own h3, Option.getD_some]
          rw [e1, e2, ← e3, list_set_set]
    · have hc' : ¬ i < l.length := by simpa using hc
      have : i = l.length := by omega
      subst this
      exact ⟨rfl, rfl⟩
theorem markIntS_eq {H : AH} {v : Value} {k : Int} (hv : OwnRow H v (rowI H v)) (hl : (rowI H v).length < 4611686018427387904) (hk : 0 ≤ k ∧ k < 4611686018427387904) {Φ : Value → AH → Prop} : CallsA Try.prog 50 #[v, .int .i64 k] H Φ = Φ (.int .i64 (k + (rowI H v).length)) (putI H v (mks k (rowI H v).length)) := Ans.eq (markIntS_ok hv hl hk)
/-- What heldIntS answers. -/
def heldI (l : List Int) (k : Int) : Int := if l = mks k l.length then k + l.length else -1
theorem heldI_mks {k : Int} {n : Nat} : heldI (mks k n) k = k + n := by simp [heldI, mks_len]

theorem heldIntS_ok {H : AH} {v : Value} {l : List Int} {k : Int} (hv : IntRow H v l) (hl : l.length < 4611686018427387904) (hk : 0 ≤ k ∧ k < 4611686018427387904) : CallsA Try.prog 51 #[v, .int .i64 k] H fun r H' => r = .int .i64 (heldI l k) ∧ H' = H := by
  obtain ⟨a, c, rfl, gv⟩ := hv.op
  refine w51 ?_
  unfold k51
  simp -implicitDefEqProofs only [rE_seq_n, rE_seq_r, rE_seq_e, rE_blk_n, rE_blk_r, rE_blk_e, rW_skip, rW_ret, rW_exit, rW_ops, rW_seq, rW_block, ↓two_true, ↓two_false, rC_bool, rW_cond, rO_nil, rO_cons, oG_t, oG_f, oG_undef, rO_guard, oV_some, rOV_eq, oP_move, oP_assign, oP_bin, oP_un, oP_index, oP_fieldAddr, oP_field, oP_indexAddr, oP_slice, oP_load, oP_convert, aPick_true, aPick_false, aPick_bool, oP_pick, aExtract_tup, oP_extract, oP_nilCheck, oP_build, oP_len, oP_cap, oP_max, oP_min, oP_makeFunc, oS_some, oP_store, oA_some, oP_append, oM_some, oP_alloc, oP_box, oP_buildSlice, oP_makeSlice, oP_call, oP_callv, oF_func, aev_tmp, aev_const, aev_func, aput_get, aput_none, bin_add, bin_sub, bin_mul, bin_eql, bin_neq, bin_lss, bin_leq, bin_gtr, bin_geq, un_not, un_neg, tm0_get, fin_ret, fin_end, oR_some, resL_nil, resL_tmp, resL_cell, tup_one, tup_two, tup_nil, cond_true, cond_false, load_eq, Option.bind_some, mkv, List.length_append, List.length_cons, List.length_nil, List.append_assoc, List.cons_append, List.nil_append, rd0, rdi, wrt0, wrti, rdB_own, rdB_ro, wrB_own, oL_some, aggAt, sto_some, st0, sti, List.set_cons_zero, List.set_cons_succ, splice_nil, splice_cons, cells_agg, cells_int, cells_bool, cells_string, cells_pointer, cells_slice, leaf_int, leaf_bool, leaf_string, leaf_pointer, leaf_slice, List.size_toArray, List.all_cons, List.all_nil, Bool.and_self, Bool.and_true, and_self, true_and, and_true, Nat.zero_add, Nat.add_zero, Nat.reduceLeDiff, Nat.le_refl, List.drop_zero, List.drop_succ_cons, List.take_succ_cons, List.take_zero, oP_box, Nat.reduceSub, lp_end, lp_ret, lp_exit, oV_ite, oS_ite, oA_ite, slc_some, sls_some, optInt_none, optInt_some, rW_draw, rD_nil, rDV_eq, rDR_eq, rDE_eq, rDS_n, rDS_e, rD_load, rD_conv, rD_pure, rD_e, rD_g, rDG_t, rDG_f, rDG_undef, chkH_nil, chkH_cons, chkP_nil, chkP_cons, aRead_load, aRead_conv, isE_store, isE_call, isE_append, rDS_l, rDS_c, pl_move, pl_assign, pl_pick, pl_alloc, pl_box, pl_build, pl_buildSlice, pl_nilCheck, pl_binOp, pl_unOp, pl_makeFunc, pl_makeSlice, pl_slice, pl_fieldAddr, pl_field, pl_indexAddr, pl_index, pl_extract, pl_len, pl_cap, pl_max, pl_min, List.mem_cons, Prod.mk.injEq, List.not_mem_nil, or_false, or_true, false_or, true_or, and_false, false_and, false_implies, implies_true, true_implies, List.getElem?_toArray, List.getElem?_cons_zero, List.getElem?_cons_succ, List.getElem?_nil, Option.getD_some, Option.getD_none, Nat.reduceEqDiff, reduceIte, Nat.reduceAdd, List.map_toArray, List.map_cons, List.map_nil, Bool.false_eq_true, Nat.reduceBEq, Option.map_some, Option.map_none, reduceCtorEq, ix51, ld3, ln51]
  refine rW_loop (σ := Nat) (fun i tm H' => tm 0 = .slice a l.length c ∧ tm 1 = .int .i64 (k + i) ∧ tm 5 = .int .i64 i ∧ H' = H ∧ i ≤ l.length ∧ ∀ j, j < i → l[j]? = some (k + j)) (fun i => l.length - i) 0 ?_ ?_
  · simp -implicitDefEqProofs [rE_seq_n, rE_seq_r, rE_seq_e, rE_blk_n, rE_blk_r, rE_blk_e, rW_skip, rW_ret, rW_exit, rW_ops, rW_seq, rW_block, ↓two_true, ↓two_false, rC_bool, rW_cond, rO_nil, rO_cons, oG_t, oG_f, oG_undef, rO_guard, oV_some, rOV_eq, oP_move, oP_assign, oP_bin, oP_un, oP_index, oP_fieldAddr, oP_field, oP_indexAddr, oP_slice, oP_load, oP_convert, aPick_true, aPick_false, aPick_bool, oP_pick, aExtract_tup, oP_extract, oP_nilCheck, oP_build, oP_len, oP_cap, oP_max, oP_min, oP_makeFunc, oS_some, oP_store, oA_some, oP_append, oM_some, oP_alloc, oP_box, oP_buildSlice, oP_makeSlice, oP_call, oP_callv, oF_func, aev_tmp, aev_const, aev_func, aput_get, aput_none, bin_add, bin_sub, bin_mul, bin_eql, bin_neq, bin_lss, bin_leq, bin_gtr, bin_geq, un_not, un_neg, tm0_get, fin_ret, fin_end, oR_some, resL_nil, resL_tmp, resL_cell, tup_one, tup_two, tup_nil, cond_true, cond_false, load_eq, Option.bind_some, mkv, List.length_append, List.length_cons, List.length_nil, List.append_assoc, List.cons_append, List.nil_append, rd0, rdi, wrt0, wrti, rdB_own, rdB_ro, wrB_own, oL_some, aggAt, sto_some, st0, sti, List.set_cons_zero, List.set_cons_succ, splice_nil, splice_cons, cells_agg, cells_int, cells_bool, cells_string, cells_pointer, cells_slice, leaf_int, leaf_bool, leaf_string, leaf_pointer, leaf_slice, List.size_toArray, List.all_cons, List.all_nil, Bool.and_self, Bool.and_true, and_self, true_and, and_true, Nat.zero_add, Nat.add_zero, Nat.reduceLeDiff, Nat.le_refl, List.drop_zero, List.drop_succ_cons, List.take_succ_cons, List.take_zero, oP_box, Nat.reduceSub, lp_end, lp_ret, lp_exit, oV_ite, oS_ite, oA_ite, slc_some, sls_some, optInt_none, optInt_some, rW_draw, rD_nil, rDV_eq, rDR_eq, rDE_eq, rDS_n, rDS_e, rD_load, rD_conv, rD_pure, rD_e, rD_g, rDG_t, rDG_f, rDG_undef, chkH_nil, chkH_cons, chkP_nil, chkP_cons, aRead_load, aRead_conv, isE_store, isE_call, isE_append, rDS_l, rDS_c, pl_move, pl_assign, pl_pick, pl_alloc, pl_box, pl_build, pl_buildSlice, pl_nilCheck, pl_binOp, pl_unOp, pl_makeFunc, pl_makeSlice, pl_slice, pl_fieldAddr, pl_field, pl_indexAddr, pl_index, pl_extract, pl_len, pl_cap, pl_max, pl_min, List.mem_cons, Prod.mk.injEq, List.not_mem_nil, or_false, or_true, false_or, true_or, and_false, false_and, false_implies, implies_true, true_implies, List.getElem?_toArray, List.getElem?_cons_zero, List.getElem?_cons_succ, List.getElem?_nil, Option.getD_some, Option.getD_none, Nat.reduceEqDiff, reduceIte, Nat.reduceAdd, List.map_toArray, List.map_cons, List.map_nil, Bool.false_eq_true, Nat.reduceBEq, Option.map_some, Option.map_none, reduceCtorEq, ix51, ld3, ln51]
  · rintro i tm H' ⟨h0, h1, h5, rfl, hi, hn⟩
    simp -implicitDefEqProofs only [rE_seq_n, rE_seq_r, rE_seq_e, rE_blk_n, rE_blk_r, rE_blk_e, rW_skip, rW_ret, rW_exit, rW_ops, rW_seq, rW_block, ↓two_true, ↓two_false, rC_bool, rW_cond, rO_nil, rO_cons, oG_t, oG_f, oG_undef, rO_guard, oV_some, rOV_eq, oP_move, oP_assign, oP_bin, oP_un, oP_index, oP_fieldAddr, oP_field, oP_indexAddr, oP_slice, oP_load, oP_convert, aPick_true, aPick_false, aPick_bool, oP_pick, aExtract_tup, oP_extract, oP_nilCheck, oP_build, oP_len, oP_cap, oP_max, oP_min, oP_makeFunc, oS_some, oP_store, oA_some, oP_append, oM_some, oP_alloc, oP_box, oP_buildSlice, oP_makeSlice, oP_call, oP_callv, oF_func, aev_tmp, aev_const, aev_func, aput_get, aput_none, bin_add, bin_sub, bin_mul, bin_eql, bin_neq, bin_lss, bin_leq, bin_gtr, bin_geq, un_not, un_neg, tm0_get, fin_ret, fin_end, oR_some, resL_nil, resL_tmp, resL_cell, tup_one, tup_two, tup_nil, cond_true, cond_false, load_eq, Option.bind_some, mkv, List.length_append, List.length_cons, List.length_nil, List.append_assoc, List.cons_append, List.nil_append, rd0, rdi, wrt0, wrti, rdB_own, rdB_ro, wrB_own, oL_some, aggAt, sto_some, st0, sti, List.set_cons_zero, List.set_cons_succ, splice_nil, splice_cons, cells_agg, cells_int, cells_bool, cells_string, cells_pointer, cells_slice, leaf_int, leaf_bool, leaf_string, leaf_pointer, leaf_slice, List.size_toArray, List.all_cons, List.all_nil, Bool.and_self, Bool.and_true, and_self, true_and, and_true, Nat.zero_add, Nat.add_zero, Nat.reduceLeDiff, Nat.le_refl, List.drop_zero, List.drop_succ_cons, List.take_succ_cons, List.take_zero, oP_box, Nat.reduceSub, lp_end, lp_ret, lp_exit, oV_ite, oS_ite, oA_ite, slc_some, sls_some, optInt_none, optInt_some, rW_draw, rD_nil, rDV_eq, rDR_eq, rDE_eq, rDS_n, rDS_e, rD_load, rD_conv, rD_pure, rD_e, rD_g, rDG_t, rDG_f, rDG_undef, chkH_nil, chkH_cons, chkP_nil, chkP_cons, aRead_load, aRead_conv, isE_store, isE_call, isE_append, rDS_l, rDS_c, pl_move, pl_assign, pl_pick, pl_alloc, pl_box, pl_build, pl_buildSlice, pl_nilCheck, pl_binOp, pl_unOp, pl_makeFunc, pl_makeSlice, pl_slice, pl_fieldAddr, pl_field, pl_indexAddr, pl_index, pl_extract, pl_len, pl_cap, pl_max, pl_min, List.mem_cons, Prod.mk.injEq, List.not_mem_nil, or_false, or_true, false_or, true_or, and_false, false_and, false_implies, implies_true, true_implies, List.getElem?_toArray, List.getElem?_cons_zero, List.getElem?_cons_succ, List.getElem?_nil, Option.getD_some, Option.getD_none, Nat.reduceEqDiff, reduceIte, Nat.reduceAdd, List.map_toArray, List.map_cons, List.map_nil, Bool.false_eq_true, Nat.reduceBEq, Option.map_some, Option.map_none, reduceCtorEq, ix51, ld3, ln51, h0, h1, h5]
    refine two_intro (fun hc => ?_) (fun hc => ?_)
    · have hc' : i < l.length := by simpa using hc
      obtain ⟨b, o, cs, rfl, rfl, hrd, _, hcell⟩ := gv (by omega)
      simp -implicitDefEqProofs only [rE_seq_n, rE_seq_r, rE_seq_e, rE_blk_n, rE_blk_r, rE_blk_e, rW_skip, rW_ret, rW_exit, rW_ops, rW_seq, rW_block, ↓two_true, ↓two_false, rC_bool, rW_cond, rO_nil, rO_cons, oG_t, oG_f, oG_undef, rO_guard, oV_some, rOV_eq, oP_move, oP_assign, oP_bin, oP_un, oP_index, oP_fieldAddr, oP_field, oP_indexAddr, oP_slice, oP_load, oP_convert, aPick_true, aPick_false, aPick_bool, oP_pick, aExtract_tup, oP_extract, oP_nilCheck, oP_build, oP_len, oP_cap, oP_max, oP_min, oP_makeFunc, oS_some, oP_store, oA_some, oP_append, oM_some, oP_alloc, oP_box, oP_buildSlice, oP_makeSlice, oP_call, oP_callv, oF_func, aev_tmp, aev_const, aev_func, aput_get, aput_none, bin_add, bin_sub, bin_mul, bin_eql, bin_neq, bin_lss, bin_leq, bin_gtr, bin_geq, un_not, un_neg, tm0_get, fin_ret, fin_end, oR_some, resL_nil, resL_tmp, resL_cell, tup_one, tup_two, tup_nil, cond_true, cond_false, load_eq, Option.bind_some, mkv, List.length_append, List.length_cons, List.length_nil, List.append_assoc, List.cons_append, List.nil_append, rd0, rdi, wrt0, wrti, rdB_own, rdB_ro, wrB_own, oL_some, aggAt, sto_some, st0, sti, List.set_cons_zero, List.set_cons_succ, splice_nil, splice_cons, cells_agg, cells_int, cells_bool, cells_string, cells_pointer, cells_slice, leaf_int, leaf_bool, leaf_string, leaf_pointer, leaf_slice, List.size_toArray, List.all_cons, List.all_nil, Bool.and_self, Bool.and_true, and_self, true_and, and_true, Nat.zero_add, Nat.add_zero, Nat.reduceLeDiff, Nat.le_refl, List.drop_zero, List.drop_succ_cons, List.take_succ_cons, List.take_zero, oP_box, Nat.reduceSub, lp_end, lp_ret, lp_exit, oV_ite, oS_ite, oA_ite, slc_some, sls_some, optInt_none, optInt_some, rW_draw, rD_nil, rDV_eq, rDR_eq, rDE_eq, rDS_n, rDS_e, rD_load, rD_conv, rD_pure, rD_e, rD_g, rDG_t, rDG_f, rDG_undef, chkH_nil, chkH_cons, chkP_nil, chkP_cons, aRead_load, aRead_conv, isE_store, isE_call, isE_append, rDS_l, rDS_c, pl_move, pl_assign, pl_pick, pl_alloc, pl_box, pl_build, pl_buildSlice, pl_nilCheck, pl_binOp, pl_unOp, pl_makeFunc, pl_makeSlice, pl_slice, pl_fieldAddr, pl_field, pl_indexAddr, pl_index, pl_extract, pl_len, pl_cap, pl_max, pl_min, List.mem_cons, Prod.mk.injEq, List.not_mem_nil, or_false, or_true, false_or, true_or, and_false, false_and, false_implies, implies_true, true_implies, List.getElem?_toArray, List.getElem?_cons_zero, List.getElem?_cons_succ, List.getElem?_nil, Option.getD_some, Option.getD_none, Nat.reduceEqDiff, reduceIte, Nat.reduceAdd, List.map_toArray, List.map_cons, List.map_nil, Bool.false_eq_true, Nat.reduceBEq, Option.map_some, Option.map_none, reduceCtorEq, ix51, ld3, ln51, h0, h1, h5, Int.toNat_natCast, Nat.mul_one, hrd, hcell i hc', IntWalk.i64_in (↑i + 1) (by omega), IntWalk.i64_in (k + ↑i + 1) (by omega)]
      refine ⟨⟨by omega, by omega⟩, two_intro (fun h => ?_) (fun h => ?_)⟩
      · have : heldI l k = -1 := by
          unfold heldI
          rw [if_neg]
          intro e
          have e2 := congrArg (fun z : List Int => z[i]?) e
          simp only [mks_get hc', List.getElem?_eq_getElem hc', Option.some.injEq] at e2
          simp [e2] at h
        rw [this]
      · refine ⟨i + 1, by omega, ?_, by simp, hc', fun j hj => ?_⟩
        · simp only [Int.natCast_add, Int.add_assoc]; rfl
        · rcases Nat.lt_or_ge j i with h1 | h1
          · exact hn j h1
          · have : j = i := by omega
            subst this
            simpa [hc'] using h
    · have hc' : ¬ i < l.length := by simpa using hc
      have hil : i = l.length := by omega
      have : heldI l k = k + l.length := by
        unfold heldI
        rw [if_pos]
        refine List.ext_getElem? fun j => ?_
        rcases Nat.lt_or_ge j i with h1 | h1
        · rw [hn j h1, mks_get (by omega)]
        · rw [List.getElem?_eq_none (by omega), List.getElem?_eq_none (by rw [mks_len]; omega)]
      rw [this, hil]
theorem heldIntS_eq {H : AH} {v : Value} {k : Int} (hv : OkI H v) (hl : (rowI H v).length < 4611686018427387904) (hk : 0 ≤ k ∧ k < 4611686018427387904) {Φ : Value → AH → Prop} : CallsA Try.prog 51 #[v, .int .i64 k] H Φ = Φ (.int .i64 (heldI (rowI H v) k)) H := (heldIntS_ok hv hl hk).eq0

/-! ### rows of structs -/
/-- A slice of elements of 's' cells each, that may be read. -/
def SRow (H : AH) (v : Value) (s : Nat) (xs : List (List Value)) : Prop :=
  (v = .slice none 0 0 ∧ xs = []) ∨ ∃ b o cs, v = .slice (some ⟨b, o, none⟩) xs.length s ∧ rd H b = some cs ∧ o + xs.length * s ≤ cs.length ∧ ∀ (i : Nat) x, xs[i]? = some x → x.length = s ∧ ∀ (j : Nat) y, x[j]? = some y → cs[o + i * s + j]? = some y
def SOwn (H : AH) (v : Value) (s : Nat) (xs : List (List Value)) : Prop :=
  (v = .slice none 0 0 ∧ xs = []) ∨ ∃ b o cs, v = .slice (some ⟨b, o, none⟩) xs.length s ∧ H[b]? = some ⟨cs, .own⟩ ∧ o + xs.length * s ≤ cs.length ∧ ∀ (i : Nat) x, xs[i]? = some x → x.length = s ∧ ∀ (j : Nat) y, x[j]? = some y → cs[o + i * s + j]? = some y
theorem SOwn.row {H : AH} {v : Value} {s : Nat} {xs : List (List Value)} (h : SOwn H v s xs) : SRow H v s xs := by
  rcases h with h | ⟨b, o, cs, h1, h2, h3, h4⟩
  · exact .inl h
  · exact .inr ⟨b, o, cs, h1, rd_own h2, h3, h4⟩
theorem SRow.same {H H' : AH} {v : Value} {s : Nat} {xs : List (List Value)} (h : SRow H v s xs) (hs : ∀ b, blkOf v = some b → rd H' b = rd H b) : SRow H' v s xs := by
  rcases h with h | ⟨b, o, cs, h1, h2, h3, h4⟩
  · exact .inl h
  · exact .inr ⟨b, o, cs, h1, by rw [hs b (by rw [h1]; rfl)]; exact h2, h3, h4⟩
theorem SRow.mono {H L : AH} {v : Value} {s : Nat} {xs : List (List Value)} (h : SRow H v s xs) : SRow (H ++ L) v s xs := by
  rcases h with h | ⟨b, o, cs, h1, h2, h3, h4⟩
  · exact .inl h
  · exact .inr ⟨b, o, cs, h1, by rw [rdl (by simp [h2]), h2], h3, h4⟩
theorem SOwn.mono {H L : AH} {v : Value} {s : Nat} {xs : List (List Value)} (h : SOwn H v s xs) : SOwn (H ++ L) v s xs := by
  rcases h with h | ⟨b, o, cs, h1, h2, h3, h4⟩
  · exact .inl h
  · exact .inr ⟨b, o, cs, h1, gtl h2, h3, h4⟩
theorem SOwn.same {H H' : AH} {v : Value} {s : Nat} {xs : List (List Value)} (h : SOwn H v s xs) (hs : ∀ b, blkOf v = some b → H'[b]? = H[b]?) : SOwn H' v s xs := by
  rcases h with h | ⟨b, o, cs, h1, h2, h3, h4⟩
  · exact .inl h
  · exact .inr ⟨b, o, cs, h1, by rw [hs b (by rw [h1]; rfl)]; exact h2, h3, h4⟩
theorem row_idx {s i j i' j' : Nat} (h1 : j < s) (h2 : j' < s) (h : i * s + j = i' * s + j') : i = i' ∧ j = j' := by
  have hs : 0 < s := by omega
  have e1 : (i * s + j) / s = i := by rw [Nat.mul_comm, Nat.mul_add_div hs, Nat.div_eq_of_lt h1, Nat.add_zero]
  have e2 : (i' * s + j') / s = i' := by rw [Nat.mul_comm, Nat.mul_add_div hs, Nat.div_eq_of_lt h2, Nat.add_zero]
  have : i = i' := by rw [← e1, ← e2, h]
  subst this
  exact ⟨rfl, by omega⟩
theorem row_lt {s i n : Nat} (h : i < n) : i * s + s ≤ n * s := by
  have : (i + 1) * s ≤ n * s := Nat.mul_le_mul_right s h
  rw [Nat.add_mul, Nat.one_mul] at this
  exact this
theorem SRow.op {H : AH} {v : Value} {s : Nat} {xs : List (List Value)} (h : SRow H v s xs) : ∃ a c, v = .slice a xs.length c ∧ (0 < xs.length → ∃ b o cs, a = some ⟨b, o, none⟩ ∧ c = s ∧ rd H b = some cs ∧ o + xs.length * s ≤ cs.length ∧ ∀ (i : Nat) x, xs[i]? = some x → x.length = s ∧ ∀ (j : Nat) y, x[j]? = some y → cs[o + i * s + j]? = some y) := by
  rcases h with ⟨rfl, rfl⟩ | ⟨b, o, cs, rfl, h1, h2, h3⟩
  · exact ⟨none, 0, rfl, fun h => by simp at h⟩
  · exact ⟨_, _, rfl, fun _ => ⟨b, o, cs, rfl, rfl, h1, h2, h3⟩⟩
/-- A whole element. -/
theorem aggAt_row {cs x : List Value} {o s : Nat} (hx : x.length = s) (hlen : o + s ≤ cs.length) (h : ∀ (j : Nat) y, x[j]? = some y → cs[o + j]? = some y) : aggAt s o cs = some (.agg x.toArray) := by
  unfold aggAt
  rw [if_pos hlen]
  have : (cs.drop o).take s = x := by
    refine List.ext_getElem? fun j => ?_
    rcases Nat.lt_or_ge j s with h1 | h1
    · rw [List.getElem?_take_of_lt h1, List.getElem?_drop, h j _ (List.getElem?_eq_getElem (by omega))]
      exact (List.getElem?_eq_getElem (by omega)).symm
    · rw [List.getElem?_eq_none (by simp; omega), List.getElem?_eq_none (by omega)]
  rw [this]
/-- A cell of an element is written. -/
theorem SOwn.set {H : AH} {b o s : Nat} {cs : List Value} {xs : List (List Value)} {i j : Nat} {x : List Value} {y : Value} (hb : H[b]? = some ⟨cs, .own⟩) (hlen : o + xs.length * s ≤ cs.length)
    (hc : ∀ (i : Nat) x, xs[i]? = some x → x.length = s ∧ ∀ (j : Nat) y, x[j]? = some y → cs[o + i * s + j]? = some y) (hx : xs[i]? = some x) (hj : j < s) :
    SOwn (H.set b ⟨cs.set (o + i * s + j) y, .own⟩) (.slice (some ⟨b, o, none⟩) xs.length s) s (xs.set i (x.set j y)) := by
  have hbl : b < H.length := (List.getElem?_eq_some_iff.1 hb).1
  have hil : i < xs.length := (List.getElem?_eq_some_iff.1 hx).1
  refine .inr ⟨b, o, _, by simp, List.getElem?_set_self hbl, by simpa using hlen, ?_⟩
  intro i' x' hx'
  rw [List.getElem?_set] at hx'
  by_cases e : i = i'
  · subst e
    rw [if_pos rfl, if_pos hil] at hx'
    cases hx'
    have h0 := hc i x hx
    refine ⟨by simpa using h0.1, fun j' y' hy => ?_⟩
    rw [List.getElem?_set] at hy ⊢
    by_cases e2 : j = j'
    · subst e2
      rw [if_pos rfl, if_pos (by omega)] at hy
      cases hy
      have := row_lt (s := s) hil
      rw [if_pos rfl, if_pos (by omega)]
    · rw [if_neg e2] at hy
      rw [if_neg (by omega)]
      exact h0.2 j' y' hy
  · rw [if_neg e] at hx'
    have h0 := hc i' x' hx'
    refine ⟨h0.1, fun j' y' hy => ?_⟩
    have hj' : j' < s := by rw [← h0.1]; exact (List.getElem?_eq_some_iff.1 hy).1
    rw [List.getElem?_set, if_neg (fun h => e (row_idx hj hj' (by omega)).1)]
    exact h0.2 j' y' hy
/-! ### arrays -/
/-- What an array's two rows say. -/
structure Arr where
  sh : List Int
  dt : List Int
  deriving DecidableEq
def beqA (a b : Arr) : Bool := a.sh == b.sh && a.dt == b.dt
theorem beqA_iff {a b : Arr} : beqA a b = true ↔ a = b := by
  cases a; cases b; simp [beqA]

theorem eqArray_ok {H : AH} {p q p' q' : Value} (hp : OkI H p) (hq : OkI H q) (hp' : OkI H p') (hq' : OkI H q') (l1 : (rowI H p).length < 9223372036854775807) (l2 : (rowI H q).length < 9223372036854775807) :
    CallsA Try.prog 36 #[.agg #[p, q], .agg #[p', q']] H fun r H' => r = .bool (rowI H p == rowI H p' && rowI H q == rowI H q') ∧ ∃ K, H' = H ++ K := by
  refine w36 ?_
  unfold k36
  simp -implicitDefEqProofs only [rE_seq_n, rE_seq_r, rE_seq_e, rE_blk_n, rE_blk_r, rE_blk_e, rW_skip, rW_ret, rW_exit, rW_ops, rW_seq, rW_block, ↓two_true, ↓two_false, rC_bool, rW_cond, rO_nil, rO_cons, oG_t, oG_f, oG_undef, rO_guard, oV_some, rOV_eq, oP_move, oP_assign, oP_bin, oP_un, oP_index, oP_fieldAddr, oP_field, oP_indexAddr, oP_slice, oP_load, oP_convert, aPick_true, aPick_false, aPick_bool, oP_pick, aExtract_tup, oP_extract, oP_nilCheck, oP_build, oP_len, oP_cap, oP_max, oP_min, oP_makeFunc, oS_some, oP_store, oA_some, oP_append, oM_some, oP_alloc, oP_box, oP_buildSlice, oP_makeSlice, oP_call, oP_callv, oF_func, aev_tmp, aev_const, aev_func, aput_get, aput_none, bin_add, bin_sub, bin_mul, bin_eql, bin_neq, bin_lss, bin_leq, bin_gtr, bin_geq, un_not, un_neg, tm0_get, fin_ret, fin_end, oR_some, resL_nil, resL_tmp, resL_cell, tup_one, tup_two, tup_nil, cond_true, cond_false, load_eq, Option.bind_some, mkv, List.length_append, List.length_cons, List.length_nil, List.append_assoc, List.cons_append, List.nil_append, rd0, rdi, wrt0, wrti, rdB_own, rdB_ro, wrB_own, oL_some, aggAt, sto_some, st0, sti, List.set_cons_zero, List.set_cons_succ, splice_nil, splice_cons, cells_agg, cells_int, cells_bool, cells_string, cells_pointer, cells_slice, leaf_int, leaf_bool, leaf_string, leaf_pointer, leaf_slice, List.size_toArray, List.all_cons, List.all_nil, Bool.and_self, Bool.and_true, and_self, true_and, and_true, Nat.zero_add, Nat.add_zero, Nat.reduceLeDiff, Nat.le_refl, List.drop_zero, List.drop_succ_cons, List.take_succ_cons, List.take_zero, oP_box, Nat.reduceSub, lp_end, lp_ret, lp_exit, oV_ite, oS_ite, oA_ite, slc_some, sls_some, optInt_none, optInt_some, rW_draw, rD_nil, rDV_eq, rDR_eq, rDE_eq, rDS_n, rDS_e, rD_load, rD_conv, rD_pure, rD_e, rD_g, rDG_t, rDG_f, rDG_undef, chkH_nil, chkH_cons, chkP_nil, chkP_cons, aRead_load, aRead_conv, isE_store, isE_call, isE_append, rDS_l, rDS_c, pl_move, pl_assign, pl_pick, pl_alloc, pl_box, pl_build, pl_buildSlice, pl_nilCheck, pl_binOp, pl_unOp, pl_makeFunc, pl_makeSlice, pl_slice, pl_fieldAddr, pl_field, pl_indexAddr, pl_index, pl_extract, pl_len, pl_cap, pl_max, pl_min, List.mem_cons, Prod.mk.injEq, List.not_mem_nil, or_false, or_true, false_or, true_or, and_false, false_and, false_implies, implies_true, true_implies, List.getElem?_toArray, List.getElem?_cons_zero, List.getElem?_cons_succ, List.getElem?_nil, Option.getD_some, Option.getD_none, Nat.reduceEqDiff, reduceIte, Nat.reduceAdd, List.map_toArray, List.map_cons, List.map_nil, Bool.false_eq_true, Nat.reduceBEq, Option.map_some, Option.map_none, reduceCtorEq, fa55_0, fa55_1, ld51, eqIntS_eq, hp, hq, hp', hq', OkI.mono, rowI_mono, l1, l2]
  simp +contextual [two]
theorem eqArray_eq {H : AH} {p q p' q' : Value} (hp : OkI H p) (hq : OkI H q) (hp' : OkI H p') (hq' : OkI H q') (l1 : (rowI H p).length < 9223372036854775807) (l2 : (rowI H q).length < 9223372036854775807) {Φ : Value → AH → Prop} :
    CallsA Try.prog 36 #[.agg #[p, q], .agg #[p', q']] H Φ = Φ (.bool (rowI H p == rowI H p' && rowI H q == rowI H q')) (H ++ jk Try.prog 36 #[.agg #[p, q], .agg #[p', q']] H) := (eqArray_ok hp hq hp' hq' l1 l2).eqV

theorem eqVar_ok {H : AH} {s s' : Bool} {p q p' q' : Value} (hp : OkI H p) (hq : OkI H q) (hp' : OkI H p') (hq' : OkI H q') (l1 : (rowI H p).length < 9223372036854775807) (l2 : (rowI H q).length < 9223372036854775807) :
    CallsA Try.prog 49 #[.agg #[.bool s, p, q], .agg #[.bool s', p', q']] H fun r H' => r = .bool (s == s' && (rowI H p == rowI H p' && rowI H q == rowI H q')) ∧ ∃ K, H' = H ++ K := by
  refine w49 ?_
  unfold k49
  simp -implicitDefEqProofs only [rE_seq_n, rE_seq_r, rE_seq_e, rE_blk_n, rE_blk_r, rE_blk_e, rW_skip, rW_ret, rW_exit, rW_ops, rW_seq, rW_block, ↓two_true, ↓two_false, rC_bool, rW_cond, rO_nil, rO_cons, oG_t, oG_f, oG_undef, rO_guard, oV_some, rOV_eq, oP_move, oP_assign, oP_bin, oP_un, oP_index, oP_fieldAddr, oP_field, oP_indexAddr, oP_slice, oP_load, oP_convert, aPick_true, aPick_false, aPick_bool, oP_pick, aExtract_tup, oP_extract, oP_nilCheck, oP_build, oP_len, oP_cap, oP_max, oP_min, oP_makeFunc, oS_some, oP_store, oA_some, oP_append, oM_some, oP_alloc, oP_box, oP_buildSlice, oP_makeSlice, oP_call, oP_callv, oF_func, aev_tmp, aev_const, aev_func, aput_get, aput_none, bin_add, bin_sub, bin_mul, bin_eql, bin_neq, bin_lss, bin_leq, bin_gtr, bin_geq, un_not, un_neg, tm0_get, fin_ret, fin_end, oR_some, resL_nil, resL_tmp, resL_cell, tup_one, tup_two, tup_nil, cond_true, cond_false, load_eq, Option.bind_some, mkv, List.length_append, List.length_cons, List.length_nil, List.append_assoc, List.cons_append, List.nil_append, rd0, rdi, wrt0, wrti, rdB_own, rdB_ro, wrB_own, oL_some, aggAt, sto_some, st0, sti, List.set_cons_zero, List.set_cons_succ, splice_nil, splice_cons, cells_agg, cells_int, cells_bool, cells_string, cells_pointer, cells_slice, leaf_int, leaf_bool, leaf_string, leaf_pointer, leaf_slice, List.size_toArray, List.all_cons, List.all_nil, Bool.and_self, Bool.and_true, and_self, true_and, and_true, Nat.zero_add, Nat.add_zero, Nat.reduceLeDiff, Nat.le_refl, List.drop_zero, List.drop_succ_cons, List.take_succ_cons, List.take_zero, oP_box, Nat.reduceSub, lp_end, lp_ret, lp_exit, oV_ite, oS_ite, oA_ite, slc_some, sls_some, optInt_none, optInt_some, rW_draw, rD_nil, rDV_eq, rDR_eq, rDE_eq, rDS_n, rDS_e, rD_load, rD_conv, rD_pure, rD_e, rD_g, rDG_t, rDG_f, rDG_undef, chkH_nil, chkH_cons, chkP_nil, chkP_cons, aRead_load, aRead_conv, isE_store, isE_call, isE_append, rDS_l, rDS_c, pl_move, pl_assign, pl_pick, pl_alloc, pl_box, pl_build, pl_buildSlice, pl_nilCheck, pl_binOp, pl_unOp, pl_makeFunc, pl_makeSlice, pl_slice, pl_fieldAddr, pl_field, pl_indexAddr, pl_index, pl_extract, pl_len, pl_cap, pl_max, pl_min, List.mem_cons, Prod.mk.injEq, List.not_mem_nil, or_false, or_true, false_or, true_or, and_false, false_and, false_implies, implies_true, true_implies, List.getElem?_toArray, List.getElem?_cons_zero, List.getElem?_cons_succ, List.getElem?_nil, Option.getD_some, Option.getD_none, Nat.reduceEqDiff, reduceIte, Nat.reduceAdd, List.map_toArray, List.map_cons, List.map_nil, Bool.false_eq_true, Nat.reduceBEq, Option.map_some, Option.map_none, reduceCtorEq, fa67_0, fa67_1, ld4, ld55, (bin_bool_eql ub4), (bin_bool_neq ub4), eqArray_eq, hp, hq, hp', hq', OkI.mono, rowI_mono, l1, l2]
  simp +contextual [two]
  rintro - (h | h) g
  · exact absurd g h
  · exact h
theorem eqVar_eq {H : AH} {s s' : Bool} {p q p' q' : Value} (hp : OkI H p) (hq : OkI H q) (hp' : OkI H p') (hq' : OkI H q') (l1 : (rowI H p).length < 9223372036854775807) (l2 : (rowI H q).length < 9223372036854775807) {Φ : Value → AH → Prop} :
    CallsA Try.prog 49 #[.agg #[.bool s, p, q], .agg #[.bool s', p', q']] H Φ = Φ (.bool (s == s' && (rowI H p == rowI H p' && rowI H q == rowI H q'))) (H ++ jk Try.prog 49 #[.agg #[.bool s, p, q], .agg #[.bool s', p', q']] H) := (eqVar_ok hp hq hp' hq' l1 l2).eqV

/-- Vars, as cells: each letter's flag and its array's two rows. -/
abbrev VR3 := Bool × Value × Value
def vcells (x : VR3) : List Value := [.bool x.1, x.2.1, x.2.2]
def OkV (H : AH) (x : VR3) : Prop := OkI H x.2.1 ∧ OkI H x.2.2 ∧ (rowI H x.2.1).length < 4611686018427387904 ∧ (rowI H x.2.2).length < 4611686018427387904
theorem OkV.mono {H L : AH} {x : VR3} (h : OkV H x) : OkV (H ++ L) x := ⟨h.1.mono, h.2.1.mono, by rw [rowI_mono h.1]; exact h.2.2.1, by rw [rowI_mono h.2.1]; exact h.2.2.2⟩
/-- What a letter is. -/
def vval (H : AH) (x : VR3) : Bool × List Int × List Int := (x.1, rowI H x.2.1, rowI H x.2.2)
theorem vval_mono {H L : AH} {x : VR3} (h : OkV H x) : vval (H ++ L) x = vval H x := by
  unfold vval; rw [rowI_mono h.1, rowI_mono h.2.1]
theorem eqVarS_ok {H : AH} {v w : Value} {xs ys : List VR3} (hv : SRow H v 3 (xs.map vcells)) (hw : SRow H w 3 (ys.map vcells)) (hx : ∀ x ∈ xs, OkV H x) (hy : ∀ y ∈ ys, OkV H y) (hl : xs.length < 4611686018427387904) :
    CallsA Try.prog 20 #[v, w] H fun r H' => r = .bool (xs.map (vval H) == ys.map (vval H)) ∧ ∃ K, H' = H ++ K := by
  obtain ⟨a, c, rfl, gv⟩ := hv.op
  obtain ⟨a', c', rfl, gw⟩ := hw.op
  refine w20 ?_
  unfold k20
  simp -implicitDefEqProofs only [rE_seq_n, rE_seq_r, rE_seq_e, rE_blk_n, rE_blk_r, rE_blk_e, rW_skip, rW_ret, rW_exit, rW_ops, rW_seq, rW_block, ↓two_true, ↓two_false, rC_bool, rW_cond, rO_nil, rO_cons, oG_t, oG_f, oG_undef, rO_guard, oV_some, rOV_eq, oP_move, oP_assign, oP_bin, oP_un, oP_index, oP_fieldAddr, oP_field, oP_indexAddr, oP_slice, oP_load, oP_convert, aPick_true, aPick_false, aPick_bool, oP_pick, aExtract_tup, oP_extract, oP_nilCheck, oP_build, oP_len, oP_cap, oP_max, oP_min, oP_makeFunc, oS_some, oP_store, oA_some, oP_append, oM_some, oP_alloc, oP_box, oP_buildSlice, oP_makeSlice, oP_call, oP_callv, oF_func, aev_tmp, aev_const, aev_func, aput_get, aput_none, bin_add, bin_sub, bin_mul, bin_eql, bin_neq, bin_lss, bin_leq, bin_gtr, bin_geq, un_not, un_neg, tm0_get, fin_ret, fin_end, oR_some, resL_nil, resL_tmp, resL_cell, tup_one, tup_two, tup_nil, cond_true, cond_false, load_eq, Option.bind_some, mkv, List.length_append, List.length_cons, List.length_nil, List.append_assoc, List.cons_append, List.nil_append, rd0, rdi, wrt0, wrti, rdB_own, rdB_ro, wrB_own, oL_some, aggAt, sto_some, st0, sti, List.set_cons_zero, List.set_cons_succ, splice_nil, splice_cons, cells_agg, cells_int, cells_bool, cells_string, cells_pointer, cells_slice, leaf_int, leaf_bool, leaf_string, leaf_pointer, leaf_slice, List.size_toArray, List.all_cons, List.all_nil, Bool.and_self, Bool.and_true, and_self, true_and, and_true, Nat.zero_add, Nat.add_zero, Nat.reduceLeDiff, Nat.le_refl, List.drop_zero, List.drop_succ_cons, List.take_succ_cons, List.take_zero, oP_box, Nat.reduceSub, lp_end, lp_ret, lp_exit, oV_ite, oS_ite, oA_ite, slc_some, sls_some, optInt_none, optInt_some, rW_draw, rD_nil, rDV_eq, rDR_eq, rDE_eq, rDS_n, rDS_e, rD_load, rD_conv, rD_pure, rD_e, rD_g, rDG_t, rDG_f, rDG_undef, chkH_nil, chkH_cons, chkP_nil, chkP_cons, aRead_load, aRead_conv, isE_store, isE_call, isE_append, rDS_l, rDS_c, pl_move, pl_assign, pl_pick, pl_alloc, pl_box, pl_build, pl_buildSlice, pl_nilCheck, pl_binOp, pl_unOp, pl_makeFunc, pl_makeSlice, pl_slice, pl_fieldAddr, pl_field, pl_indexAddr, pl_index, pl_extract, pl_len, pl_cap, pl_max, pl_min, List.mem_cons, Prod.mk.injEq, List.not_mem_nil, or_false, or_true, false_or, true_or, and_false, false_and, false_implies, implies_true, true_implies, List.getElem?_toArray, List.getElem?_cons_zero, List.getElem?_cons_succ, List.getElem?_nil, Option.getD_some, Option.getD_none, Nat.reduceEqDiff, reduceIte, Nat.reduceAdd, List.map_toArray, List.map_cons, List.map_nil, Bool.false_eq_true, Nat.reduceBEq, Option.map_some, Option.map_none, reduceCtorEq, ix34, ld67, ln34]
  simp only [List.length_map] at gv gw ⊢
  refine two_intro (fun h => ?_) (fun h => ?_)
  · have : (xs.map (vval H) == ys.map (vval H)) = false := by
      rw [beq_eq_false_iff_ne]
      intro e
      have := congrArg List.length e
      simp at this h
      omega
    rw [this]
    exact ⟨rfl, [], by simp⟩
  · have hlen : xs.length = ys.length := by simp at h; omega
    refine rW_loop (σ := Nat) (fun i tm H' => tm 0 = .slice a xs.length c ∧ tm 1 = .slice a' ys.length c' ∧ tm 5 = .int .i64 i ∧ (∃ K, H' = H ++ K) ∧ i ≤ xs.length ∧ ∀ j, j < i → (xs[j]?).map (vval H) = (ys[j]?).map (vval H)) (fun i => xs.length - i) 0 ?_ ?_
    · simp -implicitDefEqProofs [rE_seq_n, rE_seq_r, rE_seq_e, rE_blk_n, rE_blk_r, rE_blk_e, rW_skip, rW_ret, rW_exit, rW_ops, rW_seq, rW_block, ↓two_true, ↓two_false, rC_bool, rW_cond, rO_nil, rO_cons, oG_t, oG_f, oG_undef, rO_guard, oV_some, rOV_eq, oP_move, oP_assign, oP_bin, oP_un, oP_index, oP_fieldAddr, oP_field, oP_indexAddr, oP_slice, oP_load, oP_convert, aPick_true, aPick_false, aPick_bool, oP_pick, aExtract_tup, oP_extract, oP_nilCheck, oP_build, oP_len, oP_cap, oP_max, oP_min, oP_makeFunc, oS_some, oP_store, oA_some, oP_append, oM_some, oP_alloc, oP_box, oP_buildSlice, oP_makeSlice, oP_call, oP_callv, oF_func, aev_tmp, aev_const, aev_func, aput_get, aput_none, bin_add, bin_sub, bin_mul, bin_eql, bin_neq, bin_lss, bin_leq, bin_gtr, bin_geq, un_not, un_neg, tm0_get, fin_ret, fin_end, oR_some, resL_nil, resL_tmp, resL_cell, tup_one, tup_two, tup_nil, cond_true, cond_false, load_eq, Option.bind_some, mkv, List.length_append, List.length_cons, List.length_nil, List.append_assoc, List.cons_append, List.nil_append, rd0, rdi, wrt0, wrti, rdB_own, rdB_ro, wrB_own, oL_some, aggAt, sto_some, st0, sti, List.set_cons_zero, List.set_cons_succ, splice_nil, splice_cons, cells_agg, cells_int, cells_bool, cells_string, cells_pointer, cells_slice, leaf_int, leaf_bool, leaf_string, leaf_pointer, leaf_slice, List.size_toArray, List.all_cons, List.all_nil, Bool.and_self, Bool.and_true, and_self, true_and, and_true, Nat.zero_add, Nat.add_zero, Nat.reduceLeDiff, Nat.le_refl, List.drop_zero, List.drop_succ_cons, List.take_succ_cons, List.take_zero, oP_box, Nat.reduceSub, lp_end, lp_ret, lp_exit, oV_ite, oS_ite, oA_ite, slc_some, sls_some, optInt_none, optInt_some, rW_draw, rD_nil, rDV_eq, rDR_eq, rDE_eq, rDS_n, rDS_e, rD_load, rD_conv, rD_pure, rD_e, rD_g, rDG_t, rDG_f, rDG_undef, chkH_nil, chkH_cons, chkP_nil, chkP_cons, aRead_load, aRead_conv, isE_store, isE_call, isE_append, rDS_l, rDS_c, pl_move, pl_assign, pl_pick, pl_alloc, pl_box, pl_build, pl_buildSlice, pl_nilCheck, pl_binOp, pl_unOp, pl_makeFunc, pl_makeSlice, pl_slice, pl_fieldAddr, pl_field, pl_indexAddr, pl_index, pl_extract, pl_len, pl_cap, pl_max, pl_min, List.mem_cons, Prod.mk.injEq, List.not_mem_nil, or_false, or_true, false_or, true_or, and_false, false_and, false_implies, implies_true, true_implies, List.getElem?_toArray, List.getElem?_cons_zero, List.getElem?_cons_succ, List.getElem?_nil, Option.getD_some, Option.getD_none, Nat.reduceEqDiff, reduceIte, Nat.reduceAdd, List.map_toArray, List.map_cons, List.map_nil, Bool.false_eq_true, Nat.reduceBEq, Option.map_some, Option.map_none, reduceCtorEq, ix34, ld67, ln34]
    · rintro i tm H' ⟨h0, h1, h5, ⟨K, rfl⟩, hi, hn⟩
      simp -implicitDefEqProofs only [rE_seq_n, rE_seq_r, rE_seq_e, rE_blk_n, rE_blk_r, rE_blk_e, rW_skip, rW_ret, rW_exit, rW_ops, rW_seq, rW_block, ↓two_true, ↓two_false, rC_bool, rW_cond, rO_nil, rO_cons, oG_t, oG_f, oG_undef, rO_guard, oV_some, rOV_eq, oP_move, oP_assign, oP_bin, oP_un, oP_index, oP_fieldAddr, oP_field, oP_indexAddr, oP_slice, oP_load, oP_convert, aPick_true, aPick_false, aPick_bool, oP_pick, aExtract_tup, oP_extract, oP_nilCheck, oP_build, oP_len, oP_cap, oP_max, oP_min, oP_makeFunc, oS_some, oP_store, oA_some, oP_append, oM_some, oP_alloc, oP_box, oP_buildSlice, oP_makeSlice, oP_call, oP_callv, oF_func, aev_tmp, aev_const, aev_func, aput_get, aput_none, bin_add, bin_sub, bin_mul, bin_eql, bin_neq, bin_lss, bin_leq, bin_gtr, bin_geq, un_not, un_neg, tm0_get, fin_ret, fin_end, oR_some, resL_nil, resL_tmp, resL_cell, tup_one, tup_two, tup_nil, cond_true, cond_false, load_eq, Option.bind_some, mkv, List.length_append, List.length_cons, List.length_nil, List.append_assoc, List.cons_append, List.nil_append, rd0, rdi, wrt0, wrti, rdB_own, rdB_ro, wrB_own, oL_some, aggAt, sto_some, st0, sti, List.set_cons_zero, List.set_cons_succ, splice_nil, splice_cons, cells_agg, cells_int, cells_bool, cells_string, cells_pointer, cells_slice, leaf_int, leaf_bool, leaf_string, leaf_pointer, leaf_slice, List.size_toArray, List.all_cons, List.all_nil, Bool.and_self, Bool.and_true, and_self, true_and, and_true, Nat.zero_add, Nat.add_zero, Nat.reduceLeDiff, Nat.le_refl, List.drop_zero, List.drop_succ_cons, List.take_succ_cons, List.take_zero, oP_box, Nat.reduceSub, lp_end, lp_ret, lp_exit, oV_ite, oS_ite, oA_ite, slc_some, sls_some, optInt_none, optInt_some, rW_draw, rD_nil, rDV_eq, rDR_eq, rDE_eq, rDS_n, rDS_e, rD_load, rD_conv, rD_pure, rD_e, rD_g, rDG_t, rDG_f, rDG_undef, chkH_nil, chkH_cons, chkP_nil, chkP_cons, aRead_load, aRead_conv, isE_store, isE_call, isE_append, rDS_l, rDS_c, pl_move, pl_assign, pl_pick, pl_alloc, pl_box, pl_build, pl_buildSlice, pl_nilCheck, pl_binOp, pl_unOp, pl_makeFunc, pl_makeSlice, pl_slice, pl_fieldAddr, pl_field, pl_indexAddr, pl_index, pl_extract, pl_len, pl_cap, pl_max, pl_min, List.mem_cons, Prod.mk.injEq, List.not_mem_nil, or_false, or_true, false_or, true_or, and_false, false_and, false_implies, implies_true, true_implies, List.getElem?_toArray, List.getElem?_cons_zero, List.getElem?_cons_succ, List.getElem?_nil, Option.getD_some, Option.getD_none, Nat.reduceEqDiff, reduceIte, Nat.reduceAdd, List.map_toArray, List.map_cons, List.map_nil, Bool.false_eq_true, Nat.reduceBEq, Option.map_some, Option.map_none, reduceCtorEq, ix34, ld67, ln34, h0, h1, h5]
      refine two_intro (fun hc => ?_) (fun hc => ?_)
      · have hc' : i < xs.length := by simpa using hc
        have hc2 : i < ys.length := by omega
        obtain ⟨b, o, cs, rfl, rfl, hrd, hle, hcell⟩ := gv (by omega)
        obtain ⟨b', o', cs', rfl, rfl, hrd', hle', hcell'⟩ := gw (by omega)
        have hx1 : (xs.map vcells)[i]? = some (vcells xs[i]) := by simp [hc']
        have hy1 : (ys.map vcells)[i]? = some (vcells ys[i]) := by simp [hc2]
        have r1 := row_lt (s := 3) hc'
        have r2 := row_lt (s := 3) hc2
        have g1 : rd (H ++ K) b = some cs := by rw [rdl (by simp [hrd]), hrd]
        have g2 : rd (H ++ K) b' = some cs' := by rw [rdl (by simp [hrd']), hrd']
        have l1 : ld Try.prog 67 (o + i * 3) cs = some (.agg #[.bool xs[i].1, xs[i].2.1, xs[i].2.2]) := by
          rw [ld67]; exact aggAt_row (hcell i _ hx1).1 (by omega) (hcell i _ hx1).2
        have l2 : ld Try.prog 67 (o' + i * 3) cs' = some (.agg #[.bool ys[i].1, ys[i].2.1, ys[i].2.2]) := by
          rw [ld67]; exact aggAt_row (hcell' i _ hy1).1 (by omega) (hcell' i _ hy1).2
        have o1 := (hx xs[i] (List.getElem_mem hc')).mono (L := K)
        have o2 := (hy ys[i] (List.getElem_mem hc2)).mono (L := K)
        have e1 := vval_mono (L := K) (hx xs[i] (List.getElem_mem hc'))
        have e2 := vval_mono (L := K) (hy ys[i] (List.getElem_mem hc2))
        simp only [vval, Prod.mk.injEq] at e1 e2
        have hcond : (xs[i].1 == ys[i].1 && (rowI (H ++ K) xs[i].2.1 == rowI (H ++ K) ys[i].2.1 && rowI (H ++ K) xs[i].2.2 == rowI (H ++ K) ys[i].2.2)) = (vval H xs[i] == vval H ys[i]) := by
          rw [e1.2.1, e1.2.2, e2.2.1, e2.2.2]
          rfl
        have q1 : (rowI (H ++ K) xs[i].2.1).length < 9223372036854775807 := by have := o1.2.2.1; omega
        have q2 : (rowI (H ++ K) xs[i].2.2).length < 9223372036854775807 := by have := o1.2.2.2; omega
        simp -implicitDefEqProofs only [rE_seq_n, rE_seq_r, rE_seq_e, rE_blk_n, rE_blk_r, rE_blk_e, rW_skip, rW_ret, rW_exit, rW_ops, rW_seq, rW_block, ↓two_true, ↓two_false, rC_bool, rW_cond, rO_nil, rO_cons, oG_t, oG_f, oG_undef, rO_guard, oV_some, rOV_eq, oP_move, oP_assign, oP_bin, oP_un, oP_index, oP_fieldAddr, oP_field, oP_indexAddr, oP_slice, oP_load, oP_convert, aPick_true, aPick_false, aPick_bool, oP_pick, aExtract_tup, oP_extract, oP_nilCheck, oP_build, oP_len, oP_cap, oP_max, oP_min, oP_makeFunc, oS_some, oP_store, oA_some, oP_append, oM_some, oP_alloc, oP_box, oP_buildSlice, oP_makeSlice, oP_call, oP_callv, oF_func, aev_tmp, aev_const, aev_func, aput_get, aput_none, bin_add, bin_sub, bin_mul, bin_eql, bin_neq, bin_lss, bin_leq, bin_gtr, bin_geq, un_not, un_neg, tm0_get, fin_ret, fin_end, oR_some, resL_nil, resL_tmp, resL_cell, tup_one, tup_two, tup_nil, cond_true, cond_false, load_eq, Option.bind_some, mkv, List.length_append, List.length_cons, List.length_nil, List.append_assoc, List.cons_append, List.nil_append, rd0, rdi, wrt0, wrti, rdB_own, rdB_ro, wrB_own, oL_some, aggAt, sto_some, st0, sti, List.set_cons_zero, List.set_cons_succ, splice_nil, splice_cons, cells_agg, cells_int, cells_bool, cells_string, cells_pointer, cells_slice, leaf_int, leaf_bool, leaf_string, leaf_pointer, leaf_slice, List.size_toArray, List.all_cons, List.all_nil, Bool.and_self, Bool.and_true, and_self, true_and, and_true, Nat.zero_add, Nat.add_zero, Nat.reduceLeDiff, Nat.le_refl, List.drop_zero, List.drop_succ_cons, List.take_succ_cons, List.take_zero, oP_box, Nat.reduceSub, lp_end, lp_ret, lp_exit, oV_ite, oS_ite, oA_ite, slc_some, sls_some, optInt_none, optInt_some, rW_draw, rD_nil, rDV_eq, rDR_eq, rDE_eq, rDS_n, rDS_e, rD_load, rD_conv, rD_pure, rD_e, rD_g, rDG_t, rDG_f, rDG_undef, chkH_nil, chkH_cons, chkP_nil, chkP_cons, aRead_load, aRead_conv, isE_store, isE_call, isE_append, rDS_l, rDS_c, pl_move, pl_assign, pl_pick, pl_alloc, pl_box, pl_build, pl_buildSlice, pl_nilCheck, pl_binOp, pl_unOp, pl_makeFunc, pl_makeSlice, pl_slice, pl_fieldAddr, pl_field, pl_indexAddr, pl_index, pl_extract, pl_len, pl_cap, pl_max, pl_min, List.mem_cons, Prod.mk.injEq, List.not_mem_nil, or_false, or_true, false_or, true_or, and_false, false_and, false_implies, implies_true, true_implies, List.getElem?_toArray, List.getElem?_cons_zero, List.getElem?_cons_succ, List.getElem?_nil, Option.getD_some, Option.getD_none, Nat.reduceEqDiff, reduceIte, Nat.reduceAdd, List.map_toArray, List.map_cons, List.map_nil, Bool.false_eq_true, Nat.reduceBEq, Option.map_some, Option.map_none, reduceCtorEq, ix34, ld67, ln34, h0, h1, h5, Int.toNat_natCast, g1, g2, l1, l2, eqVar_eq o1.1 o1.2.1 o2.1 o2.2.1 q1 q2, hcond, IntWalk.i64_in (↑i + 1) (by omega)]
        refine ⟨⟨by omega, by omega⟩, ⟨by omega, by omega⟩, two_intro (fun h => ?_) (fun h => ?_)⟩
        · have : (xs.map (vval H) == ys.map (vval H)) = false := by
            rw [beq_eq_false_iff_ne]
            intro e
            have := congrArg (fun z => z[i]?) e
            simp [hc', hc2] at this
            simp [this] at h
          rw [this]
          exact ⟨rfl, _, rfl⟩
        · refine ⟨i + 1, by omega, by simp, ⟨_, rfl⟩, hc', fun j hj => ?_⟩
          rcases Nat.lt_or_ge j i with h1 | h1
          · exact hn j h1
          · have : j = i := by omega
            subst this
            simpa [hc', hc2] using h
      · have hc' : ¬ i < xs.length := by simpa using hc
        have : (xs.map (vval H) == ys.map (vval H)) = true := by
          rw [beq_iff_eq]
          refine List.ext_getElem? fun j => ?_
          simp only [List.getElem?_map]
          rcases Nat.lt_or_ge j i with h1 | h1
          · exact hn j h1
          · rw [List.getElem?_eq_none (by omega), List.getElem?_eq_none (by omega)]
        rw [this]
        exact ⟨rfl, K, rfl⟩

theorem eqVarS_eq {H : AH} {v w : Value} (xs ys : List VR3) (hv : SRow H v 3 (xs.map vcells)) (hw : SRow H w 3 (ys.map vcells)) (hx : ∀ x ∈ xs, OkV H x) (hy : ∀ y ∈ ys, OkV H y) (hl : xs.length < 4611686018427387904) {Φ : Value → AH → Prop} :
    CallsA Try.prog 20 #[v, w] H Φ = Φ (.bool (xs.map (vval H) == ys.map (vval H))) (H ++ jk Try.prog 20 #[v, w] H) := (eqVarS_ok hv hw hx hy hl).eqV
/-- What heldVarS answers. -/
def heldV : List (Bool × List Int × List Int) → Int → Int
  | [], k => k
  | x :: r, k => if x.1 = (k % 3 == 0) then (if heldI x.2.1 (k + 1) < 0 then -1 else if heldI x.2.2 (heldI x.2.1 (k + 1)) < 0 then -1 else heldV r (heldI x.2.2 (heldI x.2.1 (k + 1)))) else -1
/-- How many places there are in some vars. -/
def cntV (l : List (Bool × List Int × List Int)) : Nat := (l.map fun x => 1 + x.2.1.length + x.2.2.length).sum
theorem heldI_le {l : List Int} {k : Int} : heldI l k = -1 ∨ heldI l k = k + l.length := by
  unfold heldI
  split
  · exact .inr rfl
  · exact .inl rfl

theorem heldVarS_ok {H : AH} {v : Value} {xs : List VR3} {k : Int} (hv : SRow H v 3 (xs.map vcells)) (hx : ∀ x ∈ xs, OkV H x) (hk : 0 ≤ k ∧ k + cntV (xs.map (vval H)) < 4611686018427387904) :
    CallsA Try.prog 22 #[v, .int .i64 k] H fun r H' => r = .int .i64 (heldV (xs.map (vval H)) k) ∧ H' = H := by
  obtain ⟨a, c, rfl, gv⟩ := hv.op
  have hcn : ∀ l : List (Bool × List Int × List Int), l.length ≤ cntV l := by
    intro l
    induction l with
    | nil => exact Nat.le_refl _
    | cons x l ih => simp [cntV] at ih ⊢; omega
  have hlen := hcn (xs.map (vval H))
  simp only [List.length_map] at hlen gv ⊢
  refine w22 ?_
  unfold k22
  simp -implicitDefEqProofs only [rE_seq_n, rE_seq_r, rE_seq_e, rE_blk_n, rE_blk_r, rE_blk_e, rW_skip, rW_ret, rW_exit, rW_ops, rW_seq, rW_block, ↓two_true, ↓two_false, rC_bool, rW_cond, rO_nil, rO_cons, oG_t, oG_f, oG_undef, rO_guard, oV_some, rOV_eq, oP_move, oP_assign, oP_bin, oP_un, oP_index, oP_fieldAddr, oP_field, oP_indexAddr, oP_slice, oP_load, oP_convert, aPick_true, aPick_false, aPick_bool, oP_pick, aExtract_tup, oP_extract, oP_nilCheck, oP_build, oP_len, oP_cap, oP_max, oP_min, oP_makeFunc, oS_some, oP_store, oA_some, oP_append, oM_some, oP_alloc, oP_box, oP_buildSlice, oP_makeSlice, oP_call, oP_callv, oF_func, aev_tmp, aev_const, aev_func, aput_get, aput_none, bin_add, bin_sub, bin_mul, bin_eql, bin_neq, bin_lss, bin_leq, bin_gtr, bin_geq, un_not, un_neg, tm0_get, fin_ret, fin_end, oR_some, resL_nil, resL_tmp, resL_cell, tup_one, tup_two, tup_nil, cond_true, cond_false, load_eq, Option.bind_some, mkv, List.length_append, List.length_cons, List.length_nil, List.append_assoc, List.cons_append, List.nil_append, rd0, rdi, wrt0, wrti, rdB_own, rdB_ro, wrB_own, oL_some, aggAt, sto_some, st0, sti, List.set_cons_zero, List.set_cons_succ, splice_nil, splice_cons, cells_agg, cells_int, cells_bool, cells_string, cells_pointer, cells_slice, leaf_int, leaf_bool, leaf_string, leaf_pointer, leaf_slice, List.size_toArray, List.all_cons, List.all_nil, Bool.and_self, Bool.and_true, and_self, true_and, and_true, Nat.zero_add, Nat.add_zero, Nat.reduceLeDiff, Nat.le_refl, List.drop_zero, List.drop_succ_cons, List.take_succ_cons, List.take_zero, oP_box, Nat.reduceSub, lp_end, lp_ret, lp_exit, oV_ite, oS_ite, oA_ite, slc_some, sls_some, optInt_none, optInt_some, rW_draw, rD_nil, rDV_eq, rDR_eq, rDE_eq, rDS_n, rDS_e, rD_load, rD_conv, rD_pure, rD_e, rD_g, rDG_t, rDG_f, rDG_undef, chkH_nil, chkH_cons, chkP_nil, chkP_cons, aRead_load, aRead_conv, isE_store, isE_call, isE_append, rDS_l, rDS_c, pl_move, pl_assign, pl_pick, pl_alloc, pl_box, pl_build, pl_buildSlice, pl_nilCheck, pl_binOp, pl_unOp, pl_makeFunc, pl_makeSlice, pl_slice, pl_fieldAddr, pl_field, pl_indexAddr, pl_index, pl_extract, pl_len, pl_cap, pl_max, pl_min, List.mem_cons, Prod.mk.injEq, List.not_mem_nil, or_false, or_true, false_or, true_or, and_false, false_and, false_implies, implies_true, true_implies, List.getElem?_toArray, List.getElem?_cons_zero, List.getElem?_cons_succ, List.getElem?_nil, Option.getD_some, Option.getD_none, Nat.reduceEqDiff, reduceIte, Nat.reduceAdd, List.map_toArray, List.map_cons, List.map_nil, Bool.false_eq_true, Nat.reduceBEq, Option.map_some, Option.map_none, reduceCtorEq, fa55_0, fa55_1, fa67_0, fa67_1, ix34, ld4, ld51, ln34, (bin_bool_eql ub4), (bin_bool_neq ub4)]
  refine rW_loop (σ := Nat × Int) (fun p tm H' => tm 0 = .slice a xs.length c ∧ tm 1 = .int .i64 p.2 ∧ tm 5 = .int .i64 p.1 ∧ H' = H ∧ p.1 ≤ xs.length ∧ 0 ≤ p.2 ∧ p.2 + cntV ((xs.drop p.1).map (vval H)) < 4611686018427387904 ∧ heldV (xs.map (vval H)) k = heldV ((xs.drop p.1).map (vval H)) p.2) (fun p => xs.length - p.1) (0, k) ?_ ?_
  · simp -implicitDefEqProofs [rE_seq_n, rE_seq_r, rE_seq_e, rE_blk_n, rE_blk_r, rE_blk_e, rW_skip, rW_ret, rW_exit, rW_ops, rW_seq, rW_block, ↓two_true, ↓two_false, rC_bool, rW_cond, rO_nil, rO_cons, oG_t, oG_f, oG_undef, rO_guard, oV_some, rOV_eq, oP_move, oP_assign, oP_bin, oP_un, oP_index, oP_fieldAddr, oP_field, oP_indexAddr, oP_slice, oP_load, oP_convert, aPick_true, aPick_false, aPick_bool, oP_pick, aExtract_tup, oP_extract, oP_nilCheck, oP_build, oP_len, oP_cap, oP_max, oP_min, oP_makeFunc, oS_some, oP_store, oA_some, oP_append, oM_some, oP_alloc, oP_box, oP_buildSlice, oP_makeSlice, oP_call, oP_callv, oF_func, aev_tmp, aev_const, aev_func, aput_get, aput_none, bin_add, bin_sub, bin_mul, bin_eql, bin_neq, bin_lss, bin_leq, bin_gtr, bin_geq, un_not, un_neg, tm0_get, fin_ret, fin_end, oR_some, resL_nil, resL_tmp, resL_cell, tup_one, tup_two, tup_nil, cond_true, cond_false, load_eq, Option.bind_some, mkv, List.length_append, List.length_cons, List.length_nil, List.append_assoc, List.cons_append, List.nil_append, rd0, rdi, wrt0, wrti, rdB_own, rdB_ro, wrB_own, oL_some, aggAt, sto_some, st0, sti, List.set_cons_zero, List.set_cons_succ, splice_nil, splice_cons, cells_agg, cells_int, cells_bool, cells_string, cells_pointer, cells_slice, leaf_int, leaf_bool, leaf_string, leaf_pointer, leaf_slice, List.size_toArray, List.all_cons, List.all_nil, Bool.and_self, Bool.and_true, and_self, true_and, and_true, Nat.zero_add, Nat.add_zero, Nat.reduceLeDiff, Nat.le_refl, List.drop_zero, List.drop_succ_cons, List.take_succ_cons, List.take_zero, oP_box, Nat.reduceSub, lp_end, lp_ret, lp_exit, oV_ite, oS_ite, oA_ite, slc_some, sls_some, optInt_none, optInt_some, rW_draw, rD_nil, rDV_eq, rDR_eq, rDE_eq, rDS_n, rDS_e, rD_load, rD_conv, rD_pure, rD_e, rD_g, rDG_t, rDG_f, rDG_undef, chkH_nil, chkH_cons, chkP_nil, chkP_cons, aRead_load, aRead_conv, isE_store, isE_call, isE_append, rDS_l, rDS_c, pl_move, pl_assign, pl_pick, pl_alloc, pl_box, pl_build, pl_buildSlice, pl_nilCheck, pl_binOp, pl_unOp, pl_makeFunc, pl_makeSlice, pl_slice, pl_fieldAddr, pl_field, pl_indexAddr, pl_index, pl_extract, pl_len, pl_cap, pl_max, pl_min, List.mem_cons, Prod.mk.injEq, List.not_mem_nil, or_false, or_true, false_or, true_or, and_false, false_and, false_implies, implies_true, true_implies, List.getElem?_toArray, List.getElem?_cons_zero, List.getElem?_cons_succ, List.getElem?_nil, Option.getD_some, Option.getD_none, Nat.reduceEqDiff, reduceIte, Nat.reduceAdd, List.map_toArray, List.map_cons, List.map_nil, Bool.false_eq_true, Nat.reduceBEq, Option.map_some, Option.map_none, reduceCtorEq, fa55_0, fa55_1, fa67_0, fa67_1, ix34, ld4, ld51, ln34, (bin_bool_eql ub4), (bin_bool_neq ub4)]
    omega
  · rintro ⟨i, q⟩ tm H' ⟨h0, h1, h5, rfl, hi, hq, hqc, hh⟩
    simp only at h0 h1 h5 hi hq hqc hh
    simp -implicitDefEqProofs only [rE_seq_n, rE_seq_r, rE_seq_e, rE_blk_n, rE_blk_r, rE_blk_e, rW_skip, rW_ret, rW_exit, rW_ops, rW_seq, rW_block, ↓two_true, ↓two_false, rC_bool, rW_cond, rO_nil, rO_cons, oG_t, oG_f, oG_undef, rO_guard, oV_some, rOV_eq, oP_move, oP_assign, oP_bin, oP_un, oP_index, oP_fieldAddr, oP_field, oP_indexAddr, oP_slice, oP_load, oP_convert, aPick_true, aPick_false, aPick_bool, oP_pick, aExtract_tup, oP_extract, oP_nilCheck, oP_build, oP_len, oP_cap, oP_max, oP_min, oP_makeFunc, oS_some, oP_store, oA_some, oP_append, oM_some, oP_alloc, oP_box, oP_buildSlice, oP_makeSlice, oP_call, oP_callv, oF_func, aev_tmp, aev_const, aev_func, aput_get, aput_none, bin_add, bin_sub, bin_mul, bin_eql, bin_neq, bin_lss, bin_leq, bin_gtr, bin_geq, un_not, un_neg, tm0_get, fin_ret, fin_end, oR_some, resL_nil, resL_tmp, resL_cell, tup_one, tup_two, tup_nil, cond_true, cond_false, load_eq, Option.bind_some, mkv, List.length_append, List.length_cons, List.length_nil, List.append_assoc, List.cons_append, List.nil_append, rd0, rdi, wrt0, wrti, rdB_own, rdB_ro, wrB_own, oL_some, aggAt, sto_some, st0, sti, List.set_cons_zero, List.set_cons_succ, splice_nil, splice_cons, cells_agg, cells_int, cells_bool, cells_string, cells_pointer, cells_slice, leaf_int, leaf_bool, leaf_string, leaf_pointer, leaf_slice, List.size_toArray, List.all_cons, List.all_nil, Bool.and_self, Bool.and_true, and_self, true_and, and_true, Nat.zero_add, Nat.add_zero, Nat.reduceLeDiff, Nat.le_refl, List.drop_zero, List.drop_succ_cons, List.take_succ_cons, List.take_zero, oP_box, Nat.reduceSub, lp_end, lp_ret, lp_exit, oV_ite, oS_ite, oA_ite, slc_some, sls_some, optInt_none, optInt_some, rW_draw, rD_nil, rDV_eq, rDR_eq, rDE_eq, rDS_n, rDS_e, rD_load, rD_conv, rD_pure, rD_e, rD_g, rDG_t, rDG_f, rDG_undef, chkH_nil, chkH_cons, chkP_nil, chkP_cons, aRead_load, aRead_conv, isE_store, isE_call, isE_append, rDS_l, rDS_c, pl_move, pl_assign, pl_pick, pl_alloc, pl_box, pl_build, pl_buildSlice, pl_nilCheck, pl_binOp, pl_unOp, pl_makeFunc, pl_makeSlice, pl_slice, pl_fieldAddr, pl_field, pl_indexAddr, pl_index, pl_extract, pl_len, pl_cap, pl_max, pl_min, List.mem_cons, Prod.mk.injEq, List.not_mem_nil, or_false, or_true, false_or, true_or, and_false, false_and, false_implies, implies_true, true_implies, List.getElem?_toArray, List.getElem?_cons_zero, List.getElem?_cons_succ, List.getElem?_nil, Option.getD_some, Option.getD_none, Nat.reduceEqDiff, reduceIte, Nat.reduceAdd, List.map_toArray, List.map_cons, List.map_nil, Bool.false_eq_true, Nat.reduceBEq, Option.map_some, Option.map_none, reduceCtorEq, fa55_0, fa55_1, fa67_0, fa67_1, ix34, ld4, ld51, ln34, (bin_bool_eql ub4), (bin_bool_neq ub4), h0, h1, h5]
    refine two_intro (fun hc => ?_) (fun hc => ?_)
    · have hc' : i < xs.length := by simpa using hc
      obtain ⟨b, o, cs, rfl, rfl, hrd, hle, hcell⟩ := gv (by omega)
      have hx1 : (xs.map vcells)[i]? = some (vcells xs[i]) := by simp [hc']
      have f0 : cs[o + i * 3]? = some (.bool xs[i].1) := (hcell i _ hx1).2 0 _ rfl
      have f1 : cs[o + i * 3 + 1]? = some xs[i].2.1 := (hcell i _ hx1).2 1 _ rfl
      have f2 : cs[o + i * 3 + 1 + 1]? = some xs[i].2.2 := (hcell i _ hx1).2 2 _ rfl
      have o1 := hx xs[i] (List.getElem_mem hc')
      have hdrop : xs.drop i = xs[i] :: xs.drop (i + 1) := List.drop_eq_getElem_cons hc'
      rw [hdrop] at hqc hh
      simp only [List.map_cons, cntV, List.sum_cons] at hqc
      have hcv : ((vval H' xs[i]).2.1) = rowI H' xs[i].2.1 ∧ ((vval H' xs[i]).2.2) = rowI H' xs[i].2.2 ∧ (vval H' xs[i]).1 = xs[i].1 := ⟨rfl, rfl, rfl⟩
      rw [hcv.1, hcv.2.1] at hqc
      have hrest : (List.map (fun x : Bool × List Int × List Int => 1 + x.2.1.length + x.2.2.length) ((xs.drop (i + 1)).map (vval H'))).sum = cntV ((xs.drop (i + 1)).map (vval H')) := rfl
      rw [hrest] at hqc
      have hw1 : IntKind.i64.wrap (q + 1) = q + 1 := IntWalk.i64_in _ (by omega)
      simp -implicitDefEqProofs only [rE_seq_n, rE_seq_r, rE_seq_e, rE_blk_n, rE_blk_r, rE_blk_e, rW_skip, rW_ret, rW_exit, rW_ops, rW_seq, rW_block, ↓two_true, ↓two_false, rC_bool, rW_cond, rO_nil, rO_cons, oG_t, oG_f, oG_undef, rO_guard, oV_some, rOV_eq, oP_move, oP_assign, oP_bin, oP_un, oP_index, oP_fieldAddr, oP_field, oP_indexAddr, oP_slice, oP_load, oP_convert, aPick_true, aPick_false, aPick_bool, oP_pick, aExtract_tup, oP_extract, oP_nilCheck, oP_build, oP_len, oP_cap, oP_max, oP_min, oP_makeFunc, oS_some, oP_store, oA_some, oP_append, oM_some, oP_alloc, oP_box, oP_buildSlice, oP_makeSlice, oP_call, oP_callv, oF_func, aev_tmp, aev_const, aev_func, aput_get, aput_none, bin_add, bin_sub, bin_mul, bin_eql, bin_neq, bin_lss, bin_leq, bin_gtr, bin_geq, un_not, un_neg, tm0_get, fin_ret, fin_end, oR_some, resL_nil, resL_tmp, resL_cell, tup_one, tup_two, tup_nil, cond_true, cond_false, load_eq, Option.bind_some, mkv, List.length_append, List.length_cons, List.length_nil, List.append_assoc, List.cons_append, List.nil_append, rd0, rdi, wrt0, wrti, rdB_own, rdB_ro, wrB_own, oL_some, aggAt, sto_some, st0, sti, List.set_cons_zero, List.set_cons_succ, splice_nil, splice_cons, cells_agg, cells_int, cells_bool, cells_string, cells_pointer, cells_slice, leaf_int, leaf_bool, leaf_string, leaf_pointer, leaf_slice, List.size_toArray, List.all_cons, List.all_nil, Bool.and_self, Bool.and_true, and_self, true_and, and_true, Nat.zero_add, Nat.add_zero, Nat.reduceLeDiff, Nat.le_refl, List.drop_zero, List.drop_succ_cons, List.take_succ_cons, List.take_zero, oP_box, Nat.reduceSub, lp_end, lp_ret, lp_exit, oV_ite, oS_ite, oA_ite, slc_some, sls_some, optInt_none, optInt_some, rW_draw, rD_nil, rDV_eq, rDR_eq, rDE_eq, rDS_n, rDS_e, rD_load, rD_conv, rD_pure, rD_e, rD_g, rDG_t, rDG_f, rDG_undef, chkH_nil, chkH_cons, chkP_nil, chkP_cons, aRead_load, aRead_conv, isE_store, isE_call, isE_append, rDS_l, rDS_c, pl_move, pl_assign, pl_pick, pl_alloc, pl_box, pl_build, pl_buildSlice, pl_nilCheck, pl_binOp, pl_unOp, pl_makeFunc, pl_makeSlice, pl_slice, pl_fieldAddr, pl_field, pl_indexAddr, pl_index, pl_extract, pl_len, pl_cap, pl_max, pl_min, List.mem_cons, Prod.mk.injEq, List.not_mem_nil, or_false, or_true, false_or, true_or, and_false, false_and, false_implies, implies_true, true_implies, List.getElem?_toArray, List.getElem?_cons_zero, List.getElem?_cons_succ, List.getElem?_nil, Option.getD_some, Option.getD_none, Nat.reduceEqDiff, reduceIte, Nat.reduceAdd, List.map_toArray, List.map_cons, List.map_nil, Bool.false_eq_true, Nat.reduceBEq, Option.map_some, Option.map_none, reduceCtorEq, fa55_0, fa55_1, fa67_0, fa67_1, ix34, ld4, ld51, ln34, (bin_bool_eql ub4), (bin_bool_neq ub4), h0, h1, h5, Int.toNat_natCast, hrd, f0, f1, hw1, heldIntS_eq o1.1 o1.2.2.1 (show 0 ≤ q + 1 ∧ q + 1 < 4611686018427387904 by omega), bin_rem (show (3 : Int) ≠ 0 by decide), ne_eq, not_false_eq_true]
      have hexp : heldV (List.map (vval H') (xs[i] :: List.drop (i + 1) xs)) q = if xs[i].1 = (q % 3 == 0) then (if heldI (rowI H' xs[i].2.1) (q + 1) < 0 then -1 else if heldI (rowI H' xs[i].2.2) (heldI (rowI H' xs[i].2.1) (q + 1)) < 0 then -1 else heldV (List.map (vval H') (List.drop (i + 1) xs)) (heldI (rowI H' xs[i].2.2) (heldI (rowI H' xs[i].2.1) (q + 1)))) else -1 := rfl
      rw [hexp] at hh
      have hmod : q.tmod 3 = q % 3 := Int.tmod_eq_emod_of_nonneg hq
      rw [hmod]
      refine ⟨⟨by omega, by omega⟩, two_intro (fun h => ?_) (fun h => ?_)⟩
      · rw [hh, if_neg (by simpa using h)]
      · rw [if_pos (by simpa using h)] at hh
        refine ⟨⟨by omega, by omega⟩, two_intro (fun h2 => ?_) (fun h2 => ?_)⟩
        · rw [hh, if_pos (by simpa using h2)]
        · have h2' : ¬ heldI (rowI H' xs[i].2.1) (q + 1) < 0 := by simpa using h2
          rw [if_neg h2'] at hh
          have e1 : heldI (rowI H' xs[i].2.1) (q + 1) = q + 1 + (rowI H' xs[i].2.1).length := by
            rcases heldI_le (l := rowI H' xs[i].2.1) (k := q + 1) with h3 | h3
            · omega
            · exact h3
          rw [e1] at hh
          simp -implicitDefEqProofs only [rE_seq_n, rE_seq_r, rE_seq_e, rE_blk_n, rE_blk_r, rE_blk_e, rW_skip, rW_ret, rW_exit, rW_ops, rW_seq, rW_block, ↓two_true, ↓two_false, rC_bool, rW_cond, rO_nil, rO_cons, oG_t, oG_f, oG_undef, rO_guard, oV_some, rOV_eq, oP_move, oP_assign, oP_bin, oP_un, oP_index, oP_fieldAddr, oP_field, oP_indexAddr, oP_slice, oP_load, oP_convert, aPick_true, aPick_false, aPick_bool, oP_pick, aExtract_tup, oP_extract, oP_nilCheck, oP_build, oP_len, oP_cap, oP_max, oP_min, oP_makeFunc, oS_some, oP_store, oA_some, oP_append, oM_some, oP_alloc, oP_box, oP_buildSlice, oP_makeSlice, oP_call, oP_callv, oF_func, aev_tmp, aev_const, aev_func, aput_get, aput_none, bin_add, bin_sub, bin_mul, bin_eql, bin_neq, bin_lss, bin_leq, bin_gtr, bin_geq, un_not, un_neg, tm0_get, fin_ret, fin_end, oR_some, resL_nil, resL_tmp, resL_cell, tup_one, tup_two, tup_nil, cond_true, cond_false, load_eq, Option.bind_some, mkv, List.length_append, List.length_cons, List.length_nil, List.append_assoc, List.cons_append, List.nil_append, rd0, rdi, wrt0, wrti, rdB_own, rdB_ro, wrB_own, oL_some, aggAt, sto_some, st0, sti, List.set_cons_zero, List.set_cons_succ, splice_nil, splice_cons, cells_agg, cells_int, cells_bool, cells_string, cells_pointer, cells_slice, leaf_int, leaf_bool, leaf_string, leaf_pointer, leaf_slice, List.size_toArray, List.all_cons, List.all_nil, Bool.and_self, Bool.and_true, and_self, true_and, and_true, Nat.zero_add, Nat.add_zero, Nat.reduceLeDiff, Nat.le_refl, List.drop_zero, List.drop_succ_cons, List.take_succ_cons, List.take_zero, oP_box, Nat.reduceSub, lp_end, lp_ret, lp_exit, oV_ite, oS_ite, oA_ite, slc_some, sls_some, optInt_none, optInt_some, rW_draw, rD_nil, rDV_eq, rDR_eq, rDE_eq, rDS_n, rDS_e, rD_load, rD_conv, rD_pure, rD_e, rD_g, rDG_t, rDG_f, rDG_undef, chkH_nil, chkH_cons, chkP_nil, chkP_cons, aRead_load, aRead_conv, isE_store, isE_call, isE_append, rDS_l, rDS_c, pl_move, pl_assign, pl_pick, pl_alloc, pl_box, pl_build, pl_buildSlice, pl_nilCheck, pl_binOp, pl_unOp, pl_makeFunc, pl_makeSlice, pl_slice, pl_fieldAddr, pl_field, pl_indexAddr, pl_index, pl_extract, pl_len, pl_cap, pl_max, pl_min, List.mem_cons, Prod.mk.injEq, List.not_mem_nil, or_false, or_true, false_or, true_or, and_false, false_and, false_implies, implies_true, true_implies, List.getElem?_toArray, List.getElem?_cons_zero, List.getElem?_cons_succ, List.getElem?_nil, Option.getD_some, Option.getD_none, Nat.reduceEqDiff, reduceIte, Nat.reduceAdd, List.map_toArray, List.map_cons, List.map_nil, Bool.false_eq_true, Nat.reduceBEq, Option.map_some, Option.map_none, reduceCtorEq, fa55_0, fa55_1, fa67_0, fa67_1, ix34, ld4, ld51, ln34, (bin_bool_eql ub4), (bin_bool_neq ub4), h0, h1, h5, Int.toNat_natCast, f2, e1, heldIntS_eq o1.2.1 o1.2.2.2 (show 0 ≤ q + 1 + ((rowI H' xs[i].2.1).length : Int) ∧ q + 1 + ((rowI H' xs[i].2.1).length : Int) < 4611686018427387904 by omega)]
          refine ⟨⟨by omega, by omega⟩, two_intro (fun h3 => ?_) (fun h3 => ?_)⟩
          · rw [hh, if_pos (by simpa using h3)]
          · have h3' : ¬ heldI (rowI H' xs[i].2.2) (q + 1 + (rowI H' xs[i].2.1).length) < 0 := by simpa using h3
            rw [if_neg h3'] at hh
            have e2 : heldI (rowI H' xs[i].2.2) (q + 1 + (rowI H' xs[i].2.1).length) = q + 1 + (rowI H' xs[i].2.1).length + (rowI H' xs[i].2.2).length := by
              rcases heldI_le (l := rowI H' xs[i].2.2) (k := q + 1 + (rowI H' xs[i].2.1).length) with h4 | h4
              · omega
              · exact h4
            rw [e2] at hh ⊢
            rw [IntWalk.i64_in (↑i + 1) (by omega)]
            exact ⟨(i + 1, q + 1 + (rowI H' xs[i].2.1).length + (rowI H' xs[i].2.2).length), by simp only; omega, rfl, by simp, hc', by simp only; omega, by simp only; omega, hh⟩
    · have hc' : ¬ i < xs.length := by simpa using hc
      have hil : i = xs.length := by omega
      rw [hh, hil]
      simp [heldV]
theorem heldVarS_eq {H : AH} {v : Value} {k : Int} (xs : List VR3) (hv : SRow H v 3 (xs.map vcells)) (hx : ∀ x ∈ xs, OkV H x) (hk : 0 ≤ k ∧ k + cntV (xs.map (vval H)) < 4611686018427387904) {Φ : Value → AH → Prop} :
    CallsA Try.prog 22 #[v, .int .i64 k] H Φ = Φ (.int .i64 (heldV (xs.map (vval H)) k)) H := (heldVarS_ok hv hx hk).eq0

/-! ### marking vars -/
def Dj (v w : Value) : Prop := ∀ b, blkOf v = some b → blkOf w ≠ some b
theorem Dj.symm {v w : Value} (h : Dj v w) : Dj w v := fun b h1 h2 => h b h2 h1
theorem OwnRow.same {H H' : AH} {v : Value} {l : List Int} (h : OwnRow H v l) (hs : ∀ b, blkOf v = some b → H'[b]? = H[b]?) : OwnRow H' v l := by
  rcases h with h | ⟨b, o, cs, h1, h2, h3, h4⟩
  · exact .inl h
  · exact .inr ⟨b, o, cs, h1, by rw [hs b (by rw [h1]; rfl)]; exact h2, h3, h4⟩
theorem OwnRow.rowI {H : AH} {v : Value} {l : List Int} (h : OwnRow H v l) : rowI H v = l := h.int.row
theorem putI_dj {H : AH} {v w : Value} {l : List Int} (h : Dj v w) : ∀ b, blkOf w = some b → (putI H v l)[b]? = H[b]? := fun b hb => putI_get fun h2 => h b h2 hb
structure VD (v : Value) (xs : List VR3) : Prop where
  out : ∀ (i : Nat) x, xs[i]? = some x → Dj v x.2.1 ∧ Dj v x.2.2
  inn : ∀ (i : Nat) x, xs[i]? = some x → Dj x.2.1 x.2.2
  dif : ∀ (i j : Nat) x y, i ≠ j → xs[i]? = some x → xs[j]? = some y → Dj x.2.1 y.2.1 ∧ Dj x.2.1 y.2.2 ∧ Dj x.2.2 y.2.1 ∧ Dj x.2.2 y.2.2
def lensV (H : AH) (xs : List VR3) : List (Nat × Nat) := xs.map fun x => ((rowI H x.2.1).length, (rowI H x.2.2).length)
def cntL (l : List (Nat × Nat)) : Nat := (l.map fun x => 1 + x.1 + x.2).sum
def markL : List (Nat × Nat) → Int → List (Bool × List Int × List Int)
  | [], _ => []
  | x :: r, k => (k % 3 == 0, mks (k + 1) x.1, mks (k + 1 + x.1) x.2) :: markL r (k + 1 + x.1 + x.2)
theorem heldV_mark : ∀ (l : List (Nat × Nat)) (k : Int), 0 ≤ k → heldV (markL l k) k = k + cntL l
  | [], k, _ => by simp [markL, heldV, cntL]
  | x :: r, k, hk => by
    simp only [markL, heldV, if_true, heldI_mks]
    rw [if_neg (by omega), if_neg (by omega), heldV_mark r _ (by omega)]
    simp only [cntL, List.map_cons, List.sum_cons]
    omega
theorem cntV_mark : ∀ (l : List (Nat × Nat)) (k : Int), cntV (markL l k) = cntL l
  | [], _ => rfl
  | x :: r, k => by
    have := cntV_mark r (k + 1 + x.1 + x.2)
    simp only [cntV, cntL, markL, List.map_cons, List.sum_cons, mks_len] at this ⊢
    omega
structure MI (H : AH) (v : Value) (xs : List VR3) (k : Int) (i : Nat) (q : Int) (ys : List VR3) (H' : AH) : Prop where
  len : H'.length = H.length
  frame : ∀ b, blkOf v ≠ some b → (∀ (j : Nat) x, xs[j]? = some x → blkOf x.2.1 ≠ some b ∧ blkOf x.2.2 ≠ some b) → H'[b]? = H[b]?
  own : SOwn H' v 3 (ys.map vcells)
  yl : ys.length = xs.length
  same : ∀ (j : Nat) x y, xs[j]? = some x → ys[j]? = some y → y.2 = x.2
  rows : ∀ (j : Nat) x, xs[j]? = some x → OwnRow H' x.2.1 (rowI H' x.2.1) ∧ OwnRow H' x.2.2 (rowI H' x.2.2) ∧ (rowI H' x.2.1).length = (rowI H x.2.1).length ∧ (rowI H' x.2.2).length = (rowI H x.2.2).length
  done : ∀ (j : Nat) y, j < i → ys[j]? = some y → (markL (lensV H xs) k)[j]? = some (vval H' y)
  rest : (markL (lensV H xs) k).drop i = markL ((lensV H xs).drop i) q
  cnt : q + cntL ((lensV H xs).drop i) = k + cntL (lensV H xs)
  pos : 0 ≤ q

theorem MI.step {H H' : AH} {v : Value} {xs ys : List VR3} {k q : Int} {i b o : Nat} {cs : List Value} {x : VR3} (h : MI H v xs k i q ys H') (hd : VD v xs) (hx : xs[i]? = some x) (hv : v = .slice (some ⟨b, o, none⟩) xs.length 3) (hb : H'[b]? = some ⟨cs, .own⟩)
    (hlen : o + xs.length * 3 ≤ cs.length) (hc : ∀ (i : Nat) x, (ys.map vcells)[i]? = some x → x.length = 3 ∧ ∀ (j : Nat) y, x[j]? = some y → cs[o + i * 3 + j]? = some y) :
    MI H v xs k (i + 1) (q + 1 + (rowI H x.2.1).length + (rowI H x.2.2).length) (ys.set i (q % 3 == 0, x.2))
      (putI (putI (H'.set b ⟨cs.set (o + i * 3) (.bool (q % 3 == 0)), .own⟩) x.2.1 (mks (q + 1) (rowI H x.2.1).length)) x.2.2 (mks (q + 1 + (rowI H x.2.1).length) (rowI H x.2.2).length)) := by
  have hi : i < xs.length := (List.getElem?_eq_some_iff.1 hx).1
  have hiy : i < ys.length := by rw [h.yl]; exact hi
  have hyi : ys[i]? = some ys[i] := List.getElem?_eq_getElem hiy
  have hy2 : ys[i].2 = x.2 := h.same i x _ hx hyi
  obtain ⟨d1, d2⟩ := hd.out i x hx
  have d3 := hd.inn i x hx
  have hvb : blkOf v = some b := by rw [hv]; rfl
  -- the flag is written
  have hs : ∀ g, g ≠ b → (H'.set b ⟨cs.set (o + i * 3) (.bool (q % 3 == 0)), .own⟩)[g]? = H'[g]? := fun g hg => List.getElem?_set_ne (Ne.symm hg)
  obtain ⟨r1, r2, r3, r4⟩ := h.rows i x hx
  have hw : ∀ w, Dj v w → ∀ g, blkOf w = some g → (H'.set b ⟨cs.set (o + i * 3) (.bool (q % 3 == 0)), .own⟩)[g]? = H'[g]? := fun w hw g hg => hs g (by rintro rfl; exact hw g hvb hg)
  have o1 : OwnRow (H'.set b ⟨cs.set (o + i * 3) (.bool (q % 3 == 0)), .own⟩) x.2.1 (rowI H' x.2.1) := r1.same (hw _ d1)
  have o2 : OwnRow (H'.set b ⟨cs.set (o + i * 3) (.bool (q % 3 == 0)), .own⟩) x.2.2 (rowI H' x.2.2) := r2.same (hw _ d2)
  generalize hH1 : H'.set b ⟨cs.set (o + i * 3) (.bool (q % 3 == 0)), .own⟩ = H1 at *
  have p1 : OwnRow (putI H1 x.2.1 (mks (q + 1) (rowI H x.2.1).length)) x.2.1 (mks (q + 1) (rowI H x.2.1).length) := o1.put (by rw [mks_len, r3])
  have p2 : OwnRow (putI H1 x.2.1 (mks (q + 1) (rowI H x.2.1).length)) x.2.2 (rowI H' x.2.2) := o2.same (putI_dj d3)
  generalize hH2 : putI H1 x.2.1 (mks (q + 1) (rowI H x.2.1).length) = H2 at *
  have q1 : OwnRow (putI H2 x.2.2 (mks (q + 1 + (rowI H x.2.1).length) (rowI H x.2.2).length)) x.2.2 (mks (q + 1 + (rowI H x.2.1).length) (rowI H x.2.2).length) := p2.put (by rw [mks_len, r4])
  have q2 : OwnRow (putI H2 x.2.2 (mks (q + 1 + (rowI H x.2.1).length) (rowI H x.2.2).length)) x.2.1 (mks (q + 1) (rowI H x.2.1).length) := p1.same (putI_dj d3.symm)
  generalize hH3 : putI H2 x.2.2 (mks (q + 1 + (rowI H x.2.1).length) (rowI H x.2.2).length) = H3 at *
  -- what is not written stays
  have keep : ∀ g, blkOf v ≠ some g → blkOf x.2.1 ≠ some g → blkOf x.2.2 ≠ some g → H3[g]? = H'[g]? := by
    intro g g1 g2 g3
    rw [← hH3, putI_get g3, ← hH2, putI_get g2, hs g (by rintro rfl; exact g1 hvb)]
  have keepv : H3[b]? = H1[b]? := by
    rw [← hH3, putI_get (d2 b hvb), ← hH2, putI_get (d1 b hvb)]
  have other : ∀ (j : Nat) y, j ≠ i → xs[j]? = some y → (∀ g, blkOf y.2.1 = some g → H3[g]? = H'[g]?) ∧ (∀ g, blkOf y.2.2 = some g → H3[g]? = H'[g]?) := by
    intro j y hj hy
    obtain ⟨e1, e2⟩ := hd.out j y hy
    obtain ⟨f1, f2, f3, f4⟩ := hd.dif j i y x hj hy hx
    exact ⟨fun g hg => keep g (fun h2 => e1 g h2 hg) (f1 g hg) (f2 g hg), fun g hg => keep g (fun h2 => e2 g h2 hg) (f3 g hg) (f4 g hg)⟩
  have hset : (ys.set i (q % 3 == 0, x.2)).map vcells = (ys.map vcells).set i ((vcells ys[i]).set 0 (.bool (q % 3 == 0))) := by
    rw [List.map_set]
    simp [vcells, hy2]
  refine ⟨?_, ?_, ?_, ?_, ?_, ?_, ?_, ?_, ?_, ?_⟩
  · rw [← hH3, putI_len, ← hH2, putI_len, ← hH1, List.length_set, h.len]
  · intro g g1 g2
    obtain ⟨g3, g4⟩ := g2 i x hx
    rw [keep g g1 g3 g4]
    exact h.frame g g1 g2
  · have e : o + i * 3 = o + i * 3 + 0 := rfl
    have := SOwn.set (H := H') (b := b) (o := o) (s := 3) (cs := cs) (xs := ys.map vcells) (i := i) (j := 0) (x := vcells ys[i]) (y := .bool (q % 3 == 0)) hb (by simp [h.yl]; exact hlen) hc (by simp [hiy]) (by decide)
    rw [← e, hH1, ← hset] at this
    have hv2 : v = .slice (some ⟨b, o, none⟩) (ys.map vcells).length 3 := by rw [hv]; simp [h.yl]
    rw [← hv2] at this
    refine this.same fun g hg => ?_
    rw [hvb] at hg
    cases hg
    exact keepv
  · simp [h.yl]
  · intro j y z hy hz
    rw [List.getElem?_set] at hz
    by_cases e : i = j
    · subst e
      rw [if_pos rfl, if_pos hiy] at hz
      cases hz
      rw [hx] at hy; cases hy; rfl
    · rw [if_neg e] at hz
      exact h.same j y z hy hz
  · intro j y hy
    by_cases e : j = i
    · subst e
      rw [hx] at hy; cases hy
      rw [q2.rowI, q1.rowI]
      exact ⟨q2, q1, mks_len, mks_len⟩
    · obtain ⟨a1, a2⟩ := other j y e hy
      obtain ⟨c1, c2, c3, c4⟩ := h.rows j y hy
      have z1 := c1.same a1
      have z2 := c2.same a2
      rw [z1.rowI, z2.rowI]
      exact ⟨z1, z2, c3, c4⟩
  · intro j y hj hy
    rw [List.getElem?_set] at hy
    by_cases e : i = j
    · subst e
      rw [if_pos rfl, if_pos hiy] at hy
      cases hy
      have hlx : (lensV H xs)[i]? = some ((rowI H x.2.1).length, (rowI H x.2.2).length) := by simp [lensV, hx]
      have := h.rest
      have hl : i < (lensV H xs).length := by simp [lensV, hi]
      rw [List.drop_eq_getElem_cons hl] at this
      have h5 : (lensV H xs)[i] = ((rowI H x.2.1).length, (rowI H x.2.2).length) := by
        rw [List.getElem?_eq_getElem hl] at hlx; exact Option.some.inj hlx
      rw [h5] at this
      have h6 := congrArg (fun l : List (Bool × List Int × List Int) => l[0]?) this
      simp only [List.getElem?_drop, Nat.add_zero, markL, List.getElem?_cons_zero] at h6
      rw [h6]
      simp only [vval, q1.rowI, q2.rowI]
    · rw [if_neg e] at hy
      rw [h.done j y (by omega) hy]
      have hjl : j < xs.length := by rw [← h.yl]; exact (List.getElem?_eq_some_iff.1 hy).1
      have hxj := List.getElem?_eq_getElem hjl
      have hs2 := h.same j _ y hxj hy
      obtain ⟨a1, a2⟩ := other j _ (fun h => e h.symm) hxj
      obtain ⟨c1, c2, _, _⟩ := h.rows j _ hxj
      have z1 := c1.same a1
      have z2 := c2.same a2
      simp only [vval, hs2, z1.rowI, z2.rowI]
  · have hl : i < (lensV H xs).length := by simp [lensV, hi]
    have h5 : (lensV H xs)[i] = ((rowI H x.2.1).length, (rowI H x.2.2).length) := by
      have hlx : (lensV H xs)[i]? = some ((rowI H x.2.1).length, (rowI H x.2.2).length) := by simp [lensV, hx]
      rw [List.getElem?_eq_getElem hl] at hlx; exact Option.some.inj hlx
    have := h.rest
    rw [List.drop_eq_getElem_cons hl, h5] at this
    have h6 := congrArg (List.drop 1) this
    rw [List.drop_drop] at h6
    simpa [markL, Nat.add_comm] using h6
  · have hl : i < (lensV H xs).length := by simp [lensV, hi]
    have h5 : (lensV H xs)[i] = ((rowI H x.2.1).length, (rowI H x.2.2).length) := by
      have hlx : (lensV H xs)[i]? = some ((rowI H x.2.1).length, (rowI H x.2.2).length) := by simp [lensV, hx]
      rw [List.getElem?_eq_getElem hl] at hlx; exact Option.some.inj hlx
    have := h.cnt
    rw [List.drop_eq_getElem_cons hl, h5] at this
    simp only [cntL, List.map_cons, List.sum_cons] at this ⊢
    omega
  · have := h.pos
    omega
theorem markL_len : ∀ (l : List (Nat × Nat)) (k : Int), (markL l k).length = l.length
  | [], _ => rfl
  | x :: r, k => by simp [markL, markL_len r]
theorem MI.vals {H H' : AH} {v : Value} {xs ys : List VR3} {k q : Int} (h : MI H v xs k xs.length q ys H') : ys.map (vval H') = markL (lensV H xs) k := by
  refine List.ext_getElem? fun j => ?_
  rcases Nat.lt_or_ge j ys.length with h1 | h1
  · rw [List.getElem?_map, List.getElem?_eq_getElem h1, h.done j _ (by rw [← h.yl]; exact h1) (List.getElem?_eq_getElem h1)]
    rfl
  · rw [List.getElem?_eq_none (by simpa using h1), List.getElem?_eq_none (by rw [markL_len]; simp [lensV, ← h.yl]; exact h1)]
theorem MI.okv {H H' : AH} {v : Value} {xs ys : List VR3} {k q : Int} {i : Nat} (h : MI H v xs k i q ys H') (hx : ∀ x ∈ xs, OkV H x) : ∀ y ∈ ys, OkV H' y := by
  intro y hy
  obtain ⟨j, hj⟩ := List.mem_iff_getElem?.1 hy
  have hjl : j < xs.length := by rw [← h.yl]; exact (List.getElem?_eq_some_iff.1 hj).1
  have hxj := List.getElem?_eq_getElem hjl
  have h2 := h.same j _ y hxj hj
  obtain ⟨r1, r2, r3, r4⟩ := h.rows j _ hxj
  obtain ⟨_, _, s1, s2⟩ := hx _ (List.getElem_mem hjl)
  unfold OkV
  rw [h2]
  exact ⟨r1.int, r2.int, by rw [r3]; exact s1, by rw [r4]; exact s2⟩

theorem markVarS_ok {H : AH} {v : Value} {xs : List VR3} {k : Int} (hv : SOwn H v 3 (xs.map vcells)) (hd : VD v xs) (hx : ∀ (j : Nat) x, xs[j]? = some x → OwnRow H x.2.1 (rowI H x.2.1) ∧ OwnRow H x.2.2 (rowI H x.2.2))
    (hk : 0 ≤ k ∧ k + cntL (lensV H xs) < 4611686018427387904) :
    CallsA Try.prog 21 #[v, .int .i64 k] H fun r H' => r = .int .i64 (k + cntL (lensV H xs)) ∧ ∃ ys, MI H v xs k xs.length (k + cntL (lensV H xs)) ys H' := by
  obtain ⟨a, c, hv0, gv⟩ := hv.row.op
  have hcn : ∀ l : List (Nat × Nat), l.length ≤ cntL l := by
    intro l
    induction l with
    | nil => exact Nat.le_refl _
    | cons x l ih => simp [cntL] at ih ⊢; omega
  have hlen := hcn (lensV H xs)
  simp only [lensV, List.length_map] at hlen hv0
  have hlen2 : xs.length ≤ cntL (lensV H xs) := hlen
  subst hv0
  refine w21 ?_
  unfold k21
  simp -implicitDefEqProofs only [rE_seq_n, rE_seq_r, rE_seq_e, rE_blk_n, rE_blk_r, rE_blk_e, rW_skip, rW_ret, rW_exit, rW_ops, rW_seq, rW_block, ↓two_true, ↓two_false, rC_bool, rW_cond, rO_nil, rO_cons, oG_t, oG_f, oG_undef, rO_guard, oV_some, rOV_eq, oP_move, oP_assign, oP_bin, oP_un, oP_index, oP_fieldAddr, oP_field, oP_indexAddr, oP_slice, oP_load, oP_convert, aPick_true, aPick_false, aPick_bool, oP_pick, aExtract_tup, oP_extract, oP_nilCheck, oP_build, oP_len, oP_cap, oP_max, oP_min, oP_makeFunc, oS_some, oP_store, oA_some, oP_append, oM_some, oP_alloc, oP_box, oP_buildSlice, oP_makeSlice, oP_call, oP_callv, oF_func, aev_tmp, aev_const, aev_func, aput_get, aput_none, bin_add, bin_sub, bin_mul, bin_eql, bin_neq, bin_lss, bin_leq, bin_gtr, bin_geq, un_not, un_neg, tm0_get, fin_ret, fin_end, oR_some, resL_nil, resL_tmp, resL_cell, tup_one, tup_two, tup_nil, cond_true, cond_false, load_eq, Option.bind_some, mkv, List.length_append, List.length_cons, List.length_nil, List.append_assoc, List.cons_append, List.nil_append, rd0, rdi, wrt0, wrti, rdB_own, rdB_ro, wrB_own, oL_some, aggAt, sto_some, st0, sti, List.set_cons_zero, List.set_cons_succ, splice_nil, splice_cons, cells_agg, cells_int, cells_bool, cells_string, cells_pointer, cells_slice, leaf_int, leaf_bool, leaf_string, leaf_pointer, leaf_slice, List.size_toArray, List.all_cons, List.all_nil, Bool.and_self, Bool.and_true, and_self, true_and, and_true, Nat.zero_add, Nat.add_zero, Nat.reduceLeDiff, Nat.le_refl, List.drop_zero, List.drop_succ_cons, List.take_succ_cons, List.take_zero, oP_box, Nat.reduceSub, lp_end, lp_ret, lp_exit, oV_ite, oS_ite, oA_ite, slc_some, sls_some, optInt_none, optInt_some, rW_draw, rD_nil, rDV_eq, rDR_eq, rDE_eq, rDS_n, rDS_e, rD_load, rD_conv, rD_pure, rD_e, rD_g, rDG_t, rDG_f, rDG_undef, chkH_nil, chkH_cons, chkP_nil, chkP_cons, aRead_load, aRead_conv, isE_store, isE_call, isE_append, rDS_l, rDS_c, pl_move, pl_assign, pl_pick, pl_alloc, pl_box, pl_build, pl_buildSlice, pl_nilCheck, pl_binOp, pl_unOp, pl_makeFunc, pl_makeSlice, pl_slice, pl_fieldAddr, pl_field, pl_indexAddr, pl_index, pl_extract, pl_len, pl_cap, pl_max, pl_min, List.mem_cons, Prod.mk.injEq, List.not_mem_nil, or_false, or_true, false_or, true_or, and_false, false_and, false_implies, implies_true, true_implies, List.getElem?_toArray, List.getElem?_cons_zero, List.getElem?_cons_succ, List.getElem?_nil, Option.getD_some, Option.getD_none, Nat.reduceEqDiff, reduceIte, Nat.reduceAdd, List.map_toArray, List.map_cons, List.map_nil, Bool.false_eq_true, Nat.reduceBEq, Option.map_some, Option.map_none, reduceCtorEq, fa55_0, fa55_1, fa67_0, fa67_1, ix34, ld51, ln34, st4]
  refine rW_loop (σ := Nat × Int × List VR3) (fun p tm H' => tm 0 = .slice a xs.length c ∧ tm 1 = .int .i64 p.2.1 ∧ tm 5 = .int .i64 p.1 ∧ p.1 ≤ xs.length ∧ MI H (.slice a xs.length c) xs k p.1 p.2.1 p.2.2 H') (fun p => xs.length - p.1) (0, k, xs) ?_ ?_
  · simp -implicitDefEqProofs [rE_seq_n, rE_seq_r, rE_seq_e, rE_blk_n, rE_blk_r, rE_blk_e, rW_skip, rW_ret, rW_exit, rW_ops, rW_seq, rW_block, ↓two_true, ↓two_false, rC_bool, rW_cond, rO_nil, rO_cons, oG_t, oG_f, oG_undef, rO_guard, oV_some, rOV_eq, oP_move, oP_assign, oP_bin, oP_un, oP_index, oP_fieldAddr, oP_field, oP_indexAddr, oP_slice, oP_load, oP_convert, aPick_true, aPick_false, aPick_bool, oP_pick, aExtract_tup, oP_extract, oP_nilCheck, oP_build, oP_len, oP_cap, oP_max, oP_min, oP_makeFunc, oS_some, oP_store, oA_some, oP_append, oM_some, oP_alloc, oP_box, oP_buildSlice, oP_makeSlice, oP_call, oP_callv, oF_func, aev_tmp, aev_const, aev_func, aput_get, aput_none, bin_add, bin_sub, bin_mul, bin_eql, bin_neq, bin_lss, bin_leq, bin_gtr, bin_geq, un_not, un_neg, tm0_get, fin_ret, fin_end, oR_some, resL_nil, resL_tmp, resL_cell, tup_one, tup_two, tup_nil, cond_true, cond_false, load_eq, Option.bind_some, mkv, List.length_append, List.length_cons, List.length_nil, List.append_assoc, List.cons_append, List.nil_append, rd0, rdi, wrt0, wrti, rdB_own, rdB_ro, wrB_own, oL_some, aggAt, sto_some, st0, sti, List.set_cons_zero, List.set_cons_succ, splice_nil, splice_cons, cells_agg, cells_int, cells_bool, cells_string, cells_pointer, cells_slice, leaf_int, leaf_bool, leaf_string, leaf_pointer, leaf_slice, List.size_toArray, List.all_cons, List.all_nil, Bool.and_self, Bool.and_true, and_self, true_and, and_true, Nat.zero_add, Nat.add_zero, Nat.reduceLeDiff, Nat.le_refl, List.drop_zero, List.drop_succ_cons, List.take_succ_cons, List.take_zero, oP_box, Nat.reduceSub, lp_end, lp_ret, lp_exit, oV_ite, oS_ite, oA_ite, slc_some, sls_some, optInt_none, optInt_some, rW_draw, rD_nil, rDV_eq, rDR_eq, rDE_eq, rDS_n, rDS_e, rD_load, rD_conv, rD_pure, rD_e, rD_g, rDG_t, rDG_f, rDG_undef, chkH_nil, chkH_cons, chkP_nil, chkP_cons, aRead_load, aRead_conv, isE_store, isE_call, isE_append, rDS_l, rDS_c, pl_move, pl_assign, pl_pick, pl_alloc, pl_box, pl_build, pl_buildSlice, pl_nilCheck, pl_binOp, pl_unOp, pl_makeFunc, pl_makeSlice, pl_slice, pl_fieldAddr, pl_field, pl_indexAddr, pl_index, pl_extract, pl_len, pl_cap, pl_max, pl_min, List.mem_cons, Prod.mk.injEq, List.not_mem_nil, or_false, or_true, false_or, true_or, and_false, false_and, false_implies, implies_true, true_implies, List.getElem?_toArray, List.getElem?_cons_zero, List.getElem?_cons_succ, List.getElem?_nil, Option.getD_some, Option.getD_none, Nat.reduceEqDiff, reduceIte, Nat.reduceAdd, List.map_toArray, List.map_cons, List.map_nil, Bool.false_eq_true, Nat.reduceBEq, Option.map_some, Option.map_none, reduceCtorEq, fa55_0, fa55_1, fa67_0, fa67_1, ix34, ld51, ln34, st4]
    exact ⟨rfl, fun b _ _ => rfl, hv, rfl, fun j x y h1 h2 => by rw [h1] at h2; cases h2; rfl, fun j x h => ⟨(hx j x h).1, (hx j x h).2, rfl, rfl⟩, fun j y h => by omega, rfl, rfl, hk.1⟩
  · rintro ⟨i, q, ys⟩ tm H' ⟨h0, h1, h5, hi, hm⟩
    simp only at h0 h1 h5 hi hm
    simp -implicitDefEqProofs only [rE_seq_n, rE_seq_r, rE_seq_e, rE_blk_n, rE_blk_r, rE_blk_e, rW_skip, rW_ret, rW_exit, rW_ops, rW_seq, rW_block, ↓two_true, ↓two_false, rC_bool, rW_cond, rO_nil, rO_cons, oG_t, oG_f, oG_undef, rO_guard, oV_some, rOV_eq, oP_move, oP_assign, oP_bin, oP_un, oP_index, oP_fieldAddr, oP_field, oP_indexAddr, oP_slice, oP_load, oP_convert, aPick_true, aPick_false, aPick_bool, oP_pick, aExtract_tup, oP_extract, oP_nilCheck, oP_build, oP_len, oP_cap, oP_max, oP_min, oP_makeFunc, oS_some, oP_store, oA_some, oP_append, oM_some, oP_alloc, oP_box, oP_buildSlice, oP_makeSlice, oP_call, oP_callv, oF_func, aev_tmp, aev_const, aev_func, aput_get, aput_none, bin_add, bin_sub, bin_mul, bin_eql, bin_neq, bin_lss, bin_leq, bin_gtr, bin_geq, un_not, un_neg, tm0_get, fin_ret, fin_end, oR_some, resL_nil, resL_tmp, resL_cell, tup_one, tup_two, tup_nil, cond_true, cond_false, load_eq, Option.bind_some, mkv, List.length_append, List.length_cons, List.length_nil, List.append_assoc, List.cons_append, List.nil_append, rd0, rdi, wrt0, wrti, rdB_own, rdB_ro, wrB_own, oL_some, aggAt, sto_some, st0, sti, List.set_cons_zero, List.set_cons_succ, splice_nil, splice_cons, cells_agg, cells_int, cells_bool, cells_string, cells_pointer, cells_slice, leaf_int, leaf_bool, leaf_string, leaf_pointer, leaf_slice, List.size_toArray, List.all_cons, List.all_nil, Bool.and_self, Bool.and_true, and_self, true_and, and_true, Nat.zero_add, Nat.add_zero, Nat.reduceLeDiff, Nat.le_refl, List.drop_zero, List.drop_succ_cons, List.take_succ_cons, List.take_zero, oP_box, Nat.reduceSub, lp_end, lp_ret, lp_exit, oV_ite, oS_ite, oA_ite, slc_some, sls_some, optInt_none, optInt_some, rW_draw, rD_nil, rDV_eq, rDR_eq, rDE_eq, rDS_n, rDS_e, rD_load, rD_conv, rD_pure, rD_e, rD_g, rDG_t, rDG_f, rDG_undef, chkH_nil, chkH_cons, chkP_nil, chkP_cons, aRead_load, aRead_conv, isE_store, isE_call, isE_append, rDS_l, rDS_c, pl_move, pl_assign, pl_pick, pl_alloc, pl_box, pl_build, pl_buildSlice, pl_nilCheck, pl_binOp, pl_unOp, pl_makeFunc, pl_makeSlice, pl_slice, pl_fieldAddr, pl_field, pl_indexAddr, pl_index, pl_extract, pl_len, pl_cap, pl_max, pl_min, List.mem_cons, Prod.mk.injEq, List.not_mem_nil, or_false, or_true, false_or, true_or, and_false, false_and, false_implies, implies_true, true_implies, List.getElem?_toArray, List.getElem?_cons_zero, List.getElem?_cons_succ, List.getElem?_nil, Option.getD_some, Option.getD_none, Nat.reduceEqDiff, reduceIte, Nat.reduceAdd, List.map_toArray, List.map_cons, List.map_nil, Bool.false_eq_true, Nat.reduceBEq, Option.map_some, Option.map_none, reduceCtorEq, fa55_0, fa55_1, fa67_0, fa67_1, ix34, ld51, ln34, st4, h0, h1, h5]
    refine two_intro (fun hc => ?_) (fun hc => ?_)
    · have hc' : i < xs.length := by simpa using hc
      have hyl := hm.yl
      rcases hm.own with ⟨e1, e2⟩ | ⟨b, o, cs, e1, hb, hle, hcell⟩
      · have : ys = [] := by simpa using e2
        rw [this] at hyl
        simp at hyl
        omega
      have hbx : (xs.length : Int) < 4611686018427387904 := by omega
      simp only [List.length_map, hyl, Value.slice.injEq] at e1 hle
      obtain ⟨rfl, _, rfl⟩ := e1
      have hxi := List.getElem?_eq_getElem hc'
      have hy : i < ys.length := by omega
      have hyi := List.getElem?_eq_getElem hy
      have hs2 := hm.same i _ _ hxi hyi
      have hx1 : (ys.map vcells)[i]? = some (vcells ys[i]) := by simp [hy]
      have r1 := row_lt (s := 3) hc'
      have hbl := (List.getElem?_eq_some_iff.1 hb).1
      have f1 : cs[o + i * 3 + 1]? = some xs[i].2.1 := by rw [← hs2]; exact (hcell i _ hx1).2 1 _ rfl
      have f2 : cs[o + i * 3 + 1 + 1]? = some xs[i].2.2 := by rw [← hs2]; exact (hcell i _ hx1).2 2 _ rfl
      have hlx : (lensV H xs)[i]? = some ((rowI H xs[i].2.1).length, (rowI H xs[i].2.2).length) := by simp [lensV, hc']
      have hll : i < (lensV H xs).length := by simp [lensV, hc']
      have hcnt := hm.cnt
      rw [List.drop_eq_getElem_cons hll] at hcnt
      have h6 : (lensV H xs)[i] = ((rowI H xs[i].2.1).length, (rowI H xs[i].2.2).length) := by
        rw [List.getElem?_eq_getElem hll] at hlx; exact Option.some.inj hlx
      rw [h6] at hcnt
      simp only [cntL, List.map_cons, List.sum_cons] at hcnt hk
      have hpos := hm.pos
      have hw1 : IntKind.i64.wrap (q + 1) = q + 1 := IntWalk.i64_in _ (by omega)
      have hmod : q.tmod 3 = q % 3 := Int.tmod_eq_emod_of_nonneg hpos
      obtain ⟨d1, d2⟩ := hd.out i _ hxi
      have d3 := hd.inn i _ hxi
      obtain ⟨o1, o2, o3, o4⟩ := hm.rows i _ hxi
      have hstep := hm.step hd hxi rfl hb hle hcell
      generalize hH1 : H'.set b ⟨cs.set (o + i * 3) (.bool (q % 3 == 0)), .own⟩ = H1 at hstep
      have hb1 : H1[b]? = some ⟨cs.set (o + i * 3) (.bool (q % 3 == 0)), .own⟩ := by rw [← hH1, List.getElem?_set_self hbl]
      have hsame : ∀ w, Dj (.slice (some ⟨b, o, none⟩) xs.length 3) w → ∀ g, blkOf w = some g → H1[g]? = H'[g]? := by
        intro w hw g hg
        rw [← hH1, List.getElem?_set_ne]
        rintro rfl
        exact hw _ rfl hg
      have p1 : OwnRow H1 xs[i].2.1 (rowI H' xs[i].2.1) := o1.same (hsame _ d1)
      have p2 : OwnRow H1 xs[i].2.2 (rowI H' xs[i].2.2) := o2.same (hsame _ d2)
      have e1 : rowI H1 xs[i].2.1 = rowI H' xs[i].2.1 := p1.rowI
      have p1' : OwnRow H1 xs[i].2.1 (rowI H1 xs[i].2.1) := by rw [e1]; exact p1
      have g1 : rd H1 b = some (cs.set (o + i * 3) (.bool (q % 3 == 0))) := rd_own hb1
      have g2 : (cs.set (o + i * 3) (.bool (q % 3 == 0)))[o + i * 3 + 1]? = some xs[i].2.1 := by rw [List.getElem?_set_ne (by omega)]; exact f1
      have g3 : (cs.set (o + i * 3) (.bool (q % 3 == 0)))[o + i * 3 + 1 + 1]? = some xs[i].2.2 := by rw [List.getElem?_set_ne (by omega)]; exact f2
      have l1 : (rowI H1 xs[i].2.1).length = (rowI H xs[i].2.1).length := by rw [e1, o3]
      have m1 := fun Φ => markIntS_eq (k := q + 1) (Φ := Φ) p1' (by rw [l1]; omega) (by omega)
      rw [l1] at m1
      have e2 : rowI (putI H1 xs[i].2.1 (mks (q + 1) (rowI H xs[i].2.1).length)) xs[i].2.2 = rowI H' xs[i].2.2 := (p2.same (putI_dj d3)).rowI
      have p2' : OwnRow (putI H1 xs[i].2.1 (mks (q + 1) (rowI H xs[i].2.1).length)) xs[i].2.2 (rowI (putI H1 xs[i].2.1 (mks (q + 1) (rowI H xs[i].2.1).length)) xs[i].2.2) := by rw [e2]; exact p2.same (putI_dj d3)
      have l2 : (rowI (putI H1 xs[i].2.1 (mks (q + 1) (rowI H xs[i].2.1).length)) xs[i].2.2).length = (rowI H xs[i].2.2).length := by rw [e2, o4]
      have m2 := fun Φ => markIntS_eq (k := q + 1 + (rowI H xs[i].2.1).length) (Φ := Φ) p2' (by rw [l2]; omega) (by omega)
      rw [l2] at m2
      have g4 : rd (putI H1 xs[i].2.1 (mks (q + 1) (rowI H xs[i].2.1).length)) b = some (cs.set (o + i * 3) (.bool (q % 3 == 0))) := by rw [putI_rd (d1 b rfl), g1]
      simp -implicitDefEqProofs only [rE_seq_n, rE_seq_r, rE_seq_e, rE_blk_n, rE_blk_r, rE_blk_e, rW_skip, rW_ret, rW_exit, rW_ops, rW_seq, rW_block, ↓two_true, ↓two_false, rC_bool, rW_cond, rO_nil, rO_cons, oG_t, oG_f, oG_undef, rO_guard, oV_some, rOV_eq, oP_move, oP_assign, oP_bin, oP_un, oP_index, oP_fieldAddr, oP_field, oP_indexAddr, oP_slice, oP_load, oP_convert, aPick_true, aPick_false, aPick_bool, oP_pick, aExtract_tup, oP_extract, oP_nilCheck, oP_build, oP_len, oP_cap, oP_max, oP_min, oP_makeFunc, oS_some, oP_store, oA_some, oP_append, oM_some, oP_alloc, oP_box, oP_buildSlice, oP_makeSlice, oP_call, oP_callv, oF_func, aev_tmp, aev_const, aev_func, aput_get, aput_none, bin_add, bin_sub, bin_mul, bin_eql, bin_neq, bin_lss, bin_leq, bin_gtr, bin_geq, un_not, un_neg, tm0_get, fin_ret, fin_end, oR_some, resL_nil, resL_tmp, resL_cell, tup_one, tup_two, tup_nil, cond_true, cond_false, load_eq, Option.bind_some, mkv, List.length_append, List.length_cons, List.length_nil, List.append_assoc, List.cons_append, List.nil_append, rd0, rdi, wrt0, wrti, rdB_own, rdB_ro, wrB_own, oL_some, aggAt, sto_some, st0, sti, List.set_cons_zero, List.set_cons_succ, splice_nil, splice_cons, cells_agg, cells_int, cells_bool, cells_string, cells_pointer, cells_slice, leaf_int, leaf_bool, leaf_string, leaf_pointer, leaf_slice, List.size_toArray, List.all_cons, List.all_nil, Bool.and_self, Bool.and_true, and_self, true_and, and_true, Nat.zero_add, Nat.add_zero, Nat.reduceLeDiff, Nat.le_refl, List.drop_zero, List.drop_succ_cons, List.take_succ_cons, List.take_zero, oP_box, Nat.reduceSub, lp_end, lp_ret, lp_exit, oV_ite, oS_ite, oA_ite, slc_some, sls_some, optInt_none, optInt_some, rW_draw, rD_nil, rDV_eq, rDR_eq, rDE_eq, rDS_n, rDS_e, rD_load, rD_conv, rD_pure, rD_e, rD_g, rDG_t, rDG_f, rDG_undef, chkH_nil, chkH_cons, chkP_nil, chkP_cons, aRead_load, aRead_conv, isE_store, isE_call, isE_append, rDS_l, rDS_c, pl_move, pl_assign, pl_pick, pl_alloc, pl_box, pl_build, pl_buildSlice, pl_nilCheck, pl_binOp, pl_unOp, pl_makeFunc, pl_makeSlice, pl_slice, pl_fieldAddr, pl_field, pl_indexAddr, pl_index, pl_extract, pl_len, pl_cap, pl_max, pl_min, List.mem_cons, Prod.mk.injEq, List.not_mem_nil, or_false, or_true, false_or, true_or, and_false, false_and, false_implies, implies_true, true_implies, List.getElem?_toArray, List.getElem?_cons_zero, List.getElem?_cons_succ, List.getElem?_nil, Option.getD_some, Option.getD_none, Nat.reduceEqDiff, reduceIte, Nat.reduceAdd, List.map_toArray, List.map_cons, List.map_nil, Bool.false_eq_true, Nat.reduceBEq, Option.map_some, Option.map_none, reduceCtorEq, fa55_0, fa55_1, fa67_0, fa67_1, ix34, ld51, ln34, st4, h0, h1, h5, Int.toNat_natCast, hw1, hmod, bin_rem (show (3 : Int) ≠ 0 by decide), wrt_own hb, hH1, g1, g2, g3, g4, m1, m2]
      rw [IntWalk.i64_in (↑i + 1) (by omega)]
      exact ⟨⟨by omega, by omega⟩, by omega, ⟨by omega, by omega⟩, ⟨by omega, by omega⟩, (i + 1, q + 1 + (rowI H xs[i].2.1).length + (rowI H xs[i].2.2).length, ys.set i (q % 3 == 0, xs[i].2)), by simp only; omega, rfl, by simp, hc', hstep⟩
    · have hc' : ¬ i < xs.length := by simpa using hc
      have hil : i = xs.length := by omega
      subst hil
      have hq : q = k + cntL (lensV H xs) := by
        have := hm.cnt
        rw [List.drop_of_length_le (by simp [lensV])] at this
        simpa [cntL] using this
      rw [← hq]
      exact ⟨rfl, ys, hm⟩

theorem SOwn.new {H : AH} {s : Nat} {xs : List (List Value)} (h : ∀ x ∈ xs, x.length = s) : SOwn (H ++ [⟨xs.flatten, .own⟩]) (.slice (some ⟨H.length, 0, none⟩) xs.length s) s xs := by
  obtain ⟨h1, h2⟩ := flat_get xs h
  refine .inr ⟨H.length, 0, xs.flatten, rfl, by rw [gt0]; rfl, by rw [h1]; omega, ?_⟩
  intro i x hx
  have hl := h x (List.mem_iff_getElem?.2 ⟨i, hx⟩)
  refine ⟨hl, fun j y hy => ?_⟩
  have hj : j < s := by rw [← hl]; exact (List.getElem?_eq_some_iff.1 hy).1
  rw [← h2 i x hx, List.getElem?_take_of_lt hj, List.getElem?_drop] at hy
  rw [Nat.zero_add]
  exact hy
/-- New vars. -/
def nv : List VR3 := List.replicate 26 (false, .slice none 0 0, .slice none 0 0)
def nvc : List Value := (nv.map vcells).flatten
theorem nv_mem {x : VR3} (h : x ∈ nv) : x = (false, .slice none 0 0, .slice none 0 0) := by
  simp [nv] at h; exact h
theorem nv_get {i : Nat} {x : VR3} (h : nv[i]? = some x) : x = (false, .slice none 0 0, .slice none 0 0) := nv_mem (List.mem_iff_getElem?.2 ⟨i, h⟩)
theorem nv_own {H : AH} : SOwn (H ++ [⟨nvc, .own⟩]) (.slice (some ⟨H.length, 0, none⟩) 26 3) 3 (nv.map vcells) :=
  SOwn.new (s := 3) (xs := nv.map vcells) (by intro x hx; obtain ⟨y, _, rfl⟩ := List.mem_map.1 hx; rfl)
theorem okV_nil {H : AH} : OkV H (false, .slice none 0 0, .slice none 0 0) := ⟨OkI.nil, OkI.nil, by simp [rowI], by simp [rowI]⟩
theorem nv_ok {H : AH} : ∀ x ∈ nv, OkV H x := fun x hx => by rw [nv_mem hx]; exact okV_nil
theorem nv_val {H H' : AH} : nv.map (vval H) = nv.map (vval H') := by
  refine List.map_congr_left fun x hx => ?_
  rw [nv_mem hx]; rfl
theorem nv_lens {H : AH} : lensV H nv = List.replicate 26 (0, 0) := by
  simp [lensV, nv, rowI]
theorem nv_vd {v : Value} : VD v nv := by
  refine ⟨fun i x h => ?_, fun i x h => ?_, fun i j x y _ h1 h2 => ?_⟩
  · rw [nv_get h]; exact ⟨fun b _ h => by simp [blkOf] at h, fun b _ h => by simp [blkOf] at h⟩
  · rw [nv_get h]; exact fun b _ h => by simp [blkOf] at h
  · rw [nv_get h1, nv_get h2]
    exact ⟨fun b _ h => by simp [blkOf] at h, fun b _ h => by simp [blkOf] at h, fun b _ h => by simp [blkOf] at h, fun b _ h => by simp [blkOf] at h⟩

theorem specVarsNew_mk {tm : Tm} : aMake Try.prog (aev tm) (.makeSlice 34 (.const (.int .i64 26)) (.const (.int .i64 26))) = some (nvc, some (26, 3)) := by kernel_rfl
theorem specVarsNew_ok (H : AH) : CallsA Try.prog 18 #[] H fun r H' => r = .slice (some ⟨H.length, 0, none⟩) 26 3 ∧ H' = H ++ [⟨nvc, .own⟩] := by
  refine w18 ?_
  unfold k18
  simp -implicitDefEqProofs only [rE_seq_n, rE_seq_r, rE_seq_e, rE_blk_n, rE_blk_r, rE_blk_e, rW_skip, rW_ret, rW_exit, rW_ops, rW_seq, rW_block, ↓two_true, ↓two_false, rC_bool, rW_cond, rO_nil, rO_cons, oG_t, oG_f, oG_undef, rO_guard, oV_some, rOV_eq, oP_move, oP_assign, oP_bin, oP_un, oP_index, oP_fieldAddr, oP_field, oP_indexAddr, oP_slice, oP_load, oP_convert, aPick_true, aPick_false, aPick_bool, oP_pick, aExtract_tup, oP_extract, oP_nilCheck, oP_build, oP_len, oP_cap, oP_max, oP_min, oP_makeFunc, oS_some, oP_store, oA_some, oP_append, oM_some, oP_alloc, oP_box, oP_buildSlice, oP_makeSlice, oP_call, oP_callv, oF_func, aev_tmp, aev_const, aev_func, aput_get, aput_none, bin_add, bin_sub, bin_mul, bin_eql, bin_neq, bin_lss, bin_leq, bin_gtr, bin_geq, un_not, un_neg, tm0_get, fin_ret, fin_end, oR_some, resL_nil, resL_tmp, resL_cell, tup_one, tup_two, tup_nil, cond_true, cond_false, load_eq, Option.bind_some, mkv, List.length_append, List.length_cons, List.length_nil, List.append_assoc, List.cons_append, List.nil_append, rd0, rdi, wrt0, wrti, rdB_own, rdB_ro, wrB_own, oL_some, aggAt, sto_some, st0, sti, List.set_cons_zero, List.set_cons_succ, splice_nil, splice_cons, cells_agg, cells_int, cells_bool, cells_string, cells_pointer, cells_slice, leaf_int, leaf_bool, leaf_string, leaf_pointer, leaf_slice, List.size_toArray, List.all_cons, List.all_nil, Bool.and_self, Bool.and_true, and_self, true_and, and_true, Nat.zero_add, Nat.add_zero, Nat.reduceLeDiff, Nat.le_refl, List.drop_zero, List.drop_succ_cons, List.take_succ_cons, List.take_zero, oP_box, Nat.reduceSub, lp_end, lp_ret, lp_exit, oV_ite, oS_ite, oA_ite, slc_some, sls_some, optInt_none, optInt_some, rW_draw, rD_nil, rDV_eq, rDR_eq, rDE_eq, rDS_n, rDS_e, rD_load, rD_conv, rD_pure, rD_e, rD_g, rDG_t, rDG_f, rDG_undef, chkH_nil, chkH_cons, chkP_nil, chkP_cons, aRead_load, aRead_conv, isE_store, isE_call, isE_append, rDS_l, rDS_c, pl_move, pl_assign, pl_pick, pl_alloc, pl_box, pl_build, pl_buildSlice, pl_nilCheck, pl_binOp, pl_unOp, pl_makeFunc, pl_makeSlice, pl_slice, pl_fieldAddr, pl_field, pl_indexAddr, pl_index, pl_extract, pl_len, pl_cap, pl_max, pl_min, List.mem_cons, Prod.mk.injEq, List.not_mem_nil, or_false, or_true, false_or, true_or, and_false, false_and, false_implies, implies_true, true_implies, List.getElem?_toArray, List.getElem?_cons_zero, List.getElem?_cons_succ, List.getElem?_nil, Option.getD_some, Option.getD_none, Nat.reduceEqDiff, reduceIte, Nat.reduceAdd, List.map_toArray, List.map_cons, List.map_nil, Bool.false_eq_true, Nat.reduceBEq, Option.map_some, Option.map_none, reduceCtorEq, specVarsNew_mk]
theorem specVarsNew_eq {H : AH} {Φ : Value → AH → Prop} : CallsA Try.prog 18 #[] H Φ = Φ (.slice (some ⟨H.length, 0, none⟩) 26 3) (H ++ [⟨nvc, .own⟩]) := Ans.eq (specVarsNew_ok H)

theorem implVarsNew_ok (H : AH) : CallsA Try.prog 19 #[] H fun r H' => r = .slice (some ⟨H.length, 0, none⟩) 26 3 ∧ H' = H ++ [⟨nvc, .own⟩] := by
  refine w19 ?_
  unfold k19
  simp -implicitDefEqProofs only [rE_seq_n, rE_seq_r, rE_seq_e, rE_blk_n, rE_blk_r, rE_blk_e, rW_skip, rW_ret, rW_exit, rW_ops, rW_seq, rW_block, ↓two_true, ↓two_false, rC_bool, rW_cond, rO_nil, rO_cons, oG_t, oG_f, oG_undef, rO_guard, oV_some, rOV_eq, oP_move, oP_assign, oP_bin, oP_un, oP_index, oP_fieldAddr, oP_field, oP_indexAddr, oP_slice, oP_load, oP_convert, aPick_true, aPick_false, aPick_bool, oP_pick, aExtract_tup, oP_extract, oP_nilCheck, oP_build, oP_len, oP_cap, oP_max, oP_min, oP_makeFunc, oS_some, oP_store, oA_some, oP_append, oM_some, oP_alloc, oP_box, oP_buildSlice, oP_makeSlice, oP_call, oP_callv, oF_func, aev_tmp, aev_const, aev_func, aput_get, aput_none, bin_add, bin_sub, bin_mul, bin_eql, bin_neq, bin_lss, bin_leq, bin_gtr, bin_geq, un_not, un_neg, tm0_get, fin_ret, fin_end, oR_some, resL_nil, resL_tmp, resL_cell, tup_one, tup_two, tup_nil, cond_true, cond_false, load_eq, Option.bind_some, mkv, List.length_append, List.length_cons, List.length_nil, List.append_assoc, List.cons_append, List.nil_append, rd0, rdi, wrt0, wrti, rdB_own, rdB_ro, wrB_own, oL_some, aggAt, sto_some, st0, sti, List.set_cons_zero, List.set_cons_succ, splice_nil, splice_cons, cells_agg, cells_int, cells_bool, cells_string, cells_pointer, cells_slice, leaf_int, leaf_bool, leaf_string, leaf_pointer, leaf_slice, List.size_toArray, List.all_cons, List.all_nil, Bool.and_self, Bool.and_true, and_self, true_and, and_true, Nat.zero_add, Nat.add_zero, Nat.reduceLeDiff, Nat.le_refl, List.drop_zero, List.drop_succ_cons, List.take_succ_cons, List.take_zero, oP_box, Nat.reduceSub, lp_end, lp_ret, lp_exit, oV_ite, oS_ite, oA_ite, slc_some, sls_some, optInt_none, optInt_some, rW_draw, rD_nil, rDV_eq, rDR_eq, rDE_eq, rDS_n, rDS_e, rD_load, rD_conv, rD_pure, rD_e, rD_g, rDG_t, rDG_f, rDG_undef, chkH_nil, chkH_cons, chkP_nil, chkP_cons, aRead_load, aRead_conv, isE_store, isE_call, isE_append, rDS_l, rDS_c, pl_move, pl_assign, pl_pick, pl_alloc, pl_box, pl_build, pl_buildSlice, pl_nilCheck, pl_binOp, pl_unOp, pl_makeFunc, pl_makeSlice, pl_slice, pl_fieldAddr, pl_field, pl_indexAddr, pl_index, pl_extract, pl_len, pl_cap, pl_max, pl_min, List.mem_cons, Prod.mk.injEq, List.not_mem_nil, or_false, or_true, false_or, true_or, and_false, false_and, false_implies, implies_true, true_implies, List.getElem?_toArray, List.getElem?_cons_zero, List.getElem?_cons_succ, List.getElem?_nil, Option.getD_some, Option.getD_none, Nat.reduceEqDiff, reduceIte, Nat.reduceAdd, List.map_toArray, List.map_cons, List.map_nil, Bool.false_eq_true, Nat.reduceBEq, Option.map_some, Option.map_none, reduceCtorEq, specVarsNew_mk]
theorem implVarsNew_eq {H : AH} {Φ : Value → AH → Prop} : CallsA Try.prog 19 #[] H Φ = Φ (.slice (some ⟨H.length, 0, none⟩) 26 3) (H ++ [⟨nvc, .own⟩]) := Ans.eq (implVarsNew_ok H)

theorem law6 : LawA Try.prog 6 [] := by
  intro H vs hro h
  obtain rfl := h.nil
  refine w6 ?_
  unfold k6
  simp -implicitDefEqProofs only [rE_seq_n, rE_seq_r, rE_seq_e, rE_blk_n, rE_blk_r, rE_blk_e, rW_skip, rW_ret, rW_exit, rW_ops, rW_seq, rW_block, ↓two_true, ↓two_false, rC_bool, rW_cond, rO_nil, rO_cons, oG_t, oG_f, oG_undef, rO_guard, oV_some, rOV_eq, oP_move, oP_assign, oP_bin, oP_un, oP_index, oP_fieldAddr, oP_field, oP_indexAddr, oP_slice, oP_load, oP_convert, aPick_true, aPick_false, aPick_bool, oP_pick, aExtract_tup, oP_extract, oP_nilCheck, oP_build, oP_len, oP_cap, oP_max, oP_min, oP_makeFunc, oS_some, oP_store, oA_some, oP_append, oM_some, oP_alloc, oP_box, oP_buildSlice, oP_makeSlice, oP_call, oP_callv, oF_func, aev_tmp, aev_const, aev_func, aput_get, aput_none, bin_add, bin_sub, bin_mul, bin_eql, bin_neq, bin_lss, bin_leq, bin_gtr, bin_geq, un_not, un_neg, tm0_get, fin_ret, fin_end, oR_some, resL_nil, resL_tmp, resL_cell, tup_one, tup_two, tup_nil, cond_true, cond_false, load_eq, Option.bind_some, mkv, List.length_append, List.length_cons, List.length_nil, List.append_assoc, List.cons_append, List.nil_append, rd0, rdi, wrt0, wrti, rdB_own, rdB_ro, wrB_own, oL_some, aggAt, sto_some, st0, sti, List.set_cons_zero, List.set_cons_succ, splice_nil, splice_cons, cells_agg, cells_int, cells_bool, cells_string, cells_pointer, cells_slice, leaf_int, leaf_bool, leaf_string, leaf_pointer, leaf_slice, List.size_toArray, List.all_cons, List.all_nil, Bool.and_self, Bool.and_true, and_self, true_and, and_true, Nat.zero_add, Nat.add_zero, Nat.reduceLeDiff, Nat.le_refl, List.drop_zero, List.drop_succ_cons, List.take_succ_cons, List.take_zero, oP_box, Nat.reduceSub, lp_end, lp_ret, lp_exit, oV_ite, oS_ite, oA_ite, slc_some, sls_some, optInt_none, optInt_some, rW_draw, rD_nil, rDV_eq, rDR_eq, rDE_eq, rDS_n, rDS_e, rD_load, rD_conv, rD_pure, rD_e, rD_g, rDG_t, rDG_f, rDG_undef, chkH_nil, chkH_cons, chkP_nil, chkP_cons, aRead_load, aRead_conv, isE_store, isE_call, isE_append, rDS_l, rDS_c, pl_move, pl_assign, pl_pick, pl_alloc, pl_box, pl_build, pl_buildSlice, pl_nilCheck, pl_binOp, pl_unOp, pl_makeFunc, pl_makeSlice, pl_slice, pl_fieldAddr, pl_field, pl_indexAddr, pl_index, pl_extract, pl_len, pl_cap, pl_max, pl_min, List.mem_cons, Prod.mk.injEq, List.not_mem_nil, or_false, or_true, false_or, true_or, and_false, false_and, false_implies, implies_true, true_implies, List.getElem?_toArray, List.getElem?_cons_zero, List.getElem?_cons_succ, List.getElem?_nil, Option.getD_some, Option.getD_none, Nat.reduceEqDiff, reduceIte, Nat.reduceAdd, List.map_toArray, List.map_cons, List.map_nil, Bool.false_eq_true, Nat.reduceBEq, Option.map_some, Option.map_none, reduceCtorEq, specVarsNew_eq, implVarsNew_eq]
  have hg : SOwn (H ++ [⟨nvc, .own⟩, ⟨nvc, .own⟩]) (.slice (some ⟨H.length + 1, 0, none⟩) 26 3) 3 (nv.map vcells) := by
    have := nv_own (H := H ++ [⟨nvc, .own⟩])
    simpa using this
  have hw : SRow (H ++ [⟨nvc, .own⟩, ⟨nvc, .own⟩]) (.slice (some ⟨H.length, 0, none⟩) 26 3) 3 (nv.map vcells) := by
    have := (nv_own (H := H)).row.mono (L := [⟨nvc, .own⟩])
    simpa using this
  have e1 := fun Φ => eqVarS_eq (Φ := Φ) nv nv hg.row hw nv_ok nv_ok (by simp [nv])
  have hnlen : nv.length = 26 := by simp [nv]
  generalize H ++ [⟨nvc, .own⟩, ⟨nvc, .own⟩] = A at *
  have b1 : H.length + 1 ≠ H.length := by omega
  generalize hG : (Value.slice (some ⟨H.length + 1, 0, none⟩) 26 3) = g at *
  generalize hW : (Value.slice (some ⟨H.length, 0, none⟩) 26 3) = w at *
  simp -implicitDefEqProofs only [rE_seq_n, rE_seq_r, rE_seq_e, rE_blk_n, rE_blk_r, rE_blk_e, rW_skip, rW_ret, rW_exit, rW_ops, rW_seq, rW_block, ↓two_true, ↓two_false, rC_bool, rW_cond, rO_nil, rO_cons, oG_t, oG_f, oG_undef, rO_guard, oV_some, rOV_eq, oP_move, oP_assign, oP_bin, oP_un, oP_index, oP_fieldAddr, oP_field, oP_indexAddr, oP_slice, oP_load, oP_convert, aPick_true, aPick_false, aPick_bool, oP_pick, aExtract_tup, oP_extract, oP_nilCheck, oP_build, oP_len, oP_cap, oP_max, oP_min, oP_makeFunc, oS_some, oP_store, oA_some, oP_append, oM_some, oP_alloc, oP_box, oP_buildSlice, oP_makeSlice, oP_call, oP_callv, oF_func, aev_tmp, aev_const, aev_func, aput_get, aput_none, bin_add, bin_sub, bin_mul, bin_eql, bin_neq, bin_lss, bin_leq, bin_gtr, bin_geq, un_not, un_neg, tm0_get, fin_ret, fin_end, oR_some, resL_nil, resL_tmp, resL_cell, tup_one, tup_two, tup_nil, cond_true, cond_false, load_eq, Option.bind_some, mkv, List.length_append, List.length_cons, List.length_nil, List.append_assoc, List.cons_append, List.nil_append, rd0, rdi, wrt0, wrti, rdB_own, rdB_ro, wrB_own, oL_some, aggAt, sto_some, st0, sti, List.set_cons_zero, List.set_cons_succ, splice_nil, splice_cons, cells_agg, cells_int, cells_bool, cells_string, cells_pointer, cells_slice, leaf_int, leaf_bool, leaf_string, leaf_pointer, leaf_slice, List.size_toArray, List.all_cons, List.all_nil, Bool.and_self, Bool.and_true, and_self, true_and, and_true, Nat.zero_add, Nat.add_zero, Nat.reduceLeDiff, Nat.le_refl, List.drop_zero, List.drop_succ_cons, List.take_succ_cons, List.take_zero, oP_box, Nat.reduceSub, lp_end, lp_ret, lp_exit, oV_ite, oS_ite, oA_ite, slc_some, sls_some, optInt_none, optInt_some, rW_draw, rD_nil, rDV_eq, rDR_eq, rDE_eq, rDS_n, rDS_e, rD_load, rD_conv, rD_pure, rD_e, rD_g, rDG_t, rDG_f, rDG_undef, chkH_nil, chkH_cons, chkP_nil, chkP_cons, aRead_load, aRead_conv, isE_store, isE_call, isE_append, rDS_l, rDS_c, pl_move, pl_assign, pl_pick, pl_alloc, pl_box, pl_build, pl_buildSlice, pl_nilCheck, pl_binOp, pl_unOp, pl_makeFunc, pl_makeSlice, pl_slice, pl_fieldAddr, pl_field, pl_indexAddr, pl_index, pl_extract, pl_len, pl_cap, pl_max, pl_min, List.mem_cons, Prod.mk.injEq, List.not_mem_nil, or_false, or_true, false_or, true_or, and_false, false_and, false_implies, implies_true, true_implies, List.getElem?_toArray, List.getElem?_cons_zero, List.getElem?_cons_succ, List.getElem?_nil, Option.getD_some, Option.getD_none, Nat.reduceEqDiff, reduceIte, Nat.reduceAdd, List.map_toArray, List.map_cons, List.map_nil, Bool.false_eq_true, Nat.reduceBEq, Option.map_some, Option.map_none, reduceCtorEq, e1, beq_self_eq_true, Bool.not_true]
  have hg2 := hg.mono (L := jk Try.prog 20 #[g, w] A)
  have hw2 := hw.mono (L := jk Try.prog 20 #[g, w] A)
  generalize A ++ jk Try.prog 20 #[g, w] A = B at *
  refine (markVarS_ok (xs := nv) (k := 1) hg2 nv_vd (fun j x hj => by rw [nv_get hj]; exact ⟨.inl ⟨rfl, rfl⟩, .inl ⟨rfl, rfl⟩⟩) (by rw [nv_lens]; decide)).mono ?_
  rintro _ H3 ⟨rfl, ys, hm⟩
  have hcn : cntL (lensV B nv) = 26 := by rw [nv_lens]; rfl
  rw [hcn] at hm ⊢
  have hvals := hm.vals
  have hokv := hm.okv nv_ok
  have hcv : cntV (ys.map (vval H3)) = 26 := by rw [hvals, cntV_mark, hcn]
  have hheld : heldV (ys.map (vval H3)) 1 = 27 := by rw [hvals, heldV_mark _ _ (by decide), hcn]; rfl
  have e2 := fun Φ => heldVarS_eq (Φ := Φ) (k := 1) ys hm.own.row hokv (by rw [hcv]; decide)
  rw [hheld] at e2
  have hw3 : SRow H3 w 3 (nv.map vcells) := by
    refine hw2.same fun b hb => ?_
    unfold rd
    rw [hm.frame b ?_ ?_]
    · rw [← hW] at hb
      rw [← hG]
      simp [blkOf] at hb ⊢
      omega
    · intro j x hj
      rw [nv_get hj]
      simp [blkOf]
  have hw4 := hw3.mono (L := [⟨nvc, .own⟩])
  have hh4 := nv_own (H := H3)
  have e3 := fun Φ => eqVarS_eq (Φ := Φ) nv nv hh4.row hw4 nv_ok nv_ok (by simp [nv])
  have hval2 : ∀ L, ys.map (vval (H3 ++ L)) = ys.map (vval H3) := fun L => List.map_congr_left fun y hy => vval_mono (hokv y hy)
  have e4 := fun L Φ => heldVarS_eq (Φ := Φ) (H := H3 ++ L) (k := 1) ys hm.own.row.mono (fun y hy => (hokv y hy).mono) (by rw [hval2, hcv]; decide)
  simp only [hval2, hheld] at e4
  simp -implicitDefEqProofs only [rE_seq_n, rE_seq_r, rE_seq_e, rE_blk_n, rE_blk_r, rE_blk_e, rW_skip, rW_ret, rW_exit, rW_ops, rW_seq, rW_block, ↓two_true, ↓two_false, rC_bool, rW_cond, rO_nil, rO_cons, oG_t, oG_f, oG_undef, rO_guard, oV_some, rOV_eq, oP_move, oP_assign, oP_bin, oP_un, oP_index, oP_fieldAddr, oP_field, oP_indexAddr, oP_slice, oP_load, oP_convert, aPick_true, aPick_false, aPick_bool, oP_pick, aExtract_tup, oP_extract, oP_nilCheck, oP_build, oP_len, oP_cap, oP_max, oP_min, oP_makeFunc, oS_some, oP_store, oA_some, oP_append, oM_some, oP_alloc, oP_box, oP_buildSlice, oP_makeSlice, oP_call, oP_callv, oF_func, aev_tmp, aev_const, aev_func, aput_get, aput_none, bin_add, bin_sub, bin_mul, bin_eql, bin_neq, bin_lss, bin_leq, bin_gtr, bin_geq, un_not, un_neg, tm0_get, fin_ret, fin_end, oR_some, resL_nil, resL_tmp, resL_cell, tup_one, tup_two, tup_nil, cond_true, cond_false, load_eq, Option.bind_some, mkv, List.length_append, List.length_cons, List.length_nil, List.append_assoc, List.cons_append, List.nil_append, rd0, rdi, wrt0, wrti, rdB_own, rdB_ro, wrB_own, oL_some, aggAt, sto_some, st0, sti, List.set_cons_zero, List.set_cons_succ, splice_nil, splice_cons, cells_agg, cells_int, cells_bool, cells_string, cells_pointer, cells_slice, leaf_int, leaf_bool, leaf_string, leaf_pointer, leaf_slice, List.size_toArray, List.all_cons, List.all_nil, Bool.and_self, Bool.and_true, and_self, true_and, and_true, Nat.zero_add, Nat.add_zero, Nat.reduceLeDiff, Nat.le_refl, List.drop_zero, List.drop_succ_cons, List.take_succ_cons, List.take_zero, oP_box, Nat.reduceSub, lp_end, lp_ret, lp_exit, oV_ite, oS_ite, oA_ite, slc_some, sls_some, optInt_none, optInt_some, rW_draw, rD_nil, rDV_eq, rDR_eq, rDE_eq, rDS_n, rDS_e, rD_load, rD_conv, rD_pure, rD_e, rD_g, rDG_t, rDG_f, rDG_undef, chkH_nil, chkH_cons, chkP_nil, chkP_cons, aRead_load, aRead_conv, isE_store, isE_call, isE_append, rDS_l, rDS_c, pl_move, pl_assign, pl_pick, pl_alloc, pl_box, pl_build, pl_buildSlice, pl_nilCheck, pl_binOp, pl_unOp, pl_makeFunc, pl_makeSlice, pl_slice, pl_fieldAddr, pl_field, pl_indexAddr, pl_index, pl_extract, pl_len, pl_cap, pl_max, pl_min, List.mem_cons, Prod.mk.injEq, List.not_mem_nil, or_false, or_true, false_or, true_or, and_false, false_and, false_implies, implies_true, true_implies, List.getElem?_toArray, List.getElem?_cons_zero, List.getElem?_cons_succ, List.getElem?_nil, Option.getD_some, Option.getD_none, Nat.reduceEqDiff, reduceIte, Nat.reduceAdd, List.map_toArray, List.map_cons, List.map_nil, Bool.false_eq_true, Nat.reduceBEq, Option.map_some, Option.map_none, reduceCtorEq, e2, implVarsNew_eq, e3, e4, beq_self_eq_true, Bool.not_true, show (1 : Int) + (26 : Nat) = 27 from rfl, bne_self_eq_false, show decide ((27 : Int) < 0) = false from rfl]

theorem cofFun : Try.prog.cellsOf 23 = 3 := by kernel_rfl
theorem rpFun {H : AH} {v : Value} (h : RpV Try.prog H 23 v) : ∃ a b c, v = .agg #[.int .i64 a, .int .i64 b, .int .i64 c] ∧ I64 a ∧ I64 b ∧ I64 c := by
  obtain ⟨k, vs, h, rfl⟩ := h
  obtain ⟨h1, k, h2⟩ := h.struct Try.underlying23
  rw [cofFun] at h1
  obtain ⟨x, y, z, rfl⟩ := list3 h1
  simp only [List.forall_mem_cons, List.not_mem_nil, false_implies, implies_true, and_true, cof3, List.drop_zero, List.drop_succ_cons, List.take_succ_cons, List.take_zero] at h2
  obtain ⟨ha, hb, hc⟩ := h2
  obtain ⟨a, ha, wa⟩ := ha.int Try.underlying3
  obtain ⟨b, hb, wb⟩ := hb.int Try.underlying3
  obtain ⟨c, hc, wc⟩ := hc.int Try.underlying3
  simp only [List.cons.injEq, and_true] at ha hb hc
  subst ha; subst hb; subst hc
  exact ⟨a, b, c, by simp [mkV, Try.underlying23], wf_i64 wa, wf_i64 wb, wf_i64 wc⟩

/-- The signs of tokens. -/
def tkSigns : ByteArray := ⟨#[43, 45, 42, 37, 124, 38, 94, 61, 60, 62, 126, 105, 35, 44, 116, 100, 114, 122, 64, 63, 103, 36, 101, 47, 92, 46, 111]⟩
def tokOk (k v : Int) : Bool := (k == 1 && numOk v) || (k == 2 && inB v 0 25) || (k == 3 && hasS tkSigns v) || ((k == 4 || k == 5 || k == 6) && v == 0)

theorem cofToken : Try.prog.cellsOf 29 = 2 := by kernel_rfl
theorem rpToken {H : AH} {v : Value} (h : RpV Try.prog H 29 v) : ∃ a b, v = .agg #[.int .i64 a, .int .i64 b] ∧ I64 a ∧ I64 b := by
  obtain ⟨k, vs, h, rfl⟩ := h
  obtain ⟨h1, k, h2⟩ := h.struct Try.underlying29
  rw [cofToken] at h1
  obtain ⟨x, y, rfl⟩ := list2 h1
  simp only [List.forall_mem_cons, List.not_mem_nil, false_implies, implies_true, and_true, cof3, List.drop_zero, List.drop_succ_cons, List.take_succ_cons, List.take_zero] at h2
  obtain ⟨ha, hb⟩ := h2
  obtain ⟨a, ha, wa⟩ := ha.int Try.underlying3
  obtain ⟨b, hb, wb⟩ := hb.int Try.underlying3
  simp only [List.cons.injEq, and_true] at ha hb
  subst ha; subst hb
  exact ⟨a, b, by simp [mkV, Try.underlying29], wf_i64 wa, wf_i64 wb⟩

end Go.Proofs.Ytpmhhjinapfhbaa.AM
