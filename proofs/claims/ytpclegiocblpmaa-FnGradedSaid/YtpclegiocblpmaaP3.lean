/- What the functions answer, part 3. -/
import Derived.Test.YtpclegiocblpmaaP2
set_option linter.unusedVariables false
set_option linter.unusedSimpArgs false
set_option linter.defProp false
set_option maxRecDepth 100000
/- What the functions answer, part 3. -/
namespace Go.Proofs.Ytpclegiocblpmaa.AM
open Go Go.Proofs.Ytpclegiocblpmaa Go.Proofs
set_option maxHeartbeats 4000000 in
theorem symMerge_step {G : AH} {b o : Nat} {l0 : List Int} {g : FuncId} {cap : Value} {D : Int → Int} (hcmp : CmpOk Try.prog g cap G b o l0 D) (hn : l0.length ≤ 1048576) {d : Nat} (ih : SymOk G b o l0 g cap D d) : SymOk G b o l0 g cap D (d + 1) := by
    intro H l x m y hd h hxm hmy hy s1 s2 ha
    have w1 : IntKind.i64.wrap ((m : Int) - x) = ((m - x : Nat) : Int) := by rw [IntWalk.i64_in _ (by omega)]; omega
    have w2 : IntKind.i64.wrap ((y : Int) - m) = ((y - m : Nat) : Int) := by rw [IntWalk.i64_in _ (by omega)]; omega
    obtain ⟨cs, hb, hle, hcell⟩ := h.get
    refine w104 ?_
    unfold k104
    by_cases hA : m - x = 1
    · have e1 : (((m - x : Nat) : Int) == 1) = true := by simp; omega
      obtain rfl : m = x + 1 := by omega
      simp -implicitDefEqProofs only [kz, kk0, kk1, kk2, kk3, ↓two_true, ↓two_false, oS_some, oM_some, mkv, aggAt, Nat.reduceLeDiff, Nat.reduceSub, Nat.reduceMul, implies_true, Nat.reduceEqDiff, reduceIte, Nat.reduceAdd, Nat.reduceBEq, reduceCtorEq, cv3_102, cv102_3, ix24, ld3, st3, w1, e1]
      refine rW_loop (σ := Nat × Nat) (fun (i, j) tm H' => tm 0 = .slice (some ⟨b, o, none⟩) l0.length 1 ∧ tm 1 = .int .i64 x ∧ tm 3 = .int .i64 y ∧ tm 4 = .func (.func g) #[] #[cap] ∧ tm 10 = .int .i64 i ∧ tm 11 = .int .i64 j ∧ H' = H ∧ x + 1 ≤ i ∧ i ≤ j ∧ j ≤ y ∧ (∀ t, x + 1 ≤ t → t < i → D (gx l t) < D (gx l x)) ∧ (∀ t, j ≤ t → t < y → ¬ D (gx l t) < D (gx l x))) (fun s => s.2 - s.1) (x + 1, y) ?_ ?_
      · simp -implicitDefEqProofs [kk0, kk1, kk2, kk3, rW_block, ↓two_true, ↓two_false, rW_cond, rO_guard, oS_some, oM_some, mkv, aggAt, Nat.reduceLeDiff, Nat.reduceSub, Nat.reduceMul, cond_true, cond_false, Option.bind_some, List.length_append, List.length_cons, List.length_nil, List.append_assoc, List.cons_append, List.nil_append, List.set_cons_zero, List.set_cons_succ, List.size_toArray, List.all_cons, List.all_nil, List.drop_zero, List.drop_succ_cons, List.take_succ_cons, List.take_zero, List.mem_cons, Prod.mk.injEq, List.not_mem_nil, implies_true, List.getElem?_toArray, List.getElem?_cons_zero, List.getElem?_cons_succ, List.getElem?_nil, Option.getD_some, Option.getD_none, Nat.reduceEqDiff, reduceIte, Nat.reduceAdd, List.map_toArray, List.map_cons, List.map_nil, Bool.false_eq_true, Nat.reduceBEq, Option.map_some, Option.map_none, reduceCtorEq, cv3_102, cv102_3, ix24, ld3, st3]
        exact ⟨by omega, fun t t1 t2 => by omega, fun t t1 t2 => by omega⟩
      · rintro ⟨i, j⟩ tm H1 ⟨h0, hf0, hf1, h4, hti, htj, rfl, hli, hij, hjh, p1, p2⟩
        have w3 : IntKind.i64.wrap ((i : Int) + j) = ((i + j : Nat) : Int) := by rw [IntWalk.i64_in _ (by omega)]; omega
        have wh : IntKind.i64.wrap (((i + j) / 2 : Nat) : Int) = (((i + j) / 2 : Nat) : Int) := IntWalk.i64_in _ (by omega)
        have wh1 : IntKind.i64.wrap ((((i + j) / 2 : Nat) : Int) + 1) = (((i + j) / 2 + 1 : Nat) : Int) := by rw [IntWalk.i64_in _ (by omega)]; omega
        simp -implicitDefEqProofs only [kz, kk0, kk1, kk2, kk3, ↓two_true, ↓two_false, oS_some, oM_some, mkv, aggAt, Nat.reduceLeDiff, Nat.reduceSub, Nat.reduceMul, implies_true, Nat.reduceEqDiff, reduceIte, Nat.reduceAdd, Nat.reduceBEq, reduceCtorEq, cv3_102, cv102_3, ix24, ld3, st3, h0, hf0, hf1, h4, hti, htj]
        refine two_intro (fun hc => ?_) (fun hc => ?_)
        · have hlt : i < j := by simpa using hc
          have ec := hcmp.call l H1 h _ (h.mem (i := (i + j) / 2) (by omega)) _ (h.mem (i := x) (by omega))
          simp -implicitDefEqProofs only [kz, kk0, kk1, kk2, kk3, ↓two_true, ↓two_false, oS_some, oM_some, mkv, aggAt, Nat.reduceLeDiff, Nat.reduceSub, Nat.reduceMul, implies_true, Nat.reduceEqDiff, reduceIte, Nat.reduceAdd, Nat.reduceBEq, reduceCtorEq, cv3_102, cv102_3, ix24, ld3, st3, h0, hf0, hf1, h4, hti, htj, w3, half_u (show i + j < 4611686018427387904 by omega), wh, wh1,  Int.toNat_natCast, Nat.mul_one, rd_own hb, hcell ((i + j) / 2) (by omega), hcell (x) (by omega), arr21, Array.empty_append, Array.append_empty, ec, cmpI_lt]
          refine ⟨by omega, by omega, two_intro (fun hd => ?_) (fun hd => ?_)⟩
          · exact ⟨((i + j) / 2 + 1, j), by simp only; omega, rfl, rfl, by simp only; omega, by simp only; omega, hjh, fun t t1 t2 => by have := s2.le (i := t) (j := (i + j) / 2) t1 (by simp only at t2; omega) (by omega); have := of_decide_eq_true hd; omega, p2⟩
          · exact ⟨(i, (i + j) / 2), by simp only; omega, rfl, rfl, hli, by simp only; omega, by simp only; omega, p1, fun t t1 t2 => by have := s2.le (i := (i + j) / 2) (j := t) (by omega) t1 t2; have := of_decide_eq_false hd; omega⟩
        · have hij : i = j := by have : ¬ i < j := by simpa using hc
                                 omega
          subst hij
          have wi : IntKind.i64.wrap ((i : Int) - 1) = ((i - 1 : Nat) : Int) := by rw [IntWalk.i64_in _ (by omega)]; omega
          refine rW_loop (σ := Nat × List Int) (fun (k, l') tm H' => tm 0 = .slice (some ⟨b, o, none⟩) l0.length 1 ∧ tm 10 = .int .i64 i ∧ tm 13 = .int .i64 k ∧ x ≤ k ∧ k ≤ i - 1 ∧ SR G b o l0 l' H' ∧ Up1 l l' x k ∧ Mv l l' x y) (fun s => i - 1 - s.1) (x, l) ?_ ?_
          · simp -implicitDefEqProofs [kk0, kk1, kk2, kk3, rW_block, ↓two_true, ↓two_false, rW_cond, rO_guard, oS_some, oM_some, mkv, aggAt, Nat.reduceLeDiff, Nat.reduceSub, Nat.reduceMul, cond_true, cond_false, Option.bind_some, List.length_append, List.length_cons, List.length_nil, List.append_assoc, List.cons_append, List.nil_append, List.set_cons_zero, List.set_cons_succ, List.size_toArray, List.all_cons, List.all_nil, List.drop_zero, List.drop_succ_cons, List.take_succ_cons, List.take_zero, List.mem_cons, Prod.mk.injEq, List.not_mem_nil, implies_true, List.getElem?_toArray, List.getElem?_cons_zero, List.getElem?_cons_succ, List.getElem?_nil, Option.getD_some, Option.getD_none, Nat.reduceEqDiff, reduceIte, Nat.reduceAdd, List.map_toArray, List.map_cons, List.map_nil, Bool.false_eq_true, Nat.reduceBEq, Option.map_some, Option.map_none, reduceCtorEq, cv3_102, cv102_3, ix24, ld3, st3, h0, hf0, hf1, hti]
            exact ⟨by omega, h, Up1.zero, Mv.refl⟩
          · rintro ⟨k, l'⟩ tm H2 ⟨h0, h10, h13, hxk, hki, hs, hu, hm⟩
            simp -implicitDefEqProofs only [kz, kk0, kk1, kk2, kk3, ↓two_true, ↓two_false, oS_some, oM_some, mkv, aggAt, Nat.reduceLeDiff, Nat.reduceSub, Nat.reduceMul, implies_true, Nat.reduceEqDiff, reduceIte, Nat.reduceAdd, Nat.reduceBEq, reduceCtorEq, cv3_102, cv102_3, ix24, ld3, st3, h0, h10, h13, wi]
            refine two_intro (fun hc => ?_) (fun hc => ?_)
            · have hlt : k < i - 1 := by have := of_decide_eq_true hc; omega
              obtain ⟨cs, hb, hle, hcell⟩ := hs.get
              have wk : IntKind.i64.wrap ((k : Int) + 1) = ((k + 1 : Nat) : Int) := by rw [IntWalk.i64_in _ (by omega)]; omega
              simp -implicitDefEqProofs only [kz, kk0, kk1, kk2, kk3, ↓two_true, ↓two_false, oS_some, oM_some, mkv, aggAt, Nat.reduceLeDiff, Nat.reduceSub, Nat.reduceMul, implies_true, Nat.reduceEqDiff, reduceIte, Nat.reduceAdd, Nat.reduceBEq, reduceCtorEq, cv3_102, cv102_3, ix24, ld3, st3, h0, h10, h13, wi, wk, Int.toNat_natCast, Nat.mul_one, rd_own hb, wrt_own hb, wrt_own (set_at hb), hcell k (by omega), hcell (k + 1) (by omega)]
              refine ⟨by omega, by omega, by omega, by omega, by omega, by rw [List.length_set]; omega, (k + 1, swp l' k (k + 1)), by simp only; omega, rfl, by simp only; omega, by simp only; omega, ?_, hu.step hxk (by rw [hs.lenl]; omega), hm.trans (Mv.swp (by omega) (by omega) (by omega) (by omega) (by rw [hs.lenl]; omega))⟩
              rw [list_set_set]
              exact hs.swap hb (by omega) (by omega)
            · have hk : k = i - 1 := by have := of_decide_eq_false hc; omega
              subst hk
              exact ⟨l', hs, merge_front s2 ha hli hjh p1 p2 hu, hm⟩
    have e1 : (((m - x : Nat) : Int) == 1) = false := beq_eq_false_iff_ne.2 (by omega)
    by_cases hB : y - m = 1
    · have e2 : (((y - m : Nat) : Int) == 1) = true := by simp; omega
      obtain rfl : y = m + 1 := by omega
      simp -implicitDefEqProofs only [kz, kk0, kk1, kk2, kk3, ↓two_true, ↓two_false, oS_some, oM_some, mkv, aggAt, Nat.reduceLeDiff, Nat.reduceSub, Nat.reduceMul, implies_true, Nat.reduceEqDiff, reduceIte, Nat.reduceAdd, Nat.reduceBEq, reduceCtorEq, cv3_102, cv102_3, ix24, ld3, st3, w1, w2, e1, e2]
      refine rW_loop (σ := Nat × Nat) (fun (i, j) tm H' => tm 0 = .slice (some ⟨b, o, none⟩) l0.length 1 ∧ tm 2 = .int .i64 m ∧ tm 4 = .func (.func g) #[] #[cap] ∧ tm 14 = .int .i64 i ∧ tm 15 = .int .i64 j ∧ H' = H ∧ x ≤ i ∧ i ≤ j ∧ j ≤ m ∧ (∀ t, x ≤ t → t < i → ¬ D (gx l m) < D (gx l t)) ∧ (∀ t, j ≤ t → t < m → D (gx l m) < D (gx l t))) (fun s => s.2 - s.1) (x, m) ?_ ?_
      · simp -implicitDefEqProofs [kk0, kk1, kk2, kk3, rW_block, ↓two_true, ↓two_false, rW_cond, rO_guard, oS_some, oM_some, mkv, aggAt, Nat.reduceLeDiff, Nat.reduceSub, Nat.reduceMul, cond_true, cond_false, Option.bind_some, List.length_append, List.length_cons, List.length_nil, List.append_assoc, List.cons_append, List.nil_append, List.set_cons_zero, List.set_cons_succ, List.size_toArray, List.all_cons, List.all_nil, List.drop_zero, List.drop_succ_cons, List.take_succ_cons, List.take_zero, List.mem_cons, Prod.mk.injEq, List.not_mem_nil, implies_true, List.getElem?_toArray, List.getElem?_cons_zero, List.getElem?_cons_succ, List.getElem?_nil, Option.getD_some, Option.getD_none, Nat.reduceEqDiff, reduceIte, Nat.reduceAdd, List.map_toArray, List.map_cons, List.map_nil, Bool.false_eq_true, Nat.reduceBEq, Option.map_some, Option.map_none, reduceCtorEq, cv3_102, cv102_3, ix24, ld3, st3]
        exact ⟨by omega, fun t t1 t2 => by omega, fun t t1 t2 => by omega⟩
      · rintro ⟨i, j⟩ tm H1 ⟨h0, hf0, h4, hti, htj, rfl, hli, hij, hjh, p1, p2⟩
        have w3 : IntKind.i64.wrap ((i : Int) + j) = ((i + j : Nat) : Int) := by rw [IntWalk.i64_in _ (by omega)]; omega
        have wh : IntKind.i64.wrap (((i + j) / 2 : Nat) : Int) = (((i + j) / 2 : Nat) : Int) := IntWalk.i64_in _ (by omega)
        have wh1 : IntKind.i64.wrap ((((i + j) / 2 : Nat) : Int) + 1) = (((i + j) / 2 + 1 : Nat) : Int) := by rw [IntWalk.i64_in _ (by omega)]; omega
        simp -implicitDefEqProofs only [kz, kk0, kk1, kk2, kk3, ↓two_true, ↓two_false, oS_some, oM_some, mkv, aggAt, Nat.reduceLeDiff, Nat.reduceSub, Nat.reduceMul, implies_true, Nat.reduceEqDiff, reduceIte, Nat.reduceAdd, Nat.reduceBEq, reduceCtorEq, cv3_102, cv102_3, ix24, ld3, st3, h0, hf0, h4, hti, htj]
        refine two_intro (fun hc => ?_) (fun hc => ?_)
        · have hlt : i < j := by simpa using hc
          have ec := hcmp.call l H1 h _ (h.mem (i := m) (by omega)) _ (h.mem (i := (i + j) / 2) (by omega))
          simp -implicitDefEqProofs only [kz, kk0, kk1, kk2, kk3, ↓two_true, ↓two_false, oS_some, oM_some, mkv, aggAt, Nat.reduceLeDiff, Nat.reduceSub, Nat.reduceMul, implies_true, Nat.reduceEqDiff, reduceIte, Nat.reduceAdd, Nat.reduceBEq, reduceCtorEq, cv3_102, cv102_3, ix24, ld3, st3, h0, hf0, h4, hti, htj, w3, half_u (show i + j < 4611686018427387904 by omega), wh, wh1,  Int.toNat_natCast, Nat.mul_one, rd_own hb, hcell (m) (by omega), hcell ((i + j) / 2) (by omega), arr21, Array.empty_append, Array.append_empty, ec, cmpI_lt]
          refine ⟨by omega, by omega, two_intro (fun hd => ?_) (fun hd => ?_)⟩
          · exact ⟨((i + j) / 2 + 1, j), by simp only; omega, rfl, rfl, by simp only; omega, by simp only; omega, hjh, fun t t1 t2 => by have h8 := s1.le (i := t) (j := (i + j) / 2) t1 (by simp only at t2; omega) (by omega); have h9 := (show ¬ D (gx l m) < D (gx l ((i + j) / 2)) from by simpa using hd); omega, p2⟩
          · exact ⟨(i, (i + j) / 2), by simp only; omega, rfl, rfl, hli, by simp only; omega, by simp only; omega, p1, fun t t1 t2 => by have h8 := s1.le (i := (i + j) / 2) (j := t) (by omega) t1 t2; have h9 := (show D (gx l m) < D (gx l ((i + j) / 2)) from by simpa using hd); omega⟩
        · have hij : i = j := by have : ¬ i < j := by simpa using hc
                                 omega
          subst hij
          refine rW_loop (σ := Nat × List Int) (fun (k, l') tm H' => tm 0 = .slice (some ⟨b, o, none⟩) l0.length 1 ∧ tm 14 = .int .i64 i ∧ tm 17 = .int .i64 k ∧ i ≤ k ∧ k ≤ m ∧ SR G b o l0 l' H' ∧ Dn1 l l' k m ∧ Mv l l' x (m + 1)) (fun s => s.1) (m, l) ?_ ?_
          · simp -implicitDefEqProofs [kk0, kk1, kk2, kk3, rW_block, ↓two_true, ↓two_false, rW_cond, rO_guard, oS_some, oM_some, mkv, aggAt, Nat.reduceLeDiff, Nat.reduceSub, Nat.reduceMul, cond_true, cond_false, Option.bind_some, List.length_append, List.length_cons, List.length_nil, List.append_assoc, List.cons_append, List.nil_append, List.set_cons_zero, List.set_cons_succ, List.size_toArray, List.all_cons, List.all_nil, List.drop_zero, List.drop_succ_cons, List.take_succ_cons, List.take_zero, List.mem_cons, Prod.mk.injEq, List.not_mem_nil, implies_true, List.getElem?_toArray, List.getElem?_cons_zero, List.getElem?_cons_succ, List.getElem?_nil, Option.getD_some, Option.getD_none, Nat.reduceEqDiff, reduceIte, Nat.reduceAdd, List.map_toArray, List.map_cons, List.map_nil, Bool.false_eq_true, Nat.reduceBEq, Option.map_some, Option.map_none, reduceCtorEq, cv3_102, cv102_3, ix24, ld3, st3, h0, hf0, hti]
            exact ⟨by omega, h, Dn1.zero, Mv.refl⟩
          · rintro ⟨k, l'⟩ tm H2 ⟨h0, h10, h13, hik, hkm, hs, hu, hm⟩
            simp -implicitDefEqProofs only [kz, kk0, kk1, kk2, kk3, ↓two_true, ↓two_false, oS_some, oM_some, mkv, aggAt, Nat.reduceLeDiff, Nat.reduceSub, Nat.reduceMul, implies_true, Nat.reduceEqDiff, reduceIte, Nat.reduceAdd, Nat.reduceBEq, reduceCtorEq, cv3_102, cv102_3, ix24, ld3, st3, h0, h10, h13]
            refine two_intro (fun hc => ?_) (fun hc => ?_)
            · have hlt : i < k := by have := of_decide_eq_true hc; omega
              obtain ⟨k, rfl⟩ : ∃ k', k = k' + 1 := ⟨k - 1, by omega⟩
              obtain ⟨cs, hb, hle, hcell⟩ := hs.get
              have wk : IntKind.i64.wrap (((k + 1 : Nat) : Int) - 1) = (k : Int) := by rw [IntWalk.i64_in _ (by omega)]; omega
              simp -implicitDefEqProofs only [kz, kk0, kk1, kk2, kk3, ↓two_true, ↓two_false, oS_some, oM_some, mkv, aggAt, Nat.reduceLeDiff, Nat.reduceSub, Nat.reduceMul, implies_true, Nat.reduceEqDiff, reduceIte, Nat.reduceAdd, Nat.reduceBEq, reduceCtorEq, cv3_102, cv102_3, ix24, ld3, st3, h0, h10, h13, wk, Int.toNat_natCast, Nat.mul_one, rd_own hb, wrt_own hb, wrt_own (set_at hb), hcell k (by omega), hcell (k + 1) (by omega)]
              refine ⟨by omega, by omega, by omega, by omega, by omega, by rw [List.length_set]; omega, (k, swp l' (k + 1) k), by simp only; omega, rfl, by simp only; omega, by simp only; omega, ?_, hu.step hkm (by rw [hs.lenl]; omega), hm.trans (Mv.swp (by omega) (by omega) (by omega) (by omega) (by rw [hs.lenl]; omega))⟩
              rw [list_set_set]
              exact hs.swap hb (by omega) (by omega)
            · have hk : k = i := by have := of_decide_eq_false hc; omega
              subst hk
              exact ⟨l', hs, merge_back s1 ha hli hjh p1 p2 hu, hm⟩
    have e2 : (((y - m : Nat) : Int) == 1) = false := beq_eq_false_iff_ne.2 (by omega)
    have w5 : IntKind.i64.wrap ((x : Int) + y) = ((x + y : Nat) : Int) := by rw [IntWalk.i64_in _ (by omega)]; omega
    have wh : IntKind.i64.wrap (((x + y) / 2 : Nat) : Int) = (((x + y) / 2 : Nat) : Int) := IntWalk.i64_in _ (by omega)
    have hhu := half_u (P := Try.prog) (t := 102) (x := .tmp 132) (y := .const (.int .u64 1)) (show x + y < 4611686018427387904 by omega)
    obtain ⟨mid, hmd⟩ : ∃ mid, mid = (x + y) / 2 := ⟨_, rfl⟩
    rw [← hmd] at wh hhu
    have w6 : IntKind.i64.wrap ((mid : Int) + m) = ((mid + m : Nat) : Int) := by rw [IntWalk.i64_in _ (by omega)]; omega
    have w7 : IntKind.i64.wrap (((mid + m : Nat) : Int) - 1) = ((mid + m - 1 : Nat) : Int) := by rw [IntWalk.i64_in _ (by omega)]; omega
    by_cases hM : mid < m
    · have dM : decide ((m : Int) > mid) = true := decide_eq_true (by omega)
      have w8 : IntKind.i64.wrap (((mid + m : Nat) : Int) - y) = ((mid + m - y : Nat) : Int) := by rw [IntWalk.i64_in _ (by omega)]; omega
      simp -implicitDefEqProofs only [kz, kk0, kk1, kk2, kk3, ↓two_true, ↓two_false, oS_some, oM_some, mkv, aggAt, Nat.reduceLeDiff, Nat.reduceSub, Nat.reduceMul, implies_true, Nat.reduceEqDiff, reduceIte, Nat.reduceAdd, Nat.reduceBEq, reduceCtorEq, cv3_102, cv102_3, ix24, ld3, st3, w1, w2, e1, e2, w5, hhu, wh, w6, w7, w8, dM]
      refine rW_loop (σ := Nat × Nat) (fun (s, r) tm H' => tm 0 = .slice (some ⟨b, o, none⟩) l0.length 1 ∧ tm 1 = .int .i64 x ∧ tm 2 = .int .i64 m ∧ tm 3 = .int .i64 y ∧ tm 4 = .func (.func g) #[] #[cap] ∧ tm 18 = .int .i64 mid ∧ tm 19 = .int .i64 (mid + m : Nat) ∧ tm 20 = .int .i64 s ∧ tm 21 = .int .i64 r ∧ tm 22 = .int .i64 (mid + m - 1 : Nat) ∧ H' = H ∧ (mid + m - y) ≤ s ∧ s ≤ r ∧ r ≤ mid ∧ (s = (mid + m - y) ∨ ¬ D (gx l (mid + m - s)) < D (gx l (s - 1))) ∧ (r = mid ∨ D (gx l (mid + m - 1 - r)) < D (gx l r))) (fun s => s.2 - s.1) ((mid + m - y), mid) ?_ ?_
      · simp -implicitDefEqProofs [kk0, kk1, kk2, kk3, rW_block, ↓two_true, ↓two_false, rW_cond, rO_guard, oS_some, oM_some, mkv, aggAt, Nat.reduceLeDiff, Nat.reduceSub, Nat.reduceMul, cond_true, cond_false, Option.bind_some, List.length_append, List.length_cons, List.length_nil, List.append_assoc, List.cons_append, List.nil_append, List.set_cons_zero, List.set_cons_succ, List.size_toArray, List.all_cons, List.all_nil, List.drop_zero, List.drop_succ_cons, List.take_succ_cons, List.take_zero, List.mem_cons, Prod.mk.injEq, List.not_mem_nil, implies_true, List.getElem?_toArray, List.getElem?_cons_zero, List.getElem?_cons_succ, List.getElem?_nil, Option.getD_some, Option.getD_none, Nat.reduceEqDiff, reduceIte, Nat.reduceAdd, List.map_toArray, List.map_cons, List.map_nil, Bool.false_eq_true, Nat.reduceBEq, Option.map_some, Option.map_none, reduceCtorEq, cv3_102, cv102_3, ix24, ld3, st3]
        omega
      · rintro ⟨st, r⟩ tm H1 ⟨h0, hf0, hf1, hf2, h4, h18, h19, h20, h21, h22, rfl, hls, hsr, hrh, p1, p2⟩
        have w3 : IntKind.i64.wrap ((st : Int) + r) = ((st + r : Nat) : Int) := by rw [IntWalk.i64_in _ (by omega)]; omega
        by_cases hlt : st < r
        · have dlt : decide ((st : Int) < r) = true := decide_eq_true (by omega)
          have hcb : st ≤ (st + r) / 2 ∧ (st + r) / 2 < r := by omega
          have wh : IntKind.i64.wrap (((st + r) / 2 : Nat) : Int) = (((st + r) / 2 : Nat) : Int) := IntWalk.i64_in _ (by omega)
          have hhu := half_u (P := Try.prog) (t := 102) (x := .tmp 155) (y := .const (.int .u64 1)) (show st + r < 4611686018427387904 by omega)
          generalize (st + r) / 2 = c at *
          have wh1 : IntKind.i64.wrap ((c : Int) + 1) = ((c + 1 : Nat) : Int) := by rw [IntWalk.i64_in _ (by omega)]; omega
          have wpc : IntKind.i64.wrap (((mid + m - 1 : Nat) : Int) - c) = ((mid + m - 1 - c : Nat) : Int) := by rw [IntWalk.i64_in _ (by omega)]; omega
          have ec := hcmp.call l H1 h _ (h.mem (i := mid + m - 1 - c) (by omega)) _ (h.mem (i := c) (by omega))
          simp -implicitDefEqProofs only [kz, kk0, kk1, kk2, kk3, ↓two_true, ↓two_false, oS_some, oM_some, mkv, aggAt, Nat.reduceLeDiff, Nat.reduceSub, Nat.reduceMul, implies_true, Nat.reduceEqDiff, reduceIte, Nat.reduceAdd, Nat.reduceBEq, reduceCtorEq, cv3_102, cv102_3, ix24, ld3, st3, h0, hf0, hf1, hf2, h4, h18, h19, h20, h21, h22, dlt, w3, hhu, wh, wh1, wpc, Int.toNat_natCast, Nat.mul_one, rd_own hb, hcell (mid + m - 1 - c) (by omega), hcell c (by omega), arr21, Array.empty_append, Array.append_empty, ec, cmpI_lt]
          refine ⟨by omega, by omega, two_intro (fun hd => ?_) (fun hd => ?_)⟩
          · have h9 : ¬ D (gx l (mid + m - 1 - c)) < D (gx l c) := by simpa using hd
            exact ⟨(c + 1, r), by simp only; omega, rfl, rfl, by simp only; omega, by simp only; omega, hrh, .inr (by simp only [Nat.add_sub_cancel]; rw [show mid + m - (c + 1) = mid + m - 1 - c by omega]; exact h9), p2⟩
          · have h9 : D (gx l (mid + m - 1 - c)) < D (gx l c) := by simpa using hd
            exact ⟨(st, c), by simp only; omega, rfl, rfl, hls, by simp only; omega, by simp only; omega, p1, .inr h9⟩
        · have dlt : decide ((st : Int) < r) = false := decide_eq_false (by omega)
          obtain rfl : st = r := by omega
          obtain ⟨en, hen0⟩ : ∃ en, en = mid + m - st := ⟨_, rfl⟩
          have wen : IntKind.i64.wrap (((mid + m : Nat) : Int) - st) = (en : Int) := by rw [IntWalk.i64_in _ (by omega)]; omega
          have hst0 : x ≤ st := by omega
          have hstm : st ≤ m := by omega
          have hme : m ≤ en := by omega
          have hen : en ≤ y := by omega
          have hmid : mid + m = st + en := by omega
          have hp1 : x < st → en < y → ¬ D (gx l en) < D (gx l (st - 1)) := fun a1 a2 => by
            rcases p1 with p1 | p1
            · omega
            · rw [hen0]; exact p1
          have hp2 : st < m → m < en → D (gx l (en - 1)) < D (gx l st) := fun a1 a2 => by
            rcases p2 with p2 | p2
            · omega
            · rw [show en - 1 = mid + m - 1 - st by omega]; exact p2
          simp -implicitDefEqProofs only [kz, kk0, kk1, kk2, kk3, ↓two_true, ↓two_false, oS_some, oM_some, mkv, aggAt, Nat.reduceLeDiff, Nat.reduceSub, Nat.reduceMul, implies_true, Nat.reduceEqDiff, reduceIte, Nat.reduceAdd, Nat.reduceBEq, reduceCtorEq, cv3_102, cv102_3, ix24, ld3, st3, h0, hf0, hf1, hf2, h4, h18, h19, h20, h21, h22, dlt, wen]
          clear w1 w2 e1 e2 w5 wh hhu w6 w7 dM w3 dlt hcell hle hb p1 p2 hls hsr hrh hlt hen0 wen
          have hmx2 : x ≤ mid := by omega
          have hmy2 : mid ≤ y := by omega
          have hen2 : mid ≤ en := by omega
          have hst2 : st ≤ mid := by omega
          have hd1 : mid - x ≤ d := by omega
          have hd2 : y - mid ≤ d := by omega
          have hmidl : mid ≤ l0.length := by omega
          have henl : en ≤ l0.length := by omega
          refine two_intro (fun c1 => two_intro (fun c2 => ?_) (fun c2 => ?_)) (fun c1 => ?_)
          · have g1 : st < m := Int.ofNat_lt.1 (of_decide_eq_true c1)
            have g2 : m < en := Int.ofNat_lt.1 (of_decide_eq_true c2)
            refine (rotate_ok h hn g1 g2 henl).mono ?_
            rintro _ H2 ⟨t, srt, rot, mvt⟩
            have mvw := mvt.wide hst0 hen
            simp -implicitDefEqProofs only [kz, kk0, kk1, kk2, kk3, ↓two_true, ↓two_false, oS_some, oM_some, mkv, aggAt, Nat.reduceLeDiff, Nat.reduceSub, Nat.reduceMul, implies_true, Nat.reduceEqDiff, reduceIte, Nat.reduceAdd, Nat.reduceBEq, reduceCtorEq, cv3_102, cv102_3, ix24, ld3, st3, h0, hf0, hf1, hf2, h4, h18, h19, h20, h21, h22]
            obtain ⟨q1, q2, q3⟩ := halves_left s1 s2 ha rot hst0 hstm hme hen hmid
            obtain ⟨q4, q5, q6⟩ := halves_right s1 s2 ha rot hst0 hstm hme hen hmid
            have hcr := halves_cross s1 s2 ha rot hst0 hstm hme hen hmid hp1 hp2
            refine two_intro (fun a1 => two_intro (fun a2 => ?_) (fun a2 => ?_)) (fun a1 => ?_)
            · have b1 : x < st := Int.ofNat_lt.1 (of_decide_eq_true a1)
              have b2 : st < mid := Int.ofNat_lt.1 (of_decide_eq_true a2)
              refine (ih _ _ x st mid hd1 srt b1 b2 hmidl q1 q2 q3).mono ?_
              rintro _ Ha ⟨t1, sr1, so1, mv1⟩
              have q4 := q4.mv (l' := t1) fun i i1 _ => mv1.out i (.inr i1)
              have q5 := q5.mv (l' := t1) fun i i1 _ => mv1.out i (.inr (Nat.le_trans hen2 i1))
              have q6 : Ahd t1 mid en y := fun p q p1 p2 p3 p4 => by rw [mv1.out p (.inr p1), mv1.out q (.inr (Nat.le_trans hen2 p3))]; exact q6 p q p1 p2 p3 p4
              simp -implicitDefEqProofs only [kz, kk0, kk1, kk2, kk3, ↓two_true, ↓two_false, oS_some, oM_some, mkv, aggAt, Nat.reduceLeDiff, Nat.reduceSub, Nat.reduceMul, implies_true, Nat.reduceEqDiff, reduceIte, Nat.reduceAdd, Nat.reduceBEq, reduceCtorEq, cv3_102, cv102_3, ix24, ld3, st3, h0, hf0, hf1, hf2, h4, h18, h19, h20, h21, h22]
              refine two_intro (fun a1 => two_intro (fun a2 => ?_) (fun a2 => ?_)) (fun a1 => ?_)
              · have b1 : mid < en := Int.ofNat_lt.1 (of_decide_eq_true a1)
                have b2 : en < y := Int.ofNat_lt.1 (of_decide_eq_true a2)
                refine (ih _ _ mid en y hd2 sr1 b1 b2 hy q4 q5 q6).mono ?_
                rintro _ Hb ⟨t2, sr2, so2, mv2⟩
                simp -implicitDefEqProofs only [kz, kk0, kk1, kk2, kk3, ↓two_true, ↓two_false, oS_some, oM_some, mkv, aggAt, Nat.reduceLeDiff, Nat.reduceSub, Nat.reduceMul, implies_true, Nat.reduceEqDiff, reduceIte, Nat.reduceAdd, Nat.reduceBEq, reduceCtorEq, cv3_102, cv102_3, ix24, ld3, st3, h0, hf0, hf1, hf2, h4, h18, h19, h20, h21, h22]
                exact ⟨t2, sr2, halves_join hcr mv1 mv2 so1 so2, (mvw).trans ((Mv.wide mv1 (Nat.le_refl _) hmy2).trans (mv2.wide hmx2 (Nat.le_refl _)))⟩
              · exact ⟨t1, sr1, halves_join hcr mv1 Mv.refl so1 (so_of q4 q5 (two_nr a2) hen2 hen), (mvw).trans (Mv.wide mv1 (Nat.le_refl _) hmy2)⟩
              · exact ⟨t1, sr1, halves_join hcr mv1 Mv.refl so1 (so_of q4 q5 (two_nl a1) hen2 hen), (mvw).trans (Mv.wide mv1 (Nat.le_refl _) hmy2)⟩
            · have so1 := so_of q1 q2 (two_nr a2) hst0 hst2
              refine two_intro (fun a1 => two_intro (fun a2 => ?_) (fun a2 => ?_)) (fun a1 => ?_)
              · have b1 : mid < en := Int.ofNat_lt.1 (of_decide_eq_true a1)
                have b2 : en < y := Int.ofNat_lt.1 (of_decide_eq_true a2)
                refine (ih _ _ mid en y hd2 srt b1 b2 hy q4 q5 q6).mono ?_
                rintro _ Hb ⟨t2, sr2, so2, mv2⟩
                simp -implicitDefEqProofs only [kz, kk0, kk1, kk2, kk3, ↓two_true, ↓two_false, oS_some, oM_some, mkv, aggAt, Nat.reduceLeDiff, Nat.reduceSub, Nat.reduceMul, implies_true, Nat.reduceEqDiff, reduceIte, Nat.reduceAdd, Nat.reduceBEq, reduceCtorEq, cv3_102, cv102_3, ix24, ld3, st3, h0, hf0, hf1, hf2, h4, h18, h19, h20, h21, h22]
                exact ⟨t2, sr2, halves_join hcr (Mv.refl : Mv t t x mid) mv2 so1 so2, (mvw).trans ((Mv.wide (Mv.refl : Mv t t x mid) (Nat.le_refl _) hmy2).trans (mv2.wide hmx2 (Nat.le_refl _)))⟩
              · exact ⟨t, srt, halves_join hcr (Mv.refl : Mv t t x mid) Mv.refl so1 (so_of q4 q5 (two_nr a2) hen2 hen), (mvw).trans (Mv.wide (Mv.refl : Mv t t x mid) (Nat.le_refl _) hmy2)⟩
              · exact ⟨t, srt, halves_join hcr (Mv.refl : Mv t t x mid) Mv.refl so1 (so_of q4 q5 (two_nl a1) hen2 hen), (mvw).trans (Mv.wide (Mv.refl : Mv t t x mid) (Nat.le_refl _) hmy2)⟩
            · have so1 := so_of q1 q2 (two_nl a1) hst0 hst2
              refine two_intro (fun a1 => two_intro (fun a2 => ?_) (fun a2 => ?_)) (fun a1 => ?_)
              · have b1 : mid < en := Int.ofNat_lt.1 (of_decide_eq_true a1)
                have b2 : en < y := Int.ofNat_lt.1 (of_decide_eq_true a2)
                refine (ih _ _ mid en y hd2 srt b1 b2 hy q4 q5 q6).mono ?_
                rintro _ Hb ⟨t2, sr2, so2, mv2⟩
                simp -implicitDefEqProofs only [kz, kk0, kk1, kk2, kk3, ↓two_true, ↓two_false, oS_some, oM_some, mkv, aggAt, Nat.reduceLeDiff, Nat.reduceSub, Nat.reduceMul, implies_true, Nat.reduceEqDiff, reduceIte, Nat.reduceAdd, Nat.reduceBEq, reduceCtorEq, cv3_102, cv102_3, ix24, ld3, st3, h0, hf0, hf1, hf2, h4, h18, h19, h20, h21, h22]
                exact ⟨t2, sr2, halves_join hcr (Mv.refl : Mv t t x mid) mv2 so1 so2, (mvw).trans ((Mv.wide (Mv.refl : Mv t t x mid) (Nat.le_refl _) hmy2).trans (mv2.wide hmx2 (Nat.le_refl _)))⟩
              · exact ⟨t, srt, halves_join hcr (Mv.refl : Mv t t x mid) Mv.refl so1 (so_of q4 q5 (two_nr a2) hen2 hen), (mvw).trans (Mv.wide (Mv.refl : Mv t t x mid) (Nat.le_refl _) hmy2)⟩
              · exact ⟨t, srt, halves_join hcr (Mv.refl : Mv t t x mid) Mv.refl so1 (so_of q4 q5 (two_nl a1) hen2 hen), (mvw).trans (Mv.wide (Mv.refl : Mv t t x mid) (Nat.le_refl _) hmy2)⟩
          · have rot : Rot l l st m en := Rot.self (.inr (Nat.le_of_not_lt fun e => two_nl (R := True) c2 ⟨e, trivial⟩))
            obtain ⟨q1, q2, q3⟩ := halves_left s1 s2 ha rot hst0 hstm hme hen hmid
            obtain ⟨q4, q5, q6⟩ := halves_right s1 s2 ha rot hst0 hstm hme hen hmid
            have hcr := halves_cross s1 s2 ha rot hst0 hstm hme hen hmid hp1 hp2
            refine two_intro (fun a1 => two_intro (fun a2 => ?_) (fun a2 => ?_)) (fun a1 => ?_)
            · have b1 : x < st := Int.ofNat_lt.1 (of_decide_eq_true a1)
              have b2 : st < mid := Int.ofNat_lt.1 (of_decide_eq_true a2)
              refine (ih _ _ x st mid hd1 h b1 b2 hmidl q1 q2 q3).mono ?_
              rintro _ Ha ⟨t1, sr1, so1, mv1⟩
              have q4 := q4.mv (l' := t1) fun i i1 _ => mv1.out i (.inr i1)
              have q5 := q5.mv (l' := t1) fun i i1 _ => mv1.out i (.inr (Nat.le_trans hen2 i1))
              have q6 : Ahd t1 mid en y := fun p q p1 p2 p3 p4 => by rw [mv1.out p (.inr p1), mv1.out q (.inr (Nat.le_trans hen2 p3))]; exact q6 p q p1 p2 p3 p4
              simp -implicitDefEqProofs only [kz, kk0, kk1, kk2, kk3, ↓two_true, ↓two_false, oS_some, oM_some, mkv, aggAt, Nat.reduceLeDiff, Nat.reduceSub, Nat.reduceMul, implies_true, Nat.reduceEqDiff, reduceIte, Nat.reduceAdd, Nat.reduceBEq, reduceCtorEq, cv3_102, cv102_3, ix24, ld3, st3, h0, hf0, hf1, hf2, h4, h18, h19, h20, h21, h22]
              refine two_intro (fun a1 => two_intro (fun a2 => ?_) (fun a2 => ?_)) (fun a1 => ?_)
              · have b1 : mid < en := Int.ofNat_lt.1 (of_decide_eq_true a1)
                have b2 : en < y := Int.ofNat_lt.1 (of_decide_eq_true a2)
                refine (ih _ _ mid en y hd2 sr1 b1 b2 hy q4 q5 q6).mono ?_
                rintro _ Hb ⟨t2, sr2, so2, mv2⟩
                simp -implicitDefEqProofs only [kz, kk0, kk1, kk2, kk3, ↓two_true, ↓two_false, oS_some, oM_some, mkv, aggAt, Nat.reduceLeDiff, Nat.reduceSub, Nat.reduceMul, implies_true, Nat.reduceEqDiff, reduceIte, Nat.reduceAdd, Nat.reduceBEq, reduceCtorEq, cv3_102, cv102_3, ix24, ld3, st3, h0, hf0, hf1, hf2, h4, h18, h19, h20, h21, h22]
                exact ⟨t2, sr2, halves_join hcr mv1 mv2 so1 so2, ((Mv.refl : Mv l l x y)).trans ((Mv.wide mv1 (Nat.le_refl _) hmy2).trans (mv2.wide hmx2 (Nat.le_refl _)))⟩
              · exact ⟨t1, sr1, halves_join hcr mv1 Mv.refl so1 (so_of q4 q5 (two_nr a2) hen2 hen), ((Mv.refl : Mv l l x y)).trans (Mv.wide mv1 (Nat.le_refl _) hmy2)⟩
              · exact ⟨t1, sr1, halves_join hcr mv1 Mv.refl so1 (so_of q4 q5 (two_nl a1) hen2 hen), ((Mv.refl : Mv l l x y)).trans (Mv.wide mv1 (Nat.le_refl _) hmy2)⟩
            · have so1 := so_of q1 q2 (two_nr a2) hst0 hst2
              refine two_intro (fun a1 => two_intro (fun a2 => ?_) (fun a2 => ?_)) (fun a1 => ?_)
              · have b1 : mid < en := Int.ofNat_lt.1 (of_decide_eq_true a1)
                have b2 : en < y := Int.ofNat_lt.1 (of_decide_eq_true a2)
                refine (ih _ _ mid en y hd2 h b1 b2 hy q4 q5 q6).mono ?_
                rintro _ Hb ⟨t2, sr2, so2, mv2⟩
                simp -implicitDefEqProofs only [kz, kk0, kk1, kk2, kk3, ↓two_true, ↓two_false, oS_some, oM_some, mkv, aggAt, Nat.reduceLeDiff, Nat.reduceSub, Nat.reduceMul, implies_true, Nat.reduceEqDiff, reduceIte, Nat.reduceAdd, Nat.reduceBEq, reduceCtorEq, cv3_102, cv102_3, ix24, ld3, st3, h0, hf0, hf1, hf2, h4, h18, h19, h20, h21, h22]
                exact ⟨t2, sr2, halves_join hcr (Mv.refl : Mv l l x mid) mv2 so1 so2, ((Mv.refl : Mv l l x y)).trans ((Mv.wide (Mv.refl : Mv l l x mid) (Nat.le_refl _) hmy2).trans (mv2.wide hmx2 (Nat.le_refl _)))⟩
              · exact ⟨l, h, halves_join hcr (Mv.refl : Mv l l x mid) Mv.refl so1 (so_of q4 q5 (two_nr a2) hen2 hen), ((Mv.refl : Mv l l x y)).trans (Mv.wide (Mv.refl : Mv l l x mid) (Nat.le_refl _) hmy2)⟩
              · exact ⟨l, h, halves_join hcr (Mv.refl : Mv l l x mid) Mv.refl so1 (so_of q4 q5 (two_nl a1) hen2 hen), ((Mv.refl : Mv l l x y)).trans (Mv.wide (Mv.refl : Mv l l x mid) (Nat.le_refl _) hmy2)⟩
            · have so1 := so_of q1 q2 (two_nl a1) hst0 hst2
              refine two_intro (fun a1 => two_intro (fun a2 => ?_) (fun a2 => ?_)) (fun a1 => ?_)
              · have b1 : mid < en := Int.ofNat_lt.1 (of_decide_eq_true a1)
                have b2 : en < y := Int.ofNat_lt.1 (of_decide_eq_true a2)
                refine (ih _ _ mid en y hd2 h b1 b2 hy q4 q5 q6).mono ?_
                rintro _ Hb ⟨t2, sr2, so2, mv2⟩
                simp -implicitDefEqProofs only [kz, kk0, kk1, kk2, kk3, ↓two_true, ↓two_false, oS_some, oM_some, mkv, aggAt, Nat.reduceLeDiff, Nat.reduceSub, Nat.reduceMul, implies_true, Nat.reduceEqDiff, reduceIte, Nat.reduceAdd, Nat.reduceBEq, reduceCtorEq, cv3_102, cv102_3, ix24, ld3, st3, h0, hf0, hf1, hf2, h4, h18, h19, h20, h21, h22]
                exact ⟨t2, sr2, halves_join hcr (Mv.refl : Mv l l x mid) mv2 so1 so2, ((Mv.refl : Mv l l x y)).trans ((Mv.wide (Mv.refl : Mv l l x mid) (Nat.le_refl _) hmy2).trans (mv2.wide hmx2 (Nat.le_refl _)))⟩
              · exact ⟨l, h, halves_join hcr (Mv.refl : Mv l l x mid) Mv.refl so1 (so_of q4 q5 (two_nr a2) hen2 hen), ((Mv.refl : Mv l l x y)).trans (Mv.wide (Mv.refl : Mv l l x mid) (Nat.le_refl _) hmy2)⟩
              · exact ⟨l, h, halves_join hcr (Mv.refl : Mv l l x mid) Mv.refl so1 (so_of q4 q5 (two_nl a1) hen2 hen), ((Mv.refl : Mv l l x y)).trans (Mv.wide (Mv.refl : Mv l l x mid) (Nat.le_refl _) hmy2)⟩
          · have rot : Rot l l st m en := Rot.self (.inl (Nat.le_of_not_lt fun e => two_nl (R := True) c1 ⟨e, trivial⟩))
            obtain ⟨q1, q2, q3⟩ := halves_left s1 s2 ha rot hst0 hstm hme hen hmid
            obtain ⟨q4, q5, q6⟩ := halves_right s1 s2 ha rot hst0 hstm hme hen hmid
            have hcr := halves_cross s1 s2 ha rot hst0 hstm hme hen hmid hp1 hp2
            refine two_intro (fun a1 => two_intro (fun a2 => ?_) (fun a2 => ?_)) (fun a1 => ?_)
            · have b1 : x < st := Int.ofNat_lt.1 (of_decide_eq_true a1)
              have b2 : st < mid := Int.ofNat_lt.1 (of_decide_eq_true a2)
              refine (ih _ _ x st mid hd1 h b1 b2 hmidl q1 q2 q3).mono ?_
              rintro _ Ha ⟨t1, sr1, so1, mv1⟩
              have q4 := q4.mv (l' := t1) fun i i1 _ => mv1.out i (.inr i1)
              have q5 := q5.mv (l' := t1) fun i i1 _ => mv1.out i (.inr (Nat.le_trans hen2 i1))
              have q6 : Ahd t1 mid en y := fun p q p1 p2 p3 p4 => by rw [mv1.out p (.inr p1), mv1.out q (.inr (Nat.le_trans hen2 p3))]; exact q6 p q p1 p2 p3 p4
              simp -implicitDefEqProofs only [kz, kk0, kk1, kk2, kk3, ↓two_true, ↓two_false, oS_some, oM_some, mkv, aggAt, Nat.reduceLeDiff, Nat.reduceSub, Nat.reduceMul, implies_true, Nat.reduceEqDiff, reduceIte, Nat.reduceAdd, Nat.reduceBEq, reduceCtorEq, cv3_102, cv102_3, ix24, ld3, st3, h0, hf0, hf1, hf2, h4, h18, h19, h20, h21, h22]
              refine two_intro (fun a1 => two_intro (fun a2 => ?_) (fun a2 => ?_)) (fun a1 => ?_)
              · have b1 : mid < en := Int.ofNat_lt.1 (of_decide_eq_true a1)
                have b2 : en < y := Int.ofNat_lt.1 (of_decide_eq_true a2)
                refine (ih _ _ mid en y hd2 sr1 b1 b2 hy q4 q5 q6).mono ?_
                rintro _ Hb ⟨t2, sr2, so2, mv2⟩
                simp -implicitDefEqProofs only [kz, kk0, kk1, kk2, kk3, ↓two_true, ↓two_false, oS_some, oM_some, mkv, aggAt, Nat.reduceLeDiff, Nat.reduceSub, Nat.reduceMul, implies_true, Nat.reduceEqDiff, reduceIte, Nat.reduceAdd, Nat.reduceBEq, reduceCtorEq, cv3_102, cv102_3, ix24, ld3, st3, h0, hf0, hf1, hf2, h4, h18, h19, h20, h21, h22]
                exact ⟨t2, sr2, halves_join hcr mv1 mv2 so1 so2, ((Mv.refl : Mv l l x y)).trans ((Mv.wide mv1 (Nat.le_refl _) hmy2).trans (mv2.wide hmx2 (Nat.le_refl _)))⟩
              · exact ⟨t1, sr1, halves_join hcr mv1 Mv.refl so1 (so_of q4 q5 (two_nr a2) hen2 hen), ((Mv.refl : Mv l l x y)).trans (Mv.wide mv1 (Nat.le_refl _) hmy2)⟩
              · exact ⟨t1, sr1, halves_join hcr mv1 Mv.refl so1 (so_of q4 q5 (two_nl a1) hen2 hen), ((Mv.refl : Mv l l x y)).trans (Mv.wide mv1 (Nat.le_refl _) hmy2)⟩
            · have so1 := so_of q1 q2 (two_nr a2) hst0 hst2
              refine two_intro (fun a1 => two_intro (fun a2 => ?_) (fun a2 => ?_)) (fun a1 => ?_)
              · have b1 : mid < en := Int.ofNat_lt.1 (of_decide_eq_true a1)
                have b2 : en < y := Int.ofNat_lt.1 (of_decide_eq_true a2)
                refine (ih _ _ mid en y hd2 h b1 b2 hy q4 q5 q6).mono ?_
                rintro _ Hb ⟨t2, sr2, so2, mv2⟩
                simp -implicitDefEqProofs only [kz, kk0, kk1, kk2, kk3, ↓two_true, ↓two_false, oS_some, oM_some, mkv, aggAt, Nat.reduceLeDiff, Nat.reduceSub, Nat.reduceMul, implies_true, Nat.reduceEqDiff, reduceIte, Nat.reduceAdd, Nat.reduceBEq, reduceCtorEq, cv3_102, cv102_3, ix24, ld3, st3, h0, hf0, hf1, hf2, h4, h18, h19, h20, h21, h22]
                exact ⟨t2, sr2, halves_join hcr (Mv.refl : Mv l l x mid) mv2 so1 so2, ((Mv.refl : Mv l l x y)).trans ((Mv.wide (Mv.refl : Mv l l x mid) (Nat.le_refl _) hmy2).trans (mv2.wide hmx2 (Nat.le_refl _)))⟩
              · exact ⟨l, h, halves_join hcr (Mv.refl : Mv l l x mid) Mv.refl so1 (so_of q4 q5 (two_nr a2) hen2 hen), ((Mv.refl : Mv l l x y)).trans (Mv.wide (Mv.refl : Mv l l x mid) (Nat.le_refl _) hmy2)⟩
              · exact ⟨l, h, halves_join hcr (Mv.refl : Mv l l x mid) Mv.refl so1 (so_of q4 q5 (two_nl a1) hen2 hen), ((Mv.refl : Mv l l x y)).trans (Mv.wide (Mv.refl : Mv l l x mid) (Nat.le_refl _) hmy2)⟩
            · have so1 := so_of q1 q2 (two_nl a1) hst0 hst2
              refine two_intro (fun a1 => two_intro (fun a2 => ?_) (fun a2 => ?_)) (fun a1 => ?_)
              · have b1 : mid < en := Int.ofNat_lt.1 (of_decide_eq_true a1)
                have b2 : en < y := Int.ofNat_lt.1 (of_decide_eq_true a2)
                refine (ih _ _ mid en y hd2 h b1 b2 hy q4 q5 q6).mono ?_
                rintro _ Hb ⟨t2, sr2, so2, mv2⟩
                simp -implicitDefEqProofs only [kz, kk0, kk1, kk2, kk3, ↓two_true, ↓two_false, oS_some, oM_some, mkv, aggAt, Nat.reduceLeDiff, Nat.reduceSub, Nat.reduceMul, implies_true, Nat.reduceEqDiff, reduceIte, Nat.reduceAdd, Nat.reduceBEq, reduceCtorEq, cv3_102, cv102_3, ix24, ld3, st3, h0, hf0, hf1, hf2, h4, h18, h19, h20, h21, h22]
                exact ⟨t2, sr2, halves_join hcr (Mv.refl : Mv l l x mid) mv2 so1 so2, ((Mv.refl : Mv l l x y)).trans ((Mv.wide (Mv.refl : Mv l l x mid) (Nat.le_refl _) hmy2).trans (mv2.wide hmx2 (Nat.le_refl _)))⟩
              · exact ⟨l, h, halves_join hcr (Mv.refl : Mv l l x mid) Mv.refl so1 (so_of q4 q5 (two_nr a2) hen2 hen), ((Mv.refl : Mv l l x y)).trans (Mv.wide (Mv.refl : Mv l l x mid) (Nat.le_refl _) hmy2)⟩
              · exact ⟨l, h, halves_join hcr (Mv.refl : Mv l l x mid) Mv.refl so1 (so_of q4 q5 (two_nl a1) hen2 hen), ((Mv.refl : Mv l l x y)).trans (Mv.wide (Mv.refl : Mv l l x mid) (Nat.le_refl _) hmy2)⟩
    · have dM : decide ((m : Int) > mid) = false := decide_eq_false (by omega)
      simp -implicitDefEqProofs only [kz, kk0, kk1, kk2, kk3, ↓two_true, ↓two_false, oS_some, oM_some, mkv, aggAt, Nat.reduceLeDiff, Nat.reduceSub, Nat.reduceMul, implies_true, Nat.reduceEqDiff, reduceIte, Nat.reduceAdd, Nat.reduceBEq, reduceCtorEq, cv3_102, cv102_3, ix24, ld3, st3, w1, w2, e1, e2, w5, hhu, wh, w6, w7, dM]
      refine rW_loop (σ := Nat × Nat) (fun (s, r) tm H' => tm 0 = .slice (some ⟨b, o, none⟩) l0.length 1 ∧ tm 1 = .int .i64 x ∧ tm 2 = .int .i64 m ∧ tm 3 = .int .i64 y ∧ tm 4 = .func (.func g) #[] #[cap] ∧ tm 18 = .int .i64 mid ∧ tm 19 = .int .i64 (mid + m : Nat) ∧ tm 20 = .int .i64 s ∧ tm 21 = .int .i64 r ∧ tm 22 = .int .i64 (mid + m - 1 : Nat) ∧ H' = H ∧ x ≤ s ∧ s ≤ r ∧ r ≤ m ∧ (s = x ∨ ¬ D (gx l (mid + m - s)) < D (gx l (s - 1))) ∧ (r = m ∨ D (gx l (mid + m - 1 - r)) < D (gx l r))) (fun s => s.2 - s.1) (x, m) ?_ ?_
      · simp -implicitDefEqProofs [kk0, kk1, kk2, kk3, rW_block, ↓two_true, ↓two_false, rW_cond, rO_guard, oS_some, oM_some, mkv, aggAt, Nat.reduceLeDiff, Nat.reduceSub, Nat.reduceMul, cond_true, cond_false, Option.bind_some, List.length_append, List.length_cons, List.length_nil, List.append_assoc, List.cons_append, List.nil_append, List.set_cons_zero, List.set_cons_succ, List.size_toArray, List.all_cons, List.all_nil, List.drop_zero, List.drop_succ_cons, List.take_succ_cons, List.take_zero, List.mem_cons, Prod.mk.injEq, List.not_mem_nil, implies_true, List.getElem?_toArray, List.getElem?_cons_zero, List.getElem?_cons_succ, List.getElem?_nil, Option.getD_some, Option.getD_none, Nat.reduceEqDiff, reduceIte, Nat.reduceAdd, List.map_toArray, List.map_cons, List.map_nil, Bool.false_eq_true, Nat.reduceBEq, Option.map_some, Option.map_none, reduceCtorEq, cv3_102, cv102_3, ix24, ld3, st3]
        omega
      · rintro ⟨st, r⟩ tm H1 ⟨h0, hf0, hf1, hf2, h4, h18, h19, h20, h21, h22, rfl, hls, hsr, hrh, p1, p2⟩
        have w3 : IntKind.i64.wrap ((st : Int) + r) = ((st + r : Nat) : Int) := by rw [IntWalk.i64_in _ (by omega)]; omega
        by_cases hlt : st < r
        · have dlt : decide ((st : Int) < r) = true := decide_eq_true (by omega)
          have hcb : st ≤ (st + r) / 2 ∧ (st + r) / 2 < r := by omega
          have wh : IntKind.i64.wrap (((st + r) / 2 : Nat) : Int) = (((st + r) / 2 : Nat) : Int) := IntWalk.i64_in _ (by omega)
          have hhu := half_u (P := Try.prog) (t := 102) (x := .tmp 155) (y := .const (.int .u64 1)) (show st + r < 4611686018427387904 by omega)
          generalize (st + r) / 2 = c at *
          have wh1 : IntKind.i64.wrap ((c : Int) + 1) = ((c + 1 : Nat) : Int) := by rw [IntWalk.i64_in _ (by omega)]; omega
          have wpc : IntKind.i64.wrap (((mid + m - 1 : Nat) : Int) - c) = ((mid + m - 1 - c : Nat) : Int) := by rw [IntWalk.i64_in _ (by omega)]; omega
          have ec := hcmp.call l H1 h _ (h.mem (i := mid + m - 1 - c) (by omega)) _ (h.mem (i := c) (by omega))
          simp -implicitDefEqProofs only [kz, kk0, kk1, kk2, kk3, ↓two_true, ↓two_false, oS_some, oM_some, mkv, aggAt, Nat.reduceLeDiff, Nat.reduceSub, Nat.reduceMul, implies_true, Nat.reduceEqDiff, reduceIte, Nat.reduceAdd, Nat.reduceBEq, reduceCtorEq, cv3_102, cv102_3, ix24, ld3, st3, h0, hf0, hf1, hf2, h4, h18, h19, h20, h21, h22, dlt, w3, hhu, wh, wh1, wpc, Int.toNat_natCast, Nat.mul_one, rd_own hb, hcell (mid + m - 1 - c) (by omega), hcell c (by omega), arr21, Array.empty_append, Array.append_empty, ec, cmpI_lt]
          refine ⟨by omega, by omega, two_intro (fun hd => ?_) (fun hd => ?_)⟩
          · have h9 : ¬ D (gx l (mid + m - 1 - c)) < D (gx l c) := by simpa using hd
            exact ⟨(c + 1, r), by simp only; omega, rfl, rfl, by simp only; omega, by simp only; omega, hrh, .inr (by simp only [Nat.add_sub_cancel]; rw [show mid + m - (c + 1) = mid + m - 1 - c by omega]; exact h9), p2⟩
          · have h9 : D (gx l (mid + m - 1 - c)) < D (gx l c) := by simpa using hd
            exact ⟨(st, c), by simp only; omega, rfl, rfl, hls, by simp only; omega, by simp only; omega, p1, .inr h9⟩
        · have dlt : decide ((st : Int) < r) = false := decide_eq_false (by omega)
          obtain rfl : st = r := by omega
          obtain ⟨en, hen0⟩ : ∃ en, en = mid + m - st := ⟨_, rfl⟩
          have wen : IntKind.i64.wrap (((mid + m : Nat) : Int) - st) = (en : Int) := by rw [IntWalk.i64_in _ (by omega)]; omega
          have hst0 : x ≤ st := by omega
          have hstm : st ≤ m := by omega
          have hme : m ≤ en := by omega
          have hen : en ≤ y := by omega
          have hmid : mid + m = st + en := by omega
          have hp1 : x < st → en < y → ¬ D (gx l en) < D (gx l (st - 1)) := fun a1 a2 => by
            rcases p1 with p1 | p1
            · omega
            · rw [hen0]; exact p1
          have hp2 : st < m → m < en → D (gx l (en - 1)) < D (gx l st) := fun a1 a2 => by
            rcases p2 with p2 | p2
            · omega
            · rw [show en - 1 = mid + m - 1 - st by omega]; exact p2
          simp -implicitDefEqProofs only [kz, kk0, kk1, kk2, kk3, ↓two_true, ↓two_false, oS_some, oM_some, mkv, aggAt, Nat.reduceLeDiff, Nat.reduceSub, Nat.reduceMul, implies_true, Nat.reduceEqDiff, reduceIte, Nat.reduceAdd, Nat.reduceBEq, reduceCtorEq, cv3_102, cv102_3, ix24, ld3, st3, h0, hf0, hf1, hf2, h4, h18, h19, h20, h21, h22, dlt, wen]
          clear w1 w2 e1 e2 w5 wh hhu w6 w7 dM w3 dlt hcell hle hb p1 p2 hls hsr hrh hlt hen0 wen
          have hmx2 : x ≤ mid := by omega
          have hmy2 : mid ≤ y := by omega
          have hen2 : mid ≤ en := by omega
          have hst2 : st ≤ mid := by omega
          have hd1 : mid - x ≤ d := by omega
          have hd2 : y - mid ≤ d := by omega
          have hmidl : mid ≤ l0.length := by omega
          have henl : en ≤ l0.length := by omega
          refine two_intro (fun c1 => two_intro (fun c2 => ?_) (fun c2 => ?_)) (fun c1 => ?_)
          · have g1 : st < m := Int.ofNat_lt.1 (of_decide_eq_true c1)
            have g2 : m < en := Int.ofNat_lt.1 (of_decide_eq_true c2)
            refine (rotate_ok h hn g1 g2 henl).mono ?_
            rintro _ H2 ⟨t, srt, rot, mvt⟩
            have mvw := mvt.wide hst0 hen
            simp -implicitDefEqProofs only [kz, kk0, kk1, kk2, kk3, ↓two_true, ↓two_false, oS_some, oM_some, mkv, aggAt, Nat.reduceLeDiff, Nat.reduceSub, Nat.reduceMul, implies_true, Nat.reduceEqDiff, reduceIte, Nat.reduceAdd, Nat.reduceBEq, reduceCtorEq, cv3_102, cv102_3, ix24, ld3, st3, h0, hf0, hf1, hf2, h4, h18, h19, h20, h21, h22]
            obtain ⟨q1, q2, q3⟩ := halves_left s1 s2 ha rot hst0 hstm hme hen hmid
            obtain ⟨q4, q5, q6⟩ := halves_right s1 s2 ha rot hst0 hstm hme hen hmid
            have hcr := halves_cross s1 s2 ha rot hst0 hstm hme hen hmid hp1 hp2
            refine two_intro (fun a1 => two_intro (fun a2 => ?_) (fun a2 => ?_)) (fun a1 => ?_)
            · have b1 : x < st := Int.ofNat_lt.1 (of_decide_eq_true a1)
              have b2 : st < mid := Int.ofNat_lt.1 (of_decide_eq_true a2)
              refine (ih _ _ x st mid hd1 srt b1 b2 hmidl q1 q2 q3).mono ?_
              rintro _ Ha ⟨t1, sr1, so1, mv1⟩
              have q4 := q4.mv (l' := t1) fun i i1 _ => mv1.out i (.inr i1)
              have q5 := q5.mv (l' := t1) fun i i1 _ => mv1.out i (.inr (Nat.le_trans hen2 i1))
              have q6 : Ahd t1 mid en y := fun p q p1 p2 p3 p4 => by rw [mv1.out p (.inr p1), mv1.out q (.inr (Nat.le_trans hen2 p3))]; exact q6 p q p1 p2 p3 p4
              simp -implicitDefEqProofs only [kz, kk0, kk1, kk2, kk3, ↓two_true, ↓two_false, oS_some, oM_some, mkv, aggAt, Nat.reduceLeDiff, Nat.reduceSub, Nat.reduceMul, implies_true, Nat.reduceEqDiff, reduceIte, Nat.reduceAdd, Nat.reduceBEq, reduceCtorEq, cv3_102, cv102_3, ix24, ld3, st3, h0, hf0, hf1, hf2, h4, h18, h19, h20, h21, h22]
              refine two_intro (fun a1 => two_intro (fun a2 => ?_) (fun a2 => ?_)) (fun a1 => ?_)
              · have b1 : mid < en := Int.ofNat_lt.1 (of_decide_eq_true a1)
                have b2 : en < y := Int.ofNat_lt.1 (of_decide_eq_true a2)
                refine (ih _ _ mid en y hd2 sr1 b1 b2 hy q4 q5 q6).mono ?_
                rintro _ Hb ⟨t2, sr2, so2, mv2⟩
                simp -implicitDefEqProofs only [kz, kk0, kk1, kk2, kk3, ↓two_true, ↓two_false, oS_some, oM_some, mkv, aggAt, Nat.reduceLeDiff, Nat.reduceSub, Nat.reduceMul, implies_true, Nat.reduceEqDiff, reduceIte, Nat.reduceAdd, Nat.reduceBEq, reduceCtorEq, cv3_102, cv102_3, ix24, ld3, st3, h0, hf0, hf1, hf2, h4, h18, h19, h20, h21, h22]
                exact ⟨t2, sr2, halves_join hcr mv1 mv2 so1 so2, (mvw).trans ((Mv.wide mv1 (Nat.le_refl _) hmy2).trans (mv2.wide hmx2 (Nat.le_refl _)))⟩
              · exact ⟨t1, sr1, halves_join hcr mv1 Mv.refl so1 (so_of q4 q5 (two_nr a2) hen2 hen), (mvw).trans (Mv.wide mv1 (Nat.le_refl _) hmy2)⟩
              · exact ⟨t1, sr1, halves_join hcr mv1 Mv.refl so1 (so_of q4 q5 (two_nl a1) hen2 hen), (mvw).trans (Mv.wide mv1 (Nat.le_refl _) hmy2)⟩
            · have so1 := so_of q1 q2 (two_nr a2) hst0 hst2
              refine two_intro (fun a1 => two_intro (fun a2 => ?_) (fun a2 => ?_)) (fun a1 => ?_)
              · have b1 : mid < en := Int.ofNat_lt.1 (of_decide_eq_true a1)
                have b2 : en < y := Int.ofNat_lt.1 (of_decide_eq_true a2)
                refine (ih _ _ mid en y hd2 srt b1 b2 hy q4 q5 q6).mono ?_
                rintro _ Hb ⟨t2, sr2, so2, mv2⟩
                simp -implicitDefEqProofs only [kz, kk0, kk1, kk2, kk3, ↓two_true, ↓two_false, oS_some, oM_some, mkv, aggAt, Nat.reduceLeDiff, Nat.reduceSub, Nat.reduceMul, implies_true, Nat.reduceEqDiff, reduceIte, Nat.reduceAdd, Nat.reduceBEq, reduceCtorEq, cv3_102, cv102_3, ix24, ld3, st3, h0, hf0, hf1, hf2, h4, h18, h19, h20, h21, h22]
                exact ⟨t2, sr2, halves_join hcr (Mv.refl : Mv t t x mid) mv2 so1 so2, (mvw).trans ((Mv.wide (Mv.refl : Mv t t x mid) (Nat.le_refl _) hmy2).trans (mv2.wide hmx2 (Nat.le_refl _)))⟩
              · exact ⟨t, srt, halves_join hcr (Mv.refl : Mv t t x mid) Mv.refl so1 (so_of q4 q5 (two_nr a2) hen2 hen), (mvw).trans (Mv.wide (Mv.refl : Mv t t x mid) (Nat.le_refl _) hmy2)⟩
              · exact ⟨t, srt, halves_join hcr (Mv.refl : Mv t t x mid) Mv.refl so1 (so_of q4 q5 (two_nl a1) hen2 hen), (mvw).trans (Mv.wide (Mv.refl : Mv t t x mid) (Nat.le_refl _) hmy2)⟩
            · have so1 := so_of q1 q2 (two_nl a1) hst0 hst2
              refine two_intro (fun a1 => two_intro (fun a2 => ?_) (fun a2 => ?_)) (fun a1 => ?_)
              · have b1 : mid < en := Int.ofNat_lt.1 (of_decide_eq_true a1)
                have b2 : en < y := Int.ofNat_lt.1 (of_decide_eq_true a2)
                refine (ih _ _ mid en y hd2 srt b1 b2 hy q4 q5 q6).mono ?_
                rintro _ Hb ⟨t2, sr2, so2, mv2⟩
                simp -implicitDefEqProofs only [kz, kk0, kk1, kk2, kk3, ↓two_true, ↓two_false, oS_some, oM_some, mkv, aggAt, Nat.reduceLeDiff, Nat.reduceSub, Nat.reduceMul, implies_true, Nat.reduceEqDiff, reduceIte, Nat.reduceAdd, Nat.reduceBEq, reduceCtorEq, cv3_102, cv102_3, ix24, ld3, st3, h0, hf0, hf1, hf2, h4, h18, h19, h20, h21, h22]
                exact ⟨t2, sr2, halves_join hcr (Mv.refl : Mv t t x mid) mv2 so1 so2, (mvw).trans ((Mv.wide (Mv.refl : Mv t t x mid) (Nat.le_refl _) hmy2).trans (mv2.wide hmx2 (Nat.le_refl _)))⟩
              · exact ⟨t, srt, halves_join hcr (Mv.refl : Mv t t x mid) Mv.refl so1 (so_of q4 q5 (two_nr a2) hen2 hen), (mvw).trans (Mv.wide (Mv.refl : Mv t t x mid) (Nat.le_refl _) hmy2)⟩
              · exact ⟨t, srt, halves_join hcr (Mv.refl : Mv t t x mid) Mv.refl so1 (so_of q4 q5 (two_nl a1) hen2 hen), (mvw).trans (Mv.wide (Mv.refl : Mv t t x mid) (Nat.le_refl _) hmy2)⟩
          · have rot : Rot l l st m en := Rot.self (.inr (Nat.le_of_not_lt fun e => two_nl (R := True) c2 ⟨e, trivial⟩))
            obtain ⟨q1, q2, q3⟩ := halves_left s1 s2 ha rot hst0 hstm hme hen hmid
            obtain ⟨q4, q5, q6⟩ := halves_right s1 s2 ha rot hst0 hstm hme hen hmid
            have hcr := halves_cross s1 s2 ha rot hst0 hstm hme hen hmid hp1 hp2
            refine two_intro (fun a1 => two_intro (fun a2 => ?_) (fun a2 => ?_)) (fun a1 => ?_)
            · have b1 : x < st := Int.ofNat_lt.1 (of_decide_eq_true a1)
              have b2 : st < mid := Int.ofNat_lt.1 (of_decide_eq_true a2)
              refine (ih _ _ x st mid hd1 h b1 b2 hmidl q1 q2 q3).mono ?_
              rintro _ Ha ⟨t1, sr1, so1, mv1⟩
              have q4 := q4.mv (l' := t1) fun i i1 _ => mv1.out i (.inr i1)
              have q5 := q5.mv (l' := t1) fun i i1 _ => mv1.out i (.inr (Nat.le_trans hen2 i1))
              have q6 : Ahd t1 mid en y := fun p q p1 p2 p3 p4 => by rw [mv1.out p (.inr p1), mv1.out q (.inr (Nat.le_trans hen2 p3))]; exact q6 p q p1 p2 p3 p4
              simp -implicitDefEqProofs only [kz, kk0, kk1, kk2, kk3, ↓two_true, ↓two_false, oS_some, oM_some, mkv, aggAt, Nat.reduceLeDiff, Nat.reduceSub, Nat.reduceMul, implies_true, Nat.reduceEqDiff, reduceIte, Nat.reduceAdd, Nat.reduceBEq, reduceCtorEq, cv3_102, cv102_3, ix24, ld3, st3, h0, hf0, hf1, hf2, h4, h18, h19, h20, h21, h22]
              refine two_intro (fun a1 => two_intro (fun a2 => ?_) (fun a2 => ?_)) (fun a1 => ?_)
              · have b1 : mid < en := Int.ofNat_lt.1 (of_decide_eq_true a1)
                have b2 : en < y := Int.ofNat_lt.1 (of_decide_eq_true a2)
                refine (ih _ _ mid en y hd2 sr1 b1 b2 hy q4 q5 q6).mono ?_
                rintro _ Hb ⟨t2, sr2, so2, mv2⟩
                simp -implicitDefEqProofs only [kz, kk0, kk1, kk2, kk3, ↓two_true, ↓two_false, oS_some, oM_some, mkv, aggAt, Nat.reduceLeDiff, Nat.reduceSub, Nat.reduceMul, implies_true, Nat.reduceEqDiff, reduceIte, Nat.reduceAdd, Nat.reduceBEq, reduceCtorEq, cv3_102, cv102_3, ix24, ld3, st3, h0, hf0, hf1, hf2, h4, h18, h19, h20, h21, h22]
                exact ⟨t2, sr2, halves_join hcr mv1 mv2 so1 so2, ((Mv.refl : Mv l l x y)).trans ((Mv.wide mv1 (Nat.le_refl _) hmy2).trans (mv2.wide hmx2 (Nat.le_refl _)))⟩
              · exact ⟨t1, sr1, halves_join hcr mv1 Mv.refl so1 (so_of q4 q5 (two_nr a2) hen2 hen), ((Mv.refl : Mv l l x y)).trans (Mv.wide mv1 (Nat.le_refl _) hmy2)⟩
              · exact ⟨t1, sr1, halves_join hcr mv1 Mv.refl so1 (so_of q4 q5 (two_nl a1) hen2 hen), ((Mv.refl : Mv l l x y)).trans (Mv.wide mv1 (Nat.le_refl _) hmy2)⟩
            · have so1 := so_of q1 q2 (two_nr a2) hst0 hst2
              refine two_intro (fun a1 => two_intro (fun a2 => ?_) (fun a2 => ?_)) (fun a1 => ?_)
              · have b1 : mid < en := Int.ofNat_lt.1 (of_decide_eq_true a1)
                have b2 : en < y := Int.ofNat_lt.1 (of_decide_eq_true a2)
                refine (ih _ _ mid en y hd2 h b1 b2 hy q4 q5 q6).mono ?_
                rintro _ Hb ⟨t2, sr2, so2, mv2⟩
                simp -implicitDefEqProofs only [kz, kk0, kk1, kk2, kk3, ↓two_true, ↓two_false, oS_some, oM_some, mkv, aggAt, Nat.reduceLeDiff, Nat.reduceSub, Nat.reduceMul, implies_true, Nat.reduceEqDiff, reduceIte, Nat.reduceAdd, Nat.reduceBEq, reduceCtorEq, cv3_102, cv102_3, ix24, ld3, st3, h0, hf0, hf1, hf2, h4, h18, h19, h20, h21, h22]
                exact ⟨t2, sr2, halves_join hcr (Mv.refl : Mv l l x mid) mv2 so1 so2, ((Mv.refl : Mv l l x y)).trans ((Mv.wide (Mv.refl : Mv l l x mid) (Nat.le_refl _) hmy2).trans (mv2.wide hmx2 (Nat.le_refl _)))⟩
              · exact ⟨l, h, halves_join hcr (Mv.refl : Mv l l x mid) Mv.refl so1 (so_of q4 q5 (two_nr a2) hen2 hen), ((Mv.refl : Mv l l x y)).trans (Mv.wide (Mv.refl : Mv l l x mid) (Nat.le_refl _) hmy2)⟩
              · exact ⟨l, h, halves_join hcr (Mv.refl : Mv l l x mid) Mv.refl so1 (so_of q4 q5 (two_nl a1) hen2 hen), ((Mv.refl : Mv l l x y)).trans (Mv.wide (Mv.refl : Mv l l x mid) (Nat.le_refl _) hmy2)⟩
            · have so1 := so_of q1 q2 (two_nl a1) hst0 hst2
              refine two_intro (fun a1 => two_intro (fun a2 => ?_) (fun a2 => ?_)) (fun a1 => ?_)
              · have b1 : mid < en := Int.ofNat_lt.1 (of_decide_eq_true a1)
                have b2 : en < y := Int.ofNat_lt.1 (of_decide_eq_true a2)
                refine (ih _ _ mid en y hd2 h b1 b2 hy q4 q5 q6).mono ?_
                rintro _ Hb ⟨t2, sr2, so2, mv2⟩
                simp -implicitDefEqProofs only [kz, kk0, kk1, kk2, kk3, ↓two_true, ↓two_false, oS_some, oM_some, mkv, aggAt, Nat.reduceLeDiff, Nat.reduceSub, Nat.reduceMul, implies_true, Nat.reduceEqDiff, reduceIte, Nat.reduceAdd, Nat.reduceBEq, reduceCtorEq, cv3_102, cv102_3, ix24, ld3, st3, h0, hf0, hf1, hf2, h4, h18, h19, h20, h21, h22]
                exact ⟨t2, sr2, halves_join hcr (Mv.refl : Mv l l x mid) mv2 so1 so2, ((Mv.refl : Mv l l x y)).trans ((Mv.wide (Mv.refl : Mv l l x mid) (Nat.le_refl _) hmy2).trans (mv2.wide hmx2 (Nat.le_refl _)))⟩
              · exact ⟨l, h, halves_join hcr (Mv.refl : Mv l l x mid) Mv.refl so1 (so_of q4 q5 (two_nr a2) hen2 hen), ((Mv.refl : Mv l l x y)).trans (Mv.wide (Mv.refl : Mv l l x mid) (Nat.le_refl _) hmy2)⟩
              · exact ⟨l, h, halves_join hcr (Mv.refl : Mv l l x mid) Mv.refl so1 (so_of q4 q5 (two_nl a1) hen2 hen), ((Mv.refl : Mv l l x y)).trans (Mv.wide (Mv.refl : Mv l l x mid) (Nat.le_refl _) hmy2)⟩
          · have rot : Rot l l st m en := Rot.self (.inl (Nat.le_of_not_lt fun e => two_nl (R := True) c1 ⟨e, trivial⟩))
            obtain ⟨q1, q2, q3⟩ := halves_left s1 s2 ha rot hst0 hstm hme hen hmid
            obtain ⟨q4, q5, q6⟩ := halves_right s1 s2 ha rot hst0 hstm hme hen hmid
            have hcr := halves_cross s1 s2 ha rot hst0 hstm hme hen hmid hp1 hp2
            refine two_intro (fun a1 => two_intro (fun a2 => ?_) (fun a2 => ?_)) (fun a1 => ?_)
            · have b1 : x < st := Int.ofNat_lt.1 (of_decide_eq_true a1)
              have b2 : st < mid := Int.ofNat_lt.1 (of_decide_eq_true a2)
              refine (ih _ _ x st mid hd1 h b1 b2 hmidl q1 q2 q3).mono ?_
              rintro _ Ha ⟨t1, sr1, so1, mv1⟩
              have q4 := q4.mv (l' := t1) fun i i1 _ => mv1.out i (.inr i1)
              have q5 := q5.mv (l' := t1) fun i i1 _ => mv1.out i (.inr (Nat.le_trans hen2 i1))
              have q6 : Ahd t1 mid en y := fun p q p1 p2 p3 p4 => by rw [mv1.out p (.inr p1), mv1.out q (.inr (Nat.le_trans hen2 p3))]; exact q6 p q p1 p2 p3 p4
              simp -implicitDefEqProofs only [kz, kk0, kk1, kk2, kk3, ↓two_true, ↓two_false, oS_some, oM_some, mkv, aggAt, Nat.reduceLeDiff, Nat.reduceSub, Nat.reduceMul, implies_true, Nat.reduceEqDiff, reduceIte, Nat.reduceAdd, Nat.reduceBEq, reduceCtorEq, cv3_102, cv102_3, ix24, ld3, st3, h0, hf0, hf1, hf2, h4, h18, h19, h20, h21, h22]
              refine two_intro (fun a1 => two_intro (fun a2 => ?_) (fun a2 => ?_)) (fun a1 => ?_)
              · have b1 : mid < en := Int.ofNat_lt.1 (of_decide_eq_true a1)
                have b2 : en < y := Int.ofNat_lt.1 (of_decide_eq_true a2)
                refine (ih _ _ mid en y hd2 sr1 b1 b2 hy q4 q5 q6).mono ?_
                rintro _ Hb ⟨t2, sr2, so2, mv2⟩
                simp -implicitDefEqProofs only [kz, kk0, kk1, kk2, kk3, ↓two_true, ↓two_false, oS_some, oM_some, mkv, aggAt, Nat.reduceLeDiff, Nat.reduceSub, Nat.reduceMul, implies_true, Nat.reduceEqDiff, reduceIte, Nat.reduceAdd, Nat.reduceBEq, reduceCtorEq, cv3_102, cv102_3, ix24, ld3, st3, h0, hf0, hf1, hf2, h4, h18, h19, h20, h21, h22]
                exact ⟨t2, sr2, halves_join hcr mv1 mv2 so1 so2, ((Mv.refl : Mv l l x y)).trans ((Mv.wide mv1 (Nat.le_refl _) hmy2).trans (mv2.wide hmx2 (Nat.le_refl _)))⟩
              · exact ⟨t1, sr1, halves_join hcr mv1 Mv.refl so1 (so_of q4 q5 (two_nr a2) hen2 hen), ((Mv.refl : Mv l l x y)).trans (Mv.wide mv1 (Nat.le_refl _) hmy2)⟩
              · exact ⟨t1, sr1, halves_join hcr mv1 Mv.refl so1 (so_of q4 q5 (two_nl a1) hen2 hen), ((Mv.refl : Mv l l x y)).trans (Mv.wide mv1 (Nat.le_refl _) hmy2)⟩
            · have so1 := so_of q1 q2 (two_nr a2) hst0 hst2
              refine two_intro (fun a1 => two_intro (fun a2 => ?_) (fun a2 => ?_)) (fun a1 => ?_)
              · have b1 : mid < en := Int.ofNat_lt.1 (of_decide_eq_true a1)
                have b2 : en < y := Int.ofNat_lt.1 (of_decide_eq_true a2)
                refine (ih _ _ mid en y hd2 h b1 b2 hy q4 q5 q6).mono ?_
                rintro _ Hb ⟨t2, sr2, so2, mv2⟩
                simp -implicitDefEqProofs only [kz, kk0, kk1, kk2, kk3, ↓two_true, ↓two_false, oS_some, oM_some, mkv, aggAt, Nat.reduceLeDiff, Nat.reduceSub, Nat.reduceMul, implies_true, Nat.reduceEqDiff, reduceIte, Nat.reduceAdd, Nat.reduceBEq, reduceCtorEq, cv3_102, cv102_3, ix24, ld3, st3, h0, hf0, hf1, hf2, h4, h18, h19, h20, h21, h22]
                exact ⟨t2, sr2, halves_join hcr (Mv.refl : Mv l l x mid) mv2 so1 so2, ((Mv.refl : Mv l l x y)).trans ((Mv.wide (Mv.refl : Mv l l x mid) (Nat.le_refl _) hmy2).trans (mv2.wide hmx2 (Nat.le_refl _)))⟩
              · exact ⟨l, h, halves_join hcr (Mv.refl : Mv l l x mid) Mv.refl so1 (so_of q4 q5 (two_nr a2) hen2 hen), ((Mv.refl : Mv l l x y)).trans (Mv.wide (Mv.refl : Mv l l x mid) (Nat.le_refl _) hmy2)⟩
              · exact ⟨l, h, halves_join hcr (Mv.refl : Mv l l x mid) Mv.refl so1 (so_of q4 q5 (two_nl a1) hen2 hen), ((Mv.refl : Mv l l x y)).trans (Mv.wide (Mv.refl : Mv l l x mid) (Nat.le_refl _) hmy2)⟩
            · have so1 := so_of q1 q2 (two_nl a1) hst0 hst2
              refine two_intro (fun a1 => two_intro (fun a2 => ?_) (fun a2 => ?_)) (fun a1 => ?_)
              · have b1 : mid < en := Int.ofNat_lt.1 (of_decide_eq_true a1)
                have b2 : en < y := Int.ofNat_lt.1 (of_decide_eq_true a2)
                refine (ih _ _ mid en y hd2 h b1 b2 hy q4 q5 q6).mono ?_
                rintro _ Hb ⟨t2, sr2, so2, mv2⟩
                simp -implicitDefEqProofs only [kz, kk0, kk1, kk2, kk3, ↓two_true, ↓two_false, oS_some, oM_some, mkv, aggAt, Nat.reduceLeDiff, Nat.reduceSub, Nat.reduceMul, implies_true, Nat.reduceEqDiff, reduceIte, Nat.reduceAdd, Nat.reduceBEq, reduceCtorEq, cv3_102, cv102_3, ix24, ld3, st3, h0, hf0, hf1, hf2, h4, h18, h19, h20, h21, h22]
                exact ⟨t2, sr2, halves_join hcr (Mv.refl : Mv l l x mid) mv2 so1 so2, ((Mv.refl : Mv l l x y)).trans ((Mv.wide (Mv.refl : Mv l l x mid) (Nat.le_refl _) hmy2).trans (mv2.wide hmx2 (Nat.le_refl _)))⟩
              · exact ⟨l, h, halves_join hcr (Mv.refl : Mv l l x mid) Mv.refl so1 (so_of q4 q5 (two_nr a2) hen2 hen), ((Mv.refl : Mv l l x y)).trans (Mv.wide (Mv.refl : Mv l l x mid) (Nat.le_refl _) hmy2)⟩
              · exact ⟨l, h, halves_join hcr (Mv.refl : Mv l l x mid) Mv.refl so1 (so_of q4 q5 (two_nl a1) hen2 hen), ((Mv.refl : Mv l l x y)).trans (Mv.wide (Mv.refl : Mv l l x mid) (Nat.le_refl _) hmy2)⟩
set_option maxHeartbeats 4000000 in
theorem symMerge_ok {G : AH} {b o : Nat} {l0 : List Int} {g : FuncId} {cap : Value} {D : Int → Int} (hcmp : CmpOk Try.prog g cap G b o l0 D) (hn : l0.length ≤ 1048576) (d : Nat) : SymOk G b o l0 g cap D d := by
  induction d with
  | zero => intro H l x m y hd h hxm hmy hy s1 s2 ha; omega
  | succ d ih => exact symMerge_step hcmp hn ih

set_option maxHeartbeats 4000000 in
theorem stable_ok {G H : AH} {b o : Nat} {l0 : List Int} {g : FuncId} {cap : Value} {D : Int → Int} (hcmp : CmpOk Try.prog g cap G b o l0 D) (hn : l0.length ≤ 1048576) (h : SR G b o l0 l0 H) (ha : AscS l0 l0.length) :
    CallsA Try.prog 75 #[.slice (some ⟨b, o, none⟩) l0.length 1, .int .i64 l0.length, .func (.func g) #[] #[cap]] H fun r H' => ∃ l', SR G b o l0 l' H' ∧ SortS D l' 0 l0.length := by
  generalize hN : l0.length = n at *
  refine w75 ?_
  unfold k75
  simp -implicitDefEqProofs only [kz, kk0, kk1, kk2, kk3, ↓two_true, ↓two_false, oS_some, oM_some, mkv, aggAt, Nat.reduceLeDiff, Nat.reduceSub, Nat.reduceMul, implies_true, Nat.reduceEqDiff, reduceIte, Nat.reduceAdd, Nat.reduceBEq, reduceCtorEq]
  refine rW_loop (σ := Nat × List Int) (fun (K, l) tm H' => tm 0 = .slice (some ⟨b, o, none⟩) n 1 ∧ tm 1 = .int .i64 n ∧ tm 2 = .func (.func g) #[] #[cap] ∧ tm 6 = .int .i64 20 ∧ tm 7 = .int .i64 (K * 20 : Nat) ∧ tm 8 = .int .i64 (K * 20 + 20 : Nat) ∧ K * 20 ≤ n ∧ SR G b o l0 l H' ∧ Bks D l0 l 20 K ∧ ∀ i, K * 20 ≤ i → gx l i = gx l0 i) (fun s => n - s.1 * 20) (0, l0) ?_ ?_
  · simp -implicitDefEqProofs [kk0, kk1, kk2, kk3, rW_block, ↓two_true, ↓two_false, rW_cond, rO_guard, oS_some, oM_some, mkv, aggAt, Nat.reduceLeDiff, Nat.reduceSub, Nat.reduceMul, cond_true, cond_false, Option.bind_some, List.length_append, List.length_cons, List.length_nil, List.append_assoc, List.cons_append, List.nil_append, List.set_cons_zero, List.set_cons_succ, List.size_toArray, List.all_cons, List.all_nil, List.drop_zero, List.drop_succ_cons, List.take_succ_cons, List.take_zero, List.mem_cons, Prod.mk.injEq, List.not_mem_nil, implies_true, List.getElem?_toArray, List.getElem?_cons_zero, List.getElem?_cons_succ, List.getElem?_nil, Option.getD_some, Option.getD_none, Nat.reduceEqDiff, reduceIte, Nat.reduceAdd, List.map_toArray, List.map_cons, List.map_nil, Bool.false_eq_true, Nat.reduceBEq, Option.map_some, Option.map_none, reduceCtorEq]
    exact ⟨h, Bks.zero⟩
  · rintro ⟨K, l⟩ tm H1 ⟨h0, h1, h2, h6, h7, h8, hK, hs, hb, hsm⟩
    have w1 : IntKind.i64.wrap (((K * 20 + 20 : Nat) : Int) + 20) = (((K + 1) * 20 + 20 : Nat) : Int) := by rw [IntWalk.i64_in _ (by omega)]; omega
    simp -implicitDefEqProofs only [kz, kk0, kk1, kk2, kk3, ↓two_true, ↓two_false, oS_some, oM_some, mkv, aggAt, Nat.reduceLeDiff, Nat.reduceSub, Nat.reduceMul, implies_true, Nat.reduceEqDiff, reduceIte, Nat.reduceAdd, Nat.reduceBEq, reduceCtorEq, h0, h1, h2, h6, h7, h8]
    refine two_intro (fun hc => ?_) (fun hc => ?_)
    · have hle : K * 20 + 20 ≤ n := by have := of_decide_eq_true hc; omega
      have hin := insSort_ok (x := K * 20) (y := K * 20 + 20) hcmp hs (by omega) (by omega) (by omega) (fun p q p1 p2 p3 => by rw [hsm p p1, hsm q (by omega)]; exact ha p q p2 (by omega))
      rw [hN] at hin
      refine hin.mono ?_
      rintro _ H2 ⟨l2, s2, so, mv⟩
      simp -implicitDefEqProofs only [kz, kk0, kk1, kk2, kk3, ↓two_true, ↓two_false, oS_some, oM_some, mkv, aggAt, Nat.reduceLeDiff, Nat.reduceSub, Nat.reduceMul, implies_true, Nat.reduceEqDiff, reduceIte, Nat.reduceAdd, Nat.reduceBEq, reduceCtorEq, h0, h1, h2, h6, h7, h8, w1]
      refine ⟨(K + 1, l2), by simp only; omega, by simp only; congr 2; omega, rfl, by simp only; omega, s2, hb.step (fun i hi => mv.out i (.inl hi)) so (MvI.mv (fun i i1 i2 => ⟨i, i1, i2, hsm i i1⟩) mv), fun i hi => ?_⟩
      rw [mv.out i (.inr (by simp only at hi; omega)), hsm i (by simp only at hi; omega)]
    · have hlt : n < K * 20 + 20 := by have := of_decide_eq_false hc; omega
      have hin := insSort_ok (x := K * 20) (y := n) hcmp hs (by omega) (by omega) (by omega) (fun p q p1 p2 p3 => by rw [hsm p p1, hsm q (by omega)]; exact ha p q p2 (by omega))
      rw [hN] at hin
      refine hin.mono ?_
      rintro _ H2 ⟨l2, s2, so, mv⟩
      have hbd : Bkd D l0 l2 20 n := hb.done (fun i hi => mv.out i (.inl hi)) so (MvI.mv (fun i i1 i2 => ⟨i, i1, i2, hsm i i1⟩) mv) (by omega) (by omega)
      clear hb hsm hin mv so hs
      simp -implicitDefEqProofs only [kz, kk0, kk1, kk2, kk3, ↓two_true, ↓two_false, oS_some, oM_some, mkv, aggAt, Nat.reduceLeDiff, Nat.reduceSub, Nat.reduceMul, implies_true, Nat.reduceEqDiff, reduceIte, Nat.reduceAdd, Nat.reduceBEq, reduceCtorEq, h0, h1, h2, h6, h7, h8]
      refine rW_loop (σ := Nat × List Int) (fun (S, l) tm H' => tm 0 = .slice (some ⟨b, o, none⟩) n 1 ∧ tm 1 = .int .i64 n ∧ tm 2 = .func (.func g) #[] #[cap] ∧ tm 6 = .int .i64 S ∧ 0 < S ∧ S ≤ 2 * n + 20 ∧ SR G b o l0 l H' ∧ Bkd D l0 l S n) (fun s => n - s.1) (20, l2) ?_ ?_
      · simp -implicitDefEqProofs [kk0, kk1, kk2, kk3, rW_block, ↓two_true, ↓two_false, rW_cond, rO_guard, oS_some, oM_some, mkv, aggAt, Nat.reduceLeDiff, Nat.reduceSub, Nat.reduceMul, cond_true, cond_false, Option.bind_some, List.length_append, List.length_cons, List.length_nil, List.append_assoc, List.cons_append, List.nil_append, List.set_cons_zero, List.set_cons_succ, List.size_toArray, List.all_cons, List.all_nil, List.drop_zero, List.drop_succ_cons, List.take_succ_cons, List.take_zero, List.mem_cons, Prod.mk.injEq, List.not_mem_nil, implies_true, List.getElem?_toArray, List.getElem?_cons_zero, List.getElem?_cons_succ, List.getElem?_nil, Option.getD_some, Option.getD_none, Nat.reduceEqDiff, reduceIte, Nat.reduceAdd, List.map_toArray, List.map_cons, List.map_nil, Bool.false_eq_true, Nat.reduceBEq, Option.map_some, Option.map_none, reduceCtorEq, h0, h1, h2, h6]
        exact ⟨s2, hbd⟩
      · rintro ⟨S, l⟩ tm H3 ⟨h0, h1, h2, h6, hS, hS2, hs, hbd⟩
        have w2 : IntKind.i64.wrap (2 * (S : Int)) = ((2 * S : Nat) : Int) := by rw [IntWalk.i64_in _ (by omega)]; omega
        have w3 : IntKind.i64.wrap ((S : Int) * 2) = ((2 * S : Nat) : Int) := by rw [IntWalk.i64_in _ (by omega)]; omega
        simp -implicitDefEqProofs only [kz, kk0, kk1, kk2, kk3, ↓two_true, ↓two_false, oS_some, oM_some, mkv, aggAt, Nat.reduceLeDiff, Nat.reduceSub, Nat.reduceMul, implies_true, Nat.reduceEqDiff, reduceIte, Nat.reduceAdd, Nat.reduceBEq, reduceCtorEq, h0, h1, h2, h6, w2]
        refine two_intro (fun hc => ?_) (fun hc => ?_)
        · have hSn : S < n := by have := of_decide_eq_true hc; omega
          refine rW_loop (σ := Nat × List Int) (fun (K, l') tm H' => tm 0 = .slice (some ⟨b, o, none⟩) n 1 ∧ tm 1 = .int .i64 n ∧ tm 2 = .func (.func g) #[] #[cap] ∧ tm 6 = .int .i64 S ∧ tm 7 = .int .i64 (K * (2 * S) : Nat) ∧ tm 8 = .int .i64 (K * (2 * S) + 2 * S : Nat) ∧ K * (2 * S) ≤ n ∧ SR G b o l0 l' H' ∧ Bks D l0 l' (2 * S) K ∧ ∀ i, K * (2 * S) ≤ i → gx l' i = gx l i) (fun s => n - s.1 * (2 * S)) (0, l) ?_ ?_
          · simp -implicitDefEqProofs [kk0, kk1, kk2, kk3, rW_block, ↓two_true, ↓two_false, rW_cond, rO_guard, oS_some, oM_some, mkv, aggAt, Nat.reduceLeDiff, Nat.reduceSub, Nat.reduceMul, cond_true, cond_false, Option.bind_some, List.length_append, List.length_cons, List.length_nil, List.append_assoc, List.cons_append, List.nil_append, List.set_cons_zero, List.set_cons_succ, List.size_toArray, List.all_cons, List.all_nil, List.drop_zero, List.drop_succ_cons, List.take_succ_cons, List.take_zero, List.mem_cons, Prod.mk.injEq, List.not_mem_nil, implies_true, List.getElem?_toArray, List.getElem?_cons_zero, List.getElem?_cons_succ, List.getElem?_nil, Option.getD_some, Option.getD_none, Nat.reduceEqDiff, reduceIte, Nat.reduceAdd, List.map_toArray, List.map_cons, List.map_nil, Bool.false_eq_true, Nat.reduceBEq, Option.map_some, Option.map_none, reduceCtorEq, h0, h1, h2, h6]
            exact ⟨hs, Bks.zero⟩
          · rintro ⟨K, l'⟩ tm H4 ⟨h0, h1, h2, h6, h7, h8, hK, hs, hb, hsm⟩
            have eK : (K + 1) * (2 * S) = K * (2 * S) + 2 * S := Nat.succ_mul _ _
            have w4 : IntKind.i64.wrap (((K * (2 * S) : Nat) : Int) + S) = ((K * (2 * S) + S : Nat) : Int) := by rw [IntWalk.i64_in _ (by omega)]; omega
            simp -implicitDefEqProofs only [kz, kk0, kk1, kk2, kk3, ↓two_true, ↓two_false, oS_some, oM_some, mkv, aggAt, Nat.reduceLeDiff, Nat.reduceSub, Nat.reduceMul, implies_true, Nat.reduceEqDiff, reduceIte, Nat.reduceAdd, Nat.reduceBEq, reduceCtorEq, h0, h1, h2, h6, h7, h8, w2, w3, w4]
            refine two_intro (fun hc => ?_) (fun hc => ?_)
            · have hle : K * (2 * S) + 2 * S ≤ n := by have := of_decide_eq_true hc; omega
              have w5 : IntKind.i64.wrap (((K * (2 * S) + 2 * S : Nat) : Int) + ((2 * S : Nat) : Int)) = (((K + 1) * (2 * S) + 2 * S : Nat) : Int) := by rw [IntWalk.i64_in _ (by omega)]; omega
              obtain ⟨s1, s2, ah, mi⟩ := hbd.two ha (l := l') (K := K) hsm (b := K * (2 * S) + 2 * S) (by omega) (by omega) hS
              have hin := symMerge_ok hcmp (by omega) n H4 l' (K * (2 * S)) (K * (2 * S) + S) (K * (2 * S) + 2 * S) (by omega) hs (by omega) (by omega) (by omega) s1 s2 ah
              rw [hN] at hin
              refine hin.mono ?_
              rintro _ H5 ⟨l3, s3, so, mv⟩
              simp -implicitDefEqProofs only [kz, kk0, kk1, kk2, kk3, ↓two_true, ↓two_false, oS_some, oM_some, mkv, aggAt, Nat.reduceLeDiff, Nat.reduceSub, Nat.reduceMul, implies_true, Nat.reduceEqDiff, reduceIte, Nat.reduceAdd, Nat.reduceBEq, reduceCtorEq, h0, h1, h2, h6, h7, h8, w2, w5]
              refine ⟨(K + 1, l3), by simp only; omega, by simp only; rw [eK], by simp only, by simp only; omega, s3, hb.step (fun i hi => mv.out i (.inl hi)) so (mi.mv mv), fun i hi => ?_⟩
              rw [mv.out i (.inr (by simp only at hi; omega)), hsm i (by simp only at hi; omega)]
            · have hlt : n < K * (2 * S) + 2 * S := by have := of_decide_eq_false hc; omega
              refine two_intro (fun hd => ?_) (fun hd => ?_)
              · have hm : K * (2 * S) + S < n := by have := of_decide_eq_true hd; omega
                obtain ⟨s1, s2, ah, mi⟩ := hbd.two ha (l := l') (K := K) hsm (b := n) (by omega) hm hS
                have hin := symMerge_ok hcmp (by omega) n H4 l' (K * (2 * S)) (K * (2 * S) + S) n (by omega) hs (by omega) (by omega) (by omega) s1 s2 ah
                rw [hN] at hin
                refine hin.mono ?_
                rintro _ H5 ⟨l3, s3, so, mv⟩
                simp -implicitDefEqProofs only [kz, kk0, kk1, kk2, kk3, ↓two_true, ↓two_false, oS_some, oM_some, mkv, aggAt, Nat.reduceLeDiff, Nat.reduceSub, Nat.reduceMul, implies_true, Nat.reduceEqDiff, reduceIte, Nat.reduceAdd, Nat.reduceBEq, reduceCtorEq, h0, h1, h2, h6, h7, h8, w3]
                exact ⟨(2 * S, l3), by simp only; omega, rfl, by simp only; omega, by simp only; omega, s3, hb.done (fun i hi => mv.out i (.inl hi)) so (mi.mv mv) (by omega) (by omega)⟩
              · have hm : n ≤ K * (2 * S) + S := by have := of_decide_eq_false hd; omega
                obtain ⟨so, mi⟩ := hbd.one (l := l') (K := K) hsm hm
                exact ⟨(2 * S, l'), by simp only; omega, rfl, by simp only; omega, by simp only; omega, hs, hb.done (fun i hi => rfl) so mi (by omega) (by omega)⟩
        · have hSn : n ≤ S := by have := of_decide_eq_false hc; omega
          refine ⟨l, hs, ?_⟩
          rcases Nat.eq_zero_or_pos n with h9 | h9
          · intro i j i1 i2 i3; omega
          · have := (hbd 0 (by omega)).1
            rw [Nat.zero_mul, Nat.zero_add, Nat.min_eq_right hSn] at this
            exact this

set_option maxHeartbeats 4000000 in
theorem sortStable_ok {G H : AH} {b o : Nat} {l0 : List Int} {g : FuncId} {cap : Value} {D : Int → Int} (hcmp : CmpOk Try.prog g cap G b o l0 D) (hn : l0.length ≤ 1048576) (h : SR G b o l0 l0 H) (ha : AscS l0 l0.length) :
    CallsA Try.prog 49 #[.slice (some ⟨b, o, none⟩) l0.length 1, .func (.func g) #[] #[cap]] H fun r H' => ∃ l', SR G b o l0 l' H' ∧ SortS D l' 0 l0.length := by
  refine w49 ?_
  unfold k49
  simp -implicitDefEqProofs only [kz, kk0, kk1, kk2, kk3, ↓two_true, ↓two_false, oS_some, oM_some, mkv, aggAt, Nat.reduceLeDiff, Nat.reduceSub, Nat.reduceMul, implies_true, Nat.reduceEqDiff, reduceIte, Nat.reduceAdd, Nat.reduceBEq, reduceCtorEq, ln24]
  refine (stable_ok hcmp hn h ha).mono ?_
  rintro _ H1 hh
  simp -implicitDefEqProofs only [kz, kk0, kk1, kk2, kk3, ↓two_true, ↓two_false, oS_some, oM_some, mkv, aggAt, Nat.reduceLeDiff, Nat.reduceSub, Nat.reduceMul, implies_true, Nat.reduceEqDiff, reduceIte, Nat.reduceAdd, Nat.reduceBEq, reduceCtorEq, ln24]
  exact hh

theorem isNaN_eq {a : Int} {H : AH} {Φ : Value → AH → Prop} : CallsA Try.prog 76 #[.int .i64 a] H Φ = Φ (.bool false) H := by
  have : CallsA Try.prog 76 #[.int .i64 a] H fun r H' => r = .bool false ∧ H' = H := by
    refine w76 ?_
    unfold k76
    simp -implicitDefEqProofs only [kz, kk0, kk1, kk2, kk3, ↓two_true, ↓two_false, oS_some, oM_some, mkv, aggAt, Nat.reduceLeDiff, Nat.reduceSub, Nat.reduceMul, implies_true, Nat.reduceEqDiff, reduceIte, Nat.reduceAdd, Nat.reduceBEq, reduceCtorEq, bne_self_eq_false]
  exact this.eq0

theorem cmpCompare_eq {a c : Int} {H : AH} {Φ : Value → AH → Prop} : CallsA Try.prog 51 #[.int .i64 a, .int .i64 c] H Φ = Φ (.int .i64 (cmpI a c)) H := by
  have : CallsA Try.prog 51 #[.int .i64 a, .int .i64 c] H fun r H' => r = .int .i64 (cmpI a c) ∧ H' = H := by
    refine w51 ?_
    unfold k51
    simp -implicitDefEqProofs only [kz, kk0, kk1, kk2, kk3, ↓two_true, ↓two_false, oS_some, oM_some, mkv, aggAt, Nat.reduceLeDiff, Nat.reduceSub, Nat.reduceMul, implies_true, Nat.reduceEqDiff, reduceIte, Nat.reduceAdd, Nat.reduceBEq, reduceCtorEq, isNaN_eq]
    unfold cmpI
    refine two_intro (fun h => ?_) (fun h => two_intro (fun h1 => ?_) (fun h1 => ?_))
    · rw [if_pos (of_decide_eq_true h)]
    · rw [if_neg (of_decide_eq_false h), if_pos (of_decide_eq_true h1)]
    · rw [if_neg (of_decide_eq_false h), if_neg (of_decide_eq_false h1)]
  exact this.eq0

theorem grade1_eq {H : AH} {B : Nat} {p d : Value} {dt : List Int} (hB : rd H B = some [p, d]) (hd : IntRow H d dt) (hn : dt.length ≤ 1048576) {x y : Int} (hx : 0 ≤ x ∧ x < dt.length) (hy : 0 ≤ y ∧ y < dt.length) {Φ : Value → AH → Prop} :
    CallsA Try.prog 50 #[.int .i64 x, .int .i64 y, .pointer (some ⟨B, 0, none⟩)] H Φ = Φ (.int .i64 (cmpI (gx dt x.toNat) (gx dt y.toNat))) H := by
  have : CallsA Try.prog 50 #[.int .i64 x, .int .i64 y, .pointer (some ⟨B, 0, none⟩)] H fun r H' => r = .int .i64 (cmpI (gx dt x.toNat) (gx dt y.toNat)) ∧ H' = H := by
    obtain ⟨a, c, rfl, gv⟩ := hd.op
    obtain ⟨b, o, cs, rfl, rfl, hrd, hle, hcell⟩ := gv (by omega)
    have g1 := hcell x.toNat (by omega)
    have g2 := hcell y.toNat (by omega)
    rw [gx_el (by omega)] at g1 g2
    refine w50 ?_
    unfold k50
    simp -implicitDefEqProofs only [kz, kk0, kk1, kk2, kk3, ↓two_true, ↓two_false, oS_some, oM_some, mkv, aggAt, Nat.reduceLeDiff, Nat.reduceSub, Nat.reduceMul, implies_true, Nat.reduceEqDiff, reduceIte, Nat.reduceAdd, Nat.reduceBEq, reduceCtorEq, fa26_1, ix24, ld3, ld24, cmpCompare_eq, hB, hrd, Nat.mul_one, g1, g2]
    exact ⟨hx, hy⟩
  exact this.eq0

theorem insSort_zero {H : AH} {a : Option Addr} {c : Nat} {f : Value} : CallsA Try.prog 103 #[.slice a 0 c, .int .i64 0, .int .i64 0, f] H fun r H' => H' = H := by
  refine w103 ?_
  unfold k103
  have w1 : IntKind.i64.wrap ((0 : Int) + 1) = 1 := by decide
  simp -implicitDefEqProofs only [kz, kk0, kk1, kk2, kk3, ↓two_true, ↓two_false, oS_some, oM_some, mkv, aggAt, Nat.reduceLeDiff, Nat.reduceSub, Nat.reduceMul, implies_true, Nat.reduceEqDiff, reduceIte, Nat.reduceAdd, Nat.reduceBEq, reduceCtorEq, ix24, ld3, st3, w1]
  refine rW_loop (σ := Unit) (fun _ tm H' => tm 8 = .int .i64 1 ∧ tm 2 = .int .i64 0 ∧ H' = H) (fun _ => 0) () ?_ ?_
  · simp -implicitDefEqProofs [kk0, kk1, kk2, kk3, rW_block, ↓two_true, ↓two_false, rW_cond, rO_guard, oS_some, oM_some, mkv, aggAt, Nat.reduceLeDiff, Nat.reduceSub, Nat.reduceMul, cond_true, cond_false, Option.bind_some, List.length_append, List.length_cons, List.length_nil, List.append_assoc, List.cons_append, List.nil_append, List.set_cons_zero, List.set_cons_succ, List.size_toArray, List.all_cons, List.all_nil, List.drop_zero, List.drop_succ_cons, List.take_succ_cons, List.take_zero, List.mem_cons, Prod.mk.injEq, List.not_mem_nil, implies_true, List.getElem?_toArray, List.getElem?_cons_zero, List.getElem?_cons_succ, List.getElem?_nil, Option.getD_some, Option.getD_none, Nat.reduceEqDiff, reduceIte, Nat.reduceAdd, List.map_toArray, List.map_cons, List.map_nil, Bool.false_eq_true, Nat.reduceBEq, Option.map_some, Option.map_none, reduceCtorEq, ix24, ld3, st3]
  · rintro _ tm H1 ⟨h8, h2, rfl⟩
    have d1 : decide ((1 : Int) < 0) = false := by decide
    simp -implicitDefEqProofs only [kz, kk0, kk1, kk2, kk3, ↓two_true, ↓two_false, oS_some, oM_some, mkv, aggAt, Nat.reduceLeDiff, Nat.reduceSub, Nat.reduceMul, implies_true, Nat.reduceEqDiff, reduceIte, Nat.reduceAdd, Nat.reduceBEq, reduceCtorEq, ix24, ld3, st3, h8, h2, d1]
theorem sortStable_zero {H : AH} {a : Option Addr} {c : Nat} {f : Value} : CallsA Try.prog 49 #[.slice a 0 c, f] H fun r H' => H' = H := by
  have key : CallsA Try.prog 75 #[.slice a 0 c, .int .i64 0, f] H fun r H' => H' = H := by
    refine w75 ?_
    unfold k75
    simp -implicitDefEqProofs only [kz, kk0, kk1, kk2, kk3, ↓two_true, ↓two_false, oS_some, oM_some, mkv, aggAt, Nat.reduceLeDiff, Nat.reduceSub, Nat.reduceMul, implies_true, Nat.reduceEqDiff, reduceIte, Nat.reduceAdd, Nat.reduceBEq, reduceCtorEq]
    refine rW_loop (σ := Unit) (fun _ tm H' => tm 0 = .slice a 0 c ∧ tm 1 = .int .i64 0 ∧ tm 2 = f ∧ tm 6 = .int .i64 20 ∧ tm 7 = .int .i64 0 ∧ tm 8 = .int .i64 20 ∧ H' = H) (fun _ => 0) () ?_ ?_
    · simp -implicitDefEqProofs [kk0, kk1, kk2, kk3, rW_block, ↓two_true, ↓two_false, rW_cond, rO_guard, oS_some, oM_some, mkv, aggAt, Nat.reduceLeDiff, Nat.reduceSub, Nat.reduceMul, cond_true, cond_false, Option.bind_some, List.length_append, List.length_cons, List.length_nil, List.append_assoc, List.cons_append, List.nil_append, List.set_cons_zero, List.set_cons_succ, List.size_toArray, List.all_cons, List.all_nil, List.drop_zero, List.drop_succ_cons, List.take_succ_cons, List.take_zero, List.mem_cons, Prod.mk.injEq, List.not_mem_nil, implies_true, List.getElem?_toArray, List.getElem?_cons_zero, List.getElem?_cons_succ, List.getElem?_nil, Option.getD_some, Option.getD_none, Nat.reduceEqDiff, reduceIte, Nat.reduceAdd, List.map_toArray, List.map_cons, List.map_nil, Bool.false_eq_true, Nat.reduceBEq, Option.map_some, Option.map_none, reduceCtorEq]
    · rintro _ tm H1 ⟨h0, h1, h2, h6, h7, h8, rfl⟩
      have d1 : decide ((20 : Int) ≤ 0) = false := by decide
      simp -implicitDefEqProofs only [kz, kk0, kk1, kk2, kk3, ↓two_true, ↓two_false, oS_some, oM_some, mkv, aggAt, Nat.reduceLeDiff, Nat.reduceSub, Nat.reduceMul, implies_true, Nat.reduceEqDiff, reduceIte, Nat.reduceAdd, Nat.reduceBEq, reduceCtorEq, h0, h1, h2, h6, h7, h8, d1]
      refine insSort_zero.mono ?_
      rintro _ H2 rfl
      simp -implicitDefEqProofs only [kz, kk0, kk1, kk2, kk3, ↓two_true, ↓two_false, oS_some, oM_some, mkv, aggAt, Nat.reduceLeDiff, Nat.reduceSub, Nat.reduceMul, implies_true, Nat.reduceEqDiff, reduceIte, Nat.reduceAdd, Nat.reduceBEq, reduceCtorEq, h0, h1, h2, h6, h7, h8]
      refine rW_loop (σ := Unit) (fun _ tm H' => tm 1 = .int .i64 0 ∧ tm 6 = .int .i64 20 ∧ H' = H2) (fun _ => 0) () ?_ ?_
      · simp -implicitDefEqProofs [kk0, kk1, kk2, kk3, rW_block, ↓two_true, ↓two_false, rW_cond, rO_guard, oS_some, oM_some, mkv, aggAt, Nat.reduceLeDiff, Nat.reduceSub, Nat.reduceMul, cond_true, cond_false, Option.bind_some, List.length_append, List.length_cons, List.length_nil, List.append_assoc, List.cons_append, List.nil_append, List.set_cons_zero, List.set_cons_succ, List.size_toArray, List.all_cons, List.all_nil, List.drop_zero, List.drop_succ_cons, List.take_succ_cons, List.take_zero, List.mem_cons, Prod.mk.injEq, List.not_mem_nil, implies_true, List.getElem?_toArray, List.getElem?_cons_zero, List.getElem?_cons_succ, List.getElem?_nil, Option.getD_some, Option.getD_none, Nat.reduceEqDiff, reduceIte, Nat.reduceAdd, List.map_toArray, List.map_cons, List.map_nil, Bool.false_eq_true, Nat.reduceBEq, Option.map_some, Option.map_none, reduceCtorEq, h1, h6]
      · rintro _ tm H3 ⟨h1, h6, rfl⟩
        have d1 : decide ((20 : Int) < 0) = false := by decide
        simp -implicitDefEqProofs only [kz, kk0, kk1, kk2, kk3, ↓two_true, ↓two_false, oS_some, oM_some, mkv, aggAt, Nat.reduceLeDiff, Nat.reduceSub, Nat.reduceMul, implies_true, Nat.reduceEqDiff, reduceIte, Nat.reduceAdd, Nat.reduceBEq, reduceCtorEq, h1, h6, d1]
  refine w49 ?_
  unfold k49
  simp -implicitDefEqProofs only [kz, kk0, kk1, kk2, kk3, ↓two_true, ↓two_false, oS_some, oM_some, mkv, aggAt, Nat.reduceLeDiff, Nat.reduceSub, Nat.reduceMul, implies_true, Nat.reduceEqDiff, reduceIte, Nat.reduceAdd, Nat.reduceBEq, reduceCtorEq, ln24, cast0]
  refine key.mono ?_
  rintro _ H1 rfl
  simp -implicitDefEqProofs only [kz, kk0, kk1, kk2, kk3, ↓two_true, ↓two_false, oS_some, oM_some, mkv, aggAt, Nat.reduceLeDiff, Nat.reduceSub, Nat.reduceMul, implies_true, Nat.reduceEqDiff, reduceIte, Nat.reduceAdd, Nat.reduceBEq, reduceCtorEq, ln24]

theorem LX.sort {H0 H : AH} {L : List Ix} {B0 : Nat} {p d v : Value} {l dt : List Int} (h : LX none H0 H L) (i j : Nat) (hi : L[i]? = some (.own (.row v l))) (hj : L[j]? = some (.own (.box B0 [p, d]))) (hk : IntRow H0 d dt) (hn : l.length ≤ 1048576) (hn2 : dt.length ≤ 1048576)
    (ha : AscS l l.length) (hin : ∀ x ∈ l, 0 ≤ x ∧ x < dt.length) : CallsA Try.prog 49 #[v, .func (.func 50) #[] #[.pointer (some ⟨B0, 0, none⟩)]] H fun r H' =>
      ∃ l', LX none H0 H' (L.set i (.own (.row v l'))) ∧ l'.Perm l ∧ SortS (fun x => gx dt x.toNat) l' 0 l.length := by
  rcases h.own i hi with ⟨rfl, rfl⟩ | ⟨b, o, cs, rfl, h1, h2, h3⟩
  · refine sortStable_zero.mono ?_
    rintro _ H' rfl
    refine ⟨[], ?_, List.Perm.refl _, fun i j i1 i2 i3 => by simp at i3⟩
    have : L.set i (.own (.row (.slice none 0 0) [])) = L := by
      obtain ⟨h4, h5⟩ := List.getElem?_eq_some_iff.1 hi
      rw [← h5, List.set_getElem_self]
    rw [this]; exact h
  · have hdr : IntRow H d dt := hk.ext h.ext
    have hs : SR H b o l l H := by
      refine ⟨rfl, fun _ _ => rfl, List.Perm.refl _, cs, h1, h2, fun k x hx => ?_⟩
      have hk2 := (List.getElem?_eq_some_iff.1 hx).1
      have e : ((cs.drop o).take l.length)[k]? = some (.int .i64 x) := by rw [h3]; simp [ints, hx]
      rwa [List.getElem?_take_of_lt hk2, List.getElem?_drop] at e
    obtain ⟨Bp, hb⟩ := h
    have hij : i ≠ j := fun e => by subst e; rw [hi] at hj; cases hj
    have hB0 : B0 ≠ b := fun e => by
      subst e
      exact hb.dj i j _ _ hij hi hj B0 (by simp [Ix.bs, It.bs, blkOf]) (by simp [Ix.bs, It.bs])
    have hdb : ∀ b', blkOf d = some b' → b' ≠ b := fun b' hb' e => by
      subst e
      have h9 := (hb.fr i _ hi b' (by simp [Ix.bs, It.bs, blkOf])).2
      rcases hk with ⟨rfl, _⟩ | ⟨b2, o2, cs2, rfl, hr2, _⟩
      · simp [blkOf] at hb'
      · simp [blkOf] at hb'; subst hb'
        have := rd_lt (H := H0) (b := b2) (by rw [hr2]; rfl)
        omega
    have hbx : H[B0]? = some ⟨[p, d], .own⟩ := hb.ok j _ hj
    have hc : CmpOk Try.prog 50 (.pointer (some ⟨B0, 0, none⟩)) H b o l (fun x => gx dt x.toNat) := ⟨fun l1 H1 s1 x hx y hy Φ => by
      have e1 : Go.Proofs.Ytpclegiocblpmaa.AM.rd H1 B0 = some [p, d] := rd_own (by rw [s1.keep B0 hB0]; exact hbx)
      have e2 : IntRow H1 d dt := hdr.same fun b' o' n' c' e => get_rd (s1.keep b' (hdb b' (by rw [e]; rfl)))
      exact grade1_eq e1 e2 hn2 (hin x hx) (hin y hy)⟩
    refine (sortStable_ok hc hn hs ha).mono ?_
    rintro _ H' ⟨l', s', so⟩
    refine ⟨l', ?_, s'.perm, so⟩
    obtain ⟨cs', g1, g2, g3⟩ := s'.row
    have hl := s'.lenl
    have how : OwnRow H' (.slice (some ⟨b, o, none⟩) l.length 1) l' := by
      rw [← hl]
      refine .inr ⟨b, o, cs', rfl, g1, g2, ?_⟩
      refine List.ext_getElem? fun k => ?_
      rcases Nat.lt_or_ge k l'.length with h8 | h8
      · rw [List.getElem?_take_of_lt h8, List.getElem?_drop, g3 k _ (gx_get h8)]
        simp [ints, gx_get h8]
      · rw [List.getElem?_eq_none (by simp; omega), List.getElem?_eq_none (by simp [ints]; omega)]
    exact LX.push ⟨Bp, hb⟩ i hi how ⟨by rw [s'.len]; exact Nat.le_refl _, fun b' hb' hne => s'.keep b' fun e => by subst e; exact hne rfl, fun b' hb' => .inl hb'⟩

def gD (da : List Int) : Int → Int := fun x => gx da x.toNat
def gradeR (sa da : List Int) : (List Int × List Int) × Int :=
  if arrOk sa da = true then (if sa.length ≠ 1 then (([], []), 4) else (([((grdG (gD da) da.length).length : Int)], grdG (gD da) da.length), 0)) else (([], []), 1)
theorem iota_asc {n : Nat} : AscS (iotaL n) (iotaL n).length := fun i j h1 h2 => by
  rw [iotaL_len] at h2
  have e : ∀ k, k < n → gx (iotaL n) k = k := fun k hk => gx_of (by simp [iotaL, hk])
  rw [e i (by omega), e j h2]; omega
theorem iota_in {n : Nat} {x : Int} (h : x ∈ iotaL n) : 0 ≤ x ∧ x < n := by
  simp [iotaL] at h
  obtain ⟨i, hi, rfl⟩ := h
  omega
/-- One number more is looked at. -/
def putT (D : Int → Int) (x : Int) (s : List Int × Bool) (y : Int) : List Int × Bool := if s.2 = false ∧ D y > D x then (s.1 ++ [x] ++ [y], true) else (s.1 ++ [y], s.2)
def putS (D : Int → Int) (x : Int) (l : List Int) (k : Nat) : List Int × Bool := (l.take k).foldl (putT D x) ([], false)
theorem putS_succ {D : Int → Int} {x : Int} {l : List Int} {k : Nat} (h : k < l.length) : putS D x l (k + 1) = putT D x (putS D x l k) l[k] := by
  unfold putS
  rw [List.take_succ_eq_append_getElem h, List.foldl_append]; rfl
theorem putT_true {D : Int → Int} {x : Int} : ∀ {l acc : List Int}, l.foldl (putT D x) (acc, true) = (acc ++ l, true)
  | [], acc => by simp
  | y :: t, acc => by
    rw [List.foldl_cons, show putT D x (acc, true) y = (acc ++ [y], true) by simp [putT], putT_true]; simp
theorem putT_all {D : Int → Int} {x : Int} : ∀ {l acc : List Int}, (if (l.foldl (putT D x) (acc, false)).2 = true then (l.foldl (putT D x) (acc, false)).1 else (l.foldl (putT D x) (acc, false)).1 ++ [x]) = acc ++ putG D x l
  | [], acc => by simp [putG]
  | y :: t, acc => by
    rw [List.foldl_cons]
    by_cases h : D y > D x
    · rw [show putT D x (acc, false) y = (acc ++ [x] ++ [y], true) by simp [putT, h], putT_true]
      simp [putG, h]
    · rw [show putT D x (acc, false) y = (acc ++ [y], false) by simp [putT, h], putT_all]
      simp [putG, h]
theorem putS_t {D : Int → Int} {x : Int} {l : List Int} (h : (putS D x l l.length).2 = true) : (putS D x l l.length).1 = putG D x l := by
  have := putT_all (D := D) (x := x) (l := l) (acc := [])
  unfold putS at h ⊢
  rw [List.take_length] at h ⊢
  rw [if_pos h] at this
  simpa using this
theorem putS_f {D : Int → Int} {x : Int} {l : List Int} (h : (putS D x l l.length).2 = false) : (putS D x l l.length).1 ++ [x] = putG D x l := by
  have := putT_all (D := D) (x := x) (l := l) (acc := [])
  unfold putS at h ⊢
  rw [List.take_length] at h ⊢
  rw [if_neg (by rw [h]; exact Bool.false_ne_true)] at this
  simpa using this
theorem putS_len {D : Int → Int} {x : Int} {l : List Int} {k : Nat} (h : k ≤ l.length) : (putS D x l k).1.length ≤ 2 * k := by
  induction k with
  | zero => simp [putS]
  | succ k ih =>
    rw [putS_succ (by omega)]
    have := ih (by omega)
    unfold putT
    split <;> simp <;> omega

set_option maxHeartbeats 4000000 in
theorem implGrade_ok {H : AH} {pa qa : Value} {sa da : List Int} (a : AR H pa qa sa da) : CallsA Try.prog 18 #[.agg #[pa, qa]] H fun r H' => Ans1 H H' r (gradeR sa da) := by
  have al := a.l1
  have bl := a.l2
  obtain ⟨za, zc, zb, zd, rfl, rfl⟩ := a.o1
  have q := (LX.nil (H := H))
  refine w18 ?_
  unfold k18
  simp -implicitDefEqProofs only [kz, kk0, kk1, kk2, kk3, ↓two_true, ↓two_false, mkv, aggAt, Nat.reduceLeDiff, Nat.reduceSub, Nat.reduceMul, implies_true, Nat.reduceEqDiff, reduceIte, Nat.reduceAdd, Nat.reduceBEq, reduceCtorEq, al26, ap24_24, bd26, bs24_1, fa26_0, fa26_1, ld24, ld26, ln24, st26]
  refine st_box q fun H1 q1 => ?_
  simp -implicitDefEqProofs only [kz, kk0, kk1, kk2, kk3, ↓two_true, ↓two_false, mkv, aggAt, Nat.reduceLeDiff, Nat.reduceSub, Nat.reduceMul, implies_true, Nat.reduceEqDiff, reduceIte, Nat.reduceAdd, Nat.reduceBEq, reduceCtorEq, al26, ap24_24, bd26, bs24_1, fa26_0, fa26_1, ld24, ld26, ln24, st26, q1.rd 0 rfl]
  refine st_box q1 fun H2 q2 => ?_
  simp -implicitDefEqProofs only [kz, kk0, kk1, kk2, kk3, ↓two_true, ↓two_false, mkv, aggAt, Nat.reduceLeDiff, Nat.reduceSub, Nat.reduceMul, implies_true, Nat.reduceEqDiff, reduceIte, Nat.reduceAdd, Nat.reduceBEq, reduceCtorEq, al26, ap24_24, bd26, bs24_1, fa26_0, fa26_1, ld24, ld26, ln24, st26, q2.rd 0 rfl, q2.rd 1 rfl]
  refine (implOk_ar (a.ext q2.ext)).mono ?_
  rintro _ H3 ⟨rfl, he1⟩
  have q3 := q2.extd he1
  simp -implicitDefEqProofs only [kz, kk0, kk1, kk2, kk3, ↓two_true, ↓two_false, mkv, aggAt, Nat.reduceLeDiff, Nat.reduceSub, Nat.reduceMul, implies_true, Nat.reduceEqDiff, reduceIte, Nat.reduceAdd, Nat.reduceBEq, reduceCtorEq, al26, ap24_24, bd26, bs24_1, fa26_0, fa26_1, ld24, ld26, ln24, st26, q3.rd 0 rfl, q3.rd 1 rfl]
  refine two_intro (fun u1 => ?_) (fun u1 => ?_)
  ·
    have w1 : arrOk sa da = false := by simpa using u1
    try simp -implicitDefEqProofs only [kz, kk0, kk1, kk2, kk3, ↓two_true, ↓two_false, mkv, aggAt, Nat.reduceLeDiff, Nat.reduceSub, Nat.reduceMul, implies_true, Nat.reduceEqDiff, reduceIte, Nat.reduceAdd, Nat.reduceBEq, reduceCtorEq, al26, ap24_24, bd26, bs24_1, fa26_0, fa26_1, ld24, ld26, ln24, st26, q3.rd 0 rfl, q3.rd 1 rfl]
    refine st_set q3 0 rfl fun H4 q4 => ?_
    simp only [List.set_cons_zero, List.set_cons_succ] at q4
    simp -implicitDefEqProofs only [kz, kk0, kk1, kk2, kk3, ↓two_true, ↓two_false, mkv, aggAt, Nat.reduceLeDiff, Nat.reduceSub, Nat.reduceMul, implies_true, Nat.reduceEqDiff, reduceIte, Nat.reduceAdd, Nat.reduceBEq, reduceCtorEq, al26, ap24_24, bd26, bs24_1, fa26_0, fa26_1, ld24, ld26, ln24, st26, q4.rd 0 rfl, q4.rd 1 rfl]
    -- end1
    exact q4.err (by unfold gradeR; rw [if_neg (by rw [w1]; decide)])
  ·
    have v1 : arrOk sa da = true := by simpa using u1
    try simp -implicitDefEqProofs only [kz, kk0, kk1, kk2, kk3, ↓two_true, ↓two_false, mkv, aggAt, Nat.reduceLeDiff, Nat.reduceSub, Nat.reduceMul, implies_true, Nat.reduceEqDiff, reduceIte, Nat.reduceAdd, Nat.reduceBEq, reduceCtorEq, al26, ap24_24, bd26, bs24_1, fa26_0, fa26_1, ld24, ld26, ln24, st26, q3.rd 0 rfl, q3.rd 1 rfl]
    refine two_intro (fun u2 => ?_) (fun u2 => ?_)
    ·
      have v2 : sa.length ≠ 1 := by have h5 : ¬ (sa.length : Int) = 1 := (by simpa using u2); omega
      try simp -implicitDefEqProofs only [kz, kk0, kk1, kk2, kk3, ↓two_true, ↓two_false, mkv, aggAt, Nat.reduceLeDiff, Nat.reduceSub, Nat.reduceMul, implies_true, Nat.reduceEqDiff, reduceIte, Nat.reduceAdd, Nat.reduceBEq, reduceCtorEq, al26, ap24_24, bd26, bs24_1, fa26_0, fa26_1, ld24, ld26, ln24, st26, q3.rd 0 rfl, q3.rd 1 rfl]
      refine st_set q3 0 rfl fun H5 q5 => ?_
      simp only [List.set_cons_zero, List.set_cons_succ] at q5
      simp -implicitDefEqProofs only [kz, kk0, kk1, kk2, kk3, ↓two_true, ↓two_false, mkv, aggAt, Nat.reduceLeDiff, Nat.reduceSub, Nat.reduceMul, implies_true, Nat.reduceEqDiff, reduceIte, Nat.reduceAdd, Nat.reduceBEq, reduceCtorEq, al26, ap24_24, bd26, bs24_1, fa26_0, fa26_1, ld24, ld26, ln24, st26, q5.rd 0 rfl, q5.rd 1 rfl]
      -- end2
      exact q5.err (by unfold gradeR; rw [if_pos v1, if_pos v2])
    ·
      have v2 : sa.length = 1 := by have h5 : (sa.length : Int) = 1 := (by simpa using u2); omega
      try simp -implicitDefEqProofs only [kz, kk0, kk1, kk2, kk3, ↓two_true, ↓two_false, mkv, aggAt, Nat.reduceLeDiff, Nat.reduceSub, Nat.reduceMul, implies_true, Nat.reduceEqDiff, reduceIte, Nat.reduceAdd, Nat.reduceBEq, reduceCtorEq, al26, ap24_24, bd26, bs24_1, fa26_0, fa26_1, ld24, ld26, ln24, st26, q3.rd 0 rfl, q3.rd 1 rfl]
      have q6 := q3.nil0
      refine rW_loopQ (σ := Nat × Value) q6 [1, 2, 3, 19] (fun x tm => tm 20 = .int .i64 x.1 ∧ tm 4 = x.2 ∧ x.1 ≤ da.length) (fun x L => L.set 0 (.own (.row x.2 (iotaL x.1)))) (fun x => da.length - x.1) (0, _) ⟨rfl, by first | rfl | assumption, Nat.zero_le _⟩ rfl ?_
      rintro ⟨i, ov⟩ tm1 H6 ⟨lv1, lv2, lv3, lv4, -⟩ ⟨ki, ko, hi⟩ q7
      simp -implicitDefEqProofs only [kz, kk0, kk1, kk2, kk3, ↓two_true, ↓two_false, mkv, aggAt, Nat.reduceLeDiff, Nat.reduceSub, Nat.reduceMul, implies_true, Nat.reduceEqDiff, reduceIte, Nat.reduceAdd, Nat.reduceBEq, reduceCtorEq, al26, ap24_24, bd26, bs24_1, fa26_0, fa26_1, ld24, ld26, ln24, st26] at lv1 lv2 lv3 lv4
      simp only [List.set_cons_zero, List.set_cons_succ] at q7
      simp only at ki ko hi
      have wi : IntKind.i64.wrap ((i : Int) + 1) = ((i + 1 : Nat) : Int) := IntWalk.i64_in ((i : Int) + 1) (by omega)
      obtain ⟨a1, c1, rfl⟩ := (q7.own 0 rfl).isSlice
      simp -implicitDefEqProofs only [kz, kk0, kk1, kk2, kk3, ↓two_true, ↓two_false, mkv, aggAt, Nat.reduceLeDiff, Nat.reduceSub, Nat.reduceMul, implies_true, Nat.reduceEqDiff, reduceIte, Nat.reduceAdd, Nat.reduceBEq, reduceCtorEq, al26, ap24_24, bd26, bs24_1, fa26_0, fa26_1, ld24, ld26, ln24, st26, lv1, lv2, lv3, lv4, ki, ko, wi, q7.rd 1 rfl, q7.rd 2 rfl]
      refine two_intro (fun u3 => ?_) (fun u3 => ?_)
      ·
        have hi2 : i < da.length := by have h5 := of_decide_eq_true u3; omega
        try simp -implicitDefEqProofs only [kz, kk0, kk1, kk2, kk3, ↓two_true, ↓two_false, mkv, aggAt, Nat.reduceLeDiff, Nat.reduceSub, Nat.reduceMul, implies_true, Nat.reduceEqDiff, reduceIte, Nat.reduceAdd, Nat.reduceBEq, reduceCtorEq, al26, ap24_24, bd26, bs24_1, fa26_0, fa26_1, ld24, ld26, ln24, st26, lv1, lv2, lv3, lv4, ki, ko, wi, q7.rd 1 rfl, q7.rd 2 rfl]
        refine st_lit [(i : Int)] rfl rfl q7 fun H7 q8 => ?_
        simp -implicitDefEqProofs only [kz, kk0, kk1, kk2, kk3, ↓two_true, ↓two_false, mkv, aggAt, Nat.reduceLeDiff, Nat.reduceSub, Nat.reduceMul, implies_true, Nat.reduceEqDiff, reduceIte, Nat.reduceAdd, Nat.reduceBEq, reduceCtorEq, al26, ap24_24, bd26, bs24_1, fa26_0, fa26_1, ld24, ld26, ln24, st26, lv1, lv2, lv3, lv4, ki, ko, wi, q8.rd 2 rfl, q8.rd 3 rfl]
        refine st_app q8 1 rfl (q8.int 0 rfl) (by rw [iotaL_len]; simp; omega) fun a2 c2 H8 q9 => ?_
        simp only [List.set_cons_zero, List.set_cons_succ, List.length_nil, List.length_cons, Nat.zero_add, List.nil_append] at q9 ⊢
        simp -implicitDefEqProofs only [kz, kk0, kk1, kk2, kk3, ↓two_true, ↓two_false, mkv, aggAt, Nat.reduceLeDiff, Nat.reduceSub, Nat.reduceMul, implies_true, Nat.reduceEqDiff, reduceIte, Nat.reduceAdd, Nat.reduceBEq, reduceCtorEq, al26, ap24_24, bd26, bs24_1, fa26_0, fa26_1, ld24, ld26, ln24, st26, lv1, lv2, lv3, lv4, ki, ko, wi, q9.rd 2 rfl, q9.rd 3 rfl]
        -- back loop1
        refine ⟨(i + 1, _), (by simp only; omega), ⟨rfl, rfl, rfl, rfl, trivial⟩, ⟨by first | rfl | simp, rfl, hi2⟩, ?_⟩
        simp only [List.set_cons_zero, List.set_cons_succ, iotaL_succ]
        exact q9.pick [1, 2, 3] _ rfl (by decide)
      ·
        have hil : i = da.length := Nat.le_antisymm hi (by have h5 := of_decide_eq_false u3; omega)
        subst hil
        try simp -implicitDefEqProofs only [kz, kk0, kk1, kk2, kk3, ↓two_true, ↓two_false, mkv, aggAt, Nat.reduceLeDiff, Nat.reduceSub, Nat.reduceMul, implies_true, Nat.reduceEqDiff, reduceIte, Nat.reduceAdd, Nat.reduceBEq, reduceCtorEq, al26, ap24_24, bd26, bs24_1, fa26_0, fa26_1, ld24, ld26, ln24, st26, lv1, lv2, lv3, lv4, ki, ko, wi, q7.rd 1 rfl, q7.rd 2 rfl]
        have hll := iotaL_len (n := da.length)
        refine (LX.sort q7 0 2 rfl rfl a.od (by rw [hll]; omega) (by omega) iota_asc (fun x hx => iota_in hx)).mono ?_
        rintro _ H9 ⟨lq, q10, pq, sq⟩
        simp only [List.set_cons_zero, List.set_cons_succ] at q10
        obtain rfl : lq = grdG (gD da) da.length := grdG_eq pq (by rw [hll] at sq; exact sq)
        simp -implicitDefEqProofs only [kz, kk0, kk1, kk2, kk3, ↓two_true, ↓two_false, mkv, aggAt, Nat.reduceLeDiff, Nat.reduceSub, Nat.reduceMul, implies_true, Nat.reduceEqDiff, reduceIte, Nat.reduceAdd, Nat.reduceBEq, reduceCtorEq, al26, ap24_24, bd26, bs24_1, fa26_0, fa26_1, ld24, ld26, ln24, st26, lv1, lv2, lv3, lv4, ki, ko, wi, q10.rd 1 rfl, q10.rd 2 rfl]
        refine (vector_ok (q10.int 0 rfl) (by rw [grdG_len]; omega) ).mono ?_
        rintro _ H10 ⟨p1, p2, rfl, g1⟩
        have q11 := q10.join g1
        simp only [List.map_cons, List.map_nil, List.cons_append, List.nil_append] at q11
        obtain ⟨a3, c3, rfl⟩ := (q11.own 0 rfl).isSlice
        obtain ⟨a4, c4, rfl⟩ := (q11.own 1 rfl).isSlice
        simp -implicitDefEqProofs only [kz, kk0, kk1, kk2, kk3, ↓two_true, ↓two_false, mkv, aggAt, Nat.reduceLeDiff, Nat.reduceSub, Nat.reduceMul, implies_true, Nat.reduceEqDiff, reduceIte, Nat.reduceAdd, Nat.reduceBEq, reduceCtorEq, al26, ap24_24, bd26, bs24_1, fa26_0, fa26_1, ld24, ld26, ln24, st26, lv1, lv2, lv3, lv4, ki, ko, wi, q11.rd 3 rfl, q11.rd 4 rfl]
        refine st_set q11 3 rfl fun H11 q12 => ?_
        simp only [List.set_cons_zero, List.set_cons_succ] at q12
        simp -implicitDefEqProofs only [kz, kk0, kk1, kk2, kk3, ↓two_true, ↓two_false, mkv, aggAt, Nat.reduceLeDiff, Nat.reduceSub, Nat.reduceMul, implies_true, Nat.reduceEqDiff, reduceIte, Nat.reduceAdd, Nat.reduceBEq, reduceCtorEq, al26, ap24_24, bd26, bs24_1, fa26_0, fa26_1, ld24, ld26, ln24, st26, lv1, lv2, lv3, lv4, ki, ko, wi, q12.rd 3 rfl, q12.rd 4 rfl]
        -- end3
        exact q12.ans 0 1 (by decide) rfl rfl (by unfold gradeR; rw [if_pos v1, if_neg (fun h => h v2)])

set_option maxHeartbeats 4000000 in
theorem specGrade_ok {H : AH} {pa qa : Value} {sa da : List Int} (a : AR H pa qa sa da) : CallsA Try.prog 20 #[.agg #[pa, qa]] H fun r H' => Ans1 H H' r (gradeR sa da) := by
  have al := a.l1
  have bl := a.l2
  obtain ⟨za, zc, zb, zd, rfl, rfl⟩ := a.o1
  have q := (LX.nil (H := H))
  refine w20 ?_
  unfold k20
  simp -implicitDefEqProofs only [kz, kk0, kk1, kk2, kk3, ↓two_true, ↓two_false, mkv, aggAt, Nat.reduceLeDiff, Nat.reduceSub, Nat.reduceMul, implies_true, Nat.reduceEqDiff, reduceIte, Nat.reduceAdd, Nat.reduceBEq, reduceCtorEq, al26, ap24_24, bd26, bs24_0, bs24_1, fa26_0, fa26_1, ix24, ld3, ld24, ld26, ln24, st26]
  refine st_box q fun H1 q1 => ?_
  simp -implicitDefEqProofs only [kz, kk0, kk1, kk2, kk3, ↓two_true, ↓two_false, mkv, aggAt, Nat.reduceLeDiff, Nat.reduceSub, Nat.reduceMul, implies_true, Nat.reduceEqDiff, reduceIte, Nat.reduceAdd, Nat.reduceBEq, reduceCtorEq, al26, ap24_24, bd26, bs24_0, bs24_1, fa26_0, fa26_1, ix24, ld3, ld24, ld26, ln24, st26, q1.rd 0 rfl]
  refine st_box q1 fun H2 q2 => ?_
  simp -implicitDefEqProofs only [kz, kk0, kk1, kk2, kk3, ↓two_true, ↓two_false, mkv, aggAt, Nat.reduceLeDiff, Nat.reduceSub, Nat.reduceMul, implies_true, Nat.reduceEqDiff, reduceIte, Nat.reduceAdd, Nat.reduceBEq, reduceCtorEq, al26, ap24_24, bd26, bs24_0, bs24_1, fa26_0, fa26_1, ix24, ld3, ld24, ld26, ln24, st26, q2.rd 0 rfl, q2.rd 1 rfl]
  refine (specOk_ar (a.ext q2.ext)).mono ?_
  rintro _ H3 ⟨rfl, he1⟩
  have q3 := q2.extd he1
  simp -implicitDefEqProofs only [kz, kk0, kk1, kk2, kk3, ↓two_true, ↓two_false, mkv, aggAt, Nat.reduceLeDiff, Nat.reduceSub, Nat.reduceMul, implies_true, Nat.reduceEqDiff, reduceIte, Nat.reduceAdd, Nat.reduceBEq, reduceCtorEq, al26, ap24_24, bd26, bs24_0, bs24_1, fa26_0, fa26_1, ix24, ld3, ld24, ld26, ln24, st26, q3.rd 0 rfl, q3.rd 1 rfl]
  refine two_intro (fun u1 => ?_) (fun u1 => ?_)
  ·
    have w1 : arrOk sa da = false := by simpa using u1
    try simp -implicitDefEqProofs only [kz, kk0, kk1, kk2, kk3, ↓two_true, ↓two_false, mkv, aggAt, Nat.reduceLeDiff, Nat.reduceSub, Nat.reduceMul, implies_true, Nat.reduceEqDiff, reduceIte, Nat.reduceAdd, Nat.reduceBEq, reduceCtorEq, al26, ap24_24, bd26, bs24_0, bs24_1, fa26_0, fa26_1, ix24, ld3, ld24, ld26, ln24, st26, q3.rd 0 rfl, q3.rd 1 rfl]
    refine st_set q3 0 rfl fun H4 q4 => ?_
    simp only [List.set_cons_zero, List.set_cons_succ] at q4
    simp -implicitDefEqProofs only [kz, kk0, kk1, kk2, kk3, ↓two_true, ↓two_false, mkv, aggAt, Nat.reduceLeDiff, Nat.reduceSub, Nat.reduceMul, implies_true, Nat.reduceEqDiff, reduceIte, Nat.reduceAdd, Nat.reduceBEq, reduceCtorEq, al26, ap24_24, bd26, bs24_0, bs24_1, fa26_0, fa26_1, ix24, ld3, ld24, ld26, ln24, st26, q4.rd 0 rfl, q4.rd 1 rfl]
    -- end1
    exact q4.err (by unfold gradeR; rw [if_neg (by rw [w1]; decide)])
  ·
    have v1 : arrOk sa da = true := by simpa using u1
    try simp -implicitDefEqProofs only [kz, kk0, kk1, kk2, kk3, ↓two_true, ↓two_false, mkv, aggAt, Nat.reduceLeDiff, Nat.reduceSub, Nat.reduceMul, implies_true, Nat.reduceEqDiff, reduceIte, Nat.reduceAdd, Nat.reduceBEq, reduceCtorEq, al26, ap24_24, bd26, bs24_0, bs24_1, fa26_0, fa26_1, ix24, ld3, ld24, ld26, ln24, st26, q3.rd 0 rfl, q3.rd 1 rfl]
    refine two_intro (fun u2 => ?_) (fun u2 => ?_)
    ·
      have v2 : sa.length ≠ 1 := by have h5 : ¬ (sa.length : Int) = 1 := (by simpa using u2); omega
      try simp -implicitDefEqProofs only [kz, kk0, kk1, kk2, kk3, ↓two_true, ↓two_false, mkv, aggAt, Nat.reduceLeDiff, Nat.reduceSub, Nat.reduceMul, implies_true, Nat.reduceEqDiff, reduceIte, Nat.reduceAdd, Nat.reduceBEq, reduceCtorEq, al26, ap24_24, bd26, bs24_0, bs24_1, fa26_0, fa26_1, ix24, ld3, ld24, ld26, ln24, st26, q3.rd 0 rfl, q3.rd 1 rfl]
      refine st_set q3 0 rfl fun H5 q5 => ?_
      simp only [List.set_cons_zero, List.set_cons_succ] at q5
      simp -implicitDefEqProofs only [kz, kk0, kk1, kk2, kk3, ↓two_true, ↓two_false, mkv, aggAt, Nat.reduceLeDiff, Nat.reduceSub, Nat.reduceMul, implies_true, Nat.reduceEqDiff, reduceIte, Nat.reduceAdd, Nat.reduceBEq, reduceCtorEq, al26, ap24_24, bd26, bs24_0, bs24_1, fa26_0, fa26_1, ix24, ld3, ld24, ld26, ln24, st26, q5.rd 0 rfl, q5.rd 1 rfl]
      -- end2
      exact q5.err (by unfold gradeR; rw [if_pos v1, if_pos v2])
    ·
      have v2 : sa.length = 1 := by have h5 : (sa.length : Int) = 1 := (by simpa using u2); omega
      try simp -implicitDefEqProofs only [kz, kk0, kk1, kk2, kk3, ↓two_true, ↓two_false, mkv, aggAt, Nat.reduceLeDiff, Nat.reduceSub, Nat.reduceMul, implies_true, Nat.reduceEqDiff, reduceIte, Nat.reduceAdd, Nat.reduceBEq, reduceCtorEq, al26, ap24_24, bd26, bs24_0, bs24_1, fa26_0, fa26_1, ix24, ld3, ld24, ld26, ln24, st26, q3.rd 0 rfl, q3.rd 1 rfl]
      refine st_lit [] rfl rfl q3 fun H6 q6 => ?_
      simp -implicitDefEqProofs only [kz, kk0, kk1, kk2, kk3, ↓two_true, ↓two_false, mkv, aggAt, Nat.reduceLeDiff, Nat.reduceSub, Nat.reduceMul, implies_true, Nat.reduceEqDiff, reduceIte, Nat.reduceAdd, Nat.reduceBEq, reduceCtorEq, al26, ap24_24, bd26, bs24_0, bs24_1, fa26_0, fa26_1, ix24, ld3, ld24, ld26, ln24, st26, q6.rd 1 rfl, q6.rd 2 rfl]
      refine rW_loopQ (σ := Nat × Value) q6 [1, 2, 3] (fun x tm => tm 5 = .int .i64 x.1 ∧ tm 4 = x.2 ∧ x.1 ≤ da.length) (fun x L => L.set 0 (.own (.row x.2 (grdG (gD da) x.1)))) (fun x => da.length - x.1) (0, _) ⟨rfl, by first | rfl | assumption, Nat.zero_le _⟩ rfl ?_
      rintro ⟨i, ov⟩ tm1 H7 ⟨lv1, lv2, lv3, -⟩ ⟨ki, ko, hi⟩ q7
      simp -implicitDefEqProofs only [kz, kk0, kk1, kk2, kk3, ↓two_true, ↓two_false, mkv, aggAt, Nat.reduceLeDiff, Nat.reduceSub, Nat.reduceMul, implies_true, Nat.reduceEqDiff, reduceIte, Nat.reduceAdd, Nat.reduceBEq, reduceCtorEq, al26, ap24_24, bd26, bs24_0, bs24_1, fa26_0, fa26_1, ix24, ld3, ld24, ld26, ln24, st26] at lv1 lv2 lv3
      simp only [List.set_cons_zero, List.set_cons_succ] at q7
      simp only at ki ko hi
      have wi : IntKind.i64.wrap ((i : Int) + 1) = ((i + 1 : Nat) : Int) := IntWalk.i64_in ((i : Int) + 1) (by omega)
      obtain ⟨a1, c1, rfl⟩ := (q7.own 0 rfl).isSlice
      simp -implicitDefEqProofs only [kz, kk0, kk1, kk2, kk3, ↓two_true, ↓two_false, mkv, aggAt, Nat.reduceLeDiff, Nat.reduceSub, Nat.reduceMul, implies_true, Nat.reduceEqDiff, reduceIte, Nat.reduceAdd, Nat.reduceBEq, reduceCtorEq, al26, ap24_24, bd26, bs24_0, bs24_1, fa26_0, fa26_1, ix24, ld3, ld24, ld26, ln24, st26, lv1, lv2, lv3, ki, ko, wi, q7.rd 1 rfl, q7.rd 2 rfl]
      refine two_intro (fun u3 => ?_) (fun u3 => ?_)
      ·
        have hi2 : i < da.length := by have h5 := of_decide_eq_true u3; omega
        try simp -implicitDefEqProofs only [kz, kk0, kk1, kk2, kk3, ↓two_true, ↓two_false, mkv, aggAt, Nat.reduceLeDiff, Nat.reduceSub, Nat.reduceMul, implies_true, Nat.reduceEqDiff, reduceIte, Nat.reduceAdd, Nat.reduceBEq, reduceCtorEq, al26, ap24_24, bd26, bs24_0, bs24_1, fa26_0, fa26_1, ix24, ld3, ld24, ld26, ln24, st26, lv1, lv2, lv3, ki, ko, wi, q7.rd 1 rfl, q7.rd 2 rfl]
        refine st_lit [] rfl rfl q7 fun H8 q8 => ?_
        simp -implicitDefEqProofs only [kz, kk0, kk1, kk2, kk3, ↓two_true, ↓two_false, mkv, aggAt, Nat.reduceLeDiff, Nat.reduceSub, Nat.reduceMul, implies_true, Nat.reduceEqDiff, reduceIte, Nat.reduceAdd, Nat.reduceBEq, reduceCtorEq, al26, ap24_24, bd26, bs24_0, bs24_1, fa26_0, fa26_1, ix24, ld3, ld24, ld26, ln24, st26, lv1, lv2, lv3, ki, ko, wi, q8.rd 2 rfl, q8.rd 3 rfl]
        refine rW_loopQ (σ := Nat × Value) q8 [1, 2, 3, 4, 5] (fun x tm => tm 8 = .int .i64 x.1 ∧ tm 6 = x.2 ∧ tm 7 = .bool (putS (gD da) i (grdG (gD da) i) x.1).2 ∧ x.1 ≤ i) (fun x L => L.set 0 (.own (.row x.2 (putS (gD da) i (grdG (gD da) i) x.1).1))) (fun x => i - x.1) (0, _) ⟨rfl, by first | rfl | assumption, by first | rfl | assumption, Nat.zero_le _⟩ rfl ?_
        rintro ⟨k, nv⟩ tm2 H9 ⟨lv4, lv5, lv6, lv7, lv8, -⟩ ⟨kk, kn, kp, hk⟩ q9
        simp -implicitDefEqProofs only [kz, kk0, kk1, kk2, kk3, ↓two_true, ↓two_false, mkv, aggAt, Nat.reduceLeDiff, Nat.reduceSub, Nat.reduceMul, implies_true, Nat.reduceEqDiff, reduceIte, Nat.reduceAdd, Nat.reduceBEq, reduceCtorEq, al26, ap24_24, bd26, bs24_0, bs24_1, fa26_0, fa26_1, ix24, ld3, ld24, ld26, ln24, st26, lv1, lv2, lv3, ki, ko, wi] at lv4 lv5 lv6 lv7 lv8
        simp only [List.set_cons_zero, List.set_cons_succ] at q9
        simp only at kk kn kp hk
        have wk : IntKind.i64.wrap ((k : Int) + 1) = ((k + 1 : Nat) : Int) := IntWalk.i64_in ((k : Int) + 1) (by omega)
        have hpl := putS_len (D := gD da) (x := (i : Int)) (l := grdG (gD da) i) (k := k) (by rw [grdG_len]; exact hk)
        obtain ⟨a2, c2, rfl⟩ := (q9.own 0 rfl).isSlice
        simp -implicitDefEqProofs only [kz, kk0, kk1, kk2, kk3, ↓two_true, ↓two_false, mkv, aggAt, Nat.reduceLeDiff, Nat.reduceSub, Nat.reduceMul, implies_true, Nat.reduceEqDiff, reduceIte, Nat.reduceAdd, Nat.reduceBEq, reduceCtorEq, al26, ap24_24, bd26, bs24_0, bs24_1, fa26_0, fa26_1, ix24, ld3, ld24, ld26, ln24, st26, ki, ko, wi, lv4, lv5, lv6, lv7, lv8, kk, kn, kp, wk, q9.rd 2 rfl, q9.rd 3 rfl]
        refine two_intro (fun u4 => ?_) (fun u4 => ?_)
        ·
          have hk2 : k < i := by have h5 := of_decide_eq_true u4; rw [grdG_len] at h5; omega
          have hgl : k < (grdG (gD da) i).length := by rw [grdG_len]; exact hk2
          have hmm := grdG_mem (List.getElem_mem hgl)
          obtain ⟨m, hm⟩ : ∃ m : Nat, (grdG (gD da) i)[k] = (m : Int) := ⟨((grdG (gD da) i)[k]).toNat, by omega⟩
          have hm2 : m < da.length := by omega
          have hDy : gD da (grdG (gD da) i)[k] = da[m] := by rw [hm]; show gx da ((m : Int).toNat) = _; rw [Int.toNat_natCast, ← gx_el hm2]
          have hDx : gD da (i : Int) = da[i] := by show gx da ((i : Int).toNat) = _; rw [Int.toNat_natCast, ← gx_el hi2]
          have hps0 := putS_succ (D := gD da) (x := (i : Int)) hgl
          try simp -implicitDefEqProofs only [kz, kk0, kk1, kk2, kk3, ↓two_true, ↓two_false, mkv, aggAt, Nat.reduceLeDiff, Nat.reduceSub, Nat.reduceMul, implies_true, Nat.reduceEqDiff, reduceIte, Nat.reduceAdd, Nat.reduceBEq, reduceCtorEq, al26, ap24_24, bd26, bs24_0, bs24_1, fa26_0, fa26_1, ix24, ld3, ld24, ld26, ln24, st26, hm, ki, ko, wi, lv4, lv5, lv6, lv7, lv8, kk, kn, kp, wk, q9.rd 2 rfl, q9.rd 3 rfl]
          refine two_intro (fun u5 => ?_) (fun u5 => ?_)
          ·
            have pf : (putS (gD da) (i : Int) (grdG (gD da) i) k).2 = false := by simpa using u5
            obtain ⟨b1, o1, cs1, ei1, fr1, fc1⟩ := ixI (q9.int 1 rfl) (i := k) hgl
            obtain ⟨b2, o2, cs2, ei2, fr2, fc2⟩ := ixI (a.od.ext q9.ext) (i := m) hm2
            obtain ⟨b3, o3, cs3, ei3, fr3, fc3⟩ := ixI (a.od.ext q9.ext) (i := i) hi2
            try simp -implicitDefEqProofs only [kz, kk0, kk1, kk2, kk3, ↓two_true, ↓two_false, mkv, aggAt, Nat.reduceLeDiff, Nat.reduceSub, Nat.reduceMul, implies_true, Nat.reduceEqDiff, reduceIte, Nat.reduceAdd, Nat.reduceBEq, reduceCtorEq, al26, ap24_24, bd26, bs24_0, bs24_1, fa26_0, fa26_1, ix24, ld3, ld24, ld26, ln24, st26, hm, ei1, fr1, fc1, ei2, fr2, fc2, ei3, fr3, fc3, ki, ko, wi, lv4, lv5, lv6, lv7, lv8, kk, kn, kp, wk, q9.rd 2 rfl, q9.rd 3 rfl]
            refine two_intro (fun u6 => ?_) (fun u6 => ?_)
            ·
              have hps : putS (gD da) (i : Int) (grdG (gD da) i) (k + 1) = ((putS (gD da) (i : Int) (grdG (gD da) i) k).1 ++ [(i : Int)] ++ [(m : Int)], true) := by rw [hps0, ← hm]; exact if_pos ⟨pf, by rw [hDy, hDx]; exact of_decide_eq_true u6⟩
              try simp -implicitDefEqProofs only [kz, kk0, kk1, kk2, kk3, ↓two_true, ↓two_false, mkv, aggAt, Nat.reduceLeDiff, Nat.reduceSub, Nat.reduceMul, implies_true, Nat.reduceEqDiff, reduceIte, Nat.reduceAdd, Nat.reduceBEq, reduceCtorEq, al26, ap24_24, bd26, bs24_0, bs24_1, fa26_0, fa26_1, ix24, ld3, ld24, ld26, ln24, st26, hm, ei1, fr1, fc1, ei2, fr2, fc2, ei3, fr3, fc3, ki, ko, wi, lv4, lv5, lv6, lv7, lv8, kk, kn, kp, wk, q9.rd 2 rfl, q9.rd 3 rfl]
              refine st_lit [(i : Int)] rfl rfl q9 fun H10 q10 => ?_
              simp -implicitDefEqProofs only [kz, kk0, kk1, kk2, kk3, ↓two_true, ↓two_false, mkv, aggAt, Nat.reduceLeDiff, Nat.reduceSub, Nat.reduceMul, implies_true, Nat.reduceEqDiff, reduceIte, Nat.reduceAdd, Nat.reduceBEq, reduceCtorEq, al26, ap24_24, bd26, bs24_0, bs24_1, fa26_0, fa26_1, ix24, ld3, ld24, ld26, ln24, st26, hm, ki, ko, wi, lv4, lv5, lv6, lv7, lv8, kk, kn, kp, wk, q10.rd 3 rfl, q10.rd 4 rfl]
              refine st_app q10 1 rfl (q10.int 0 rfl) (by (try simp only [List.length_cons, List.length_nil, List.length_append, List.length_replicate, List.length_map, List.length_take, List.length_drop]); omega) fun a3 c3 H11 q11 => ?_
              simp only [List.set_cons_zero, List.set_cons_succ, List.length_nil, List.length_cons, Nat.zero_add, List.nil_append] at q11 ⊢
              obtain ⟨b4, o4, cs4, ei4, fr4, fc4⟩ := ixI (q11.int 2 rfl) (i := k) hgl
              simp -implicitDefEqProofs only [kz, kk0, kk1, kk2, kk3, ↓two_true, ↓two_false, mkv, aggAt, Nat.reduceLeDiff, Nat.reduceSub, Nat.reduceMul, implies_true, Nat.reduceEqDiff, reduceIte, Nat.reduceAdd, Nat.reduceBEq, reduceCtorEq, al26, ap24_24, bd26, bs24_0, bs24_1, fa26_0, fa26_1, ix24, ld3, ld24, ld26, ln24, st26, hm, ei4, fr4, fc4, ki, ko, wi, lv4, lv5, lv6, lv7, lv8, kk, kn, kp, wk, q11.rd 3 rfl, q11.rd 4 rfl]
              refine st_lit [(m : Int)] rfl rfl q11 fun H12 q12 => ?_
              simp -implicitDefEqProofs only [kz, kk0, kk1, kk2, kk3, ↓two_true, ↓two_false, mkv, aggAt, Nat.reduceLeDiff, Nat.reduceSub, Nat.reduceMul, implies_true, Nat.reduceEqDiff, reduceIte, Nat.reduceAdd, Nat.reduceBEq, reduceCtorEq, al26, ap24_24, bd26, bs24_0, bs24_1, fa26_0, fa26_1, ix24, ld3, ld24, ld26, ln24, st26, hm, ki, ko, wi, lv4, lv5, lv6, lv7, lv8, kk, kn, kp, wk, q12.rd 4 rfl, q12.rd 5 rfl]
              refine st_app q12 2 rfl (q12.int 0 rfl) (by (try simp only [List.length_cons, List.length_nil, List.length_append, List.length_replicate, List.length_map, List.length_take, List.length_drop]); omega) fun a4 c4 H13 q13 => ?_
              simp only [List.set_cons_zero, List.set_cons_succ, List.length_nil, List.length_cons, Nat.zero_add, List.nil_append] at q13 ⊢
              simp -implicitDefEqProofs only [kz, kk0, kk1, kk2, kk3, ↓two_true, ↓two_false, mkv, aggAt, Nat.reduceLeDiff, Nat.reduceSub, Nat.reduceMul, implies_true, Nat.reduceEqDiff, reduceIte, Nat.reduceAdd, Nat.reduceBEq, reduceCtorEq, al26, ap24_24, bd26, bs24_0, bs24_1, fa26_0, fa26_1, ix24, ld3, ld24, ld26, ln24, st26, hm, ki, ko, wi, lv4, lv5, lv6, lv7, lv8, kk, kn, kp, wk, q13.rd 4 rfl, q13.rd 5 rfl]
              -- back loop2
              refine ⟨(k + 1, _), (by simp only; omega), ⟨rfl, rfl, rfl, rfl, rfl, trivial⟩, ⟨by first | rfl | simp, rfl, by simp only; rw [hps], hk2⟩, ?_⟩
              simp only [List.set_cons_zero, List.set_cons_succ]
              rw [hps]
              try simp only [List.length_append, List.length_cons, List.length_nil, Nat.zero_add] at q13 ⊢
              exact q13.pick [2, 3, 4, 5] _ rfl (by decide)
            ·
              have hps : putS (gD da) (i : Int) (grdG (gD da) i) (k + 1) = ((putS (gD da) (i : Int) (grdG (gD da) i) k).1 ++ [(m : Int)], (putS (gD da) (i : Int) (grdG (gD da) i) k).2) := by rw [hps0, ← hm]; exact if_neg (fun h => by rw [hDy, hDx] at h; exact of_decide_eq_false u6 h.2)
              obtain ⟨b5, o5, cs5, ei5, fr5, fc5⟩ := ixI (q9.int 1 rfl) (i := k) hgl
              try simp -implicitDefEqProofs only [kz, kk0, kk1, kk2, kk3, ↓two_true, ↓two_false, mkv, aggAt, Nat.reduceLeDiff, Nat.reduceSub, Nat.reduceMul, implies_true, Nat.reduceEqDiff, reduceIte, Nat.reduceAdd, Nat.reduceBEq, reduceCtorEq, al26, ap24_24, bd26, bs24_0, bs24_1, fa26_0, fa26_1, ix24, ld3, ld24, ld26, ln24, st26, hm, ei1, fr1, fc1, ei2, fr2, fc2, ei3, fr3, fc3, ei5, fr5, fc5, ki, ko, wi, lv4, lv5, lv6, lv7, lv8, kk, kn, kp, wk, q9.rd 2 rfl, q9.rd 3 rfl]
              refine st_lit [(m : Int)] rfl rfl q9 fun H14 q14 => ?_
              simp -implicitDefEqProofs only [kz, kk0, kk1, kk2, kk3, ↓two_true, ↓two_false, mkv, aggAt, Nat.reduceLeDiff, Nat.reduceSub, Nat.reduceMul, implies_true, Nat.reduceEqDiff, reduceIte, Nat.reduceAdd, Nat.reduceBEq, reduceCtorEq, al26, ap24_24, bd26, bs24_0, bs24_1, fa26_0, fa26_1, ix24, ld3, ld24, ld26, ln24, st26, hm, ki, ko, wi, lv4, lv5, lv6, lv7, lv8, kk, kn, kp, wk, q14.rd 3 rfl, q14.rd 4 rfl]
              refine st_app q14 1 rfl (q14.int 0 rfl) (by (try simp only [List.length_cons, List.length_nil, List.length_append, List.length_replicate, List.length_map, List.length_take, List.length_drop]); omega) fun a5 c5 H15 q15 => ?_
              simp only [List.set_cons_zero, List.set_cons_succ, List.length_nil, List.length_cons, Nat.zero_add, List.nil_append] at q15 ⊢
              simp -implicitDefEqProofs only [kz, kk0, kk1, kk2, kk3, ↓two_true, ↓two_false, mkv, aggAt, Nat.reduceLeDiff, Nat.reduceSub, Nat.reduceMul, implies_true, Nat.reduceEqDiff, reduceIte, Nat.reduceAdd, Nat.reduceBEq, reduceCtorEq, al26, ap24_24, bd26, bs24_0, bs24_1, fa26_0, fa26_1, ix24, ld3, ld24, ld26, ln24, st26, hm, ki, ko, wi, lv4, lv5, lv6, lv7, lv8, kk, kn, kp, wk, q15.rd 3 rfl, q15.rd 4 rfl]
              -- back loop2
              refine ⟨(k + 1, _), (by simp only; omega), ⟨rfl, rfl, rfl, rfl, rfl, trivial⟩, ⟨by first | rfl | simp, rfl, by simp only; rw [hps], hk2⟩, ?_⟩
              simp only [List.set_cons_zero, List.set_cons_succ]
              rw [hps]
              try simp only [List.length_append, List.length_cons, List.length_nil, Nat.zero_add] at q15 ⊢
              exact q15.pick [1, 2, 3, 4] _ rfl (by decide)
          ·
            have pt : (putS (gD da) (i : Int) (grdG (gD da) i) k).2 = true := by simpa using u5
            have hps : putS (gD da) (i : Int) (grdG (gD da) i) (k + 1) = ((putS (gD da) (i : Int) (grdG (gD da) i) k).1 ++ [(m : Int)], (putS (gD da) (i : Int) (grdG (gD da) i) k).2) := by rw [hps0, ← hm]; exact if_neg (fun h => by rw [pt] at h; exact absurd h.1 (by decide))
            try simp -implicitDefEqProofs only [kz, kk0, kk1, kk2, kk3, ↓two_true, ↓two_false, mkv, aggAt, Nat.reduceLeDiff, Nat.reduceSub, Nat.reduceMul, implies_true, Nat.reduceEqDiff, reduceIte, Nat.reduceAdd, Nat.reduceBEq, reduceCtorEq, al26, ap24_24, bd26, bs24_0, bs24_1, fa26_0, fa26_1, ix24, ld3, ld24, ld26, ln24, st26, hm, ki, ko, wi, lv4, lv5, lv6, lv7, lv8, kk, kn, kp, wk, q9.rd 2 rfl, q9.rd 3 rfl]
            obtain ⟨b6, o6, cs6, ei6, fr6, fc6⟩ := ixI (q9.int 1 rfl) (i := k) hgl
            try simp -implicitDefEqProofs only [kz, kk0, kk1, kk2, kk3, ↓two_true, ↓two_false, mkv, aggAt, Nat.reduceLeDiff, Nat.reduceSub, Nat.reduceMul, implies_true, Nat.reduceEqDiff, reduceIte, Nat.reduceAdd, Nat.reduceBEq, reduceCtorEq, al26, ap24_24, bd26, bs24_0, bs24_1, fa26_0, fa26_1, ix24, ld3, ld24, ld26, ln24, st26, hm, ei6, fr6, fc6, ki, ko, wi, lv4, lv5, lv6, lv7, lv8, kk, kn, kp, wk, q9.rd 2 rfl, q9.rd 3 rfl]
            refine st_lit [(m : Int)] rfl rfl q9 fun H16 q16 => ?_
            simp -implicitDefEqProofs only [kz, kk0, kk1, kk2, kk3, ↓two_true, ↓two_false, mkv, aggAt, Nat.reduceLeDiff, Nat.reduceSub, Nat.reduceMul, implies_true, Nat.reduceEqDiff, reduceIte, Nat.reduceAdd, Nat.reduceBEq, reduceCtorEq, al26, ap24_24, bd26, bs24_0, bs24_1, fa26_0, fa26_1, ix24, ld3, ld24, ld26, ln24, st26, hm, ki, ko, wi, lv4, lv5, lv6, lv7, lv8, kk, kn, kp, wk, q16.rd 3 rfl, q16.rd 4 rfl]
            refine st_app q16 1 rfl (q16.int 0 rfl) (by (try simp only [List.length_cons, List.length_nil, List.length_append, List.length_replicate, List.length_map, List.length_take, List.length_drop]); omega) fun a6 c6 H17 q17 => ?_
            simp only [List.set_cons_zero, List.set_cons_succ, List.length_nil, List.length_cons, Nat.zero_add, List.nil_append] at q17 ⊢
            simp -implicitDefEqProofs only [kz, kk0, kk1, kk2, kk3, ↓two_true, ↓two_false, mkv, aggAt, Nat.reduceLeDiff, Nat.reduceSub, Nat.reduceMul, implies_true, Nat.reduceEqDiff, reduceIte, Nat.reduceAdd, Nat.reduceBEq, reduceCtorEq, al26, ap24_24, bd26, bs24_0, bs24_1, fa26_0, fa26_1, ix24, ld3, ld24, ld26, ln24, st26, hm, ki, ko, wi, lv4, lv5, lv6, lv7, lv8, kk, kn, kp, wk, q17.rd 3 rfl, q17.rd 4 rfl]
            -- back loop2
            refine ⟨(k + 1, _), (by simp only; omega), ⟨rfl, rfl, rfl, rfl, rfl, trivial⟩, ⟨by first | rfl | simp, rfl, by simp only; rw [hps], hk2⟩, ?_⟩
            simp only [List.set_cons_zero, List.set_cons_succ]
            rw [hps]
            try simp only [List.length_append, List.length_cons, List.length_nil, Nat.zero_add] at q17 ⊢
            exact q17.pick [1, 2, 3, 4] _ rfl (by decide)
        ·
          have hkl : k = (grdG (gD da) i).length := by have h5 := of_decide_eq_false u4; rw [grdG_len] at h5 ⊢; omega
          try simp -implicitDefEqProofs only [kz, kk0, kk1, kk2, kk3, ↓two_true, ↓two_false, mkv, aggAt, Nat.reduceLeDiff, Nat.reduceSub, Nat.reduceMul, implies_true, Nat.reduceEqDiff, reduceIte, Nat.reduceAdd, Nat.reduceBEq, reduceCtorEq, al26, ap24_24, bd26, bs24_0, bs24_1, fa26_0, fa26_1, ix24, ld3, ld24, ld26, ln24, st26, ki, ko, wi, lv4, lv5, lv6, lv7, lv8, kk, kn, kp, wk, q9.rd 2 rfl, q9.rd 3 rfl]
          refine two_intro (fun u7 => ?_) (fun u7 => ?_)
          ·
            have e6 : (putS (gD da) (i : Int) (grdG (gD da) i) k).1 ++ [(i : Int)] = grdG (gD da) (i + 1) := by have h5 : (putS (gD da) (i : Int) (grdG (gD da) i) k).2 = false := (by simpa using u7); rw [hkl] at h5 ⊢; exact putS_f h5
            try simp -implicitDefEqProofs only [kz, kk0, kk1, kk2, kk3, ↓two_true, ↓two_false, mkv, aggAt, Nat.reduceLeDiff, Nat.reduceSub, Nat.reduceMul, implies_true, Nat.reduceEqDiff, reduceIte, Nat.reduceAdd, Nat.reduceBEq, reduceCtorEq, al26, ap24_24, bd26, bs24_0, bs24_1, fa26_0, fa26_1, ix24, ld3, ld24, ld26, ln24, st26, ki, ko, wi, lv4, lv5, lv6, lv7, lv8, kk, kn, kp, wk, q9.rd 2 rfl, q9.rd 3 rfl]
            refine st_lit [(i : Int)] rfl rfl q9 fun H18 q18 => ?_
            simp -implicitDefEqProofs only [kz, kk0, kk1, kk2, kk3, ↓two_true, ↓two_false, mkv, aggAt, Nat.reduceLeDiff, Nat.reduceSub, Nat.reduceMul, implies_true, Nat.reduceEqDiff, reduceIte, Nat.reduceAdd, Nat.reduceBEq, reduceCtorEq, al26, ap24_24, bd26, bs24_0, bs24_1, fa26_0, fa26_1, ix24, ld3, ld24, ld26, ln24, st26, ki, ko, wi, lv4, lv5, lv6, lv7, lv8, kk, kn, kp, wk, q18.rd 3 rfl, q18.rd 4 rfl]
            refine st_app q18 1 rfl (q18.int 0 rfl) (by (try simp only [List.length_cons, List.length_nil, List.length_append, List.length_replicate, List.length_map, List.length_take, List.length_drop]); omega) fun a7 c7 H19 q19 => ?_
            simp only [List.set_cons_zero, List.set_cons_succ, List.length_nil, List.length_cons, Nat.zero_add, List.nil_append] at q19 ⊢
            simp -implicitDefEqProofs only [kz, kk0, kk1, kk2, kk3, ↓two_true, ↓two_false, mkv, aggAt, Nat.reduceLeDiff, Nat.reduceSub, Nat.reduceMul, implies_true, Nat.reduceEqDiff, reduceIte, Nat.reduceAdd, Nat.reduceBEq, reduceCtorEq, al26, ap24_24, bd26, bs24_0, bs24_1, fa26_0, fa26_1, ix24, ld3, ld24, ld26, ln24, st26, ki, ko, wi, lv4, lv5, lv6, lv7, lv8, kk, kn, kp, wk, q19.rd 3 rfl, q19.rd 4 rfl]
            -- back loop1
            refine ⟨(i + 1, _), (by simp only; omega), ⟨(lv4.trans lv1.symm), (lv5.trans lv2.symm), (lv6.trans lv3.symm), trivial⟩, ⟨by first | rfl | simp, rfl, hi2⟩, ?_⟩
            simp only [List.set_cons_zero, List.set_cons_succ]
            rw [← e6]
            exact q19.pick [1, 3, 4] _ rfl (by decide)
          ·
            have e6 : (putS (gD da) (i : Int) (grdG (gD da) i) k).1 = grdG (gD da) (i + 1) := by have h5 : (putS (gD da) (i : Int) (grdG (gD da) i) k).2 = true := (by simpa using u7); rw [hkl] at h5 ⊢; exact putS_t h5
            try simp -implicitDefEqProofs only [kz, kk0, kk1, kk2, kk3, ↓two_true, ↓two_false, mkv, aggAt, Nat.reduceLeDiff, Nat.reduceSub, Nat.reduceMul, implies_true, Nat.reduceEqDiff, reduceIte, Nat.reduceAdd, Nat.reduceBEq, reduceCtorEq, al26, ap24_24, bd26, bs24_0, bs24_1, fa26_0, fa26_1, ix24, ld3, ld24, ld26, ln24, st26, ki, ko, wi, lv4, lv5, lv6, lv7, lv8, kk, kn, kp, wk, q9.rd 2 rfl, q9.rd 3 rfl]
            -- back loop1
            refine ⟨(i + 1, _), (by simp only; omega), ⟨(lv4.trans lv1.symm), (lv5.trans lv2.symm), (lv6.trans lv3.symm), trivial⟩, ⟨by first | rfl | simp, rfl, hi2⟩, ?_⟩
            simp only [List.set_cons_zero, List.set_cons_succ]
            rw [← e6]
            exact q9.pick [0, 2, 3] _ rfl (by decide)
      ·
        have hil : i = da.length := Nat.le_antisymm hi (by have h5 := of_decide_eq_false u3; omega)
        subst hil
        try simp -implicitDefEqProofs only [kz, kk0, kk1, kk2, kk3, ↓two_true, ↓two_false, mkv, aggAt, Nat.reduceLeDiff, Nat.reduceSub, Nat.reduceMul, implies_true, Nat.reduceEqDiff, reduceIte, Nat.reduceAdd, Nat.reduceBEq, reduceCtorEq, al26, ap24_24, bd26, bs24_0, bs24_1, fa26_0, fa26_1, ix24, ld3, ld24, ld26, ln24, st26, lv1, lv2, lv3, ki, ko, wi, q7.rd 1 rfl, q7.rd 2 rfl]
        refine (l3VectorA_ok (q7.int 0 rfl) (by rw [grdG_len]; omega) ).mono ?_
        rintro _ H20 ⟨p1, p2, rfl, g1⟩
        have q20 := q7.join g1
        simp only [List.map_cons, List.map_nil, List.cons_append, List.nil_append] at q20
        obtain ⟨a8, c8, rfl⟩ := (q20.own 0 rfl).isSlice
        obtain ⟨a9, c9, rfl⟩ := (q20.own 1 rfl).isSlice
        simp -implicitDefEqProofs only [kz, kk0, kk1, kk2, kk3, ↓two_true, ↓two_false, mkv, aggAt, Nat.reduceLeDiff, Nat.reduceSub, Nat.reduceMul, implies_true, Nat.reduceEqDiff, reduceIte, Nat.reduceAdd, Nat.reduceBEq, reduceCtorEq, al26, ap24_24, bd26, bs24_0, bs24_1, fa26_0, fa26_1, ix24, ld3, ld24, ld26, ln24, st26, lv1, lv2, lv3, ki, ko, wi, q20.rd 3 rfl, q20.rd 4 rfl]
        refine st_set q20 3 rfl fun H21 q21 => ?_
        simp only [List.set_cons_zero, List.set_cons_succ] at q21
        simp -implicitDefEqProofs only [kz, kk0, kk1, kk2, kk3, ↓two_true, ↓two_false, mkv, aggAt, Nat.reduceLeDiff, Nat.reduceSub, Nat.reduceMul, implies_true, Nat.reduceEqDiff, reduceIte, Nat.reduceAdd, Nat.reduceBEq, reduceCtorEq, al26, ap24_24, bd26, bs24_0, bs24_1, fa26_0, fa26_1, ix24, ld3, ld24, ld26, ln24, st26, lv1, lv2, lv3, ki, ko, wi, q21.rd 3 rfl, q21.rd 4 rfl]
        -- end3
        exact q21.ans 0 1 (by decide) rfl rfl (by unfold gradeR; rw [if_pos v1, if_neg (fun h => h v2)])

set_option maxHeartbeats 4000000 in
theorem DrawGrade_ok {H : AH} {v : Value} (hv : BRv H v) : CallsA Try.prog 19 #[v] H fun r H' => ∃ (psa qsa : Value) (sa da : List Int), r = .agg #[psa, qsa] ∧ LD none H H' [.row psa sa, .row qsa da] ∧ sa.length ≤ 1048576 ∧ da.length ≤ 1048576 := by
  obtain ⟨a0, n0, c0, rfl, hn0, hb⟩ := hv
  have hv : BRv H (.slice a0 n0 c0) := ⟨a0, n0, c0, rfl, hn0, hb⟩
  have q := (LX.nil (H := H))
  refine w19 ?_
  unfold k19
  simp -implicitDefEqProofs only [kz, kk0, kk1, kk2, kk3, ↓two_true, ↓two_false, mkv, aggAt, Nat.reduceLeDiff, Nat.reduceSub, Nat.reduceMul, implies_true, Nat.reduceEqDiff, reduceIte, Nat.reduceAdd, Nat.reduceBEq, reduceCtorEq, al26, bs24_1, ld26, st26]
  refine st_box q fun H1 q1 => ?_
  simp -implicitDefEqProofs only [kz, kk0, kk1, kk2, kk3, ↓two_true, ↓two_false, mkv, aggAt, Nat.reduceLeDiff, Nat.reduceSub, Nat.reduceMul, implies_true, Nat.reduceEqDiff, reduceIte, Nat.reduceAdd, Nat.reduceBEq, reduceCtorEq, al26, bs24_1, ld26, st26, q1.rd 0 rfl]
  refine (l1New_ok (BRv.ext hv q1.ext)).mono ?_
  rintro _ H2 ⟨cb, rfl, hc1, hcb1, he1⟩
  have q2 := q1.cursor he1 hc1 hcb1
  have hcb0 := Nat.le_trans q1.len hcb1
  simp -implicitDefEqProofs only [kz, kk0, kk1, kk2, kk3, ↓two_true, ↓two_false, mkv, aggAt, Nat.reduceLeDiff, Nat.reduceSub, Nat.reduceMul, implies_true, Nat.reduceEqDiff, reduceIte, Nat.reduceAdd, Nat.reduceBEq, reduceCtorEq, al26, bs24_1, ld26, st26, q2.rd 0 rfl]
  refine (l1Once_ok q2.cur).mono ?_
  rintro _ H3 ⟨⟨bb1, rfl⟩, hf1⟩
  have q3 := q2.call hf1
  simp -implicitDefEqProofs only [kz, kk0, kk1, kk2, kk3, ↓two_true, ↓two_false, mkv, aggAt, Nat.reduceLeDiff, Nat.reduceSub, Nat.reduceMul, implies_true, Nat.reduceEqDiff, reduceIte, Nat.reduceAdd, Nat.reduceBEq, reduceCtorEq, al26, bs24_1, ld26, st26, q3.rd 0 rfl]
  refine two_intro (fun u1 => ?_) (fun u1 => ?_)
  ·
    try simp -implicitDefEqProofs only [kz, kk0, kk1, kk2, kk3, ↓two_true, ↓two_false, mkv, aggAt, Nat.reduceLeDiff, Nat.reduceSub, Nat.reduceMul, implies_true, Nat.reduceEqDiff, reduceIte, Nat.reduceAdd, Nat.reduceBEq, reduceCtorEq, al26, bs24_1, ld26, st26, q3.rd 0 rfl]
    refine (l3Draw_ok q3.cur).mono ?_
    rintro _ H4 ⟨⟨p1, p2, xs1, xd1, rfl, d1, m1, m2⟩, hf2⟩
    have q4 := q3.da d1 hf2
    obtain ⟨a1, c1, rfl⟩ := (q4.own 0 rfl).isSlice
    obtain ⟨a2, c2, rfl⟩ := (q4.own 1 rfl).isSlice
    simp -implicitDefEqProofs only [kz, kk0, kk1, kk2, kk3, ↓two_true, ↓two_false, mkv, aggAt, Nat.reduceLeDiff, Nat.reduceSub, Nat.reduceMul, implies_true, Nat.reduceEqDiff, reduceIte, Nat.reduceAdd, Nat.reduceBEq, reduceCtorEq, al26, bs24_1, ld26, st26, q4.rd 2 rfl]
    refine st_set q4 2 rfl fun H5 q5 => ?_
    simp only [List.set_cons_zero, List.set_cons_succ] at q5
    simp -implicitDefEqProofs only [kz, kk0, kk1, kk2, kk3, ↓two_true, ↓two_false, mkv, aggAt, Nat.reduceLeDiff, Nat.reduceSub, Nat.reduceMul, implies_true, Nat.reduceEqDiff, reduceIte, Nat.reduceAdd, Nat.reduceBEq, reduceCtorEq, al26, bs24_1, ld26, st26, q5.rd 2 rfl]
    -- end1
    exact ⟨_, _, xs1, xd1, rfl, (q5.out hcb0).give [0, 1] (by decide) _ rfl, (by first | omega | (simp; omega) | simp), (by first | omega | (simp; omega) | simp)⟩
  ·
    try simp -implicitDefEqProofs only [kz, kk0, kk1, kk2, kk3, ↓two_true, ↓two_false, mkv, aggAt, Nat.reduceLeDiff, Nat.reduceSub, Nat.reduceMul, implies_true, Nat.reduceEqDiff, reduceIte, Nat.reduceAdd, Nat.reduceBEq, reduceCtorEq, al26, bs24_1, ld26, st26, q3.rd 0 rfl]
    refine (l1Below_ok q3.cur).mono ?_
    rintro _ H6 ⟨⟨x1, rfl, -, hx1⟩, hf3⟩
    have q6 := q3.call hf3
    simp -implicitDefEqProofs only [kz, kk0, kk1, kk2, kk3, ↓two_true, ↓two_false, mkv, aggAt, Nat.reduceLeDiff, Nat.reduceSub, Nat.reduceMul, implies_true, Nat.reduceEqDiff, reduceIte, Nat.reduceAdd, Nat.reduceBEq, reduceCtorEq, al26, bs24_1, ld26, st26, q6.rd 0 rfl]
    refine st_lit [x1] rfl rfl q6 fun H7 q7 => ?_
    simp -implicitDefEqProofs only [kz, kk0, kk1, kk2, kk3, ↓two_true, ↓two_false, mkv, aggAt, Nat.reduceLeDiff, Nat.reduceSub, Nat.reduceMul, implies_true, Nat.reduceEqDiff, reduceIte, Nat.reduceAdd, Nat.reduceBEq, reduceCtorEq, al26, bs24_1, ld26, st26, q7.rd 1 rfl]
    refine (l3Fill_ok q7.cur (q7.own 0 rfl) (q7.nc 0 rfl) (by first | omega | (simp; omega) | simp)).mono ?_
    rintro _ H8 ⟨⟨p3, p4, xd2, rfl, d2, n1, -⟩, hf4⟩
    have hl_xd2 : xd2.length ≤ 300 := by have := sizeI_le (l := [x1]); omega
    have q8 := q7.da d2 hf4
    obtain ⟨a3, c3, rfl⟩ := (q8.own 0 rfl).isSlice
    obtain ⟨a4, c4, rfl⟩ := (q8.own 1 rfl).isSlice
    simp -implicitDefEqProofs only [kz, kk0, kk1, kk2, kk3, ↓two_true, ↓two_false, mkv, aggAt, Nat.reduceLeDiff, Nat.reduceSub, Nat.reduceMul, implies_true, Nat.reduceEqDiff, reduceIte, Nat.reduceAdd, Nat.reduceBEq, reduceCtorEq, al26, bs24_1, ld26, st26, q8.rd 3 rfl]
    refine st_set q8 3 rfl fun H9 q9 => ?_
    simp only [List.set_cons_zero, List.set_cons_succ] at q9
    simp -implicitDefEqProofs only [kz, kk0, kk1, kk2, kk3, ↓two_true, ↓two_false, mkv, aggAt, Nat.reduceLeDiff, Nat.reduceSub, Nat.reduceMul, implies_true, Nat.reduceEqDiff, reduceIte, Nat.reduceAdd, Nat.reduceBEq, reduceCtorEq, al26, bs24_1, ld26, st26, q9.rd 3 rfl]
    -- end2
    exact ⟨_, _, [x1], xd2, rfl, (q9.out hcb0).give [0, 1] (by decide) _ rfl, (by first | omega | (simp; omega) | simp), (by first | omega | (simp; omega) | simp)⟩

theorem gradeR_err {sa da : List Int} {R : (List Int × List Int) × Int} (hR : gradeR sa da = R) (h : R.2 ≠ 0) : R.1.2 = [] := by
  unfold gradeR at hR
  repeat' split at hR
  all_goals subst hR
  all_goals first | rfl | exact absurd rfl h
theorem vec_shapeG {sa da : List Int} (h : arrOk sa da = true) (h1 : sa.length = 1) : sa = [(da.length : Int)] := by
  match sa, h1 with
  | [x], _ =>
    have h2 := arrOk_size h
    obtain ⟨_, _, e3⟩ := sizeI_ok (l := [x]) (by omega)
    have : x = da.length := by simp [prodI] at e3; omega
    rw [this]
theorem gradeR_val {sa da : List Int} {R : (List Int × List Int) × Int} (hR : gradeR sa da = R) (h : R.2 = 0) : arrOk sa da = true ∧ sa = [(da.length : Int)] ∧ R = (([(da.length : Int)], grdG (gD da) da.length), 0) := by
  unfold gradeR at hR
  split at hR
  · rename_i h1
    split at hR
    · subst hR; exact absurd h (show ¬ ((4 : Int) = 0) by decide)
    · rename_i h2
      exact ⟨h1, vec_shapeG h1 (by omega), by rw [← hR, grdG_len]⟩
  · subst hR; exact absurd h (show ¬ ((1 : Int) = 0) by decide)
theorem flat_single {f : Int → Int} : ∀ {l : List Int}, (l.map fun x => [f x]).flatten = l.map f
  | [] => rfl
  | x :: t => by simp [flat_single (l := t)]
theorem pick_grade {da g : List Int} {n : Nat} (hn : da.length = n) (ha : arrOk [(n : Int)] da = true) (hg : ∀ x ∈ g, 0 ≤ x ∧ x < n) (hl : g.length = n) :
    pickR [(n : Int)] g [(n : Int)] da = (([(n : Int)], g.map (gD da)), 0) := by
  have h3 := (arrOk_size ha).2
  have ag : arrOk [(n : Int)] g = true := by
    unfold arrOk
    simp only [Bool.and_eq_true, beq_iff_eq]
    exact ⟨by rw [hl]; exact (sizeI_one (by omega)).symm, List.all_eq_true.2 fun x hx => numOk_iff.2 (by have := hg x hx; omega)⟩
  have hidx : ∀ x ∈ g, idxP (n : Int) x = x := fun x hx => by unfold idxP; rw [if_neg (by have := hg x hx; omega)]
  unfold pickR
  rw [if_pos (by rw [ag, ha]; rfl), if_neg (by simp), if_pos (List.all_eq_true.2 fun x hx => by rw [List.headD_cons, hidx x hx]; exact inB_true.2 (by have := hg x hx; omega))]
  have hs : ([(n : Int)] ++ [(n : Int)].tail) = [(n : Int)] := rfl
  rw [hs, sizeI_one (by omega), if_neg (by omega)]
  congr 2
  unfold pickD
  rw [List.headD_cons]
  have hr : rowsR [(n : Int)] da = (List.range n).map fun i => (([] : List Int), (da.drop (i * 1)).take 1) := by
    show (List.range ((n : Int)).toNat).map _ = _
    rw [Int.toNat_natCast]; rfl
  rw [hr, List.flatMap_def, List.map_congr_left (g := fun x => [gD da x])]
  · exact flat_single
  · intro x hx
    obtain ⟨h1, h2⟩ := hg x hx
    rw [hidx x hx]
    obtain ⟨m, rfl⟩ : ∃ m : Nat, x = m := ⟨x.toNat, by omega⟩
    have hm : m < n := by omega
    rw [Int.toNat_natCast, List.getElem?_map, List.getElem?_range hm]
    simp only [Option.map_some, Option.getD_some, Nat.mul_one]
    have hmd : m < da.length := by omega
    rw [List.drop_eq_getElem_cons hmd, List.take_succ_cons, List.take_zero, gx_el hmd]
    rfl
/-- Which numbers have been seen. -/
def seenC (g : List Int) (n i : Nat) : List Value := (List.range n).map fun k : Nat => .bool (decide ((k : Int) ∈ g.take i))
theorem seenC_zero {g : List Int} {n : Nat} : List.replicate n (Value.bool false) = seenC g n 0 := by
  unfold seenC
  refine List.ext_getElem (by simp) fun k h1 h2 => by simp
theorem seenC_flat {g : List Int} {n : Nat} : (List.replicate n [Value.bool false]).flatten = seenC g n 0 := by
  rw [← seenC_zero]
  induction n with
  | zero => rfl
  | succ n ih => rw [List.replicate_succ, List.flatten_cons, ih]; simp [List.replicate_succ]
theorem seenC_get {g : List Int} {n i m : Nat} (h : m < n) : (seenC g n i)[m]? = some (.bool (decide ((m : Int) ∈ g.take i))) := by
  simp [seenC, h]
theorem seenC_set {g : List Int} {n i m : Nat} (h : m < n) (hi : i < g.length) (hm : g[i] = (m : Int)) : (seenC g n i).set m (.bool true) = seenC g n (i + 1) := by
  refine List.ext_getElem (by simp [seenC]) fun k h1 h2 => ?_
  simp only [seenC, List.length_map, List.length_range] at h2
  rw [List.getElem_set]
  simp only [seenC, List.getElem_map, List.getElem_range, List.take_succ_eq_append_getElem hi, List.mem_append, List.mem_singleton, hm]
  by_cases e : m = k
  · subst e; simp
  · rw [if_neg e]
    have : ¬ (k : Int) = m := by omega
    simp [this]
theorem pw_fresh {D : Int → Int} {g : List Int} (h : g.Pairwise (slt D)) {i : Nat} (hi : i < g.length) : g[i] ∉ g.take i := by
  intro hm
  obtain ⟨j, hj, e⟩ := List.getElem_of_mem hm
  rw [List.length_take] at hj
  rw [List.getElem_take] at e
  have := List.pairwise_iff_getElem.1 h j i (by omega) hi (by omega)
  rw [e] at this
  exact slt_irr this

end Go.Proofs.Ytpclegiocblpmaa.AM
