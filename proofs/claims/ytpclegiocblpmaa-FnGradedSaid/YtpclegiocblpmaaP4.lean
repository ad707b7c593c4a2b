/- What the functions answer, part 4. -/
import Derived.Test.YtpclegiocblpmaaP3
set_option linter.unusedVariables false
set_option linter.unusedSimpArgs false
set_option linter.defProp false
set_option maxRecDepth 100000
/- What the functions answer, part 4. -/
namespace Go.Proofs.Ytpclegiocblpmaa.AM
open Go Go.Proofs.Ytpclegiocblpmaa Go.Proofs
set_option maxHeartbeats 4000000 in
theorem law5 : LawA Try.prog 5 [22] := by
  intro H vs hro h
  obtain ⟨v, vs, rfl, hv, h2⟩ := h.cons
  obtain rfl := h2.nil
  obtain ⟨a0, n0, c0, rfl, hb⟩ := rpBytes hv Try.underlying22 Try.underlying5 (by kernel_rfl)
  clear hv h2 hro
  have q := (LX.nil (H := H))
  refine w5 ?_
  unfold k5
  simp -implicitDefEqProofs only [kz, kk0, kk1, kk2, kk3, ↓two_true, ↓two_false, mkv, aggAt, Nat.reduceLeDiff, Nat.reduceSub, Nat.reduceMul, implies_true, Nat.reduceEqDiff, reduceIte, Nat.reduceAdd, Nat.reduceBEq, reduceCtorEq, al26, fa26_1, ix24, ix34, ld3, ld4, ld24, ld26, ln24, ms34, st4, st26, big_eq, bne_self_eq_false, beq_self_eq_true, Bool.and_self, cast0]
  refine two_intro (fun u1 => ?_) (fun u1 => ?_)
  ·
    try simp -implicitDefEqProofs only [kz, kk0, kk1, kk2, kk3, ↓two_true, ↓two_false, mkv, aggAt, Nat.reduceLeDiff, Nat.reduceSub, Nat.reduceMul, implies_true, Nat.reduceEqDiff, reduceIte, Nat.reduceAdd, Nat.reduceBEq, reduceCtorEq, al26, fa26_1, ix24, ix34, ld3, ld4, ld24, ld26, ln24, ms34, st4, st26, big_eq, bne_self_eq_false, beq_self_eq_true, Bool.and_self, cast0]
    -- end1
    all_goals trivial
  ·
    have hn0 : n0 ≤ 1048576 := by simp at u1; omega
    try simp -implicitDefEqProofs only [kz, kk0, kk1, kk2, kk3, ↓two_true, ↓two_false, mkv, aggAt, Nat.reduceLeDiff, Nat.reduceSub, Nat.reduceMul, implies_true, Nat.reduceEqDiff, reduceIte, Nat.reduceAdd, Nat.reduceBEq, reduceCtorEq, al26, fa26_1, ix24, ix34, ld3, ld4, ld24, ld26, ln24, ms34, st4, st26, big_eq, bne_self_eq_false, beq_self_eq_true, Bool.and_self, cast0]
    refine (DrawGrade_ok (BRv.ext ⟨a0, n0, c0, rfl, hn0, hb⟩ q.ext)).mono ?_
    rintro _ H1 ⟨p1, p2, sa, da, rfl, g1, lsa, lda⟩
    have q1 := q.join g1
    simp only [List.map_cons, List.map_nil, List.cons_append, List.nil_append] at q1
    obtain ⟨a1, c1, rfl⟩ := (q1.own 0 rfl).isSlice
    obtain ⟨a2, c2, rfl⟩ := (q1.own 1 rfl).isSlice
    simp -implicitDefEqProofs only [kz, kk0, kk1, kk2, kk3, ↓two_true, ↓two_false, mkv, aggAt, Nat.reduceLeDiff, Nat.reduceSub, Nat.reduceMul, implies_true, Nat.reduceEqDiff, reduceIte, Nat.reduceAdd, Nat.reduceBEq, reduceCtorEq, al26, fa26_1, ix24, ix34, ld3, ld4, ld24, ld26, ln24, ms34, st4, st26, big_eq, bne_self_eq_false, beq_self_eq_true, Bool.and_self, cast0]
    refine st_box q1 fun H2 q2 => ?_
    simp -implicitDefEqProofs only [kz, kk0, kk1, kk2, kk3, ↓two_true, ↓two_false, mkv, aggAt, Nat.reduceLeDiff, Nat.reduceSub, Nat.reduceMul, implies_true, Nat.reduceEqDiff, reduceIte, Nat.reduceAdd, Nat.reduceBEq, reduceCtorEq, al26, fa26_1, ix24, ix34, ld3, ld4, ld24, ld26, ln24, ms34, st4, st26, big_eq, bne_self_eq_false, beq_self_eq_true, Bool.and_self, cast0, q2.rd 0 rfl]
    refine st_set q2 0 rfl fun H3 q3 => ?_
    simp only [List.set_cons_zero, List.set_cons_succ] at q3
    simp -implicitDefEqProofs only [kz, kk0, kk1, kk2, kk3, ↓two_true, ↓two_false, mkv, aggAt, Nat.reduceLeDiff, Nat.reduceSub, Nat.reduceMul, implies_true, Nat.reduceEqDiff, reduceIte, Nat.reduceAdd, Nat.reduceBEq, reduceCtorEq, al26, fa26_1, ix24, ix34, ld3, ld4, ld24, ld26, ln24, ms34, st4, st26, big_eq, bne_self_eq_false, beq_self_eq_true, Bool.and_self, cast0, q3.rd 0 rfl]
    refine (implGrade_ok (q3.ar 1 2 rfl rfl (by (try simp only [List.length_cons, List.length_nil, List.length_append, List.length_replicate, List.length_map, List.length_take, List.length_drop]); omega) (by (try simp only [List.length_cons, List.length_nil, List.length_append, List.length_replicate, List.length_map, List.length_take, List.length_drop]); omega))).mono ?_
    rintro _ H4 ⟨p3, p4, rfl, g2⟩
    obtain ⟨R1, hR1⟩ : ∃ R, gradeR sa da = R := ⟨_, rfl⟩
    rw [hR1] at g2 ⊢
    have q4 := q3.join g2
    simp only [List.map_cons, List.map_nil, List.cons_append, List.nil_append] at q4
    obtain ⟨a3, c3, rfl⟩ := (q4.own 0 rfl).isSlice
    obtain ⟨a4, c4, rfl⟩ := (q4.own 1 rfl).isSlice
    simp -implicitDefEqProofs only [kz, kk0, kk1, kk2, kk3, ↓two_true, ↓two_false, mkv, aggAt, Nat.reduceLeDiff, Nat.reduceSub, Nat.reduceMul, implies_true, Nat.reduceEqDiff, reduceIte, Nat.reduceAdd, Nat.reduceBEq, reduceCtorEq, al26, fa26_1, ix24, ix34, ld3, ld4, ld24, ld26, ln24, ms34, st4, st26, big_eq, bne_self_eq_false, beq_self_eq_true, Bool.and_self, cast0, q4.rd 2 rfl]
    refine st_box q4 fun H5 q5 => ?_
    simp -implicitDefEqProofs only [kz, kk0, kk1, kk2, kk3, ↓two_true, ↓two_false, mkv, aggAt, Nat.reduceLeDiff, Nat.reduceSub, Nat.reduceMul, implies_true, Nat.reduceEqDiff, reduceIte, Nat.reduceAdd, Nat.reduceBEq, reduceCtorEq, al26, fa26_1, ix24, ix34, ld3, ld4, ld24, ld26, ln24, ms34, st4, st26, big_eq, bne_self_eq_false, beq_self_eq_true, Bool.and_self, cast0, q5.rd 0 rfl, q5.rd 3 rfl]
    refine st_set q5 0 rfl fun H6 q6 => ?_
    simp only [List.set_cons_zero, List.set_cons_succ] at q6
    simp -implicitDefEqProofs only [kz, kk0, kk1, kk2, kk3, ↓two_true, ↓two_false, mkv, aggAt, Nat.reduceLeDiff, Nat.reduceSub, Nat.reduceMul, implies_true, Nat.reduceEqDiff, reduceIte, Nat.reduceAdd, Nat.reduceBEq, reduceCtorEq, al26, fa26_1, ix24, ix34, ld3, ld4, ld24, ld26, ln24, ms34, st4, st26, big_eq, bne_self_eq_false, beq_self_eq_true, Bool.and_self, cast0, q6.rd 0 rfl, q6.rd 3 rfl]
    refine (specGrade_ok (q6.ar 4 5 rfl rfl (by (try simp only [List.length_cons, List.length_nil, List.length_append, List.length_replicate, List.length_map, List.length_take, List.length_drop]); omega) (by (try simp only [List.length_cons, List.length_nil, List.length_append, List.length_replicate, List.length_map, List.length_take, List.length_drop]); omega))).mono ?_
    rintro _ H7 ⟨p5, p6, rfl, g3⟩
    rw [hR1] at g3 ⊢
    have q7 := q6.join g3
    simp only [List.map_cons, List.map_nil, List.cons_append, List.nil_append] at q7
    obtain ⟨a5, c5, rfl⟩ := (q7.own 0 rfl).isSlice
    obtain ⟨a6, c6, rfl⟩ := (q7.own 1 rfl).isSlice
    simp -implicitDefEqProofs only [kz, kk0, kk1, kk2, kk3, ↓two_true, ↓two_false, mkv, aggAt, Nat.reduceLeDiff, Nat.reduceSub, Nat.reduceMul, implies_true, Nat.reduceEqDiff, reduceIte, Nat.reduceAdd, Nat.reduceBEq, reduceCtorEq, al26, fa26_1, ix24, ix34, ld3, ld4, ld24, ld26, ln24, ms34, st4, st26, big_eq, bne_self_eq_false, beq_self_eq_true, Bool.and_self, cast0, q7.rd 2 rfl, q7.rd 5 rfl]
    refine st_box q7 fun H8 q8 => ?_
    simp -implicitDefEqProofs only [kz, kk0, kk1, kk2, kk3, ↓two_true, ↓two_false, mkv, aggAt, Nat.reduceLeDiff, Nat.reduceSub, Nat.reduceMul, implies_true, Nat.reduceEqDiff, reduceIte, Nat.reduceAdd, Nat.reduceBEq, reduceCtorEq, al26, fa26_1, ix24, ix34, ld3, ld4, ld24, ld26, ln24, ms34, st4, st26, big_eq, bne_self_eq_false, beq_self_eq_true, Bool.and_self, cast0, q8.rd 0 rfl, q8.rd 3 rfl, q8.rd 6 rfl]
    refine st_set q8 0 rfl fun H9 q9 => ?_
    simp only [List.set_cons_zero, List.set_cons_succ] at q9
    simp -implicitDefEqProofs only [kz, kk0, kk1, kk2, kk3, ↓two_true, ↓two_false, mkv, aggAt, Nat.reduceLeDiff, Nat.reduceSub, Nat.reduceMul, implies_true, Nat.reduceEqDiff, reduceIte, Nat.reduceAdd, Nat.reduceBEq, reduceCtorEq, al26, fa26_1, ix24, ix34, ld3, ld4, ld24, ld26, ln24, ms34, st4, st26, big_eq, bne_self_eq_false, beq_self_eq_true, Bool.and_self, cast0, q9.rd 0 rfl, q9.rd 3 rfl, q9.rd 6 rfl]
    refine two_intro (fun u2 => ?_) (fun u2 => ?_)
    ·
      have hR0 : R1.2 ≠ 0 := by simpa using u2
      have hRn := gradeR_err hR1 hR0
      try simp -implicitDefEqProofs only [kz, kk0, kk1, kk2, kk3, ↓two_true, ↓two_false, mkv, aggAt, Nat.reduceLeDiff, Nat.reduceSub, Nat.reduceMul, implies_true, Nat.reduceEqDiff, reduceIte, Nat.reduceAdd, Nat.reduceBEq, reduceCtorEq, al26, fa26_1, ix24, ix34, ld3, ld4, ld24, ld26, ln24, ms34, st4, st26, big_eq, bne_self_eq_false, beq_self_eq_true, Bool.and_self, cast0, q9.rd 0 rfl, q9.rd 3 rfl, q9.rd 6 rfl]
      -- end2
      all_goals first | (rw [hRn]; rfl) | (simp; done) | (simp [hRn]; done) | (simp [hRd]; done)
    ·
      have hR0 : R1.2 = 0 := by simpa using u2
      obtain ⟨va, hsa, hRe⟩ := gradeR_val hR1 hR0
      have hRs : R1.1.1 = [(da.length : Int)] := by rw [hRe]
      have hRd : R1.1.2 = grdG (gD da) da.length := by rw [hRe]
      have hRl : R1.1.1.length ≤ 1048576 := by rw [hRs]; simp
      have hRn : R1.1.2.length = da.length := by rw [hRd, grdG_len]
      have hd3 := (arrOk_size va).2
      have hRf : R1.1.2.length ≤ 1048576 := by omega
      have hgm : ∀ x ∈ R1.1.2, 0 ≤ x ∧ x < da.length := fun x hx => by rw [hRd] at hx; exact grdG_mem hx
      have hpw : R1.1.2.Pairwise (slt (gD da)) := by rw [hRd]; exact grdG_pw
      have hsl : (R1.1.2.map (gD da)).length = da.length := by rw [List.length_map]; exact hRn
      try simp -implicitDefEqProofs only [kz, kk0, kk1, kk2, kk3, ↓two_true, ↓two_false, mkv, aggAt, Nat.reduceLeDiff, Nat.reduceSub, Nat.reduceMul, implies_true, Nat.reduceEqDiff, reduceIte, Nat.reduceAdd, Nat.reduceBEq, reduceCtorEq, al26, fa26_1, ix24, ix34, ld3, ld4, ld24, ld26, ln24, ms34, st4, st26, big_eq, bne_self_eq_false, beq_self_eq_true, Bool.and_self, cast0, q9.rd 0 rfl, q9.rd 3 rfl, q9.rd 6 rfl]
      have hk1 := implPick_ok (q9.ar 4 5 rfl rfl (by (try simp only [List.length_cons, List.length_nil, List.length_append, List.length_replicate, List.length_map, List.length_take, List.length_drop]); omega) (by (try simp only [List.length_cons, List.length_nil, List.length_append, List.length_replicate, List.length_map, List.length_take, List.length_drop]); omega)) (q9.ar 7 8 rfl rfl (by (try simp only [List.length_cons, List.length_nil, List.length_append, List.length_replicate, List.length_map, List.length_take, List.length_drop]); omega) (by (try simp only [List.length_cons, List.length_nil, List.length_append, List.length_replicate, List.length_map, List.length_take, List.length_drop]); omega))
      rw [show pickR R1.1.1 R1.1.2 sa da = (([(da.length : Int)], R1.1.2.map (gD da)), 0) by rw [hRs, hsa]; exact pick_grade rfl (by rw [← hsa]; exact va) hgm hRn] at hk1
      refine hk1.mono ?_
      rintro _ H10 ⟨p7, p8, rfl, g4⟩
      have q10 := q9.join g4
      simp only [List.map_cons, List.map_nil, List.cons_append, List.nil_append] at q10
      obtain ⟨a7, c7, rfl⟩ := (q10.own 0 rfl).isSlice
      obtain ⟨a8, c8, rfl⟩ := (q10.own 1 rfl).isSlice
      simp -implicitDefEqProofs only [kz, kk0, kk1, kk2, kk3, ↓two_true, ↓two_false, mkv, aggAt, Nat.reduceLeDiff, Nat.reduceSub, Nat.reduceMul, implies_true, Nat.reduceEqDiff, reduceIte, Nat.reduceAdd, Nat.reduceBEq, reduceCtorEq, al26, fa26_1, ix24, ix34, ld3, ld4, ld24, ld26, ln24, ms34, st4, st26, big_eq, bne_self_eq_false, beq_self_eq_true, Bool.and_self, cast0, q10.rd 2 rfl, q10.rd 5 rfl, q10.rd 8 rfl]
      refine st_box q10 fun H11 q11 => ?_
      simp -implicitDefEqProofs only [kz, kk0, kk1, kk2, kk3, ↓two_true, ↓two_false, mkv, aggAt, Nat.reduceLeDiff, Nat.reduceSub, Nat.reduceMul, implies_true, Nat.reduceEqDiff, reduceIte, Nat.reduceAdd, Nat.reduceBEq, reduceCtorEq, al26, fa26_1, ix24, ix34, ld3, ld4, ld24, ld26, ln24, ms34, st4, st26, big_eq, bne_self_eq_false, beq_self_eq_true, Bool.and_self, cast0, q11.rd 0 rfl, q11.rd 3 rfl, q11.rd 6 rfl, q11.rd 9 rfl]
      refine st_set q11 0 rfl fun H12 q12 => ?_
      simp only [List.set_cons_zero, List.set_cons_succ] at q12
      simp -implicitDefEqProofs only [kz, kk0, kk1, kk2, kk3, ↓two_true, ↓two_false, mkv, aggAt, Nat.reduceLeDiff, Nat.reduceSub, Nat.reduceMul, implies_true, Nat.reduceEqDiff, reduceIte, Nat.reduceAdd, Nat.reduceBEq, reduceCtorEq, al26, fa26_1, ix24, ix34, ld3, ld4, ld24, ld26, ln24, ms34, st4, st26, big_eq, bne_self_eq_false, beq_self_eq_true, Bool.and_self, cast0, q12.rd 0 rfl, q12.rd 3 rfl, q12.rd 6 rfl, q12.rd 9 rfl]
      refine ⟨by omega, ?_⟩
      rw [Int.toNat_natCast, seenC_flat (g := R1.1.2)]
      refine st_cells q12 fun H13 q13 => ?_
      simp -implicitDefEqProofs only [kz, kk0, kk1, kk2, kk3, ↓two_true, ↓two_false, mkv, aggAt, Nat.reduceLeDiff, Nat.reduceSub, Nat.reduceMul, implies_true, Nat.reduceEqDiff, reduceIte, Nat.reduceAdd, Nat.reduceBEq, reduceCtorEq, al26, fa26_1, ix24, ix34, ld3, ld4, ld24, ld26, ln24, ms34, st4, st26, big_eq, bne_self_eq_false, beq_self_eq_true, Bool.and_self, cast0, q13.rd 0 rfl, q13.rd 1 rfl, q13.rd 4 rfl, q13.rd 7 rfl, q13.rd 10 rfl]
      refine rW_loopQ (σ := Nat) q13 [3, 4, 8, 9, 10] (fun x tm => tm 11 = .int .i64 x ∧ x ≤ da.length) (fun x L => L.set 0 (.own (.box (List.length H12) (seenC R1.1.2 da.length x)))) (fun x => da.length - x) 0 ⟨rfl, Nat.zero_le _⟩ rfl ?_
      rintro i tm1 H14 ⟨lv1, lv2, lv3, lv4, lv5, -⟩ ⟨ki, hi⟩ q14
      simp -implicitDefEqProofs only [kz, kk0, kk1, kk2, kk3, ↓two_true, ↓two_false, mkv, aggAt, Nat.reduceLeDiff, Nat.reduceSub, Nat.reduceMul, implies_true, Nat.reduceEqDiff, reduceIte, Nat.reduceAdd, Nat.reduceBEq, reduceCtorEq, al26, fa26_1, ix24, ix34, ld3, ld4, ld24, ld26, ln24, ms34, st4, st26] at lv1 lv2 lv3 lv4 lv5
      simp only [List.set_cons_zero, List.set_cons_succ] at q14
      have wi : IntKind.i64.wrap ((i : Int) + 1) = ((i + 1 : Nat) : Int) := IntWalk.i64_in ((i : Int) + 1) (by omega)
      simp -implicitDefEqProofs only [kz, kk0, kk1, kk2, kk3, ↓two_true, ↓two_false, mkv, aggAt, Nat.reduceLeDiff, Nat.reduceSub, Nat.reduceMul, implies_true, Nat.reduceEqDiff, reduceIte, Nat.reduceAdd, Nat.reduceBEq, reduceCtorEq, al26, fa26_1, ix24, ix34, ld3, ld4, ld24, ld26, ln24, ms34, st4, st26, big_eq, bne_self_eq_false, beq_self_eq_true, Bool.and_self, cast0, lv1, lv2, lv3, lv4, lv5, ki, wi, q14.rd 0 rfl, q14.rd 1 rfl, q14.rd 4 rfl, q14.rd 7 rfl, q14.rd 10 rfl]
      refine two_intro (fun u3 => ?_) (fun u3 => ?_)
      ·
        have hgl : i < R1.1.2.length := by have h5 := of_decide_eq_true u3; omega
        have hi2 : i < da.length := by omega
        have hgi := hgm _ (List.getElem_mem hgl)
        obtain ⟨m, hm⟩ : ∃ m : Nat, R1.1.2[i] = (m : Int) := ⟨(R1.1.2[i]).toNat, by omega⟩
        have hm2 : m < da.length := by omega
        have hk1 : decide ((m : Int) < 0) = false := decide_eq_false (by omega)
        have hk2 : decide ((m : Int) ≥ (da.length : Int)) = false := decide_eq_false (by omega)
        have hfr : decide ((m : Int) ∈ R1.1.2.take i) = false := decide_eq_false (by rw [← hm]; exact pw_fresh hpw hgl)
        have hcB : (seenC R1.1.2 da.length i)[m]? = some (.bool false) := by rw [seenC_get hm2, hfr]
        have hflB : m + 1 ≤ (seenC R1.1.2 da.length i).length := by simp [seenC]; omega
        have hmap : i < (R1.1.2.map (gD da)).length := by omega
        have hsi : (R1.1.2.map (gD da))[i] = da[m] := by rw [List.getElem_map, hm]; show gx da ((m : Int).toNat) = _; rw [Int.toNat_natCast, ← gx_el hm2]
        obtain ⟨b1, o1, cs1, ei1, fr1, fc1⟩ := ixI (q14.int 9 rfl) (i := i) hgl
        have eB : aIndexAddr Try.prog 34 (.slice (some ⟨(List.length H12), 0, none⟩) da.length 1) (.int .i64 (m : Int)) = some (.pointer (some ⟨(List.length H12), m, none⟩)) := by rw [ix34, if_pos (by omega)]; simp
        obtain ⟨b2, o2, cs2, ei2, fr2, fc2⟩ := ixI (q14.int 3 rfl) (i := i) hmap
        obtain ⟨b3, o3, cs3, ei3, fr3, fc3⟩ := ixI (q14.int 12 rfl) (i := m) hm2
        try simp -implicitDefEqProofs only [kz, kk0, kk1, kk2, kk3, ↓two_true, ↓two_false, mkv, aggAt, Nat.reduceLeDiff, Nat.reduceSub, Nat.reduceMul, implies_true, Nat.reduceEqDiff, reduceIte, Nat.reduceAdd, Nat.reduceBEq, reduceCtorEq, al26, fa26_1, ix24, ix34, ld3, ld4, ld24, ld26, ln24, ms34, st4, st26, big_eq, bne_self_eq_false, beq_self_eq_true, Bool.and_self, cast0, hm, hk1, hk2, hsi, ei1, fr1, fc1, eB, hcB, hflB, ei2, fr2, fc2, ei3, fr3, fc3, lv1, lv2, lv3, lv4, lv5, ki, wi, q14.rd 0 rfl, q14.rd 1 rfl, q14.rd 4 rfl, q14.rd 7 rfl, q14.rd 10 rfl]
        have eB : aIndexAddr Try.prog 34 (.slice (some ⟨(List.length H12), 0, none⟩) da.length 1) (.int .i64 (m : Int)) = some (.pointer (some ⟨(List.length H12), m, none⟩)) := by rw [ix34, if_pos (by omega)]; simp
        try simp -implicitDefEqProofs only [kz, kk0, kk1, kk2, kk3, ↓two_true, ↓two_false, mkv, aggAt, Nat.reduceLeDiff, Nat.reduceSub, Nat.reduceMul, implies_true, Nat.reduceEqDiff, reduceIte, Nat.reduceAdd, Nat.reduceBEq, reduceCtorEq, al26, fa26_1, ix24, ix34, ld3, ld4, ld24, ld26, ln24, ms34, st4, st26, big_eq, bne_self_eq_false, beq_self_eq_true, Bool.and_self, cast0, hm, hk1, hk2, hsi, ei1, fr1, fc1, eB, hcB, hflB, ei2, fr2, fc2, ei3, fr3, fc3, eB, hcB, hflB, lv1, lv2, lv3, lv4, lv5, ki, wi, q14.rd 0 rfl, q14.rd 1 rfl, q14.rd 4 rfl, q14.rd 7 rfl, q14.rd 10 rfl]
        refine st_set q14 0 rfl fun H15 q15 => ?_
        simp only [List.set_cons_zero, List.set_cons_succ] at q15
        rw [seenC_set hm2 hgl hm] at q15
        simp -implicitDefEqProofs only [kz, kk0, kk1, kk2, kk3, ↓two_true, ↓two_false, mkv, aggAt, Nat.reduceLeDiff, Nat.reduceSub, Nat.reduceMul, implies_true, Nat.reduceEqDiff, reduceIte, Nat.reduceAdd, Nat.reduceBEq, reduceCtorEq, al26, fa26_1, ix24, ix34, ld3, ld4, ld24, ld26, ln24, ms34, st4, st26, big_eq, bne_self_eq_false, beq_self_eq_true, Bool.and_self, cast0, hm, hk1, hk2, hsi, lv1, lv2, lv3, lv4, lv5, ki, wi, q15.rd 0 rfl, q15.rd 1 rfl, q15.rd 4 rfl, q15.rd 7 rfl, q15.rd 10 rfl]
        refine two_intro (fun u4 => ?_) (fun u4 => ?_)
        ·
          have hi0 : 0 < i := by have h5 := of_decide_eq_true u4; omega
          have wi1 : IntKind.i64.wrap ((i : Int) - 1) = ((i - 1 : Nat) : Int) := by rw [IntWalk.i64_in _ (by omega)]; omega
          have hgl1 : i - 1 < R1.1.2.length := by omega
          have hmap1 : i - 1 < (R1.1.2.map (gD da)).length := by omega
          have hslt := List.pairwise_iff_getElem.1 hpw (i - 1) i hgl1 hgl (by omega)
          have hDi : gD da R1.1.2[i] = da[m] := by rw [← hsi, List.getElem_map]
          have hsi1 : (R1.1.2.map (gD da))[i - 1] = gD da R1.1.2[i - 1] := List.getElem_map ..
          have hb10 : decide ((R1.1.2.map (gD da))[i - 1] > da[m]) = false := decide_eq_false (by rw [hsi1, ← hDi]; have := slt_le hslt; omega)
          obtain ⟨b4, o4, cs4, ei4, fr4, fc4⟩ := ixI (q15.int 3 rfl) (i := (i - 1)) hmap1
          obtain ⟨b5, o5, cs5, ei5, fr5, fc5⟩ := ixI (q15.int 3 rfl) (i := i) hmap
          obtain ⟨b6, o6, cs6, ei6, fr6, fc6⟩ := ixI (q15.int 3 rfl) (i := (i - 1)) hmap1
          obtain ⟨b7, o7, cs7, ei7, fr7, fc7⟩ := ixI (q15.int 3 rfl) (i := i) hmap
          try simp -implicitDefEqProofs only [kz, kk0, kk1, kk2, kk3, ↓two_true, ↓two_false, mkv, aggAt, Nat.reduceLeDiff, Nat.reduceSub, Nat.reduceMul, implies_true, Nat.reduceEqDiff, reduceIte, Nat.reduceAdd, Nat.reduceBEq, reduceCtorEq, al26, fa26_1, ix24, ix34, ld3, ld4, ld24, ld26, ln24, ms34, st4, st26, big_eq, bne_self_eq_false, beq_self_eq_true, Bool.and_self, cast0, hm, hk1, hk2, hsi, wi1, hb10, ei4, fr4, fc4, ei5, fr5, fc5, ei6, fr6, fc6, ei7, fr7, fc7, lv1, lv2, lv3, lv4, lv5, ki, wi, q15.rd 0 rfl, q15.rd 1 rfl, q15.rd 4 rfl, q15.rd 7 rfl, q15.rd 10 rfl]
          refine two_intro (fun u5 => ?_) (fun u5 => ?_)
          ·
            have hb14 : decide (R1.1.2[i - 1] > (m : Int)) = false := decide_eq_false (by
              have h5 : (R1.1.2.map (gD da))[i - 1] = da[m] := by simpa using u5
              rw [hsi1, ← hDi] at h5
              unfold slt at hslt
              rw [hm] at hslt h5
              omega)
            obtain ⟨b8, o8, cs8, ei8, fr8, fc8⟩ := ixI (q15.int 9 rfl) (i := (i - 1)) hgl1
            try simp -implicitDefEqProofs only [kz, kk0, kk1, kk2, kk3, ↓two_true, ↓two_false, mkv, aggAt, Nat.reduceLeDiff, Nat.reduceSub, Nat.reduceMul, implies_true, Nat.reduceEqDiff, reduceIte, Nat.reduceAdd, Nat.reduceBEq, reduceCtorEq, al26, fa26_1, ix24, ix34, ld3, ld4, ld24, ld26, ln24, ms34, st4, st26, big_eq, bne_self_eq_false, beq_self_eq_true, Bool.and_self, cast0, hm, hk1, hk2, hsi, wi1, hb10, hb14, ei4, fr4, fc4, ei5, fr5, fc5, ei6, fr6, fc6, ei7, fr7, fc7, ei8, fr8, fc8, lv1, lv2, lv3, lv4, lv5, ki, wi, q15.rd 0 rfl, q15.rd 1 rfl, q15.rd 4 rfl, q15.rd 7 rfl, q15.rd 10 rfl]
            try simp -implicitDefEqProofs only [kz, kk0, kk1, kk2, kk3, ↓two_true, ↓two_false, mkv, aggAt, Nat.reduceLeDiff, Nat.reduceSub, Nat.reduceMul, implies_true, Nat.reduceEqDiff, reduceIte, Nat.reduceAdd, Nat.reduceBEq, reduceCtorEq, al26, fa26_1, ix24, ix34, ld3, ld4, ld24, ld26, ln24, ms34, st4, st26, big_eq, bne_self_eq_false, beq_self_eq_true, Bool.and_self, cast0, hm, hk1, hk2, hsi, wi1, hb10, hb14, ei4, fr4, fc4, ei5, fr5, fc5, ei6, fr6, fc6, ei7, fr7, fc7, ei8, fr8, fc8, lv1, lv2, lv3, lv4, lv5, ki, wi, q15.rd 0 rfl, q15.rd 1 rfl, q15.rd 4 rfl, q15.rd 7 rfl, q15.rd 10 rfl]
            -- back loop1
            refine ⟨i + 1, (by omega), ⟨rfl, rfl, rfl, rfl, rfl, trivial⟩, ⟨by first | rfl | simp, by omega⟩, ?_⟩
            try simp only [List.set_cons_zero, List.set_cons_succ]
            exact q15
          ·
            try simp -implicitDefEqProofs only [kz, kk0, kk1, kk2, kk3, ↓two_true, ↓two_false, mkv, aggAt, Nat.reduceLeDiff, Nat.reduceSub, Nat.reduceMul, implies_true, Nat.reduceEqDiff, reduceIte, Nat.reduceAdd, Nat.reduceBEq, reduceCtorEq, al26, fa26_1, ix24, ix34, ld3, ld4, ld24, ld26, ln24, ms34, st4, st26, big_eq, bne_self_eq_false, beq_self_eq_true, Bool.and_self, cast0, hm, hk1, hk2, hsi, wi1, hb10, ei4, fr4, fc4, ei5, fr5, fc5, ei6, fr6, fc6, ei7, fr7, fc7, lv1, lv2, lv3, lv4, lv5, ki, wi, q15.rd 0 rfl, q15.rd 1 rfl, q15.rd 4 rfl, q15.rd 7 rfl, q15.rd 10 rfl]
            try simp -implicitDefEqProofs only [kz, kk0, kk1, kk2, kk3, ↓two_true, ↓two_false, mkv, aggAt, Nat.reduceLeDiff, Nat.reduceSub, Nat.reduceMul, implies_true, Nat.reduceEqDiff, reduceIte, Nat.reduceAdd, Nat.reduceBEq, reduceCtorEq, al26, fa26_1, ix24, ix34, ld3, ld4, ld24, ld26, ln24, ms34, st4, st26, big_eq, bne_self_eq_false, beq_self_eq_true, Bool.and_self, cast0, hm, hk1, hk2, hsi, wi1, hb10, ei4, fr4, fc4, ei5, fr5, fc5, ei6, fr6, fc6, ei7, fr7, fc7, lv1, lv2, lv3, lv4, lv5, ki, wi, q15.rd 0 rfl, q15.rd 1 rfl, q15.rd 4 rfl, q15.rd 7 rfl, q15.rd 10 rfl]
            -- back loop1
            refine ⟨i + 1, (by omega), ⟨rfl, rfl, rfl, rfl, rfl, trivial⟩, ⟨by first | rfl | simp, by omega⟩, ?_⟩
            try simp only [List.set_cons_zero, List.set_cons_succ]
            exact q15
        ·
          try simp -implicitDefEqProofs only [kz, kk0, kk1, kk2, kk3, ↓two_true, ↓two_false, mkv, aggAt, Nat.reduceLeDiff, Nat.reduceSub, Nat.reduceMul, implies_true, Nat.reduceEqDiff, reduceIte, Nat.reduceAdd, Nat.reduceBEq, reduceCtorEq, al26, fa26_1, ix24, ix34, ld3, ld4, ld24, ld26, ln24, ms34, st4, st26, big_eq, bne_self_eq_false, beq_self_eq_true, Bool.and_self, cast0, hm, hk1, hk2, hsi, lv1, lv2, lv3, lv4, lv5, ki, wi, q15.rd 0 rfl, q15.rd 1 rfl, q15.rd 4 rfl, q15.rd 7 rfl, q15.rd 10 rfl]
          try simp -implicitDefEqProofs only [kz, kk0, kk1, kk2, kk3, ↓two_true, ↓two_false, mkv, aggAt, Nat.reduceLeDiff, Nat.reduceSub, Nat.reduceMul, implies_true, Nat.reduceEqDiff, reduceIte, Nat.reduceAdd, Nat.reduceBEq, reduceCtorEq, al26, fa26_1, ix24, ix34, ld3, ld4, ld24, ld26, ln24, ms34, st4, st26, big_eq, bne_self_eq_false, beq_self_eq_true, Bool.and_self, cast0, hm, hk1, hk2, hsi, lv1, lv2, lv3, lv4, lv5, ki, wi, q15.rd 0 rfl, q15.rd 1 rfl, q15.rd 4 rfl, q15.rd 7 rfl, q15.rd 10 rfl]
          -- back loop1
          refine ⟨i + 1, (by omega), ⟨rfl, rfl, rfl, rfl, rfl, trivial⟩, ⟨by first | rfl | simp, by omega⟩, ?_⟩
          try simp only [List.set_cons_zero, List.set_cons_succ]
          exact q15
      ·
        have hil : i = da.length := by have h5 := of_decide_eq_false u3; omega
        try simp -implicitDefEqProofs only [kz, kk0, kk1, kk2, kk3, ↓two_true, ↓two_false, mkv, aggAt, Nat.reduceLeDiff, Nat.reduceSub, Nat.reduceMul, implies_true, Nat.reduceEqDiff, reduceIte, Nat.reduceAdd, Nat.reduceBEq, reduceCtorEq, al26, fa26_1, ix24, ix34, ld3, ld4, ld24, ld26, ln24, ms34, st4, st26, big_eq, bne_self_eq_false, beq_self_eq_true, Bool.and_self, cast0, lv1, lv2, lv3, lv4, lv5, ki, wi, q14.rd 0 rfl, q14.rd 1 rfl, q14.rd 4 rfl, q14.rd 7 rfl, q14.rd 10 rfl]
        -- end3
        all_goals first | (rw [hRn]; rfl) | (simp; done) | (simp [hRn]; done) | (simp [hRd]; done)

end Go.Proofs.Ytpclegiocblpmaa.AM
